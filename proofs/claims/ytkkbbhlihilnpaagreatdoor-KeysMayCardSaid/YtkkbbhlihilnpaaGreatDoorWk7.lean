import Derived.Test.YtkkbbhlihilnpaaGreatDoorWk6
set_option linter.all false
set_option maxHeartbeats 8000000
set_option maxRecDepth 100000
namespace Go.Proofs.YtkkbbhlihilnpaaGreatDoor
open Go.RowKit
theorem now_at (k : List UInt8) (v : Value) : ∀ (es : List MapEntry) (R : List (List UInt8 × Value)) (i : Nat), es.map (fun e => (e.key, e.val)) = R.map (fun x => (strV x.1, x.2)) → look R k = some v →
  ∃ j e, Instr.findNow .string (strV k) es i = some (some (i + j, v)) ∧ es[j]? = some e ∧ e.key = strV k ∧ e.val = v
 | [], [], i, _, hl => by cases hl
 | [], _ :: _, i, h, _ => by simp at h
 | _ :: _, [], i, h, _ => by simp at h
 | e :: es, x :: R, i, h, hl => by
  simp only [List.map_cons, List.cons.injEq, Prod.mk.injEq] at h
  rw [look] at hl
  simp only [Instr.findNow, h.1.1, now_str]
  by_cases hx : k = x.1
  ·rw [if_pos hx] at hl
   cases hl
   simp only [hx, decide_true]
   exact ⟨0, e, by rw [h.1.2]; rfl, rfl, h.1.1, h.1.2⟩
  ·rw [if_neg hx] at hl
   obtain ⟨j, e', hr, h1, h2, h3⟩ := now_at k v es R (i + 1) h.2 hl
   simp only [hx, decide_false]
   exact ⟨j + 1, e', by rw [hr, show i + 1 + j = i + (j + 1) by omega], by simpa using h1, h2, h3⟩
theorem setT_again {w : World} {m : Nat} {xs : List (List UInt8)} (h : SetT w m xs) (x : List UInt8) (hn : x ∈ xs) :
  ∃ W, (Instr.mapUpdate 71 (.map (some m)) (.string ⟨x.toArray⟩) (.agg #[])).run Tryz.prog w = .ok () W ∧ SetT W m xs ∧ w.grownBy W (some m) := by
 obtain ⟨es, c, h0⟩ := h
 obtain ⟨h1, h2, h3⟩ := id h0
 have hl : look (xs.map fun x => (x, Value.agg #[])) x = some (.agg #[]) := by
  rw [look_map, if_pos hn]
 obtain ⟨es⟩ := es
 unfold MapR at h2
 dsimp only at h2 h3
 obtain ⟨j, e, hr0, g1, g2, g3⟩ := now_at x (.agg #[]) es _ 0 h2 hl
 rw [Nat.zero_add] at hr0
 have hr : (Instr.findKey 9 (strV x) es).run Tryz.prog w = .ok (some (j, .agg #[])) w := by
  unfold Instr.findKey
  simp only [Sem.run_bind, run_underlying Tryz.underlying9, Result.andThen_ok, hr0]
  rfl
 have hkeep : Instr.sameBits 10000 (strV x) (strV x) = true := by
  unfold strV
  simp [Instr.sameBits]
  exact ba_self _
 refine ⟨World.setMap w m (Array.modify ⟨es⟩ j fun e => { e with key := strV x, val := .agg #[] }) c, ?_, ⟨_, c, setMap_heap (Array.getElem?_eq_some_iff.1 h1).1, ?_, ?_⟩, setMap_grown _ _ _ _⟩
 ·show (Instr.mapUpdate 71 (.map (some m)) (strV x) (.agg #[])).run Tryz.prog w = _
  unfold Instr.mapUpdate
  simp only [Sem.run_bind, run_underlying Tryz.underlying71, Result.andThen_ok]
  have hes : ((⟨es⟩ : Array MapEntry)[j]?).map (·.key) = some (strV x) := by
   rw [List.getElem?_toArray, g1, Option.map_some, g2]
  simp only [getObj, Sem.run, Sem.run_bind, h1, Result.andThen_ok, check_str, hr, setObj, World.setMap, hes, Option.getD_some, Instr.keyThatStays, hkeep, if_true, pure, Sem.run_pure]
  try rfl
 ·unfold MapR
  rw [modify_same (fun e' he' => ?_)]
  ·exact h2
  ·have he : e' = e := by
    have : es[j]? = some e' := he'
    rw [g1] at this
    exact (Option.some.inj this).symm
   subst he
   simp [g2, g3]
 ·intro e' he'
  rw [Array.toList_modify] at he'
  obtain ⟨i, hi, rfl⟩ := List.getElem_of_mem he'
  rw [List.length_modify] at hi
  rw [List.getElem_modify]
  have hb := h3 _ (List.getElem_mem hi)
  split
  ·exact hb
  ·exact hb
theorem Key.eval_congr {a b : List (List UInt8)} (h : ∀ y, y ∈ a ↔ y ∈ b) : ∀ f, Key.eval a f = Key.eval b f
 | 0 => rfl
 | f + 1 => by
  funext p
  cases p with
  | nil => rfl
  | cons x t =>
   rw [Key.eval, Key.eval, Key.eval_congr h f]
   simp only [h x.key]
set_option maxRecDepth 100000 in
theorem mayKeys_c (p : List Key.PlanE) (xs : List (List UInt8)) (v vh : Value) (w : World) (hp : PlanS w v p) (hl : p.length ≤ 1000) (hv : TextsA w vh xs) (hxl : xs.length ≤ 1000000) :
  Calls Tryz.prog 12 #[v, vh] w fun e w' => e = .returned (.bool (Key.mayP p xs)) ∧ Below w.heap.size w w' := by
 have HV := Lib.hid (valid14_c p v w hl hp)
 obtain ⟨R, hR⟩ : ∃ R, Key.mayP p xs = R := ⟨_, rfl⟩
 rw [hR]
 unfold Key.mayP at hR
 have HP := Lib.hid hp
 have HR := Lib.hid hR
 obtain ⟨Ah, ch, rfl, hch, hcell⟩ := hv.at
 have HX := Lib.hid hcell
 obtain ⟨A, c, rfl, hc⟩ := hp.isSlice
 have hmm := @run_makeMap Tryz.prog
 clear hR hp hv hcell
 cases hval : Key.validB p
 ·rw [hval] at HV HR
  have hR2 : R = false := HR.out.symm
  subst hR2
  go_enter Tryz.func12, Tryz.ntmps12
  go_wp2_with (go_at_call 10; (with_reducible refine HV.out.mono ?_); rintro e w2 ⟨rfl, hb2⟩)
  go_ret
  exact ⟨rfl, hb2⟩
 ·rw [hval] at HV HR
  have hR2 : R = (Key.eval xs p.length p).1 := HR.out.symm
  have HR2 := Lib.hid hR2
  have HVL := Lib.hid (Key.validB_eq hval)
  clear HR hR2 hval
  go_enter Tryz.func12, Tryz.ntmps12
  go_wp2_with (go_at_call 10; (with_reducible refine HV.out.mono ?_); rintro e w2 ⟨rfl, hb2⟩)
  have hs0 := SetT.made w2
  have hb3 := hb2.trans ((bel_one w2 (.map #[] 0)).mono hb2.size)
  have hms : w.heap.size ≤ w2.heap.size := hb2.size
  generalize w2.heap.size = m at *
  go_loopg [16] xs.length (fun gk i wr => ∃ (k : Nat) (acc : List (List UInt8)), k ≤ xs.length ∧ i = .int .i64 (k : Int) ∧ Aside (k + gk = xs.length) ∧ Aside (SetT wr m acc ∧ ∀ y, y ∈ acc ↔ y ∈ xs.take k) ∧ Aside (Below w.heap.size w wr))
  case atStart => exact ⟨0, [], by omega, rfl, by show _ = _; omega, ⟨hs0, fun y => by simp⟩, hb3⟩
  case round =>
   clear hs0 hb3
   obtain ⟨k, acc, hk, rfl, AG, AS, AB⟩ := hrel
   by_cases hlt : k < xs.length
   ·obtain ⟨q, rfl⟩ : ∃ q, gk = q + 1 := ⟨gk - 1, by have := AG.out; omega⟩
    obtain ⟨a, rfl, c0⟩ := HX.out k hlt
    have d0 := (AB.out.cell (cell_lt c0)).trans c0
    have hput : ∃ W acc', (Instr.mapUpdate 71 (.map (some m)) (.string ⟨(xs[k]).toArray⟩) (.agg #[])).run Tryz.prog wr = .ok () W ∧ (SetT W m acc' ∧ ∀ y, y ∈ acc' ↔ y ∈ xs.take (k + 1)) ∧ wr.grownBy W (some m) := by
     have htk : xs.take (k + 1) = xs.take k ++ [xs[k]] := List.take_succ_eq_append_getElem hlt
     by_cases hin : xs[k] ∈ acc
     ·obtain ⟨W, h1, h2, h3⟩ := setT_again AS.out.1 xs[k] hin
      refine ⟨W, acc, h1, ⟨h2, fun y => ?_⟩, h3⟩
      rw [htk, List.mem_append, List.mem_singleton, AS.out.2 y]
      constructor
      ·exact .inl
      ·rintro (h | rfl)
       ·exact h
       ·exact (AS.out.2 _).1 hin
     ·obtain ⟨W, h1, h2, h3⟩ := setT_put AS.out.1 xs[k] (by cases hcn : acc.contains xs[k] with | false => rfl | true => exact absurd (List.contains_iff_mem.1 hcn) hin)
      refine ⟨W, acc ++ [xs[k]], h1, ⟨h2, fun y => ?_⟩, h3⟩
      rw [htk, List.mem_append, List.mem_append, AS.out.2 y]
    obtain ⟨W1, acc', hup, hS, hg⟩ := hput
    have HS := Lib.hid hS
    have hB1 := AB.out.grown hg AB.out.size (fun k hk => by cases hk; exact hms)
    clear hS hg c0
    generalize xs[k] = x at *
    go_wp2_with fail
    go_roundg q
    case measure => omega
    case rel => exact ⟨k + 1, acc', by omega, by go_num, by have := AG.out; show _ = _; omega, HS.out, hB1⟩
   ·obtain rfl : k = xs.length := by omega
    have hmem := AS.out.2
    rw [List.take_length] at hmem
    have HM := Lib.hid (may14_c wr m acc AS.out.1 p.length p [] (.slice A p.length c) wr HVL.out hl (Below.refl _ _) (HP.out.below AB.out))
    rw [Key.eval_congr hmem, ← HR2.out] at HM
    go_wp2_with (go_at_call 32; (with_reducible refine HM.out.mono ?_); rintro e w4 ⟨hb4, v4, rfl, _⟩)
    go_ret
    exact ⟨rfl, AB.out.trans (hb4.mono AB.out.size)⟩
open Go.RowKit
set_option maxRecDepth 100000 in
theorem rMayKeys_c (p : List Key.PlanE) (xs : List (List UInt8)) (v vh : Value) (w : World) (hp : PlanS w v p) (hl : p.length ≤ 1000) (hv : TextsA w vh xs) (hxl : xs.length ≤ 1000000) :
  Calls Tryz.prog 13 #[v, vh] w fun e w' => e = .returned (.bool (Key.mayP p xs)) ∧ Below w.heap.size w w' := by
 have HV := Lib.hid (rValid14_c p v w hl hp)
 obtain ⟨R, hR⟩ : ∃ R, Key.mayP p xs = R := ⟨_, rfl⟩
 rw [hR]
 unfold Key.mayP at hR
 have HC : Hid (Key.validB p = true → ∀ W, Below w.heap.size w W → Calls Tryz.prog 33 #[v, vh] W fun e w' => e = .returned (.bool (Key.eval xs p.length p).1) ∧ Below W.heap.size W w') := Lib.hid fun h W hb => rMay14_c w vh xs hv hxl p.length p v W (Key.validB_eq h) (Nat.le_refl _) hl hb hp
 have HR := Lib.hid hR
 obtain ⟨Ah, ch, rfl, hch, _⟩ := hv.at
 obtain ⟨A, c, rfl, hc⟩ := hp.isSlice
 clear hR hp hv
 cases hval : Key.validB p
 ·rw [hval] at HV HR
  have hR2 : R = false := HR.out.symm
  subst hR2
  go_enter Tryz.func13, Tryz.ntmps13
  go_wp2_with (go_at_call 11; (with_reducible refine HV.out.mono ?_); rintro e w2 ⟨rfl, hb2⟩)
  go_ret
  exact ⟨rfl, hb2⟩
 ·rw [hval] at HV HR
  have hR2 : R = (Key.eval xs p.length p).1 := HR.out.symm
  have HC2 := Lib.hid (HC.out hval)
  rw [← hR2] at HC2
  clear HR hR2 hval HC
  go_enter Tryz.func13, Tryz.ntmps13
  go_wp2_with (first | (go_at_call 11; (with_reducible refine HV.out.mono ?_); rintro e w2 ⟨rfl, hb2⟩) | (go_at_call 33; (with_reducible refine (HC2.out _ hb2).mono ?_); rintro e w4 ⟨rfl, hb4⟩))
  go_ret
  exact ⟨rfl, hb2.trans (hb4.mono hb2.size)⟩
open Go.RowKit
set_option maxRecDepth 100000 in
theorem sameTexts_c (xs : List (List UInt8)) (v1 v2 : Value) (w : World) (hv1 : TextsA w v1 xs) (hv2 : TextsA w v2 xs) (hl : xs.length ≤ 4611686018427387904) :
  Calls Tryz.prog 34 #[v1, v2] w fun e w' => e = .returned (.bool true) ∧ Below w.heap.size w w' := by
 obtain ⟨A1, c1, rfl, hc1, hx1⟩ := hv1.at
 obtain ⟨A2, c2, rfl, hc2, hx2⟩ := hv2.at
 have H1 := Lib.hid hx1
 have H2 := Lib.hid hx2
 clear hx1 hx2 hv1 hv2
 have hself : ((xs.length : Int) != (xs.length : Int)) = false := by simp
 go_enter Tryz.func34, Tryz.ntmps34
 go_wp2_with fail
 go_loopg [5] xs.length (fun gk i wr => ∃ k : Nat, k ≤ xs.length ∧ i = .int .i64 k ∧ Aside (k + gk = xs.length) ∧ Below w.heap.size w wr)
 case atStart => exact ⟨0, by omega, rfl, by show _ = _; omega, Below.refl _ _⟩
 case round =>
  obtain ⟨k, hk, rfl, AG, hB⟩ := hrel
  by_cases hlt : k < xs.length
  ·obtain ⟨gq, rfl⟩ : ∃ q, gk = q + 1 := ⟨gk - 1, by have := AG.out; omega⟩
   obtain ⟨p1, rfl, c1⟩ := H1.out k hlt
   obtain ⟨p2, rfl, c2⟩ := H2.out k hlt
   have d1 := (hB.cell (cell_lt c1)).trans c1
   have d2 := (hB.cell (cell_lt c2)).trans c2
   have hki : (k : Int) < (xs.length : Int) := by omega
   clear c1 c2
   generalize xs[k] = t at d1 d2
   go_wp2_with fail
   go_quiet (fail)
   go_wp2_with fail
   go_roundg gq
   case measure => omega
   case rel => exact ⟨k + 1, by omega, by go_num, by have := AG.out; show _ = _; omega, below_drewN hB nq⟩
  ·obtain rfl : k = xs.length := by omega
   go_wp2_with fail
   go_ret
   exact ⟨rfl, hB⟩
open Go.RowKit
theorem neq_plan (W : World) (x y : Int) (k : List UInt8) : (binOp .neq 26 (.agg #[.int .i64 x, .int .i64 y, .string ⟨k.toArray⟩]) (.agg #[.int .i64 x, .int .i64 y, .string ⟨k.toArray⟩])).run Tryz.prog W = .ok (.bool false) W := by
 have u9 := Tryz.underlying9
 have a9 := Tryz.isAgg9
 have z9 := Tryz.sizeOf9
 have u3 := Tryz.underlying3
 have a3 := Tryz.isAgg3
 have z3 := Tryz.sizeOf3
 have hS : Tryz.prog.underlying 26 = some (.struct (Tryz.prog.fieldsOf 26)) := by kernel_rfl
 have hp : Tryz.prog.stoodInHeld 26 = false := by kernel_rfl
 rw [run_neq_struct, show (10000 : Nat) = 9999 + 1 from rfl, run_equalIn_agg W 9999 26 _ _ hS hp]
 simp only [Program.fieldsOf, Tryz.underlying26]
 go_simp
set_option maxRecDepth 100000 in
theorem same14_c (p : List Key.PlanE) (v1 v2 : Value) (w : World) (hv1 : PlanS w v1 p) (hv2 : PlanS w v2 p) (hl : p.length ≤ 1000) :
  Calls Tryz.prog 14 #[v1, v2] w fun e w' => e = .returned (.bool true) ∧ Below w.heap.size w w' := by
 obtain ⟨A1, c1, rfl, hc1, hx1⟩ := hv1
 obtain ⟨A2, c2, rfl, hc2, hx2⟩ := hv2
 have H1 := Lib.hid hx1
 have H2 := Lib.hid hx2
 clear hx1 hx2
 have hself : ((p.length : Int) != (p.length : Int)) = false := by simp
 have hadd := add_at2
 go_enter Tryz.func14, Tryz.ntmps14
 go_wp2_with fail
 go_loopg [5] p.length (fun gk i wr => ∃ k : Nat, k ≤ p.length ∧ i = .int .i64 k ∧ Aside (k + gk = p.length) ∧ Below w.heap.size w wr)
 case atStart => exact ⟨0, by omega, rfl, by show _ = _; omega, Below.refl _ _⟩
 case round =>
  obtain ⟨k, hk, rfl, AG, hB⟩ := hrel
  by_cases hlt : k < p.length
  ·obtain ⟨gq, rfl⟩ : ∃ q, gk = q + 1 := ⟨gk - 1, by have := AG.out; omega⟩
   obtain ⟨b1, o1, rfl, c0, c1, c2⟩ := H1.out k hlt
   obtain ⟨b2, o2, rfl, e0, e1, e2⟩ := H2.out k hlt
   have d0 := (hB.cell (cell_lt c0)).trans c0
   have d1 := (hB.cell (cell_lt c1)).trans c1
   have d2 := (hB.cell (cell_lt c2)).trans c2
   have f0 := (hB.cell (cell_lt e0)).trans e0
   have f1 := (hB.cell (cell_lt e1)).trans e1
   have f2 := (hB.cell (cell_lt e2)).trans e2
   have hki : (k : Int) < (p.length : Int) := by omega
   have hne := fun W => neq_plan W p[k].op p[k].n p[k].key
   clear c0 c1 c2 e0 e1 e2
   generalize p[k] = x at d0 d1 d2 f0 f1 f2 hne
   obtain ⟨op, n, key⟩ := x
   simp only at d0 d1 d2 f0 f1 f2 hne
   go_wp2_with fail
   go_quiet (fail)
   go_wp2_with fail
   go_roundg gq
   case measure => omega
   case rel => exact ⟨k + 1, by omega, by go_num, by have := AG.out; show _ = _; omega, below_drewN hB nq⟩
  ·obtain rfl : k = p.length := by omega
   go_wp2_with fail
   go_ret
   exact ⟨rfl, hB⟩
open Go.RowKit
theorem size_text : ∀ w, (sizeOf 9).run Tryz.prog w = .ok 1 w := fun w => by kernel_rfl
theorem add_none (a : Addr) : a.add 0 = a := by
 cases a
 simp [Addr.add]
theorem slice_upA (a : Addr) (n c k : Nat) (hk : k ≤ c) (w : World) :
  (Instr.slice 23 (.slice (some a) n c) none (some (.int .i64 (k : Int))) none).run Tryz.prog w = .ok (.slice (some a) k c) w := by
 have h1 : (Instr.sliceBounds true n c none (some (.int .i64 k)) none).run Tryz.prog w = .ok (0, k, c) w := by
  simp [Instr.sliceBounds, run_sliceBound, hk]
 unfold Instr.slice
 simp only [Sem.run_bind, run_underlying Tryz.underlying23, Result.andThen_ok, h1, size_text, Sem.run_pure]
 simp [add_none]
set_option maxRecDepth 100000 in
theorem staysTexts_c (xs : List (List UInt8)) (A : Option Addr) (c : Nat) (v2 : Value) (w : World) (hn : xs.length + 2 ≤ c) (hv1 : TextsA w (.slice A (xs.length + 2) c) (xs ++ [[109, 97, 114, 107], [77, 97, 114, 107]])) (hv2 : TextsA w v2 xs) (hv0 : TextsA w (.slice A xs.length c) xs) (hl : xs.length ≤ 1000000) :
  Calls Tryz.prog 15 #[.slice A xs.length c, v2] w fun e w' => e = .returned (.bool true) ∧ Below w.heap.size w w' := by
 have HS := Lib.hid (sameTexts_c xs _ v2 w hv0 hv2 (by omega))
 obtain ⟨A2, c2, rfl, _, _⟩ := hv2.at
 obtain ⟨A', c', he, _, hx⟩ := hv1.at
 have e1 : A' = A := by injection he with h _ _; exact h.symm
 subst e1
 obtain ⟨a, rfl, k0⟩ := hx xs.length (by simp)
 obtain ⟨a', ha, k1⟩ := hx (xs.length + 1) (by simp)
 cases ha
 have hs := slice_upA a xs.length c (xs.length + 2) hn
 rw [show ((xs.length + 2 : Nat) : Int) = (xs.length : Int) + 2 by omega] at hs
 have d0 : w.cell? (a.add xs.length) = some (.string ⟨#[109, 97, 114, 107]⟩) := by simpa using k0
 have d1 : w.cell? (a.add (xs.length + 1)) = some (.string ⟨#[77, 97, 114, 107]⟩) := by simpa using k1
 have d2 : w.cell? ⟨a.block, a.off + (xs.length + 1), none⟩ = some (.string ⟨#[77, 97, 114, 107]⟩) := by simpa [Addr.add] using d1
 clear he hx k0 k1 hv0 hv1 hv2
 go_enter Tryz.func15, Tryz.ntmps15
 go_wp2_with (go_at_call 34; (with_reducible refine HS.out.mono ?_); rintro e w2 ⟨rfl, hb2⟩; have x0 := (hb2.cell (cell_lt d0)).trans d0; have x1 := (hb2.cell (cell_lt d1)).trans d1; have x2 := (hb2.cell (cell_lt d2)).trans d2)
 go_ret
 exact ⟨rfl, hb2⟩
end Go.Proofs.YtkkbbhlihilnpaaGreatDoor
