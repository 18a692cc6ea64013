/- A configuration and texts of an argument, opened: what they hold, and how much of the bulk they take. (gen_confarg.py) -/
import Derived.SizedLaws
import Derived.Carry
import Derived.SliceStrings
import Derived.Deep.Slices
import Derived.Deep.Strs
import Derived.Test.YtakfpngfpknedaaGreatDoorCd4
import Derived.Test.YtakfpngfpknedaaGreatDoorCd3
import Derived.Stop.LaidErr
set_option linter.all false
set_option maxHeartbeats 8000000
set_option maxRecDepth 100000
namespace Go.Proofs.YtakfpngfpknedaaGreatDoor
open Go.ChangeShapes Go.WideShapes Go.ChangeAt Go.RowKit Go.Lib Go.Shelf Go.Deep Go.Joins
theorem bulkAll_strs {H : Type} : ∀ (ss : List ByteArray), Rows.uptoBulkAll (strs (H := H) ss) = ss.length + ((ss.map fun s => s.data.toList).map List.length).sum
  | [] => rfl
  | s :: ss => by
    have ih := bulkAll_strs (H := H) ss
    have e : strs (H := H) (s :: ss) = DataW.lit (.string s.data.toList) :: strs ss := rfl
    rw [e]
    simp only [Rows.uptoBulkAll, Rows.uptoBulk, ih, List.map_cons, List.sum_cons, List.length_cons]
    omega
theorem texts_row {W : World} {a : Addr} {len cap : Nat} {ss : List ByteArray} (hl : len ≤ cap) (hz : ss.length = cap) (hcell : ∀ i, i < ss.length → W.cell? (a.add i) = some (.string (ss.getD i ByteArray.empty))) :
    TextsA W (.slice (some a) len cap) ((ss.take len).map fun s => s.data.toList) := by
  have hlen : ((ss.take len).map fun s => s.data.toList).length = len := by simp; omega
  refine .inr ⟨a, cap, by rw [hlen], by omega, fun j hj => ?_⟩
  have hj' : j < len := by omega
  rw [hcell j (by omega)]
  congr 2
  simp only [List.getElem_map, List.getElem_take]
  rw [List.getD_eq_getElem?_getD, List.getElem?_eq_getElem (by omega)]
  rfl
section
variable {H : Type} {enc : TypeId × Value → H} {W : World} {base : Nat} {fuel : Nat} {cs : List Value} {x : DataW H × List MemPlace}
theorem texts_opened (h : DataW.trod enc Tryz.prog W base (fun _ => true) true fuel 22 cs = some x) : ∃ v xs, cs = [v] ∧ TextsA W v xs ∧ xs.length + (xs.map List.length).sum + 1 ≤ Rows.uptoBulk x.1 := by
  rcases open_strings Tryz.underlying22 Tryz.underlying9 (by kernel_rfl) h with ⟨rfl, rfl⟩ | ⟨a, len', cap', ss, rfl, _, hl, hm, hz, rfl, hcell, hsz⟩
  · exact ⟨_, [], rfl, .inl ⟨rfl, rfl⟩, by simp [Rows.uptoBulk]⟩
  · simp only [if_true] at hz
    refine ⟨_, _, rfl, texts_row hl hz hcell, ?_⟩
    simp only [Rows.uptoBulk, bulkAll_strs, List.length_map]
    omega
theorem bulkAll_range (D : Nat → DataW H) (f : Nat → Nat) : ∀ (l : List Nat), (∀ i ∈ l, f i ≤ Rows.uptoBulk (D i)) → (l.map f).sum ≤ Rows.uptoBulkAll (l.map D)
  | [], _ => by simp
  | i :: l, h => by
    have ih := bulkAll_range D f l (fun j hj => h j (List.mem_cons_of_mem _ hj))
    have h0 := h i (List.mem_cons_self ..)
    simp only [List.map_cons, List.sum_cons, Rows.uptoBulkAll]
    omega
theorem list4 {α : Type} {l : List α} (h : l.length = 4) : ∃ a b c d, l = [a, b, c, d] := by
  match l, h with
  | [a, b, c, d], _ => exact ⟨a, b, c, d, rfl⟩
instance : Inhabited Cfg.IndexE := ⟨⟨[], false, false, false⟩⟩
theorem idxs_open (h : DataW.trod enc Tryz.prog W base (fun _ => true) true fuel 23 cs = some x) : ∃ v xs, cs = [v] ∧ IdxW W v xs ∧ (xs.map fun i => 1 + i.typ.length).sum + 1 ≤ Rows.uptoBulk x.1 := by
  rcases open_slice Tryz.underlying23 h with ⟨rfl, rfl⟩ | ⟨a, len, cap, m, n, D, Pl, rfl, hb, hl, hm, hmm, rfl, hx⟩
  · exact ⟨_, [], rfl, ⟨none, 0, rfl, Nat.le_refl _, fun j hj => absurd hj (by simp)⟩, by simp [Rows.uptoBulk]⟩
  simp only [if_true] at hmm
  subst hmm
  rw [show Tryz.prog.cellsOf 63 = 4 by kernel_rfl] at hx
  have each : ∀ i, i < m → ∃ r : Cfg.IndexE, (W.cell? (a.add (i * 4)) = some (.string ⟨r.typ.toArray⟩) ∧ W.cell? ((a.add (i * 4)).add 1) = some (.bool r.eq) ∧ W.cell? ((a.add (i * 4)).add 2) = some (.bool r.pres) ∧ W.cell? ((a.add (i * 4)).add 3) = some (.bool r.sub)) ∧ 1 + r.typ.length ≤ Rows.uptoBulk (D i) := by
    intro i hi
    obtain ⟨cs', h1, h2⟩ := hx i hi
    obtain ⟨_, hlen, hcell⟩ := World.cells?_some h1
    obtain ⟨y0, y1, y2, y3, k, hxy, _, u0, u1, u2, u3⟩ := trod_struct4 Tryz.underlying63 h2
    obtain ⟨v0, v1, v2, v3, rfl⟩ := list4 hlen
    simp only [show Tryz.prog.cellsOf 4 = 1 by kernel_rfl, show Tryz.prog.cellsOf 9 = 1 by kernel_rfl, List.drop, List.take] at u0 u1 u2 u3
    obtain ⟨⟨⟨s⟩⟩, e0, d0, _⟩ := DataW.trod_string Tryz.underlying9 u0
    obtain ⟨b1, e1, d1⟩ := DataW.trod_bool Tryz.underlying4 u1
    obtain ⟨b2, e2, d2⟩ := DataW.trod_bool Tryz.underlying4 u2
    obtain ⟨b3, e3, d3⟩ := DataW.trod_bool Tryz.underlying4 u3
    simp only [List.cons.injEq, and_true] at e0 e1 e2 e3
    subst e0; subst e1; subst e2; subst e3
    have c0 := hcell 0 (by omega)
    have c1 := hcell 1 (by omega)
    have c2 := hcell 2 (by omega)
    have c3 := hcell 3 (by omega)
    simp only [Prod.mk.injEq] at hxy
    refine ⟨⟨s, b1, b2, b3⟩, ⟨by simpa [Addr.add] using c0, by simpa using c1, by simpa using c2, by simpa using c3⟩, ?_⟩
    rw [hxy.1, d0]
    simp only [Rows.uptoBulk, Rows.uptoBulkAll]
    omega
  obtain ⟨q, hq⟩ := choose_lt each
  refine ⟨_, (List.range len).map q, rfl, ⟨some a, m, by simp, by simp; omega, fun j hj => ?_⟩, ?_⟩
  · have hj' : j < len := by simpa using hj
    obtain ⟨⟨c0, c1, c2, c3⟩, _⟩ := hq j (by omega)
    have hsp : a.spot = none := by
      cases hs : a.spot with
      | none => rfl
      | some k =>
        have h0 := hq 0 (by omega)
        have h1 := h0.1.1
        unfold World.cell? Addr.add at h1
        simp [hs] at h1
        split at h1 <;> cases h1
    obtain ⟨b, o, sp⟩ := a
    subst hsp
    refine ⟨b, o, rfl, ?_, ?_, ?_, ?_⟩
    · rw [add_c] at c0; simpa using c0
    · rw [add_c, add_c] at c1; simpa using c1
    · rw [add_c, add_c] at c2; simpa using c2
    · rw [add_c, add_c] at c3; simpa using c3
  · simp only [Rows.uptoBulk]
    have := bulkAll_range D (fun i => 1 + (q i).typ.length) (List.range len) (fun i hi => (hq i (by have := List.mem_range.1 hi; omega)).2)
    rw [List.map_map]
    show ((List.range len).map fun i => 1 + (q i).typ.length).sum + 1 ≤ _
    omega
theorem array12 {α : Type} {cs : Array α} (h : cs.size = 12) : ∃ c0 c1 c2 c3 c4 c5 c6 c7 c8 c9 c10 c11, cs = #[c0, c1, c2, c3, c4, c5, c6, c7, c8, c9, c10, c11] := by
  obtain ⟨l⟩ := cs
  match l, h with
  | [c0, c1, c2, c3, c4, c5, c6, c7, c8, c9, c10, c11], _ => exact ⟨c0, c1, c2, c3, c4, c5, c6, c7, c8, c9, c10, c11, rfl⟩
theorem open_agg12 {P : Program} {r : Go.Reach} {b0 : Nat} {t : TypeId} {f0 f1 f2 f3 f4 f5 f6 f7 f8 f9 f10 f11 : Field} {v : Value} {d : DataW H} {p : List MemPlace} (hs : P.underlying t = some (.struct #[f0, f1, f2, f3, f4, f5, f6, f7, f8, f9, f10, f11])) (hone : oneCellFields P #[f0, f1, f2, f3, f4, f5, f6, f7, f8, f9, f10, f11] = true) (hC : P.cellsOf t = 12)
    (hv : Value.okWide P W r b0 t v) (h : DataW.Trod enc P W base (fun _ => true) true t v d p) :
    ∃ (v0 v1 v2 v3 v4 v5 v6 v7 v8 v9 v10 v11 : Value) (y0 y1 y2 y3 y4 y5 y6 y7 y8 y9 y10 y11 : DataW H × List MemPlace) (n : Nat), v = .agg #[v0, v1, v2, v3, v4, v5, v6, v7, v8, v9, v10, v11] ∧ d = .agg [y0.1, y1.1, y2.1, y3.1, y4.1, y5.1, y6.1, y7.1, y8.1, y9.1, y10.1, y11.1] ∧
      DataW.trod enc P W base (fun _ => true) true n f0.type [v0] = some y0 ∧ DataW.trod enc P W base (fun _ => true) true n f1.type [v1] = some y1 ∧ DataW.trod enc P W base (fun _ => true) true n f2.type [v2] = some y2 ∧ DataW.trod enc P W base (fun _ => true) true n f3.type [v3] = some y3 ∧ DataW.trod enc P W base (fun _ => true) true n f4.type [v4] = some y4 ∧ DataW.trod enc P W base (fun _ => true) true n f5.type [v5] = some y5 ∧ DataW.trod enc P W base (fun _ => true) true n f6.type [v6] = some y6 ∧ DataW.trod enc P W base (fun _ => true) true n f7.type [v7] = some y7 ∧ DataW.trod enc P W base (fun _ => true) true n f8.type [v8] = some y8 ∧ DataW.trod enc P W base (fun _ => true) true n f9.type [v9] = some y9 ∧ DataW.trod enc P W base (fun _ => true) true n f10.type [v10] = some y10 ∧ DataW.trod enc P W base (fun _ => true) true n f11.type [v11] = some y11 := by
  obtain ⟨cs, rfl, hsz⟩ := okWide_struct hs hv
  obtain ⟨c0, c1, c2, c3, c4, c5, c6, c7, c8, c9, c10, c11, rfl⟩ := array12 (hsz.trans hC)
  obtain ⟨fuel, hf⟩ := h
  obtain ⟨xs, n, _, hx, hl, hlen, hf⟩ := DataW.trod_struct hs hf
  match xs, hlen with
  | [y0, y1, y2, y3, y4, y5, y6, y7, y8, y9, y10, y11], _ =>
    obtain ⟨o0, k0⟩ := hone_of hone 0 f0 rfl
    obtain ⟨o1, k1⟩ := hone_of hone 1 f1 rfl
    obtain ⟨o2, k2⟩ := hone_of hone 2 f2 rfl
    obtain ⟨o3, k3⟩ := hone_of hone 3 f3 rfl
    obtain ⟨o4, k4⟩ := hone_of hone 4 f4 rfl
    obtain ⟨o5, k5⟩ := hone_of hone 5 f5 rfl
    obtain ⟨o6, k6⟩ := hone_of hone 6 f6 rfl
    obtain ⟨o7, k7⟩ := hone_of hone 7 f7 rfl
    obtain ⟨o8, k8⟩ := hone_of hone 8 f8 rfl
    obtain ⟨o9, k9⟩ := hone_of hone 9 f9 rfl
    obtain ⟨o10, k10⟩ := hone_of hone 10 f10 rfl
    obtain ⟨o11, k11⟩ := hone_of hone 11 f11 rfl
    simp only [Prod.mk.injEq] at hx
    refine ⟨c0, c1, c2, c3, c4, c5, c6, c7, c8, c9, c10, c11, y0, y1, y2, y3, y4, y5, y6, y7, y8, y9, y10, y11, n, rfl, by simpa using hx.1, ?_, ?_, ?_, ?_, ?_, ?_, ?_, ?_, ?_, ?_, ?_, ?_⟩
    · simpa [Value.cells, o0, k0] using hf 0 f0 rfl
    · simpa [Value.cells, o1, k1] using hf 1 f1 rfl
    · simpa [Value.cells, o2, k2] using hf 2 f2 rfl
    · simpa [Value.cells, o3, k3] using hf 3 f3 rfl
    · simpa [Value.cells, o4, k4] using hf 4 f4 rfl
    · simpa [Value.cells, o5, k5] using hf 5 f5 rfl
    · simpa [Value.cells, o6, k6] using hf 6 f6 rfl
    · simpa [Value.cells, o7, k7] using hf 7 f7 rfl
    · simpa [Value.cells, o8, k8] using hf 8 f8 rfl
    · simpa [Value.cells, o9, k9] using hf 9 f9 rfl
    · simpa [Value.cells, o10, k10] using hf 10 f10 rfl
    · simpa [Value.cells, o11, k11] using hf 11 f11 rfl
/-- How much of the bulk a configuration takes. -/
def textsW (l : List (List UInt8)) : Nat := l.length + (l.map List.length).sum
def confW (c : Cfg.ConfE) : Nat := c.suffix.length + c.root.length + c.secret.length + textsW c.attrs + textsW c.classes + textsW c.acls + (c.indexes.map fun i => 1 + i.typ.length).sum + textsW c.refs + textsW c.unique
set_option maxRecDepth 100000 in
theorem conf_arg {b0 : Nat} {rc : Go.Reach} {v : Value} {d : DataW H} {p : List MemPlace} (hv : Value.okWide Tryz.prog W rc b0 25 v) (h : DataW.Trod enc Tryz.prog W base (fun _ => true) true 25 v d p) :
    ∃ c, ConfW W v c ∧ (-9223372036854775808 ≤ c.size ∧ c.size ≤ 9223372036854775807) ∧ confW c ≤ Rows.uptoBulk d := by
  obtain ⟨v0, v1, v2, v3, v4, v5, v6, v7, v8, v9, v10, v11, y0, y1, y2, y3, y4, y5, y6, y7, y8, y9, y10, y11, n, rfl, rfl, u0, u1, u2, u3, u4, u5, u6, u7, u8, u9, u10, u11⟩ := open_agg12 Tryz.underlying25 (by kernel_rfl) (by kernel_rfl) hv h
  obtain ⟨⟨⟨s0⟩⟩, e0, d0, _⟩ := DataW.trod_string Tryz.underlying9 u0
  obtain ⟨⟨⟨s1⟩⟩, e1, d1, _⟩ := DataW.trod_string Tryz.underlying9 u1
  obtain ⟨⟨⟨s2⟩⟩, e2, d2, _⟩ := DataW.trod_string Tryz.underlying9 u2
  obtain ⟨s3, e3, d3, wf3⟩ := DataW.trod_int Tryz.underlying3 u3
  obtain ⟨w4, s4, e4, t4, d4⟩ := texts_opened u4
  obtain ⟨w5, s5, e5, t5, d5⟩ := texts_opened u5
  obtain ⟨w6, s6, e6, t6, d6⟩ := texts_opened u6
  obtain ⟨w7, s7, e7, t7, d7⟩ := idxs_open u7
  obtain ⟨s8, e8, d8⟩ := DataW.trod_bool Tryz.underlying4 u8
  obtain ⟨s9, e9, d9⟩ := DataW.trod_bool Tryz.underlying4 u9
  obtain ⟨w10, s10, e10, t10, d10⟩ := texts_opened u10
  obtain ⟨w11, s11, e11, t11, d11⟩ := texts_opened u11
  simp only [List.cons.injEq, and_true] at e0 e1 e2 e3 e4 e5 e6 e7 e8 e9 e10 e11
  subst e0; subst e1; subst e2; subst e3; subst e4; subst e5; subst e6; subst e7; subst e8; subst e9; subst e10; subst e11
  refine ⟨⟨s0, s1, s2, s3, s4, s5, s6, s7, s8, s9, s10, s11⟩, ⟨_, _, _, _, _, _, rfl, t4, t5, t6, t7, t10, t11⟩, ?_, ?_⟩
  · unfold Lit.wf at wf3
    rw [Bool.and_eq_true, decide_eq_true_eq, decide_eq_true_eq] at wf3
    have h1 : IntKind.i64.min ≤ s3 := wf3.1
    have h2 : s3 ≤ IntKind.i64.max := wf3.2
    exact ⟨h1, h2⟩
  · rw [d0, d1, d2, d3, d8, d9]
    simp only [Rows.uptoBulk, Rows.uptoBulkAll, confW, textsW]
    omega
end
theorem le_sum_mem {x : Nat} : ∀ {l : List Nat}, x ∈ l → x ≤ l.sum
  | y :: l, h => by
    rw [List.sum_cons]
    rcases List.mem_cons.1 h with rfl | h
    · omega
    · have := le_sum_mem h; omega
theorem textsW_le {l : List (List UInt8)} {m : Nat} (h : textsW l ≤ m) : ∀ a ∈ l, a.length ≤ m := fun a ha => by
  have := le_sum_mem (List.mem_map.2 ⟨a, ha, rfl⟩ : a.length ∈ l.map List.length)
  unfold textsW at h
  omega
theorem lim_confW {c : Cfg.ConfE} {m : Nat} (h : confW c ≤ m) : Cfg.Lim m c := by
  unfold confW at h
  refine ⟨by omega, by omega, by omega, textsW_le (by omega), textsW_le (by omega), textsW_le (by omega), fun x hx => ?_, textsW_le (by omega), textsW_le (by omega)⟩
  have := le_sum_mem (List.mem_map.2 ⟨x, hx, rfl⟩ : 1 + x.typ.length ∈ c.indexes.map fun i => 1 + i.typ.length)
  omega
theorem texts_arg {H : Type} {enc : TypeId × Value → H} {W : World} {base : Nat} {a0 : Option Addr} {len0 cap0 : Nat} {d : DataW H} {p : List MemPlace} (h : DataW.Trod enc Tryz.prog W base (fun _ => true) true 22 (.slice a0 len0 cap0) d p) :
    ∃ l, TextsA W (.slice a0 len0 cap0) l ∧ textsW l + 1 ≤ Rows.uptoBulk d := by
  obtain ⟨fuel, hf⟩ := h
  obtain ⟨v, l, hcs, h1, h2⟩ := texts_opened hf
  have he : Value.slice a0 len0 cap0 = v := by simpa [Value.cells] using hcs
  rw [he]
  exact ⟨l, h1, h2⟩
end Go.Proofs.YtakfpngfpknedaaGreatDoor
/- Chapter 19: light; the law ConfigBack. (gen_back19.py) -/
set_option linter.all false
namespace Go.Proofs.YtakfpngfpknedaaGreatDoor
open Go.RowKit
def sumC (l : List (List UInt8)) : Nat := (l.map List.length).sum
def lightB (l : List (List UInt8)) : Bool := decide (l.length ≤ 250) && decide (sumC l ≤ 20000)
theorem sumC_snoc (l : List (List UInt8)) (x : List UInt8) : sumC (l ++ [x]) = sumC l + x.length := by
  unfold sumC
  rw [List.map_append, List.sum_append]
  simp
theorem sumC_le (l : List (List UInt8)) (k : Nat) : sumC (l.take k) ≤ sumC l := by
  have e : sumC l = sumC (l.take k) + sumC (l.drop k) := by
    unfold sumC
    rw [← List.sum_append, ← List.map_append, List.take_append_drop]
  omega
theorem light19_c (l : List (List UInt8)) (v : Value) (w : World) (hT : TextsA w v l) (hl : sumC l ≤ 1000000000) (hn : l.length ≤ 1000000000) : Calls Tryz.prog 19 #[v] w fun e w' => e = .returned (.bool (lightB l)) ∧ w' = w := by
  obtain ⟨A, cp, rfl, _, hx⟩ := hT.at
  have HX := Lib.hid hx
  obtain ⟨R, hR⟩ : ∃ R, lightB l = R := ⟨_, rfl⟩
  rw [hR]
  have HR := Lib.hid hR
  clear hx hT hR
  go_enter Tryz.func19, Tryz.ntmps19
  go_wp2_with fail
  go_loop [3, 4] (fun n i => ∃ k m : Nat, k ≤ l.length ∧ m ≤ 1000000000 ∧ n = .int .i64 (m : Int) ∧ i = .int .i64 (k : Int) ∧ Aside (m = sumC (l.take k))) (fun _ i => l.length - (intOf i).toNat)
  case atStart => exact ⟨0, 0, Nat.zero_le _, by omega, rfl, rfl, rfl⟩
  case round =>
    obtain ⟨k, m, hk, hm, rfl, rfl, AM⟩ := hrel
    by_cases hlt : k < l.length
    · obtain ⟨a, rfl, hc⟩ := HX.out k hlt
      have hki : (k : Int) < (l.length : Int) := by omega
      have hs : m + l[k].length = sumC (l.take (k + 1)) := by rw [List.take_succ_eq_append_getElem hlt, sumC_snoc, AM.out]
      have hs2 := sumC_le l (k + 1)
      have hs3 : m + l[k].length ≤ 1000000000 := by omega
      have HS := Lib.hid hs
      clear AM hs hs2
      generalize l[k] = x at *
      go_wp2_with fail
      go_round
      case rel => exact ⟨k + 1, m + x.length, by omega, hs3, by go_num, by go_num, HS.out⟩
      case measure => simp [intOf]; omega
    · obtain rfl : k = l.length := by omega
      have hs := AM.out
      rw [List.take_length] at hs
      have hki : ¬ ((l.length : Int) < (l.length : Int)) := by omega
      have hr := HR.out
      unfold lightB at hr
      rw [← hs] at hr
      clear AM HR hs
      by_cases h1 : l.length ≤ 250
      · have h1' : (l.length : Int) ≤ 250 := by omega
        rw [decide_eq_true h1, Bool.true_and] at hr
        by_cases h2 : m ≤ 20000
        · have h2' : (m : Int) ≤ 20000 := by omega
          rw [decide_eq_true h2] at hr
          subst hr
          go_wp2_with fail
          go_ret
          exact ⟨rfl, rfl⟩
        · have h2' : ¬ (m : Int) ≤ 20000 := by omega
          rw [decide_eq_false h2] at hr
          subst hr
          go_wp2_with fail
          go_ret
          exact ⟨rfl, rfl⟩
      · have h1' : ¬ (l.length : Int) ≤ 250 := by omega
        rw [decide_eq_false h1, Bool.false_and] at hr
        subst hr
        go_wp2_with fail
        go_ret
        exact ⟨rfl, rfl⟩
set_option maxRecDepth 100000 in
set_option maxHeartbeats 16000000 in
theorem back19_c (c : Cfg.ConfE) (l : List (List UInt8)) (v0 v1 : Value) (w : World) (hw : Env9 w) (hC : ConfW w v0 c) (hz : -9223372036854775808 ≤ c.size ∧ c.size ≤ 9223372036854775807) (hm : Cfg.Lim 2000000 c) (hcn : Cfg.countE c ≤ 4000000) (hT : TextsA w v1 l) (hsl : sumC l ≤ 2000000) (hln : l.length ≤ 2000000) (hlm : ∀ s ∈ l, s.length ≤ 2000000) :
    Calls Tryz.prog 6 #[v0, v1] w fun e w' => e = .returned (.bool true) ∧ Below w.heap.size w w' := by
  obtain ⟨va, vc, vl, vi, vr, vu, rfl, ta, tc, tl, ti, tr, tu⟩ := hC
  have HCW : Hid (∀ W, Below w.heap.size w W → ConfW W (confV c va vc vl vi vr vu) c) := Lib.hid fun W h => ⟨va, vc, vl, vi, vr, vu, rfl, ta.below h, tc.below h, tl.below h, ti.below h, tr.below h, tu.below h⟩
  obtain ⟨Aa, ca, rfl, _, _⟩ := ta.at
  obtain ⟨Ac, cc, rfl, _, _⟩ := tc.at
  obtain ⟨Al, cl, rfl, _, _⟩ := tl.at
  obtain ⟨AI, cI, rfl, _, _⟩ := ti
  obtain ⟨Ar, cr, rfl, _, _⟩ := tr.at
  obtain ⟨Au, cu, rfl, _, _⟩ := tu.at
  have k1 := Bk.new w 25 #[.string ⟨c.suffix.toArray⟩, .string ⟨c.root.toArray⟩, .string ⟨c.secret.toArray⟩, .int .i64 c.size, .slice Aa c.attrs.length ca, .slice Ac c.classes.length cc, .slice Al c.acls.length cl, .slice AI c.indexes.length cI, .bool c.memberof, .bool c.audit, .slice Ar c.refs.length cr, .slice Au c.unique.length cu]
  have b1 := bel_c w (.cells #[.string ⟨c.suffix.toArray⟩, .string ⟨c.root.toArray⟩, .string ⟨c.secret.toArray⟩, .int .i64 c.size, .slice Aa c.attrs.length ca, .slice Ac c.classes.length cc, .slice Al c.acls.length cl, .slice AI c.indexes.length cI, .bool c.memberof, .bool c.audit, .slice Ar c.refs.length cr, .slice Au c.unique.length cu] 25)
  have hHE := Lib.hid hw
  have hHm := Lib.hid hm
  have hHz := Lib.hid hz
  have HAl := Lib.hid (fun (W : World) (h : Below w.heap.size w W) => alive19_c W (hw.env.keep h))
  have HLt := Lib.hid (fun (W : World) (h : Below w.heap.size w W) => light19_c l v1 W (hT.below h) (by omega) (by omega))
  have HPa := Lib.hid (fun (W : World) (h : Below w.heap.size w W) => (ParseC_c l v1 W (hw.env.keep h) (hT.below h) (fun s hs => by have := hlm s hs; omega)).mono fun e w' h => h.open)
  unfold confV cCells at HCW ⊢
  clear ta tc tl tr tu hT
  have hcI : (c.attrs.length : Int) ≤ 4000000 ∧ (c.classes.length : Int) ≤ 4000000 ∧ (c.acls.length : Int) ≤ 4000000 ∧ (c.indexes.length : Int) ≤ 4000000 ∧ (c.refs.length : Int) ≤ 4000000 ∧ (c.unique.length : Int) ≤ 4000000 := by unfold Cfg.countE at hcn; omega
  obtain ⟨i1, i2, i3, i4, i5, i6⟩ := hcI
  have HPr := Lib.hid (fun (h4 : Cfg.countE c ≤ 4000) (W : World) (h : Below w.heap.size w W) => PrintC_c c _ W (hw.keep h) (HCW.out W h) h4 hm hz)
  have hbB : Cfg.countE c = c.attrs.length + c.classes.length + c.acls.length + c.refs.length + c.unique.length + c.indexes.length := rfl
  clear hw hm hz hcn hsl hln
  go_enter Tryz.func6, Tryz.ntmps6
  go_upto_region 1 with fail
  have HB1 := Lib.hid b1
  have HK1 := Lib.hid k1
  clear b1
  generalize w.alloc (.cells #[.string ⟨c.suffix.toArray⟩, .string ⟨c.root.toArray⟩, .string ⟨c.secret.toArray⟩, .int .i64 c.size, .slice Aa c.attrs.length ca, .slice Ac c.classes.length cc, .slice Al c.acls.length cl, .slice AI c.indexes.length cI, .bool c.memberof, .bool c.audit, .slice Ar c.refs.length cr, .slice Au c.unique.length cu] 25) = w1 at *
  have p0 := k1.cell 0
  have p1 := k1.cell 1
  have p2 := k1.cell 2
  have p3 := k1.cell 3
  have p4 := k1.cell 4
  have p5 := k1.cell 5
  have p6 := k1.cell 6
  have p7 := k1.cell 7
  have p8 := k1.cell 8
  have p9 := k1.cell 9
  have p10 := k1.cell 10
  have p11 := k1.cell 11
  simp only [List.getElem?_toArray, List.getElem?_cons_zero, List.getElem?_cons_succ] at p0 p1 p2 p3 p4 p5 p6 p7 p8 p9 p10 p11
  clear k1
  by_cases hbig : 250 < Cfg.countE c
  case pos =>
    have hI : (250 : Int) < (c.attrs.length : Int) + (c.classes.length : Int) + (c.acls.length : Int) + (c.refs.length : Int) + (c.unique.length : Int) + (c.indexes.length : Int) := by omega
    clear hbB hbig
    go_wp2_with (go_at_call 8; (with_reducible refine (HAl.out _ HB1.out).mono ?_); rintro e w9 ⟨rfl, hb⟩; have HB9 := Lib.hid (HB1.out.trans (hb.mono HB1.out.size)); clear hb)
    go_ret
    exact ⟨rfl, HB9.out⟩
  case neg =>
  have hI : ¬ (250 : Int) < (c.attrs.length : Int) + (c.classes.length : Int) + (c.acls.length : Int) + (c.refs.length : Int) + (c.unique.length : Int) + (c.indexes.length : Int) := by omega
  have HCn := Lib.hid (show Cfg.countE c ≤ 4000 by omega)
  clear hbB hbig
  cases hlb : lightB l
  case false =>
    rw [hlb] at HLt
    go_wp2_with (first
      | (go_at_call 19; (with_reducible refine (HLt.out _ HB1.out).mono ?_); rintro e w9 ⟨rfl, rfl⟩)
      | (go_at_call 8; (with_reducible refine (HAl.out _ HB1.out).mono ?_); rintro e w9 ⟨rfl, hb⟩; have HB9 := Lib.hid (HB1.out.trans (hb.mono HB1.out.size)); clear hb))
    go_ret
    exact ⟨rfl, HB9.out⟩
  case true =>
  rw [hlb] at HLt
  have hlb2 : l.length ≤ 250 ∧ sumC l ≤ 20000 := by unfold lightB at hlb; simpa using hlb
  clear hlb
  go_upto_region 4 with (first
    | (go_at_call 19; (with_reducible refine (HLt.out _ HB1.out).mono ?_); rintro e w9 ⟨rfl, rfl⟩)
    | (go_at_call 17; (with_reducible refine ((HPr.out HCn.out) _ HB1.out).mono ?_); rintro e w2 ⟨hb2, u, rfl, hu⟩; obtain ⟨Ap, cp, rfl, _, _⟩ := hu.at; have HU := Lib.hid hu; have HB2 := Lib.hid (HB1.out.trans (hb2.mono HB1.out.size)); have HK2 := Lib.hid (HK1.out.below hb2); clear hu hb2))
  clear p0 p1 p2 p3 p4 p5 p6 p7 p8 p9 p10 p11 HPr HLt
  go_upto_if 49 with fail
  go_cut [] (fun wx => Aside (Below w2.heap.size w2 wx))
  case first =>
    by_cases hp : Cfg.printC c = []
    case pos =>
      have h0 : ¬ (0 : Int) < ((Cfg.printC c).length : Int) := by rw [hp]; simp
      clear hp
      go_wp2_with fail
      go_meet
      exact Below.refl _ _
    case neg =>
    have h0 : (0 : Int) < ((Cfg.printC c).length : Int) := by have := List.length_pos_iff.2 hp; omega
    obtain ⟨hs1, hs2⟩ := Cfg.print_says hp
    obtain ⟨at1, hR⟩ : ∃ a, Cfg.parseC (Cfg.printC c) = (c, 0, a) := ⟨_, Prod.ext hs2 (Prod.ext hs1 rfl)⟩
    have HPp : Hid (∀ W, Below w2.heap.size w2 W → Calls Tryz.prog 7 #[.slice Ap (Cfg.printC c).length cp] W (ParseV W (Cfg.parseC (Cfg.printC c)))) := Lib.hid fun W h => (ParseC_c (Cfg.printC c) _ W (hHE.out.env.keep (HB2.out.trans (h.mono HB2.out.size))) (HU.out.below h) (fun s hs => by have := Cfg.printC_long hHm.out hHz.out.1 hHz.out.2 s hs; omega)).mono fun e w' h => h.open
    rw [hR] at HPp
    unfold ParseV at HPp
    clear hp hs1 hs2 hR
    go_upto_region 6 with (go_at_call 7; (with_reducible refine (HPp.out _ (Below.refl _ _)).mono ?_); rintro e w3 ⟨hb3, ea, nae, cae, ec, nce, cce, el, nle, cle, ei, nie, cie, er, nre, cre, eu, nue, cue, rfl, t1, t2, t3, t4, t5, t6⟩)
    have b4 := hb3.trans ((bel_c w3 (.cells #[.string ⟨c.suffix.toArray⟩, .string ⟨c.root.toArray⟩, .string ⟨c.secret.toArray⟩, .int .i64 c.size, .slice ea nae cae, .slice ec nce cce, .slice el nle cle, .slice ei nie cie, .bool c.memberof, .bool c.audit, .slice er nre cre, .slice eu nue cue] 25)).mono hb3.size)
    have k4 := Bk.new w3 25 #[.string ⟨c.suffix.toArray⟩, .string ⟨c.root.toArray⟩, .string ⟨c.secret.toArray⟩, .int .i64 c.size, .slice ea nae cae, .slice ec nce cce, .slice el nle cle, .slice ei nie cie, .bool c.memberof, .bool c.audit, .slice er nre cre, .slice eu nue cue]
    have bx := bel_c w3 (.cells #[.string ⟨c.suffix.toArray⟩, .string ⟨c.root.toArray⟩, .string ⟨c.secret.toArray⟩, .int .i64 c.size, .slice ea nae cae, .slice ec nce cce, .slice el nle cle, .slice ei nie cie, .bool c.memberof, .bool c.audit, .slice er nre cre, .slice eu nue cue] 25)
    have HSm : Hid (Calls Tryz.prog 9 #[.agg #[.string ⟨c.suffix.toArray⟩, .string ⟨c.root.toArray⟩, .string ⟨c.secret.toArray⟩, .int .i64 c.size, .slice Aa c.attrs.length ca, .slice Ac c.classes.length cc, .slice Al c.acls.length cl, .slice AI c.indexes.length cI, .bool c.memberof, .bool c.audit, .slice Ar c.refs.length cr, .slice Au c.unique.length cu], .agg #[.string ⟨c.suffix.toArray⟩, .string ⟨c.root.toArray⟩, .string ⟨c.secret.toArray⟩, .int .i64 c.size, .slice ea nae cae, .slice ec nce cce, .slice el nle cle, .slice ei nie cie, .bool c.memberof, .bool c.audit, .slice er nre cre, .slice eu nue cue]] (w3.alloc (.cells #[.string ⟨c.suffix.toArray⟩, .string ⟨c.root.toArray⟩, .string ⟨c.secret.toArray⟩, .int .i64 c.size, .slice ea nae cae, .slice ec nce cce, .slice el nle cle, .slice ei nie cie, .bool c.memberof, .bool c.audit, .slice er nre cre, .slice eu nue cue] 25)) fun e w' => e = .returned (.bool (decide (c = c))) ∧ Below (w3.alloc (.cells #[.string ⟨c.suffix.toArray⟩, .string ⟨c.root.toArray⟩, .string ⟨c.secret.toArray⟩, .int .i64 c.size, .slice ea nae cae, .slice ec nce cce, .slice el nle cle, .slice ei nie cie, .bool c.memberof, .bool c.audit, .slice er nre cre, .slice eu nue cue] 25)).heap.size (w3.alloc (.cells #[.string ⟨c.suffix.toArray⟩, .string ⟨c.root.toArray⟩, .string ⟨c.secret.toArray⟩, .int .i64 c.size, .slice ea nae cae, .slice ec nce cce, .slice el nle cle, .slice ei nie cie, .bool c.memberof, .bool c.audit, .slice er nre cre, .slice eu nue cue] 25)) w') := Lib.hid (rsame_c c c _ _ _ (HCW.out _ (HB2.out.trans (b4.mono HB2.out.size))) ⟨_, _, _, _, _, _, rfl, (texts_toA t1).below bx, (texts_toA t2).below bx, (texts_toA t3).below bx, t4.w.below bx, (texts_toA t5).below bx, (texts_toA t6).below bx⟩ (by have := HCn.out; omega))
    rw [decide_eq_true rfl] at HSm
    have k5 := (HK2.out.below (hb3)).below bx
    have HB4 := Lib.hid b4
    clear t1 t2 t3 t4 t5 t6 hb3 bx b4 HPp
    generalize w3.alloc (.cells #[.string ⟨c.suffix.toArray⟩, .string ⟨c.root.toArray⟩, .string ⟨c.secret.toArray⟩, .int .i64 c.size, .slice ea nae cae, .slice ec nce cce, .slice el nle cle, .slice ei nie cie, .bool c.memberof, .bool c.audit, .slice er nre cre, .slice eu nue cue] 25) = w4 at *
    generalize w3.heap.size = bd at *
    have p0 := k5.cell 0
    have p1 := k5.cell 1
    have p2 := k5.cell 2
    have p3 := k5.cell 3
    have p4 := k5.cell 4
    have p5 := k5.cell 5
    have p6 := k5.cell 6
    have p7 := k5.cell 7
    have p8 := k5.cell 8
    have p9 := k5.cell 9
    have p10 := k5.cell 10
    have p11 := k5.cell 11
    simp only [List.getElem?_toArray, List.getElem?_cons_zero, List.getElem?_cons_succ] at p0 p1 p2 p3 p4 p5 p6 p7 p8 p9 p10 p11
    have q0 := k4.cell 0
    have q1 := k4.cell 1
    have q2 := k4.cell 2
    have q3 := k4.cell 3
    have q4 := k4.cell 4
    have q5 := k4.cell 5
    have q6 := k4.cell 6
    have q7 := k4.cell 7
    have q8 := k4.cell 8
    have q9 := k4.cell 9
    have q10 := k4.cell 10
    have q11 := k4.cell 11
    simp only [List.getElem?_toArray, List.getElem?_cons_zero, List.getElem?_cons_succ] at q0 q1 q2 q3 q4 q5 q6 q7 q8 q9 q10 q11
    clear k4 k5
    go_wp2_with (go_at_call 9; (with_reducible refine HSm.out.mono ?_); rintro e w5 ⟨rfl, hb⟩; have HB5 := Lib.hid (HB4.out.trans (hb.mono HB4.out.size)); clear hb)
    go_meet
    exact HB5.out
  case rest =>
  have HB3 := Lib.hid (HB2.out.trans (hcut.out.mono HB2.out.size))
  clear hcut HK2 HU HB2
  obtain ⟨hd1, hd2, hd3, hd4⟩ := Cfg.lim_parse 2000000 l hlm
  obtain ⟨d, cd, at2, hd⟩ : ∃ d cd a, Cfg.parseC l = (d, cd, a) := ⟨_, _, _, rfl⟩
  have HBK := Lib.hid (fun h : cd = 0 => Cfg.print_back (l := l) (d := d) (at' := at2) (by rw [hd, h]))
  rw [hd] at HPa hd1 hd2 hd3 hd4
  simp only at hd1 hd2 hd3 hd4
  unfold ParseV at HPa
  clear hd
  go_upto_region 9 with (go_at_call 7; (with_reducible refine (HPa.out _ HB3.out).mono ?_); rintro e w6 ⟨hb6, fa, naf, caf, fc, ncf, ccf, fl, nlf, clf, fi, nif, cif, fr, nrf, crf, fu, nuf, cuf, rfl, t1, t2, t3, t4, t5, t6⟩)
  have k7 := Bk.new w6 25 #[.string ⟨d.suffix.toArray⟩, .string ⟨d.root.toArray⟩, .string ⟨d.secret.toArray⟩, .int .i64 d.size, .slice fa naf caf, .slice fc ncf ccf, .slice fl nlf clf, .slice fi nif cif, .bool d.memberof, .bool d.audit, .slice fr nrf crf, .slice fu nuf cuf]
  have bx := bel_c w6 (.cells #[.string ⟨d.suffix.toArray⟩, .string ⟨d.root.toArray⟩, .string ⟨d.secret.toArray⟩, .int .i64 d.size, .slice fa naf caf, .slice fc ncf ccf, .slice fl nlf clf, .slice fi nif cif, .bool d.memberof, .bool d.audit, .slice fr nrf crf, .slice fu nuf cuf] 25)
  have HDW : Hid (∀ W, Below (w6.alloc (.cells #[.string ⟨d.suffix.toArray⟩, .string ⟨d.root.toArray⟩, .string ⟨d.secret.toArray⟩, .int .i64 d.size, .slice fa naf caf, .slice fc ncf ccf, .slice fl nlf clf, .slice fi nif cif, .bool d.memberof, .bool d.audit, .slice fr nrf crf, .slice fu nuf cuf] 25)).heap.size (w6.alloc (.cells #[.string ⟨d.suffix.toArray⟩, .string ⟨d.root.toArray⟩, .string ⟨d.secret.toArray⟩, .int .i64 d.size, .slice fa naf caf, .slice fc ncf ccf, .slice fl nlf clf, .slice fi nif cif, .bool d.memberof, .bool d.audit, .slice fr nrf crf, .slice fu nuf cuf] 25)) W → ConfW W (.agg #[.string ⟨d.suffix.toArray⟩, .string ⟨d.root.toArray⟩, .string ⟨d.secret.toArray⟩, .int .i64 d.size, .slice fa naf caf, .slice fc ncf ccf, .slice fl nlf clf, .slice fi nif cif, .bool d.memberof, .bool d.audit, .slice fr nrf crf, .slice fu nuf cuf]) d) := Lib.hid fun W h => ⟨_, _, _, _, _, _, rfl, ((texts_toA t1).below bx).below h, ((texts_toA t2).below bx).below h, ((texts_toA t3).below bx).below h, (t4.w.below bx).below h, ((texts_toA t5).below bx).below h, ((texts_toA t6).below bx).below h⟩
  have HB7 := Lib.hid (HB3.out.trans ((hb6.trans (bx.mono hb6.size)).mono HB3.out.size))
  clear t1 t2 t3 t4 t5 t6 hb6 bx HPa
  generalize w6.alloc (.cells #[.string ⟨d.suffix.toArray⟩, .string ⟨d.root.toArray⟩, .string ⟨d.secret.toArray⟩, .int .i64 d.size, .slice fa naf caf, .slice fc ncf ccf, .slice fl nlf clf, .slice fi nif cif, .bool d.memberof, .bool d.audit, .slice fr nrf crf, .slice fu nuf cuf] 25) = w7 at *
  generalize w6.heap.size = bd at *
  by_cases hc0 : cd = 0
  case neg =>
    have hcb : (cd != 0) = true := bne_iff_ne.2 hc0
    clear hc0
    go_wp2_with (go_at_call 8; (with_reducible refine (HAl.out _ HB7.out).mono ?_); rintro e w9 ⟨rfl, hb⟩; have HB9 := Lib.hid (HB7.out.trans (hb.mono HB7.out.size)); clear hb)
    go_ret
    exact ⟨rfl, HB9.out⟩
  case pos =>
  subst hc0
  have hback := HBK.out rfl
  have HK7 := Lib.hid k7
  have q0 := k7.cell 0
  have q1 := k7.cell 1
  have q2 := k7.cell 2
  have q3 := k7.cell 3
  have q4 := k7.cell 4
  have q5 := k7.cell 5
  have q6 := k7.cell 6
  have q7 := k7.cell 7
  have q8 := k7.cell 8
  have q9 := k7.cell 9
  have q10 := k7.cell 10
  have q11 := k7.cell 11
  simp only [List.getElem?_toArray, List.getElem?_cons_zero, List.getElem?_cons_succ] at q0 q1 q2 q3 q4 q5 q6 q7 q8 q9 q10 q11
  clear k7
  have HPd : Hid (Calls Tryz.prog 17 #[.agg #[.string ⟨d.suffix.toArray⟩, .string ⟨d.root.toArray⟩, .string ⟨d.secret.toArray⟩, .int .i64 d.size, .slice fa naf caf, .slice fc ncf ccf, .slice fl nlf clf, .slice fi nif cif, .bool d.memberof, .bool d.audit, .slice fr nrf crf, .slice fu nuf cuf]] w7 fun e w' => Below w7.heap.size w7 w' ∧ ∃ u, e = .returned u ∧ TextsA w' u (Cfg.printC d)) := Lib.hid (PrintC_c d _ w7 (hHE.out.keep HB7.out) (HDW.out _ (Below.refl _ _)) (by omega) hd1 ⟨by omega, by omega⟩)
  have HPq : Hid (∀ W u, Below w7.heap.size w7 W → TextsA W u (Cfg.printC d) → Calls Tryz.prog 7 #[u] W (ParseV W (Cfg.parseC (Cfg.printC d)))) := Lib.hid fun W u h hu => (ParseC_c (Cfg.printC d) _ W (hHE.out.env.keep (HB7.out.trans (h.mono HB7.out.size))) hu (fun s hs => by have := Cfg.printC_long hd1 (by omega) (by omega) s hs; omega)).mono fun e w' h => h.open
  rw [hback] at HPq
  unfold ParseV at HPq
  go_upto_region 12 with (first
    | (go_at_call 17; (with_reducible refine HPd.out.mono ?_); rintro e w8 ⟨hb8, u, rfl, hu⟩; have HU8 := Lib.hid hu; have HB8 := Lib.hid hb8; have HPr := Lib.hid (HPq.out _ _ hb8 hu); clear hb8 hu)
    | (go_at_call 7; (with_reducible refine HPr.out.mono ?_); rintro e w9 ⟨hb9, ga, nag, cag, gc, ncg, ccg, gl, nlg, clg, gi, nig, cig, gr, nrg, crg, gu, nug, cug, rfl, t1, t2, t3, t4, t5, t6⟩))
  have bx := bel_c w9 (.cells #[.string ⟨d.suffix.toArray⟩, .string ⟨d.root.toArray⟩, .string ⟨d.secret.toArray⟩, .int .i64 d.size, .slice ga nag cag, .slice gc ncg ccg, .slice gl nlg clg, .slice gi nig cig, .bool d.memberof, .bool d.audit, .slice gr nrg crg, .slice gu nug cug] 25)
  have k10 := Bk.new w9 25 #[.string ⟨d.suffix.toArray⟩, .string ⟨d.root.toArray⟩, .string ⟨d.secret.toArray⟩, .int .i64 d.size, .slice ga nag cag, .slice gc ncg ccg, .slice gl nlg clg, .slice gi nig cig, .bool d.memberof, .bool d.audit, .slice gr nrg crg, .slice gu nug cug]
  have HB10 := Lib.hid (HB8.out.trans ((hb9.trans (bx.mono hb9.size)).mono HB8.out.size))
  have HGW : Hid (∀ W, Below (w9.alloc (.cells #[.string ⟨d.suffix.toArray⟩, .string ⟨d.root.toArray⟩, .string ⟨d.secret.toArray⟩, .int .i64 d.size, .slice ga nag cag, .slice gc ncg ccg, .slice gl nlg clg, .slice gi nig cig, .bool d.memberof, .bool d.audit, .slice gr nrg crg, .slice gu nug cug] 25)).heap.size (w9.alloc (.cells #[.string ⟨d.suffix.toArray⟩, .string ⟨d.root.toArray⟩, .string ⟨d.secret.toArray⟩, .int .i64 d.size, .slice ga nag cag, .slice gc ncg ccg, .slice gl nlg clg, .slice gi nig cig, .bool d.memberof, .bool d.audit, .slice gr nrg crg, .slice gu nug cug] 25)) W → ConfW W (.agg #[.string ⟨d.suffix.toArray⟩, .string ⟨d.root.toArray⟩, .string ⟨d.secret.toArray⟩, .int .i64 d.size, .slice ga nag cag, .slice gc ncg ccg, .slice gl nlg clg, .slice gi nig cig, .bool d.memberof, .bool d.audit, .slice gr nrg crg, .slice gu nug cug]) d) := Lib.hid fun W h => ⟨_, _, _, _, _, _, rfl, ((texts_toA t1).below bx).below h, ((texts_toA t2).below bx).below h, ((texts_toA t3).below bx).below h, (t4.w.below bx).below h, ((texts_toA t5).below bx).below h, ((texts_toA t6).below bx).below h⟩
  clear t1 t2 t3 t4 t5 t6 hb9 bx HPr HPq HPd HU8 HB8 q0 q1 q2 q3 q4 q5 q6 q7 q8 q9 q10 q11
  generalize w9.alloc (.cells #[.string ⟨d.suffix.toArray⟩, .string ⟨d.root.toArray⟩, .string ⟨d.secret.toArray⟩, .int .i64 d.size, .slice ga nag cag, .slice gc ncg ccg, .slice gl nlg clg, .slice gi nig cig, .bool d.memberof, .bool d.audit, .slice gr nrg crg, .slice gu nug cug] 25) = w10 at *
  generalize w9.heap.size = be at *
  have HK10 := Lib.hid k10
  clear k10
  go_wp2_with (first
    | (go_at_call 8; (with_reducible refine (HAl.out _ (HB7.out.trans (HB10.out.mono HB7.out.size))).mono ?_); rintro e w11 ⟨rfl, hb⟩; have HB11 := Lib.hid hb; have kk := (HK7.out.below HB10.out).below hb; have mm := HK10.out.below hb; have HSm := Lib.hid (rsame_c d d _ _ w11 (HDW.out _ (HB10.out.trans (hb.mono HB10.out.size))) (HGW.out _ hb) (by omega)); rw [decide_eq_true rfl] at HSm; have q0 := kk.cell 0; have q1 := kk.cell 1; have q2 := kk.cell 2; have q3 := kk.cell 3; have q4 := kk.cell 4; have q5 := kk.cell 5; have q6 := kk.cell 6; have q7 := kk.cell 7; have q8 := kk.cell 8; have q9 := kk.cell 9; have q10 := kk.cell 10; have q11 := kk.cell 11; simp only [List.getElem?_toArray, List.getElem?_cons_zero, List.getElem?_cons_succ] at q0 q1 q2 q3 q4 q5 q6 q7 q8 q9 q10 q11; have m0 := mm.cell 0; have m1 := mm.cell 1; have m2 := mm.cell 2; have m3 := mm.cell 3; have m4 := mm.cell 4; have m5 := mm.cell 5; have m6 := mm.cell 6; have m7 := mm.cell 7; have m8 := mm.cell 8; have m9 := mm.cell 9; have m10 := mm.cell 10; have m11 := mm.cell 11; simp only [List.getElem?_toArray, List.getElem?_cons_zero, List.getElem?_cons_succ] at m0 m1 m2 m3 m4 m5 m6 m7 m8 m9 m10 m11; clear hb kk mm)
    | (go_at_call 9; (with_reducible refine HSm.out.mono ?_); rintro e w12 ⟨rfl, hb⟩; have HB12 := Lib.hid hb; clear hb))
  go_ret
  exact ⟨rfl, HB7.out.trans ((HB10.out.trans ((HB11.out.trans (HB12.out.mono HB11.out.size)).mono HB10.out.size)).mono HB7.out.size)⟩
end Go.Proofs.YtakfpngfpknedaaGreatDoor
/- Chapter 19: the laws ConfigBack and ConfigPrints from what the rows list and how much their arguments take. -/
set_option linter.all false
namespace Go.Proofs.YtakfpngfpknedaaGreatDoor
open Go.RowKit Go.Lib
theorem env9_of {W : World} (hL : laidMetH Tryz.prog laidL W) (hsh : W.ShapedOpen Tryz.prog) : Env9 W where
  env := env_of hL hsh
  tab := Lib.tabBelow_of_tabIs (by
    have h1 : laidMet Tryz.prog laidL W := hL
    rw [laidL_eq] at h1
    have h2 := laidMet.tail (laidMet.tail h1)
    have e : (Rows.laid_internal_strconv_uint64pow10 : DataW Unit) = tabData .u64 Lib.pow10Tab := by kernel_rfl
    rw [e] at h2
    exact Lib.tabIs_of_head (g := 1) (t := 245) (e := 197) (n := 20) (by kernel_rfl) (by kernel_rfl) (by kernel_rfl) (by kernel_rfl) (by kernel_rfl) (by kernel_rfl) h2)
theorem sumC_textsW (l : List (List UInt8)) : sumC l ≤ textsW l ∧ l.length ≤ textsW l := ⟨by unfold sumC textsW; omega, by unfold textsW; omega⟩
theorem ix_sum (l : List Cfg.IndexE) : l.length ≤ (l.map fun i => 1 + i.typ.length).sum := by
  induction l with
  | nil => exact Nat.le_refl _
  | cons x l ih => simp only [List.length_cons, List.map_cons, List.sum_cons]; omega
theorem count_confW (c : Cfg.ConfE) : Cfg.countE c ≤ confW c := by
  have := ix_sum c.indexes
  unfold Cfg.countE confW textsW
  omega
theorem back_u (c : Cfg.ConfE) (v0 : Value) (l : List (List UInt8)) (v1 : Value) (w : World) (hw : Env9 w) (hC : ConfW w v0 c) (hz : -9223372036854775808 ≤ c.size ∧ c.size ≤ 9223372036854775807) (hT : TextsA w v1 l) (hbk : confW c + textsW l ≤ 1048576) :
    Calls Tryz.prog 6 #[v0, v1] w fun e w' => e = .returned (.bool true) ∧ Below w.heap.size w w' := by
  have h1 := sumC_textsW l
  have h2 := count_confW c
  exact back19_c c l v0 v1 w hw hC hz ((lim_confW (m := 1048576) (by omega)).mono (by omega)) (by omega) hT (by omega) (by omega) (fun s hs => by have := textsW_le (m := 1048576) (l := l) (by omega) s hs; omega)
end Go.Proofs.YtakfpngfpknedaaGreatDoor
