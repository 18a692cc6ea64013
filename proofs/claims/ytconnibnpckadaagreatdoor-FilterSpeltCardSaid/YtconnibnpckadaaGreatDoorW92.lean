import Derived.Test.YtconnibnpckadaaGreatDoorW91
import Derived.Test.YtconnibnpckadaaGreatDoorW87
set_option linter.all false
set_option maxHeartbeats 8000000
set_option maxRecDepth 100000
namespace Go.Proofs.YtconnibnpckadaaGreatDoor
open Go.RowKit
theorem shape_c (p : Fil.FilE) (va : Value) (w : World) (hw : Env w) (hp : TextsA w va p.any) (hl : p.any.length ≤ 1000000000) (ht : p.typ.length ≤ 1000000000) :
  Calls Tryz.prog 32 #[filV p va] w fun e w' => e = .returned (.bool (Fil.shapeB p)) ∧ Below w.heap.size w w' := by
 by_cases h1 : p.op < 0 ∨ 8 < p.op
 ·exact shape_no_c p va w hp h1
 by_cases h2 : p.op = 0 ∨ p.op = 1 ∨ p.op = 2
 ·exact shape_kids_c p va w hp hl h2
 by_cases h3 : p.op = 3 ∨ p.op = 5 ∨ p.op = 6 ∨ p.op = 8
 ·exact shape_val_c p va w hw hp hl ht h3
 by_cases h4 : p.op = 7
 ·exact shape_pres_c p va w hw hp hl ht h4
 have h5 : p.op = 4 := by omega
 by_cases h6 : p.any.contains [] = true
 ·exact shape_subn_c p va w hp hl h5 h6
 by_cases h7 : p.ini = [] ∧ p.fin = [] ∧ p.any = []
 ·exact shape_sube_c p va w hp h5 h7
 ·exact shape_sub_c p va w hw hp hl ht h5 h7 (by simpa using h6)
def WholeRet (w0 w : World) (R : Option (List Fil.FilE)) (e : Ending) (w' : World) : Prop := Below w.heap.size w w' ∧ match R with
 | some l => ∃ v, e = .returned (.tuple #[v, .bool true]) ∧ FilsA w0 v l
 | none => e = .returned (.tuple #[.slice none 0 0, .bool false])
theorem shape_n {p : Fil.FilE} (h : Fil.shapeB p = true) : 0 ≤ p.n := by
 unfold Fil.shapeB at h
 split at h
 ·simp only [Bool.and_eq_true, decide_eq_true_eq] at h
  exact h.1.2
 ·split at h
  ·simp only [Bool.and_eq_true, decide_eq_true_eq] at h
   have := h.1.1.1.1; omega
  ·split at h
   ·simp only [Bool.and_eq_true, decide_eq_true_eq] at h
    have := h.1.1.1.1; omega
   ·split at h
    ·simp only [Bool.and_eq_true, decide_eq_true_eq] at h
     have := h.1.1.1.1.1; omega
    ·cases h
theorem any_wgt (p : Fil.FilE) : p.any.length ≤ filW p ∧ p.typ.length ≤ filW p := by unfold filW; omega
set_option maxRecDepth 100000 in
theorem fWhole_c (w0 : World) (hw : Env w0) : ∀ (d : Nat), d ≤ 20 → ∀ (l : List Fil.FilE) (v : Value) (w : World), FilsA w0 v l → Below w0.heap.size w0 w → Fil.wgt l ≤ 100000000 → NFit l →
  Calls Tryz.prog 17 #[v, .int .i64 (20 - (d : Int))] w (WholeRet w0 w (Fil.wholeF d l)) := by
 intro d
 induction d with
 | zero =>
  intro _ l v w hv hb hl hn
  obtain ⟨R, hR⟩ : ∃ R, Fil.wholeF 0 l = R := ⟨_, rfl⟩
  rw [hR]
  have hR2 : R = none := hR.symm
  subst hR2
  obtain ⟨A, c, rfl, hc⟩ := hv.isSlice
  clear hv hR hl hn
  cases l with
  | nil =>
   go_enter Tryz.func17, Tryz.ntmps17
   go_wp2_with fail
   go_ret2
   exact ⟨Below.refl _ _, rfl⟩
  | cons p t =>
   have hz : (((p :: t).length : Int) == 0) = false := by rw [beq_eq_false_iff_ne]; simp only [List.length_cons]; omega
   generalize (p :: t).length = m at *
   go_enter Tryz.func17, Tryz.ntmps17
   go_wp2_with fail
   go_ret2
   exact ⟨Below.refl _ _, rfl⟩
 | succ d ih =>
  intro hd l v w hv hb hl hn
  have hx : (20 : Int) - ((d + 1 : Nat) : Int) < 20 := by omega
  have hx0 : (0 : Int) ≤ 20 - ((d + 1 : Nat) : Int) := by omega
  have ih := ih (by omega)
  rw [show (20 : Int) - (d : Int) = (20 - ((d + 1 : Nat) : Int)) + 1 by omega] at ih
  generalize (20 : Int) - ((d + 1 : Nat) : Int) = x at *
  have hwx : IntKind.i64.wrap (x + 1) = x + 1 := IntWalk.i64_in _ (by omega)
  obtain ⟨R, hR⟩ : ∃ R, Fil.wholeF (d + 1) l = R := ⟨_, rfl⟩
  rw [hR]
  cases l with
  | nil =>
   have hR2 : R = none := hR.symm
   subst hR2
   obtain ⟨A, c, rfl⟩ := hv.nil_slice
   clear hv hR hl hn ih
   go_enter Tryz.func17, Tryz.ntmps17
   go_wp2_with fail
   go_ret2
   exact ⟨Below.refl _ _, rfl⟩
  | cons p t =>
   obtain ⟨b, o, c, va, vt, rfl, hc, ⟨c0, c1, c2, c3, c4, c5, c6⟩, hta, hsl, ht⟩ := hv.tail
   have hpn := hn p (List.mem_cons_self ..)
   have hnt : NFit t := fun q hq => hn q (List.mem_cons_of_mem _ hq)
   rw [Fil.wgt_cons] at hl
   have haw := any_wgt p
   have d0 := (hb.cell (cell_lt c0)).trans c0
   have d1 := (hb.cell (cell_lt c1)).trans c1
   have d2 := (hb.cell (cell_lt c2)).trans c2
   have d3 := (hb.cell (cell_lt c3)).trans c3
   have d4 := (hb.cell (cell_lt c4)).trans c4
   have d5 := (hb.cell (cell_lt c5)).trans c5
   have d6 := (hb.cell (cell_lt c6)).trans c6
   have hs := shape_c p va w (hw.keep hb) (hta.below hb) (by omega) (by omega)
   have hsn := fun h => shape_n (p := p) h
   have hz : ((t.length : Int) + 1 == 0) = false := by rw [beq_eq_false_iff_ne]; omega
   have hi1 : (0 : Int) < (t.length : Int) + 1 := by omega
   have hR' : R = if Fil.shapeB p then Fil.times (Fil.wholeF d) p.n.toNat t else none := by rw [← hR, Fil.wholeF]
   unfold filV at hs
   clear c0 c1 c2 c3 c4 c5 c6 hta hv hR
   cases hsb : Fil.shapeB p with
   | false =>
    rw [hsb] at hs hR'
    have hR2 : R = none := hR'
    subst hR2
    have HS := Lib.hid hs
    clear hs hR' ih hsn hsb
    go_enter Tryz.func17, Tryz.ntmps17
    go_wp2_with (go_at_call 32; (with_reducible refine HS.out.mono ?_); rintro e w1 ⟨rfl, hb1⟩)
    go_ret2
    exact ⟨hb1, rfl⟩
   | true =>
    rw [hsb] at hs hR'
    have hpn0 := hsn hsb
    have hR2 : Fil.times (Fil.wholeF d) p.n.toNat t = R := hR'.symm
    have HS := Lib.hid hs
    have HR := Lib.hid hR2
    have HT := Lib.hid ht
    have IH := Lib.hid ih
    obtain ⟨At, ct, rfl, hct⟩ := ht.isSlice
    clear hs hR' hR2 ih hsn hsb ht hn
    obtain ⟨op, n, typ, val, ini, fin, any⟩ := p
    simp only at d0 d1 d2 d3 d4 d5 d6 HR hpn hpn0 haw HS
    obtain ⟨n, rfl⟩ : ∃ N : Nat, n = N := ⟨n.toNat, by omega⟩
    rw [Int.toNat_natCast] at HR
    go_enter Tryz.func17, Tryz.ntmps17
    go_wp2_with (go_at_call 32; (with_reducible refine HS.out.mono ?_); rintro e w1 ⟨rfl, hb1⟩; have e1 := (hb1.cell (cell_lt d1)).trans d1)
    go_loopg [0, 6] (t.length + 1) (fun gk v n wr => ∃ (l' : List Fil.FilE) (m : Nat), n = .int .i64 (m : Int) ∧ Aside (FilsA w0 v l') ∧ Aside (Fil.times (Fil.wholeF d) m l' = R) ∧ Aside (l'.length + 1 ≤ gk) ∧ Aside (Fil.wgt l' ≤ 100000000) ∧ Aside (NFit l') ∧ Aside ((m : Int) ≤ 9223372036854775807) ∧ Aside (Below w.heap.size w wr))
    case atStart => exact ⟨t, n, rfl, HT.out, HR.out, Nat.le_refl _, by show _ ≤ _; omega, hnt, hpn, hb1⟩
    case round =>
     clear hb1 e1 HR HT HS hsl
     obtain ⟨l', m, rfl, AF, AR, AG, AW, AN, AM, AB⟩ := hrel
     obtain ⟨A', c', rfl, hc'⟩ := AF.out.isSlice
     cases m with
     | zero =>
      have hR2 : R = some l' := AR.out.symm
      subst hR2
      go_wp2_with fail
      go_ret2
      exact ⟨AB.out, _, rfl, AF.out⟩
     | succ m =>
      have hm0 : (0 : Int) < ((m + 1 : Nat) : Int) := by omega
      have hwm : IntKind.i64.wrap (((m + 1 : Nat) : Int) - 1) = (m : Int) := by have := AM.out; rw [IntWalk.i64_in _ (by omega)]; omega
      have HM2 : Hid ((m : Int) ≤ 9223372036854775807) := Lib.hid (by have h := AM.out; omega)
      have hwm2 : wrap64 (m : Int) = (m : Int) := by
       have h := AM.out
       exact IntWalk.wrap64_in _ (by omega)
      have HI := Lib.hid (IH.out l' (.slice A' l'.length c') wr AF.out (hb.trans (AB.out.mono hb.size)) AW.out AN.out)
      have AR2 : Aside (R = (Fil.wholeF d l').bind (Fil.times (Fil.wholeF d) m)) := AR.out.symm
      obtain ⟨q, rfl⟩ : ∃ q, gk = q + 1 := ⟨gk - 1, by have := AG.out; omega⟩
      clear AR
      cases hw2 : Fil.wholeF d l' with
      | none =>
       rw [hw2] at HI
       have hR2 : R = none := by rw [AR2.out, hw2]; rfl
       subst hR2
       go_wp2_with (go_at_call 17; (with_reducible refine HI.out.mono ?_); rintro e w2 ⟨hb2, rfl⟩)
       go_ret2
       exact ⟨AB.out.trans (hb2.mono AB.out.size), rfl⟩
      | some l2 =>
       rw [hw2] at HI
       have AR3 : Aside (Fil.times (Fil.wholeF d) m l2 = R) := by show _ = _; rw [AR2.out, hw2]; rfl
       have hlen := (Fil.whole_suf d l' l2 hw2).1
       have hwg := Fil.whole_wgt hw2
       obtain ⟨_, cc, hcc⟩ := Fil.whole_suf d l' l2 hw2
       have hN2 : NFit l2 := fun q hq => AN.out q (by rw [hcc]; exact List.mem_append_right _ hq)
       have HN2 := Lib.hid hN2
       clear hcc hN2
       go_wp2_with (go_at_call 17; (with_reducible refine HI.out.mono ?_); rintro e w2 ⟨hb2, v2, rfl, hf2⟩)
       go_roundg q
       case measure => omega
       case rel => exact ⟨l2, m, congrArg (Value.int IntKind.i64) hwm2, hf2, AR3.out, by have := AG.out; show _ ≤ _; omega, by have := AW.out; show _ ≤ _; omega, HN2.out, HM2.out, AB.out.trans (hb2.mono AB.out.size)⟩
set_option maxRecDepth 100000 in
theorem fValid_c (l : List Fil.FilE) (v : Value) (w : World) (hw : Env w) (hv : FilsA w v l) (hl : Fil.wgt l ≤ 100000000) (hn : NFit l) :
  Calls Tryz.prog 9 #[v] w fun e w' => e = .returned (.bool (Fil.validF l)) ∧ Below w.heap.size w w' := by
 have hW := fWhole_c w hw 20 (Nat.le_refl _) l v w hv (Below.refl _ _) hl hn
 rw [show (20 : Int) - ((20 : Nat) : Int) = 0 from rfl] at hW
 obtain ⟨R, hR⟩ : ∃ R, Fil.validF l = R := ⟨_, rfl⟩
 rw [hR]
 unfold Fil.validF at hR
 have hll := Fil.wgt_len l
 obtain ⟨A, c, rfl, hc⟩ := hv.isSlice
 clear hv hn
 by_cases h100 : l.length ≤ 100
 ·rw [decide_eq_true h100, Bool.true_and] at hR
  have hi : ¬ ((l.length : Int) > 100) := by omega
  cases hw2 : Fil.wholeF 20 l with
  | none =>
   rw [hw2] at hW hR
   have hR2 : R = false := hR.symm
   subst hR2
   have HW := Lib.hid hW
   clear hW hR
   go_enter Tryz.func9, Tryz.ntmps9
   go_wp2_with (go_at_call 17; (with_reducible refine HW.out.mono ?_); rintro e w2 ⟨hb2, rfl⟩)
   go_ret
   exact ⟨rfl, hb2⟩
  | some r =>
   rw [hw2] at hW hR
   have HW := Lib.hid hW
   clear hW
   have hRe : (((r.length : Int)) == 0) = R := by
    rw [← hR]
    cases r with
    | nil => rfl
    | cons a r => rw [show ((((a :: r).length : Nat) : Int) == 0) = false from by rw [beq_eq_false_iff_ne]; simp only [List.length_cons]; omega]; rfl
   clear hR
   go_enter Tryz.func9, Tryz.ntmps9
   go_wp2_with (go_at_call 17; (with_reducible refine HW.out.mono ?_); rintro e w2 ⟨hb2, v2, rfl, hf2⟩; obtain ⟨A2, c2, rfl, hc2⟩ := hf2.isSlice)
   go_ret
   exact ⟨rfl, hb2⟩
 ·rw [decide_eq_false h100, Bool.false_and] at hR
  subst hR
  have hi : (l.length : Int) > 100 := by omega
  go_enter Tryz.func9, Tryz.ntmps9
  go_wp2_with fail
  go_ret
  exact ⟨rfl, Below.refl _ _⟩
open Go.RowKit
def filCaught : List PanicEntry := [{ v := .iface 24 (.int .i64 60), recovered := true }]
set_option maxRecDepth 10000 in
theorem fParse1_panicking (g h : Nat) (w : World) (v1 v2 : Value) (hc1 : w.cell? ⟨g, 0, none⟩ = some v1) (hc2 : w.cell? ⟨h, 0, none⟩ = some v2) (hz1 : w.frozen? ⟨g, 0, none⟩ = false) (hz2 : w.frozen? ⟨h, 0, none⟩ = false) (hne : g ≠ h) :
  CallsD Tryz.prog 14 #[.pointer (some ⟨g, 0, none⟩), .pointer (some ⟨h, 0, none⟩)] (.panicking filPanic) w fun e u' w' =>
   e = .returned (.tuple #[]) ∧ u' = .panicking filCaught ∧ w' = (w.setCell ⟨g, 0, none⟩ (.slice none 0 0)).setCell ⟨h, 0, none⟩ (.int .i64 60) := by
 refine callsD_of_wpS Tryz.func14 rfl fun c₀ cs hu => ?_
 apply wpS_seq
 apply wpS_region
 simp [wpOpsS, go_sem, recoverD, hu, filPanic, Tryz.ntmps14, Exit.thenS]
 refine wpS_of_wp ?_
 have hrep : (Array.replicate 15 undef : Array Value) = #[undef, undef, undef, undef, undef, undef, undef, undef, undef, undef, undef, undef, undef, undef, undef] := rfl
 simp only [hrep, List.setIfInBounds_toArray, List.append_toArray, List.cons_append, List.nil_append, List.set_cons_zero, List.set_cons_succ]
 have hta : ∀ W : World, (Instr.typeAssert (.iface 24 (.int .i64 60)) 20 24 true).run Tryz.prog W = .ok (.tuple #[.int .i64 60, .bool true]) W := fun W => by kernel_rfl
 have hc3 : (w.setCell ⟨g, 0, none⟩ (.slice none 0 0)).cell? ⟨h, 0, none⟩ = some v2 := by rw [show (w.setCell ⟨g, 0, none⟩ (.slice none 0 0)).cell? ⟨h, 0, none⟩ = w.cell? ⟨h, 0, none⟩ from World.cell?_of_block (Below.heap_setCell _ _ _ _ (Ne.symm hne))]; exact hc2
 have hz3 : (w.setCell ⟨g, 0, none⟩ (.slice none 0 0)).frozen? ⟨h, 0, none⟩ = false := (World.frozen?_setCell _ _ _ _).trans hz2
 go_wp2_with fail
 simp [bodyPostS, results, Tryz.results14, filCaught]
set_option maxRecDepth 10000 in
theorem fParse1_idle (g h : Nat) (w : World) :
  CallsD Tryz.prog 14 #[.pointer (some ⟨g, 0, none⟩), .pointer (some ⟨h, 0, none⟩)] .returning w fun e u' w' => e = .returned (.tuple #[]) ∧ u' = .returning ∧ w' = w := by
 refine callsD_of_wpS Tryz.func14 rfl fun c₀ cs hu => ?_
 apply wpS_seq
 apply wpS_region
 simp [wpOpsS, go_sem, recoverD, hu, Tryz.ntmps14, Exit.thenS]
 refine wpS_of_wp ?_
 have hrep : (Array.replicate 15 undef : Array Value) = #[undef, undef, undef, undef, undef, undef, undef, undef, undef, undef, undef, undef, undef, undef, undef] := rfl
 simp only [hrep, List.setIfInBounds_toArray, List.append_toArray, List.cons_append, List.nil_append, List.set_cons_zero, List.set_cons_succ]
 go_wp2_with fail
 cases c₀
 simp_all [bodyPostS, results, Tryz.results14]
def FParseRet (w : World) (r : List Fil.FilE × Int) (e : Ending) (w' : World) : Prop :=
 Below w.heap.size w w' ∧ ∃ v, e = .returned (.tuple #[v, .int .i64 r.2]) ∧ FilsA w' v r.1
theorem FilsA.nil (w : World) : FilsA w (.slice none 0 0) [] := ⟨[], rfl, ⟨none, 0, rfl, Nat.le_refl _, fun j hj => absurd hj (by simp)⟩, fun q hq => by cases hq⟩
theorem fParse_out {w W : World} {tmps : Array Value} {g h : Nat} {v : Value} {x : Int} {d : List Fil.FilE} (hb : Below w.heap.size w W)
  (c1 : W.cell? ⟨g, 0, none⟩ = some v) (c2 : W.cell? ⟨h, 0, none⟩ = some (.int .i64 x)) (t2 : tmps[2]? = some (.pointer (some ⟨g, 0, none⟩))) (t3 : tmps[3]? = some (.pointer (some ⟨h, 0, none⟩)))
  (hd : FilsA W v d) : Leaves Tryz.prog Tryz.f7 tmps (FParseRet w (d, x)) [] .returning W := by
 have e2 : tmps[2]?.getD undef = .pointer (some ⟨g, 0, none⟩) := by rw [t2]; rfl
 have e3 : tmps[3]?.getD undef = .pointer (some ⟨h, 0, none⟩) := by rw [t3]; rfl
 refine ⟨.tuple #[v, .int .i64 x], ?_, hb, v, rfl, hd⟩
 simp [results, Tryz.results7, go_sem, e2, e3, c1, c2]
theorem RdF.fils {N p : Nat} {w : World} {s : List UInt8} {v : Value} {qs : List FilQ} (h : RdF N p w s v qs) : FilsA w v (qs.map (·.1)) := ⟨qs, rfl, h.own.reads, h.any.ok⟩
theorem fils_set {N p g : Nat} {w : World} {s : List UInt8} {v u : Value} {qs : List FilQ} {t : TypeId} {cs : Array Value} (h : RdF N p w s v qs) (hg : g < p) (hk : Bk w g t cs) (ht : t ≠ 9) : RdF N p (w.setCell ⟨g, 0, none⟩ u) s v qs := by
 have hgr := setCell_grown w g 0 u
 exact ⟨h.at_.grown hgr (fun e => by cases e; omega), h.own.keep2 hgr (fun k hk2 e => by have := (h.own.lt k hk2).1; cases e; omega), h.any.far hk ht hgr, h.lim⟩
set_option maxRecDepth 100000 in
theorem fParse_c (s : List UInt8) (w : World) (hw : Env w) :
  Calls Tryz.prog 7 #[.string ⟨s.toArray⟩] w (FParseRet w (Fil.parseF s)) := by
 have hmf : ∀ (fn : Fn) (first cap : Array Value) (w : World), (Instr.makeFunc fn first cap).run Tryz.prog w = .ok (.func fn first cap) w := fun _ _ _ _ => rfl
 by_cases hlen : 65536 < s.length
 ·have hR : Fil.parseF s = ([], 2) := by unfold Fil.parseF; rw [if_pos hlen]
  rw [hR]
  clear hR
  have hli : (s.length : Int) > 65536 := by omega
  go_enter_defers Tryz.func7, Tryz.ntmps7
  go_wp2_with fail
  have hb : Below w.heap.size w ((w.alloc (.cells #[.slice none 0 0] 22)).alloc (.cells #[.int .i64 2] 24)) :=
   ((Below.refl _ _).alloc (Nat.le_refl _) _).alloc (by simp) _
  refine fParse_out (g := w.heap.size) (h := w.heap.size + 1) (v := .slice none 0 0) hb ?_ ?_ rfl rfl ?_
  ·simp [go_sem]
  ·simp [go_sem]
  ·exact FilsA.nil _
 ·have hb : Below w.heap.size w (((w.alloc (.cells #[.slice none 0 0] 22)).alloc (.cells #[.int .i64 0] 24)).alloc (.cells #[.string ⟨s.toArray⟩, .slice none 0 0] 49)) :=
   (((Below.refl _ _).alloc (Nat.le_refl _) _).alloc (by simp) _).alloc (by simp; omega) _
  have hz : (zeroValue 49).run Tryz.prog ((w.alloc (.cells #[.slice none 0 0] 22)).alloc (.cells #[.int .i64 0] 24)) = .ok (.agg #[.string ⟨#[]⟩, .slice none 0 0]) ((w.alloc (.cells #[.slice none 0 0] 22)).alloc (.cells #[.int .i64 0] 24)) := by kernel_rfl
  have k1 : Bk (((w.alloc (.cells #[.slice none 0 0] 22)).alloc (.cells #[.int .i64 0] 24)).alloc (.cells #[.string ⟨s.toArray⟩, .slice none 0 0] 49)) w.heap.size 22 #[.slice none 0 0] := ((Bk.new w _ _).alloc _).alloc _
  have k2 : Bk (((w.alloc (.cells #[.slice none 0 0] 22)).alloc (.cells #[.int .i64 0] 24)).alloc (.cells #[.string ⟨s.toArray⟩, .slice none 0 0] 49)) (w.heap.size + 1) 24 #[.int .i64 0] := by
   have := Bk.new (w.alloc (.cells #[.slice none 0 0] 22)) 24 #[.int .i64 0]
   rw [show (w.alloc (.cells #[.slice none 0 0] 22)).heap.size = w.heap.size + 1 by simp] at this
   exact this.alloc _
  have k3 : Bk (((w.alloc (.cells #[.slice none 0 0] 22)).alloc (.cells #[.int .i64 0] 24)).alloc (.cells #[.string ⟨s.toArray⟩, .slice none 0 0] 49)) (w.heap.size + 1 + 1) 49 #[.string ⟨s.toArray⟩, .slice none 0 0] := by
   have := Bk.new ((w.alloc (.cells #[.slice none 0 0] 22)).alloc (.cells #[.int .i64 0] 24)) 49 #[.string ⟨s.toArray⟩, .slice none 0 0]
   rw [show ((w.alloc (.cells #[.slice none 0 0] 22)).alloc (.cells #[.int .i64 0] 24)).heap.size = w.heap.size + 1 + 1 by simp] at this
   exact this
  have hsz : (((w.alloc (.cells #[.slice none 0 0] 22)).alloc (.cells #[.int .i64 0] 24)).alloc (.cells #[.string ⟨s.toArray⟩, .slice none 0 0] 49)).heap.size = w.heap.size + 3 := by simp
  have hli : ¬ (s.length : Int) > 65536 := by omega
  go_enter_defers Tryz.func7, Tryz.ntmps7
  generalize hW : (((w.alloc (.cells #[.slice none 0 0] 22)).alloc (.cells #[.int .i64 0] 24)).alloc (.cells #[.string ⟨s.toArray⟩, .slice none 0 0] 49)) = W at hb k1 k2 k3 hsz
  have hRd : RdF W.heap.size (w.heap.size + 1 + 1) W s (.slice none 0 0) [] := ⟨k3, OwnFl.nil (by omega), FQT.nil _, fun q hq => by cases hq⟩
  have hN := fFilter_c (w.heap.size + 1 + 1) 20 (Nat.le_refl _) _ s _ _ W hRd (by omega)
  rw [show (20 : Int) - ((20 : Nat) : Int) = 0 from rfl] at hN
  simp only [List.length_nil] at hN
  rcases hn : Fil.filF 20 0 s with _ | ⟨l, r⟩
  ·have hR : Fil.parseF s = ([], 60) := by unfold Fil.parseF; rw [if_neg hlen, hn]
   rw [hn] at hN
   rw [hR]
   clear hR hn
   go_wp2_with (go_at_call 15; rw [hW])
   refine hN.mono ?_
   rintro e w1 ⟨h1, rfl⟩
   show Leaves _ _ _ _ _ _ _
   refine leaves_cons (u := .panicking filPanic) (fv := .func 14) (cap := #[.pointer (some ⟨w.heap.size, 0, none⟩), .pointer (some ⟨w.heap.size + 1, 0, none⟩)]) (dargs := #[]) (f := 14) (args := #[.pointer (some ⟨w.heap.size, 0, none⟩), .pointer (some ⟨w.heap.size + 1, 0, none⟩)]) (by simp) (by simp [go_sem]) ?_
   have j1 : Bk w1 w.heap.size 22 #[.slice none 0 0] := (h1.block _ (by omega)).trans k1
   have j2 : Bk w1 (w.heap.size + 1) 24 #[.int .i64 0] := (h1.block _ (by omega)).trans k2
   refine (fParse1_panicking w.heap.size (w.heap.size + 1) w1 _ _ (j1.cell 0) (j2.cell 0) (j1.frozen 0) (j2.frozen 0) (by omega)).mono ?_
   rintro e u' w'' ⟨rfl, rfl, rfl⟩
   have b1 : Below w.heap.size w w1 := hb.trans (h1.mono (by omega))
   have b2 : Below w.heap.size w ((w1.setCell ⟨w.heap.size, 0, none⟩ (.slice none 0 0)).setCell ⟨w.heap.size + 1, 0, none⟩ (.int .i64 60)) := (b1.setCell (Nat.le_refl _) _).setCell (by simp) _
   have l1 := (j1.set 0 (.slice none 0 0)).far (g' := w.heap.size + 1) (i := 0) (by omega) (.int .i64 60)
   have l2 := (j2.far (g' := w.heap.size) (i := 0) (by omega) (.slice none 0 0)).set 0 (.int .i64 60)
   exact fParse_out b2 (l1.cell 0) (l2.cell 0) rfl rfl (FilsA.nil _)
  ·have hwg := Fil.fil_wgt _ _ _ _ _ hn
   have hfit := Fil.fil_fit hn (by omega)
   rw [hn] at hN
   rcases r with _ | ⟨x, r⟩
   ·cases hv : Fil.validF l with
    | false =>
     have hR : Fil.parseF s = ([], 60) := by unfold Fil.parseF; rw [if_neg hlen, hn]; simp [hv]
     rw [hR]
     clear hR hn
     go_wp2_with (go_at_call 15; rw [hW])
     refine hN.mono ?_
     rintro e w1 ⟨h1, rfl, v', ys, hys, hR1⟩
     rw [List.nil_append] at hR1
     subst hys
     have b1 : Below w.heap.size w w1 := hb.trans (h1.mono (by omega))
     have j1 : Bk w1 w.heap.size 22 #[.slice none 0 0] := (h1.block _ (by omega)).trans k1
     have j2 : Bk w1 (w.heap.size + 1) 24 #[.int .i64 0] := (h1.block _ (by omega)).trans k2
     have hV := fValid_c _ v' w1 (hw.keep b1) hR1.fils (by omega) hfit
     rw [hv] at hV
     obtain ⟨A, c, rfl, hc⟩ := hR1.own.isSlice
     obtain ⟨q0, q1, _, _⟩ := hR1.cells
     have HV := Lib.hid hV
     clear hV
     go_wp2_with (go_at_call 9; refine HV.out.mono ?_; rintro e w2 ⟨rfl, hb2⟩; have i1 := j1.below hb2; have i2 := j2.below hb2; have f1 := i1.frozen 0; have f2 := i2.frozen 0; have f3 := (i2.far (g' := w.heap.size) (i := 0) (by omega) (.slice none 0 0)).frozen 0; have d1 := i1.cell 0; have d2 := i2.cell 0; have d3 := (i2.far (g' := w.heap.size) (i := 0) (by omega) (.slice none 0 0)).cell 0; have q2 := (hb2.cell (cell_lt q1)).trans q1)
     refine leaves_cons (u := .returning) (fv := .func 14) (cap := #[.pointer (some ⟨w.heap.size, 0, none⟩), .pointer (some ⟨w.heap.size + 1, 0, none⟩)]) (dargs := #[]) (f := 14) (args := #[.pointer (some ⟨w.heap.size, 0, none⟩), .pointer (some ⟨w.heap.size + 1, 0, none⟩)]) (by simp) (by simp [go_sem]) ?_
     refine (fParse1_idle w.heap.size (w.heap.size + 1) _).mono ?_
     rintro e u' w'' ⟨rfl, rfl, rfl⟩
     have b2 : Below w.heap.size w w2 := b1.trans (hb2.mono b1.size)
     have b3 : Below w.heap.size w ((w2.setCell ⟨w.heap.size, 0, none⟩ (.slice none 0 0)).setCell ⟨w.heap.size + 1, 0, none⟩ (.int .i64 60)) := (b2.setCell (Nat.le_refl _) _).setCell (by simp) _
     have l1 := (i1.set 0 (.slice none 0 0)).far (g' := w.heap.size + 1) (i := 0) (by omega) (.int .i64 60)
     have l2 := (i2.far (g' := w.heap.size) (i := 0) (by omega) (.slice none 0 0)).set 0 (.int .i64 60)
     exact fParse_out b3 (l1.cell 0) (l2.cell 0) rfl rfl (FilsA.nil _)
    | true =>
     have hR : Fil.parseF s = (l, 0) := by unfold Fil.parseF; rw [if_neg hlen, hn]; simp [hv]
     rw [hR]
     clear hR hn
     go_wp2_with (go_at_call 15; rw [hW])
     refine hN.mono ?_
     rintro e w1 ⟨h1, rfl, v', ys, hys, hR1⟩
     rw [List.nil_append] at hR1
     subst hys
     have b1 : Below w.heap.size w w1 := hb.trans (h1.mono (by omega))
     have j1 : Bk w1 w.heap.size 22 #[.slice none 0 0] := (h1.block _ (by omega)).trans k1
     have j2 : Bk w1 (w.heap.size + 1) 24 #[.int .i64 0] := (h1.block _ (by omega)).trans k2
     have hV := fValid_c _ v' w1 (hw.keep b1) hR1.fils (by omega) hfit
     rw [hv] at hV
     obtain ⟨A, c, rfl, hc⟩ := hR1.own.isSlice
     obtain ⟨q0, q1, _, _⟩ := hR1.cells
     have HV := Lib.hid hV
     clear hV
     go_wp2_with (go_at_call 9; refine HV.out.mono ?_; rintro e w2 ⟨rfl, hb2⟩; have i1 := j1.below hb2; have i2 := j2.below hb2; have f1 := i1.frozen 0; have f2 := i2.frozen 0; have f3 := (i2.far (g' := w.heap.size) (i := 0) (by omega) (.slice A ys.length c)).frozen 0; have d1 := i1.cell 0; have d2 := i2.cell 0; have d3 := (i2.far (g' := w.heap.size) (i := 0) (by omega) (.slice A ys.length c)).cell 0; have q2 := (hb2.cell (cell_lt q1)).trans q1)
     refine leaves_cons (u := .returning) (fv := .func 14) (cap := #[.pointer (some ⟨w.heap.size, 0, none⟩), .pointer (some ⟨w.heap.size + 1, 0, none⟩)]) (dargs := #[]) (f := 14) (args := #[.pointer (some ⟨w.heap.size, 0, none⟩), .pointer (some ⟨w.heap.size + 1, 0, none⟩)]) (by simp) (by simp [go_sem]) ?_
     refine (fParse1_idle w.heap.size (w.heap.size + 1) _).mono ?_
     rintro e u' w'' ⟨rfl, rfl, rfl⟩
     have b2 : Below w.heap.size w w2 := b1.trans (hb2.mono b1.size)
     have b3 : Below w.heap.size w ((w2.setCell ⟨w.heap.size, 0, none⟩ (.slice A ys.length c)).setCell ⟨w.heap.size + 1, 0, none⟩ (.int .i64 0)) := (b2.setCell (Nat.le_refl _) _).setCell (by simp) _
     have l1 := (i1.set 0 (.slice A ys.length c)).far (g' := w.heap.size + 1) (i := 0) (by omega) (.int .i64 0)
     have l2 := (i2.far (g' := w.heap.size) (i := 0) (by omega) (.slice A ys.length c)).set 0 (.int .i64 0)
     have m1 := fils_set (u := (.slice A ys.length c)) (hR1.below hb2) (by omega : w.heap.size < w.heap.size + 1 + 1) i1 (by decide)
     have m2 := fils_set (u := .int .i64 0) m1 (by omega : w.heap.size + 1 < w.heap.size + 1 + 1) (i2.far (g' := w.heap.size) (i := 0) (by omega) (.slice A ys.length c)) (by decide)
     exact fParse_out b3 (l1.cell 0) (l2.cell 0) rfl rfl m2.fils
   ·skip
    have hR : Fil.parseF s = ([], 60) := by unfold Fil.parseF; rw [if_neg hlen, hn]; simp
    rw [hR]
    clear hR hn
    go_wp2_with (go_at_call 15; rw [hW])
    refine hN.mono ?_
    rintro e w1 ⟨h1, rfl, v', ys, hys, hR1⟩
    rw [List.nil_append] at hR1
    subst hys
    have b1 : Below w.heap.size w w1 := hb.trans (h1.mono (by omega))
    have j1 : Bk w1 w.heap.size 22 #[.slice none 0 0] := (h1.block _ (by omega)).trans k1
    have j2 : Bk w1 (w.heap.size + 1) 24 #[.int .i64 0] := (h1.block _ (by omega)).trans k2
    have hV := fValid_c _ v' w1 (hw.keep b1) hR1.fils (by omega) hfit
    obtain ⟨A, c, rfl, hc⟩ := hR1.own.isSlice
    obtain ⟨q0, q1, _, _⟩ := hR1.cells
    have i1 := j1; have i2 := j2; have f1 := i1.frozen 0; have f2 := i2.frozen 0; have f3 := (i2.far (g' := w.heap.size) (i := 0) (by omega) (.slice none 0 0)).frozen 0; have d1 := i1.cell 0; have d2 := i2.cell 0; have d3 := (i2.far (g' := w.heap.size) (i := 0) (by omega) (.slice none 0 0)).cell 0
    clear hV
    go_wp2_with fail
    refine leaves_cons (u := .returning) (fv := .func 14) (cap := #[.pointer (some ⟨w.heap.size, 0, none⟩), .pointer (some ⟨w.heap.size + 1, 0, none⟩)]) (dargs := #[]) (f := 14) (args := #[.pointer (some ⟨w.heap.size, 0, none⟩), .pointer (some ⟨w.heap.size + 1, 0, none⟩)]) (by simp) (by simp [go_sem]) ?_
    refine (fParse1_idle w.heap.size (w.heap.size + 1) _).mono ?_
    rintro e u' w'' ⟨rfl, rfl, rfl⟩
    have b2 := b1
    have b3 : Below w.heap.size w ((w1.setCell ⟨w.heap.size, 0, none⟩ (.slice none 0 0)).setCell ⟨w.heap.size + 1, 0, none⟩ (.int .i64 60)) := (b2.setCell (Nat.le_refl _) _).setCell (by simp) _
    have l1 := (i1.set 0 (.slice none 0 0)).far (g' := w.heap.size + 1) (i := 0) (by omega) (.int .i64 60)
    have l2 := (i2.far (g' := w.heap.size) (i := 0) (by omega) (.slice none 0 0)).set 0 (.int .i64 60)
    exact fParse_out b3 (l1.cell 0) (l2.cell 0) rfl rfl (FilsA.nil _)
end Go.Proofs.YtconnibnpckadaaGreatDoor
