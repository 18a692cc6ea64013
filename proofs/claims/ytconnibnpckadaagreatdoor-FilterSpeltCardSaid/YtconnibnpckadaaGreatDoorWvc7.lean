import Derived.Test.YtconnibnpckadaaGreatDoorWvc6
set_option linter.all false
set_option maxHeartbeats 8000000
set_option maxRecDepth 100000
namespace Go.Proofs.YtconnibnpckadaaGreatDoor
open Go.RowKit
theorem eq_kvS (W : World) (a b : Bool × List UInt8) : (Op.equal 96 (kvS a) (kvS b)).run Tryz.prog W = .ok (decide (a = b)) W := by
 obtain ⟨p, a⟩ := a
 obtain ⟨q, b⟩ := b
 have u9 := Tryz.underlying9
 have a9 := Tryz.isAgg9
 have z9 := Tryz.sizeOf9
 have u4 := Tryz.underlying4
 have a4 := Tryz.isAgg4
 have z4 := Tryz.sizeOf4
 have hS : Tryz.prog.underlying 96 = some (.struct (Tryz.prog.fieldsOf 96)) := by kernel_rfl
 have hp : Tryz.prog.stoodInHeld 96 = false := by kernel_rfl
 unfold Op.equal Op.maxDepth kvS
 rw [run_equalIn_agg W 9999 96 _ _ hS hp]
 simp only [Program.fieldsOf, Tryz.underlying96]
 go_simp
 by_cases h1 : a = b <;> by_cases h2 : p = q <;> simp [h1, h2]
theorem check_kvS (b : Bool) (w : World) (k : Bool × List UInt8) : (Instr.checkKey b 10000 96 (kvS k)).run Tryz.prog w = .ok () w := by
 unfold kvS
 kernel_rfl
theorem finds_kvS : Finds Tryz.prog 96 kvS := finds_asking Tryz.underlying96 (fun a b => by simp [Instr.sameNow]) eq_kvS
theorem look_kvS (w : World) (m c : Nat) (es : Array MapEntry) (R : List ((Bool × List UInt8) × Value)) (hw : w.heap[m]? = some (.map es c)) (h : MapR kvS es R) (k : Bool × List UInt8) :
  (Instr.lookup 54 (.map (some m)) (kvS k) false).run Tryz.prog w = .ok ((look R k).getD (.pointer none)) w :=
 map_look Tryz.underlying54 finds_kvS check_kvS (fun w => by kernel_rfl) w m c es R hw h k
theorem below_undrew {w w' : World} (h : Below w.drew.heap.size w.drew w') : Below w.heap.size w w' := ⟨h.os, h.tape, h.output, h.size, h.block⟩
def findV (ps : List Nat) (o : Option Nat) : Value := match o with
 | none => .pointer none
 | some j => ptrV (ps.getD j 0)
set_option maxRecDepth 100000 in
theorem find_map (s m c : Nat) (lv : Value) (es : Array MapEntry) (R : List ((Bool × List UInt8) × Value)) (cl : Bool) (n : List UInt8) (w : World) (hB : Bk w s 57 #[lv, .map (some m)]) (hm : w.heap[m]? = some (.map es c)) (h : MapR kvS es R) (hn : n.length ≤ 140737488351232) :
  Calls Tryz.prog 42 #[ptrV s, .bool cl, .string ⟨n.toArray⟩] w fun e w' => e = .returned ((look R (cl, smallL n)).getD (.pointer none)) ∧ Below w.heap.size w w' := by
 have c1 : w.cell? ⟨s, 1, none⟩ = some (.map (some m)) := hB.cell 1
 have hlt := hB.lt
 have HLK := Lib.hid (fun (W : World) (hb : Below w.heap.size w W) => look_kvS W m c es R ((hb.block m (Array.getElem?_eq_some_iff.1 hm).1).trans hm) h (cl, smallL n))
 unfold kvS at HLK
 generalize (look R (cl, smallL n)).getD (.pointer none) = V at HLK ⊢
 clear hm h hB
 unfold ptrV
 go_enter Tryz.func42, Tryz.ntmps42
 go_wp2_with fail
 go_region_held3 (fun w' => w'.cell? ⟨s, 1, none⟩ = some (.map (some m))) (first | exact c1 | exact c1') ((go_at_call 39; refine (Small_c n _ (by omega)).mono ?_; rintro e w2 ⟨rfl, hb2x⟩; have hb2 := below_undrew hb2x; clear hb2x; have c1' : w2.cell? ⟨s, 1, none⟩ = some (.map (some m)) := (hb2.cell (p := ⟨s, 1, none⟩) hlt).trans c1; have hlk := HLK.out w2 hb2))
 all_goals
  go_wp2_with fail
  go_ret
  exact ⟨rfl, hb2⟩
theorem find_cW (s : Nat) (ps : List Nat) (L : List DefS) (c : Bool) (n : List UInt8) (w : World) (h : SchAt w s ps L) (hn : n.length ≤ 140737488351232) :
  Calls Tryz.prog 42 #[ptrV s, .bool c, .string ⟨n.toArray⟩] w fun e w' => e = .returned (findV ps (findD L c n)) ∧ Below w.heap.size w w' := by
 obtain ⟨⟨lv, m, es, cn, h1, h2, h3, h4⟩, h5, h6, h7⟩ := h
 have := find_map s m cn lv es _ c n w h1 h3 h4 hn
 rw [look_keys ps L h5 c n] at this
 cases hf : findD L c n <;> rw [hf] at this <;> exact this
theorem find_c (s : Nat) (ps : List Nat) (L : List DefS) (c : Bool) (n : List UInt8) (w : World) (h : SchAt w s ps L) (hn : n.length ≤ 1000000) :
  Calls Tryz.prog 42 #[ptrV s, .bool c, .string ⟨n.toArray⟩] w fun e w' => e = .returned (findV ps (findD L c n)) ∧ Below w.heap.size w w' :=
 find_cW s ps L c n w h (Nat.le_trans hn (by decide))
theorem dname_c (p : Nat) (d : DefS) (w : World) (h : DefAt w p d) : Calls Tryz.prog 91 #[ptrV p] w fun e w' => e = .returned (.string ⟨d.name.toArray⟩) ∧ w = w' := by
 obtain ⟨vn, vs, vm, vy, hB, h2, _⟩ := h
 have c1 : w.cell? ⟨p, 1, none⟩ = some (.string ⟨d.oid.toArray⟩) := hB.cell 1
 have c2 : w.cell? ⟨p, 2, none⟩ = some vn := hB.cell 2
 clear hB
 unfold ptrV DefS.name
 cases hn : d.names with
 | nil =>
  rw [hn] at h2
  rcases h2 with ⟨_, rfl⟩ | ⟨b, c, rfl, hc, hlt, hx⟩
  ·go_enter Tryz.func91, Tryz.ntmps91
   go_wp2_with fail
   go_ret
   exact ⟨rfl, rfl⟩
  ·clear hx
   simp only [List.length_nil] at c2
   go_enter Tryz.func91, Tryz.ntmps91
   go_wp2_with fail
   go_ret
   exact ⟨rfl, rfl⟩
 | cons x t =>
  rw [hn] at h2
  obtain ⟨b, c, rfl, hc, hlt, hx⟩ := h2.cons
  have c3 := hx.out 0 (by simp)
  simp only [List.getElem_cons_zero] at c3
  have hl : (x :: t).length = t.length + 1 := rfl
  rw [hl] at c2 hc
  have hl0 : (0 : Int) < (t.length : Int) + 1 := by omega
  clear hx hl
  go_enter Tryz.func91, Tryz.ntmps91
  go_wp2_with fail
  go_ret
  exact ⟨rfl, rfl⟩
theorem kind_cases (s : List UInt8) : s = wAbstract ∨ s = wStructural ∨ s = wAuxiliary ∨ ((s == wAbstract) = false ∧ (s == wStructural) = false ∧ (s == wAuxiliary) = false ∧ kindL s = -1) := by
 by_cases h0 : s = wAbstract
 ·exact .inl h0
 by_cases h1 : s = wStructural
 ·exact .inr (.inl h1)
 by_cases h2 : s = wAuxiliary
 ·exact .inr (.inr (.inl h2))
 exact .inr (.inr (.inr ⟨beq_eq_false_iff_ne.2 h0, beq_eq_false_iff_ne.2 h1, beq_eq_false_iff_ne.2 h2, by unfold kindL; rw [if_neg h0, if_neg h1, if_neg h2]⟩))
set_option maxRecDepth 100000 in
theorem kindOf_c (s : List UInt8) (w : World) : Calls Tryz.prog 37 #[.string ⟨s.toArray⟩] w fun e w' => e = .returned (.int .i64 (kindL s)) ∧ w = w' := by
 rcases kind_cases s with rfl | rfl | rfl | ⟨h0, h1, h2, h3⟩
 ·go_enter Tryz.func37, Tryz.ntmps37
  unfold wAbstract
  go_wp2_with fail
  go_ret
  exact ⟨rfl, rfl⟩
 ·go_enter Tryz.func37, Tryz.ntmps37
  unfold wStructural
  go_wp2_with fail
  go_ret
  exact ⟨rfl, rfl⟩
 ·go_enter Tryz.func37, Tryz.ntmps37
  unfold wAuxiliary
  go_wp2_with fail
  go_ret
  exact ⟨rfl, rfl⟩
 ·rw [h3]
  unfold wAbstract at h0
  unfold wStructural at h1
  unfold wAuxiliary at h2
  go_enter Tryz.func37, Tryz.ntmps37
  go_wp2_with fail
  go_ret
  exact ⟨rfl, rfl⟩
open Go.RowKit
def ReadRet (w : World) (o : Option DefS) (e : Ending) (w' : World) : Prop := Below w.heap.size w w' ∧ match o with
 | none => e = .returned (.pointer none)
 | some d => ∃ p, e = .returned (ptrV p) ∧ w.heap.size ≤ p ∧ DefAt w' p d
theorem words_no (s : List UInt8) (w : World) (hs : s.length ≤ 1000000) (hn : wordsL s = none) :
  Calls Tryz.prog 33 #[.string ⟨s.toArray⟩] w fun e w' => (∃ A n c, e = .returned (.tuple #[.slice A n c, .bool false])) ∧ Below w.heap.size w w' := by
 refine (words_c s w hs).mono ?_
 rw [hn]
 rintro e w' ⟨hb, v, rfl, hv⟩
 obtain ⟨A, c, rfl, _⟩ := hv.isSlice
 exact ⟨⟨A, _, c, rfl⟩, hb⟩
theorem words_yes (s : List UInt8) (l : List Wd) (w : World) (hs : s.length ≤ 1000000) (hn : wordsL s = some l) :
  Calls Tryz.prog 33 #[.string ⟨s.toArray⟩] w fun e w' => (∃ A c, e = .returned (.tuple #[.slice A l.length c, .bool true]) ∧ WdsR w' (.slice A l.length c) l) ∧ Below w.heap.size w w' := by
 refine (words_c s w hs).mono ?_
 rw [hn]
 rintro e w' ⟨hb, v, rfl, hv⟩
 obtain ⟨A, c, rfl, _⟩ := hv.isSlice
 exact ⟨⟨A, c, rfl, hv.reads⟩, hb⟩
theorem plain_some (r : Nat) (l t : List Wd) (s : List UInt8) (w : World) (hw : Env w) (h : RdW w r l) (hn : rPlain l = some (s, t)) :
  Calls Tryz.prog 35 #[.pointer (some ⟨r, 0, none⟩)] w fun e w' => e = .returned (.tuple #[.string ⟨s.toArray⟩, .bool true]) ∧ RdW w' r t ∧ Mods [r] w w' := by
 have hp := plain_w r l w hw h
 rw [hn] at hp
 exact hp
theorem plain_none (r : Nat) (l : List Wd) (w : World) (hw : Env w) (h : RdW w r l) (hn : rPlain l = none) :
  Calls Tryz.prog 35 #[.pointer (some ⟨r, 0, none⟩)] w fun e w' => e = .returned (.tuple #[.string ⟨#[]⟩, .bool false]) ∧ w = w' := plain_n r l w hw h hn
abbrev newDef (cls : Bool) : Obj := .cells #[.bool cls, .string ⟨#[]⟩, .slice none 0 0, .slice none 0 0, .slice none 0 0, .slice none 0 0, .string ⟨#[]⟩, .string ⟨#[]⟩, .string ⟨#[]⟩, .string ⟨#[]⟩, .bool false, .bool false, .bool false, .int .i64 1] 84
theorem start_at {w1 : World} {A : Option Addr} {c : Nat} {l : List Wd} (h : WdsR w1 (.slice A l.length c) l) (cls : Bool) :
  RdW ((w1.alloc (.cells #[.slice A l.length c] 82)).alloc (newDef cls)) w1.heap.size l ∧ DefAt ((w1.alloc (.cells #[.slice A l.length c] 82)).alloc (newDef cls)) (w1.heap.size + 1) (DefS.new cls []) ∧ Below w1.heap.size w1 ((w1.alloc (.cells #[.slice A l.length c] 82)).alloc (newDef cls)) := by
 have hb : Below w1.heap.size w1 ((w1.alloc (.cells #[.slice A l.length c] 82)).alloc (newDef cls)) := ((Below.refl _ _).alloc (Nat.le_refl _) _).alloc (by simp) _
 refine ⟨⟨_, (Bk.new w1 _ _).alloc _, h.below hb⟩, ?_, hb⟩
 have h2 := Bk.new (w1.alloc (.cells #[.slice A l.length c] 82)) 84 (defCells (DefS.new cls []) (.slice none 0 0) (.slice none 0 0) (.slice none 0 0) (.slice none 0 0))
 rw [World.size_alloc] at h2
 exact ⟨_, _, _, _, h2, .inl ⟨rfl, rfl⟩, .inl ⟨rfl, rfl⟩, .inl ⟨rfl, rfl⟩, .inl ⟨rfl, rfl⟩⟩
set_option maxRecDepth 100000 in
theorem read_nowords (s : List UInt8) (cls : Bool) (w : World) (hs : s.length ≤ 1000000) (hn : wordsL s = none) :
  Calls Tryz.prog 19 #[.string ⟨s.toArray⟩, .bool cls] w (ReadRet w none) := by
 have HW := Lib.hid (words_no s w hs hn)
 clear hn
 go_enter Tryz.func19, Tryz.ntmps19
 go_wp2_with (go_at_call 33; refine HW.out.mono ?_; rintro e w1 ⟨⟨A, n, c, rfl⟩, hb1⟩)
 go_ret
 exact ⟨(hb1.alloc hb1.size _).alloc (by have := hb1.size; simp; omega) _, rfl⟩
theorem read_world (w w1 : World) (o1 o2 : Obj) (hb : Below w.heap.size w w1) : Below w.heap.size w ((w1.alloc o1).alloc o2) := (hb.alloc hb.size _).alloc (by have := hb.size; simp; omega) _
theorem Mods.bel {w w1 w2 : World} {S : List Nat} (hb : Below w.heap.size w w1) (hm : Mods S w1 w2) (hS : ∀ x ∈ S, w.heap.size ≤ x) : Below w.heap.size w w2 := hb.trans (hm.below hb.size hS)
set_option maxRecDepth 100000 in
theorem read_notake (s : List UInt8) (cls : Bool) (l : List Wd) (w : World) (hs : s.length ≤ 1000000) (hn : wordsL s = some l) (h40 : rIs l [40] = false) :
  Calls Tryz.prog 19 #[.string ⟨s.toArray⟩, .bool cls] w (ReadRet w none) := by
 have HW := Lib.hid (words_yes s l w hs hn)
 have H40 := Lib.hid h40
 clear hn h40
 go_enter Tryz.func19, Tryz.ntmps19
 go_wp2_with (first | (go_at_call 33; refine HW.out.mono ?_; rintro e w1 ⟨⟨A, c, rfl, hx⟩, hb1⟩; have HX := Lib.hid (start_at hx cls); clear hx) | (go_at_call 34; (with_reducible refine (take_no _ l [40] _ HX.out.1 H40.out).mono ?_); rintro e w2 ⟨rfl, rfl⟩))
 go_ret
 exact ⟨read_world _ _ _ _ hb1, rfl⟩
set_option maxRecDepth 100000 in
theorem read_noplain (s : List UInt8) (cls : Bool) (l : List Wd) (w : World) (hw : Env w) (hs : s.length ≤ 1000000) (hn : wordsL s = some l) (h40 : rIs l [40] = true) (hp : rPlain l.tail = none) :
  Calls Tryz.prog 19 #[.string ⟨s.toArray⟩, .bool cls] w (ReadRet w none) := by
 have HW := Lib.hid (words_yes s l w hs hn)
 have H40 := Lib.hid h40
 have HP := Lib.hid hp
 clear hn h40 hp
 go_enter Tryz.func19, Tryz.ntmps19
 go_wp2_with (first | (go_at_call 33; refine HW.out.mono ?_; rintro e w1 ⟨⟨A, c, rfl, hx⟩, hb1⟩; have HX := Lib.hid (start_at hx cls); clear hx) | (go_at_call 34; (with_reducible refine (take_true _ l [40] _ HX.out.1 H40.out).mono ?_); rintro e w2 ⟨rfl, hr2, hg2⟩; have hb2 := Mods.bel (read_world _ _ _ _ hb1) (Mods.of_grown hg2 (List.mem_singleton_self _)) (by have := hb1.size; simpa using this)) | (go_at_call 35; (with_reducible refine (plain_none _ l.tail _ (hw.keep hb2) hr2 HP.out).mono ?_); rintro e w3 ⟨rfl, rfl⟩))
 go_ret
 exact ⟨hb2, rfl⟩
set_option maxRecDepth 100000 in
theorem read_nooid (s : List UInt8) (cls : Bool) (l t : List Wd) (oid : List UInt8) (w : World) (hw : Env w) (hs : s.length ≤ 1000000) (hn : wordsL s = some l) (h40 : rIs l [40] = true) (hp : rPlain l.tail = some (oid, t)) (ho : (isTypeL oid && digit0 oid) = false) :
  Calls Tryz.prog 19 #[.string ⟨s.toArray⟩, .bool cls] w (ReadRet w none) := by
 have hol : oid.length ≤ 1000000 := by
  obtain ⟨q, hq⟩ := rPlain_cons hp
  have := (wordsL_bound hn).1 (oid, q) (List.mem_of_mem_tail (by rw [hq]; simp))
  simp only at this
  omega
 have HW := Lib.hid (words_yes s l w hs hn)
 have H40 := Lib.hid h40
 have HP := Lib.hid hp
 have hget := ba_get
 clear hn h40 hp
 cases hT : isTypeL oid
 ·have HT := Lib.hid hT
  clear hT ho
  go_enter Tryz.func19, Tryz.ntmps19
  go_wp2_with (first | (go_at_call 33; refine HW.out.mono ?_; rintro e w1 ⟨⟨A, c, rfl, hx⟩, hb1⟩; have HX := Lib.hid (start_at hx cls); clear hx) | (go_at_call 34; (with_reducible refine (take_true _ l [40] _ HX.out.1 H40.out).mono ?_); rintro e w2 ⟨rfl, hr2, hg2⟩; have hb2 := Mods.bel (read_world _ _ _ _ hb1) (Mods.of_grown hg2 (List.mem_singleton_self _)) (by have := hb1.size; simpa using this)) | (go_at_call 35; (with_reducible refine (plain_some _ l.tail t oid _ (hw.keep hb2) hr2 HP.out).mono ?_); rintro e w3 ⟨rfl, hr3, hm3⟩; have hb3 := Mods.bel hb2 hm3 (by have := hb1.size; simpa using this)) | (go_at_call 36; refine (IsType_c oid _ (hw.keep hb3) (by omega)).mono ?_; rw [HT.out]; rintro e w4 ⟨rfl, hb4⟩))
  go_ret
  exact ⟨hb3.trans (hb4.mono hb3.size), rfl⟩
 ·rw [hT, Bool.true_and] at ho
  have HT := Lib.hid hT
  clear hT
  cases oid with
  | nil => exact absurd HT.out (by decide)
  | cons x xs =>
   have hx : (x.toNat : Int) < 48 ∨ (48 ≤ (x.toNat : Int) ∧ 57 < (x.toNat : Int)) := by
    unfold digit0 at ho
    simp only [Bool.and_eq_false_iff, decide_eq_false_iff_not, UInt8.le_iff_toNat_le] at ho
    have e1 : (48 : UInt8).toNat = 48 := rfl
    have e2 : (57 : UInt8).toNat = 57 := rfl
    omega
   have hl0 : (0 : Int) < (xs.length : Int) + 1 := by omega
   clear ho
   rcases hx with hx | ⟨hx0, hx⟩
   all_goals
    go_enter Tryz.func19, Tryz.ntmps19
    go_wp2_with (first | (go_at_call 33; refine HW.out.mono ?_; rintro e w1 ⟨⟨A, c, rfl, hx⟩, hb1⟩; have HX := Lib.hid (start_at hx cls); clear hx) | (go_at_call 34; (with_reducible refine (take_true _ l [40] _ HX.out.1 H40.out).mono ?_); rintro e w2 ⟨rfl, hr2, hg2⟩; have hb2 := Mods.bel (read_world _ _ _ _ hb1) (Mods.of_grown hg2 (List.mem_singleton_self _)) (by have := hb1.size; simpa using this)) | (go_at_call 35; (with_reducible refine (plain_some _ l.tail t (x :: xs) _ (hw.keep hb2) hr2 HP.out).mono ?_); rintro e w3 ⟨rfl, hr3, hm3⟩; have hb3 := Mods.bel hb2 hm3 (by have := hb1.size; simpa using this)) | (go_at_call 36; refine (IsType_c (x :: xs) _ (hw.keep hb3) (by omega)).mono ?_; rw [HT.out]; rintro e w4 ⟨rfl, hb4⟩))
    go_ret
    exact ⟨hb3.trans (hb4.mono hb3.size), rfl⟩
end Go.Proofs.YtconnibnpckadaaGreatDoor
