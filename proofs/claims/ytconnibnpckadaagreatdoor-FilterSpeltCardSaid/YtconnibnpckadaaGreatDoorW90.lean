import Derived.Test.YtconnibnpckadaaGreatDoorW85
import Derived.Test.YtconnibnpckadaaGreatDoorW88
import Derived.Test.YtconnibnpckadaaGreatDoorW89
set_option linter.all false
set_option maxHeartbeats 8000000
set_option maxRecDepth 100000
namespace Go.Proofs.YtconnibnpckadaaGreatDoor
open Go.RowKit
theorem shape_rows (w : World) (o n : Int) (t u i f : List UInt8) (va : Value) (X : Array Value) : ∃ W, W = (w.alloc (.cells #[.int .i64 o, .int .i64 n, .string ⟨t.toArray⟩, .string ⟨u.toArray⟩, .string ⟨i.toArray⟩, .string ⟨f.toArray⟩, va] 34)).alloc (.cells X 34) ∧ Below w.heap.size w W ∧
  Bk W w.heap.size 34 #[.int .i64 o, .int .i64 n, .string ⟨t.toArray⟩, .string ⟨u.toArray⟩, .string ⟨i.toArray⟩, .string ⟨f.toArray⟩, va] ∧ Bk W (w.heap.size + 1) 34 X := by
 have hb1 := bel_f1 w (.cells #[.int .i64 o, .int .i64 n, .string ⟨t.toArray⟩, .string ⟨u.toArray⟩, .string ⟨i.toArray⟩, .string ⟨f.toArray⟩, va] 34)
 have hk1 := Bk.new w 34 #[.int .i64 o, .int .i64 n, .string ⟨t.toArray⟩, .string ⟨u.toArray⟩, .string ⟨i.toArray⟩, .string ⟨f.toArray⟩, va]
 generalize hW1 : w.alloc (.cells #[.int .i64 o, .int .i64 n, .string ⟨t.toArray⟩, .string ⟨u.toArray⟩, .string ⟨i.toArray⟩, .string ⟨f.toArray⟩, va] 34) = W1 at *
 have hsz : W1.heap.size = w.heap.size + 1 := by rw [← hW1]; simp
 have hb2 := bel_f1 W1 (.cells X 34)
 have hk2 := Bk.new W1 34 X
 rw [hsz] at hk2
 exact ⟨_, rfl, hb1.trans (hb2.mono hb1.size), hk1.below hb2, hk2⟩
set_option maxRecDepth 100000 in
theorem shape_kids_c (p : Fil.FilE) (va : Value) (w : World) (hp : TextsA w va p.any) (hl : p.any.length ≤ 1000000000) (ho : p.op = 0 ∨ p.op = 1 ∨ p.op = 2) :
  Calls Tryz.prog 32 #[filV p va] w fun e w' => e = .returned (.bool (Fil.shapeB p)) ∧ Below w.heap.size w w' := by
 rw [Fil.shape_kids8 p ho]
 have hS := fun (W : World) (hW : Below w.heap.size w W) => fSame_c p ⟨p.op, p.n, [], [], [], [], []⟩ va (.slice none 0 0) W (hp.below hW) (.inl ⟨rfl, rfl⟩) hl
 obtain ⟨R1, hR1⟩ : ∃ R1, decide (p = ⟨p.op, p.n, [], [], [], [], []⟩) = R1 := ⟨_, rfl⟩
 rw [hR1] at hS ⊢
 obtain ⟨A, c, rfl, -⟩ := hp.at
 clear hR1 hp
 obtain ⟨o, n, t, u, i, f, y⟩ := p
 unfold filV at hS ⊢
 simp only at ho hS hl ⊢
 have HS := Lib.hid hS
 obtain ⟨W, hW, _, k1, k2⟩ := shape_rows w o n t u i f (.slice A y.length c) #[.int .i64 o, .int .i64 0, .string ⟨t.toArray⟩, .string ⟨#[]⟩, .string ⟨#[]⟩, .string ⟨#[]⟩, .slice none 0 0]
 obtain ⟨V, hV, hB, m1, m2⟩ := shape_rows w o n t u i f (.slice A y.length c) #[.int .i64 o, .int .i64 n, .string ⟨#[]⟩, .string ⟨#[]⟩, .string ⟨#[]⟩, .string ⟨#[]⟩, .slice none 0 0]
 have hB := hB.drew
 have m1 := m1.below (Below.refl _ _).drew
 have m2 := m2.below (Below.refl _ _).drew
 have a0 := k1.cell 0
 have a1 := k1.cell 1
 have a2 := k1.cell 2
 have a3 := k1.cell 3
 have a4 := k1.cell 4
 have a5 := k1.cell 5
 have a6 := k1.cell 6
 have fz := fun i => k2.frozen i
 have c0 := m1.cell 0
 have c1 := m1.cell 1
 have c2 := m1.cell 2
 have c3 := m1.cell 3
 have c4 := m1.cell 4
 have c5 := m1.cell 5
 have c6 := m1.cell 6
 have d0 := m2.cell 0
 have d1 := m2.cell 1
 have d2 := m2.cell 2
 have d3 := m2.cell 3
 have d4 := m2.cell 4
 have d5 := m2.cell 5
 have d6 := m2.cell 6
 simp only [List.getElem?_toArray, List.getElem?_cons_zero, List.getElem?_cons_succ] at a0 a1 a2 a3 a4 a5 a6 c0 c1 c2 c3 c4 c5 c6 d0 d1 d2 d3 d4 d5 d6
 have HB := Lib.hid hB
 clear k1 k2 m1 m2 hB hS
 subst hW hV
 rcases ho with rfl | rfl | rfl
 all_goals
  go_enter Tryz.func32, Tryz.ntmps32
  go_wp2_with fail
  go_region
  cases R1
  all_goals
   by_cases h0 : 0 ≤ n
   all_goals
    first
     | (go_wp2_with (go_at_call 66; (refine (HS.out _ (by exact HB.out)).mono ?_); rintro e w5 ⟨rfl, hb5⟩; have e0 := (hb5.cell (cell_lt c0)).trans c0; have e1 := (hb5.cell (cell_lt c1)).trans c1))
  all_goals
   go_ret
   exact ⟨retb (by simp [h0] <;> (first | omega | (intro h; omega))), HB.out.trans (hb5.mono HB.out.size)⟩
open Go.RowKit
set_option maxRecDepth 100000 in
theorem shape_val_c (p : Fil.FilE) (va : Value) (w : World) (hw : Env w) (hp : TextsA w va p.any) (hl : p.any.length ≤ 1000000000) (ht : p.typ.length ≤ 1000000000) (ho : p.op = 3 ∨ p.op = 5 ∨ p.op = 6 ∨ p.op = 8) :
  Calls Tryz.prog 32 #[filV p va] w fun e w' => e = .returned (.bool (Fil.shapeB p)) ∧ Below w.heap.size w w' := by
 rw [Fil.shape_val p ho]
 have hS := fun (W : World) (hW : Below w.heap.size w W) => fSame_c p ⟨p.op, 0, p.typ, p.val, [], [], []⟩ va (.slice none 0 0) W (hp.below hW) (.inl ⟨rfl, rfl⟩) hl
 have hT := fun (W : World) (hW : Below w.heap.size w W) => IsType_c p.typ W (hw.keep hW) (by omega)
 obtain ⟨R1, hR1⟩ : ∃ R1, decide (p = ⟨p.op, 0, p.typ, p.val, [], [], []⟩) = R1 := ⟨_, rfl⟩
 obtain ⟨R2, hR2⟩ : ∃ R2, isTypeL p.typ = R2 := ⟨_, rfl⟩
 rw [hR1] at hS ⊢
 rw [hR2] at hT ⊢
 obtain ⟨A, c, rfl, -⟩ := hp.at
 clear hR1 hR2 hp hw
 obtain ⟨o, n, t, u, i, f, y⟩ := p
 unfold filV at hS ⊢
 simp only at ho hS hT hl ht ⊢
 have HS := Lib.hid hS
 have HT := Lib.hid hT
 obtain ⟨W, hW, _, k1, k2⟩ := shape_rows w o n t u i f (.slice A y.length c) #[.int .i64 o, .int .i64 0, .string ⟨t.toArray⟩, .string ⟨#[]⟩, .string ⟨#[]⟩, .string ⟨#[]⟩, .slice none 0 0]
 obtain ⟨V, hV, hB, m1, m2⟩ := shape_rows w o n t u i f (.slice A y.length c) #[.int .i64 o, .int .i64 0, .string ⟨t.toArray⟩, .string ⟨u.toArray⟩, .string ⟨#[]⟩, .string ⟨#[]⟩, .slice none 0 0]
 have a0 := k1.cell 0
 have a1 := k1.cell 1
 have a2 := k1.cell 2
 have a3 := k1.cell 3
 have a4 := k1.cell 4
 have a5 := k1.cell 5
 have a6 := k1.cell 6
 have fz := fun i => k2.frozen i
 have c0 := m1.cell 0
 have c1 := m1.cell 1
 have c2 := m1.cell 2
 have c3 := m1.cell 3
 have c4 := m1.cell 4
 have c5 := m1.cell 5
 have c6 := m1.cell 6
 have d0 := m2.cell 0
 have d1 := m2.cell 1
 have d2 := m2.cell 2
 have d3 := m2.cell 3
 have d4 := m2.cell 4
 have d5 := m2.cell 5
 have d6 := m2.cell 6
 simp only [List.getElem?_toArray, List.getElem?_cons_zero, List.getElem?_cons_succ] at a0 a1 a2 a3 a4 a5 a6 c0 c1 c2 c3 c4 c5 c6 d0 d1 d2 d3 d4 d5 d6
 have HB := Lib.hid hB
 clear k1 k2 m1 m2 hB hS hT
 subst hW hV
 rcases ho with rfl | rfl | rfl | rfl
 all_goals
  cases R1
  all_goals
   go_enter Tryz.func32, Tryz.ntmps32
   go_wp2_with (first | (go_at_call 66; (refine (HS.out _ (by exact HB.out)).mono ?_); rintro e w5 ⟨rfl, hb5⟩; have HB5 := Lib.hid (HB.out.trans (hb5.mono HB.out.size)); have e2 := (hb5.cell (cell_lt c2)).trans c2) | (go_at_call 36; (refine (HT.out _ (by exact HB5.out)).mono ?_); rintro e w6 ⟨rfl, hb6⟩))
   go_ret
   first
    | exact ⟨rfl, HB5.out.trans (hb6.mono HB5.out.size)⟩
    | exact ⟨rfl, HB5.out⟩
set_option maxRecDepth 100000 in
theorem shape_pres_c (p : Fil.FilE) (va : Value) (w : World) (hw : Env w) (hp : TextsA w va p.any) (hl : p.any.length ≤ 1000000000) (ht : p.typ.length ≤ 1000000000) (ho : p.op = 7) :
  Calls Tryz.prog 32 #[filV p va] w fun e w' => e = .returned (.bool (Fil.shapeB p)) ∧ Below w.heap.size w w' := by
 rw [Fil.shape_pres p ho]
 have hS := fun (W : World) (hW : Below w.heap.size w W) => fSame_c p ⟨p.op, 0, p.typ, [], [], [], []⟩ va (.slice none 0 0) W (hp.below hW) (.inl ⟨rfl, rfl⟩) hl
 have hT := fun (W : World) (hW : Below w.heap.size w W) => IsType_c p.typ W (hw.keep hW) (by omega)
 obtain ⟨R1, hR1⟩ : ∃ R1, decide (p = ⟨p.op, 0, p.typ, [], [], [], []⟩) = R1 := ⟨_, rfl⟩
 obtain ⟨R2, hR2⟩ : ∃ R2, isTypeL p.typ = R2 := ⟨_, rfl⟩
 rw [hR1] at hS ⊢
 rw [hR2] at hT ⊢
 obtain ⟨A, c, rfl, -⟩ := hp.at
 clear hR1 hR2 hp hw
 obtain ⟨o, n, t, u, i, f, y⟩ := p
 unfold filV at hS ⊢
 simp only at ho hS hT hl ht ⊢
 have HS := Lib.hid hS
 have HT := Lib.hid hT
 obtain ⟨W, hW, _, k1, k2⟩ := shape_rows w o n t u i f (.slice A y.length c) #[.int .i64 o, .int .i64 0, .string ⟨t.toArray⟩, .string ⟨#[]⟩, .string ⟨#[]⟩, .string ⟨#[]⟩, .slice none 0 0]
 obtain ⟨V, hV, hB, m1, m2⟩ := shape_rows w o n t u i f (.slice A y.length c) #[.int .i64 o, .int .i64 0, .string ⟨t.toArray⟩, .string ⟨#[]⟩, .string ⟨#[]⟩, .string ⟨#[]⟩, .slice none 0 0]
 have a0 := k1.cell 0
 have a1 := k1.cell 1
 have a2 := k1.cell 2
 have a3 := k1.cell 3
 have a4 := k1.cell 4
 have a5 := k1.cell 5
 have a6 := k1.cell 6
 have fz := fun i => k2.frozen i
 have c0 := m1.cell 0
 have c1 := m1.cell 1
 have c2 := m1.cell 2
 have c3 := m1.cell 3
 have c4 := m1.cell 4
 have c5 := m1.cell 5
 have c6 := m1.cell 6
 have d0 := m2.cell 0
 have d1 := m2.cell 1
 have d2 := m2.cell 2
 have d3 := m2.cell 3
 have d4 := m2.cell 4
 have d5 := m2.cell 5
 have d6 := m2.cell 6
 simp only [List.getElem?_toArray, List.getElem?_cons_zero, List.getElem?_cons_succ] at a0 a1 a2 a3 a4 a5 a6 c0 c1 c2 c3 c4 c5 c6 d0 d1 d2 d3 d4 d5 d6
 have HB := Lib.hid hB
 clear k1 k2 m1 m2 hB hS hT
 subst hW hV
 subst ho
 cases R1
 all_goals
  go_enter Tryz.func32, Tryz.ntmps32
  go_wp2_with (first | (go_at_call 66; (refine (HS.out _ (by exact HB.out)).mono ?_); rintro e w5 ⟨rfl, hb5⟩; have HB5 := Lib.hid (HB.out.trans (hb5.mono HB.out.size)); have e2 := (hb5.cell (cell_lt c2)).trans c2) | (go_at_call 36; (refine (HT.out _ (by exact HB5.out)).mono ?_); rintro e w6 ⟨rfl, hb6⟩))
  go_ret
  first
   | exact ⟨rfl, HB5.out.trans (hb6.mono HB5.out.size)⟩
   | exact ⟨rfl, HB5.out⟩
set_option maxRecDepth 100000 in
theorem shape_no_c (p : Fil.FilE) (va : Value) (w : World) (hp : TextsA w va p.any) (ho : p.op < 0 ∨ 8 < p.op) :
  Calls Tryz.prog 32 #[filV p va] w fun e w' => e = .returned (.bool (Fil.shapeB p)) ∧ Below w.heap.size w w' := by
 rw [Fil.shape_no p ho]
 obtain ⟨A, c, rfl, -⟩ := hp.at
 clear hp
 obtain ⟨o, n, t, u, i, f, y⟩ := p
 unfold filV
 simp only at ho ⊢
 obtain ⟨W, hW, _, k1, k2⟩ := shape_rows w o n t u i f (.slice A y.length c) #[.int .i64 o, .int .i64 0, .string ⟨t.toArray⟩, .string ⟨#[]⟩, .string ⟨#[]⟩, .string ⟨#[]⟩, .slice none 0 0]
 obtain ⟨V, hV, hB, m1, m2⟩ := shape_rows w o n t u i f (.slice A y.length c) #[.int .i64 o, .int .i64 0, .string ⟨t.toArray⟩, .string ⟨#[]⟩, .string ⟨#[]⟩, .string ⟨#[]⟩, .slice none 0 0]
 have a0 := k1.cell 0
 have a1 := k1.cell 1
 have a2 := k1.cell 2
 have a3 := k1.cell 3
 have a4 := k1.cell 4
 have a5 := k1.cell 5
 have a6 := k1.cell 6
 have fz := fun i => k2.frozen i
 have c0 := m1.cell 0
 have c1 := m1.cell 1
 have c2 := m1.cell 2
 have c3 := m1.cell 3
 have c4 := m1.cell 4
 have c5 := m1.cell 5
 have c6 := m1.cell 6
 have d0 := m2.cell 0
 have d1 := m2.cell 1
 have d2 := m2.cell 2
 have d3 := m2.cell 3
 have d4 := m2.cell 4
 have d5 := m2.cell 5
 have d6 := m2.cell 6
 simp only [List.getElem?_toArray, List.getElem?_cons_zero, List.getElem?_cons_succ] at a0 a1 a2 a3 a4 a5 a6 c0 c1 c2 c3 c4 c5 c6 d0 d1 d2 d3 d4 d5 d6
 have HB := Lib.hid hB
 clear k1 k2 m1 m2 hB
 subst hW hV
 have n0 : (o == 0) = false := beq_eq_false_iff_ne.2 (by omega)
 have n1 : (o == 1) = false := beq_eq_false_iff_ne.2 (by omega)
 have n2 : (o == 2) = false := beq_eq_false_iff_ne.2 (by omega)
 have n3 : (o == 3) = false := beq_eq_false_iff_ne.2 (by omega)
 have n4 : (o == 4) = false := beq_eq_false_iff_ne.2 (by omega)
 have n5 : (o == 5) = false := beq_eq_false_iff_ne.2 (by omega)
 have n6 : (o == 6) = false := beq_eq_false_iff_ne.2 (by omega)
 have n7 : (o == 7) = false := beq_eq_false_iff_ne.2 (by omega)
 have n8 : (o == 8) = false := beq_eq_false_iff_ne.2 (by omega)
 go_enter Tryz.func32, Tryz.ntmps32
 go_wp2_with fail
 go_ret
 exact ⟨rfl, HB.out⟩
end Go.Proofs.YtconnibnpckadaaGreatDoor
