import Derived.Test.YtconnibnpckadaaGreatDoorW90
set_option linter.all false
set_option maxHeartbeats 8000000
set_option maxRecDepth 100000
namespace Go.Proofs.YtconnibnpckadaaGreatDoor
open Go.RowKit
set_option maxRecDepth 100000 in
theorem shape_sub_c (p : Fil.FilE) (va : Value) (w : World) (hw : Env w) (hp : TextsA w va p.any) (hl : p.any.length ≤ 1000000000) (ht : p.typ.length ≤ 1000000000) (ho : p.op = 4) (h1 : ¬ (p.ini = [] ∧ p.fin = [] ∧ p.any = [])) (h2 : p.any.contains [] = false) :
  Calls Tryz.prog 32 #[filV p va] w fun e w' => e = .returned (.bool (Fil.shapeB p)) ∧ Below w.heap.size w w' := by
 rw [Fil.shape_sub p ho h1 h2]
 have hS := fun (W : World) (hW : Below w.heap.size w W) => fSame_c p ⟨p.op, 0, p.typ, [], p.ini, p.fin, p.any⟩ va va W (hp.below hW) (hp.below hW) hl
 have hT := fun (W : World) (hW : Below w.heap.size w W) => IsType_c p.typ W (hw.keep hW) (by omega)
 obtain ⟨R1, hR1⟩ : ∃ R1, decide (p = ⟨p.op, 0, p.typ, [], p.ini, p.fin, p.any⟩) = R1 := ⟨_, rfl⟩
 obtain ⟨R2, hR2⟩ : ∃ R2, isTypeL p.typ = R2 := ⟨_, rfl⟩
 rw [hR1] at hS ⊢
 rw [hR2] at hT ⊢
 have hC := fun (W : World) (hW : Below w.heap.size w W) => ContainsSA_c [] p.any va W (hp.below hW) (by omega)
 obtain ⟨A, c, rfl, -⟩ := hp.at
 clear hR1 hR2 hp hw
 obtain ⟨o, n, t, u, i, f, y⟩ := p
 unfold filV at hS ⊢
 simp only at ho h1 h2 hS hT hC hl ht ⊢
 have HS := Lib.hid hS
 have HT := Lib.hid hT
 have HC := Lib.hid hC
 rw [h2] at HC
 obtain ⟨W, hW, _, k1, k2⟩ := shape_rows w o n t u i f (.slice A y.length c) #[.int .i64 o, .int .i64 0, .string ⟨t.toArray⟩, .string ⟨#[]⟩, .string ⟨#[]⟩, .string ⟨#[]⟩, .slice none 0 0]
 obtain ⟨V, hV, hB, m1, m2⟩ := shape_rows w o n t u i f (.slice A y.length c) #[.int .i64 o, .int .i64 0, .string ⟨t.toArray⟩, .string ⟨#[]⟩, .string ⟨i.toArray⟩, .string ⟨f.toArray⟩, .slice A y.length c]
 have hB := hB.drew
 have m1 := m1.below (Below.refl _ _).drew
 have m2 := m2.below (Below.refl _ _).drew
 have a0 := k1.cell 0
 have a1 := k1.cell 1
 have a2 := k1.cell 2
 have a3 := k1.cell 3
 have a4 := k1.cell 4
 have a5 := k1.cell 5
 have a6 := k1.cell 6
 have fz := fun i => k2.frozen i
 have c0 := m1.cell 0
 have c1 := m1.cell 1
 have c2 := m1.cell 2
 have c3 := m1.cell 3
 have c4 := m1.cell 4
 have c5 := m1.cell 5
 have c6 := m1.cell 6
 have d0 := m2.cell 0
 have d1 := m2.cell 1
 have d2 := m2.cell 2
 have d3 := m2.cell 3
 have d4 := m2.cell 4
 have d5 := m2.cell 5
 have d6 := m2.cell 6
 simp only [List.getElem?_toArray, List.getElem?_cons_zero, List.getElem?_cons_succ] at a0 a1 a2 a3 a4 a5 a6 c0 c1 c2 c3 c4 c5 c6 d0 d1 d2 d3 d4 d5 d6
 have HB := Lib.hid hB
 clear k1 k2 m1 m2 hB hS hT hC
 subst hW hV
 have hyl : ¬ (i = [] ∧ f = [] ∧ y.length = 0) := by rintro ⟨e1, e2, e3⟩; exact h1 ⟨e1, e2, List.eq_nil_of_length_eq_zero e3⟩
 clear h1 h2
 subst ho
 generalize y.length = m at *
 obtain ⟨I, hI⟩ : ∃ I, (i == []) = I := ⟨_, rfl⟩
 obtain ⟨F, hF⟩ : ∃ F, (f == []) = F := ⟨_, rfl⟩
 obtain ⟨M, hM⟩ : ∃ M, ((m : Int) == 0) = M := ⟨_, rfl⟩
 have hIFM : (I && F && M) = false := by
  rw [← hI, ← hF, ← hM, ← Bool.not_eq_true]
  simp only [Bool.and_eq_true, beq_iff_eq]
  rintro ⟨⟨e1, e2⟩, e3⟩
  exact hyl ⟨e1, e2, by omega⟩
 have hcase : (I = false) ∨ (I = true ∧ F = false) ∨ (I = true ∧ F = true ∧ M = false) := by
  clear hI hF hM
  cases I
  ·exact .inl rfl
  ·cases F
   ·exact .inr (.inl ⟨rfl, rfl⟩)
   ·exact .inr (.inr ⟨rfl, rfl, hIFM⟩)
 clear hyl hIFM
 rcases hcase with rfl | ⟨rfl, rfl⟩ | ⟨rfl, rfl, rfl⟩
 all_goals
  cases R1
  all_goals
   go_enter Tryz.func32, Tryz.ntmps32
   go_wp2_with fail
   go_region
   go_wp2_with (first | (go_at_call 67; (refine (HC.out _ (by exact HB.out)).mono ?_); rintro e w4 ⟨rfl, rfl⟩) | (go_at_call 66; (refine (HS.out _ (by exact HB.out)).mono ?_); rintro e w5 ⟨rfl, hb5⟩; have HB5 := Lib.hid (HB.out.trans (hb5.mono HB.out.size)); have e2 := (hb5.cell (cell_lt c2)).trans c2) | (go_at_call 36; (refine (HT.out _ (by exact HB5.out)).mono ?_); rintro e w6 ⟨rfl, hb6⟩))
   go_ret
   first
    | exact ⟨rfl, HB5.out.trans (hb6.mono HB5.out.size)⟩
    | exact ⟨rfl, HB5.out⟩
set_option maxRecDepth 100000 in
theorem shape_subn_c (p : Fil.FilE) (va : Value) (w : World) (hp : TextsA w va p.any) (hl : p.any.length ≤ 1000000000) (ho : p.op = 4) (h : p.any.contains [] = true) :
  Calls Tryz.prog 32 #[filV p va] w fun e w' => e = .returned (.bool (Fil.shapeB p)) ∧ Below w.heap.size w w' := by
 rw [Fil.shape_sub_no p ho (.inr h)]
 have hC := fun (W : World) (hW : Below w.heap.size w W) => ContainsSA_c [] p.any va W (hp.below hW) (by omega)
 rw [h] at hC
 have hm : p.any.length ≠ 0 := by intro e; rw [List.eq_nil_of_length_eq_zero e] at h; cases h
 obtain ⟨A, c, rfl, -⟩ := hp.at
 clear hp h
 obtain ⟨o, n, t, u, i, f, y⟩ := p
 unfold filV
 simp only at ho hC hm hl ⊢
 have HC := Lib.hid hC
 obtain ⟨W, hW, _, k1, k2⟩ := shape_rows w o n t u i f (.slice A y.length c) #[.int .i64 o, .int .i64 0, .string ⟨t.toArray⟩, .string ⟨#[]⟩, .string ⟨#[]⟩, .string ⟨#[]⟩, .slice none 0 0]
 obtain ⟨V, hV, hB, m1, m2⟩ := shape_rows w o n t u i f (.slice A y.length c) #[.int .i64 o, .int .i64 0, .string ⟨t.toArray⟩, .string ⟨#[]⟩, .string ⟨i.toArray⟩, .string ⟨f.toArray⟩, .slice A y.length c]
 have hB := hB.drew
 have m1 := m1.below (Below.refl _ _).drew
 have m2 := m2.below (Below.refl _ _).drew
 have a0 := k1.cell 0
 have a1 := k1.cell 1
 have a2 := k1.cell 2
 have a3 := k1.cell 3
 have a4 := k1.cell 4
 have a5 := k1.cell 5
 have a6 := k1.cell 6
 have fz := fun i => k2.frozen i
 have c0 := m1.cell 0
 have c1 := m1.cell 1
 have c2 := m1.cell 2
 have c3 := m1.cell 3
 have c4 := m1.cell 4
 have c5 := m1.cell 5
 have c6 := m1.cell 6
 have d0 := m2.cell 0
 have d1 := m2.cell 1
 have d2 := m2.cell 2
 have d3 := m2.cell 3
 have d4 := m2.cell 4
 have d5 := m2.cell 5
 have d6 := m2.cell 6
 simp only [List.getElem?_toArray, List.getElem?_cons_zero, List.getElem?_cons_succ] at a0 a1 a2 a3 a4 a5 a6 c0 c1 c2 c3 c4 c5 c6 d0 d1 d2 d3 d4 d5 d6
 have HB := Lib.hid hB
 clear k1 k2 m1 m2 hB hC
 subst hW hV
 subst ho
 generalize y.length = m at *
 obtain ⟨I, hI⟩ : ∃ I, (i == []) = I := ⟨_, rfl⟩
 obtain ⟨F, hF⟩ : ∃ F, (f == []) = F := ⟨_, rfl⟩
 obtain ⟨M, hM⟩ : ∃ M, ((m : Int) == 0) = M := ⟨_, rfl⟩
 have hMf : M = false := by rw [← hM, beq_eq_false_iff_ne]; omega
 subst hMf
 clear hm
 cases I
 all_goals
  cases F
  all_goals
   go_enter Tryz.func32, Tryz.ntmps32
   go_wp2_with fail
   go_region
   go_wp2_with (go_at_call 67; (refine (HC.out _ (by exact HB.out)).mono ?_); rintro e w4 ⟨rfl, rfl⟩)
   go_ret
   exact ⟨rfl, HB.out⟩
set_option maxRecDepth 100000 in
theorem shape_sube_c (p : Fil.FilE) (va : Value) (w : World) (hp : TextsA w va p.any) (ho : p.op = 4) (h : p.ini = [] ∧ p.fin = [] ∧ p.any = []) :
  Calls Tryz.prog 32 #[filV p va] w fun e w' => e = .returned (.bool (Fil.shapeB p)) ∧ Below w.heap.size w w' := by
 rw [Fil.shape_sub_no p ho (.inl h)]
 obtain ⟨A, c, rfl, -⟩ := hp.at
 clear hp
 obtain ⟨o, n, t, u, i, f, y⟩ := p
 unfold filV
 simp only at ho h ⊢
 obtain ⟨rfl, rfl, rfl⟩ := h
 obtain ⟨W, hW, _, k1, k2⟩ := shape_rows w o n t u [] [] (.slice A 0 c) #[.int .i64 o, .int .i64 0, .string ⟨t.toArray⟩, .string ⟨#[]⟩, .string ⟨#[]⟩, .string ⟨#[]⟩, .slice none 0 0]
 obtain ⟨V, hV, hB, m1, m2⟩ := shape_rows w o n t u [] [] (.slice A 0 c) #[.int .i64 o, .int .i64 0, .string ⟨t.toArray⟩, .string ⟨#[]⟩, .string ⟨#[]⟩, .string ⟨#[]⟩, .slice A 0 c]
 have hB := hB.drew
 have m1 := m1.below (Below.refl _ _).drew
 have m2 := m2.below (Below.refl _ _).drew
 have a0 := k1.cell 0
 have a1 := k1.cell 1
 have a2 := k1.cell 2
 have a3 := k1.cell 3
 have a4 := k1.cell 4
 have a5 := k1.cell 5
 have a6 := k1.cell 6
 have fz := fun i => k2.frozen i
 have c0 := m1.cell 0
 have c1 := m1.cell 1
 have c2 := m1.cell 2
 have c3 := m1.cell 3
 have c4 := m1.cell 4
 have c5 := m1.cell 5
 have c6 := m1.cell 6
 have d0 := m2.cell 0
 have d1 := m2.cell 1
 have d2 := m2.cell 2
 have d3 := m2.cell 3
 have d4 := m2.cell 4
 have d5 := m2.cell 5
 have d6 := m2.cell 6
 simp only [List.getElem?_toArray, List.getElem?_cons_zero, List.getElem?_cons_succ] at a0 a1 a2 a3 a4 a5 a6 c0 c1 c2 c3 c4 c5 c6 d0 d1 d2 d3 d4 d5 d6
 have HB := Lib.hid hB
 clear k1 k2 m1 m2 hB
 subst hW hV
 subst ho
 go_enter Tryz.func32, Tryz.ntmps32
 go_wp2_with fail
 go_region
 go_wp2_with fail
 go_ret
 exact ⟨rfl, HB.out⟩
end Go.Proofs.YtconnibnpckadaaGreatDoor
