import Derived.Test.YtconnibnpckadaaGreatDoorW85
set_option linter.all false
set_option maxHeartbeats 8000000
set_option maxRecDepth 100000
namespace Go.Proofs.YtconnibnpckadaaGreatDoor
open Go.RowKit
theorem OwnFl.isSlice1 {B : Nat} {w : World} {v : Value} {qs : List FilQ} {q : FilQ} (h : OwnFl B w v (qs ++ [q])) : ∃ A c, v = .slice A (qs.length + 1) c ∧ qs.length + 1 ≤ c := by
 obtain ⟨A, c, h1, h2⟩ := h.isSlice
 rw [List.length_append, List.length_singleton] at h1 h2
 exact ⟨A, c, h1, h2⟩
def closeF (o : Option (List Fil.FilE × List UInt8)) : Option (List Fil.FilE × List UInt8) := match o with
 | some (l, r) => match takeF 41 r with
  | some r' => some (l, r')
  | none => none
 | none => none
theorem filF_none {d k : Nat} {s : List UInt8} (h : takeF 40 s = none) : Fil.filF (d + 1) k s = none := by
 unfold Fil.filF
 split
 ·rfl
 ·split
  ·next s1 => rw [show takeF 40 (40 :: s1) = some s1 from rfl] at h; cases h
  ·rfl
theorem filF_step {d k : Nat} {s s1 : List UInt8} (hk : ¬ 100 ≤ k) (h : takeF 40 s = some s1) : Fil.filF (d + 1) k s = closeF (Fil.bodyF (Fil.filF d) k s1) := by
 obtain rfl : s = 40 :: s1 := by
  cases s with
  | nil => cases h
  | cons x u =>
   by_cases hx : x = 40
   ·have h1 : takeF 40 (x :: u) = some u := if_pos hx
    rw [h1] at h
    cases h; rw [hx]
   ·have h1 : takeF 40 (x :: u) = none := if_neg hx
    rw [h1] at h
    cases h
 unfold Fil.filF
 rw [if_neg hk]
 simp only
 cases Fil.bodyF (Fil.filF d) k s1 with
 | none => rfl
 | some lr =>
  obtain ⟨l, r⟩ := lr
  cases r with
  | nil => rfl
  | cons x u =>
   by_cases hx : x = 41
   ·subst hx; rfl
   ·have h1 : takeF 41 (x :: u) = none := if_neg hx
    unfold closeF
    simp only [h1]
    split
    ·next e => cases e; exact absurd rfl hx
    ·rfl
theorem fItemR_c (N p : Nat) (s : List UInt8) (v : Value) (qs : List FilQ) (w : World) (h : RdF N p w s v qs) (hs : s.length ≤ 1000000) :
  Calls Tryz.prog 29 #[.pointer (some ⟨p, 0, none⟩)] w fun e w' => w.grownBy w' (some p) ∧ match Fil.itemF s with
   | some (f, r) => ∃ A n c, e = .returned (.agg #[.int .i64 f.op, .int .i64 f.n, .string ⟨f.typ.toArray⟩, .string ⟨f.val.toArray⟩, .string ⟨f.ini.toArray⟩, .string ⟨f.fin.toArray⟩, .slice A n c]) ∧ TxT w' (.slice A n c) f.any ∧ RdF w'.heap.size p w' r v qs
   | none => e = .panicked filPanic := by
 refine (fItem_c N p s v qs w h hs).mono ?_
 intro e w' hr
 obtain ⟨h1, h2⟩ := hr
 refine ⟨h1, ?_⟩
 cases hi : Fil.itemF s with
 | none => rw [hi] at h2; exact h2
 | some fr =>
  obtain ⟨f, r⟩ := fr
  rw [hi] at h2
  obtain ⟨A, n, c, he, hT, _, hR⟩ := h2
  exact ⟨A, n, c, he, hT, hR.fit⟩
set_option maxRecDepth 100000 in
theorem fFilter_item (d N p : Nat) (s s1 : List UInt8) (v : Value) (qs : List FilQ) (w : World) (x : Int) (hx1 : x < 20) (h : RdF N p w s v qs) (hs : s.length ≤ 1000000) (h100 : ¬ 100 ≤ qs.length) (htk : takeF 40 s = some s1) (hop : Fil.opF s1 = none) :
  Calls Tryz.prog 15 #[.pointer (some ⟨p, 0, none⟩), .int .i64 x] w (FRet p w qs (Fil.filF (d + 1) qs.length s)) := by
 rw [filF_step h100 htk]
 have hbody : Fil.bodyF (Fil.filF d) qs.length s1 = match Fil.itemF s1 with
  | some (p, r) => some ([p], r)
  | none => none := by unfold Fil.bodyF; rw [hop]; rfl
 rw [hbody]
 obtain ⟨A, c, rfl, hc⟩ := h.own.isSlice
 obtain ⟨c0, c1, f0, f1⟩ := h.cells
 have hl1 := takeF_len htk
 have hs1 : s1.length ≤ 1000000 := by omega
 have hlt : (qs.length : Int) < 100 := by omega
 have hql : qs.length < 1000000 := by omega
 have HT40 : Hid (Calls Tryz.prog 27 #[.pointer (some ⟨p, 0, none⟩), .int .u8 40] w fun e w' => w.grownBy w' (some p) ∧ e = .returned (.tuple #[]) ∧ RdF N p w' s1 (.slice A qs.length c) qs) := Lib.hid ((take_c N p 40 s _ qs w h).mono (by intro e w' hr; rw [htk] at hr; exact hr))
 have hgp := fun (w' : World) (hg : w.grownBy w' (some p)) => h.grownP hg
 have HGP := Lib.hid hgp
 have HI := Lib.hid (fun W (hW : RdF N p W s1 (.slice A qs.length c) qs) => fItemR_c N p s1 (.slice A qs.length c) qs W hW hs1)
 clear h htk hbody hgp
 have hP2 := fun (w2 : World) (hg : w.grownBy w2 (some p)) => HGP.out w2 hg
 have hP2 := fun (w2 : World) (hg : w.grownBy w2 (some p)) => HGP.out w2 hg
 have hP2 := fun (w2 : World) (hg : w.grownBy w2 (some p)) => HGP.out w2 hg
 have hP2 := fun (w2 : World) (hg : w.grownBy w2 (some p)) => HGP.out w2 hg
 have hP2 := fun (w2 : World) (hg : w.grownBy w2 (some p)) => HGP.out w2 hg
 cases s1 with
 | nil =>
  rw [show Fil.itemF [] = none from rfl] at HI ⊢
  have HI2 : Hid (∀ W, RdF N p W [] (.slice A qs.length c) qs → Calls Tryz.prog 29 #[.pointer (some ⟨p, 0, none⟩)] W fun e w' => W.grownBy w' (some p) ∧ ((Hid False ∧ e = .returned (.agg #[.int .i64 0, .int .i64 0, .string ⟨#[]⟩, .string ⟨#[]⟩, .string ⟨#[]⟩, .string ⟨#[]⟩, .slice none 0 0])) ∨ e = .panicked filPanic)) := Lib.hid fun W hW => (HI.out W hW).mono fun e w' hr => ⟨hr.1, .inr hr.2⟩
  go_enter Tryz.func15, Tryz.ntmps15
  go_wp2_with (go_at_call 27; (with_reducible refine HT40.out.mono ?_); rintro e w2 ⟨hg2, rfl, hR2⟩; have HR2 := Lib.hid hR2; obtain ⟨d0, d1, g0, g1⟩ := hR2.cells; clear hR2)
  go_region_law (first | (go_simp; go_at_call 29; (refine (HI2.out _ (by exact HR2.out.below (Below.refl _ _).drew)).mono ?_); rintro e w5 ⟨hg5, (⟨HF, rfl⟩ | rfl)⟩; rotate_left; go_simp; (refine ⟨rfl, ?_⟩); exact ⟨((HGP.out _ hg2).drew).trans ((HR2.out.below (Below.refl _ _).drew).grownP hg5), rfl⟩; have HR5 : Hid (RdF w5.heap.size p w5 [] (.slice A qs.length c) qs) := HF.out.elim; obtain ⟨k0, k1, kf0, kf1⟩ := HR5.out.cells; have ka := fun (o : Obj) => ((bel_f1 w5 o).cell (cell_lt k1)).trans k1) | (refine step_fil_one (p := ⟨0, 0, [], [], [], [], []⟩) (va := .slice none 0 0) (v := .slice A qs.length c) (qs := qs) (B := p + 1) (w0 := w5) (by rfl) (.tmp 41) (.tmp 44) (by rfl) rfl rfl HR5.out.own rfl hql ?_; intro v' w6 hO6 hg6; obtain ⟨A6, c6, rfl, hc6⟩ := hO6.isSlice1; have k6 := HR5.out.at_.grown hg6 (fun e => HR5.out.ne p e.symm rfl); have z1 := k6.cell 1; have zf := k6.frozen 1; simp only [List.getElem?_toArray, List.getElem?_cons_zero, List.getElem?_cons_succ] at z1))
  all_goals exact HF.out.elim
 | cons y u =>
  have hix : Lib.indexByte [38, 124, 33] y < 0 := by
   have := op_idx y u
   rw [hop] at this
   by_cases h : Lib.indexByte [38, 124, 33] y < 0
   ·exact h
   ·rw [if_neg h] at this; cases this
  have HIB := Lib.hid (fun W => IndexByte_c [38, 124, 33] y W)
  have hget := ba_get
  cases hi : Fil.itemF (y :: u) with
  | none =>
   rw [hi] at HI
   have HI2 : Hid (∀ W, RdF N p W (y :: u) (.slice A qs.length c) qs → Calls Tryz.prog 29 #[.pointer (some ⟨p, 0, none⟩)] W fun e w' => W.grownBy w' (some p) ∧ ((Hid False ∧ e = .returned (.agg #[.int .i64 0, .int .i64 0, .string ⟨#[]⟩, .string ⟨#[]⟩, .string ⟨#[]⟩, .string ⟨#[]⟩, .slice none 0 0])) ∨ e = .panicked filPanic)) := Lib.hid fun W hW => (HI.out W hW).mono fun e w' hr => ⟨hr.1, .inr hr.2⟩
   go_enter Tryz.func15, Tryz.ntmps15
   go_wp2_with (first | (go_at_call 27; (with_reducible refine HT40.out.mono ?_); rintro e w2 ⟨hg2, rfl, hR2⟩; have HR2 := Lib.hid hR2; obtain ⟨d0, d1, g0, g1⟩ := hR2.cells; clear hR2) | (go_at_call 28; (with_reducible refine (HIB.out _).mono ?_); rintro e w5 ⟨rfl, rfl⟩))
   go_region_law (first | (go_simp; go_at_call 29; (refine (HI2.out _ (by exact HR2.out.below (Below.refl _ _).drew)).mono ?_); rintro e w5 ⟨hg5, (⟨HF, rfl⟩ | rfl)⟩; rotate_left; go_simp; (refine ⟨rfl, ?_⟩); exact ⟨((HGP.out _ hg2).drew).trans ((HR2.out.below (Below.refl _ _).drew).grownP hg5), rfl⟩; have HR5 : Hid (RdF w5.heap.size p w5 [] (.slice A qs.length c) qs) := HF.out.elim; obtain ⟨k0, k1, kf0, kf1⟩ := HR5.out.cells; have ka := fun (o : Obj) => ((bel_f1 w5 o).cell (cell_lt k1)).trans k1) | (refine step_fil_one (p := ⟨0, 0, [], [], [], [], []⟩) (va := .slice none 0 0) (v := .slice A qs.length c) (qs := qs) (B := p + 1) (w0 := w5) (by rfl) (.tmp 41) (.tmp 44) (by rfl) rfl rfl HR5.out.own rfl hql ?_; intro v' w6 hO6 hg6; obtain ⟨A6, c6, rfl, hc6⟩ := hO6.isSlice1; have k6 := HR5.out.at_.grown hg6 (fun e => HR5.out.ne p e.symm rfl); have z1 := k6.cell 1; have zf := k6.frozen 1; simp only [List.getElem?_toArray, List.getElem?_cons_zero, List.getElem?_cons_succ] at z1))
   all_goals exact HF.out.elim
  | some fr =>
   obtain ⟨f, r⟩ := fr
   rw [hi] at HI
   have hrl := itemF_len hi
   clear hi
   simp only [closeF]
   have HT41 : Hid (∀ (M : Nat) (W : World) (v' : Value) (ys : List FilQ), RdF M p W r v' ys → Calls Tryz.prog 27 #[.pointer (some ⟨p, 0, none⟩), .int .u8 41] W fun e w' => W.grownBy w' (some p) ∧ match takeF 41 r with
    | some t => e = .returned (.tuple #[]) ∧ RdF M p w' t v' ys
    | none => e = .panicked filPanic) := Lib.hid fun M W v' ys hW => take_c M p 41 r v' ys W hW
   cases h41 : takeF 41 r with
   | none =>
    rw [h41] at HT41
    go_enter Tryz.func15, Tryz.ntmps15
    go_wp2_with (first | (go_at_call 27; (with_reducible refine HT40.out.mono ?_); rintro e w2 ⟨hg2, rfl, hR2⟩; have HR2 := Lib.hid hR2; obtain ⟨d0, d1, g0, g1⟩ := hR2.cells; clear hR2) | (go_at_call 28; (with_reducible refine (HIB.out _).mono ?_); rintro e w5 ⟨rfl, rfl⟩))
    go_region_law (first | (go_simp; go_at_call 29; (refine (HI.out _ (by exact HR2.out.below (Below.refl _ _).drew)).mono ?_); rintro e w5 ⟨hg5, A5, n5, c5, rfl, hT5, hR5⟩; have HR5 := Lib.hid hR5; obtain ⟨k0, k1, kf0, kf1⟩ := hR5.cells; clear hR5; have ka := fun (o : Obj) => ((bel_f1 w5 o).cell (cell_lt k1)).trans k1) | (refine step_fil_one (p := f) (va := .slice A5 n5 c5) (v := .slice A qs.length c) (qs := qs) (B := p + 1) (w0 := w5) (by rfl) (.tmp 41) (.tmp 44) (by rfl) rfl rfl HR5.out.own rfl hql ?_; intro v' w6 hO6 hg6; obtain ⟨A6, c6, rfl, hc6⟩ := hO6.isSlice1; have hM := HR5.out.more hO6 hg6 hT5; have k6 := HR5.out.at_.grown hg6 (fun e => HR5.out.ne p e.symm rfl); have z1 := k6.cell 1; have zf := k6.frozen 1; simp only [List.getElem?_toArray, List.getElem?_cons_zero, List.getElem?_cons_succ] at z1))
    all_goals
     have hM2 := Lib.hid hM.1
     have hM3 := hM.2
     clear hM
     go_wp2_with (go_at_call 27; (refine (HT41.out _ _ _ _ (by exact hM2.out)).mono ?_); rintro e w7 ⟨hg7, rfl⟩)
     refine ⟨rfl, ?_⟩
     exact ⟨((((HGP.out _ hg2).drew).trans ((HR2.out.below (Below.refl _ _).drew).grownP hg5)).trans hM3).trans (hM2.out.grownP hg7), rfl⟩
   | some r' =>
    rw [h41] at HT41
    go_enter Tryz.func15, Tryz.ntmps15
    go_wp2_with (first | (go_at_call 27; (with_reducible refine HT40.out.mono ?_); rintro e w2 ⟨hg2, rfl, hR2⟩; have HR2 := Lib.hid hR2; obtain ⟨d0, d1, g0, g1⟩ := hR2.cells; clear hR2) | (go_at_call 28; (with_reducible refine (HIB.out _).mono ?_); rintro e w5 ⟨rfl, rfl⟩))
    go_region_law (first | (go_simp; go_at_call 29; (refine (HI.out _ (by exact HR2.out.below (Below.refl _ _).drew)).mono ?_); rintro e w5 ⟨hg5, A5, n5, c5, rfl, hT5, hR5⟩; have HR5 := Lib.hid hR5; obtain ⟨k0, k1, kf0, kf1⟩ := hR5.cells; clear hR5; have ka := fun (o : Obj) => ((bel_f1 w5 o).cell (cell_lt k1)).trans k1) | (refine step_fil_one (p := f) (va := .slice A5 n5 c5) (v := .slice A qs.length c) (qs := qs) (B := p + 1) (w0 := w5) (by rfl) (.tmp 41) (.tmp 44) (by rfl) rfl rfl HR5.out.own rfl hql ?_; intro v' w6 hO6 hg6; obtain ⟨A6, c6, rfl, hc6⟩ := hO6.isSlice1; have hM := HR5.out.more hO6 hg6 hT5; have k6 := HR5.out.at_.grown hg6 (fun e => HR5.out.ne p e.symm rfl); have z1 := k6.cell 1; have zf := k6.frozen 1; simp only [List.getElem?_toArray, List.getElem?_cons_zero, List.getElem?_cons_succ] at z1))
    all_goals
     have hM2 := Lib.hid hM.1
     have hM3 := hM.2
     clear hM
     go_wp2_with (go_at_call 27; (refine (HT41.out _ _ _ _ (by exact hM2.out)).mono ?_); rintro e w7 ⟨hg7, rfl, hR7⟩)
     go_end0
     exact ⟨((((HGP.out _ hg2).drew).trans ((HR2.out.below (Below.refl _ _).drew).grownP hg5)).trans hM3).trans (hM2.out.grownP hg7), rfl, _, [(f, _)], rfl, hR7.fit⟩
end Go.Proofs.YtconnibnpckadaaGreatDoor
