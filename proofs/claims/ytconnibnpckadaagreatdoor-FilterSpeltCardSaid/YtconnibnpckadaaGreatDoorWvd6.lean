import Derived.Test.YtconnibnpckadaaGreatDoorWvd5
set_option linter.all false
set_option maxHeartbeats 8000000
set_option maxRecDepth 100000
namespace Go.Proofs.YtconnibnpckadaaGreatDoor
open Go.RowKit Go.Sort
open Go.RowKit
open Go.RowKit
theorem own_new {B : Nat} (w : World) (hB : B ≤ w.heap.size) (xs : List (List UInt8)) (hx : xs.length ≤ 1000000) : Own B (w.alloc (.cells (xs.map strV).toArray 9)) (.slice (some ⟨w.heap.size, 0, none⟩) xs.length xs.length) xs := by
 refine ⟨⟨by simp, .inr ⟨w.heap.size, xs.length, (xs.map strV).toArray, rfl, hB, heap_alloc_new w _, Nat.le_refl _, by unfold maxLen; omega, by simp, ?_⟩⟩, by rw [World.size_alloc]; omega⟩
 show (List.take (xs.length * 1) _) = _
 rw [List.take_of_length_le (by simp)]
set_option maxRecDepth 1000000 in
theorem Base_w (w : World) : Calls Tryz.prog 10 #[] w fun e w' => e = .returned (.tuple #[.slice (some ⟨w.heap.size, 0, none⟩) 18 18, .slice (some ⟨w.heap.size + 1, 0, none⟩) 10 10]) ∧ (w.alloc (.cells (baseA.map strV).toArray 9)).alloc (.cells (baseC.map strV).toArray 9) = w' := by
 go_enter Tryz.func10, Tryz.ntmps10
 go_wp2_with fail
 go_ret2
 exact ⟨rfl, rfl⟩
theorem Base_c (w : World) : Calls Tryz.prog 10 #[] w fun e w' => e = .returned (.tuple #[.slice (some ⟨w.heap.size, 0, none⟩) 18 18, .slice (some ⟨w.heap.size + 1, 0, none⟩) 10 10]) ∧ Below w.heap.size w w' ∧ Own w.heap.size w' (.slice (some ⟨w.heap.size, 0, none⟩) 18 18) baseA ∧ Own (w.heap.size + 1) w' (.slice (some ⟨w.heap.size + 1, 0, none⟩) 10 10) baseC := by
 refine (Base_w w).mono ?_
 rintro e w' ⟨rfl, rfl⟩
 have h1 := own_new (B := w.heap.size) w (Nat.le_refl _) baseA (by decide)
 have h2 := own_new (B := w.heap.size + 1) (w.alloc (.cells (baseA.map strV).toArray 9)) (by rw [World.size_alloc]; omega) baseC (by decide)
 rw [World.size_alloc] at h2
 exact ⟨rfl, ((Below.refl _ _).alloc (Nat.le_refl _) _).alloc (by simp) _, h1.below ((Below.refl _ _).alloc (Nat.le_refl _) _), h2⟩
open Go.RowKit
structure Sound (L : List DefS) : Prop where
 says : NewSays L
 lim : ∀ d ∈ L, DefLim d
 rul : ∀ d ∈ L, RuleLim d
theorem Sound.counts {L : List DefS} (h : Sound L) (t : List UInt8) (i : Nat) (hf : findD L false t = some i) : ∃ a, countsD L i = some a := by
 obtain ⟨d, hd, hc, _⟩ := findD_at hf
 exact h.says.counts hd hc
theorem newL_read {a c : List (List UInt8)} {L : List DefS} (h : newL a c = .inr L) : readAll a.length 0 (a ++ c) [] = .inr L := by
 unfold newL at h
 split at h
 ·cases h
 ·split at h
  ·cases h
  ·next L' hr =>
   split at h
   ·cases h
   ·split at h
    ·cases h
    ·split at h
     ·cases h
     ·cases h
      exact hr
theorem sound_of {a c : List (List UInt8)} {L : List DefS} (h : newL a c = .inr L) (hs : ∀ x ∈ a ++ c, x.length ≤ 1000000) : Sound L := by
 have hl := readAll_lim _ _ _ _ _ hs (fun d hd => by simp at hd) (newL_read h)
 exact ⟨newL_says h, fun d hd => (hl.1 d hd).1, fun d hd => (hl.1 d hd).2⟩
theorem base_short : ∀ x ∈ baseA ++ baseC, x.length ≤ 1000 := by decide +kernel
theorem baseA_len : baseA.length = 18 := rfl
theorem baseC_len : baseC.length = 10 := rfl
theorem base_sound : Sound baseL := sound_of base_new (fun x hx => Nat.le_trans (base_short x hx) (by decide))
open Go.RowKit
def TextsA (w : World) (v : Value) (xs : List (List UInt8)) : Prop :=
 (xs = [] ∧ v = .slice none 0 0) ∨ ∃ (a : Addr) (c : Nat), v = .slice (some a) xs.length c ∧ xs.length ≤ c ∧ ∀ j (hj : j < xs.length), w.cell? (a.add j) = some (.string ⟨xs[j].toArray⟩)
theorem TextsA.below {w w' : World} {v : Value} {xs : List (List UInt8)} (h : TextsA w v xs) (hb : Below w.heap.size w w') : TextsA w' v xs := by
 rcases h with h | ⟨a, c, rfl, hc, hx⟩
 ·exact .inl h
 ·exact .inr ⟨a, c, rfl, hc, fun j hj => (hb.cell (cell_lt (hx j hj))).trans (hx j hj)⟩
theorem TextsA.at {w : World} {v : Value} {xs : List (List UInt8)} (h : TextsA w v xs) : ∃ A c, v = .slice A xs.length c ∧ xs.length ≤ c ∧ (∀ j (hj : j < xs.length), ∃ a, A = some a ∧ w.cell? (a.add j) = some (.string ⟨xs[j].toArray⟩)) := by
 rcases h with ⟨rfl, rfl⟩ | ⟨a, c, rfl, hc, hcell⟩
 ·exact ⟨_, _, rfl, Nat.zero_le _, fun j hj => by simp at hj⟩
 ·exact ⟨_, _, rfl, hc, fun j hj => ⟨a, rfl, hcell j hj⟩⟩
theorem own_moreA {ops : Array Oper} {rest : List Oper} {o : Oper} {a : Act} {Q : Exit → Act → World → Prop} {w : World} (hgd : o.guard = none) (s x : Operand) (ho : o.op = .call { callee := .builtin .append, args := #[s, x], argTypes := #[32, 32] })
  {v xv : Value} {xs ys : List (List UInt8)} {B : Nat} (hs : a.eval s = v) (hb : Own B w v xs)
  (hx : a.eval x = xv) (hy : TextsA w xv ys) (hlen : xs.length + ys.length < 4398046511104)
  (h : ∀ v' w', Own B w' v' (xs ++ ys) → w.grownBy w' v.ownBlock → wpList Tryz.prog ops Q rest (a.put o.dst v') w') : wpList Tryz.prog ops Q (o :: rest) a w := by
 obtain ⟨i, h1, h2, h3, h4⟩ := infoStr
 rcases hy with ⟨rfl, rfl⟩ | ⟨b, c, rfl, hc, hcell⟩
 ·refine wpList_append_own_none hgd s x 32 ho B 9 i 1 Tryz.underlying32 h1 v _ _ hs hb.1 hx ?_
  exact h v w (by simpa using hb) (World.grownBy.refl _ _)
 ·refine wpList_append_own _ hgd s x 32 ho B 9 i (.string ⟨#[]⟩) 1 16 Tryz.underlying32 h1 h2 h3 h4 rfl (by decide) v _ _ hs hb.1 b ys.length c (ys.map strV) hx (by simp) ?_ ?_ (by unfold maxLen; omega) (by omega) hb.2 ?_
  ·intro j u hj
   have hjl : j < ys.length := by simpa using (List.getElem?_eq_some_iff.1 hj).1
   rw [hcell j hjl]
   simp [hjl] at hj
   rw [← hj]; rfl
  ·intro u hu
   simp at hu
   obtain ⟨q, _, rfl⟩ := hu
   rfl
  ·intro v' w' ho' hg _
   exact h v' w' ⟨by simpa using ho', Nat.le_trans hb.2 hg.size⟩ hg
end Go.Proofs.YtconnibnpckadaaGreatDoor
