/- The law's lists of rules; a normal form is its own. -/
import Derived.Test.YtgpecklibcgifaaGreatDoorW9
set_option linter.all false
namespace Go.Proofs.YtgpecklibcgifaaGreatDoor
open Go.RowKit Go.Sort

def eqRules : List (List UInt8) := [[111, 99, 116, 101, 116, 83, 116, 114, 105, 110, 103, 77, 97, 116, 99, 104], [99, 97, 115, 101, 69, 120, 97, 99, 116, 77, 97, 116, 99, 104], [99, 97, 115, 101, 73, 103, 110, 111, 114, 101, 77, 97, 116, 99, 104], [105, 110, 116, 101, 103, 101, 114, 77, 97, 116, 99, 104], [98, 111, 111, 108, 101, 97, 110, 77, 97, 116, 99, 104], [100, 105, 115, 116, 105, 110, 103, 117, 105, 115, 104, 101, 100, 78, 97, 109, 101, 77, 97, 116, 99, 104], [111, 98, 106, 101, 99, 116, 73, 100, 101, 110, 116, 105, 102, 105, 101, 114, 77, 97, 116, 99, 104], [103, 101, 110, 101, 114, 97, 108, 105, 122, 101, 100, 84, 105, 109, 101, 77, 97, 116, 99, 104]]
def ordRules : List (List UInt8) := [[111, 99, 116, 101, 116, 83, 116, 114, 105, 110, 103, 79, 114, 100, 101, 114, 105, 110, 103, 77, 97, 116, 99, 104], [99, 97, 115, 101, 69, 120, 97, 99, 116, 79, 114, 100, 101, 114, 105, 110, 103, 77, 97, 116, 99, 104], [99, 97, 115, 101, 73, 103, 110, 111, 114, 101, 79, 114, 100, 101, 114, 105, 110, 103, 77, 97, 116, 99, 104], [105, 110, 116, 101, 103, 101, 114, 79, 114, 100, 101, 114, 105, 110, 103, 77, 97, 116, 99, 104], [103, 101, 110, 101, 114, 97, 108, 105, 122, 101, 100, 84, 105, 109, 101, 79, 114, 100, 101, 114, 105, 110, 103, 77, 97, 116, 99, 104]]
def eqRules5 : List (List UInt8) := [[111, 99, 116, 101, 116, 83, 116, 114, 105, 110, 103, 77, 97, 116, 99, 104], [99, 97, 115, 101, 69, 120, 97, 99, 116, 77, 97, 116, 99, 104], [99, 97, 115, 101, 73, 103, 110, 111, 114, 101, 77, 97, 116, 99, 104], [105, 110, 116, 101, 103, 101, 114, 77, 97, 116, 99, 104], [103, 101, 110, 101, 114, 97, 108, 105, 122, 101, 100, 84, 105, 109, 101, 77, 97, 116, 99, 104]]
theorem texts_newL (w : World) (xs : List (List UInt8)) : Texts (w.alloc (.cells (xs.map strV).toArray 9)) (.slice (some ⟨w.heap.size, 0, none⟩) xs.length xs.length) xs := by
  refine .inr ⟨w.heap.size, xs.length, rfl, Nat.le_refl _, by simp, fun j hj => ?_⟩
  have := (Bk.new w 9 (xs.map strV).toArray).cell j
  rw [this]
  simp [hj, strV]
set_option maxRecDepth 100000 in
theorem equality_c (w : World) : Calls Tryz.prog 20 #[] w fun e w' => e = .returned (.slice (some ⟨w.heap.size, 0, none⟩) 8 8) ∧ w.alloc (.cells #[.string ⟨#[111, 99, 116, 101, 116, 83, 116, 114, 105, 110, 103, 77, 97, 116, 99, 104]⟩, .string ⟨#[99, 97, 115, 101, 69, 120, 97, 99, 116, 77, 97, 116, 99, 104]⟩, .string ⟨#[99, 97, 115, 101, 73, 103, 110, 111, 114, 101, 77, 97, 116, 99, 104]⟩, .string ⟨#[105, 110, 116, 101, 103, 101, 114, 77, 97, 116, 99, 104]⟩, .string ⟨#[98, 111, 111, 108, 101, 97, 110, 77, 97, 116, 99, 104]⟩, .string ⟨#[100, 105, 115, 116, 105, 110, 103, 117, 105, 115, 104, 101, 100, 78, 97, 109, 101, 77, 97, 116, 99, 104]⟩, .string ⟨#[111, 98, 106, 101, 99, 116, 73, 100, 101, 110, 116, 105, 102, 105, 101, 114, 77, 97, 116, 99, 104]⟩, .string ⟨#[103, 101, 110, 101, 114, 97, 108, 105, 122, 101, 100, 84, 105, 109, 101, 77, 97, 116, 99, 104]⟩] 9) = w' := by
  go_enter Tryz.func20, Tryz.ntmps20
  go_wp2
  go_ret
  exact ⟨rfl, rfl⟩
theorem eq_texts (w : World) : Texts (w.alloc (.cells #[.string ⟨#[111, 99, 116, 101, 116, 83, 116, 114, 105, 110, 103, 77, 97, 116, 99, 104]⟩, .string ⟨#[99, 97, 115, 101, 69, 120, 97, 99, 116, 77, 97, 116, 99, 104]⟩, .string ⟨#[99, 97, 115, 101, 73, 103, 110, 111, 114, 101, 77, 97, 116, 99, 104]⟩, .string ⟨#[105, 110, 116, 101, 103, 101, 114, 77, 97, 116, 99, 104]⟩, .string ⟨#[98, 111, 111, 108, 101, 97, 110, 77, 97, 116, 99, 104]⟩, .string ⟨#[100, 105, 115, 116, 105, 110, 103, 117, 105, 115, 104, 101, 100, 78, 97, 109, 101, 77, 97, 116, 99, 104]⟩, .string ⟨#[111, 98, 106, 101, 99, 116, 73, 100, 101, 110, 116, 105, 102, 105, 101, 114, 77, 97, 116, 99, 104]⟩, .string ⟨#[103, 101, 110, 101, 114, 97, 108, 105, 122, 101, 100, 84, 105, 109, 101, 77, 97, 116, 99, 104]⟩] 9)) (.slice (some ⟨w.heap.size, 0, none⟩) 8 8) eqRules := texts_newL w eqRules
set_option maxRecDepth 100000 in
theorem orders_c (w : World) : Calls Tryz.prog 21 #[] w fun e w' => e = .returned (.slice (some ⟨w.heap.size, 0, none⟩) 5 5) ∧ w.alloc (.cells #[.string ⟨#[111, 99, 116, 101, 116, 83, 116, 114, 105, 110, 103, 79, 114, 100, 101, 114, 105, 110, 103, 77, 97, 116, 99, 104]⟩, .string ⟨#[99, 97, 115, 101, 69, 120, 97, 99, 116, 79, 114, 100, 101, 114, 105, 110, 103, 77, 97, 116, 99, 104]⟩, .string ⟨#[99, 97, 115, 101, 73, 103, 110, 111, 114, 101, 79, 114, 100, 101, 114, 105, 110, 103, 77, 97, 116, 99, 104]⟩, .string ⟨#[105, 110, 116, 101, 103, 101, 114, 79, 114, 100, 101, 114, 105, 110, 103, 77, 97, 116, 99, 104]⟩, .string ⟨#[103, 101, 110, 101, 114, 97, 108, 105, 122, 101, 100, 84, 105, 109, 101, 79, 114, 100, 101, 114, 105, 110, 103, 77, 97, 116, 99, 104]⟩] 9) = w' := by
  go_enter Tryz.func21, Tryz.ntmps21
  go_wp2
  go_ret
  exact ⟨rfl, rfl⟩
theorem ord_texts (w : World) : Texts (w.alloc (.cells #[.string ⟨#[111, 99, 116, 101, 116, 83, 116, 114, 105, 110, 103, 79, 114, 100, 101, 114, 105, 110, 103, 77, 97, 116, 99, 104]⟩, .string ⟨#[99, 97, 115, 101, 69, 120, 97, 99, 116, 79, 114, 100, 101, 114, 105, 110, 103, 77, 97, 116, 99, 104]⟩, .string ⟨#[99, 97, 115, 101, 73, 103, 110, 111, 114, 101, 79, 114, 100, 101, 114, 105, 110, 103, 77, 97, 116, 99, 104]⟩, .string ⟨#[105, 110, 116, 101, 103, 101, 114, 79, 114, 100, 101, 114, 105, 110, 103, 77, 97, 116, 99, 104]⟩, .string ⟨#[103, 101, 110, 101, 114, 97, 108, 105, 122, 101, 100, 84, 105, 109, 101, 79, 114, 100, 101, 114, 105, 110, 103, 77, 97, 116, 99, 104]⟩] 9)) (.slice (some ⟨w.heap.size, 0, none⟩) 5 5) ordRules := texts_newL w ordRules
theorem eq5_texts (w : World) : Texts (w.alloc (.cells #[.string ⟨#[111, 99, 116, 101, 116, 83, 116, 114, 105, 110, 103, 77, 97, 116, 99, 104]⟩, .string ⟨#[99, 97, 115, 101, 69, 120, 97, 99, 116, 77, 97, 116, 99, 104]⟩, .string ⟨#[99, 97, 115, 101, 73, 103, 110, 111, 114, 101, 77, 97, 116, 99, 104]⟩, .string ⟨#[105, 110, 116, 101, 103, 101, 114, 77, 97, 116, 99, 104]⟩, .string ⟨#[103, 101, 110, 101, 114, 97, 108, 105, 122, 101, 100, 84, 105, 109, 101, 77, 97, 116, 99, 104]⟩] 9)) (.slice (some ⟨w.heap.size, 0, none⟩) 5 5) eqRules5 := texts_newL w eqRules5
theorem texts_at {w : World} {b n c : Nat} {xs : List (List UInt8)} (h : Texts w (.slice (some ⟨b, 0, none⟩) n c) xs) {j : Nat} (hj : j < xs.length) : w.cell? ⟨b, j, none⟩ = some (.string ⟨xs[j].toArray⟩) := by
  rcases h with ⟨_, h⟩ | ⟨b', c', h, _, _, h3⟩
  · cases h
  · cases h; exact h3 j hj
theorem eq_asked : ∀ r ∈ eqRules, (askT (smallL r) 0).isSome = true := by decide +kernel
theorem ord_asked : ∀ r ∈ ordRules, (askT (smallL r) 1).isSome = true := by decide +kernel
theorem tab_kinds : ∀ x ∈ tab, x.2.2.2 = .self ∨ x.2.2 = ([fText, fAscii], .text false) ∨ x.2.2 = ([fText, fAscii], .text true) ∨ x.2.2 = ([fName], .name) ∨ x.2.2 = ([fOid], .oid) := by decide +kernel
theorem norm_parts {x : RowT} {v s : List UInt8} (h : normS x v = some s) : v.length ≤ 1024 ∧ (∃ f ∈ x.2.2.1, validL f v = true) ∧ applyN x.2.2.2 v = some s := by
  unfold normS at h
  split at h
  · next hc =>
    rw [Bool.and_eq_true, decide_eq_true_eq, List.any_eq_true] at hc
    exact ⟨hc.1, hc.2, h⟩
  · cases h
theorem norm_mk {x : RowT} {v s : List UInt8} (hl : v.length ≤ 1024) {f : List UInt8} (hf : f ∈ x.2.2.1) (hv : validL f v = true) (ha : applyN x.2.2.2 v = some s) : normS x v = some s := by
  unfold normS
  rw [if_pos, ha]
  rw [Bool.and_eq_true, decide_eq_true_eq, List.any_eq_true]
  exact ⟨hl, f, hf, hv⟩
theorem text_twice (fold : Bool) (n : List UInt8) (k : Int) {v s : List UInt8} (h : normS (n, k, [fText, fAscii], .text fold) v = some s) (hl : s.length ≤ 1024) : normS (n, k, [fText, fAscii], .text fold) s = some s := by
  obtain ⟨h1, h2, h3⟩ := norm_parts h
  have hp : prepL v fold = some s := h3
  have hi := prep_idem hp
  by_cases hv : v = []
  · subst hv
    obtain rfl := prep_nil hp
    exact norm_mk (f := fAscii) hl (by simp) (by decide +kernel) hi
  · have hs := prep_ne hp hv
    refine norm_mk (f := fText) hl (by simp) ?_ hi
    unfold validL
    rw [decide_eq_true hl, Bool.true_and]
    have h4 : (prepL s false).isSome = true := by rw [prep_some false fold, hi]; rfl
    have h5 : s.isEmpty = false := by cases s with | nil => exact absurd rfl hs | cons _ _ => rfl
    show formOk fText s = true
    unfold formOk
    rw [if_neg (by decide), if_pos rfl]
    unfold textL
    rw [h4, h5]; rfl
theorem norm_twice {x : RowT} (hx : x ∈ tab) {v s : List UInt8} (h : normS x v = some s) (hl : s.length ≤ 1024) : normS x s = some s := by
  have hk := tab_kinds x hx
  obtain ⟨n, k, fs, nf⟩ := x
  simp only at hk
  rcases hk with hk | hk | hk | hk | hk
  · subst hk
    obtain ⟨h1, h2, h3⟩ := norm_parts h
    obtain rfl : v = s := Option.some.inj h3
    exact h
  · cases hk; exact text_twice false n k h hl
  · cases hk; exact text_twice true n k h hl
  · cases hk
    obtain ⟨h1, h2, h3⟩ := norm_parts h
    have hn : nameN s = some s := nameN_idem h3
    refine norm_mk (f := fName) hl (by simp) ?_ hn
    unfold validL
    rw [decide_eq_true hl, Bool.true_and]
    have hp : (parseL s).1 = 0 := by
      unfold nameN at hn
      split at hn
      · next e => exact e
      · cases hn
    show formOk fName s = true
    have : formOk fName s = ((parseL s).1 == 0) := rfl
    rw [this, hp]; rfl
  · cases hk
    obtain ⟨h1, ⟨f, hf, hv⟩, h3⟩ := norm_parts h
    obtain rfl : smallL v = s := Option.some.inj h3
    obtain rfl : f = fOid := by simpa using hf
    refine norm_mk (f := fOid) hl (by simp) ?_ (by show some (smallL (smallL v)) = _; rw [small_idem])
    unfold validL at hv ⊢
    rw [decide_eq_true hl, Bool.true_and]
    rw [decide_eq_true h1, Bool.true_and] at hv
    have e : ∀ l, formOk fOid l = isTypeL l := fun _ => rfl
    rw [e] at hv ⊢
    exact type_small hv
theorem same_twice {x : RowT} (hx : x ∈ tab) {v s : List UInt8} (h : normS x v = some s) (hl : s.length ≤ 1024) : bothS x v s = some (s, s) := by
  unfold bothS
  rw [h, norm_twice hx h hl]
end Go.Proofs.YtgpecklibcgifaaGreatDoor
