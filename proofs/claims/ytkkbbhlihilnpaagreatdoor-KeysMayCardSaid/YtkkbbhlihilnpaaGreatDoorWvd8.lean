import Derived.Test.YtkkbbhlihilnpaaGreatDoorWvd2
set_option linter.all false
set_option maxHeartbeats 8000000
set_option maxRecDepth 100000
namespace Go.Proofs.YtkkbbhlihilnpaaGreatDoor
open Go.RowKit
theorem Own.keep2 {B : Nat} {w w' : World} {v : Value} {xs : List (List UInt8)} (h : Own B w v xs) {r : Option Nat} (hg : w.grownBy w' r) (hr : ∀ k, v.ownBlock = some k → r ≠ some k) : Own B w' v xs := by
 refine ⟨h.1.kept hg ?_, Nat.le_trans h.2 hg.size⟩
 rcases hv : v.ownBlock with _ | g
 ·exact .inl rfl
 ·refine .inr ?_
  intro he
  exact hr g hv he.symm
def seenP (ps l : List Nat) : List (Nat × Value) := l.map fun i => (pAt ps i, Value.agg #[])
def SeenP (w : World) (m : Nat) (ps l : List Nat) : Prop := ∃ es c, w.heap[m]? = some (.map es c) ∧ MapR ptrV es (seenP ps l)
theorem SeenP.lt {w : World} {m : Nat} {ps l : List Nat} (h : SeenP w m ps l) : m < w.heap.size := by
 obtain ⟨es, c, h1, _⟩ := h
 exact (Array.getElem?_eq_some_iff.1 h1).1
theorem SeenP.keep {w w' : World} {m : Nat} {ps l : List Nat} (h : SeenP w m ps l) (he : w'.heap[m]? = w.heap[m]?) : SeenP w' m ps l := by
 obtain ⟨es, c, h1, h2⟩ := h
 exact ⟨es, c, he.trans h1, h2⟩
theorem SeenP.below {w w' : World} {m : Nat} {ps l : List Nat} (h : SeenP w m ps l) (hb : Below w.heap.size w w') : SeenP w' m ps l := h.keep (hb.block m h.lt)
theorem SeenP.made (w : World) (ps : List Nat) : SeenP (w.alloc (.map #[] 0)) w.heap.size ps [] := ⟨_, _, heap_alloc_new w _, rfl⟩
section
variable {P : Program} {κ : Type} [DecidableEq κ]
end
structure NmOK (L : List DefS) (l : List (List UInt8)) : Prop where
 nodup : l.Nodup
 of : ∀ x ∈ l, x ∈ L.map DefS.name
theorem NmOK.nil (L : List DefS) : NmOK L [] := ⟨by simp, fun x hx => by simp at hx⟩
theorem sub_len6 {α : Type} [DecidableEq α] : ∀ (l M : List α), l.Nodup → (∀ x ∈ l, x ∈ M) → l.length ≤ M.length
 | [], M, _, _ => Nat.zero_le _
 | x :: t, M, hn, h => by
  rw [List.nodup_cons] at hn
  have hx := h x (by simp)
  have h1 := sub_len6 t (M.erase x) hn.2 (fun y hy => (List.mem_erase_of_ne (by rintro rfl; exact hn.1 hy)).2 (h y (by simp [hy])))
  have h2 := List.length_erase_of_mem hx
  have h3 : 0 < M.length := List.length_pos_of_mem hx
  simp only [List.length_cons]
  omega
theorem NmOK.len {L : List DefS} {l : List (List UInt8)} (h : NmOK L l) : l.length ≤ L.length := by
 have := sub_len6 l (L.map DefS.name) h.nodup h.of
 simpa using this
theorem NmOK.add {L : List DefS} {l : List (List UInt8)} (h : NmOK L l) {e : DefS} (he : e ∈ L) (hc : l.contains e.name = false) : NmOK L (l ++ [e.name]) := by
 refine ⟨?_, ?_⟩
 ·rw [List.nodup_append]
  refine ⟨h.nodup, by simp, fun a ha b hb => ?_⟩
  have hb' : b = e.name := by simpa using hb
  subst hb'
  rintro rfl
  rw [List.contains_iff_mem.2 ha] at hc
  cases hc
 ·intro x hx
  rcases List.mem_append.1 hx with hx | hx
  ·exact h.of x hx
  ·rw [List.mem_singleton.1 hx]
   exact List.mem_map_of_mem he
open Go.RowKit
structure RowS (w : World) (g : Nat) (l : List (List UInt8)) : Prop where
 bk : ∃ cs, Bk w g 9 cs
 at_ : ∀ j x, l[j]? = some x → w.cell? ⟨g, j, none⟩ = some (.string ⟨x.toArray⟩) ∧ w.frozen? ⟨g, j, none⟩ = false
theorem RowS.lt {w : World} {g : Nat} {l : List (List UInt8)} (h : RowS w g l) : g < w.heap.size := by
 obtain ⟨cs, hb⟩ := h.bk
 exact hb.lt
theorem Own.row {B : Nat} {w : World} {v : Value} {xs : List (List UInt8)} (h : Own B w v xs) : (v = .slice none 0 0 ∧ xs = []) ∨ ∃ g c, v = .slice (some ⟨g, 0, none⟩) xs.length c ∧ xs.length ≤ c ∧ B ≤ g ∧ v.ownBlock = some g ∧ RowS w g xs := by
 obtain ⟨⟨h1, h2⟩, _⟩ := id h
 rcases h2 with ⟨rfl, hn⟩ | ⟨g, cap, cur, rfl, r2, r3, r4, r5, r6, r7⟩
 ·exact .inl ⟨rfl, List.eq_nil_of_length_eq_zero hn⟩
 ·refine .inr ⟨g, cap, rfl, r4, r2, rfl, ⟨cur, r3⟩, fun j x hj => ?_⟩
  have hjl : j < xs.length := (List.getElem?_eq_some_iff.1 hj).1
  have hc : (cur.toList.take (xs.length * 1))[j]? = some (strV x) := by rw [r7]; simp [hj]
  rw [List.getElem?_take] at hc
  constructor
  ·simp only [World.cell?, r3]
   simpa [hjl, strV] using hc
  ·have hB : Bk w g 9 cur := r3
   exact hB.frozen j
theorem RowS.grown {w w' : World} {g : Nat} {l : List (List UInt8)} (h : RowS w g l) {r : Option Nat} (hg : w.grownBy w' r) (hr : r ≠ some g) : RowS w' g l := by
 have hb := hg.block g h.lt (fun e => hr e.symm)
 obtain ⟨cs, hk⟩ := h.bk
 refine ⟨⟨cs, hb.trans hk⟩, fun j x hj => ?_⟩
 have := h.at_ j x hj
 simp only [World.cell?, World.frozen?, hb] at this ⊢
 exact this
theorem RowS.set {w : World} {g : Nat} {l : List (List UInt8)} (h : RowS w g l) {j : Nat} (hj : j < l.length) (x : List UInt8) : RowS (w.setCell ⟨g, j, none⟩ (.string ⟨x.toArray⟩)) g (l.set j x) := by
 have hc0 := (h.at_ j _ (List.getElem?_eq_getElem hj)).1
 obtain ⟨cs, hk⟩ := h.bk
 refine ⟨⟨_, hk.set j _⟩, fun i y hi => ?_⟩
 rw [World.frozen?_setCell]
 rw [List.getElem?_set] at hi
 by_cases hij : j = i
 ·subst hij
  rw [if_pos rfl, if_pos hj] at hi
  cases hi
  exact ⟨set_same _ _ _ _ _ hc0, (h.at_ j _ (List.getElem?_eq_getElem hj)).2⟩
 ·rw [if_neg hij] at hi
  have hx := h.at_ i y hi
  exact ⟨(set_other _ _ _ _ _ hij).trans hx.1, hx.2⟩
structure AskG (w : World) (g : Option Nat) (f : FuncId) (cap : Array Value) (xs : List (List UInt8)) (P : List UInt8 → Bool) : Prop where
 call : ∀ x ∈ xs, ∀ W, w.grownBy W g → Calls Tryz.prog f (#[.string ⟨x.toArray⟩] ++ cap) W fun e W' => e = .returned (.bool (P x)) ∧ W = W'
 enter : ∀ (args : Array Value) (W : World), (callFunc f args).run Tryz.prog W = .ok (.enter f args) W
end Go.Proofs.YtkkbbhlihilnpaaGreatDoor
