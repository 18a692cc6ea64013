import Derived.Test.YtconnibnpckadaaGreatDoorWvb2
import Derived.Sort.LotA
set_option linter.all false
set_option maxHeartbeats 8000000
set_option maxRecDepth 100000
namespace Go.Proofs.YtconnibnpckadaaGreatDoor
open Go.RowKit Go.Sort
open Go.RowKit Go.Sort
def RowA (w : World) (g : Nat) (l : List (List UInt8 × List UInt8)) : Prop :=
 g < w.heap.size ∧ ∀ j x, l[j]? = some x → (w.cell? ⟨g, 2 * j, none⟩ = some (.string ⟨x.1.toArray⟩) ∧ w.frozen? ⟨g, 2 * j, none⟩ = false) ∧ (w.cell? ⟨g, 2 * j + 1, none⟩ = some (.string ⟨x.2.toArray⟩) ∧ w.frozen? ⟨g, 2 * j + 1, none⟩ = false)
theorem Avas.row {B g n c : Nat} {w : World} {l : List (List UInt8 × List UInt8)} (h : Avas B w (.slice (some ⟨g, 0, none⟩) n c) l) : RowA w g l := by
 obtain ⟨⟨h1, h2⟩, h3⟩ := h
 rcases h2 with ⟨hn, _⟩ | ⟨g', cap, cur, e, r2, r3, r4, r5, r6, r7⟩
 ·cases hn
 ·cases e
  refine ⟨(Array.getElem?_eq_some_iff.1 r3).1, fun j x hj => ?_⟩
  have hf := flat_get l j x hj
  have hjl : j < l.length := (List.getElem?_eq_some_iff.1 hj).1
  rw [← r7, List.getElem?_take, List.getElem?_take, if_pos (by omega), if_pos (by omega)] at hf
  simp only [World.cell?, World.frozen?, r3]
  simp only [Array.getElem?_toList] at hf
  simp [hf.1, hf.2]
theorem RowA.holds {w : World} {g : Nat} {l : List (List UInt8 × List UInt8)} (h : RowA w g l) : HoldsK encA 2 w g 0 l.toArray := by
 intro j hj
 have hj2 : j < l.length * 2 := by simpa using hj
 have hd : j / 2 < l.length := by omega
 have hx := h.2 (j / 2) l[j / 2] (List.getElem?_eq_getElem hd)
 rw [get_flatK encA 2 l.toArray j (by simpa using hj2)]
 have e : l.toArray[j / 2]! = l[j / 2] := by simp [hd]
 rw [e, Nat.zero_add]
 rcases Nat.mod_two_eq_zero_or_one j with h0 | h0
 ·have e2 : 2 * (j / 2) = j := by omega
  rw [e2] at hx
  rw [h0]
  exact hx.1
 ·have e2 : 2 * (j / 2) + 1 = j := by omega
  rw [e2] at hx
  rw [h0]
  exact hx.2
open Go.RowKit Go.Sort
def ddL {α : Type} [DecidableEq α] (p : List α) : Nat → List α
 | 0 => []
 | j + 1 => match p[j]? with
  | none => ddL p j
  | some x => if j ≠ 0 ∧ p[j - 1]? = some x then ddL p j else ddL p j ++ [x]
theorem RowA.drewN {w : World} {g : Nat} {l : List (List UInt8 × List UInt8)} (h : RowA w g l) (n : Nat) : RowA (w.drewN n) g l := h
theorem RowA.at2 {w : World} {g : Nat} {l : List (List UInt8 × List UInt8)} (h : RowA w g l) {j : Nat} {x : List UInt8 × List UInt8} (hj : l[j]? = some x) :
  w.cell? ⟨g, j * 2, none⟩ = some (.string ⟨x.1.toArray⟩) ∧ w.cell? ⟨g, j * 2 + 1, none⟩ = some (.string ⟨x.2.toArray⟩) ∧ w.frozen? ⟨g, j * 2, none⟩ = false ∧ w.frozen? ⟨g, j * 2 + 1, none⟩ = false := by
 have := h.2 j x hj
 rw [Nat.mul_comm 2 j] at this
 exact ⟨this.1.1, this.2.1, this.1.2, this.2.2⟩
theorem set_other (w : World) (g o o' : Nat) (v : Value) (h : o ≠ o') : (w.setCell ⟨g, o, none⟩ v).cell? ⟨g, o', none⟩ = w.cell? ⟨g, o', none⟩ := by
 apply World.cell?_setCell_other
 intro e
 injection e
 omega
theorem set_same (w : World) (g o : Nat) (u v : Value) (h : w.cell? ⟨g, o, none⟩ = some u) : (w.setCell ⟨g, o, none⟩ v).cell? ⟨g, o, none⟩ = some v := World.cell?_setCell_same' w _ v (by rw [h]; rfl)
theorem RowA.set {w : World} {g : Nat} {l : List (List UInt8 × List UInt8)} (h : RowA w g l) {j : Nat} (hj : j < l.length) (x : List UInt8 × List UInt8) :
  RowA ((w.setCell ⟨g, j * 2, none⟩ (.string ⟨x.1.toArray⟩)).setCell ⟨g, j * 2 + 1, none⟩ (.string ⟨x.2.toArray⟩)) g (l.set j x) := by
 have hc0 := (h.at2 (List.getElem?_eq_getElem hj)).1
 have hc1 := (h.at2 (List.getElem?_eq_getElem hj)).2.1
 refine ⟨by simp [World.setCell]; exact h.1, fun i y hi => ?_⟩
 have e0 : ∀ o, ((w.setCell ⟨g, j * 2, none⟩ (.string ⟨x.1.toArray⟩)).setCell ⟨g, j * 2 + 1, none⟩ (.string ⟨x.2.toArray⟩)).frozen? ⟨g, o, none⟩ = w.frozen? ⟨g, o, none⟩ := fun o => (World.frozen?_setCell _ _ _ _).trans (World.frozen?_setCell _ _ _ _)
 rw [e0, e0]
 rw [List.getElem?_set] at hi
 by_cases hij : j = i
 ·subst hij
  rw [if_pos rfl, if_pos hj] at hi
  cases hi
  have hf := h.at2 (List.getElem?_eq_getElem hj)
  rw [Nat.mul_comm 2 j]
  refine ⟨⟨?_, hf.2.2.1⟩, ?_, hf.2.2.2⟩
  ·rw [set_other _ _ _ _ _ (by omega)]
   exact set_same _ _ _ _ _ hc0
  ·exact set_same _ _ _ _ _ ((set_other _ _ _ _ _ (by omega)).trans hc1)
 ·rw [if_neg hij] at hi
  have hx := h.2 i y hi
  refine ⟨⟨?_, hx.1.2⟩, ?_, hx.2.2⟩
  ·rw [set_other _ _ _ _ _ (by omega), set_other _ _ _ _ _ (by omega)]
   exact hx.1.1
  ·rw [set_other _ _ _ _ _ (by omega), set_other _ _ _ _ _ (by omega)]
   exact hx.2.1
open Go.RowKit Go.Sort
def partN (p : List (List UInt8 × List UInt8)) : List (List UInt8 × List UInt8) := ddL (sortA p).toList p.length
open Go.RowKit Go.Sort
abbrev PartM := Nat × Nat × List (List UInt8 × List UInt8)
def NM (B : Nat) (w : World) (gd : Nat) (L : List PartM) : Prop :=
 gd < w.heap.size ∧ B ≤ gd ∧ L.Pairwise (fun x y => x.1 ≠ y.1) ∧ ∀ (i : Nat) (x : PartM), L[i]? = some x →
  w.cell? ⟨gd, i, none⟩ = some (.slice (some ⟨x.1, 0, none⟩) x.2.2.length x.2.1) ∧ w.frozen? ⟨gd, i, none⟩ = false ∧ RowA w x.1 x.2.2 ∧ x.2.2.length ≤ x.2.1 ∧ B ≤ x.1 ∧ x.1 ≠ gd
theorem RowA.keep {w w' : World} {g : Nat} {l : List (List UInt8 × List UInt8)} (h : RowA w g l) {r : Option Nat} (hg : w.grownBy w' r) (hne : some g ≠ r) : RowA w' g l := by
 have hb := hg.block g h.1 hne
 refine ⟨Nat.lt_of_lt_of_le h.1 hg.size, fun j x hj => ?_⟩
 have := h.2 j x hj
 rw [World.cell?_of_block (w := w) (w' := w') (a := ⟨g, 2 * j, none⟩) hb, World.cell?_of_block (w := w) (w' := w') (a := ⟨g, 2 * j + 1, none⟩) hb, World.frozen?_of_block (w := w) (w' := w') (a := ⟨g, 2 * j, none⟩) hb, World.frozen?_of_block (w := w) (w' := w') (a := ⟨g, 2 * j + 1, none⟩) hb]
 exact this
theorem NM.part {B : Nat} {w w1 : World} {gd i : Nat} {L : List PartM} {x : PartM} {p : List (List UInt8 × List UInt8)} (h : NM B w gd L) (hi : L[i]? = some x)
  (hg : w.grownBy w1 (some x.1)) (hr : RowA w1 x.1 p) (hc : p.length ≤ x.2.1) :
  NM B (w1.setCell ⟨gd, i, none⟩ (.slice (some ⟨x.1, 0, none⟩) p.length x.2.1)) gd (L.set i (x.1, x.2.1, p)) := by
 obtain ⟨h1, h2, h3, h4⟩ := h
 have hx := h4 i x hi
 have hil : i < L.length := (List.getElem?_eq_some_iff.1 hi).1
 have hbd : w1.heap[gd]? = w.heap[gd]? := hg.block gd h1 (by intro e; exact hx.2.2.2.2.2 (Option.some.inj e).symm)
 have hs := setCell_grown w1 gd i (.slice (some ⟨x.1, 0, none⟩) p.length x.2.1)
 refine ⟨Nat.lt_of_lt_of_le h1 (Nat.le_trans hg.size hs.size), h2, ?_, fun k y hk => ?_⟩
 ·rw [List.pairwise_iff_getElem] at h3 ⊢
  intro a b ha hb hab
  have hxe : L[i] = x := (List.getElem?_eq_some_iff.1 hi).2
  simp only [List.length_set] at ha hb
  have := h3 a b ha hb hab
  simp only [List.getElem_set]
  split <;> split
  ·omega
  ·next e _ => subst e; rw [hxe] at this; exact this
  ·next _ e => subst e; rw [hxe] at this; exact this
  ·exact this
 ·rw [List.getElem?_set] at hk
  rw [World.frozen?_setCell]
  by_cases hik : i = k
  ·subst hik
   rw [if_pos rfl, if_pos hil] at hk
   cases hk
   refine ⟨set_same _ _ _ _ _ ((World.cell?_of_block (a := ⟨gd, i, none⟩) hbd).trans hx.1), (World.frozen?_of_block (a := ⟨gd, i, none⟩) hbd).trans hx.2.1, hr.keep hs (by intro e; exact hx.2.2.2.2.2 (Option.some.inj e)), hc, hx.2.2.2.2.1, hx.2.2.2.2.2⟩
  ·rw [if_neg hik] at hk
   have hy := h4 k y hk
   have hne : y.1 ≠ x.1 := by
    rw [List.pairwise_iff_getElem] at h3
    have hkl : k < L.length := (List.getElem?_eq_some_iff.1 hk).1
    have e1 : L[i] = x := (List.getElem?_eq_some_iff.1 hi).2
    have e2 : L[k] = y := (List.getElem?_eq_some_iff.1 hk).2
    rcases Nat.lt_or_gt_of_ne hik with hlt | hlt
    ·have := h3 i k hil hkl hlt; rw [e1, e2] at this; exact Ne.symm this
    ·have := h3 k i hkl hil hlt; rw [e1, e2] at this; exact this
   refine ⟨(set_other _ _ _ _ _ (by omega)).trans ((World.cell?_of_block (a := ⟨gd, k, none⟩) hbd).trans hy.1), (World.frozen?_of_block (a := ⟨gd, k, none⟩) hbd).trans hy.2.1, (hy.2.2.1.keep hg (by intro e; exact hne (Option.some.inj e))).keep hs (by intro e; exact hy.2.2.2.2.2 (Option.some.inj e)), hy.2.2.2.1, hy.2.2.2.2.1, hy.2.2.2.2.2⟩
open Go.RowKit Go.Sort
def partM (v : Value) (p : List (List UInt8 × List UInt8)) : PartM := match v with
 | .slice (some a) _ c => (a.block, c, p)
 | _ => (0, 0, p)
theorem Avas.some {B : Nat} {w : World} {v : Value} {p : List (List UInt8 × List UInt8)} (h : Avas B w v p) (hp : p ≠ []) : ∃ g c, v = .slice (some ⟨g, 0, none⟩) p.length c ∧ p.length ≤ c ∧ B ≤ g := by
 obtain ⟨⟨h1, h2⟩, h3⟩ := h
 rcases h2 with ⟨rfl, hn⟩ | ⟨g, cap, cur, rfl, r2, r3, r4, _⟩
 ·exact absurd (List.eq_nil_of_length_eq_zero hn) hp
 ·exact ⟨g, cap, rfl, r4, r2⟩
theorem DnAt.nm {B gd n c : Nat} {w : World} {d : List (List (List UInt8 × List UInt8))} (h : DnAt B w (.slice (some ⟨gd, 0, none⟩) n c) d) (hne : ∀ p ∈ d, p ≠ []) :
  ∃ L : List PartM, L.map (·.2.2) = d ∧ NM B w gd L := by
 obtain ⟨vs, hrow, hB, hP, hpw⟩ := h
 have hlen := hP.len
 refine ⟨List.zipWith partM vs d, ?_, ?_⟩
 ·apply List.ext_getElem
  ·simp [hlen]
  ·intro i h1 h2
   simp only [List.getElem_map, List.getElem_zipWith]
   unfold partM
   split <;> rfl
 ·have hgd := (hrow.lt gd rfl)
  have hget : ∀ (i : Nat) (x : PartM), (List.zipWith partM vs d)[i]? = some x → ∃ p v, d[i]? = some p ∧ vs[i]? = some v ∧ Avas B w v p ∧ ∃ g c, v = .slice (some ⟨g, 0, none⟩) p.length c ∧ p.length ≤ c ∧ B ≤ g ∧ x = (g, c, p) := by
   intro i x hx
   obtain ⟨hil, hxe⟩ := List.getElem?_eq_some_iff.1 hx
   have hid : i < d.length := by simp at hil; omega
   obtain ⟨v, hv, hA⟩ := hP.get i d[i] (List.getElem?_eq_getElem hid)
   obtain ⟨g, c, rfl, hc, hg⟩ := hA.some (hne _ (List.getElem_mem hid))
   refine ⟨d[i], _, List.getElem?_eq_getElem hid, hv, hA, g, c, rfl, hc, hg, ?_⟩
   rw [← hxe, List.getElem_zipWith]
   have : vs[i]'(by omega) = .slice (some ⟨g, 0, none⟩) d[i].length c := by
    rw [List.getElem?_eq_getElem (by omega)] at hv; exact Option.some.inj hv
   rw [this]; rfl
  refine ⟨hgd.2, hgd.1, ?_, ?_⟩
  ·rw [List.pairwise_iff_getElem] at hpw ⊢
   intro i j hi hj hij
   obtain ⟨p, v, hp, hv, hA, g, c, rfl, hc, hg, hx⟩ := hget i _ (List.getElem?_eq_getElem hi)
   obtain ⟨p', v', hp', hv', hA', g', c', rfl, hc', hg', hx'⟩ := hget j _ (List.getElem?_eq_getElem hj)
   obtain ⟨hil, hiv⟩ := List.getElem?_eq_some_iff.1 hv
   obtain ⟨hjl, hjv⟩ := List.getElem?_eq_some_iff.1 hv'
   have := hpw i j hil hjl hij
   rw [hiv, hjv] at this
   rw [hx, hx']
   rcases this with e | e
   ·cases e
   ·intro e2; apply e; simp only [Value.ownBlock]; exact congrArg Option.some e2
  ·intro i x hx
   obtain ⟨p, v, hp, hv, hA, g, cc, rfl, hc, hg, rfl⟩ := hget i x hx
   have hid : i < d.length := (List.getElem?_eq_some_iff.1 hp).1
   obtain ⟨h1, h2⟩ := hrow
   rcases h2 with ⟨hn, _⟩ | ⟨g', cap, cur, e, r2, r3, r4, r5, r6, r7⟩
   ·cases hn
   ·cases e
    have hcell : w.cell? ⟨gd, i, none⟩ = some (.slice (some ⟨g, 0, none⟩) p.length cc) := by
     rw [← r7, List.getElem?_take] at hv
     rw [if_pos (by omega)] at hv
     simp only [World.cell?, r3]
     simpa using hv
    refine ⟨hcell, by simp [World.frozen?, r3], hA.row, hc, hg, ?_⟩
    intro e
    have hA2 := hA.1.2
    rcases hA2 with ⟨hn, _⟩ | ⟨g2, cap2, cur2, e2, _, r3', _⟩
    ·cases hn
    ·cases e2
     simp only at e
     subst e
     rw [r3] at r3'
     cases r3'
end Go.Proofs.YtconnibnpckadaaGreatDoor
