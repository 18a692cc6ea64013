import Derived.Test.YthenffabboomnaaGreatDoorD02
import Derived.Test.YthenffabboomnaaGreatDoorDso
import Derived.Sort.LotA
import Derived.WalkMore
set_option linter.all false
set_option maxHeartbeats 8000000
set_option maxRecDepth 100000
namespace Go.Proofs.YthenffabboomnaaGreatDoor
abbrev Wd := List UInt8 × Bool
def sBlank (c : UInt8) : Bool := c == 32 || c == 9 || c == 10 || c == 13
def sAlone (c : UInt8) : Bool := c == 40 || c == 41 || c == 36
def sStop (c : UInt8) : Bool := sBlank c || sAlone c || c == 39
def wordsF : Nat → List UInt8 → List Wd → Option (List Wd)
 | 0, _, acc => some acc
 | n + 1, r, acc => match r.dropWhile sBlank with
  | [] => some acc
  | c :: t =>
   if c == 39 then (if t.contains 39 then wordsF n (t.dropWhile (· != 39)).tail (acc ++ [(t.takeWhile (· != 39), true)]) else none)
   else if sAlone c then wordsF n t (acc ++ [([c], false)])
   else wordsF n (t.dropWhile (fun c => !sStop c)) (acc ++ [(c :: t.takeWhile (fun c => !sStop c), false)])
def wordsL (s : List UInt8) : Option (List Wd) := wordsF (s.length + 1) s []
structure DefS where
 cls : Bool
 oid : List UInt8
 names : List (List UInt8)
 sup : List (List UInt8)
 must : List (List UInt8)
 may : List (List UInt8)
 form : List UInt8
 eqr : List UInt8
 ordr : List UInt8
 subs : List UInt8
 single : Bool
 fixed : Bool
 oper : Bool
 kind : Int
 deriving DecidableEq
def DefS.new (cls : Bool) (oid : List UInt8) : DefS := ⟨cls, oid, [], [], [], [], [], [], [], [], false, false, false, 1⟩
def DefS.keys (d : DefS) : List (Bool × List UInt8) := (d.oid :: d.names).map fun n => (d.cls, smallL n)
def findD (L : List DefS) (cls : Bool) (n : List UInt8) : Option Nat := L.findIdx? fun d => d.keys.contains (cls, smallL n)
def knownD (L : List DefS) (d : DefS) : Bool := d.sup.all (fun n => (findD L d.cls n).isSome) && d.must.all (fun n => (findD L false n).isSome) && d.may.all (fun n => (findD L false n).isSome)
def DefS.name (d : DefS) : List UInt8 := match d.names with
 | [] => d.oid
 | n :: _ => n
structure AttrS where
 oid : List UInt8
 name : List UInt8
 sup : List UInt8
 names : List (List UInt8)
 form : List UInt8
 eqr : List UInt8
 ordr : List UInt8
 subs : List UInt8
 single : Bool
 fixed : Bool
 oper : Bool
 deriving DecidableEq
def DefS.attr (d : DefS) : AttrS := ⟨d.oid, d.name, [], d.names, d.form, d.eqr, d.ordr, d.subs, d.single, d.fixed, d.oper⟩
def orL (a b : List UInt8) : List UInt8 := if a = [] then b else a
def AttrS.under (a up : AttrS) : AttrS := { a with sup := up.name, form := orL a.form up.form, eqr := orL a.eqr up.eqr, ordr := orL a.ordr up.ordr, subs := orL a.subs up.subs }
def countsF (L : List DefS) : Nat → Nat → Option AttrS
 | 0, _ => none
 | n + 1, i => match L[i]? with
  | none => none
  | some d => match d.sup with
   | [] => some d.attr
   | s :: _ => match findD L false s with
    | none => none
    | some j => (countsF L n j).map d.attr.under
def countsD (L : List DefS) (i : Nat) : Option AttrS := countsF L (L.length + 1) i
def fitsRule (r form : List UInt8) : Bool := match ruleT (smallL r) with
 | none => false
 | some x => x.2.2.1.contains form
def fitsD (L : List DefS) (d : DefS) (i : Nat) : Bool :=
 if d.cls then !d.sup.any (fun n => match findD L true n with
  | none => false
  | some j => match L[j]? with
   | none => false
   | some u => u.kind != 0 && u.kind != d.kind)
 else match countsD L i with
  | none => false
  | some a => [a.eqr, a.ordr, a.subs].all (fun r => r == [] || fitsRule r a.form) && !(a.form == [])
open Go.RowKit
open Go.RowKit
section
variable {ops : Array Oper} {o : Oper} {a : Act} {K : Act → World → Prop} {Q : Exit → Act → World → Prop} {E : Prop}
end
open Go.RowKit Go.Sort
def encA (x : List UInt8 × List UInt8) : List Value := [.string ⟨x.1.toArray⟩, .string ⟨x.2.toArray⟩]
open Go.RowKit Go.Sort
structure Ord {α : Type} (f : α → α → Int) : Prop where
 swap : ∀ a b, f b a = -f a b
 zero : ∀ a b, f a b = 0 ↔ a = b
 trans : ∀ a b c, f a b ≤ 0 → f b c ≤ 0 → f a c ≤ 0
open Go.RowKit Go.Sort
def RowA (w : World) (g : Nat) (l : List (List UInt8 × List UInt8)) : Prop :=
 g < w.heap.size ∧ ∀ j x, l[j]? = some x → (w.cell? ⟨g, 2 * j, none⟩ = some (.string ⟨x.1.toArray⟩) ∧ w.frozen? ⟨g, 2 * j, none⟩ = false) ∧ (w.cell? ⟨g, 2 * j + 1, none⟩ = some (.string ⟨x.2.toArray⟩) ∧ w.frozen? ⟨g, 2 * j + 1, none⟩ = false)
theorem RowA.holds {w : World} {g : Nat} {l : List (List UInt8 × List UInt8)} (h : RowA w g l) : HoldsK encA 2 w g 0 l.toArray := by
 intro j hj
 have hj2 : j < l.length * 2 := by simpa using hj
 have hd : j / 2 < l.length := by omega
 have hx := h.2 (j / 2) l[j / 2] (List.getElem?_eq_getElem hd)
 rw [get_flatK encA 2 l.toArray j (by simpa using hj2)]
 have e : l.toArray[j / 2]! = l[j / 2] := by simp [hd]
 rw [e, Nat.zero_add]
 rcases Nat.mod_two_eq_zero_or_one j with h0 | h0
 ·have e2 : 2 * (j / 2) = j := by omega
  rw [e2] at hx
  rw [h0]
  exact hx.1
 ·have e2 : 2 * (j / 2) + 1 = j := by omega
  rw [e2] at hx
  rw [h0]
  exact hx.2
open Go.RowKit Go.Sort
theorem ba_list (l : List UInt8) : (⟨l.toArray⟩ : ByteArray).toList = l := by
 first | rfl | (simp [ByteArray.toList]; done) | exact ByteArray.toList_eq _ 
theorem RowA.drewN {w : World} {g : Nat} {l : List (List UInt8 × List UInt8)} (h : RowA w g l) (n : Nat) : RowA (w.drewN n) g l := h
theorem RowA.at2 {w : World} {g : Nat} {l : List (List UInt8 × List UInt8)} (h : RowA w g l) {j : Nat} {x : List UInt8 × List UInt8} (hj : l[j]? = some x) :
  w.cell? ⟨g, j * 2, none⟩ = some (.string ⟨x.1.toArray⟩) ∧ w.cell? ⟨g, j * 2 + 1, none⟩ = some (.string ⟨x.2.toArray⟩) ∧ w.frozen? ⟨g, j * 2, none⟩ = false ∧ w.frozen? ⟨g, j * 2 + 1, none⟩ = false := by
 have := h.2 j x hj
 rw [Nat.mul_comm 2 j] at this
 exact ⟨this.1.1, this.2.1, this.1.2, this.2.2⟩
theorem set_other (w : World) (g o o' : Nat) (v : Value) (h : o ≠ o') : (w.setCell ⟨g, o, none⟩ v).cell? ⟨g, o', none⟩ = w.cell? ⟨g, o', none⟩ := by
 apply World.cell?_setCell_other
 intro e
 injection e
 omega
theorem set_same (w : World) (g o : Nat) (u v : Value) (h : w.cell? ⟨g, o, none⟩ = some u) : (w.setCell ⟨g, o, none⟩ v).cell? ⟨g, o, none⟩ = some v := World.cell?_setCell_same' w _ v (by rw [h]; rfl)
theorem RowA.set {w : World} {g : Nat} {l : List (List UInt8 × List UInt8)} (h : RowA w g l) {j : Nat} (hj : j < l.length) (x : List UInt8 × List UInt8) :
  RowA ((w.setCell ⟨g, j * 2, none⟩ (.string ⟨x.1.toArray⟩)).setCell ⟨g, j * 2 + 1, none⟩ (.string ⟨x.2.toArray⟩)) g (l.set j x) := by
 have hc0 := (h.at2 (List.getElem?_eq_getElem hj)).1
 have hc1 := (h.at2 (List.getElem?_eq_getElem hj)).2.1
 refine ⟨by simp [World.setCell]; exact h.1, fun i y hi => ?_⟩
 have e0 : ∀ o, ((w.setCell ⟨g, j * 2, none⟩ (.string ⟨x.1.toArray⟩)).setCell ⟨g, j * 2 + 1, none⟩ (.string ⟨x.2.toArray⟩)).frozen? ⟨g, o, none⟩ = w.frozen? ⟨g, o, none⟩ := fun o => (World.frozen?_setCell _ _ _ _).trans (World.frozen?_setCell _ _ _ _)
 rw [e0, e0]
 rw [List.getElem?_set] at hi
 by_cases hij : j = i
 ·subst hij
  rw [if_pos rfl, if_pos hj] at hi
  cases hi
  have hf := h.at2 (List.getElem?_eq_getElem hj)
  rw [Nat.mul_comm 2 j]
  refine ⟨⟨?_, hf.2.2.1⟩, ?_, hf.2.2.2⟩
  ·rw [set_other _ _ _ _ _ (by omega)]
   exact set_same _ _ _ _ _ hc0
  ·exact set_same _ _ _ _ _ ((set_other _ _ _ _ _ (by omega)).trans hc1)
 ·rw [if_neg hij] at hi
  have hx := h.2 i y hi
  refine ⟨⟨?_, hx.1.2⟩, ?_, hx.2.2⟩
  ·rw [set_other _ _ _ _ _ (by omega), set_other _ _ _ _ _ (by omega)]
   exact hx.1.1
  ·rw [set_other _ _ _ _ _ (by omega), set_other _ _ _ _ _ (by omega)]
   exact hx.2.1
open Go.RowKit Go.Sort
open Go.RowKit Go.Sort
abbrev PartM := Nat × Nat × List (List UInt8 × List UInt8)
def NM (B : Nat) (w : World) (gd : Nat) (L : List PartM) : Prop :=
 gd < w.heap.size ∧ B ≤ gd ∧ L.Pairwise (fun x y => x.1 ≠ y.1) ∧ ∀ (i : Nat) (x : PartM), L[i]? = some x →
  w.cell? ⟨gd, i, none⟩ = some (.slice (some ⟨x.1, 0, none⟩) x.2.2.length x.2.1) ∧ w.frozen? ⟨gd, i, none⟩ = false ∧ RowA w x.1 x.2.2 ∧ x.2.2.length ≤ x.2.1 ∧ B ≤ x.1 ∧ x.1 ≠ gd
theorem RowA.keep {w w' : World} {g : Nat} {l : List (List UInt8 × List UInt8)} (h : RowA w g l) {r : Option Nat} (hg : w.grownBy w' r) (hne : some g ≠ r) : RowA w' g l := by
 have hb := hg.block g h.1 hne
 refine ⟨Nat.lt_of_lt_of_le h.1 hg.size, fun j x hj => ?_⟩
 have := h.2 j x hj
 rw [World.cell?_of_block (w := w) (w' := w') (a := ⟨g, 2 * j, none⟩) hb, World.cell?_of_block (w := w) (w' := w') (a := ⟨g, 2 * j + 1, none⟩) hb, World.frozen?_of_block (w := w) (w' := w') (a := ⟨g, 2 * j, none⟩) hb, World.frozen?_of_block (w := w) (w' := w') (a := ⟨g, 2 * j + 1, none⟩) hb]
 exact this
theorem NM.part {B : Nat} {w w1 : World} {gd i : Nat} {L : List PartM} {x : PartM} {p : List (List UInt8 × List UInt8)} (h : NM B w gd L) (hi : L[i]? = some x)
  (hg : w.grownBy w1 (some x.1)) (hr : RowA w1 x.1 p) (hc : p.length ≤ x.2.1) :
  NM B (w1.setCell ⟨gd, i, none⟩ (.slice (some ⟨x.1, 0, none⟩) p.length x.2.1)) gd (L.set i (x.1, x.2.1, p)) := by
 obtain ⟨h1, h2, h3, h4⟩ := h
 have hx := h4 i x hi
 have hil : i < L.length := (List.getElem?_eq_some_iff.1 hi).1
 have hbd : w1.heap[gd]? = w.heap[gd]? := hg.block gd h1 (by intro e; exact hx.2.2.2.2.2 (Option.some.inj e).symm)
 have hs := setCell_grown w1 gd i (.slice (some ⟨x.1, 0, none⟩) p.length x.2.1)
 refine ⟨Nat.lt_of_lt_of_le h1 (Nat.le_trans hg.size hs.size), h2, ?_, fun k y hk => ?_⟩
 ·rw [List.pairwise_iff_getElem] at h3 ⊢
  intro a b ha hb hab
  have hxe : L[i] = x := (List.getElem?_eq_some_iff.1 hi).2
  simp only [List.length_set] at ha hb
  have := h3 a b ha hb hab
  simp only [List.getElem_set]
  split <;> split
  ·omega
  ·next e _ => subst e; rw [hxe] at this; exact this
  ·next _ e => subst e; rw [hxe] at this; exact this
  ·exact this
 ·rw [List.getElem?_set] at hk
  rw [World.frozen?_setCell]
  by_cases hik : i = k
  ·subst hik
   rw [if_pos rfl, if_pos hil] at hk
   cases hk
   refine ⟨set_same _ _ _ _ _ ((World.cell?_of_block (a := ⟨gd, i, none⟩) hbd).trans hx.1), (World.frozen?_of_block (a := ⟨gd, i, none⟩) hbd).trans hx.2.1, hr.keep hs (by intro e; exact hx.2.2.2.2.2 (Option.some.inj e)), hc, hx.2.2.2.2.1, hx.2.2.2.2.2⟩
  ·rw [if_neg hik] at hk
   have hy := h4 k y hk
   have hne : y.1 ≠ x.1 := by
    rw [List.pairwise_iff_getElem] at h3
    have hkl : k < L.length := (List.getElem?_eq_some_iff.1 hk).1
    have e1 : L[i] = x := (List.getElem?_eq_some_iff.1 hi).2
    have e2 : L[k] = y := (List.getElem?_eq_some_iff.1 hk).2
    rcases Nat.lt_or_gt_of_ne hik with hlt | hlt
    ·have := h3 i k hil hkl hlt; rw [e1, e2] at this; exact Ne.symm this
    ·have := h3 k i hkl hil hlt; rw [e1, e2] at this; exact this
   refine ⟨(set_other _ _ _ _ _ (by omega)).trans ((World.cell?_of_block (a := ⟨gd, k, none⟩) hbd).trans hy.1), (World.frozen?_of_block (a := ⟨gd, k, none⟩) hbd).trans hy.2.1, (hy.2.2.1.keep hg (by intro e; exact hne (Option.some.inj e))).keep hs (by intro e; exact hy.2.2.2.2.2 (Option.some.inj e)), hy.2.2.2.1, hy.2.2.2.2.1, hy.2.2.2.2.2⟩
open Go.RowKit Go.Sort
open Go.RowKit Go.Sort
section
variable (Q : List UInt8 × List UInt8 → Prop) (hQ : ∀ r x r', pairR r = some (x, r') → Q x)
include hQ
end
open Go.RowKit
def VR (r : Int) : Prop := (0 ≤ r ∧ r < 55296) ∨ (57344 ≤ r ∧ r ≤ 1114111)
theorem VR_of {r : Int} (h : Lib.validRune r = true) : VR r := by
 unfold Lib.validRune at h; simp at h; unfold VR; omega
theorem enc_cases {r : Int} (h : VR r) :
  (0 ≤ r ∧ r < 128 ∧ encR r = [UInt8.ofNat r.toNat]) ∨
  (128 ≤ r ∧ r < 2048 ∧ encR r = [UInt8.ofNat (192 + r.toNat / 64), UInt8.ofNat (128 + r.toNat % 64)]) ∨
  (2048 ≤ r ∧ r < 65536 ∧ encR r = [UInt8.ofNat (224 + r.toNat / 4096), UInt8.ofNat (128 + r.toNat / 64 % 64), UInt8.ofNat (128 + r.toNat % 64)]) ∨
  (65536 ≤ r ∧ r ≤ 1114111 ∧ encR r = [UInt8.ofNat (240 + r.toNat / 262144), UInt8.ofNat (128 + r.toNat / 4096 % 64), UInt8.ofNat (128 + r.toNat / 64 % 64), UInt8.ofNat (128 + r.toNat % 64)]) := by
 have hv : Utf8.valid r = true := by unfold VR at h; unfold Utf8.valid; simp; omega
 unfold encR Utf8.encode
 rw [hv]
 simp only [if_true]
 by_cases h1 : r.toNat < 128
 ·left; refine ⟨by unfold VR at h; omega, by omega, ?_⟩; rw [if_pos h1]
 ·rw [if_neg h1]
  right
  by_cases h2 : r.toNat < 2048
  ·left; refine ⟨by omega, by omega, ?_⟩; rw [if_pos h2]
  ·rw [if_neg h2]
   right
   by_cases h3 : r.toNat < 65536
   ·left; refine ⟨by omega, by omega, ?_⟩; rw [if_pos h3]
   ·rw [if_neg h3]
    right
    refine ⟨by omega, by unfold VR at h; omega, rfl⟩
theorem ofN {n : Nat} (h : n < 256) : (UInt8.ofNat n).toNat = n := by simp; omega
/-! ### what becomes of characters -/
open Go.RowKit
theorem dropW_id {α : Type} [BEq α] [LawfulBEq α] (c : α) : ∀ l : List α, l.head? ≠ some c → l.dropWhile (· == c) = l
 | [], _ => rfl
 | x :: l, h => by
  have : (x == c) = false := by rw [beq_eq_false_iff_ne]; intro e; apply h; simp [e]
  rw [List.dropWhile_cons, this]; simp
open Go.RowKit Go.Sort
def SS {α : Type} (f : α → α → Int) (l : List α) : Prop := l.Pairwise (fun a b => f a b < 0)
theorem SS.unique {α : Type} {f : α → α → Int} (hf : Ord f) : ∀ l l' : List α, SS f l → SS f l' → (∀ x, x ∈ l ↔ x ∈ l') → l = l'
 | [], [], _, _, _ => rfl
 | [], y :: l', _, _, h => by have := (h y).2 (by simp); simp at this
 | x :: l, [], _, _, h => by have := (h x).1 (by simp); simp at this
 | x :: l, y :: l', h1, h2, h => by
  unfold SS at h1 h2
  rw [List.pairwise_cons] at h1 h2
  have hxy : x = y := by
   have a := (h x).1 (by simp)
   have b := (h y).2 (by simp)
   rw [List.mem_cons] at a b
   rcases a with a | a
   ·exact a
   ·rcases b with b | b
    ·exact b.symm
    ·have c := h1.1 y b
     have d := h2.1 x a
     have e := hf.swap x y
     omega
  subst hxy
  have hx := (hf.zero x x).2 rfl
  rw [SS.unique hf l l' h1.2 h2.2 (fun z => ?_)]
  constructor
  ·intro hz
   have := (h z).1 (by simp [hz])
   rw [List.mem_cons] at this
   rcases this with e | e
   ·have := h1.1 z hz; rw [e] at this; omega
   ·exact e
  ·intro hz
   have := (h z).2 (by simp [hz])
   rw [List.mem_cons] at this
   rcases this with e | e
   ·have := h2.1 z hz; rw [e] at this; omega
   ·exact e
open Go.RowKit Go.Sort
open Go.RowKit Go.Sort
def Stop (r : List UInt8) : Prop := ∀ x t, r = x :: t → x = 43 ∨ x = 44
theorem idx_mem (l : List UInt8) (c : UInt8) : 0 ≤ Lib.indexByte l c ↔ c ∈ l := by
 have := Lib.contains_iff_indexByte l c
 rw [Bool.eq_iff_iff] at this
 simpa using this.symm
theorem blk_id (l : List UInt8) (h : ∀ x t, l = x :: t → x ≠ 32) : blk l = l := by
 unfold blk
 apply dropW_id
 cases l with
 | nil => simp
 | cons x t => simp; exact h x t rfl
theorem Stop.blk {r : List UInt8} (h : Stop r) : blk r = r := blk_id r (fun x t e => by rcases h x t e with rfl | rfl <;> decide)
def Stop4 (r : List UInt8) : Prop := ∀ x t, r = x :: t → x = 44
theorem Stop4.stop {r : List UInt8} (h : Stop4 r) : Stop r := fun x t e => .inr (h x t e)
open Go.RowKit
def stopCs : List UInt8 := [32, 9, 10, 13, 40, 41, 36, 39]
theorem idxB_none (l : List UInt8) (c : UInt8) (h : l.contains c = false) : Lib.indexByte l c = -1 := by
 have h1 := Lib.indexByte_ge l c
 have h2 : ¬ 0 ≤ Lib.indexByte l c := by
  rw [idx_mem]
  simpa using h
 omega
theorem wordsF_nil (n : Nat) {r : List UInt8} (acc : List Wd) (h : r.dropWhile sBlank = []) : wordsF (n + 1) r acc = some acc := by
 rw [wordsF, h]
open Go.RowKit
theorem enc_more {r : Int} (h : VR r) (h1 : 128 ≤ r) : ∃ b : UInt8, 128 ≤ b.toNat ∧ ((∃ x, Utf8.encode r = ⟨#[x, b]⟩) ∨ (∃ x y, Utf8.encode r = ⟨#[x, y, b]⟩) ∨ (∃ x y z, Utf8.encode r = ⟨#[x, y, z, b]⟩)) := by
 have mk : ∀ l : List UInt8, encR r = l → Utf8.encode r = ⟨l.toArray⟩ := by
  intro l hl
  rw [← encR_mk, hl]
 rcases enc_cases h with ⟨a1, a2, e⟩ | ⟨a1, a2, e⟩ | ⟨a1, a2, e⟩ | ⟨a1, a2, e⟩
 ·omega
 ·exact ⟨_, by rw [ofN (by omega)]; omega, .inl ⟨_, mk _ e⟩⟩
 ·exact ⟨_, by rw [ofN (by omega)]; omega, .inr (.inl ⟨_, _, mk _ e⟩)⟩
 ·exact ⟨_, by rw [ofN (by omega)]; omega, .inr (.inr ⟨_, _, _, mk _ e⟩)⟩
theorem idx_high {l : List UInt8} {b : UInt8} (hb : 128 ≤ b.toNat) (h : l.all (fun c => decide (c.toNat < 128)) = true) : Lib.indexByte l b = -1 := by
 apply idxB_none
 rw [← Bool.not_eq_true, List.contains_iff_mem]
 intro hm
 have := List.all_eq_true.1 h b hm
 simp at this
 omega
open Go.RowKit
def IdxFrom (l : List UInt8) (k : Nat) : Prop := Lib.indexAny l stopCs = if Lib.indexAny (l.drop k) stopCs = -1 then -1 else (k : Int) + Lib.indexAny (l.drop k) stopCs
theorem IdxFrom.zero (l : List UInt8) : IdxFrom l 0 := by
 unfold IdxFrom
 rw [List.drop_zero]
 split
 ·next h => exact h
 ·simp
theorem idx_cons (b : UInt8) (l : List UInt8) : Lib.indexAny (b :: l) stopCs = if stopCs.contains b then 0 else if Lib.indexAny l stopCs = -1 then -1 else Lib.indexAny l stopCs + 1 := by
 rw [Lib.indexAny]
 split
 ·rfl
 ·simp only [beq_iff_eq]
theorem IdxFrom.one {l : List UInt8} {k : Nat} (h : IdxFrom l k) (hk : k < l.length) (hn : stopCs.contains l[k] = false) : IdxFrom l (k + 1) := by
 unfold IdxFrom at h ⊢
 rw [List.drop_eq_getElem_cons hk, idx_cons, hn] at h
 have hg := Lib.indexAny_ge stopCs (l.drop (k + 1))
 simp only [Bool.false_eq_true, if_false] at h
 generalize Lib.indexAny (l.drop (k + 1)) stopCs = z at *
 by_cases h1 : z = -1
 ·simp only [h1, if_true] at h ⊢
  exact h
 ·rw [if_neg h1, if_neg (by omega)] at h
  rw [if_neg h1, h]
  push_cast
  omega
theorem IdxFrom.more {l : List UInt8} {k : Nat} (h : IdxFrom l k) : ∀ n, k + n ≤ l.length → (∀ j (hj : j < l.length), k ≤ j → j < k + n → stopCs.contains l[j] = false) → IdxFrom l (k + n)
 | 0, _, _ => h
 | n + 1, hn, hs => (IdxFrom.more h n (by omega) (fun j hj h1 h2 => hs j hj h1 (by omega))).one (by omega) (hs (k + n) (by omega) (by omega) (by omega))
theorem IdxFrom.hit {l : List UInt8} {k : Nat} (h : IdxFrom l k) (hk : k < l.length) (hn : stopCs.contains l[k] = true) : Lib.indexAny l stopCs = k := by
 unfold IdxFrom at h
 rw [List.drop_eq_getElem_cons hk, idx_cons, hn] at h
 simpa using h
theorem IdxFrom.none {l : List UInt8} (h : IdxFrom l l.length) : Lib.indexAny l stopCs = -1 := by
 unfold IdxFrom at h
 rw [List.drop_length] at h
 exact h
theorem decode_high (l : List UInt8) (h : 128 ≤ (l.getD 0 0).toNat) : 128 ≤ (Lib.decodeL l).1 ∧ ∀ j, j < (Lib.decodeL l).2 → 128 ≤ (l.getD j 0).toNat := by
 have key : 128 ≤ (Lib.decodeL l).1 ∧ (Lib.decodeL l).2 ≤ 4 ∧ (1 < (Lib.decodeL l).2 → 128 ≤ (l.getD 1 0).toNat) ∧ (2 < (Lib.decodeL l).2 → 128 ≤ (l.getD 2 0).toNat) ∧ (3 < (Lib.decodeL l).2 → 128 ≤ (l.getD 3 0).toNat) := by
  rw [Lib.decodeL_N]
  generalize (l.getD 0 0).toNat = b0 at *
  generalize (l.getD 1 0).toNat = b1 at *
  generalize (l.getD 2 0).toNat = b2 at *
  generalize (l.getD 3 0).toNat = b3 at *
  unfold Lib.decodeN
  repeat' split
  all_goals dsimp only
  all_goals refine ⟨?_, ?_, ?_, ?_, ?_⟩
  all_goals omega
 obtain ⟨k1, k2, k3, k4, k5⟩ := key
 refine ⟨k1, fun j hj => ?_⟩
 match j, hj with
 | 0, _ => exact h
 | 1, hj => exact k3 hj
 | 2, hj => exact k4 hj
 | 3, hj => exact k5 hj
 | j + 4, hj => omega
end Go.Proofs.YthenffabboomnaaGreatDoor
