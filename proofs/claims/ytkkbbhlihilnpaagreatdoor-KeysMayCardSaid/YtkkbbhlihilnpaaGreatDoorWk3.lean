import Derived.Maps.AppendAt
import Derived.Test.YtkkbbhlihilnpaaGreatDoorWk2
set_option linter.all false
set_option maxHeartbeats 8000000
set_option maxRecDepth 100000
namespace Go.Proofs.YtkkbbhlihilnpaaGreatDoor
open Go.RowKit
open Go.RowKit
open Go.RowKit
abbrev BLs := List (List UInt8)
open Go.RowKit
open Go.RowKit
open Go.RowKit
section
variable {ops : Array Oper} {o : Oper} {a : Act} {K : Act → World → Prop} {Q : Exit → Act → World → Prop} {E : Prop}
end
def Two (B : Nat) (w : World) (v u : Value) (xs ys : BLs) : Prop := Own B w v xs ∧ Own B w u ys ∧ ∀ k, v.ownBlock = some k → u.ownBlock ≠ some k
theorem Two.nil {B : Nat} {w : World} (hB : B ≤ w.heap.size) : Two B w (.slice none 0 0) (.slice none 0 0) [] [] := ⟨Own.nil hB, Own.nil hB, fun k hk => by simp [Value.ownBlock] at hk⟩
theorem Two.below {B : Nat} {w w' : World} {v u : Value} {xs ys : BLs} (h : Two B w v u xs ys) (hb : Below w.heap.size w w') : Two B w' v u xs ys := ⟨h.1.below hb, h.2.1.below hb, h.2.2⟩
theorem Two.fst {B : Nat} {w w' : World} {v v' u : Value} {xs xs' ys : BLs} (h : Two B w v u xs ys) (hO : Own B w' v' xs') (hg : w.grownBy w' v.ownBlock) (ha : v'.ownBlock = v.ownBlock ∨ v'.ownBlock = some w.heap.size) : Two B w' v' u xs' ys := by
 refine ⟨hO, h.2.1.keep2 hg (fun k hk he => h.2.2 k he hk), fun k hk hu => ?_⟩
 rcases ha with ha | ha
 ·rw [ha] at hk
  exact h.2.2 k hk hu
 ·rw [ha] at hk
  cases hk
  have := (h.2.1.lt _ hu).2
  omega
structure CkJ (w wf wr : World) (s : Nat) (dn : List UInt8) (A : Option Addr) (n c : Nat) (v u : Value) (m1 m2 : BLs) : Prop where
 bel : Below w.heap.size w wr
 belf : Below wf.heap.size wf wr
 ge : w.heap.size + 2 ≤ wf.heap.size
 bs : Bk wr w.heap.size 34 #[.pointer (some ⟨s, 0, none⟩)]
 be : Bk wr (w.heap.size + 1) 37 #[.string ⟨dn.toArray⟩, .slice A n c]
 two : Two wf.heap.size wr v u m1 m2
theorem CkJ.below {w wf wr W : World} {s : Nat} {dn : List UInt8} {A : Option Addr} {n c : Nat} {v u : Value} {m1 m2 : BLs} (h : CkJ w wf wr s dn A n c v u m1 m2) (hb : Below wr.heap.size wr W) : CkJ w wf W s dn A n c v u m1 m2 := ⟨h.bel.trans (hb.mono h.bel.size), h.belf.trans (hb.mono h.belf.size), h.ge, h.bs.below hb, h.be.below hb, h.two.below hb⟩
theorem CkJ.fst {w wf wr W : World} {s : Nat} {dn : List UInt8} {A : Option Addr} {n c : Nat} {v v' u : Value} {m1 m1' m2 : BLs} (h : CkJ w wf wr s dn A n c v u m1 m2) (hO : Own wf.heap.size W v' m1') (hg : wr.grownBy W v.ownBlock) (ha : v'.ownBlock = v.ownBlock ∨ v'.ownBlock = some wr.heap.size) : CkJ w wf W s dn A n c v' u m1' m2 := by
 have hne : ∀ k, v.ownBlock = some k → wf.heap.size ≤ k := fun k hk => (h.two.1.lt k hk).1
 have hge := h.ge
 refine ⟨h.bel.grown hg h.bel.size (fun k hk => by have := hne k hk; omega), h.belf.grown hg h.two.1.2 hne, h.ge, h.bs.grown hg (fun e => ?_), h.be.grown hg (fun e => ?_), h.two.fst hO hg ha⟩
 ·have := hne _ e.symm; omega
 ·have := hne _ e.symm; omega
open Go.RowKit
theorem Two.later {B : Nat} {w w' : World} {v u : Value} {xs ys : BLs} (h1 : Own B w v xs) (hb : Below w.heap.size w w') (h2 : Own w.heap.size w' u ys) : Two B w' v u xs ys :=
 ⟨h1.below hb, h2.lower h1.2, fun k hk hu => by have a := (h1.lt k hk).2; have b := (h2.lt k hu).1; omega⟩
theorem Two.lower {B B' : Nat} {w : World} {v u : Value} {xs ys : BLs} (h : Two B w v u xs ys) (hB : B' ≤ B) : Two B' w v u xs ys := ⟨h.1.lower hB, h.2.1.lower hB, h.2.2⟩
open Go.RowKit
open Go.RowKit
theorem ba_self (a : ByteArray) : (a == a) = true := by
 cases a with
 | mk d => exact beq_self_eq_true d
theorem modify_same {β : Type} {es : Array MapEntry} {i : Nat} {f : MapEntry → MapEntry} {g : MapEntry → β} (h : ∀ e, es.toList[i]? = some e → g (f e) = g e) : (es.modify i f).toList.map g = es.toList.map g := by
 rw [Array.toList_modify]
 apply List.ext_getElem?
 intro j
 rw [List.getElem?_map, List.getElem?_map, List.getElem?_modify]
 cases hj : es.toList[j]? with
 | none => rfl
 | some e =>
  by_cases hij : i = j
  ·subst hij
   simp [h e hj]
  ·simp [hij]
theorem Own.past {B m : Nat} {w : World} {v : Value} {xs : List (List UInt8)} (h : Own B w v xs) (hm : m < B) : v.ownBlock ≠ some m := fun e => by
 have := (h.lt m e).1
 omega
end Go.Proofs.YtkkbbhlihilnpaaGreatDoor
