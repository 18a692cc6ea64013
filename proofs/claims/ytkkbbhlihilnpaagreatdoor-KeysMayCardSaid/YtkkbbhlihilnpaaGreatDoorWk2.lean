import Derived.Test.YtkkbbhlihilnpaaGreatDoorWk1
import Derived.Lib.SlicesDelete
set_option linter.all false
set_option maxHeartbeats 8000000
set_option maxRecDepth 100000
namespace Go.Proofs.YtkkbbhlihilnpaaGreatDoor
open Go.RowKit
def AQOwn (W : World) (qs : List AttrQ) : Prop := ∀ q ∈ qs, Own 0 W q.2 q.1.vals
theorem AQOwn.nil (w : World) : AQOwn w [] := fun q hq => (by cases hq)
theorem AQOwn.below {w w' : World} {qs : List AttrQ} (h : AQOwn w qs) (hb : Below w.heap.size w w') : AQOwn w' qs := fun q hq => (h q hq).below hb
theorem AQOwn.ok {w : World} {qs : List AttrQ} (h : AQOwn w qs) : AQOk w qs := fun q hq => (h q hq).textsA
theorem AQOwn.far {w w' : World} {qs : List AttrQ} {g : Nat} {t : TypeId} {cs : Array Value} (h : AQOwn w qs) (hg : Bk w g t cs) (ht : t ≠ 9) (hw : w.grownBy w' (some g)) : AQOwn w' qs := fun q hq => (h q hq).keep2 hw ((h q hq).apart hg ht)
theorem OwnAt.ty {B : Nat} {w : World} {v : Value} {qs : List AttrQ} (h : OwnAt B w v qs) {k : Nat} (hk : v.ownBlock = some k) : ∃ cs, Bk w k 46 cs := by
 obtain ⟨⟨h1, h2⟩, h3⟩ := h
 rcases h2 with ⟨rfl, hn⟩ | ⟨g, cap, cur, rfl, r2, r3, r4, r5, r6, r7⟩
 ·simp [Value.ownBlock] at hk
 ·have hgk : g = k := by simpa [Value.ownBlock] using hk
  subst hgk
  exact ⟨cur, r3⟩
theorem AQOwn.grown {B : Nat} {w w' : World} {v : Value} {qs rs : List AttrQ} (h : AQOwn w qs) (hv : OwnAt B w v rs) (hg : w.grownBy w' v.ownBlock) : AQOwn w' qs := by
 cases hk : v.ownBlock with
 | none =>
  rw [hk] at hg
  exact fun q hq => (h q hq).keep hg (fun k hk => by cases hk)
 | some g =>
  obtain ⟨cs, hb⟩ := hv.ty hk
  rw [hk] at hg
  exact h.far hb (by decide) hg
theorem AQOwn.app {w : World} {qs ys : List AttrQ} (h : AQOwn w qs) (h' : AQOwn w ys) : AQOwn w (qs ++ ys) := fun q hq => (List.mem_append.1 hq).elim (h q) (h' q)
theorem AQOwn.one {w : World} {t : List UInt8} {vs : List (List UInt8)} {v : Value} (h : Own 0 w v vs) : AQOwn w [(⟨t, vs⟩, v)] := fun q hq => by rw [List.mem_singleton.1 hq]; exact h
def EntRet (w : World) (R : Int × Ent.EntryE) (e : Ending) (w' : World) : Prop := Below w.heap.size w w' ∧ ∃ (A : Option Addr) (c : Nat) (qs : List AttrQ), e = .returned (.tuple #[.agg #[.string ⟨R.2.dn.toArray⟩, .slice A R.2.attrs.length c], .int .i64 R.1]) ∧ qs.map (·.1) = R.2.attrs ∧ OwnAt w.heap.size w' (.slice A R.2.attrs.length c) qs ∧ AQOwn w' qs
theorem EntRet.zero {w w' : World} (hb : Below w.heap.size w w') (k : Int) : EntRet w (k, Ent.zeroE) (.returned (.tuple #[.agg #[.string ⟨#[]⟩, .slice none 0 0], .int .i64 k])) w' :=
 ⟨hb, none, 0, [], rfl, rfl, OwnAt.nil hb.size, AQOwn.nil _⟩
theorem OwnAt.keep2 {B : Nat} {w w' : World} {v : Value} {qs : List AttrQ} (h : OwnAt B w v qs) {r : Option Nat} (hg : w.grownBy w' r) (hr : ∀ k, v.ownBlock = some k → r ≠ some k) : OwnAt B w' v qs := by
 refine ⟨h.1.kept hg ?_, Nat.le_trans h.2 hg.size⟩
 rcases hv : v.ownBlock with _ | g
 ·exact .inl rfl
 ·refine .inr ?_
  intro he
  exact hr g hv he.symm
theorem OwnAt.apart {B g : Nat} {w : World} {v : Value} {qs : List AttrQ} {t : TypeId} {cs : Array Value} (h : OwnAt B w v qs) (hg : Bk w g t cs) (ht : t ≠ 46) : ∀ k, v.ownBlock = some k → (some g : Option Nat) ≠ some k := by
 intro k hk e
 cases e
 obtain ⟨cs', h'⟩ := h.ty hk
 exact bk_ne hg h' ht rfl
theorem OwnAt.ne {B g : Nat} {w : World} {v : Value} {qs : List AttrQ} {t : TypeId} {cs : Array Value} (h : OwnAt B w v qs) (hg : Bk w g t cs) (ht : t ≠ 46) : (some g : Option Nat) ≠ v.ownBlock := fun e => h.apart hg ht g e.symm rfl
structure MakeJ (w wr : World) (p : Nat) (nm : List UInt8) (va : Value) (qs : List AttrQ) : Prop where
 bel : Below w.heap.size w wr
 res : Bk wr w.heap.size 37 #[.string ⟨#[]⟩, .slice none 0 0]
 out : Bk wr p 37 #[.string ⟨nm.toArray⟩, va]
 row : OwnAt w.heap.size wr va qs
 own : AQOwn wr qs
theorem MakeJ.below {w wr W : World} {p : Nat} {nm : List UInt8} {va : Value} {qs : List AttrQ} (h : MakeJ w wr p nm va qs) (hb : Below wr.heap.size wr W) : MakeJ w W p nm va qs := ⟨h.bel.trans (hb.mono h.bel.size), h.res.below hb, h.out.below hb, h.row.below hb, h.own.below hb⟩
theorem MakeJ.more {w wr W : World} {p : Nat} {nm : List UInt8} {va v' : Value} {qs : List AttrQ} {q : AttrQ} (h : MakeJ w wr p nm va qs) (hp : w.heap.size < p) (hq : Own 0 wr q.2 q.1.vals) (hO : OwnAt w.heap.size W v' (qs ++ [q])) (hg : wr.grownBy W va.ownBlock) : MakeJ w (W.setCell ⟨p, 1, none⟩ v') p nm v' (qs ++ [q]) := by
 have hP := h.out.grown hg (h.row.ne h.out (by decide))
 have hR := h.res.grown hg (h.row.ne h.res (by decide))
 have hP2 : Bk (W.setCell ⟨p, 1, none⟩ v') p 37 #[.string ⟨nm.toArray⟩, v'] := by simpa using hP.set 1 v'
 have hs := setCell_grown W p 1 v'
 have hB := h.bel.grown hg h.row.2 (fun k hk => (h.row.lt k hk).1)
 have hQ : AQOwn W (qs ++ [q]) := AQOwn.grown (AQOwn.app h.own (fun x hx => by rw [List.mem_singleton.1 hx]; exact hq)) h.row hg
 exact ⟨hB.setCell (Nat.le_of_lt hp) _, hR.grown hs (by intro e; have := Option.some.inj e; omega), hP2, hO.keep2 hs (hO.apart hP (by decide)), hQ.far hP (by decide) hs⟩
open Go.RowKit
theorem OwnAt.cells {B : Nat} {w : World} {v : Value} {qs : List AttrQ} (h : OwnAt B w v qs) {i : Nat} (hi : i < qs.length) : ∃ g c, v = .slice (some ⟨g, 0, none⟩) qs.length c ∧ qs.length ≤ c ∧ B ≤ g ∧ v.ownBlock = some g ∧ (∃ cs, Bk w g 46 cs) ∧ w.cell? ⟨g, i * 2, none⟩ = some (.string ⟨qs[i].1.typ.toArray⟩) ∧ w.cell? ⟨g, i * 2 + 1, none⟩ = some qs[i].2 := by
 have hr := h.reads
 obtain ⟨⟨h1, h2⟩, h3⟩ := h
 rcases h2 with ⟨he, hn⟩ | ⟨g, cap, cur, rfl, r2, r3, r4, r5, r6, r7⟩
 ·omega
 obtain ⟨A, c, he, hc, _, hx⟩ := hr
 obtain ⟨b, o, hA, hk⟩ := hx i hi
 subst hA
 obtain ⟨rfl, rfl, rfl⟩ : g = b ∧ 0 = o ∧ cap = c := by cases he; exact ⟨rfl, rfl, rfl⟩
 have k0 := hk 0 _ rfl
 have k1 := hk 1 _ rfl
 simp only [Nat.zero_add, Nat.add_zero] at k0 k1
 exact ⟨g, cap, rfl, r4, r2, rfl, ⟨cur, r3⟩, k0, k1⟩
open Go.RowKit
open Go.RowKit
def EntAt (B : Nat) (w : World) (p : Nat) (e : Ent.EntryE) : Prop := ∃ (A : Option Addr) (c : Nat) (qs : List AttrQ), qs.map (·.1) = e.attrs ∧ B ≤ p ∧ Bk w p 37 #[.string ⟨e.dn.toArray⟩, .slice A e.attrs.length c] ∧ OwnAt B w (.slice A e.attrs.length c) qs ∧ AQOwn w qs
theorem EntAt.below {B p : Nat} {w w' : World} {e : Ent.EntryE} (h : EntAt B w p e) (hb : Below w.heap.size w w') : EntAt B w' p e := by
 obtain ⟨A, c, qs, h1, h2, h3, h4, h5⟩ := h
 exact ⟨A, c, qs, h1, h2, h3.below hb, h4.below hb, h5.below hb⟩
open Go.RowKit
section
variable {ops : Array Oper} {o : Oper} {a : Act} {K : Act → World → Prop} {Q : Exit → Act → World → Prop} {E : Prop}
end
def ChgB (B p : Nat) (w w' : World) : Prop := Below B w w' ∧ ∀ (k : Nat) (t : TypeId) (cs : Array Value), Bk w k t cs → k ≠ p → t ≠ 46 → Bk w' k t cs
theorem ChgB.below {B p : Nat} {w w' : World} (hB : B ≤ w.heap.size) (h : Below w.heap.size w w') : ChgB B p w w' := ⟨h.mono hB, fun _ _ _ hk _ _ => hk.below h⟩
theorem ChgB.trans {B p : Nat} {a b c : World} (h : ChgB B p a b) (h' : ChgB B p b c) : ChgB B p a c := ⟨h.1.trans h'.1, fun k t cs hk h1 h2 => h'.2 k t cs (h.2 k t cs hk h1 h2) h1 h2⟩
end Go.Proofs.YtkkbbhlihilnpaaGreatDoor
