import Init
import Derived.Test.YtkkbbhlihilnpaaGreatDoorWvd6
import Derived.SizedLaws
import Derived.Carry
import Derived.SliceStrings
import Derived.Deep.Slices
import Derived.Deep.Strs
import Derived.Lib.SmallJoins
set_option linter.all false
set_option maxHeartbeats 8000000
set_option maxRecDepth 100000
namespace Go.Proofs.YtkkbbhlihilnpaaGreatDoor.Ent
abbrev BL := List UInt8
structure InfoE where
 name : BL
 oid : BL
 eqr : BL
 single : Bool
 fixed : Bool
 oper : Bool
structure AttrE where
 typ : BL
 vals : List BL
 deriving DecidableEq
structure EntryE where
 dn : BL
 attrs : List AttrE
 deriving DecidableEq
structure ClassE where
 name : BL
 kind : Int
 must : List BL
 may : List BL
structure ModE where
 op : Int
 typ : BL
 vals : List BL
structure SchE where
 attr : BL → Option InfoE
 norm : BL → BL → Int × BL
 sub : BL → BL → Bool
 eqn : BL → BL → Int × BL
 first : BL → Option (List (BL × BL))
 named : BL → Bool
 cls : BL → Option ClassE
 above : BL → List BL
def zeroE : EntryE := ⟨[], []⟩
section
variable (S : SchE)
def normF (t v : BL) : BL := (S.norm t v).2
def okF (t v : BL) : Bool := (S.norm t v).1 == 0
def findE (e : EntryE) (t : BL) : List BL := e.attrs.flatMap fun a => if S.sub a.typ t then a.vals else []
def atE (e : EntryE) (t : BL) : Option Nat := e.attrs.findIdx? fun a => a.typ == t
def valuesE (e : EntryE) (t : BL) : List BL := match e.attrs.find? (fun a => a.typ == t) with
 | some a => a.vals
 | none => []
def setE (e : EntryE) (t : BL) (vs : List BL) : EntryE := match atE e t with
 | some i => if vs.isEmpty then ⟨e.dn, e.attrs.eraseIdx i⟩ else ⟨e.dn, e.attrs.set i ⟨t, vs⟩⟩
 | none => if vs.isEmpty then e else ⟨e.dn, e.attrs ++ [⟨t, vs⟩]⟩
structure RightA (a : AttrE) : Prop where
 known : ∃ d, S.attr a.typ = some d ∧ d.name = a.typ
 some : a.vals ≠ []
 ok : ∀ v ∈ a.vals, okF S a.typ v = true
 once : (a.vals.map (normF S a.typ)).Nodup
 few : a.vals.length ≤ 200
structure RightE (e : EntryE) : Prop where
 all : ∀ a ∈ e.attrs, RightA S a
 once : (e.attrs.map AttrE.typ).Nodup
 few : e.attrs.length ≤ 100
variable {S}
structure Right0 (S : SchE) (e : EntryE) : Prop where
 all : ∀ a ∈ e.attrs, RightA S a
 once : (e.attrs.map AttrE.typ).Nodup
theorem RightE.r0 {e : EntryE} (h : RightE S e) : Right0 S e := ⟨h.all, h.once⟩
theorem hit_or (l : List AttrE) (t : BL) : (∃ l1 a l2, l = l1 ++ a :: l2 ∧ a.typ = t ∧ t ∉ l1.map AttrE.typ) ∨ t ∉ l.map AttrE.typ := by
 induction l with
 | nil => exact .inr (by simp)
 | cons b l ih =>
  by_cases hb : b.typ = t
  ·exact .inl ⟨[], b, l, rfl, hb, by simp⟩
  ·rcases ih with ⟨l1, a, l2, rfl, h1, h2⟩ | h
   ·refine .inl ⟨b :: l1, a, l2, rfl, h1, ?_⟩
    simp only [List.map_cons, List.mem_cons, not_or]
    exact ⟨fun h => hb h.symm, h2⟩
   ·refine .inr ?_
    simp only [List.map_cons, List.mem_cons, not_or]
    exact ⟨fun h => hb h.symm, h⟩
theorem at_hit {dn t : BL} {l1 l2 : List AttrE} {a : AttrE} (ha : a.typ = t) (h1 : t ∉ l1.map AttrE.typ) : atE ⟨dn, l1 ++ a :: l2⟩ t = some l1.length ∧ valuesE ⟨dn, l1 ++ a :: l2⟩ t = a.vals := by
 unfold atE valuesE
 simp only
 induction l1 with
 | nil => refine ⟨?_, ?_⟩ <;> simp [List.findIdx?_cons, ha]
 | cons b l ih =>
  simp only [List.map_cons, List.mem_cons, not_or] at h1
  have hb : (b.typ == t) = false := beq_eq_false_iff_ne.2 (fun h => h1.1 h.symm)
  obtain ⟨i1, i2⟩ := ih h1.2
  rw [List.cons_append, List.findIdx?_cons, List.find?_cons, hb, i1]
  simp only [Bool.false_eq_true, if_false]
  exact ⟨rfl, i2⟩
theorem at_miss {e : EntryE} {t : BL} (h : t ∉ e.attrs.map AttrE.typ) : atE e t = none ∧ valuesE e t = [] := by
 unfold atE valuesE
 have hx : ∀ a ∈ e.attrs, (a.typ == t) = false := fun a ha => beq_eq_false_iff_ne.2 (fun he => h (List.mem_map.2 ⟨a, ha, he⟩))
 refine ⟨?_, ?_⟩
 ·rw [List.findIdx?_eq_none_iff]
  exact fun a ha => by rw [hx a ha]
 ·have : e.attrs.find? (fun a => a.typ == t) = none := by
   rw [List.find?_eq_none]
   exact fun a ha => by rw [hx a ha]; simp
  rw [this]
def oneL (t : BL) (vs : List BL) : List AttrE := if vs.isEmpty then [] else [⟨t, vs⟩]
theorem set_hit {dn t : BL} {l1 l2 : List AttrE} {a : AttrE} (ha : a.typ = t) (h1 : t ∉ l1.map AttrE.typ) (vs : List BL) : setE ⟨dn, l1 ++ a :: l2⟩ t vs = ⟨dn, l1 ++ oneL t vs ++ l2⟩ := by
 unfold setE oneL
 rw [(at_hit ha h1).1]
 simp only
 split
 ·congr 1
  rw [List.eraseIdx_append_of_length_le (Nat.le_refl _)]
  simp
 ·congr 1
  rw [List.set_append_right _ _ (Nat.le_refl _)]
  simp
theorem set_miss {e : EntryE} {t : BL} (h : t ∉ e.attrs.map AttrE.typ) (vs : List BL) : setE e t vs = ⟨e.dn, e.attrs ++ oneL t vs⟩ := by
 unfold setE oneL
 rw [(at_miss h).1]
 simp only
 split
 ·simp
 ·rfl
theorem set_set {e : EntryE} {t : BL} {vs us : List BL} (hr : Right0 S e) (hv : valuesE e t = us) (hnv : vs ≠ []) : setE (setE e t vs) t us = e := by
 obtain ⟨dn, ats⟩ := e
 have e1 : oneL t vs = [⟨t, vs⟩] := by unfold oneL; rw [if_neg (fun hx => hnv (List.isEmpty_iff.1 hx))]
 rcases hit_or ats t with ⟨l1, a, l2, rfl, h1, h2⟩ | hm
 ·rw [(at_hit h1 h2).2] at hv
  have ha := (hr.all a (by simp)).some
  rw [set_hit h1 h2, e1, List.append_assoc]
  show setE ⟨dn, l1 ++ (⟨t, vs⟩ : AttrE) :: l2⟩ t us = _
  rw [set_hit (a := ⟨t, vs⟩) rfl h2, ← hv]
  unfold oneL
  rw [if_neg (fun hx => ha (List.isEmpty_iff.1 hx)), List.append_assoc]
  obtain ⟨ty, vs'⟩ := a
  simp only at h1 ⊢
  rw [h1]
  rfl
 ·rw [(at_miss hm).2] at hv
  rw [show setE ⟨dn, ats⟩ t vs = ⟨dn, ats ++ oneL t vs⟩ from set_miss hm vs, e1]
  show setE ⟨dn, ats ++ (⟨t, vs⟩ : AttrE) :: []⟩ t us = _
  rw [set_hit (a := ⟨t, vs⟩) rfl hm, ← hv]
  show (⟨dn, ats ++ [] ++ []⟩ : EntryE) = _
  rw [List.append_nil, List.append_nil]
end
end Go.Proofs.YtkkbbhlihilnpaaGreatDoor.Ent
namespace Go.Proofs.YtkkbbhlihilnpaaGreatDoor
open Ent
def infoE (a : AttrS) : InfoE := ⟨a.name, a.oid, a.eqr, a.single, a.fixed, a.oper⟩
def classE (c : ClassS) : ClassE := ⟨c.name, c.kind, c.must, c.may⟩
def schE (L : List DefS) : SchE where
 attr t := (attrL L t).map infoE
 norm := normTy L
 sub := isSubD L
 eqn := normE
 first dn := if (parseL dn).1 = 0 then (parseL dn).2.head? else none
 named nm := (keyS L nm).1 == 0
 cls c := (findD L true c).bind fun i => (classD L i).map classE
 above c := match findD L true c with
  | some i => aboveN L i
  | none => []
open Go.RowKit
abbrev AttrQ := Ent.AttrE × Value
def aqCells (q : AttrQ) : List Value := [.string ⟨q.1.typ.toArray⟩, q.2]
theorem aqCells_len (q : AttrQ) : (aqCells q).length = 2 := rfl
theorem aflat_at : ∀ (l : List AttrQ) (j k : Nat) (u : Value) (h : j < l.length), (aqCells l[j])[k]? = some u → (l.flatMap aqCells)[j * 2 + k]? = some u
 | [], j, k, u, h, _ => absurd h (by simp)
 | q :: l, 0, k, u, h, hu => by
  have hk : k < 2 := by have := (List.getElem?_eq_some_iff.1 hu).1; rw [aqCells_len] at this; exact this
  rw [List.flatMap_cons, Nat.zero_mul, Nat.zero_add, List.getElem?_append_left (by rw [aqCells_len]; exact hk)]
  exact hu
 | q :: l, j + 1, k, u, h, hu => by
  rw [List.flatMap_cons, List.getElem?_append_right (by rw [aqCells_len]; omega), aqCells_len, show (j + 1) * 2 + k - 2 = j * 2 + k by omega]
  exact aflat_at l j k u (by simpa using h) hu
theorem add_at2 (b o j : Nat) : (⟨b, o, none⟩ : Addr).add j = ⟨b, o + j, none⟩ := by unfold Addr.add; split <;> simp_all
theorem texts_A {w : World} {v : Value} {xs : List (List UInt8)} (h : Texts w v xs) : TextsA w v xs := by
 rcases h with ⟨rfl, rfl⟩ | ⟨b, c, rfl, hc, hlt, hx⟩
 ·exact .inl ⟨rfl, rfl⟩
 ·refine .inr ⟨⟨b, 0, none⟩, c, rfl, hc, fun j hj => ?_⟩
  rw [add_at2, Nat.zero_add]
  exact hx j hj
theorem Own.textsA {B : Nat} {w : World} {v : Value} {xs : List (List UInt8)} (h : Own B w v xs) : TextsA w v xs := texts_A h.texts
def OwnAt (B : Nat) (w : World) (v : Value) (qs : List AttrQ) : Prop := w.ownsRow B 46 2 v qs.length (qs.flatMap aqCells) ∧ B ≤ w.heap.size
theorem OwnAt.nil {B : Nat} {w : World} (hB : B ≤ w.heap.size) : OwnAt B w (.slice none 0 0) [] := ⟨World.ownsRow_nil _ _ _ _, hB⟩
theorem OwnAt.lt {B : Nat} {w : World} {v : Value} {qs : List AttrQ} (h : OwnAt B w v qs) : ∀ k, v.ownBlock = some k → B ≤ k ∧ k < w.heap.size := fun k hk => h.1.lt k hk
theorem OwnAt.keep {B : Nat} {w w' : World} {v : Value} {qs : List AttrQ} (h : OwnAt B w v qs) {r : Option Nat} (hg : w.grownBy w' r) (hr : ∀ k, r = some k → k < B) : OwnAt B w' v qs := by
 refine ⟨h.1.kept hg ?_, Nat.le_trans h.2 hg.size⟩
 rcases hv : v.ownBlock with _ | g
 ·exact .inl rfl
 ·refine .inr ?_
  intro he
  have := hr g he.symm
  have := (h.1.lt g hv).1
  omega
theorem OwnAt.below {B : Nat} {w w' : World} {v : Value} {qs : List AttrQ} (h : OwnAt B w v qs) (hb : Below w.heap.size w w') : OwnAt B w' v qs := h.keep (grown_below hb none) (fun k hk => by cases hk)
theorem OwnAt.isSlice {B : Nat} {w : World} {v : Value} {qs : List AttrQ} (h : OwnAt B w v qs) : ∃ A c, v = .slice A qs.length c ∧ qs.length ≤ c := by
 obtain ⟨⟨h1, h2⟩, h3⟩ := h
 rcases h2 with ⟨rfl, hn⟩ | ⟨g, cap, cur, rfl, r2, r3, r4, _⟩
 ·exact ⟨none, 0, by rw [hn], by omega⟩
 ·exact ⟨_, cap, rfl, r4⟩
theorem OwnAt.bel {B : Nat} {W w w' : World} {v : Value} {qs : List AttrQ} (hb : Below B W w) (hO : OwnAt B w v qs) (hg : w.grownBy w' v.ownBlock) : Below B W w' := hb.grown hg hO.2 (fun k hk => (hO.lt k hk).1)
def AttrsQ (w : World) (v : Value) (qs : List AttrQ) : Prop := ∃ A c, v = .slice A qs.length c ∧ qs.length ≤ c ∧ (A = none → c = 0) ∧ ∀ j (hj : j < qs.length), ∃ b o, A = some ⟨b, o, none⟩ ∧ ∀ k u, (aqCells qs[j])[k]? = some u → w.cell? ⟨b, o + j * 2 + k, none⟩ = some u
def AQOk (W : World) (qs : List AttrQ) : Prop := ∀ q ∈ qs, TextsA W q.2 q.1.vals
theorem AQOk.below {w w' : World} {qs : List AttrQ} (h : AQOk w qs) (hb : Below w.heap.size w w') : AQOk w' qs := fun q hq => (h q hq).below hb
theorem AQOk.app {w : World} {qs ys : List AttrQ} (h : AQOk w qs) (h' : AQOk w ys) : AQOk w (qs ++ ys) := fun q hq => (List.mem_append.1 hq).elim (h q) (h' q)
theorem AQOk.nil (w : World) : AQOk w [] := fun q hq => (by cases hq)
theorem AttrsQ.below {w w' : World} {v : Value} {qs : List AttrQ} (h : AttrsQ w v qs) (hb : Below w.heap.size w w') : AttrsQ w' v qs := by
 obtain ⟨A, c, rfl, hc, hn, hx⟩ := h
 refine ⟨A, c, rfl, hc, hn, fun j hj => ?_⟩
 obtain ⟨b, o, hA, hk⟩ := hx j hj
 exact ⟨b, o, hA, fun k u hu => (hb.cell (cell_lt (hk k u hu))).trans (hk k u hu)⟩
def AttrsA (w : World) (v : Value) (l : List Ent.AttrE) : Prop := ∃ qs : List AttrQ, qs.map (·.1) = l ∧ AttrsQ w v qs ∧ AQOk w qs
theorem AttrsA.below {w w' : World} {v : Value} {l : List Ent.AttrE} (h : AttrsA w v l) (hb : Below w.heap.size w w') : AttrsA w' v l := by
 obtain ⟨qs, h1, h2, h3⟩ := h
 exact ⟨qs, h1, h2.below hb, h3.below hb⟩
theorem AttrsA.isSlice {w : World} {v : Value} {l : List Ent.AttrE} (h : AttrsA w v l) : ∃ A c, v = .slice A l.length c ∧ l.length ≤ c := by
 obtain ⟨qs, rfl, ⟨A, c, rfl, hc, _⟩, _⟩ := h
 exact ⟨A, c, by rw [List.length_map], by rw [List.length_map]; exact hc⟩
theorem AttrsA.at {w : World} {v : Value} {l : List Ent.AttrE} (h : AttrsA w v l) : ∃ A c, v = .slice A l.length c ∧ l.length ≤ c ∧ ∀ j (hj : j < l.length), ∃ b o va, A = some ⟨b, o, none⟩ ∧ w.cell? ⟨b, o + j * 2, none⟩ = some (.string ⟨l[j].typ.toArray⟩) ∧ w.cell? ⟨b, o + j * 2 + 1, none⟩ = some va ∧ TextsA w va l[j].vals := by
 obtain ⟨qs, rfl, ⟨A, c, rfl, hc, hn, hx⟩, hq⟩ := h
 refine ⟨A, c, by rw [List.length_map], by rw [List.length_map]; exact hc, fun j hj => ?_⟩
 rw [List.length_map] at hj
 obtain ⟨b, o, hA, hk⟩ := hx j hj
 have hm := hq _ (List.getElem_mem hj)
 have g0 := hk 0 _ rfl
 have g1 := hk 1 _ rfl
 refine ⟨b, o, qs[j].2, hA, ?_, g1, ?_⟩
 ·rw [List.getElem_map]; exact g0
 ·rw [List.getElem_map]; exact hm
theorem OwnAt.reads {B : Nat} {w : World} {v : Value} {qs : List AttrQ} (h : OwnAt B w v qs) : AttrsQ w v qs := by
 obtain ⟨⟨h1, h2⟩, h3⟩ := h
 rcases h2 with ⟨rfl, hn⟩ | ⟨g, cap, cur, rfl, r2, r3, r4, r5, r6, r7⟩
 ·have : qs = [] := List.eq_nil_of_length_eq_zero hn
  subst this
  exact ⟨none, 0, rfl, Nat.le_refl _, fun _ => rfl, fun j hj => absurd hj (by simp)⟩
 ·refine ⟨_, cap, rfl, r4, fun h => (by cases h), fun j hj => ⟨g, 0, rfl, fun k u hu => ?_⟩⟩
  have hf := aflat_at qs j k u hj hu
  have hk : k < 2 := by have := (List.getElem?_eq_some_iff.1 hu).1; rw [aqCells_len] at this; exact this
  rw [← r7, List.getElem?_take, if_pos (by omega)] at hf
  simp only [World.cell?, r3, Nat.zero_add]
  simpa using hf
theorem OwnAt.attrs {B : Nat} {w : World} {v : Value} {qs : List AttrQ} (h : OwnAt B w v qs) (hq : AQOk w qs) : AttrsA w v (qs.map (·.1)) := ⟨qs, rfl, h.reads, hq⟩
open Go.ChangeShapes Go.WideShapes Go.ChangeAt Go.RowKit Go.Lib Go.Shelf Go.Deep Go.Joins
theorem list3 {α : Type} {l : List α} (h : l.length = 3) : ∃ a b c, l = [a, b, c] := by
 match l, h with
 | [a, b, c], _ => exact ⟨a, b, c, rfl⟩
theorem bulkAll_strs {H : Type} : ∀ (ss : List ByteArray), Rows.uptoBulkAll (strs (H := H) ss) = ss.length + ((ss.map fun s => s.data.toList).map List.length).sum
 | [] => rfl
 | s :: ss => by
  have ih := bulkAll_strs (H := H) ss
  have e : strs (H := H) (s :: ss) = DataW.lit (.string s.data.toList) :: strs ss := rfl
  rw [e]
  simp only [Rows.uptoBulkAll, Rows.uptoBulk, ih, List.map_cons, List.sum_cons, List.length_cons]
  omega
theorem texts_row {W : World} {a : Addr} {len cap : Nat} {ss : List ByteArray} (hl : len ≤ cap) (hz : ss.length = cap) (hcell : ∀ i, i < ss.length → W.cell? (a.add i) = some (.string (ss.getD i ByteArray.empty))) :
  TextsA W (.slice (some a) len cap) ((ss.take len).map fun s => s.data.toList) := by
 have hlen : ((ss.take len).map fun s => s.data.toList).length = len := by simp; omega
 refine .inr ⟨a, cap, by rw [hlen], by omega, fun j hj => ?_⟩
 have hj' : j < len := by omega
 rw [hcell j (by omega)]
 congr 2
 simp only [List.getElem_map, List.getElem_take]
 rw [List.getD_eq_getElem?_getD, List.getElem?_eq_getElem (by omega)]
 rfl
section
variable {H : Type} {enc : TypeId × Value → H} {W : World} {base : Nat} {fuel : Nat} {cs : List Value} {x : DataW H × List MemPlace}
theorem texts_opened (h : DataW.trod enc Tryz.prog W base (fun _ => true) true fuel 23 cs = some x) : ∃ v xs, cs = [v] ∧ TextsA W v xs ∧ xs.length + (xs.map List.length).sum + 1 ≤ Rows.uptoBulk x.1 := by
 rcases open_strings Tryz.underlying23 Tryz.underlying9 (by kernel_rfl) h with ⟨rfl, rfl⟩ | ⟨a, len', cap', ss, rfl, _, hl, hm, hz, rfl, hcell, hsz⟩
 ·exact ⟨_, [], rfl, .inl ⟨rfl, rfl⟩, by simp [Rows.uptoBulk]⟩
 ·simp only [if_true] at hz
  refine ⟨_, _, rfl, texts_row hl hz hcell, ?_⟩
  simp only [Rows.uptoBulk, bulkAll_strs, List.length_map]
  omega
instance : Inhabited AttrQ := ⟨(⟨[], []⟩, .bool false)⟩
def ModsA (w : World) (v : Value) (l : List Ent.ModE) : Prop := ∃ A c, v = .slice A l.length c ∧ l.length ≤ c ∧ ∀ j (hj : j < l.length), ∃ b o va, A = some ⟨b, o, none⟩ ∧ w.cell? ⟨b, o + j * 3, none⟩ = some (.int .i64 l[j].op) ∧ w.cell? ⟨b, o + j * 3 + 1, none⟩ = some (.string ⟨l[j].typ.toArray⟩) ∧ w.cell? ⟨b, o + j * 3 + 2, none⟩ = some va ∧ TextsA w va l[j].vals
theorem ModsA.below {w w' : World} {v : Value} {l : List Ent.ModE} (h : ModsA w v l) (hb : Below w.heap.size w w') : ModsA w' v l := by
 obtain ⟨A, c, rfl, hc, hx⟩ := h
 refine ⟨A, c, rfl, hc, fun j hj => ?_⟩
 obtain ⟨b, o, va, hA, c0, c1, c2, c3⟩ := hx j hj
 exact ⟨b, o, va, hA, (hb.cell (cell_lt c0)).trans c0, (hb.cell (cell_lt c1)).trans c1, (hb.cell (cell_lt c2)).trans c2, c3.below hb⟩
instance : Inhabited (Ent.ModE × Value) := ⟨(⟨0, [], []⟩, .bool false)⟩
end
end Go.Proofs.YtkkbbhlihilnpaaGreatDoor
