import Derived.Test.YtconnibnpckadaaGreatDoorWvd6
import Derived.SizedLaws
import Derived.Carry
import Derived.SliceStrings
import Derived.Deep.Slices
import Derived.Deep.Strs
import Derived.Lib.SmallJoins
set_option linter.all false
set_option maxHeartbeats 8000000
set_option maxRecDepth 100000
namespace Go.Proofs.YtconnibnpckadaaGreatDoor
open Go.RowKit
theorem Own.keep2 {B : Nat} {w w' : World} {v : Value} {xs : List (List UInt8)} (h : Own B w v xs) {r : Option Nat} (hg : w.grownBy w' r) (hr : ∀ k, v.ownBlock = some k → r ≠ some k) : Own B w' v xs := by
 refine ⟨h.1.kept hg ?_, Nat.le_trans h.2 hg.size⟩
 rcases hv : v.ownBlock with _ | g
 ·exact .inl rfl
 ·refine .inr ?_
  intro he
  exact hr g hv he.symm
def seenP (ps l : List Nat) : List (Nat × Value) := l.map fun i => (pAt ps i, Value.agg #[])
def SeenP (w : World) (m : Nat) (ps l : List Nat) : Prop := ∃ es c, w.heap[m]? = some (.map es c) ∧ MapR ptrV es (seenP ps l)
theorem SeenP.lt {w : World} {m : Nat} {ps l : List Nat} (h : SeenP w m ps l) : m < w.heap.size := by
 obtain ⟨es, c, h1, _⟩ := h
 exact (Array.getElem?_eq_some_iff.1 h1).1
theorem SeenP.keep {w w' : World} {m : Nat} {ps l : List Nat} (h : SeenP w m ps l) (he : w'.heap[m]? = w.heap[m]?) : SeenP w' m ps l := by
 obtain ⟨es, c, h1, h2⟩ := h
 exact ⟨es, c, he.trans h1, h2⟩
theorem SeenP.below {w w' : World} {m : Nat} {ps l : List Nat} (h : SeenP w m ps l) (hb : Below w.heap.size w w') : SeenP w' m ps l := h.keep (hb.block m h.lt)
theorem SeenP.made (w : World) (ps : List Nat) : SeenP (w.alloc (.map #[] 0)) w.heap.size ps [] := ⟨_, _, heap_alloc_new w _, rfl⟩
section
variable {P : Program} {κ : Type} [DecidableEq κ]
end
structure NmOK (L : List DefS) (l : List (List UInt8)) : Prop where
 nodup : l.Nodup
 of : ∀ x ∈ l, x ∈ L.map DefS.name
theorem NmOK.nil (L : List DefS) : NmOK L [] := ⟨by simp, fun x hx => by simp at hx⟩
theorem sub_len6 {α : Type} [DecidableEq α] : ∀ (l M : List α), l.Nodup → (∀ x ∈ l, x ∈ M) → l.length ≤ M.length
 | [], M, _, _ => Nat.zero_le _
 | x :: t, M, hn, h => by
  rw [List.nodup_cons] at hn
  have hx := h x (by simp)
  have h1 := sub_len6 t (M.erase x) hn.2 (fun y hy => (List.mem_erase_of_ne (by rintro rfl; exact hn.1 hy)).2 (h y (by simp [hy])))
  have h2 := List.length_erase_of_mem hx
  have h3 : 0 < M.length := List.length_pos_of_mem hx
  simp only [List.length_cons]
  omega
theorem NmOK.len {L : List DefS} {l : List (List UInt8)} (h : NmOK L l) : l.length ≤ L.length := by
 have := sub_len6 l (L.map DefS.name) h.nodup h.of
 simpa using this
theorem NmOK.add {L : List DefS} {l : List (List UInt8)} (h : NmOK L l) {e : DefS} (he : e ∈ L) (hc : l.contains e.name = false) : NmOK L (l ++ [e.name]) := by
 refine ⟨?_, ?_⟩
 ·rw [List.nodup_append]
  refine ⟨h.nodup, by simp, fun a ha b hb => ?_⟩
  have hb' : b = e.name := by simpa using hb
  subst hb'
  rintro rfl
  rw [List.contains_iff_mem.2 ha] at hc
  cases hc
 ·intro x hx
  rcases List.mem_append.1 hx with hx | hx
  ·exact h.of x hx
  ·rw [List.mem_singleton.1 hx]
   exact List.mem_map_of_mem he
open Go.RowKit
open Ent
def infoE (a : AttrS) : InfoE := ⟨a.name, a.oid, a.eqr, a.single, a.fixed, a.oper⟩
def classE (c : ClassS) : ClassE := ⟨c.name, c.kind, c.must, c.may⟩
def schE (L : List DefS) : SchE where
 attr t := (attrL L t).map infoE
 norm := normTy L
 sub := isSubD L
 eqn := normE
 first dn := if (parseL dn).1 = 0 then (parseL dn).2.head? else none
 named nm := (keyS L nm).1 == 0
 cls c := (findD L true c).bind fun i => (classD L i).map classE
 above c := match findD L true c with
  | some i => aboveN L i
  | none => []
open Go.RowKit
abbrev AttrQ := Ent.AttrE × Value
def aqCells (q : AttrQ) : List Value := [.string ⟨q.1.typ.toArray⟩, q.2]
theorem aqCells_len (q : AttrQ) : (aqCells q).length = 2 := rfl
theorem aflat_at : ∀ (l : List AttrQ) (j k : Nat) (u : Value) (h : j < l.length), (aqCells l[j])[k]? = some u → (l.flatMap aqCells)[j * 2 + k]? = some u
 | [], j, k, u, h, _ => absurd h (by simp)
 | q :: l, 0, k, u, h, hu => by
  have hk : k < 2 := by have := (List.getElem?_eq_some_iff.1 hu).1; rw [aqCells_len] at this; exact this
  rw [List.flatMap_cons, Nat.zero_mul, Nat.zero_add, List.getElem?_append_left (by rw [aqCells_len]; exact hk)]
  exact hu
 | q :: l, j + 1, k, u, h, hu => by
  rw [List.flatMap_cons, List.getElem?_append_right (by rw [aqCells_len]; omega), aqCells_len, show (j + 1) * 2 + k - 2 = j * 2 + k by omega]
  exact aflat_at l j k u (by simpa using h) hu
theorem add_at2 (b o j : Nat) : (⟨b, o, none⟩ : Addr).add j = ⟨b, o + j, none⟩ := by unfold Addr.add; split <;> simp_all
theorem texts_A {w : World} {v : Value} {xs : List (List UInt8)} (h : Texts w v xs) : TextsA w v xs := by
 rcases h with ⟨rfl, rfl⟩ | ⟨b, c, rfl, hc, hlt, hx⟩
 ·exact .inl ⟨rfl, rfl⟩
 ·refine .inr ⟨⟨b, 0, none⟩, c, rfl, hc, fun j hj => ?_⟩
  rw [add_at2, Nat.zero_add]
  exact hx j hj
theorem Own.textsA {B : Nat} {w : World} {v : Value} {xs : List (List UInt8)} (h : Own B w v xs) : TextsA w v xs := texts_A h.texts
def OwnAt (B : Nat) (w : World) (v : Value) (qs : List AttrQ) : Prop := w.ownsRow B 200 2 v qs.length (qs.flatMap aqCells) ∧ B ≤ w.heap.size
theorem OwnAt.nil {B : Nat} {w : World} (hB : B ≤ w.heap.size) : OwnAt B w (.slice none 0 0) [] := ⟨World.ownsRow_nil _ _ _ _, hB⟩
theorem OwnAt.lt {B : Nat} {w : World} {v : Value} {qs : List AttrQ} (h : OwnAt B w v qs) : ∀ k, v.ownBlock = some k → B ≤ k ∧ k < w.heap.size := fun k hk => h.1.lt k hk
theorem OwnAt.keep {B : Nat} {w w' : World} {v : Value} {qs : List AttrQ} (h : OwnAt B w v qs) {r : Option Nat} (hg : w.grownBy w' r) (hr : ∀ k, r = some k → k < B) : OwnAt B w' v qs := by
 refine ⟨h.1.kept hg ?_, Nat.le_trans h.2 hg.size⟩
 rcases hv : v.ownBlock with _ | g
 ·exact .inl rfl
 ·refine .inr ?_
  intro he
  have := hr g he.symm
  have := (h.1.lt g hv).1
  omega
theorem OwnAt.below {B : Nat} {w w' : World} {v : Value} {qs : List AttrQ} (h : OwnAt B w v qs) (hb : Below w.heap.size w w') : OwnAt B w' v qs := h.keep (grown_below hb none) (fun k hk => by cases hk)
theorem OwnAt.isSlice {B : Nat} {w : World} {v : Value} {qs : List AttrQ} (h : OwnAt B w v qs) : ∃ A c, v = .slice A qs.length c ∧ qs.length ≤ c := by
 obtain ⟨⟨h1, h2⟩, h3⟩ := h
 rcases h2 with ⟨rfl, hn⟩ | ⟨g, cap, cur, rfl, r2, r3, r4, _⟩
 ·exact ⟨none, 0, by rw [hn], by omega⟩
 ·exact ⟨_, cap, rfl, r4⟩
theorem OwnAt.bel {B : Nat} {W w w' : World} {v : Value} {qs : List AttrQ} (hb : Below B W w) (hO : OwnAt B w v qs) (hg : w.grownBy w' v.ownBlock) : Below B W w' := hb.grown hg hO.2 (fun k hk => (hO.lt k hk).1)
def AttrsQ (w : World) (v : Value) (qs : List AttrQ) : Prop := ∃ A c, v = .slice A qs.length c ∧ qs.length ≤ c ∧ (A = none → c = 0) ∧ ∀ j (hj : j < qs.length), ∃ b o, A = some ⟨b, o, none⟩ ∧ ∀ k u, (aqCells qs[j])[k]? = some u → w.cell? ⟨b, o + j * 2 + k, none⟩ = some u
def AQOk (W : World) (qs : List AttrQ) : Prop := ∀ q ∈ qs, TextsA W q.2 q.1.vals
theorem AQOk.below {w w' : World} {qs : List AttrQ} (h : AQOk w qs) (hb : Below w.heap.size w w') : AQOk w' qs := fun q hq => (h q hq).below hb
theorem AQOk.nil (w : World) : AQOk w [] := fun q hq => (by cases hq)
theorem AttrsQ.below {w w' : World} {v : Value} {qs : List AttrQ} (h : AttrsQ w v qs) (hb : Below w.heap.size w w') : AttrsQ w' v qs := by
 obtain ⟨A, c, rfl, hc, hn, hx⟩ := h
 refine ⟨A, c, rfl, hc, hn, fun j hj => ?_⟩
 obtain ⟨b, o, hA, hk⟩ := hx j hj
 exact ⟨b, o, hA, fun k u hu => (hb.cell (cell_lt (hk k u hu))).trans (hk k u hu)⟩
def AttrsA (w : World) (v : Value) (l : List Ent.AttrE) : Prop := ∃ qs : List AttrQ, qs.map (·.1) = l ∧ AttrsQ w v qs ∧ AQOk w qs
theorem AttrsA.below {w w' : World} {v : Value} {l : List Ent.AttrE} (h : AttrsA w v l) (hb : Below w.heap.size w w') : AttrsA w' v l := by
 obtain ⟨qs, h1, h2, h3⟩ := h
 exact ⟨qs, h1, h2.below hb, h3.below hb⟩
theorem AttrsA.isSlice {w : World} {v : Value} {l : List Ent.AttrE} (h : AttrsA w v l) : ∃ A c, v = .slice A l.length c ∧ l.length ≤ c := by
 obtain ⟨qs, rfl, ⟨A, c, rfl, hc, _⟩, _⟩ := h
 exact ⟨A, c, by rw [List.length_map], by rw [List.length_map]; exact hc⟩
theorem AttrsA.at {w : World} {v : Value} {l : List Ent.AttrE} (h : AttrsA w v l) : ∃ A c, v = .slice A l.length c ∧ l.length ≤ c ∧ ∀ j (hj : j < l.length), ∃ b o va, A = some ⟨b, o, none⟩ ∧ w.cell? ⟨b, o + j * 2, none⟩ = some (.string ⟨l[j].typ.toArray⟩) ∧ w.cell? ⟨b, o + j * 2 + 1, none⟩ = some va ∧ TextsA w va l[j].vals := by
 obtain ⟨qs, rfl, ⟨A, c, rfl, hc, hn, hx⟩, hq⟩ := h
 refine ⟨A, c, by rw [List.length_map], by rw [List.length_map]; exact hc, fun j hj => ?_⟩
 rw [List.length_map] at hj
 obtain ⟨b, o, hA, hk⟩ := hx j hj
 have hm := hq _ (List.getElem_mem hj)
 have g0 := hk 0 _ rfl
 have g1 := hk 1 _ rfl
 refine ⟨b, o, qs[j].2, hA, ?_, g1, ?_⟩
 ·rw [List.getElem_map]; exact g0
 ·rw [List.getElem_map]; exact hm
theorem OwnAt.reads {B : Nat} {w : World} {v : Value} {qs : List AttrQ} (h : OwnAt B w v qs) : AttrsQ w v qs := by
 obtain ⟨⟨h1, h2⟩, h3⟩ := h
 rcases h2 with ⟨rfl, hn⟩ | ⟨g, cap, cur, rfl, r2, r3, r4, r5, r6, r7⟩
 ·have : qs = [] := List.eq_nil_of_length_eq_zero hn
  subst this
  exact ⟨none, 0, rfl, Nat.le_refl _, fun _ => rfl, fun j hj => absurd hj (by simp)⟩
 ·refine ⟨_, cap, rfl, r4, fun h => (by cases h), fun j hj => ⟨g, 0, rfl, fun k u hu => ?_⟩⟩
  have hf := aflat_at qs j k u hj hu
  have hk : k < 2 := by have := (List.getElem?_eq_some_iff.1 hu).1; rw [aqCells_len] at this; exact this
  rw [← r7, List.getElem?_take, if_pos (by omega)] at hf
  simp only [World.cell?, r3, Nat.zero_add]
  simpa using hf
theorem OwnAt.attrs {B : Nat} {w : World} {v : Value} {qs : List AttrQ} (h : OwnAt B w v qs) (hq : AQOk w qs) : AttrsA w v (qs.map (·.1)) := ⟨qs, rfl, h.reads, hq⟩
open Go.ChangeShapes Go.WideShapes Go.ChangeAt Go.RowKit Go.Lib Go.Shelf Go.Deep Go.Joins
theorem bulkAll_strs {H : Type} : ∀ (ss : List ByteArray), Rows.uptoBulkAll (strs (H := H) ss) = ss.length + ((ss.map fun s => s.data.toList).map List.length).sum
 | [] => rfl
 | s :: ss => by
  have ih := bulkAll_strs (H := H) ss
  have e : strs (H := H) (s :: ss) = DataW.lit (.string s.data.toList) :: strs ss := rfl
  rw [e]
  simp only [Rows.uptoBulkAll, Rows.uptoBulk, ih, List.map_cons, List.sum_cons, List.length_cons]
  omega
theorem texts_row {W : World} {a : Addr} {len cap : Nat} {ss : List ByteArray} (hl : len ≤ cap) (hz : ss.length = cap) (hcell : ∀ i, i < ss.length → W.cell? (a.add i) = some (.string (ss.getD i ByteArray.empty))) :
  TextsA W (.slice (some a) len cap) ((ss.take len).map fun s => s.data.toList) := by
 have hlen : ((ss.take len).map fun s => s.data.toList).length = len := by simp; omega
 refine .inr ⟨a, cap, by rw [hlen], by omega, fun j hj => ?_⟩
 have hj' : j < len := by omega
 rw [hcell j (by omega)]
 congr 2
 simp only [List.getElem_map, List.getElem_take]
 rw [List.getD_eq_getElem?_getD, List.getElem?_eq_getElem (by omega)]
 rfl
section
variable {H : Type} {enc : TypeId × Value → H} {W : World} {base : Nat} {fuel : Nat} {cs : List Value} {x : DataW H × List MemPlace}
theorem texts_opened (h : DataW.trod enc Tryz.prog W base (fun _ => true) true fuel 32 cs = some x) : ∃ v xs, cs = [v] ∧ TextsA W v xs ∧ xs.length + (xs.map List.length).sum + 1 ≤ Rows.uptoBulk x.1 := by
 rcases open_strings Tryz.underlying32 Tryz.underlying9 (by kernel_rfl) h with ⟨rfl, rfl⟩ | ⟨a, len', cap', ss, rfl, _, hl, hm, hz, rfl, hcell, hsz⟩
 ·exact ⟨_, [], rfl, .inl ⟨rfl, rfl⟩, by simp [Rows.uptoBulk]⟩
 ·simp only [if_true] at hz
  refine ⟨_, _, rfl, texts_row hl hz hcell, ?_⟩
  simp only [Rows.uptoBulk, bulkAll_strs, List.length_map]
  omega
theorem bulkAll_range (D : Nat → DataW H) (f : Nat → Nat) : ∀ (l : List Nat), (∀ i ∈ l, f i ≤ Rows.uptoBulk (D i)) → (l.map f).sum ≤ Rows.uptoBulkAll (l.map D)
 | [], _ => by simp
 | i :: l, h => by
  have ih := bulkAll_range D f l (fun j hj => h j (List.mem_cons_of_mem _ hj))
  have h0 := h i (List.mem_cons_self ..)
  simp only [List.map_cons, List.sum_cons, Rows.uptoBulkAll]
  omega
instance : Inhabited AttrQ := ⟨(⟨[], []⟩, .bool false)⟩
def ModsA (w : World) (v : Value) (l : List Ent.ModE) : Prop := ∃ A c, v = .slice A l.length c ∧ l.length ≤ c ∧ ∀ j (hj : j < l.length), ∃ b o va, A = some ⟨b, o, none⟩ ∧ w.cell? ⟨b, o + j * 3, none⟩ = some (.int .i64 l[j].op) ∧ w.cell? ⟨b, o + j * 3 + 1, none⟩ = some (.string ⟨l[j].typ.toArray⟩) ∧ w.cell? ⟨b, o + j * 3 + 2, none⟩ = some va ∧ TextsA w va l[j].vals
theorem ModsA.below {w w' : World} {v : Value} {l : List Ent.ModE} (h : ModsA w v l) (hb : Below w.heap.size w w') : ModsA w' v l := by
 obtain ⟨A, c, rfl, hc, hx⟩ := h
 refine ⟨A, c, rfl, hc, fun j hj => ?_⟩
 obtain ⟨b, o, va, hA, c0, c1, c2, c3⟩ := hx j hj
 exact ⟨b, o, va, hA, (hb.cell (cell_lt c0)).trans c0, (hb.cell (cell_lt c1)).trans c1, (hb.cell (cell_lt c2)).trans c2, c3.below hb⟩
instance : Inhabited (Ent.ModE × Value) := ⟨(⟨0, [], []⟩, .bool false)⟩
end
end Go.Proofs.YtconnibnpckadaaGreatDoor
