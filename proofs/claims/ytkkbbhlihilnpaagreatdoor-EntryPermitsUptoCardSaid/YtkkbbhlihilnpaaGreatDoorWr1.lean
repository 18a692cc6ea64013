import Derived.Test.YtkkbbhlihilnpaaGreatDoorWr0
import Derived.Test.YtkkbbhlihilnpaaGreatDoorWvd6
import Derived.SizedLaws
import Derived.Carry
import Derived.SliceStrings
import Derived.Deep.Slices
import Derived.Deep.Strs
import Derived.Lib.SmallJoins
set_option linter.all false
set_option maxHeartbeats 8000000
set_option maxRecDepth 100000
namespace Go.Proofs.YtkkbbhlihilnpaaGreatDoor
open Go.RowKit
abbrev AttrQ := Ent.AttrE × Value
def aqCells (q : AttrQ) : List Value := [.string ⟨q.1.typ.toArray⟩, q.2]
theorem aqCells_len (q : AttrQ) : (aqCells q).length = 2 := rfl
theorem aflat_len : ∀ l : List AttrQ, (l.flatMap aqCells).length = l.length * 2
 | [] => rfl
 | q :: l => by rw [List.flatMap_cons, List.length_append, aflat_len l, aqCells_len, List.length_cons]; omega
theorem aflat_at : ∀ (l : List AttrQ) (j k : Nat) (u : Value) (h : j < l.length), (aqCells l[j])[k]? = some u → (l.flatMap aqCells)[j * 2 + k]? = some u
 | [], j, k, u, h, _ => absurd h (by simp)
 | q :: l, 0, k, u, h, hu => by
  have hk : k < 2 := by have := (List.getElem?_eq_some_iff.1 hu).1; rw [aqCells_len] at this; exact this
  rw [List.flatMap_cons, Nat.zero_mul, Nat.zero_add, List.getElem?_append_left (by rw [aqCells_len]; exact hk)]
  exact hu
 | q :: l, j + 1, k, u, h, hu => by
  rw [List.flatMap_cons, List.getElem?_append_right (by rw [aqCells_len]; omega), aqCells_len, show (j + 1) * 2 + k - 2 = j * 2 + k by omega]
  exact aflat_at l j k u (by simpa using h) hu
theorem add_at2 (b o j : Nat) : (⟨b, o, none⟩ : Addr).add j = ⟨b, o + j, none⟩ := by unfold Addr.add; split <;> simp_all
theorem texts_A {w : World} {v : Value} {xs : LL} (h : Texts w v xs) : TextsA w v xs := by
 rcases h with ⟨rfl, rfl⟩ | ⟨b, c, rfl, hc, hlt, hx⟩
 ·exact .inl ⟨rfl, rfl⟩
 ·refine .inr ⟨⟨b, 0, none⟩, c, rfl, hc, fun j hj => ?_⟩
  rw [add_at2, Nat.zero_add]
  exact hx j hj
theorem Own.textsA {B : Nat} {w : World} {v : Value} {xs : LL} (h : Own B w v xs) : TextsA w v xs := texts_A h.texts
def OwnAt (B : Nat) (w : World) (v : Value) (qs : List AttrQ) : Prop := w.ownsRow B 46 2 v qs.length (qs.flatMap aqCells) ∧ B ≤ w.heap.size
theorem OwnAt.nil {B : Nat} {w : World} (hB : B ≤ w.heap.size) : OwnAt B w (.slice none 0 0) [] := ⟨World.ownsRow_nil _ _ _ _, hB⟩
theorem OwnAt.lt {B : Nat} {w : World} {v : Value} {qs : List AttrQ} (h : OwnAt B w v qs) : ∀ k, v.ownBlock = some k → B ≤ k ∧ k < w.heap.size := fun k hk => h.1.lt k hk
theorem OwnAt.keep {B : Nat} {w w' : World} {v : Value} {qs : List AttrQ} (h : OwnAt B w v qs) {r : Option Nat} (hg : w.grownBy w' r) (hr : ∀ k, r = some k → k < B) : OwnAt B w' v qs := by
 refine ⟨h.1.kept hg ?_, Nat.le_trans h.2 hg.size⟩
 rcases hv : v.ownBlock with _ | g
 ·exact .inl rfl
 ·refine .inr ?_
  intro he
  have := hr g he.symm
  have := (h.1.lt g hv).1
  omega
theorem OwnAt.below {B : Nat} {w w' : World} {v : Value} {qs : List AttrQ} (h : OwnAt B w v qs) (hb : Below w.heap.size w w') : OwnAt B w' v qs := h.keep (grown_below hb none) (fun k hk => by cases hk)
theorem OwnAt.isSlice {B : Nat} {w : World} {v : Value} {qs : List AttrQ} (h : OwnAt B w v qs) : ∃ A c, v = .slice A qs.length c ∧ qs.length ≤ c := by
 obtain ⟨⟨h1, h2⟩, h3⟩ := h
 rcases h2 with ⟨rfl, hn⟩ | ⟨g, cap, cur, rfl, r2, r3, r4, _⟩
 ·exact ⟨none, 0, by rw [hn], by omega⟩
 ·exact ⟨_, cap, rfl, r4⟩
theorem OwnAt.bel {B : Nat} {W w w' : World} {v : Value} {qs : List AttrQ} (hb : Below B W w) (hO : OwnAt B w v qs) (hg : w.grownBy w' v.ownBlock) : Below B W w' := hb.grown hg hO.2 (fun k hk => (hO.lt k hk).1)
def AttrsQ (w : World) (v : Value) (qs : List AttrQ) : Prop := ∃ A c, v = .slice A qs.length c ∧ qs.length ≤ c ∧ (A = none → c = 0) ∧ ∀ j (hj : j < qs.length), ∃ b o, A = some ⟨b, o, none⟩ ∧ ∀ k u, (aqCells qs[j])[k]? = some u → w.cell? ⟨b, o + j * 2 + k, none⟩ = some u
def AQOk (W : World) (qs : List AttrQ) : Prop := ∀ q ∈ qs, TextsA W q.2 q.1.vals
theorem AQOk.below {w w' : World} {qs : List AttrQ} (h : AQOk w qs) (hb : Below w.heap.size w w') : AQOk w' qs := fun q hq => (h q hq).below hb
theorem AQOk.app {w : World} {qs ys : List AttrQ} (h : AQOk w qs) (h' : AQOk w ys) : AQOk w (qs ++ ys) := fun q hq => (List.mem_append.1 hq).elim (h q) (h' q)
theorem AQOk.nil (w : World) : AQOk w [] := fun q hq => (by cases hq)
theorem AttrsQ.below {w w' : World} {v : Value} {qs : List AttrQ} (h : AttrsQ w v qs) (hb : Below w.heap.size w w') : AttrsQ w' v qs := by
 obtain ⟨A, c, rfl, hc, hn, hx⟩ := h
 refine ⟨A, c, rfl, hc, hn, fun j hj => ?_⟩
 obtain ⟨b, o, hA, hk⟩ := hx j hj
 exact ⟨b, o, hA, fun k u hu => (hb.cell (cell_lt (hk k u hu))).trans (hk k u hu)⟩
def AttrsA (w : World) (v : Value) (l : List Ent.AttrE) : Prop := ∃ qs : List AttrQ, qs.map (·.1) = l ∧ AttrsQ w v qs ∧ AQOk w qs
theorem AttrsA.below {w w' : World} {v : Value} {l : List Ent.AttrE} (h : AttrsA w v l) (hb : Below w.heap.size w w') : AttrsA w' v l := by
 obtain ⟨qs, h1, h2, h3⟩ := h
 exact ⟨qs, h1, h2.below hb, h3.below hb⟩
theorem AttrsA.isSlice {w : World} {v : Value} {l : List Ent.AttrE} (h : AttrsA w v l) : ∃ A c, v = .slice A l.length c ∧ l.length ≤ c := by
 obtain ⟨qs, rfl, ⟨A, c, rfl, hc, _⟩, _⟩ := h
 exact ⟨A, c, by rw [List.length_map], by rw [List.length_map]; exact hc⟩
theorem AttrsA.at {w : World} {v : Value} {l : List Ent.AttrE} (h : AttrsA w v l) : ∃ A c, v = .slice A l.length c ∧ l.length ≤ c ∧ ∀ j (hj : j < l.length), ∃ b o va, A = some ⟨b, o, none⟩ ∧ w.cell? ⟨b, o + j * 2, none⟩ = some (.string ⟨l[j].typ.toArray⟩) ∧ w.cell? ⟨b, o + j * 2 + 1, none⟩ = some va ∧ TextsA w va l[j].vals := by
 obtain ⟨qs, rfl, ⟨A, c, rfl, hc, hn, hx⟩, hq⟩ := h
 refine ⟨A, c, by rw [List.length_map], by rw [List.length_map]; exact hc, fun j hj => ?_⟩
 rw [List.length_map] at hj
 obtain ⟨b, o, hA, hk⟩ := hx j hj
 have hm := hq _ (List.getElem_mem hj)
 have g0 := hk 0 _ rfl
 have g1 := hk 1 _ rfl
 refine ⟨b, o, qs[j].2, hA, ?_, g1, ?_⟩
 ·rw [List.getElem_map]; exact g0
 ·rw [List.getElem_map]; exact hm
theorem OwnAt.reads {B : Nat} {w : World} {v : Value} {qs : List AttrQ} (h : OwnAt B w v qs) : AttrsQ w v qs := by
 obtain ⟨⟨h1, h2⟩, h3⟩ := h
 rcases h2 with ⟨rfl, hn⟩ | ⟨g, cap, cur, rfl, r2, r3, r4, r5, r6, r7⟩
 ·have : qs = [] := List.eq_nil_of_length_eq_zero hn
  subst this
  exact ⟨none, 0, rfl, Nat.le_refl _, fun _ => rfl, fun j hj => absurd hj (by simp)⟩
 ·refine ⟨_, cap, rfl, r4, fun h => (by cases h), fun j hj => ⟨g, 0, rfl, fun k u hu => ?_⟩⟩
  have hf := aflat_at qs j k u hj hu
  have hk : k < 2 := by have := (List.getElem?_eq_some_iff.1 hu).1; rw [aqCells_len] at this; exact this
  rw [← r7, List.getElem?_take, if_pos (by omega)] at hf
  simp only [World.cell?, r3, Nat.zero_add]
  simpa using hf
theorem OwnAt.attrs {B : Nat} {w : World} {v : Value} {qs : List AttrQ} (h : OwnAt B w v qs) (hq : AQOk w qs) : AttrsA w v (qs.map (·.1)) := ⟨qs, rfl, h.reads, hq⟩
theorem infoAttrA : ∃ i, Tryz.prog.info? 46 = some i ∧ i.zero = some (.agg #[.string ⟨#[]⟩, .slice none 0 0]) ∧ i.size = 2 ∧ i.bytes = 40 := by
 obtain ⟨i, h1, h2, h3, h4⟩ := info_parts (show (Tryz.prog.info? 46).map (fun i => (i.zero, i.size, i.bytes)) = some (some (.agg #[.string ⟨#[]⟩, .slice none 0 0]), 2, 40) by kernel_rfl)
 exact ⟨i, h1, h2, h3, h4⟩
theorem attr_more1 {ops : Array Oper} {rest : List Oper} {o : Oper} {a : Act} {Q : Exit → Act → World → Prop} (hgd : o.guard = none) (s x : Operand) (ho : o.op = .call { callee := .builtin .append, args := #[s, x], argTypes := #[32, 32] })
  {v : Value} {qs : List AttrQ} {B N : Nat} {w0 : World} {t : LU} {va : Value} {vals : LL} (hv : va.oneCell' = true) (hs : a.eval s = v) (hb : OwnAt B w0 v qs)
  (hx : a.eval x = .slice (some ⟨N, 0, none⟩) 1 1) (hN : N = w0.heap.size) (hlen : qs.length < 1000000)
  (h : ∀ v' w', OwnAt B w' v' (qs ++ [(⟨t, vals⟩, va)]) → w0.grownBy w' v.ownBlock → wpList Tryz.prog ops Q rest (a.put o.dst v') w') : wpList Tryz.prog ops Q (o :: rest) a (w0.alloc (.cells #[.string ⟨t.toArray⟩, va] 46)) := by
 subst hN
 obtain ⟨i, h1, h2, h3, h4⟩ := infoAttrA
 have hb' := hb.keep (World.grownBy_alloc w0 (.cells #[.string ⟨t.toArray⟩, va] 46) none) (fun k hk => by cases hk)
 refine wpList_append_own _ hgd s x 32 ho B 46 i (.agg #[.string ⟨#[]⟩, .slice none 0 0]) 2 40 Tryz.underlying32 h1 h2 h3 h4 rfl (by decide) v _ _ hs hb'.1 ⟨w0.heap.size, 0, none⟩ 1 1 (aqCells (⟨t, vals⟩, va)) hx rfl ?_ ?_ (by unfold maxLen; omega) (by omega) hb'.2 ?_
 ·intro j y hj
  match j, hj with
  | 0, hj => simp [aqCells] at hj; subst hj; simp [Addr.add]
  | 1, hj => simp [aqCells] at hj; subst hj; simp [Addr.add]
  | (j + 2), hj => simp [aqCells] at hj
 ·intro y hy; simp [aqCells] at hy; rcases hy with rfl | rfl <;> first | rfl | exact hv
 ·intro v' w' ho' hg _
  refine h v' w' ⟨?_, Nat.le_trans hb'.2 hg.size⟩ (World.grownBy.trans (World.grownBy_alloc _ _ _) hg)
  simpa using ho'
open Go.ChangeShapes Go.WideShapes Go.ChangeAt Go.RowKit Go.Lib Go.Shelf Go.Deep Go.Joins
theorem list2 {α : Type} {l : List α} (h : l.length = 2) : ∃ a b, l = [a, b] := by
 match l, h with
 | [a, b], _ => exact ⟨a, b, rfl⟩
theorem list3 {α : Type} {l : List α} (h : l.length = 3) : ∃ a b c, l = [a, b, c] := by
 match l, h with
 | [a, b, c], _ => exact ⟨a, b, c, rfl⟩
theorem bulkAll_strs {H : Type} : ∀ (ss : List ByteArray), Rows.uptoBulkAll (strs (H := H) ss) = ss.length + ((ss.map fun s => s.data.toList).map List.length).sum
 | [] => rfl
 | s :: ss => by
  have ih := bulkAll_strs (H := H) ss
  have e : strs (H := H) (s :: ss) = DataW.lit (.string s.data.toList) :: strs ss := rfl
  rw [e]
  simp only [Rows.uptoBulkAll, Rows.uptoBulk, ih, List.map_cons, List.sum_cons, List.length_cons]
  omega
theorem texts_row {W : World} {a : Addr} {len cap : Nat} {ss : List ByteArray} (hl : len ≤ cap) (hz : ss.length = cap) (hcell : ∀ i, i < ss.length → W.cell? (a.add i) = some (.string (ss.getD i ByteArray.empty))) :
  TextsA W (.slice (some a) len cap) ((ss.take len).map fun s => s.data.toList) := by
 have hlen : ((ss.take len).map fun s => s.data.toList).length = len := by simp; omega
 refine .inr ⟨a, cap, by rw [hlen], by omega, fun j hj => ?_⟩
 have hj' : j < len := by omega
 rw [hcell j (by omega)]
 congr 2
 simp only [List.getElem_map, List.getElem_take]
 rw [List.getD_eq_getElem?_getD, List.getElem?_eq_getElem (by omega)]
 rfl
section
variable {H : Type} {enc : TypeId × Value → H} {W : World} {base : Nat} {fuel : Nat} {cs : List Value} {x : DataW H × List MemPlace}
theorem texts_opened (h : DataW.trod enc Tryz.prog W base (fun _ => true) true fuel 23 cs = some x) : ∃ v xs, cs = [v] ∧ TextsA W v xs ∧ xs.length + (xs.map List.length).sum + 1 ≤ Rows.uptoBulk x.1 := by
 rcases open_strings Tryz.underlying23 Tryz.underlying9 (by kernel_rfl) h with ⟨rfl, rfl⟩ | ⟨a, len', cap', ss, rfl, _, hl, hm, hz, rfl, hcell, hsz⟩
 ·exact ⟨_, [], rfl, .inl ⟨rfl, rfl⟩, by simp [Rows.uptoBulk]⟩
 ·simp only [if_true] at hz
  refine ⟨_, _, rfl, texts_row hl hz hcell, ?_⟩
  simp only [Rows.uptoBulk, bulkAll_strs, List.length_map]
  omega
theorem bulkAll_range (D : Nat → DataW H) (f : Nat → Nat) : ∀ (l : List Nat), (∀ i ∈ l, f i ≤ Rows.uptoBulk (D i)) → (l.map f).sum ≤ Rows.uptoBulkAll (l.map D)
 | [], _ => by simp
 | i :: l, h => by
  have ih := bulkAll_range D f l (fun j hj => h j (List.mem_cons_of_mem _ hj))
  have h0 := h i (List.mem_cons_self ..)
  simp only [List.map_cons, List.sum_cons, Rows.uptoBulkAll]
  omega
def attrW (a : Ent.AttrE) : Nat := a.typ.length + (a.vals.length + (a.vals.map List.length).sum)
instance : Inhabited AttrQ := ⟨(⟨[], []⟩, .bool false)⟩
theorem attrs_open (h : DataW.trod enc Tryz.prog W base (fun _ => true) true fuel 32 cs = some x) : ∃ v l, cs = [v] ∧ AttrsA W v l ∧ (l.map fun a => 1 + attrW a).sum + 1 ≤ Rows.uptoBulk x.1 := by
 rcases open_slice Tryz.underlying32 h with ⟨rfl, rfl⟩ | ⟨a, len, cap, m, n, D, Pl, rfl, hb, hl, hm, hmm, rfl, hx⟩
 ·exact ⟨_, [], rfl, ⟨[], rfl, ⟨none, 0, rfl, Nat.le_refl _, fun _ => rfl, fun j hj => absurd hj (by simp)⟩, AQOk.nil _⟩, by simp [Rows.uptoBulk]⟩
 simp only [if_true] at hmm
 subst hmm
 rw [show Tryz.prog.cellsOf 46 = 2 by kernel_rfl] at hx
 have each : ∀ i, i < m → ∃ r : AttrQ, (W.cell? (a.add (i * 2)) = some (.string ⟨r.1.typ.toArray⟩) ∧ W.cell? ((a.add (i * 2)).add 1) = some r.2 ∧ TextsA W r.2 r.1.vals) ∧ 1 + attrW r.1 ≤ Rows.uptoBulk (D i) := by
  intro i hi
  obtain ⟨cs', h1, h2⟩ := hx i hi
  obtain ⟨_, hlen, hcell⟩ := World.cells?_some h1
  obtain ⟨y0, y1, k, hxy, _, u0, u1⟩ := trod_struct2 Tryz.underlying46 h2
  obtain ⟨v0, v1, rfl⟩ := list2 hlen
  simp only [show Tryz.prog.cellsOf 9 = 1 by kernel_rfl, show Tryz.prog.cellsOf 23 = 1 by kernel_rfl, List.drop, List.take] at u0 u1
  obtain ⟨⟨⟨s⟩⟩, e0, d0, _⟩ := DataW.trod_string Tryz.underlying9 u0
  obtain ⟨va, ats, e1, ta, b1⟩ := texts_opened u1
  simp only [List.cons.injEq, and_true] at e0 e1
  subst e0; subst e1
  have c0 := hcell 0 (by omega)
  have c1 := hcell 1 (by omega)
  simp only [Prod.mk.injEq] at hxy
  refine ⟨(⟨s, ats⟩, _), ⟨by simpa [Addr.add] using c0, by simpa using c1, ta⟩, ?_⟩
  rw [hxy.1, d0]
  simp only [Rows.uptoBulk, Rows.uptoBulkAll, attrW]
  omega
 obtain ⟨q, hq⟩ := choose_lt each
 refine ⟨_, ((List.range len).map q).map (·.1), rfl, ⟨(List.range len).map q, rfl, ⟨some a, m, by simp, by simp; omega, fun h => (by cases h), fun j hj => ?_⟩, fun y hy => ?_⟩, ?_⟩
 ·have hj' : j < len := by simpa using hj
  obtain ⟨⟨c0, c1, c2⟩, _⟩ := hq j (by omega)
  have hsp : a.spot = none := by
   cases hs : a.spot with
   | none => rfl
   | some k =>
    have h0 := hq 0 (by omega)
    have h1 := h0.1.1
    unfold World.cell? Addr.add at h1
    simp [hs] at h1
    split at h1 <;> cases h1
  obtain ⟨b, o, sp⟩ := a
  subst hsp
  rw [add_at2] at c0
  rw [add_at2, add_at2] at c1
  refine ⟨b, o, rfl, fun k u hu => ?_⟩
  simp only [List.getElem_map, List.getElem_range] at hu
  match k, hu with
  | 0, hu => simp [aqCells] at hu; subst hu; simpa using c0
  | 1, hu => simp [aqCells] at hu; subst hu; simpa using c1
  | (k + 2), hu => simp [aqCells] at hu
 ·obtain ⟨i, hi, rfl⟩ := List.mem_map.1 hy
  exact (hq i (by have := List.mem_range.1 hi; omega)).1.2.2
 ·simp only [Rows.uptoBulk]
  have := bulkAll_range D (fun i => 1 + attrW (q i).1) (List.range len) (fun i hi => (hq i (by have := List.mem_range.1 hi; omega)).2)
  rw [List.map_map, List.map_map]
  show ((List.range len).map fun i => 1 + attrW (q i).1).sum + 1 ≤ _
  omega
def ModsA (w : World) (v : Value) (l : List Ent.ModE) : Prop := ∃ A c, v = .slice A l.length c ∧ l.length ≤ c ∧ ∀ j (hj : j < l.length), ∃ b o va, A = some ⟨b, o, none⟩ ∧ w.cell? ⟨b, o + j * 3, none⟩ = some (.int .i64 l[j].op) ∧ w.cell? ⟨b, o + j * 3 + 1, none⟩ = some (.string ⟨l[j].typ.toArray⟩) ∧ w.cell? ⟨b, o + j * 3 + 2, none⟩ = some va ∧ TextsA w va l[j].vals
theorem ModsA.below {w w' : World} {v : Value} {l : List Ent.ModE} (h : ModsA w v l) (hb : Below w.heap.size w w') : ModsA w' v l := by
 obtain ⟨A, c, rfl, hc, hx⟩ := h
 refine ⟨A, c, rfl, hc, fun j hj => ?_⟩
 obtain ⟨b, o, va, hA, c0, c1, c2, c3⟩ := hx j hj
 exact ⟨b, o, va, hA, (hb.cell (cell_lt c0)).trans c0, (hb.cell (cell_lt c1)).trans c1, (hb.cell (cell_lt c2)).trans c2, c3.below hb⟩
def modW (a : Ent.ModE) : Nat := 1 + a.typ.length + (a.vals.length + (a.vals.map List.length).sum)
instance : Inhabited (Ent.ModE × Value) := ⟨(⟨0, [], []⟩, .bool false)⟩
theorem mods_open (h : DataW.trod enc Tryz.prog W base (fun _ => true) true fuel 56 cs = some x) : ∃ v l, cs = [v] ∧ ModsA W v l ∧ (l.map fun a => modW a).sum + 1 ≤ Rows.uptoBulk x.1 := by
 rcases open_slice Tryz.underlying56 h with ⟨rfl, rfl⟩ | ⟨a, len, cap, m, n, D, Pl, rfl, hb, hl, hm, hmm, rfl, hx⟩
 ·exact ⟨_, [], rfl, ⟨none, 0, rfl, Nat.le_refl _, fun j hj => absurd hj (by simp)⟩, by simp [Rows.uptoBulk]⟩
 simp only [if_true] at hmm
 subst hmm
 rw [show Tryz.prog.cellsOf 55 = 3 by kernel_rfl] at hx
 have each : ∀ i, i < m → ∃ r : Ent.ModE × Value, (W.cell? (a.add (i * 3)) = some (.int .i64 r.1.op) ∧ W.cell? ((a.add (i * 3)).add 1) = some (.string ⟨r.1.typ.toArray⟩) ∧ W.cell? ((a.add (i * 3)).add 2) = some r.2 ∧ TextsA W r.2 r.1.vals) ∧ modW r.1 ≤ Rows.uptoBulk (D i) := by
  intro i hi
  obtain ⟨cs', h1, h2⟩ := hx i hi
  obtain ⟨_, hlen, hcell⟩ := World.cells?_some h1
  obtain ⟨y0, y1, y2, k, hxy, _, u0, u1, u2⟩ := trod_struct3 Tryz.underlying55 h2
  obtain ⟨v0, v1, v2, rfl⟩ := list3 hlen
  simp only [show Tryz.prog.cellsOf 3 = 1 by kernel_rfl, show Tryz.prog.cellsOf 9 = 1 by kernel_rfl, show Tryz.prog.cellsOf 23 = 1 by kernel_rfl, List.drop, List.take] at u0 u1 u2
  obtain ⟨q, e0, d0, _⟩ := DataW.trod_int Tryz.underlying3 u0
  obtain ⟨⟨⟨s⟩⟩, e1, d1, _⟩ := DataW.trod_string Tryz.underlying9 u1
  obtain ⟨va, ats, e2, ta, b2⟩ := texts_opened u2
  simp only [List.cons.injEq, and_true] at e0 e1 e2
  subst e0; subst e1; subst e2
  have c0 := hcell 0 (by omega)
  have c1 := hcell 1 (by omega)
  have c2 := hcell 2 (by omega)
  simp only [Prod.mk.injEq] at hxy
  refine ⟨(⟨q, s, ats⟩, _), ⟨by simpa [Addr.add] using c0, by simpa using c1, by simpa using c2, ta⟩, ?_⟩
  rw [hxy.1, d0, d1]
  simp only [Rows.uptoBulk, Rows.uptoBulkAll, modW]
  omega
 obtain ⟨q, hq⟩ := choose_lt each
 refine ⟨_, (List.range len).map fun i => (q i).1, rfl, ⟨some a, m, by simp, by simp; omega, fun j hj => ?_⟩, ?_⟩
 ·have hj' : j < len := by simpa using hj
  obtain ⟨⟨c0, c1, c2, c3⟩, _⟩ := hq j (by omega)
  have hsp : a.spot = none := by
   cases hs : a.spot with
   | none => rfl
   | some k =>
    have h0 := hq 0 (by omega)
    have h1 := h0.1.1
    unfold World.cell? Addr.add at h1
    simp [hs] at h1
    split at h1 <;> cases h1
  obtain ⟨b, o, sp⟩ := a
  subst hsp
  refine ⟨b, o, (q j).2, rfl, ?_, ?_, ?_, ?_⟩
  ·rw [add_at2] at c0; simpa using c0
  ·rw [add_at2, add_at2] at c1; simpa using c1
  ·rw [add_at2, add_at2] at c2; simpa using c2
  ·simpa using c3
 ·simp only [Rows.uptoBulk]
  have := bulkAll_range D (fun i => modW (q i).1) (List.range len) (fun i hi => (hq i (by have := List.mem_range.1 hi; omega)).2)
  rw [List.map_map]
  show ((List.range len).map fun i => modW (q i).1).sum + 1 ≤ _
  omega
end
theorem attrs_arg {H : Type} {enc : TypeId × Value → H} {W : World} {base : Nat} {a0 : Option Addr} {len0 cap0 : Nat} {d : DataW H} {p : List MemPlace} (h : DataW.Trod enc Tryz.prog W base (fun _ => true) true 32 (.slice a0 len0 cap0) d p) :
  ∃ l, AttrsA W (.slice a0 len0 cap0) l ∧ (l.map fun a => 1 + attrW a).sum + 1 ≤ Rows.uptoBulk d := by
 obtain ⟨fuel, hf⟩ := h
 obtain ⟨v, l, hcs, h1, h2⟩ := attrs_open hf
 have he : Value.slice a0 len0 cap0 = v := by simpa [Value.cells] using hcs
 rw [he]
 exact ⟨l, h1, h2⟩
theorem mods_arg {H : Type} {enc : TypeId × Value → H} {W : World} {base : Nat} {a0 : Option Addr} {len0 cap0 : Nat} {d : DataW H} {p : List MemPlace} (h : DataW.Trod enc Tryz.prog W base (fun _ => true) true 56 (.slice a0 len0 cap0) d p) :
  ∃ l, ModsA W (.slice a0 len0 cap0) l ∧ (l.map fun a => modW a).sum + 1 ≤ Rows.uptoBulk d := by
 obtain ⟨fuel, hf⟩ := h
 obtain ⟨v, l, hcs, h1, h2⟩ := mods_open hf
 have he : Value.slice a0 len0 cap0 = v := by simpa [Value.cells] using hcs
 rw [he]
 exact ⟨l, h1, h2⟩
end Go.Proofs.YtkkbbhlihilnpaaGreatDoor
