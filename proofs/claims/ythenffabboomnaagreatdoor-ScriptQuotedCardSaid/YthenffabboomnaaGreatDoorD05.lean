import Derived.Test.YthenffabboomnaaGreatDoorD04
import Derived.ScopeJumps
import Derived.LaidEqlPtr
import Derived.Lib.SliceRun
import Derived.Deep.DeepCutAuto
import Derived.OwnWalk
set_option linter.all false
set_option maxHeartbeats 8000000
set_option maxRecDepth 100000
namespace Go.Proofs.YthenffabboomnaaGreatDoor
open Go.RowKit
theorem setMap_setMap (w : World) (r c c' : Nat) (es es' : Array MapEntry) : World.setMap (World.setMap w r es c) r es' c' = World.setMap w r es' c' := by
 simp [World.setMap]
structure MapS (w : World) (m : Nat) (es : Array MapEntry) (c : Nat) (R : List (List UInt8 × Value)) : Prop where
 at_ : w.heap[m]? = some (.map es c)
 has : MapR strV es R
 born : ∀ e ∈ es.toList, e.born < c
theorem now_str (a b : List UInt8) : Instr.sameNow (.string) (strV a) (strV b) = some (decide (a = b)) := by
 simp only [Instr.sameNow, strV]
 congr 1
 show (a.toArray == b.toArray) = decide (a = b)
 rw [Bool.eq_iff_iff, beq_iff_eq, decide_eq_true_iff]
 exact ⟨List.toArray_inj, fun h => by rw [h]⟩
theorem finds_str : Finds Tryz.prog 9 strV := finds_now (D := .string) Tryz.underlying9 now_str
theorem check_str (b : Bool) (w : World) (k : List UInt8) : (Instr.checkKey b 10000 9 (strV k)).run Tryz.prog w = .ok () w := by
 unfold strV
 kernel_rfl
theorem MapS.lt {w : World} {m c : Nat} {es : Array MapEntry} {R : List (List UInt8 × Value)} (h : MapS w m es c R) : m < w.heap.size := (Array.getElem?_eq_some_iff.1 h.at_).1
theorem MapS.put {w : World} {m c : Nat} {es : Array MapEntry} {R : List (List UInt8 × Value)} (h : MapS w m es c R) (k : List UInt8) (v : Value) : MapS (World.setMap w m (es.push { key := strV k, val := v, born := c }) (c + 1)) m (es.push { key := strV k, val := v, born := c }) (c + 1) (R ++ [(k, v)]) := by
 refine ⟨setMap_heap h.lt, h.has.push k v c, ?_⟩
 intro e he
 simp only [Array.toList_push, List.mem_append, List.mem_singleton] at he
 rcases he with he | rfl
 ·have := h.born e he; omega
 ·simp
theorem MapS.keep {w w' : World} {m c : Nat} {es : Array MapEntry} {R : List (List UInt8 × Value)} (h : MapS w m es c R) (he : w'.heap[m]? = w.heap[m]?) : MapS w' m es c R := ⟨he.trans h.at_, h.has, h.born⟩
theorem MapS.alloc {w : World} {m c : Nat} {es : Array MapEntry} {R : List (List UInt8 × Value)} (h : MapS w m es c R) (o : Obj) : MapS (w.alloc o) m es c R := h.keep (Below.heap_alloc w o m h.lt)
theorem MapS.made (w : World) : MapS (w.alloc (.map #[] 0)) w.heap.size #[] 0 [] := ⟨heap_alloc_new w _, rfl, fun e he => by simp at he⟩
section
variable {w : World} {T E : TypeId} {m c : Nat} {es : Array MapEntry} {R : List (List UInt8 × Value)} {k : List UInt8}
theorem MapS.update (hT : Tryz.prog.underlying T = some (.map 9 E)) (h : MapS w m es c R) (v : Value) (hn : look R k = none) :
  (Instr.mapUpdate T (.map (some m)) (strV k) v).run Tryz.prog w = .ok () (World.setMap w m (es.push { key := strV k, val := v, born := c }) (c + 1)) :=
 map_put hT finds_str check_str w m c es R h.at_ h.has k v hn
theorem MapS.entry (hT : Tryz.prog.underlying T = some (.map 9 E)) {z : Value} (hz : ∀ w, (zeroValue E).run Tryz.prog w = .ok z w) (h : MapS w m es c R) (hn : look R k = none) :
  (Instr.mapEntry T (.map (some m)) (strV k)).run Tryz.prog w = .ok (.tuple #[z, .int .i64 c]) (World.setMap w m (es.push { key := strV k, val := z, born := c }) (c + 1)) := by
 obtain ⟨q, hq, hm⟩ := finds_str w k es R h.has
 rw [hn] at hm
 obtain rfl : q = none := by simpa using hm
 unfold Instr.mapEntry
 simp only [Sem.run_bind, run_underlying hT, Result.andThen_ok]
 simp only [getObj, Sem.run, Sem.run_bind, h.at_, Result.andThen_ok, check_str, hq, hz, setObj, World.setMap, pure]
 rfl
theorem MapS.store (h : MapS w m es c R) (z v : Value) :
  (Instr.entryStore T (.map (some m)) (.int .i64 c) v).run Tryz.prog (World.setMap w m (es.push { key := strV k, val := z, born := c }) (c + 1)) = .ok () (World.setMap w m (es.push { key := strV k, val := v, born := c }) (c + 1)) := by
 have hs := setMap_heap (w := w) (c := c + 1) (es := es.push { key := strV k, val := z, born := c }) h.lt
 have hf : (es.push { key := strV k, val := z, born := c }).findIdx? (fun e => (e.born : Int) == (c : Int)) = some es.size := by
  rw [Array.findIdx?_eq_some_iff_getElem]
  refine ⟨by simp, by simp, ?_⟩
  intro j hj
  have hje : j < es.size := hj
  have := h.born es[j] (by simp)
  rw [Array.getElem_push_lt hje]
  simp
  omega
 have ha : ∀ W : World, (asInt (.int .i64 (c : Int))).run Tryz.prog W = .ok (c : Int) W := fun _ => rfl
 unfold Instr.entryStore
 simp only [Sem.run_bind, getObj, Sem.run, hs, Result.andThen_ok, ha, hf, setObj]
 have e1 : (es.push { key := strV k, val := z, born := c }).modify es.size (fun e => { e with val := v }) = es.push { key := strV k, val := v, born := c } := by
  apply Array.ext
  ·simp
  ·intro i h1 h2
   rw [Array.getElem_modify]
   by_cases hi : i = es.size
   ·subst hi; simp
   ·have hlt : i < es.size := by simp at h2; omega
    rw [if_neg (Ne.symm hi), Array.getElem_push_lt hlt, Array.getElem_push_lt hlt]
 rw [e1]
 show Result.ok () _ = _
 congr 1
 have := setMap_setMap w m (c + 1) (c + 1) (es.push { key := strV k, val := z, born := c }) (es.push { key := strV k, val := v, born := c })
 rw [← this]
 rfl
theorem MapS.ask (hT : Tryz.prog.underlying T = some (.map 9 E)) {z : Value} (hz : ∀ w, (zeroValue E).run Tryz.prog w = .ok z w) (h : MapS w m es c R) :
  (Instr.lookup T (.map (some m)) (strV k) true).run Tryz.prog w = .ok (.tuple #[(look R k).getD z, .bool (look R k).isSome]) w :=
 map_look2 hT finds_str check_str hz w m c es R h.at_ h.has k
end
theorem setMap_grown (w : World) (m c : Nat) (es : Array MapEntry) : w.grownBy (World.setMap w m es c) (some m) :=
 ⟨rfl, rfl, rfl, by rw [setMap_size]; exact Nat.le_refl _, fun k _ hne => setMap_other (by rintro rfl; exact hne rfl)⟩
open Go.RowKit
open Go.RowKit
theorem Shorts.suffix {l t : List Wd} (h : Shorts l) (hs : t <:+ l) : Shorts t := fun x hx => h x (hs.subset hx)
open Go.RowKit
section
variable {w : World} {B r p br bd b1 b2 b3 : Nat} {d : DefS}
end
open Go.RowKit
theorem sub_to_end (l : List UInt8) (k : Nat) : sub l k l.length = l.drop k := by unfold sub; exact List.take_of_length_le (by simp)
open Go.RowKit
open Go.RowKit
theorem Mods.bel {w w1 w2 : World} {S : List Nat} (hb : Below w.heap.size w w1) (hm : Mods S w1 w2) (hS : ∀ x ∈ S, w.heap.size ≤ x) : Below w.heap.size w w2 := hb.trans (hm.below hb.size hS)
open Go.RowKit
theorem MapS.mods {w w' : World} {S : List Nat} {m c : Nat} {es : Array MapEntry} {R : List (List UInt8 × Value)} (h : MapS w m es c R) (hm : Mods S w w') (hn : m ∉ S) : MapS w' m es c R := h.keep (hm.block m h.lt hn)
theorem MapS.below {w w' : World} {m c : Nat} {es : Array MapEntry} {R : List (List UInt8 × Value)} (h : MapS w m es c R) (hb : Below w.heap.size w w') : MapS w' m es c R := h.mods (Mods.of_below hb []) (by simp)
open Go.RowKit
theorem Own.bel {B : Nat} {W w w' : World} {v : Value} {xs : List (List UInt8)} (hb : Below B W w) (hO : Own B w v xs) (hg : w.grownBy w' v.ownBlock) : Below B W w' := hb.grown hg hO.2 (fun k hk => (hO.lt k hk).1)
open Go.RowKit
section
variable {ops : Array Oper} {o : Oper} {a : Act} {K : Act → World → Prop} {Q : Exit → Act → World → Prop} {E : Prop}
end
structure DefLim (d : DefS) : Prop where
 oid : d.oid.length ≤ 1000000
 names : d.names.length ≤ 1000000 ∧ ∀ x ∈ d.names, x.length ≤ 1000000
 sup : d.sup.length ≤ 1000000 ∧ ∀ x ∈ d.sup, x.length ≤ 1000000
 must : d.must.length ≤ 1000000 ∧ ∀ x ∈ d.must, x.length ≤ 1000000
 may : d.may.length ≤ 1000000 ∧ ∀ x ∈ d.may, x.length ≤ 1000000
theorem bk_ne {w : World} {g g' : Nat} {t t' : TypeId} {cs cs' : Array Value} (h : Bk w g t cs) (h' : Bk w g' t' cs') (hne : t ≠ t') : g ≠ g' := by
 rintro rfl
 unfold Bk at h h'
 rw [h] at h'
 cases h'
 exact hne rfl
open Go.RowKit
open Go.RowKit
def pAt (ps : List Nat) (i : Nat) : Nat := ps.getD i 0
open Go.RowKit
open Go.RowKit
theorem Own.lower {B B' : Nat} {w : World} {v : Value} {xs : List (List UInt8)} (h : Own B w v xs) (hB : B' ≤ B) : Own B' w v xs := by
 obtain ⟨⟨h1, h2⟩, h3⟩ := h
 refine ⟨⟨h1, h2.imp id ?_⟩, by omega⟩
 rintro ⟨g, cap, cur, r1, r2, r3⟩
 exact ⟨g, cap, cur, r1, by omega, r3⟩
theorem Own.ty {B : Nat} {w : World} {v : Value} {xs : List (List UInt8)} (h : Own B w v xs) {k : Nat} (hk : v.ownBlock = some k) : ∃ cs, Bk w k 9 cs := by
 obtain ⟨⟨h1, h2⟩, _⟩ := h
 rcases h2 with ⟨rfl, hn⟩ | ⟨g, cap, cur, rfl, r2, r3, r4, r5, r6, r7⟩
 ·simp [Value.ownBlock] at hk
 ·have hgk : g = k := by simpa [Value.ownBlock] using hk
  subst hgk
  exact ⟨cur, r3⟩
theorem Own.far {B g i : Nat} {w : World} {v : Value} {xs : List (List UInt8)} {t : TypeId} {cs : Array Value} (h : Own B w v xs) (hg : Bk w g t cs) (ht : t ≠ 9) (u : Value) : Own B (w.setCell ⟨g, i, none⟩ u) v xs := by
 refine ⟨h.1.kept (setCell_grown w g i u) ?_, by simpa [World.setCell] using h.2⟩
 rcases hv : v.ownBlock with _ | k
 ·exact .inl rfl
 ·refine .inr ?_
  intro e
  cases e
  obtain ⟨cs', h'⟩ := h.ty hv
  exact bk_ne hg h' ht rfl
open Go.RowKit
def against (L : List DefS) (d : DefS) (n : List UInt8) : Bool := match findD L true n with
 | none => false
 | some j => match L[j]? with
  | none => false
  | some u => u.kind != 0 && u.kind != d.kind
structure RuleLim (d : DefS) : Prop where
 eqr : d.eqr.length ≤ 1000000
 ordr : d.ordr.length ≤ 1000000
 subs : d.subs.length ≤ 1000000
open Go.RowKit
def LimL (xs : List (List UInt8)) : Prop := xs.length ≤ 1000000 ∧ ∀ x ∈ xs, x.length ≤ 1000000
theorem LimL.snoc {acc : List (List UInt8)} {s : List UInt8} (ha : ∀ x ∈ acc, x.length ≤ 1000000) (hs : s.length ≤ 1000000) : ∀ x ∈ acc ++ [s], x.length ≤ 1000000 := by
 intro x hx
 rcases List.mem_append.1 hx with h | h
 ·exact ha x h
 ·rw [List.mem_singleton.1 h]; exact hs
open Go.RowKit
open Go.RowKit
open Go.RowKit
open Ent
open Go.RowKit
open Go.RowKit Go.Sort
open Go.RowKit
open Go.RowKit
open Go.RowKit
structure Sound (L : List DefS) : Prop where
 says : NewSays L
 lim : ∀ d ∈ L, DefLim d
 rul : ∀ d ∈ L, RuleLim d
theorem Sound.counts {L : List DefS} (h : Sound L) (t : List UInt8) (i : Nat) (hf : findD L false t = some i) : ∃ a, countsD L i = some a := by
 obtain ⟨d, hd, hc, _⟩ := findD_at hf
 exact h.says.counts hd hc
open Go.RowKit
def TextsA (w : World) (v : Value) (xs : List (List UInt8)) : Prop :=
 (xs = [] ∧ v = .slice none 0 0) ∨ ∃ (a : Addr) (c : Nat), v = .slice (some a) xs.length c ∧ xs.length ≤ c ∧ ∀ j (hj : j < xs.length), w.cell? (a.add j) = some (.string ⟨xs[j].toArray⟩)
theorem TextsA.below {w w' : World} {v : Value} {xs : List (List UInt8)} (h : TextsA w v xs) (hb : Below w.heap.size w w') : TextsA w' v xs := by
 rcases h with h | ⟨a, c, rfl, hc, hx⟩
 ·exact .inl h
 ·exact .inr ⟨a, c, rfl, hc, fun j hj => (hb.cell (cell_lt (hx j hj))).trans (hx j hj)⟩
theorem TextsA.at {w : World} {v : Value} {xs : List (List UInt8)} (h : TextsA w v xs) : ∃ A c, v = .slice A xs.length c ∧ xs.length ≤ c ∧ (∀ j (hj : j < xs.length), ∃ a, A = some a ∧ w.cell? (a.add j) = some (.string ⟨xs[j].toArray⟩)) := by
 rcases h with ⟨rfl, rfl⟩ | ⟨a, c, rfl, hc, hcell⟩
 ·exact ⟨_, _, rfl, Nat.zero_le _, fun j hj => by simp at hj⟩
 ·exact ⟨_, _, rfl, hc, fun j hj => ⟨a, rfl, hcell j hj⟩⟩
open Go.RowKit
abbrev AttrQ := Ent.AttrE × Value
def aqCells (q : AttrQ) : List Value := [.string ⟨q.1.typ.toArray⟩, q.2]
theorem aqCells_len (q : AttrQ) : (aqCells q).length = 2 := rfl
theorem aflat_at : ∀ (l : List AttrQ) (j k : Nat) (u : Value) (h : j < l.length), (aqCells l[j])[k]? = some u → (l.flatMap aqCells)[j * 2 + k]? = some u
 | [], j, k, u, h, _ => absurd h (by simp)
 | q :: l, 0, k, u, h, hu => by
  have hk : k < 2 := by have := (List.getElem?_eq_some_iff.1 hu).1; rw [aqCells_len] at this; exact this
  rw [List.flatMap_cons, Nat.zero_mul, Nat.zero_add, List.getElem?_append_left (by rw [aqCells_len]; exact hk)]
  exact hu
 | q :: l, j + 1, k, u, h, hu => by
  rw [List.flatMap_cons, List.getElem?_append_right (by rw [aqCells_len]; omega), aqCells_len, show (j + 1) * 2 + k - 2 = j * 2 + k by omega]
  exact aflat_at l j k u (by simpa using h) hu
theorem add_at2 (b o j : Nat) : (⟨b, o, none⟩ : Addr).add j = ⟨b, o + j, none⟩ := by unfold Addr.add; split <;> simp_all
def OwnAt (B : Nat) (w : World) (v : Value) (qs : List AttrQ) : Prop := w.ownsRow B 138 2 v qs.length (qs.flatMap aqCells) ∧ B ≤ w.heap.size
theorem OwnAt.nil {B : Nat} {w : World} (hB : B ≤ w.heap.size) : OwnAt B w (.slice none 0 0) [] := ⟨World.ownsRow_nil _ _ _ _, hB⟩
theorem OwnAt.lt {B : Nat} {w : World} {v : Value} {qs : List AttrQ} (h : OwnAt B w v qs) : ∀ k, v.ownBlock = some k → B ≤ k ∧ k < w.heap.size := fun k hk => h.1.lt k hk
theorem OwnAt.keep {B : Nat} {w w' : World} {v : Value} {qs : List AttrQ} (h : OwnAt B w v qs) {r : Option Nat} (hg : w.grownBy w' r) (hr : ∀ k, r = some k → k < B) : OwnAt B w' v qs := by
 refine ⟨h.1.kept hg ?_, Nat.le_trans h.2 hg.size⟩
 rcases hv : v.ownBlock with _ | g
 ·exact .inl rfl
 ·refine .inr ?_
  intro he
  have := hr g he.symm
  have := (h.1.lt g hv).1
  omega
theorem OwnAt.below {B : Nat} {w w' : World} {v : Value} {qs : List AttrQ} (h : OwnAt B w v qs) (hb : Below w.heap.size w w') : OwnAt B w' v qs := h.keep (grown_below hb none) (fun k hk => by cases hk)
theorem OwnAt.isSlice {B : Nat} {w : World} {v : Value} {qs : List AttrQ} (h : OwnAt B w v qs) : ∃ A c, v = .slice A qs.length c ∧ qs.length ≤ c := by
 obtain ⟨⟨h1, h2⟩, h3⟩ := h
 rcases h2 with ⟨rfl, hn⟩ | ⟨g, cap, cur, rfl, r2, r3, r4, _⟩
 ·exact ⟨none, 0, by rw [hn], by omega⟩
 ·exact ⟨_, cap, rfl, r4⟩
theorem OwnAt.bel {B : Nat} {W w w' : World} {v : Value} {qs : List AttrQ} (hb : Below B W w) (hO : OwnAt B w v qs) (hg : w.grownBy w' v.ownBlock) : Below B W w' := hb.grown hg hO.2 (fun k hk => (hO.lt k hk).1)
def AttrsQ (w : World) (v : Value) (qs : List AttrQ) : Prop := ∃ A c, v = .slice A qs.length c ∧ qs.length ≤ c ∧ (A = none → c = 0) ∧ ∀ j (hj : j < qs.length), ∃ b o, A = some ⟨b, o, none⟩ ∧ ∀ k u, (aqCells qs[j])[k]? = some u → w.cell? ⟨b, o + j * 2 + k, none⟩ = some u
def AQOk (W : World) (qs : List AttrQ) : Prop := ∀ q ∈ qs, TextsA W q.2 q.1.vals
theorem AQOk.below {w w' : World} {qs : List AttrQ} (h : AQOk w qs) (hb : Below w.heap.size w w') : AQOk w' qs := fun q hq => (h q hq).below hb
theorem AQOk.nil (w : World) : AQOk w [] := fun q hq => (by cases hq)
theorem AttrsQ.below {w w' : World} {v : Value} {qs : List AttrQ} (h : AttrsQ w v qs) (hb : Below w.heap.size w w') : AttrsQ w' v qs := by
 obtain ⟨A, c, rfl, hc, hn, hx⟩ := h
 refine ⟨A, c, rfl, hc, hn, fun j hj => ?_⟩
 obtain ⟨b, o, hA, hk⟩ := hx j hj
 exact ⟨b, o, hA, fun k u hu => (hb.cell (cell_lt (hk k u hu))).trans (hk k u hu)⟩
def AttrsA (w : World) (v : Value) (l : List Ent.AttrE) : Prop := ∃ qs : List AttrQ, qs.map (·.1) = l ∧ AttrsQ w v qs ∧ AQOk w qs
theorem AttrsA.below {w w' : World} {v : Value} {l : List Ent.AttrE} (h : AttrsA w v l) (hb : Below w.heap.size w w') : AttrsA w' v l := by
 obtain ⟨qs, h1, h2, h3⟩ := h
 exact ⟨qs, h1, h2.below hb, h3.below hb⟩
theorem AttrsA.isSlice {w : World} {v : Value} {l : List Ent.AttrE} (h : AttrsA w v l) : ∃ A c, v = .slice A l.length c ∧ l.length ≤ c := by
 obtain ⟨qs, rfl, ⟨A, c, rfl, hc, _⟩, _⟩ := h
 exact ⟨A, c, by rw [List.length_map], by rw [List.length_map]; exact hc⟩
theorem AttrsA.at {w : World} {v : Value} {l : List Ent.AttrE} (h : AttrsA w v l) : ∃ A c, v = .slice A l.length c ∧ l.length ≤ c ∧ ∀ j (hj : j < l.length), ∃ b o va, A = some ⟨b, o, none⟩ ∧ w.cell? ⟨b, o + j * 2, none⟩ = some (.string ⟨l[j].typ.toArray⟩) ∧ w.cell? ⟨b, o + j * 2 + 1, none⟩ = some va ∧ TextsA w va l[j].vals := by
 obtain ⟨qs, rfl, ⟨A, c, rfl, hc, hn, hx⟩, hq⟩ := h
 refine ⟨A, c, by rw [List.length_map], by rw [List.length_map]; exact hc, fun j hj => ?_⟩
 rw [List.length_map] at hj
 obtain ⟨b, o, hA, hk⟩ := hx j hj
 have hm := hq _ (List.getElem_mem hj)
 have g0 := hk 0 _ rfl
 have g1 := hk 1 _ rfl
 refine ⟨b, o, qs[j].2, hA, ?_, g1, ?_⟩
 ·rw [List.getElem_map]; exact g0
 ·rw [List.getElem_map]; exact hm
theorem OwnAt.reads {B : Nat} {w : World} {v : Value} {qs : List AttrQ} (h : OwnAt B w v qs) : AttrsQ w v qs := by
 obtain ⟨⟨h1, h2⟩, h3⟩ := h
 rcases h2 with ⟨rfl, hn⟩ | ⟨g, cap, cur, rfl, r2, r3, r4, r5, r6, r7⟩
 ·have : qs = [] := List.eq_nil_of_length_eq_zero hn
  subst this
  exact ⟨none, 0, rfl, Nat.le_refl _, fun _ => rfl, fun j hj => absurd hj (by simp)⟩
 ·refine ⟨_, cap, rfl, r4, fun h => (by cases h), fun j hj => ⟨g, 0, rfl, fun k u hu => ?_⟩⟩
  have hf := aflat_at qs j k u hj hu
  have hk : k < 2 := by have := (List.getElem?_eq_some_iff.1 hu).1; rw [aqCells_len] at this; exact this
  rw [← r7, List.getElem?_take, if_pos (by omega)] at hf
  simp only [World.cell?, r3, Nat.zero_add]
  simpa using hf
theorem OwnAt.attrs {B : Nat} {w : World} {v : Value} {qs : List AttrQ} (h : OwnAt B w v qs) (hq : AQOk w qs) : AttrsA w v (qs.map (·.1)) := ⟨qs, rfl, h.reads, hq⟩
open Go.RowKit
abbrev FilQ := Fil.FilE × Value
def fqCells (q : FilQ) : List Value := [.int .i64 q.1.op, .int .i64 q.1.n, .string ⟨q.1.typ.toArray⟩, .string ⟨q.1.val.toArray⟩, .string ⟨q.1.ini.toArray⟩, .string ⟨q.1.fin.toArray⟩, q.2]
theorem fqCells_len (q : FilQ) : (fqCells q).length = 7 := rfl
def FQOk (w : World) (qs : List FilQ) : Prop := ∀ q ∈ qs, TextsA w q.2 q.1.any
theorem FQOk.below {w w' : World} {qs : List FilQ} (h : FQOk w qs) (hb : Below w.heap.size w w') : FQOk w' qs := fun q hq => (h q hq).below hb
def FilsQ (w : World) (v : Value) (qs : List FilQ) : Prop := ∃ A c, v = .slice A qs.length c ∧ qs.length ≤ c ∧ ∀ j (hj : j < qs.length), ∃ b o, A = some ⟨b, o, none⟩ ∧ ∀ k u, (fqCells qs[j])[k]? = some u → w.cell? ⟨b, o + j * 7 + k, none⟩ = some u
def FilsA (w : World) (v : Value) (l : List Fil.FilE) : Prop := ∃ qs, qs.map (·.1) = l ∧ FilsQ w v qs ∧ FQOk w qs
theorem FilsQ.below {w w' : World} {v : Value} {qs : List FilQ} (h : FilsQ w v qs) (hb : Below w.heap.size w w') : FilsQ w' v qs := by
 obtain ⟨A, c, rfl, hc, hx⟩ := h
 refine ⟨A, c, rfl, hc, fun j hj => ?_⟩
 obtain ⟨b, o, hA, hk⟩ := hx j hj
 exact ⟨b, o, hA, fun k u hu => (hb.cell (cell_lt (hk k u hu))).trans (hk k u hu)⟩
theorem FilsA.below {w w' : World} {v : Value} {l : List Fil.FilE} (h : FilsA w v l) (hb : Below w.heap.size w w') : FilsA w' v l := by
 obtain ⟨qs, h1, h2, h3⟩ := h
 exact ⟨qs, h1, h2.below hb, h3.below hb⟩
theorem FilsA.isSlice {w : World} {v : Value} {l : List Fil.FilE} (h : FilsA w v l) : ∃ A c, v = .slice A l.length c ∧ l.length ≤ c := by
 obtain ⟨qs, rfl, ⟨A, c, h1, h2, _⟩, _⟩ := h
 rw [List.length_map]
 exact ⟨A, c, h1, h2⟩
theorem FilsA.at {w : World} {v : Value} {l : List Fil.FilE} (h : FilsA w v l) : ∃ A c, v = .slice A l.length c ∧ l.length ≤ c ∧ ∀ j (hj : j < l.length), ∃ b o va, A = some ⟨b, o, none⟩ ∧ w.cell? ⟨b, o + j * 7, none⟩ = some (.int .i64 l[j].op) ∧ w.cell? ⟨b, o + j * 7 + 1, none⟩ = some (.int .i64 l[j].n) ∧ w.cell? ⟨b, o + j * 7 + 2, none⟩ = some (.string ⟨l[j].typ.toArray⟩) ∧ w.cell? ⟨b, o + j * 7 + 3, none⟩ = some (.string ⟨l[j].val.toArray⟩) ∧ w.cell? ⟨b, o + j * 7 + 4, none⟩ = some (.string ⟨l[j].ini.toArray⟩) ∧ w.cell? ⟨b, o + j * 7 + 5, none⟩ = some (.string ⟨l[j].fin.toArray⟩) ∧ w.cell? ⟨b, o + j * 7 + 6, none⟩ = some va ∧ TextsA w va l[j].any := by
 obtain ⟨qs, rfl, ⟨A, c, h1, h2, hx⟩, hq⟩ := h
 refine ⟨A, c, by rw [List.length_map]; exact h1, by rw [List.length_map]; exact h2, fun j hj => ?_⟩
 have hj' : j < qs.length := by simpa using hj
 obtain ⟨b, o, hA, hk⟩ := hx j hj'
 simp only [List.getElem_map]
 exact ⟨b, o, qs[j].2, hA, hk 0 _ rfl, hk 1 _ rfl, hk 2 _ rfl, hk 3 _ rfl, hk 4 _ rfl, hk 5 _ rfl, hk 6 _ rfl, hq _ (List.getElem_mem hj')⟩
def OwnFl (B : Nat) (w : World) (v : Value) (qs : List FilQ) : Prop := w.ownsRow B 144 7 v qs.length (qs.flatMap fqCells) ∧ B ≤ w.heap.size
theorem OwnFl.nil {B : Nat} {w : World} (hB : B ≤ w.heap.size) : OwnFl B w (.slice none 0 0) [] := ⟨World.ownsRow_nil _ _ _ _, hB⟩
theorem OwnFl.lt {B : Nat} {w : World} {v : Value} {qs : List FilQ} (h : OwnFl B w v qs) : ∀ k, v.ownBlock = some k → B ≤ k ∧ k < w.heap.size := fun k hk => h.1.lt k hk
theorem OwnFl.keep2 {B : Nat} {w w' : World} {v : Value} {qs : List FilQ} (h : OwnFl B w v qs) {r : Option Nat} (hg : w.grownBy w' r) (hr : ∀ k, v.ownBlock = some k → r ≠ some k) : OwnFl B w' v qs := by
 obtain ⟨⟨h1, h2⟩, h3⟩ := h
 refine ⟨⟨h1, ?_⟩, Nat.le_trans h3 hg.size⟩
 rcases h2 with h2 | ⟨g, cap, cur, rfl, r2, r3, r4⟩
 ·exact .inl h2
 ·exact .inr ⟨g, cap, cur, rfl, r2, (hg.block g (Array.getElem?_eq_some_iff.1 r3).1 (fun e => hr g rfl e.symm)).trans r3, r4⟩
theorem OwnFl.below {B : Nat} {w w' : World} {v : Value} {qs : List FilQ} (h : OwnFl B w v qs) (hb : Below w.heap.size w w') : OwnFl B w' v qs := h.keep2 (grown_below hb none) (fun k _ he => by cases he)
theorem OwnFl.bel {B : Nat} {W w w' : World} {v : Value} {qs : List FilQ} (hb : Below B W w) (hO : OwnFl B w v qs) (hg : w.grownBy w' v.ownBlock) : Below B W w' := hb.grown hg hO.2 (fun k hk => (hO.lt k hk).1)
theorem OwnFl.isSlice {B : Nat} {w : World} {v : Value} {qs : List FilQ} (h : OwnFl B w v qs) : ∃ A c, v = .slice A qs.length c ∧ qs.length ≤ c := by
 obtain ⟨⟨h1, h2⟩, _⟩ := h
 rcases h2 with ⟨rfl, hn⟩ | ⟨g, cap, cur, rfl, r2, r3, r4, _⟩
 ·exact ⟨none, 0, by rw [hn], by omega⟩
 ·exact ⟨_, cap, rfl, r4⟩
theorem fflat_at : ∀ (l : List FilQ) (j : Nat) (hj : j < l.length) (k : Nat), k < 7 → (l.flatMap fqCells)[j * 7 + k]? = (fqCells l[j])[k]?
 | [], j, hj, _, _ => absurd hj (by simp)
 | g :: l, 0, _, k, hk => by
  rw [List.flatMap_cons, Nat.zero_mul, Nat.zero_add, List.getElem?_append_left (by rw [fqCells_len]; omega)]
  rfl
 | g :: l, j + 1, hj, k, hk => by
  have ih := fflat_at l j (by simpa using hj) k hk
  rw [List.flatMap_cons, List.getElem?_append_right (by rw [fqCells_len]; omega)]
  simp only [List.getElem_cons_succ]
  rw [← ih]
  congr 1
  rw [fqCells_len]; omega
theorem OwnFl.reads {B : Nat} {w : World} {v : Value} {qs : List FilQ} (h : OwnFl B w v qs) : FilsQ w v qs := by
 obtain ⟨⟨h1, h2⟩, _⟩ := h
 rcases h2 with ⟨rfl, hn⟩ | ⟨g, cap, cur, rfl, r2, r3, r4, r5, r6, r7⟩
 ·have : qs = [] := List.eq_nil_of_length_eq_zero hn
  subst this
  exact ⟨none, 0, rfl, Nat.le_refl _, fun j hj => absurd hj (by simp)⟩
 ·refine ⟨_, cap, rfl, r4, fun j hj => ⟨g, 0, rfl, fun k u hu => ?_⟩⟩
  have hk : k < 7 := by have := (List.getElem?_eq_some_iff.1 hu).1; rwa [fqCells_len] at this
  have hf := fflat_at qs j hj k hk
  rw [hu, ← r7, List.getElem?_take, if_pos (by omega)] at hf
  simp only [World.cell?, r3, Nat.zero_add]
  simpa using hf
end Go.Proofs.YthenffabboomnaaGreatDoor
