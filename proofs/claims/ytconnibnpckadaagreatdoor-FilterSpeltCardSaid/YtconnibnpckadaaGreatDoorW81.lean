import Derived.Test.YtconnibnpckadaaGreatDoorW80
import Derived.Test.YtconnibnpckadaaGreatDoorWvd8
import Derived.Shelf.Strings.BuilderK
set_option linter.all false
set_option maxHeartbeats 8000000
set_option maxRecDepth 100000
namespace Go.Proofs.YtconnibnpckadaaGreatDoor
open Go.RowKit
abbrev FilQ := Fil.FilE × Value
def fqCells (q : FilQ) : List Value := [.int .i64 q.1.op, .int .i64 q.1.n, .string ⟨q.1.typ.toArray⟩, .string ⟨q.1.val.toArray⟩, .string ⟨q.1.ini.toArray⟩, .string ⟨q.1.fin.toArray⟩, q.2]
theorem fqCells_len (q : FilQ) : (fqCells q).length = 7 := rfl
def FQOk (w : World) (qs : List FilQ) : Prop := ∀ q ∈ qs, TextsA w q.2 q.1.any
theorem FQOk.below {w w' : World} {qs : List FilQ} (h : FQOk w qs) (hb : Below w.heap.size w w') : FQOk w' qs := fun q hq => (h q hq).below hb
def FilsQ (w : World) (v : Value) (qs : List FilQ) : Prop := ∃ A c, v = .slice A qs.length c ∧ qs.length ≤ c ∧ ∀ j (hj : j < qs.length), ∃ b o, A = some ⟨b, o, none⟩ ∧ ∀ k u, (fqCells qs[j])[k]? = some u → w.cell? ⟨b, o + j * 7 + k, none⟩ = some u
def FilsA (w : World) (v : Value) (l : List Fil.FilE) : Prop := ∃ qs, qs.map (·.1) = l ∧ FilsQ w v qs ∧ FQOk w qs
theorem FilsQ.below {w w' : World} {v : Value} {qs : List FilQ} (h : FilsQ w v qs) (hb : Below w.heap.size w w') : FilsQ w' v qs := by
 obtain ⟨A, c, rfl, hc, hx⟩ := h
 refine ⟨A, c, rfl, hc, fun j hj => ?_⟩
 obtain ⟨b, o, hA, hk⟩ := hx j hj
 exact ⟨b, o, hA, fun k u hu => (hb.cell (cell_lt (hk k u hu))).trans (hk k u hu)⟩
theorem FilsA.below {w w' : World} {v : Value} {l : List Fil.FilE} (h : FilsA w v l) (hb : Below w.heap.size w w') : FilsA w' v l := by
 obtain ⟨qs, h1, h2, h3⟩ := h
 exact ⟨qs, h1, h2.below hb, h3.below hb⟩
theorem FilsA.isSlice {w : World} {v : Value} {l : List Fil.FilE} (h : FilsA w v l) : ∃ A c, v = .slice A l.length c ∧ l.length ≤ c := by
 obtain ⟨qs, rfl, ⟨A, c, h1, h2, _⟩, _⟩ := h
 rw [List.length_map]
 exact ⟨A, c, h1, h2⟩
theorem FilsA.at {w : World} {v : Value} {l : List Fil.FilE} (h : FilsA w v l) : ∃ A c, v = .slice A l.length c ∧ l.length ≤ c ∧ ∀ j (hj : j < l.length), ∃ b o va, A = some ⟨b, o, none⟩ ∧ w.cell? ⟨b, o + j * 7, none⟩ = some (.int .i64 l[j].op) ∧ w.cell? ⟨b, o + j * 7 + 1, none⟩ = some (.int .i64 l[j].n) ∧ w.cell? ⟨b, o + j * 7 + 2, none⟩ = some (.string ⟨l[j].typ.toArray⟩) ∧ w.cell? ⟨b, o + j * 7 + 3, none⟩ = some (.string ⟨l[j].val.toArray⟩) ∧ w.cell? ⟨b, o + j * 7 + 4, none⟩ = some (.string ⟨l[j].ini.toArray⟩) ∧ w.cell? ⟨b, o + j * 7 + 5, none⟩ = some (.string ⟨l[j].fin.toArray⟩) ∧ w.cell? ⟨b, o + j * 7 + 6, none⟩ = some va ∧ TextsA w va l[j].any := by
 obtain ⟨qs, rfl, ⟨A, c, h1, h2, hx⟩, hq⟩ := h
 refine ⟨A, c, by rw [List.length_map]; exact h1, by rw [List.length_map]; exact h2, fun j hj => ?_⟩
 have hj' : j < qs.length := by simpa using hj
 obtain ⟨b, o, hA, hk⟩ := hx j hj'
 simp only [List.getElem_map]
 exact ⟨b, o, qs[j].2, hA, hk 0 _ rfl, hk 1 _ rfl, hk 2 _ rfl, hk 3 _ rfl, hk 4 _ rfl, hk 5 _ rfl, hk 6 _ rfl, hq _ (List.getElem_mem hj')⟩
def OwnFl (B : Nat) (w : World) (v : Value) (qs : List FilQ) : Prop := w.ownsRow B 34 7 v qs.length (qs.flatMap fqCells) ∧ B ≤ w.heap.size
theorem OwnFl.nil {B : Nat} {w : World} (hB : B ≤ w.heap.size) : OwnFl B w (.slice none 0 0) [] := ⟨World.ownsRow_nil _ _ _ _, hB⟩
theorem OwnFl.lt {B : Nat} {w : World} {v : Value} {qs : List FilQ} (h : OwnFl B w v qs) : ∀ k, v.ownBlock = some k → B ≤ k ∧ k < w.heap.size := fun k hk => h.1.lt k hk
theorem OwnFl.keep2 {B : Nat} {w w' : World} {v : Value} {qs : List FilQ} (h : OwnFl B w v qs) {r : Option Nat} (hg : w.grownBy w' r) (hr : ∀ k, v.ownBlock = some k → r ≠ some k) : OwnFl B w' v qs := by
 obtain ⟨⟨h1, h2⟩, h3⟩ := h
 refine ⟨⟨h1, ?_⟩, Nat.le_trans h3 hg.size⟩
 rcases h2 with h2 | ⟨g, cap, cur, rfl, r2, r3, r4⟩
 ·exact .inl h2
 ·exact .inr ⟨g, cap, cur, rfl, r2, (hg.block g (Array.getElem?_eq_some_iff.1 r3).1 (fun e => hr g rfl e.symm)).trans r3, r4⟩
theorem OwnFl.below {B : Nat} {w w' : World} {v : Value} {qs : List FilQ} (h : OwnFl B w v qs) (hb : Below w.heap.size w w') : OwnFl B w' v qs := h.keep2 (grown_below hb none) (fun k _ he => by cases he)
theorem OwnFl.bel {B : Nat} {W w w' : World} {v : Value} {qs : List FilQ} (hb : Below B W w) (hO : OwnFl B w v qs) (hg : w.grownBy w' v.ownBlock) : Below B W w' := hb.grown hg hO.2 (fun k hk => (hO.lt k hk).1)
theorem OwnFl.isSlice {B : Nat} {w : World} {v : Value} {qs : List FilQ} (h : OwnFl B w v qs) : ∃ A c, v = .slice A qs.length c ∧ qs.length ≤ c := by
 obtain ⟨⟨h1, h2⟩, _⟩ := h
 rcases h2 with ⟨rfl, hn⟩ | ⟨g, cap, cur, rfl, r2, r3, r4, _⟩
 ·exact ⟨none, 0, by rw [hn], by omega⟩
 ·exact ⟨_, cap, rfl, r4⟩
theorem fflat_at : ∀ (l : List FilQ) (j : Nat) (hj : j < l.length) (k : Nat), k < 7 → (l.flatMap fqCells)[j * 7 + k]? = (fqCells l[j])[k]?
 | [], j, hj, _, _ => absurd hj (by simp)
 | g :: l, 0, _, k, hk => by
  rw [List.flatMap_cons, Nat.zero_mul, Nat.zero_add, List.getElem?_append_left (by rw [fqCells_len]; omega)]
  rfl
 | g :: l, j + 1, hj, k, hk => by
  have ih := fflat_at l j (by simpa using hj) k hk
  rw [List.flatMap_cons, List.getElem?_append_right (by rw [fqCells_len]; omega)]
  simp only [List.getElem_cons_succ]
  rw [← ih]
  congr 1
  rw [fqCells_len]; omega
theorem OwnFl.reads {B : Nat} {w : World} {v : Value} {qs : List FilQ} (h : OwnFl B w v qs) : FilsQ w v qs := by
 obtain ⟨⟨h1, h2⟩, _⟩ := h
 rcases h2 with ⟨rfl, hn⟩ | ⟨g, cap, cur, rfl, r2, r3, r4, r5, r6, r7⟩
 ·have : qs = [] := List.eq_nil_of_length_eq_zero hn
  subst this
  exact ⟨none, 0, rfl, Nat.le_refl _, fun j hj => absurd hj (by simp)⟩
 ·refine ⟨_, cap, rfl, r4, fun j hj => ⟨g, 0, rfl, fun k u hu => ?_⟩⟩
  have hk : k < 7 := by have := (List.getElem?_eq_some_iff.1 hu).1; rwa [fqCells_len] at this
  have hf := fflat_at qs j hj k hk
  rw [hu, ← r7, List.getElem?_take, if_pos (by omega)] at hf
  simp only [World.cell?, r3, Nat.zero_add]
  simpa using hf
theorem infoFl : ∃ i, Tryz.prog.info? 34 = some i ∧ i.zero = some (.agg #[.int .i64 0, .int .i64 0, .string ⟨#[]⟩, .string ⟨#[]⟩, .string ⟨#[]⟩, .string ⟨#[]⟩, .slice none 0 0]) ∧ i.size = 7 ∧ i.bytes = 104 := by
 obtain ⟨i, h1, h2, h3, h4⟩ := info_parts (show (Tryz.prog.info? 34).map (fun i => (i.zero, i.size, i.bytes)) = some (some (.agg #[.int .i64 0, .int .i64 0, .string ⟨#[]⟩, .string ⟨#[]⟩, .string ⟨#[]⟩, .string ⟨#[]⟩, .slice none 0 0]), 7, 104) by kernel_rfl)
 exact ⟨i, h1, h2, h3, h4⟩
theorem fil_one {ops : Array Oper} {rest : List Oper} {o : Oper} {a : Act} {Q : Exit → Act → World → Prop} (hgd : o.guard = none) (s x : Operand) (ho : o.op = .call { callee := .builtin .append, args := #[s, x], argTypes := #[22, 22] })
  {v va : Value} {qs : List FilQ} {B N : Nat} {w0 : World} {p : Fil.FilE} (hva : va.oneCell' = true) (hs : a.eval s = v) (hb : OwnFl B w0 v qs)
  (hx : a.eval x = .slice (some ⟨N, 0, none⟩) 1 1) (hN : N = w0.heap.size) (hlen : qs.length < 1000000)
  (h : ∀ v' w', OwnFl B w' v' (qs ++ [(p, va)]) → w0.grownBy w' v.ownBlock → wpList Tryz.prog ops Q rest (a.put o.dst v') w') : wpList Tryz.prog ops Q (o :: rest) a (w0.alloc (.cells #[.int .i64 p.op, .int .i64 p.n, .string ⟨p.typ.toArray⟩, .string ⟨p.val.toArray⟩, .string ⟨p.ini.toArray⟩, .string ⟨p.fin.toArray⟩, va] 34)) := by
 subst hN
 obtain ⟨i, h1, h2, h3, h4⟩ := infoFl
 have hb' := hb.keep2 (World.grownBy_alloc w0 (.cells #[.int .i64 p.op, .int .i64 p.n, .string ⟨p.typ.toArray⟩, .string ⟨p.val.toArray⟩, .string ⟨p.ini.toArray⟩, .string ⟨p.fin.toArray⟩, va] 34) none) (fun k _ he => by cases he)
 refine wpList_append_own _ hgd s x 22 ho B 34 i _ 7 104 Tryz.underlying22 h1 h2 h3 h4 rfl (by decide) v _ _ hs hb'.1 ⟨w0.heap.size, 0, none⟩ 1 1 (fqCells (p, va)) hx rfl ?_ ?_ (by unfold maxLen; omega) (by omega) hb'.2 ?_
 ·intro j u hj
  match j, hj with
  | 0, hj => simp [fqCells] at hj; subst hj; simp [Addr.add]
  | 1, hj => simp [fqCells] at hj; subst hj; simp [Addr.add]
  | 2, hj => simp [fqCells] at hj; subst hj; simp [Addr.add]
  | 3, hj => simp [fqCells] at hj; subst hj; simp [Addr.add]
  | 4, hj => simp [fqCells] at hj; subst hj; simp [Addr.add]
  | 5, hj => simp [fqCells] at hj; subst hj; simp [Addr.add]
  | 6, hj => simp [fqCells] at hj; subst hj; simp [Addr.add]
  | (j + 7), hj => simp [fqCells] at hj
 ·intro u hu; simp [fqCells] at hu; rcases hu with rfl | rfl | rfl | rfl | rfl | rfl | rfl <;> first | rfl | exact hva
 ·intro v' w' ho' hg _
  refine h v' w' ⟨?_, Nat.le_trans hb'.2 hg.size⟩ (World.grownBy.trans (World.grownBy_alloc _ _ _) hg)
  simpa using ho'
open Go.RowKit
theorem bel_f1 (w : World) (o : Obj) : Below w.heap.size w (w.alloc o) := (Below.refl _ _).alloc (Nat.le_refl _) _
def TxT (w : World) (v : Value) (xs : List (List UInt8)) : Prop := TextsA w v xs ∧ ∀ k, v.ownBlock = some k → ∃ cs, Bk w k 9 cs
theorem TxT.nil (w : World) : TxT w (.slice none 0 0) [] := ⟨.inl ⟨rfl, rfl⟩, fun k hk => by cases hk⟩
theorem TxT.keep {w w' : World} {v : Value} {xs : List (List UInt8)} {r : Option Nat} (h : TxT w v xs) (hg : w.grownBy w' r) (hr : ∀ k, v.ownBlock = some k → r ≠ some k) : TxT w' v xs := by
 obtain ⟨h1, h2⟩ := h
 refine ⟨?_, fun k hk => ?_⟩
 ·rcases h1 with ⟨rfl, rfl⟩ | ⟨a, c, rfl, hc, hx⟩
  ·exact .inl ⟨rfl, rfl⟩
  ·refine .inr ⟨a, c, rfl, hc, fun j hj => ?_⟩
   have h0 := hx j hj
   have hb : (a.add j).block = a.block := by unfold Addr.add; split <;> rfl
   rw [World.cell?_of_block (w := w) (w' := w') (a := a.add j) (hg.block _ (cell_lt h0) (by rw [hb]; exact fun e => hr a.block rfl e.symm))]
   exact h0
 ·obtain ⟨cs, hb⟩ := h2 k hk
  exact ⟨cs, hb.grown hg (fun e => hr k hk e.symm)⟩
theorem TxT.below {w w' : World} {v : Value} {xs : List (List UInt8)} (h : TxT w v xs) (hb : Below w.heap.size w w') : TxT w' v xs := h.keep (grown_below hb none) (fun k _ he => by cases he)
theorem TxT.far {w w' : World} {v : Value} {xs : List (List UInt8)} {g : Nat} {t : TypeId} {cs : Array Value} (h : TxT w v xs) (hk : Bk w g t cs) (ht : t ≠ 9) (hg : w.grownBy w' (some g)) : TxT w' v xs := h.keep hg (fun k hv e => by
 obtain ⟨cs', hb⟩ := h.2 k hv
 cases e
 exact bk_ne hk hb ht rfl)
def FQT (w : World) (qs : List FilQ) : Prop := ∀ q ∈ qs, TxT w q.2 q.1.any
theorem FQT.nil (w : World) : FQT w [] := fun q hq => by cases hq
theorem FQT.ok {w : World} {qs : List FilQ} (h : FQT w qs) : FQOk w qs := fun q hq => (h q hq).1
theorem FQT.below {w w' : World} {qs : List FilQ} (h : FQT w qs) (hb : Below w.heap.size w w') : FQT w' qs := fun q hq => (h q hq).below hb
theorem FQT.far {w w' : World} {qs : List FilQ} {g : Nat} {t : TypeId} {cs : Array Value} (h : FQT w qs) (hk : Bk w g t cs) (ht : t ≠ 9) (hg : w.grownBy w' (some g)) : FQT w' qs := fun q hq => (h q hq).far hk ht hg
theorem OwnFl.ty {B : Nat} {w : World} {v : Value} {qs : List FilQ} (h : OwnFl B w v qs) {k : Nat} (hk : v.ownBlock = some k) : ∃ cs, Bk w k 34 cs := by
 obtain ⟨⟨h1, h2⟩, _⟩ := h
 rcases h2 with ⟨rfl, _⟩ | ⟨g, cap, cur, rfl, r2, r3, r4⟩
 ·cases hk
 ·cases hk; exact ⟨cur, r3⟩
theorem FQT.grown {B : Nat} {w w' : World} {v : Value} {qs ys : List FilQ} (h : FQT w ys) (hO : OwnFl B w v qs) (hg : w.grownBy w' v.ownBlock) : FQT w' ys := by
 intro q hq
 cases hv : v.ownBlock with
 | none => rw [hv] at hg; exact (h q hq).keep hg (fun k _ e => by cases e)
 | some k =>
  obtain ⟨cs, hb⟩ := hO.ty hv
  rw [hv] at hg
  exact (h q hq).far hb (by decide) hg
structure RdF (N p : Nat) (w : World) (s : List UInt8) (v : Value) (qs : List FilQ) : Prop where
 at_ : Bk w p 49 #[.string ⟨s.toArray⟩, v]
 own : OwnFl (p + 1) w v qs
 any : FQT w qs
 lim : ∀ q ∈ qs, ∀ k, q.2.ownBlock = some k → k < N
theorem RdF.lt {N p : Nat} {w : World} {s : List UInt8} {v : Value} {qs : List FilQ} (h : RdF N p w s v qs) : p < w.heap.size := h.at_.lt
theorem RdF.fit {N p : Nat} {w : World} {s : List UInt8} {v : Value} {qs : List FilQ} (h : RdF N p w s v qs) : RdF w.heap.size p w s v qs := ⟨h.at_, h.own, h.any, fun q hq k hk => by
 obtain ⟨cs, hb⟩ := (h.any q hq).2 k hk
 exact hb.lt⟩
theorem RdF.below {N p : Nat} {w w' : World} {s : List UInt8} {v : Value} {qs : List FilQ} (h : RdF N p w s v qs) (hb : Below w.heap.size w w') : RdF N p w' s v qs := ⟨h.at_.below hb, h.own.below hb, h.any.below hb, h.lim⟩
theorem RdF.ne {N p : Nat} {w : World} {s : List UInt8} {v : Value} {qs : List FilQ} (h : RdF N p w s v qs) : ∀ k, v.ownBlock = some k → (some p : Option Nat) ≠ some k := fun k hk e => by
 have := (h.own.lt k hk).1
 cases e
 omega
theorem RdF.cells {N p : Nat} {w : World} {s : List UInt8} {v : Value} {qs : List FilQ} (h : RdF N p w s v qs) : w.cell? ⟨p, 0, none⟩ = some (.string ⟨s.toArray⟩) ∧ w.cell? ⟨p, 1, none⟩ = some v ∧ w.frozen? ⟨p, 0, none⟩ = false ∧ w.frozen? ⟨p, 1, none⟩ = false := ⟨h.at_.cell 0, h.at_.cell 1, h.at_.frozen 0, h.at_.frozen 1⟩
theorem cells_ne {w : World} {g g' : Nat} {cs cs' : Array Value} {t t' : TypeId} {fz fz' : Nat × Nat} (h : w.heap[g]? = some (.cells cs t fz)) (h' : w.heap[g']? = some (.cells cs' t' fz')) (ht : t ≠ t') : g ≠ g' := by
 rintro rfl
 rw [h] at h'
 cases h'
 exact ht rfl
theorem RdF.beside {N p : Nat} {w w' : World} {s : List UInt8} {v : Value} {qs : List FilQ} {r : Option Nat} (h : RdF N p w s v qs) (hg : w.grownBy w' r) (hr : ∀ g, r = some g → N ≤ g ∧ ∃ cs t fz, w.heap[g]? = some (.cells cs t fz) ∧ t ≠ 34 ∧ t ≠ 49) : RdF N p w' s v qs := by
 refine ⟨h.at_.grown hg (fun e => ?_), h.own.keep2 hg (fun k hk e => ?_), fun q hq => (h.any q hq).keep hg (fun k hk e => ?_), h.lim⟩
 ·obtain ⟨_, cs, t, fz, h1, _, h3⟩ := hr p e.symm
  exact cells_ne h1 h.at_ h3 rfl
 ·obtain ⟨_, cs, t, fz, h1, h2, _⟩ := hr k e
  obtain ⟨cs', hb⟩ := h.own.ty hk
  exact cells_ne h1 hb h2 rfl
 ·have := (hr k e).1
  have := h.lim q hq k hk
  omega
theorem RdF.setS {N p : Nat} {w : World} {s : List UInt8} {v : Value} {qs : List FilQ} (h : RdF N p w s v qs) (t : List UInt8) : RdF N p (w.setCell ⟨p, 0, none⟩ (.string ⟨t.toArray⟩)) t v qs ∧ Below p w (w.setCell ⟨p, 0, none⟩ (.string ⟨t.toArray⟩)) := by
 have hg := setCell_grown w p 0 (.string ⟨t.toArray⟩)
 refine ⟨⟨?_, h.own.keep2 hg h.ne, h.any.far h.at_ (by decide) hg, h.lim⟩, (Below.refl p w).setCell (Nat.le_refl p) _⟩
 have := h.at_.set 0 (.string ⟨t.toArray⟩)
 simpa using this
theorem RdF.setO {N N' p : Nat} {w w' : World} {s : List UInt8} {v v' : Value} {qs ys : List FilQ} (h : RdF N p w s v qs) (hO : OwnFl (p + 1) w' v' ys) (hg : w.grownBy w' v.ownBlock) (hT : FQT w' ys) (hl : ∀ q ∈ ys, ∀ k, q.2.ownBlock = some k → k < N') : RdF N' p (w'.setCell ⟨p, 1, none⟩ v') s v' ys ∧ Below p w (w'.setCell ⟨p, 1, none⟩ v') := by
 have hP : Bk w' p 49 #[.string ⟨s.toArray⟩, v] := h.at_.grown hg (fun e => h.ne p e.symm rfl)
 have hg2 := setCell_grown w' p 1 v'
 refine ⟨⟨?_, hO.keep2 hg2 (fun k hk e => ?_), hT.far hP (by decide) hg2, hl⟩, ?_⟩
 ·have := hP.set 1 v'
  simpa using this
 ·have := (hO.lt k hk).1
  cases e
  omega
 ·exact ((Below.refl p w).grown hg (Nat.le_of_lt h.lt) (fun k hk => by have := (h.own.lt k hk).1; omega)).setCell (Nat.le_refl _) _
open Go.ChangeShapes Go.WideShapes Go.ChangeAt Go.RowKit Go.Lib Go.Shelf Go.Deep Go.Joins
section
variable {H : Type} {enc : TypeId × Value → H} {W : World} {base : Nat} {fuel : Nat} {cs : List Value} {x : DataW H × List MemPlace}
theorem trod_struct7 {P : Program} {t : TypeId} {f0 f1 f2 f3 f4 f5 f6 : Field} (ht : P.underlying t = some (.struct #[f0, f1, f2, f3, f4, f5, f6])) (h : DataW.trod enc P W base (fun _ => true) true fuel t cs = some x) :
  ∃ (y0 y1 y2 y3 y4 y5 y6 : DataW H × List MemPlace) (n : Nat), x.1 = .agg [y0.1, y1.1, y2.1, y3.1, y4.1, y5.1, y6.1] ∧ cs.length = P.cellsOf t ∧ DataW.trod enc P W base (fun _ => true) true n f0.type ((cs.drop f0.offset).take (P.cellsOf f0.type)) = some y0 ∧
   DataW.trod enc P W base (fun _ => true) true n f1.type ((cs.drop f1.offset).take (P.cellsOf f1.type)) = some y1 ∧ DataW.trod enc P W base (fun _ => true) true n f2.type ((cs.drop f2.offset).take (P.cellsOf f2.type)) = some y2 ∧
   DataW.trod enc P W base (fun _ => true) true n f3.type ((cs.drop f3.offset).take (P.cellsOf f3.type)) = some y3 ∧ DataW.trod enc P W base (fun _ => true) true n f4.type ((cs.drop f4.offset).take (P.cellsOf f4.type)) = some y4 ∧
   DataW.trod enc P W base (fun _ => true) true n f5.type ((cs.drop f5.offset).take (P.cellsOf f5.type)) = some y5 ∧ DataW.trod enc P W base (fun _ => true) true n f6.type ((cs.drop f6.offset).take (P.cellsOf f6.type)) = some y6 := by
 obtain ⟨xs, n, _, rfl, hl, hlen, hf⟩ := DataW.trod_struct ht h
 match xs, hlen with
 | [y0, y1, y2, y3, y4, y5, y6], _ => exact ⟨y0, y1, y2, y3, y4, y5, y6, n, by simp, hl, by simpa using hf 0 f0 rfl, by simpa using hf 1 f1 rfl, by simpa using hf 2 f2 rfl, by simpa using hf 3 f3 rfl, by simpa using hf 4 f4 rfl, by simpa using hf 5 f5 rfl, by simpa using hf 6 f6 rfl⟩
theorem list7 {α : Type} {l : List α} (h : l.length = 7) : ∃ a b c d e f g, l = [a, b, c, d, e, f, g] := by
 match l, h with
 | [a, b, c, d, e, f, g], _ => exact ⟨a, b, c, d, e, f, g, rfl⟩
def filW (a : Fil.FilE) : Nat := 1 + a.typ.length + a.val.length + a.ini.length + a.fin.length + (a.any.length + (a.any.map List.length).sum)
def NFit (l : List Fil.FilE) : Prop := ∀ p ∈ l, p.n ≤ 9223372036854775807
instance : Inhabited FilQ := ⟨(⟨0, 0, [], [], [], [], []⟩, .bool false)⟩
theorem fils_open (h : DataW.trod enc Tryz.prog W base (fun _ => true) true fuel 22 cs = some x) : ∃ v l, cs = [v] ∧ FilsA W v l ∧ (l.map filW).sum + 1 ≤ Rows.uptoBulk x.1 ∧ NFit l := by
 rcases open_slice Tryz.underlying22 h with ⟨rfl, rfl⟩ | ⟨a, len, cap, m, n, D, Pl, rfl, hb, hl, hm, hmm, rfl, hx⟩
 ·exact ⟨_, [], rfl, ⟨[], rfl, ⟨none, 0, rfl, Nat.le_refl _, fun j hj => absurd hj (by simp)⟩, fun q hq => (by cases hq)⟩, by simp [Rows.uptoBulk], fun p hp => (by cases hp)⟩
 simp only [if_true] at hmm
 subst hmm
 rw [show Tryz.prog.cellsOf 34 = 7 by kernel_rfl] at hx
 have each : ∀ i, i < m → ∃ r : FilQ, (∀ k u, (fqCells r)[k]? = some u → W.cell? ((a.add (i * 7)).add k) = some u) ∧ TextsA W r.2 r.1.any ∧ filW r.1 ≤ Rows.uptoBulk (D i) ∧ r.1.n ≤ 9223372036854775807 := by
  intro i hi
  obtain ⟨cs', h1, h2⟩ := hx i hi
  obtain ⟨_, hlen, hcell⟩ := World.cells?_some h1
  obtain ⟨y0, y1, y2, y3, y4, y5, y6, k, hxy, _, u0, u1, u2, u3, u4, u5, u6⟩ := trod_struct7 Tryz.underlying34 h2
  obtain ⟨v0, v1, v2, v3, v4, v5, v6, rfl⟩ := list7 hlen
  simp only [show Tryz.prog.cellsOf 3 = 1 by kernel_rfl, show Tryz.prog.cellsOf 9 = 1 by kernel_rfl, show Tryz.prog.cellsOf 32 = 1 by kernel_rfl, List.drop, List.take] at u0 u1 u2 u3 u4 u5 u6
  obtain ⟨q0, e0, d0, _⟩ := DataW.trod_int Tryz.underlying3 u0
  obtain ⟨q1, e1, d1, wf1⟩ := DataW.trod_int Tryz.underlying3 u1
  obtain ⟨⟨⟨s2⟩⟩, e2, d2, _⟩ := DataW.trod_string Tryz.underlying9 u2
  obtain ⟨⟨⟨s3⟩⟩, e3, d3, _⟩ := DataW.trod_string Tryz.underlying9 u3
  obtain ⟨⟨⟨s4⟩⟩, e4, d4, _⟩ := DataW.trod_string Tryz.underlying9 u4
  obtain ⟨⟨⟨s5⟩⟩, e5, d5, _⟩ := DataW.trod_string Tryz.underlying9 u5
  obtain ⟨va, ats, e6, ta, b6⟩ := texts_opened u6
  simp only [List.cons.injEq, and_true] at e0 e1 e2 e3 e4 e5 e6
  subst e0; subst e1; subst e2; subst e3; subst e4; subst e5; subst e6
  refine ⟨(⟨q0, q1, s2, s3, s4, s5, ats⟩, _), fun k u hu => ?_, ta, ?_, ?_⟩
  ·match k, hu with
   | 0, hu => simp [fqCells] at hu; subst hu; exact hcell 0 (by omega)
   | 1, hu => simp [fqCells] at hu; subst hu; exact hcell 1 (by omega)
   | 2, hu => simp [fqCells] at hu; subst hu; exact hcell 2 (by omega)
   | 3, hu => simp [fqCells] at hu; subst hu; exact hcell 3 (by omega)
   | 4, hu => simp [fqCells] at hu; subst hu; exact hcell 4 (by omega)
   | 5, hu => simp [fqCells] at hu; subst hu; exact hcell 5 (by omega)
   | 6, hu => simp [fqCells] at hu; subst hu; exact hcell 6 (by omega)
   | k + 7, hu => simp [fqCells] at hu
  ·have hxy2 : D i = .agg [y0.fst, y1.fst, y2.fst, y3.fst, y4.fst, y5.fst, y6.fst] := hxy
   rw [hxy2, d0, d1, d2, d3, d4, d5]
   simp only [Rows.uptoBulk, Rows.uptoBulkAll, filW]
   omega
  ·have hw1 : q1 ≤ IntKind.i64.max := by
    unfold Lit.wf at wf1
    rw [Bool.and_eq_true, decide_eq_true_eq, decide_eq_true_eq] at wf1
    exact wf1.2
   exact hw1
 obtain ⟨q, hq⟩ := choose_lt each
 refine ⟨_, ((List.range len).map q).map (·.1), rfl, ⟨(List.range len).map q, rfl, ⟨some a, m, by simp, by simp; omega, fun j hj => ?_⟩, fun y hy => ?_⟩, ?_, ?_⟩
 ·have hj' : j < len := by simpa using hj
  obtain ⟨c0, _, _⟩ := hq j (by omega)
  have hsp : a.spot = none := by
   cases hs : a.spot with
   | none => rfl
   | some k =>
    have h1 := (hq 0 (by omega)).1 0 _ rfl
    unfold World.cell? Addr.add at h1
    simp [hs] at h1
    split at h1 <;> cases h1
  obtain ⟨b, o, sp⟩ := a
  subst hsp
  refine ⟨b, o, rfl, fun k u hu => ?_⟩
  simp only [List.getElem_map, List.getElem_range] at hu
  have := c0 k u hu
  rw [add_at2, add_at2] at this
  exact this
 ·obtain ⟨i, hi, rfl⟩ := List.mem_map.1 hy
  exact (hq i (by have := List.mem_range.1 hi; omega)).2.1
 ·simp only [Rows.uptoBulk]
  have := bulkAll_range D (fun i => filW (q i).1) (List.range len) (fun i hi => (hq i (by have := List.mem_range.1 hi; omega)).2.2.1)
  rw [List.map_map, List.map_map]
  show ((List.range len).map fun i => filW (q i).1).sum + 1 ≤ _
  omega
 ·intro p hp
  obtain ⟨y, hy, rfl⟩ := List.mem_map.1 hp
  obtain ⟨i, hi, rfl⟩ := List.mem_map.1 hy
  exact (hq i (by have := List.mem_range.1 hi; omega)).2.2.2
end
theorem fils_arg {H : Type} {enc : TypeId × Value → H} {W : World} {base : Nat} {a0 : Option Addr} {len0 cap0 : Nat} {d : DataW H} {p : List MemPlace} (h : DataW.Trod enc Tryz.prog W base (fun _ => true) true 22 (.slice a0 len0 cap0) d p) :
  ∃ l, FilsA W (.slice a0 len0 cap0) l ∧ (l.map filW).sum + 1 ≤ Rows.uptoBulk d ∧ NFit l := by
 obtain ⟨fuel, hf⟩ := h
 obtain ⟨v, l, hcs, h1, h2⟩ := fils_open hf
 have he : Value.slice a0 len0 cap0 = v := by simpa [Value.cells] using hcs
 rw [he]
 exact ⟨l, h1, h2⟩
open Go.RowKit
def bRen166 : Go.Shelf.Ren := ⟨fun | 166 => 58 | 240 => 105 | 276 => 138 | n => n, fun | 0 => 0 | 3 => 3 | 4 => 4 | 5 => 5 | 9 => 9 | 20 => 20 | 37 => 66 | 70 => 65 | 72 => 68 | 75 => 112 | 80 => 70 | 164 => 182 | n => n, fun | n => n⟩
theorem bLays166 : Go.Proofs.Lays.n166 Tryz.prog bRen166 := {
 mixed := by kernel_rfl
 f166 := Tryz.func58.trans (congrArg some (by kernel_rfl))
 f240 := Tryz.func105.trans (congrArg some (by kernel_rfl))
 f276 := Tryz.func138.trans (congrArg some (by kernel_rfl))
 t0 := Tryz.underlying0
 a0 := Tryz.isAgg0
 z0 := Tryz.sizeOf0
 v0 := Tryz.zeroValue0
 t3 := Tryz.underlying3
 a3 := Tryz.isAgg3
 z3 := Tryz.sizeOf3
 v3 := Tryz.zeroValue3
 t4 := Tryz.underlying4
 a4 := Tryz.isAgg4
 z4 := Tryz.sizeOf4
 v4 := Tryz.zeroValue4
 t9 := Tryz.underlying9
 a9 := Tryz.isAgg9
 z9 := Tryz.sizeOf9
 v9 := Tryz.zeroValue9
 t20 := Tryz.underlying20
 a20 := Tryz.isAgg20
 z20 := Tryz.sizeOf20
 v20 := Tryz.zeroValue20
 t37 := Tryz.underlying66
 a37 := Tryz.isAgg66
 z37 := Tryz.sizeOf66
 v37 := Tryz.zeroValue66
 t70 := Tryz.underlying65
 a70 := Tryz.isAgg65
 z70 := Tryz.sizeOf65
 v70 := Tryz.zeroValue65
 t72 := Tryz.underlying68
 a72 := Tryz.isAgg68
 z72 := Tryz.sizeOf68
 v72 := Tryz.zeroValue68
 t75 := Tryz.underlying112
 a75 := Tryz.isAgg112
 z75 := Tryz.sizeOf112
 v75 := Tryz.zeroValue112
 t164 := Tryz.underlying182
 a164 := Tryz.isAgg182
 z164 := Tryz.sizeOf182
 v164 := Tryz.zeroValue182 }
def bRen167 : Go.Shelf.Ren := ⟨fun | 167 => 57 | 240 => 105 | 276 => 138 | n => n, fun | 0 => 0 | 4 => 4 | 5 => 5 | 9 => 9 | 20 => 20 | 37 => 66 | 70 => 65 | 72 => 68 | 75 => 112 | 80 => 70 | 164 => 182 | n => n, fun | n => n⟩
theorem bLays167 : Go.Proofs.Lays.n167 Tryz.prog bRen167 := {
 mixed := by kernel_rfl
 f167 := Tryz.func57.trans (congrArg some (by kernel_rfl))
 f240 := Tryz.func105.trans (congrArg some (by kernel_rfl))
 f276 := Tryz.func138.trans (congrArg some (by kernel_rfl))
 t0 := Tryz.underlying0
 a0 := Tryz.isAgg0
 z0 := Tryz.sizeOf0
 v0 := Tryz.zeroValue0
 t4 := Tryz.underlying4
 a4 := Tryz.isAgg4
 z4 := Tryz.sizeOf4
 v4 := Tryz.zeroValue4
 t5 := Tryz.underlying5
 a5 := Tryz.isAgg5
 z5 := Tryz.sizeOf5
 v5 := Tryz.zeroValue5
 t9 := Tryz.underlying9
 a9 := Tryz.isAgg9
 z9 := Tryz.sizeOf9
 v9 := Tryz.zeroValue9
 t20 := Tryz.underlying20
 a20 := Tryz.isAgg20
 z20 := Tryz.sizeOf20
 v20 := Tryz.zeroValue20
 t37 := Tryz.underlying66
 a37 := Tryz.isAgg66
 z37 := Tryz.sizeOf66
 v37 := Tryz.zeroValue66
 t70 := Tryz.underlying65
 a70 := Tryz.isAgg65
 z70 := Tryz.sizeOf65
 v70 := Tryz.zeroValue65
 t72 := Tryz.underlying68
 a72 := Tryz.isAgg68
 z72 := Tryz.sizeOf68
 v72 := Tryz.zeroValue68
 t75 := Tryz.underlying112
 a75 := Tryz.isAgg112
 z75 := Tryz.sizeOf112
 v75 := Tryz.zeroValue112
 t164 := Tryz.underlying182
 a164 := Tryz.isAgg182
 z164 := Tryz.sizeOf182
 v164 := Tryz.zeroValue182 }
theorem bldX166 : Builder.Extra Tryz.prog bRen166 := { sizeBuilder := by kernel_rfl, liesBuilder := by kernel_rfl, t5 := Tryz.underlying5, a5 := Tryz.isAgg5, z5 := Tryz.sizeOf5, v5 := Tryz.zeroValue5, infoByte := by kernel_rfl, cellsByte := by kernel_rfl, sizeByte := by kernel_rfl, neB5 := by decide }
theorem bldX167 : Builder.Extra Tryz.prog bRen167 := { sizeBuilder := by kernel_rfl, liesBuilder := by kernel_rfl, t5 := Tryz.underlying5, a5 := Tryz.isAgg5, z5 := Tryz.sizeOf5, v5 := Tryz.zeroValue5, infoByte := by kernel_rfl, cellsByte := by kernel_rfl, sizeByte := by kernel_rfl, neB5 := by decide }
def IsB (B b : Nat) (l : List UInt8) (w : World) : Prop := Lib.IsBuilderF 68 5 B b (Lib.byteCells l) w ∧ B ≤ w.heap.size
theorem bytes_app (a b : List UInt8) : Lib.byteCells a ++ Lib.byteCells b = Lib.byteCells (a ++ b) := by
 unfold Lib.byteCells
 rw [List.map_append]
theorem BString_c (B b : Nat) (l : List UInt8) (w : World) (h : IsB B b l w) :
  Calls Tryz.prog 26 #[.pointer (some ⟨b, 0, none⟩)] w fun e w' => e = .returned (.string ⟨l.toArray⟩) ∧ IsB B b l w' ∧ Below B w w' := by
 refine Calls.mono (Any.Builder_String_any_k Tryz.lays169 Tryz.Builder_Extra_169 B b l w h.1 h.2) ?_
 rintro e w' ⟨he, hB, hb, _⟩
 exact ⟨he, ⟨hB, Nat.le_trans h.2 hb.size⟩, hb⟩
theorem IsB.new (w : World) : IsB w.heap.size w.heap.size [] (w.alloc (.cells #[.pointer none, .slice none 0 0] 68)) := by
 refine ⟨.inl ⟨Nat.le_refl _, .slice none 0 0, heap_alloc_new w _, World.ownsRowF_of (World.ownsRow_nil _ _ _ _), ?_⟩, by simp⟩
 all_goals simp [Value.ownBlock]
end Go.Proofs.YtconnibnpckadaaGreatDoor
