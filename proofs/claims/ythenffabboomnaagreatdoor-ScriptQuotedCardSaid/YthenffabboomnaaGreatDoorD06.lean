import Derived.Test.YthenffabboomnaaGreatDoorD05
set_option linter.all false
set_option maxHeartbeats 8000000
set_option maxRecDepth 100000
namespace Go.Proofs.YthenffabboomnaaGreatDoor
open Go.RowKit
theorem Own.keep2 {B : Nat} {w w' : World} {v : Value} {xs : List (List UInt8)} (h : Own B w v xs) {r : Option Nat} (hg : w.grownBy w' r) (hr : ∀ k, v.ownBlock = some k → r ≠ some k) : Own B w' v xs := by
 refine ⟨h.1.kept hg ?_, Nat.le_trans h.2 hg.size⟩
 rcases hv : v.ownBlock with _ | g
 ·exact .inl rfl
 ·refine .inr ?_
  intro he
  exact hr g hv he.symm
def seenP (ps l : List Nat) : List (Nat × Value) := l.map fun i => (pAt ps i, Value.agg #[])
def SeenP (w : World) (m : Nat) (ps l : List Nat) : Prop := ∃ es c, w.heap[m]? = some (.map es c) ∧ MapR ptrV es (seenP ps l)
theorem SeenP.lt {w : World} {m : Nat} {ps l : List Nat} (h : SeenP w m ps l) : m < w.heap.size := by
 obtain ⟨es, c, h1, _⟩ := h
 exact (Array.getElem?_eq_some_iff.1 h1).1
theorem SeenP.keep {w w' : World} {m : Nat} {ps l : List Nat} (h : SeenP w m ps l) (he : w'.heap[m]? = w.heap[m]?) : SeenP w' m ps l := by
 obtain ⟨es, c, h1, h2⟩ := h
 exact ⟨es, c, he.trans h1, h2⟩
theorem SeenP.below {w w' : World} {m : Nat} {ps l : List Nat} (h : SeenP w m ps l) (hb : Below w.heap.size w w') : SeenP w' m ps l := h.keep (hb.block m h.lt)
theorem SeenP.made (w : World) (ps : List Nat) : SeenP (w.alloc (.map #[] 0)) w.heap.size ps [] := ⟨_, _, heap_alloc_new w _, rfl⟩
section
variable {P : Program} {κ : Type} [DecidableEq κ]
end
structure NmOK (L : List DefS) (l : List (List UInt8)) : Prop where
 nodup : l.Nodup
 of : ∀ x ∈ l, x ∈ L.map DefS.name
theorem NmOK.nil (L : List DefS) : NmOK L [] := ⟨by simp, fun x hx => by simp at hx⟩
theorem sub_len6 {α : Type} [DecidableEq α] : ∀ (l M : List α), l.Nodup → (∀ x ∈ l, x ∈ M) → l.length ≤ M.length
 | [], M, _, _ => Nat.zero_le _
 | x :: t, M, hn, h => by
  rw [List.nodup_cons] at hn
  have hx := h x (by simp)
  have h1 := sub_len6 t (M.erase x) hn.2 (fun y hy => (List.mem_erase_of_ne (by rintro rfl; exact hn.1 hy)).2 (h y (by simp [hy])))
  have h2 := List.length_erase_of_mem hx
  have h3 : 0 < M.length := List.length_pos_of_mem hx
  simp only [List.length_cons]
  omega
theorem NmOK.len {L : List DefS} {l : List (List UInt8)} (h : NmOK L l) : l.length ≤ L.length := by
 have := sub_len6 l (L.map DefS.name) h.nodup h.of
 simpa using this
theorem NmOK.add {L : List DefS} {l : List (List UInt8)} (h : NmOK L l) {e : DefS} (he : e ∈ L) (hc : l.contains e.name = false) : NmOK L (l ++ [e.name]) := by
 refine ⟨?_, ?_⟩
 ·rw [List.nodup_append]
  refine ⟨h.nodup, by simp, fun a ha b hb => ?_⟩
  have hb' : b = e.name := by simpa using hb
  subst hb'
  rintro rfl
  rw [List.contains_iff_mem.2 ha] at hc
  cases hc
 ·intro x hx
  rcases List.mem_append.1 hx with hx | hx
  ·exact h.of x hx
  ·rw [List.mem_singleton.1 hx]
   exact List.mem_map_of_mem he
open Go.RowKit
def TxT (w : World) (v : Value) (xs : List (List UInt8)) : Prop := TextsA w v xs ∧ ∀ k, v.ownBlock = some k → ∃ cs, Bk w k 9 cs
theorem TxT.nil (w : World) : TxT w (.slice none 0 0) [] := ⟨.inl ⟨rfl, rfl⟩, fun k hk => by cases hk⟩
theorem TxT.keep {w w' : World} {v : Value} {xs : List (List UInt8)} {r : Option Nat} (h : TxT w v xs) (hg : w.grownBy w' r) (hr : ∀ k, v.ownBlock = some k → r ≠ some k) : TxT w' v xs := by
 obtain ⟨h1, h2⟩ := h
 refine ⟨?_, fun k hk => ?_⟩
 ·rcases h1 with ⟨rfl, rfl⟩ | ⟨a, c, rfl, hc, hx⟩
  ·exact .inl ⟨rfl, rfl⟩
  ·refine .inr ⟨a, c, rfl, hc, fun j hj => ?_⟩
   have h0 := hx j hj
   have hb : (a.add j).block = a.block := by unfold Addr.add; split <;> rfl
   rw [World.cell?_of_block (w := w) (w' := w') (a := a.add j) (hg.block _ (cell_lt h0) (by rw [hb]; exact fun e => hr a.block rfl e.symm))]
   exact h0
 ·obtain ⟨cs, hb⟩ := h2 k hk
  exact ⟨cs, hb.grown hg (fun e => hr k hk e.symm)⟩
theorem TxT.below {w w' : World} {v : Value} {xs : List (List UInt8)} (h : TxT w v xs) (hb : Below w.heap.size w w') : TxT w' v xs := h.keep (grown_below hb none) (fun k _ he => by cases he)
theorem TxT.far {w w' : World} {v : Value} {xs : List (List UInt8)} {g : Nat} {t : TypeId} {cs : Array Value} (h : TxT w v xs) (hk : Bk w g t cs) (ht : t ≠ 9) (hg : w.grownBy w' (some g)) : TxT w' v xs := h.keep hg (fun k hv e => by
 obtain ⟨cs', hb⟩ := h.2 k hv
 cases e
 exact bk_ne hk hb ht rfl)
def FQT (w : World) (qs : List FilQ) : Prop := ∀ q ∈ qs, TxT w q.2 q.1.any
theorem FQT.nil (w : World) : FQT w [] := fun q hq => by cases hq
theorem FQT.ok {w : World} {qs : List FilQ} (h : FQT w qs) : FQOk w qs := fun q hq => (h q hq).1
theorem FQT.below {w w' : World} {qs : List FilQ} (h : FQT w qs) (hb : Below w.heap.size w w') : FQT w' qs := fun q hq => (h q hq).below hb
theorem FQT.far {w w' : World} {qs : List FilQ} {g : Nat} {t : TypeId} {cs : Array Value} (h : FQT w qs) (hk : Bk w g t cs) (ht : t ≠ 9) (hg : w.grownBy w' (some g)) : FQT w' qs := fun q hq => (h q hq).far hk ht hg
theorem OwnFl.ty {B : Nat} {w : World} {v : Value} {qs : List FilQ} (h : OwnFl B w v qs) {k : Nat} (hk : v.ownBlock = some k) : ∃ cs, Bk w k 144 cs := by
 obtain ⟨⟨h1, h2⟩, _⟩ := h
 rcases h2 with ⟨rfl, _⟩ | ⟨g, cap, cur, rfl, r2, r3, r4⟩
 ·cases hk
 ·cases hk; exact ⟨cur, r3⟩
theorem FQT.grown {B : Nat} {w w' : World} {v : Value} {qs ys : List FilQ} (h : FQT w ys) (hO : OwnFl B w v qs) (hg : w.grownBy w' v.ownBlock) : FQT w' ys := by
 intro q hq
 cases hv : v.ownBlock with
 | none => rw [hv] at hg; exact (h q hq).keep hg (fun k _ e => by cases e)
 | some k =>
  obtain ⟨cs, hb⟩ := hO.ty hv
  rw [hv] at hg
  exact (h q hq).far hb (by decide) hg
structure RdF (N p : Nat) (w : World) (s : List UInt8) (v : Value) (qs : List FilQ) : Prop where
 at_ : Bk w p 185 #[.string ⟨s.toArray⟩, v]
 own : OwnFl (p + 1) w v qs
 any : FQT w qs
 lim : ∀ q ∈ qs, ∀ k, q.2.ownBlock = some k → k < N
theorem RdF.lt {N p : Nat} {w : World} {s : List UInt8} {v : Value} {qs : List FilQ} (h : RdF N p w s v qs) : p < w.heap.size := h.at_.lt
theorem RdF.fit {N p : Nat} {w : World} {s : List UInt8} {v : Value} {qs : List FilQ} (h : RdF N p w s v qs) : RdF w.heap.size p w s v qs := ⟨h.at_, h.own, h.any, fun q hq k hk => by
 obtain ⟨cs, hb⟩ := (h.any q hq).2 k hk
 exact hb.lt⟩
theorem RdF.below {N p : Nat} {w w' : World} {s : List UInt8} {v : Value} {qs : List FilQ} (h : RdF N p w s v qs) (hb : Below w.heap.size w w') : RdF N p w' s v qs := ⟨h.at_.below hb, h.own.below hb, h.any.below hb, h.lim⟩
theorem RdF.ne {N p : Nat} {w : World} {s : List UInt8} {v : Value} {qs : List FilQ} (h : RdF N p w s v qs) : ∀ k, v.ownBlock = some k → (some p : Option Nat) ≠ some k := fun k hk e => by
 have := (h.own.lt k hk).1
 cases e
 omega
theorem RdF.cells {N p : Nat} {w : World} {s : List UInt8} {v : Value} {qs : List FilQ} (h : RdF N p w s v qs) : w.cell? ⟨p, 0, none⟩ = some (.string ⟨s.toArray⟩) ∧ w.cell? ⟨p, 1, none⟩ = some v ∧ w.frozen? ⟨p, 0, none⟩ = false ∧ w.frozen? ⟨p, 1, none⟩ = false := ⟨h.at_.cell 0, h.at_.cell 1, h.at_.frozen 0, h.at_.frozen 1⟩
theorem cells_ne {w : World} {g g' : Nat} {cs cs' : Array Value} {t t' : TypeId} {fz fz' : Nat × Nat} (h : w.heap[g]? = some (.cells cs t fz)) (h' : w.heap[g']? = some (.cells cs' t' fz')) (ht : t ≠ t') : g ≠ g' := by
 rintro rfl
 rw [h] at h'
 cases h'
 exact ht rfl
theorem RdF.beside {N p : Nat} {w w' : World} {s : List UInt8} {v : Value} {qs : List FilQ} {r : Option Nat} (h : RdF N p w s v qs) (hg : w.grownBy w' r) (hr : ∀ g, r = some g → N ≤ g ∧ ∃ cs t fz, w.heap[g]? = some (.cells cs t fz) ∧ t ≠ 144 ∧ t ≠ 185) : RdF N p w' s v qs := by
 refine ⟨h.at_.grown hg (fun e => ?_), h.own.keep2 hg (fun k hk e => ?_), fun q hq => (h.any q hq).keep hg (fun k hk e => ?_), h.lim⟩
 ·obtain ⟨_, cs, t, fz, h1, _, h3⟩ := hr p e.symm
  exact cells_ne h1 h.at_ h3 rfl
 ·obtain ⟨_, cs, t, fz, h1, h2, _⟩ := hr k e
  obtain ⟨cs', hb⟩ := h.own.ty hk
  exact cells_ne h1 hb h2 rfl
 ·have := (hr k e).1
  have := h.lim q hq k hk
  omega
theorem RdF.setS {N p : Nat} {w : World} {s : List UInt8} {v : Value} {qs : List FilQ} (h : RdF N p w s v qs) (t : List UInt8) : RdF N p (w.setCell ⟨p, 0, none⟩ (.string ⟨t.toArray⟩)) t v qs ∧ Below p w (w.setCell ⟨p, 0, none⟩ (.string ⟨t.toArray⟩)) := by
 have hg := setCell_grown w p 0 (.string ⟨t.toArray⟩)
 refine ⟨⟨?_, h.own.keep2 hg h.ne, h.any.far h.at_ (by decide) hg, h.lim⟩, (Below.refl p w).setCell (Nat.le_refl p) _⟩
 have := h.at_.set 0 (.string ⟨t.toArray⟩)
 simpa using this
open Go.RowKit
theorem sl_from (s : List UInt8) (k : Nat) (hk : k ≤ s.length) (W : World) : (Instr.slice 9 (.string ⟨s.toArray⟩) (some (.int .i64 (k : Int))) none none).run Tryz.prog W = .ok (.string ⟨(s.drop k).toArray⟩) W := by
 rw [run_slice_string_from_if W 9 ⟨s.toArray⟩ .i64 (k : Int) Tryz.underlying9, if_pos ⟨by omega, by simp [ByteArray.size]; omega⟩, ByteArray.extract_mk]
 congr 3
 rw [Int.toNat_natCast, List.take_of_length_le]
 simp [ByteArray.size]
theorem sl_to (s : List UInt8) (k : Nat) (hk : k ≤ s.length) (W : World) : (Instr.slice 9 (.string ⟨s.toArray⟩) none (some (.int .i64 (k : Int))) none).run Tryz.prog W = .ok (.string ⟨(s.take k).toArray⟩) W := by
 rw [run_slice_string_to_if W 9 ⟨s.toArray⟩ .i64 (k : Int) Tryz.underlying9, if_pos ⟨by omega, by simp [ByteArray.size]; omega⟩, ByteArray.extract_mk]
 simp
open Go.RowKit
open Go.RowKit
theorem grown_free {w a b : World} {p r : Option Nat} (h : w.grownBy a p) (hg : a.grownBy b r) (hr : ∀ k, r = some k → w.heap.size ≤ k) : w.grownBy b p :=
 ⟨hg.os.trans h.os, hg.tape.trans h.tape, hg.output.trans h.output, Nat.le_trans h.size hg.size, fun k hk hne => by
  rw [hg.block k (Nat.lt_of_lt_of_le hk h.size) (fun e => by have := hr k e.symm; omega)]
  exact h.block k hk hne⟩
theorem BufO.row {B : Nat} {w : World} {v : Value} {l : List UInt8} (h : BufO B w v l) : ∀ g, v.ownBlock = some g → B ≤ g ∧ ∃ cs t fz, w.heap[g]? = some (.cells cs t fz) ∧ t = 5 := by
 intro g hg
 obtain ⟨⟨h1, h2⟩, _⟩ := h
 rcases h2 with ⟨rfl, _⟩ | ⟨g', cap, cur, fz, rfl, r2, r3, r4⟩
 ·cases hg
 ·cases hg; exact ⟨r2, cur, _, fz, r3, rfl⟩
structure VaJ (w : World) (p : Nat) (wr : World) (r : List UInt8) (v : Value) (qs : List FilQ) (o b : Value) (done : List (List UInt8)) (acc : List UInt8) : Prop where
 plt : p < w.heap.size
 rd : RdF w.heap.size p wr r v qs
 own : Own w.heap.size wr o (done ++ [[]])
 buf : BufO w.heap.size wr b acc
 bel : w.grownBy wr (some p)
theorem VaJ.next {w : World} {p : Nat} {wr : World} {r : List UInt8} {v : Value} {qs : List FilQ} {o b : Value} {done : List (List UInt8)} {acc : List UInt8} (h : VaJ w p wr r v qs o b done acc) (r' : List UInt8) : VaJ w p (wr.setCell ⟨p, 0, none⟩ (.string ⟨r'.toArray⟩)) r' v qs o b done acc := by
 obtain ⟨h1, h2⟩ := h.rd.setS r'
 have hg := setCell_grown wr p 0 (.string ⟨r'.toArray⟩)
 refine ⟨h.plt, h1, h.own.keep2 hg (fun k hk e => ?_), ?_, World.grownBy.trans h.bel hg⟩
 ·obtain ⟨cs, hb⟩ := h.own.ty hk
  cases e
  exact bk_ne h.rd.at_ hb (by decide) rfl
 ·obtain ⟨⟨b1, b2⟩, b3⟩ := h.buf
  refine ⟨⟨b1, ?_⟩, Nat.le_trans b3 hg.size⟩
  rcases b2 with b2 | ⟨g', cap, cur, fz, rfl, r2, r3, r4⟩
  ·exact .inl b2
  ·refine .inr ⟨g', cap, cur, fz, rfl, r2, ?_, r4⟩
   rw [hg.block g' (Array.getElem?_eq_some_iff.1 r3).1 (fun e => cells_ne r3 h.rd.at_ (by decide) (Option.some.inj e))]
   exact r3
theorem VaJ.below {w : World} {p : Nat} {wr wn : World} {r : List UInt8} {v : Value} {qs : List FilQ} {o b : Value} {done : List (List UInt8)} {acc : List UInt8} (h : VaJ w p wr r v qs o b done acc) (hb : Below wr.heap.size wr wn) : VaJ w p wn r v qs o b done acc := ⟨h.plt, h.rd.below hb, h.own.below hb, h.buf.keep (grown_below hb none) (fun k e => by cases e), World.grownBy.trans h.bel (grown_below hb _)⟩
theorem VaJ.byte {w : World} {p : Nat} {wr wn : World} {r : List UInt8} {v : Value} {qs : List FilQ} {o b b' : Value} {done : List (List UInt8)} {acc acc' : List UInt8} (h : VaJ w p wr r v qs o b done acc) (hO : BufO w.heap.size wn b' acc') (hg : wr.grownBy wn b.ownBlock) : VaJ w p wn r v qs o b' done acc' := by
 have hp := h.plt
 refine ⟨hp, h.rd.beside hg (fun g e => ?_), h.own.keep2 hg (fun k hk e => ?_), hO, grown_free h.bel hg (fun g e => ?_)⟩
 ·obtain ⟨h1, cs, t, fz, h2, h3⟩ := h.buf.row g e
  exact ⟨h1, cs, t, fz, h2, by rw [h3]; decide, by rw [h3]; decide⟩
 ·obtain ⟨_, cs, t, fz, h2, h3⟩ := h.buf.row k e
  obtain ⟨cs', hb⟩ := h.own.ty hk
  exact cells_ne h2 hb (by rw [h3]; decide) rfl
 ·exact (h.buf.row g e).1
theorem slice_str8 (s : List UInt8) (i j : Nat) (W : World) (h1 : i ≤ j) (h2 : j ≤ s.length) : (Instr.slice 9 (.string ⟨s.toArray⟩) (some (.int .i64 (i : Int))) (some (.int .i64 (j : Int))) none).run Tryz.prog W = .ok (.string ⟨((s.drop i).take (j - i)).toArray⟩) W := by
 have := run_slice_string (P := Tryz.prog) W 9 ⟨s.toArray⟩ .i64 .i64 (i : Int) (j : Int) Tryz.underlying9 (by omega) (by omega) (by simp [ByteArray.size]; omega)
 rw [this]
 simp only [Int.toNat_natCast]
 rw [ba_ext]
 rfl
theorem unhex_two {a b : UInt8} {y : List UInt8} (h : unhexL [a, b] = some y) : y.length = 1 := by
 unfold unhexL at h
 split at h
 ·cases h
 ·simp [unhexL] at h
  rw [← h]; rfl
open Go.RowKit
theorem u27_is {c : UInt8} {n : Nat} (hn : n < 256) (h : c = UInt8.ofNat n) : ((c.toNat : Int) == (n : Int)) = true := by
 rw [h, beq_iff_eq, UInt8.toNat_ofNat']
 omega
theorem u27_not {c : UInt8} {n : Nat} (hn : n < 256) (h : c ≠ UInt8.ofNat n) : ((c.toNat : Int) == (n : Int)) = false := by
 rw [beq_eq_false_iff_ne]
 intro he
 apply h
 apply UInt8.toNat.inj
 rw [UInt8.toNat_ofNat']
 omega
theorem u27_nis {c : UInt8} {n : Nat} (hn : n < 256) (h : c = UInt8.ofNat n) : ((c.toNat : Int) != (n : Int)) = false := by
 rw [bne, u27_is hn h]; rfl
theorem u27_nnot {c : UInt8} {n : Nat} (hn : n < 256) (h : c ≠ UInt8.ofNat n) : ((c.toNat : Int) != (n : Int)) = true := by
 rw [bne, u27_not hn h]; rfl
def UnqRetS (w : World) (o : Option (List UInt8 × List UInt8)) (e : Ending) (w' : World) : Prop := e = .returned (.tuple #[.string ⟨((o.map (·.1)).getD []).toArray⟩, .string ⟨((o.map (·.2)).getD []).toArray⟩, .bool o.isSome]) ∧ Below w.heap.size w w'
structure UqS (s : List UInt8) (R : Option (List UInt8 × List UInt8)) (k : Nat) (b : List UInt8) : Prop where
 num : b.length ≤ k
 rest : Scr.unqG b (s.drop k) = R
theorem UqS.out {s b : List UInt8} {R : Option (List UInt8 × List UInt8)} (h : UqS s R s.length b) : R = none := by
 have := h.rest
 rw [List.drop_length, Scr.unqG_nil] at this
 exact this.symm
section
variable {s b : List UInt8} {R : Option (List UInt8 × List UInt8)} {k : Nat}
theorem UqS.stop (h : UqS s R k b) (hk : k < s.length) (hc : s[k] = 34) : R = some (b, s.drop (k + 1)) := by
 have := h.rest
 rw [List.drop_eq_getElem_cons hk, hc, Scr.unqG_end] at this
 exact this.symm
theorem UqS.bad (h : UqS s R k b) (hk : k < s.length) (hc : s[k].toNat < 32 ∨ 126 < s[k].toNat) : R = none := by
 have := h.rest
 rw [List.drop_eq_getElem_cons hk, Scr.unqG_bad _ _ _ hc] at this
 exact this.symm
theorem UqS.plain (h : UqS s R k b) (hk : k < s.length) (h1 : s[k] ≠ 34) (h2 : ¬ (s[k].toNat < 32 ∨ 126 < s[k].toNat)) (h3 : s[k] ≠ 92) : UqS s R (k + 1) (b ++ [s[k]]) := by
 refine ⟨by have := h.num; simp; omega, ?_⟩
 have := h.rest
 rw [List.drop_eq_getElem_cons hk, Scr.unqG_plain _ _ _ h1 h2 h3] at this
 exact this
theorem UqS.esc (h : UqS s R k b) (hk : k + 1 < s.length) (hc : s[k] = 92) (hd : s[k + 1] = 34 ∨ s[k + 1] = 92) : UqS s R (k + 2) (b ++ [s[k + 1]]) := by
 refine ⟨by have := h.num; simp; omega, ?_⟩
 have := h.rest
 rw [List.drop_eq_getElem_cons (by omega), List.drop_eq_getElem_cons hk, hc, Scr.unqG_esc _ _ _ hd] at this
 exact this
theorem UqS.short (h : UqS s R k b) (hk : k < s.length) (hs : s.length ≤ k + 2) (hc : s[k] = 92) (hd : ∀ h : k + 1 < s.length, ¬ (s[k + 1] = 34 ∨ s[k + 1] = 92)) : R = none := by
 have := h.rest
 rw [List.drop_eq_getElem_cons hk, hc, Scr.unqG_short] at this
 ·exact this.symm
 ·by_cases hk1 : k + 1 < s.length
  ·right
   refine ⟨s[k + 1], ?_, hd hk1⟩
   rw [List.drop_eq_getElem_cons hk1, List.drop_of_length_le (by omega)]
  ·left
   exact List.drop_of_length_le (by omega)
theorem UqS.hex (h : UqS s R k b) (hk : k + 2 < s.length) (hc : s[k] = 92) (hd : ¬ (s[k + 1] = 34 ∨ s[k + 1] = 92)) : (match unhexL [s[k + 1], s[k + 2]] with
  | some x => Scr.unqG (b ++ x) (s.drop (k + 3))
  | none => none) = R := by
 have := h.rest
 rw [List.drop_eq_getElem_cons (by omega), List.drop_eq_getElem_cons (by omega), List.drop_eq_getElem_cons hk, hc, Scr.unqG_hex _ _ _ _ hd] at this
 exact this
end
theorem unq_ret {w W : World} {tmps : Array Value} {p q : List UInt8} {ok : Bool} {o : Option (List UInt8 × List UInt8)} (h2 : tmps[2]? = some (.string ⟨p.toArray⟩)) (h3 : tmps[3]? = some (.string ⟨q.toArray⟩)) (h4 : tmps[4]? = some (.bool ok)) (hb : Below w.heap.size w W) (ho : (o.map (·.1)).getD [] = p ∧ (o.map (·.2)).getD [] = q ∧ o.isSome = ok) :
  bodyPost Tryz.prog Tryz.f31 (UnqRetS w o) .ret { tmps := tmps, defers := [] } W := by
 obtain ⟨rfl, rfl, rfl⟩ := ho
 refine bodyPost_ret (v := .tuple #[.string ⟨((o.map (·.1)).getD []).toArray⟩, .string ⟨((o.map (·.2)).getD []).toArray⟩, .bool o.isSome]) ?_ rfl ⟨rfl, hb⟩
 have e2 : tmps[2]?.getD undef = .string ⟨((o.map (·.1)).getD []).toArray⟩ := by rw [h2]; rfl
 have e3 : tmps[3]?.getD undef = .string ⟨((o.map (·.2)).getD []).toArray⟩ := by rw [h3]; rfl
 have e4 : tmps[4]?.getD undef = .bool o.isSome := by rw [h4]; rfl
 simp [results, Tryz.results31, e2, e3, e4]
set_option maxRecDepth 100000 in
theorem unquoted27_c (s : List UInt8) (w : World) (hs : s.length ≤ 1000000) (h0 : 0 < s.length) :
  Calls Tryz.prog 31 #[.string ⟨s.toArray⟩] w (UnqRetS w (Scr.unqG [] (s.drop 1))) := by
 have hget := ba_get
 have hext := ba_ext
 obtain ⟨R, hR⟩ : ∃ R, Scr.unqG [] (s.drop 1) = R := ⟨_, rfl⟩
 rw [hR]
 have H0 : Hid (UqS s R 1 []) := Lib.hid ⟨by simp, hR⟩
 clear hR
 go_enter Tryz.func31, Tryz.ntmps31
 go_wp2_with fail
 go_loopg [5, 6] s.length (fun gk v i wr => ∃ (k : Nat) (b : List UInt8), k ≤ s.length ∧ i = .int .i64 k ∧ Aside (s.length ≤ k + gk) ∧ Aside (UqS s R k b) ∧ Buf w wr v b)
 case atStart => exact ⟨1, [], by omega, rfl, by show _ ≤ _; omega, H0.out, Buf.nil w⟩
 case round =>
  obtain ⟨k, b, hk, rfl, AG, AJ, hbuf⟩ := hrel
  have hbl := AJ.out.num
  have hB := hbuf.below
  have HB := Lib.hid hB
  clear H0 hB
  by_cases hlt : k < s.length
  ·have hki : (k : Int) < (s.length : Int) := by omega
   obtain ⟨q, rfl⟩ : ∃ q, gk = q + 1 := ⟨gk - 1, by have := AG.out; omega⟩
   by_cases h34 : s[k] = 34
   ·have e34 : ((s[k].toNat : Int) == 34) = true := u27_is (by decide) h34
    have HR := Lib.hid (AJ.out.stop hlt h34)
    have hst := buf_string (hbuf.grow (Below.refl _ _).drew)
    have hst2 := buf_string hbuf
    have hsl := fun W => sl_from s (k + 1) (by omega) W
    rw [show ((k + 1 : Nat) : Int) = (k : Int) + 1 by omega] at hsl
    have hwk : IntKind.i64.wrap ((k : Int) + 1) = (k : Int) + 1 := by rw [IntWalk.i64_in _ (by omega)]
    clear AJ h34
    go_wp2_with fail
    go_region_held3 (fun W => (convert 55 9 u5).run Tryz.prog W = .ok (.string ⟨b.toArray⟩) W) (exact hst) (fail)
    all_goals
     go_wp2_with fail
     exact unq_ret rfl rfl rfl HB.out.drew (by rw [HR.out]; exact ⟨rfl, rfl, rfl⟩)
   have e34 : ((s[k].toNat : Int) == 34) = false := u27_not (n := 34) (by decide) h34
   by_cases hlo : s[k].toNat < 32 ∨ 126 < s[k].toNat
   ·have HR := Lib.hid (AJ.out.bad hlt hlo)
    clear AJ h34
    rcases hlo with hlo | hlo
    ·have hli : (s[k].toNat : Int) < 32 := by omega
     clear hlo
     go_wp2_with fail
     exact unq_ret rfl rfl rfl HB.out (by rw [HR.out]; exact ⟨rfl, rfl, rfl⟩)
    ·have hli : ¬ (s[k].toNat : Int) < 32 := by omega
     have hlj : (126 : Int) < (s[k].toNat : Int) := by omega
     clear hlo
     go_wp2_with fail
     exact unq_ret rfl rfl rfl HB.out (by rw [HR.out]; exact ⟨rfl, rfl, rfl⟩)
   have hli : ¬ (s[k].toNat : Int) < 32 := by omega
   have hlj : ¬ (126 : Int) < (s[k].toNat : Int) := by omega
   by_cases h92 : s[k] = 92
   ·have n92 : ((s[k].toNat : Int) != 92) = false := u27_nis (by decide) h92
    have hk1 : IntKind.i64.wrap ((k : Int) + 1) = (k : Int) + 1 := by rw [IntWalk.i64_in _ (by omega)]
    by_cases hl1 : k + 1 < s.length ∧ (s[k + 1]?.getD 0 = 34 ∨ s[k + 1]?.getD 0 = 92)
    ·obtain ⟨hl1, hd⟩ := hl1
     rw [List.getElem?_eq_getElem hl1, Option.getD_some] at hd
     have HJ := Lib.hid (AJ.out.esc hl1 h92 hd)
     have hl1i : (k : Int) + 1 < (s.length : Int) := by omega
     clear AJ h34 hlo
     rcases hd with hd | hd
     ·have f34 : ((s[k + 1].toNat : Int) == 34) = true := u27_is (by decide) hd
      clear hd h92
      go_wp2_with (at_builtin; refine buf_byte (c := s[k + 1]) rfl _ _ rfl rfl hbuf rfl (by omega) ?_; intro v2 w2 hb2 hg2)
      go_roundg q
      case measure => omega
      case rel => exact ⟨k + 2, _, by omega, by go_num, by have := AG.out; show _ ≤ _; omega, HJ.out, hb2⟩
     ·have f34 : ((s[k + 1].toNat : Int) == 34) = false := u27_not (n := 34) (by decide) (by rw [hd]; decide)
      have f92 : ((s[k + 1].toNat : Int) == 92) = true := u27_is (by decide) hd
      clear hd h92
      go_wp2_with (at_builtin; refine buf_byte (c := s[k + 1]) rfl _ _ rfl rfl hbuf rfl (by omega) ?_; intro v2 w2 hb2 hg2)
      go_roundg q
      case measure => omega
      case rel => exact ⟨k + 2, _, by omega, by go_num, by have := AG.out; show _ ≤ _; omega, HJ.out, hb2⟩
    have hd : ∀ h : k + 1 < s.length, ¬ (s[k + 1] = 34 ∨ s[k + 1] = 92) := fun h hd => hl1 ⟨h, by rw [List.getElem?_eq_getElem h]; exact hd⟩
    clear hl1
    by_cases hl2 : k + 2 < s.length
    ·have hd := hd (by omega)
     have hR := AJ.out.hex hl2 h92 hd
     have hl1i : (k : Int) + 1 < (s.length : Int) := by omega
     have hl2i : ¬ (s.length : Int) ≤ (k : Int) + 2 := by omega
     have f34 : ((s[k + 1].toNat : Int) == 34) = false := u27_not (n := 34) (by decide) (fun h => hd (.inl h))
     have f92 : ((s[k + 1].toNat : Int) == 92) = false := u27_not (n := 92) (by decide) (fun h => hd (.inr h))
     have HTK : Hid (sub s (k + 1) (k + 3) = [s[k + 1], s[k + 2]]) := Lib.hid (by
      unfold sub
      rw [show k + 3 - (k + 1) = 2 by omega, List.drop_eq_getElem_cons (by omega), List.drop_eq_getElem_cons hl2]
      rfl)
     have HU := Lib.hid (fun W => Unhex_c [s[k + 1], s[k + 2]] W (by simp))
     have hnum := AJ.out.num
     clear AJ h34 hlo h92 hd
     cases hu : unhexL [s[k + 1], s[k + 2]] with
     | none =>
      rw [hu] at hR
      simp only at hR
      have HR := Lib.hid hR
      have HUN : Hid (∀ W, Calls Tryz.prog 55 #[.string ⟨(sub s (k + 1) (k + 3)).toArray⟩] W fun e w' => e = .returned (.tuple #[.string ⟨#[]⟩, .int .i64 11]) ∧ Below W.heap.size W w') := Lib.hid fun W => by
       have := HU.out W
       rw [hu] at this
       rw [HTK.out]
       exact this
      clear HU hu hR
      go_wp2_with (go_at_call 55; (with_reducible refine (HUN.out _).mono ?_); rintro e w2 ⟨rfl, hb2⟩)
      exact unq_ret rfl rfl rfl (HB.out.trans (hb2.mono HB.out.size)) (by rw [← HR.out]; exact ⟨rfl, rfl, rfl⟩)
     | some x =>
      rw [hu] at hR
      have hx1 := unhex_two hu
      have HR := Lib.hid (show Scr.unqG (b ++ x) (s.drop (k + 3)) = R from hR)
      have HUN : Hid (∀ W, Calls Tryz.prog 55 #[.string ⟨(sub s (k + 1) (k + 3)).toArray⟩] W fun e w' => e = .returned (.tuple #[.string ⟨x.toArray⟩, .int .i64 0]) ∧ Below W.heap.size W w') := Lib.hid fun W => by
       have := HU.out W
       rw [hu] at this
       rw [HTK.out]
       exact this
      have hxl : b.length + x.length ≤ 140737488355328 := by omega
      have HX := Lib.hid hx1
      clear HU hu hR hx1
      obtain ⟨g, rfl⟩ : ∃ g, q = g + 1 + 1 := ⟨q - 2, by have := AG.out; omega⟩
      go_wp2_with (first
       | (go_at_call 55; (with_reducible refine (HUN.out _).mono ?_); rintro e w2 ⟨rfl, hb2⟩; have hbuf2 := hbuf.grow hb2)
       | (at_builtin; refine buf_text (m := x) rfl _ _ rfl rfl hbuf2 rfl hxl ?_; intro v3 w3 hb3 hg3))
      go_roundg g
      case measure => omega
      case rel => exact ⟨k + 3, _, by omega, by go_num, by have := AG.out; show _ ≤ _; omega, ⟨by rw [List.length_append, HX.out]; omega, HR.out⟩, hb3⟩
    ·have HR := Lib.hid (AJ.out.short hlt (by omega) h92 hd)
     have hl2i : (s.length : Int) ≤ (k : Int) + 2 := by omega
     clear AJ h34 hlo h92
     by_cases hl1 : k + 1 < s.length
     ·have hd := hd hl1
      have hl1i : (k : Int) + 1 < (s.length : Int) := by omega
      have f34 : ((s[k + 1].toNat : Int) == 34) = false := u27_not (n := 34) (by decide) (fun h => hd (.inl h))
      have f92 : ((s[k + 1].toNat : Int) == 92) = false := u27_not (n := 92) (by decide) (fun h => hd (.inr h))
      clear hd
      go_wp2_with fail
      exact unq_ret rfl rfl rfl HB.out (by rw [HR.out]; exact ⟨rfl, rfl, rfl⟩)
     ·have hl1i : ¬ (k : Int) + 1 < (s.length : Int) := by omega
      clear hd
      go_wp2_with fail
      exact unq_ret rfl rfl rfl HB.out (by rw [HR.out]; exact ⟨rfl, rfl, rfl⟩)
   ·have n92 : ((s[k].toNat : Int) != 92) = true := u27_nnot (n := 92) (by decide) h92
    have HJ := Lib.hid (AJ.out.plain hlt h34 hlo h92)
    clear AJ h34 hlo h92
    go_wp2_with (at_builtin; refine buf_byte (c := s[k]) rfl _ _ rfl rfl hbuf rfl (by omega) ?_; intro v2 w2 hb2 hg2)
    go_roundg q
    case measure => omega
    case rel => exact ⟨k + 1, _, by omega, by go_num, by have := AG.out; show _ ≤ _; omega, HJ.out, hb2⟩
  ·obtain rfl : k = s.length := by omega
   have HR := Lib.hid AJ.out.out
   clear AJ
   go_wp2_with fail
   exact unq_ret rfl rfl rfl HB.out (by rw [HR.out]; exact ⟨rfl, rfl, rfl⟩)
end Go.Proofs.YthenffabboomnaaGreatDoor
