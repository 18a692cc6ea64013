import Derived.Test.YtconnibnpckadaaGreatDoorW82
set_option linter.all false
set_option maxHeartbeats 8000000
set_option maxRecDepth 100000
namespace Go.Proofs.YtconnibnpckadaaGreatDoor
open Go.RowKit
theorem fSign_c (o : Int) (w : World) : Calls Tryz.prog 60 #[.int .i64 o] w fun e w' => e = .returned (.string ⟨(Fil.signF o).toArray⟩) ∧ w = w' := by
 unfold Fil.signF
 by_cases h5 : o = 5
 ·subst h5
  rw [if_pos rfl]
  go_enter Tryz.func60, Tryz.ntmps60
  go_wp2_with fail
  go_ret
  exact ⟨rfl, rfl⟩
 ·have e5 : (o == 5) = false := beq_eq_false_iff_ne.2 h5
  rw [if_neg h5]
  by_cases h6 : o = 6
  ·subst h6
   rw [if_pos rfl]
   go_enter Tryz.func60, Tryz.ntmps60
   go_wp2_with fail
   go_ret
   exact ⟨rfl, rfl⟩
  ·have e6 : (o == 6) = false := beq_eq_false_iff_ne.2 h6
   rw [if_neg h6]
   by_cases h8 : o = 8
   ·subst h8
    rw [if_pos rfl]
    go_enter Tryz.func60, Tryz.ntmps60
    go_wp2_with fail
    go_ret
    exact ⟨rfl, rfl⟩
   ·have e8 : (o == 8) = false := beq_eq_false_iff_ne.2 h8
    rw [if_neg h8]
    go_enter Tryz.func60, Tryz.ntmps60
    go_wp2_with fail
    go_ret
    exact ⟨rfl, rfl⟩
theorem RdF.above {N M p g : Nat} {w w' : World} {s : List UInt8} {v : Value} {qs : List FilQ} (h : RdF N p w s v qs) (hg : w.grownBy w' (some g)) (hp : p < M) (hv : ∀ k, v.ownBlock = some k → k < M) (hN : N ≤ M) (hgM : M ≤ g) : RdF N p w' s v qs := by
 refine ⟨h.at_.grown hg (fun e => ?_), h.own.keep2 hg (fun k hk e => ?_), fun q hq => (h.any q hq).keep hg (fun k hk e => ?_), h.lim⟩
 ·cases e; omega
 ·have := hv k hk
  cases e; omega
 ·have := h.lim q hq k hk
  cases e; omega
structure ItL (w : World) (p : Nat) (wr : World) (r : List UInt8) (v : Value) (qs : List FilQ) : Prop where
 plt : p < w.heap.size
 vlt : ∀ k, v.ownBlock = some k → k < w.heap.size
 rd : RdF w.heap.size p wr r v qs
 bel : w.grownBy wr (some p)
theorem ItL.begin {N p : Nat} {w : World} {s : List UInt8} {v : Value} {qs : List FilQ} (h : RdF N p w s v qs) : ItL w p w s v qs := ⟨h.lt, fun k hk => (h.own.lt k hk).2, h.fit, World.grownBy.refl _ _⟩
theorem ItL.below {w : World} {p : Nat} {wr wn : World} {r : List UInt8} {v : Value} {qs : List FilQ} (h : ItL w p wr r v qs) (hb : Below wr.heap.size wr wn) : ItL w p wn r v qs := ⟨h.plt, h.vlt, h.rd.below hb, World.grownBy.trans h.bel (grown_below hb _)⟩
theorem ItL.set {w : World} {p g : Nat} {wr : World} {r : List UInt8} {v : Value} {qs : List FilQ} (h : ItL w p wr r v qs) (hg : w.heap.size ≤ g) (i : Nat) (u : Value) : ItL w p (wr.setCell ⟨g, i, none⟩ u) r v qs :=
 ⟨h.plt, h.vlt, h.rd.above (setCell_grown _ _ _ _) h.plt h.vlt (Nat.le_refl _) hg, grown_free h.bel (setCell_grown _ _ _ _) (fun k e => by cases e; exact hg)⟩
theorem ItL.next {w : World} {p : Nat} {wr : World} {r : List UInt8} {v : Value} {qs : List FilQ} (h : ItL w p wr r v qs) (r' : List UInt8) : ItL w p (wr.setCell ⟨p, 0, none⟩ (.string ⟨r'.toArray⟩)) r' v qs :=
 ⟨h.plt, h.vlt, (h.rd.setS r').1, World.grownBy.trans h.bel (setCell_grown _ _ _ _)⟩
theorem ItL.call {N : Nat} {w : World} {p : Nat} {wr wn : World} {r r' : List UInt8} {v : Value} {qs : List FilQ} (h : ItL w p wr r v qs) (hg : wr.grownBy wn (some p)) (hR : RdF N p wn r' v qs) : ItL w p wn r' v qs :=
 ⟨h.plt, h.vlt, ⟨hR.at_, hR.own, hR.any, h.rd.lim⟩, World.grownBy.trans h.bel hg⟩
def ItemRet (w : World) (p : Nat) (v : Value) (qs : List FilQ) (R : Option (Fil.FilE × List UInt8)) (e : Ending) (w' : World) : Prop := w.grownBy w' (some p) ∧ match R with
 | some (f, r) => ∃ A n c, e = .returned (filV f (.slice A n c)) ∧ TxT w' (.slice A n c) f.any ∧ (∀ k, (Value.slice A n c).ownBlock = some k → w.heap.size ≤ k) ∧ RdF w.heap.size p w' r v qs
 | none => e = .panicked filPanic
theorem bk_far {w : World} {g g' i : Nat} {t : TypeId} {cs : Array Value} {u : Value} (h : Bk w g t cs) (hne : g ≠ g') : Bk (w.setCell ⟨g', i, none⟩ u) g t cs := h.grown (setCell_grown _ _ _ _) (fun e => hne (Option.some.inj e))
theorem TxT.setF {w : World} {g i : Nat} {va u : Value} {xs : List (List UInt8)} {cs : Array Value} (h : TxT w va xs) (hk : Bk w g 34 cs) : TxT (w.setCell ⟨g, i, none⟩ u) va xs := h.far hk (by decide) (setCell_grown _ _ _ _)
theorem item_out {w W : World} {p : Nat} {r : List UInt8} {v : Value} {qs : List FilQ} {f : Fil.FilE} {A : Option Addr} {n c : Nat} {tmps : Array Value} {z0 z1 z2 z3 z4 z5 z6 : Value} (hL : ItL w p W r v qs) (hk : Bk W w.heap.size 34 #[z0, z1, z2, z3, z4, z5, z6]) (hT : TxT W (.slice A n c) f.any) (hA : ∀ k, (Value.slice A n c).ownBlock = some k → w.heap.size ≤ k)
  (t2 : tmps[2]? = some (.pointer (some ⟨w.heap.size, 0, none⟩))) :
  bodyPost Tryz.prog Tryz.f29 (ItemRet w p v qs (some (f, r))) .ret { tmps := tmps, defers := [] } (((((((W.setCell ⟨w.heap.size, 0, none⟩ (.int .i64 f.op)).setCell ⟨w.heap.size, 1, none⟩ (.int .i64 f.n)).setCell ⟨w.heap.size, 2, none⟩ (.string ⟨f.typ.toArray⟩)).setCell ⟨w.heap.size, 3, none⟩ (.string ⟨f.val.toArray⟩)).setCell ⟨w.heap.size, 4, none⟩ (.string ⟨f.ini.toArray⟩)).setCell ⟨w.heap.size, 5, none⟩ (.string ⟨f.fin.toArray⟩)).setCell ⟨w.heap.size, 6, none⟩ (.slice A n c)) := by
 have e2 : tmps[2]?.getD undef = .pointer (some ⟨w.heap.size, 0, none⟩) := by rw [t2]; rfl
 have k0 := hk.set 0 (.int .i64 f.op)
 have l0 := hL.set (Nat.le_refl _) 0 (.int .i64 f.op)
 have x0 := hT.setF (i := 0) (u := .int .i64 f.op) hk
 have k1 := k0.set 1 (.int .i64 f.n)
 have l1 := l0.set (Nat.le_refl _) 1 (.int .i64 f.n)
 have x1 := x0.setF (i := 1) (u := .int .i64 f.n) k0
 have k2 := k1.set 2 (.string ⟨f.typ.toArray⟩)
 have l2 := l1.set (Nat.le_refl _) 2 (.string ⟨f.typ.toArray⟩)
 have x2 := x1.setF (i := 2) (u := .string ⟨f.typ.toArray⟩) k1
 have k3 := k2.set 3 (.string ⟨f.val.toArray⟩)
 have l3 := l2.set (Nat.le_refl _) 3 (.string ⟨f.val.toArray⟩)
 have x3 := x2.setF (i := 3) (u := .string ⟨f.val.toArray⟩) k2
 have k4 := k3.set 4 (.string ⟨f.ini.toArray⟩)
 have l4 := l3.set (Nat.le_refl _) 4 (.string ⟨f.ini.toArray⟩)
 have x4 := x3.setF (i := 4) (u := .string ⟨f.ini.toArray⟩) k3
 have k5 := k4.set 5 (.string ⟨f.fin.toArray⟩)
 have l5 := l4.set (Nat.le_refl _) 5 (.string ⟨f.fin.toArray⟩)
 have x5 := x4.setF (i := 5) (u := .string ⟨f.fin.toArray⟩) k4
 have k6 := k5.set 6 (.slice A n c)
 have l6 := l5.set (Nat.le_refl _) 6 (.slice A n c)
 have x6 := x5.setF (i := 6) (u := .slice A n c) k5
 generalize hW : (((((((W.setCell ⟨w.heap.size, 0, none⟩ (.int .i64 f.op)).setCell ⟨w.heap.size, 1, none⟩ (.int .i64 f.n)).setCell ⟨w.heap.size, 2, none⟩ (.string ⟨f.typ.toArray⟩)).setCell ⟨w.heap.size, 3, none⟩ (.string ⟨f.val.toArray⟩)).setCell ⟨w.heap.size, 4, none⟩ (.string ⟨f.ini.toArray⟩)).setCell ⟨w.heap.size, 5, none⟩ (.string ⟨f.fin.toArray⟩)).setCell ⟨w.heap.size, 6, none⟩ (.slice A n c)) = W' at k6 l6 x6 ⊢
 have c0 := k6.cell 0
 have c1 := k6.cell 1
 have c2 := k6.cell 2
 have c3 := k6.cell 3
 have c4 := k6.cell 4
 have c5 := k6.cell 5
 have c6 := k6.cell 6
 simp only [Array.setIfInBounds, List.getElem?_toArray] at c0 c1 c2 c3 c4 c5 c6
 simp at c0 c1 c2 c3 c4 c5 c6
 refine bodyPost_ret (v := filV f (.slice A n c)) ?_ rfl ⟨l6.bel, A, n, c, rfl, x6, hA, l6.rd⟩
 simp [results, Tryz.results29, go_sem, e2, c0, c1, c2, c3, c4, c5, c6, filV]
theorem valF_ne : ∀ (n : Nat) (s b : List UInt8) (o l : List (List UInt8)) (r : List UInt8), s.length ≤ n → Fil.valF s b o = some (l, r) → l ≠ [] ∧ r.length ≤ s.length
 | n, [], b, o, l, r, _, h => by rw [Fil.valF.eq_def] at h; simp at h; obtain ⟨rfl, rfl⟩ := h; simp
 | 0, x :: t, b, o, l, r, hn, h => by simp at hn
 | n + 1, x :: t, b, o, l, r, hn, h => by
  simp only [List.length_cons] at hn
  rw [Fil.valF_cons] at h
  by_cases h41 : x = 41
  ·rw [if_pos h41] at h; simp at h; obtain ⟨rfl, rfl⟩ := h; simp
  rw [if_neg h41] at h
  by_cases h92 : x = 92
  ·rw [if_pos h92] at h
   match t, h with
   | [], h => cases h
   | [a], h => cases h
   | a :: q :: t', h =>
    simp only at h
    cases hu : unhexL [a, q] with
    | none => rw [hu] at h; cases h
    | some y =>
     rw [hu] at h
     simp only [List.length_cons] at hn
     have := valF_ne n t' _ _ _ _ (by omega) h
     exact ⟨this.1, by simp only [List.length_cons]; omega⟩
  rw [if_neg h92] at h
  by_cases h40 : x = 40 ∨ x = 0
  ·rw [if_pos h40] at h; cases h
  rw [if_neg h40] at h
  by_cases h42 : x = 42
  ·rw [if_pos h42] at h
   have := valF_ne n t _ _ _ _ (by omega) h
   exact ⟨this.1, by simp only [List.length_cons]; omega⟩
  ·rw [if_neg h42] at h
   have := valF_ne n t _ _ _ _ (by omega) h
   exact ⟨this.1, by simp only [List.length_cons]; omega⟩
end Go.Proofs.YtconnibnpckadaaGreatDoor
