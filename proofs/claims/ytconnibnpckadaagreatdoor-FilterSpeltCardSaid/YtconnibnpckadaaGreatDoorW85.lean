import Derived.Test.YtconnibnpckadaaGreatDoorW84
set_option linter.all false
set_option maxHeartbeats 8000000
set_option maxRecDepth 100000
namespace Go.Proofs.YtconnibnpckadaaGreatDoor
open Go.RowKit
section
variable {ops : Array Oper} {o : Oper} {a : Act} {K : Act → World → Prop} {Q : Exit → Act → World → Prop} {E : Prop}
theorem step_fil_one (hgd : o.guard = none) (s x : Operand) (ho : o.op = .call { callee := .builtin .append, args := #[s, x], argTypes := #[22, 22] })
  {v va : Value} {qs : List FilQ} {B : Nat} {w0 : World} {p : Fil.FilE} (hva : va.oneCell' = true) (hs : a.eval s = v) (hb : OwnFl B w0 v qs)
  (hx : a.eval x = .slice (some ⟨w0.heap.size, 0, none⟩) 1 1) (hlen : qs.length < 1000000)
  (h : ∀ v' w', OwnFl B w' v' (qs ++ [(p, va)]) → w0.grownBy w' v.ownBlock → K (a.put o.dst v') w') :
  if Region.wanted o (yielded ops a.tmps) = true then Oper.wp Tryz.prog o a (w0.alloc (.cells #[.int .i64 p.op, .int .i64 p.n, .string ⟨p.typ.toArray⟩, .string ⟨p.val.toArray⟩, .string ⟨p.ini.toArray⟩, .string ⟨p.fin.toArray⟩, va] 34)) K Q else E := by
 obtain ⟨i, h1, h2, h3, h4⟩ := infoFl
 have hb' := hb.keep2 (World.grownBy_alloc w0 (.cells #[.int .i64 p.op, .int .i64 p.n, .string ⟨p.typ.toArray⟩, .string ⟨p.val.toArray⟩, .string ⟨p.ini.toArray⟩, .string ⟨p.fin.toArray⟩, va] 34) none) (fun k _ he => by cases he)
 refine step_append_own hgd s x 22 ho B 34 i _ 7 104 Tryz.underlying22 h1 h2 h3 h4 rfl (by decide) v _ _ hs hb'.1 ⟨w0.heap.size, 0, none⟩ 1 1 (fqCells (p, va)) hx rfl ?_ ?_ (by unfold maxLen; omega) (by omega) hb'.2 ?_
 ·intro j u hj
  match j, hj with
  | 0, hj => simp [fqCells] at hj; subst hj; simp [Addr.add]
  | 1, hj => simp [fqCells] at hj; subst hj; simp [Addr.add]
  | 2, hj => simp [fqCells] at hj; subst hj; simp [Addr.add]
  | 3, hj => simp [fqCells] at hj; subst hj; simp [Addr.add]
  | 4, hj => simp [fqCells] at hj; subst hj; simp [Addr.add]
  | 5, hj => simp [fqCells] at hj; subst hj; simp [Addr.add]
  | 6, hj => simp [fqCells] at hj; subst hj; simp [Addr.add]
  | (j + 7), hj => simp [fqCells] at hj
 ·intro u hu; simp [fqCells] at hu; rcases hu with rfl | rfl | rfl | rfl | rfl | rfl | rfl <;> first | rfl | exact hva
 ·intro v' w' ho' hg
  refine h v' w' ⟨?_, Nat.le_trans hb'.2 hg.size⟩ (World.grownBy.trans (World.grownBy_alloc _ _ _) hg)
  simpa using ho'
end
theorem below_set1 {B g : Nat} {a w : World} (h : Below B a w) (hg : B ≤ g) (i : Nat) (u : Value) : Below B a (w.setCell ⟨g, i, none⟩ u) := h.setCell hg u
def bumpQ (q : FilQ) (n : Int) : FilQ := (⟨q.1.op, n, q.1.typ, q.1.val, q.1.ini, q.1.fin, q.1.any⟩, q.2)
theorem fflat_bump : ∀ (l : List FilQ) (j : Nat) (hj : j < l.length) (n : Int), (l.set j (bumpQ l[j] n)).flatMap fqCells = (l.flatMap fqCells).set (j * 7 + 1) (.int .i64 n)
 | [], j, hj, _ => absurd hj (by simp)
 | q :: l, 0, _, n => by simp [fqCells, bumpQ]
 | q :: l, j + 1, hj, n => by
  have ih := fflat_bump l j (by simpa using hj) n
  simp only [List.getElem_cons_succ, List.set_cons_succ, List.flatMap_cons]
  rw [ih, List.set_append_right (h := by rw [fqCells_len]; omega)]
  congr 2
  rw [fqCells_len]; omega
theorem OwnFl.bump {B : Nat} {w : World} {g c n : Nat} {qs : List FilQ} (h : OwnFl B w (.slice (some ⟨g, 0, none⟩) n c) qs) {j : Nat} (hj : j < qs.length) (m : Int) : OwnFl B (w.setCell ⟨g, j * 7 + 1, none⟩ (.int .i64 m)) (.slice (some ⟨g, 0, none⟩) n c) (qs.set j (bumpQ qs[j] m)) ∧ w.cell? ⟨g, j * 7 + 1, none⟩ = some (.int .i64 qs[j].1.n) ∧ w.frozen? ⟨g, j * 7 + 1, none⟩ = false := by
 have hr := h.reads
 obtain ⟨⟨h1, h2⟩, h3⟩ := h
 rcases h2 with ⟨h2, _⟩ | ⟨g', cap, cur, e, r2, r3, r4, r5, r6, r7⟩
 ·cases h2
 ·cases e
  have hB : Bk w g 34 cur := r3
  refine ⟨⟨⟨by rw [fflat_bump, List.length_set, List.length_set]; exact h1, .inr ⟨g, c, cur.setIfInBounds (j * 7 + 1) (.int .i64 m), by rw [List.length_set], r2, hB.set _ _, by rw [List.length_set]; exact r4, r5, by simpa using r6, ?_⟩⟩, by simpa [World.setCell] using h3⟩, ?_, hB.frozen _⟩
  ·rw [List.length_set, Array.toList_setIfInBounds, List.take_set, r7, fflat_bump]
  ·obtain ⟨A, c', he, _, hx⟩ := hr
   obtain ⟨b, o, hA, hk⟩ := hx j hj
   cases he
   cases hA
   have := hk 1 (.int .i64 qs[j].1.n) rfl
   simpa using this
theorem FQT.bump {w : World} {qs : List FilQ} (h : FQT w qs) {j : Nat} (hj : j < qs.length) (m : Int) : FQT w (qs.set j (bumpQ qs[j] m)) := by
 intro q hq
 rcases List.mem_or_eq_of_mem_set hq with hq | rfl
 ·exact h q hq
 ·exact h qs[j] (List.getElem_mem hj)
theorem RdF.bump {N p : Nat} {w : World} {s : List UInt8} {v : Value} {qs : List FilQ} (h : RdF N p w s v qs) {j : Nat} (hj : j < qs.length) : ∃ g c, v = .slice (some ⟨g, 0, none⟩) qs.length c ∧ qs.length ≤ c ∧ p < g ∧ w.cell? ⟨g, j * 7 + 1, none⟩ = some (.int .i64 qs[j].1.n) ∧ w.frozen? ⟨g, j * 7 + 1, none⟩ = false ∧
  ∀ m : Int, RdF N p (w.setCell ⟨g, j * 7 + 1, none⟩ (.int .i64 m)) s v (qs.set j (bumpQ qs[j] m)) ∧ Below p w (w.setCell ⟨g, j * 7 + 1, none⟩ (.int .i64 m)) := by
 obtain ⟨A, c, rfl, hc⟩ := h.own.isSlice
 have ho := h.own
 obtain ⟨⟨h1, h2⟩, h3⟩ := h.own
 rcases h2 with ⟨h2, hn⟩ | ⟨g, cap, cur, e, r2, r3, r4, r5, r6, r7⟩
 ·omega
 ·cases e
  obtain ⟨_, b2, b3⟩ := ho.bump hj 0
  refine ⟨g, c, rfl, hc, r2, b2, b3, fun m => ?_⟩
  have hg := setCell_grown w g (j * 7 + 1) (.int .i64 m)
  have hk : Bk w g 34 cur := r3
  refine ⟨⟨h.at_.grown hg (fun e => by cases e; omega), (ho.bump hj m).1, (h.any.far hk (by decide) hg).bump hj m, fun q hq => ?_⟩, below_set1 (Below.refl p w) (Nat.le_of_lt r2) _ _⟩
  rcases List.mem_or_eq_of_mem_set hq with hq | rfl
  ·exact h.lim q hq
  ·exact h.lim qs[j] (List.getElem_mem hj)
theorem RdF.more {N p : Nat} {w w' : World} {s : List UInt8} {v v' : Value} {qs : List FilQ} {f : Fil.FilE} {va : Value} (h : RdF N p w s v qs) (hO : OwnFl (p + 1) w' v' (qs ++ [(f, va)])) (hg : w.grownBy w' v.ownBlock) (hT : TxT w va f.any) : RdF w.heap.size p (w'.setCell ⟨p, 1, none⟩ v') s v' (qs ++ [(f, va)]) ∧ Below p w (w'.setCell ⟨p, 1, none⟩ v') := by
 have hF : FQT w (qs ++ [(f, va)]) := by
  intro q hq
  rcases List.mem_append.1 hq with hq | hq
  ·exact h.any q hq
  ·obtain rfl := List.mem_singleton.1 hq; exact hT
 refine h.setO hO hg (hF.grown h.own hg) (fun q hq k hk => ?_)
 obtain ⟨cs, hb⟩ := (hF q hq).2 k hk
 exact hb.lt
theorem RdF.grownP {N p : Nat} {w w' : World} {s : List UInt8} {v : Value} {qs : List FilQ} (h : RdF N p w s v qs) (hg : w.grownBy w' (some p)) : Below p w w' := (Below.refl p w).grown hg (Nat.le_of_lt h.lt) (fun k e => by cases e; exact Nat.le_refl _)
open Go.RowKit
theorem itGo_len (t r : List UInt8) : ∀ (os : List Int) (f : Fil.FilE) (r' : List UInt8), itGo t r os = some (f, r') → r'.length ≤ r.length
 | [], f, r', h => by
  unfold itGo at h
  split at h
  ·next r1 =>
   unfold Fil.restF at h
   cases hv : Fil.valF r1 [] [] with
   | none => rw [hv] at h; cases h
   | some lr =>
    obtain ⟨l, r2⟩ := lr
    have := (valF_ne _ r1 [] [] l r2 (Nat.le_refl _) hv).2
    rw [hv] at h
    simp only at h
    simp only [List.length_cons]
    split at h
    ·cases h; omega
    ·split at h <;> (cases h; omega)
  ·cases h
 | o :: os, f, r', h => by
  unfold itGo at h
  split at h
  ·unfold Fil.oneF at h
   cases hv : Fil.valF (r.drop 2) [] [] with
   | none => rw [hv] at h; cases h
   | some lr =>
    obtain ⟨l, r2⟩ := lr
    have := (valF_ne _ _ [] [] l r2 (Nat.le_refl _) hv).2
    rw [List.length_drop] at this
    rw [hv] at h
    match l, h with
    | [], h => cases h
    | [x], h => cases h; omega
    | _ :: _ :: _, h => cases h
  ·exact itGo_len t r os f r' h
theorem itemF_len {s : List UInt8} {f : Fil.FilE} {r : List UInt8} (h : Fil.itemF s = some (f, r)) : r.length ≤ s.length := by
 have := itGo_len _ _ _ _ _ (itemF_go s ▸ h)
 rw [List.length_drop] at this
 omega
theorem kidsF_len {g : Nat → List UInt8 → Option (List Fil.FilE × List UInt8)} (hg : ∀ k s l r, g k s = some (l, r) → r.length < s.length) : ∀ (f k : Nat) (s : List UInt8) (n : Nat) (l : List Fil.FilE) (r : List UInt8), Fil.kidsF g f k s = some (n, l, r) → r.length ≤ s.length
 | 0, k, s, n, l, r, h => by unfold Fil.kidsF at h; cases h; exact Nat.le_refl _
 | f + 1, k, s, n, l, r, h => by
  unfold Fil.kidsF at h
  split at h
  ·cases hk : g k s with
   | none => rw [hk] at h; cases h
   | some lr =>
    obtain ⟨l1, s1⟩ := lr
    have h1 := hg _ _ _ _ hk
    rw [hk] at h
    simp only at h
    cases h2 : Fil.kidsF g f (k + l1.length) s1 with
    | none => rw [h2] at h; cases h
    | some nlr =>
     obtain ⟨n2, l2, r2⟩ := nlr
     have h3 := kidsF_len hg f _ _ _ _ _ h2
     rw [h2] at h
     cases h
     omega
  ·cases h; exact Nat.le_refl _
theorem bodyF_len {g : Nat → List UInt8 → Option (List Fil.FilE × List UInt8)} (hg : ∀ k s l r, g k s = some (l, r) → r.length < s.length) {k : Nat} {s : List UInt8} {l : List Fil.FilE} {r : List UInt8} (h : Fil.bodyF g k s = some (l, r)) : r.length ≤ s.length := by
 unfold Fil.bodyF at h
 split at h
 ·split at h
  ·next hk =>
   have := kidsF_len hg _ _ _ _ _ _ hk
   cases h
   rw [List.length_drop] at this
   omega
  ·cases h
 ·split at h
  ·next hi => cases h; exact itemF_len hi
  ·cases h
theorem filF_len : ∀ (d k : Nat) (s : List UInt8) (l : List Fil.FilE) (r : List UInt8), Fil.filF d k s = some (l, r) → r.length < s.length
 | 0, k, s, l, r, h => by cases h
 | d + 1, k, s, l, r, h => by
  unfold Fil.filF at h
  split at h
  ·cases h
  ·split at h
   ·next s1 =>
    split at h
    ·next hb =>
     have := bodyF_len (filF_len d) hb
     simp only [List.length_cons] at this ⊢
     cases h
     omega
    ·cases h
   ·cases h
theorem op_none {s : List UInt8} (h : Fil.opF s = none) (x : UInt8) (t : List UInt8) (e : s = x :: t) : x ≠ 38 ∧ x ≠ 124 ∧ x ≠ 33 := by
 subst e
 refine ⟨?_, ?_, ?_⟩ <;> (rintro rfl; cases h)
theorem op_idx (x : UInt8) (t : List UInt8) : Fil.opF (x :: t) = if Lib.indexByte [38, 124, 33] x < 0 then none else some (Lib.indexByte [38, 124, 33] x) := by
 by_cases h1 : x = 38
 ·subst h1; rfl
 by_cases h2 : x = 124
 ·subst h2; rfl
 by_cases h3 : x = 33
 ·subst h3; rfl
 have hn : Fil.opF (x :: t) = none := by
  unfold Fil.opF
  split
  ·next e => cases e; exact absurd rfl h1
  ·next e => cases e; exact absurd rfl h2
  ·next e => cases e; exact absurd rfl h3
  ·rfl
 have h : ∀ n : Fin 256, UInt8.ofNat n.val ≠ 38 → UInt8.ofNat n.val ≠ 124 → UInt8.ofNat n.val ≠ 33 → Lib.indexByte [38, 124, 33] (UInt8.ofNat n.val) < 0 := by decide +kernel
 have h4 := h ⟨x.toNat, x.toNat_lt⟩
 simp only [UInt8.ofNat_toNat] at h4
 rw [hn, if_pos (h4 h1 h2 h3)]
theorem fil_pre (s : List UInt8) : Lib.hasPrefix s [40] = decide (s.head? = some 40) := by
 cases s with
 | nil => rfl
 | cons x t =>
  by_cases h : x = 40
  ·subst h; rfl
  ·have h1 : Lib.hasPrefix (x :: t) [40] = false := by
    unfold Lib.hasPrefix
    simp [List.isPrefixOf, Ne.symm h]
   rw [h1]
   exact (decide_eq_false (by simpa using h)).symm
def FRet (p : Nat) (w : World) (qs : List FilQ) (R : Option (List Fil.FilE × List UInt8)) (e : Ending) (w' : World) : Prop := Below p w w' ∧ match R with
 | some (l, r) => e = .returned (.tuple #[]) ∧ ∃ v' ys, ys.map (·.1) = l ∧ RdF w'.heap.size p w' r v' (qs ++ ys)
 | none => e = .panicked filPanic
end Go.Proofs.YtconnibnpckadaaGreatDoor
namespace Go.Proofs.YtconnibnpckadaaGreatDoor.Fil
open Go.RowKit
theorem shape_kids8 (p : FilE) (ho : p.op = 0 ∨ p.op = 1 ∨ p.op = 2) : shapeB p = (decide (p = ⟨p.op, p.n, [], [], [], [], []⟩) && decide (0 ≤ p.n) && (p.op != 2 || p.n == 1)) := by
 obtain ⟨o, n, t, v, i, f, a⟩ := p
 simp only at ho
 unfold shapeB
 simp only
 rw [if_pos ho, Bool.eq_iff_iff]
 simp only [Bool.and_eq_true, Bool.or_eq_true, decide_eq_true_eq, List.isEmpty_iff, FilE.mk.injEq, true_and, bne_iff_ne, beq_iff_eq]
 constructor
 ·rintro ⟨⟨⟨⟨⟨⟨h1, h2⟩, h3⟩, h4⟩, h5⟩, h6⟩, h7⟩
  exact ⟨⟨⟨h1, h2, h3, h4, h5⟩, h6⟩, h7⟩
 ·rintro ⟨⟨⟨h1, h2, h3, h4, h5⟩, h6⟩, h7⟩
  exact ⟨⟨⟨⟨⟨⟨h1, h2⟩, h3⟩, h4⟩, h5⟩, h6⟩, h7⟩
theorem shape_val (p : FilE) (ho : p.op = 3 ∨ p.op = 5 ∨ p.op = 6 ∨ p.op = 8) : shapeB p = (decide (p = ⟨p.op, 0, p.typ, p.val, [], [], []⟩) && isTypeL p.typ) := by
 obtain ⟨o, n, t, v, i, f, a⟩ := p
 simp only at ho
 unfold shapeB
 simp only
 rw [if_neg (by omega), if_pos ho, Bool.eq_iff_iff]
 simp only [Bool.and_eq_true, decide_eq_true_eq, List.isEmpty_iff, FilE.mk.injEq, true_and]
 constructor
 ·rintro ⟨⟨⟨⟨h1, h2⟩, h3⟩, h4⟩, h5⟩
  exact ⟨⟨h1, h2, h3, h4⟩, h5⟩
 ·rintro ⟨⟨h1, h2, h3, h4⟩, h5⟩
  exact ⟨⟨⟨⟨h1, h2⟩, h3⟩, h4⟩, h5⟩
theorem shape_pres (p : FilE) (ho : p.op = 7) : shapeB p = (decide (p = ⟨p.op, 0, p.typ, [], [], [], []⟩) && isTypeL p.typ) := by
 obtain ⟨o, n, t, v, i, f, a⟩ := p
 simp only at ho
 subst ho
 unfold shapeB
 simp only
 rw [if_neg (by decide), if_neg (by decide), if_neg (by decide), if_pos trivial, Bool.eq_iff_iff]
 simp only [Bool.and_eq_true, decide_eq_true_eq, List.isEmpty_iff, FilE.mk.injEq, true_and]
 constructor
 ·rintro ⟨⟨⟨⟨⟨h1, h2⟩, h3⟩, h4⟩, h5⟩, h6⟩
  exact ⟨⟨h1, h2, h3, h4, h5⟩, h6⟩
 ·rintro ⟨⟨h1, h2, h3, h4, h5⟩, h6⟩
  exact ⟨⟨⟨⟨⟨h1, h2⟩, h3⟩, h4⟩, h5⟩, h6⟩
theorem shape_sub (p : FilE) (ho : p.op = 4) (h1 : ¬ (p.ini = [] ∧ p.fin = [] ∧ p.any = [])) (h2 : p.any.contains [] = false) : shapeB p = (decide (p = ⟨p.op, 0, p.typ, [], p.ini, p.fin, p.any⟩) && isTypeL p.typ) := by
 obtain ⟨o, n, t, v, i, f, a⟩ := p
 simp only at ho h1 h2
 subst ho
 unfold shapeB
 simp only
 have h3 : (i.isEmpty && f.isEmpty && a.isEmpty) = false := by
  rw [← Bool.not_eq_true]
  simp only [Bool.and_eq_true, List.isEmpty_iff]
  rintro ⟨⟨x, y⟩, z⟩
  exact h1 ⟨x, y, z⟩
 rw [if_neg (by decide), if_neg (by decide), if_pos trivial, h2, h3, Bool.eq_iff_iff]
 simp
theorem shape_sub_no (p : FilE) (ho : p.op = 4) (h : (p.ini = [] ∧ p.fin = [] ∧ p.any = []) ∨ p.any.contains [] = true) : shapeB p = false := by
 obtain ⟨o, n, t, v, i, f, a⟩ := p
 simp only at ho h
 subst ho
 unfold shapeB
 simp only
 rw [if_neg (by decide), if_neg (by decide), if_pos trivial]
 rcases h with ⟨rfl, rfl, rfl⟩ | h
 ·simp
 ·rw [h]; simp
theorem shape_no (p : FilE) (ho : p.op < 0 ∨ 8 < p.op) : shapeB p = false := by
 unfold shapeB
 rw [if_neg (by omega), if_neg (by omega), if_neg (by omega), if_neg (by omega)]
def wgt (l : List FilE) : Nat := (l.map filW).sum
theorem wgt_cons (p : FilE) (l : List FilE) : wgt (p :: l) = filW p + wgt l := by simp [wgt]
theorem wgt_app (a b : List FilE) : wgt (a ++ b) = wgt a + wgt b := by simp [wgt]
theorem wgt_len (l : List FilE) : l.length ≤ wgt l := by
 induction l with
 | nil => simp [wgt]
 | cons p l ih => rw [wgt_cons, List.length_cons]; unfold filW; omega
theorem times_suf {g : List FilE → Option (List FilE)} (hg : ∀ a b, g a = some b → b.length < a.length ∧ ∃ c, a = c ++ b) : ∀ n a b, times g n a = some b → b.length + n ≤ a.length ∧ ∃ c, a = c ++ b
 | 0, a, b, h => by cases h; exact ⟨Nat.le_refl _, [], rfl⟩
 | n + 1, a, b, h => by
  unfold times at h
  cases hc : g a with
  | none => rw [hc] at h; cases h
  | some c =>
   rw [hc] at h
   obtain ⟨h1, u, hu⟩ := times_suf hg n c b h
   obtain ⟨h2, z, hz⟩ := hg a c hc
   exact ⟨by omega, z ++ u, by rw [hz, hu, List.append_assoc]⟩
theorem whole_suf : ∀ d l r, wholeF d l = some r → r.length < l.length ∧ ∃ c, l = c ++ r
 | 0, l, r, h => by cases h
 | d + 1, [], r, h => by cases h
 | d + 1, p :: t, r, h => by
  unfold wholeF at h
  split at h
  ·obtain ⟨h1, c, hc⟩ := times_suf (whole_suf d) _ _ _ h
   exact ⟨by simp only [List.length_cons]; omega, p :: c, by rw [hc]; rfl⟩
  ·cases h
theorem whole_wgt {d : Nat} {l r : List FilE} (h : wholeF d l = some r) : wgt r ≤ wgt l := by
 obtain ⟨_, c, rfl⟩ := whole_suf d l r h
 rw [wgt_app]; omega
theorem wrF_len : ∀ (f : Nat) (v : List UInt8), (wrF f v).length ≤ 3 * v.length
 | 0, v => by simp [wrF]
 | f + 1, [] => by simp [wrF]
 | f + 1, x :: t => by
  have hne : x :: t ≠ [] := by simp
  have h1 := dec_pos (x :: t) hne
  have h2 := Lib.decodeL_le (x :: t) hne
  rw [wrF]
  generalize (Lib.decodeL (x :: t)).2 = n at *
  have h3 := wrF_len f ((x :: t).drop n)
  have h4 : (escF ((x :: t).take n)).length ≤ 3 * n := by
   unfold escF
   split
   ·next hc =>
    obtain ⟨y, hy⟩ := List.length_eq_one_iff.1 hc.1
    rw [hy]
    have : (92 :: hexL [y]).length = 3 := rfl
    omega
   ·rw [List.length_take]; omega
  rw [List.length_append]
  rw [List.length_drop] at h3
  omega
theorem wrL_len8 (v : List UInt8) : (wrL v).length ≤ 3 * v.length := wrF_len _ v
theorem any_len : ∀ a : List (List UInt8), (a.flatMap fun x => wrL x ++ [42]).length ≤ 3 * (a.map List.length).sum + a.length
 | [] => by simp
 | x :: a => by
  have := any_len a
  have := wrL_len8 x
  simp only [List.flatMap_cons, List.length_append, List.length_cons, List.length_nil, List.map_cons, List.sum_cons]
  omega
theorem itemT_len (p : FilE) : (itemT p).length + 2 ≤ 4 * filW p := by
 have h1 := wrL_len8 p.val
 have h2 := wrL_len8 p.ini
 have h3 := wrL_len8 p.fin
 have h4 := any_len p.any
 have h5 : (signF p.op).length ≤ 2 := by unfold signF; split <;> (try split) <;> (try split) <;> decide
 unfold itemT filW
 split
 ·simp only [List.length_append, List.length_cons, List.length_nil]; omega
 ·split
  ·simp only [List.length_append, List.length_cons]; omega
  ·simp only [List.length_append]; omega
theorem val_wgt : ∀ (n : Nat) (s b : List UInt8) (o l : List (List UInt8)) (r : List UInt8), s.length ≤ n → valF s b o = some (l, r) → l.length + (l.map List.length).sum + r.length ≤ s.length + b.length + o.length + (o.map List.length).sum + 1
 | n, [], b, o, l, r, _, h => by rw [valF.eq_def] at h; simp at h; obtain ⟨rfl, rfl⟩ := h; simp; omega
 | 0, x :: t, b, o, l, r, hn, h => by simp at hn
 | n + 1, x :: t, b, o, l, r, hn, h => by
  simp only [List.length_cons] at hn ⊢
  rw [valF_cons] at h
  by_cases h41 : x = 41
  ·rw [if_pos h41] at h; simp at h; obtain ⟨rfl, rfl⟩ := h; simp; omega
  rw [if_neg h41] at h
  by_cases h92 : x = 92
  ·rw [if_pos h92] at h
   match t, h with
   | [], h => cases h
   | [a], h => cases h
   | a :: q :: t', h =>
    simp only at h
    cases hu : unhexL [a, q] with
    | none => rw [hu] at h; cases h
    | some y =>
     rw [hu] at h
     have hy := unhex_two hu
     simp only [List.length_cons] at hn ⊢
     have := val_wgt n t' _ _ _ _ (by omega) h
     rw [List.length_append] at this
     omega
  rw [if_neg h92] at h
  by_cases h40 : x = 40 ∨ x = 0
  ·rw [if_pos h40] at h; cases h
  rw [if_neg h40] at h
  by_cases h42 : x = 42
  ·rw [if_pos h42] at h
   have := val_wgt n t _ _ _ _ (by omega) h
   simp at this ⊢
   omega
  ·rw [if_neg h42] at h
   have := val_wgt n t _ _ _ _ (by omega) h
   rw [List.length_append, List.length_singleton] at this
   omega
theorem sum_dropLast : ∀ (x : List UInt8) (l : List (List UInt8)), l ≠ [] → (((x :: l).drop 1).dropLast.map List.length).sum + ((x :: l).headD []).length + ((x :: l).getLastD []).length = ((x :: l).map List.length).sum ∧ ((x :: l).drop 1).dropLast.length + 2 = (x :: l).length
 | x, [], h => absurd rfl h
 | x, [y], _ => by simp
 | x, y :: z :: l, _ => by
  have := sum_dropLast y (z :: l) (by simp)
  simp only [List.drop_succ_cons, List.drop_zero, List.headD_cons, List.map_cons, List.sum_cons, List.length_cons] at this ⊢
  rw [List.dropLast_cons_of_ne_nil (by simp)]
  rw [show (x :: y :: z :: l).getLastD [] = (y :: z :: l).getLastD [] from rfl]
  simp only [List.map_cons, List.sum_cons, List.length_cons]
  omega
theorem one_wgt {o : Int} {t s : List UInt8} {f : FilE} {r : List UInt8} (h : oneF o t s = some (f, r)) : filW f + r.length ≤ t.length + s.length + 1 := by
 unfold oneF at h
 cases hv : valF s [] [] with
 | none => rw [hv] at h; cases h
 | some lr =>
  obtain ⟨l, r2⟩ := lr
  have := val_wgt _ s [] [] l r2 (Nat.le_refl _) hv
  rw [hv] at h
  match l, h, this with
  | [], h, _ => cases h
  | [x], h, this =>
   cases h
   simp [filW] at this ⊢
   omega
  | _ :: _ :: _, h, _ => cases h
theorem rest_wgt {t s : List UInt8} {f : FilE} {r : List UInt8} (h : restF t s = some (f, r)) : filW f + r.length ≤ t.length + s.length + 1 := by
 unfold restF at h
 cases hv : valF s [] [] with
 | none => rw [hv] at h; cases h
 | some lr =>
  obtain ⟨l, r2⟩ := lr
  have h1 := val_wgt _ s [] [] l r2 (Nat.le_refl _) hv
  have h2 := (valF_ne _ s [] [] l r2 (Nat.le_refl _) hv).1
  rw [hv] at h
  simp only [List.length_nil, List.map_nil, List.sum_nil] at h h1
  have h5 := List.length_pos_iff.2 h2
  split at h
  ·cases h
   simp [filW]
   omega
  ·split at h
   ·next hl =>
    obtain ⟨x, rfl⟩ := List.length_eq_one_iff.1 hl
    cases h
    simp [filW] at h1 ⊢
    omega
   ·next hl =>
    obtain ⟨x, l, rfl⟩ := List.exists_cons_of_ne_nil h2
    have h3 := sum_dropLast x l (by rintro rfl; simp at hl)
    cases h
    simp only [filW, List.length_nil]
    omega
theorem go_wgt (t r : List UInt8) : ∀ (os : List Int) (f : FilE) (r' : List UInt8), (∀ o ∈ os, o = 5 ∨ o = 6 ∨ o = 8) → itGo t r os = some (f, r') → filW f + r'.length ≤ t.length + r.length
 | [], f, r', _, h => by
  unfold itGo at h
  split at h
  ·have := rest_wgt h
   simp only [List.length_cons]; omega
  ·cases h
 | o :: os, f, r', ho, h => by
  unfold itGo at h
  split at h
  ·next h2 =>
   have h1 := one_wgt h
   have h3 : (signF o).length = 2 := by rcases ho o (List.mem_cons_self ..) with rfl | rfl | rfl <;> rfl
   rw [← h2, List.length_take] at h3
   rw [List.length_drop] at h1
   omega
  ·exact go_wgt t r os f r' (fun o h => ho o (List.mem_cons_of_mem _ h)) h
theorem item_wgt {s : List UInt8} {f : FilE} {r : List UInt8} (h : itemF s = some (f, r)) : filW f + r.length ≤ s.length := by
 have := go_wgt _ _ _ _ _ (by simp) (itemF_go s ▸ h)
 have h2 : (typF s).length ≤ s.length := by unfold typF; exact (List.takeWhile_prefix _).length_le
 rw [List.length_drop] at this
 omega
theorem kids_wgt {g : Nat → List UInt8 → Option (List FilE × List UInt8)} (hg : ∀ k s l r, g k s = some (l, r) → wgt l + r.length ≤ s.length) : ∀ (f k : Nat) (s : List UInt8) (n : Nat) (l : List FilE) (r : List UInt8), kidsF g f k s = some (n, l, r) → wgt l + r.length ≤ s.length
 | 0, k, s, n, l, r, h => by unfold kidsF at h; cases h; simp [wgt]
 | f + 1, k, s, n, l, r, h => by
  unfold kidsF at h
  split at h
  ·cases hk : g k s with
   | none => rw [hk] at h; cases h
   | some lr =>
    obtain ⟨l1, s1⟩ := lr
    have h1 := hg _ _ _ _ hk
    rw [hk] at h
    simp only at h
    cases h2 : kidsF g f (k + l1.length) s1 with
    | none => rw [h2] at h; cases h
    | some nlr =>
     obtain ⟨n2, l2, r2⟩ := nlr
     have h3 := kids_wgt hg f _ _ _ _ _ h2
     rw [h2] at h
     cases h
     rw [wgt_app]
     omega
  ·cases h; simp [wgt]
theorem fil_wgt : ∀ (d k : Nat) (s : List UInt8) (l : List FilE) (r : List UInt8), filF d k s = some (l, r) → wgt l + r.length ≤ s.length
 | 0, k, s, l, r, h => by cases h
 | d + 1, k, s, l, r, h => by
  unfold filF at h
  split at h
  ·cases h
  ·split at h
   ·next s1 =>
    cases hb : bodyF (filF d) k s1 with
    | none => rw [hb] at h; cases h
    | some lr =>
     obtain ⟨l1, r1⟩ := lr
     have h1 : wgt l1 + r1.length ≤ s1.length + 1 := by
      unfold bodyF at hb
      split at hb
      ·next o ho =>
       cases hk : kidsF (filF d) s1.length (k + 1) (s1.drop 1) with
       | none => rw [hk] at hb; cases hb
       | some z =>
        obtain ⟨n, l2, r2⟩ := z
        have h2 := kids_wgt (fil_wgt d) _ _ _ _ _ _ hk
        rw [hk] at hb
        cases hb
        rw [wgt_cons]
        rw [List.length_drop] at h2
        have : filW (⟨o, n, [], [], [], [], []⟩ : FilE) = 1 := by simp [filW]
        omega
      ·cases hi : itemF s1 with
       | none => rw [hi] at hb; cases hb
       | some z =>
        obtain ⟨p, r2⟩ := z
        have h2 := item_wgt hi
        rw [hi] at hb
        cases hb
        simp [wgt]
        omega
     rw [hb] at h
     split at h
     ·next e =>
      cases e
      cases h
      simp only [List.length_cons] at h1 ⊢
      omega
     ·cases h
   ·cases h
theorem parse_wgt (s : List UInt8) : wgt (parseF s).1 ≤ s.length := by
 unfold parseF
 split
 ·simp [wgt]
 ·cases h : filF 20 0 s with
  | none => simp [wgt]
  | some lr =>
   obtain ⟨l, r⟩ := lr
   have := fil_wgt _ _ _ _ _ h
   simp only
   split
   ·simp only; omega
   ·simp [wgt]
theorem kids_n {g : Nat → List UInt8 → Option (List FilE × List UInt8)} (hg : ∀ k s l r, g k s = some (l, r) → r.length < s.length) : ∀ (f k : Nat) (s : List UInt8) (n : Nat) (l : List FilE) (r : List UInt8), kidsF g f k s = some (n, l, r) → n + r.length ≤ s.length
 | 0, k, s, n, l, r, h => by unfold kidsF at h; cases h; omega
 | f + 1, k, s, n, l, r, h => by
  unfold kidsF at h
  split at h
  ·cases hk : g k s with
   | none => rw [hk] at h; cases h
   | some lr =>
    obtain ⟨l1, s1⟩ := lr
    have h1 := hg _ _ _ _ hk
    rw [hk] at h
    simp only at h
    cases h2 : kidsF g f (k + l1.length) s1 with
    | none => rw [h2] at h; cases h
    | some nlr =>
     obtain ⟨n2, l2, r2⟩ := nlr
     have h3 := kids_n hg f _ _ _ _ _ h2
     rw [h2] at h
     cases h
     omega
  ·cases h; omega
theorem kids_all {g : Nat → List UInt8 → Option (List FilE × List UInt8)} {P : FilE → Prop} (m : Nat) (hl : ∀ k s l r, g k s = some (l, r) → r.length < s.length) (hg : ∀ k s l r, s.length ≤ m → g k s = some (l, r) → ∀ p ∈ l, P p) : ∀ (f k : Nat) (s : List UInt8) (n : Nat) (l : List FilE) (r : List UInt8), s.length ≤ m → kidsF g f k s = some (n, l, r) → ∀ p ∈ l, P p
 | 0, k, s, n, l, r, _, h => by unfold kidsF at h; cases h; simp
 | f + 1, k, s, n, l, r, hm, h => by
  unfold kidsF at h
  split at h
  ·cases hk : g k s with
   | none => rw [hk] at h; cases h
   | some lr =>
    obtain ⟨l1, s1⟩ := lr
    have h1 := hl _ _ _ _ hk
    rw [hk] at h
    simp only at h
    cases h2 : kidsF g f (k + l1.length) s1 with
    | none => rw [h2] at h; cases h
    | some nlr =>
     obtain ⟨n2, l2, r2⟩ := nlr
     have h3 := kids_all m hl hg f _ _ _ _ _ (by omega) h2
     rw [h2] at h
     cases h
     intro p hp
     rcases List.mem_append.1 hp with hp | hp
     ·exact hg _ _ _ _ hm hk p hp
     ·exact h3 p hp
  ·cases h; simp
theorem item_n {s : List UInt8} {f : FilE} {r : List UInt8} (h : itemF s = some (f, r)) : f.n = 0 := by
 have key : ∀ os, itGo (typF s) (s.drop (typF s).length) os = some (f, r) → f.n = 0 := by
  intro os
  induction os with
  | nil =>
   intro h
   unfold itGo at h
   split at h
   ·unfold restF at h
    split at h
    ·split at h
     ·cases h; rfl
     ·split at h <;> (cases h; rfl)
    ·cases h
   ·cases h
  | cons o os ih =>
   intro h
   unfold itGo at h
   split at h
   ·unfold oneF at h
    split at h
    ·cases h; rfl
    ·cases h
   ·exact ih h
 exact key _ (itemF_go s ▸ h)
theorem fil_n : ∀ (d k : Nat) (s : List UInt8) (l : List FilE) (r : List UInt8) (m : Nat), s.length ≤ m → filF d k s = some (l, r) → ∀ p ∈ l, p.n ≤ (m : Int)
 | 0, k, s, l, r, m, _, h => by cases h
 | d + 1, k, s, l, r, m, hm, h => by
  unfold filF at h
  split at h
  ·cases h
  ·split at h
   ·next s1 =>
    simp only [List.length_cons] at hm
    cases hb : bodyF (filF d) k s1 with
    | none => rw [hb] at h; cases h
    | some lr =>
     obtain ⟨l1, r1⟩ := lr
     have h1 : ∀ p ∈ l1, p.n ≤ (m : Int) := by
      unfold bodyF at hb
      split at hb
      ·next o ho =>
       cases hk : kidsF (filF d) s1.length (k + 1) (s1.drop 1) with
       | none => rw [hk] at hb; cases hb
       | some z =>
        obtain ⟨n, l2, r2⟩ := z
        have hdl : (s1.drop 1).length ≤ m := by rw [List.length_drop]; omega
        have h2 := kids_n (filF_len d) _ _ _ _ _ _ hk
        have h3 := kids_all m (P := fun p => p.n ≤ (m : Int)) (filF_len d) (fun k s l r hs hf => fil_n d k s l r m hs hf) _ _ _ _ _ _ hdl hk
        rw [hk] at hb
        cases hb
        intro p hp
        rcases List.mem_cons.1 hp with rfl | hp
        ·show (n : Int) ≤ (m : Int)
         omega
        ·exact h3 p hp
      ·cases hi : itemF s1 with
       | none => rw [hi] at hb; cases hb
       | some z =>
        obtain ⟨p, r2⟩ := z
        have h2 := item_n hi
        rw [hi] at hb
        cases hb
        intro q hq
        rcases List.mem_cons.1 hq with rfl | hq
        ·omega
        ·cases hq
     rw [hb] at h
     split at h
     ·next e =>
      cases e
      cases h
      exact h1
     ·cases h
   ·cases h
theorem fil_fit {d k : Nat} {s : List UInt8} {l : List FilE} {r : List UInt8} (h : filF d k s = some (l, r)) (hs : s.length ≤ 1000000) : NFit l := fun p hp => by
 have := fil_n d k s l r 1000000 hs h p hp
 omega
theorem parse_fit (s : List UInt8) (hs : s.length ≤ 1000000) : NFit (parseF s).1 := by
 unfold parseF
 split
 ·intro p hp; cases hp
 ·cases h : filF 20 0 s with
  | none => intro p hp; cases hp
  | some lr =>
   obtain ⟨l, r⟩ := lr
   have := fil_fit h hs
   simp only
   split
   ·exact this
   ·intro p hp; cases hp
theorem puts_wgt {g : List FilE → List UInt8 × List FilE} (hg : ∀ l, (g l).1.length + 4 * wgt (g l).2 ≤ 4 * wgt l) : ∀ n l, (putsF g n l).1.length + 4 * wgt (putsF g n l).2 ≤ 4 * wgt l
 | 0, l => by simp [putsF]
 | n + 1, l => by
  have h1 := hg l
  have h2 := puts_wgt hg n (g l).2
  simp only [putsF, List.length_append]
  omega
theorem put_wgt : ∀ d l, (putF d l).1.length + 4 * wgt (putF d l).2 ≤ 4 * wgt l
 | 0, l => by simp [putF]
 | d + 1, [] => by simp [putF]
 | d + 1, p :: t => by
  rw [putF, wgt_cons]
  have hp : 1 ≤ filW p := by unfold filW; omega
  split
  ·have := puts_wgt (put_wgt d) p.n.toNat t
   simp only [List.length_cons, List.length_append, List.length_nil]
   omega
  ·have := itemT_len p
   simp only [List.length_cons, List.length_append, List.length_nil]
   omega
end Go.Proofs.YtconnibnpckadaaGreatDoor.Fil
namespace Go.Proofs.YtconnibnpckadaaGreatDoor.Fil
open Go.RowKit
theorem wrF_fuel : ∀ (f g : Nat) (v : List UInt8), v.length ≤ f → v.length ≤ g → wrF f v = wrF g v
 | f, g, [], _, _ => by cases f <;> cases g <;> simp [wrF]
 | 0, g, x :: t, hf, _ => by simp at hf
 | f + 1, 0, x :: t, _, hg => by simp at hg
 | f + 1, g + 1, x :: t, hf, hg => by
  have h1 := dec_pos (x :: t) (by simp)
  rw [wrF, wrF]
  simp only [List.length_cons] at hf hg
  congr 1
  exact wrF_fuel f g _ (by rw [List.length_drop]; simp only [List.length_cons]; omega) (by rw [List.length_drop]; simp only [List.length_cons]; omega)
theorem wrL_step (v : List UInt8) (h : v ≠ []) : wrL v = escF (v.take (Lib.decodeL v).2) ++ wrL (v.drop (Lib.decodeL v).2) := by
 obtain ⟨x, t, rfl⟩ := List.exists_cons_of_ne_nil h
 have h1 := dec_pos (x :: t) h
 unfold wrL
 rw [List.length_cons, wrF]
 congr 1
 exact wrF_fuel _ _ _ (by rw [List.length_drop]; simp only [List.length_cons]; omega) (Nat.le_refl _)
theorem wrL_nil : wrL [] = [] := rfl
def escS : List UInt8 := [40, 41, 42, 92, 0]
theorem esc_one (x : UInt8) : Lib.contains escS [x] = (x == 40 || x == 41 || x == 42 || x == 92 || x == 0) := by
 have h : ∀ n : Fin 256, Lib.contains escS [UInt8.ofNat n.val] = (UInt8.ofNat n.val == 40 || UInt8.ofNat n.val == 41 || UInt8.ofNat n.val == 42 || UInt8.ofNat n.val == 92 || UInt8.ofNat n.val == 0) := by decide +kernel
 have := h ⟨x.toNat, x.toNat_lt⟩
 simpa using this
theorem occ_mem {s c : List UInt8} {i : Nat} {x : UInt8} (h : Lib.occAt s c i = true) (hx : x ∈ c) : x ∈ s := by
 unfold Lib.occAt at h
 have := (List.isPrefixOf_iff_prefix.1 h).subset hx
 exact List.mem_of_mem_drop this
theorem esc_high (c : List UInt8) (hne : c ≠ []) (h : ∀ x ∈ c, 128 ≤ x.toNat) : Lib.contains escS c = false := by
 unfold Lib.contains
 rw [decide_eq_false_iff_not]
 rcases Lib.index_spec escS c with ⟨h1, _⟩ | ⟨i, h1, h2, h3, _⟩
 ·rw [h1]; decide
 ·obtain ⟨x, t, rfl⟩ := List.exists_cons_of_ne_nil hne
  have hm := occ_mem h3 (List.mem_cons_self ..)
  have := h x (List.mem_cons_self ..)
  unfold escS at hm
  simp only [List.mem_cons, List.not_mem_nil, or_false] at hm
  rcases hm with rfl | rfl | rfl | rfl | rfl <;> exact absurd this (by decide)
theorem esc_ways (v : List UInt8) (h : v ≠ []) (n : Nat) (hn : (Lib.decodeL v).2 = n) : 1 ≤ n ∧ n ≤ v.length ∧
  ((n = 1 ∧ ∃ x, v.take n = [x] ∧ ((Lib.contains escS [x] = true ∧ escF (v.take n) = 92 :: hexL [x]) ∨ (Lib.contains escS [x] = false ∧ 128 ≤ x.toNat ∧ escF (v.take n) = 92 :: hexL [x]) ∨ (Lib.contains escS [x] = false ∧ x.toNat < 128 ∧ escF (v.take n) = [x]))) ∨
   (n ≠ 1 ∧ Lib.contains escS (v.take n) = false ∧ escF (v.take n) = v.take n)) := by
 have h1 := dec_pos v h
 have h2 := Lib.decodeL_le v h
 have h3 := dec_high v h
 rw [hn] at h1 h2 h3
 refine ⟨h1, h2, ?_⟩
 by_cases e : n = 1
 ·left
  refine ⟨e, ?_⟩
  subst e
  obtain ⟨x, t, rfl⟩ := List.exists_cons_of_ne_nil h
  refine ⟨x, rfl, ?_⟩
  have hc := esc_one x
  have hE : escF (List.take 1 (x :: t)) = if (x == 40 || x == 41 || x == 42 || x == 92 || x == 0 || decide (128 ≤ x.toNat)) then 92 :: hexL [x] else [x] := by
   unfold escF
   simp
  cases hb : (x == 40 || x == 41 || x == 42 || x == 92 || x == 0)
  ·rw [hb] at hc
   right
   by_cases h8 : 128 ≤ x.toNat
   ·left
    exact ⟨hc, h8, by rw [hE, hb, decide_eq_true h8]; rfl⟩
   ·right
    exact ⟨hc, by omega, by rw [hE, hb, decide_eq_false h8]; rfl⟩
  ·rw [hb] at hc
   left
   exact ⟨hc, by rw [hE, hb]; rfl⟩
 ·right
  have hl : (v.take n).length = n := by rw [List.length_take]; omega
  refine ⟨e, esc_high _ (by intro h0; rw [h0] at hl; simp at hl; omega) (h3 e), ?_⟩
  unfold escF
  rw [if_neg (by rintro ⟨h4, _⟩; omega)]
theorem dec_go (l : List UInt8) (h : l ≠ []) : Lib.decodeGo ⟨l.toArray⟩ = Lib.decodeL l := by
 unfold Lib.decodeGo Lib.decodeL
 rw [if_neg (by simpa [ByteArray.size] using h)]
end Go.Proofs.YtconnibnpckadaaGreatDoor.Fil
