import Derived.Test.YthenffabboomnaaGreatDoorD0d
set_option linter.all false
set_option maxHeartbeats 8000000
set_option maxRecDepth 100000
set_option linter.all false
namespace Go.Proofs.YthenffabboomnaaGreatDoor
open Go.RowKit Go.Shelf
attribute [local go_sem] Oper.semAt_some
section
variable {F : Fence} {n : Nat} {P : Program}
theorem wpListIn_load_row {ops : Array Oper} {rest : List Oper} {o : Oper} {a : Act} {w : World} {Q : Exit → Act → World → Prop} (hgd : o.guard = none) (ty : TypeId) (x : Operand) (ho : o.op = .load ty x)
  (g : Nat) (hx : a.eval x = .pointer (some ⟨g, 0, none⟩)) (t : TypeId) (cs : Array Value) (fr : Nat × Nat) (d : TypeDesc) (hg : w.heap[g]? = some (.cells cs t fr))
  (hu : P.underlying ty = some d) (hd : (match d with | .struct _ | .array _ _ => true | _ => false) = true) (hi : (P.info? ty).map (·.size) = some cs.size)
  (h : wpListIn F n P ops Q rest (a.put o.dst (.agg cs)) w) : wpListIn F n P ops Q (o :: rest) a w := by
 refine wpListIn_plain hgd fun K hK => ?_
 unfold Oper.wpIn
 refine ⟨by simp [Oper.about, ho], ?_⟩
 rw [Oper.semAt_plain F _ _ (by rw [ho]; intro c hc; cases hc)]
 unfold execOp
 simp only [ho, hx, Instr.loadAt, Instr.sureAddr, Sem.run_bind, Sem.run_pure, Result.andThen_ok, run_loadVar_row w g t ty cs fr d hg hu hd hi]
 exact hK _ _ h
theorem wpListIn_store_row {ops : Array Oper} {rest : List Oper} {o : Oper} {a : Act} {w : World} {Q : Exit → Act → World → Prop} (hgd : o.guard = none) (ty : TypeId) (x y : Operand) (ho : o.op = .store ty x y)
  (g : Nat) (cells : Array Value) (hx : a.eval x = .pointer (some ⟨g, 0, none⟩)) (hy : a.eval y = .agg cells)
  (t : TypeId) (old : Array Value) (hg : w.heap[g]? = some (.cells old t (0, 0))) (hi : (P.info? ty).map (·.size) = some cells.size)
  (hold : old.size = cells.size) (h1 : cells.all (·.oneCell') = true)
  (h : wpListIn F n P ops Q rest (a.put o.dst undef) (w.setRow g cells)) : wpListIn F n P ops Q (o :: rest) a w := by
 refine wpListIn_plain hgd fun K hK => ?_
 unfold Oper.wpIn
 refine ⟨by simp [Oper.about, ho], ?_⟩
 rw [Oper.semAt_plain F _ _ (by rw [ho]; intro c hc; cases hc)]
 unfold execOp
 simp only [ho, hx, hy, Instr.storeAt, Instr.sureAddr, Sem.run_bind, Sem.run_pure, Result.andThen_ok, run_storeVar_row w g t ty old cells hg hi hold h1]
 exact hK _ _ h
theorem wpListIn_build_row {ops : Array Oper} {rest : List Oper} {o : Oper} {a : Act} {w : World} {Q : Exit → Act → World → Prop} (hgd : o.guard = none) (t e : TypeId) (y : Operand) (ho : o.op = .buildSlice t 1 #[(0, y)])
  (cells : Array Value) (hy : a.eval y = .agg cells) (hr : (Instr.buildSlice t 1 #[(0, .agg cells)]).run P w = .ok (.slice (some ⟨w.heap.size, 0, none⟩) 1 1) (w.alloc (.cells cells e)))
  (h : wpListIn F n P ops Q rest (a.put o.dst (.slice (some ⟨w.heap.size, 0, none⟩) 1 1)) (w.alloc (.cells cells e))) : wpListIn F n P ops Q (o :: rest) a w := by
 refine wpListIn_plain hgd fun K hK => ?_
 unfold Oper.wpIn
 refine ⟨by simp [Oper.about, ho], ?_⟩
 rw [Oper.semAt_plain F _ _ (by rw [ho]; intro c hc; cases hc)]
 unfold execOp
 simp only [ho, List.map_toArray, List.map_cons, List.map_nil, hy, Sem.run_bind, hr, Result.andThen_ok]
 exact hK _ _ h
end
theorem buildStep27 (w : World) (x : Scr.StepP) (V : StepV) :
  (Instr.buildSlice 23 1 #[(0, .agg (stepCells x V).toArray)]).run Tryz.prog w = .ok (.slice (some ⟨w.heap.size, 0, none⟩) 1 1) (w.alloc (.cells (stepCells x V).toArray 39)) := by
 kernel_rfl
def trim27 (x : List UInt8) : List UInt8 := Lib.trimS x [32]
def LineOK (x : List UInt8) (o : Option Scr.StepP) : Prop := (o = none ∧ (trim27 x = [] ∨ ∃ t, trim27 x = 35 :: t)) ∨
 ∃ P b t word K l, o = some P ∧ trim27 x = b :: t ∧ b ≠ 35 ∧ (trim27 x).length ≤ 900000 ∧ Scr.wordsL (trim27 x) = some ((word, false) :: l) ∧ (word, K) ∈ stepsL ∧ Scr.WLim ((word, false) :: l) ∧ kindF K (Scr.zeroStep word) l = some (P, []) ∧ kindC K (Scr.zeroStep word) l
def LinesOK (L : List (List UInt8)) (os : List (Option Scr.StepP)) : Prop := os.length = L.length ∧ ∀ (k : Nat) (x : List UInt8), L[k]? = some x → ∃ o, os[k]? = some o ∧ LineOK x o
def OutS (B : Nat) (w : World) (v : Value) (l : List Scr.StepP) : Prop := w.ownsRow B 39 32 v l.length (l.flatMap fun P => stepCells P nilV)
theorem OutS.keep {B : Nat} {w w' : World} {v : Value} {l : List Scr.StepP} (h : OutS B w v l) {r : Option Nat} (hg : w.grownBy w' r) (hr : ∀ k, r = some k → k < B ∨ ∃ o : Obj, w.heap[k]? = some o ∧ o.isCells = false) : OutS B w' v l := by
 refine World.ownsRow.kept h hg ?_
 rcases h.2 with ⟨rfl, _⟩ | ⟨g, cap, cur, rfl, hB, hgb, _⟩
 ·exact .inl rfl
 ·refine .inr fun e => ?_
  rcases hr g (by simpa [Value.ownBlock] using e.symm) with h1 | ⟨o, ho, hc⟩
  ·omega
  ·rw [hgb] at ho
   cases ho
   cases hc
theorem OutS.snoc {B : Nat} {w : World} {v : Value} {l : List Scr.StepP} {x : Scr.StepP} (h : w.ownsRow B 39 32 v (l.length + 1) ((l.flatMap fun P => stepCells P nilV) ++ stepCells x nilV)) : OutS B w v (l ++ [x]) := by
 unfold OutS
 simpa using h
def ParseRet27 (w : World) (l : List Scr.StepP) (e : Ending) (w' : World) : Prop := Below w.heap.size w w' ∧ ∃ v, e = .returned (.tuple #[v, .int .i64 0, .int .i64 0]) ∧ OutS w.heap.size w' v l
theorem RowsOK.nil {B : Nat} {w : World} {x : Scr.StepP} {v : StepV} (h : RowsOK B w x v) : v = nilV := by
 obtain ⟨a, b, c, d, e, f⟩ := v
 obtain ⟨⟨h1, _⟩, ⟨h2, _⟩, ⟨h3, _⟩, ⟨h4, _⟩, ⟨h5, _⟩, h6⟩ := h
 simp only at h1 h2 h3 h4 h5 h6
 subst h1 h2 h3 h4 h5 h6
 rfl
def stepsTo (os : List (Option Scr.StepP)) (k : Nat) : List Scr.StepP := (os.take k).filterMap id
theorem stepsTo_none {os : List (Option Scr.StepP)} {k : Nat} (h : os[k]? = some none) : stepsTo os (k + 1) = stepsTo os k := by
 unfold stepsTo
 rw [List.take_succ, h]
 simp
theorem stepsTo_some {os : List (Option Scr.StepP)} {k : Nat} {P : Scr.StepP} (h : os[k]? = some (some P)) : stepsTo os (k + 1) = stepsTo os k ++ [P] := by
 unfold stepsTo
 rw [List.take_succ, h]
 simp
theorem stepsTo_all {os : List (Option Scr.StepP)} {k : Nat} (h : os.length = k) : stepsTo os k = os.filterMap id := by
 unfold stepsTo
 rw [← h, List.take_length]
theorem stepsTo_len {os : List (Option Scr.StepP)} {k : Nat} : (stepsTo os k).length ≤ k := by
 unfold stepsTo
 refine Nat.le_trans (List.length_filterMap_le _ _) ?_
 simp
 omega
structure ParM (w : World) (N : Nat) (v : Value) (l : List Scr.StepP) (k : Nat) (W : World) : Prop where
 bel : Below N w W
 siz : N + 8 ≤ W.heap.size
 out : Bk W (N + 3) 23 #[v]
 own : OutS (N + 8) W v l
 num : Bk W (N + 4) 3 #[.int .i64 (k : Int)]
 r0 : Bk W N 23 #[nilSl]
 r1 : Bk W (N + 1) 24 #[.int .i64 0]
 r2 : Bk W (N + 2) 3 #[.int .i64 0]
section
variable {w W W' : World} {N k : Nat} {v v' : Value} {l : List Scr.StepP} {x : Scr.StepP}
theorem OutS.belowP {B : Nat} (h : OutS B W v l) (hb : Below W.heap.size W W') : OutS B W' v l := by
 refine ⟨h.1, ?_⟩
 rcases h.2 with ⟨rfl, h0⟩ | ⟨g, cap, cur, rfl, hB, hgb, hr⟩
 ·exact .inl ⟨rfl, h0⟩
 ·exact .inr ⟨g, cap, cur, rfl, hB, (hb.block g (Array.getElem?_eq_some_iff.1 hgb).1).trans hgb, hr⟩
theorem ParM.below (h : ParM w N v l k W) (hb : Below W.heap.size W W') : ParM w N v l k W' :=
 ⟨h.bel.trans (hb.mono (by have := h.siz; omega)), Nat.le_trans h.siz hb.size, h.out.below hb, h.own.belowP hb, h.num.below hb, h.r0.below hb, h.r1.below hb, h.r2.below hb⟩
theorem OutS.own_ge {B : Nat} (h : OutS B W v l) : ∀ g, v.ownBlock = some g → B ≤ g ∧ ∃ cs t z, W.heap[g]? = some (.cells cs t z) := by
 rcases h.2 with ⟨rfl, _⟩ | ⟨g, cap, cur, rfl, hB, hgb, _⟩
 ·intro g e; cases e
 ·intro g' e
  cases e
  exact ⟨hB, _, _, _, hgb⟩
theorem ParM.setNo (h : ParM w N v l k W) (k' : Nat) : ParM w N v l k' (W.setCell ⟨N + 4, 0, none⟩ (.int .i64 (k' : Int))) where
 bel := h.bel.setCell (p := ⟨N + 4, 0, none⟩) (by show N ≤ N + 4; omega) _
 siz := Nat.le_trans h.siz (KeepsWalks.setCell W _ _).size
 out := h.out.far (by omega) _
 own := h.own.keep (grownBy_setCell' W (N + 4) _) (fun k e => by cases e; exact .inl (by omega))
 num := h.num.set 0 _
 r0 := h.r0.far (by omega) _
 r1 := h.r1.far (by omega) _
 r2 := h.r2.far (by omega) _
theorem ParM.put (h : ParM w N v l k W) (hg : W.grownBy W' v.ownBlock) (ho : W'.ownsRow (N + 8) 39 32 v' (l.length + 1) ((l.flatMap fun P => stepCells P nilV) ++ stepCells x nilV)) :
  Bk W' (N + 3) 23 #[v] ∧ ParM w N v' (l ++ [x]) k (W'.setCell ⟨N + 3, 0, none⟩ v') := by
 have key : ∀ {g : Nat} {t : TypeId} {cs : Array Value}, g < N + 8 → Bk W g t cs → Bk W' g t cs := fun {g t cs} hlt hb => hb.grown hg (fun e => by have := (h.own.own_ge g e.symm).1; omega)
 have o3 := key (by omega) h.out
 refine ⟨o3, ?_, ?_, ?_, ?_, ?_, ?_, ?_, ?_⟩
 ·refine (h.bel.grown hg (by have := h.siz; omega) (fun j ej => by have := (h.own.own_ge j ej).1; omega)).setCell (p := ⟨N + 3, 0, none⟩) (by show N ≤ N + 3; omega) _
 ·exact Nat.le_trans h.siz (Nat.le_trans hg.size (KeepsWalks.setCell W' _ _).size)
 ·exact o3.set 0 v'
 ·exact OutS.keep (OutS.snoc ho) (grownBy_setCell' W' (N + 3) _) (fun k e => by cases e; exact .inl (by omega))
 ·exact (key (by omega) h.num).far (by omega) _
 ·exact (key (by omega) h.r0).far (by omega) _
 ·exact (key (by omega) h.r1).far (by omega) _
 ·exact (key (by omega) h.r2).far (by omega) _
def Kb27 (N : Nat) (W W' : World) : Prop := KeepsFrom (N + 8) W W' ∧ KpB (N + 5) W W'
theorem Kb27.trans {A B C : World} (h : Kb27 N A B) (h' : Kb27 N B C) : Kb27 N A C := ⟨h.1.trans h'.1, h.2.trans h'.2⟩
theorem Kb27.below (hN : N + 8 ≤ W.heap.size) (hb : Below W.heap.size W W') : Kb27 N W W' :=
 ⟨⟨hb.size, fun k o _ hk _ => (hb.block k (Array.getElem?_eq_some_iff.1 hk).1).trans hk⟩, fun k _ h2 => hb.block k (by omega)⟩
theorem Kb27.set (i : Nat) (hi : i < N + 5) (u : Value) : Kb27 N W (W.setCell ⟨i, 0, none⟩ u) :=
 ⟨KeepsFrom.of_grownBy (grownBy_setCell' W i u) (fun j e => by cases e; omega), fun k h1 _ => Below.heap_setCell _ _ _ k (fun e => by have : k = i := e; omega)⟩
theorem Kb27.grown (h : OutS (N + 8) W v l) (hN : N + 8 ≤ W.heap.size) (hg : W.grownBy W' v.ownBlock) : Kb27 N W W' :=
 ⟨⟨hg.size, fun k o _ hk ho => by
  refine (hg.block k (Array.getElem?_eq_some_iff.1 hk).1 (fun e => ?_)).trans hk
  obtain ⟨_, cs, t, z, hc⟩ := h.own_ge k e.symm
  rw [hc] at hk
  cases hk
  cases ho⟩, fun k h1 h2 => hg.block k (by omega) (fun e => by have := (h.own_ge k e.symm).1; omega)⟩
theorem OutS.sl {B : Nat} (h : OutS B W v l) : ∃ A c, v = .slice A l.length c := by
 rcases h.2 with ⟨rfl, h0⟩ | ⟨g, cap, cur, rfl, _⟩
 ·exact ⟨none, 0, by rw [h0]⟩
 ·exact ⟨_, _, rfl⟩
theorem OutS.lower {B B' : Nat} (h : OutS B W v l) (hB : B' ≤ B) : OutS B' W v l := by
 refine ⟨h.1, ?_⟩
 rcases h.2 with ⟨rfl, h0⟩ | ⟨g, cap, cur, rfl, hb, hgb, hr⟩
 ·exact .inl ⟨rfl, h0⟩
 ·exact .inr ⟨g, cap, cur, rfl, Nat.le_trans hB hb, hgb, hr⟩
def ParI (w : World) (N : Nat) (os : List (Option Scr.StepP)) (pre : List (List UInt8)) (W : World) : Prop := ∃ v, ParM w N v (stepsTo os pre.length) pre.length W
theorem ParI.own (os : List (Option Scr.StepP)) (hN : w.heap.size = N) : OwnS (N + 5) (N + 8) (ParI w N os) := by
 rintro pre A B row ⟨v, h⟩ hg hr
 have key : ∀ {g : Nat} {t : TypeId} {cs : Array Value}, g < N + 5 → Bk A g t cs → Bk B g t cs := fun {g t cs} hlt hb => hb.grown hg (fun e => by rcases hr g e.symm with h1 | ⟨h1, _⟩ <;> omega)
 refine ⟨v, ?_, Nat.le_trans h.siz hg.size, key (by omega) h.out, ?_, key (by omega) h.num, key (by omega) h.r0, key (by omega) h.r1, key (by omega) h.r2⟩
 ·exact h.bel.grown hg (by have := h.siz; omega) (fun j ej => by rcases hr j ej with h1 | ⟨h1, _⟩ <;> omega)
 ·exact h.own.keep hg (fun j ej => by
   rcases hr j ej with h1 | ⟨_, h2⟩
   ·exact .inl (by omega)
   ·exact .inr h2)
end
theorem linesL_len : ∀ (s x : List UInt8), x ∈ Scr.linesL s → x.length ≤ s.length
 | [], x, h => by
  simp only [Scr.linesL, List.mem_cons, List.not_mem_nil, or_false] at h
  subst h
  simp
 | c :: t, x, h => by
  rw [Scr.linesL] at h
  split at h
  ·rcases List.mem_cons.1 h with rfl | h
   ·simp
   ·have := linesL_len t x h
    simp only [List.length_cons]
    omega
  ·split at h
   ·next he => exact absurd he (Scr.linesL_ne t)
   ·next y l he =>
    have := linesL_len t
    rw [he] at this
    rcases List.mem_cons.1 h with rfl | h
    ·have := this y (List.mem_cons_self ..)
     simp only [List.length_cons]
     omega
    ·have := this x (List.mem_cons_of_mem _ h)
     simp only [List.length_cons]
     omega
theorem ba_eq_nil27 (c : UInt8) (t : List UInt8) : (⟨(c :: t).toArray⟩ : ByteArray).toList.isEmpty = false := by
 rw [ba_list]
 rfl
theorem ba_size27 (c : UInt8) (t : List UInt8) : (⟨(c :: t).toArray⟩ : ByteArray).size = t.length + 1 := by simp [ByteArray.size]
theorem ba_get27 (c : UInt8) (t : List UInt8) : ∀ h : 0 < (⟨(c :: t).toArray⟩ : ByteArray).size, (⟨(c :: t).toArray⟩ : ByteArray)[0]'h = c := fun _ => rfl
theorem row_cells27 (W : World) (t : TypeId) (SL : List Value) : ∀ j u, SL[j]? = some u → (W.alloc (.cells SL.toArray t)).cell? ((⟨W.heap.size, 0, none⟩ : Addr).add j) = some u := by
 intro j u h
 have := (Bk.new W t SL.toArray).cell j
 rw [List.getElem?_toArray, h] at this
 rw [show (⟨W.heap.size, 0, none⟩ : Addr).add j = ⟨W.heap.size, j, none⟩ by
  by_cases hj : j = 0
  ·subst hj; rfl
  ·simp [Addr.add, hj]]
 exact this
theorem infoStep27 : (Tryz.prog.info? 39).map (fun i => (i.zero, i.size, i.bytes)) = some (some (.agg zeroSC), 32, 432) := by kernel_rfl
theorem app27 {F : Fence} {n : Nat} {ops : Array Oper} {rest : List Oper} {o : Oper} {a : Act} {Q : Exit → Act → World → Prop} {w W7 : World} {N m k g : Nat} {v : Value} {l : List Scr.StepP} {x : Scr.StepP} {SL : List Value}
  (hgd : o.guard = none) (s y : Operand) (hop : o.op = Op.call { callee := Callee.builtin Builtin.append, args := #[s, y], argTypes := #[23, 23] }) (hs : a.eval s = v) (hy : a.eval y = .slice (some ⟨g, 0, none⟩) 1 1)
  (h : ParM w N v l k W7) (hm : l.length = m) (hml : m < 2000) (hSL : stepCells x nilV = SL) (hc : ∀ j u, SL[j]? = some u → W7.cell? ((⟨g, 0, none⟩ : Addr).add j) = some u)
  (hK : ∀ g' c w9, Bk w9 (N + 3) 23 #[v] → ParM w N (.slice (some ⟨g', 0, none⟩) (m + 1) c) (l ++ [x]) k (w9.setCell ⟨N + 3, 0, none⟩ (.slice (some ⟨g', 0, none⟩) (m + 1) c)) → Kb27 N W7 w9 → wpListIn F n Tryz.prog ops Q rest (a.put o.dst (.slice (some ⟨g', 0, none⟩) (m + 1) c)) w9) :
  wpListIn F n Tryz.prog ops Q (o :: rest) a W7 := by
 obtain ⟨i0, hi0, hz0, hz1, hz2⟩ := info_parts infoStep27
 have hS2 : ∀ u ∈ SL, u.oneCell' = true := fun u hu => by
  have : SL.all (·.oneCell') = true := by rw [← hSL]; simp [stepCells, msgCells, nilV, nilSl, Value.oneCell']
  rw [List.all_eq_true] at this
  exact this u hu
 have hS3 : SL.length = 1 * 32 := by rw [← hSL]; rfl
 subst hm
 refine wpListIn_append_own W7 hgd s y 23 hop (N + 8) 39 i0 (.agg zeroSC) 32 432 Tryz.underlying23 hi0 hz0 hz1 hz2 (by kernel_rfl) (by decide) v l.length _ hs h.own ⟨g, 0, none⟩ 1 1 SL hy hS3 hc hS2 (Nat.le_trans (show l.length + 1 ≤ 2001 by omega) (by decide)) (by omega) h.siz ?_
 intro v' w9 ho hg _
 rw [← hSL] at ho
 obtain ⟨b9, p9⟩ := h.put hg ho
 obtain ⟨g', c, rfl⟩ := ownsRow_succ ho
 exact hK g' c w9 b9 p9 (Kb27.grown h.own h.siz hg)
def Rest27 (p : Prop) : Prop := p
theorem rest_app27 {F : Fence} {n : Nat} {P : Program} {ops : Array Oper} {rest : List Oper} {o : Oper} {a : Act} {Q : Exit → Act → World → Prop} {W : World} (s y : Operand) (t : TypeId) (hop : o.op = Op.call { callee := Callee.builtin Builtin.append, args := #[s, y], argTypes := #[t, t] })
  (h : Rest27 (wpListIn F n P ops Q (o :: rest) a W)) : wpListIn F n P ops Q (o :: rest) a W := h
theorem parse_out27 {w Z : World} {N m c : Nat} {Av : Option Addr} {tmps : Array Value} {l : List Scr.StepP} (hN : w.heap.size = N) (hb : Below N w Z) (b0 : Bk Z N 23 #[.slice Av m c]) (b1 : Bk Z (N + 1) 24 #[.int .i64 0]) (b2 : Bk Z (N + 2) 3 #[.int .i64 0])
  (t2 : tmps[2]? = some (.pointer (some ⟨N, 0, none⟩))) (t3 : tmps[3]? = some (.pointer (some ⟨N + 1, 0, none⟩))) (t4 : tmps[4]? = some (.pointer (some ⟨N + 2, 0, none⟩))) (ho : OutS N Z (.slice Av m c) l) :
  LeavesInM Fence.wide 3 Tryz.prog Tryz.f7 tmps (ParseRet27 w l) [] .returning Z := by
 have e2 : tmps[2]?.getD undef = .pointer (some ⟨N, 0, none⟩) := by rw [t2]; rfl
 have e3 : tmps[3]?.getD undef = .pointer (some ⟨N + 1, 0, none⟩) := by rw [t3]; rfl
 have e4 : tmps[4]?.getD undef = .pointer (some ⟨N + 2, 0, none⟩) := by rw [t4]; rfl
 have c0 := b0.cell 0
 have c1 := b1.cell 0
 have c2 := b2.cell 0
 have l0 : (loadVar 23 ⟨N, 0, none⟩).run Tryz.prog Z = .ok (.slice Av m c) Z := by
  simp [go_sem, c0]
 have l1 : (loadVar 24 ⟨N + 1, 0, none⟩).run Tryz.prog Z = .ok (.int .i64 0) Z := by
  simp [go_sem, c1]
 have l2 : (loadVar 3 ⟨N + 2, 0, none⟩).run Tryz.prog Z = .ok (.int .i64 0) Z := by
  simp [go_sem, c2]
 refine ⟨.tuple #[.slice Av m c, .int .i64 0, .int .i64 0], ?_, by rw [hN]; exact hb, _, rfl, by rw [hN]; exact ho⟩
 simp [results, Tryz.results7, asAddr, e2, e3, e4, l0, l1, l2]
theorem bk_put {W : World} {g D : Nat} {t : TypeId} {cs : Array Value} {o : Obj} (h : Bk W g t cs) (hne : g ≠ D) : Bk (W.putObj D o) g t cs := (World.putObj_heap_other hne).trans h
theorem parse_done27 {w W : World} {N k m c D : Nat} {Av : Option Addr} {l : List Scr.StepP} (h : ParM w N (.slice Av m c) l k W) (hD : N + 8 ≤ D) (hK : W.heap[D]? = some (.deferred (some []))) {Z : World}
  (hZ : Z = (((W.setCell ⟨N, 0, none⟩ (.slice Av m c)).setCell ⟨N + 1, 0, none⟩ (.int .i64 0)).setCell ⟨N + 2, 0, none⟩ (.int .i64 0))) :
  Z.heap[D]? = some (.deferred (some [])) ∧ Below N w (Z.putObj D (.deferred none)) ∧ Bk (Z.putObj D (.deferred none)) N 23 #[.slice Av m c] ∧ Bk (Z.putObj D (.deferred none)) (N + 1) 24 #[.int .i64 0] ∧ Bk (Z.putObj D (.deferred none)) (N + 2) 3 #[.int .i64 0] ∧ OutS N (Z.putObj D (.deferred none)) (.slice Av m c) l := by
 subst hZ
 have k1 := hK
 have g0 : ∀ (X : World) (i : Nat) (u : Value), i ≠ D → X.heap[D]? = some (.deferred (some [])) → (X.setCell ⟨i, 0, none⟩ u).heap[D]? = some (.deferred (some [])) := fun X i u hne hx => (Below.heap_setCell _ _ _ D (fun e => hne e.symm)).trans hx
 have k2 := g0 _ (N + 2) (.int .i64 0) (by omega) (g0 _ (N + 1) (.int .i64 0) (by omega) (g0 _ N (.slice Av m c) (by omega) hK))
 have a0 := h.r0.set 0 (.slice Av m c)
 have a1 := (h.r1.far (i := 0) (show N + 1 ≠ N by omega) (.slice Av m c)).set 0 (.int .i64 0)
 have a2 := ((h.r2.far (i := 0) (show N + 2 ≠ N by omega) (.slice Av m c)).far (i := 0) (show N + 2 ≠ N + 1 by omega) (.int .i64 0)).set 0 (.int .i64 0)
 have a0' := (a0.far (i := 0) (show N ≠ N + 1 by omega) (.int .i64 0)).far (i := 0) (show N ≠ N + 2 by omega) (.int .i64 0)
 have a1' := a1.far (i := 0) (show N + 1 ≠ N + 2 by omega) (.int .i64 0)
 refine ⟨k2, ?_, bk_put a0' (by omega), bk_put a1' (by omega), bk_put a2 (by omega), ?_⟩
 ·refine (((h.bel.setCell (p := ⟨N, 0, none⟩) (Nat.le_refl _) _).setCell (p := ⟨N + 1, 0, none⟩) (by show N ≤ N + 1; omega) _).setCell (p := ⟨N + 2, 0, none⟩) (by show N ≤ N + 2; omega) _).grown (grownBy_putObj' _ D _) ?_ (fun r e => by cases e; omega)
  exact Nat.le_trans (by omega) (Nat.le_of_lt (Array.getElem?_eq_some_iff.1 k2).1)
 ·refine OutS.lower (B := N + 8) ?_ (by omega)
  refine OutS.keep ?_ (grownBy_putObj' _ D _) (fun r e => by cases e; exact .inr ⟨_, k2, rfl⟩)
  exact ((h.own.keep (grownBy_setCell' W N _) (fun r e => by cases e; exact .inl (by omega))).keep (grownBy_setCell' _ (N + 1) _) (fun r e => by cases e; exact .inl (by omega))).keep (grownBy_setCell' _ (N + 2) _) (fun r e => by cases e; exact .inl (by omega))
set_option maxRecDepth 100000 in
theorem parse27_c (s : List UInt8) (hs : s.length ≤ 65536) (os : List (Option Scr.StepP)) (hO : LinesOK (Scr.linesL s) os) (hn : os.length ≤ 2000) (w : World) :
  Calls Tryz.prog 7 #[.string ⟨s.toArray⟩] w (ParseRet27 w (os.filterMap id)) := by
 have HO := Lib.hid hO
 have hsi : (s.length : Int) ≤ 65536 := by omega
 have hsz : (⟨s.toArray⟩ : ByteArray).size = s.length := rfl
 clear hO
 refine (callsIn_wide (n := 3)).1 ?_
 refine callsIn_of_wp_marks Tryz.func7 rfl trivial ?_ rfl
 simp only [Tryz.ntmps7, List.size_toArray, List.length_cons, List.length_nil, Nat.reduceAdd, Nat.reduceSub, Array.replicate_succ, Array.replicate_zero, List.push_toArray, List.append_toArray, List.nil_append, List.cons_append]
 gi_wp2_with (refine ⟨trivial, ?_⟩; gi_at_call 11; refine (callsIn_wide.2 (SplitSeq27 _ _ _)).mono ?_; rintro e w' ⟨rfl, rfl⟩)
 clear hsi hsz
 obtain ⟨N, hN⟩ : ∃ N, w.heap.size = N := ⟨_, rfl⟩
 obtain ⟨A1, h1⟩ : ∃ A1, w.alloc (.cells #[.slice none 0 0] 23) = A1 := ⟨_, rfl⟩
 obtain ⟨A2, h2⟩ : ∃ A2, A1.alloc (.cells #[.int .i64 0] 24) = A2 := ⟨_, rfl⟩
 obtain ⟨A3, h3⟩ : ∃ A3, A2.alloc (.cells #[.int .i64 0] 3) = A3 := ⟨_, rfl⟩
 obtain ⟨A4, h4⟩ : ∃ A4, A3.alloc (.cells #[.slice none 0 0] 23) = A4 := ⟨_, rfl⟩
 obtain ⟨A5, h5⟩ : ∃ A5, A4.alloc (.cells #[.int .i64 0] 3) = A5 := ⟨_, rfl⟩
 obtain ⟨A6, h6⟩ : ∃ A6, A5.alloc (.cells #[.string ⟨s.toArray⟩] 9) = A6 := ⟨_, rfl⟩
 obtain ⟨A7, h7⟩ : ∃ A7, A6.alloc (.cells #[.string ⟨#[10]⟩] 9) = A7 := ⟨_, rfl⟩
 obtain ⟨A8, h8⟩ : ∃ A8, A7.alloc (.cells #[.int .i64 0] 3) = A8 := ⟨_, rfl⟩
 rw [h1, h2, h3, h4, h5, h6, h7, h8, hN]
 have s1 : A1.heap.size = N + 1 := by rw [← h1, World.size_alloc, hN]
 have s2 : A2.heap.size = N + 2 := by rw [← h2, World.size_alloc, s1]
 have s3 : A3.heap.size = N + 3 := by rw [← h3, World.size_alloc, s2]
 have s4 : A4.heap.size = N + 4 := by rw [← h4, World.size_alloc, s3]
 have s5 : A5.heap.size = N + 5 := by rw [← h5, World.size_alloc, s4]
 have s6 : A6.heap.size = N + 6 := by rw [← h6, World.size_alloc, s5]
 have s7 : A7.heap.size = N + 7 := by rw [← h7, World.size_alloc, s6]
 have s8 : A8.heap.size = N + 8 := by rw [← h8, World.size_alloc, s7]
 have q0 := Bk.new w 23 #[.slice none 0 0]
 have q1 := Bk.new A1 24 #[.int .i64 0]
 have q2 := Bk.new A2 3 #[.int .i64 0]
 have q3 := Bk.new A3 23 #[.slice none 0 0]
 have q4 := Bk.new A4 3 #[.int .i64 0]
 have q5 := Bk.new A5 9 #[.string ⟨s.toArray⟩]
 have q6 := Bk.new A6 9 #[.string ⟨#[10]⟩]
 have q7 := Bk.new A7 3 #[.int .i64 0]
 rw [h1, hN] at q0
 rw [h2, s1] at q1
 rw [h3, s2] at q2
 rw [h4, s3] at q3
 rw [h5, s4] at q4
 rw [h6, s5] at q5
 rw [h7, s6] at q6
 rw [h8, s7] at q7
 have b1 : Below N w A1 := by rw [← h1, ← hN]; exact (Below.refl _ _).alloc (Nat.le_refl _) _
 have b2 : Below A1.heap.size A1 A2 := by rw [← h2]; exact (Below.refl _ _).alloc (Nat.le_refl _) _
 have b3 : Below A2.heap.size A2 A3 := by rw [← h3]; exact (Below.refl _ _).alloc (Nat.le_refl _) _
 have b4 : Below A3.heap.size A3 A4 := by rw [← h4]; exact (Below.refl _ _).alloc (Nat.le_refl _) _
 have b5 : Below A4.heap.size A4 A5 := by rw [← h5]; exact (Below.refl _ _).alloc (Nat.le_refl _) _
 have b6 : Below A5.heap.size A5 A6 := by rw [← h6]; exact (Below.refl _ _).alloc (Nat.le_refl _) _
 have b7 : Below A6.heap.size A6 A7 := by rw [← h7]; exact (Below.refl _ _).alloc (Nat.le_refl _) _
 have b8 : Below A7.heap.size A7 A8 := by rw [← h8]; exact (Below.refl _ _).alloc (Nat.le_refl _) _
 have c7 := b7.trans (b8.mono b7.size)
 have c6 := b6.trans (c7.mono b6.size)
 have c5 := b5.trans (c6.mono b5.size)
 have c4 := b4.trans (c5.mono b4.size)
 have c3 := b3.trans (c4.mono b3.size)
 have c2 := b2.trans (c3.mono b2.size)
 have c1 := b1.trans (c2.mono (by omega))
 have HP0 : ParI w N os [] A8 := ⟨.slice none 0 0, c1, by omega, q3.below c5, World.ownsRow_nil _ _ _ _, q4.below c6, q0.below c2, q1.below c3, q2.below c4⟩
 have HSP := splitIt27 2 (by omega) s (by omega) (N + 5) A8 (q5.below c7) (q6.below b8) q7
 have hpos : ∀ x : List UInt8, (enc27 x).size = (#[16] : Array Tmp).size := fun _ => rfl
 have hlo : N + 5 + 3 ≤ A8.heap.size := by omega
 clear h1 h2 h3 h4 h5 h6 h7 h8 q0 q1 q2 q3 q4 q5 q6 q7 b1 b2 b3 b4 b5 b6 b7 b8 c1 c2 c3 c4 c5 c6 c7 s1 s2 s3 s4 s5 s6 s7
 simp only [Nat.add_assoc, Nat.reduceAdd]
 refine wpIn_rangeS rfl (by omega) (gf := 49) (lb := #[.pointer (some ⟨N + 6, 0, none⟩), .pointer (some ⟨N + 5, 0, none⟩), .pointer (some ⟨N + 7, 0, none⟩)]) rfl trivial (enters_of Tryz.func49 (by kernel_rfl) rfl) HSP hlo hpos
  (ParI w N os) (fun _ _ => False) (by rw [s8]; exact ParI.own os hN) (fun _ _ _ _ hs _ _ => hs) HP0 (fun x => { tmps := #[.string ⟨s.toArray⟩, undef, .pointer (some ⟨N, 0, none⟩), .pointer (some ⟨N + 1, 0, none⟩), .pointer (some ⟨N + 2, 0, none⟩), .pointer (some ⟨N + 3, 0, none⟩), .pointer (some ⟨N + 4, 0, none⟩), .string ⟨x.toArray⟩, undef, undef, undef, .string ⟨s.toArray⟩, .int .i64 (s.length : Int), .bool (decide (65536 < (s.length : Int))), .string ⟨s.toArray⟩, .func (.func 49) #[] #[.pointer (some ⟨N + 6, 0, none⟩), .pointer (some ⟨N + 5, 0, none⟩), .pointer (some ⟨N + 7, 0, none⟩)], .string ⟨x.toArray⟩, undef, undef, undef, undef, undef, undef, undef, undef, undef, undef, undef, undef, undef, undef, undef, undef, undef, undef, undef, undef, undef, undef, undef, undef, undef, undef, undef, undef, undef, undef, undef, undef, undef, undef, undef, undef], defers := [] }) ?assign ?body ?done ?stop
 case assign =>
  intro l x W K hK
  simp only [enc27]
  gi_wp2
  exact hK
 case stop =>
  rintro D pre W _ h _
  exact h.elim
 case done =>
  rintro D W hD ⟨v, hI⟩ hK
  obtain ⟨Av, cv, rfl⟩ := hI.own.sl
  have HI := Lib.hid hI
  have HK := Lib.hid hK
  have d3 := hI.out.cell 0
  have f0 := hI.r0.frozen 0
  have f1 := hI.r1.frozen 0
  have f2 := hI.r2.frozen 0
  have e0 := hI.r0.cell 0
  have e1 := hI.r1.cell 0
  have e2 := hI.r2.cell 0
  simp only [List.getElem?_toArray, List.getElem?_cons_zero] at d3 e0 e1 e2
  have hll : (Scr.linesL s).length = os.length := HO.out.1.symm
  generalize hm : (stepsTo os (Scr.linesL s).length).length = m at *
  clear hI hK HP0 HSP
  gi_wp2
  obtain ⟨k2, z1, z2, z3, z4, z5⟩ := parse_done27 HI.out (by omega) HK.out rfl
  refine ⟨by simp, .inl ⟨_, _, rfl, run_takeDeferred k2, ?_⟩⟩
  rw [stepsTo_all hll.symm] at z5
  exact parse_out27 hN z1 z2 z3 z4 rfl rfl rfl z5
 case body =>
  rintro lp pre x W hW ⟨v, hI⟩ hpre
  obtain ⟨o, ho, hx⟩ : ∃ o, os[pre.length]? = some o ∧ LineOK x o := HO.out.2 pre.length x (by
   obtain ⟨t, ht⟩ := hpre
   rw [← ht]
   simp)
  have hlen : pre.length < 2000 := by have := (List.getElem?_eq_some_iff.1 ho).1; omega
  have hli : (pre.length : Int) < 2000 := by omega
  have hl0 : 0 ≤ (pre.length : Int) := by omega
  have hpl : (pre ++ [x]).length = pre.length + 1 := by simp
  have HKB : Kb27 N W (W.setCell ⟨N + 4, 0, none⟩ (.int .i64 ((pre.length : Int) + 1))) := Kb27.set (N + 4) (by omega) _
  have HM1 : ParM w N v (stepsTo os pre.length) (pre.length + 1) (W.setCell ⟨N + 4, 0, none⟩ (.int .i64 ((pre.length : Int) + 1))) := hI.setNo (pre.length + 1)
  have d4 := hI.num.cell 0
  have f4 := hI.num.frozen 0
  simp only [List.getElem?_toArray, List.getElem?_cons_zero] at d4
  have hxl : x.length ≤ 65536 := Nat.le_trans (linesL_len s x (by
   obtain ⟨t, ht⟩ := hpre
   rw [← ht]
   simp)) hs
  have hz32 : (⟨#[32]⟩ : ByteArray).size < 4294967281 := by decide
  have hcs : ∀ (j : Nat) b, (⟨#[32]⟩ : ByteArray).data.toList[j]? = some b → b.toNat < 128 := by
   intro j b hj
   cases j with
   | zero => cases hj; decide
   | succ j => simp at hj
  rcases hx with ⟨rfl, hb⟩ | ⟨P, b, tt, word, K, ws, rfl, htr, hb35, hlen9, hwd, hK, hlim, hF, hC⟩
  ·rcases hb with htr | ⟨tt, htr⟩
   ·have HT := Lib.hid htr
    gi_wp2_with (refine ⟨trivial, ?_⟩; gi_at_call 12; refine (CallsIn.inRound lp (callsIn_wide.2 (Tryz.strings_Trim_set _ _ _ (by show x.length ≤ _; omega) hz32 hcs))).mono ?_; rintro e w2 ⟨rfl, hb2⟩; rw [show Lib.trimS (⟨x.toArray⟩ : ByteArray).data.toList (⟨#[32]⟩ : ByteArray).data.toList = [] from htr])
    refine ⟨?_, ?_, ?_⟩
    ·rw [s8]; exact (HKB.trans (Kb27.below HM1.siz hb2)).1
    ·exact (HKB.trans (Kb27.below HM1.siz hb2)).2
    ·refine ⟨v, ?_⟩
     rw [hpl, stepsTo_none ho]
     exact HM1.below hb2
   ·have he := ba_eq_nil27 35 tt
    have hge := ba_get27 35 tt
    have hsz := ba_size27 35 tt
    generalize htx : (⟨(35 :: tt).toArray⟩ : ByteArray) = T at he hge hsz
    gi_wp2_with (refine ⟨trivial, ?_⟩; gi_at_call 12; refine (CallsIn.inRound lp (callsIn_wide.2 (Tryz.strings_Trim_set _ _ _ (by show x.length ≤ _; omega) hz32 hcs))).mono ?_; rintro e w2 ⟨rfl, hb2⟩; rw [show (⟨(Lib.trimS (⟨x.toArray⟩ : ByteArray).data.toList (⟨#[32]⟩ : ByteArray).data.toList).toArray⟩ : ByteArray) = T by rw [← htx, ← htr]; rfl])
    refine ⟨?_, ?_, ?_⟩
    ·rw [s8]; exact (HKB.trans (Kb27.below HM1.siz hb2)).1
    ·exact (HKB.trans (Kb27.below HM1.siz hb2)).2
    ·refine ⟨v, ?_⟩
     rw [hpl, stepsTo_none ho]
     exact HM1.below hb2
  ·obtain ⟨Av, cv, rfl⟩ := hI.own.sl
   have hml : (stepsTo os pre.length).length < 2000 := Nat.lt_of_le_of_lt stepsTo_len hlen
   have hmi : (((stepsTo os pre.length).length : Int) == 2000) = false := by
    rw [beq_eq_false_iff_ne]
    omega
   have hmz : (Value.agg zeroSC).cells.size = 32 := by kernel_rfl
   obtain ⟨i0, hi0, hz0, hz1, hz2⟩ := info_parts infoStep27
   obtain ⟨SL, hSL⟩ : ∃ SL, stepCells P nilV = SL := ⟨_, rfl⟩
   have hS1 : SL.toArray.all (·.oneCell') = true := by rw [← hSL]; simp [stepCells, msgCells, nilV, nilSl, Value.oneCell']
   have hS2 : ∀ u ∈ SL, u.oneCell' = true := fun u hu => by
    rw [Array.all_eq_true_iff_forall_mem] at hS1
    exact hS1 u (by simpa using hu)
   have hS3 : SL.length = 1 * 32 := by rw [← hSL]; rfl
   have hS4 : (Tryz.prog.info? 39).map (·.size) = some SL.toArray.size := by rw [← hSL]; exact step_size
   have hS5 := fun W => buildStep27 W P nilV
   have HZO : Hid (zeroSC.size = SL.toArray.size) := Lib.hid (by rw [← hSL]; rfl)
   rw [hSL] at hS5
   have HSS := Lib.hid (And.intro hS1 (And.intro hS2 (And.intro hS3 (And.intro hS4 hS5))))
   have HII := Lib.hid (And.intro hi0 (And.intro hz0 (And.intro hz1 (And.intro hz2 hmz))))
   have HSL := Lib.hid hSL
   clear hS1 hS2 hS3 hS4 hS5 hi0 hz0 hz1 hz2 hmz hSL
   obtain ⟨m, hm⟩ : ∃ m, (stepsTo os pre.length).length = m := ⟨_, rfl⟩
   rw [hm] at hmi hml HM1 hI
   have HMM := Lib.hid hm
   have he := ba_eq_nil27 b tt
   have hge := ba_get27 b tt
   have hsz := ba_size27 b tt
   have hb0 : ((b.toNat : Int) == 35) = false := by
    rw [beq_eq_false_iff_ne]
    intro h
    refine hb35 (UInt8.toNat_inj.1 ?_)
    have : b.toNat = 35 := by omega
    rw [this]; rfl
   have HWD := Lib.hid hwd
   have HRD := Lib.hid (fun (vl : Value) (W : World) (hl : WdsT W vl ((word, false) :: ws)) => read_ok word K ws P vl W hK hl hlim hF hC)
   have HLN := Lib.hid hlen9
   have HTR := Lib.hid htr
   clear hwd hK hlim hF hC hlen9 hb35
   generalize htx : (⟨(b :: tt).toArray⟩ : ByteArray) = T at he hge hsz
   gi_wp2_with (first
    | (refine ⟨trivial, ?_⟩; gi_at_call 12; refine (CallsIn.inRound lp (callsIn_wide.2 (Tryz.strings_Trim_set _ _ _ (by show x.length ≤ _; omega) hz32 hcs))).mono ?_; rintro e w2 ⟨rfl, hb2⟩; rw [show (⟨(Lib.trimS (⟨x.toArray⟩ : ByteArray).data.toList (⟨#[32]⟩ : ByteArray).data.toList).toArray⟩ : ByteArray) = T by rw [← htx, ← HTR.out]; rfl])
    | (refine ⟨trivial, ?_⟩; gi_at_call 13; have hw27 := words27_c (trim27 x) w2 HLN.out; rw [show (⟨(trim27 x).toArray⟩ : ByteArray) = T by rw [← htx, HTR.out], HWD.out] at hw27; refine (CallsIn.inRound lp (callsIn_wide.2 hw27)).mono ?_; clear hw27; rintro e w3 ⟨hb3, vw, rfl, hw⟩; have HW := Lib.hid (And.intro hb3 hw.reads); clear hb3 hw; have hb4 := (Below.refl w3.heap.size w3).alloc (Nat.le_refl _) (.cells zeroSC 39); have hbz := Bk.new w3 39 zeroSC; obtain ⟨Wz, hWz⟩ : ∃ Wz, w3.alloc (.cells zeroSC 39) = Wz := ⟨_, rfl⟩; rw [hWz] at hb4 hbz; have HWZ := Lib.hid (And.intro hb4 hbz); clear hb4 hbz; unfold zeroSC at hWz)
    | (refine ⟨trivial, ?_⟩; refine (CallsIn.inRound lp (callsIn_wide.2 (HRD.out vw Wz (HW.out.2.below HWZ.out.1)))).mono ?_; rintro e w5 ⟨hb5, V, rfl, hV⟩; obtain rfl := hV.nil; rw [HSL.out]; have hc3 := hb2.trans (HW.out.1.mono hb2.size); have hc4 := hc3.trans (HWZ.out.1.mono hc3.size); have hc5 := hc4.trans (hb5.mono hc4.size); have hz5 := HWZ.out.2.below hb5; have hb6 := below_setRow hc5 hc3.size SL.toArray; have h6 : Bk (w5.setRow w3.heap.size SL.toArray) w3.heap.size 39 SL.toArray := setRow_heap _ _ _ _ _ _ hz5; have HM6 := HM1.below hb6; have HKB6 := HKB.trans (Kb27.below HM1.siz hb6); have d6 := HM6.out.cell 0; simp only [List.getElem?_toArray, List.getElem?_cons_zero] at d6; have HM7 := HM6.below ((Below.refl _ _).alloc (Nat.le_refl _) (.cells SL.toArray 39)); have HKB7 := HKB6.trans (Kb27.below HM6.siz ((Below.refl _ _).alloc (Nat.le_refl _) (.cells SL.toArray 39))); have HH7 := Lib.hid (And.intro HM7 HKB7); clear HM6 HKB6 HM7 HKB7; have hcl := row_cells27 (w5.setRow w3.heap.size SL.toArray) 39 SL; rw [setRow_size] at hcl; have HCL := Lib.hid hcl; clear hcl; have HZ5 := Lib.hid (And.intro hz5 h6); clear hz5 h6 hc3 hc4 hc5 hb6 hb5 hV)
    | (refine wpListIn_store_row rfl 39 _ _ rfl w3.heap.size SL.toArray rfl rfl 39 zeroSC HZ5.out.1 HSS.out.2.2.2.1 HZO.out HSS.out.1 ?_)
    | (refine wpListIn_load_row rfl 39 _ rfl w3.heap.size rfl 39 SL.toArray (0, 0) _ HZ5.out.2 Tryz.underlying39 rfl HSS.out.2.2.2.1 ?_)
    | (refine wpListIn_build_row rfl 23 39 _ rfl SL.toArray rfl (HSS.out.2.2.2.2 _) ?_)
    | (gi_at_builtin; refine rest_app27 _ _ _ rfl ?_))
   unfold Rest27
   refine app27 rfl _ _ rfl rfl rfl HH7.out.1 HMM.out hml HSL.out HCL.out ?_
   intro g' c9 w9 hb9 hp9 hk9
   have d9 := hb9.cell 0
   have f9 := hb9.frozen 0
   have HP9 := Lib.hid (And.intro hp9 hk9)
   clear hb9 hp9 hk9
   gi_wp2
   have HKE := HH7.out.2.trans (HP9.out.2.trans (Kb27.set (N + 3) (by omega) (.slice (some ⟨g', 0, none⟩) (m + 1) c9)))
   refine ⟨?_, ?_, .slice (some ⟨g', 0, none⟩) (m + 1) c9, ?_⟩
   ·rw [s8]; exact HKE.1
   ·exact HKE.2
   ·rw [hpl, stepsTo_some ho]
    exact HP9.out.1
end Go.Proofs.YthenffabboomnaaGreatDoor
