/- Contracts: the reader of names: pair. -/
import Derived.Test.YtgpecklibcgifaaGreatDoorW3
set_option linter.all false
namespace Go.Proofs.YtgpecklibcgifaaGreatDoor
open Go.RowKit

/-- b is none of the variables that the library reads. -/
def Off (b : Nat) : Prop := b ≠ 1 ∧ b ≠ 2 ∧ b ≠ 0
theorem Env.grown {w W : World} {b : Nat} (h : Env w) (hb : Off b) (hg : w.grownBy W (some b)) : Env W := by
  obtain ⟨⟨h1, h2⟩, m, hm⟩ := h
  obtain ⟨b1, b2, b3⟩ := hb
  refine ⟨⟨fun c hc => hg.cell (h1 c hc) (by simpa using b1.symm), fun i hi => ⟨hg.cell (h2 i hi).1 (by simpa using b2.symm), hg.cell (h2 i hi).2 (by simpa using b2.symm)⟩⟩, m, hg.cell hm (by simpa using b3.symm)⟩

/-- A block known whole. -/
def Bk (w : World) (g : Nat) (t : TypeId) (cs : Array Value) : Prop := w.heap[g]? = some (.cells cs t (0, 0))
theorem Bk.lt {w : World} {g : Nat} {t : TypeId} {cs : Array Value} (h : Bk w g t cs) : g < w.heap.size := (Array.getElem?_eq_some_iff.1 h).1
theorem Bk.cell {w : World} {g : Nat} {t : TypeId} {cs : Array Value} (h : Bk w g t cs) (i : Nat) : w.cell? ⟨g, i, none⟩ = cs[i]? := by unfold Bk at h; simp [World.cell?, h]
theorem Bk.frozen {w : World} {g : Nat} {t : TypeId} {cs : Array Value} (h : Bk w g t cs) (i : Nat) : w.frozen? ⟨g, i, none⟩ = false := by unfold Bk at h; simp [World.frozen?, h]
theorem Bk.new (w : World) (t : TypeId) (cs : Array Value) : Bk (w.alloc (.cells cs t)) w.heap.size t cs := heap_alloc_new w _
theorem Bk.grown {w w' : World} {g : Nat} {t : TypeId} {cs : Array Value} {r : Option Nat} (h : Bk w g t cs) (hg : w.grownBy w' r) (hne : some g ≠ r) : Bk w' g t cs := (hg.block g h.lt hne).trans h
theorem Bk.below {w w' : World} {g : Nat} {t : TypeId} {cs : Array Value} (h : Bk w g t cs) (hb : Below w.heap.size w w') : Bk w' g t cs := (hb.block g h.lt).trans h
theorem Bk.alloc {w : World} {g : Nat} {t : TypeId} {cs : Array Value} (h : Bk w g t cs) (o : Obj) : Bk (w.alloc o) g t cs := h.grown (World.grownBy_alloc w o none) (by simp)
theorem Bk.drewN {w : World} {g : Nat} {t : TypeId} {cs : Array Value} (h : Bk w g t cs) (n : Nat) : Bk (w.drewN n) g t cs := h
theorem Bk.set {w : World} {g : Nat} {t : TypeId} {cs : Array Value} (h : Bk w g t cs) (i : Nat) (u : Value) : Bk (w.setCell ⟨g, i, none⟩ u) g t (cs.setIfInBounds i u) := by
  unfold Bk at h ⊢
  simp [World.setCell, Array.getElem?_modify, h]
theorem Bk.far {w : World} {g g' i : Nat} {t : TypeId} {cs : Array Value} (h : Bk w g t cs) (hne : g ≠ g') (u : Value) : Bk (w.setCell ⟨g', i, none⟩ u) g t cs := (Below.heap_setCell w _ u g hne).trans h
theorem RdAt.grown {w w' : World} {b : Nat} {s r : List UInt8} {k : Option Nat} (h : RdAt w b s r) (hg : w.grownBy w' k) (hne : some b ≠ k) : RdAt w' b s r := by
  obtain ⟨i, h1, h2, h3⟩ := h
  exact ⟨i, h1, h2, (hg.block b h3.lt hne).trans h3⟩
theorem RdAt.next {w : World} {b : Nat} {s t : List UInt8} {c : UInt8} (h : RdAt w b s (c :: t)) : ∃ i : Nat, i < s.length ∧ w.cell? ⟨b, 1, none⟩ = some (.int .i64 i) ∧ w.frozen? ⟨b, 1, none⟩ = false ∧ RdAt (w.setCell ⟨b, 1, none⟩ (.int .i64 ((i : Int) + 1))) b s t := by
  obtain ⟨i, h1, h2, h3⟩ := h
  have ⟨hlt, hdt⟩ := drop_succ h2
  exact ⟨i, hlt, h3.c1, h3.f1, i + 1, by omega, hdt, h3.set (i + 1)⟩
/-- What was there stays but for b; what is above the floor is free. -/
theorem grown_own {w w1 w2 : World} {b g : Nat} (h : w.grownBy w1 (some b)) (hg : w1.grownBy w2 (some g)) (hge : w.heap.size ≤ g) : w.grownBy w2 (some b) :=
  ⟨hg.os.trans h.os, hg.tape.trans h.tape, hg.output.trans h.output, Nat.le_trans h.size hg.size, fun k hk hne => by
    rw [hg.block k (Nat.lt_of_lt_of_le hk h.size) (by intro e; cases e; omega)]
    exact h.block k hk hne⟩

def blk (r : List UInt8) : List UInt8 := r.dropWhile (· == 32)
/-- A pair: its type and its value. -/
def pairR (r : List UInt8) : Option ((List UInt8 × List UInt8) × List UInt8) :=
  match typR (blk r) with
  | none => none
  | some (t, r2) => if hd (blk r2) 61 then (match valueR (blk (blk r2).tail) with
      | none => none
      | some (v, r5) => some ((t, v), blk r5)) else none
def avaV (x : List UInt8 × List UInt8) : Value := .agg #[.string ⟨x.1.toArray⟩, .string ⟨x.2.toArray⟩]

set_option maxRecDepth 100000 in
set_option maxHeartbeats 1000000 in
theorem pair_c (b : Nat) (s r : List UInt8) (w : World) (hw : Env w) (hO : Off b) (h : RdAt w b s r) (hs : s.length ≤ 65536) :
    Calls Tryz.prog 149 #[.pointer (some ⟨b, 0, none⟩)] w (RdRet w b s ((pairR r).map fun x => (avaV x.1, x.2))) := by
  have hbw := h.lt
  have HR := Lib.hid h
  clear h
  have hz : (zeroValue 85).run Tryz.prog w = .ok (.agg #[.string ⟨#[]⟩, .string ⟨#[]⟩]) w := by kernel_rfl
  go_enter Tryz.func149, Tryz.ntmps149
  go_wp2_with fail
  have e0 : Env ((w.alloc (.cells #[.string ⟨#[]⟩, .string ⟨#[]⟩] 85)).alloc (.cells #[.string ⟨#[]⟩, .string ⟨#[]⟩] 85)) := (hw.keep ((Below.refl _ _).alloc (Nat.le_refl _) _)).keep ((Below.refl _ _).alloc (Nat.le_refl _) _)
  have k0 : Bk ((w.alloc (.cells #[.string ⟨#[]⟩, .string ⟨#[]⟩] 85)).alloc (.cells #[.string ⟨#[]⟩, .string ⟨#[]⟩] 85)) w.heap.size 85 #[.string ⟨#[]⟩, .string ⟨#[]⟩] := (Bk.new w _ _).alloc _
  have k1 : Bk ((w.alloc (.cells #[.string ⟨#[]⟩, .string ⟨#[]⟩] 85)).alloc (.cells #[.string ⟨#[]⟩, .string ⟨#[]⟩] 85)) (w.heap.size + 1) 85 #[.string ⟨#[]⟩, .string ⟨#[]⟩] := by
    have := Bk.new (w.alloc (.cells #[.string ⟨#[]⟩, .string ⟨#[]⟩] 85)) 85 #[.string ⟨#[]⟩, .string ⟨#[]⟩]
    rwa [World.size_alloc] at this
  have g0 : w.grownBy ((w.alloc (.cells #[.string ⟨#[]⟩, .string ⟨#[]⟩] 85)).alloc (.cells #[.string ⟨#[]⟩, .string ⟨#[]⟩] 85)) (some b) := World.grownBy.trans (World.grownBy_alloc _ _ _) (World.grownBy_alloc _ _ _)
  have r0 : RdAt ((w.alloc (.cells #[.string ⟨#[]⟩, .string ⟨#[]⟩] 85)).alloc (.cells #[.string ⟨#[]⟩, .string ⟨#[]⟩] 85)) b s r := (HR.out.below ((Below.refl _ _).alloc (Nat.le_refl _) _)).below ((Below.refl _ _).alloc (Nat.le_refl _) _)
  generalize (w.alloc (.cells #[.string ⟨#[]⟩, .string ⟨#[]⟩] 85)).alloc (.cells #[.string ⟨#[]⟩, .string ⟨#[]⟩] 85) = W0 at *
  have hn0 : some w.heap.size ≠ some b := by simp; omega
  have hn1 : some (w.heap.size + 1) ≠ some b := by simp; omega
  clear hz
  refine (blanks_c b s r W0 r0 (by omega)).mono ?_
  rintro e W1 ⟨rfl, r1, h1⟩
  have e1 := e0.grown hO h1
  have g1 := World.grownBy.trans g0 h1
  have K0 := Lib.hid (k0.grown h1 hn0)
  have K1 := Lib.hid (k1.grown h1 hn1)
  clear e0 g0 k0 k1 r0 h1 HR
  have hT := typ_c b s (blk r) W1 e1 r1 hs (fun W hg => e1.grown hO hg)
  rcases hty : typR (blk r) with _ | ⟨t, r2⟩
  · have hp : pairR r = none := by unfold pairR; rw [hty]
    rw [hty] at hT
    have Hp := Lib.hid hp
    clear hp hty
    go_wp2_with fail
    refine hT.mono ?_
    rintro e W2 ⟨h2, rfl⟩
    refine ⟨rfl, ?_⟩
    rw [Hp.out]
    exact ⟨World.grownBy.trans g1 h2, rfl⟩
  · rw [hty] at hT
    have HTy := Lib.hid hty
    clear hty
    go_wp2_with fail
    refine hT.mono ?_
    rintro e W2 ⟨h2, rfl, r2'⟩
    have e2 := e1.grown hO h2
    have g2 := World.grownBy.trans g1 h2
    have k0 := K0.out.grown h2 hn0
    have k1 := K1.out.grown h2 hn1
    have c10 := k1.cell 0
    have c11 := k1.cell 1
    have f10 := k1.frozen 0
    simp at c10 c11
    clear hT e1 g1 r1 K0 K1 h2
    have K0 := Lib.hid k0
    have K1 := Lib.hid k1
    clear k0 k1
    go_wp2_with fail
    have k0 := K0.out.far (g' := w.heap.size + 1) (i := 0) (by omega) (.string ⟨t.toArray⟩)
    have k1 := K1.out.set 0 (.string ⟨t.toArray⟩)
    have g3 : w.grownBy (W2.setCell ⟨w.heap.size + 1, 0, none⟩ (.string ⟨t.toArray⟩)) (some b) := grown_own g2 (grown_set _) (by omega)
    have hgs : W2.grownBy (W2.setCell ⟨w.heap.size + 1, 0, none⟩ (.string ⟨t.toArray⟩)) (some (w.heap.size + 1)) := grown_set _
    have e3 : Env (W2.setCell ⟨w.heap.size + 1, 0, none⟩ (.string ⟨t.toArray⟩)) := hw.grown hO g3
    have r3 := r2'.grown hgs (Ne.symm hn1)
    generalize W2.setCell ⟨w.heap.size + 1, 0, none⟩ (.string ⟨t.toArray⟩) = W3 at *
    refine (blanks_c b s r2 W3 r3 (by omega)).mono ?_
    rintro e W4 ⟨rfl, r4, h4⟩
    have g4 := World.grownBy.trans g3 h4
    have K0 := Lib.hid (k0.grown h4 hn0)
    have K1 := Lib.hid (k1.grown h4 hn1)
    clear c10 c11 f10 r2' r3 g2 g3 e2 e3 h4 k0 k1 hgs
    have hI := is_at b s (blk r2) 61 W4 r4
    cases h61 : hd (blk r2) 61
    · have hp : pairR r = none := by unfold pairR; rw [HTy.out]; dsimp only; rw [h61]; rfl
      rw [h61] at hI
      have Hp := Lib.hid hp
      clear hp h61
      go_wp2_with fail
      refine hI.mono ?_
      rintro e W5 ⟨rfl, n5, rfl⟩
      go_wp2_with fail
      refine ⟨rfl, ?_⟩
      rw [Hp.out]
      exact ⟨World.grownBy.trans g4 (grown_drewN _ _ _), rfl⟩
    · rw [h61] at hI
      obtain ⟨c, r3, hr3⟩ : ∃ c t, blk r2 = c :: t := by
        cases hb : blk r2 with
        | nil => rw [hb] at h61; cases h61
        | cons c t => exact ⟨c, t, rfl⟩
      have HR3 := Lib.hid hr3
      have H61 := Lib.hid h61
      have r4' : RdAt W4 b s (c :: r3) := by rw [← hr3]; exact r4
      clear hr3 h61 r4
      go_wp2_with fail
      refine hI.mono ?_
      rintro e W5 ⟨rfl, n5, rfl⟩
      obtain ⟨i, hi, c1, f1, r5⟩ := (r4'.drewN n5).next
      have c1' : W4.cell? ⟨b, 1, none⟩ = some (.int .i64 i) := c1
      have f1' : W4.frozen? ⟨b, 1, none⟩ = false := f1
      clear c1 f1
      go_wp2_with fail
      have g5 : w.grownBy ((W4.drewN n5).setCell ⟨b, 1, none⟩ (.int .i64 ((i : Int) + 1))) (some b) := World.grownBy.trans g4 (World.grownBy.trans (grown_drewN _ _ _) (grown_set _))
      have k0 := (K0.out.drewN n5).grown (grown_set (b := b) (o := 1) (.int .i64 ((i : Int) + 1))) hn0
      have k1 := (K1.out.drewN n5).grown (grown_set (b := b) (o := 1) (.int .i64 ((i : Int) + 1))) hn1
      have hEQ : (W4.setCell ⟨b, 1, none⟩ (.int .i64 ((i : Int) + 1))).drewN n5 = (W4.drewN n5).setCell ⟨b, 1, none⟩ (.int .i64 ((i : Int) + 1)) := rfl
      try rw [hEQ]
      clear hEQ
      generalize (W4.drewN n5).setCell ⟨b, 1, none⟩ (.int .i64 ((i : Int) + 1)) = W6 at *
      refine (blanks_c b s r3 W6 r5 (by omega)).mono ?_
      rintro e W7 ⟨rfl, r7, h7⟩
      have g7 := World.grownBy.trans g5 h7
      have K0 := Lib.hid (k0.grown h7 hn0)
      have K1 := Lib.hid (k1.grown h7 hn1)
      clear c1' f1' k0 k1 r5 g4 g5 h7 hI r4'
      have hV := value_c b s (blk r3) W7 r7 hs
      rcases hva : valueR (blk r3) with _ | ⟨v, r8⟩
      · have hp : pairR r = none := by unfold pairR; rw [HTy.out]; dsimp only; rw [H61.out, if_pos rfl, HR3.out]; simp only [List.tail_cons]; rw [hva]
        rw [hva] at hV
        have Hp := Lib.hid hp
        clear hp hva
        go_wp2_with fail
        refine hV.mono ?_
        rintro e W8 ⟨h8, rfl⟩
        refine ⟨rfl, ?_⟩
        rw [Hp.out]
        exact ⟨World.grownBy.trans g7 h8, rfl⟩
      · have hp : pairR r = some ((t, v), blk r8) := by unfold pairR; rw [HTy.out]; dsimp only; rw [H61.out, if_pos rfl, HR3.out]; simp only [List.tail_cons]; rw [hva]
        rw [hva] at hV
        have Hp := Lib.hid hp
        clear hp hva
        go_wp2_with fail
        refine hV.mono ?_
        rintro e W8 ⟨h8, rfl, r8'⟩
        have g8 := World.grownBy.trans g7 h8
        have k0 := K0.out.grown h8 hn0
        have k1 := K1.out.grown h8 hn1
        have c10 := k1.cell 0
        have c11 := k1.cell 1
        have f11 := k1.frozen 1
        simp at c10 c11
        have K0 := Lib.hid k0
        have K1 := Lib.hid k1
        clear hV g7 r7 h8 k0 k1
        go_wp2_with fail
        have k0 := K0.out.far (g' := w.heap.size + 1) (i := 1) (by omega) (.string ⟨v.toArray⟩)
        have k1 := K1.out.set 1 (.string ⟨v.toArray⟩)
        have g9 : w.grownBy (W8.setCell ⟨w.heap.size + 1, 1, none⟩ (.string ⟨v.toArray⟩)) (some b) := grown_own g8 (grown_set _) (by omega)
        have hgs : W8.grownBy (W8.setCell ⟨w.heap.size + 1, 1, none⟩ (.string ⟨v.toArray⟩)) (some (w.heap.size + 1)) := grown_set _
        have r9 := r8'.grown hgs (Ne.symm hn1)
        generalize W8.setCell ⟨w.heap.size + 1, 1, none⟩ (.string ⟨v.toArray⟩) = W9 at *
        refine (blanks_c b s r8 W9 r9 (by omega)).mono ?_
        rintro e W10 ⟨rfl, r10, h10⟩
        have g10 := World.grownBy.trans g9 h10
        have k0 := k0.grown h10 hn0
        have k1 := k1.grown h10 hn1
        clear c10 c11 f11 hgs
        have c10 := k1.cell 0
        have c11 := k1.cell 1
        have c00 := k0.cell 0
        have c01 := k0.cell 1
        have f00 := k0.frozen 0
        have f01 := k0.frozen 1
        simp at c10 c11 c00 c01
        have K0 := Lib.hid k0
        clear k0 k1 g8 g9 r8' r9 h10
        go_wp2_with fail
        have hs1 : W10.grownBy (W10.setCell ⟨w.heap.size, 0, none⟩ (.string ⟨t.toArray⟩)) (some w.heap.size) := grown_set _
        have hs2 : (W10.setCell ⟨w.heap.size, 0, none⟩ (.string ⟨t.toArray⟩)).grownBy ((W10.setCell ⟨w.heap.size, 0, none⟩ (.string ⟨t.toArray⟩)).setCell ⟨w.heap.size, 1, none⟩ (.string ⟨v.toArray⟩)) (some w.heap.size) := grown_set _
        have kf := (K0.out.set 0 (.string ⟨t.toArray⟩)).set 1 (.string ⟨v.toArray⟩)
        have cf0 := kf.cell 0
        have cf1 := kf.cell 1
        simp at cf0 cf1
        refine bodyPost_ret (v := .agg #[.string ⟨t.toArray⟩, .string ⟨v.toArray⟩]) (by simp [results, Tryz.results149, go_sem, cf0, cf1]) rfl ?_
        rw [Hp.out]
        exact ⟨grown_own (grown_own g10 hs1 (Nat.le_refl _)) hs2 (Nat.le_refl _), rfl, (r10.grown hs1 (Ne.symm hn0)).grown hs2 (Ne.symm hn0)⟩
end Go.Proofs.YtgpecklibcgifaaGreatDoor
/- Contracts: the reader of names: part. -/
namespace Go.Proofs.YtgpecklibcgifaaGreatDoor
open Go.RowKit

def avaCells (x : List UInt8 × List UInt8) : List Value := [.string ⟨x.1.toArray⟩, .string ⟨x.2.toArray⟩]
/-- A list of pairs in a block of the call's own, from B on. -/
def Avas (B : Nat) (w : World) (v : Value) (l : List (List UInt8 × List UInt8)) : Prop := w.ownsRow B 85 2 v l.length (l.flatMap avaCells) ∧ B ≤ w.heap.size
theorem Avas.lt {B : Nat} {w : World} {v : Value} {l : List (List UInt8 × List UInt8)} (h : Avas B w v l) : ∀ k, v.ownBlock = some k → B ≤ k ∧ k < w.heap.size := fun k hk => h.1.lt k hk
theorem Avas.keep {B : Nat} {w w' : World} {v : Value} {l : List (List UInt8 × List UInt8)} (h : Avas B w v l) {r : Option Nat} (hg : w.grownBy w' r) (hr : ∀ k, r = some k → k < B) : Avas B w' v l := by
  refine ⟨h.1.kept hg ?_, Nat.le_trans h.2 hg.size⟩
  rcases hv : v.ownBlock with _ | g
  · exact .inl rfl
  · refine .inr ?_
    intro he
    have h1 := hr g he.symm
    have h2 := (h.lt g hv).1
    omega
theorem Avas.made1 {B : Nat} {w : World} (x : List UInt8 × List UInt8) (hB : B ≤ w.heap.size) : Avas B (w.alloc (.cells #[.string ⟨x.1.toArray⟩, .string ⟨x.2.toArray⟩] 85)) (.slice (some ⟨w.heap.size, 0, none⟩) 1 1) [x] := by
  refine ⟨⟨by simp [avaCells], .inr ⟨w.heap.size, 1, #[.string ⟨x.1.toArray⟩, .string ⟨x.2.toArray⟩], rfl, hB, heap_alloc_new w _, Nat.le_refl _, by decide, rfl, by simp [avaCells]⟩⟩, by simp; omega⟩
theorem infoAva : ∃ i, Tryz.prog.info? 85 = some i ∧ i.zero = some (.agg #[.string ⟨#[]⟩, .string ⟨#[]⟩]) ∧ i.size = 2 ∧ i.bytes = 32 := by
  obtain ⟨i, h1, h2, h3, h4⟩ := info_parts (show (Tryz.prog.info? 85).map (fun i => (i.zero, i.size, i.bytes)) = some (some (.agg #[.string ⟨#[]⟩, .string ⟨#[]⟩]), 2, 32) by kernel_rfl)
  exact ⟨i, h1, h2, h3, h4⟩
theorem avas_one {ops : Array Oper} {rest : List Oper} {o : Oper} {a : Act} {Q : Exit → Act → World → Prop} (hgd : o.guard = none) (s x : Operand) (ho : o.op = .call { callee := .builtin .append, args := #[s, x], argTypes := #[83, 83] })
    {v : Value} {l : List (List UInt8 × List UInt8)} {B N : Nat} {w0 : World} {t u : List UInt8} (hs : a.eval s = v) (hb : Avas B w0 v l)
    (hx : a.eval x = .slice (some ⟨N, 0, none⟩) 1 1) (hN : N = w0.heap.size) (hlen : l.length < 1000000)
    (h : ∀ v' w', Avas B w' v' (l ++ [(t, u)]) → w0.grownBy w' v.ownBlock → wpList Tryz.prog ops Q rest (a.put o.dst v') w') : wpList Tryz.prog ops Q (o :: rest) a (w0.alloc (.cells #[.string ⟨t.toArray⟩, .string ⟨u.toArray⟩] 85)) := by
  subst hN
  obtain ⟨i, h1, h2, h3, h4⟩ := infoAva
  have hb' := hb.keep (World.grownBy_alloc w0 (.cells #[.string ⟨t.toArray⟩, .string ⟨u.toArray⟩] 85) none) (fun k hk => by cases hk)
  refine wpList_append_own _ hgd s x 83 ho B 85 i (.agg #[.string ⟨#[]⟩, .string ⟨#[]⟩]) 2 32 Tryz.underlying83 h1 h2 h3 h4 rfl (by decide) v _ _ hs hb'.1 ⟨w0.heap.size, 0, none⟩ 1 1 (avaCells (t, u)) hx rfl ?_ ?_ (by unfold maxLen; omega) (by omega) hb'.2 ?_
  · intro j y hj
    match j, hj with
    | 0, hj => simp [avaCells] at hj; subst hj; simp [Addr.add]
    | 1, hj => simp [avaCells] at hj; subst hj; simp [Addr.add]
    | (j + 2), hj => simp [avaCells] at hj
  · intro y hy; simp [avaCells] at hy; rcases hy with rfl | rfl <;> rfl
  · intro v' w' ho' hg _
    refine h v' w' ⟨?_, Nat.le_trans hb'.2 hg.size⟩ (World.grownBy.trans (World.grownBy_alloc _ _ _) hg)
    simpa using ho'
theorem Avas.rd {w0 w w' : World} {v : Value} {l : List (List UInt8 × List UInt8)} {s r : List UInt8} {b : Nat} (h : Avas w0.heap.size w v l) (hg : w.grownBy w' v.ownBlock) (hb : b < w0.heap.size) (hR : RdAt w b s r) : RdAt w' b s r :=
  hR.grown hg (fun e => by have := (h.lt b e.symm).1; omega)
theorem Avas.grown {w0 w w' : World} {v : Value} {l : List (List UInt8 × List UInt8)} {r : Option Nat} (h : Avas w0.heap.size w v l) (hg0 : w0.grownBy w r) (hg : w.grownBy w' v.ownBlock) : w0.grownBy w' r :=
  ⟨hg.os.trans hg0.os, hg.tape.trans hg0.tape, hg.output.trans hg0.output, Nat.le_trans hg0.size hg.size, fun k hk hne => by
    rw [hg.block k (Nat.lt_of_lt_of_le hk hg0.size)]
    · exact hg0.block k hk hne
    · intro e
      have := (h.lt k e.symm).1
      omega⟩

def partL : Nat → List UInt8 → List (List UInt8 × List UInt8) → Option (List (List UInt8 × List UInt8) × List UInt8)
  | 0, r, acc => if hd r 43 then none else some (acc, r)
  | n + 1, r, acc => if hd r 43 then (match pairR r.tail with
    | none => none
    | some (x, r') => partL n r' (acc ++ [x])) else some (acc, r)
/-- A part: its pairs. -/
def partR (r : List UInt8) : Option (List (List UInt8 × List UInt8) × List UInt8) := match pairR r with
  | none => none
  | some (x, r') => partL r'.length r' [x]
theorem dropWhile_le (p : UInt8 → Bool) (l : List UInt8) : (l.dropWhile p).length ≤ l.length := (List.dropWhile_sublist p).length_le
theorem hexR_len {r r' v : List UInt8} (h : hexR r = some (v, r')) : r'.length ≤ r.length := by
  unfold hexR at h
  split at h
  · cases h
  · split at h
    · cases h
    · cases h; exact dropWhile_le _ _
theorem valL_len : ∀ (n : Nat) (r acc : List UInt8) (long : Nat) (v r' : List UInt8), valL n r acc long = some (v, r') → r'.length ≤ r.length
  | _, [], _, _, v, r', h => by simp [valL] at h; simp [h.2]
  | 0, _ :: _, _, _, v, r', h => by simp [valL] at h
  | n + 1, c :: t, acc, long, v, r', h => by
    rw [valL] at h
    split at h
    · cases h; exact Nat.le_refl _
    · split at h
      · split at h
        · cases h
        · next x t' he =>
          have := escR_len he
          have := valL_len n t' _ _ v r' h
          simp; omega
      · split at h
        · cases h
        · have := valL_len n t _ _ v r' h
          simp; omega
theorem valueR_len {r r' v : List UInt8} (h : valueR r = some (v, r')) : r'.length ≤ r.length := by
  unfold valueR at h
  split at h
  · have := hexR_len h
    simp at this; omega
  · exact valL_len _ _ _ _ _ _ h
theorem pairR_len {r r' : List UInt8} {x : List UInt8 × List UInt8} (h : pairR r = some (x, r')) : r'.length < r.length := by
  unfold pairR at h
  split at h
  · cases h
  · next t r2 ht =>
    split at h
    · next h61 =>
      split at h
      · cases h
      · next v r5 hv =>
        cases h
        have h1 := dropWhile_le (· == 32) r5
        have h2 := valueR_len hv
        have h3 := dropWhile_le (· == 32) (blk r2).tail
        have h4 : (blk r2).tail.length < (blk r2).length := by
          cases hb : blk r2 with
          | nil => rw [hb] at h61; cases h61
          | cons c t => simp
        have h5 := dropWhile_le (· == 32) r2
        have h6 : r2.length ≤ (blk r).length := by
          unfold typR at ht
          split at ht
          · cases ht; exact dropWhile_le _ _
          · cases ht
        have h7 := dropWhile_le (· == 32) r
        unfold blk at *
        omega
    · cases h
theorem partL_fuel : ∀ (n m : Nat) (r : List UInt8) (acc : List (List UInt8 × List UInt8)), r.length ≤ n → r.length ≤ m → partL n r acc = partL m r acc
  | 0, m, r, acc, h, _ => by
    obtain rfl : r = [] := List.eq_nil_of_length_eq_zero (by omega)
    cases m <;> rfl
  | n + 1, 0, r, acc, _, h => by
    obtain rfl : r = [] := List.eq_nil_of_length_eq_zero (by omega)
    rfl
  | n + 1, m + 1, r, acc, h1, h2 => by
    rw [partL, partL]
    split
    · cases hp : pairR r.tail with
      | none => rfl
      | some y =>
        obtain ⟨x, r'⟩ := y
        have h3 := pairR_len hp
        have h4 : r.tail.length ≤ r.length := by simp
        exact partL_fuel n m r' _ (by omega) (by omega)
    · rfl
end Go.Proofs.YtgpecklibcgifaaGreatDoor
/- Contracts: the reader of names: part. -/
namespace Go.Proofs.YtgpecklibcgifaaGreatDoor
open Go.RowKit

def PartRet (w : World) (b : Nat) (s : List UInt8) (o : Option (List (List UInt8 × List UInt8) × List UInt8)) (e : Ending) (w' : World) : Prop :=
  w.grownBy w' (some b) ∧ match o with
    | none => e = .panicked dnPanic
    | some (l, r) => ∃ v, e = .returned v ∧ Avas w.heap.size w' v l ∧ RdAt w' b s r

set_option maxRecDepth 100000 in
set_option maxHeartbeats 1000000 in
theorem part_c (b : Nat) (s r : List UInt8) (w : World) (hw : Env w) (hO : Off b) (h : RdAt w b s r) (hs : s.length ≤ 65536) :
    Calls Tryz.prog 110 #[.pointer (some ⟨b, 0, none⟩)] w (PartRet w b s (partR r)) := by
  have hbw := h.lt
  have hP := pair_c b s r w hw hO h hs
  have hrl : r.length ≤ s.length := by obtain ⟨i, _, hd', _⟩ := h; rw [← hd']; simp
  rcases hp : pairR r with _ | ⟨⟨t, u⟩, r1⟩
  · have hq : partR r = none := by unfold partR; rw [hp]
    rw [hp] at hP
    have Hq := Lib.hid hq
    clear hq hp h
    go_enter Tryz.func110, Tryz.ntmps110
    go_wp2_with (go_at_call 149; refine hP.mono ?_; rintro e w1 ⟨h1, rfl⟩)
    refine ⟨rfl, ?_⟩
    rw [Hq.out]
    exact ⟨h1, rfl⟩
  · have hq : partR r = partL r1.length r1 [(t, u)] := by unfold partR; rw [hp]
    have hr1 := pairR_len hp
    rw [hp] at hP
    generalize hV : partR r = V
    rw [hq] at hV
    have HV := Lib.hid hV
    simp only [Option.map_some, avaV] at hP
    clear hq hp h hV
    go_enter Tryz.func110, Tryz.ntmps110
    go_wp2_with (go_at_call 149; refine hP.mono ?_; rintro e w1 ⟨h1, rfl, r1'⟩)
    have hsz := h1.size
    clear hP
    go_loopg [3] r1.length (fun gk v wr => ∃ (r' : List UInt8) (acc : List (List UInt8 × List UInt8)), r'.length ≤ gk ∧ acc.length + r'.length ≤ s.length + 1 ∧ RdAt wr b s r' ∧ Avas w.heap.size wr v acc ∧ Aside (partL r'.length r' acc = V) ∧ w.grownBy wr (some b))
    case atStart =>
      exact ⟨r1, [(t, u)], Nat.le_refl _, by simp; omega, r1'.below ((Below.refl _ _).alloc (Nat.le_refl _) _), Avas.made1 (t, u) hsz, HV.out, World.grownBy.trans h1 (World.grownBy_alloc _ _ _)⟩
    case round =>
      obtain ⟨r', acc, hlen, hal, hR, hA, AV, hg⟩ := hrel
      have hI := is_at b s r' 43 wr hR
      cases h43 : hd r' 43
      · rw [h43] at hI
        have hfin : some (acc, r') = V := by
          have := AV.out
          cases hn : r'.length with
          | zero => rw [hn, partL, h43] at this; exact this
          | succ n => rw [hn, partL, h43] at this; exact this
        have Hf := Lib.hid hfin
        clear hfin AV h43
        go_wp2_with (go_at_call 111; refine hI.mono ?_; rintro e w2 ⟨rfl, n2, rfl⟩)
        go_ret
        rw [← Hf.out]
        exact ⟨World.grownBy.trans hg (grown_drewN _ _ _), _, rfl, hA, hR⟩
      · rw [h43] at hI
        obtain ⟨c, t', rfl⟩ : ∃ c t', r' = c :: t' := by
          cases r' with
          | nil => cases h43
          | cons c t' => exact ⟨c, t', rfl⟩
        simp only [List.length_cons] at hlen hal
        have hAV : partL (t'.length + 1) (c :: t') acc = V := AV.out
        rw [partL, h43, if_pos rfl] at hAV
        simp only [List.tail_cons] at hAV
        obtain ⟨i, hi, c1, f1, hnx⟩ := hR.next
        have HAV := Lib.hid hAV
        clear AV h43 hR hAV
        go_wp2_with (go_at_call 111; refine hI.mono ?_; rintro e w2 ⟨rfl, n2, rfl⟩)
        have g2 : w.grownBy ((wr.drewN n2).setCell ⟨b, 1, none⟩ (.int .i64 ((i : Int) + 1))) (some b) := World.grownBy.trans hg (World.grownBy.trans (grown_drewN _ _ _) (grown_set _))
        have a2 : Avas w.heap.size ((wr.drewN n2).setCell ⟨b, 1, none⟩ (.int .i64 ((i : Int) + 1))) u3 acc := hA.keep (World.grownBy.trans (grown_drewN _ n2 _) (grown_set (b := b) _)) (fun k hk => by cases hk; exact hbw)
        have r2 : RdAt ((wr.drewN n2).setCell ⟨b, 1, none⟩ (.int .i64 ((i : Int) + 1))) b s t' := hnx
        have hEQ : (wr.setCell ⟨b, 1, none⟩ (.int .i64 ((i : Int) + 1))).drewN n2 = (wr.drewN n2).setCell ⟨b, 1, none⟩ (.int .i64 ((i : Int) + 1)) := rfl
        try rw [hEQ]
        clear hEQ hnx
        generalize (wr.drewN n2).setCell ⟨b, 1, none⟩ (.int .i64 ((i : Int) + 1)) = W2 at *
        have hP := pair_c b s t' W2 (hw.grown hO g2) hO r2 hs
        rcases hp : pairR t' with _ | ⟨⟨x, y⟩, r3⟩
        · rw [hp] at hP
          have hf : none = V := by have := HAV.out; rw [hp] at this; exact this
          have Hf := Lib.hid hf
          clear hf hp
          refine hP.mono ?_
          rintro e w3 ⟨h3, rfl⟩
          refine ⟨rfl, ?_⟩
          rw [← Hf.out]
          exact ⟨World.grownBy.trans g2 h3, rfl⟩
        · have hr3 := pairR_len hp
          rw [hp] at hP
          have hf : partL r3.length r3 (acc ++ [(x, y)]) = V := by
            have := HAV.out
            rw [hp] at this
            dsimp only at this
            rw [← this]
            exact partL_fuel _ _ _ _ (Nat.le_refl _) (by omega)
          have Hf := Lib.hid hf
          simp only [Option.map_some, avaV] at hP
          clear hf hp
          refine hP.mono ?_
          rintro e w3 ⟨h3, rfl, r3'⟩
          have a3 := a2.keep h3 (fun k hk => by cases hk; exact hbw)
          have g3 := World.grownBy.trans g2 h3
          clear hP c1 f1 a2 g2 r2 h3
          go_wp2_with (at_builtin; refine avas_one rfl _ _ rfl rfl a3 rfl rfl (by omega) ?_; intro v' w4 a4 h4)
          go_roundg r3.length
          case measure => omega
          case rel => exact ⟨r3, _, Nat.le_refl _, by simp; omega, a3.rd h4 hbw r3', a4, Hf.out, a3.grown g3 h4⟩
end Go.Proofs.YtgpecklibcgifaaGreatDoor
/- Contracts: the reader of names: name. -/
namespace Go.Proofs.YtgpecklibcgifaaGreatDoor
open Go.RowKit

/-- Values that are the parts of a name, each in a block of its own. -/
inductive PartsAre (B : Nat) (w : World) : List Value → List (List (List UInt8 × List UInt8)) → Prop
  | nil : PartsAre B w [] []
  | cons {v : Value} {p : List (List UInt8 × List UInt8)} {vs : List Value} {d : List (List (List UInt8 × List UInt8))} (h : Avas B w v p) (t : PartsAre B w vs d) : PartsAre B w (v :: vs) (p :: d)
theorem PartsAre.len {B : Nat} {w : World} {vs : List Value} {d : List (List (List UInt8 × List UInt8))} (h : PartsAre B w vs d) : vs.length = d.length := by
  induction h with
  | nil => rfl
  | cons _ _ ih => simp [ih]
theorem PartsAre.snoc {B : Nat} {w : World} {vs : List Value} {d : List (List (List UInt8 × List UInt8))} {v : Value} {p : List (List UInt8 × List UInt8)} (h : PartsAre B w vs d) (hv : Avas B w v p) : PartsAre B w (vs ++ [v]) (d ++ [p]) := by
  induction h with
  | nil => exact .cons hv .nil
  | cons h _ ih => exact .cons h ih
theorem PartsAre.imp {B B' : Nat} {w w' : World} {vs : List Value} {d : List (List (List UInt8 × List UInt8))} (h : PartsAre B w vs d) (hi : ∀ v p, v ∈ vs → Avas B w v p → Avas B' w' v p) : PartsAre B' w' vs d := by
  induction h with
  | nil => exact .nil
  | cons h _ ih => exact .cons (hi _ _ (by simp) h) (ih fun v p hv => hi v p (by simp [hv]))
theorem PartsAre.get {B : Nat} {w : World} {vs : List Value} {d : List (List (List UInt8 × List UInt8))} (h : PartsAre B w vs d) : ∀ (i : Nat) (p : List (List UInt8 × List UInt8)), d[i]? = some p → ∃ v, vs[i]? = some v ∧ Avas B w v p := by
  induction h with
  | nil => intro i p hp; simp at hp
  | cons h _ ih =>
    intro i p hp
    cases i with
    | zero => simp at hp; subst hp; exact ⟨_, rfl, h⟩
    | succ i => exact ih i p hp
theorem Avas.lower {B B' : Nat} {w : World} {v : Value} {l : List (List UInt8 × List UInt8)} (h : Avas B w v l) (hB : B' ≤ B) : Avas B' w v l := by
  obtain ⟨⟨h1, h2⟩, h3⟩ := h
  refine ⟨⟨h1, h2.imp id ?_⟩, by omega⟩
  rintro ⟨g, cap, cur, r1, r2, r3⟩
  exact ⟨g, cap, cur, r1, by omega, r3⟩
theorem Avas.isSlice {B : Nat} {w : World} {v : Value} {l : List (List UInt8 × List UInt8)} (h : Avas B w v l) : ∃ A c, v = .slice A l.length c ∧ l.length ≤ c := by
  obtain ⟨⟨h1, h2⟩, h3⟩ := h
  rcases h2 with ⟨rfl, hn⟩ | ⟨g, cap, cur, rfl, r2, r3, r4, _⟩
  · exact ⟨none, 0, by rw [hn], by omega⟩
  · exact ⟨_, cap, rfl, r4⟩
theorem PartsAre.mem {B : Nat} {w : World} {vs : List Value} {d : List (List (List UInt8 × List UInt8))} (h : PartsAre B w vs d) {u : Value} (hu : u ∈ vs) : ∃ q, Avas B w u q := by
  induction h with
  | nil => simp at hu
  | cons hA _ ih =>
    rcases List.mem_cons.1 hu with rfl | hu
    · exact ⟨_, hA⟩
    · exact ih hu
/-- A name in blocks of the call's own, from B on: the list of its parts, and its parts. -/
def DnV (B : Nat) (w : World) (v : Value) (d : List (List (List UInt8 × List UInt8))) (vs : List Value) : Prop :=
  w.ownsRow B 83 1 v d.length vs ∧ B ≤ w.heap.size ∧ PartsAre B w vs d ∧ vs.Pairwise (fun a b => a.ownBlock = none ∨ a.ownBlock ≠ b.ownBlock)
def DnAt (B : Nat) (w : World) (v : Value) (d : List (List (List UInt8 × List UInt8))) : Prop := ∃ vs, DnV B w v d vs
theorem infoRdn : ∃ i, Tryz.prog.info? 83 = some i ∧ i.zero = some (.slice none 0 0) ∧ i.size = 1 ∧ i.bytes = 24 := by
  obtain ⟨i, h1, h2, h3, h4⟩ := info_parts (show (Tryz.prog.info? 83).map (fun i => (i.zero, i.size, i.bytes)) = some (some (.slice none 0 0), 1, 24) by kernel_rfl)
  exact ⟨i, h1, h2, h3, h4⟩
theorem row_ne_avas {B : Nat} {w : World} {v u : Value} {n : Nat} {xs : List Value} {p : List (List UInt8 × List UInt8)} (h : w.ownsRow B 83 1 v n xs) (hu : Avas B w u p) : u.ownBlock = none ∨ u.ownBlock ≠ v.ownBlock := by
  rcases h.2 with ⟨rfl, _⟩ | ⟨g, cap, cur, rfl, _, hg, _⟩
  · rcases hu.1.2 with ⟨rfl, _⟩ | ⟨g', cap', cur', rfl, _, hg', _⟩
    · exact .inl rfl
    · exact .inr (by simp [Value.ownBlock])
  · rcases hu.1.2 with ⟨rfl, _⟩ | ⟨g', cap', cur', rfl, _, hg', _⟩
    · exact .inl rfl
    · refine .inr ?_
      intro e
      have : g' = g := by simpa [Value.ownBlock] using e
      subst this
      rw [hg] at hg'
      injection hg' with hg'
      injection hg' with _ ht
      exact absurd ht (by decide)
theorem avas_grown {B : Nat} {w w' : World} {u : Value} {p : List (List UInt8 × List UInt8)} {r : Option Nat} (hu : Avas B w u p) (hg : w.grownBy w' r) (hne : u.ownBlock = none ∨ u.ownBlock ≠ r) : Avas B w' u p :=
  ⟨hu.1.kept hg hne, Nat.le_trans hu.2 hg.size⟩
theorem DnV.lt {B : Nat} {w : World} {v : Value} {d : List (List (List UInt8 × List UInt8))} {vs : List Value} (h : DnV B w v d vs) : ∀ u ∈ vs, ∀ k, u.ownBlock = some k → k < w.heap.size := by
  intro u hu k hk
  obtain ⟨q, hq⟩ := h.2.2.1.mem hu
  exact (hq.lt k hk).2
theorem DnV.own {B : Nat} {w : World} {v : Value} {d : List (List (List UInt8 × List UInt8))} {vs : List Value} (h : DnV B w v d vs) : ∀ k, v.ownBlock = some k → B ≤ k ∧ k < w.heap.size := fun k hk => h.1.lt k hk
theorem DnV.keep {B : Nat} {w w' : World} {v : Value} {d : List (List (List UInt8 × List UInt8))} {vs : List Value} (h : DnV B w v d vs) {r : Option Nat} (hg : w.grownBy w' r) (hr : ∀ k, r = some k → k < B) : DnV B w' v d vs := by
  obtain ⟨h1, h2, h3, h4⟩ := h
  refine ⟨h1.kept hg ?_, Nat.le_trans h2 hg.size, h3.imp fun u q _ hu => hu.keep hg hr, h4⟩
  rcases hv : v.ownBlock with _ | g
  · exact .inl rfl
  · refine .inr ?_
    intro he
    have := hr g he.symm
    have := (h1.lt g hv).1
    omega
/-- The list of parts grows by a part whose block is new. -/
theorem dn_one {ops : Array Oper} {rest : List Oper} {o : Oper} {a : Act} {Q : Exit → Act → World → Prop} (hgd : o.guard = none) (s x : Operand) (ho : o.op = .call { callee := .builtin .append, args := #[s, x], argTypes := #[56, 56] })
    {v pv : Value} {d : List (List (List UInt8 × List UInt8))} {vs : List Value} {p : List (List UInt8 × List UInt8)} {B B' N : Nat} {w0 : World} (hs : a.eval s = v) (hd : DnV B w0 v d vs) (hp : Avas B' w0 pv p) (hB' : B ≤ B')
    (hold : ∀ u ∈ vs, ∀ k, u.ownBlock = some k → k < B')
    (hx : a.eval x = .slice (some ⟨N, 0, none⟩) 1 1) (hN : N = w0.heap.size) (hlen : d.length < 1000000)
    (h : ∀ v' w', DnV B w' v' (d ++ [p]) (vs ++ [pv]) → w0.grownBy w' v.ownBlock → wpList Tryz.prog ops Q rest (a.put o.dst v') w') : wpList Tryz.prog ops Q (o :: rest) a (w0.alloc (.cells #[pv] 83)) := by
  subst hN
  obtain ⟨i, h1, h2, h3, h4⟩ := infoRdn
  obtain ⟨d1, d2, d3, d4⟩ := hd
  have d1' := d1.alloc (.cells #[pv] 83)
  refine wpList_append_own _ hgd s x 56 ho B 83 i (.slice none 0 0) 1 24 Tryz.underlying56 h1 h2 h3 h4 rfl (by decide) v _ _ hs d1' ⟨w0.heap.size, 0, none⟩ 1 1 [pv] hx rfl ?_ ?_ (by unfold maxLen; omega) (by omega) (by simp; omega) ?_
  · intro j y hj
    match j, hj with
    | 0, hj => simp at hj; subst hj; simp [Addr.add]
    | (j + 1), hj => simp at hj
  · intro y hy
    simp at hy
    subst hy
    obtain ⟨A, c, rfl, _⟩ := hp.isSlice
    rfl
  · intro v' w' ho' hg _
    have hg' : w0.grownBy w' v.ownBlock := World.grownBy.trans (World.grownBy_alloc _ _ _) hg
    refine h v' w' ⟨by simpa using ho', Nat.le_trans d2 hg'.size, ?_, ?_⟩ hg'
    · refine PartsAre.snoc (d3.imp fun u q _ hu => avas_grown hu hg' (row_ne_avas d1 hu)) ?_
      exact avas_grown (hp.lower hB') hg' (row_ne_avas d1 (hp.lower hB'))
    · rw [List.pairwise_append]
      refine ⟨d4, by simp, ?_⟩
      intro u hu y hy
      simp at hy
      subst hy
      rcases hub : u.ownBlock with _ | k
      · exact .inl rfl
      · refine .inr ?_
        intro e
        have h5 := hold u hu k hub
        have h6 := (hp.lt k e.symm).1
        omega
theorem DnV.made1 {B B' : Nat} {w : World} {pv : Value} {p : List (List UInt8 × List UInt8)} (hp : Avas B' w pv p) (hB' : B ≤ B') : DnV B (w.alloc (.cells #[pv] 83)) (.slice (some ⟨w.heap.size, 0, none⟩) 1 1) [p] [pv] := by
  have hle := hp.2
  refine ⟨⟨rfl, .inr ⟨w.heap.size, 1, #[pv], rfl, by omega, heap_alloc_new w _, Nat.le_refl _, by decide, rfl, rfl⟩⟩, by simp; omega, .cons ?_ .nil, by simp⟩
  exact (avas_grown hp (World.grownBy_alloc w _ none) (by rcases pv.ownBlock with _ | g; exact .inl rfl; exact .inr (by simp))).lower hB'
theorem DnV.rd {w0 w w' : World} {v : Value} {d : List (List (List UInt8 × List UInt8))} {vs : List Value} {s r : List UInt8} {b : Nat} (h : DnV w0.heap.size w v d vs) (hg : w.grownBy w' v.ownBlock) (hb : b < w0.heap.size) (hR : RdAt w b s r) : RdAt w' b s r :=
  hR.grown hg (fun e => by have := (h.own b e.symm).1; omega)
theorem DnV.grown {w0 w w' : World} {v : Value} {d : List (List (List UInt8 × List UInt8))} {vs : List Value} {r : Option Nat} (h : DnV w0.heap.size w v d vs) (hg0 : w0.grownBy w r) (hg : w.grownBy w' v.ownBlock) : w0.grownBy w' r :=
  ⟨hg.os.trans hg0.os, hg.tape.trans hg0.tape, hg.output.trans hg0.output, Nat.le_trans hg0.size hg.size, fun k hk hne => by
    rw [hg.block k (Nat.lt_of_lt_of_le hk hg0.size)]
    · exact hg0.block k hk hne
    · intro e
      have := (h.own k e.symm).1
      omega⟩

def nameL : Nat → List UInt8 → List (List (List UInt8 × List UInt8)) → Option (List (List (List UInt8 × List UInt8)) × List UInt8)
  | 0, r, acc => if hd r 44 then none else some (acc, r)
  | n + 1, r, acc => if hd r 44 then (match partR r.tail with
    | none => none
    | some (x, r') => nameL n r' (acc ++ [x])) else some (acc, r)
def nameFin : Option (List (List (List UInt8 × List UInt8)) × List UInt8) → Option (List (List (List UInt8 × List UInt8)))
  | none => none
  | some (d, r') => if r' = [] then some d else none
def nameGo : Option (List (List UInt8 × List UInt8) × List UInt8) → Option (List (List (List UInt8 × List UInt8)))
  | none => none
  | some (p, r) => nameFin (nameL r.length r [p])
/-- A name's text. -/
def nameR (s : List UInt8) : Option (List (List (List UInt8 × List UInt8))) := if s = [] then some [] else nameGo (partR s)
theorem partL_len : ∀ (n : Nat) (r r' : List UInt8) (acc l : List (List UInt8 × List UInt8)), partL n r acc = some (l, r') → r'.length ≤ r.length
  | 0, r, r', acc, l, h => by
    rw [partL] at h
    split at h
    · cases h
    · cases h; exact Nat.le_refl _
  | n + 1, r, r', acc, l, h => by
    rw [partL] at h
    split at h
    · split at h
      · cases h
      · next x r2 hp =>
        have h1 := pairR_len hp
        have h2 := partL_len n r2 r' _ l h
        have h3 : r.tail.length ≤ r.length := by simp
        omega
    · cases h; exact Nat.le_refl _
theorem partR_len {r r' : List UInt8} {l : List (List UInt8 × List UInt8)} (h : partR r = some (l, r')) : r'.length < r.length := by
  unfold partR at h
  split at h
  · cases h
  · next x r2 hp =>
    have h1 := pairR_len hp
    have h2 := partL_len _ _ _ _ _ h
    omega
theorem nameL_fuel : ∀ (n m : Nat) (r : List UInt8) (acc : List (List (List UInt8 × List UInt8))), r.length ≤ n → r.length ≤ m → nameL n r acc = nameL m r acc
  | 0, m, r, acc, h, _ => by
    obtain rfl : r = [] := List.eq_nil_of_length_eq_zero (by omega)
    cases m <;> rfl
  | n + 1, 0, r, acc, _, h => by
    obtain rfl : r = [] := List.eq_nil_of_length_eq_zero (by omega)
    rfl
  | n + 1, m + 1, r, acc, h1, h2 => by
    rw [nameL, nameL]
    split
    · cases hp : partR r.tail with
      | none => rfl
      | some y =>
        obtain ⟨x, r'⟩ := y
        have h3 := partR_len hp
        have h4 : r.tail.length ≤ r.length := by simp
        exact nameL_fuel n m r' _ (by omega) (by omega)
    · rfl
end Go.Proofs.YtgpecklibcgifaaGreatDoor
/- Contracts: the reader of names: name. -/
namespace Go.Proofs.YtgpecklibcgifaaGreatDoor
open Go.RowKit

def NameRet (w : World) (b : Nat) (o : Option (List (List (List UInt8 × List UInt8)))) (e : Ending) (w' : World) : Prop :=
  w.grownBy w' (some b) ∧ match o with
    | none => e = .panicked dnPanic
    | some d => ∃ v, e = .returned v ∧ DnAt w.heap.size w' v d

set_option maxRecDepth 100000 in
set_option maxHeartbeats 1000000 in
theorem rdname_c (b : Nat) (s : List UInt8) (w : World) (hw : Env w) (hO : Off b) (h : RdAt w b s s) (hs : s.length ≤ 65536) :
    Calls Tryz.prog 65 #[.pointer (some ⟨b, 0, none⟩)] w (NameRet w b (nameR s)) := by
  have hbw := h.lt
  have c0 : w.cell? ⟨b, 0, none⟩ = some (.string ⟨s.toArray⟩) := by obtain ⟨i, _, _, hR⟩ := h; exact hR.c0
  by_cases hse : s = []
  · subst hse
    go_enter Tryz.func65, Tryz.ntmps65
    go_wp2_with fail
    go_ret
    exact ⟨World.grownBy.refl _ _, _, rfl, [], World.ownsRow_nil _ _ _ _, Nat.le_refl _, .nil, by simp⟩
  · have hie : s.isEmpty = false := by cases s <;> simp_all
    have hP := part_c b s s w hw hO h hs
    have hnm : nameR s = nameGo (partR s) := by unfold nameR; rw [if_neg hse]
    have HNM := Lib.hid hnm
    clear hnm hse
    rcases hp : partR s with _ | ⟨p, r⟩
    · rw [hp] at hP
      have hq : nameR s = none := by rw [HNM.out, hp]; rfl
      have Hq := Lib.hid hq
      clear hq hp h
      go_enter Tryz.func65, Tryz.ntmps65
      go_wp2_with (go_at_call 110; refine hP.mono ?_; rintro e w1 ⟨h1, rfl⟩)
      refine ⟨rfl, ?_⟩
      rw [Hq.out]
      exact ⟨h1, rfl⟩
    · rw [hp] at hP
      have hr1 := partR_len hp
      have hq : nameR s = nameFin (nameL r.length r [p]) := by rw [HNM.out, hp]; rfl
      generalize hV : nameL r.length r [p] = V at hq
      have HQ := Lib.hid hq
      have HV := Lib.hid hV
      clear hq hp h hV HNM
      go_enter Tryz.func65, Tryz.ntmps65
      go_wp2_with (go_at_call 110; refine hP.mono ?_; rintro e w1 ⟨h1, pv, rfl, ha1, r1'⟩; obtain ⟨A1, cp1, rfl, hcp1⟩ := ha1.isSlice)
      clear hP c0
      go_loopg [3] r.length (fun gk v wr => ∃ (r' : List UInt8) (acc : List (List (List UInt8 × List UInt8))), r'.length ≤ gk ∧ acc.length + r'.length ≤ s.length + 1 ∧ RdAt wr b s r' ∧ DnAt w.heap.size wr v acc ∧ Aside (nameL r'.length r' acc = V) ∧ w.grownBy wr (some b))
      case atStart =>
        exact ⟨r, [p], Nat.le_refl _, by simp; omega, r1'.below ((Below.refl _ _).alloc (Nat.le_refl _) _), ⟨_, DnV.made1 ha1 (Nat.le_refl _)⟩, HV.out, World.grownBy.trans h1 (World.grownBy_alloc _ _ _)⟩
      case round =>
        obtain ⟨r', acc, hlen, hal, hR, ⟨vs, hD⟩, AV, hg⟩ := hrel
        have hI := is_at b s r' 44 wr hR
        cases h44 : hd r' 44
        · rw [h44] at hI
          have hfin : some (acc, r') = V := by
            have := AV.out
            cases hn : r'.length with
            | zero => rw [hn, nameL, h44] at this; exact this
            | succ n => rw [hn, nameL, h44] at this; exact this
          have Hf := Lib.hid hfin
          have hEn := fun w' (hR : RdAt w' b s r') => ended_at b s r' w' hR
          have HR := Lib.hid hR
          cases r' with
          | nil =>
            have HEn := Lib.hid hEn
            clear hfin AV h44 hEn hR
            go_wp2_with (first | (go_at_call 111; refine hI.mono ?_; rintro e w2 ⟨rfl, n2, rfl⟩) | (go_at_call 112; refine (HEn.out _ (by exact HR.out)).mono ?_; rintro e w2 ⟨rfl, n3, rfl⟩))
            go_ret
            rw [HQ.out, ← Hf.out]
            exact ⟨World.grownBy.trans hg (grown_drewN _ _ _), _, rfl, vs, hD.keep (grown_drewN _ _ none) (fun k hk => by cases hk)⟩
          | cons c t =>
            have HEn := Lib.hid hEn
            clear hfin AV h44 hEn hR
            go_wp2_with (first | (go_at_call 111; refine hI.mono ?_; rintro e w2 ⟨rfl, n2, rfl⟩) | (go_at_call 112; refine (HEn.out _ (by exact HR.out)).mono ?_; rintro e w2 ⟨rfl, n3, rfl⟩))
            refine ⟨rfl, ?_⟩
            rw [HQ.out, ← Hf.out]
            exact ⟨World.grownBy.trans hg (grown_drewN _ _ _), rfl⟩
        · rw [h44] at hI
          obtain ⟨c, t', rfl⟩ : ∃ c t', r' = c :: t' := by
            cases r' with
            | nil => cases h44
            | cons c t' => exact ⟨c, t', rfl⟩
          simp only [List.length_cons] at hlen hal
          have hAV : nameL (t'.length + 1) (c :: t') acc = V := AV.out
          rw [nameL, h44, if_pos rfl] at hAV
          simp only [List.tail_cons] at hAV
          obtain ⟨i, hi, c1, f1, hnx⟩ := hR.next
          have HAV := Lib.hid hAV
          clear AV h44 hR hAV
          go_wp2_with (go_at_call 111; refine hI.mono ?_; rintro e w2 ⟨rfl, n2, rfl⟩)
          have g2 : w.grownBy ((wr.drewN n2).setCell ⟨b, 1, none⟩ (.int .i64 ((i : Int) + 1))) (some b) := World.grownBy.trans hg (World.grownBy.trans (grown_drewN _ _ _) (grown_set _))
          have a2 : DnV w.heap.size ((wr.drewN n2).setCell ⟨b, 1, none⟩ (.int .i64 ((i : Int) + 1))) u3 acc vs := hD.keep (World.grownBy.trans (grown_drewN _ n2 _) (grown_set (b := b) _)) (fun k hk => by cases hk; exact hbw)
          have r2 : RdAt ((wr.drewN n2).setCell ⟨b, 1, none⟩ (.int .i64 ((i : Int) + 1))) b s t' := hnx
          have hEQ : (wr.setCell ⟨b, 1, none⟩ (.int .i64 ((i : Int) + 1))).drewN n2 = (wr.drewN n2).setCell ⟨b, 1, none⟩ (.int .i64 ((i : Int) + 1)) := rfl
          try rw [hEQ]
          clear hEQ hnx
          generalize (wr.drewN n2).setCell ⟨b, 1, none⟩ (.int .i64 ((i : Int) + 1)) = W2 at *
          have hP := part_c b s t' W2 (hw.grown hO g2) hO r2 hs
          have hsz2 := g2.size
          rcases hp : partR t' with _ | ⟨q, r3⟩
          · rw [hp] at hP
            have hf : none = V := by have := HAV.out; rw [hp] at this; exact this
            have Hf := Lib.hid hf
            clear hf hp
            refine hP.mono ?_
            rintro e w3 ⟨h3, rfl⟩
            refine ⟨rfl, ?_⟩
            rw [HQ.out, ← Hf.out]
            exact ⟨World.grownBy.trans g2 h3, rfl⟩
          · have hr3 := partR_len hp
            rw [hp] at hP
            have hf : nameL r3.length r3 (acc ++ [q]) = V := by
              have := HAV.out
              rw [hp] at this
              dsimp only at this
              rw [← this]
              exact nameL_fuel _ _ _ _ (Nat.le_refl _) (by omega)
            have Hf := Lib.hid hf
            clear hf hp
            refine hP.mono ?_
            rintro e w3 ⟨h3, pv, rfl, ha3, r3'⟩
            have hold := a2.lt
            have Hold := Lib.hid hold
            have a3 := a2.keep h3 (fun k hk => by cases hk; exact hbw)
            have g3 := World.grownBy.trans g2 h3
            clear hP c1 f1 a2 g2 r2 h3 hold
            obtain ⟨A3, cp3, rfl, hcp3⟩ := ha3.isSlice
            go_wp2_with (at_builtin; refine dn_one rfl _ _ rfl rfl a3 ha3 hsz2 Hold.out rfl rfl (by omega) ?_; intro v' w4 a4 h4)
            go_roundg r3.length
            case measure => omega
            case rel => exact ⟨r3, _, Nat.le_refl _, by simp; omega, a3.rd h4 hbw r3', ⟨_, a4⟩, Hf.out, a3.grown g3 h4⟩
end Go.Proofs.YtgpecklibcgifaaGreatDoor
/- Contracts: names that are read; slices.IndexFunc, slices.ContainsFunc at the program's own functions. (Printed by gen_idx.py.) -/
namespace Go.Proofs.YtgpecklibcgifaaGreatDoor
open Go.RowKit

/-- A part as it reads. -/
def RdnR (w : World) (v : Value) (p : List (List UInt8 × List UInt8)) : Prop :=
  ∃ A c, v = .slice A p.length c ∧ p.length ≤ c ∧ (p = [] ∨ ∃ g o, A = some ⟨g, o, none⟩ ∧ g < w.heap.size ∧ ∀ j x, p[j]? = some x → w.cell? ⟨g, o + 2 * j, none⟩ = some (.string ⟨x.1.toArray⟩) ∧ w.cell? ⟨g, o + 2 * j + 1, none⟩ = some (.string ⟨x.2.toArray⟩))
/-- A name as it reads. -/
def DnR (w : World) (v : Value) (d : List (List (List UInt8 × List UInt8))) : Prop :=
  ∃ A c, v = .slice A d.length c ∧ d.length ≤ c ∧ (d = [] ∨ ∃ g o, A = some ⟨g, o, none⟩ ∧ g < w.heap.size ∧ ∀ j p, d[j]? = some p → ∃ pv, w.cell? ⟨g, o + j, none⟩ = some pv ∧ RdnR w pv p)
theorem RdnR.below {w w' : World} {v : Value} {p : List (List UInt8 × List UInt8)} (h : RdnR w v p) (hb : Below w.heap.size w w') : RdnR w' v p := by
  obtain ⟨A, c, rfl, hc, h⟩ := h
  refine ⟨A, c, rfl, hc, h.imp id ?_⟩
  rintro ⟨g, o, rfl, hg, hx⟩
  refine ⟨g, o, rfl, Nat.lt_of_lt_of_le hg hb.size, fun j x hj => ?_⟩
  rw [hb.cell (p := ⟨g, o + 2 * j, none⟩) hg, hb.cell (p := ⟨g, o + 2 * j + 1, none⟩) hg]
  exact hx j x hj
theorem DnR.below {w w' : World} {v : Value} {d : List (List (List UInt8 × List UInt8))} (h : DnR w v d) (hb : Below w.heap.size w w') : DnR w' v d := by
  obtain ⟨A, c, rfl, hc, h⟩ := h
  refine ⟨A, c, rfl, hc, h.imp id ?_⟩
  rintro ⟨g, o, rfl, hg, hx⟩
  refine ⟨g, o, rfl, Nat.lt_of_lt_of_le hg hb.size, fun j p hj => ?_⟩
  obtain ⟨pv, h1, h2⟩ := hx j p hj
  exact ⟨pv, (hb.cell (p := ⟨g, o + j, none⟩) hg).trans h1, h2.below hb⟩
theorem flat_get : ∀ (l : List (List UInt8 × List UInt8)) (j : Nat) (x : List UInt8 × List UInt8), l[j]? = some x → (l.flatMap avaCells)[2 * j]? = some (.string ⟨x.1.toArray⟩) ∧ (l.flatMap avaCells)[2 * j + 1]? = some (.string ⟨x.2.toArray⟩)
  | [], j, x, h => by simp at h
  | y :: l, 0, x, h => by
    simp at h; subst h
    simp [avaCells]
  | y :: l, j + 1, x, h => by
    have := flat_get l j x (by simpa using h)
    simp only [List.flatMap_cons, avaCells, List.cons_append, List.nil_append]
    rw [show 2 * (j + 1) = 2 * j + 1 + 1 by omega]
    simpa using this
theorem Avas.reads {B : Nat} {w : World} {v : Value} {p : List (List UInt8 × List UInt8)} (h : Avas B w v p) : RdnR w v p := by
  obtain ⟨⟨h1, h2⟩, h3⟩ := h
  rcases h2 with ⟨rfl, hn⟩ | ⟨g, cap, cur, rfl, r2, r3, r4, r5, r6, r7⟩
  · exact ⟨none, 0, by rw [hn], by omega, .inl (List.eq_nil_of_length_eq_zero hn)⟩
  · refine ⟨_, cap, rfl, r4, .inr ⟨g, 0, rfl, (Array.getElem?_eq_some_iff.1 r3).1, fun j x hj => ?_⟩⟩
    have hf := flat_get p j x hj
    have hjl : j < p.length := (List.getElem?_eq_some_iff.1 hj).1
    rw [← r7, List.getElem?_take, List.getElem?_take, if_pos (by omega), if_pos (by omega)] at hf
    simp only [World.cell?, r3, Nat.zero_add]
    simpa using hf
theorem DnAt.reads {B : Nat} {w : World} {v : Value} {d : List (List (List UInt8 × List UInt8))} (h : DnAt B w v d) : DnR w v d := by
  obtain ⟨vs, ⟨h1, h2⟩, h3, h4, h5⟩ := h
  rcases h2 with ⟨rfl, hn⟩ | ⟨g, cap, cur, rfl, r2, r3, r4, r5, r6, r7⟩
  · exact ⟨none, 0, by rw [hn], by omega, .inl (List.eq_nil_of_length_eq_zero hn)⟩
  · refine ⟨_, cap, rfl, r4, .inr ⟨g, 0, rfl, (Array.getElem?_eq_some_iff.1 r3).1, fun j p hj => ?_⟩⟩
    obtain ⟨pv, hv, hA⟩ := h4.get j p hj
    have hjl : j < d.length := (List.getElem?_eq_some_iff.1 hj).1
    rw [← r7, List.getElem?_take, if_pos (by omega)] at hv
    refine ⟨pv, ?_, hA.reads⟩
    simp only [World.cell?, r3, Nat.zero_add]
    simpa using hv

/-- A pair as a value. -/
def AvaE (_W : World) (ev : Value) (x : List UInt8 × List UInt8) : Prop := ev = avaV x

set_option maxRecDepth 10000 in
set_option maxHeartbeats 1000000 in
theorem avaLong_idx (p : List (List UInt8 × List UInt8)) (v : Value) (w : World) (hv : RdnR w v p) (hl : p.length ≤ 1000000) (P : (List UInt8 × List UInt8) → Bool)
    (hF : ∀ x ∈ p, ∀ W ev, Below w.heap.size w W → AvaE W ev x → Calls Tryz.prog 116 #[ev] W fun e W' => e = .returned (.bool (P x)) ∧ Below W.heap.size W W') :
    Calls Tryz.prog 151 #[v, .func (.func 116) #[] #[]] w fun e w' => (∃ i : Int, e = .returned (.int .i64 i) ∧ decide (0 ≤ i) = p.any P) ∧ Below w.heap.size w w' := by
  have HF := Lib.hid hF
  clear hF
  obtain ⟨A, c, rfl, hc, hx⟩ := hv
  go_enter Tryz.func151, Tryz.ntmps151
  go_wp2_with fail
  go_loopg [8] p.length (fun gk i wr => ∃ k : Nat, k ≤ p.length ∧ i = .int .i64 k ∧ Aside (k + gk = p.length) ∧ Below w.heap.size w wr ∧ Aside (p.any P = (p.drop k).any P))
  case atStart => exact ⟨0, by omega, rfl, by show _ = _; omega, Below.refl _ _, rfl⟩
  case round =>
    obtain ⟨k, hk, rfl, AG, hB, AS⟩ := hrel
    by_cases hlt : k < p.length
    · obtain ⟨q, rfl⟩ : ∃ q, gk = q + 1 := ⟨gk - 1, by have := AG.out; omega⟩
      obtain ⟨g, o, rfl, hg, hcells⟩ := hx.resolve_left (by intro h; rw [h] at hlt; simp at hlt)
      have hel := List.getElem?_eq_getElem hlt
      have AS' : Aside (p.any P = (P p[k] || (p.drop (k + 1)).any P)) := by have := AS.out; rw [List.drop_eq_getElem_cons hlt] at this; exact this
      have hc2 := hcells k p[k] hel
      have c0 : wr.cell? ⟨g, o + 2 * k, none⟩ = some (.string ⟨p[k].1.toArray⟩) := (hB.cell (p := ⟨g, o + 2 * k, none⟩) hg).trans hc2.1
      have c1 : wr.cell? ⟨g, o + 2 * k + 1, none⟩ = some (.string ⟨p[k].2.toArray⟩) := (hB.cell (p := ⟨g, o + 2 * k + 1, none⟩) hg).trans hc2.2
      have c0' : wr.cell? ⟨g, o + k * 2, none⟩ = some (.string ⟨p[k].1.toArray⟩) := by rw [Nat.mul_comm]; exact c0
      have c1' : wr.cell? ⟨g, o + k * 2 + 1, none⟩ = some (.string ⟨p[k].2.toArray⟩) := by rw [Nat.mul_comm]; exact c1
      have HC : Hid (∀ W, Below w.heap.size w W → Calls Tryz.prog 116 #[.agg #[.string ⟨p[k].1.toArray⟩, .string ⟨p[k].2.toArray⟩]] W fun e W' => e = .returned (.bool (P p[k])) ∧ Below W.heap.size W W') := fun W hW => HF.out p[k] (List.getElem_mem hlt) W _ hW rfl
      clear hcells hel AS
      cases hP : P p[k]
      · have HP := Lib.hid hP
        have HC' := HC.out
        rw [hP] at HC'
        have HC2 := Lib.hid HC'
        clear hP HC HC'
        go_wp2_with (go_at_call 116; refine (HC2.out _ hB).mono ?_; rintro e w2 ⟨rfl, hb2⟩)
        go_roundg q
        case measure => omega
        case rel => exact ⟨k + 1, by omega, by go_num, by have := AG.out; show _ = _; omega, hB.trans (hb2.mono hB.size), by have := AS'.out; rw [HP.out] at this; exact this⟩
      · have HP := Lib.hid hP
        have HC' := HC.out
        rw [hP] at HC'
        have HC2 := Lib.hid HC'
        clear hP HC HC'
        go_wp2_with (go_at_call 116; refine (HC2.out _ hB).mono ?_; rintro e w2 ⟨rfl, hb2⟩)
        go_ret
        exact ⟨⟨k, rfl, by rw [AS'.out, HP.out]; simp⟩, hB.trans (hb2.mono hB.size)⟩
    · obtain rfl : k = p.length := by omega
      have hs : p.any P = false := by have := AS.out; rw [List.drop_length] at this; exact this
      have Hs := Lib.hid hs
      clear hs AS
      go_wp2_with fail
      go_ret
      exact ⟨⟨-1, rfl, by rw [Hs.out]; rfl⟩, hB⟩
set_option maxHeartbeats 400000 in
theorem avaLong_any (p : List (List UInt8 × List UInt8)) (v : Value) (w : World) (hv : RdnR w v p) (hl : p.length ≤ 1000000) (P : (List UInt8 × List UInt8) → Bool)
    (hF : ∀ x ∈ p, ∀ W ev, Below w.heap.size w W → AvaE W ev x → Calls Tryz.prog 116 #[ev] W fun e W' => e = .returned (.bool (P x)) ∧ Below W.heap.size W W') :
    Calls Tryz.prog 115 #[v, .func (.func 116) #[] #[]] w fun e w' => e = .returned (.bool (p.any P)) ∧ Below w.heap.size w w' := by
  have hI := avaLong_idx p v w hv hl P hF
  obtain ⟨A, c, rfl, hc, hx⟩ := hv
  clear hF hx
  go_enter Tryz.func115, Tryz.ntmps115
  go_wp2_with (go_at_call 151; refine hI.mono ?_; rintro e w1 ⟨⟨i, rfl, hi⟩, hb1⟩; have Hi := Lib.hid hi; clear hi)
  all_goals
    go_ret
    exact ⟨retb (by rw [← Hi.out]), hb1⟩

set_option maxRecDepth 10000 in
set_option maxHeartbeats 1000000 in
theorem avaBad_idx (p : List (List UInt8 × List UInt8)) (v : Value) (w : World) (hv : RdnR w v p) (hl : p.length ≤ 1000000) (P : (List UInt8 × List UInt8) → Bool)
    (hF : ∀ x ∈ p, ∀ W ev, Below w.heap.size w W → AvaE W ev x → Calls Tryz.prog 181 #[ev] W fun e W' => e = .returned (.bool (P x)) ∧ Below W.heap.size W W') :
    Calls Tryz.prog 151 #[v, .func (.func 181) #[] #[]] w fun e w' => (∃ i : Int, e = .returned (.int .i64 i) ∧ decide (0 ≤ i) = p.any P) ∧ Below w.heap.size w w' := by
  have HF := Lib.hid hF
  clear hF
  obtain ⟨A, c, rfl, hc, hx⟩ := hv
  go_enter Tryz.func151, Tryz.ntmps151
  go_wp2_with fail
  go_loopg [8] p.length (fun gk i wr => ∃ k : Nat, k ≤ p.length ∧ i = .int .i64 k ∧ Aside (k + gk = p.length) ∧ Below w.heap.size w wr ∧ Aside (p.any P = (p.drop k).any P))
  case atStart => exact ⟨0, by omega, rfl, by show _ = _; omega, Below.refl _ _, rfl⟩
  case round =>
    obtain ⟨k, hk, rfl, AG, hB, AS⟩ := hrel
    by_cases hlt : k < p.length
    · obtain ⟨q, rfl⟩ : ∃ q, gk = q + 1 := ⟨gk - 1, by have := AG.out; omega⟩
      obtain ⟨g, o, rfl, hg, hcells⟩ := hx.resolve_left (by intro h; rw [h] at hlt; simp at hlt)
      have hel := List.getElem?_eq_getElem hlt
      have AS' : Aside (p.any P = (P p[k] || (p.drop (k + 1)).any P)) := by have := AS.out; rw [List.drop_eq_getElem_cons hlt] at this; exact this
      have hc2 := hcells k p[k] hel
      have c0 : wr.cell? ⟨g, o + 2 * k, none⟩ = some (.string ⟨p[k].1.toArray⟩) := (hB.cell (p := ⟨g, o + 2 * k, none⟩) hg).trans hc2.1
      have c1 : wr.cell? ⟨g, o + 2 * k + 1, none⟩ = some (.string ⟨p[k].2.toArray⟩) := (hB.cell (p := ⟨g, o + 2 * k + 1, none⟩) hg).trans hc2.2
      have c0' : wr.cell? ⟨g, o + k * 2, none⟩ = some (.string ⟨p[k].1.toArray⟩) := by rw [Nat.mul_comm]; exact c0
      have c1' : wr.cell? ⟨g, o + k * 2 + 1, none⟩ = some (.string ⟨p[k].2.toArray⟩) := by rw [Nat.mul_comm]; exact c1
      have HC : Hid (∀ W, Below w.heap.size w W → Calls Tryz.prog 181 #[.agg #[.string ⟨p[k].1.toArray⟩, .string ⟨p[k].2.toArray⟩]] W fun e W' => e = .returned (.bool (P p[k])) ∧ Below W.heap.size W W') := fun W hW => HF.out p[k] (List.getElem_mem hlt) W _ hW rfl
      clear hcells hel AS
      cases hP : P p[k]
      · have HP := Lib.hid hP
        have HC' := HC.out
        rw [hP] at HC'
        have HC2 := Lib.hid HC'
        clear hP HC HC'
        go_wp2_with (go_at_call 181; refine (HC2.out _ hB).mono ?_; rintro e w2 ⟨rfl, hb2⟩)
        go_roundg q
        case measure => omega
        case rel => exact ⟨k + 1, by omega, by go_num, by have := AG.out; show _ = _; omega, hB.trans (hb2.mono hB.size), by have := AS'.out; rw [HP.out] at this; exact this⟩
      · have HP := Lib.hid hP
        have HC' := HC.out
        rw [hP] at HC'
        have HC2 := Lib.hid HC'
        clear hP HC HC'
        go_wp2_with (go_at_call 181; refine (HC2.out _ hB).mono ?_; rintro e w2 ⟨rfl, hb2⟩)
        go_ret
        exact ⟨⟨k, rfl, by rw [AS'.out, HP.out]; simp⟩, hB.trans (hb2.mono hB.size)⟩
    · obtain rfl : k = p.length := by omega
      have hs : p.any P = false := by have := AS.out; rw [List.drop_length] at this; exact this
      have Hs := Lib.hid hs
      clear hs AS
      go_wp2_with fail
      go_ret
      exact ⟨⟨-1, rfl, by rw [Hs.out]; rfl⟩, hB⟩
set_option maxHeartbeats 400000 in
theorem avaBad_any (p : List (List UInt8 × List UInt8)) (v : Value) (w : World) (hv : RdnR w v p) (hl : p.length ≤ 1000000) (P : (List UInt8 × List UInt8) → Bool)
    (hF : ∀ x ∈ p, ∀ W ev, Below w.heap.size w W → AvaE W ev x → Calls Tryz.prog 181 #[ev] W fun e W' => e = .returned (.bool (P x)) ∧ Below W.heap.size W W') :
    Calls Tryz.prog 115 #[v, .func (.func 181) #[] #[]] w fun e w' => e = .returned (.bool (p.any P)) ∧ Below w.heap.size w w' := by
  have hI := avaBad_idx p v w hv hl P hF
  obtain ⟨A, c, rfl, hc, hx⟩ := hv
  clear hF hx
  go_enter Tryz.func115, Tryz.ntmps115
  go_wp2_with (go_at_call 151; refine hI.mono ?_; rintro e w1 ⟨⟨i, rfl, hi⟩, hb1⟩; have Hi := Lib.hid hi; clear hi)
  all_goals
    go_ret
    exact ⟨retb (by rw [← Hi.out]), hb1⟩

set_option maxRecDepth 10000 in
set_option maxHeartbeats 1000000 in
theorem rdnLong_idx (p : List (List (List UInt8 × List UInt8))) (v : Value) (w : World) (hv : DnR w v p) (hl : p.length ≤ 1000000) (P : (List (List UInt8 × List UInt8)) → Bool)
    (hF : ∀ x ∈ p, ∀ W ev, Below w.heap.size w W → RdnR W ev x → Calls Tryz.prog 114 #[ev] W fun e W' => e = .returned (.bool (P x)) ∧ Below W.heap.size W W') :
    Calls Tryz.prog 150 #[v, .func (.func 114) #[] #[]] w fun e w' => (∃ i : Int, e = .returned (.int .i64 i) ∧ decide (0 ≤ i) = p.any P) ∧ Below w.heap.size w w' := by
  have HF := Lib.hid hF
  clear hF
  obtain ⟨A, c, rfl, hc, hx⟩ := hv
  go_enter Tryz.func150, Tryz.ntmps150
  go_wp2_with fail
  go_loopg [8] p.length (fun gk i wr => ∃ k : Nat, k ≤ p.length ∧ i = .int .i64 k ∧ Aside (k + gk = p.length) ∧ Below w.heap.size w wr ∧ Aside (p.any P = (p.drop k).any P))
  case atStart => exact ⟨0, by omega, rfl, by show _ = _; omega, Below.refl _ _, rfl⟩
  case round =>
    obtain ⟨k, hk, rfl, AG, hB, AS⟩ := hrel
    by_cases hlt : k < p.length
    · obtain ⟨q, rfl⟩ : ∃ q, gk = q + 1 := ⟨gk - 1, by have := AG.out; omega⟩
      obtain ⟨g, o, rfl, hg, hcells⟩ := hx.resolve_left (by intro h; rw [h] at hlt; simp at hlt)
      have hel := List.getElem?_eq_getElem hlt
      have AS' : Aside (p.any P = (P p[k] || (p.drop (k + 1)).any P)) := by have := AS.out; rw [List.drop_eq_getElem_cons hlt] at this; exact this
      obtain ⟨pv, hp1, hp2⟩ := hcells k p[k] hel
      have c0 : wr.cell? ⟨g, o + k, none⟩ = some pv := (hB.cell (p := ⟨g, o + k, none⟩) hg).trans hp1
      have HC : Hid (∀ W, Below w.heap.size w W → Calls Tryz.prog 114 #[pv] W fun e W' => e = .returned (.bool (P p[k])) ∧ Below W.heap.size W W') := fun W hW => HF.out p[k] (List.getElem_mem hlt) W _ hW (hp2.below hW)
      clear hcells hel AS
      cases hP : P p[k]
      · have HP := Lib.hid hP
        have HC' := HC.out
        rw [hP] at HC'
        have HC2 := Lib.hid HC'
        clear hP HC HC'
        go_wp2_with (go_at_call 114; refine (HC2.out _ hB).mono ?_; rintro e w2 ⟨rfl, hb2⟩)
        go_roundg q
        case measure => omega
        case rel => exact ⟨k + 1, by omega, by go_num, by have := AG.out; show _ = _; omega, hB.trans (hb2.mono hB.size), by have := AS'.out; rw [HP.out] at this; exact this⟩
      · have HP := Lib.hid hP
        have HC' := HC.out
        rw [hP] at HC'
        have HC2 := Lib.hid HC'
        clear hP HC HC'
        go_wp2_with (go_at_call 114; refine (HC2.out _ hB).mono ?_; rintro e w2 ⟨rfl, hb2⟩)
        go_ret
        exact ⟨⟨k, rfl, by rw [AS'.out, HP.out]; simp⟩, hB.trans (hb2.mono hB.size)⟩
    · obtain rfl : k = p.length := by omega
      have hs : p.any P = false := by have := AS.out; rw [List.drop_length] at this; exact this
      have Hs := Lib.hid hs
      clear hs AS
      go_wp2_with fail
      go_ret
      exact ⟨⟨-1, rfl, by rw [Hs.out]; rfl⟩, hB⟩
set_option maxHeartbeats 400000 in
theorem rdnLong_any (p : List (List (List UInt8 × List UInt8))) (v : Value) (w : World) (hv : DnR w v p) (hl : p.length ≤ 1000000) (P : (List (List UInt8 × List UInt8)) → Bool)
    (hF : ∀ x ∈ p, ∀ W ev, Below w.heap.size w W → RdnR W ev x → Calls Tryz.prog 114 #[ev] W fun e W' => e = .returned (.bool (P x)) ∧ Below W.heap.size W W') :
    Calls Tryz.prog 113 #[v, .func (.func 114) #[] #[]] w fun e w' => e = .returned (.bool (p.any P)) ∧ Below w.heap.size w w' := by
  have hI := rdnLong_idx p v w hv hl P hF
  obtain ⟨A, c, rfl, hc, hx⟩ := hv
  clear hF hx
  go_enter Tryz.func113, Tryz.ntmps113
  go_wp2_with (go_at_call 150; refine hI.mono ?_; rintro e w1 ⟨⟨i, rfl, hi⟩, hb1⟩; have Hi := Lib.hid hi; clear hi)
  all_goals
    go_ret
    exact ⟨retb (by rw [← Hi.out]), hb1⟩
end Go.Proofs.YtgpecklibcgifaaGreatDoor
/- Contracts: dn.tooLong. -/
namespace Go.Proofs.YtgpecklibcgifaaGreatDoor
open Go.RowKit

def avaLongB (x : List UInt8 × List UInt8) : Bool := decide (1024 < x.2.length)
def rdnLongB (p : List (List UInt8 × List UInt8)) : Bool := decide (4 < p.length) || p.any avaLongB
def tooLongL (d : List (List (List UInt8 × List UInt8))) : Bool := decide (20 < d.length) || d.any rdnLongB

set_option maxRecDepth 10000 in
theorem tooLong11_c (x : List UInt8 × List UInt8) (w : World) :
    Calls Tryz.prog 116 #[avaV x] w fun e w' => e = .returned (.bool (avaLongB x)) ∧ Below w.heap.size w w' := by
  obtain ⟨x1, x2⟩ := x
  show Calls Tryz.prog 116 #[.agg #[.string ⟨x1.toArray⟩, .string ⟨x2.toArray⟩]] w _
  go_enter Tryz.func116, Tryz.ntmps116
  go_wp2_with fail
  go_ret
  exact ⟨retb (by simp only [avaLongB]; exact decide_eq_decide.2 (by omega)), (Below.refl _ _).alloc (Nat.le_refl _) _⟩

set_option maxRecDepth 10000 in
theorem tooLong1_c (p : List (List UInt8 × List UInt8)) (v : Value) (w : World) (hv : RdnR w v p) (hl : p.length ≤ 1000000) :
    Calls Tryz.prog 114 #[v] w fun e w' => e = .returned (.bool (rdnLongB p)) ∧ Below w.heap.size w w' := by
  have hC := fun (W : World) (hB : Below w.heap.size w W) => avaLong_any p v W (hv.below hB) hl avaLongB (fun x _ W' ev _ (he : AvaE W' ev x) => by rw [he]; exact tooLong11_c x W')
  obtain ⟨A, c, rfl, hc, hx⟩ := hv
  clear hx
  by_cases h4 : 4 < p.length
  · have hR : rdnLongB p = true := by simp [rdnLongB, h4]
    rw [hR]
    clear hR hC
    generalize p.length = n at *
    go_enter Tryz.func114, Tryz.ntmps114
    go_wp2_with fail
    go_ret
    exact ⟨rfl, Below.refl _ _⟩
  · have hR : rdnLongB p = p.any avaLongB := by simp [rdnLongB, h4]
    rw [hR]
    clear hR
    generalize p.length = n at *
    generalize p.any avaLongB = R at *
    have hz : decide ((4 : Int) < (n : Int)) = false := decide_eq_false (by omega)
    go_enter Tryz.func114, Tryz.ntmps114
    go_wp2_with (go_at_call 115; refine (hC _ (Below.refl _ _)).mono ?_; rintro e w2 ⟨rfl, hb2⟩)
    go_ret
    exact ⟨retb (by simp [hz]), hb2⟩

set_option maxRecDepth 10000 in
theorem tooLong_c (d : List (List (List UInt8 × List UInt8))) (v : Value) (w : World) (hv : DnR w v d) (hl : d.length ≤ 1000000) (hl2 : ∀ p ∈ d, p.length ≤ 1000000) :
    Calls Tryz.prog 66 #[v] w fun e w' => e = .returned (.bool (tooLongL d)) ∧ Below w.heap.size w w' := by
  have hC := fun (W : World) (hB : Below w.heap.size w W) => rdnLong_any d v W (hv.below hB) hl rdnLongB (fun x hx W' ev _ (he : RdnR W' ev x) => tooLong1_c x ev W' he (hl2 x hx))
  obtain ⟨A, c, rfl, hc, hx⟩ := hv
  clear hx hl2
  by_cases h4 : 20 < d.length
  · have hR : tooLongL d = true := by simp [tooLongL, h4]
    rw [hR]
    clear hR hC
    generalize d.length = n at *
    go_enter Tryz.func66, Tryz.ntmps66
    go_wp2_with fail
    go_ret
    exact ⟨rfl, Below.refl _ _⟩
  · have hR : tooLongL d = d.any rdnLongB := by simp [tooLongL, h4]
    rw [hR]
    clear hR
    generalize d.length = n at *
    generalize d.any rdnLongB = R at *
    have hz : decide ((20 : Int) < (n : Int)) = false := decide_eq_false (by omega)
    go_enter Tryz.func66, Tryz.ntmps66
    go_wp2_with (go_at_call 113; refine (hC _ (Below.refl _ _)).mono ?_; rintro e w2 ⟨rfl, hb2⟩)
    go_ret
    exact ⟨retb (by simp [hz]), hb2⟩
end Go.Proofs.YtgpecklibcgifaaGreatDoor
