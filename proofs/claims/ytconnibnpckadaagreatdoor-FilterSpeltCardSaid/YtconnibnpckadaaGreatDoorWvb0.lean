import Derived.Test.YtconnibnpckadaaGreatDoorWva9
set_option linter.all false
set_option maxHeartbeats 8000000
set_option maxRecDepth 100000
namespace Go.Proofs.YtconnibnpckadaaGreatDoor
open Go.RowKit
def avaCells (x : List UInt8 × List UInt8) : List Value := [.string ⟨x.1.toArray⟩, .string ⟨x.2.toArray⟩]
def Avas (B : Nat) (w : World) (v : Value) (l : List (List UInt8 × List UInt8)) : Prop := w.ownsRow B 212 2 v l.length (l.flatMap avaCells) ∧ B ≤ w.heap.size
theorem Avas.lt {B : Nat} {w : World} {v : Value} {l : List (List UInt8 × List UInt8)} (h : Avas B w v l) : ∀ k, v.ownBlock = some k → B ≤ k ∧ k < w.heap.size := fun k hk => h.1.lt k hk
theorem Avas.keep {B : Nat} {w w' : World} {v : Value} {l : List (List UInt8 × List UInt8)} (h : Avas B w v l) {r : Option Nat} (hg : w.grownBy w' r) (hr : ∀ k, r = some k → k < B) : Avas B w' v l := by
 refine ⟨h.1.kept hg ?_, Nat.le_trans h.2 hg.size⟩
 rcases hv : v.ownBlock with _ | g
 ·exact .inl rfl
 ·refine .inr ?_
  intro he
  have h1 := hr g he.symm
  have h2 := (h.lt g hv).1
  omega
theorem Avas.made1 {B : Nat} {w : World} (x : List UInt8 × List UInt8) (hB : B ≤ w.heap.size) : Avas B (w.alloc (.cells #[.string ⟨x.1.toArray⟩, .string ⟨x.2.toArray⟩] 212)) (.slice (some ⟨w.heap.size, 0, none⟩) 1 1) [x] := by
 refine ⟨⟨by simp [avaCells], .inr ⟨w.heap.size, 1, #[.string ⟨x.1.toArray⟩, .string ⟨x.2.toArray⟩], rfl, hB, heap_alloc_new w _, Nat.le_refl _, by decide, rfl, by simp [avaCells]⟩⟩, by simp; omega⟩
theorem infoAva : ∃ i, Tryz.prog.info? 212 = some i ∧ i.zero = some (.agg #[.string ⟨#[]⟩, .string ⟨#[]⟩]) ∧ i.size = 2 ∧ i.bytes = 32 := by
 obtain ⟨i, h1, h2, h3, h4⟩ := info_parts (show (Tryz.prog.info? 212).map (fun i => (i.zero, i.size, i.bytes)) = some (some (.agg #[.string ⟨#[]⟩, .string ⟨#[]⟩]), 2, 32) by kernel_rfl)
 exact ⟨i, h1, h2, h3, h4⟩
theorem avas_one {ops : Array Oper} {rest : List Oper} {o : Oper} {a : Act} {Q : Exit → Act → World → Prop} (hgd : o.guard = none) (s x : Operand) (ho : o.op = .call { callee := .builtin .append, args := #[s, x], argTypes := #[210, 210] })
  {v : Value} {l : List (List UInt8 × List UInt8)} {B N : Nat} {w0 : World} {t u : List UInt8} (hs : a.eval s = v) (hb : Avas B w0 v l)
  (hx : a.eval x = .slice (some ⟨N, 0, none⟩) 1 1) (hN : N = w0.heap.size) (hlen : l.length < 1000000)
  (h : ∀ v' w', Avas B w' v' (l ++ [(t, u)]) → w0.grownBy w' v.ownBlock → wpList Tryz.prog ops Q rest (a.put o.dst v') w') : wpList Tryz.prog ops Q (o :: rest) a (w0.alloc (.cells #[.string ⟨t.toArray⟩, .string ⟨u.toArray⟩] 212)) := by
 subst hN
 obtain ⟨i, h1, h2, h3, h4⟩ := infoAva
 have hb' := hb.keep (World.grownBy_alloc w0 (.cells #[.string ⟨t.toArray⟩, .string ⟨u.toArray⟩] 212) none) (fun k hk => by cases hk)
 refine wpList_append_own _ hgd s x 210 ho B 212 i (.agg #[.string ⟨#[]⟩, .string ⟨#[]⟩]) 2 32 Tryz.underlying210 h1 h2 h3 h4 rfl (by decide) v _ _ hs hb'.1 ⟨w0.heap.size, 0, none⟩ 1 1 (avaCells (t, u)) hx rfl ?_ ?_ (by unfold maxLen; omega) (by omega) hb'.2 ?_
 ·intro j y hj
  match j, hj with
  | 0, hj => simp [avaCells] at hj; subst hj; simp [Addr.add]
  | 1, hj => simp [avaCells] at hj; subst hj; simp [Addr.add]
  | (j + 2), hj => simp [avaCells] at hj
 ·intro y hy; simp [avaCells] at hy; rcases hy with rfl | rfl <;> rfl
 ·intro v' w' ho' hg _
  refine h v' w' ⟨?_, Nat.le_trans hb'.2 hg.size⟩ (World.grownBy.trans (World.grownBy_alloc _ _ _) hg)
  simpa using ho'
theorem Avas.rd {w0 w w' : World} {v : Value} {l : List (List UInt8 × List UInt8)} {s r : List UInt8} {b : Nat} (h : Avas w0.heap.size w v l) (hg : w.grownBy w' v.ownBlock) (hb : b < w0.heap.size) (hR : RdAt w b s r) : RdAt w' b s r :=
 hR.grown hg (fun e => by have := (h.lt b e.symm).1; omega)
theorem Avas.grown {w0 w w' : World} {v : Value} {l : List (List UInt8 × List UInt8)} {r : Option Nat} (h : Avas w0.heap.size w v l) (hg0 : w0.grownBy w r) (hg : w.grownBy w' v.ownBlock) : w0.grownBy w' r :=
 ⟨hg.os.trans hg0.os, hg.tape.trans hg0.tape, hg.output.trans hg0.output, Nat.le_trans hg0.size hg.size, fun k hk hne => by
  rw [hg.block k (Nat.lt_of_lt_of_le hk hg0.size)]
  ·exact hg0.block k hk hne
  ·intro e
   have := (h.lt k e.symm).1
   omega⟩
def partL : Nat → List UInt8 → List (List UInt8 × List UInt8) → Option (List (List UInt8 × List UInt8) × List UInt8)
 | 0, r, acc => if hd r 43 then none else some (acc, r)
 | n + 1, r, acc => if hd r 43 then (match pairR r.tail with
  | none => none
  | some (x, r') => partL n r' (acc ++ [x])) else some (acc, r)
def partR (r : List UInt8) : Option (List (List UInt8 × List UInt8) × List UInt8) := match pairR r with
 | none => none
 | some (x, r') => partL r'.length r' [x]
theorem dropWhile_le (p : UInt8 → Bool) (l : List UInt8) : (l.dropWhile p).length ≤ l.length := (List.dropWhile_sublist p).length_le
theorem hexR_len {r r' v : List UInt8} (h : hexR r = some (v, r')) : r'.length ≤ r.length := by
 unfold hexR at h
 split at h
 ·cases h
 ·split at h
  ·cases h
  ·cases h; exact dropWhile_le _ _
theorem valL_len : ∀ (n : Nat) (r acc : List UInt8) (long : Nat) (v r' : List UInt8), valL n r acc long = some (v, r') → r'.length ≤ r.length
 | _, [], _, _, v, r', h => by simp [valL] at h; simp [h.2]
 | 0, _ :: _, _, _, v, r', h => by simp [valL] at h
 | n + 1, c :: t, acc, long, v, r', h => by
  rw [valL] at h
  split at h
  ·cases h; exact Nat.le_refl _
  ·split at h
   ·split at h
    ·cases h
    ·next x t' he =>
     have := escR_len he
     have := valL_len n t' _ _ v r' h
     simp; omega
   ·split at h
    ·cases h
    ·have := valL_len n t _ _ v r' h
     simp; omega
theorem valueR_len {r r' v : List UInt8} (h : valueR r = some (v, r')) : r'.length ≤ r.length := by
 unfold valueR at h
 split at h
 ·have := hexR_len h
  simp at this; omega
 ·exact valL_len _ _ _ _ _ _ h
theorem pairR_len {r r' : List UInt8} {x : List UInt8 × List UInt8} (h : pairR r = some (x, r')) : r'.length < r.length := by
 unfold pairR at h
 split at h
 ·cases h
 ·next t r2 ht =>
  split at h
  ·next h61 =>
   split at h
   ·cases h
   ·next v r5 hv =>
    cases h
    have h1 := dropWhile_le (· == 32) r5
    have h2 := valueR_len hv
    have h3 := dropWhile_le (· == 32) (blk r2).tail
    have h4 : (blk r2).tail.length < (blk r2).length := by
     cases hb : blk r2 with
     | nil => rw [hb] at h61; cases h61
     | cons c t => simp
    have h5 := dropWhile_le (· == 32) r2
    have h6 : r2.length ≤ (blk r).length := by
     unfold typR at ht
     split at ht
     ·cases ht; exact dropWhile_le _ _
     ·cases ht
    have h7 := dropWhile_le (· == 32) r
    unfold blk at *
    omega
  ·cases h
theorem partL_fuel : ∀ (n m : Nat) (r : List UInt8) (acc : List (List UInt8 × List UInt8)), r.length ≤ n → r.length ≤ m → partL n r acc = partL m r acc
 | 0, m, r, acc, h, _ => by
  obtain rfl : r = [] := List.eq_nil_of_length_eq_zero (by omega)
  cases m <;> rfl
 | n + 1, 0, r, acc, _, h => by
  obtain rfl : r = [] := List.eq_nil_of_length_eq_zero (by omega)
  rfl
 | n + 1, m + 1, r, acc, h1, h2 => by
  rw [partL, partL]
  split
  ·cases hp : pairR r.tail with
   | none => rfl
   | some y =>
    obtain ⟨x, r'⟩ := y
    have h3 := pairR_len hp
    have h4 : r.tail.length ≤ r.length := by simp
    exact partL_fuel n m r' _ (by omega) (by omega)
  ·rfl
open Go.RowKit
def PartRet (w : World) (b : Nat) (s : List UInt8) (o : Option (List (List UInt8 × List UInt8) × List UInt8)) (e : Ending) (w' : World) : Prop :=
 w.grownBy w' (some b) ∧ match o with
  | none => e = .panicked dnPanic
  | some (l, r) => ∃ v, e = .returned v ∧ Avas w.heap.size w' v l ∧ RdAt w' b s r
set_option maxRecDepth 100000 in
theorem part_c (b : Nat) (s r : List UInt8) (w : World) (hw : Env w) (hO : Off b) (h : RdAt w b s r) (hs : s.length ≤ 65536) :
  Calls Tryz.prog 208 #[.pointer (some ⟨b, 0, none⟩)] w (PartRet w b s (partR r)) := by
 have hbw := h.lt
 have hP := pair_c b s r w hw hO h hs
 have hrl : r.length ≤ s.length := by obtain ⟨i, _, hd', _⟩ := h; rw [← hd']; simp
 rcases hp : pairR r with _ | ⟨⟨t, u⟩, r1⟩
 ·have hq : partR r = none := by unfold partR; rw [hp]
  rw [hp] at hP
  have Hq := Lib.hid hq
  clear hq hp h
  go_enter Tryz.func208, Tryz.ntmps208
  go_wp2_with (go_at_call 220; refine hP.mono ?_; rintro e w1 ⟨h1, rfl⟩)
  refine ⟨rfl, ?_⟩
  rw [Hq.out]
  exact ⟨h1, rfl⟩
 ·have hq : partR r = partL r1.length r1 [(t, u)] := by unfold partR; rw [hp]
  have hr1 := pairR_len hp
  rw [hp] at hP
  generalize hV : partR r = V
  rw [hq] at hV
  have HV := Lib.hid hV
  simp only [Option.map_some, avaV] at hP
  clear hq hp h hV
  go_enter Tryz.func208, Tryz.ntmps208
  go_wp2_with (go_at_call 220; refine hP.mono ?_; rintro e w1 ⟨h1, rfl, r1'⟩)
  have hsz := h1.size
  clear hP
  go_loopg [3] r1.length (fun gk v wr => ∃ (r' : List UInt8) (acc : List (List UInt8 × List UInt8)), r'.length ≤ gk ∧ acc.length + r'.length ≤ s.length + 1 ∧ RdAt wr b s r' ∧ Avas w.heap.size wr v acc ∧ Aside (partL r'.length r' acc = V) ∧ w.grownBy wr (some b))
  case atStart =>
   exact ⟨r1, [(t, u)], Nat.le_refl _, by simp; omega, r1'.below ((Below.refl _ _).alloc (Nat.le_refl _) _), Avas.made1 (t, u) hsz, HV.out, World.grownBy.trans h1 (World.grownBy_alloc _ _ _)⟩
  case round =>
   obtain ⟨r', acc, hlen, hal, hR, hA, AV, hg⟩ := hrel
   have hI := is_at b s r' 43 wr hR
   cases h43 : hd r' 43
   ·rw [h43] at hI
    have hfin : some (acc, r') = V := by
     have := AV.out
     cases hn : r'.length with
     | zero => rw [hn, partL, h43] at this; exact this
     | succ n => rw [hn, partL, h43] at this; exact this
    have Hf := Lib.hid hfin
    clear hfin AV h43
    go_wp2_with (go_at_call 209; refine hI.mono ?_; rintro e w2 ⟨rfl, n2, rfl⟩)
    go_ret
    rw [← Hf.out]
    exact ⟨World.grownBy.trans hg (grown_drewN _ _ _), _, rfl, hA, hR⟩
   ·rw [h43] at hI
    obtain ⟨c, t', rfl⟩ : ∃ c t', r' = c :: t' := by
     cases r' with
     | nil => cases h43
     | cons c t' => exact ⟨c, t', rfl⟩
    simp only [List.length_cons] at hlen hal
    have hAV : partL (t'.length + 1) (c :: t') acc = V := AV.out
    rw [partL, h43, if_pos rfl] at hAV
    simp only [List.tail_cons] at hAV
    obtain ⟨i, hi, c1, f1, hnx⟩ := hR.next
    have HAV := Lib.hid hAV
    clear AV h43 hR hAV
    go_wp2_with (go_at_call 209; refine hI.mono ?_; rintro e w2 ⟨rfl, n2, rfl⟩)
    have g2 : w.grownBy ((wr.drewN n2).setCell ⟨b, 1, none⟩ (.int .i64 ((i : Int) + 1))) (some b) := World.grownBy.trans hg (World.grownBy.trans (grown_drewN _ _ _) (grown_set _))
    have a2 : Avas w.heap.size ((wr.drewN n2).setCell ⟨b, 1, none⟩ (.int .i64 ((i : Int) + 1))) u3 acc := hA.keep (World.grownBy.trans (grown_drewN _ n2 _) (grown_set (b := b) _)) (fun k hk => by cases hk; exact hbw)
    have r2 : RdAt ((wr.drewN n2).setCell ⟨b, 1, none⟩ (.int .i64 ((i : Int) + 1))) b s t' := hnx
    have hEQ : (wr.setCell ⟨b, 1, none⟩ (.int .i64 ((i : Int) + 1))).drewN n2 = (wr.drewN n2).setCell ⟨b, 1, none⟩ (.int .i64 ((i : Int) + 1)) := rfl
    try rw [hEQ]
    clear hEQ hnx
    generalize (wr.drewN n2).setCell ⟨b, 1, none⟩ (.int .i64 ((i : Int) + 1)) = W2 at *
    have hP := pair_c b s t' W2 (hw.grown hO g2) hO r2 hs
    rcases hp : pairR t' with _ | ⟨⟨x, y⟩, r3⟩
    ·rw [hp] at hP
     have hf : none = V := by have := HAV.out; rw [hp] at this; exact this
     have Hf := Lib.hid hf
     clear hf hp
     refine hP.mono ?_
     rintro e w3 ⟨h3, rfl⟩
     refine ⟨rfl, ?_⟩
     rw [← Hf.out]
     exact ⟨World.grownBy.trans g2 h3, rfl⟩
    ·have hr3 := pairR_len hp
     rw [hp] at hP
     have hf : partL r3.length r3 (acc ++ [(x, y)]) = V := by
      have := HAV.out
      rw [hp] at this
      dsimp only at this
      rw [← this]
      exact partL_fuel _ _ _ _ (Nat.le_refl _) (by omega)
     have Hf := Lib.hid hf
     simp only [Option.map_some, avaV] at hP
     clear hf hp
     refine hP.mono ?_
     rintro e w3 ⟨h3, rfl, r3'⟩
     have a3 := a2.keep h3 (fun k hk => by cases hk; exact hbw)
     have g3 := World.grownBy.trans g2 h3
     clear hP c1 f1 a2 g2 r2 h3
     go_wp2_with (at_builtin; refine avas_one rfl _ _ rfl rfl a3 rfl rfl (by omega) ?_; intro v' w4 a4 h4)
     go_roundg r3.length
     case measure => omega
     case rel => exact ⟨r3, _, Nat.le_refl _, by simp; omega, a3.rd h4 hbw r3', a4, Hf.out, a3.grown g3 h4⟩
open Go.RowKit
inductive PartsAre (B : Nat) (w : World) : List Value → List (List (List UInt8 × List UInt8)) → Prop
 | nil : PartsAre B w [] []
 | cons {v : Value} {p : List (List UInt8 × List UInt8)} {vs : List Value} {d : List (List (List UInt8 × List UInt8))} (h : Avas B w v p) (t : PartsAre B w vs d) : PartsAre B w (v :: vs) (p :: d)
theorem PartsAre.len {B : Nat} {w : World} {vs : List Value} {d : List (List (List UInt8 × List UInt8))} (h : PartsAre B w vs d) : vs.length = d.length := by
 induction h with
 | nil => rfl
 | cons _ _ ih => simp [ih]
theorem PartsAre.snoc {B : Nat} {w : World} {vs : List Value} {d : List (List (List UInt8 × List UInt8))} {v : Value} {p : List (List UInt8 × List UInt8)} (h : PartsAre B w vs d) (hv : Avas B w v p) : PartsAre B w (vs ++ [v]) (d ++ [p]) := by
 induction h with
 | nil => exact .cons hv .nil
 | cons h _ ih => exact .cons h ih
theorem PartsAre.imp {B B' : Nat} {w w' : World} {vs : List Value} {d : List (List (List UInt8 × List UInt8))} (h : PartsAre B w vs d) (hi : ∀ v p, v ∈ vs → Avas B w v p → Avas B' w' v p) : PartsAre B' w' vs d := by
 induction h with
 | nil => exact .nil
 | cons h _ ih => exact .cons (hi _ _ (by simp) h) (ih fun v p hv => hi v p (by simp [hv]))
theorem PartsAre.get {B : Nat} {w : World} {vs : List Value} {d : List (List (List UInt8 × List UInt8))} (h : PartsAre B w vs d) : ∀ (i : Nat) (p : List (List UInt8 × List UInt8)), d[i]? = some p → ∃ v, vs[i]? = some v ∧ Avas B w v p := by
 induction h with
 | nil => intro i p hp; simp at hp
 | cons h _ ih =>
  intro i p hp
  cases i with
  | zero => simp at hp; subst hp; exact ⟨_, rfl, h⟩
  | succ i => exact ih i p hp
theorem Avas.lower {B B' : Nat} {w : World} {v : Value} {l : List (List UInt8 × List UInt8)} (h : Avas B w v l) (hB : B' ≤ B) : Avas B' w v l := by
 obtain ⟨⟨h1, h2⟩, h3⟩ := h
 refine ⟨⟨h1, h2.imp id ?_⟩, by omega⟩
 rintro ⟨g, cap, cur, r1, r2, r3⟩
 exact ⟨g, cap, cur, r1, by omega, r3⟩
theorem Avas.isSlice {B : Nat} {w : World} {v : Value} {l : List (List UInt8 × List UInt8)} (h : Avas B w v l) : ∃ A c, v = .slice A l.length c ∧ l.length ≤ c := by
 obtain ⟨⟨h1, h2⟩, h3⟩ := h
 rcases h2 with ⟨rfl, hn⟩ | ⟨g, cap, cur, rfl, r2, r3, r4, _⟩
 ·exact ⟨none, 0, by rw [hn], by omega⟩
 ·exact ⟨_, cap, rfl, r4⟩
theorem PartsAre.mem {B : Nat} {w : World} {vs : List Value} {d : List (List (List UInt8 × List UInt8))} (h : PartsAre B w vs d) {u : Value} (hu : u ∈ vs) : ∃ q, Avas B w u q := by
 induction h with
 | nil => simp at hu
 | cons hA _ ih =>
  rcases List.mem_cons.1 hu with rfl | hu
  ·exact ⟨_, hA⟩
  ·exact ih hu
def DnV (B : Nat) (w : World) (v : Value) (d : List (List (List UInt8 × List UInt8))) (vs : List Value) : Prop :=
 w.ownsRow B 210 1 v d.length vs ∧ B ≤ w.heap.size ∧ PartsAre B w vs d ∧ vs.Pairwise (fun a b => a.ownBlock = none ∨ a.ownBlock ≠ b.ownBlock)
def DnAt (B : Nat) (w : World) (v : Value) (d : List (List (List UInt8 × List UInt8))) : Prop := ∃ vs, DnV B w v d vs
theorem infoRdn : ∃ i, Tryz.prog.info? 210 = some i ∧ i.zero = some (.slice none 0 0) ∧ i.size = 1 ∧ i.bytes = 24 := by
 obtain ⟨i, h1, h2, h3, h4⟩ := info_parts (show (Tryz.prog.info? 210).map (fun i => (i.zero, i.size, i.bytes)) = some (some (.slice none 0 0), 1, 24) by kernel_rfl)
 exact ⟨i, h1, h2, h3, h4⟩
theorem row_ne_avas {B : Nat} {w : World} {v u : Value} {n : Nat} {xs : List Value} {p : List (List UInt8 × List UInt8)} (h : w.ownsRow B 210 1 v n xs) (hu : Avas B w u p) : u.ownBlock = none ∨ u.ownBlock ≠ v.ownBlock := by
 rcases h.2 with ⟨rfl, _⟩ | ⟨g, cap, cur, rfl, _, hg, _⟩
 ·rcases hu.1.2 with ⟨rfl, _⟩ | ⟨g', cap', cur', rfl, _, hg', _⟩
  ·exact .inl rfl
  ·exact .inr (by simp [Value.ownBlock])
 ·rcases hu.1.2 with ⟨rfl, _⟩ | ⟨g', cap', cur', rfl, _, hg', _⟩
  ·exact .inl rfl
  ·refine .inr ?_
   intro e
   have : g' = g := by simpa [Value.ownBlock] using e
   subst this
   rw [hg] at hg'
   injection hg' with hg'
   injection hg' with _ ht
   exact absurd ht (by decide)
theorem avas_grown {B : Nat} {w w' : World} {u : Value} {p : List (List UInt8 × List UInt8)} {r : Option Nat} (hu : Avas B w u p) (hg : w.grownBy w' r) (hne : u.ownBlock = none ∨ u.ownBlock ≠ r) : Avas B w' u p :=
 ⟨hu.1.kept hg hne, Nat.le_trans hu.2 hg.size⟩
theorem DnV.lt {B : Nat} {w : World} {v : Value} {d : List (List (List UInt8 × List UInt8))} {vs : List Value} (h : DnV B w v d vs) : ∀ u ∈ vs, ∀ k, u.ownBlock = some k → k < w.heap.size := by
 intro u hu k hk
 obtain ⟨q, hq⟩ := h.2.2.1.mem hu
 exact (hq.lt k hk).2
theorem DnV.own {B : Nat} {w : World} {v : Value} {d : List (List (List UInt8 × List UInt8))} {vs : List Value} (h : DnV B w v d vs) : ∀ k, v.ownBlock = some k → B ≤ k ∧ k < w.heap.size := fun k hk => h.1.lt k hk
theorem DnV.keep {B : Nat} {w w' : World} {v : Value} {d : List (List (List UInt8 × List UInt8))} {vs : List Value} (h : DnV B w v d vs) {r : Option Nat} (hg : w.grownBy w' r) (hr : ∀ k, r = some k → k < B) : DnV B w' v d vs := by
 obtain ⟨h1, h2, h3, h4⟩ := h
 refine ⟨h1.kept hg ?_, Nat.le_trans h2 hg.size, h3.imp fun u q _ hu => hu.keep hg hr, h4⟩
 rcases hv : v.ownBlock with _ | g
 ·exact .inl rfl
 ·refine .inr ?_
  intro he
  have := hr g he.symm
  have := (h1.lt g hv).1
  omega
theorem dn_one {ops : Array Oper} {rest : List Oper} {o : Oper} {a : Act} {Q : Exit → Act → World → Prop} (hgd : o.guard = none) (s x : Operand) (ho : o.op = .call { callee := .builtin .append, args := #[s, x], argTypes := #[196, 196] })
  {v pv : Value} {d : List (List (List UInt8 × List UInt8))} {vs : List Value} {p : List (List UInt8 × List UInt8)} {B B' N : Nat} {w0 : World} (hs : a.eval s = v) (hd : DnV B w0 v d vs) (hp : Avas B' w0 pv p) (hB' : B ≤ B')
  (hold : ∀ u ∈ vs, ∀ k, u.ownBlock = some k → k < B')
  (hx : a.eval x = .slice (some ⟨N, 0, none⟩) 1 1) (hN : N = w0.heap.size) (hlen : d.length < 1000000)
  (h : ∀ v' w', DnV B w' v' (d ++ [p]) (vs ++ [pv]) → w0.grownBy w' v.ownBlock → wpList Tryz.prog ops Q rest (a.put o.dst v') w') : wpList Tryz.prog ops Q (o :: rest) a (w0.alloc (.cells #[pv] 210)) := by
 subst hN
 obtain ⟨i, h1, h2, h3, h4⟩ := infoRdn
 obtain ⟨d1, d2, d3, d4⟩ := hd
 have d1' := d1.alloc (.cells #[pv] 210)
 refine wpList_append_own _ hgd s x 196 ho B 210 i (.slice none 0 0) 1 24 Tryz.underlying196 h1 h2 h3 h4 rfl (by decide) v _ _ hs d1' ⟨w0.heap.size, 0, none⟩ 1 1 [pv] hx rfl ?_ ?_ (by unfold maxLen; omega) (by omega) (by simp; omega) ?_
 ·intro j y hj
  match j, hj with
  | 0, hj => simp at hj; subst hj; simp [Addr.add]
  | (j + 1), hj => simp at hj
 ·intro y hy
  simp at hy
  subst hy
  obtain ⟨A, c, rfl, _⟩ := hp.isSlice
  rfl
 ·intro v' w' ho' hg _
  have hg' : w0.grownBy w' v.ownBlock := World.grownBy.trans (World.grownBy_alloc _ _ _) hg
  refine h v' w' ⟨by simpa using ho', Nat.le_trans d2 hg'.size, ?_, ?_⟩ hg'
  ·refine PartsAre.snoc (d3.imp fun u q _ hu => avas_grown hu hg' (row_ne_avas d1 hu)) ?_
   exact avas_grown (hp.lower hB') hg' (row_ne_avas d1 (hp.lower hB'))
  ·rw [List.pairwise_append]
   refine ⟨d4, by simp, ?_⟩
   intro u hu y hy
   simp at hy
   subst hy
   rcases hub : u.ownBlock with _ | k
   ·exact .inl rfl
   ·refine .inr ?_
    intro e
    have h5 := hold u hu k hub
    have h6 := (hp.lt k e.symm).1
    omega
theorem DnV.made1 {B B' : Nat} {w : World} {pv : Value} {p : List (List UInt8 × List UInt8)} (hp : Avas B' w pv p) (hB' : B ≤ B') : DnV B (w.alloc (.cells #[pv] 210)) (.slice (some ⟨w.heap.size, 0, none⟩) 1 1) [p] [pv] := by
 have hle := hp.2
 refine ⟨⟨rfl, .inr ⟨w.heap.size, 1, #[pv], rfl, by omega, heap_alloc_new w _, Nat.le_refl _, by decide, rfl, rfl⟩⟩, by simp; omega, .cons ?_ .nil, by simp⟩
 exact (avas_grown hp (World.grownBy_alloc w _ none) (by rcases pv.ownBlock with _ | g; exact .inl rfl; exact .inr (by simp))).lower hB'
theorem DnV.rd {w0 w w' : World} {v : Value} {d : List (List (List UInt8 × List UInt8))} {vs : List Value} {s r : List UInt8} {b : Nat} (h : DnV w0.heap.size w v d vs) (hg : w.grownBy w' v.ownBlock) (hb : b < w0.heap.size) (hR : RdAt w b s r) : RdAt w' b s r :=
 hR.grown hg (fun e => by have := (h.own b e.symm).1; omega)
theorem DnV.grown {w0 w w' : World} {v : Value} {d : List (List (List UInt8 × List UInt8))} {vs : List Value} {r : Option Nat} (h : DnV w0.heap.size w v d vs) (hg0 : w0.grownBy w r) (hg : w.grownBy w' v.ownBlock) : w0.grownBy w' r :=
 ⟨hg.os.trans hg0.os, hg.tape.trans hg0.tape, hg.output.trans hg0.output, Nat.le_trans hg0.size hg.size, fun k hk hne => by
  rw [hg.block k (Nat.lt_of_lt_of_le hk hg0.size)]
  ·exact hg0.block k hk hne
  ·intro e
   have := (h.own k e.symm).1
   omega⟩
def nameL : Nat → List UInt8 → List (List (List UInt8 × List UInt8)) → Option (List (List (List UInt8 × List UInt8)) × List UInt8)
 | 0, r, acc => if hd r 44 then none else some (acc, r)
 | n + 1, r, acc => if hd r 44 then (match partR r.tail with
  | none => none
  | some (x, r') => nameL n r' (acc ++ [x])) else some (acc, r)
def nameFin : Option (List (List (List UInt8 × List UInt8)) × List UInt8) → Option (List (List (List UInt8 × List UInt8)))
 | none => none
 | some (d, r') => if r' = [] then some d else none
def nameGo : Option (List (List UInt8 × List UInt8) × List UInt8) → Option (List (List (List UInt8 × List UInt8)))
 | none => none
 | some (p, r) => nameFin (nameL r.length r [p])
def nameR (s : List UInt8) : Option (List (List (List UInt8 × List UInt8))) := if s = [] then some [] else nameGo (partR s)
theorem partL_len : ∀ (n : Nat) (r r' : List UInt8) (acc l : List (List UInt8 × List UInt8)), partL n r acc = some (l, r') → r'.length ≤ r.length
 | 0, r, r', acc, l, h => by
  rw [partL] at h
  split at h
  ·cases h
  ·cases h; exact Nat.le_refl _
 | n + 1, r, r', acc, l, h => by
  rw [partL] at h
  split at h
  ·split at h
   ·cases h
   ·next x r2 hp =>
    have h1 := pairR_len hp
    have h2 := partL_len n r2 r' _ l h
    have h3 : r.tail.length ≤ r.length := by simp
    omega
  ·cases h; exact Nat.le_refl _
theorem partR_len {r r' : List UInt8} {l : List (List UInt8 × List UInt8)} (h : partR r = some (l, r')) : r'.length < r.length := by
 unfold partR at h
 split at h
 ·cases h
 ·next x r2 hp =>
  have h1 := pairR_len hp
  have h2 := partL_len _ _ _ _ _ h
  omega
theorem nameL_fuel : ∀ (n m : Nat) (r : List UInt8) (acc : List (List (List UInt8 × List UInt8))), r.length ≤ n → r.length ≤ m → nameL n r acc = nameL m r acc
 | 0, m, r, acc, h, _ => by
  obtain rfl : r = [] := List.eq_nil_of_length_eq_zero (by omega)
  cases m <;> rfl
 | n + 1, 0, r, acc, _, h => by
  obtain rfl : r = [] := List.eq_nil_of_length_eq_zero (by omega)
  rfl
 | n + 1, m + 1, r, acc, h1, h2 => by
  rw [nameL, nameL]
  split
  ·cases hp : partR r.tail with
   | none => rfl
   | some y =>
    obtain ⟨x, r'⟩ := y
    have h3 := partR_len hp
    have h4 : r.tail.length ≤ r.length := by simp
    exact nameL_fuel n m r' _ (by omega) (by omega)
  ·rfl
open Go.RowKit
def NameRet (w : World) (b : Nat) (o : Option (List (List (List UInt8 × List UInt8)))) (e : Ending) (w' : World) : Prop :=
 w.grownBy w' (some b) ∧ match o with
  | none => e = .panicked dnPanic
  | some d => ∃ v, e = .returned v ∧ DnAt w.heap.size w' v d
set_option maxRecDepth 100000 in
theorem rdname_c (b : Nat) (s : List UInt8) (w : World) (hw : Env w) (hO : Off b) (h : RdAt w b s s) (hs : s.length ≤ 65536) :
  Calls Tryz.prog 185 #[.pointer (some ⟨b, 0, none⟩)] w (NameRet w b (nameR s)) := by
 have hbw := h.lt
 have c0 : w.cell? ⟨b, 0, none⟩ = some (.string ⟨s.toArray⟩) := by obtain ⟨i, _, _, hR⟩ := h; exact hR.c0
 by_cases hse : s = []
 ·subst hse
  go_enter Tryz.func185, Tryz.ntmps185
  go_wp2_with fail
  go_ret
  exact ⟨World.grownBy.refl _ _, _, rfl, [], World.ownsRow_nil _ _ _ _, Nat.le_refl _, .nil, by simp⟩
 ·have hie : s.isEmpty = false := by cases s <;> simp_all
  have hP := part_c b s s w hw hO h hs
  have hnm : nameR s = nameGo (partR s) := by unfold nameR; rw [if_neg hse]
  have HNM := Lib.hid hnm
  clear hnm hse
  rcases hp : partR s with _ | ⟨p, r⟩
  ·rw [hp] at hP
   have hq : nameR s = none := by rw [HNM.out, hp]; rfl
   have Hq := Lib.hid hq
   clear hq hp h
   go_enter Tryz.func185, Tryz.ntmps185
   go_wp2_with (go_at_call 208; refine hP.mono ?_; rintro e w1 ⟨h1, rfl⟩)
   refine ⟨rfl, ?_⟩
   rw [Hq.out]
   exact ⟨h1, rfl⟩
  ·rw [hp] at hP
   have hr1 := partR_len hp
   have hq : nameR s = nameFin (nameL r.length r [p]) := by rw [HNM.out, hp]; rfl
   generalize hV : nameL r.length r [p] = V at hq
   have HQ := Lib.hid hq
   have HV := Lib.hid hV
   clear hq hp h hV HNM
   go_enter Tryz.func185, Tryz.ntmps185
   go_wp2_with (go_at_call 208; refine hP.mono ?_; rintro e w1 ⟨h1, pv, rfl, ha1, r1'⟩; obtain ⟨A1, cp1, rfl, hcp1⟩ := ha1.isSlice)
   clear hP c0
   go_loopg [3] r.length (fun gk v wr => ∃ (r' : List UInt8) (acc : List (List (List UInt8 × List UInt8))), r'.length ≤ gk ∧ acc.length + r'.length ≤ s.length + 1 ∧ RdAt wr b s r' ∧ DnAt w.heap.size wr v acc ∧ Aside (nameL r'.length r' acc = V) ∧ w.grownBy wr (some b))
   case atStart =>
    exact ⟨r, [p], Nat.le_refl _, by simp; omega, r1'.below ((Below.refl _ _).alloc (Nat.le_refl _) _), ⟨_, DnV.made1 ha1 (Nat.le_refl _)⟩, HV.out, World.grownBy.trans h1 (World.grownBy_alloc _ _ _)⟩
   case round =>
    obtain ⟨r', acc, hlen, hal, hR, ⟨vs, hD⟩, AV, hg⟩ := hrel
    have hI := is_at b s r' 44 wr hR
    cases h44 : hd r' 44
    ·rw [h44] at hI
     have hfin : some (acc, r') = V := by
      have := AV.out
      cases hn : r'.length with
      | zero => rw [hn, nameL, h44] at this; exact this
      | succ n => rw [hn, nameL, h44] at this; exact this
     have Hf := Lib.hid hfin
     have hEn := fun w' (hR : RdAt w' b s r') => ended_at b s r' w' hR
     have HR := Lib.hid hR
     cases r' with
     | nil =>
      have HEn := Lib.hid hEn
      clear hfin AV h44 hEn hR
      go_wp2_with (first | (go_at_call 209; refine hI.mono ?_; rintro e w2 ⟨rfl, n2, rfl⟩) | (go_at_call 210; refine (HEn.out _ (by exact HR.out)).mono ?_; rintro e w2 ⟨rfl, n3, rfl⟩))
      go_ret
      rw [HQ.out, ← Hf.out]
      exact ⟨World.grownBy.trans hg (grown_drewN _ _ _), _, rfl, vs, hD.keep (grown_drewN _ _ none) (fun k hk => by cases hk)⟩
     | cons c t =>
      have HEn := Lib.hid hEn
      clear hfin AV h44 hEn hR
      go_wp2_with (first | (go_at_call 209; refine hI.mono ?_; rintro e w2 ⟨rfl, n2, rfl⟩) | (go_at_call 210; refine (HEn.out _ (by exact HR.out)).mono ?_; rintro e w2 ⟨rfl, n3, rfl⟩))
      refine ⟨rfl, ?_⟩
      rw [HQ.out, ← Hf.out]
      exact ⟨World.grownBy.trans hg (grown_drewN _ _ _), rfl⟩
    ·rw [h44] at hI
     obtain ⟨c, t', rfl⟩ : ∃ c t', r' = c :: t' := by
      cases r' with
      | nil => cases h44
      | cons c t' => exact ⟨c, t', rfl⟩
     simp only [List.length_cons] at hlen hal
     have hAV : nameL (t'.length + 1) (c :: t') acc = V := AV.out
     rw [nameL, h44, if_pos rfl] at hAV
     simp only [List.tail_cons] at hAV
     obtain ⟨i, hi, c1, f1, hnx⟩ := hR.next
     have HAV := Lib.hid hAV
     clear AV h44 hR hAV
     go_wp2_with (go_at_call 209; refine hI.mono ?_; rintro e w2 ⟨rfl, n2, rfl⟩)
     have g2 : w.grownBy ((wr.drewN n2).setCell ⟨b, 1, none⟩ (.int .i64 ((i : Int) + 1))) (some b) := World.grownBy.trans hg (World.grownBy.trans (grown_drewN _ _ _) (grown_set _))
     have a2 : DnV w.heap.size ((wr.drewN n2).setCell ⟨b, 1, none⟩ (.int .i64 ((i : Int) + 1))) u3 acc vs := hD.keep (World.grownBy.trans (grown_drewN _ n2 _) (grown_set (b := b) _)) (fun k hk => by cases hk; exact hbw)
     have r2 : RdAt ((wr.drewN n2).setCell ⟨b, 1, none⟩ (.int .i64 ((i : Int) + 1))) b s t' := hnx
     have hEQ : (wr.setCell ⟨b, 1, none⟩ (.int .i64 ((i : Int) + 1))).drewN n2 = (wr.drewN n2).setCell ⟨b, 1, none⟩ (.int .i64 ((i : Int) + 1)) := rfl
     try rw [hEQ]
     clear hEQ hnx
     generalize (wr.drewN n2).setCell ⟨b, 1, none⟩ (.int .i64 ((i : Int) + 1)) = W2 at *
     have hP := part_c b s t' W2 (hw.grown hO g2) hO r2 hs
     have hsz2 := g2.size
     rcases hp : partR t' with _ | ⟨q, r3⟩
     ·rw [hp] at hP
      have hf : none = V := by have := HAV.out; rw [hp] at this; exact this
      have Hf := Lib.hid hf
      clear hf hp
      refine hP.mono ?_
      rintro e w3 ⟨h3, rfl⟩
      refine ⟨rfl, ?_⟩
      rw [HQ.out, ← Hf.out]
      exact ⟨World.grownBy.trans g2 h3, rfl⟩
     ·have hr3 := partR_len hp
      rw [hp] at hP
      have hf : nameL r3.length r3 (acc ++ [q]) = V := by
       have := HAV.out
       rw [hp] at this
       dsimp only at this
       rw [← this]
       exact nameL_fuel _ _ _ _ (Nat.le_refl _) (by omega)
      have Hf := Lib.hid hf
      clear hf hp
      refine hP.mono ?_
      rintro e w3 ⟨h3, pv, rfl, ha3, r3'⟩
      have hold := a2.lt
      have Hold := Lib.hid hold
      have a3 := a2.keep h3 (fun k hk => by cases hk; exact hbw)
      have g3 := World.grownBy.trans g2 h3
      clear hP c1 f1 a2 g2 r2 h3 hold
      obtain ⟨A3, cp3, rfl, hcp3⟩ := ha3.isSlice
      go_wp2_with (at_builtin; refine dn_one rfl _ _ rfl rfl a3 ha3 hsz2 Hold.out rfl rfl (by omega) ?_; intro v' w4 a4 h4)
      go_roundg r3.length
      case measure => omega
      case rel => exact ⟨r3, _, Nat.le_refl _, by simp; omega, a3.rd h4 hbw r3', ⟨_, a4⟩, Hf.out, a3.grown g3 h4⟩
end Go.Proofs.YtconnibnpckadaaGreatDoor
