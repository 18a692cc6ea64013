/- Contracts of the document's answer: the desk's pair. -/
import Derived.Test.YtgpecklibcgifaaGreatDoorWr3
import Derived.Test.YtgpecklibcgifaaGreatDoorW5
import Derived.Outline
import Derived.RegionTactic
import Derived.ChangeAlike
import Derived.BigRegion
import Derived.Laws.ResultCell
set_option linter.all false
namespace Go.Proofs.YtgpecklibcgifaaGreatDoor
open Go.RowKit

theorem DkAt.keep {w w' : World} {b : Nat} {s r : List UInt8} (h : DkAt w b s r) {q : Option Nat} (hg : w.grownBy w' q) (hne : some b ≠ q) : DkAt w' b s r := by
  obtain ⟨i, h1, h2, h3⟩ := h; exact ⟨i, h1, h2, h3.keep hg hne⟩
theorem DkAt.drewN {w : World} {b : Nat} {s r : List UInt8} (h : DkAt w b s r) (n : Nat) : DkAt (w.drewN n) b s r := h
theorem DkAt.lt {w : World} {b : Nat} {s r : List UInt8} (h : DkAt w b s r) : b < w.heap.size := by obtain ⟨i, _, _, h⟩ := h; exact h.lt
theorem inTy_cases {c : UInt8} (hin : inTy c = true) : letB c.toNat = true ∨ (letB c.toNat = false ∧ digB c.toNat = true) ∨ (letB c.toNat = false ∧ digB c.toNat = false ∧ ((c.toNat : Int) == 45) = true) ∨ (letB c.toNat = false ∧ digB c.toNat = false ∧ ((c.toNat : Int) == 45) = false ∧ ((c.toNat : Int) == 46) = true) := by
  unfold inTy inTypeB at hin
  cases h1 : letB c.toNat <;> cases h2 : digB c.toNat <;> cases h3 : ((c.toNat : Int) == 45) <;> cases h4 : ((c.toNat : Int) == 46) <;> simp [h1, h2, h3, h4] at hin ⊢
theorem inTy_no {c : UInt8} (hin : ¬ inTy c = true) : letB c.toNat = false ∧ digB c.toNat = false ∧ ((c.toNat : Int) == 45) = false ∧ ((c.toNat : Int) == 46) = false := by
  unfold inTy inTypeB at hin
  cases h1 : letB c.toNat <;> cases h2 : digB c.toNat <;> cases h3 : ((c.toNat : Int) == 45) <;> cases h4 : ((c.toNat : Int) == 46) <;> simp [h1, h2, h3, h4] at hin ⊢
theorem tw_step {p : UInt8 → Bool} {s : List UInt8} {i0 j : Nat} (h0 : i0 ≤ j) (hlt : j < s.length) (hin : p s[j] = true) (h : (s.drop i0).takeWhile p = (s.drop i0).take (j - i0) ++ (s.drop j).takeWhile p ∧ (s.drop i0).dropWhile p = (s.drop j).dropWhile p) :
    (s.drop i0).takeWhile p = (s.drop i0).take (j + 1 - i0) ++ (s.drop (j + 1)).takeWhile p ∧ (s.drop i0).dropWhile p = (s.drop (j + 1)).dropWhile p := by
  rw [List.drop_eq_getElem_cons hlt, List.takeWhile_cons, List.dropWhile_cons, hin] at h
  simp only [if_true] at h
  refine ⟨?_, h.2⟩
  rw [h.1, show j + 1 - i0 = (j - i0) + 1 by omega, List.take_succ_eq_append_getElem (by simp; omega), List.append_assoc]
  congr 1
  simp [show i0 + (j - i0) = j by omega]
theorem tw_stop {p : UInt8 → Bool} {s : List UInt8} {i0 j : Nat} (hgo : ¬ ∃ hlt : j < s.length, p s[j] = true) (h : (s.drop i0).takeWhile p = (s.drop i0).take (j - i0) ++ (s.drop j).takeWhile p ∧ (s.drop i0).dropWhile p = (s.drop j).dropWhile p) :
    (s.drop i0).takeWhile p = (s.drop i0).take (j - i0) ∧ (s.drop i0).dropWhile p = s.drop j := by
  have hd : (s.drop j).takeWhile p = [] ∧ (s.drop j).dropWhile p = s.drop j := by
    by_cases hlt : j < s.length
    · have hn : p s[j] = false := by
        cases hc : p s[j]
        · rfl
        · exact absurd ⟨hlt, hc⟩ hgo
      rw [List.drop_eq_getElem_cons hlt, List.takeWhile_cons, List.dropWhile_cons, hn]
      simp
    · rw [List.drop_eq_nil_of_le (by omega)]; simp
  rw [hd.1, hd.2, List.append_nil] at h
  exact h
theorem slice_str (s : List UInt8) (i j : Nat) (W : World) (h1 : i ≤ j) (h2 : j ≤ s.length) : (Instr.slice 9 (.string ⟨s.toArray⟩) (some (.int .i64 (i : Int))) (some (.int .i64 (j : Int))) none).run Tryz.prog W = .ok (.string ⟨((s.drop i).take (j - i)).toArray⟩) W := by
  have := run_slice_string (P := Tryz.prog) W 9 ⟨s.toArray⟩ .i64 .i64 (i : Int) (j : Int) Tryz.underlying9 (by omega) (by omega) (by simp [ByteArray.size]; omega)
  rw [this]
  simp only [Int.toNat_natCast]
  rw [ba_ext]
  rfl
theorem rvalL_len : ∀ (n : Nat) (r acc : List UInt8) (k : Nat) (v r' : List UInt8), rvalL n r acc k = some (v, r') → r'.length ≤ r.length
  | _, [], _, _, v, r', h => by simp [rvalL] at h; simp [h.2]
  | 0, _ :: _, _, _, v, r', h => by simp [rvalL] at h
  | n + 1, c :: t, acc, k, v, r', h => by
    rw [rvalL] at h
    split at h
    · split at h
      · cases h
      · next x t' he =>
        have := escR_len he
        have := rvalL_len n t' _ _ v r' h
        simp; omega
    · split at h
      · cases h; exact Nat.le_refl _
      · have := rvalL_len n t _ _ v r' h
        simp; omega
theorem rvalL_fuel : ∀ (n m : Nat) (r acc : List UInt8) (k : Nat), r.length ≤ n → r.length ≤ m → rvalL n r acc k = rvalL m r acc k
  | _, _, [], _, _, _, _ => by simp [rvalL]
  | 0, _, _ :: _, _, _, h, _ => absurd h (by simp)
  | _, 0, _ :: _, _, _, _, h => absurd h (by simp)
  | n + 1, m + 1, c :: t, acc, k, h1, h2 => by
    simp only [List.length_cons] at h1 h2
    simp only [rvalL]
    split
    · cases he : escR t with
      | none => rfl
      | some y =>
        obtain ⟨x, t'⟩ := y
        have := escR_len he
        exact rvalL_fuel n m t' _ _ (by omega) (by omega)
    · split
      · rfl
      · exact rvalL_fuel n m t _ _ (by omega) (by omega)
theorem rvalR_len {r r' v : List UInt8} (h : rvalR r = some (v, r')) : r'.length ≤ r.length := by
  unfold rvalR at h
  split at h
  · split at h
    · cases h
    · next v2 r2 h2 =>
      cases h
      have := hexR_len h2
      have := dropWhile_le (· == 32) r2
      simp at *
      unfold blk
      omega
  · exact rvalL_len _ _ _ _ _ _ h
theorem rpairR_len {r r' : List UInt8} {x : List UInt8 × List UInt8} (h : rpairR r = some (x, r')) : r'.length < r.length := by
  unfold rpairR at h
  split at h
  · cases h
  · next t r2 ht =>
    split at h
    · next h61 =>
      split at h
      · cases h
      · next v r5 hv =>
        cases h
        have h2 := rvalR_len hv
        have h3 := dropWhile_le (· == 32) (blk r2).tail
        have h4 : (blk r2).tail.length < (blk r2).length := by
          cases hb : blk r2 with
          | nil => rw [hb] at h61; cases h61
          | cons c t => simp
        have h5 := dropWhile_le (· == 32) r2
        have h6 : r2.length ≤ (blk r).length := by
          unfold typR at ht
          split at ht
          · cases ht; exact dropWhile_le _ _
          · cases ht
        have h7 := dropWhile_le (· == 32) r
        unfold blk at *
        omega
    · cases h
theorem isEmpty_ne {v : List UInt8} (h : v ≠ []) : v.isEmpty = false := by
  cases v with
  | nil => exact absurd rfl h
  | cons _ _ => rfl
theorem ret_ava {fn : Func} {p u : Tmp} (h : fn.results = #[.cell p 85, .tmp u]) {R : Ending → World → Prop} {a : Act} {w : World} {n : Nat} {x y : List UInt8} {bb : Bool}
    (hp : a.tmps.getD p undef = .pointer (some ⟨n, 0, none⟩)) (hu : a.tmps.getD u undef = .bool bb) (hd : a.defers = [])
    (c0 : w.cell? ⟨n, 0, none⟩ = some (.string ⟨x.toArray⟩)) (c1 : w.cell? ⟨n, 1, none⟩ = some (.string ⟨y.toArray⟩))
    (hR : R (.returned (.tuple #[.agg #[.string ⟨x.toArray⟩, .string ⟨y.toArray⟩], .bool bb])) w) : bodyPost Tryz.prog fn R .ret a w := by
  refine bodyPost_ret (v := .tuple #[.agg #[.string ⟨x.toArray⟩, .string ⟨y.toArray⟩], .bool bb]) ?_ hd hR
  rw [results_cell_tmp h, hp, hu]
  simp [go_sem, c0, c1]
/-- While a pair is read: the pair so far in block n5, the result's own block, the desk's block alone has changed. -/
structure PSt (w W : World) (b n5 : Nat) (ty v : List UInt8) : Prop where
  k5 : Bk W n5 85 #[.string ⟨ty.toArray⟩, .string ⟨v.toArray⟩]
  k3 : Bk W w.heap.size 85 #[.string ⟨#[]⟩, .string ⟨#[]⟩]
  g : w.grownBy W (some b)
  h5 : w.heap.size < n5
  hb : b < w.heap.size
theorem PSt.step {w W W' : World} {b n5 : Nat} {ty v : List UInt8} (h : PSt w W b n5 ty v) (hg : W.grownBy W' (some b)) : PSt w W' b n5 ty v :=
  ⟨h.k5.grown hg (by have := h.h5; have := h.hb; simp; omega), h.k3.grown hg (by have := h.hb; simp; omega), World.grownBy.trans h.g hg, h.h5, h.hb⟩
theorem PSt.own {w W W' : World} {b n5 : Nat} {ty v : List UInt8} (h : PSt w W b n5 ty v) {r : Option Nat} (hg : W.grownBy W' r) (hr : ∀ k, r = some k → n5 < k) : PSt w W' b n5 ty v :=
  ⟨h.k5.grown hg (fun e => by have := hr _ e.symm; omega), h.k3.grown hg (fun e => by have := hr _ e.symm; have := h.h5; omega), by
    cases r with
    | none => exact ⟨hg.os.trans h.g.os, hg.tape.trans h.g.tape, hg.output.trans h.g.output, Nat.le_trans h.g.size hg.size, fun k hk hne => (hg.block k (Nat.lt_of_lt_of_le hk h.g.size) (by simp)).trans (h.g.block k hk hne)⟩
    | some k => exact grown_own h.g hg (by have := hr k rfl; have := h.h5; omega), h.h5, h.hb⟩
theorem PSt.val {w W : World} {b n5 : Nat} {ty v : List UInt8} (h : PSt w W b n5 ty v) (u : List UInt8) : PSt w (W.setCell ⟨n5, 1, none⟩ (.string ⟨u.toArray⟩)) b n5 ty u :=
  ⟨by have := h.k5.set 1 (.string ⟨u.toArray⟩); simpa using this, h.k3.far (by have := h.h5; omega) _, grown_own h.g (grown_set _) (by have := h.h5; omega), h.h5, h.hb⟩
theorem PSt.fin {w W : World} {b n5 : Nat} {ty v : List UInt8} (h : PSt w W b n5 ty v) (x y : List UInt8) : w.grownBy ((W.setCell ⟨w.heap.size, 0, none⟩ (.string ⟨x.toArray⟩)).setCell ⟨w.heap.size, 1, none⟩ (.string ⟨y.toArray⟩)) (some b) :=
  grown_own (grown_own h.g (grown_set _) (Nat.le_refl _)) (grown_set _) (Nat.le_refl _)
theorem DkAt.fin {W : World} {b n : Nat} {s r : List UInt8} (h : DkAt W b s r) (hn : b < n) (x y : Value) : DkAt ((W.setCell ⟨n, 0, none⟩ x).setCell ⟨n, 1, none⟩ y) b s r :=
  (h.keep (grown_set (b := n) (o := 0) x) (by simp; omega)).keep (grown_set (b := n) (o := 1) y) (by simp; omega)
theorem DkAt.next {w : World} {b : Nat} {s t : List UInt8} {c : UInt8} (h : DkAt w b s (c :: t)) : ∃ i : Nat, i < s.length ∧ w.cell? ⟨b, 1, none⟩ = some (.int .i64 i) ∧ w.frozen? ⟨b, 1, none⟩ = false ∧ DkAt (w.setCell ⟨b, 1, none⟩ (.int .i64 ((i : Int) + 1))) b s t := by
  obtain ⟨i, h1, h2, h3⟩ := h
  have ⟨hlt, hdt⟩ := drop_succ h2
  exact ⟨i, hlt, h3.c1, h3.f1, i + 1, by omega, hdt, h3.set (i + 1)⟩
theorem hd_cons {r : List UInt8} {c : Int} (h : hd r c = true) : ∃ x t, r = x :: t := by
  cases r with
  | nil => cases h
  | cons x t => exact ⟨x, t, rfl⟩
theorem BufO.dk {B : Nat} {w w' : World} {v : Value} {l s : List UInt8} {b i : Nat} (h : BufO B w v l) (hg : w.grownBy w' v.ownBlock) (hb : b < B) (hR : Dk w b s i) : Dk w' b s i :=
  hR.keep hg (fun e => by have := (h.lt b e.symm).1; omega)
theorem BufO.pst {B : Nat} {w W W' : World} {v : Value} {l ty u : List UInt8} {b n5 : Nat} (h : BufO B W v l) (hg : W.grownBy W' v.ownBlock) (hn : n5 < B) (hS : PSt w W b n5 ty u) : PSt w W' b n5 ty u :=
  hS.own hg (fun k hk => by have := (h.lt k hk).1; omega)
theorem n8_t {c : UInt8} {k : Nat} (hk : k < 256) (h : c = UInt8.ofNat k) : ((c.toNat : Int) == (k : Int)) = true := by
  rw [h, beq_iff_eq, UInt8.toNat_ofNat']; omega
theorem n8_f {c : UInt8} {k : Nat} (hk : k < 256) (h : c ≠ UInt8.ofNat k) : ((c.toNat : Int) == (k : Int)) = false := by
  rw [beq_eq_false_iff_ne]; intro e; exact h (UInt8.toNat_inj.1 (by rw [UInt8.toNat_ofNat']; omega))
theorem esc_iff (n : UInt8) : 0 ≤ Lib.indexByte escCs n ↔ specB n = true ∨ n = 61 ∨ n = 35 ∨ n = 32 := by
  rw [idx_mem, specB_iff]
  simp only [escCs, specCs, List.mem_cons, List.not_mem_nil, or_false, or_assoc]
theorem esc_yes {n : UInt8} (h : 0 ≤ Lib.indexByte escCs n) : specB n = true ∨ (specB n = false ∧ ((n.toNat : Int) == 61) = true) ∨ (specB n = false ∧ ((n.toNat : Int) == 61) = false ∧ ((n.toNat : Int) == 35) = true) ∨ (specB n = false ∧ ((n.toNat : Int) == 61) = false ∧ ((n.toNat : Int) == 35) = false ∧ ((n.toNat : Int) == 32) = true) := by
  have h' := (esc_iff n).1 h
  cases hs : specB n
  · rw [hs] at h'
    by_cases h61 : n = 61
    · exact .inr (.inl ⟨rfl, n8_t (k := 61) (by omega) h61⟩)
    · by_cases h35 : n = 35
      · exact .inr (.inr (.inl ⟨rfl, n8_f (k := 61) (by omega) h61, n8_t (k := 35) (by omega) h35⟩))
      · have h32 : n = 32 := by
          rcases h' with h' | h' | h' | h'
          · cases h'
          · exact absurd h' h61
          · exact absurd h' h35
          · exact h'
        exact .inr (.inr (.inr ⟨rfl, n8_f (k := 61) (by omega) h61, n8_f (k := 35) (by omega) h35, n8_t (k := 32) (by omega) h32⟩))
  · exact .inl rfl
theorem esc_no {n : UInt8} (h : ¬ 0 ≤ Lib.indexByte escCs n) : specB n = false ∧ ((n.toNat : Int) == 61) = false ∧ ((n.toNat : Int) == 35) = false ∧ ((n.toNat : Int) == 32) = false := by
  have h' := fun x => h ((esc_iff n).2 x)
  refine ⟨?_, n8_f (k := 61) (by omega) (fun e => h' (.inr (.inl e))), n8_f (k := 35) (by omega) (fun e => h' (.inr (.inr (.inl e)))), n8_f (k := 32) (by omega) (fun e => h' (.inr (.inr (.inr e))))⟩
  cases hs : specB n
  · rfl
  · exact absurd (.inl hs) h'
section
variable {ops : Array Oper} {o : Oper} {a : Act} {K : Act → World → Prop} {Q : Exit → Act → World → Prop} {E : Prop}
/-- At a step of a region that draws: 'buf = append(buf, c)'. -/
theorem step_byteO (hgd : o.guard = none) (s x : Operand) (ho : o.op = .call { callee := .builtin .append, args := #[s, x], argTypes := #[88, 88] })
    {v : Value} {l : List UInt8} {B : Nat} {w0 : World} {c : UInt8} (hs : a.eval s = v) (hb : BufO B w0 v l)
    (hx : a.eval x = .slice (some ⟨w0.heap.size, 0, none⟩) 1 1) (hlen : l.length + 1 ≤ 140737488355328)
    (h : ∀ v' w', BufO B w' v' (l ++ [c]) → w0.grownBy w' v.ownBlock → K (a.put o.dst v') w') :
    if Region.wanted o (yielded ops a.tmps) = true then Oper.wp Tryz.prog o a (w0.alloc (.cells #[.int .u8 c.toNat] 5)).drew K Q else E := by
  obtain ⟨i, h1, h2, h3, h4⟩ := infoByte
  have hb' : BufO B (w0.alloc (.cells #[.int .u8 c.toNat] 5)).drew v l := (hb.alloc (.cells #[.int .u8 c.toNat] 5)).drewN 1
  refine step_append_ownF hgd s x 88 ho B 5 i (.int .u8 0) 1 1 Tryz.underlying88 h1 h2 h3 h4 rfl (by decide) v _ _ hs hb'.1 ⟨w0.heap.size, 0, none⟩ 1 1 [.int .u8 c.toNat] hx rfl ?_ ?_ (by unfold maxLen; omega) (by omega) hb'.2 ?_
  · intro j u hj
    match j, hj with
    | 0, hj => simp at hj; subst hj; simp [Addr.add]
    | (j + 1), hj => simp at hj
  · intro u hu; simp at hu; subst hu; rfl
  · intro v' w' ho' hg
    refine h v' w' ⟨by simpa [Lib.byteCells] using ho', Nat.le_trans hb'.2 hg.size⟩ (World.grownBy.trans (World.grownBy_alloc _ _ _) ⟨hg.os, hg.tape, hg.output, hg.size, hg.block⟩)
end
/-- A pair behind its type. -/
def pairRest (ty r4 : List UInt8) : Option ((List UInt8 × List UInt8) × List UInt8) :=
  if isTypeL ty then (if hd r4 61 then (match rvalR (blk r4.tail) with
    | none => none
    | some (v, r5) => some ((ty, v), r5)) else none) else none
theorem pairRest_eq {r q ty r2 : List UInt8} (h0 : q = blk r) (h1 : q.takeWhile inTy = ty) (h2 : q.dropWhile inTy = r2) : rpairR r = pairRest ty (blk r2) := by
  unfold rpairR pairRest typR
  rw [← h0, h1, h2]
  cases isTypeL ty <;> rfl
/-- What pair hands back. -/
def PairRet (w : World) (b : Nat) (s : List UInt8) (o : Option ((List UInt8 × List UInt8) × List UInt8)) (e : Ending) (w' : World) : Prop :=
  w.grownBy w' (some b) ∧ ∃ x, e = .returned (.tuple #[avaV x, .bool o.isSome]) ∧ ∀ y r', o = some (y, r') → x = y ∧ DkAt w' b s r'
end Go.Proofs.YtgpecklibcgifaaGreatDoor
/- Contracts of the document's answer: the desk's pair. (Printed by gen_pair.py.) -/
namespace Go.Proofs.YtgpecklibcgifaaGreatDoor
open Go.RowKit

set_option maxRecDepth 100000 in
set_option maxHeartbeats 40000000 in
theorem dpair_r (b : Nat) (s r : List UInt8) (w : World) (h : DkAt w b s r) (hs : s.length ≤ 65536) :
    Calls Tryz.prog 127 #[.pointer (some ⟨b, 0, none⟩)] w (PairRet w b s (rpairR r)) := by
  have hget := ba_get
  have hbw := h.lt
  have HR := Lib.hid h
  clear h
  have hz : (zeroValue 85).run Tryz.prog w = .ok (.agg #[.string ⟨#[]⟩, .string ⟨#[]⟩]) w := by kernel_rfl
  obtain ⟨O, hO⟩ : ∃ O, rpairR r = O := ⟨_, rfl⟩
  rw [hO]
  have HO := Lib.hid hO
  clear hO
  go_enter Tryz.func127, Tryz.ntmps127
  go_wp2_with fail
  have k0 := Bk.new w 85 #[.string ⟨#[]⟩, .string ⟨#[]⟩]
  have g0 : w.grownBy (w.alloc (.cells #[.string ⟨#[]⟩, .string ⟨#[]⟩] 85)) (some b) := World.grownBy_alloc _ _ _
  have r0 : DkAt (w.alloc (.cells #[.string ⟨#[]⟩, .string ⟨#[]⟩] 85)) b s r := HR.out.keep (World.grownBy_alloc w _ none) (by simp)
  generalize w.alloc (.cells #[.string ⟨#[]⟩, .string ⟨#[]⟩] 85) = W0 at *
  have hn0 : some w.heap.size ≠ some b := by simp; omega
  refine (dblanks_r b s r W0 r0 hs).mono ?_
  rintro e W1 ⟨rfl, r1, h1⟩
  have g1 := World.grownBy.trans g0 h1
  have K0 := Lib.hid (k0.grown h1 hn0)
  obtain ⟨i0, hi0, hd0, hk0⟩ := r1
  have c1 := hk0.c1
  have HK0 := Lib.hid hk0
  have HD0 := Lib.hid hd0
  clear k0 r0 h1 g0 hz hk0 hd0 HR
  go_wp2_with fail
  -- the loop over the type's bytes
  go_loopg [] s.length (fun gk wr => ∃ j : Nat, i0 ≤ j ∧ j ≤ s.length ∧ s.length ≤ j + gk ∧ Dk wr b s j ∧ W1.grownBy wr (some b) ∧ Aside ((s.drop i0).takeWhile inTy = (s.drop i0).take (j - i0) ++ (s.drop j).takeWhile inTy ∧ (s.drop i0).dropWhile inTy = (s.drop j).dropWhile inTy))
  case atStart => exact ⟨i0, Nat.le_refl _, hi0, by omega, HK0.out, World.grownBy.refl _ _, by show _ ∧ _; simp⟩
  case round =>
    obtain ⟨j, hj0, hj, hgk, hDk, hgr, AT⟩ := hrel
    have d0 := hDk.c0
    have d1 := hDk.c1
    have f1 := hDk.f1
    have HDk := Lib.hid hDk
    have jj0 : (0 : Int) ≤ (j : Int) := by omega
    clear hDk
    by_cases hgo : ∃ hlt : j < s.length, inTy s[j] = true
    · obtain ⟨hlt, hin⟩ := hgo
      have jj1 : (j : Int) < (s.length : Int) := by omega
      obtain ⟨q, rfl⟩ : ∃ q, gk = q + 1 := ⟨gk - 1, by omega⟩
      have AT' : Aside ((s.drop i0).takeWhile inTy = (s.drop i0).take (j + 1 - i0) ++ (s.drop (j + 1)).takeWhile inTy ∧ (s.drop i0).dropWhile inTy = (s.drop (j + 1)).dropWhile inTy) := tw_step hj0 hlt hin AT.out
      have HL := Lib.hid (fun W => letter_r (s[j].toNat) W)
      have HDg := Lib.hid (fun W => digit_r (s[j].toNat) W)
      have hcase := inTy_cases hin
      clear hin AT
      rcases hcase with a1 | ⟨a1, a2⟩ | ⟨a1, a2, a3⟩ | ⟨a1, a2, a3, a4⟩
      · rw [a1] at HL
        as_aux_lemma =>
          clear a1
          go_wp2_with fail
          go_quiet ((first | (go_at_call 84; exact quiet_l (HL.out _)) | (go_at_call 85; exact quiet_l (HDg.out _))))
          go_wp2_with fail
          go_roundg q
          case measure => omega
          case rel => exact ⟨j + 1, by omega, by omega, by omega, (HDk.out.drewN _).set (j + 1), World.grownBy.trans hgr (World.grownBy.trans (grown_drewN _ _ _) (grown_set _)), AT'.out⟩
      · rw [a1] at HL
        rw [a2] at HDg
        as_aux_lemma =>
          clear a1 a2
          go_wp2_with fail
          go_quiet ((first | (go_at_call 84; exact quiet_l (HL.out _)) | (go_at_call 85; exact quiet_l (HDg.out _))))
          go_wp2_with fail
          go_roundg q
          case measure => omega
          case rel => exact ⟨j + 1, by omega, by omega, by omega, (HDk.out.drewN _).set (j + 1), World.grownBy.trans hgr (World.grownBy.trans (grown_drewN _ _ _) (grown_set _)), AT'.out⟩
      · rw [a1] at HL
        rw [a2] at HDg
        as_aux_lemma =>
          clear a1 a2
          go_wp2_with fail
          go_quiet ((first | (go_at_call 84; exact quiet_l (HL.out _)) | (go_at_call 85; exact quiet_l (HDg.out _))))
          go_wp2_with fail
          go_roundg q
          case measure => omega
          case rel => exact ⟨j + 1, by omega, by omega, by omega, (HDk.out.drewN _).set (j + 1), World.grownBy.trans hgr (World.grownBy.trans (grown_drewN _ _ _) (grown_set _)), AT'.out⟩
      · rw [a1] at HL
        rw [a2] at HDg
        as_aux_lemma =>
          clear a1 a2
          go_wp2_with fail
          go_quiet ((first | (go_at_call 84; exact quiet_l (HL.out _)) | (go_at_call 85; exact quiet_l (HDg.out _))))
          go_wp2_with fail
          go_roundg q
          case measure => omega
          case rel => exact ⟨j + 1, by omega, by omega, by omega, (HDk.out.drewN _).set (j + 1), World.grownBy.trans hgr (World.grownBy.trans (grown_drewN _ _ _) (grown_set _)), AT'.out⟩
    · have hT : (s.drop i0).takeWhile inTy = (s.drop i0).take (j - i0) ∧ (s.drop i0).dropWhile inTy = s.drop j := tw_stop hgo AT.out
      have HT := Lib.hid hT
      have hend : (j = s.length) ∨ ∃ hlt : j < s.length, inTy s[j] ≠ true := by
        by_cases hlt : j < s.length
        · right; exact ⟨hlt, fun e => hgo ⟨hlt, e⟩⟩
        · left; omega
      clear hgo AT hT
      have hsl : ∀ W : World, (Instr.slice 9 (.string ⟨s.toArray⟩) (some (.int .i64 (i0 : Int))) (some (.int .i64 (j : Int))) none).run Tryz.prog W = .ok (.string ⟨((s.drop i0).take (j - i0)).toArray⟩) W := fun W => slice_str s i0 j W hj0 hj
      have htl : ((s.drop i0).take (j - i0)).length ≤ 65536 := by simp; omega
      generalize (s.drop i0).take (j - i0) = ty at *
      have HL := Lib.hid (fun c W => letter_r c W)
      have HDg := Lib.hid (fun c W => digit_r c W)
      rcases hend with hend | ⟨hlt, hno⟩
      case' inl =>
        have hn : decide ((j : Int) < (s.length : Int)) = false := by simp; omega
        have hn2 : decide (j < s.length) = false := by simp; omega
        have HEND : Hid (s.drop j = []) := Lib.hid (by rw [hend]; simp)
        clear HL HDg
        go_wp2_with fail
        go_quiet (fail)
        clear hn hn2 hend
      case' inr =>
        obtain ⟨q1, q2, q3, q4⟩ := inTy_no hno
        have jj1 : (j : Int) < (s.length : Int) := by omega
        have HL1 := Lib.hid (fun W => HL.out (s[j].toNat) W)
        have HD1 := Lib.hid (fun W => HDg.out (s[j].toNat) W)
        rw [q1] at HL1
        rw [q2] at HD1
        have HEND : Hid True := Lib.hid trivial
        clear hno q1 q2 HL HDg
        go_wp2_with fail
        go_quiet ((first | (go_at_call 84; exact quiet_l (HL1.out _)) | (go_at_call 85; exact quiet_l (HD1.out _))))
        clear q3 q4 HL1 HD1
      all_goals
        have hD2 := HDk.out.drewN nq
        have g2 : w.grownBy (wr.drewN nq) (some b) := World.grownBy.trans g1 (World.grownBy.trans hgr (grown_drewN _ _ _))
        have k2 := (K0.out.grown hgr hn0).drewN nq
        clear hgr HDk d0 d1 f1 c1 HK0 K0
        generalize wr.drewN nq = W2 at *
        have d0 := hD2.c0
        have d1 := hD2.c1
        have f1 := hD2.f1
        have hD3 : Dk (W2.alloc (.cells #[.string ⟨#[]⟩, .string ⟨#[]⟩] 85)) b s j := hD2.keep (World.grownBy_alloc W2 _ none) (by simp)
        have e0 := hD3.c0
        have e1 := hD3.c1
        have hz2 : ∀ W : World, (zeroValue 85).run Tryz.prog W = .ok (.agg #[.string ⟨#[]⟩, .string ⟨#[]⟩]) W := fun W => by kernel_rfl
        go_wp2_with fail
        go_region
        have hO2 : O = pairRest ty (blk (s.drop j)) := HO.out.symm.trans (pairRest_eq HD0.out HT.out.1 HT.out.2)
        have HO2 := Lib.hid hO2
        have hD4 : Dk (W2.alloc (.cells #[.string ⟨ty.toArray⟩, .string ⟨#[]⟩] 85)).drew b s j := Dk.drewN (hD2.keep (World.grownBy_alloc W2 (.cells #[.string ⟨ty.toArray⟩, .string ⟨#[]⟩] 85) none) (by simp)) 1
        have S3 : PSt w (W2.alloc (.cells #[.string ⟨ty.toArray⟩, .string ⟨#[]⟩] 85)).drew b W2.heap.size ty [] := ⟨Bk.new W2 _ _, k2.alloc _, World.grownBy.trans g2 (World.grownBy.trans (World.grownBy_alloc _ _ _) (grown_drewN _ 1 _)), k2.lt, hbw⟩
        clear hO2 HO HD0 HT hD2 hD3 d0 d1 f1 e0 e1 g2 k2 hsl hz2
        generalize (W2.alloc (.cells #[.string ⟨ty.toArray⟩, .string ⟨#[]⟩] 85)).drew = W3 at *
        generalize W2.heap.size = n5 at *
        go_wp2_with fail
        refine (dblanks_r b s (s.drop j) W3 ⟨j, hj, rfl, hD4⟩ hs).mono ?_
        rintro e W4 ⟨rfl, r4, h4⟩
        have S4 := S3.step h4
        clear hD4 S3 h4
        generalize hR4e : blk (s.drop j) = R4 at *
        have HR4 := Lib.hid hR4e
        clear hR4e
        have c50 := S4.k5.cell 0
        have c51 := S4.k5.cell 1
        have f51 := S4.k5.frozen 1
        have c30 := S4.k3.cell 0
        have c31 := S4.k3.cell 1
        have f30 := S4.k3.frozen 0
        have f31 := S4.k3.frozen 1
        simp at c50 c51 c30 c31
        have HTy := Lib.hid (fun W => IsType_r ty W (by omega))
        cases hty : isTypeL ty
        · rw [hty] at HTy
          have hON : O = none := by rw [HO2.out]; unfold pairRest; rw [hty]; rfl
          have HON := Lib.hid hON
          clear hON HO2 hty
          go_wp2_with (go_at_call 50; refine (HTy.out _).mono ?_; rintro e W5 ⟨rfl, rfl⟩)
          have kf := (S4.k3.set 0 (.string ⟨ty.toArray⟩)).set 1 (.string ⟨([] : List UInt8).toArray⟩)
          have cf0 := kf.cell 0
          have cf1 := kf.cell 1
          simp at cf0 cf1
          have gf := S4.fin ty ([] : List UInt8)
          refine ret_ava (n := w.heap.size) Tryz.results127 (x := ty) (y := ([] : List UInt8)) (bb := false) rfl rfl rfl cf0 cf1 ?_
          rw [HON.out]
          exact ⟨gf, (ty, ([] : List UInt8)), rfl, fun _ _ h => by cases h⟩
        rw [hty] at HTy
        have hO3 : O = (if hd R4 61 then (match rvalR (blk R4.tail) with | none => none | some (v, r5) => some ((ty, v), r5)) else none) := by rw [HO2.out]; unfold pairRest; rw [hty]; rfl
        have HO3 := Lib.hid hO3
        clear hO3 HO2 hty
        have hI := dis_at b s R4 61 W4 r4
        go_wp2_with (go_at_call 50; refine (HTy.out _).mono ?_; rintro e W5 ⟨rfl, rfl⟩)
        clear HTy
        cases h61 : hd R4 61
        · rw [h61] at hI
          have hON : O = none := by rw [HO3.out, h61]; rfl
          have HON := Lib.hid hON
          clear hON HO3 h61
          refine hI.mono ?_
          rintro e W5 ⟨rfl, n6, rfl⟩
          have S5 := S4.step (grown_drewN W4 n6 (some b))
          clear c50 c51 f51 c30 c31 f30 f31
          clear S4 hI r4
          generalize W4.drewN n6 = W5 at *
          have c50 := S5.k5.cell 0
          have c51 := S5.k5.cell 1
          have f51 := S5.k5.frozen 1
          have c30 := S5.k3.cell 0
          have c31 := S5.k3.cell 1
          have f30 := S5.k3.frozen 0
          have f31 := S5.k3.frozen 1
          simp at c50 c51 c30 c31
          go_wp2_with fail
          have kf := (S5.k3.set 0 (.string ⟨ty.toArray⟩)).set 1 (.string ⟨([] : List UInt8).toArray⟩)
          have cf0 := kf.cell 0
          have cf1 := kf.cell 1
          simp at cf0 cf1
          have gf := S5.fin ty ([] : List UInt8)
          refine ret_ava (n := w.heap.size) Tryz.results127 (x := ty) (y := ([] : List UInt8)) (bb := false) rfl rfl rfl cf0 cf1 ?_
          rw [HON.out]
          exact ⟨gf, (ty, ([] : List UInt8)), rfl, fun _ _ h => by cases h⟩
      case true =>
        clear HEND HR4
        rw [h61] at hI
        obtain ⟨c4, t4, rfl⟩ := hd_cons h61
        have hO4 : O = (match rvalR (blk t4) with | none => none | some (v, r5) => some ((ty, v), r5)) := by rw [HO3.out, h61]; rfl
        have HO4 := Lib.hid hO4
        clear hO4 HO3 h61
        refine hI.mono ?_
        rintro e W5 ⟨rfl, n6, rfl⟩
        have S5 := S4.step (grown_drewN W4 n6 (some b))
        have r5 : DkAt (W4.drewN n6) b s (c4 :: t4) := r4
        clear c50 c51 f51 c30 c31 f30 f31
        clear S4 hI r4
        generalize W4.drewN n6 = W5 at *
        obtain ⟨i5, hi5, p1, pf, r6⟩ := r5.next
        go_wp2_with fail
        have S6 := S5.step (grown_set (b := b) (o := 1) (.int .i64 ((i5 : Int) + 1)))
        clear S5 r5 p1 pf
        generalize W5.setCell ⟨b, 1, none⟩ (.int .i64 ((i5 : Int) + 1)) = W6 at *
        refine (dblanks_r b s t4 W6 r6 hs).mono ?_
        rintro e W7 ⟨rfl, r7, h7⟩
        have S7 := S6.step h7
        clear S6 r6 h7 hi5
        generalize blk t4 = R7 at *
        have hI := dis_at b s R7 35 W7 r7
        go_wp2_with fail
        cases h35 : hd R7 35
        case' true =>
          as_aux_lemma =>
            rw [h35] at hI
            obtain ⟨c7, t7, rfl⟩ := hd_cons h35
            have hO5 : O = (match (match hexR t7 with | none => none | some (v, r') => some (v, blk r')) with | none => none | some (v, r5) => some ((ty, v), r5)) := by rw [HO4.out]; unfold rvalR; rw [h35]; rfl
            have HO5 := Lib.hid hO5
            clear hO5 HO4 h35
            refine hI.mono ?_
            rintro e W8 ⟨rfl, n8, rfl⟩
            have S8 := S7.step (grown_drewN W7 n8 (some b))
            have r8 : DkAt (W7.drewN n8) b s (c7 :: t7) := r7
            clear S7 hI r7
            generalize W7.drewN n8 = W8 at *
            obtain ⟨i8, hi8, hd8, hk8⟩ := r8
            have ⟨hlt8, hdt8⟩ := drop_succ hd8
            have p1 := hk8.c1
            have pf := hk8.f1
            have HK8 := Lib.hid hk8
            have HDT := Lib.hid hdt8
            clear hd8 hk8 hdt8
            go_wp2_with fail
            have hk9 : Dk (W8.setCell ⟨b, 1, none⟩ (.int .i64 ((i8 : Int) + 1))) b s (i8 + 1) := HK8.out.set (i8 + 1)
            have S9 := S8.step (grown_set (b := b) (o := 1) (.int .i64 ((i8 : Int) + 1)))
            clear S8 p1 pf HK8
            generalize W8.setCell ⟨b, 1, none⟩ (.int .i64 ((i8 : Int) + 1)) = W9 at *
            have p9 : W9.cell? ⟨b, 1, none⟩ = some (.int .i64 ((i8 : Int) + 1)) := by have := hk9.c1; simpa using this
            go_wp2_with fail
            clear p9
            rw [show ((i8 : Int) + 1) = ((i8 + 1 : Nat) : Int) from by omega]
            generalize hie : i8 + 1 = i9 at *
            have hi9 : i9 ≤ s.length := by omega
            have HK9 := Lib.hid hk9
            clear hk9 hie
            go_loopg [] (s.length - i9) (fun gk wr => ∃ j2, i9 ≤ j2 ∧ j2 ≤ s.length ∧ s.length - j2 ≤ gk ∧ Dk wr b s j2 ∧ Aside ((s.drop i9).takeWhile isHex = (s.drop i9).take (j2 - i9) ++ (s.drop j2).takeWhile isHex ∧ (s.drop i9).dropWhile isHex = (s.drop j2).dropWhile isHex) ∧ PSt w wr b n5 ty [])
            case' atStart => exact ⟨i9, Nat.le_refl _, hi9, Nat.le_refl _, HK9.out, by show _ ∧ _; simp, S9⟩
            case' round =>
              obtain ⟨j2, hij2, hj2, hgk2, hDk2, AT2, S10⟩ := hrel
              have d0 := hDk2.c0
              have d1 := hDk2.c1
              have f1 := hDk2.f1
              have HDk2 := Lib.hid hDk2
              have jj0 : (0 : Int) ≤ (j2 : Int) := by omega
              clear hDk2
              by_cases hgo2 : ∃ hlt : j2 < s.length, isHex s[j2] = true
              · obtain ⟨hlt2, hin2⟩ := hgo2
                have jj1 : (j2 : Int) < (s.length : Int) := by omega
                have AT3 : Aside ((s.drop i9).takeWhile isHex = (s.drop i9).take (j2 + 1 - i9) ++ (s.drop (j2 + 1)).takeWhile isHex ∧ (s.drop i9).dropWhile isHex = (s.drop (j2 + 1)).dropWhile isHex) := tw_step hij2 hlt2 hin2 AT2.out
                have hdg : 0 ≤ digitV s[j2].toNat := of_decide_eq_true hin2
                have HIT := Lib.hid (fun W => Digit_r (s[j2].toNat) W (by omega) (by have := UInt8.toNat_lt s[j2]; omega))
                clear AT2 hin2
                go_wp2_with fail
                go_quiet ((go_at_call 157; exact quiet_l (HIT.out _)))
                go_wp2_with fail
                go_roundg (s.length - (j2 + 1))
                case measure => omega
                case rel => exact ⟨j2 + 1, by omega, by omega, Nat.le_refl _, (HDk2.out.drewN nq).set (j2 + 1), AT3.out, S10.step (World.grownBy.trans (grown_drewN _ _ _) (grown_set _))⟩
              · have hT2 := tw_stop hgo2 AT2.out
                have HT2 := Lib.hid hT2
                have hsl2 : ∀ W : World, (Instr.slice 9 (.string ⟨s.toArray⟩) (some (.int .i64 (i9 : Int))) (some (.int .i64 (j2 : Int))) none).run Tryz.prog W = .ok (.string ⟨((s.drop i9).take (j2 - i9)).toArray⟩) W := fun W => slice_str s i9 j2 W hij2 hj2
                have htl2 : ((s.drop i9).take (j2 - i9)).length ≤ 65536 := by simp; omega
                clear AT2 hT2
                generalize (s.drop i9).take (j2 - i9) = hx at *
                have hO6 : O = (match unhexL hx with | none => none | some v => if v = [] then none else some ((ty, v), blk (s.drop j2))) := by
                  rw [HO5.out, ← HDT.out]
                  unfold hexR
                  rw [HT2.out.1, HT2.out.2]
                  cases unhexL hx with
                  | none => rfl
                  | some v => by_cases hv : v = [] <;> simp [hv]
                have HO6 := Lib.hid hO6
                clear hO6 HO5 HT2
                have hend2 : (j2 = s.length) ∨ ∃ hlt : j2 < s.length, isHex s[j2] ≠ true := by
                  by_cases hlt : j2 < s.length
                  · right; exact ⟨hlt, fun e => hgo2 ⟨hlt, e⟩⟩
                  · left; omega
                clear hgo2
                rcases hend2 with hend2 | ⟨hlt2, hno2⟩
                case' inl =>
                  have hn : decide ((j2 : Int) < (s.length : Int)) = false := by simp; omega
                  have hn2 : decide (j2 < s.length) = false := by simp; omega
                  go_wp2_with fail
                  go_quiet (fail)
                  clear hn hn2 hend2
                case' inr =>
                  have jj1 : (j2 : Int) < (s.length : Int) := by omega
                  have hdg : digitV s[j2].toNat < 0 := by
                    have : ¬ 0 ≤ digitV s[j2].toNat := fun h => hno2 (decide_eq_true h)
                    omega
                  have HIT := Lib.hid (fun W => Digit_r (s[j2].toNat) W (by omega) (by have := UInt8.toNat_lt s[j2]; omega))
                  clear hno2
                  go_wp2_with fail
                  go_quiet ((go_at_call 157; exact quiet_l (HIT.out _)))
                  clear HIT
                all_goals
                  have hD11 := HDk2.out.drewN nq
                  have S11 := S10.step (grown_drewN wr nq (some b))
                  clear S10 HDk2 d0 d1 f1
                  generalize wr.drewN nq = W11 at *
                  have h0 := hD11.c0
                  have h1 := hD11.c1
                  have HD11 := Lib.hid hD11
                  clear hD11
                  have HUn := Lib.hid (fun W => Unhex_r hx W (by omega))
                  go_wp2_with fail
                  cases hT : unhexL hx with
                  | none =>
                    rw [hT] at HUn
                    have hON : O = none := by rw [HO6.out, hT]
                    have HON := Lib.hid hON
                    clear hON HO6 hT
                    go_region_held3 (fun w' => w'.cell? ⟨b, 0, none⟩ = some (.string ⟨s.toArray⟩) ∧ w'.cell? ⟨b, 1, none⟩ = some (.int .i64 j2)) (first | exact ⟨h0, h1⟩ | exact ⟨hc0', hc1'⟩) (first | (go_at_call 158; refine (HUn.out _).mono ?_; rintro e w2 ⟨rfl, hb2⟩; simp only [strOr]; have hR2 := Dk.keep (HD11.out.drewN 1) (grown_below hb2 none) (by simp); have hc0' := hR2.c0; have hc1' := hR2.c1))
                    have S12 := S11.step (World.grownBy.trans (grown_drewN W11 1 (some b)) (grown_below hb2 (some b)))
                    have r12 : DkAt w2 b s (s.drop j2) := ⟨j2, hj2, rfl, hR2⟩
                    clear HD11 h0 h1 hc0' hc1' hR2 S11 hb2 hsl2 HUn
                    have c50 := S12.k5.cell 0
                    have c51 := S12.k5.cell 1
                    have f51 := S12.k5.frozen 1
                    have c30 := S12.k3.cell 0
                    have c31 := S12.k3.cell 1
                    have f30 := S12.k3.frozen 0
                    have f31 := S12.k3.frozen 1
                    simp at c50 c51 c30 c31
                    go_wp2_with fail
                    have S13 := S12.val ([] : List UInt8)
                    have r13 := r12.keep (grown_set (b := n5) (o := 1) (.string ⟨([] : List UInt8).toArray⟩)) (by have := S12.h5; simp; omega)
                    clear c50 c51 f51 c30 c31 f30 f31
                    clear S12 r12
                    generalize w2.setCell ⟨n5, 1, none⟩ (.string ⟨([] : List UInt8).toArray⟩) = W13 at *
                    refine (dblanks_r b s (s.drop j2) W13 r13 hs).mono ?_
                    rintro e W14 ⟨rfl, r14, h14⟩
                    have S14 := S13.step h14
                    clear S13 r13 h14
                    have c50 := S14.k5.cell 0
                    have c51 := S14.k5.cell 1
                    have f51 := S14.k5.frozen 1
                    have c30 := S14.k3.cell 0
                    have c31 := S14.k3.cell 1
                    have f30 := S14.k3.frozen 0
                    have f31 := S14.k3.frozen 1
                    simp at c50 c51 c30 c31
                    go_wp2_with fail
                    have kf := (S14.k3.set 0 (.string ⟨ty.toArray⟩)).set 1 (.string ⟨([] : List UInt8).toArray⟩)
                    have cf0 := kf.cell 0
                    have cf1 := kf.cell 1
                    simp at cf0 cf1
                    have gf := S14.fin ty ([] : List UInt8)
                    refine ret_ava (n := w.heap.size) Tryz.results127 (x := ty) (y := ([] : List UInt8)) (bb := false) rfl rfl rfl cf0 cf1 ?_
                    rw [HON.out]
                    exact ⟨gf, (ty, ([] : List UInt8)), rfl, fun _ _ h => by cases h⟩
                  | some v =>
                    rw [hT] at HUn
                    have hO7 : O = if v = [] then none else some ((ty, v), blk (s.drop j2)) := by rw [HO6.out, hT]
                    have HO7 := Lib.hid hO7
                    clear hO7 HO6 hT
                    go_region_held3 (fun w' => w'.cell? ⟨b, 0, none⟩ = some (.string ⟨s.toArray⟩) ∧ w'.cell? ⟨b, 1, none⟩ = some (.int .i64 j2)) (first | exact ⟨h0, h1⟩ | exact ⟨hc0', hc1'⟩) (first | (go_at_call 158; refine (HUn.out _).mono ?_; rintro e w2 ⟨rfl, hb2⟩; simp only [strOr]; have hR2 := Dk.keep (HD11.out.drewN 1) (grown_below hb2 none) (by simp); have hc0' := hR2.c0; have hc1' := hR2.c1))
                    have S12 := S11.step (World.grownBy.trans (grown_drewN W11 1 (some b)) (grown_below hb2 (some b)))
                    have r12 : DkAt w2 b s (s.drop j2) := ⟨j2, hj2, rfl, hR2⟩
                    clear HD11 h0 h1 hc0' hc1' hR2 S11 hb2 hsl2 HUn
                    have c50 := S12.k5.cell 0
                    have c51 := S12.k5.cell 1
                    have f51 := S12.k5.frozen 1
                    have c30 := S12.k3.cell 0
                    have c31 := S12.k3.cell 1
                    have f30 := S12.k3.frozen 0
                    have f31 := S12.k3.frozen 1
                    simp at c50 c51 c30 c31
                    go_wp2_with fail
                    have S13 := S12.val v
                    have r13 := r12.keep (grown_set (b := n5) (o := 1) (.string ⟨v.toArray⟩)) (by have := S12.h5; simp; omega)
                    clear c50 c51 f51 c30 c31 f30 f31
                    clear S12 r12
                    generalize w2.setCell ⟨n5, 1, none⟩ (.string ⟨v.toArray⟩) = W13 at *
                    refine (dblanks_r b s (s.drop j2) W13 r13 hs).mono ?_
                    rintro e W14 ⟨rfl, r14, h14⟩
                    have S14 := S13.step h14
                    clear S13 r13 h14
                    have c50 := S14.k5.cell 0
                    have c51 := S14.k5.cell 1
                    have f51 := S14.k5.frozen 1
                    have c30 := S14.k3.cell 0
                    have c31 := S14.k3.cell 1
                    have f30 := S14.k3.frozen 0
                    have f31 := S14.k3.frozen 1
                    simp at c50 c51 c30 c31
                    by_cases hv : v = []
                    · have hON : O = none := by rw [HO7.out, if_pos hv]
                      have HON := Lib.hid hON
                      clear hON HO7
                      subst hv
                      go_wp2_with fail
                      have kf := (S14.k3.set 0 (.string ⟨ty.toArray⟩)).set 1 (.string ⟨([] : List UInt8).toArray⟩)
                      have cf0 := kf.cell 0
                      have cf1 := kf.cell 1
                      simp at cf0 cf1
                      have gf := S14.fin ty ([] : List UInt8)
                      refine ret_ava (n := w.heap.size) Tryz.results127 (x := ty) (y := ([] : List UInt8)) (bb := false) rfl rfl rfl cf0 cf1 ?_
                      rw [HON.out]
                      exact ⟨gf, (ty, ([] : List UInt8)), rfl, fun _ _ h => by cases h⟩
                    · have hON : O = some ((ty, v), blk (s.drop j2)) := by rw [HO7.out, if_neg hv]
                      have HON := Lib.hid hON
                      have hve : v.isEmpty = false := isEmpty_ne hv
                      have hvn : (v == []) = false := beq_eq_false_iff_ne.2 hv
                      have hvn2 : (v != []) = true := bne_iff_ne.2 hv
                      clear hON HO7
                      go_wp2_with fail
                      have kf := (S14.k3.set 0 (.string ⟨ty.toArray⟩)).set 1 (.string ⟨v.toArray⟩)
                      have cf0 := kf.cell 0
                      have cf1 := kf.cell 1
                      simp at cf0 cf1
                      have gf := S14.fin ty v
                      refine ret_ava (n := w.heap.size) Tryz.results127 (x := ty) (y := v) (bb := true) rfl rfl rfl cf0 cf1 ?_
                      rw [HON.out]
                      exact ⟨gf, (ty, v), rfl, fun y r' h => by cases h; exact ⟨rfl, r14.fin hbw _ _⟩⟩
        rw [h35] at hI
        have hO5 : O = (match rvalL R7.length R7 [] 0 with | none => none | some (v, r5) => some ((ty, v), r5)) := by rw [HO4.out]; unfold rvalR; rw [h35]; rfl
        have HO5 := Lib.hid hO5
        clear hO5 HO4 h35
        refine hI.mono ?_
        rintro e W8 ⟨rfl, n8, rfl⟩
        have S8 := S7.step (grown_drewN W7 n8 (some b))
        have r8 : DkAt (W7.drewN n8) b s R7 := r7
        clear S7 hI r7
        generalize W7.drewN n8 = W8 at *
        generalize hV : rvalL R7.length R7 [] 0 = V at *
        have HV := Lib.hid hV
        clear hV
        have hR7 : R7.length ≤ s.length := by
          obtain ⟨i, hi, hd', _⟩ := r8
          rw [← hd']; simp
        have hn5 : n5 < W8.heap.size := S8.k5.lt
        go_wp2_with fail
        go_loopg [8, 9] R7.length (fun gk v lg wr => ∃ (r' acc : List UInt8) (kp : Nat), r'.length ≤ gk ∧ lg = .int .i64 kp ∧ kp ≤ acc.length ∧ acc.length + r'.length ≤ s.length ∧ DkAt wr b s r' ∧ BufO W8.heap.size wr v acc ∧ Aside (rvalL r'.length r' acc kp = V) ∧ PSt w wr b n5 ty [])
        case' atStart => exact ⟨R7, [], 0, Nat.le_refl _, rfl, Nat.le_refl _, by simp; omega, r8, BufO.nil W8, HV.out, S8⟩
        case' round =>
          clear S8 r8 HV
          obtain ⟨r', acc, kp, hlen, rfl, hkp, hacc, hRr, hbuf, AV, S9⟩ := hrel
          obtain ⟨i, hi, hdi, hDi⟩ := hRr
          have d0 := hDi.c0
          have d1 := hDi.c1
          have f1 := hDi.f1
          have HDi := Lib.hid hDi
          have ii0 : (0 : Int) ≤ (i : Int) := by omega
          clear hDi
          cases r' with
          | nil =>
            as_aux_lemma =>
              have hil : i = s.length := by
                have := congrArg List.length hdi
                simp at this
                omega
              have hlast : O = some ((ty, acc.take kp), []) := by
                have h := AV.out
                simp only [rvalL, List.length_nil] at h
                rw [HO5.out, ← h]
              have HL := Lib.hid hlast
              obtain ⟨A, cp, rfl, hcp, hst⟩ := hbuf.stringTakeN hkp
              clear hlast AV HO5 hbuf
              have hn : decide ((i : Int) < (s.length : Int)) = false := by simp; omega
              have hn1 : ¬ (i : Int) < (s.length : Int) := by omega
              go_wp2_with fail
              go_quiet (fail)
              have S10 := S9.step (grown_drewN wr nq (some b))
              have r10 : DkAt (wr.drewN nq) b s [] := ⟨i, hi, hdi, HDi.out.drewN nq⟩
              have hst1 := hst nq
              clear S9 HDi d0 d1 f1 hst
              generalize wr.drewN nq = W10 at *
              have c50 := S10.k5.cell 0
              have c51 := S10.k5.cell 1
              have f51 := S10.k5.frozen 1
              have c30 := S10.k3.cell 0
              have c31 := S10.k3.cell 1
              have f30 := S10.k3.frozen 0
              have f31 := S10.k3.frozen 1
              simp at c50 c51 c30 c31
              have SV := S10.val (acc.take kp)
              have v50 := SV.k5.cell 0
              have v51 := SV.k5.cell 1
              have v30 := SV.k3.cell 0
              have v31 := SV.k3.cell 1
              have v3f := SV.k3.frozen 0
              have v3g := SV.k3.frozen 1
              simp at v50 v51 v30 v31
              have hsl := slice_to A acc.length cp kp (by omega)
              go_wp2_with fail
              have rV := r10.keep (grown_set (b := n5) (o := 1) (.string ⟨(acc.take kp).toArray⟩)) (by have := S10.h5; simp; omega)
              have kf := (SV.k3.set 0 (.string ⟨ty.toArray⟩)).set 1 (.string ⟨(acc.take kp).toArray⟩)
              have cf0 := kf.cell 0
              have cf1 := kf.cell 1
              simp at cf0 cf1
              have gf := SV.fin ty (acc.take kp)
              refine ret_ava (n := w.heap.size) Tryz.results127 (x := ty) (y := (acc.take kp)) (bb := true) rfl rfl rfl cf0 cf1 ?_
              rw [HL.out]
              exact ⟨gf, (ty, acc.take kp), rfl, fun y r' h => by cases h; exact ⟨rfl, rV.fin hbw _ _⟩⟩
          | cons c t =>
            simp only [List.length_cons] at hlen hacc
            have ⟨hlt, hdt⟩ := drop_succ hdi
            have hsc : s[i] = c := by rw [List.drop_eq_getElem_cons hlt] at hdi; exact (List.cons.inj hdi).1
            have ii1 : (i : Int) < (s.length : Int) := by omega
            have hAV : rvalL (t.length + 1) (c :: t) acc kp = V := AV.out
            rw [rvalL] at hAV
            have HAV := Lib.hid hAV
            have HDT := Lib.hid hdt
            have HDI := Lib.hid hdi
            clear AV hAV hdi hdt
            go_wp2_with fail
            go_quiet (fail)
            have hD10 := HDi.out.drewN nq
            have S10 := S9.step (grown_drewN wr nq (some b))
            have b10 := hbuf.drewN nq
            clear S9 hbuf HDi d0 d1 f1
            generalize wr.drewN nq = W10 at *
            have d0 := hD10.c0
            have d1 := hD10.c1
            have f1 := hD10.f1
            go_wp2_with fail
            go_quiet (fail)
            have hD11 := hD10.drewN nq
            have S11 := S10.step (grown_drewN W10 nq (some b))
            have b11 := b10.drewN nq
            clear S10 b10 hD10 d0 d1 f1
            generalize W10.drewN nq = W11 at *
            have r11 : DkAt W11 b s (c :: t) := ⟨i, hi, HDI.out, hD11⟩
            have d0 := hD11.c0
            have d1 := hD11.c1
            have f1 := hD11.f1
            have HD11 := Lib.hid hD11
            clear hD11 HDI
            have h8 := UInt8.toNat_lt c
            try rw [hsc]
            have hbn : b < W8.heap.size := by have := S11.h5; omega
            by_cases h92 : c = 92
            · subst h92
              have hAV2 := HAV.out
              rw [if_pos rfl] at hAV2
              have HAV2 := Lib.hid hAV2
              clear hAV2 HAV
              cases t with
              | nil =>
                have hON : O = none := by rw [HO5.out, ← HAV2.out]; rfl
                have HON := Lib.hid hON
                have hil : i + 1 = s.length := by
                  have := congrArg List.length HDT.out
                  simp at this
                  omega
                have ii2 : (s.length : Int) ≤ (i : Int) + 1 := by omega
                have ii3 : IntKind.i64.wrap ((i : Int) + 1) = (i : Int) + 1 := IntWalk.i64_in _ (by omega)
                as_aux_lemma =>
                  clear hON HO5 HAV2 HDT
                  go_wp2_with fail
                  go_quiet (fail)
                  have S12 := S11.step (grown_drewN W11 nq (some b))
                  clear S11 d0 d1 f1 r11 b11 HD11 ii3
                  generalize W11.drewN nq = W12 at *
                  have c50 := S12.k5.cell 0
                  have c51 := S12.k5.cell 1
                  have f51 := S12.k5.frozen 1
                  have c30 := S12.k3.cell 0
                  have c31 := S12.k3.cell 1
                  have f30 := S12.k3.frozen 0
                  have f31 := S12.k3.frozen 1
                  simp at c50 c51 c30 c31
                  go_wp2_with fail
                  have kf := (S12.k3.set 0 (.string ⟨ty.toArray⟩)).set 1 (.string ⟨([] : List UInt8).toArray⟩)
                  have cf0 := kf.cell 0
                  have cf1 := kf.cell 1
                  simp at cf0 cf1
                  have gf := S12.fin ty ([] : List UInt8)
                  refine ret_ava (n := w.heap.size) Tryz.results127 (x := ty) (y := ([] : List UInt8)) (bb := false) rfl rfl rfl cf0 cf1 ?_
                  rw [HON.out]
                  exact ⟨gf, (ty, ([] : List UInt8)), rfl, fun _ _ h => by cases h⟩
              | cons n t2 =>
                have ⟨hlt1, hdt1⟩ := drop_succ HDT.out
                have hsn : s[i + 1] = n := by have h := HDT.out; rw [List.drop_eq_getElem_cons hlt1] at h; exact (List.cons.inj h).1
                have HDT2 := Lib.hid hdt1
                have ii2 : (i : Int) + 1 < (s.length : Int) := by omega
                have ii3 : IntKind.i64.wrap ((i : Int) + 1) = (i : Int) + 1 := IntWalk.i64_in _ (by omega)
                have ii4 : (0 : Int) ≤ (i : Int) + 1 := by omega
                have ii5 : ((i : Int) + 1).toNat = i + 1 := by omega
                have h8n := UInt8.toNat_lt n
                clear hdt1 HDT
                go_wp2_with fail
                go_quiet (fail)
                have hD12 := HD11.out.drewN nq
                have S12 := S11.step (grown_drewN W11 nq (some b))
                have b12 := b11.drewN nq
                clear S11 b11 HD11 d0 d1 f1 r11
                generalize W11.drewN nq = W12 at *
                have d0 := hD12.c0
                have d1 := hD12.c1
                have f1 := hD12.f1
                go_wp2_with fail
                go_quiet (fail)
                have hD13 := hD12.drewN nq
                have S13 := S12.step (grown_drewN W12 nq (some b))
                have b13 := b12.drewN nq
                clear S12 b12 hD12 d0 d1 f1
                generalize W12.drewN nq = W13 at *
                have d0 := hD13.c0
                have d1 := hD13.c1
                have f1 := hD13.f1
                have HD13 := Lib.hid hD13
                clear hD13 ii3
                try rw [hsn]
                have HSp := Lib.hid (fun W => special_r n W)
                by_cases hesc : 0 ≤ Lib.indexByte escCs n
                · have hAV4 : rvalL t2.length t2 (acc ++ [n]) (acc.length + 1) = V := by
                    have h := HAV2.out
                    rw [escR, if_pos hesc] at h
                    rw [← h]
                    exact rvalL_fuel _ _ _ _ _ (Nat.le_refl _) (by simp)
                  have HAV4 := Lib.hid hAV4
                  have hcase := esc_yes hesc
                  clear hAV4 HAV2 hesc
                  rcases hcase with a1 | ⟨a1, a2⟩ | ⟨a1, a2, a3⟩ | ⟨a1, a2, a3, a4⟩
                  all_goals
                    as_aux_lemma =>
                      rw [a1] at HSp
                      clear a1
                      clear HO5
                      go_wp2_with (first | (go_at_call 159; refine (HSp.out _).mono ?_; rintro e w2 ⟨rfl, rfl⟩) | (at_builtin; refine bufo_byte rfl _ _ rfl rfl b13 rfl (by omega) ?_; intro v' w4 hb4 hg4; obtain ⟨A4, cp4, rfl, hcp4⟩ := row_len hb4.1; have hD4 := b13.dk hg4 hbn HD13.out; have e0 := hD4.c0; have e1 := hD4.c1; have ef := hD4.f1))
                      go_roundg t2.length
                      case measure => simp at hlen; omega
                      case rel => exact ⟨t2, acc ++ [n], acc.length + 1, Nat.le_refl _, by simp, by simp, by simp at hacc ⊢; omega, ⟨i + 2, by omega, HDT2.out, hD4.set (i + 2)⟩, by simpa using hb4.keep (grown_set (b := b) (o := 1) _) (fun k hk => by cases hk; exact hbn), HAV4.out, (b13.pst hg4 hn5 S13).step (grown_set _)⟩
                · obtain ⟨a1, a2, a3, a4⟩ := esc_no hesc
                  rw [a1] at HSp
                  have hAV4 : (match esc2 n t2 with | none => none | some (x, t') => rvalL (n :: t2).length t' (acc ++ [x]) (acc.length + 1)) = V := by
                    have h := HAV2.out
                    rw [escR, if_neg hesc] at h
                    exact h
                  have HAV4 := Lib.hid hAV4
                  clear hAV4 HAV2 hesc a1
                  have HDD := Lib.hid (fun (c : Int) (w : World) (h0 : 0 ≤ c) (h1 : c < 256) => Digit_r c w h0 h1)
                  have hw2 : IntKind.i64.wrap ((i : Int) + 2) = (i : Int) + 2 := IntWalk.i64_in _ (by omega)
                  have hn0 : (0 : Int) ≤ (n.toNat : Int) := by omega
                  have hn8 : (n.toNat : Int) < 256 := by omega
                  cases t2 with
                  | nil =>
                    have hON : O = none := by rw [HO5.out, ← HAV4.out]; rfl
                    have HON := Lib.hid hON
                    have hil : i + 2 = s.length := by
                      have := congrArg List.length HDT2.out
                      simp at this
                      omega
                    have jj2 : (s.length : Int) ≤ (i : Int) + 2 := by omega
                    have jj3 : decide ((s.length : Int) ≤ (i : Int) + 2) = true := by simp; omega
                    as_aux_lemma =>
                      clear hON HO5 HAV4 HDT2
                      go_wp2_with (first | (go_at_call 159; refine (HSp.out _).mono ?_; rintro e w2 ⟨rfl, rfl⟩))
                      go_quiet ((go_at_call 157; exact quiet_l (HDD.out _ _ (by omega) (by omega))))
                      have S14 := S13.step (grown_drewN W13 nq (some b))
                      clear S13 d0 d1 f1 b13 HD13
                      generalize W13.drewN nq = W14 at *
                      have c50 := S14.k5.cell 0
                      have c51 := S14.k5.cell 1
                      have f51 := S14.k5.frozen 1
                      have c30 := S14.k3.cell 0
                      have c31 := S14.k3.cell 1
                      have f30 := S14.k3.frozen 0
                      have f31 := S14.k3.frozen 1
                      simp at c50 c51 c30 c31
                      go_wp2_with fail
                      have kf := (S14.k3.set 0 (.string ⟨ty.toArray⟩)).set 1 (.string ⟨([] : List UInt8).toArray⟩)
                      have cf0 := kf.cell 0
                      have cf1 := kf.cell 1
                      simp at cf0 cf1
                      have gf := S14.fin ty ([] : List UInt8)
                      refine ret_ava (n := w.heap.size) Tryz.results127 (x := ty) (y := ([] : List UInt8)) (bb := false) rfl rfl rfl cf0 cf1 ?_
                      rw [HON.out]
                      exact ⟨gf, (ty, ([] : List UInt8)), rfl, fun _ _ h => by cases h⟩
                  | cons d t3 =>
                    have ⟨hlt2, hdt2⟩ := drop_succ HDT2.out
                    have hsd : s[i + 2] = d := by have h := HDT2.out; rw [List.drop_eq_getElem_cons hlt2] at h; exact (List.cons.inj h).1
                    have HDT3 := Lib.hid hdt2
                    have jj2 : (i : Int) + 2 < (s.length : Int) := by omega
                    have jj4 : (0 : Int) ≤ (i : Int) + 2 := by omega
                    have jj5 : ((i : Int) + 2).toNat = i + 2 := by omega
                    have jj6 : decide ((s.length : Int) ≤ (i : Int) + 2) = false := by simp; omega
                    have h8d := UInt8.toNat_lt d
                    have hd0 : (0 : Int) ≤ (d.toNat : Int) := by omega
                    have hd8 : (d.toNat : Int) < 256 := by omega
                    have hx := digitV_rng n.toNat
                    have hy := digitV_rng d.toNat
                    clear hdt2 HDT2
                    by_cases hneg : digitV n.toNat < 0 ∨ digitV d.toNat < 0
                    · have hON : O = none := by rw [HO5.out, ← HAV4.out, esc2, if_pos hneg]
                      have HON := Lib.hid hON
                      clear hON HO5 HAV4
                      by_cases hx0 : digitV n.toNat < 0
                      · have hx1 : decide (digitV n.toNat < 0) = true := decide_eq_true hx0
                        as_aux_lemma =>
                          clear hneg
                          go_wp2_with (first | (go_at_call 159; refine (HSp.out _).mono ?_; rintro e w2 ⟨rfl, rfl⟩))
                          go_quiet ((go_at_call 157; exact quiet_l (HDD.out _ _ (by omega) (by omega))))
                          have S14 := S13.step (grown_drewN W13 nq (some b))
                          clear S13 d0 d1 f1 b13 HD13
                          generalize W13.drewN nq = W14 at *
                          have c50 := S14.k5.cell 0
                          have c51 := S14.k5.cell 1
                          have f51 := S14.k5.frozen 1
                          have c30 := S14.k3.cell 0
                          have c31 := S14.k3.cell 1
                          have f30 := S14.k3.frozen 0
                          have f31 := S14.k3.frozen 1
                          simp at c50 c51 c30 c31
                          go_wp2_with fail
                          have kf := (S14.k3.set 0 (.string ⟨ty.toArray⟩)).set 1 (.string ⟨([] : List UInt8).toArray⟩)
                          have cf0 := kf.cell 0
                          have cf1 := kf.cell 1
                          simp at cf0 cf1
                          have gf := S14.fin ty ([] : List UInt8)
                          refine ret_ava (n := w.heap.size) Tryz.results127 (x := ty) (y := ([] : List UInt8)) (bb := false) rfl rfl rfl cf0 cf1 ?_
                          rw [HON.out]
                          exact ⟨gf, (ty, ([] : List UInt8)), rfl, fun _ _ h => by cases h⟩
                      · have hy0 : digitV d.toNat < 0 := by omega
                        have hx1 : decide (digitV n.toNat < 0) = false := decide_eq_false hx0
                        have hy1 : decide (digitV d.toNat < 0) = true := decide_eq_true hy0
                        as_aux_lemma =>
                          clear hneg
                          go_wp2_with (first | (go_at_call 159; refine (HSp.out _).mono ?_; rintro e w2 ⟨rfl, rfl⟩))
                          go_quiet ((go_at_call 157; exact quiet_l (HDD.out _ _ (by omega) (by omega))))
                          have S14 := S13.step (grown_drewN W13 nq (some b))
                          clear S13 d0 d1 f1 b13 HD13
                          generalize W13.drewN nq = W14 at *
                          have c50 := S14.k5.cell 0
                          have c51 := S14.k5.cell 1
                          have f51 := S14.k5.frozen 1
                          have c30 := S14.k3.cell 0
                          have c31 := S14.k3.cell 1
                          have f30 := S14.k3.frozen 0
                          have f31 := S14.k3.frozen 1
                          simp at c50 c51 c30 c31
                          go_wp2_with fail
                          have kf := (S14.k3.set 0 (.string ⟨ty.toArray⟩)).set 1 (.string ⟨([] : List UInt8).toArray⟩)
                          have cf0 := kf.cell 0
                          have cf1 := kf.cell 1
                          simp at cf0 cf1
                          have gf := S14.fin ty ([] : List UInt8)
                          refine ret_ava (n := w.heap.size) Tryz.results127 (x := ty) (y := ([] : List UInt8)) (bb := false) rfl rfl rfl cf0 cf1 ?_
                          rw [HON.out]
                          exact ⟨gf, (ty, ([] : List UInt8)), rfl, fun _ _ h => by cases h⟩
                    · have hx0 : 0 ≤ digitV n.toNat := by omega
                      have hy0 : 0 ≤ digitV d.toNat := by omega
                      have hx1 : decide (digitV n.toNat < 0) = false := decide_eq_false (by omega)
                      have hy1 : decide (digitV d.toNat < 0) = false := decide_eq_false (by omega)
                      have hAV5 : rvalL t3.length t3 (acc ++ [hexByte (digitV n.toNat) (digitV d.toNat)]) (acc.length + 1) = V := by
                        have h := HAV4.out
                        rw [esc2, if_neg hneg] at h
                        rw [← h]
                        exact rvalL_fuel _ _ _ _ _ (Nat.le_refl _) (by simp; omega)
                      have HAV5 := Lib.hid hAV5
                      as_aux_lemma =>
                        clear hAV5 HAV4 hneg
                        go_wp2_with (first | (go_at_call 159; refine (HSp.out _).mono ?_; rintro e w2 ⟨rfl, rfl⟩))
                        go_quiet ((go_at_call 157; exact quiet_l (HDD.out _ _ (by omega) (by omega))))
                        have hD14 := HD13.out.drewN nq
                        have S14 := S13.step (grown_drewN W13 nq (some b))
                        have b14 := b13.drewN nq
                        clear S13 b13 HD13 d0 d1 f1 hx1 hy1
                        generalize W13.drewN nq = W14 at *
                        have d0 := hD14.c0
                        have d1 := hD14.c1
                        have f1 := hD14.f1
                        have HD14 := Lib.hid hD14
                        clear hD14
                        have hbits : 16 * digitV n.toNat + digitV d.toNat = ((hexByte (digitV n.toNat) (digitV d.toNat)).toNat : Int) := by unfold hexByte; rw [ofN (by omega)]; omega
                        have hlt8 := UInt8.toNat_lt (hexByte (digitV n.toNat) (digitV d.toNat))
                        have hm1 : IntKind.i64.wrap (16 * digitV n.toNat) = 16 * digitV n.toNat := IntWalk.i64_in _ (by omega)
                        have hm2 : IntKind.i64.wrap ((hexByte (digitV n.toNat) (digitV d.toNat)).toNat : Int) = ((hexByte (digitV n.toNat) (digitV d.toNat)).toNat : Int) := IntWalk.i64_in _ (by omega)
                        have hm3 : IntKind.u8.wrap ((hexByte (digitV n.toNat) (digitV d.toNat)).toNat : Int) = ((hexByte (digitV n.toNat) (digitV d.toNat)).toNat : Int) := by simp [IntKind.wrap, IntKind.bits, IntKind.signed]; omega
                        have hbW : b < W14.heap.size := HD14.out.lt
                        go_wp2_with fail
                        go_region_held3 (fun w' => w'.cell? ⟨b, 0, none⟩ = some (.string ⟨s.toArray⟩) ∧ w'.cell? ⟨b, 1, none⟩ = some (.int .i64 i)) (first | exact ⟨d0, d1⟩ | exact ⟨(World.cell?_alloc_lt _ _ _ hbW).trans d0, (World.cell?_alloc_lt _ _ _ hbW).trans d1⟩ | exact ⟨e0, e1⟩) (first | (go_at_call 157; refine (HDD.out _ _ (by omega) (by omega)).mono ?_; rintro e w2 ⟨rfl, rfl⟩) | (refine step_byteO (by rfl) _ _ (by rfl) rfl b14 rfl (by omega) ?_; intro v' w4 hb4 hg4; obtain ⟨A4, cp4, rfl, hcp4⟩ := row_len hb4.1; have hD4 := b14.dk hg4 hbn HD14.out; have e0 := hD4.c0; have e1 := hD4.c1; have ef := hD4.f1))
                        all_goals
                          go_wp2_with fail
                          go_roundg t3.length
                          case measure => simp at hlen; omega
                          case rel => exact ⟨t3, acc ++ [hexByte (digitV n.toNat) (digitV d.toNat)], acc.length + 1, Nat.le_refl _, by simp, by simp, by simp at hacc ⊢; omega, ⟨i + 3, by omega, HDT3.out, hD4.set (i + 3)⟩, by simpa using hb4.keep (grown_set (b := b) (o := 1) _) (fun k hk => by cases hk; exact hbn), HAV5.out, (b14.pst hg4 hn5 S14).step (grown_set _)⟩
            · have hn92 : (((c.toNat : Int)) == 92) = false := by rw [beq_eq_false_iff_ne]; intro e; exact h92 (UInt8.toNat_inj.1 (show _ = 92 by omega))
              have hAV2 := HAV.out
              rw [if_neg h92] at hAV2
              have HSp := Lib.hid (fun W => special_r c W)
              have HAV2 := Lib.hid hAV2
              clear hAV2 HAV h92
              by_cases hsp : (specB c || c == 0) = true
              · have hlast : O = some ((ty, acc.take kp), c :: t) := by
                  have h := HAV2.out
                  rw [hsp, if_pos rfl] at h
                  rw [HO5.out, ← h]
                have HL := Lib.hid hlast
                obtain ⟨A, cp, rfl, hcp, hst1⟩ := b11.stringTake hkp
                clear hlast HAV2 HO5
                cases hs1 : specB c
                · rw [hs1] at HSp
                  have h0 : ((c.toNat : Int) == 0) = true := by
                    rw [hs1, Bool.false_or, beq_iff_eq] at hsp
                    rw [hsp]; rfl
                  as_aux_lemma =>
                    clear hsp hs1
                    have c50 := S11.k5.cell 0
                    have c51 := S11.k5.cell 1
                    have f51 := S11.k5.frozen 1
                    have c30 := S11.k3.cell 0
                    have c31 := S11.k3.cell 1
                    have f30 := S11.k3.frozen 0
                    have f31 := S11.k3.frozen 1
                    simp at c50 c51 c30 c31
                    have SV := S11.val (acc.take kp)
                    have v50 := SV.k5.cell 0
                    have v51 := SV.k5.cell 1
                    have v30 := SV.k3.cell 0
                    have v31 := SV.k3.cell 1
                    have v3f := SV.k3.frozen 0
                    have v3g := SV.k3.frozen 1
                    simp at v50 v51 v30 v31
                    have hsl := slice_to A acc.length cp kp (by omega)
                    go_wp2_with (go_at_call 159; refine (HSp.out _).mono ?_; rintro e w2 ⟨rfl, rfl⟩)
                    have rV := r11.keep (grown_set (b := n5) (o := 1) (.string ⟨(acc.take kp).toArray⟩)) (by have := S11.h5; simp; omega)
                    have kf := (SV.k3.set 0 (.string ⟨ty.toArray⟩)).set 1 (.string ⟨(acc.take kp).toArray⟩)
                    have cf0 := kf.cell 0
                    have cf1 := kf.cell 1
                    simp at cf0 cf1
                    have gf := SV.fin ty (acc.take kp)
                    refine ret_ava (n := w.heap.size) Tryz.results127 (x := ty) (y := (acc.take kp)) (bb := true) rfl rfl rfl cf0 cf1 ?_
                    rw [HL.out]
                    exact ⟨gf, (ty, acc.take kp), rfl, fun y r' h => by cases h; exact ⟨rfl, rV.fin hbw _ _⟩⟩
                · rw [hs1] at HSp
                  as_aux_lemma =>
                    clear hsp hs1
                    have c50 := S11.k5.cell 0
                    have c51 := S11.k5.cell 1
                    have f51 := S11.k5.frozen 1
                    have c30 := S11.k3.cell 0
                    have c31 := S11.k3.cell 1
                    have f30 := S11.k3.frozen 0
                    have f31 := S11.k3.frozen 1
                    simp at c50 c51 c30 c31
                    have SV := S11.val (acc.take kp)
                    have v50 := SV.k5.cell 0
                    have v51 := SV.k5.cell 1
                    have v30 := SV.k3.cell 0
                    have v31 := SV.k3.cell 1
                    have v3f := SV.k3.frozen 0
                    have v3g := SV.k3.frozen 1
                    simp at v50 v51 v30 v31
                    have hsl := slice_to A acc.length cp kp (by omega)
                    go_wp2_with (go_at_call 159; refine (HSp.out _).mono ?_; rintro e w2 ⟨rfl, rfl⟩)
                    have rV := r11.keep (grown_set (b := n5) (o := 1) (.string ⟨(acc.take kp).toArray⟩)) (by have := S11.h5; simp; omega)
                    have kf := (SV.k3.set 0 (.string ⟨ty.toArray⟩)).set 1 (.string ⟨(acc.take kp).toArray⟩)
                    have cf0 := kf.cell 0
                    have cf1 := kf.cell 1
                    simp at cf0 cf1
                    have gf := SV.fin ty (acc.take kp)
                    refine ret_ava (n := w.heap.size) Tryz.results127 (x := ty) (y := (acc.take kp)) (bb := true) rfl rfl rfl cf0 cf1 ?_
                    rw [HL.out]
                    exact ⟨gf, (ty, acc.take kp), rfl, fun y r' h => by cases h; exact ⟨rfl, rV.fin hbw _ _⟩⟩
              · have hs1 : specB c = false := by
                  cases h : specB c
                  · rfl
                  · rw [h] at hsp; exact absurd rfl hsp
                have hz : c ≠ 0 := fun e => hsp (by rw [e]; simp)
                have hz' : ((c.toNat : Int) == 0) = false := n8_f (k := 0) (by omega) hz
                rw [hs1] at HSp
                have hAV3 : rvalL t.length t (acc ++ [c]) (if c = 32 then kp else acc.length + 1) = V := by
                  have h := HAV2.out
                  rw [if_neg hsp] at h
                  exact h
                have HAV3 := Lib.hid hAV3
                clear hAV3 HAV2 hsp hs1 hz
                by_cases h32 : c = 32
                · have q32 : ((c.toNat : Int) == 32) = true := n8_t (k := 32) (by omega) h32
                  have q32' : ((c.toNat : Int) != 32) = false := by simp only [bne, q32]; rfl
                  as_aux_lemma =>
                    rw [if_pos h32] at HAV3
                    clear h32
                    go_wp2_with (first | (go_at_call 159; refine (HSp.out _).mono ?_; rintro e w2 ⟨rfl, rfl⟩) | (at_builtin; refine bufo_byte rfl _ _ rfl rfl b11 rfl (by omega) ?_; intro v' w4 hb4 hg4; obtain ⟨A4, cp4, rfl, hcp4⟩ := row_len hb4.1; have hD4 := b11.dk hg4 hbn HD11.out; have e0 := hD4.c0; have e1 := hD4.c1; have ef := hD4.f1))
                    go_roundg t.length
                    case measure => omega
                    case rel => exact ⟨t, acc ++ [c], kp, Nat.le_refl _, rfl, by simp; omega, by simp; omega, ⟨i + 1, by omega, HDT.out, hD4.set (i + 1)⟩, by simpa using hb4.keep (grown_set (b := b) (o := 1) _) (fun k hk => by cases hk; exact hbn), HAV3.out, (b11.pst hg4 hn5 S11).step (grown_set _)⟩
                · have q32 : ((c.toNat : Int) == 32) = false := n8_f (k := 32) (by omega) h32
                  have q32' : ((c.toNat : Int) != 32) = true := by simp only [bne, q32]; rfl
                  as_aux_lemma =>
                    rw [if_neg h32] at HAV3
                    clear h32
                    go_wp2_with (first | (go_at_call 159; refine (HSp.out _).mono ?_; rintro e w2 ⟨rfl, rfl⟩) | (at_builtin; refine bufo_byte rfl _ _ rfl rfl b11 rfl (by omega) ?_; intro v' w4 hb4 hg4; obtain ⟨A4, cp4, rfl, hcp4⟩ := row_len hb4.1; have hD4 := b11.dk hg4 hbn HD11.out; have e0 := hD4.c0; have e1 := hD4.c1; have ef := hD4.f1))
                    go_roundg t.length
                    case measure => omega
                    case rel => exact ⟨t, acc ++ [c], acc.length + 1, Nat.le_refl _, by simp, by simp, by simp; omega, ⟨i + 1, by omega, HDT.out, hD4.set (i + 1)⟩, by simpa using hb4.keep (grown_set (b := b) (o := 1) _) (fun k hk => by cases hk; exact hbn), HAV3.out, (b11.pst hg4 hn5 S11).step (grown_set _)⟩
      case true =>
        exfalso
        rw [← HR4.out, HEND.out] at h61
        cases h61
end Go.Proofs.YtgpecklibcgifaaGreatDoor
