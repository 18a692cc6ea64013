import Derived.Test.YthenffabboomnaaGreatDoorD0c
import Derived.Shelf.Abstract
import Derived.Shelf.RegionOpen
import Derived.OwnWalkIn
import Derived.TacticsInMore
import Derived.LoopNIn
import Derived.LoopIn
set_option linter.all false
set_option maxHeartbeats 8000000
set_option maxRecDepth 100000
set_option linter.all false
namespace Go.Proofs.YthenffabboomnaaGreatDoor
open Go.RowKit Go.Shelf
attribute [local go_sem] Oper.semAt_some
theorem idx10_none : ∀ (l : List UInt8), 10 ∉ l → Lib.indexByte l 10 = -1
 | [], _ => rfl
 | c :: t, h => by
  simp only [List.mem_cons, not_or] at h
  rw [Lib.indexByte, if_neg (by simpa using fun hc => h.1 hc.symm), idx10_none t h.2]
  rfl
theorem idx10_cut : ∀ (a b : List UInt8), 10 ∉ a → Lib.indexByte (a ++ 10 :: b) 10 = (a.length : Int)
 | [], b, _ => by rw [List.nil_append, Lib.indexByte, if_pos (by rfl)]; rfl
 | c :: a, b, h => by
  simp only [List.mem_cons, not_or] at h
  rw [List.cons_append, Lib.indexByte, if_neg (by simpa using fun hc => h.1 hc.symm), idx10_cut a b h.2, if_neg (by rw [beq_iff_eq]; omega), List.length_cons]
  omega
theorem lines_two (s : List UInt8) : (10 ∉ s ∧ Lib.indexByte s 10 = -1 ∧ Scr.linesL s = [s]) ∨
  ∃ k, k < s.length ∧ Lib.indexByte s 10 = (k : Int) ∧ Scr.linesL s = s.take k :: Scr.linesL (s.drop (k + 1)) := by
 by_cases h : 10 ∈ s
 ·right
  obtain ⟨a, b, rfl, ha⟩ := List.eq_append_cons_of_mem h
  refine ⟨a.length, by simp, idx10_cut a b ha, ?_⟩
  rw [Scr.linesL_cut a b ha]
  congr 1
  ·simp
  ·congr 1
   simp
 ·exact .inl ⟨h, idx10_none s h, Scr.linesL_none s h⟩
def enc27 (x : List UInt8) : Array Value := #[.string ⟨x.toArray⟩]
def left27 (lo : Nat) (w : World) : Nat := match w.cell? ⟨lo, 0, none⟩ with
 | some (.string b) => b.size
 | _ => 0
theorem left27_eq {lo : Nat} {w : World} {s : List UInt8} (h : w.cell? ⟨lo, 0, none⟩ = some (.string ⟨s.toArray⟩)) : left27 lo w = s.length := by
 unfold left27
 rw [h]
 rfl
theorem KpB.bk {lo : Nat} {A B : World} (h : KpB lo A B) {k : Nat} {t : TypeId} {cs : Array Value} (hb : Bk A k t cs) (h1 : lo ≤ k) (h2 : k < lo + 3) : Bk B k t cs := (h k h1 h2).trans hb
theorem pre_app {α : Type} {L pre t : List α} {x : α} (h : L = pre ++ x :: t) : pre ++ [x] <+: L := ⟨t, by rw [h]; simp⟩
set_option maxRecDepth 100000 in
theorem splitIt27 (n : Nat) (hn : 1 ≤ n) (s : List UInt8) (hs : s.length ≤ 1000000) (lo : Nat) (w : World) (b0 : Bk w lo 9 #[.string ⟨s.toArray⟩]) (b1 : Bk w (lo + 1) 9 #[.string ⟨#[10]⟩]) (b2 : Bk w (lo + 2) 3 #[.int .i64 0]) :
  SplitIt Fence.wide n Tryz.prog 49 #[.pointer (some ⟨lo + 1, 0, none⟩), .pointer (some ⟨lo, 0, none⟩), .pointer (some ⟨lo + 2, 0, none⟩)] enc27 lo (Scr.linesL s) w := by
 intro l J Jx W hk hsz hJ hJx hY h0
 have hext := ba_ext
 have B0 := hk.bk b0 (by omega) (by omega)
 have B1 := hk.bk b1 (by omega) (by omega)
 have B2 := hk.bk b2 (by omega) (by omega)
 refine callsIn_of_wp Tryz.func49 rfl trivial ?_ rfl
 simp only [Tryz.ntmps49, List.size_toArray, List.length_cons, List.length_nil, Nat.reduceAdd, Nat.reduceSub, Array.replicate_succ, Array.replicate_zero, List.push_toArray, List.append_toArray, List.nil_append, List.cons_append]
 have c0 := B0.cell 0
 have c1 := B1.cell 0
 have c2 := B2.cell 0
 have f0 := B0.frozen 0
 simp only [List.getElem?_toArray, List.getElem?_cons_zero] at c0 c1 c2
 have HY := Lib.hid hY
 clear hY b0 b1 b2
 have HJ := Lib.hid hJ
 clear hJ
 clear hext
 gi_wp2
 gi_loopw [] (fun wr => ∃ (pre : List (List UInt8)) (r : List UInt8), Hid (Scr.linesL s = pre ++ Scr.linesL r) ∧ r.length ≤ 1000000 ∧ Bk wr lo 9 #[.string ⟨r.toArray⟩] ∧ Bk wr (lo + 1) 9 #[.string ⟨#[10]⟩] ∧ Bk wr (lo + 2) 3 #[.int .i64 0] ∧ J pre wr)
  (fun wr => left27 lo wr)
 case atStart => exact ⟨[], s, Lib.hid rfl, hs, B0, B1, B2, h0⟩
 case round =>
  clear c0 c1 c2 f0 B0 B1 B2 h0
  obtain ⟨pre, r, hL, hr, B0, B1, B2, hJr⟩ := hrel
  have c0 := B0.cell 0
  have c1 := B1.cell 0
  have c2 := B2.cell 0
  have f0 := B0.frozen 0
  simp only [List.getElem?_toArray, List.getElem?_cons_zero] at c0 c1 c2
  rcases lines_two r with ⟨_, hi, hl⟩ | ⟨k, hk, hi, hl⟩
  ·have hL := hL.out
   rw [hl] at hL
   obtain ⟨fn, tmps, assign, body, hy, hR⟩ := HY.out pre r wr hJr (by rw [hL]; exact List.prefix_refl _)
   simp only [enc27] at hy
   have HL := Lib.hid hL
   have HLr := Lib.hid hl
   clear hL hl
   gi_wp2
   refine ⟨trivial, ?_⟩
   refine (callsIn_wide.2 (Tryz.strings_Index_one _ _ _)).mono ?_
   rintro e w' ⟨rfl, hw'⟩
   subst w'
   rw [show ((⟨r.toArray⟩ : ByteArray).data.toList) = r by simp, hi]
   gi_wp2
   refine hR.mono ?_
   rintro e W3 (⟨rfl, hJ3, hk3⟩ | ⟨rfl, hJx3⟩)
   ·gi_wp2
    go_end0
    exact ⟨⟨_, rfl⟩, .inl (by rw [HL.out]; exact hJ3)⟩
   ·gi_wp2
    go_end0
    exact ⟨⟨_, rfl⟩, .inr ⟨_, hJx3⟩⟩
  ·have hL := hL.out
   rw [hl] at hL
   obtain ⟨fn, tmps, assign, body, hy, hR⟩ := HY.out pre (r.take k) wr hJr (pre_app hL)
   simp only [enc27] at hy
   have HL := Lib.hid hL
   have HLr := Lib.hid hl
   clear hL hl
   gi_wp2
   refine ⟨trivial, ?_⟩
   refine (callsIn_wide.2 (Tryz.strings_Index_one _ _ _)).mono ?_
   rintro e w' ⟨rfl, hw'⟩
   subst w'
   rw [show ((⟨r.toArray⟩ : ByteArray).data.toList) = r by simp, hi]
   have hkr : (k : Int) ≤ (r.length : Int) := by omega
   have hkz : (⟨r.toArray⟩ : ByteArray).size = r.length := rfl
   have hk0 : ¬ ((k : Int) < 0) := by omega
   rw [show (⟨(r.take k).toArray⟩ : ByteArray) = (⟨r.toArray⟩ : ByteArray).extract 0 k by rw [ba_ext, sub]; simp] at hy
   gi_wp2
   refine hR.mono ?_
   rintro e W3 (⟨rfl, hJ3, hk3⟩ | ⟨rfl, hJx3⟩)
   ·clear c0 c1 c2 f0
    have D0 := hk3.bk B0 (by omega) (by omega)
    have D1 := hk3.bk B1 (by omega) (by omega)
    have D2 := hk3.bk B2 (by omega) (by omega)
    have c0 := D0.cell 0
    have c1 := D1.cell 0
    have f0 := D0.frozen 0
    simp only [List.getElem?_toArray, List.getElem?_cons_zero] at c0 c1
    gi_wp2
    have hD : Bk (W3.setCell ⟨lo, 0, none⟩ (.string ((⟨r.toArray⟩ : ByteArray).extract (k + 1) r.length))) lo 9 #[.string ⟨(r.drop (k + 1)).toArray⟩] := by
     have := D0.set 0 (.string ((⟨r.toArray⟩ : ByteArray).extract (k + 1) r.length))
     rw [show (⟨r.toArray⟩ : ByteArray).extract (k + 1) r.length = ⟨(r.drop (k + 1)).toArray⟩ by rw [ba_ext, sub_to_end]] at this ⊢
     exact this
    have hm : left27 lo wr = r.length := left27_eq (B0.cell 0)
    refine ⟨⟨pre ++ [r.take k], r.drop (k + 1), Lib.hid (by rw [HL.out]; simp), by simp; omega, hD, D1.far (by omega) _, D2.far (by omega) _, HJ.out _ _ _ hJ3 (grownBy_setCell' W3 lo _)⟩, ?_⟩
    rw [left27_eq (hD.cell 0), hm, List.length_drop]
    omega
   ·gi_wp2
    refine bodyPost_ret (results_none rfl _ _ _) rfl ?_
    exact ⟨⟨_, rfl⟩, .inr ⟨_, hJx3⟩⟩
set_option maxRecDepth 100000 in
theorem splitSeq27 (s : ByteArray) (sep : ByteArray) (i : Int) (w : World) :
  Calls Tryz.prog 22 #[.string s, .string sep, .int .i64 i] w fun e w' => e = .returned (.func (.func 49) #[] #[.pointer (some ⟨w.heap.size + 1, 0, none⟩), .pointer (some ⟨w.heap.size, 0, none⟩), .pointer (some ⟨w.heap.size + 2, 0, none⟩)]) ∧
   w' = ((w.alloc (.cells #[.string s] 9)).alloc (.cells #[.string sep] 9)).alloc (.cells #[.int .i64 i] 3) := by
 go_enter Tryz.func22, Tryz.ntmps22
 go_wp2_with fail
 go_ret
 exact ⟨rfl, rfl⟩
set_option maxRecDepth 100000 in
theorem SplitSeq27 (s : ByteArray) (sep : ByteArray) (w : World) :
  Calls Tryz.prog 11 #[.string s, .string sep] w fun e w' => e = .returned (.func (.func 49) #[] #[.pointer (some ⟨w.heap.size + 1, 0, none⟩), .pointer (some ⟨w.heap.size, 0, none⟩), .pointer (some ⟨w.heap.size + 2, 0, none⟩)]) ∧
   w' = ((w.alloc (.cells #[.string s] 9)).alloc (.cells #[.string sep] 9)).alloc (.cells #[.int .i64 0] 3) := by
 go_enter Tryz.func11, Tryz.ntmps11
 go_wp2_with (go_at_call 22; refine (splitSeq27 _ _ _ _).mono ?_; rintro e w' ⟨rfl, rfl⟩)
 go_ret
 exact ⟨rfl, rfl⟩
end Go.Proofs.YthenffabboomnaaGreatDoor
