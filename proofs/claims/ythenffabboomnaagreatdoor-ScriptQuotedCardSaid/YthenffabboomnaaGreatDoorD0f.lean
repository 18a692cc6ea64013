import Derived.Test.YthenffabboomnaaGreatDoorD0e
set_option linter.all false
set_option maxHeartbeats 8000000
set_option maxRecDepth 100000
namespace Go.Proofs.YthenffabboomnaaGreatDoor
open Go.RowKit
def bRen166 : Go.Shelf.Ren := ⟨fun | 166 => 17 | 240 => 40 | 276 => 76 | n => n, fun | 0 => 0 | 3 => 3 | 4 => 4 | 5 => 5 | 9 => 9 | 20 => 20 | 37 => 55 | 70 => 54 | 72 => 57 | 75 => 59 | 80 => 63 | 164 => 124 | n => n, fun | n => n⟩
theorem bLays166 : Go.Proofs.Lays.n166 Tryz.prog bRen166 := {
 mixed := by kernel_rfl
 f166 := Tryz.func17.trans (congrArg some (by kernel_rfl))
 f240 := Tryz.func40.trans (congrArg some (by kernel_rfl))
 f276 := Tryz.func76.trans (congrArg some (by kernel_rfl))
 t0 := Tryz.underlying0
 a0 := Tryz.isAgg0
 z0 := Tryz.sizeOf0
 v0 := Tryz.zeroValue0
 t3 := Tryz.underlying3
 a3 := Tryz.isAgg3
 z3 := Tryz.sizeOf3
 v3 := Tryz.zeroValue3
 t4 := Tryz.underlying4
 a4 := Tryz.isAgg4
 z4 := Tryz.sizeOf4
 v4 := Tryz.zeroValue4
 t9 := Tryz.underlying9
 a9 := Tryz.isAgg9
 z9 := Tryz.sizeOf9
 v9 := Tryz.zeroValue9
 t20 := Tryz.underlying20
 a20 := Tryz.isAgg20
 z20 := Tryz.sizeOf20
 v20 := Tryz.zeroValue20
 t37 := Tryz.underlying55
 a37 := Tryz.isAgg55
 z37 := Tryz.sizeOf55
 v37 := Tryz.zeroValue55
 t70 := Tryz.underlying54
 a70 := Tryz.isAgg54
 z70 := Tryz.sizeOf54
 v70 := Tryz.zeroValue54
 t72 := Tryz.underlying57
 a72 := Tryz.isAgg57
 z72 := Tryz.sizeOf57
 v72 := Tryz.zeroValue57
 t75 := Tryz.underlying59
 a75 := Tryz.isAgg59
 z75 := Tryz.sizeOf59
 v75 := Tryz.zeroValue59
 t164 := Tryz.underlying124
 a164 := Tryz.isAgg124
 z164 := Tryz.sizeOf124
 v164 := Tryz.zeroValue124 }
def bRen167 : Go.Shelf.Ren := ⟨fun | 167 => 16 | 240 => 40 | 276 => 76 | n => n, fun | 0 => 0 | 4 => 4 | 5 => 5 | 9 => 9 | 20 => 20 | 37 => 55 | 70 => 54 | 72 => 57 | 75 => 59 | 80 => 63 | 164 => 124 | n => n, fun | n => n⟩
theorem bLays167 : Go.Proofs.Lays.n167 Tryz.prog bRen167 := {
 mixed := by kernel_rfl
 f167 := Tryz.func16.trans (congrArg some (by kernel_rfl))
 f240 := Tryz.func40.trans (congrArg some (by kernel_rfl))
 f276 := Tryz.func76.trans (congrArg some (by kernel_rfl))
 t0 := Tryz.underlying0
 a0 := Tryz.isAgg0
 z0 := Tryz.sizeOf0
 v0 := Tryz.zeroValue0
 t4 := Tryz.underlying4
 a4 := Tryz.isAgg4
 z4 := Tryz.sizeOf4
 v4 := Tryz.zeroValue4
 t5 := Tryz.underlying5
 a5 := Tryz.isAgg5
 z5 := Tryz.sizeOf5
 v5 := Tryz.zeroValue5
 t9 := Tryz.underlying9
 a9 := Tryz.isAgg9
 z9 := Tryz.sizeOf9
 v9 := Tryz.zeroValue9
 t20 := Tryz.underlying20
 a20 := Tryz.isAgg20
 z20 := Tryz.sizeOf20
 v20 := Tryz.zeroValue20
 t37 := Tryz.underlying55
 a37 := Tryz.isAgg55
 z37 := Tryz.sizeOf55
 v37 := Tryz.zeroValue55
 t70 := Tryz.underlying54
 a70 := Tryz.isAgg54
 z70 := Tryz.sizeOf54
 v70 := Tryz.zeroValue54
 t72 := Tryz.underlying57
 a72 := Tryz.isAgg57
 z72 := Tryz.sizeOf57
 v72 := Tryz.zeroValue57
 t75 := Tryz.underlying59
 a75 := Tryz.isAgg59
 z75 := Tryz.sizeOf59
 v75 := Tryz.zeroValue59
 t164 := Tryz.underlying124
 a164 := Tryz.isAgg124
 z164 := Tryz.sizeOf124
 v164 := Tryz.zeroValue124 }
theorem bldX166 : Builder.Extra Tryz.prog bRen166 := { sizeBuilder := by kernel_rfl, liesBuilder := by kernel_rfl, t5 := Tryz.underlying5, a5 := Tryz.isAgg5, z5 := Tryz.sizeOf5, v5 := Tryz.zeroValue5, infoByte := by kernel_rfl, cellsByte := by kernel_rfl, sizeByte := by kernel_rfl, neB5 := by decide }
theorem bldX167 : Builder.Extra Tryz.prog bRen167 := { sizeBuilder := by kernel_rfl, liesBuilder := by kernel_rfl, t5 := Tryz.underlying5, a5 := Tryz.isAgg5, z5 := Tryz.sizeOf5, v5 := Tryz.zeroValue5, infoByte := by kernel_rfl, cellsByte := by kernel_rfl, sizeByte := by kernel_rfl, neB5 := by decide }
def IsB (B b : Nat) (l : List UInt8) (w : World) : Prop := Lib.IsBuilderF 57 5 B b (Lib.byteCells l) w ∧ B ≤ w.heap.size
theorem bytes_app (a b : List UInt8) : Lib.byteCells a ++ Lib.byteCells b = Lib.byteCells (a ++ b) := by
 unfold Lib.byteCells
 rw [List.map_append]
theorem BString_c (B b : Nat) (l : List UInt8) (w : World) (h : IsB B b l w) :
  Calls Tryz.prog 19 #[.pointer (some ⟨b, 0, none⟩)] w fun e w' => e = .returned (.string ⟨l.toArray⟩) ∧ IsB B b l w' ∧ Below B w w' := by
 refine Calls.mono (Any.Builder_String_any_k Tryz.lays169 Tryz.Builder_Extra_169 B b l w h.1 h.2) ?_
 rintro e w' ⟨he, hB, hb, _⟩
 exact ⟨he, ⟨hB, Nat.le_trans h.2 hb.size⟩, hb⟩
theorem IsB.new (w : World) : IsB w.heap.size w.heap.size [] (w.alloc (.cells #[.pointer none, .slice none 0 0] 57)) := by
 refine ⟨.inl ⟨Nat.le_refl _, .slice none 0 0, heap_alloc_new w _, World.ownsRowF_of (World.ownsRow_nil _ _ _ _), ?_⟩, by simp⟩
 all_goals simp [Value.ownBlock]
open Go.RowKit
abbrev Oth27 (b : Nat) (w w' : World) : Prop := Lib.OthersKept 5 (some b) w w'
theorem WriteString27_c (B b : Nat) (l s : List UInt8) (w : World) (h : IsB B b l w) (hl : l.length + s.length ≤ 140737488355328) :
  Calls Tryz.prog 17 #[.pointer (some ⟨b, 0, none⟩), .string ⟨s.toArray⟩] w fun e w' => e = .returned (.tuple #[.int .i64 s.length, .nilIface]) ∧ IsB B b (l ++ s) w' ∧ Below B w w' ∧ Oth27 b w w' := by
 have hc := Any.Builder_WriteString_k bLays166 bldX166 B b (Lib.byteCells l) ⟨s.toArray⟩ w h.1 (by simpa [Lib.byteCells, ByteArray.size] using hl) h.2
 refine Calls.mono hc ?_
 rintro e w' ⟨he, hB, hb, ho⟩
 refine ⟨he, ⟨.inr ?_, Nat.le_trans h.2 hb.size⟩, hb, ho⟩
 have hs : Lib.strCells ⟨s.toArray⟩ = Lib.byteCells s := by first | rfl | simp [Lib.strCells, Lib.byteCells]
 rw [hs, bytes_app] at hB
 exact hB
theorem WriteByte27_c (B b : Nat) (l : List UInt8) (c : UInt8) (w : World) (h : IsB B b l w) (hl : l.length + 1 ≤ 140737488355328) :
  Calls Tryz.prog 16 #[.pointer (some ⟨b, 0, none⟩), .int .u8 c.toNat] w fun e w' => e = .returned .nilIface ∧ IsB B b (l ++ [c]) w' ∧ Below B w w' ∧ Oth27 b w w' := by
 have hc := Any.Builder_WriteByte_k bLays167 bldX167 B b (Lib.byteCells l) c.toNat w h.1 (by simpa [Lib.byteCells] using hl) h.2
 refine Calls.mono hc ?_
 rintro e w' ⟨he, hB, hb, ho⟩
 refine ⟨he, ⟨.inr ?_, Nat.le_trans h.2 hb.size⟩, hb, ho⟩
 have hs : [Value.int .u8 (c.toNat : Int)] = Lib.byteCells [c] := rfl
 rw [hs, bytes_app] at hB
 exact hB
theorem IsB.below27 {B b : Nat} {l : List UInt8} {w w' : World} (h : IsB B b l w) (hb : Below w.heap.size w w') : IsB B b l w' := by
 obtain ⟨h1, h2⟩ := h
 refine ⟨h1.imp ?_ ?_, Nat.le_trans h2 hb.size⟩
 all_goals
  rintro ⟨hBb, v, hk, hown, hne⟩
  have hlt : b < w.heap.size := (Array.getElem?_eq_some_iff.1 hk).1
  have hO : BufO B w v l := ⟨by simpa [Lib.byteCells] using hown, h2⟩
  refine ⟨hBb, v, (hb.block b hlt).trans hk, ?_, hne⟩
  have := (hO.keep (grown_below hb none) (fun k e => by cases e)).1
  simpa [Lib.byteCells] using this
theorem slice_at27 (v : List UInt8) (k n : Nat) (hn : k + n ≤ v.length) (W : World) : (Instr.slice 9 (.string ⟨v.toArray⟩) (some (.int .i64 (k : Int))) (some (.int .i64 ((k + n : Nat) : Int))) none).run Tryz.prog W = .ok (.string ⟨((v.drop k).take n).toArray⟩) W := by
 have := slice_str8 v k (k + n) W (by omega) hn
 rwa [show k + n - k = n by omega] at this
end Go.Proofs.YthenffabboomnaaGreatDoor
set_option linter.all false
namespace Go.Proofs.YthenffabboomnaaGreatDoor
open Go.RowKit
structure QJ (w : World) (wr : World) (s : List UInt8) (k : Nat) (acc : List UInt8) : Prop where
 rest : acc ++ ((s.drop k).flatMap Scr.qc ++ [34]) = Scr.quoteL s
 len : acc.length ≤ 3 * k + 1
 isb : IsB w.heap.size w.heap.size acc wr
 bel : Below w.heap.size w wr
theorem qc_len (c : UInt8) : (Scr.qc c).length ≤ 3 := by
 unfold Scr.qc
 split
 ·simp
 ·split
  ·simp
  ·obtain ⟨p, q, h, _⟩ := Scr.hex_digits c
   rw [h]
   simp
theorem slice_one27 (s : List UInt8) (k : Nat) (hk : k < s.length) (c : UInt8) (hc : s[k] = c) (W : World) : (Instr.slice 9 (.string ⟨s.toArray⟩) (some (.int .i64 (k : Int))) (some (.int .i64 ((k : Int) + 1))) none).run Tryz.prog W = .ok (.string ⟨[c].toArray⟩) W := by
 have := slice_at27 s k 1 (by omega) W
 rw [show ((k + 1 : Nat) : Int) = (k : Int) + 1 by omega, List.drop_eq_getElem_cons hk, hc] at this
 exact this
set_option maxRecDepth 100000 in
theorem quote27_c (s : List UInt8) (w : World) (hl : s.length ≤ 1000000) :
  Calls Tryz.prog 9 #[.string ⟨s.toArray⟩] w fun e w' => e = .returned (.string ⟨(Scr.quoteL s).toArray⟩) ∧ Below w.heap.size w w' := by
 obtain ⟨R, hR⟩ : ∃ R, Scr.quoteL s = R := ⟨_, rfl⟩
 rw [hR]
 have HR := Lib.hid hR
 clear hR
 have hget := ba_get
 have H0 := Lib.hid (IsB.new w)
 have HB0 := Lib.hid ((Below.refl w.heap.size w).alloc (Nat.le_refl _) (.cells #[.pointer none, .slice none 0 0] 57))
 go_enter Tryz.func9, Tryz.ntmps9
 go_wp2_with (go_at_call 16; (refine (WriteByte27_c w.heap.size w.heap.size [] 34 _ H0.out (by simp)).mono ?_); rintro e w7 ⟨rfl, hI7, hb7, _⟩)
 go_loopg [9] s.length (fun gk i wr => ∃ (k : Nat) (acc : List UInt8), k ≤ s.length ∧ i = .int .i64 (k : Int) ∧ Aside (s.length ≤ k + gk) ∧ Aside (QJ w wr s k acc))
 case atStart => exact ⟨0, [34], by omega, rfl, by show _ ≤ _; omega, rfl, by simp, hI7, HB0.out.trans hb7⟩
 case round =>
  clear H0 HB0 hI7 hb7
  obtain ⟨k, acc, hk, rfl, AG, AJ⟩ := hrel
  by_cases hlt : k < s.length
  ·have hki : (k : Int) < (s.length : Int) := by omega
   have hk0 : (0 : Int) ≤ (k : Int) := by omega
   have hdl : s.drop k = s[k] :: s.drop (k + 1) := List.drop_eq_getElem_cons hlt
   obtain ⟨c, hc⟩ : ∃ c, s[k] = c := ⟨_, rfl⟩
   have hsl := slice_one27 s k hlt c hc
   have hwk : IntKind.i64.wrap ((k : Int) + 1) = (k : Int) + 1 := by rw [IntWalk.i64_in _ (by omega)]
   obtain ⟨q, rfl⟩ : ∃ q, gk = q + 1 := ⟨gk - 1, by have := AG.out; omega⟩
   rw [hc] at hdl
   have hal : acc.length ≤ 100000000 := by have := AJ.out.len; omega
   have FIN : Hid (∀ (e : List UInt8) (W : World), Scr.qc c = e → IsB w.heap.size w.heap.size (acc ++ e) W → Below w.heap.size w W → QJ w W s (k + 1) (acc ++ e)) := Lib.hid (fun e W h1 h3 h4 => ⟨by
    have := AJ.out.rest
    rw [hdl, List.flatMap_cons, h1] at this
    rw [← this]
    simp, by
    have h5 := qc_len c
    rw [h1] at h5
    rw [List.length_append]
    have := AJ.out.len
    omega, h3, h4⟩)
   have hcl : (c.toNat : Int) < 256 := by have := c.toNat_lt; omega
   clear hdl
   by_cases hq : c = 34 ∨ c = 92
   ·have hqc : Scr.qc c = [92, c] := by unfold Scr.qc; rw [if_pos hq]
    have HQ := Lib.hid hqc
    clear hqc
    have hcat := fun w => run_string_add_lists (P := Tryz.prog) w [92] [c] (by simp) (by simp)
    have fin2 : ∀ W, IsB w.heap.size w.heap.size (acc ++ [92, c]) W → Below wr.heap.size wr W ∨ Below w.heap.size wr W → Below w.heap.size w W := fun W _ h => by
     rcases h with h | h
     ·exact AJ.out.bel.trans (h.mono AJ.out.bel.size)
     ·exact AJ.out.bel.trans h
    have F2 := Lib.hid fin2
    clear fin2
    rcases hq with rfl | rfl
    all_goals
     go_wp2_with (first
      | (go_at_call 17; (refine (WriteString27_c w.heap.size w.heap.size acc [92, _] _ (by exact AJ.out.isb) (by simp only [List.length_cons, List.length_nil]; omega)).mono ?_); rintro e w7 ⟨rfl, hI7, hb7, _⟩))
     go_roundg q
     case measure => omega
     case rel => exact ⟨k + 1, _, by omega, by go_num, by have := AG.out; show _ ≤ _; omega, FIN.out _ _ HQ.out hI7 (F2.out _ hI7 (.inr hb7))⟩
   ·have hn := hq
    simp only [not_or] at hn
    have h34 : ((c.toNat : Int) == 34) = false := by
     rw [beq_eq_false_iff_ne]
     intro h
     refine hn.1 (UInt8.toNat_inj.1 ?_)
     have : c.toNat = 34 := by omega
     rw [this]; rfl
    have h92 : ((c.toNat : Int) == 92) = false := by
     rw [beq_eq_false_iff_ne]
     intro h
     refine hn.2 (UInt8.toNat_inj.1 ?_)
     have : c.toNat = 92 := by omega
     rw [this]; rfl
    by_cases hp : 32 ≤ c.toNat ∧ c.toNat ≤ 126
    ·have HQ : Hid (Scr.qc c = [c]) := Lib.hid (by unfold Scr.qc; rw [if_neg hq, if_pos hp])
     have p1 : (32 : Int) ≤ (c.toNat : Int) := by omega
     have p2 : (c.toNat : Int) ≤ 126 := by omega
     clear hn hq hp hsl
     go_wp2_with (first
      | (go_at_call 16; (refine (WriteByte27_c w.heap.size w.heap.size acc c _ (by exact AJ.out.isb) (by omega)).mono ?_); rintro e w7 ⟨rfl, hI7, hb7, _⟩))
     go_roundg q
     case measure => omega
     case rel => exact ⟨k + 1, _, by omega, by go_num, by have := AG.out; show _ ≤ _; omega, FIN.out _ _ HQ.out hI7 (AJ.out.bel.trans hb7)⟩
    ·have HQ : Hid (Scr.qc c = 92 :: hexL [c]) := Lib.hid (by unfold Scr.qc; rw [if_neg hq, if_neg hp])
     have hxl : (hexL [c]).length = 2 := rfl
     have hcat := fun w => run_string_add_lists (P := Tryz.prog) w [92] (hexL [c]) (by simp) (by rw [hxl]; decide)
     have HH := Lib.hid (fun W => Hex_c [c] W (by simp))
     have hp2 : (c.toNat : Int) < 32 ∨ (32 : Int) ≤ (c.toNat : Int) ∧ ¬ (c.toNat : Int) ≤ 126 := by omega
     clear hn hq hp
     generalize hexL [c] = hx2 at *
     rcases hp2 with p1 | ⟨p1, p2⟩
     ·have p1 : ¬ (32 : Int) ≤ (c.toNat : Int) := by omega
      go_wp2_with (first
       | (go_at_call 18; (with_reducible refine (HH.out _).mono ?_); rintro e w5 ⟨rfl, hb5⟩; have HI5 := Lib.hid (AJ.out.isb.below27 hb5))
       | (go_at_call 17; (refine (WriteString27_c w.heap.size w.heap.size acc (92 :: hx2) _ (by exact HI5.out) (by simp only [List.length_cons]; omega)).mono ?_); rintro e w7 ⟨rfl, hI7, hb7, _⟩))
      go_roundg q
      case measure => omega
      case rel => exact ⟨k + 1, _, by omega, by go_num, by have := AG.out; show _ ≤ _; omega, FIN.out _ _ HQ.out hI7 ((AJ.out.bel.trans (hb5.mono AJ.out.bel.size)).trans hb7)⟩
     ·go_wp2_with (first
       | (go_at_call 18; (with_reducible refine (HH.out _).mono ?_); rintro e w5 ⟨rfl, hb5⟩; have HI5 := Lib.hid (AJ.out.isb.below27 hb5))
       | (go_at_call 17; (refine (WriteString27_c w.heap.size w.heap.size acc (92 :: hx2) _ (by exact HI5.out) (by simp only [List.length_cons]; omega)).mono ?_); rintro e w7 ⟨rfl, hI7, hb7, _⟩))
      go_roundg q
      case measure => omega
      case rel => exact ⟨k + 1, _, by omega, by go_num, by have := AG.out; show _ ≤ _; omega, FIN.out _ _ HQ.out hI7 ((AJ.out.bel.trans (hb5.mono AJ.out.bel.size)).trans hb7)⟩
  ·obtain rfl : k = s.length := by omega
   have hf := AJ.out.rest
   rw [List.drop_length, List.flatMap_nil, List.nil_append, HR.out] at hf
   have hal : acc.length ≤ 100000000 := by have := AJ.out.len; omega
   subst hf
   go_wp2_with (first
    | (go_at_call 16; (refine (WriteByte27_c w.heap.size w.heap.size acc 34 _ (by exact AJ.out.isb) (by omega)).mono ?_); rintro e w7 ⟨rfl, hI7, hb7, _⟩)
    | (go_at_call 19; (refine (BString_c w.heap.size w.heap.size (acc ++ [34]) w7 hI7).mono ?_); rintro e w2 ⟨rfl, hB2, hb2⟩))
   go_ret
   exact ⟨rfl, (AJ.out.bel.trans hb7).trans hb2⟩
end Go.Proofs.YthenffabboomnaaGreatDoor
set_option linter.all false
namespace Go.Proofs.YthenffabboomnaaGreatDoor
open Go.RowKit
namespace Scr
theorem trim_mid (a : UInt8) (m : List UInt8) (z : UInt8) (ha : a ≠ 32) (hz : z ≠ 32) : trim27 (32 :: 32 :: (a :: (m ++ [z])) ++ [32, 32]) = a :: (m ++ [z]) := by
 unfold trim27
 rw [Lib.trimS_one]
 simp [Lib.trimB, Lib.trimLeftB, Lib.trimRightB, List.dropWhile_cons, ha, hz]
theorem trim_self (a : UInt8) (m : List UInt8) (z : UInt8) (ha : a ≠ 32) (hz : z ≠ 32) : trim27 (a :: (m ++ [z])) = a :: (m ++ [z]) := by
 unfold trim27
 rw [Lib.trimS_one]
 simp [Lib.trimB, Lib.trimLeftB, Lib.trimRightB, List.dropWhile_cons, ha, hz]
def feedW : List UInt8 := [102, 101, 101, 100]
def confW : List UInt8 := [99, 111, 110, 102]
def line1 (d : UInt8) (s : List UInt8) : List UInt8 := [102, 101, 101, 100, 32, 32, d, 32] ++ quoteL s
def line2 (s : List UInt8) : List UInt8 := [99, 111, 110, 102, 32] ++ quoteL s
theorem words_quote (n : Nat) (acc : List WordP) (s : List UInt8) (h : 2 ≤ n) : wordsF n (32 :: quoteL s) acc = some (acc ++ [(s, true)]) := by
 obtain ⟨k, rfl⟩ : ∃ k, n = k + 2 := ⟨n - 2, by omega⟩
 have hd : (32 :: quoteL s).dropWhile (· == 32) = 34 :: (s.flatMap qc ++ [34]) := rfl
 rw [wordsF_quo hd (unq_quoted s [] []) (.inl rfl), wordsF_nil (by rfl)]
 rfl
theorem words_line2 (s : List UInt8) : wordsL (line2 s) = some [(confW, false), (s, true)] := by
 unfold wordsL
 have hl : (line2 s).length = (quoteL s).length + 5 := by simp [line2]
 have hq : 2 ≤ (quoteL s).length + 5 := by omega
 rw [hl]
 have hd : (line2 s).dropWhile (· == 32) = 99 :: (111 :: 110 :: 102 :: 32 :: quoteL s) := rfl
 have hr : ((99 : UInt8) :: (111 :: 110 :: 102 :: 32 :: quoteL s)).dropWhile (fun x => !isCut x) = 32 :: quoteL s := rfl
 have ht : ((99 : UInt8) :: (111 :: 110 :: 102 :: 32 :: quoteL s)).takeWhile (fun x => !isCut x) = confW := rfl
 rw [wordsF_plain hd (by decide) (by rw [hr]; simp), hr, ht, words_quote _ _ _ hq]
 rfl
theorem words_line1 (d : UInt8) (s : List UInt8) (h1 : isCut d = false) : wordsL (line1 d s) = some [(feedW, false), ([d], false), (s, true)] := by
 have h32 : (d == 32) = false := by unfold isCut at h1; simp only [Bool.or_eq_false_iff] at h1; exact h1.1
 have h34 : d ≠ 34 := by unfold isCut at h1; simp only [Bool.or_eq_false_iff, beq_eq_false_iff_ne] at h1; exact h1.2
 unfold wordsL
 have hl : (line1 d s).length + 1 = (quoteL s).length + 7 + 1 + 1 := by simp [line1]
 rw [hl]
 have hd : (line1 d s).dropWhile (· == 32) = 102 :: (101 :: 101 :: 100 :: 32 :: 32 :: d :: 32 :: quoteL s) := rfl
 have hr : ((102 : UInt8) :: (101 :: 101 :: 100 :: 32 :: 32 :: d :: 32 :: quoteL s)).dropWhile (fun x => !isCut x) = 32 :: 32 :: d :: 32 :: quoteL s := rfl
 have ht : ((102 : UInt8) :: (101 :: 101 :: 100 :: 32 :: 32 :: d :: 32 :: quoteL s)).takeWhile (fun x => !isCut x) = feedW := rfl
 have hd2 : (32 :: 32 :: d :: 32 :: quoteL s).dropWhile (· == 32) = d :: 32 :: quoteL s := by
  rw [List.dropWhile_cons_of_pos (by rfl), List.dropWhile_cons_of_pos (by rfl), List.dropWhile_cons_of_neg (by rw [h32]; decide)]
 have hr2 : (d :: 32 :: quoteL s).dropWhile (fun x => !isCut x) = 32 :: quoteL s := by
  rw [List.dropWhile_cons_of_pos (by rw [h1]; rfl), List.dropWhile_cons_of_neg (by decide)]
 have ht2 : (d :: 32 :: quoteL s).takeWhile (fun x => !isCut x) = [d] := by
  rw [List.takeWhile_cons_of_pos (by rw [h1]; rfl), List.takeWhile_cons_of_neg (by decide)]
 rw [wordsF_plain hd (by decide) (by rw [hr]; simp), hr, ht, wordsF_plain hd2 h34 (by rw [hr2]; simp), hr2, ht2, words_quote _ _ _ (by omega)]
 rfl
def textQ (d : UInt8) (s : List UInt8) : List UInt8 := [32, 32, 102, 101, 101, 100, 32, 32] ++ [d] ++ [32] ++ quoteL s ++ [32, 32, 10, 99, 111, 110, 102, 32] ++ quoteL s
theorem quote_ten (s : List UInt8) : 10 ∉ quoteL s := fun h => by
 have := (quote_fair s 10 h).1
 revert this
 decide
theorem lines_text (d : UInt8) (s : List UInt8) (hd : d ≠ 10) : linesL (textQ d s) = [32 :: 32 :: (line1 d s ++ [32, 32]), line2 s] := by
 have h1 : textQ d s = (32 :: 32 :: (line1 d s ++ [32, 32])) ++ 10 :: line2 s := by simp [textQ, line1, line2]
 rw [h1, linesL_cut _ _ (by
  have hq := quote_ten s
  simp [line1, hq, Ne.symm hd]), linesL_none _ (by
  have hq := quote_ten s
  simp [line2, hq])]
def stepA (n : Int) (s : List UInt8) : StepP := { zeroStep feedW with conn := n, data := s }
def stepB (s : List UInt8) : StepP := { zeroStep confW with data := s }
theorem digit_facts : ∀ n : Fin 8, isCut (UInt8.ofNat (48 + n.val)) = false ∧ UInt8.ofNat (48 + n.val) ≠ 10 ∧ Cfg.numS [UInt8.ofNat (48 + n.val)] = ((n.val : Int), true) := by decide +kernel
theorem quote_split (s : List UInt8) (a : UInt8) (t : List UInt8) : (a :: t) ++ quoteL s = a :: ((t ++ 34 :: s.flatMap qc) ++ [34]) := by simp [quoteL]
end Scr
theorem text_lines (n : Nat) (hn : n ≤ 7) (s : List UInt8) (hs : s.length ≤ 9000) : LinesOK (Scr.linesL (Scr.textQ (UInt8.ofNat (48 + n)) s)) [some (Scr.stepA (n : Int) s), some (Scr.stepB s)] := by
 obtain ⟨f1, f2, f3⟩ := Scr.digit_facts ⟨n, by omega⟩
 simp only at f1 f2 f3
 rw [Scr.lines_text _ _ f2]
 have hq := Scr.quote_len s
 refine ⟨rfl, ?_⟩
 intro k x hx
 match k with
 | 0 =>
  obtain rfl : _ = x := Option.some.inj hx
  have ht : trim27 (32 :: 32 :: (Scr.line1 (UInt8.ofNat (48 + n)) s ++ [32, 32])) = Scr.line1 (UInt8.ofNat (48 + n)) s := by
   unfold Scr.line1
   rw [Scr.quote_split]
   exact Scr.trim_mid _ _ _ (by decide) (by decide)
  refine ⟨_, rfl, .inr ⟨_, 102, [101, 101, 100, 32, 32, UInt8.ofNat (48 + n), 32] ++ Scr.quoteL s, Scr.feedW, .feed, [([UInt8.ofNat (48 + n)], false), (s, true)], rfl, ?_, by decide, ?_, ?_, ?_, ?_, ?_, trivial⟩⟩
  ·rw [ht]; rfl
  ·rw [ht]; simp only [Scr.line1, List.length_append, List.length_cons, List.length_nil]; omega
  ·rw [ht]; exact Scr.words_line1 _ _ f1
  ·unfold stepsL Scr.feedW; simp
  ·exact ⟨by simp, by intro y hy; simp only [List.mem_cons, List.not_mem_nil, or_false] at hy; rcases hy with rfl | rfl | rfl <;> simp [Scr.feedW] <;> omega⟩
  ·have hup : Scr.upToR 7 [([UInt8.ofNat (48 + n)], false), (s, true)] = some ((n : Int), [(s, true)]) := by
    simp only [Scr.upToR, Scr.numR, Scr.nextR, if_true, f3]
    rw [if_pos (by omega)]
   show Scr.thenF Scr.connF Scr.dataF _ _ = _
   simp only [Scr.thenF, Scr.connF, hup, Scr.dataF, Scr.nextR, if_true]
   rfl
 | 1 =>
  obtain rfl : _ = x := Option.some.inj hx
  have ht : trim27 (Scr.line2 s) = Scr.line2 s := by
   unfold Scr.line2
   rw [Scr.quote_split]
   exact Scr.trim_self _ _ _ (by decide) (by decide)
  refine ⟨_, rfl, .inr ⟨_, 99, [111, 110, 102, 32] ++ Scr.quoteL s, Scr.confW, .data, [(s, true)], rfl, ?_, by decide, ?_, ?_, ?_, ?_, ?_, trivial⟩⟩
  ·rw [ht]; rfl
  ·rw [ht]; simp only [Scr.line2, List.length_append, List.length_cons, List.length_nil]; omega
  ·rw [ht]; exact Scr.words_line2 _
  ·unfold stepsL Scr.confW; simp
  ·exact ⟨by simp, by intro y hy; simp only [List.mem_cons, List.not_mem_nil, or_false] at hy; rcases hy with rfl | rfl <;> simp [Scr.confW] <;> omega⟩
  ·rw [show kindF StK.data = Scr.dataF from rfl]
   simp only [Scr.dataF, Scr.nextR, if_true]
   rfl
 | k + 2 => cases hx
def aliveT27 : List UInt8 := [35, 32, 120, 10, 111, 112, 101, 110, 32, 49, 10, 32, 97, 115, 107, 32, 49, 32, 55, 32, 100, 101, 108, 101, 116, 101, 32, 34, 100, 99, 61, 122, 34]
def stepO : Scr.StepP := { Scr.zeroStep [111, 112, 101, 110] with conn := 1 }
def stepD : Scr.StepP := { Scr.zeroStep [97, 115, 107] with conn := 1, msg := delM 7 [100, 99, 61, 122] }
theorem alive_lines27 : LinesOK (Scr.linesL aliveT27) [none, some stepO, some stepD] := by
 rw [show Scr.linesL aliveT27 = [[35, 32, 120], [111, 112, 101, 110, 32, 49], [32, 97, 115, 107, 32, 49, 32, 55, 32, 100, 101, 108, 101, 116, 101, 32, 34, 100, 99, 61, 122, 34]] by decide +kernel]
 refine ⟨rfl, ?_⟩
 intro k x hx
 match k with
 | 0 =>
  obtain rfl : _ = x := Option.some.inj hx
  exact ⟨_, rfl, .inl ⟨rfl, .inr ⟨[32, 120], by decide +kernel⟩⟩⟩
 | 1 =>
  obtain rfl : _ = x := Option.some.inj hx
  refine ⟨_, rfl, .inr ⟨_, 111, [112, 101, 110, 32, 49], [111, 112, 101, 110], .conn, [([49], false)], rfl, by decide +kernel, by decide, by decide +kernel, by decide +kernel, ?_, ?_, ?_, trivial⟩⟩
  ·unfold stepsL; simp
  ·exact ⟨by simp, by intro y hy; simp only [List.mem_cons, List.not_mem_nil, or_false] at hy; rcases hy with rfl | rfl <;> simp⟩
  ·rfl
 | 2 =>
  obtain rfl : _ = x := Option.some.inj hx
  refine ⟨_, rfl, .inr ⟨_, 97, [115, 107, 32, 49, 32, 55, 32, 100, 101, 108, 101, 116, 101, 32, 34, 100, 99, 61, 122, 34], [97, 115, 107], .ask, [([49], false), ([55], false), (delW, false), ([100, 99, 61, 122], true)], rfl, by decide +kernel, by decide, by decide +kernel, by decide +kernel, ?_, ?_, ?_, ?_⟩⟩
  ·unfold stepsL; simp
  ·exact ⟨by simp, by intro y hy; simp only [List.mem_cons, List.not_mem_nil, or_false] at hy; rcases hy with rfl | rfl | rfl | rfl | rfl <;> simp [delW]⟩
  ·rfl
  ·intro n t ht
   have : Scr.upToR 7 [([49], false), ([55], false), (delW, false), ([100, 99, 61, 122], true)] = some (1, [([55], false), (delW, false), ([100, 99, 61, 122], true)]) := rfl
   rw [this] at ht
   cases ht
   exact ⟨rfl, [55], 7, [100, 99, 61, 122], [], rfl, by decide +kernel, by decide, by decide⟩
 | k + 3 => cases hx
end Go.Proofs.YthenffabboomnaaGreatDoor
set_option linter.all false
namespace Go.Proofs.YthenffabboomnaaGreatDoor
open Go.RowKit
theorem OutS.cells {B : Nat} {W : World} {v : Value} {l : List Scr.StepP} (h : OutS B W v l) (hne : l ≠ []) : ∃ g c, v = .slice (some ⟨g, 0, none⟩) l.length c ∧ g < W.heap.size ∧ ∀ (i : Nat) (u : Value), (l.flatMap fun P => stepCells P nilV)[i]? = some u → W.cell? ⟨g, i, none⟩ = some u := by
 rcases h.2 with ⟨rfl, h0⟩ | ⟨g, cap, cur, rfl, hB, hgb, hc, _, hcs, ht⟩
 ·exact absurd (List.eq_nil_of_length_eq_zero h0) hne
 ·have hb : Bk W g 39 cur := hgb
  refine ⟨g, cap, rfl, hb.lt, fun i u hu => ?_⟩
  rw [hb.cell i]
  rw [← ht, List.getElem?_take] at hu
  split at hu
  ·rw [← hu]; simp
  ·cases hu
set_option maxRecDepth 100000 in
theorem alive27_c (w : World) : Calls Tryz.prog 6 #[] w fun e w' => e = .returned (.bool true) ∧ Below w.heap.size w w' := by
 have HP := Lib.hid (parse27_c aliveT27 (by decide) _ alive_lines27 (by decide) w)
 have HQ := Lib.hid (fun W => quote27_c [97, 34, 0] W (by simp))
 rw [show Scr.quoteL [97, 34, 0] = [34, 97, 92, 34, 92, 48, 48, 34] by decide +kernel] at HQ
 unfold aliveT27 at HP
 go_enter Tryz.func6, Tryz.ntmps6
 go_wp2_with (first
  | (go_at_call 7; (refine HP.out.mono ?_); rintro e w2 ⟨hb, v, rfl, ho⟩; obtain ⟨g, c, rfl, hc1, hcell⟩ := OutS.cells (l := [stepO, stepD]) ho (by simp); have x1 := hcell 36 (.int .i64 7) rfl; have x2 := hcell 38 (.string ⟨#[100, 99, 61, 122]⟩) rfl; clear hcell ho; simp only [List.length_cons, List.length_nil, Nat.reduceAdd])
  | (go_at_call 9; (refine (HQ.out _).mono ?_); rintro e w3 ⟨rfl, hb3⟩))
 go_ret
 exact ⟨rfl, hb.trans (hb3.mono hb.size)⟩
end Go.Proofs.YthenffabboomnaaGreatDoor
