/- Contracts of small functions over bytes and characters. -/
import Derived.Test.YtcjobpcbppcdnaaGreatDoorProg
import Derived.WalkKit
import Derived.WalkSpells
import Derived.WalkLawsBesides
import Derived.Lib.Hide
import Derived.Test.YtcjobpcbppcdnaaGreatDoorShelf
import Derived.Lib.BufSteps
import Derived.Lib.OthersKept
import Derived.Lib.ValidLaws
import Derived.Lib.RuneBytes
import Derived.Test.YtcjobpcbppcdnaaGreatDoorCards
import Derived.Test.YtcjobpcbppcdnaaGreatDoorTie
import Derived.ProofKit
import Derived.OpenShut
import Derived.Deep.DeepHandedRow
import Derived.Deep.DeepWitnessRowRef
import Derived.Lib.LaidTab
import Derived.Lib.LaidIn
import Derived.Lib.LaidU8T
import Derived.PinnedBridge
import Derived.Shelf.Vars
import Derived.Deep.LoopGhost
import Derived.Lib.MapLaws
import Derived.Deep.QuietTactic
import Derived.BigQuiet
import Derived.Lib.ConvBytes
import Derived.Deep.RegionHeld3
import Derived.Laws.EntriesVeiled
import Derived.Laws.AppendOwnNone
import Derived.Lib.SplitLaws
set_option linter.all false
namespace Go.Proofs.YtcjobpcbppcdnaaGreatDoor
open Go.RowKit

def letB (c : Int) : Bool := decide (97 ≤ c) && decide (c ≤ 122) || decide (65 ≤ c) && decide (c ≤ 90)
def digB (c : Int) : Bool := decide (48 ≤ c) && decide (c ≤ 57)
def inTypeB (c : Int) : Bool := letB c || digB c || c == 45 || c == 46

theorem retb {a b : Bool} (h : a = b) : Ending.returned (.bool a) = .returned (.bool b) := by rw [h]
theorem reti {k : IntKind} {a b : Int} (h : a = b) : Ending.returned (.int k a) = .returned (.int k b) := by rw [h]
theorem ba_get (l : List UInt8) (k : Nat) (h : k < (⟨l.toArray⟩ : ByteArray).size) : (⟨l.toArray⟩ : ByteArray)[k] = l[k]'(by simpa [ByteArray.size] using h) := rfl

set_option maxHeartbeats 400000 in
theorem isLetter_c (c : Int) (w : World) :
    Calls Tryz.prog 84 #[.int .u8 c] w fun e w' => e = .returned (.bool (letB c)) ∧ w = w' := by
  go_enter Tryz.func84, Tryz.ntmps84
  go_wp2
  all_goals (go_ret; refine ⟨retb ?_, rfl⟩; unfold letB; rw [Bool.eq_iff_iff]; simp; omega)
set_option maxHeartbeats 400000 in
theorem isDigit_c (c : Int) (w : World) :
    Calls Tryz.prog 132 #[.int .u8 c] w fun e w' => e = .returned (.bool (digB c)) ∧ w = w' := by
  go_enter Tryz.func132, Tryz.ntmps132
  go_wp2
  all_goals (go_ret; refine ⟨retb ?_, rfl⟩; unfold digB; rw [Bool.eq_iff_iff]; simp; omega)
set_option maxHeartbeats 400000 in
theorem inType_c (c : Int) (w : World) :
    Calls Tryz.prog 86 #[.int .u8 c] w fun e w' => e = .returned (.bool (inTypeB c)) ∧ w = w' := by
  cases h1 : letB c <;> cases h2 : digB c
  all_goals
    go_enter Tryz.func86, Tryz.ntmps86
    go_wp2_with (first | (go_at_call 84; refine (isLetter_c _ _).mono ?_; rintro e w' ⟨rfl, rfl⟩; rw [h1]) | (go_at_call 132; refine (isDigit_c _ _).mono ?_; rintro e w' ⟨rfl, rfl⟩; rw [h2]))
    all_goals (go_ret; refine ⟨retb ?_, rfl⟩; unfold inTypeB; simp [*])

def digitV (c : Int) : Int := if 48 ≤ c ∧ c ≤ 57 then c - 48 else if 97 ≤ c ∧ c ≤ 102 then c - 87 else if 65 ≤ c ∧ c ≤ 70 then c - 55 else -1
set_option maxHeartbeats 400000 in
theorem Digit_c (c : Int) (w : World) (h0 : 0 ≤ c) (h1 : c < 256) :
    Calls Tryz.prog 211 #[.int .u8 c] w fun e w' => e = .returned (.int .i64 (digitV c)) ∧ w = w' := by
  go_enter Tryz.func211, Tryz.ntmps211
  go_wp2
  all_goals (go_ret; refine ⟨reti ?_, rfl⟩; unfold digitV; repeat' split)
  all_goals (first | omega | (simp; omega))

def daysV (y m : Int) : Int := if m = 4 ∨ m = 6 ∨ m = 9 ∨ m = 11 then 30 else if m = 2 then (if y % 4 = 0 ∧ y % 100 ≠ 0 ∨ y % 400 = 0 then 29 else 28) else 31
set_option maxHeartbeats 400000 in
theorem days_c (y m : Int) (w : World) (h0 : 0 ≤ y) (h1 : y < 10000) :
    Calls Tryz.prog 143 #[.int .i64 y, .int .i64 m] w fun e w' => e = .returned (.int .i64 (daysV y m)) ∧ w = w' := by
  go_enter Tryz.func143, Tryz.ntmps143
  go_wp2
  all_goals (go_ret; refine ⟨reti ?_, rfl⟩; unfold daysV)
  all_goals (simp only [beq_iff_eq, beq_eq_false_iff_ne, bne_iff_ne, bne_eq_false_iff_eq, ne_eq] at *)
  all_goals (repeat' split)
  all_goals omega

def asciiL : List UInt8 → Bool
  | [] => true
  | c :: r => decide (c.toNat < 128) && asciiL r

set_option maxRecDepth 10000 in
set_option maxHeartbeats 400000 in
theorem isASCII_c (l : List UInt8) (w : World) (hl : l.length ≤ 1024) :
    Calls Tryz.prog 109 #[.string ⟨l.toArray⟩] w fun e w' => e = .returned (.bool (asciiL l)) ∧ w = w' := by
  have hget := ba_get
  go_enter Tryz.func109, Tryz.ntmps109
  go_wp2
  go_loop [6] (fun i => ∃ k : Nat, k ≤ l.length ∧ i = .int .i64 k ∧ Hid (asciiL l = asciiL (l.drop k))) (fun i => l.length - (intOf i).toNat)
  case atStart => exact ⟨0, Nat.zero_le _, rfl, Lib.hid rfl⟩
  case round =>
    obtain ⟨k, hk, rfl, HI⟩ := hrel
    by_cases hlt : k < l.length
    · by_cases hc : l[k].toNat < 128
      · have HI' : Hid (asciiL l = asciiL (l.drop (k+1))) := Lib.hid (by rw [HI.out, List.drop_eq_getElem_cons hlt]; simp [asciiL, hc])
        go_wp2
        go_round
        case rel => exact ⟨k + 1, by omega, by go_num, HI'⟩
        case measure => simp [intOf]; omega
      · go_wp2
        go_ret
        exact ⟨retb (by rw [HI.out, List.drop_eq_getElem_cons hlt]; simp [asciiL, hc]), rfl⟩
    · go_wp2
      go_ret
      exact ⟨retb (by rw [HI.out, List.drop_eq_nil_of_le (by omega)]; simp [asciiL]), rfl⟩
end Go.Proofs.YtcjobpcbppcdnaaGreatDoor
/- Contracts of package prep's functions on characters. -/
namespace Go.Proofs.YtcjobpcbppcdnaaGreatDoor
open Go.RowKit

def blankR (r : Int) : Prop := (9 ≤ r ∧ r ≤ 13) ∨ r = 0x85 ∨ r = 0xA0 ∨ r = 0x1680 ∨ (0x2000 ≤ r ∧ r ≤ 0x200A) ∨ r = 0x2028 ∨ r = 0x2029 ∨ r = 0x202F ∨ r = 0x205F ∨ r = 0x3000
instance (r : Int) : Decidable (blankR r) := by unfold blankR; infer_instance
def goesR (r : Int) : Prop := (0 ≤ r ∧ r < 32) ∨ (127 ≤ r ∧ r ≤ 0x9F) ∨ r = 0xAD ∨ r = 0x34F ∨ r = 0x1806 ∨ (0x180B ≤ r ∧ r ≤ 0x180E) ∨ (0x200B ≤ r ∧ r ≤ 0x200F) ∨ (0x202A ≤ r ∧ r ≤ 0x202E) ∨ (0x2060 ≤ r ∧ r ≤ 0x206F) ∨ (0xFE00 ≤ r ∧ r ≤ 0xFE0F) ∨ r = 0xFEFF ∨ (0xFFF9 ≤ r ∧ r ≤ 0xFFFC)
instance (r : Int) : Decidable (goesR r) := by unfold goesR; infer_instance
def refR (r : Int) : Prop := r < 0 ∨ (0xD800 ≤ r ∧ r ≤ 0xF8FF) ∨ (0xFFFD ≤ r ∧ r ≤ 0xFFFF) ∨ 0xF0000 ≤ r
instance (r : Int) : Decidable (refR r) := by unfold refR; infer_instance
def blankB (r : Int) : Bool := decide (blankR r)
def goesB (r : Int) : Bool := decide (goesR r)
def refB (r : Int) : Bool := decide (refR r)

set_option maxRecDepth 100000 in
set_option maxHeartbeats 1000000 in
theorem isBlank_c (r : Int) (w : World) :
    Calls Tryz.prog 202 #[.int .i32 r] w fun e w' => e = .returned (.bool (blankB r)) ∧ w = w' := by
  go_enter Tryz.func202, Tryz.ntmps202
  go_wp2
  all_goals (go_ret; refine ⟨retb ?_, rfl⟩; unfold blankB)
  all_goals (try simp only [beq_iff_eq, beq_eq_false_iff_ne, ne_eq] at *)
  all_goals (first | (refine (decide_eq_true ?_).symm; unfold blankR; omega) | (refine (decide_eq_false ?_).symm; unfold blankR; omega))
set_option maxRecDepth 100000 in
set_option maxHeartbeats 1000000 in
theorem goes_c (r : Int) (w : World) :
    Calls Tryz.prog 203 #[.int .i32 r] w fun e w' => e = .returned (.bool (goesB r)) ∧ w = w' := by
  go_enter Tryz.func203, Tryz.ntmps203
  go_wp2
  all_goals (go_ret; refine ⟨retb ?_, rfl⟩; unfold goesB)
  all_goals (try simp only [beq_iff_eq, beq_eq_false_iff_ne, ne_eq] at *)
  all_goals (first | (refine (decide_eq_true ?_).symm; unfold goesR; omega) | (refine (decide_eq_false ?_).symm; unfold goesR; omega))
set_option maxRecDepth 100000 in
set_option maxHeartbeats 1000000 in
theorem isRefused_c (r : Int) (w : World) :
    Calls Tryz.prog 204 #[.int .i32 r] w fun e w' => e = .returned (.bool (refB r)) ∧ w = w' := by
  go_enter Tryz.func204, Tryz.ntmps204
  go_wp2
  all_goals (go_ret; refine ⟨retb ?_, rfl⟩; unfold refB)
  all_goals (rw [Bool.eq_iff_iff]; simp only [Bool.or_eq_true, Bool.and_eq_true, decide_eq_true_eq, Bool.false_eq_true, Bool.true_eq_false, iff_true, false_iff, true_iff]; unfold refR; omega)

/-- What becomes of a character: (the new one, it stays, it is refused). -/
def mapR (r : Int) : Int × Bool × Bool := if blankR r then (32, true, false) else if goesR r then (0, false, false) else if refR r then (0, false, true) else (r, true, false)
set_option maxRecDepth 100000 in
set_option maxHeartbeats 1000000 in
theorem Map_c (r : Int) (w : World) :
    Calls Tryz.prog 180 #[.int .i32 r] w fun e w' => e = .returned (.tuple #[.int .i32 (mapR r).1, .bool (mapR r).2.1, .bool (mapR r).2.2]) ∧ w = w' := by
  cases h1 : blankB r <;> cases h2 : goesB r <;> cases h3 : refB r
  all_goals
    go_enter Tryz.func180, Tryz.ntmps180
    go_wp2_with (first | (go_at_call 202; refine (isBlank_c _ _).mono ?_; rintro e w' ⟨rfl, rfl⟩; rw [h1]) | (go_at_call 203; refine (goes_c _ _).mono ?_; rintro e w' ⟨rfl, rfl⟩; rw [h2]) | (go_at_call 204; refine (isRefused_c _ _).mono ?_; rintro e w' ⟨rfl, rfl⟩; rw [h3]))
    go_ret3
    refine ⟨?_, rfl⟩
    simp only [blankB, goesB, refB, decide_eq_true_eq, decide_eq_false_iff_not] at h1 h2 h3
    simp [mapR, h1, h2, h3]

def foldR (r : Int) : Int :=
  if (65 ≤ r ∧ r ≤ 90) ∨ (0xC0 ≤ r ∧ r ≤ 0xDE ∧ r ≠ 0xD7) ∨ (0x391 ≤ r ∧ r ≤ 0x3A9 ∧ r ≠ 0x3A2) ∨ (0x410 ≤ r ∧ r ≤ 0x42F) then r + 32
  else if 0x400 ≤ r ∧ r ≤ 0x40F then r + 80
  else if r = 0x1E9E then 0xDF
  else if ((0x100 ≤ r ∧ r ≤ 0x137) ∨ (0x14A ≤ r ∧ r ≤ 0x177)) ∧ r % 2 = 0 then r + 1
  else r
set_option maxRecDepth 100000 in
set_option maxHeartbeats 1000000 in
theorem Fold_c (r : Int) (w : World) (h0 : 0 ≤ r) (h1 : r ≤ 0x10FFFF) :
    Calls Tryz.prog 181 #[.int .i32 r] w fun e w' => e = .returned (.int .i32 (foldR r)) ∧ w = w' := by
  go_enter Tryz.func181, Tryz.ntmps181
  go_wp2
  all_goals (go_ret; refine ⟨reti ?_, rfl⟩)
  all_goals (try simp only [beq_iff_eq, beq_eq_false_iff_ne, bne_iff_ne, bne_eq_false_iff_eq, ne_eq] at *)
  all_goals (unfold foldR; repeat' split)
  all_goals omega
end Go.Proofs.YtcjobpcbppcdnaaGreatDoor
/- The base: the environment that the program's library reads, buffers of bytes, small facts. -/
namespace Go.Proofs.YtcjobpcbppcdnaaGreatDoor
open Go.RowKit

theorem cell_lt {w : World} {a : Addr} {v : Value} (h : w.cell? a = some v) : a.block < w.heap.size := by
  rcases Nat.lt_or_ge a.block w.heap.size with h' | h'
  · exact h'
  · simp [World.cell?, Array.getElem?_eq_none h'] at h

/-- What the library reads: the two tables of unicode/utf8, a number. -/
structure Env (w : World) : Prop where
  tabs : Lib.Utf8Tabs 1 2 w
  mx : ∃ m, w.cell? ⟨0, 0, none⟩ = some (.int .i64 m)

theorem Env.below {w w' : World} (h : Env w) {B : Nat} (hB : w.heap.size ≤ B) (hb : Below B w w') : Env w' := by
  obtain ⟨⟨h1, h2⟩, m, hm⟩ := h
  refine ⟨⟨fun c hc => ?_, fun i hi => ?_⟩, m, ?_⟩
  · rw [hb.cell (p := ⟨_, c, none⟩) (Nat.lt_of_lt_of_le (cell_lt (h1 c hc)) hB)]; exact h1 c hc
  · have := h2 i hi
    exact ⟨by rw [hb.cell (p := ⟨_, 2 * i, none⟩) (Nat.lt_of_lt_of_le (cell_lt this.1) hB)]; exact this.1, by rw [hb.cell (p := ⟨_, 2 * i + 1, none⟩) (Nat.lt_of_lt_of_le (cell_lt this.2) hB)]; exact this.2⟩
  · rw [hb.cell (p := ⟨_, 0, none⟩) (Nat.lt_of_lt_of_le (cell_lt hm) hB)]; exact hm
theorem Env.keep {w w' : World} (h : Env w) (hb : Below w.heap.size w w') : Env w' := h.below (Nat.le_refl _) hb

/-- A buffer of bytes that the call has made since W0. -/
def Buf (W0 w : World) (v : Value) (l : List UInt8) : Prop := Lib.OwnBuf W0.heap.size 5 v l.length (Lib.byteCells l) W0 w

theorem Buf.nil (w : World) : Buf w w (.slice none 0 0) [] := ⟨World.ownsRowF_nil _ _ _ _, Below.refl _ _, Nat.le_refl _⟩
theorem Buf.below {W0 w : World} {v : Value} {l : List UInt8} (h : Buf W0 w v l) : Below W0.heap.size W0 w := h.2.1
theorem Buf.le {W0 w : World} {v : Value} {l : List UInt8} (h : Buf W0 w v l) : W0.heap.size ≤ w.heap.size := h.2.2
theorem Buf.alloc {W0 w : World} {v : Value} {l : List UInt8} (h : Buf W0 w v l) (o : Obj) : Buf W0 (w.alloc o) v l := Lib.OwnBuf.alloc h o
theorem Buf.drewN {W0 w : World} {v : Value} {l : List UInt8} (h : Buf W0 w v l) (n : Nat) : Buf W0 (w.drewN n) v l := Lib.OwnBuf.drewN h n
/-- What leaves the heap as it is below its size, and only adds blocks. -/
theorem Buf.grow {W0 w w' : World} {v : Value} {l : List UInt8} (h : Buf W0 w v l) (hb : Below w.heap.size w w') : Buf W0 w' v l := by
  obtain ⟨ho, hB, hle⟩ := h
  refine ⟨ho.kept (row := none) ⟨hb.os, hb.tape, hb.output, hb.size, fun k hk _ => hb.block k hk⟩ ?_, hB.trans (hb.mono hle), Nat.le_trans hle hb.size⟩
  rcases hv : v.ownBlock with _ | g
  · exact .inl rfl
  · exact .inr (by simp)
theorem Buf.iterAt {W0 w : World} {v : Value} {l : List UInt8} (h : Buf W0 w v l) {k : Nat} {s : ByteArray} {p q : Nat} (hk : w.heap[k]? = some (.stringIter s p)) (hW : W0.heap.size ≤ k) : Buf W0 (w.iterAt k s q) v l := by
  obtain ⟨ho, hB, hle⟩ := h
  have hb : ∀ j, j ≠ k → (w.iterAt k s q).heap[j]? = w.heap[j]? := fun j hj => by simp [World.iterAt, Array.getElem?_setIfInBounds, Ne.symm hj]
  have hsz : (w.iterAt k s q).heap.size = w.heap.size := by simp [World.iterAt]
  refine ⟨?_, hB.trans ⟨rfl, rfl, rfl, by omega, fun j hj => hb j (by omega)⟩, by omega⟩
  obtain ⟨h1, h2⟩ := ho
  refine ⟨h1, h2.imp id ?_⟩
  rintro ⟨g, cap, cur, fz, r1, r2, r3, r4⟩
  refine ⟨g, cap, cur, fz, r1, r2, ?_, r4⟩
  rw [hb g (by rintro rfl; rw [hk] at r3; cases r3)]; exact r3

section
variable {ops : Array Oper} {rest : List Oper} {o : Oper} {a : Act} {Q : Exit → Act → World → Prop}
theorem infoByte : ∃ i, Tryz.prog.info? 5 = some i ∧ i.zero = some (.int .u8 0) ∧ i.size = 1 ∧ i.bytes = 1 := by
  obtain ⟨i, h1, h2, h3, h4⟩ := info_parts (show (Tryz.prog.info? 5).map (fun i => (i.zero, i.size, i.bytes)) = some (some (.int .u8 0), 1, 1) by kernel_rfl)
  exact ⟨i, h1, h2, h3, h4⟩
/-- 'buf = append(buf, c)'. -/
theorem buf_byte (hgd : o.guard = none) (s x : Operand) (ho : o.op = .call { callee := .builtin .append, args := #[s, x], argTypes := #[26, 26] })
    {v : Value} {l : List UInt8} {W0 w0 : World} {c : UInt8} (hs : a.eval s = v) (hb : Buf W0 w0 v l)
    (hx : a.eval x = .slice (some ⟨w0.heap.size, 0, none⟩) 1 1) (hlen : l.length < 140737488355328)
    (h : ∀ v' w', Buf W0 w' v' (l ++ [c]) → w0.grownBy w' v.ownBlock → wpList Tryz.prog ops Q rest (a.put o.dst v') w') : wpList Tryz.prog ops Q (o :: rest) a (w0.alloc (.cells #[.int .u8 c.toNat] 5)) := by
  obtain ⟨i, h1, h2, h3, h4⟩ := infoByte
  have hb' := Lib.OwnBuf.alloc hb (.cells #[.int .u8 c.toNat] 5)
  refine wpList_append_ownF _ hgd s x 26 ho W0.heap.size 5 i (.int .u8 0) 1 1 Tryz.underlying26 h1 h2 h3 h4 rfl (by decide) v _ _ hs hb'.1 ⟨w0.heap.size, 0, none⟩ 1 1 [.int .u8 c.toNat] hx rfl ?_ ?_ (by unfold maxLen; omega) (by omega) hb'.2.2 ?_
  · intro j u hj
    match j, hj with
    | 0, hj => simp at hj; subst hj; simp [Addr.add]
    | (j + 1), hj => simp at hj
  · intro u hu; simp at hu; subst hu; rfl
  · intro v' w' ho' hg _
    refine h v' w' ?_ (World.grownBy.trans (World.grownBy_alloc _ _ _) hg)
    have hv := hb'.grown ho' hg
    unfold Buf
    simpa [Lib.byteCells] using hv
/-- 'make([]byte, 0, n)'. -/
theorem buf_make {w : World} (hgd : o.guard = none) (l c : Operand) (ho : o.op = Op.makeSlice 26 l c) (n : Nat) (C : Int) (hl : a.eval l = .int .i64 0) (hc : a.eval c = .int .i64 C) (hC : C = (n : Int)) (hn : n ≤ 140737488355328)
    (h : ∀ w', Buf w w' (.slice (some ⟨w.heap.size, 0, none⟩) 0 n) [] → wpList Tryz.prog ops Q rest (a.put o.dst (.slice (some ⟨w.heap.size, 0, none⟩) 0 n)) w') : wpList Tryz.prog ops Q (o :: rest) a w := by
  obtain ⟨i, h1, h2, h3, h4⟩ := infoByte
  refine wpList_make_own w hgd l c 26 ho w.heap.size 5 i (.int .u8 0) 1 Tryz.underlying26 h1 h2 h3 .i64 .i64 C n hl hc hC (by rw [h4]; omega) (by unfold maxLen; omega) (Nat.le_refl _) ?_
  intro w' ho' hg
  exact h w' ⟨World.ownsRowF_of ho', (Below.refl _ _).grown hg (Nat.le_refl _) (fun k hk => by cases hk), hg.size⟩
/-- 'buf = append(buf, s...)', s a string. -/
theorem buf_text {w : World} (hgd : o.guard = none) (sl x : Operand) (ho : o.op = .call { callee := .builtin .append, args := #[sl, x], argTypes := #[26, 9] })
    {v : Value} {l m : List UInt8} {W0 : World} (hs : a.eval sl = v) (hb : Buf W0 w v l)
    (hx : a.eval x = .string ⟨m.toArray⟩) (hlen : l.length + m.length ≤ 140737488355328)
    (h : ∀ v' w', Buf W0 w' v' (l ++ m) → w.grownBy w' v.ownBlock → wpList Tryz.prog ops Q rest (a.put o.dst v') w') : wpList Tryz.prog ops Q (o :: rest) a w := by
  obtain ⟨i, h1, h2, h3, h4⟩ := infoByte
  have hsz : (⟨m.toArray⟩ : ByteArray).size = m.length := by simp [ByteArray.size]
  refine Lib.wpList_append_own_stringF w hgd sl x 26 9 ho W0.heap.size 5 i Tryz.underlying26 Tryz.underlying9 h1 h2 h3 h4 v _ _ hs hb.1 ⟨m.toArray⟩ hx (by rw [hsz]; unfold maxLen; omega) (by rw [hsz]; exact hlen) hb.2.2 ?_
  intro v' w' ho' hg _
  refine h v' w' ?_ hg
  have hv := Lib.OwnBuf.grown hb ho' hg
  unfold Buf
  simpa [Lib.byteCells, Lib.strCells, ByteArray.size] using hv
end
/-- A block that is no row of bytes stays behind an append. -/
theorem Buf.other {W0 w w' : World} {v : Value} {l : List UInt8} {k : Nat} {o : Obj} (h : Buf W0 w v l) (hg : w.grownBy w' v.ownBlock) (hk : w.heap[k]? = some o) (ho : ∀ c f, o ≠ .cells c 5 f) : w'.heap[k]? = some o := by
  rw [hg.block k ((Array.getElem?_eq_some_iff.1 hk).1)]
  · exact hk
  · obtain ⟨⟨h1, h2⟩, _⟩ := h
    rcases h2 with ⟨rfl, hn⟩ | ⟨g, cap, cur, fz, rfl, r2, r3, r4, r5, r6, r7, r8⟩
    · simp [Value.ownBlock]
    · intro e
      obtain rfl : k = g := by simpa [Value.ownBlock] using e
      rw [hk] at r3
      exact ho _ _ (Option.some.inj r3)
/-- 'string(buf)'. -/
theorem row_string {B : Nat} {w : World} {v : Value} {l : List UInt8} (h : w.ownsRowF B 5 1 v l.length (Lib.byteCells l)) : (convert 26 9 v).run Tryz.prog w = .ok (.string ⟨l.toArray⟩) w := by
  obtain ⟨h1, h2⟩ := h
  rcases h2 with ⟨rfl, hn⟩ | ⟨g, cap, cur, fz, rfl, r2, r3, r4, r5, r6, r7, r8⟩
  · obtain rfl : l = [] := List.eq_nil_of_length_eq_zero hn
    rw [run_convert_bytes_nil (w := w) (P := Tryz.prog) 26 5 Tryz.underlying26 Tryz.underlying5 0 0 9 Tryz.underlying9]
    rfl
  · refine run_convert_bytes_back w 26 9 5 ⟨g, 0, none⟩ cap l Tryz.underlying26 Tryz.underlying5 Tryz.underlying9 ?_
    intro j hj
    have hadd : (⟨g, 0, none⟩ : Addr).add j = ⟨g, j, none⟩ := by unfold Addr.add; split <;> simp_all
    rw [hadd]
    simp only [World.cell?, r3]
    have : (cur.toList.take (l.length * 1))[j]? = some (.int .u8 l[j].toNat) := by rw [r8]; simp [Lib.byteCells, hj]
    rw [List.getElem?_take] at this
    simpa [hj] using this
theorem buf_string {W0 w : World} {v : Value} {l : List UInt8} (h : Buf W0 w v l) : (convert 26 9 v).run Tryz.prog w = .ok (.string ⟨l.toArray⟩) w := row_string h.1
/-- A cell of the buffer. -/
theorem row_cell {B : Nat} {w : World} {v : Value} {l : List UInt8} (h : w.ownsRowF B 5 1 v l.length (Lib.byteCells l)) (hl : l ≠ []) : ∃ g cap, v = .slice (some ⟨g, 0, none⟩) l.length cap ∧ l.length ≤ cap ∧ B ≤ g ∧ g < w.heap.size ∧ ∀ j (hj : j < l.length), w.cell? ⟨g, j, none⟩ = some (.int .u8 l[j].toNat) := by
  obtain ⟨h1, h2⟩ := h
  rcases h2 with ⟨rfl, hn⟩ | ⟨g, cap, cur, fz, rfl, r2, r3, r4, r5, r6, r7, r8⟩
  · exact absurd (List.eq_nil_of_length_eq_zero hn) hl
  · refine ⟨g, cap, rfl, r5, r2, (Array.getElem?_eq_some_iff.1 r3).1, fun j hj => ?_⟩
    simp only [World.cell?, r3]
    have : (cur.toList.take (l.length * 1))[j]? = some (.int .u8 l[j].toNat) := by rw [r8]; simp [Lib.byteCells, hj]
    rw [List.getElem?_take] at this
    simpa [hj] using this
theorem Buf.cell {W0 w : World} {v : Value} {l : List UInt8} (h : Buf W0 w v l) (hl : l ≠ []) : ∃ g cap, v = .slice (some ⟨g, 0, none⟩) l.length cap ∧ l.length ≤ cap ∧ W0.heap.size ≤ g ∧ g < w.heap.size ∧ ∀ j (hj : j < l.length), w.cell? ⟨g, j, none⟩ = some (.int .u8 l[j].toNat) := row_cell h.1 hl
theorem row_len {B : Nat} {w : World} {v : Value} {l : List UInt8} (h : w.ownsRowF B 5 1 v l.length (Lib.byteCells l)) : ∃ A cap, v = .slice A l.length cap ∧ l.length ≤ cap := by
  obtain ⟨h1, h2⟩ := h
  rcases h2 with ⟨rfl, hn⟩ | ⟨g, cap, cur, fz, rfl, r2, r3, r4, r5, r6, r7, r8⟩
  · exact ⟨none, 0, by rw [hn], by omega⟩
  · exact ⟨_, cap, rfl, r5⟩
theorem Buf.len {W0 w : World} {v : Value} {l : List UInt8} (h : Buf W0 w v l) : ∃ A cap, v = .slice A l.length cap ∧ l.length ≤ cap := row_len h.1
end Go.Proofs.YtcjobpcbppcdnaaGreatDoor
/- The frame of the cards: what the rows list gives the environment; the witness's world. -/
namespace Go.Proofs.YtcjobpcbppcdnaaGreatDoor
open Go.ChangeShapes Go.WideShapes Go.ChangeAt Go.RowKit Go.Lib Go.Shelf

theorem own : ownKnob Tryz.prog.godebug = none := by kernel_rfl
/-- What every row lists. -/
def laidL : List (String × DataW Unit) := [("unicode/utf8.acceptRanges", Lib.acceptData), ("unicode/utf8.first", Lib.firstData)]
theorem env_of {W : World} (hL : laidMetH Tryz.prog laidL W) (hsh : W.ShapedOpen Tryz.prog) : Env W where
  tabs := utf8Tabs_of_readsT (U8Types.of196 Tryz.lays196) ⟨by kernel_rfl, by kernel_rfl, by kernel_rfl, by kernel_rfl, by kernel_rfl, by kernel_rfl, by kernel_rfl⟩ (Lib.laidMet.reads hL (.tail _ (.head _))) (Lib.laidMet.reads hL (.head _))
  mx := cell_of_shapedOpen_int (P := Tryz.prog) (g := 0) (t := 3) (zero := #[.int .i64 0]) hsh (of_decide_eq_true (by kernel_rfl)) (by kernel_rfl) rfl (by kernel_rfl) (by kernel_rfl) Tryz.underlying3
/-- The witness's world: the settled one, the two tables holding what their initialisers lay. -/
noncomputable def laidWorld (os : Os) : World :=
  let w0 := World.holding Tryz.prog os ⟨#[], #[], []⟩
  let put (h : Array Obj) (g : Nat) (cs : Array Value) : Array Obj := h.modify g fun
    | .cells _ t frozen => .cells cs t frozen
    | o => o
  let h1 := put w0.heap 1 (Lib.firstTab.map fun z => Value.int .u8 z).toArray
  let h2 := put h1 2 ((List.range 16).flatMap fun i => [Value.int .u8 (Lib.accLo i), Value.int .u8 (Lib.accHi i)]).toArray
  { w0 with heap := h2 }
theorem laid_met (os : Os) (args : Array Value) : laidMet Tryz.prog laidL ((laidWorld os).forCall (fun _ _ => 0) ⟨#[], args, []⟩).memory :=
  (LaidIn.of_run (l := laidL) [2, 1] 8 (by kernel_rfl) (by kernel_rfl) (by kernel_rfl) (by kernel_rfl)).met
end Go.Proofs.YtcjobpcbppcdnaaGreatDoor
/- Contracts: octet's texts and characters. -/
namespace Go.Proofs.YtcjobpcbppcdnaaGreatDoor
open Go.RowKit

def encR (r : Int) : List UInt8 := (Utf8.encode r).data.toList
theorem encR_mk (r : Int) : (⟨(encR r).toArray⟩ : ByteArray) = Utf8.encode r := rfl

set_option maxHeartbeats 400000 in
theorem PutRune_c (r : Int) (w : World) (hv : Lib.validRune r = true) :
    Calls Tryz.prog 182 #[.int .i32 r] w fun e w' => e = .returned (.tuple #[.string ⟨(encR r).toArray⟩, .int .i64 0]) ∧ w = w' := by
  go_enter Tryz.func182, Tryz.ntmps182
  go_wp2_with (go_at_call 160; refine (Tryz.utf8_ValidRune _ _).mono ?_; rintro e w' ⟨rfl, rfl⟩; rw [hv])
  go_ret2
  exact ⟨rfl, rfl⟩

set_option maxHeartbeats 400000 in
theorem Text_c (l : List UInt8) (w : World) (hw : Env w) (hl : l.length ≤ 9223372036854775807) :
    Calls Tryz.prog 118 #[.string ⟨l.toArray⟩] w fun e w' => e = .returned (.bool (Lib.validD l)) ∧ Below w.heap.size w w' := by
  have cV := Tryz.utf8_ValidString ⟨l.toArray⟩ w (by simpa [ByteArray.size] using hl) hw.tabs
  simp only at cV
  generalize Lib.validD l = V at cV ⊢
  go_enter Tryz.func118, Tryz.ntmps118
  go_wp2_with (go_at_call 156; refine cV.mono ?_; rintro e w' ⟨rfl, hb⟩)
  go_ret
  exact ⟨rfl, hb⟩

def cmpB (a b : List UInt8) : Int := Lib.compareBytes a b
set_option maxHeartbeats 400000 in
theorem Compare_c (a b : List UInt8) (w : World) :
    Calls Tryz.prog 71 #[.string ⟨a.toArray⟩, .string ⟨b.toArray⟩] w fun e w' => e = .returned (.int .i64 (cmpB a b)) ∧ w = w' := by
  have cV := Tryz.strings_Compare ⟨a.toArray⟩ ⟨b.toArray⟩ w
  simp only at cV
  unfold cmpB
  generalize Lib.compareBytes a b = V at cV ⊢
  go_enter Tryz.func71, Tryz.ntmps71
  go_wp2_with (go_at_call 116; refine cV.mono ?_; rintro e w' ⟨rfl, rfl⟩)
  go_ret
  exact ⟨rfl, rfl⟩

/-- The characters of a text. -/
def runesF : Nat → List UInt8 → List Int
  | 0, _ => []
  | _ + 1, [] => []
  | n + 1, b :: l => ((Lib.decodeL (b :: l)).1 : Int) :: runesF n ((b :: l).drop (Lib.decodeL (b :: l)).2)
def runes (l : List UInt8) : List Int := runesF l.length l

/-- One character put behind what is mapped already; none: it is refused. -/
def stepM (fold : Bool) (acc : List UInt8) (r : Int) : Option (List UInt8) :=
  if (mapR r).2.2 then none
  else if !(mapR r).2.1 then some acc
  else if (mapR r).1 = 32 ∧ acc.getLast? = some 32 then some acc
  else some (acc ++ encR (if fold then foldR (mapR r).1 else (mapR r).1))
def mapRunes (fold : Bool) : List Int → List UInt8 → Option (List UInt8)
  | [], acc => some acc
  | r :: rs, acc => (stepM fold acc r).bind (mapRunes fold rs)
/-- prep.mapped -/
def mappedL (l : List UInt8) (fold : Bool) : Option (List UInt8) := if Lib.validD l then mapRunes fold (runes l) [] else none

theorem decode_pos (l : List UInt8) (k : Nat) (hk : k < l.length) : Utf8.decode ⟨l.toArray⟩ k = Lib.decodeL (l.drop k) := by
  unfold Lib.decodeL
  rw [Lib.decode_at, Lib.decode_at]
  have hg : ∀ j, ((⟨l.toArray⟩ : ByteArray).get! (k + j)) = ((⟨(l.drop k).toArray⟩ : ByteArray).get! j) := by
    intro j
    simp [ByteArray.get!, Array.get!Internal, getElem!_def, List.getElem?_drop]
  have hs : (⟨l.toArray⟩ : ByteArray).size - k = (⟨(l.drop k).toArray⟩ : ByteArray).size - 0 := by simp [ByteArray.size]
  rw [hs, ← hg, ← hg, ← hg, ← hg]
  simp only [Nat.zero_add, Nat.add_zero]
end Go.Proofs.YtcjobpcbppcdnaaGreatDoor
/- Contracts: prep.mapped, prep.Prepare. -/
namespace Go.Proofs.YtcjobpcbppcdnaaGreatDoor
open Go.RowKit

/-- A text and OK, or "" and an error. -/
def strOr (err : Int) : Option (List UInt8) → Value
  | none => .tuple #[.string ⟨#[]⟩, .int .i64 err]
  | some m => .tuple #[.string ⟨m.toArray⟩, .int .i64 0]
theorem runesF_cons (n : Nat) (l : List UInt8) (h : l ≠ []) : runesF (n + 1) l = ((Lib.decodeL l).1 : Int) :: runesF n (l.drop (Lib.decodeL l).2) := by
  cases l with
  | nil => exact absurd rfl h
  | cons b l => rfl
theorem runesF_nil (n : Nat) : runesF n [] = [] := by cases n <;> rfl
theorem encR_len (r : Int) : 1 ≤ (encR r).length ∧ (encR r).length ≤ 4 := by
  unfold encR Utf8.encode
  dsimp only
  repeat' split
  all_goals simp
theorem decodeL_ok (l : List UInt8) (h : l ≠ []) : 1 ≤ (Lib.decodeL l).2 ∧ (Lib.decodeL l).2 ≤ l.length ∧ (Lib.decodeL l).1 ≤ 1114111 ∧ Lib.validRune ((Lib.decodeL l).1 : Int) = true := by
  refine ⟨?_, Lib.decodeL_le l h, ?_⟩
  all_goals
    rw [Lib.decodeL_N]
    have h0 : (l.getD 0 0).toNat < 256 := UInt8.toNat_lt _
    have h1 : (l.getD 1 0).toNat < 256 := UInt8.toNat_lt _
    have h2 : (l.getD 2 0).toNat < 256 := UInt8.toNat_lt _
    have h3 : (l.getD 3 0).toNat < 256 := UInt8.toNat_lt _
    generalize (l.getD 0 0).toNat = b0 at *
    generalize (l.getD 1 0).toNat = b1 at *
    generalize (l.getD 2 0).toNat = b2 at *
    generalize (l.getD 3 0).toNat = b3 at *
    rcases Lib.decodeN_shape l.length b0 b1 b2 b3 with ⟨c, e⟩ | ⟨c1, c2, c3, cv, e⟩ | ⟨c1, c2, c3, c4, cv, cs, e⟩ | ⟨c1, c2, c3, c4, c5, cv, cw, e⟩ | e
    all_goals rw [e]
    all_goals dsimp only
    all_goals first | omega | (refine ⟨by omega, ?_⟩; unfold Lib.validRune; simp; try omega)
theorem runesF_fuel : ∀ (n m : Nat) (l : List UInt8), l.length ≤ n → l.length ≤ m → runesF n l = runesF m l
  | 0, m, l, h, _ => by
    obtain rfl : l = [] := List.eq_nil_of_length_eq_zero (by omega)
    rw [runesF_nil, runesF_nil]
  | n + 1, 0, l, _, h => by
    obtain rfl : l = [] := List.eq_nil_of_length_eq_zero (by omega)
    rw [runesF_nil, runesF_nil]
  | n + 1, m + 1, l, hn, hm => by
    by_cases h : l = []
    · subst h; rw [runesF_nil, runesF_nil]
    · have := decodeL_ok l h
      rw [runesF_cons _ _ h, runesF_cons _ _ h, runesF_fuel n m _ (by simp; omega) (by simp; omega)]
theorem runes_step (l : List UInt8) (h : l ≠ []) : runes l = ((Lib.decodeL l).1 : Int) :: runes (l.drop (Lib.decodeL l).2) := by
  have := decodeL_ok l h
  have hp : 0 < l.length := List.length_pos_iff.2 h
  unfold runes
  rw [show l.length = (l.length - 1) + 1 by omega, runesF_cons _ _ h, runesF_fuel _ (l.drop (Lib.decodeL l).2).length _ (by simp; omega) (Nat.le_refl _)]
theorem mapR_rng (r : Int) (h0 : 0 ≤ r) (h1 : r ≤ 1114111) : 0 ≤ (mapR r).1 ∧ (mapR r).1 ≤ 1114111 ∧ ((mapR r).2.2 = false → (mapR r).2.1 = true → (mapR r).1 < 0xD800 ∨ 0xF8FF < (mapR r).1) := by
  unfold mapR
  repeat' split
  all_goals (simp only [Bool.false_eq_true, false_implies, implies_true, true_implies, and_true]; try omega)
  next h => unfold refR at h; omega
theorem foldR_rng (r : Int) (h0 : 0 ≤ r) (h1 : r ≤ 1114111) (h : r < 0xD800 ∨ 0xF8FF < r) : Lib.validRune (foldR r) = true ∧ Lib.validRune r = true := by
  unfold Lib.validRune foldR
  constructor
  · repeat' split
    all_goals (simp; try omega)
  · simp; try omega

set_option maxRecDepth 100000 in
set_option maxHeartbeats 1000000 in
theorem mapped_c (l : List UInt8) (fold : Bool) (w : World) (hw : Env w) (hl : l.length ≤ 1099511627776) :
    Calls Tryz.prog 140 #[.string ⟨l.toArray⟩, .bool fold] w fun e w' =>
      e = .returned (strOr 10 (mappedL l fold)) ∧ Below w.heap.size w w' := by
  unfold mappedL
  cases hv : Lib.validD l
  · go_enter Tryz.func140, Tryz.ntmps140
    go_wp2_with (go_at_call 118; refine (Text_c _ _ hw (by omega)).mono ?_; rintro e w1 ⟨rfl, hb1⟩; rw [hv])
    go_ret2
    exact ⟨rfl, hb1⟩
  · simp only [if_true]
    generalize hM : mapRunes fold (runes l) [] = M
    have HM := Lib.hid hM
    clear hM
    go_enter Tryz.func140, Tryz.ntmps140
    go_wp2_with (go_at_call 118; refine (Text_c _ _ hw (by omega)).mono ?_; rintro e w1 ⟨rfl, hb1⟩; rw [hv])
    clear hv
    go_loopg [6] l.length (fun gk v wr => ∃ (k : Nat) (acc : List UInt8), k ≤ l.length ∧ Aside (k + gk = l.length) ∧ Aside (wr.heap[w1.heap.size]? = some (.stringIter ⟨l.toArray⟩ k)) ∧ Buf w wr v acc ∧ acc.length ≤ 4 * k ∧ Aside (mapRunes fold (runes (l.drop k)) acc = M))
    case atStart =>
      refine ⟨0, [], Nat.zero_le _, Nat.zero_add _, World.iter_heap _ _ _, ?_, by simp, HM.out⟩
      exact ((Buf.nil w).grow hb1).alloc _
    case round =>
      obtain ⟨k, acc, hk, AG, AI, hbuf, hacc, AM⟩ := hrel
      have hlk : w.heap.size ≤ w1.heap.size := hb1.size
      by_cases hlt : k < l.length
      · have hne : l.drop k ≠ [] := by intro h; have := congrArg List.length h; simp at this; omega
        obtain ⟨hn1, hn2, hr1, hr2⟩ := decodeL_ok _ hne
        have hd := decode_pos l k hlt
        have hnx := fun ty => Lib.run_next_any_at (P := Tryz.prog) wr w1.heap.size ⟨l.toArray⟩ k ty AI.out hlt
        rw [hd] at hnx
        have AM' : Aside (mapRunes fold (((Lib.decodeL (l.drop k)).1 : Int) :: runes (l.drop (k + (Lib.decodeL (l.drop k)).2))) acc = M) := by
          have := AM.out
          rw [runes_step _ hne, List.drop_drop] at this
          exact this
        have hbuf' := hbuf.iterAt (q := k + (Lib.decodeL (l.drop k)).2) AI.out hlk
        have AI' : Aside ((wr.iterAt w1.heap.size ⟨l.toArray⟩ (k + (Lib.decodeL (l.drop k)).2)).heap[w1.heap.size]? = some (.stringIter ⟨l.toArray⟩ (k + (Lib.decodeL (l.drop k)).2))) := Lib.iterAt_heap _ _ _ _ _ AI.out
        simp only [List.length_drop] at hn2
        clear hd hne AM AI
        generalize (Lib.decodeL (l.drop k)).2 = n at *
        generalize hr : (((Lib.decodeL (l.drop k)).1 : Nat) : Int) = r at *
        generalize (Lib.decodeL (l.drop k)).1 = rn at *
        obtain ⟨hm0, hm1, hm2⟩ := mapR_rng r (by omega) (by omega)
        clear hr
        generalize hW : wr.iterAt w1.heap.size ⟨l.toArray⟩ (k + n) = W at *
        clear hW
        have hcM := Map_c r W
        obtain ⟨x, st, rf, hmr⟩ : ∃ x st rf, mapR r = (x, st, rf) := ⟨_, _, _, rfl⟩
        rw [hmr] at hcM hm0 hm1 hm2
        have AS : Aside (((if rf then none else if !st then some acc else if x = 32 ∧ acc.getLast? = some 32 then some acc else some (acc ++ encR (if fold then foldR x else x))) : Option (List UInt8)).bind (mapRunes fold (runes (l.drop (k + n)))) = M) := by
          have := AM'.out
          rw [mapRunes, stepM, hmr] at this
          exact this
        have AGn : Aside (k + n + (gk - n) = l.length) := by have := AG.out; show _ = _; omega
        have hgk : n ≤ gk := by have := AG.out; omega
        have hkn : k + n ≤ l.length := by omega
        have hB := hbuf'.below
        clear hmr AM' AG hbuf
        cases rf
        · cases st
          · go_wp2_with (go_at_call 180; refine hcM.mono ?_; rintro e w' ⟨rfl, rfl⟩)
            go_roundg (gk - n)
            case measure => omega
            case rel => exact ⟨k + n, acc, hkn, AGn, AI', hbuf', by omega, AS.out⟩
          · simp only [true_implies] at hm2
            by_cases hx : x = 32
            · subst hx
              have hfo := foldR_rng 32 hm0 hm1 hm2
              have hel := encR_len 32
              have hef := encR_len (foldR 32)
              by_cases hnil : acc = []
              · subst hnil
                have ASn : Aside (mapRunes fold (runes (l.drop (k + n))) ([] ++ encR (if fold then foldR 32 else 32)) = M) := by
                  have := AS.out
                  rw [if_neg (by simp), if_neg (by simp), if_neg (by simp)] at this
                  exact this
                obtain ⟨Ad, cap, rfl, hcap⟩ := hbuf'.len
                clear AS
                cases fold
                all_goals
                  go_wp2_with (first | (go_at_call 180; refine hcM.mono ?_; rintro e w' ⟨rfl, rfl⟩) | (go_at_call 181; refine (Fold_c _ _ hm0 hm1).mono ?_; rintro e w' ⟨rfl, rfl⟩) | (go_at_call 182; refine (PutRune_c _ _ (by first | exact hfo.1 | exact hfo.2)).mono ?_; rintro e w' ⟨rfl, rfl⟩) | (at_builtin; refine buf_text rfl _ _ rfl rfl hbuf' rfl (by first | (show 0 + (encR 32).length ≤ _; omega) | (show 0 + (encR (foldR 32)).length ≤ _; omega)) ?_; intro v' w' hbuf2 hg2))
                  go_roundg (gk - n)
                  case measure => omega
                  case rel => exact ⟨k + n, _, hkn, AGn, hbuf'.other hg2 AI'.out (by intro c f h; cases h), hbuf2, by simp; omega, ASn.out⟩
              · obtain ⟨g, cap, rfl, hcap, hg1, hg2, hcell⟩ := hbuf'.cell hnil
                have hpos : 0 < acc.length := List.length_pos_iff.2 hnil
                have hlast := hcell (acc.length - 1) (by omega)
                have hgl : acc.getLast? = some (acc[acc.length - 1]'(by omega)) := by rw [List.getLast?_eq_getElem?, List.getElem?_eq_getElem]
                have hac : ((acc.length : Int) - 1).toNat = acc.length - 1 := by omega
                clear hcell hnil
                by_cases h32 : acc[acc.length - 1]'(by omega) = 32
                · have ASn : Aside (mapRunes fold (runes (l.drop (k + n))) acc = M) := by
                    have := AS.out
                    rw [if_neg (by simp), if_neg (by simp), if_pos ⟨rfl, by rw [hgl, h32]⟩] at this
                    exact this
                  rw [h32] at hlast
                  clear AS hgl h32
                  go_wp2_with (first | (go_at_call 180; refine hcM.mono ?_; rintro e w' ⟨rfl, rfl⟩))
                  go_roundg (gk - n)
                  case measure => omega
                  case rel => exact ⟨k + n, _, hkn, AGn, AI'.out, hbuf', by omega, ASn.out⟩
                · have ASn : Aside (mapRunes fold (runes (l.drop (k + n))) (acc ++ encR (if fold then foldR 32 else 32)) = M) := by
                    have := AS.out
                    rw [if_neg (by simp), if_neg (by simp), if_neg (by rw [hgl]; simp [h32])] at this
                    exact this
                  have hneq : ((acc[acc.length - 1]'(by omega)).toNat : Int) ≠ 32 := by
                    intro h; exact h32 (UInt8.toNat_inj.1 (show _ = 32 by omega))
                  generalize ((acc[acc.length - 1]'(by omega)).toNat : Int) = cl at hlast hneq
                  have hcl : (cl == 32) = false := by simp [hneq]
                  clear AS hgl h32 hneq
                  cases fold
                  all_goals
                    go_wp2_with (first | (go_at_call 180; refine hcM.mono ?_; rintro e w' ⟨rfl, rfl⟩) | (go_at_call 181; refine (Fold_c _ _ hm0 hm1).mono ?_; rintro e w' ⟨rfl, rfl⟩) | (go_at_call 182; refine (PutRune_c _ _ (by first | exact hfo.1 | exact hfo.2)).mono ?_; rintro e w' ⟨rfl, rfl⟩) | (at_builtin; refine buf_text rfl _ _ rfl rfl hbuf' rfl (by first | (show acc.length + (encR 32).length ≤ _; omega) | (show acc.length + (encR (foldR 32)).length ≤ _; omega)) ?_; intro v' w' hbuf2 hg2))
                    go_roundg (gk - n)
                    case measure => omega
                    case rel => exact ⟨k + n, _, hkn, AGn, hbuf'.other hg2 AI'.out (by intro c f h; cases h), hbuf2, by simp; omega, ASn.out⟩
            · have hx1 : (x == 32) = false := by simp [hx]
              have hfo := foldR_rng x hm0 hm1 hm2
              have ASn : Aside (mapRunes fold (runes (l.drop (k + n))) (acc ++ encR (if fold then foldR x else x)) = M) := by
                have := AS.out
                rw [if_neg (by simp), if_neg (by simp), if_neg (by simp [hx])] at this
                exact this
              clear AS
              cases fold
              · have hel := encR_len x
                go_wp2_with (first | (go_at_call 180; refine hcM.mono ?_; rintro e w' ⟨rfl, rfl⟩) | (go_at_call 182; refine (PutRune_c _ _ hfo.2).mono ?_; rintro e w' ⟨rfl, rfl⟩) | (at_builtin; refine buf_text rfl _ _ rfl rfl hbuf' rfl (show acc.length + (encR x).length ≤ _ by omega) ?_; intro v' w' hbuf2 hg2))
                go_roundg (gk - n)
                case measure => omega
                case rel => exact ⟨k + n, _, hkn, AGn, hbuf'.other hg2 AI'.out (by intro c f h; cases h), hbuf2, by simp; omega, ASn.out⟩
              · have hel := encR_len (foldR x)
                go_wp2_with (first | (go_at_call 180; refine hcM.mono ?_; rintro e w' ⟨rfl, rfl⟩) | (go_at_call 181; refine (Fold_c _ _ hm0 hm1).mono ?_; rintro e w' ⟨rfl, rfl⟩) | (go_at_call 182; refine (PutRune_c _ _ hfo.1).mono ?_; rintro e w' ⟨rfl, rfl⟩) | (at_builtin; refine buf_text rfl _ _ rfl rfl hbuf' rfl (show acc.length + (encR (foldR x)).length ≤ _ by omega) ?_; intro v' w' hbuf2 hg2))
                go_roundg (gk - n)
                case measure => omega
                case rel => exact ⟨k + n, _, hkn, AGn, hbuf'.other hg2 AI'.out (by intro c f h; cases h), hbuf2, by simp; omega, ASn.out⟩
        · obtain rfl : none = M := AS.out
          go_wp2_with (go_at_call 180; refine hcM.mono ?_; rintro e w' ⟨rfl, rfl⟩)
          go_ret2
          exact ⟨rfl, hB⟩
      · obtain rfl : k = l.length := by omega
        obtain rfl : some acc = M := by have := AM.out; rw [List.drop_length] at this; exact this
        have hnx := fun ty => Lib.run_next_end_at (P := Tryz.prog) wr w1.heap.size ⟨l.toArray⟩ l.length ty AI.out (by simp [ByteArray.size])
        have hst := buf_string hbuf
        have hB := hbuf.below
        clear AM hbuf AI
        go_wp2
        go_ret2
        exact ⟨rfl, hB⟩
end Go.Proofs.YtcjobpcbppcdnaaGreatDoor
/- Contracts: prep.Prepare. -/
namespace Go.Proofs.YtcjobpcbppcdnaaGreatDoor
open Go.RowKit

/-- prep.Prepare -/
def prepL (l : List UInt8) (fold : Bool) : Option (List UInt8) :=
  match mappedL l fold with
  | none => none
  | some t => if Lib.trimB t 32 = [] ∧ l ≠ [] then some [32] else some (Lib.trimB t 32)
theorem below_or {w w' : World} (h : w' = w ∨ w' = w.drew) : Below w.heap.size w w' := by
  rcases h with rfl | rfl
  · exact Below.refl _ _
  · exact (Below.refl _ _).drew

theorem encLen (r : List Int) (fold : Bool) : ∀ acc m, mapRunes fold r acc = some m → m.length ≤ acc.length + 4 * r.length := by
  induction r with
  | nil => intro acc m h; cases h; simp
  | cons x r ih =>
    intro acc m h
    rw [mapRunes] at h
    obtain ⟨a1, h1, h2⟩ := Option.bind_eq_some_iff.1 h
    have := ih _ _ h2
    have hl : a1.length ≤ acc.length + 4 := by
      unfold stepM at h1
      split at h1
      · cases h1
      · split at h1
        · cases h1; omega
        · split at h1
          · cases h1; omega
          · cases h1
            simp only [List.length_append]
            have := (encR_len (if fold then foldR (mapR x).1 else (mapR x).1)).2
            omega
    simp; omega
theorem runesF_len : ∀ (n : Nat) (l : List UInt8), (runesF n l).length ≤ n
  | 0, _ => by simp [runesF]
  | n + 1, [] => by simp [runesF]
  | n + 1, b :: l => by simp [runesF]; exact runesF_len n _
theorem mappedL_len {l m : List UInt8} {fold : Bool} (h : mappedL l fold = some m) : m.length ≤ 4 * l.length := by
  unfold mappedL at h
  split at h
  · have := encLen _ _ _ _ h
    have h2 := runesF_len l.length l
    unfold runes at this
    simp at this; omega
  · cases h

set_option maxRecDepth 100000 in
set_option maxHeartbeats 1000000 in
theorem Prepare_c (l : List UInt8) (fold : Bool) (w : World) (hw : Env w) (hl : l.length ≤ 1099511627776) :
    Calls Tryz.prog 108 #[.string ⟨l.toArray⟩, .bool fold] w fun e w' =>
      e = .returned (strOr 10 (prepL l fold)) ∧ Below w.heap.size w w' := by
  have hc := mapped_c l fold w hw hl
  unfold prepL
  rcases hm : mappedL l fold with _ | t
  · rw [hm] at hc
    clear hm
    simp only [strOr] at hc ⊢
    go_enter Tryz.func108, Tryz.ntmps108
    go_wp2_with (go_at_call 140; refine hc.mono ?_; rintro e w1 ⟨rfl, hb1⟩)
    go_ret2
    exact ⟨rfl, hb1⟩
  · rw [hm] at hc
    have hlen := mappedL_len hm
    clear hm
    simp only [strOr] at hc
    dsimp only
    have hT := fun w => Tryz.strings_Trim_one ⟨t.toArray⟩ 32 (by decide) w (by simp [ByteArray.size]; omega)
    simp only at hT
    generalize Lib.trimB t 32 = t' at *
    by_cases h1 : t' = []
    · subst h1
      by_cases h2 : l = []
      · subst h2
        simp only [ne_eq, not_true, and_false, if_false]
        go_enter Tryz.func108, Tryz.ntmps108
        go_wp2_with (first | (go_at_call 140; refine hc.mono ?_; rintro e w1 ⟨rfl, hb1⟩) | (go_at_call 131; refine (hT _).mono ?_; rintro e w2 ⟨rfl, hb2⟩))
        go_ret2
        exact ⟨rfl, hb1.trans ((below_or hb2).mono hb1.size)⟩
      · have h3 : l.isEmpty = false := by cases l <;> simp_all
        rw [if_pos ⟨rfl, h2⟩]
        go_enter Tryz.func108, Tryz.ntmps108
        go_wp2_with (first | (go_at_call 140; refine hc.mono ?_; rintro e w1 ⟨rfl, hb1⟩) | (go_at_call 131; refine (hT _).mono ?_; rintro e w2 ⟨rfl, hb2⟩))
        go_ret2
        exact ⟨rfl, hb1.trans ((below_or hb2).mono hb1.size)⟩
    · have h3 : t'.isEmpty = false := by cases t' <;> simp_all
      rw [if_neg (fun h => h1 h.1)]
      go_enter Tryz.func108, Tryz.ntmps108
      go_wp2_with (first | (go_at_call 140; refine hc.mono ?_; rintro e w1 ⟨rfl, hb1⟩) | (go_at_call 131; refine (hT _).mono ?_; rintro e w2 ⟨rfl, hb2⟩))
      go_ret2
      exact ⟨rfl, hb1.trans ((below_or hb2).mono hb1.size)⟩
end Go.Proofs.YtcjobpcbppcdnaaGreatDoor
/- Contracts: small functions of package syntax on integers and times. -/
namespace Go.Proofs.YtcjobpcbppcdnaaGreatDoor
open Go.RowKit

def orV (x y : Int) : Int := if x = 0 then y else x
set_option maxHeartbeats 400000 in
theorem Or_c (b : Nat) (x y : Int) (w : World) (h0 : w.cell? ⟨b, 0, none⟩ = some (.int .i64 x)) (h1 : w.cell? ⟨b, 1, none⟩ = some (.int .i64 y)) :
    Calls Tryz.prog 70 #[.slice (some ⟨b, 0, none⟩) 2 2] w fun e w' => e = .returned (.int .i64 (orV x y)) ∧ w = w' := by
  go_enter Tryz.func70, Tryz.ntmps70
  go_wp2
  go_loopg [8] 2 (fun gk i wr => ∃ k : Nat, k ≤ 2 ∧ i = .int .i64 k ∧ Aside (k + gk = 2) ∧ Aside (wr = w) ∧ Aside (1 ≤ k → x = 0) ∧ Aside (2 ≤ k → y = 0))
  case atStart => exact ⟨0, by omega, rfl, rfl, rfl, fun h => absurd h (by omega), fun h => absurd h (by omega)⟩
  case round =>
    obtain ⟨k, hk, rfl, AG, AW, AX, AY⟩ := hrel
    obtain rfl : wr = w := AW.out
    have hg := AG.out
    by_cases hk2 : k = 2
    · subst hk2
      have hx := AX.out (by omega)
      have hy := AY.out (by omega)
      subst hx; subst hy
      clear hg
      go_wp2
      go_ret
      exact ⟨rfl, rfl⟩
    · by_cases hk1 : k = 1
      · subst hk1
        have hx := AX.out (by omega)
        subst hx
        clear hk2
        by_cases hy : y = 0
        · subst hy
          obtain ⟨q, rfl⟩ : ∃ q, gk = q + 1 := ⟨gk - 1, by omega⟩
          clear hg
          go_wp2
          go_roundg q
          case measure => omega
          case rel => exact ⟨2, by omega, rfl, by have := AG.out; show _ = _; omega, rfl, fun _ => by trivial, fun _ => by trivial⟩
        · have hy1 : (y != 0) = true := by simp [hy]
          clear hg
          go_wp2
          go_ret
          exact ⟨reti (by simp [orV]), rfl⟩
      · obtain rfl : k = 0 := by omega
        clear hk2 hk1
        by_cases hx : x = 0
        · subst hx
          obtain ⟨q, rfl⟩ : ∃ q, gk = q + 1 := ⟨gk - 1, by omega⟩
          clear hg
          go_wp2
          go_roundg q
          case measure => omega
          case rel => exact ⟨1, by omega, rfl, by have := AG.out; show _ = _; omega, rfl, fun _ => by trivial, fun h => absurd h (by omega)⟩
        · have hx1 : (x != 0) = true := by simp [hx]
          clear hg
          go_wp2
          go_ret
          exact ⟨reti (by simp [orV, hx]), rfl⟩

/-! digits -/
def isDig (c : UInt8) : Bool := decide (48 ≤ c.toNat) && decide (c.toNat ≤ 57)
def digsL (l : List UInt8) : Bool := !l.isEmpty && l.all isDig
theorem dropWhile_nil_iff {α : Type} (p : α → Bool) (l : List α) : l.dropWhile p = [] ↔ l.all p = true := by
  induction l with
  | nil => simp
  | cons a l ih =>
    by_cases h : p a
    · simp [List.dropWhile_cons, h, ih]
    · simp [List.dropWhile_cons, h]
theorem trimS_nil_iff (l cs : List UInt8) : Lib.trimS l cs = [] ↔ l.all (cs.contains ·) = true := by
  unfold Lib.trimS Lib.trimLeftS Lib.trimRightS
  rw [dropWhile_nil_iff]
  constructor
  · intro h
    by_cases h2 : (l.reverse.dropWhile (cs.contains ·)) = []
    · rw [dropWhile_nil_iff] at h2
      simpa [List.all_reverse] using h2
    · exfalso
      obtain ⟨x, t, hx⟩ := List.exists_cons_of_ne_nil h2
      have hh := List.head?_dropWhile_not (cs.contains ·) l.reverse
      rw [hx] at hh h
      simp at hh h
      exact absurd h.2 (by simp [hh])
  · intro h
    have h2 : (l.reverse.dropWhile (cs.contains ·)) = [] := by rw [dropWhile_nil_iff]; simpa [List.all_reverse] using h
    rw [h2]; rfl
theorem digits_contains : (fun c : UInt8 => ([48, 49, 50, 51, 52, 53, 54, 55, 56, 57] : List UInt8).contains c) = isDig := by
  funext c
  have : ∀ n : Fin 256, ([48, 49, 50, 51, 52, 53, 54, 55, 56, 57] : List UInt8).contains (UInt8.ofNat n.val) = isDig (UInt8.ofNat n.val) := by decide +kernel
  have h := this ⟨c.toNat, UInt8.toNat_lt c⟩
  simpa using h
theorem asc_of_all {l : List UInt8} (h : l.all (fun b => decide (b.toNat < 128)) = true) : ∀ (j : Nat) b, l[j]? = some b → b.toNat < 128 :=
  fun _ b hb => of_decide_eq_true (List.all_eq_true.1 h b (List.mem_of_getElem? hb))
set_option maxRecDepth 10000 in
set_option maxHeartbeats 400000 in
theorem isDigits_c (l : List UInt8) (w : World) (hl : l.length ≤ 9223372036854775807) :
    Calls Tryz.prog 141 #[.string ⟨l.toArray⟩] w fun e w' => e = .returned (.bool (digsL l)) ∧ Below w.heap.size w w' := by
  have hT := Tryz.strings_Trim_set ⟨l.toArray⟩ ⟨#[48, 49, 50, 51, 52, 53, 54, 55, 56, 57]⟩ w (by simpa [ByteArray.size] using hl) (by decide) (asc_of_all (by decide))
  simp only at hT
  have hiff := trimS_nil_iff l [48, 49, 50, 51, 52, 53, 54, 55, 56, 57]
  rw [digits_contains] at hiff
  unfold digsL
  by_cases h0 : l = []
  · subst h0
    clear hT hiff
    go_enter Tryz.func141, Tryz.ntmps141
    go_wp2
    go_ret
    exact ⟨rfl, Below.refl _ _⟩
  · have he : l.isEmpty = false := by cases l <;> simp_all
    rw [he]
    have Hiff := Lib.hid hiff
    clear hiff
    generalize Lib.trimS l [48, 49, 50, 51, 52, 53, 54, 55, 56, 57] = t at *
    go_enter Tryz.func141, Tryz.ntmps141
    go_wp2_with (go_at_call 131; refine hT.mono ?_; rintro e w1 ⟨rfl, hb1⟩)
    go_ret
    exact ⟨retb (by rw [Bool.eq_iff_iff]; simp only [List.isEmpty_iff, Hiff.out, Bool.not_false, Bool.true_and]), hb1⟩

/-! integers -/
/-- syntax.isInteger -/
def intL (l : List UInt8) : Bool :=
  let n := Lib.trimPrefix l [45]
  digsL n && decide (n.length ≤ 40) && (n.head? != some 48 || (n == [48] && !Lib.hasPrefix l [45]))
set_option maxRecDepth 10000 in
set_option maxHeartbeats 1000000 in
theorem isInteger_c (l : List UInt8) (w : World) (hl : l.length ≤ 65536) :
    Calls Tryz.prog 110 #[.string ⟨l.toArray⟩] w fun e w' => e = .returned (.bool (intL l)) ∧ Below w.heap.size w w' := by
  have hget := ba_get
  have hC := Tryz.strings_CutPrefix ⟨l.toArray⟩ ⟨#[45]⟩ w
  simp only at hC
  unfold intL
  dsimp only
  have hn : (Lib.trimPrefix l [45]).length ≤ 65536 := by unfold Lib.trimPrefix; split <;> (try simp) <;> omega
  generalize Lib.trimPrefix l [45] = n at *
  generalize Lib.hasPrefix l [45] = hp at *
  have hD := isDigits_c n w (by omega)
  cases hd : digsL n
  · rw [hd] at hD
    go_enter Tryz.func110, Tryz.ntmps110
    go_wp2_with (first | (go_at_call 135; refine hC.mono ?_; rintro e w1 ⟨rfl, rfl⟩) | (go_at_call 141; refine hD.mono ?_; rintro e w1 ⟨rfl, hb1⟩))
    go_ret
    exact ⟨rfl, hb1⟩
  · rw [hd] at hD
    by_cases h40 : n.length ≤ 40
    · obtain ⟨c, m, rfl⟩ : ∃ c m, n = c :: m := by cases n with | nil => exact absurd hd (by decide) | cons c m => exact ⟨c, m, rfl⟩
      rw [decide_eq_true h40]
      simp only [List.length_cons] at h40
      by_cases hc : c = 48
      · subst hc
        cases m with
        | nil =>
          cases hp
          all_goals
            go_enter Tryz.func110, Tryz.ntmps110
            go_wp2_with (first | (go_at_call 135; refine hC.mono ?_; rintro e w1 ⟨rfl, rfl⟩) | (go_at_call 141; refine hD.mono ?_; rintro e w1 ⟨rfl, hb1⟩))
            go_ret
            exact ⟨rfl, hb1⟩
        | cons c2 m =>
          simp only [List.length_cons] at h40
          have hne : (([48] : List UInt8) == 48 :: c2 :: m) = false := by simp
          have hne2 : ((48 :: c2 :: m : List UInt8) == [48]) = false := by simp
          go_enter Tryz.func110, Tryz.ntmps110
          go_wp2_with (first | (go_at_call 135; refine hC.mono ?_; rintro e w1 ⟨rfl, rfl⟩) | (go_at_call 141; refine hD.mono ?_; rintro e w1 ⟨rfl, hb1⟩))
          go_ret
          exact ⟨retb (by rw [hne2]; simp), hb1⟩
      · have hc1 : ((c.toNat : Int) != 48) = true := by
          rw [bne_iff_ne]; intro h; exact hc (UInt8.toNat_inj.1 (show _ = 48 by omega))
        go_enter Tryz.func110, Tryz.ntmps110
        go_wp2_with (first | (go_at_call 135; refine hC.mono ?_; rintro e w1 ⟨rfl, rfl⟩) | (go_at_call 141; refine hD.mono ?_; rintro e w1 ⟨rfl, hb1⟩))
        go_ret
        exact ⟨retb (by simp [hc]), hb1⟩
    · go_enter Tryz.func110, Tryz.ntmps110
      go_wp2_with (first | (go_at_call 135; refine hC.mono ?_; rintro e w1 ⟨rfl, rfl⟩) | (go_at_call 141; refine hD.mono ?_; rintro e w1 ⟨rfl, hb1⟩))
      go_ret
      exact ⟨retb (by simp [h40]), hb1⟩
end Go.Proofs.YtcjobpcbppcdnaaGreatDoor
/- Contracts: times, small letters, the order of integers. -/
namespace Go.Proofs.YtcjobpcbppcdnaaGreatDoor
open Go.RowKit

def numL : List UInt8 → Int → Int
  | [], n => n
  | c :: l, n => numL l (10 * n + ((c.toNat : Int) - 48))
theorem numL_rng (l : List UInt8) (h : l.all isDig = true) : ∀ n, 0 ≤ n → 0 ≤ numL l n ∧ numL l n < (n + 1) * 10 ^ l.length := by
  induction l with
  | nil => intro n hn; simp [numL]; omega
  | cons c l ih =>
    intro n hn
    simp only [List.all_cons, Bool.and_eq_true] at h
    have hc := h.1
    unfold isDig at hc
    simp at hc
    have := ih h.2 (10 * n + ((c.toNat : Int) - 48)) (by omega)
    simp only [numL]
    refine ⟨this.1, Int.lt_of_lt_of_le this.2 ?_⟩
    simp only [List.length_cons, Int.pow_succ]
    have h10 : (0 : Int) ≤ 10 ^ l.length := Int.le_of_lt (Int.pow_pos (by omega))
    calc (10 * n + ((c.toNat : Int) - 48) + 1) * 10 ^ l.length ≤ ((n + 1) * 10) * 10 ^ l.length := Int.mul_le_mul_of_nonneg_right (by omega) h10
      _ = (n + 1) * (10 ^ l.length * 10) := by rw [Int.mul_assoc, Int.mul_comm 10]

set_option maxRecDepth 10000 in
set_option maxHeartbeats 1000000 in
theorem number_c (l : List UInt8) (w : World) (hl : l.length ≤ 4) (hd : l.all isDig = true) :
    Calls Tryz.prog 142 #[.string ⟨l.toArray⟩] w fun e w' => e = .returned (.int .i64 (numL l 0)) ∧ w = w' := by
  have hget := ba_get
  go_enter Tryz.func142, Tryz.ntmps142
  have HD := Lib.hid hd
  clear hd
  go_wp2
  go_loopg [3, 7] l.length (fun gk n i wr => ∃ (k : Nat) (m : Int), k ≤ l.length ∧ i = .int .i64 k ∧ n = .int .i64 m ∧ 0 ≤ m ∧ m ≤ 99999 ∧ Aside (k + gk = l.length) ∧ Aside (wr = w) ∧ Aside (numL l 0 = numL (l.drop k) m) ∧ Aside (m < 10 ^ k))
  case atStart => exact ⟨0, 0, by omega, rfl, rfl, by omega, by omega, by show _ = _; omega, rfl, rfl, by show _ < _; decide⟩
  case round =>
    obtain ⟨k, m, hk, rfl, rfl, hm0, hm1, AG, AW, AN, AB⟩ := hrel
    obtain rfl : wr = w := AW.out
    by_cases hlt : k < l.length
    · have hdk : isDig l[k] = true := List.all_eq_true.1 HD.out _ (List.getElem_mem hlt)
      have AN' : Aside (numL l 0 = numL (l.drop (k + 1)) (10 * m + ((l[k].toNat : Int) - 48))) := by
        have := AN.out
        rw [List.drop_eq_getElem_cons hlt] at this
        exact this
      unfold isDig at hdk
      simp at hdk
      have hkk : k = 0 ∨ k = 1 ∨ k = 2 ∨ k = 3 := by omega
      have hmk : m < 10 ^ k := AB.out
      have hm9 : m ≤ 999 := by rcases hkk with rfl | rfl | rfl | rfl <;> simp at hmk <;> omega
      have AB' : Aside (10 * m + ((l[k].toNat : Int) - 48) < 10 ^ (k + 1)) := by
        show _ < _
        rw [Int.pow_succ]
        omega
      obtain ⟨q, rfl⟩ : ∃ q, gk = q + 1 := ⟨gk - 1, by have := AG.out; omega⟩
      clear hkk hmk
      obtain ⟨hd1, hd2⟩ := hdk
      have hd3 : (48 : Int) ≤ (l[k].toNat : Int) := by omega
      have hd4 : (l[k].toNat : Int) ≤ 57 := by omega
      clear hd1 hd2
      go_wp2
      go_roundg q
      case measure => omega
      case rel => exact ⟨k + 1, _, by omega, by go_num, rfl, by omega, by omega, by have := AG.out; show _ = _; omega, rfl, AN'.out, AB'.out⟩
    · obtain rfl : k = l.length := by omega
      go_wp2
      go_ret
      exact ⟨reti (by rw [AN.out, List.drop_length]; rfl), rfl⟩
end Go.Proofs.YtcjobpcbppcdnaaGreatDoor
/- Contracts: times. -/
namespace Go.Proofs.YtcjobpcbppcdnaaGreatDoor
open Go.RowKit

theorem quiet_l {P : Program} {f : FuncId} {args : Array Value} {w : World} {n : Nat} {v : Value}
    (h : Calls P f args (w.drewN n) fun e w' => e = .returned v ∧ w.drewN n = w') : Calls P f args (w.drewN n) fun e w'' => e = .returned v ∧ ∃ m, w'' = w.drewN m :=
  h.mono fun _ _ ⟨he, hm⟩ => ⟨he, n, hm.symm⟩

theorem below_drewN {B : Nat} {a w : World} (h : Below B a w) (n : Nat) : Below B a (w.drewN n) := ⟨h.os, h.tape, h.output, h.size, h.block⟩
def sub (l : List UInt8) (a b : Nat) : List UInt8 := (l.drop a).take (b - a)
theorem ba_ext (l : List UInt8) (a b : Nat) : (⟨l.toArray⟩ : ByteArray).extract a b = ⟨(sub l a b).toArray⟩ := by
  have h := Lib.extract_data ⟨l.toArray⟩ a b
  generalize (⟨l.toArray⟩ : ByteArray).extract a b = x at h
  cases x with | mk d => cases d with | mk d => simp at h; subst h; rfl
theorem sub_len (l : List UInt8) (a b : Nat) : (sub l a b).length = min b l.length - a := by simp [sub]; omega
theorem sub_all {l : List UInt8} {p : UInt8 → Bool} {k : Nat} (h : (l.take k).all p = true) {a b : Nat} (hb : b ≤ k) : (sub l a b).all p = true := by
  rw [List.all_eq_true] at h ⊢
  intro x hx
  refine h x ?_
  unfold sub at hx
  rw [List.mem_iff_getElem?] at hx ⊢
  obtain ⟨i, hi⟩ := hx
  rw [List.getElem?_take] at hi
  split at hi
  · rw [List.getElem?_drop] at hi
    exact ⟨a + i, by rw [List.getElem?_take, if_pos (by omega)]; exact hi⟩
  · cases hi
def timeL (l : List UInt8) : Bool :=
  decide (l.length = 15) && digsL (sub l 0 14) && (l[14]? == some 90) &&
  (decide (1 ≤ numL (sub l 4 6) 0) && decide (numL (sub l 4 6) 0 ≤ 12) && decide (1 ≤ numL (sub l 6 8) 0) && decide (numL (sub l 6 8) 0 ≤ daysV (numL (sub l 0 4) 0) (numL (sub l 4 6) 0))) &&
  decide (numL (sub l 8 10) 0 < 24) && decide (numL (sub l 10 12) 0 < 60) && decide (numL (sub l 12 14) 0 < 60)

set_option maxRecDepth 10000 in
set_option maxHeartbeats 1000000 in
theorem isTime_c (l : List UInt8) (w : World) (hl : l.length ≤ 65536) :
    Calls Tryz.prog 111 #[.string ⟨l.toArray⟩] w fun e w' => e = .returned (.bool (timeL l)) ∧ Below w.heap.size w w' := by
  have hget := ba_get
  have hext := ba_ext
  by_cases h15 : l.length = 15
  · have hD := isDigits_c (sub l 0 14) w (by rw [sub_len]; omega)
    unfold timeL
    cases hdg : digsL (sub l 0 14)
    · rw [hdg] at hD
      have h15a : ((l.length : Int) != 15) = false := by simp [h15]
      have h15b : (15 : Int) ≤ (l.length : Int) := by omega
      clear h15
      go_enter Tryz.func111, Tryz.ntmps111
      go_wp2_with (first | (go_at_call 141; refine hD.mono ?_; rintro e w1 ⟨rfl, hb1⟩))
      go_ret
      exact ⟨retb (by simp), hb1⟩
    rw [hdg] at hD
    have hall : (l.take 14).all isDig = true := by
      unfold digsL sub at hdg
      simp only [List.drop_zero, Nat.sub_zero, Bool.and_eq_true] at hdg
      exact hdg.2
    have nA : ∀ (a b : Nat) (w : World), b ≤ 14 → b - a ≤ 4 → Calls Tryz.prog 142 #[.string ⟨(sub l a b).toArray⟩] w fun e w' => e = .returned (.int .i64 (numL (sub l a b) 0)) ∧ w = w' :=
      fun a b w h1 h2 => number_c (sub l a b) w (by rw [sub_len]; omega) (sub_all hall h1)
    have r0 := numL_rng (sub l 0 4) (sub_all hall (by omega)) 0 (by omega)
    rw [sub_len, h15] at r0
    simp at r0
    have hq0 : (0 : Int) ≤ numL (sub l 0 4) 0 := r0.1
    have hq1 : numL (sub l 0 4) 0 < 10000 := r0.2
    have h15a : ((l.length : Int) != 15) = false := by simp [h15]
    have h15b : (15 : Int) ≤ (l.length : Int) := by omega
    have h15c : (l.length : Int) ≤ 15 := by omega
    have h14 : 14 < l.length := by omega
    have hg14 : l[14]? = some l[14] := List.getElem?_eq_getElem h14
    by_cases hz : l[14] = 90
    · rw [hg14, hz]
      have hz1 : ((l[14].toNat : Int) != 90) = false := by rw [hz]; rfl
      have H15 := Lib.hid h15
      clear hz hg14 hall h15 r0 hdg
      go_enter Tryz.func111, Tryz.ntmps111
      go_wp2_with (first | (go_at_call 141; refine hD.mono ?_; rintro e w1 ⟨rfl, hb1⟩))
      go_quiet ((go_at_call 142; exact quiet_l (nA _ _ _ (by omega) (by omega))))
      go_wp2_with (first | (go_at_call 142; refine (nA _ _ _ (by omega) (by omega)).mono ?_; rintro e w2 ⟨rfl, rfl⟩) | (go_at_call 143; refine (days_c _ _ _ hq0 hq1).mono ?_; rintro e w2 ⟨rfl, rfl⟩))
      all_goals (go_ret; refine ⟨retb ?_, (hb1.trans (below_drewN (Below.refl _ _) nq))⟩)
      all_goals (rw [Bool.eq_iff_iff]; simp [H15.out]; try omega)
    · rw [hg14]
      have hz1 : ((l[14].toNat : Int) != 90) = true := by rw [bne_iff_ne]; intro h; exact hz (UInt8.toNat_inj.1 (show _ = 90 by omega))
      go_enter Tryz.func111, Tryz.ntmps111
      go_wp2_with (first | (go_at_call 141; refine hD.mono ?_; rintro e w1 ⟨rfl, hb1⟩))
      go_ret
      exact ⟨retb (by simp [hz]), hb1⟩
  · have h15a : ((l.length : Int) != 15) = true := by rw [bne_iff_ne]; omega
    go_enter Tryz.func111, Tryz.ntmps111
    go_wp2
    go_ret
    exact ⟨retb (by simp [timeL, h15]), Below.refl _ _⟩
end Go.Proofs.YtcjobpcbppcdnaaGreatDoor
/- Contracts: syntax.Small. -/
namespace Go.Proofs.YtcjobpcbppcdnaaGreatDoor
open Go.RowKit

def lowB (c : UInt8) : UInt8 := if 65 ≤ c.toNat ∧ c.toNat ≤ 90 then c + 32 else c
def smallL (l : List UInt8) : List UInt8 := l.map lowB

set_option maxRecDepth 10000 in
set_option maxHeartbeats 1000000 in
theorem Small_c (l : List UInt8) (w : World) (hl : l.length ≤ 140737488351232) :
    Calls Tryz.prog 35 #[.string ⟨l.toArray⟩] w fun e w' => e = .returned (.string ⟨(smallL l).toArray⟩) ∧ Below w.heap.size w w' := by
  have hcv := Lib.run_convert_string_bytes (P := Tryz.prog) w 9 26 5 ⟨l.toArray⟩ Tryz.underlying9 Tryz.underlying26 Tryz.underlying5
  go_enter Tryz.func35, Tryz.ntmps35
  go_wp2
  clear hcv
  go_loopg [10] l.length (fun gk i wr => ∃ k : Nat, k ≤ l.length ∧ i = .int .i64 k ∧ Aside (k + gk = l.length) ∧ Below w.heap.size w wr ∧ w.heap.size < wr.heap.size ∧ Aside (∀ j (hj : j < l.length), wr.cell? ⟨w.heap.size, j, none⟩ = some (.int .u8 ((if j < k then lowB l[j] else l[j]).toNat))) ∧ Aside (∀ j, j < l.length → wr.frozen? ⟨w.heap.size, j, none⟩ = false))
  case atStart =>
    refine ⟨0, by omega, rfl, by show _ = _; omega, ⟨rfl, rfl, rfl, by rw [Lib.bytesWorld_size]; omega, fun k hk => Lib.bytesWorld_at_old _ _ _ _ hk⟩, by rw [Lib.bytesWorld_size]; omega, ?_, ?_⟩
    · intro j hj
      rw [Lib.bytesWorld_cell _ _ _ _ hj]
      simp [List.getD, hj]
    · intro j hj
      simp only [World.frozen?, Lib.bytesWorld_at_new]
      have : j < (Lib.bytesCells w 5 ⟨l.toArray⟩).size := by simp [Lib.bytesCells]; omega
      simp; omega
  case round =>
    obtain ⟨k, hk, rfl, AG, hB, hsz, AC, AF⟩ := hrel
    by_cases hlt : k < l.length
    · have hck := AC.out k hlt
      rw [if_neg (by omega)] at hck
      have hfk := AF.out k hlt
      have hcap := grownCap_ge w l.length 0 5
      obtain ⟨q, rfl⟩ : ∃ q, gk = q + 1 := ⟨gk - 1, by have := AG.out; omega⟩
      by_cases hc : 65 ≤ l[k].toNat ∧ l[k].toNat ≤ 90
      · have hc1 : (65 : Int) ≤ (l[k].toNat : Int) := by omega
        have hc2 : (l[k].toNat : Int) ≤ 90 := by omega
        go_wp2
        go_roundg q
        case measure => omega
        case rel =>
          refine ⟨k + 1, by omega, by go_num, by have := AG.out; show _ = _; omega, hB.setCell (Nat.le_refl _) _, by simpa [World.setCell] using hsz, ?_, ?_⟩
          · intro j hj
            by_cases hjk : j = k
            · subst hjk
              rw [World.cell?_setCell_same _ _ _ hck, if_pos (by omega)]
              simp only [lowB, if_pos hc, UInt8.toNat_add]
              have : (l[j].toNat + (32 : UInt8).toNat) % 2 ^ 8 = l[j].toNat + 32 := by show (l[j].toNat + 32) % 256 = _; omega
              rw [this]; rfl
            · rw [World.cell?_setCell_other _ _ _ _ (by intro h; injection h with _ h; exact hjk h.symm), AC.out j hj]
              by_cases h : j < k
              · rw [if_pos h, if_pos (by omega)]
              · rw [if_neg h, if_neg (by omega)]
          · intro j hj
            rw [World.frozen?_setCell]; exact AF.out j hj
      · go_wp2
        all_goals
          go_roundg q
          case measure => omega
          case rel =>
            refine ⟨k + 1, by omega, by go_num, by have := AG.out; show _ = _; omega, hB, hsz, ?_, AF.out⟩
            intro j hj
            rw [AC.out j hj]
            by_cases h : j < k
            · rw [if_pos h, if_pos (by omega)]
            · by_cases hjk : j = k
              · subst hjk
                rw [if_neg h, if_pos (by omega)]
                simp only [lowB, if_neg hc]
              · rw [if_neg h, if_neg (by omega)]
    · obtain rfl : k = l.length := by omega
      have hcap := grownCap_ge w l.length 0 5
      have hst := run_convert_bytes_back (P := Tryz.prog) wr 26 9 5 ⟨w.heap.size, 0, none⟩ (grownCap w l.length 0 5) (smallL l) Tryz.underlying26 Tryz.underlying5 Tryz.underlying9 (by
        intro j hj
        have hj' : j < l.length := by simpa [smallL] using hj
        have hadd : (⟨w.heap.size, 0, none⟩ : Addr).add j = ⟨w.heap.size, j, none⟩ := by unfold Addr.add; split <;> simp_all
        rw [hadd, AC.out j hj', if_pos hj']
        simp [smallL])
      rw [show (smallL l).length = l.length by simp [smallL]] at hst
      go_wp2
      go_ret
      exact ⟨rfl, hB⟩
end Go.Proofs.YtcjobpcbppcdnaaGreatDoor
/- Contracts: the order of integers; Form. -/
namespace Go.Proofs.YtcjobpcbppcdnaaGreatDoor
open Go.RowKit

theorem cell2_0 (w : World) (a b : Value) (t : TypeId) : (w.alloc (.cells #[a, b] t)).cell? ⟨w.heap.size, 0, none⟩ = some a := by simp
theorem cell2_1 (w : World) (a b : Value) (t : TypeId) : (w.alloc (.cells #[a, b] t)).cell? ⟨w.heap.size, 1, none⟩ = some b := by simp
/-- syntax.integers -/
def intsL (a b : List UInt8) : Int :=
  let x := Lib.trimPrefix a [45]
  let y := Lib.trimPrefix b [45]
  if Lib.hasPrefix a [45] && !Lib.hasPrefix b [45] then -1
  else if Lib.hasPrefix b [45] && !Lib.hasPrefix a [45] then 1
  else if Lib.hasPrefix a [45] then orV (Lib.compareInt y.length x.length) (cmpB y x)
  else orV (Lib.compareInt x.length y.length) (cmpB x y)


/-- syntax.Form -/
def aboveL : List UInt8 := "1.3.6.1.4.1.1466.115.121.1.".toUTF8.data.toList
def formL (l : List UInt8) : List UInt8 :=
  if Lib.hasPrefix l aboveL then
    if l.drop 27 = [52, 48] then "octets".toUTF8.data.toList
    else if l.drop 27 = [49, 53] then "text".toUTF8.data.toList
    else if l.drop 27 = [50, 54] then "ascii".toUTF8.data.toList
    else if l.drop 27 = [50, 55] then "integer".toUTF8.data.toList
    else if l.drop 27 = [55] then "boolean".toUTF8.data.toList
    else if l.drop 27 = [49, 50] then "name".toUTF8.data.toList
    else if l.drop 27 = [51, 56] then "oid".toUTF8.data.toList
    else if l.drop 27 = [50, 52] then "time".toUTF8.data.toList
    else []
  else []
end Go.Proofs.YtcjobpcbppcdnaaGreatDoor
/- The map of rules: its laws. -/
namespace Go.Proofs.YtcjobpcbppcdnaaGreatDoor
open Go.RowKit

/-- A key of the map. -/
def kv (n : List UInt8) (k : Int) : Value := .agg #[.string ⟨n.toArray⟩, .int .i64 k]

theorem keyUnder : Tryz.prog.underlying 174 = some (.struct (Tryz.prog.fieldsOf 174)) := by kernel_rfl
theorem keyHeld : Tryz.prog.stoodInHeld 174 = false := by kernel_rfl
theorem key_eq (w : World) (a b : List UInt8) (i j : Int) : (Op.equal 174 (kv a i) (kv b j)).run Tryz.prog w = .ok (a == b && i == j) w := by
  unfold Op.equal Op.maxDepth kv
  rw [run_equalIn_agg w 9999 174 _ _ keyUnder keyHeld]
  have hf : (Tryz.prog.fieldsOf 174).toList = [{ name := "name", type := 9, offset := 0, embedded := false, tag := "", pkgPath := "chancery/syntax", byteOffset := 0 }, { name := "kind", type := 3, offset := 1, embedded := false, tag := "", pkgPath := "chancery/syntax", byteOffset := 16 }] := by
    unfold Program.fieldsOf
    rw [Tryz.underlying174]
  rw [hf]
  have h1 := run_equalIn_string (P := Tryz.prog) w 9998 9 ⟨a.toArray⟩ ⟨b.toArray⟩ Tryz.underlying9
  have h2 := run_equalIn_int (P := Tryz.prog) w 9998 3 .i64 .i64 i j Tryz.underlying3
  have p1 : ∀ (c d : Value), (part 9 #[c, d] 0).run Tryz.prog w = .ok c w := by intro c d; kernel_rfl
  have p2 : ∀ (c d : Value), (part 3 #[c, d] 1).run Tryz.prog w = .ok d w := by intro c d; kernel_rfl
  simp only [Op.eqFields, ne_eq, String.reduceEq, not_false_eq_true, if_true, Sem.run_bind, p1, p2, h1, h2, Result.andThen_ok]
  have hl : ∀ l : List UInt8, (⟨l.toArray⟩ : ByteArray).toList = l := fun l => by rw [ByteArray.toList_eq]
  rw [hl, hl]
  cases hab : (a == b)
  · simp
  · have hij : ∀ (r : Bool), (if (!r) = true then (pure false : Sem Bool) else pure true) = pure r := by intro r; cases r <;> rfl
    simp only [Bool.not_true, Bool.false_eq_true, if_false, Sem.run_bind, p2, h2, Result.andThen_ok, hij, Sem.run_pure, Bool.true_and]

/-- What a map of rules holds: names, kinds, rows. -/
def RulesAre (es : Array MapEntry) (R : List (List UInt8 × Int × Value)) : Prop := es.toList.map (fun e => (e.key, e.val)) = R.map (fun x => (kv x.1 x.2.1, x.2.2))
def findR (n : List UInt8) (k : Int) : List (List UInt8 × Int × Value) → Option Value
  | [] => none
  | x :: R => if n == x.1 && k == x.2.1 then some x.2.2 else findR n k R

theorem findAsking_run (w : World) (n : List UInt8) (k : Int) : ∀ (es : List MapEntry) (R : List (List UInt8 × Int × Value)) (i : Nat), es.map (fun e => (e.key, e.val)) = R.map (fun x => (kv x.1 x.2.1, x.2.2)) →
    ∃ r, (Instr.findAsking 174 (kv n k) es i).run Tryz.prog w = .ok r w ∧ r.map (·.2) = findR n k R
  | [], [], i, _ => ⟨none, rfl, rfl⟩
  | [], _ :: _, i, h => by simp at h
  | _ :: _, [], i, h => by simp at h
  | e :: es, x :: R, i, h => by
    simp only [List.map_cons, List.cons.injEq, Prod.mk.injEq] at h
    obtain ⟨r, hr, hm⟩ := findAsking_run w n k es R (i + 1) h.2
    simp only [Instr.findAsking, Sem.run_bind, h.1.1, key_eq, Result.andThen_ok, findR]
    cases hx : (n == x.1 && k == x.2.1)
    · simp only [Bool.false_eq_true, if_false]
      exact ⟨r, hr, hm⟩
    · simp only [if_true]
      exact ⟨some (i, e.val), rfl, by simp [h.1.2]⟩
theorem findKey_run (w : World) (n : List UInt8) (k : Int) (es : Array MapEntry) (R : List (List UInt8 × Int × Value)) (h : RulesAre es R) :
    ∃ r, (Instr.findKey 174 (kv n k) es.toList).run Tryz.prog w = .ok r w ∧ r.map (·.2) = findR n k R := by
  unfold RulesAre at h
  obtain ⟨es⟩ := es
  dsimp only at h ⊢
  unfold Instr.findKey
  simp only [Sem.run_bind, run_underlying Tryz.underlying174, Result.andThen_ok]
  cases es with
  | nil =>
    cases R with
    | nil => exact ⟨none, rfl, rfl⟩
    | cons _ _ => simp at h
  | cons e es =>
    cases R with
    | nil => simp at h
    | cons x R =>
      have : ∀ f, Instr.findNow (.struct f) (kv n k) (e :: es) 0 = none := fun f => by simp [Instr.findNow, Instr.sameNow]
      rw [this]
      exact findAsking_run w n k _ _ 0 h
theorem checkKey_run (w : World) (b : Bool) (n : List UInt8) (k : Int) : (Instr.checkKey b 10000 174 (kv n k)).run Tryz.prog w = .ok () w := by
  unfold kv
  kernel_rfl
/-- The world with the map in block r set. -/
def World.setMap (w : World) (r : Nat) (es : Array MapEntry) (c : Nat) : World := { w with heap := w.heap.setIfInBounds r (.map es c) }
theorem update_run (w : World) (r c : Nat) (es : Array MapEntry) (R : List (List UInt8 × Int × Value)) (hw : w.heap[r]? = some (.map es c)) (h : RulesAre es R) (n : List UInt8) (k : Int) (v : Value) (hn : findR n k R = none) :
    (Instr.mapUpdate 170 (.map (some r)) (kv n k) v).run Tryz.prog w = .ok () (World.setMap w r (es.push { key := kv n k, val := v, born := c }) (c + 1)) := by
  obtain ⟨q, hq, hm⟩ := findKey_run w n k es R h
  rw [hn] at hm
  obtain rfl : q = none := by simpa using hm
  unfold Instr.mapUpdate
  simp only [Sem.run_bind, run_underlying Tryz.underlying170, Result.andThen_ok]
  simp only [getObj, Sem.run, Sem.run_bind, hw, Result.andThen_ok, checkKey_run, hq, setObj, World.setMap]
theorem lookup_run (w : World) (r c : Nat) (es : Array MapEntry) (R : List (List UInt8 × Int × Value)) (hw : w.heap[r]? = some (.map es c)) (h : RulesAre es R) (n : List UInt8) (k : Int) :
    (Instr.lookup 170 (.map (some r)) (kv n k) true).run Tryz.prog w = .ok (match findR n k R with | some v => .tuple #[v, .bool true] | none => .tuple #[.agg #[.string ⟨#[]⟩, .int .i64 0, .slice none 0 0, .nilFunc], .bool false]) w := by
  obtain ⟨q, hq, hm⟩ := findKey_run w n k es R h
  unfold Instr.lookup
  simp only [Sem.run_bind, run_underlying Tryz.underlying170, Result.andThen_ok]
  simp only [getObj, Sem.run, Sem.run_bind, hw, Result.andThen_ok, checkKey_run, hq, pure, Sem.run_pure]
  rw [← hm]
  cases q with
  | none =>
    have hz : (zeroValue 139).run Tryz.prog w = .ok (.agg #[.string ⟨#[]⟩, .int .i64 0, .slice none 0 0, .nilFunc]) w := by kernel_rfl
    simp only [Sem.run_bind, hz, Result.andThen_ok]
    rfl
  | some x => rfl
theorem RulesAre.push {es : Array MapEntry} {R : List (List UInt8 × Int × Value)} (h : RulesAre es R) (n : List UInt8) (k : Int) (v : Value) (b : Nat) : RulesAre (es.push { key := kv n k, val := v, born := b }) (R ++ [(n, k, v)]) := by
  unfold RulesAre at h ⊢
  simp [h]
end Go.Proofs.YtcjobpcbppcdnaaGreatDoor
/- The closure that puts rules into the map. -/
namespace Go.Proofs.YtcjobpcbppcdnaaGreatDoor
open Go.RowKit

def kMatch : List UInt8 := [77, 97, 116, 99, 104]
def kOrdering : List UInt8 := [79, 114, 100, 101, 114, 105, 110, 103, 77, 97, 116, 99, 104]
def kSubstrings : List UInt8 := [83, 117, 98, 115, 116, 114, 105, 110, 103, 115, 77, 97, 116, 99, 104]
def kindOf (k : List UInt8) : Int := if k = kOrdering then 1 else if k = kSubstrings then 2 else 0
def newRow (base : List UInt8) (fo nv : Value) (k : List UInt8) : List UInt8 × Int × Value :=
  (smallL (base ++ k), kindOf k, .agg #[.string ⟨(base ++ k).toArray⟩, .int .i64 (kindOf k), fo, nv])
def newRows (base : List UInt8) (fo nv : Value) (ks : List (List UInt8)) : List (List UInt8 × Int × Value) := (kMatch :: ks).map (newRow base fo nv)

/-- A slice of texts that lies in memory. -/
def Texts (w : World) (v : Value) (xs : List (List UInt8)) : Prop :=
  (xs = [] ∧ v = .slice none 0 0) ∨ ∃ b c, v = .slice (some ⟨b, 0, none⟩) xs.length c ∧ xs.length ≤ c ∧ b < w.heap.size ∧ ∀ j (hj : j < xs.length), w.cell? ⟨b, j, none⟩ = some (.string ⟨xs[j].toArray⟩)

theorem ba_app (a b : List UInt8) : (⟨a.toArray⟩ : ByteArray) ++ ⟨b.toArray⟩ = ⟨(a ++ b).toArray⟩ := by
  apply ByteArray.ext
  rw [ByteArray.data_append]
  simp
theorem setMap_heap {w : World} {r c : Nat} {es : Array MapEntry} (h : r < w.heap.size) : (World.setMap w r es c).heap[r]? = some (.map es c) := by simp [World.setMap, h]
theorem setMap_size {w : World} {r c : Nat} {es : Array MapEntry} : (World.setMap w r es c).heap.size = w.heap.size := by simp [World.setMap]
theorem setMap_other {w : World} {r c k : Nat} {es : Array MapEntry} (h : k ≠ r) : (World.setMap w r es c).heap[k]? = w.heap[k]? := by simp [World.setMap, Ne.symm h]
theorem setMap_cell {w : World} {r c p o : Nat} {es : Array MapEntry} (h : p ≠ r) : (World.setMap w r es c).cell? ⟨p, o, none⟩ = w.cell? ⟨p, o, none⟩ := World.cell?_of_block (setMap_other h)
theorem infoStr : ∃ i, Tryz.prog.info? 9 = some i ∧ i.zero = some (.string ⟨#[]⟩) ∧ i.size = 1 ∧ i.bytes = 16 := by
  obtain ⟨i, h1, h2, h3, h4⟩ := info_parts (show (Tryz.prog.info? 9).map (fun i => (i.zero, i.size, i.bytes)) = some (some (.string ⟨#[]⟩), 1, 16) by kernel_rfl)
  exact ⟨i, h1, h2, h3, h4⟩
def strV (x : List UInt8) : Value := .string ⟨x.toArray⟩
/-- A list of texts that the call has made since W0. -/
def Strs (W0 w : World) (v : Value) (xs : List (List UInt8)) : Prop :=
  w.ownsRow W0.heap.size 9 1 v xs.length (xs.map strV) ∧ Below W0.heap.size W0 w ∧ W0.heap.size ≤ w.heap.size
theorem Strs.nil (w : World) : Strs w w (.slice none 0 0) [] := ⟨World.ownsRow_nil _ _ _ _, Below.refl _ _, Nat.le_refl _⟩
theorem Strs.below {W0 w : World} {v : Value} {xs : List (List UInt8)} (h : Strs W0 w v xs) : Below W0.heap.size W0 w := h.2.1
theorem Strs.le {W0 w : World} {v : Value} {xs : List (List UInt8)} (h : Strs W0 w v xs) : W0.heap.size ≤ w.heap.size := h.2.2
theorem Strs.grow {W0 w w' : World} {v : Value} {xs : List (List UInt8)} (h : Strs W0 w v xs) (hb : Below w.heap.size w w') : Strs W0 w' v xs := by
  obtain ⟨ho, hB, hle⟩ := h
  refine ⟨ho.kept (row := none) ⟨hb.os, hb.tape, hb.output, hb.size, fun k hk _ => hb.block k hk⟩ ?_, hB.trans (hb.mono hle), Nat.le_trans hle hb.size⟩
  rcases hv : v.ownBlock with _ | g
  · exact .inl rfl
  · exact .inr (by simp)
theorem Strs.alloc {W0 w : World} {v : Value} {xs : List (List UInt8)} (h : Strs W0 w v xs) (o : Obj) : Strs W0 (w.alloc o) v xs := h.grow ((Below.refl _ _).alloc (Nat.le_refl _) o)
theorem Strs.grown {W0 w w' : World} {v v' : Value} {xs xs' : List (List UInt8)} (h : Strs W0 w v xs) (ho : w'.ownsRow W0.heap.size 9 1 v' xs'.length (xs'.map strV)) (hg : w.grownBy w' v.ownBlock) : Strs W0 w' v' xs' :=
  ⟨ho, h.2.1.grown hg h.2.2 (fun k hk => (h.1.lt k hk).1), Nat.le_trans h.2.2 hg.size⟩
theorem add_off (g j : Nat) : (⟨g, 0, none⟩ : Addr).add j = ⟨g, j, none⟩ := by unfold Addr.add; split <;> simp_all
theorem Strs.texts {W0 w : World} {v : Value} {xs : List (List UInt8)} (h : Strs W0 w v xs) : Texts w v xs := by
  obtain ⟨⟨h1, h2⟩, _, _⟩ := h
  rcases h2 with ⟨rfl, hn⟩ | ⟨g, cap, cur, rfl, r2, r3, r4, r5, r6, r7⟩
  · exact .inl ⟨List.eq_nil_of_length_eq_zero hn, rfl⟩
  · refine .inr ⟨g, cap, rfl, r4, (Array.getElem?_eq_some_iff.1 r3).1, fun j hj => ?_⟩
    simp only [World.cell?, r3]
    have : (cur.toList.take (xs.length * 1))[j]? = some (strV xs[j]) := by rw [r7]; simp [hj]
    rw [List.getElem?_take] at this
    simpa [hj, strV] using this
theorem Texts.keep {w w' : World} {v : Value} {xs : List (List UInt8)} (h : Texts w v xs) (hb : ∀ k, k < w.heap.size → w'.heap[k]? = w.heap[k]?) (hs : w.heap.size ≤ w'.heap.size) : Texts w' v xs := by
  rcases h with h | ⟨b, c, rfl, hc, hlt, hcell⟩
  · exact .inl h
  · exact .inr ⟨b, c, rfl, hc, by omega, fun j hj => by rw [World.cell?_of_block (w := w) (hb b hlt)]; exact hcell j hj⟩
theorem Texts.below {w w' : World} {v : Value} {xs : List (List UInt8)} (h : Texts w v xs) (hb : Below w.heap.size w w') : Texts w' v xs := h.keep hb.block hb.size
theorem Texts.cons {w : World} {v : Value} {x : List UInt8} {xs : List (List UInt8)} (h : Texts w v (x :: xs)) : ∃ b c, v = .slice (some ⟨b, 0, none⟩) (x :: xs).length c ∧ (x :: xs).length ≤ c ∧ b < w.heap.size ∧ Hid (∀ j (hj : j < (x :: xs).length), w.cell? ⟨b, j, none⟩ = some (.string ⟨(x :: xs)[j].toArray⟩)) := by
  rcases h with ⟨h, _⟩ | h
  · cases h
  · exact h
section
variable {ops : Array Oper} {rest : List Oper} {o : Oper} {a : Act} {Q : Exit → Act → World → Prop}
/-- 'l = append(l, s)'. -/
theorem strs_one (hgd : o.guard = none) (s x : Operand) (ho : o.op = .call { callee := .builtin .append, args := #[s, x], argTypes := #[22, 22] })
    {v : Value} {xs : List (List UInt8)} {W0 w0 : World} {c : List UInt8} (hs : a.eval s = v) (hb : Strs W0 w0 v xs)
    (hx : a.eval x = .slice (some ⟨w0.heap.size, 0, none⟩) 1 1) (hlen : xs.length < 4398046511104)
    (h : ∀ v' w', Strs W0 w' v' (xs ++ [c]) → w0.grownBy w' v.ownBlock → wpList Tryz.prog ops Q rest (a.put o.dst v') w') : wpList Tryz.prog ops Q (o :: rest) a (w0.alloc (.cells #[.string ⟨c.toArray⟩] 9)) := by
  obtain ⟨i, h1, h2, h3, h4⟩ := infoStr
  have hb' := hb.alloc (.cells #[.string ⟨c.toArray⟩] 9)
  refine wpList_append_own _ hgd s x 22 ho W0.heap.size 9 i (.string ⟨#[]⟩) 1 16 Tryz.underlying22 h1 h2 h3 h4 rfl (by decide) v _ _ hs hb'.1 ⟨w0.heap.size, 0, none⟩ 1 1 [.string ⟨c.toArray⟩] hx rfl ?_ ?_ (by unfold maxLen; omega) (by omega) hb'.2.2 ?_
  · intro j u hj
    match j, hj with
    | 0, hj => simp at hj; subst hj; simp [Addr.add]
    | (j + 1), hj => simp at hj
  · intro u hu; simp at hu; subst hu; rfl
  · intro v' w' ho' hg _
    refine h v' w' ?_ (World.grownBy.trans (World.grownBy_alloc _ _ _) hg)
    exact hb'.grown (by simpa [strV] using ho') hg
/-- 'l = append(l, m...)'. -/
theorem strs_more {w : World} (hgd : o.guard = none) (s x : Operand) (ho : o.op = .call { callee := .builtin .append, args := #[s, x], argTypes := #[22, 22] })
    {v xv : Value} {xs ys : List (List UInt8)} {W0 : World} (hs : a.eval s = v) (hb : Strs W0 w v xs)
    (hx : a.eval x = xv) (hy : Texts w xv ys) (hlen : xs.length + ys.length < 4398046511104)
    (h : ∀ v' w', Strs W0 w' v' (xs ++ ys) → w.grownBy w' v.ownBlock → wpList Tryz.prog ops Q rest (a.put o.dst v') w') : wpList Tryz.prog ops Q (o :: rest) a w := by
  obtain ⟨i, h1, h2, h3, h4⟩ := infoStr
  rcases hy with ⟨rfl, rfl⟩ | ⟨b, c, rfl, hc, hlt, hcell⟩
  · refine wpList_append_own_none hgd s x 22 ho W0.heap.size 9 i 1 Tryz.underlying22 h1 v _ _ hs hb.1 hx ?_
    exact h v w (by simpa using hb) (World.grownBy.refl _ _)
  · refine wpList_append_own _ hgd s x 22 ho W0.heap.size 9 i (.string ⟨#[]⟩) 1 16 Tryz.underlying22 h1 h2 h3 h4 rfl (by decide) v _ _ hs hb.1 ⟨b, 0, none⟩ ys.length c (ys.map strV) hx (by simp) ?_ ?_ (by unfold maxLen; omega) (by omega) hb.2.2 ?_
    · intro j u hj
      rw [add_off]
      have hjl : j < ys.length := by simpa using (List.getElem?_eq_some_iff.1 hj).1
      rw [hcell j hjl]
      simp [hjl] at hj
      rw [← hj]; rfl
    · intro u hu
      simp at hu
      obtain ⟨q, _, rfl⟩ := hu
      rfl
    · intro v' w' ho' hg _
      refine h v' w' ?_ hg
      exact hb.grown (by simpa using ho') hg
end
theorem Strs.made1 (w : World) (c : List UInt8) : Strs w (w.alloc (.cells #[.string ⟨c.toArray⟩] 9)) (.slice (some ⟨w.heap.size, 0, none⟩) 1 1) [c] := by
  refine ⟨?_, (Below.refl _ _).alloc (Nat.le_refl _) _, by simp⟩
  refine ⟨by simp, .inr ⟨w.heap.size, 1, #[.string ⟨c.toArray⟩], rfl, Nat.le_refl _, by show (w.heap.push _)[w.heap.size]? = _; simp, Nat.le_refl _, by decide, rfl, by simp [strV]⟩⟩

set_option maxRecDepth 100000 in
set_option maxHeartbeats 1000000 in
theorem put_c (base : List UInt8) (fA : Option Addr) (fN fC : Nat) (nF : Fn) (n1 n2 : Array Value) (fo nv kvv : Value) (hfo : fo = .slice fA fN fC) (hnv : nv = .func nF n1 n2) (ks : List (List UInt8)) (p r c : Nat) (es : Array MapEntry) (R : List (List UInt8 × Int × Value)) (w : World)
    (hp : w.cell? ⟨p, 0, none⟩ = some (.map (some r))) (hr : w.heap[r]? = some (.map es c)) (hes : RulesAre es R) (hks : Texts w kvv ks) (hkl : ks.length ≤ 2) (hbl : base.length ≤ 100) (hkk : ∀ k ∈ ks, k.length ≤ 100)
    (hfresh : ∀ i x, (newRows base fo nv ks)[i]? = some x → findR x.1 x.2.1 (R ++ (newRows base fo nv ks).take i) = none) :
    Calls Tryz.prog 172 #[.string ⟨base.toArray⟩, fo, nv, kvv, .pointer (some ⟨p, 0, none⟩)] w fun e w' => e = .returned (.tuple #[]) ∧
      ∃ es' c', w'.heap[r]? = some (.map es' c') ∧ RulesAre es' (R ++ newRows base fo nv ks) ∧ w.grownBy w' (some r) := by
  subst hfo hnv
  have HF := Lib.hid hfresh
  clear hfresh
  go_enter Tryz.func172, Tryz.ntmps172
  go_wp2_with (at_builtin; refine strs_more rfl _ _ rfl rfl (Strs.made1 w kMatch) rfl (hks.below ((Below.refl _ _).alloc (Nat.le_refl _) _)) (by simp; omega) ?_; intro v' w1 hs1 hg1; obtain ⟨g, cp, rfl, hcp, hglt, hcells⟩ := hs1.texts.cons)
  have hB1 : Below w.heap.size w w1 := hs1.below
  have hrlt : r < w.heap.size := (Array.getElem?_eq_some_iff.1 hr).1
  have hplt : p < w.heap.size := cell_lt hp
  have hr1 : w1.heap[r]? = some (.map es c) := (hB1.block r hrlt).trans hr
  have hp1 : w1.cell? ⟨p, 0, none⟩ = some (.map (some r)) := (hB1.cell (p := ⟨p, 0, none⟩) hplt).trans hp
  have hpr : p ≠ r := by rintro rfl; simp [World.cell?, hr1] at hp1
  have hgr : g ≠ r := by
    rintro rfl
    have := hcells.out 0 (by simp)
    simp [World.cell?, hr1] at this
  have hlen : (newRows base (.slice fA fN fC) (.func nF n1 n2) ks).length = ks.length + 1 := by simp [newRows]
  have HK := Lib.hid hkk
  have HB1 := Lib.hid hB1
  clear hkk hB1 hs1 hg1 hks hp hr
  go_loopg [16] (ks.length + 1) (fun gk s16 wr => ∃ (i : Nat) (es' : Array MapEntry) (c' : Nat), i ≤ ks.length + 1 ∧ s16 = .int .i64 i ∧ Aside (i + gk = ks.length + 1) ∧ Aside (wr.heap[r]? = some (.map es' c')) ∧ RulesAre es' (R ++ (newRows base (.slice fA fN fC) (.func nF n1 n2) ks).take i) ∧ w1.grownBy wr (some r))
  case atStart => exact ⟨0, es, c, by omega, rfl, by show _ = _; omega, hr1, by simpa using hes, World.grownBy.refl _ _⟩
  case round =>
    obtain ⟨i, es', c', hi, rfl, AG, AR, hes', hg⟩ := hrel
    by_cases hlt : i < ks.length + 1
    · have hcell : wr.cell? ⟨g, i, none⟩ = some (.string ⟨((kMatch :: ks)[i]'(by simpa using hlt)).toArray⟩) := hg.cell (hcells.out i (by simpa using hlt)) (by simpa using hgr)
      have hpc : wr.cell? ⟨p, 0, none⟩ = some (.map (some r)) := hg.cell hp1 (by simpa using hpr)
      have hnew : (newRows base (.slice fA fN fC) (.func nF n1 n2) ks)[i]? = some (newRow base (.slice fA fN fC) (.func nF n1 n2) ((kMatch :: ks)[i]'(by simpa using hlt))) := by
        unfold newRows; rw [List.getElem?_map, List.getElem?_eq_getElem (by simpa using hlt)]; rfl
      have hfr := HF.out i _ hnew
      have htk : (newRows base (.slice fA fN fC) (.func nF n1 n2) ks).take (i + 1) = (newRows base (.slice fA fN fC) (.func nF n1 n2) ks).take i ++ [newRow base (.slice fA fN fC) (.func nF n1 n2) ((kMatch :: ks)[i]'(by simpa using hlt))] := by
        rw [List.take_add_one, hnew]; rfl
      have hkl2 : ((kMatch :: ks)[i]'(by simpa using hlt)).length ≤ 100 := by
        have hm : (kMatch :: ks)[i]'(by simpa using hlt) ∈ kMatch :: ks := List.getElem_mem _
        rcases List.mem_cons.1 hm with h | h
        · rw [h]; decide
        · exact HK.out _ h
      clear hcells hes
      generalize (kMatch :: ks)[i]'(by simpa using hlt) = k at *
      have happ := ba_app
      obtain ⟨q, rfl⟩ : ∃ q, gk = q + 1 := ⟨gk - 1, by have := AG.out; omega⟩
      have hup := fun (W : World) (hW : W.heap[r]? = some (.map es' c')) => update_run W r c' es' _ hW hes' (newRow base (.slice fA fN fC) (.func nF n1 n2) k).1 (newRow base (.slice fA fN fC) (.func nF n1 n2) k).2.1 (newRow base (.slice fA fN fC) (.func nF n1 n2) k).2.2 hfr
      simp only [newRow, kv] at hup
      have HT := Lib.hid htk
      clear htk hnew hfr
      have hrw : r < wr.heap.size := by have := hg.size; have := HB1.out.size; omega
      have hpw : p < wr.heap.size := by have := hg.size; have := HB1.out.size; omega
      have hsl : (base ++ k).length ≤ 140737488351232 := by simp; omega
      have hcat := fun w => run_string_add_lists (P := Tryz.prog) w base k (by omega) (by omega)
      have Hup := Lib.hid hup
      clear hup happ
      have fin : ∀ w2, Below wr.heap.size wr.drew w2 → ∃ es'' c'', (World.setMap w2 r (es'.push { key := kv (smallL (base ++ k)) (kindOf k), val := .agg #[.string ⟨(base ++ k).toArray⟩, .int .i64 (kindOf k), .slice fA fN fC, .func nF n1 n2], born := c' }) (c' + 1)).heap[r]? = some (.map es'' c'') ∧ RulesAre es'' (R ++ (newRows base (.slice fA fN fC) (.func nF n1 n2) ks).take (i + 1)) ∧ w1.grownBy (World.setMap w2 r (es'.push { key := kv (smallL (base ++ k)) (kindOf k), val := .agg #[.string ⟨(base ++ k).toArray⟩, .int .i64 (kindOf k), .slice fA fN fC, .func nF n1 n2], born := c' }) (c' + 1)) (some r) := by
        intro w2 hb2
        have hsz : wr.heap.size ≤ w2.heap.size := hb2.size
        refine ⟨_, _, setMap_heap (by omega), ?_, ?_⟩
        · rw [HT.out, ← List.append_assoc]
          exact hes'.push _ _ _ _
        · refine World.grownBy.trans hg ⟨hb2.os, hb2.tape, hb2.output, by rw [setMap_size]; exact hsz, fun j hj hne => ?_⟩
          rw [setMap_other (by simpa using hne)]
          exact hb2.block j hj
      have Fin := Lib.hid fin
      clear fin
      have AG' : Aside (i + 1 + q = ks.length + 1) := by have := AG.out; show _ = _; omega
      by_cases hk1 : k = kOrdering
      · subst hk1
        have e0 : kindOf kOrdering = 1 := by decide
        rw [e0] at Hup Fin
        have e1 : (kOrdering == [79, 114, 100, 101, 114, 105, 110, 103, 77, 97, 116, 99, 104]) = true := by decide
        clear e0
        go_wp2_with fail
        go_region_held3 (fun w' => w'.cell? ⟨p, 0, none⟩ = some (.map (some r))) (first | exact hpc | exact hpc2 | exact (setMap_cell hpr).trans hpc2) (first | (go_at_call 35; refine (Small_c _ _ hsl).mono ?_; rintro e w2 ⟨rfl, hb2⟩; have hpc2 : w2.cell? ⟨p, 0, none⟩ = some (.map (some r)) := (hb2.cell (p := ⟨p, 0, none⟩) hpw).trans hpc; have hu2 := Hup.out w2 ((hb2.block r hrw).trans AR.out)))
        go_wp2
        go_roundg q
        case measure => omega
        case rel =>
          obtain ⟨es'', c'', f1, f2, f3⟩ := Fin.out _ hb2
          exact ⟨i + 1, es'', c'', by omega, by go_num, AG'.out, f1, f2, f3⟩
      · by_cases hk2 : k = kSubstrings
        · subst hk2
          have e0 : kindOf kSubstrings = 2 := by decide
          rw [e0] at Hup Fin
          have e1 : (kSubstrings == [79, 114, 100, 101, 114, 105, 110, 103, 77, 97, 116, 99, 104]) = false := by decide
          have e2 : (kSubstrings == [83, 117, 98, 115, 116, 114, 105, 110, 103, 115, 77, 97, 116, 99, 104]) = true := by decide
          clear e0 hk1
          go_wp2_with fail
          go_region_held3 (fun w' => w'.cell? ⟨p, 0, none⟩ = some (.map (some r))) (first | exact hpc | exact hpc2 | exact (setMap_cell hpr).trans hpc2) (first | (go_at_call 35; refine (Small_c _ _ hsl).mono ?_; rintro e w2 ⟨rfl, hb2⟩; have hpc2 : w2.cell? ⟨p, 0, none⟩ = some (.map (some r)) := (hb2.cell (p := ⟨p, 0, none⟩) hpw).trans hpc; have hu2 := Hup.out w2 ((hb2.block r hrw).trans AR.out)))
          go_wp2
          go_roundg q
          case measure => omega
          case rel =>
            obtain ⟨es'', c'', f1, f2, f3⟩ := Fin.out _ hb2
            exact ⟨i + 1, es'', c'', by omega, by go_num, AG'.out, f1, f2, f3⟩
        · have e0 : kindOf k = 0 := by simp [kindOf, hk1, hk2]
          rw [e0] at Hup Fin
          have e1 : (k == [79, 114, 100, 101, 114, 105, 110, 103, 77, 97, 116, 99, 104]) = false := by rw [beq_eq_false_iff_ne]; exact hk1
          have e2 : (k == [83, 117, 98, 115, 116, 114, 105, 110, 103, 115, 77, 97, 116, 99, 104]) = false := by rw [beq_eq_false_iff_ne]; exact hk2
          clear hk1 hk2 e0
          go_wp2_with fail
          go_region_held3 (fun w' => w'.cell? ⟨p, 0, none⟩ = some (.map (some r))) (first | exact hpc | exact hpc2 | exact (setMap_cell hpr).trans hpc2) (first | (go_at_call 35; refine (Small_c _ _ hsl).mono ?_; rintro e w2 ⟨rfl, hb2⟩; have hpc2 : w2.cell? ⟨p, 0, none⟩ = some (.map (some r)) := (hb2.cell (p := ⟨p, 0, none⟩) hpw).trans hpc; have hu2 := Hup.out w2 ((hb2.block r hrw).trans AR.out)))
          go_wp2
          go_roundg q
          case measure => omega
          case rel =>
            obtain ⟨es'', c'', f1, f2, f3⟩ := Fin.out _ hb2
            exact ⟨i + 1, es'', c'', by omega, by go_num, AG'.out, f1, f2, f3⟩
    · obtain rfl : i = ks.length + 1 := by omega
      have hfin : RulesAre es' (R ++ newRows base (.slice fA fN fC) (.func nF n1 n2) ks) := by
        rw [List.take_of_length_le (by omega)] at hes'; exact hes'
      have hfg : w.grownBy wr (some r) := World.grownBy.trans ⟨HB1.out.os, HB1.out.tape, HB1.out.output, HB1.out.size, fun k hk _ => HB1.out.block k hk⟩ hg
      have Hf := Lib.hid hfin
      clear hfin hes'
      go_wp2
      go_end0
      exact ⟨rfl, es', c', AR.out, Hf.out, hfg⟩
end Go.Proofs.YtcjobpcbppcdnaaGreatDoor
/- The map of rules. -/
namespace Go.Proofs.YtcjobpcbppcdnaaGreatDoor
open Go.RowKit

theorem mkFunc (fn : Fn) (first cap : Array Value) (w : World) : (Instr.makeFunc fn first cap).run Tryz.prog w = .ok (.func fn first cap) w := rfl

set_option maxRecDepth 10000 in
set_option maxHeartbeats 400000 in
theorem text_c (fold : Bool) (w : World) :
    Calls Tryz.prog 174 #[.bool fold] w fun e w' => e = .returned (.func (.func 199) #[] #[.pointer (some ⟨w.heap.size, 0, none⟩)]) ∧ w.alloc (.cells #[.bool fold] 4) = w' := by
  have hmf := mkFunc
  go_enter Tryz.func174, Tryz.ntmps174
  go_wp2
  go_ret
  exact ⟨rfl, rfl⟩

/-- What a rule does to a value. -/
inductive NormFn where
  | self
  | text (fold : Bool)
  | name
  | oid
  deriving DecidableEq

def normIs (w : World) (v : Value) : NormFn → Prop
  | .self => v = .func (.func 173) #[] #[]
  | .text fold => ∃ a, v = .func (.func 199) #[] #[.pointer (some ⟨a, 0, none⟩)] ∧ w.cell? ⟨a, 0, none⟩ = some (.bool fold)
  | .name => v = .func (.func 175) #[] #[]
  | .oid => v = .func (.func 176) #[] #[]
theorem normIs.below {w w' : World} {v : Value} {n : NormFn} (h : normIs w v n) (hb : Below w.heap.size w w') : normIs w' v n := by
  cases n with
  | text fold =>
    obtain ⟨a, h1, h2⟩ := h
    exact ⟨a, h1, (hb.cell (p := ⟨a, 0, none⟩) (cell_lt h2)).trans h2⟩
  | _ => exact h

def bOctetString : List UInt8 := [111, 99, 116, 101, 116, 83, 116, 114, 105, 110, 103]
def bCaseExact : List UInt8 := [99, 97, 115, 101, 69, 120, 97, 99, 116]
def bCaseIgnore : List UInt8 := [99, 97, 115, 101, 73, 103, 110, 111, 114, 101]
def bInteger : List UInt8 := [105, 110, 116, 101, 103, 101, 114]
def bBoolean : List UInt8 := [98, 111, 111, 108, 101, 97, 110]
def bDistinguishedName : List UInt8 := [100, 105, 115, 116, 105, 110, 103, 117, 105, 115, 104, 101, 100, 78, 97, 109, 101]
def bObjectIdentifier : List UInt8 := [111, 98, 106, 101, 99, 116, 73, 100, 101, 110, 116, 105, 102, 105, 101, 114]
def bGeneralizedTime : List UInt8 := [103, 101, 110, 101, 114, 97, 108, 105, 122, 101, 100, 84, 105, 109, 101]
def fOctets : List UInt8 := [111, 99, 116, 101, 116, 115]
def fText : List UInt8 := [116, 101, 120, 116]
def fAscii : List UInt8 := [97, 115, 99, 105, 105]
def fInteger : List UInt8 := [105, 110, 116, 101, 103, 101, 114]
def fBoolean : List UInt8 := [98, 111, 111, 108, 101, 97, 110]
def fName : List UInt8 := [110, 97, 109, 101]
def fOid : List UInt8 := [111, 105, 100]
def fTime : List UInt8 := [116, 105, 109, 101]

/-- The rules: each base with its forms, what it does, and its kinds beside 'Match'. -/
def bases : List (List UInt8 × List (List UInt8) × NormFn × List (List UInt8)) := [
  (bOctetString, [fOctets], .self, [kOrdering]),
  (bCaseExact, [fText, fAscii], .text false, [kOrdering, kSubstrings]),
  (bCaseIgnore, [fText, fAscii], .text true, [kOrdering, kSubstrings]),
  (bInteger, [fInteger], .self, [kOrdering]),
  (bBoolean, [fBoolean], .self, []),
  (bDistinguishedName, [fName], .name, []),
  (bObjectIdentifier, [fOid], .oid, []),
  (bGeneralizedTime, [fTime], .self, [kOrdering])]
/-- Own name, kind, forms, what it does. -/
def tab : List (List UInt8 × Int × List (List UInt8) × NormFn) :=
  bases.flatMap fun b => (kMatch :: b.2.2.2).map fun k => (b.1 ++ k, kindOf k, b.2.1, b.2.2.1)

/-- What is in the map stands for a list of rules. -/
inductive Stand (w : World) : List (List UInt8 × Int × Value) → List (List UInt8 × Int × List (List UInt8) × NormFn) → Prop
  | nil : Stand w [] []
  | cons {R : List (List UInt8 × Int × Value)} {T : List (List UInt8 × Int × List (List UInt8) × NormFn)} {n : List UInt8} {k : Int} {f : List (List UInt8)} {nf : NormFn} {fo nv : Value} (hf : Texts w fo f) (hn : normIs w nv nf) (h : Stand w R T) :
      Stand w ((smallL n, k, .agg #[.string ⟨n.toArray⟩, .int .i64 k, fo, nv]) :: R) ((n, k, f, nf) :: T)
theorem Stand.append {w : World} {R R' : List (List UInt8 × Int × Value)} {T T' : List (List UInt8 × Int × List (List UInt8) × NormFn)} (h : Stand w R T) (h' : Stand w R' T') : Stand w (R ++ R') (T ++ T') := by
  induction h with
  | nil => exact h'
  | cons hf hn _ ih => exact .cons hf hn ih
theorem Stand.news {w : World} (base : List UInt8) {fo nv : Value} {f : List (List UInt8)} {nf : NormFn} (hf : Texts w fo f) (hn : normIs w nv nf) (ks : List (List UInt8)) : Stand w (ks.map (newRow base fo nv)) (ks.map fun k => (base ++ k, kindOf k, f, nf)) := by
  induction ks with
  | nil => exact .nil
  | cons k ks ih => exact .cons hf hn ih
theorem Stand.keep {w w' : World} {R : List (List UInt8 × Int × Value)} {T : List (List UInt8 × Int × List (List UInt8) × NormFn)} (h : Stand w R T) (hk : ∀ v f, Texts w v f → Texts w' v f) (hn : ∀ v f, normIs w v f → normIs w' v f) : Stand w' R T := by
  induction h with
  | nil => exact .nil
  | cons hf hn' _ ih => exact .cons (hk _ _ hf) (hn _ _ hn') ih

theorem cell_new1 (w : World) (v : Value) (t : TypeId) : (w.alloc (.cells #[v] t)).cell? ⟨w.heap.size, 0, none⟩ = some v := by simp
theorem Texts.new1 (w : World) (x : List UInt8) : Texts (w.alloc (.cells #[.string ⟨x.toArray⟩] 9)) (.slice (some ⟨w.heap.size, 0, none⟩) 1 1) [x] :=
  .inr ⟨w.heap.size, 1, rfl, Nat.le_refl _, by simp, fun j hj => by
    match j, hj with
    | 0, _ => simp⟩
theorem Texts.new2 (w : World) (x y : List UInt8) : Texts (w.alloc (.cells #[.string ⟨x.toArray⟩, .string ⟨y.toArray⟩] 9)) (.slice (some ⟨w.heap.size, 0, none⟩) 2 2) [x, y] :=
  .inr ⟨w.heap.size, 2, rfl, Nat.le_refl _, by simp, fun j hj => by
    match j, hj with
    | 0, _ => simp
    | 1, _ => simp⟩
theorem Texts.alloc {w : World} {v : Value} {xs : List (List UInt8)} (h : Texts w v xs) (o : Obj) : Texts (w.alloc o) v xs := h.below ((Below.refl _ _).alloc (Nat.le_refl _) o)
theorem Texts.new1' (w : World) (o : Obj) (x : List UInt8) : Texts ((w.alloc o).alloc (.cells #[.string ⟨x.toArray⟩] 9)) (.slice (some ⟨w.heap.size + 1, 0, none⟩) 1 1) [x] := by
  have := Texts.new1 (w.alloc o) x
  rwa [World.size_alloc] at this
theorem Texts.new2' (w : World) (o : Obj) (x y : List UInt8) : Texts ((w.alloc o).alloc (.cells #[.string ⟨x.toArray⟩, .string ⟨y.toArray⟩] 9)) (.slice (some ⟨w.heap.size + 1, 0, none⟩) 2 2) [x, y] := by
  have := Texts.new2 (w.alloc o) x y
  rwa [World.size_alloc] at this
theorem Texts.none (w : World) : Texts w (.slice none 0 0) [] := .inl ⟨rfl, rfl⟩

/-- The map under way. -/
structure RS (w : World) (tv : Value) (p r : Nat) (W : World) (T : List (List UInt8 × Int × List (List UInt8) × NormFn)) : Prop where
  below : Below w.heap.size w W
  hp : w.heap.size ≤ p
  hr : w.heap.size ≤ r
  cell : W.cell? ⟨p, 0, Option.none⟩ = some (.map (some r))
  tt : Texts W tv [fText, fAscii]
  map : ∃ es c R, W.heap[r]? = some (.map es c) ∧ RulesAre es R ∧ Stand W R T
theorem RS.grow {w : World} {tv : Value} {p r : Nat} {W W' : World} {T : List (List UInt8 × Int × List (List UInt8) × NormFn)} (h : RS w tv p r W T) (hb : Below W.heap.size W W') : RS w tv p r W' T := by
  obtain ⟨h1, h2, h3, h4, htt, es, c, R, h5, h6, h7⟩ := h
  have hrl : r < W.heap.size := (Array.getElem?_eq_some_iff.1 h5).1
  exact ⟨h1.trans (hb.mono h1.size), h2, h3, (hb.cell (p := ⟨p, 0, Option.none⟩) (cell_lt h4)).trans h4, htt.below hb, es, c, R, (hb.block r hrl).trans h5, h6, h7.keep (fun _ _ h => h.below hb) (fun _ _ h => h.below hb)⟩
theorem RS.alloc {w : World} {tv : Value} {p r : Nat} {W : World} {T : List (List UInt8 × Int × List (List UInt8) × NormFn)} (h : RS w tv p r W T) (o : Obj) : RS w tv p r (W.alloc o) T := h.grow ((Below.refl _ _).alloc (Nat.le_refl _) o)

def findT (n : List UInt8) (k : Int) : List (List UInt8 × Int × List (List UInt8) × NormFn) → Option (List UInt8 × Int × List (List UInt8) × NormFn)
  | [] => .none
  | x :: T => if n == smallL x.1 && k == x.2.1 then some x else findT n k T
theorem find_stand {w : World} {R : List (List UInt8 × Int × Value)} {T : List (List UInt8 × Int × List (List UInt8) × NormFn)} (h : Stand w R T) (n : List UInt8) (k : Int) :
    (findT n k T = .none ∧ findR n k R = .none) ∨ ∃ x fo nv, findT n k T = some x ∧ findR n k R = some (.agg #[.string ⟨x.1.toArray⟩, .int .i64 x.2.1, fo, nv]) ∧ Texts w fo x.2.2.1 ∧ normIs w nv x.2.2.2 := by
  induction h with
  | nil => exact .inl ⟨rfl, rfl⟩
  | @cons R T n' k' f nf fo nv hf hn _ ih =>
    simp only [findT, findR]
    by_cases hx : (n == smallL n' && k == k') = true
    · rw [if_pos hx, if_pos hx]
      exact .inr ⟨_, fo, nv, rfl, rfl, hf, hn⟩
    · rw [if_neg hx, if_neg hx]
      exact ih
def freshT (base : List UInt8) (ks : List (List UInt8)) (T : List (List UInt8 × Int × List (List UInt8) × NormFn)) : Bool :=
  (List.range (ks.length + 1)).all fun i => match ((kMatch :: ks)[i]?) with
    | .none => true
    | some k => (findT (smallL (base ++ k)) (kindOf k) (T ++ (((kMatch :: ks).take i).map fun k => (base ++ k, kindOf k, [], NormFn.self)))) |>.isNone

theorem findR_keys {R R' : List (List UInt8 × Int × Value)} (n : List UInt8) (k : Int) (h : R.map (fun x => (x.1, x.2.1)) = R'.map (fun x => (x.1, x.2.1))) : (findR n k R).isNone = (findR n k R').isNone := by
  induction R generalizing R' with
  | nil => cases R' with | nil => rfl | cons _ _ => simp at h
  | cons x R ih =>
    cases R' with
    | nil => simp at h
    | cons y R' =>
      simp only [List.map_cons, List.cons.injEq, Prod.mk.injEq] at h
      simp only [findR, h.1.1, h.1.2]
      split
      · rfl
      · exact ih h.2
theorem stand_keys {w : World} {R : List (List UInt8 × Int × Value)} {T : List (List UInt8 × Int × List (List UInt8) × NormFn)} (h : Stand w R T) : R.map (fun x => (x.1, x.2.1)) = T.map (fun x => (smallL x.1, x.2.1)) := by
  induction h with
  | nil => rfl
  | cons _ _ _ ih => simp [ih]
theorem findT_R (T : List (List UInt8 × Int × List (List UInt8) × NormFn)) (R : List (List UInt8 × Int × Value)) (n : List UInt8) (k : Int) (h : R.map (fun x => (x.1, x.2.1)) = T.map (fun x => (smallL x.1, x.2.1))) : (findR n k R).isNone = (findT n k T).isNone := by
  induction R generalizing T with
  | nil => cases T with | nil => rfl | cons _ _ => simp at h
  | cons x R ih =>
    cases T with
    | nil => simp at h
    | cons y T =>
      simp only [List.map_cons, List.cons.injEq, Prod.mk.injEq] at h
      simp only [findR, findT, h.1.1, h.1.2]
      split
      · rfl
      · exact ih _ h.2

theorem put_step {w : World} {tv : Value} {p r : Nat} {W : World} {T : List (List UInt8 × Int × List (List UInt8) × NormFn)} (h : RS w tv p r W T) (base : List UInt8) {fA : Option Addr} {fN fC : Nat} {nF : Fn} {n1 n2 : Array Value} {kvv : Value} {f : List (List UInt8)} {nf : NormFn} {ks : List (List UInt8)}
    (hf : Texts W (.slice fA fN fC) f) (hn : normIs W (.func nF n1 n2) nf) (hks : Texts W kvv ks) (hkl : ks.length ≤ 2) (hbl : base.length ≤ 100) (hkk : ks.all (fun k => decide (k.length ≤ 100)) = true) (hfr : freshT base ks T = true) :
    Calls Tryz.prog 172 #[.string ⟨base.toArray⟩, .slice fA fN fC, .func nF n1 n2, kvv, .pointer (some ⟨p, 0, Option.none⟩)] W fun e W' => e = .returned (.tuple #[]) ∧
      RS w tv p r W' (T ++ (kMatch :: ks).map fun k => (base ++ k, kindOf k, f, nf)) := by
  obtain ⟨h1, h2, h3, h4, htt, es, c, R, h5, h6, h7⟩ := h
  have hrl : r < W.heap.size := (Array.getElem?_eq_some_iff.1 h5).1
  refine (put_c base fA fN fC nF n1 n2 _ _ kvv rfl rfl ks p r c es R W h4 h5 h6 hks hkl hbl (fun k hk => by simpa using List.all_eq_true.1 hkk k hk) ?_).mono ?_
  · intro i x hx
    unfold newRows at hx ⊢
    rw [List.getElem?_map] at hx
    obtain ⟨k, hk, rfl⟩ := Option.map_eq_some_iff.1 hx
    have hi : i < ks.length + 1 := by simpa using (List.getElem?_eq_some_iff.1 hk).1
    unfold freshT at hfr
    have := List.all_eq_true.1 hfr i (List.mem_range.2 hi)
    rw [hk] at this
    dsimp only at this
    rw [← findT_R _ (R ++ ((kMatch :: ks).map (newRow base (.slice fA fN fC) (.func nF n1 n2))).take i)] at this
    · simpa [newRow] using this
    · rw [List.map_append, List.map_append, stand_keys h7, ← List.map_take, List.map_map, List.map_map]
      rfl
  · rintro e W' ⟨rfl, es', c', g1, g2, g3⟩
    have hT : ∀ v xs, Texts W v xs → Texts W' v xs := by
      intro v xs hx
      rcases hx with hx | ⟨b, c, rfl, hc, hlt, hcell⟩
      · exact .inl hx
      · rcases xs with _ | ⟨x, xs⟩
        · exact .inr ⟨b, c, rfl, hc, Nat.lt_of_lt_of_le hlt g3.size, fun j hj => absurd hj (by simp)⟩
        · have hb : b ≠ r := by
            rintro rfl
            have := hcell 0 (by simp)
            simp [World.cell?, h5] at this
          exact .inr ⟨b, c, rfl, hc, Nat.lt_of_lt_of_le hlt g3.size, fun j hj => g3.cell (hcell j hj) (by simpa using hb)⟩
    have hN : ∀ v f, normIs W v f → normIs W' v f := by
      intro v f hx
      cases f with
      | text fold =>
        obtain ⟨a, e1, e2⟩ := hx
        have hb : a ≠ r := by rintro rfl; simp [World.cell?, h5] at e2
        exact ⟨a, e1, g3.cell e2 (by simpa using hb)⟩
      | _ => exact hx
    have hpr : p ≠ r := by rintro rfl; simp [World.cell?, h5] at h4
    refine ⟨rfl, ⟨?_, h2, h3, g3.cell h4 (by simpa using hpr), hT _ _ htt, es', c', _, g1, g2, ?_⟩⟩
    · exact h1.grown g3 h1.size (fun k hk => by cases hk; exact h3)
    · exact (h7.keep hT hN).append (Stand.news base (hT _ _ hf) (hN _ _ hn) (kMatch :: ks))
set_option maxRecDepth 10000 in
set_option maxHeartbeats 400000 in
theorem rules_c (w : World) :
    Calls Tryz.prog 137 #[] w fun e w' => ∃ r es c R, e = .returned (.map (some r)) ∧ w'.heap[r]? = some (.map es c) ∧ RulesAre es R ∧ Stand w' R tab ∧ Below w.heap.size w w' := by
  have hmm := @run_makeMap Tryz.prog
  have hmf := mkFunc
  go_enter Tryz.func137, Tryz.ntmps137
  go_wp2_with fail
  obtain ⟨W0, hW0⟩ : ∃ W0 : World, ((w.alloc (.cells #[.string ⟨#[116, 101, 120, 116]⟩, .string ⟨#[97, 115, 99, 105, 105]⟩] 9)).alloc (.map #[] 0)).alloc (.cells #[.map (some (w.heap.size + 1))] 170) = W0 := ⟨_, rfl⟩
  rw [hW0]
  have hsz : w.heap.size + 1 + 1 + 1 = W0.heap.size := by rw [← hW0]; simp
  rw [hsz]
  have hRS : RS w (.slice (some ⟨w.heap.size, 0, Option.none⟩) 2 2) (w.heap.size + 1 + 1) (w.heap.size + 1) W0 [] := by
    rw [← hW0]
    refine ⟨(((Below.refl _ _).alloc (Nat.le_refl _) _).alloc (by simp) _).alloc (by simp; omega) _, by omega, by omega, ?_, ((Texts.new2 w fText fAscii).alloc _).alloc _, #[], 0, [], ?_, rfl, .nil⟩
    · have := cell_new1 ((w.alloc (.cells #[.string ⟨#[116, 101, 120, 116]⟩, .string ⟨#[97, 115, 99, 105, 105]⟩] 9)).alloc (.map #[] 0)) (.map (some (w.heap.size + 1))) 170
      rwa [World.size_alloc, World.size_alloc] at this
    rw [Below.heap_alloc _ _ _ (by simp)]
    have := heap_alloc_new (w.alloc (.cells #[.string ⟨#[116, 101, 120, 116]⟩, .string ⟨#[97, 115, 99, 105, 105]⟩] 9)) (.map #[] 0)
    rwa [World.size_alloc] at this
  clear hsz
  clear hW0
  generalize w.heap.size + 1 + 1 = p at *
  generalize w.heap.size + 1 = r at *
  refine (put_step ((hRS.alloc _).alloc _) bOctetString (nf := .self) ((Texts.new1 W0 fOctets).alloc _) rfl (Texts.new1' W0 _ kOrdering) (by decide) (by decide) (by decide) (by decide +kernel)).mono ?_
  rintro e W1 ⟨rfl, h1⟩
  clear hRS
  go_wp2_with fail
  refine (text_c _ _).mono ?_
  rintro e w2 ⟨rfl, rfl⟩
  go_wp2_with fail
  refine (put_step ((h1.alloc _).alloc _) bCaseExact (nf := .text false) ((h1.tt.alloc _).alloc _) ⟨_, rfl, by simp⟩ (Texts.new2' W1 _ kOrdering kSubstrings) (by decide) (by decide) (by decide) (by decide +kernel)).mono ?_
  rintro e W2 ⟨rfl, h2⟩
  clear h1
  go_wp2_with fail
  refine (text_c _ _).mono ?_
  rintro e w2 ⟨rfl, rfl⟩
  go_wp2_with fail
  refine (put_step ((h2.alloc _).alloc _) bCaseIgnore (nf := .text true) ((h2.tt.alloc _).alloc _) ⟨_, rfl, by simp⟩ (Texts.new2' W2 _ kOrdering kSubstrings) (by decide) (by decide) (by decide) (by decide +kernel)).mono ?_
  rintro e W3 ⟨rfl, h3⟩
  clear h2
  go_wp2_with fail
  refine (put_step ((h3.alloc _).alloc _) bInteger (nf := .self) ((Texts.new1 W3 fInteger).alloc _) rfl (Texts.new1' W3 _ kOrdering) (by decide) (by decide) (by decide) (by decide +kernel)).mono ?_
  rintro e W4 ⟨rfl, h4⟩
  clear h3
  go_wp2_with fail
  refine (put_step (h4.alloc _) bBoolean (nf := .self) (Texts.new1 W4 fBoolean) rfl (Texts.none _) (by decide) (by decide) (by decide) (by decide +kernel)).mono ?_
  rintro e W5 ⟨rfl, h5⟩
  clear h4
  go_wp2_with fail
  refine (put_step (h5.alloc _) bDistinguishedName (nf := .name) (Texts.new1 W5 fName) rfl (Texts.none _) (by decide) (by decide) (by decide) (by decide +kernel)).mono ?_
  rintro e W6 ⟨rfl, h6⟩
  clear h5
  go_wp2_with fail
  refine (put_step (h6.alloc _) bObjectIdentifier (nf := .oid) (Texts.new1 W6 fOid) rfl (Texts.none _) (by decide) (by decide) (by decide) (by decide +kernel)).mono ?_
  rintro e W7 ⟨rfl, h7⟩
  clear h6
  go_wp2_with fail
  refine (put_step ((h7.alloc _).alloc _) bGeneralizedTime (nf := .self) ((Texts.new1 W7 fTime).alloc _) rfl (Texts.new1' W7 _ kOrdering) (by decide) (by decide) (by decide) (by decide +kernel)).mono ?_
  rintro e W8 ⟨rfl, h8⟩
  clear h7
  obtain ⟨g1, g2, g3, g4, g5, es, c, R, g6, g7, g8⟩ := h8
  have G6 := Lib.hid g6
  clear g6
  go_wp2_with fail
  go_ret
  exact ⟨r, es, c, R, rfl, G6.out, g7, g8, g1⟩
end Go.Proofs.YtcjobpcbppcdnaaGreatDoor
/- The rule of a name. -/
namespace Go.Proofs.YtcjobpcbppcdnaaGreatDoor
open Go.RowKit

/-- The rule of a name with small letters. -/
def ruleT (n : List UInt8) : Option (List UInt8 × Int × List (List UInt8) × NormFn) := (findT n 0 tab).or ((findT n 1 tab).or (findT n 2 tab))
def RowAt (w : World) (b : Nat) (x : List UInt8 × Int × List (List UInt8) × NormFn) : Prop :=
  ∃ fA fN fC nF n1 n2, w.heap[b]? = some (.cells #[.string ⟨x.1.toArray⟩, .int .i64 x.2.1, .slice fA fN fC, .func nF n1 n2] 139 (0, 0)) ∧ Texts w (.slice fA fN fC) x.2.2.1 ∧ normIs w (.func nF n1 n2) x.2.2.2
theorem RowAt.below {w w' : World} {b : Nat} {x : List UInt8 × Int × List (List UInt8) × NormFn} (h : RowAt w b x) (hb : Below w.heap.size w w') : RowAt w' b x := by
  obtain ⟨fA, fN, fC, nF, n1, n2, h1, h2, h3⟩ := h
  exact ⟨fA, fN, fC, nF, n1, n2, (hb.block b (Array.getElem?_eq_some_iff.1 h1).1).trans h1, h2.below hb, h3.below hb⟩
theorem RowAt.lt {w : World} {b : Nat} {x : List UInt8 × Int × List (List UInt8) × NormFn} (h : RowAt w b x) : b < w.heap.size := by
  obtain ⟨fA, fN, fC, nF, n1, n2, h1, h2, h3⟩ := h
  exact (Array.getElem?_eq_some_iff.1 h1).1
theorem Texts.isSlice {w : World} {v : Value} {xs : List (List UInt8)} (h : Texts w v xs) : ∃ A n c, v = .slice A n c := by
  rcases h with ⟨_, rfl⟩ | ⟨b, c, rfl, _⟩
  · exact ⟨_, _, _, rfl⟩
  · exact ⟨_, _, _, rfl⟩
theorem normIs.isFunc {w : World} {v : Value} {n : NormFn} (h : normIs w v n) : ∃ F a b, v = .func F a b := by
  cases n with
  | text fold => obtain ⟨a, rfl, _⟩ := h; exact ⟨_, _, _, rfl⟩
  | _ => exact ⟨_, _, _, h⟩

/-- What rule hands back. -/
def RuleRet (w : World) (o : Option (List UInt8 × Int × List (List UInt8) × NormFn)) (e : Ending) (w' : World) : Prop :=
  Below w.heap.size w w' ∧ match o with
    | none => e = .returned (.pointer none)
    | some x => ∃ b, e = .returned (.pointer (some ⟨b, 0, none⟩)) ∧ w.heap.size ≤ b ∧ RowAt w' b x

set_option maxRecDepth 10000 in
set_option maxHeartbeats 1000000 in
theorem rule_c (l : List UInt8) (w : World) (hl : l.length ≤ 140737488351232) :
    Calls Tryz.prog 101 #[.string ⟨l.toArray⟩] w (RuleRet w (ruleT (smallL l))) := by
  go_enter Tryz.func101, Tryz.ntmps101
  go_wp2_with (go_at_call 137; refine (rules_c w).mono ?_; rintro e w1 ⟨r, es, c, R, rfl, h1, h2, h3, h4⟩)
  have hr1 : r < w1.heap.size := (Array.getElem?_eq_some_iff.1 h1).1
  have H1 := Lib.hid h1
  clear h1
  go_loopg [4] 3 (fun gk i wr => ∃ k : Nat, k ≤ 3 ∧ i = .int .i64 k ∧ Aside (k + gk = 3) ∧ Below w1.heap.size w1 wr ∧ Aside (ruleT (smallL l) = if k = 0 then ruleT (smallL l) else if k = 1 then (findT (smallL l) 1 tab).or (findT (smallL l) 2 tab) else if k = 2 then findT (smallL l) 2 tab else none))
  case atStart => exact ⟨0, by omega, rfl, by show _ = _; omega, Below.refl _ _, by show _ = _; simp⟩
  case round =>
    obtain ⟨k, hk, rfl, AG, hB, AT⟩ := hrel
    by_cases hk3 : k = 3
    · subst hk3
      have hnone : ruleT (smallL l) = none := by have := AT.out; simpa using this
      have Hnone := Lib.hid hnone
      clear AG hnone
      go_wp2
      go_ret
      rw [Hnone.out]
      exact ⟨h4.trans (hB.mono h4.size), rfl⟩
    · obtain ⟨q, rfl⟩ : ∃ q, gk = q + 1 := ⟨gk - 1, by have := AG.out; omega⟩
      have hlk : ∀ W, Below w1.heap.size w1 W → (Instr.lookup 170 (.map (some r)) (.agg #[.string ⟨(smallL l).toArray⟩, .int .i64 k]) true).run Tryz.prog W = .ok (match findR (smallL l) k R with | some v => .tuple #[v, .bool true] | none => .tuple #[.agg #[.string ⟨#[]⟩, .int .i64 0, .slice none 0 0, .nilFunc], .bool false]) W :=
        fun W hW => lookup_run W r c es R ((hW.block r hr1).trans H1.out) h2 (smallL l) k
      rcases find_stand h3 (smallL l) k with ⟨hT, hR⟩ | ⟨x, fo, nv, hT, hR, hf, hn⟩
      · rw [hR] at hlk
        have AT' : Aside (ruleT (smallL l) = if k + 1 = 0 then ruleT (smallL l) else if k + 1 = 1 then (findT (smallL l) 1 tab).or (findT (smallL l) 2 tab) else if k + 1 = 2 then findT (smallL l) 2 tab else none) := by
          have := AT.out
          show _ = _
          rcases (show k = 0 ∨ k = 1 ∨ k = 2 by omega) with rfl | rfl | rfl
          · have hT0 : findT (smallL l) 0 tab = none := hT
            simp [ruleT, hT0]
          · have hT0 : findT (smallL l) 1 tab = none := hT
            simp at this; simp [this, hT0]
          · have hT0 : findT (smallL l) 2 tab = none := hT
            simp at this; simp [this, hT0]
        have Hlk := Lib.hid hlk
        clear hlk hR hT AT h3 h2
        go_wp2_with (go_at_call 35; refine (Small_c _ _ hl).mono ?_; rintro e w2 ⟨rfl, hb2⟩; have hlk2 := Hlk.out w2 (hB.trans (hb2.mono hB.size)))
        go_roundg q
        case measure => omega
        case rel => exact ⟨k + 1, by omega, by go_num, by have := AG.out; show _ = _; omega, (hB.trans (hb2.mono hB.size)).alloc (Nat.le_trans hB.size hb2.size) _, AT'.out⟩
      · rw [hR] at hlk
        have hsome : ruleT (smallL l) = some x := by
          have := AT.out
          rcases (show k = 0 ∨ k = 1 ∨ k = 2 by omega) with rfl | rfl | rfl
          · have hT0 : findT (smallL l) 0 tab = some x := hT
            simp [ruleT, hT0]
          · have hT0 : findT (smallL l) 1 tab = some x := hT
            simp at this; simp [this, hT0]
          · have hT0 : findT (smallL l) 2 tab = some x := hT
            simp at this; simp [this, hT0]
        obtain ⟨fA, fN, fC, rfl⟩ := hf.isSlice
        obtain ⟨nF, n1, n2, rfl⟩ := hn.isFunc
        have Hsome := Lib.hid hsome
        have Hlk := Lib.hid hlk
        clear hlk hR hT AT h3 h2 hsome
        go_wp2_with (go_at_call 35; refine (Small_c _ _ hl).mono ?_; rintro e w2 ⟨rfl, hb2⟩; have hlk2 := Hlk.out w2 (hB.trans (hb2.mono hB.size)))
        go_ret
        rw [Hsome.out]
        have hb12 : Below w1.heap.size w1 w2 := hB.trans (hb2.mono hB.size)
        have hba := (Below.refl w2.heap.size w2).alloc (Nat.le_refl _) (.cells #[.string ⟨x.1.toArray⟩, .int .i64 x.2.1, .slice fA fN fC, .func nF n1 n2] 139)
        refine ⟨(h4.trans (hb12.mono h4.size)).alloc (Nat.le_trans h4.size hb12.size) _, w2.heap.size, rfl, Nat.le_trans h4.size hb12.size, fA, fN, fC, nF, n1, n2, heap_alloc_new w2 _, (hf.below hb12).below hba, (hn.below hb12).below hba⟩
end Go.Proofs.YtcjobpcbppcdnaaGreatDoor
/- asked, Rule. -/
namespace Go.Proofs.YtcjobpcbppcdnaaGreatDoor
open Go.RowKit

def askT (n : List UInt8) (k : Int) : Option (List UInt8 × Int × List (List UInt8) × NormFn) := (ruleT n).filter (fun x => x.2.1 == k)
def AskRet (w : World) (o : Option (List UInt8 × Int × List (List UInt8) × NormFn)) (e : Ending) (w' : World) : Prop :=
  Below w.heap.size w w' ∧ match o with
    | none => e = .returned (.tuple #[.pointer none, .int .i64 41])
    | some x => ∃ b, e = .returned (.tuple #[.pointer (some ⟨b, 0, none⟩), .int .i64 0]) ∧ w.heap.size ≤ b ∧ RowAt w' b x

set_option maxRecDepth 10000 in
set_option maxHeartbeats 1000000 in
theorem asked_c (l : List UInt8) (k : Int) (w : World) (hl : l.length ≤ 140737488351232) :
    Calls Tryz.prog 112 #[.string ⟨l.toArray⟩, .int .i64 k] w (AskRet w (askT (smallL l) k)) := by
  have hc := rule_c l w hl
  unfold askT
  cases hr : ruleT (smallL l) with
  | none =>
    rw [hr] at hc
    go_enter Tryz.func112, Tryz.ntmps112
    go_wp2_with (go_at_call 101; refine hc.mono ?_; rintro e w1 ⟨hb, rfl⟩)
    go_ret2
    exact ⟨hb, rfl⟩
  | some x =>
    rw [hr] at hc
    by_cases hk : x.2.1 = k
    · have ho : (some x).filter (fun x : List UInt8 × Int × List (List UInt8) × NormFn => x.2.1 == k) = some x := by simp [hk]
      have Ho := Lib.hid ho
      have hk1 : (x.2.1 != k) = false := by simp [hk]
      clear ho hr hk
      go_enter Tryz.func112, Tryz.ntmps112
      go_wp2_with (go_at_call 101; refine hc.mono ?_; rintro e w1 ⟨hb, b, rfl, hbb, hrow⟩; obtain ⟨fA, fN, fC, nF, n1, n2, h1, h2, h3⟩ := id hrow; have hcell : w1.cell? ⟨b, 1, none⟩ = some (.int .i64 x.2.1) := by simp [World.cell?, h1])
      go_ret2
      rw [Ho.out]
      exact ⟨hb, b, rfl, hbb, hrow⟩
    · have ho : (some x).filter (fun x : List UInt8 × Int × List (List UInt8) × NormFn => x.2.1 == k) = none := by simp [hk]
      have Ho := Lib.hid ho
      have hk1 : (x.2.1 != k) = true := by simp [hk]
      clear ho hr hk
      go_enter Tryz.func112, Tryz.ntmps112
      go_wp2_with (go_at_call 101; refine hc.mono ?_; rintro e w1 ⟨hb, b, rfl, hbb, hrow⟩; obtain ⟨fA, fN, fC, nF, n1, n2, h1, h2, h3⟩ := id hrow; have hcell : w1.cell? ⟨b, 1, none⟩ = some (.int .i64 x.2.1) := by simp [World.cell?, h1])
      go_ret2
      rw [Ho.out]
      exact ⟨hb, rfl⟩

/-- What Rule tells. -/
def ruleV (n : List UInt8) : Value := match ruleT n with
  | none => .tuple #[.string ⟨#[]⟩, .int .i64 0, .int .i64 41]
  | some x => .tuple #[.string ⟨x.1.toArray⟩, .int .i64 x.2.1, .int .i64 0]
set_option maxRecDepth 10000 in
set_option maxHeartbeats 1000000 in
theorem Rule_c (l : List UInt8) (w : World) (hl : l.length ≤ 140737488351232) :
    Calls Tryz.prog 134 #[.string ⟨l.toArray⟩] w fun e w' => e = .returned (ruleV (smallL l)) ∧ Below w.heap.size w w' := by
  have hc := rule_c l w hl
  unfold ruleV
  cases hr : ruleT (smallL l) with
  | none =>
    rw [hr] at hc
    go_enter Tryz.func134, Tryz.ntmps134
    go_wp2_with (go_at_call 101; refine hc.mono ?_; rintro e w1 ⟨hb, rfl⟩)
    go_ret3
    exact ⟨rfl, hb⟩
  | some x =>
    rw [hr] at hc
    clear hr
    go_enter Tryz.func134, Tryz.ntmps134
    go_wp2_with (go_at_call 101; refine hc.mono ?_; rintro e w1 ⟨hb, b, rfl, hbb, hrow⟩; obtain ⟨fA, fN, fC, nF, n1, n2, h1, h2, h3⟩ := id hrow; have hcell : w1.cell? ⟨b, 1, none⟩ = some (.int .i64 x.2.1) := (by simp [World.cell?, h1]); have hcell0 : w1.cell? ⟨b, 0, none⟩ = some (.string ⟨x.1.toArray⟩) := (by simp [World.cell?, h1]))
    go_quiet (fail)
    go_wp2
    go_ret3
    exact ⟨rfl, below_drewN hb _⟩
end Go.Proofs.YtcjobpcbppcdnaaGreatDoor
/- Contracts: dn.isOid, dn.IsType. -/
namespace Go.Proofs.YtcjobpcbppcdnaaGreatDoor
open Go.RowKit

theorem ba_eta (x : ByteArray) : (⟨x.data.toList.toArray⟩ : ByteArray) = x := by cases x; simp
theorem splitB_le (sep : ByteArray) : ∀ (k : Nat) (s : ByteArray), ∀ x ∈ Lib.splitB sep 0 k s, x.size ≤ s.size
  | 0, s, x, hx => by simp [Lib.splitB] at hx; subst hx; exact Nat.le_refl _
  | k + 1, s, x, hx => by
    rw [Lib.splitB] at hx
    split at hx
    · simp at hx; subst hx; exact Nat.le_refl _
    · rcases List.mem_cons.1 hx with h | h
      · subst h; simp [ByteArray.size_extract]; omega
      · have := splitB_le sep k _ x h
        simp [ByteArray.size_extract] at this
        omega
/-- What stands between the dots. -/
def segs (l : List UInt8) : List (List UInt8) := (Lib.splitB ⟨#[46]⟩ 0 (Lib.countB ⟨l.toArray⟩ ⟨#[46]⟩) ⟨l.toArray⟩).map (·.data.toList)
theorem segs_le {l x : List UInt8} (h : x ∈ segs l) : x.length ≤ l.length := by
  unfold segs at h
  obtain ⟨y, hy, rfl⟩ := List.mem_map.1 h
  have := splitB_le _ _ _ y hy
  show y.data.size ≤ l.length
  exact this
theorem segs_cnt (l : List UInt8) : (segs l).length = Lib.countB ⟨l.toArray⟩ ⟨#[46]⟩ + 1 ∧ (segs l).length ≤ l.length + 1 := by
  have h1 : (segs l).length = Lib.countB ⟨l.toArray⟩ ⟨#[46]⟩ + 1 := by
    unfold segs
    rw [List.length_map]
    exact Lib.splitB_all ⟨#[46]⟩ (by decide) 0 _ _ rfl
  have h2 : Lib.countB ⟨l.toArray⟩ ⟨#[46]⟩ ≤ (⟨l.toArray⟩ : ByteArray).size := Lib.countB_le ⟨#[46]⟩ (by decide) _ _ (Nat.le_refl _)
  exact ⟨h1, by simp [ByteArray.size] at h2; omega⟩
theorem Split_c (l : List UInt8) (w : World) (hw : Env w) (hl : l.length ≤ 65536) :
    Calls Tryz.prog 130 #[.string ⟨l.toArray⟩, .string ⟨#[46]⟩] w fun e w' => e = .returned (.slice (some ⟨w.heap.size, 0, none⟩) (segs l).length (segs l).length) ∧ w' = w.alloc (.cells ((segs l).map strV).toArray 9) := by
  obtain ⟨m, hm⟩ := hw.mx
  refine (Tryz.strings_Split ⟨l.toArray⟩ ⟨#[46]⟩ m w (by simp [ByteArray.size]; omega) hm (by decide)).mono ?_
  rintro e w' ⟨rfl, rfl⟩
  rw [← (segs_cnt l).1]
  refine ⟨rfl, ?_⟩
  congr 3
  unfold segs
  rw [List.map_map]
  refine List.map_congr_left fun x _ => ?_
  simp [strV]

def segOk (n : List UInt8) : Bool := !n.isEmpty && !(decide (1 < n.length) && n.head? == some 48) && n.all isDig
def isOidL (l : List UInt8) : Bool := (segs l).all segOk && decide (1 < (segs l).length)

set_option maxRecDepth 10000 in
set_option maxHeartbeats 1000000 in
theorem isOid_c (l : List UInt8) (w : World) (hw : Env w) (hl : l.length ≤ 64) :
    Calls Tryz.prog 85 #[.string ⟨l.toArray⟩] w fun e w' => e = .returned (.bool (isOidL l)) ∧ Below w.heap.size w w' := by
  have hget := ba_get
  have hS := Split_c l w hw (by omega)
  unfold isOidL
  have hle : ∀ x ∈ segs l, x.length ≤ l.length := fun x hx => segs_le hx
  have hcnt := (segs_cnt l).2
  generalize segs l = S at *
  have HL := Lib.hid hle
  clear hle
  go_enter Tryz.func85, Tryz.ntmps85
  go_wp2_with (go_at_call 130; refine hS.mono ?_; rintro e w1 ⟨rfl, rfl⟩)
  have hca : ∀ k (hk : k < S.length), (w.alloc (.cells (S.map strV).toArray 9)).cell? ⟨w.heap.size, k, none⟩ = some (.string ⟨S[k].toArray⟩) := by
    intro k hk
    rw [World.cell?_alloc_mark]
    simp [strV, hk]
  have HC := Lib.hid hca
  clear hca hS
  have hsz : w.heap.size < (w.alloc (.cells (S.map strV).toArray 9)).heap.size := by simp
  have hbw : Below w.heap.size w (w.alloc (.cells (S.map strV).toArray 9)) := (Below.refl _ _).alloc (Nat.le_refl _) _
  generalize w.alloc (.cells (S.map strV).toArray 9) = W at *
  go_loopg [10] S.length (fun gk i wr => ∃ k : Nat, k ≤ S.length ∧ i = .int .i64 k ∧ Aside (k + gk = S.length) ∧ Below W.heap.size W wr ∧ Aside (S.all segOk = (S.drop k).all segOk))
  case atStart => exact ⟨0, by omega, rfl, by show _ = _; omega, Below.refl _ _, rfl⟩
  case round =>
    obtain ⟨k, hk, rfl, AG, hB, AS⟩ := hrel
    have hBB : Below w.heap.size w wr := hbw.trans (hB.mono (by omega))
    by_cases hlt : k < S.length
    · have hcell : wr.cell? ⟨w.heap.size, k, none⟩ = some (.string ⟨S[k].toArray⟩) := (hB.cell (p := ⟨w.heap.size, k, none⟩) hsz).trans (HC.out k hlt)
      have hsl : S[k].length ≤ 64 := by have := HL.out _ (List.getElem_mem hlt); omega
      have AS' : Aside (S.all segOk = (segOk S[k] && (S.drop (k + 1)).all segOk)) := by have := AS.out; rw [List.drop_eq_getElem_cons hlt] at this; exact this
      obtain ⟨q, rfl⟩ : ∃ q, gk = q + 1 := ⟨gk - 1, by have := AG.out; omega⟩
      generalize S[k] = n at *
      have hT := fun w => Tryz.strings_Trim_set ⟨n.toArray⟩ ⟨#[48, 49, 50, 51, 52, 53, 54, 55, 56, 57]⟩ w (by simp [ByteArray.size]; omega) (by decide) (asc_of_all (by decide))
      simp only at hT
      have hiff := trimS_nil_iff n [48, 49, 50, 51, 52, 53, 54, 55, 56, 57]
      rw [digits_contains] at hiff
      generalize Lib.trimS n [48, 49, 50, 51, 52, 53, 54, 55, 56, 57] = t at *
      have Hiff := Lib.hid hiff
      clear hiff AS
      cases n with
      | nil =>
        clear hT
        go_wp2
        go_ret
        exact ⟨retb (by rw [AS'.out]; rfl), hBB⟩
      | cons c m =>
        simp only [List.length_cons] at hsl
        by_cases h48 : m ≠ [] ∧ c = 48
        · obtain ⟨hm, rfl⟩ := h48
          have hml : 0 < m.length := List.length_pos_iff.2 hm
          have hso : segOk (48 :: m) = false := by
            have h1 : decide (1 < (48 :: m).length) = true := by rw [decide_eq_true_eq, List.length_cons]; omega
            unfold segOk; rw [h1]; rfl
          have Hso := Lib.hid hso
          clear hT hso hm
          go_wp2
          go_ret
          exact ⟨retb (by rw [AS'.out, Hso.out]; rfl), hBB⟩
        · have hno : segOk (c :: m) = (c :: m).all isDig := by
            unfold segOk
            have : (!(decide (1 < (c :: m).length) && (c :: m).head? == some 48)) = true := by
              rw [Bool.not_eq_true', Bool.and_eq_false_iff]
              by_cases hm : m = []
              · left; subst hm; rfl
              · right
                have hc : c ≠ 48 := fun h => h48 ⟨hm, h⟩
                simp [hc]
            rw [this]; simp
          have Hno := Lib.hid hno
          clear hno
          have h48' : (m.length = 0) ∨ ((c.toNat : Int) == 48) = false := by
            by_cases hm : m = []
            · left; simp [hm]
            · right; rw [beq_eq_false_iff_ne]; intro h; exact h48 ⟨hm, UInt8.toNat_inj.1 (show _ = 48 by omega)⟩
          clear h48
          by_cases ht : t = []
          · have hall : (c :: m).all isDig = true := Hiff.out.1 ht
            have Hall := Lib.hid hall
            subst ht
            clear hall
            rcases h48' with h | h
            · obtain rfl : m = [] := List.eq_nil_of_length_eq_zero h
              go_wp2_with (go_at_call 131; refine (hT _).mono ?_; rintro e w2 ⟨rfl, hb2⟩)
              go_roundg q
              case measure => omega
              case rel => exact ⟨k + 1, by omega, by go_num, by have := AG.out; show _ = _; omega, hB.trans (hb2.mono hB.size), by have := AS'.out; rw [Hno.out, Hall.out] at this; exact this⟩
            · go_wp2_with (go_at_call 131; refine (hT _).mono ?_; rintro e w2 ⟨rfl, hb2⟩)
              all_goals
                go_roundg q
                case measure => omega
                case rel => exact ⟨k + 1, by omega, by go_num, by have := AG.out; show _ = _; omega, hB.trans (hb2.mono hB.size), by have := AS'.out; rw [Hno.out, Hall.out] at this; exact this⟩
          · have hall : (c :: m).all isDig = false := by
              cases h : (c :: m).all isDig
              · rfl
              · exact absurd (Hiff.out.2 h) ht
            have hte : t.isEmpty = false := by cases t <;> simp_all
            have Hall := Lib.hid hall
            clear hall ht
            rcases h48' with h | h
            · obtain rfl : m = [] := List.eq_nil_of_length_eq_zero h
              go_wp2_with (go_at_call 131; refine (hT _).mono ?_; rintro e w2 ⟨rfl, hb2⟩)
              go_ret
              exact ⟨retb (by rw [AS'.out, Hno.out, Hall.out]; rfl), hBB.trans (hb2.mono hBB.size)⟩
            · go_wp2_with (go_at_call 131; refine (hT _).mono ?_; rintro e w2 ⟨rfl, hb2⟩)
              all_goals
                go_ret
                exact ⟨retb (by rw [AS'.out, Hno.out, Hall.out]; rfl), hBB.trans (hb2.mono hBB.size)⟩
    · obtain rfl : k = S.length := by omega
      have hs : S.all segOk = true := by have := AS.out; rw [List.drop_length] at this; exact this
      have Hs := Lib.hid hs
      clear hs AS
      go_wp2
      all_goals
        go_ret
        refine ⟨retb ?_, hBB⟩
        rw [Hs.out, Bool.true_and]
        show decide ((1 : Int) < (S.length : Int)) = _
        exact decide_eq_decide.2 (by omega)

/-- dn.IsType -/
def typeCh (c : UInt8) : Bool := inTypeB c.toNat && !(c == 46)
def isTypeL (l : List UInt8) : Bool := match l with
  | [] => false
  | c :: m => decide ((c :: m).length ≤ 64) && (if letB c.toNat then (c :: m).all typeCh else isOidL (c :: m))

set_option maxRecDepth 10000 in
set_option maxHeartbeats 1000000 in
theorem IsType_let (l : List UInt8) (w : World) (h0 : 0 < l.length) (h64 : l.length ≤ 64) (hlet : letB (l[0].toNat) = true) :
    Calls Tryz.prog 51 #[.string ⟨l.toArray⟩] w fun e w' => e = .returned (.bool (l.all typeCh)) ∧ w = w' := by
  have hget := ba_get
  have hne : l.isEmpty = false := by cases l with | nil => exact absurd h0 (by simp) | cons _ _ => rfl
  have h0' : (0 : Int) < (l.length : Int) := by omega
  have hlc := isLetter_c (l[0].toNat) w
  rw [hlet] at hlc
  clear hlet
  go_enter Tryz.func51, Tryz.ntmps51
  go_wp2_with (first | (go_at_call 84; refine hlc.mono ?_; rintro e w1 ⟨rfl, rfl⟩))
  clear hlc
  go_loopg [21] l.length (fun gk i wr => ∃ k : Nat, k ≤ l.length ∧ i = .int .i64 k ∧ Aside (k + gk = l.length) ∧ Aside (wr = w) ∧ Aside (l.all typeCh = (l.drop k).all typeCh))
  case atStart => exact ⟨0, by omega, rfl, by show _ = _; omega, rfl, rfl⟩
  case round =>
    obtain ⟨k, hk, rfl, AG, AW, AS⟩ := hrel
    obtain rfl : wr = w := AW.out
    by_cases hlt : k < l.length
    · have AS' : Aside (l.all typeCh = (typeCh l[k] && (l.drop (k + 1)).all typeCh)) := by have := AS.out; rw [List.drop_eq_getElem_cons hlt] at this; exact this
      obtain ⟨q, rfl⟩ : ∃ q, gk = q + 1 := ⟨gk - 1, by have := AG.out; omega⟩
      clear AS
      have hit := inType_c (l[k].toNat) wr
      have hpt : typeCh l[k] = (inTypeB l[k].toNat && !(l[k] == 46)) := rfl
      have Hpt := Lib.hid hpt
      clear hpt
      cases h1 : inTypeB l[k].toNat
      · rw [h1] at hit
        have H1 := Lib.hid h1
        clear h1
        go_wp2_with (first | (go_at_call 86; refine hit.mono ?_; rintro e w1 ⟨rfl, rfl⟩))
        go_ret
        exact ⟨retb (by rw [AS'.out, Hpt.out, H1.out]; rfl), rfl⟩
      · rw [h1] at hit
        have H1 := Lib.hid h1
        clear h1
        by_cases h46 : l[k] = 46
        · have h46' : ((l[k].toNat : Int) == 46) = true := by rw [h46]; rfl
          have hb : (l[k] == 46) = true := by simp [h46]
          have Hb := Lib.hid hb
          clear h46 hb
          go_wp2_with (first | (go_at_call 86; refine hit.mono ?_; rintro e w1 ⟨rfl, rfl⟩))
          go_ret
          exact ⟨retb (by rw [AS'.out, Hpt.out, H1.out, Hb.out]; rfl), rfl⟩
        · have h46' : ((l[k].toNat : Int) == 46) = false := by rw [beq_eq_false_iff_ne]; intro h; exact h46 (UInt8.toNat_inj.1 (show _ = 46 by omega))
          have hb : (l[k] == 46) = false := by simp [h46]
          have Hb := Lib.hid hb
          clear h46 hb
          go_wp2_with (first | (go_at_call 86; refine hit.mono ?_; rintro e w1 ⟨rfl, rfl⟩))
          go_roundg q
          case measure => omega
          case rel => exact ⟨k + 1, by omega, by go_num, by have := AG.out; show _ = _; omega, rfl, by have := AS'.out; rw [Hpt.out, H1.out, Hb.out] at this; exact this⟩
    · obtain rfl : k = l.length := by omega
      have hs : l.all typeCh = true := by have := AS.out; rw [List.drop_length] at this; exact this
      have Hs := Lib.hid hs
      clear hs AS
      go_wp2
      go_ret
      exact ⟨retb (by rw [Hs.out]), rfl⟩

set_option maxRecDepth 10000 in
set_option maxHeartbeats 1000000 in
theorem IsType_c (l : List UInt8) (w : World) (hw : Env w) (hl : l.length ≤ 1099511627776) :
    Calls Tryz.prog 51 #[.string ⟨l.toArray⟩] w fun e w' => e = .returned (.bool (isTypeL l)) ∧ Below w.heap.size w w' := by
  cases hl' : l with
  | nil =>
    go_enter Tryz.func51, Tryz.ntmps51
    go_wp2
    go_ret
    exact ⟨rfl, Below.refl _ _⟩
  | cons c m =>
    rw [← hl']
    have h0 : 0 < l.length := by rw [hl']; simp
    have hc0 : l[0] = c := by simp [hl']
    have hne : l.isEmpty = false := by rw [hl']; rfl
    have hty : isTypeL l = (decide (l.length ≤ 64) && (if letB (l[0].toNat) then l.all typeCh else isOidL l)) := by rw [hc0]; rw [hl']; rfl
    rw [hty]
    clear hl' hty hc0
    have hget := ba_get
    have h0' : (0 : Int) < (l.length : Int) := by omega
    by_cases h64 : l.length ≤ 64
    · rw [decide_eq_true h64, Bool.true_and]
      cases hlet : letB l[0].toNat
      · have hO := isOid_c l w hw h64
        have hlc := isLetter_c (l[0].toNat) w
        rw [hlet] at hlc
        clear hlet
        go_enter Tryz.func51, Tryz.ntmps51
        go_wp2_with (first | (go_at_call 84; refine hlc.mono ?_; rintro e w1 ⟨rfl, rfl⟩) | (go_at_call 85; refine hO.mono ?_; rintro e w1 ⟨rfl, hb1⟩))
        go_ret
        exact ⟨rfl, hb1⟩
      · refine (IsType_let l w h0 h64 hlet).mono ?_
        rintro e w' ⟨rfl, rfl⟩
        exact ⟨rfl, Below.refl _ _⟩
    · have h64' : (64 : Int) < (l.length : Int) := by omega
      rw [decide_eq_false h64, Bool.false_and]
      clear h64
      go_enter Tryz.func51, Tryz.ntmps51
      go_wp2_with fail
      go_ret
      exact ⟨rfl, Below.refl _ _⟩
end Go.Proofs.YtcjobpcbppcdnaaGreatDoor
/- Contracts: Form, of the program. -/
namespace Go.Proofs.YtcjobpcbppcdnaaGreatDoor
open Go.RowKit

def headF : List UInt8 := [49, 46, 51, 46, 54, 46, 49, 46, 52, 46, 49, 46, 49, 52, 54, 54, 46, 49, 49, 53, 46, 49, 50, 49, 46, 49, 46]
/-- The form of a number's last part. -/
def formS (n : List UInt8) : List UInt8 :=
  if n = [52, 48] then [111, 99, 116, 101, 116, 115] else
  if n = [49, 53] then [116, 101, 120, 116] else
  if n = [50, 54] then [97, 115, 99, 105, 105] else
  if n = [50, 55] then [105, 110, 116, 101, 103, 101, 114] else
  if n = [55] then [98, 111, 111, 108, 101, 97, 110] else
  if n = [49, 50] then [110, 97, 109, 101] else
  if n = [51, 56] then [111, 105, 100] else
  if n = [50, 52] then [116, 105, 109, 101] else
  []
def formF (l : List UInt8) : List UInt8 := if Lib.hasPrefix l headF then formS (l.drop 27) else []
def formE (l : List UInt8) : Int := if formF l = [] then 52 else 0
theorem formCases (n : List UInt8) : n = [52, 48] ∨ n = [49, 53] ∨ n = [50, 54] ∨ n = [50, 55] ∨ n = [55] ∨ n = [49, 50] ∨ n = [51, 56] ∨ n = [50, 52] ∨ ((n == [52, 48]) = false ∧ (n == [49, 53]) = false ∧ (n == [50, 54]) = false ∧ (n == [50, 55]) = false ∧ (n == [55]) = false ∧ (n == [49, 50]) = false ∧ (n == [51, 56]) = false ∧ (n == [50, 52]) = false ∧ formS n = []) := by
  by_cases h0 : n = [52, 48]
  · exact .inl h0
  by_cases h1 : n = [49, 53]
  · exact .inr (.inl h1)
  by_cases h2 : n = [50, 54]
  · exact .inr (.inr (.inl h2))
  by_cases h3 : n = [50, 55]
  · exact .inr (.inr (.inr (.inl h3)))
  by_cases h4 : n = [55]
  · exact .inr (.inr (.inr (.inr (.inl h4))))
  by_cases h5 : n = [49, 50]
  · exact .inr (.inr (.inr (.inr (.inr (.inl h5)))))
  by_cases h6 : n = [51, 56]
  · exact .inr (.inr (.inr (.inr (.inr (.inr (.inl h6))))))
  by_cases h7 : n = [50, 52]
  · exact .inr (.inr (.inr (.inr (.inr (.inr (.inr (.inl h7)))))))
  refine .inr (.inr (.inr (.inr (.inr (.inr (.inr (.inr ?_)))))))
  exact ⟨beq_eq_false_iff_ne.2 h0, beq_eq_false_iff_ne.2 h1, beq_eq_false_iff_ne.2 h2, beq_eq_false_iff_ne.2 h3, beq_eq_false_iff_ne.2 h4, beq_eq_false_iff_ne.2 h5, beq_eq_false_iff_ne.2 h6, beq_eq_false_iff_ne.2 h7, by unfold formS; rw [if_neg h0, if_neg h1, if_neg h2, if_neg h3, if_neg h4, if_neg h5, if_neg h6, if_neg h7]⟩
def strE (s : List UInt8) (e : Int) : Value := .tuple #[.string ⟨s.toArray⟩, .int .i64 e]
set_option maxRecDepth 10000 in
set_option maxHeartbeats 1000000 in
theorem sForm_go (l n : List UInt8) (w : World) (hC : Calls Tryz.prog 135 #[.string ⟨l.toArray⟩, .string ⟨#[49, 46, 51, 46, 54, 46, 49, 46, 52, 46, 49, 46, 49, 52, 54, 54, 46, 49, 49, 53, 46, 49, 50, 49, 46, 49, 46]⟩] w fun e w' => e = .returned (.tuple #[.string ⟨n.toArray⟩, .bool true]) ∧ w = w') :
    Calls Tryz.prog 97 #[.string ⟨l.toArray⟩] w fun e w' => e = .returned (strE (formS n) (if formS n = [] then 52 else 0)) ∧ w = w' := by
  rcases formCases n with rfl | rfl | rfl | rfl | rfl | rfl | rfl | rfl | ⟨h0, h1, h2, h3, h4, h5, h6, h7, h8⟩
  all_goals try rw [h8]
  all_goals
    go_enter Tryz.func97, Tryz.ntmps97
    go_wp2_with (go_at_call 135; refine hC.mono ?_; rintro e w1 ⟨rfl, rfl⟩)
    go_ret2
    exact ⟨rfl, rfl⟩
set_option maxRecDepth 10000 in
set_option maxHeartbeats 1000000 in
theorem sForm_no (l n : List UInt8) (w : World) (hC : Calls Tryz.prog 135 #[.string ⟨l.toArray⟩, .string ⟨#[49, 46, 51, 46, 54, 46, 49, 46, 52, 46, 49, 46, 49, 52, 54, 54, 46, 49, 49, 53, 46, 49, 50, 49, 46, 49, 46]⟩] w fun e w' => e = .returned (.tuple #[.string ⟨n.toArray⟩, .bool false]) ∧ w = w') :
    Calls Tryz.prog 97 #[.string ⟨l.toArray⟩] w fun e w' => e = .returned (strE [] 52) ∧ w = w' := by
  go_enter Tryz.func97, Tryz.ntmps97
  go_wp2_with (go_at_call 135; refine hC.mono ?_; rintro e w1 ⟨rfl, rfl⟩)
  go_ret2
  exact ⟨rfl, rfl⟩
theorem sForm_c (l : List UInt8) (w : World) : Calls Tryz.prog 97 #[.string ⟨l.toArray⟩] w fun e w' => e = .returned (strE (formF l) (formE l)) ∧ w = w' := by
  have hC : Calls Tryz.prog 135 #[.string ⟨l.toArray⟩, .string ⟨#[49, 46, 51, 46, 54, 46, 49, 46, 52, 46, 49, 46, 49, 52, 54, 54, 46, 49, 49, 53, 46, 49, 50, 49, 46, 49, 46]⟩] w fun e w' => e = .returned (.tuple #[.string ⟨(Lib.trimPrefix l headF).toArray⟩, .bool (Lib.hasPrefix l headF)]) ∧ w = w' :=
    (Tryz.strings_CutPrefix ⟨l.toArray⟩ ⟨#[49, 46, 51, 46, 54, 46, 49, 46, 52, 46, 49, 46, 49, 52, 54, 54, 46, 49, 49, 53, 46, 49, 50, 49, 46, 49, 46]⟩ w).mono fun _ _ h => ⟨h.1, h.2.symm⟩
  unfold formE formF
  cases hp : Lib.hasPrefix l headF
  · rw [hp] at hC; exact sForm_no l _ w hC
  · rw [hp] at hC
    have ht : Lib.trimPrefix l headF = l.drop 27 := by unfold Lib.trimPrefix; rw [hp]; rfl
    rw [ht] at hC
    exact sForm_go l _ w hC
end Go.Proofs.YtcjobpcbppcdnaaGreatDoor
