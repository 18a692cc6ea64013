/- Contracts of small functions over bytes and characters. -/
import Derived.Test.YtgpecklibcgifaaGreatDoorProg
import Derived.WalkKit
import Derived.WalkSpells
import Derived.WalkLawsBesides
import Derived.Lib.Hide
import Derived.Test.YtgpecklibcgifaaGreatDoorShelf
import Derived.Lib.BufSteps
import Derived.Lib.OthersKept
import Derived.Lib.ValidLaws
import Derived.Lib.RuneBytes
import Derived.Deep.LoopGhost
import Derived.Lib.MapLaws
set_option linter.all false
namespace Go.Proofs.YtgpecklibcgifaaGreatDoor
open Go.RowKit

def letB (c : Int) : Bool := decide (97 ≤ c) && decide (c ≤ 122) || decide (65 ≤ c) && decide (c ≤ 90)
def digB (c : Int) : Bool := decide (48 ≤ c) && decide (c ≤ 57)
def inTypeB (c : Int) : Bool := letB c || digB c || c == 45 || c == 46

theorem retb {a b : Bool} (h : a = b) : Ending.returned (.bool a) = .returned (.bool b) := by rw [h]
theorem reti {k : IntKind} {a b : Int} (h : a = b) : Ending.returned (.int k a) = .returned (.int k b) := by rw [h]
theorem ba_get (l : List UInt8) (k : Nat) (h : k < (⟨l.toArray⟩ : ByteArray).size) : (⟨l.toArray⟩ : ByteArray)[k] = l[k]'(by simpa [ByteArray.size] using h) := rfl

set_option maxHeartbeats 400000 in
theorem isLetter_c (c : Int) (w : World) :
    Calls Tryz.prog 67 #[.int .u8 c] w fun e w' => e = .returned (.bool (letB c)) ∧ w = w' := by
  go_enter Tryz.func67, Tryz.ntmps67
  go_wp2
  all_goals (go_ret; refine ⟨retb ?_, rfl⟩; unfold letB; rw [Bool.eq_iff_iff]; simp; omega)
set_option maxHeartbeats 400000 in
theorem isDigit_c (c : Int) (w : World) :
    Calls Tryz.prog 118 #[.int .u8 c] w fun e w' => e = .returned (.bool (digB c)) ∧ w = w' := by
  go_enter Tryz.func118, Tryz.ntmps118
  go_wp2
  all_goals (go_ret; refine ⟨retb ?_, rfl⟩; unfold digB; rw [Bool.eq_iff_iff]; simp; omega)
set_option maxHeartbeats 400000 in
theorem inType_c (c : Int) (w : World) :
    Calls Tryz.prog 69 #[.int .u8 c] w fun e w' => e = .returned (.bool (inTypeB c)) ∧ w = w' := by
  cases h1 : letB c <;> cases h2 : digB c
  all_goals
    go_enter Tryz.func69, Tryz.ntmps69
    go_wp2_with (first | (go_at_call 67; refine (isLetter_c _ _).mono ?_; rintro e w' ⟨rfl, rfl⟩; rw [h1]) | (go_at_call 118; refine (isDigit_c _ _).mono ?_; rintro e w' ⟨rfl, rfl⟩; rw [h2]))
    all_goals (go_ret; refine ⟨retb ?_, rfl⟩; unfold inTypeB; simp [*])

def digitV (c : Int) : Int := if 48 ≤ c ∧ c ≤ 57 then c - 48 else if 97 ≤ c ∧ c ≤ 102 then c - 87 else if 65 ≤ c ∧ c ≤ 70 then c - 55 else -1
set_option maxHeartbeats 400000 in
theorem Digit_c (c : Int) (w : World) (h0 : 0 ≤ c) (h1 : c < 256) :
    Calls Tryz.prog 199 #[.int .u8 c] w fun e w' => e = .returned (.int .i64 (digitV c)) ∧ w = w' := by
  go_enter Tryz.func199, Tryz.ntmps199
  go_wp2
  all_goals (go_ret; refine ⟨reti ?_, rfl⟩; unfold digitV; repeat' split)
  all_goals (first | omega | (simp; omega))

def daysV (y m : Int) : Int := if m = 4 ∨ m = 6 ∨ m = 9 ∨ m = 11 then 30 else if m = 2 then (if y % 4 = 0 ∧ y % 100 ≠ 0 ∨ y % 400 = 0 then 29 else 28) else 31
set_option maxHeartbeats 400000 in
theorem days_c (y m : Int) (w : World) (h0 : 0 ≤ y) (h1 : y < 10000) :
    Calls Tryz.prog 71 #[.int .i64 y, .int .i64 m] w fun e w' => e = .returned (.int .i64 (daysV y m)) ∧ w = w' := by
  go_enter Tryz.func71, Tryz.ntmps71
  go_wp2
  all_goals (go_ret; refine ⟨reti ?_, rfl⟩; unfold daysV)
  all_goals (simp only [beq_iff_eq, beq_eq_false_iff_ne, bne_iff_ne, bne_eq_false_iff_eq, ne_eq] at *)
  all_goals (repeat' split)
  all_goals omega

def asciiL : List UInt8 → Bool
  | [] => true
  | c :: r => decide (c.toNat < 128) && asciiL r

set_option maxRecDepth 10000 in
set_option maxHeartbeats 400000 in
theorem isASCII_c (l : List UInt8) (w : World) (hl : l.length ≤ 1024) :
    Calls Tryz.prog 35 #[.string ⟨l.toArray⟩] w fun e w' => e = .returned (.bool (asciiL l)) ∧ w = w' := by
  have hget := ba_get
  go_enter Tryz.func35, Tryz.ntmps35
  go_wp2
  go_loop [6] (fun i => ∃ k : Nat, k ≤ l.length ∧ i = .int .i64 k ∧ Hid (asciiL l = asciiL (l.drop k))) (fun i => l.length - (intOf i).toNat)
  case atStart => exact ⟨0, Nat.zero_le _, rfl, Lib.hid rfl⟩
  case round =>
    obtain ⟨k, hk, rfl, HI⟩ := hrel
    by_cases hlt : k < l.length
    · by_cases hc : l[k].toNat < 128
      · have HI' : Hid (asciiL l = asciiL (l.drop (k+1))) := Lib.hid (by rw [HI.out, List.drop_eq_getElem_cons hlt]; simp [asciiL, hc])
        go_wp2
        go_round
        case rel => exact ⟨k + 1, by omega, by go_num, HI'⟩
        case measure => simp [intOf]; omega
      · go_wp2
        go_ret
        exact ⟨retb (by rw [HI.out, List.drop_eq_getElem_cons hlt]; simp [asciiL, hc]), rfl⟩
    · go_wp2
      go_ret
      exact ⟨retb (by rw [HI.out, List.drop_eq_nil_of_le (by omega)]; simp [asciiL]), rfl⟩
end Go.Proofs.YtgpecklibcgifaaGreatDoor
/- Contracts of package prep's functions on characters. -/
namespace Go.Proofs.YtgpecklibcgifaaGreatDoor
open Go.RowKit

def blankR (r : Int) : Prop := (9 ≤ r ∧ r ≤ 13) ∨ r = 0x85 ∨ r = 0xA0 ∨ r = 0x1680 ∨ (0x2000 ≤ r ∧ r ≤ 0x200A) ∨ r = 0x2028 ∨ r = 0x2029 ∨ r = 0x202F ∨ r = 0x205F ∨ r = 0x3000
instance (r : Int) : Decidable (blankR r) := by unfold blankR; infer_instance
def goesR (r : Int) : Prop := (0 ≤ r ∧ r < 32) ∨ (127 ≤ r ∧ r ≤ 0x9F) ∨ r = 0xAD ∨ r = 0x34F ∨ r = 0x1806 ∨ (0x180B ≤ r ∧ r ≤ 0x180E) ∨ (0x200B ≤ r ∧ r ≤ 0x200F) ∨ (0x202A ≤ r ∧ r ≤ 0x202E) ∨ (0x2060 ≤ r ∧ r ≤ 0x206F) ∨ (0xFE00 ≤ r ∧ r ≤ 0xFE0F) ∨ r = 0xFEFF ∨ (0xFFF9 ≤ r ∧ r ≤ 0xFFFC)
instance (r : Int) : Decidable (goesR r) := by unfold goesR; infer_instance
def refR (r : Int) : Prop := r < 0 ∨ (0xD800 ≤ r ∧ r ≤ 0xF8FF) ∨ (0xFFFD ≤ r ∧ r ≤ 0xFFFF) ∨ 0xF0000 ≤ r
instance (r : Int) : Decidable (refR r) := by unfold refR; infer_instance
def blankB (r : Int) : Bool := decide (blankR r)
def goesB (r : Int) : Bool := decide (goesR r)
def refB (r : Int) : Bool := decide (refR r)

set_option maxRecDepth 100000 in
set_option maxHeartbeats 1000000 in
theorem isBlank_c (r : Int) (w : World) :
    Calls Tryz.prog 141 #[.int .i32 r] w fun e w' => e = .returned (.bool (blankB r)) ∧ w = w' := by
  go_enter Tryz.func141, Tryz.ntmps141
  go_wp2
  all_goals (go_ret; refine ⟨retb ?_, rfl⟩; unfold blankB)
  all_goals (try simp only [beq_iff_eq, beq_eq_false_iff_ne, ne_eq] at *)
  all_goals (first | (refine (decide_eq_true ?_).symm; unfold blankR; omega) | (refine (decide_eq_false ?_).symm; unfold blankR; omega))
set_option maxRecDepth 100000 in
set_option maxHeartbeats 1000000 in
theorem goes_c (r : Int) (w : World) :
    Calls Tryz.prog 142 #[.int .i32 r] w fun e w' => e = .returned (.bool (goesB r)) ∧ w = w' := by
  go_enter Tryz.func142, Tryz.ntmps142
  go_wp2
  all_goals (go_ret; refine ⟨retb ?_, rfl⟩; unfold goesB)
  all_goals (try simp only [beq_iff_eq, beq_eq_false_iff_ne, ne_eq] at *)
  all_goals (first | (refine (decide_eq_true ?_).symm; unfold goesR; omega) | (refine (decide_eq_false ?_).symm; unfold goesR; omega))
set_option maxRecDepth 100000 in
set_option maxHeartbeats 1000000 in
theorem isRefused_c (r : Int) (w : World) :
    Calls Tryz.prog 143 #[.int .i32 r] w fun e w' => e = .returned (.bool (refB r)) ∧ w = w' := by
  go_enter Tryz.func143, Tryz.ntmps143
  go_wp2
  all_goals (go_ret; refine ⟨retb ?_, rfl⟩; unfold refB)
  all_goals (rw [Bool.eq_iff_iff]; simp only [Bool.or_eq_true, Bool.and_eq_true, decide_eq_true_eq, Bool.false_eq_true, Bool.true_eq_false, iff_true, false_iff, true_iff]; unfold refR; omega)

/-- What becomes of a character: (the new one, it stays, it is refused). -/
def mapR (r : Int) : Int × Bool × Bool := if blankR r then (32, true, false) else if goesR r then (0, false, false) else if refR r then (0, false, true) else (r, true, false)
set_option maxRecDepth 100000 in
set_option maxHeartbeats 1000000 in
theorem Map_c (r : Int) (w : World) :
    Calls Tryz.prog 100 #[.int .i32 r] w fun e w' => e = .returned (.tuple #[.int .i32 (mapR r).1, .bool (mapR r).2.1, .bool (mapR r).2.2]) ∧ w = w' := by
  cases h1 : blankB r <;> cases h2 : goesB r <;> cases h3 : refB r
  all_goals
    go_enter Tryz.func100, Tryz.ntmps100
    go_wp2_with (first | (go_at_call 141; refine (isBlank_c _ _).mono ?_; rintro e w' ⟨rfl, rfl⟩; rw [h1]) | (go_at_call 142; refine (goes_c _ _).mono ?_; rintro e w' ⟨rfl, rfl⟩; rw [h2]) | (go_at_call 143; refine (isRefused_c _ _).mono ?_; rintro e w' ⟨rfl, rfl⟩; rw [h3]))
    go_ret3
    refine ⟨?_, rfl⟩
    simp only [blankB, goesB, refB, decide_eq_true_eq, decide_eq_false_iff_not] at h1 h2 h3
    simp [mapR, h1, h2, h3]

def foldR (r : Int) : Int :=
  if (65 ≤ r ∧ r ≤ 90) ∨ (0xC0 ≤ r ∧ r ≤ 0xDE ∧ r ≠ 0xD7) ∨ (0x391 ≤ r ∧ r ≤ 0x3A9 ∧ r ≠ 0x3A2) ∨ (0x410 ≤ r ∧ r ≤ 0x42F) then r + 32
  else if 0x400 ≤ r ∧ r ≤ 0x40F then r + 80
  else if r = 0x1E9E then 0xDF
  else if ((0x100 ≤ r ∧ r ≤ 0x137) ∨ (0x14A ≤ r ∧ r ≤ 0x177)) ∧ r % 2 = 0 then r + 1
  else r
set_option maxRecDepth 100000 in
set_option maxHeartbeats 1000000 in
theorem Fold_c (r : Int) (w : World) (h0 : 0 ≤ r) (h1 : r ≤ 0x10FFFF) :
    Calls Tryz.prog 101 #[.int .i32 r] w fun e w' => e = .returned (.int .i32 (foldR r)) ∧ w = w' := by
  go_enter Tryz.func101, Tryz.ntmps101
  go_wp2
  all_goals (go_ret; refine ⟨reti ?_, rfl⟩)
  all_goals (try simp only [beq_iff_eq, beq_eq_false_iff_ne, bne_iff_ne, bne_eq_false_iff_eq, ne_eq] at *)
  all_goals (unfold foldR; repeat' split)
  all_goals omega
end Go.Proofs.YtgpecklibcgifaaGreatDoor
/- The base: the environment that the program's library reads, buffers of bytes, small facts. -/
namespace Go.Proofs.YtgpecklibcgifaaGreatDoor
open Go.RowKit

theorem cell_lt {w : World} {a : Addr} {v : Value} (h : w.cell? a = some v) : a.block < w.heap.size := by
  rcases Nat.lt_or_ge a.block w.heap.size with h' | h'
  · exact h'
  · simp [World.cell?, Array.getElem?_eq_none h'] at h

/-- What the library reads: the two tables of unicode/utf8, a number. -/
structure Env (w : World) : Prop where
  tabs : Lib.Utf8Tabs 1 2 w
  mx : ∃ m, w.cell? ⟨0, 0, none⟩ = some (.int .i64 m)

theorem Env.below {w w' : World} (h : Env w) {B : Nat} (hB : w.heap.size ≤ B) (hb : Below B w w') : Env w' := by
  obtain ⟨⟨h1, h2⟩, m, hm⟩ := h
  refine ⟨⟨fun c hc => ?_, fun i hi => ?_⟩, m, ?_⟩
  · rw [hb.cell (p := ⟨_, c, none⟩) (Nat.lt_of_lt_of_le (cell_lt (h1 c hc)) hB)]; exact h1 c hc
  · have := h2 i hi
    exact ⟨by rw [hb.cell (p := ⟨_, 2 * i, none⟩) (Nat.lt_of_lt_of_le (cell_lt this.1) hB)]; exact this.1, by rw [hb.cell (p := ⟨_, 2 * i + 1, none⟩) (Nat.lt_of_lt_of_le (cell_lt this.2) hB)]; exact this.2⟩
  · rw [hb.cell (p := ⟨_, 0, none⟩) (Nat.lt_of_lt_of_le (cell_lt hm) hB)]; exact hm
theorem Env.keep {w w' : World} (h : Env w) (hb : Below w.heap.size w w') : Env w' := h.below (Nat.le_refl _) hb

/-- A buffer of bytes that the call has made since W0. -/
def Buf (W0 w : World) (v : Value) (l : List UInt8) : Prop := Lib.OwnBuf W0.heap.size 5 v l.length (Lib.byteCells l) W0 w

theorem Buf.nil (w : World) : Buf w w (.slice none 0 0) [] := ⟨World.ownsRowF_nil _ _ _ _, Below.refl _ _, Nat.le_refl _⟩
theorem Buf.below {W0 w : World} {v : Value} {l : List UInt8} (h : Buf W0 w v l) : Below W0.heap.size W0 w := h.2.1
theorem Buf.le {W0 w : World} {v : Value} {l : List UInt8} (h : Buf W0 w v l) : W0.heap.size ≤ w.heap.size := h.2.2
theorem Buf.alloc {W0 w : World} {v : Value} {l : List UInt8} (h : Buf W0 w v l) (o : Obj) : Buf W0 (w.alloc o) v l := Lib.OwnBuf.alloc h o
theorem Buf.drewN {W0 w : World} {v : Value} {l : List UInt8} (h : Buf W0 w v l) (n : Nat) : Buf W0 (w.drewN n) v l := Lib.OwnBuf.drewN h n
/-- What leaves the heap as it is below its size, and only adds blocks. -/
theorem Buf.grow {W0 w w' : World} {v : Value} {l : List UInt8} (h : Buf W0 w v l) (hb : Below w.heap.size w w') : Buf W0 w' v l := by
  obtain ⟨ho, hB, hle⟩ := h
  refine ⟨ho.kept (row := none) ⟨hb.os, hb.tape, hb.output, hb.size, fun k hk _ => hb.block k hk⟩ ?_, hB.trans (hb.mono hle), Nat.le_trans hle hb.size⟩
  rcases hv : v.ownBlock with _ | g
  · exact .inl rfl
  · exact .inr (by simp)
theorem Buf.iterAt {W0 w : World} {v : Value} {l : List UInt8} (h : Buf W0 w v l) {k : Nat} {s : ByteArray} {p q : Nat} (hk : w.heap[k]? = some (.stringIter s p)) (hW : W0.heap.size ≤ k) : Buf W0 (w.iterAt k s q) v l := by
  obtain ⟨ho, hB, hle⟩ := h
  have hb : ∀ j, j ≠ k → (w.iterAt k s q).heap[j]? = w.heap[j]? := fun j hj => by simp [World.iterAt, Array.getElem?_setIfInBounds, Ne.symm hj]
  have hsz : (w.iterAt k s q).heap.size = w.heap.size := by simp [World.iterAt]
  refine ⟨?_, hB.trans ⟨rfl, rfl, rfl, by omega, fun j hj => hb j (by omega)⟩, by omega⟩
  obtain ⟨h1, h2⟩ := ho
  refine ⟨h1, h2.imp id ?_⟩
  rintro ⟨g, cap, cur, fz, r1, r2, r3, r4⟩
  refine ⟨g, cap, cur, fz, r1, r2, ?_, r4⟩
  rw [hb g (by rintro rfl; rw [hk] at r3; cases r3)]; exact r3

section
variable {ops : Array Oper} {rest : List Oper} {o : Oper} {a : Act} {Q : Exit → Act → World → Prop}
theorem infoByte : ∃ i, Tryz.prog.info? 5 = some i ∧ i.zero = some (.int .u8 0) ∧ i.size = 1 ∧ i.bytes = 1 := by
  obtain ⟨i, h1, h2, h3, h4⟩ := info_parts (show (Tryz.prog.info? 5).map (fun i => (i.zero, i.size, i.bytes)) = some (some (.int .u8 0), 1, 1) by kernel_rfl)
  exact ⟨i, h1, h2, h3, h4⟩
/-- 'buf = append(buf, c)'. -/
theorem buf_byte (hgd : o.guard = none) (s x : Operand) (ho : o.op = .call { callee := .builtin .append, args := #[s, x], argTypes := #[88, 88] })
    {v : Value} {l : List UInt8} {W0 w0 : World} {c : UInt8} (hs : a.eval s = v) (hb : Buf W0 w0 v l)
    (hx : a.eval x = .slice (some ⟨w0.heap.size, 0, none⟩) 1 1) (hlen : l.length < 140737488355328)
    (h : ∀ v' w', Buf W0 w' v' (l ++ [c]) → w0.grownBy w' v.ownBlock → wpList Tryz.prog ops Q rest (a.put o.dst v') w') : wpList Tryz.prog ops Q (o :: rest) a (w0.alloc (.cells #[.int .u8 c.toNat] 5)) := by
  obtain ⟨i, h1, h2, h3, h4⟩ := infoByte
  have hb' := Lib.OwnBuf.alloc hb (.cells #[.int .u8 c.toNat] 5)
  refine wpList_append_ownF _ hgd s x 88 ho W0.heap.size 5 i (.int .u8 0) 1 1 Tryz.underlying88 h1 h2 h3 h4 rfl (by decide) v _ _ hs hb'.1 ⟨w0.heap.size, 0, none⟩ 1 1 [.int .u8 c.toNat] hx rfl ?_ ?_ (by unfold maxLen; omega) (by omega) hb'.2.2 ?_
  · intro j u hj
    match j, hj with
    | 0, hj => simp at hj; subst hj; simp [Addr.add]
    | (j + 1), hj => simp at hj
  · intro u hu; simp at hu; subst hu; rfl
  · intro v' w' ho' hg _
    refine h v' w' ?_ (World.grownBy.trans (World.grownBy_alloc _ _ _) hg)
    have hv := hb'.grown ho' hg
    unfold Buf
    simpa [Lib.byteCells] using hv
/-- 'make([]byte, 0, n)'. -/
theorem buf_make {w : World} (hgd : o.guard = none) (l c : Operand) (ho : o.op = Op.makeSlice 88 l c) (n : Nat) (C : Int) (hl : a.eval l = .int .i64 0) (hc : a.eval c = .int .i64 C) (hC : C = (n : Int)) (hn : n ≤ 140737488355328)
    (h : ∀ w', Buf w w' (.slice (some ⟨w.heap.size, 0, none⟩) 0 n) [] → wpList Tryz.prog ops Q rest (a.put o.dst (.slice (some ⟨w.heap.size, 0, none⟩) 0 n)) w') : wpList Tryz.prog ops Q (o :: rest) a w := by
  obtain ⟨i, h1, h2, h3, h4⟩ := infoByte
  refine wpList_make_own w hgd l c 88 ho w.heap.size 5 i (.int .u8 0) 1 Tryz.underlying88 h1 h2 h3 .i64 .i64 C n hl hc hC (by rw [h4]; omega) (by unfold maxLen; omega) (Nat.le_refl _) ?_
  intro w' ho' hg
  exact h w' ⟨World.ownsRowF_of ho', (Below.refl _ _).grown hg (Nat.le_refl _) (fun k hk => by cases hk), hg.size⟩
/-- 'buf = append(buf, s...)', s a string. -/
theorem buf_text {w : World} (hgd : o.guard = none) (sl x : Operand) (ho : o.op = .call { callee := .builtin .append, args := #[sl, x], argTypes := #[88, 9] })
    {v : Value} {l m : List UInt8} {W0 : World} (hs : a.eval sl = v) (hb : Buf W0 w v l)
    (hx : a.eval x = .string ⟨m.toArray⟩) (hlen : l.length + m.length ≤ 140737488355328)
    (h : ∀ v' w', Buf W0 w' v' (l ++ m) → w.grownBy w' v.ownBlock → wpList Tryz.prog ops Q rest (a.put o.dst v') w') : wpList Tryz.prog ops Q (o :: rest) a w := by
  obtain ⟨i, h1, h2, h3, h4⟩ := infoByte
  have hsz : (⟨m.toArray⟩ : ByteArray).size = m.length := by simp [ByteArray.size]
  refine Lib.wpList_append_own_stringF w hgd sl x 88 9 ho W0.heap.size 5 i Tryz.underlying88 Tryz.underlying9 h1 h2 h3 h4 v _ _ hs hb.1 ⟨m.toArray⟩ hx (by rw [hsz]; unfold maxLen; omega) (by rw [hsz]; exact hlen) hb.2.2 ?_
  intro v' w' ho' hg _
  refine h v' w' ?_ hg
  have hv := Lib.OwnBuf.grown hb ho' hg
  unfold Buf
  simpa [Lib.byteCells, Lib.strCells, ByteArray.size] using hv
end
/-- A block that is no row of bytes stays behind an append. -/
theorem Buf.other {W0 w w' : World} {v : Value} {l : List UInt8} {k : Nat} {o : Obj} (h : Buf W0 w v l) (hg : w.grownBy w' v.ownBlock) (hk : w.heap[k]? = some o) (ho : ∀ c f, o ≠ .cells c 5 f) : w'.heap[k]? = some o := by
  rw [hg.block k ((Array.getElem?_eq_some_iff.1 hk).1)]
  · exact hk
  · obtain ⟨⟨h1, h2⟩, _⟩ := h
    rcases h2 with ⟨rfl, hn⟩ | ⟨g, cap, cur, fz, rfl, r2, r3, r4, r5, r6, r7, r8⟩
    · simp [Value.ownBlock]
    · intro e
      obtain rfl : k = g := by simpa [Value.ownBlock] using e
      rw [hk] at r3
      exact ho _ _ (Option.some.inj r3)
/-- 'string(buf)'. -/
theorem row_string {B : Nat} {w : World} {v : Value} {l : List UInt8} (h : w.ownsRowF B 5 1 v l.length (Lib.byteCells l)) : (convert 88 9 v).run Tryz.prog w = .ok (.string ⟨l.toArray⟩) w := by
  obtain ⟨h1, h2⟩ := h
  rcases h2 with ⟨rfl, hn⟩ | ⟨g, cap, cur, fz, rfl, r2, r3, r4, r5, r6, r7, r8⟩
  · obtain rfl : l = [] := List.eq_nil_of_length_eq_zero hn
    rw [run_convert_bytes_nil (w := w) (P := Tryz.prog) 88 5 Tryz.underlying88 Tryz.underlying5 0 0 9 Tryz.underlying9]
    rfl
  · refine run_convert_bytes_back w 88 9 5 ⟨g, 0, none⟩ cap l Tryz.underlying88 Tryz.underlying5 Tryz.underlying9 ?_
    intro j hj
    have hadd : (⟨g, 0, none⟩ : Addr).add j = ⟨g, j, none⟩ := by unfold Addr.add; split <;> simp_all
    rw [hadd]
    simp only [World.cell?, r3]
    have : (cur.toList.take (l.length * 1))[j]? = some (.int .u8 l[j].toNat) := by rw [r8]; simp [Lib.byteCells, hj]
    rw [List.getElem?_take] at this
    simpa [hj] using this
theorem buf_string {W0 w : World} {v : Value} {l : List UInt8} (h : Buf W0 w v l) : (convert 88 9 v).run Tryz.prog w = .ok (.string ⟨l.toArray⟩) w := row_string h.1
/-- A cell of the buffer. -/
theorem row_cell {B : Nat} {w : World} {v : Value} {l : List UInt8} (h : w.ownsRowF B 5 1 v l.length (Lib.byteCells l)) (hl : l ≠ []) : ∃ g cap, v = .slice (some ⟨g, 0, none⟩) l.length cap ∧ l.length ≤ cap ∧ B ≤ g ∧ g < w.heap.size ∧ ∀ j (hj : j < l.length), w.cell? ⟨g, j, none⟩ = some (.int .u8 l[j].toNat) := by
  obtain ⟨h1, h2⟩ := h
  rcases h2 with ⟨rfl, hn⟩ | ⟨g, cap, cur, fz, rfl, r2, r3, r4, r5, r6, r7, r8⟩
  · exact absurd (List.eq_nil_of_length_eq_zero hn) hl
  · refine ⟨g, cap, rfl, r5, r2, (Array.getElem?_eq_some_iff.1 r3).1, fun j hj => ?_⟩
    simp only [World.cell?, r3]
    have : (cur.toList.take (l.length * 1))[j]? = some (.int .u8 l[j].toNat) := by rw [r8]; simp [Lib.byteCells, hj]
    rw [List.getElem?_take] at this
    simpa [hj] using this
theorem Buf.cell {W0 w : World} {v : Value} {l : List UInt8} (h : Buf W0 w v l) (hl : l ≠ []) : ∃ g cap, v = .slice (some ⟨g, 0, none⟩) l.length cap ∧ l.length ≤ cap ∧ W0.heap.size ≤ g ∧ g < w.heap.size ∧ ∀ j (hj : j < l.length), w.cell? ⟨g, j, none⟩ = some (.int .u8 l[j].toNat) := row_cell h.1 hl
theorem row_len {B : Nat} {w : World} {v : Value} {l : List UInt8} (h : w.ownsRowF B 5 1 v l.length (Lib.byteCells l)) : ∃ A cap, v = .slice A l.length cap ∧ l.length ≤ cap := by
  obtain ⟨h1, h2⟩ := h
  rcases h2 with ⟨rfl, hn⟩ | ⟨g, cap, cur, fz, rfl, r2, r3, r4, r5, r6, r7, r8⟩
  · exact ⟨none, 0, by rw [hn], by omega⟩
  · exact ⟨_, cap, rfl, r5⟩
theorem Buf.len {W0 w : World} {v : Value} {l : List UInt8} (h : Buf W0 w v l) : ∃ A cap, v = .slice A l.length cap ∧ l.length ≤ cap := row_len h.1
end Go.Proofs.YtgpecklibcgifaaGreatDoor
/- Contracts: octet's texts and characters. -/
namespace Go.Proofs.YtgpecklibcgifaaGreatDoor
open Go.RowKit

def encR (r : Int) : List UInt8 := (Utf8.encode r).data.toList
theorem encR_mk (r : Int) : (⟨(encR r).toArray⟩ : ByteArray) = Utf8.encode r := rfl

set_option maxHeartbeats 400000 in
theorem PutRune_c (r : Int) (w : World) (hv : Lib.validRune r = true) :
    Calls Tryz.prog 102 #[.int .i32 r] w fun e w' => e = .returned (.tuple #[.string ⟨(encR r).toArray⟩, .int .i64 0]) ∧ w = w' := by
  go_enter Tryz.func102, Tryz.ntmps102
  go_wp2_with (go_at_call 144; refine (Tryz.utf8_ValidRune _ _).mono ?_; rintro e w' ⟨rfl, rfl⟩; rw [hv])
  go_ret2
  exact ⟨rfl, rfl⟩

set_option maxHeartbeats 400000 in
theorem Text_c (l : List UInt8) (w : World) (hw : Env w) (hl : l.length ≤ 9223372036854775807) :
    Calls Tryz.prog 99 #[.string ⟨l.toArray⟩] w fun e w' => e = .returned (.bool (Lib.validD l)) ∧ Below w.heap.size w w' := by
  have cV := Tryz.utf8_ValidString ⟨l.toArray⟩ w (by simpa [ByteArray.size] using hl) hw.tabs
  simp only at cV
  generalize Lib.validD l = V at cV ⊢
  go_enter Tryz.func99, Tryz.ntmps99
  go_wp2_with (go_at_call 140; refine cV.mono ?_; rintro e w' ⟨rfl, hb⟩)
  go_ret
  exact ⟨rfl, hb⟩

def cmpB (a b : List UInt8) : Int := Lib.compareBytes a b
set_option maxHeartbeats 400000 in
theorem Compare_c (a b : List UInt8) (w : World) :
    Calls Tryz.prog 33 #[.string ⟨a.toArray⟩, .string ⟨b.toArray⟩] w fun e w' => e = .returned (.int .i64 (cmpB a b)) ∧ w = w' := by
  have cV := Tryz.strings_Compare ⟨a.toArray⟩ ⟨b.toArray⟩ w
  simp only at cV
  unfold cmpB
  generalize Lib.compareBytes a b = V at cV ⊢
  go_enter Tryz.func33, Tryz.ntmps33
  go_wp2_with (go_at_call 60; refine cV.mono ?_; rintro e w' ⟨rfl, rfl⟩)
  go_ret
  exact ⟨rfl, rfl⟩

/-- The characters of a text. -/
def runesF : Nat → List UInt8 → List Int
  | 0, _ => []
  | _ + 1, [] => []
  | n + 1, b :: l => ((Lib.decodeL (b :: l)).1 : Int) :: runesF n ((b :: l).drop (Lib.decodeL (b :: l)).2)
def runes (l : List UInt8) : List Int := runesF l.length l

/-- One character put behind what is mapped already; none: it is refused. -/
def stepM (fold : Bool) (acc : List UInt8) (r : Int) : Option (List UInt8) :=
  if (mapR r).2.2 then none
  else if !(mapR r).2.1 then some acc
  else if (mapR r).1 = 32 ∧ acc.getLast? = some 32 then some acc
  else some (acc ++ encR (if fold then foldR (mapR r).1 else (mapR r).1))
def mapRunes (fold : Bool) : List Int → List UInt8 → Option (List UInt8)
  | [], acc => some acc
  | r :: rs, acc => (stepM fold acc r).bind (mapRunes fold rs)
/-- prep.mapped -/
def mappedL (l : List UInt8) (fold : Bool) : Option (List UInt8) := if Lib.validD l then mapRunes fold (runes l) [] else none

theorem decode_pos (l : List UInt8) (k : Nat) (hk : k < l.length) : Utf8.decode ⟨l.toArray⟩ k = Lib.decodeL (l.drop k) := by
  unfold Lib.decodeL
  rw [Lib.decode_at, Lib.decode_at]
  have hg : ∀ j, ((⟨l.toArray⟩ : ByteArray).get! (k + j)) = ((⟨(l.drop k).toArray⟩ : ByteArray).get! j) := by
    intro j
    simp [ByteArray.get!, Array.get!Internal, getElem!_def, List.getElem?_drop]
  have hs : (⟨l.toArray⟩ : ByteArray).size - k = (⟨(l.drop k).toArray⟩ : ByteArray).size - 0 := by simp [ByteArray.size]
  rw [hs, ← hg, ← hg, ← hg, ← hg]
  simp only [Nat.zero_add, Nat.add_zero]
end Go.Proofs.YtgpecklibcgifaaGreatDoor
/- Contracts: prep.mapped, prep.Prepare. -/
namespace Go.Proofs.YtgpecklibcgifaaGreatDoor
open Go.RowKit

/-- A text and OK, or "" and an error. -/
def strOr (err : Int) : Option (List UInt8) → Value
  | none => .tuple #[.string ⟨#[]⟩, .int .i64 err]
  | some m => .tuple #[.string ⟨m.toArray⟩, .int .i64 0]
theorem runesF_cons (n : Nat) (l : List UInt8) (h : l ≠ []) : runesF (n + 1) l = ((Lib.decodeL l).1 : Int) :: runesF n (l.drop (Lib.decodeL l).2) := by
  cases l with
  | nil => exact absurd rfl h
  | cons b l => rfl
theorem runesF_nil (n : Nat) : runesF n [] = [] := by cases n <;> rfl
theorem encR_len (r : Int) : 1 ≤ (encR r).length ∧ (encR r).length ≤ 4 := by
  unfold encR Utf8.encode
  dsimp only
  repeat' split
  all_goals simp
theorem decodeL_ok (l : List UInt8) (h : l ≠ []) : 1 ≤ (Lib.decodeL l).2 ∧ (Lib.decodeL l).2 ≤ l.length ∧ (Lib.decodeL l).1 ≤ 1114111 ∧ Lib.validRune ((Lib.decodeL l).1 : Int) = true := by
  refine ⟨?_, Lib.decodeL_le l h, ?_⟩
  all_goals
    rw [Lib.decodeL_N]
    have h0 : (l.getD 0 0).toNat < 256 := UInt8.toNat_lt _
    have h1 : (l.getD 1 0).toNat < 256 := UInt8.toNat_lt _
    have h2 : (l.getD 2 0).toNat < 256 := UInt8.toNat_lt _
    have h3 : (l.getD 3 0).toNat < 256 := UInt8.toNat_lt _
    generalize (l.getD 0 0).toNat = b0 at *
    generalize (l.getD 1 0).toNat = b1 at *
    generalize (l.getD 2 0).toNat = b2 at *
    generalize (l.getD 3 0).toNat = b3 at *
    rcases Lib.decodeN_shape l.length b0 b1 b2 b3 with ⟨c, e⟩ | ⟨c1, c2, c3, cv, e⟩ | ⟨c1, c2, c3, c4, cv, cs, e⟩ | ⟨c1, c2, c3, c4, c5, cv, cw, e⟩ | e
    all_goals rw [e]
    all_goals dsimp only
    all_goals first | omega | (refine ⟨by omega, ?_⟩; unfold Lib.validRune; simp; try omega)
theorem runesF_fuel : ∀ (n m : Nat) (l : List UInt8), l.length ≤ n → l.length ≤ m → runesF n l = runesF m l
  | 0, m, l, h, _ => by
    obtain rfl : l = [] := List.eq_nil_of_length_eq_zero (by omega)
    rw [runesF_nil, runesF_nil]
  | n + 1, 0, l, _, h => by
    obtain rfl : l = [] := List.eq_nil_of_length_eq_zero (by omega)
    rw [runesF_nil, runesF_nil]
  | n + 1, m + 1, l, hn, hm => by
    by_cases h : l = []
    · subst h; rw [runesF_nil, runesF_nil]
    · have := decodeL_ok l h
      rw [runesF_cons _ _ h, runesF_cons _ _ h, runesF_fuel n m _ (by simp; omega) (by simp; omega)]
theorem runes_step (l : List UInt8) (h : l ≠ []) : runes l = ((Lib.decodeL l).1 : Int) :: runes (l.drop (Lib.decodeL l).2) := by
  have := decodeL_ok l h
  have hp : 0 < l.length := List.length_pos_iff.2 h
  unfold runes
  rw [show l.length = (l.length - 1) + 1 by omega, runesF_cons _ _ h, runesF_fuel _ (l.drop (Lib.decodeL l).2).length _ (by simp; omega) (Nat.le_refl _)]
theorem mapR_rng (r : Int) (h0 : 0 ≤ r) (h1 : r ≤ 1114111) : 0 ≤ (mapR r).1 ∧ (mapR r).1 ≤ 1114111 ∧ ((mapR r).2.2 = false → (mapR r).2.1 = true → (mapR r).1 < 0xD800 ∨ 0xF8FF < (mapR r).1) := by
  unfold mapR
  repeat' split
  all_goals (simp only [Bool.false_eq_true, false_implies, implies_true, true_implies, and_true]; try omega)
  next h => unfold refR at h; omega
theorem foldR_rng (r : Int) (h0 : 0 ≤ r) (h1 : r ≤ 1114111) (h : r < 0xD800 ∨ 0xF8FF < r) : Lib.validRune (foldR r) = true ∧ Lib.validRune r = true := by
  unfold Lib.validRune foldR
  constructor
  · repeat' split
    all_goals (simp; try omega)
  · simp; try omega

set_option maxRecDepth 100000 in
set_option maxHeartbeats 1000000 in
theorem mapped_c (l : List UInt8) (fold : Bool) (w : World) (hw : Env w) (hl : l.length ≤ 1099511627776) :
    Calls Tryz.prog 61 #[.string ⟨l.toArray⟩, .bool fold] w fun e w' =>
      e = .returned (strOr 10 (mappedL l fold)) ∧ Below w.heap.size w w' := by
  unfold mappedL
  cases hv : Lib.validD l
  · go_enter Tryz.func61, Tryz.ntmps61
    go_wp2_with (go_at_call 99; refine (Text_c _ _ hw (by omega)).mono ?_; rintro e w1 ⟨rfl, hb1⟩; rw [hv])
    go_ret2
    exact ⟨rfl, hb1⟩
  · simp only [if_true]
    generalize hM : mapRunes fold (runes l) [] = M
    have HM := Lib.hid hM
    clear hM
    go_enter Tryz.func61, Tryz.ntmps61
    go_wp2_with (go_at_call 99; refine (Text_c _ _ hw (by omega)).mono ?_; rintro e w1 ⟨rfl, hb1⟩; rw [hv])
    clear hv
    go_loopg [6] l.length (fun gk v wr => ∃ (k : Nat) (acc : List UInt8), k ≤ l.length ∧ Aside (k + gk = l.length) ∧ Aside (wr.heap[w1.heap.size]? = some (.stringIter ⟨l.toArray⟩ k)) ∧ Buf w wr v acc ∧ acc.length ≤ 4 * k ∧ Aside (mapRunes fold (runes (l.drop k)) acc = M))
    case atStart =>
      refine ⟨0, [], Nat.zero_le _, Nat.zero_add _, World.iter_heap _ _ _, ?_, by simp, HM.out⟩
      exact ((Buf.nil w).grow hb1).alloc _
    case round =>
      obtain ⟨k, acc, hk, AG, AI, hbuf, hacc, AM⟩ := hrel
      have hlk : w.heap.size ≤ w1.heap.size := hb1.size
      by_cases hlt : k < l.length
      · have hne : l.drop k ≠ [] := by intro h; have := congrArg List.length h; simp at this; omega
        obtain ⟨hn1, hn2, hr1, hr2⟩ := decodeL_ok _ hne
        have hd := decode_pos l k hlt
        have hnx := fun ty => Lib.run_next_any_at (P := Tryz.prog) wr w1.heap.size ⟨l.toArray⟩ k ty AI.out hlt
        rw [hd] at hnx
        have AM' : Aside (mapRunes fold (((Lib.decodeL (l.drop k)).1 : Int) :: runes (l.drop (k + (Lib.decodeL (l.drop k)).2))) acc = M) := by
          have := AM.out
          rw [runes_step _ hne, List.drop_drop] at this
          exact this
        have hbuf' := hbuf.iterAt (q := k + (Lib.decodeL (l.drop k)).2) AI.out hlk
        have AI' : Aside ((wr.iterAt w1.heap.size ⟨l.toArray⟩ (k + (Lib.decodeL (l.drop k)).2)).heap[w1.heap.size]? = some (.stringIter ⟨l.toArray⟩ (k + (Lib.decodeL (l.drop k)).2))) := Lib.iterAt_heap _ _ _ _ _ AI.out
        simp only [List.length_drop] at hn2
        clear hd hne AM AI
        generalize (Lib.decodeL (l.drop k)).2 = n at *
        generalize hr : (((Lib.decodeL (l.drop k)).1 : Nat) : Int) = r at *
        generalize (Lib.decodeL (l.drop k)).1 = rn at *
        obtain ⟨hm0, hm1, hm2⟩ := mapR_rng r (by omega) (by omega)
        clear hr
        generalize hW : wr.iterAt w1.heap.size ⟨l.toArray⟩ (k + n) = W at *
        clear hW
        have hcM := Map_c r W
        obtain ⟨x, st, rf, hmr⟩ : ∃ x st rf, mapR r = (x, st, rf) := ⟨_, _, _, rfl⟩
        rw [hmr] at hcM hm0 hm1 hm2
        have AS : Aside (((if rf then none else if !st then some acc else if x = 32 ∧ acc.getLast? = some 32 then some acc else some (acc ++ encR (if fold then foldR x else x))) : Option (List UInt8)).bind (mapRunes fold (runes (l.drop (k + n)))) = M) := by
          have := AM'.out
          rw [mapRunes, stepM, hmr] at this
          exact this
        have AGn : Aside (k + n + (gk - n) = l.length) := by have := AG.out; show _ = _; omega
        have hgk : n ≤ gk := by have := AG.out; omega
        have hkn : k + n ≤ l.length := by omega
        have hB := hbuf'.below
        clear hmr AM' AG hbuf
        cases rf
        · cases st
          · go_wp2_with (go_at_call 100; refine hcM.mono ?_; rintro e w' ⟨rfl, rfl⟩)
            go_roundg (gk - n)
            case measure => omega
            case rel => exact ⟨k + n, acc, hkn, AGn, AI', hbuf', by omega, AS.out⟩
          · simp only [true_implies] at hm2
            by_cases hx : x = 32
            · subst hx
              have hfo := foldR_rng 32 hm0 hm1 hm2
              have hel := encR_len 32
              have hef := encR_len (foldR 32)
              by_cases hnil : acc = []
              · subst hnil
                have ASn : Aside (mapRunes fold (runes (l.drop (k + n))) ([] ++ encR (if fold then foldR 32 else 32)) = M) := by
                  have := AS.out
                  rw [if_neg (by simp), if_neg (by simp), if_neg (by simp)] at this
                  exact this
                obtain ⟨Ad, cap, rfl, hcap⟩ := hbuf'.len
                clear AS
                cases fold
                all_goals
                  go_wp2_with (first | (go_at_call 100; refine hcM.mono ?_; rintro e w' ⟨rfl, rfl⟩) | (go_at_call 101; refine (Fold_c _ _ hm0 hm1).mono ?_; rintro e w' ⟨rfl, rfl⟩) | (go_at_call 102; refine (PutRune_c _ _ (by first | exact hfo.1 | exact hfo.2)).mono ?_; rintro e w' ⟨rfl, rfl⟩) | (at_builtin; refine buf_text rfl _ _ rfl rfl hbuf' rfl (by first | (show 0 + (encR 32).length ≤ _; omega) | (show 0 + (encR (foldR 32)).length ≤ _; omega)) ?_; intro v' w' hbuf2 hg2))
                  go_roundg (gk - n)
                  case measure => omega
                  case rel => exact ⟨k + n, _, hkn, AGn, hbuf'.other hg2 AI'.out (by intro c f h; cases h), hbuf2, by simp; omega, ASn.out⟩
              · obtain ⟨g, cap, rfl, hcap, hg1, hg2, hcell⟩ := hbuf'.cell hnil
                have hpos : 0 < acc.length := List.length_pos_iff.2 hnil
                have hlast := hcell (acc.length - 1) (by omega)
                have hgl : acc.getLast? = some (acc[acc.length - 1]'(by omega)) := by rw [List.getLast?_eq_getElem?, List.getElem?_eq_getElem]
                have hac : ((acc.length : Int) - 1).toNat = acc.length - 1 := by omega
                clear hcell hnil
                by_cases h32 : acc[acc.length - 1]'(by omega) = 32
                · have ASn : Aside (mapRunes fold (runes (l.drop (k + n))) acc = M) := by
                    have := AS.out
                    rw [if_neg (by simp), if_neg (by simp), if_pos ⟨rfl, by rw [hgl, h32]⟩] at this
                    exact this
                  rw [h32] at hlast
                  clear AS hgl h32
                  go_wp2_with (first | (go_at_call 100; refine hcM.mono ?_; rintro e w' ⟨rfl, rfl⟩))
                  go_roundg (gk - n)
                  case measure => omega
                  case rel => exact ⟨k + n, _, hkn, AGn, AI'.out, hbuf', by omega, ASn.out⟩
                · have ASn : Aside (mapRunes fold (runes (l.drop (k + n))) (acc ++ encR (if fold then foldR 32 else 32)) = M) := by
                    have := AS.out
                    rw [if_neg (by simp), if_neg (by simp), if_neg (by rw [hgl]; simp [h32])] at this
                    exact this
                  have hneq : ((acc[acc.length - 1]'(by omega)).toNat : Int) ≠ 32 := by
                    intro h; exact h32 (UInt8.toNat_inj.1 (show _ = 32 by omega))
                  generalize ((acc[acc.length - 1]'(by omega)).toNat : Int) = cl at hlast hneq
                  have hcl : (cl == 32) = false := by simp [hneq]
                  clear AS hgl h32 hneq
                  cases fold
                  all_goals
                    go_wp2_with (first | (go_at_call 100; refine hcM.mono ?_; rintro e w' ⟨rfl, rfl⟩) | (go_at_call 101; refine (Fold_c _ _ hm0 hm1).mono ?_; rintro e w' ⟨rfl, rfl⟩) | (go_at_call 102; refine (PutRune_c _ _ (by first | exact hfo.1 | exact hfo.2)).mono ?_; rintro e w' ⟨rfl, rfl⟩) | (at_builtin; refine buf_text rfl _ _ rfl rfl hbuf' rfl (by first | (show acc.length + (encR 32).length ≤ _; omega) | (show acc.length + (encR (foldR 32)).length ≤ _; omega)) ?_; intro v' w' hbuf2 hg2))
                    go_roundg (gk - n)
                    case measure => omega
                    case rel => exact ⟨k + n, _, hkn, AGn, hbuf'.other hg2 AI'.out (by intro c f h; cases h), hbuf2, by simp; omega, ASn.out⟩
            · have hx1 : (x == 32) = false := by simp [hx]
              have hfo := foldR_rng x hm0 hm1 hm2
              have ASn : Aside (mapRunes fold (runes (l.drop (k + n))) (acc ++ encR (if fold then foldR x else x)) = M) := by
                have := AS.out
                rw [if_neg (by simp), if_neg (by simp), if_neg (by simp [hx])] at this
                exact this
              clear AS
              cases fold
              · have hel := encR_len x
                go_wp2_with (first | (go_at_call 100; refine hcM.mono ?_; rintro e w' ⟨rfl, rfl⟩) | (go_at_call 102; refine (PutRune_c _ _ hfo.2).mono ?_; rintro e w' ⟨rfl, rfl⟩) | (at_builtin; refine buf_text rfl _ _ rfl rfl hbuf' rfl (show acc.length + (encR x).length ≤ _ by omega) ?_; intro v' w' hbuf2 hg2))
                go_roundg (gk - n)
                case measure => omega
                case rel => exact ⟨k + n, _, hkn, AGn, hbuf'.other hg2 AI'.out (by intro c f h; cases h), hbuf2, by simp; omega, ASn.out⟩
              · have hel := encR_len (foldR x)
                go_wp2_with (first | (go_at_call 100; refine hcM.mono ?_; rintro e w' ⟨rfl, rfl⟩) | (go_at_call 101; refine (Fold_c _ _ hm0 hm1).mono ?_; rintro e w' ⟨rfl, rfl⟩) | (go_at_call 102; refine (PutRune_c _ _ hfo.1).mono ?_; rintro e w' ⟨rfl, rfl⟩) | (at_builtin; refine buf_text rfl _ _ rfl rfl hbuf' rfl (show acc.length + (encR (foldR x)).length ≤ _ by omega) ?_; intro v' w' hbuf2 hg2))
                go_roundg (gk - n)
                case measure => omega
                case rel => exact ⟨k + n, _, hkn, AGn, hbuf'.other hg2 AI'.out (by intro c f h; cases h), hbuf2, by simp; omega, ASn.out⟩
        · obtain rfl : none = M := AS.out
          go_wp2_with (go_at_call 100; refine hcM.mono ?_; rintro e w' ⟨rfl, rfl⟩)
          go_ret2
          exact ⟨rfl, hB⟩
      · obtain rfl : k = l.length := by omega
        obtain rfl : some acc = M := by have := AM.out; rw [List.drop_length] at this; exact this
        have hnx := fun ty => Lib.run_next_end_at (P := Tryz.prog) wr w1.heap.size ⟨l.toArray⟩ l.length ty AI.out (by simp [ByteArray.size])
        have hst := buf_string hbuf
        have hB := hbuf.below
        clear AM hbuf AI
        go_wp2
        go_ret2
        exact ⟨rfl, hB⟩
end Go.Proofs.YtgpecklibcgifaaGreatDoor
/- Contracts: prep.Prepare. -/
namespace Go.Proofs.YtgpecklibcgifaaGreatDoor
open Go.RowKit

/-- prep.Prepare -/
def prepL (l : List UInt8) (fold : Bool) : Option (List UInt8) :=
  match mappedL l fold with
  | none => none
  | some t => if Lib.trimB t 32 = [] ∧ l ≠ [] then some [32] else some (Lib.trimB t 32)
theorem below_or {w w' : World} (h : w' = w ∨ w' = w.drew) : Below w.heap.size w w' := by
  rcases h with rfl | rfl
  · exact Below.refl _ _
  · exact (Below.refl _ _).drew

theorem encLen (r : List Int) (fold : Bool) : ∀ acc m, mapRunes fold r acc = some m → m.length ≤ acc.length + 4 * r.length := by
  induction r with
  | nil => intro acc m h; cases h; simp
  | cons x r ih =>
    intro acc m h
    rw [mapRunes] at h
    obtain ⟨a1, h1, h2⟩ := Option.bind_eq_some_iff.1 h
    have := ih _ _ h2
    have hl : a1.length ≤ acc.length + 4 := by
      unfold stepM at h1
      split at h1
      · cases h1
      · split at h1
        · cases h1; omega
        · split at h1
          · cases h1; omega
          · cases h1
            simp only [List.length_append]
            have := (encR_len (if fold then foldR (mapR x).1 else (mapR x).1)).2
            omega
    simp; omega
theorem runesF_len : ∀ (n : Nat) (l : List UInt8), (runesF n l).length ≤ n
  | 0, _ => by simp [runesF]
  | n + 1, [] => by simp [runesF]
  | n + 1, b :: l => by simp [runesF]; exact runesF_len n _
theorem mappedL_len {l m : List UInt8} {fold : Bool} (h : mappedL l fold = some m) : m.length ≤ 4 * l.length := by
  unfold mappedL at h
  split at h
  · have := encLen _ _ _ _ h
    have h2 := runesF_len l.length l
    unfold runes at this
    simp at this; omega
  · cases h

set_option maxRecDepth 100000 in
set_option maxHeartbeats 1000000 in
theorem Prepare_c (l : List UInt8) (fold : Bool) (w : World) (hw : Env w) (hl : l.length ≤ 1099511627776) :
    Calls Tryz.prog 34 #[.string ⟨l.toArray⟩, .bool fold] w fun e w' =>
      e = .returned (strOr 10 (prepL l fold)) ∧ Below w.heap.size w w' := by
  have hc := mapped_c l fold w hw hl
  unfold prepL
  rcases hm : mappedL l fold with _ | t
  · rw [hm] at hc
    clear hm
    simp only [strOr] at hc ⊢
    go_enter Tryz.func34, Tryz.ntmps34
    go_wp2_with (go_at_call 61; refine hc.mono ?_; rintro e w1 ⟨rfl, hb1⟩)
    go_ret2
    exact ⟨rfl, hb1⟩
  · rw [hm] at hc
    have hlen := mappedL_len hm
    clear hm
    simp only [strOr] at hc
    dsimp only
    have hT := fun w => Tryz.strings_Trim_one ⟨t.toArray⟩ 32 (by decide) w (by simp [ByteArray.size]; omega)
    simp only at hT
    generalize Lib.trimB t 32 = t' at *
    by_cases h1 : t' = []
    · subst h1
      by_cases h2 : l = []
      · subst h2
        simp only [ne_eq, not_true, and_false, if_false]
        go_enter Tryz.func34, Tryz.ntmps34
        go_wp2_with (first | (go_at_call 61; refine hc.mono ?_; rintro e w1 ⟨rfl, hb1⟩) | (go_at_call 62; refine (hT _).mono ?_; rintro e w2 ⟨rfl, hb2⟩))
        go_ret2
        exact ⟨rfl, hb1.trans ((below_or hb2).mono hb1.size)⟩
      · have h3 : l.isEmpty = false := by cases l <;> simp_all
        rw [if_pos ⟨rfl, h2⟩]
        go_enter Tryz.func34, Tryz.ntmps34
        go_wp2_with (first | (go_at_call 61; refine hc.mono ?_; rintro e w1 ⟨rfl, hb1⟩) | (go_at_call 62; refine (hT _).mono ?_; rintro e w2 ⟨rfl, hb2⟩))
        go_ret2
        exact ⟨rfl, hb1.trans ((below_or hb2).mono hb1.size)⟩
    · have h3 : t'.isEmpty = false := by cases t' <;> simp_all
      rw [if_neg (fun h => h1 h.1)]
      go_enter Tryz.func34, Tryz.ntmps34
      go_wp2_with (first | (go_at_call 61; refine hc.mono ?_; rintro e w1 ⟨rfl, hb1⟩) | (go_at_call 62; refine (hT _).mono ?_; rintro e w2 ⟨rfl, hb2⟩))
      go_ret2
      exact ⟨rfl, hb1.trans ((below_or hb2).mono hb1.size)⟩
end Go.Proofs.YtgpecklibcgifaaGreatDoor
