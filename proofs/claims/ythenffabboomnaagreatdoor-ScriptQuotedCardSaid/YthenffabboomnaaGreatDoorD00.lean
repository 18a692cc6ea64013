import Derived.WalkKit
import Derived.WalkSpells
import Derived.WalkLawsBesides
import Derived.Lib.Hide
import Derived.Test.YthenffabboomnaaGreatDoorDsh
import Derived.Lib.BufSteps
import Derived.Lib.OthersKept
import Derived.Lib.ValidLaws
import Derived.Lib.RuneBytes
import Derived.Test.YthenffabboomnaaGreatDoorCards
import Derived.Test.YthenffabboomnaaGreatDoorTie
import Derived.ProofKit
import Derived.OpenShut
import Derived.Deep.DeepHandedRow
import Derived.Deep.DeepWitnessRowRef
import Derived.Lib.LaidTab
import Derived.Lib.LaidIn
import Derived.Lib.LaidU8T
import Derived.PinnedBridge
import Derived.Shelf.Vars
import Derived.Deep.LoopGhost
import Derived.Lib.MapLaws
import Derived.Deep.QuietTactic
import Derived.BigQuiet
import Derived.Lib.ConvBytes
import Derived.Deep.RegionHeld3
import Derived.Laws.EntriesVeiled
import Derived.Laws.AppendOwnNone
set_option linter.all false
set_option maxHeartbeats 8000000
set_option maxRecDepth 100000
namespace Go.Proofs.YthenffabboomnaaGreatDoor
open Go.RowKit
def letB (c : Int) : Bool := decide (97 ≤ c) && decide (c ≤ 122) || decide (65 ≤ c) && decide (c ≤ 90)
def digB (c : Int) : Bool := decide (48 ≤ c) && decide (c ≤ 57)
def inTypeB (c : Int) : Bool := letB c || digB c || c == 45 || c == 46
theorem gsx {α : Type} : (∀ (l : List α) (i : Nat) (h : i < l.toArray.size), l.toArray[i] = l[i]'h) ∧ (∀ (a : α) (l : List α) (h : 0 < (a :: l).length), (a :: l)[0] = a) ∧
  (∀ (a : α) (l : List α) (i : Nat) (h : i + 1 < (a :: l).length), (a :: l)[i + 1] = l[i]'(Nat.lt_of_succ_lt_succ h)) ∧ (∀ (l : List α) (i : Nat) (a : α), l.toArray.setIfInBounds i a = (l.set i a).toArray) ∧
  (∀ (a b : α) (l : List α), (a :: l).set 0 b = b :: l) ∧ (∀ (a b : α) (l : List α) (n : Nat), (a :: l).set (n + 1) b = a :: l.set n b) :=
 ⟨fun _ _ _ => List.getElem_toArray .., fun _ _ _ => List.getElem_cons_zero .., fun _ _ _ _ => List.getElem_cons_succ .., fun _ _ _ => List.setIfInBounds_toArray .., fun _ _ _ => List.set_cons_zero, fun _ _ _ _ => List.set_cons_succ⟩
theorem retb {a b : Bool} (h : a = b) : Ending.returned (.bool a) = .returned (.bool b) := by rw [h]
theorem reti {k : IntKind} {a b : Int} (h : a = b) : Ending.returned (.int k a) = .returned (.int k b) := by rw [h]
theorem ba_get (l : List UInt8) (k : Nat) (h : k < (⟨l.toArray⟩ : ByteArray).size) : (⟨l.toArray⟩ : ByteArray)[k] = l[k]'(by simpa [ByteArray.size] using h) := rfl
theorem isLetter_c (c : Int) (w : World) :
  Calls Tryz.prog 145 #[.int .u8 c] w fun e w' => e = .returned (.bool (letB c)) ∧ w = w' := by
 go_enter Tryz.func145, Tryz.ntmps145
 go_wp2
 all_goals (go_ret; refine ⟨retb ?_, rfl⟩; unfold letB; rw [Bool.eq_iff_iff]; simp; omega)
def digitV (c : Int) : Int := if 48 ≤ c ∧ c ≤ 57 then c - 48 else if 97 ≤ c ∧ c ≤ 102 then c - 87 else if 65 ≤ c ∧ c ≤ 70 then c - 55 else -1
theorem Digit_c (c : Int) (w : World) (h0 : 0 ≤ c) (h1 : c < 256) :
  Calls Tryz.prog 98 #[.int .u8 c] w fun e w' => e = .returned (.int .i64 (digitV c)) ∧ w = w' := by
 go_enter Tryz.func98, Tryz.ntmps98
 go_wp2
 all_goals (go_ret; refine ⟨reti ?_, rfl⟩; unfold digitV; repeat' split)
 all_goals (first | omega | (simp; omega))
open Go.RowKit
def blankR (r : Int) : Prop := (9 ≤ r ∧ r ≤ 13) ∨ r = 0x85 ∨ r = 0xA0 ∨ r = 0x1680 ∨ (0x2000 ≤ r ∧ r ≤ 0x200A) ∨ r = 0x2028 ∨ r = 0x2029 ∨ r = 0x202F ∨ r = 0x205F ∨ r = 0x3000
instance (r : Int) : Decidable (blankR r) := by unfold blankR; infer_instance
def goesR (r : Int) : Prop := (0 ≤ r ∧ r < 32) ∨ (127 ≤ r ∧ r ≤ 0x9F) ∨ r = 0xAD ∨ r = 0x34F ∨ r = 0x1806 ∨ (0x180B ≤ r ∧ r ≤ 0x180E) ∨ (0x200B ≤ r ∧ r ≤ 0x200F) ∨ (0x202A ≤ r ∧ r ≤ 0x202E) ∨ (0x2060 ≤ r ∧ r ≤ 0x206F) ∨ (0xFE00 ≤ r ∧ r ≤ 0xFE0F) ∨ r = 0xFEFF ∨ (0xFFF9 ≤ r ∧ r ≤ 0xFFFC)
instance (r : Int) : Decidable (goesR r) := by unfold goesR; infer_instance
def refR (r : Int) : Prop := r < 0 ∨ (0xD800 ≤ r ∧ r ≤ 0xF8FF) ∨ (0xFFFD ≤ r ∧ r ≤ 0xFFFF) ∨ 0xF0000 ≤ r
instance (r : Int) : Decidable (refR r) := by unfold refR; infer_instance
open Go.RowKit
theorem cell_lt {w : World} {a : Addr} {v : Value} (h : w.cell? a = some v) : a.block < w.heap.size := by
 rcases Nat.lt_or_ge a.block w.heap.size with h' | h'
 ·exact h'
 ·simp [World.cell?, Array.getElem?_eq_none h'] at h
structure Env (w : World) : Prop where
 tabs : Lib.Utf8Tabs 0 1 w
 mx : ∃ m, w.cell? ⟨2, 0, none⟩ = some (.int .i64 m)
theorem Env.below {w w' : World} (h : Env w) {B : Nat} (hB : w.heap.size ≤ B) (hb : Below B w w') : Env w' := by
 obtain ⟨⟨h1, h2⟩, m, hm⟩ := h
 refine ⟨⟨fun c hc => ?_, fun i hi => ?_⟩, m, ?_⟩
 ·rw [hb.cell (p := ⟨_, c, none⟩) (Nat.lt_of_lt_of_le (cell_lt (h1 c hc)) hB)]; exact h1 c hc
 ·have := h2 i hi
  exact ⟨by rw [hb.cell (p := ⟨_, 2 * i, none⟩) (Nat.lt_of_lt_of_le (cell_lt this.1) hB)]; exact this.1, by rw [hb.cell (p := ⟨_, 2 * i + 1, none⟩) (Nat.lt_of_lt_of_le (cell_lt this.2) hB)]; exact this.2⟩
 ·rw [hb.cell (p := ⟨_, 0, none⟩) (Nat.lt_of_lt_of_le (cell_lt hm) hB)]; exact hm
theorem Env.keep {w w' : World} (h : Env w) (hb : Below w.heap.size w w') : Env w' := h.below (Nat.le_refl _) hb
def Buf (W0 w : World) (v : Value) (l : List UInt8) : Prop := Lib.OwnBuf W0.heap.size 5 v l.length (Lib.byteCells l) W0 w
theorem Buf.nil (w : World) : Buf w w (.slice none 0 0) [] := ⟨World.ownsRowF_nil _ _ _ _, Below.refl _ _, Nat.le_refl _⟩
theorem Buf.below {W0 w : World} {v : Value} {l : List UInt8} (h : Buf W0 w v l) : Below W0.heap.size W0 w := h.2.1
theorem Buf.alloc {W0 w : World} {v : Value} {l : List UInt8} (h : Buf W0 w v l) (o : Obj) : Buf W0 (w.alloc o) v l := Lib.OwnBuf.alloc h o
theorem Buf.drewN {W0 w : World} {v : Value} {l : List UInt8} (h : Buf W0 w v l) (n : Nat) : Buf W0 (w.drewN n) v l := Lib.OwnBuf.drewN h n
theorem Buf.grow {W0 w w' : World} {v : Value} {l : List UInt8} (h : Buf W0 w v l) (hb : Below w.heap.size w w') : Buf W0 w' v l := by
 obtain ⟨ho, hB, hle⟩ := h
 refine ⟨ho.kept (row := none) ⟨hb.os, hb.tape, hb.output, hb.size, fun k hk _ => hb.block k hk⟩ ?_, hB.trans (hb.mono hle), Nat.le_trans hle hb.size⟩
 rcases hv : v.ownBlock with _ | g
 ·exact .inl rfl
 ·exact .inr (by simp)
theorem Buf.iterAt {W0 w : World} {v : Value} {l : List UInt8} (h : Buf W0 w v l) {k : Nat} {s : ByteArray} {p q : Nat} (hk : w.heap[k]? = some (.stringIter s p)) (hW : W0.heap.size ≤ k) : Buf W0 (w.iterAt k s q) v l := by
 obtain ⟨ho, hB, hle⟩ := h
 have hb : ∀ j, j ≠ k → (w.iterAt k s q).heap[j]? = w.heap[j]? := fun j hj => by simp [World.iterAt, Array.getElem?_setIfInBounds, Ne.symm hj]
 have hsz : (w.iterAt k s q).heap.size = w.heap.size := by simp [World.iterAt]
 refine ⟨?_, hB.trans ⟨rfl, rfl, rfl, by omega, fun j hj => hb j (by omega)⟩, by omega⟩
 obtain ⟨h1, h2⟩ := ho
 refine ⟨h1, h2.imp id ?_⟩
 rintro ⟨g, cap, cur, fz, r1, r2, r3, r4⟩
 refine ⟨g, cap, cur, fz, r1, r2, ?_, r4⟩
 rw [hb g (by rintro rfl; rw [hk] at r3; cases r3)]; exact r3
section
variable {ops : Array Oper} {rest : List Oper} {o : Oper} {a : Act} {Q : Exit → Act → World → Prop}
theorem infoByte : ∃ i, Tryz.prog.info? 5 = some i ∧ i.zero = some (.int .u8 0) ∧ i.size = 1 ∧ i.bytes = 1 := by
 obtain ⟨i, h1, h2, h3, h4⟩ := info_parts (show (Tryz.prog.info? 5).map (fun i => (i.zero, i.size, i.bytes)) = some (some (.int .u8 0), 1, 1) by kernel_rfl)
 exact ⟨i, h1, h2, h3, h4⟩
theorem buf_byte (hgd : o.guard = none) (s x : Operand) (ho : o.op = .call { callee := .builtin .append, args := #[s, x], argTypes := #[55, 55] })
  {v : Value} {l : List UInt8} {W0 w0 : World} {c : UInt8} (hs : a.eval s = v) (hb : Buf W0 w0 v l)
  (hx : a.eval x = .slice (some ⟨w0.heap.size, 0, none⟩) 1 1) (hlen : l.length < 140737488355328)
  (h : ∀ v' w', Buf W0 w' v' (l ++ [c]) → w0.grownBy w' v.ownBlock → wpList Tryz.prog ops Q rest (a.put o.dst v') w') : wpList Tryz.prog ops Q (o :: rest) a (w0.alloc (.cells #[.int .u8 c.toNat] 5)) := by
 obtain ⟨i, h1, h2, h3, h4⟩ := infoByte
 have hb' := Lib.OwnBuf.alloc hb (.cells #[.int .u8 c.toNat] 5)
 refine wpList_append_ownF _ hgd s x 55 ho W0.heap.size 5 i (.int .u8 0) 1 1 Tryz.underlying55 h1 h2 h3 h4 rfl (by decide) v _ _ hs hb'.1 ⟨w0.heap.size, 0, none⟩ 1 1 [.int .u8 c.toNat] hx rfl ?_ ?_ (by unfold maxLen; omega) (by omega) hb'.2.2 ?_
 ·intro j u hj
  match j, hj with
  | 0, hj => simp at hj; subst hj; simp [Addr.add]
  | (j + 1), hj => simp at hj
 ·intro u hu; simp at hu; subst hu; rfl
 ·intro v' w' ho' hg _
  refine h v' w' ?_ (World.grownBy.trans (World.grownBy_alloc _ _ _) hg)
  have hv := hb'.grown ho' hg
  unfold Buf
  simpa [Lib.byteCells] using hv
theorem buf_make {w : World} (hgd : o.guard = none) (l c : Operand) (ho : o.op = Op.makeSlice 55 l c) (n : Nat) (C : Int) (hl : a.eval l = .int .i64 0) (hc : a.eval c = .int .i64 C) (hC : C = (n : Int)) (hn : n ≤ 140737488355328)
  (h : ∀ w', Buf w w' (.slice (some ⟨w.heap.size, 0, none⟩) 0 n) [] → wpList Tryz.prog ops Q rest (a.put o.dst (.slice (some ⟨w.heap.size, 0, none⟩) 0 n)) w') : wpList Tryz.prog ops Q (o :: rest) a w := by
 obtain ⟨i, h1, h2, h3, h4⟩ := infoByte
 refine wpList_make_own w hgd l c 55 ho w.heap.size 5 i (.int .u8 0) 1 Tryz.underlying55 h1 h2 h3 .i64 .i64 C n hl hc hC (by rw [h4]; omega) (by unfold maxLen; omega) (Nat.le_refl _) ?_
 intro w' ho' hg
 exact h w' ⟨World.ownsRowF_of ho', (Below.refl _ _).grown hg (Nat.le_refl _) (fun k hk => by cases hk), hg.size⟩
theorem buf_text {w : World} (hgd : o.guard = none) (sl x : Operand) (ho : o.op = .call { callee := .builtin .append, args := #[sl, x], argTypes := #[55, 9] })
  {v : Value} {l m : List UInt8} {W0 : World} (hs : a.eval sl = v) (hb : Buf W0 w v l)
  (hx : a.eval x = .string ⟨m.toArray⟩) (hlen : l.length + m.length ≤ 140737488355328)
  (h : ∀ v' w', Buf W0 w' v' (l ++ m) → w.grownBy w' v.ownBlock → wpList Tryz.prog ops Q rest (a.put o.dst v') w') : wpList Tryz.prog ops Q (o :: rest) a w := by
 obtain ⟨i, h1, h2, h3, h4⟩ := infoByte
 have hsz : (⟨m.toArray⟩ : ByteArray).size = m.length := by simp [ByteArray.size]
 refine Lib.wpList_append_own_stringF w hgd sl x 55 9 ho W0.heap.size 5 i Tryz.underlying55 Tryz.underlying9 h1 h2 h3 h4 v _ _ hs hb.1 ⟨m.toArray⟩ hx (by rw [hsz]; unfold maxLen; omega) (by rw [hsz]; exact hlen) hb.2.2 ?_
 intro v' w' ho' hg _
 refine h v' w' ?_ hg
 have hv := Lib.OwnBuf.grown hb ho' hg
 unfold Buf
 simpa [Lib.byteCells, Lib.strCells, ByteArray.size] using hv
end
theorem Buf.other {W0 w w' : World} {v : Value} {l : List UInt8} {k : Nat} {o : Obj} (h : Buf W0 w v l) (hg : w.grownBy w' v.ownBlock) (hk : w.heap[k]? = some o) (ho : ∀ c f, o ≠ .cells c 5 f) : w'.heap[k]? = some o := by
 rw [hg.block k ((Array.getElem?_eq_some_iff.1 hk).1)]
 ·exact hk
 ·obtain ⟨⟨h1, h2⟩, _⟩ := h
  rcases h2 with ⟨rfl, hn⟩ | ⟨g, cap, cur, fz, rfl, r2, r3, r4, r5, r6, r7, r8⟩
  ·simp [Value.ownBlock]
  ·intro e
   obtain rfl : k = g := by simpa [Value.ownBlock] using e
   rw [hk] at r3
   exact ho _ _ (Option.some.inj r3)
theorem row_string {B : Nat} {w : World} {v : Value} {l : List UInt8} (h : w.ownsRowF B 5 1 v l.length (Lib.byteCells l)) : (convert 55 9 v).run Tryz.prog w = .ok (.string ⟨l.toArray⟩) w := by
 obtain ⟨h1, h2⟩ := h
 rcases h2 with ⟨rfl, hn⟩ | ⟨g, cap, cur, fz, rfl, r2, r3, r4, r5, r6, r7, r8⟩
 ·obtain rfl : l = [] := List.eq_nil_of_length_eq_zero hn
  rw [run_convert_bytes_nil (w := w) (P := Tryz.prog) 55 5 Tryz.underlying55 Tryz.underlying5 0 0 9 Tryz.underlying9]
  rfl
 ·refine run_convert_bytes_back w 55 9 5 ⟨g, 0, none⟩ cap l Tryz.underlying55 Tryz.underlying5 Tryz.underlying9 ?_
  intro j hj
  have hadd : (⟨g, 0, none⟩ : Addr).add j = ⟨g, j, none⟩ := by unfold Addr.add; split <;> simp_all
  rw [hadd]
  simp only [World.cell?, r3]
  have : (cur.toList.take (l.length * 1))[j]? = some (.int .u8 l[j].toNat) := by rw [r8]; simp [Lib.byteCells, hj]
  rw [List.getElem?_take] at this
  simpa [hj] using this
theorem buf_string {W0 w : World} {v : Value} {l : List UInt8} (h : Buf W0 w v l) : (convert 55 9 v).run Tryz.prog w = .ok (.string ⟨l.toArray⟩) w := row_string h.1
theorem row_cell {B : Nat} {w : World} {v : Value} {l : List UInt8} (h : w.ownsRowF B 5 1 v l.length (Lib.byteCells l)) (hl : l ≠ []) : ∃ g cap, v = .slice (some ⟨g, 0, none⟩) l.length cap ∧ l.length ≤ cap ∧ B ≤ g ∧ g < w.heap.size ∧ ∀ j (hj : j < l.length), w.cell? ⟨g, j, none⟩ = some (.int .u8 l[j].toNat) := by
 obtain ⟨h1, h2⟩ := h
 rcases h2 with ⟨rfl, hn⟩ | ⟨g, cap, cur, fz, rfl, r2, r3, r4, r5, r6, r7, r8⟩
 ·exact absurd (List.eq_nil_of_length_eq_zero hn) hl
 ·refine ⟨g, cap, rfl, r5, r2, (Array.getElem?_eq_some_iff.1 r3).1, fun j hj => ?_⟩
  simp only [World.cell?, r3]
  have : (cur.toList.take (l.length * 1))[j]? = some (.int .u8 l[j].toNat) := by rw [r8]; simp [Lib.byteCells, hj]
  rw [List.getElem?_take] at this
  simpa [hj] using this
theorem Buf.cell {W0 w : World} {v : Value} {l : List UInt8} (h : Buf W0 w v l) (hl : l ≠ []) : ∃ g cap, v = .slice (some ⟨g, 0, none⟩) l.length cap ∧ l.length ≤ cap ∧ W0.heap.size ≤ g ∧ g < w.heap.size ∧ ∀ j (hj : j < l.length), w.cell? ⟨g, j, none⟩ = some (.int .u8 l[j].toNat) := row_cell h.1 hl
theorem row_len {B : Nat} {w : World} {v : Value} {l : List UInt8} (h : w.ownsRowF B 5 1 v l.length (Lib.byteCells l)) : ∃ A cap, v = .slice A l.length cap ∧ l.length ≤ cap := by
 obtain ⟨h1, h2⟩ := h
 rcases h2 with ⟨rfl, hn⟩ | ⟨g, cap, cur, fz, rfl, r2, r3, r4, r5, r6, r7, r8⟩
 ·exact ⟨none, 0, by rw [hn], by omega⟩
 ·exact ⟨_, cap, rfl, r5⟩
theorem Buf.len {W0 w : World} {v : Value} {l : List UInt8} (h : Buf W0 w v l) : ∃ A cap, v = .slice A l.length cap ∧ l.length ≤ cap := row_len h.1
open Go.ChangeShapes Go.WideShapes Go.ChangeAt Go.RowKit Go.Lib Go.Shelf
theorem own : ownKnob Tryz.prog.godebug = none := by kernel_rfl
def laidL : List (String × DataW Unit) := Rows.scriptQuotedRow.laid
theorem laidL_eq : laidL = [("math/bits.deBruijn32tab", Rows.laid_math_bits_deBruijn32tab), ("math/bits.deBruijn64tab", Rows.laid_math_bits_deBruijn64tab), ("internal/strconv.uint64pow10", Rows.laid_internal_strconv_uint64pow10), ("unicode/utf8.acceptRanges", Lib.acceptData), ("strconv.ErrRange", Rows.laid_strconv_ErrRange), ("strconv.ErrSyntax", Rows.laid_strconv_ErrSyntax), ("unicode/utf8.first", Lib.firstData)] := by kernel_rfl
theorem env_of {W : World} (hL : laidMetH Tryz.prog laidL W) (hsh : W.ShapedOpen Tryz.prog) : Env W where
 tabs := utf8Tabs_of_readsT (U8Types.of260 Tryz.lays260) ⟨by kernel_rfl, by kernel_rfl, by kernel_rfl, by kernel_rfl, by kernel_rfl, by kernel_rfl, by kernel_rfl⟩ (Lib.laidMet.reads hL (by rw [laidL_eq]; exact .tail _ (.tail _ (.tail _ (.tail _ (.tail _ (.tail _ (.head _)))))))) (Lib.laidMet.reads hL (by rw [laidL_eq]; exact .tail _ (.tail _ (.tail _ (.head _)))))
 mx := cell_of_shapedOpen_int (P := Tryz.prog) (g := 2) (t := 3) (zero := #[.int .i64 0]) hsh (of_decide_eq_true (by kernel_rfl)) (by kernel_rfl) rfl (by kernel_rfl) (by kernel_rfl) Tryz.underlying3
def litV : DataW Unit → Value
 | .lit (.int k z) => .int k z
 | _ => undef
def rowV : DataW Unit → Array Value
 | .agg l => (l.map litV).toArray
 | _ => #[]
noncomputable def world0 (os : Os) : World := World.holding Tryz.prog os ⟨#[.cells #[.string ⟨#[118, 97, 108, 117, 101, 32, 111, 117, 116, 32, 111, 102, 32, 114, 97, 110, 103, 101]⟩] 222, .cells #[.string ⟨#[105, 110, 118, 97, 108, 105, 100, 32, 115, 121, 110, 116, 97, 120]⟩] 222], #[], []⟩
noncomputable def laidWorld (os : Os) : World :=
 let w0 := world0 os
 let lo := w0.heap.size - 2
 let put (h : Array Obj) (g : Nat) (cs : Array Value) : Array Obj := h.modify g fun
  | .cells _ t frozen => .cells cs t frozen
  | o => o
 let h1 := put w0.heap 0 (Lib.firstTab.map fun z => Value.int .u8 z).toArray
 let h2 := put h1 1 ((List.range 16).flatMap fun i => [Value.int .u8 (Lib.accLo i), Value.int .u8 (Lib.accHi i)]).toArray
 let h3 := put h2 6 (rowV Rows.laid_math_bits_deBruijn32tab)
 let h4 := put h3 7 (rowV Rows.laid_math_bits_deBruijn64tab)
 let h5 := put h4 3 (rowV Rows.laid_internal_strconv_uint64pow10)
 let h6 := put h5 5 #[.iface 220 (.pointer (some ⟨lo, 0, none⟩))]
 let h7 := put h6 4 #[.iface 220 (.pointer (some ⟨lo + 1, 0, none⟩))]
 { w0 with heap := h7 }
noncomputable def lo19 (os : Os) : Nat := (world0 os).heap.size - 2
theorem laid_met (os : Os) (args : Array Value) : laidMet Tryz.prog laidL ((laidWorld os).forCall (fun _ _ => 0) ⟨#[], args, []⟩).memory :=
 (LaidIn.of_run (l := laidL) [6, 7, 3, 1, 5, lo19 os, 4, lo19 os + 1, 0] 8 (by kernel_rfl) (by kernel_rfl) (by kernel_rfl) (by kernel_rfl)).met
open Go.RowKit
def encR (r : Int) : List UInt8 := (Utf8.encode r).data.toList
theorem encR_mk (r : Int) : (⟨(encR r).toArray⟩ : ByteArray) = Utf8.encode r := rfl
theorem decode_pos (l : List UInt8) (k : Nat) (hk : k < l.length) : Utf8.decode ⟨l.toArray⟩ k = Lib.decodeL (l.drop k) := by
 unfold Lib.decodeL
 rw [Lib.decode_at, Lib.decode_at]
 have hg : ∀ j, ((⟨l.toArray⟩ : ByteArray).get! (k + j)) = ((⟨(l.drop k).toArray⟩ : ByteArray).get! j) := by
  intro j
  simp [ByteArray.get!, Array.get!Internal, getElem!_def, List.getElem?_drop]
 have hs : (⟨l.toArray⟩ : ByteArray).size - k = (⟨(l.drop k).toArray⟩ : ByteArray).size - 0 := by simp [ByteArray.size]
 rw [hs, ← hg, ← hg, ← hg, ← hg]
 simp only [Nat.zero_add, Nat.add_zero]
open Go.RowKit
def strOr (err : Int) : Option (List UInt8) → Value
 | none => .tuple #[.string ⟨#[]⟩, .int .i64 err]
 | some m => .tuple #[.string ⟨m.toArray⟩, .int .i64 0]
theorem decodeL_ok (l : List UInt8) (h : l ≠ []) : 1 ≤ (Lib.decodeL l).2 ∧ (Lib.decodeL l).2 ≤ l.length ∧ (Lib.decodeL l).1 ≤ 1114111 ∧ Lib.validRune ((Lib.decodeL l).1 : Int) = true := by
 refine ⟨?_, Lib.decodeL_le l h, ?_⟩
 all_goals
  rw [Lib.decodeL_N]
  have h0 : (l.getD 0 0).toNat < 256 := UInt8.toNat_lt _
  have h1 : (l.getD 1 0).toNat < 256 := UInt8.toNat_lt _
  have h2 : (l.getD 2 0).toNat < 256 := UInt8.toNat_lt _
  have h3 : (l.getD 3 0).toNat < 256 := UInt8.toNat_lt _
  generalize (l.getD 0 0).toNat = b0 at *
  generalize (l.getD 1 0).toNat = b1 at *
  generalize (l.getD 2 0).toNat = b2 at *
  generalize (l.getD 3 0).toNat = b3 at *
  rcases Lib.decodeN_shape l.length b0 b1 b2 b3 with ⟨c, e⟩ | ⟨c1, c2, c3, cv, e⟩ | ⟨c1, c2, c3, c4, cv, cs, e⟩ | ⟨c1, c2, c3, c4, c5, cv, cw, e⟩ | e
  all_goals rw [e]
  all_goals dsimp only
  all_goals first | omega | (refine ⟨by omega, ?_⟩; unfold Lib.validRune; simp; try omega)
open Go.RowKit
open Go.RowKit
/-! digits -/
def isDig (c : UInt8) : Bool := decide (48 ≤ c.toNat) && decide (c.toNat ≤ 57)
/-! integers -/
open Go.RowKit
open Go.RowKit
theorem quiet_l {P : Program} {f : FuncId} {args : Array Value} {w : World} {n : Nat} {v : Value}
  (h : Calls P f args (w.drewN n) fun e w' => e = .returned v ∧ w.drewN n = w') : Calls P f args (w.drewN n) fun e w'' => e = .returned v ∧ ∃ m, w'' = w.drewN m :=
 h.mono fun _ _ ⟨he, hm⟩ => ⟨he, n, hm.symm⟩
theorem below_drewN {B : Nat} {a w : World} (h : Below B a w) (n : Nat) : Below B a (w.drewN n) := ⟨h.os, h.tape, h.output, h.size, h.block⟩
def sub (l : List UInt8) (a b : Nat) : List UInt8 := (l.drop a).take (b - a)
theorem ba_ext (l : List UInt8) (a b : Nat) : (⟨l.toArray⟩ : ByteArray).extract a b = ⟨(sub l a b).toArray⟩ := by
 have h := Lib.extract_data ⟨l.toArray⟩ a b
 generalize (⟨l.toArray⟩ : ByteArray).extract a b = x at h
 cases x with | mk d => cases d with | mk d => simp at h; subst h; rfl
open Go.RowKit
def lowB (c : UInt8) : UInt8 := if 65 ≤ c.toNat ∧ c.toNat ≤ 90 then c + 32 else c
def smallL (l : List UInt8) : List UInt8 := l.map lowB
open Go.RowKit
open Go.RowKit
def kv (n : List UInt8) (k : Int) : Value := .agg #[.string ⟨n.toArray⟩, .int .i64 k]
def RulesAre (es : Array MapEntry) (R : List (List UInt8 × Int × Value)) : Prop := es.toList.map (fun e => (e.key, e.val)) = R.map (fun x => (kv x.1 x.2.1, x.2.2))
def World.setMap (w : World) (r : Nat) (es : Array MapEntry) (c : Nat) : World := { w with heap := w.heap.setIfInBounds r (.map es c) }
theorem RulesAre.push {es : Array MapEntry} {R : List (List UInt8 × Int × Value)} (h : RulesAre es R) (n : List UInt8) (k : Int) (v : Value) (b : Nat) : RulesAre (es.push { key := kv n k, val := v, born := b }) (R ++ [(n, k, v)]) := by
 unfold RulesAre at h ⊢
 simp [h]
open Go.RowKit
def kMatch : List UInt8 := [77, 97, 116, 99, 104]
def kOrdering : List UInt8 := [79, 114, 100, 101, 114, 105, 110, 103, 77, 97, 116, 99, 104]
def kSubstrings : List UInt8 := [83, 117, 98, 115, 116, 114, 105, 110, 103, 115, 77, 97, 116, 99, 104]
def kindOf (k : List UInt8) : Int := if k = kOrdering then 1 else if k = kSubstrings then 2 else 0
def Texts (w : World) (v : Value) (xs : List (List UInt8)) : Prop :=
 (xs = [] ∧ v = .slice none 0 0) ∨ ∃ b c, v = .slice (some ⟨b, 0, none⟩) xs.length c ∧ xs.length ≤ c ∧ b < w.heap.size ∧ ∀ j (hj : j < xs.length), w.cell? ⟨b, j, none⟩ = some (.string ⟨xs[j].toArray⟩)
theorem ba_app (a b : List UInt8) : (⟨a.toArray⟩ : ByteArray) ++ ⟨b.toArray⟩ = ⟨(a ++ b).toArray⟩ := by
 apply ByteArray.ext
 rw [ByteArray.data_append]
 simp
theorem setMap_heap {w : World} {r c : Nat} {es : Array MapEntry} (h : r < w.heap.size) : (World.setMap w r es c).heap[r]? = some (.map es c) := by simp [World.setMap, h]
theorem setMap_size {w : World} {r c : Nat} {es : Array MapEntry} : (World.setMap w r es c).heap.size = w.heap.size := by simp [World.setMap]
theorem setMap_other {w : World} {r c k : Nat} {es : Array MapEntry} (h : k ≠ r) : (World.setMap w r es c).heap[k]? = w.heap[k]? := by simp [World.setMap, Ne.symm h]
def strV (x : List UInt8) : Value := .string ⟨x.toArray⟩
def Strs (W0 w : World) (v : Value) (xs : List (List UInt8)) : Prop :=
 w.ownsRow W0.heap.size 9 1 v xs.length (xs.map strV) ∧ Below W0.heap.size W0 w ∧ W0.heap.size ≤ w.heap.size
theorem Strs.nil (w : World) : Strs w w (.slice none 0 0) [] := ⟨World.ownsRow_nil _ _ _ _, Below.refl _ _, Nat.le_refl _⟩
theorem Strs.below {W0 w : World} {v : Value} {xs : List (List UInt8)} (h : Strs W0 w v xs) : Below W0.heap.size W0 w := h.2.1
theorem Strs.grow {W0 w w' : World} {v : Value} {xs : List (List UInt8)} (h : Strs W0 w v xs) (hb : Below w.heap.size w w') : Strs W0 w' v xs := by
 obtain ⟨ho, hB, hle⟩ := h
 refine ⟨ho.kept (row := none) ⟨hb.os, hb.tape, hb.output, hb.size, fun k hk _ => hb.block k hk⟩ ?_, hB.trans (hb.mono hle), Nat.le_trans hle hb.size⟩
 rcases hv : v.ownBlock with _ | g
 ·exact .inl rfl
 ·exact .inr (by simp)
theorem Strs.alloc {W0 w : World} {v : Value} {xs : List (List UInt8)} (h : Strs W0 w v xs) (o : Obj) : Strs W0 (w.alloc o) v xs := h.grow ((Below.refl _ _).alloc (Nat.le_refl _) o)
theorem Strs.grown {W0 w w' : World} {v v' : Value} {xs xs' : List (List UInt8)} (h : Strs W0 w v xs) (ho : w'.ownsRow W0.heap.size 9 1 v' xs'.length (xs'.map strV)) (hg : w.grownBy w' v.ownBlock) : Strs W0 w' v' xs' :=
 ⟨ho, h.2.1.grown hg h.2.2 (fun k hk => (h.1.lt k hk).1), Nat.le_trans h.2.2 hg.size⟩
theorem Strs.texts {W0 w : World} {v : Value} {xs : List (List UInt8)} (h : Strs W0 w v xs) : Texts w v xs := by
 obtain ⟨⟨h1, h2⟩, _, _⟩ := h
 rcases h2 with ⟨rfl, hn⟩ | ⟨g, cap, cur, rfl, r2, r3, r4, r5, r6, r7⟩
 ·exact .inl ⟨List.eq_nil_of_length_eq_zero hn, rfl⟩
 ·refine .inr ⟨g, cap, rfl, r4, (Array.getElem?_eq_some_iff.1 r3).1, fun j hj => ?_⟩
  simp only [World.cell?, r3]
  have : (cur.toList.take (xs.length * 1))[j]? = some (strV xs[j]) := by rw [r7]; simp [hj]
  rw [List.getElem?_take] at this
  simpa [hj, strV] using this
theorem Texts.keep {w w' : World} {v : Value} {xs : List (List UInt8)} (h : Texts w v xs) (hb : ∀ k, k < w.heap.size → w'.heap[k]? = w.heap[k]?) (hs : w.heap.size ≤ w'.heap.size) : Texts w' v xs := by
 rcases h with h | ⟨b, c, rfl, hc, hlt, hcell⟩
 ·exact .inl h
 ·exact .inr ⟨b, c, rfl, hc, by omega, fun j hj => by rw [World.cell?_of_block (w := w) (hb b hlt)]; exact hcell j hj⟩
theorem Texts.below {w w' : World} {v : Value} {xs : List (List UInt8)} (h : Texts w v xs) (hb : Below w.heap.size w w') : Texts w' v xs := h.keep hb.block hb.size
theorem Texts.cons {w : World} {v : Value} {x : List UInt8} {xs : List (List UInt8)} (h : Texts w v (x :: xs)) : ∃ b c, v = .slice (some ⟨b, 0, none⟩) (x :: xs).length c ∧ (x :: xs).length ≤ c ∧ b < w.heap.size ∧ Hid (∀ j (hj : j < (x :: xs).length), w.cell? ⟨b, j, none⟩ = some (.string ⟨(x :: xs)[j].toArray⟩)) := by
 rcases h with ⟨h, _⟩ | h
 ·cases h
 ·exact h
section
variable {ops : Array Oper} {rest : List Oper} {o : Oper} {a : Act} {Q : Exit → Act → World → Prop}
end
open Go.RowKit
inductive NormFn where
 | self
 | text (fold : Bool)
 | name
 | oid
 deriving DecidableEq
def bOctetString : List UInt8 := [111, 99, 116, 101, 116, 83, 116, 114, 105, 110, 103]
def bCaseExact : List UInt8 := [99, 97, 115, 101, 69, 120, 97, 99, 116]
def bCaseIgnore : List UInt8 := [99, 97, 115, 101, 73, 103, 110, 111, 114, 101]
def bInteger : List UInt8 := [105, 110, 116, 101, 103, 101, 114]
def bBoolean : List UInt8 := [98, 111, 111, 108, 101, 97, 110]
def bDistinguishedName : List UInt8 := [100, 105, 115, 116, 105, 110, 103, 117, 105, 115, 104, 101, 100, 78, 97, 109, 101]
def bObjectIdentifier : List UInt8 := [111, 98, 106, 101, 99, 116, 73, 100, 101, 110, 116, 105, 102, 105, 101, 114]
def bGeneralizedTime : List UInt8 := [103, 101, 110, 101, 114, 97, 108, 105, 122, 101, 100, 84, 105, 109, 101]
def fOctets : List UInt8 := [111, 99, 116, 101, 116, 115]
def fText : List UInt8 := [116, 101, 120, 116]
def fAscii : List UInt8 := [97, 115, 99, 105, 105]
def fInteger : List UInt8 := [105, 110, 116, 101, 103, 101, 114]
def fBoolean : List UInt8 := [98, 111, 111, 108, 101, 97, 110]
def fName : List UInt8 := [110, 97, 109, 101]
def fOid : List UInt8 := [111, 105, 100]
def fTime : List UInt8 := [116, 105, 109, 101]
def bases : List (List UInt8 × List (List UInt8) × NormFn × List (List UInt8)) := [
 (bOctetString, [fOctets], .self, [kOrdering]),
 (bCaseExact, [fText, fAscii], .text false, [kOrdering, kSubstrings]),
 (bCaseIgnore, [fText, fAscii], .text true, [kOrdering, kSubstrings]),
 (bInteger, [fInteger], .self, [kOrdering]),
 (bBoolean, [fBoolean], .self, []),
 (bDistinguishedName, [fName], .name, []),
 (bObjectIdentifier, [fOid], .oid, []),
 (bGeneralizedTime, [fTime], .self, [kOrdering])]
def tab : List (List UInt8 × Int × List (List UInt8) × NormFn) :=
 bases.flatMap fun b => (kMatch :: b.2.2.2).map fun k => (b.1 ++ k, kindOf k, b.2.1, b.2.2.1)
theorem Texts.alloc {w : World} {v : Value} {xs : List (List UInt8)} (h : Texts w v xs) (o : Obj) : Texts (w.alloc o) v xs := h.below ((Below.refl _ _).alloc (Nat.le_refl _) o)
theorem Texts.none (w : World) : Texts w (.slice none 0 0) [] := .inl ⟨rfl, rfl⟩
def findT (n : List UInt8) (k : Int) : List (List UInt8 × Int × List (List UInt8) × NormFn) → Option (List UInt8 × Int × List (List UInt8) × NormFn)
 | [] => .none
 | x :: T => if n == smallL x.1 && k == x.2.1 then some x else findT n k T
open Go.RowKit
def ruleT (n : List UInt8) : Option (List UInt8 × Int × List (List UInt8) × NormFn) := (findT n 0 tab).or ((findT n 1 tab).or (findT n 2 tab))
theorem Texts.isSlice {w : World} {v : Value} {xs : List (List UInt8)} (h : Texts w v xs) : ∃ A n c, v = .slice A n c := by
 rcases h with ⟨_, rfl⟩ | ⟨b, c, rfl, _⟩
 ·exact ⟨_, _, _, rfl⟩
 ·exact ⟨_, _, _, rfl⟩
end Go.Proofs.YthenffabboomnaaGreatDoor
