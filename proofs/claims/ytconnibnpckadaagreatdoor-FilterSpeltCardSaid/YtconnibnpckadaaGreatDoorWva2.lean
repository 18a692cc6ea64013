import Derived.Test.YtconnibnpckadaaGreatDoorWva0
import Derived.Test.YtconnibnpckadaaGreatDoorShelf
import Derived.Lib.BufSteps
import Derived.Lib.OthersKept
import Derived.Lib.ValidLaws
import Derived.Lib.RuneBytes
import Derived.Test.YtconnibnpckadaaGreatDoorCards
import Derived.Test.YtconnibnpckadaaGreatDoorTie
import Derived.ProofKit
import Derived.OpenShut
import Derived.Deep.DeepHandedRow
import Derived.Deep.DeepWitnessRowRef
import Derived.Lib.LaidTab
import Derived.Lib.LaidIn
import Derived.Lib.LaidU8T
import Derived.PinnedBridge
import Derived.Shelf.Vars
import Derived.Deep.LoopGhost
import Derived.Lib.MapLaws
import Derived.Deep.QuietTactic
import Derived.BigQuiet
set_option linter.all false
set_option maxHeartbeats 8000000
set_option maxRecDepth 100000
namespace Go.Proofs.YtconnibnpckadaaGreatDoor
open Go.RowKit
theorem cell_lt {w : World} {a : Addr} {v : Value} (h : w.cell? a = some v) : a.block < w.heap.size := by
 rcases Nat.lt_or_ge a.block w.heap.size with h' | h'
 ·exact h'
 ·simp [World.cell?, Array.getElem?_eq_none h'] at h
structure Env (w : World) : Prop where
 tabs : Lib.Utf8Tabs 1 2 w
 mx : ∃ m, w.cell? ⟨0, 0, none⟩ = some (.int .i64 m)
theorem Env.below {w w' : World} (h : Env w) {B : Nat} (hB : w.heap.size ≤ B) (hb : Below B w w') : Env w' := by
 obtain ⟨⟨h1, h2⟩, m, hm⟩ := h
 refine ⟨⟨fun c hc => ?_, fun i hi => ?_⟩, m, ?_⟩
 ·rw [hb.cell (p := ⟨_, c, none⟩) (Nat.lt_of_lt_of_le (cell_lt (h1 c hc)) hB)]; exact h1 c hc
 ·have := h2 i hi
  exact ⟨by rw [hb.cell (p := ⟨_, 2 * i, none⟩) (Nat.lt_of_lt_of_le (cell_lt this.1) hB)]; exact this.1, by rw [hb.cell (p := ⟨_, 2 * i + 1, none⟩) (Nat.lt_of_lt_of_le (cell_lt this.2) hB)]; exact this.2⟩
 ·rw [hb.cell (p := ⟨_, 0, none⟩) (Nat.lt_of_lt_of_le (cell_lt hm) hB)]; exact hm
theorem Env.keep {w w' : World} (h : Env w) (hb : Below w.heap.size w w') : Env w' := h.below (Nat.le_refl _) hb
def Buf (W0 w : World) (v : Value) (l : List UInt8) : Prop := Lib.OwnBuf W0.heap.size 5 v l.length (Lib.byteCells l) W0 w
theorem Buf.nil (w : World) : Buf w w (.slice none 0 0) [] := ⟨World.ownsRowF_nil _ _ _ _, Below.refl _ _, Nat.le_refl _⟩
theorem Buf.below {W0 w : World} {v : Value} {l : List UInt8} (h : Buf W0 w v l) : Below W0.heap.size W0 w := h.2.1
theorem Buf.le {W0 w : World} {v : Value} {l : List UInt8} (h : Buf W0 w v l) : W0.heap.size ≤ w.heap.size := h.2.2
theorem Buf.alloc {W0 w : World} {v : Value} {l : List UInt8} (h : Buf W0 w v l) (o : Obj) : Buf W0 (w.alloc o) v l := Lib.OwnBuf.alloc h o
theorem Buf.drewN {W0 w : World} {v : Value} {l : List UInt8} (h : Buf W0 w v l) (n : Nat) : Buf W0 (w.drewN n) v l := Lib.OwnBuf.drewN h n
theorem Buf.grow {W0 w w' : World} {v : Value} {l : List UInt8} (h : Buf W0 w v l) (hb : Below w.heap.size w w') : Buf W0 w' v l := by
 obtain ⟨ho, hB, hle⟩ := h
 refine ⟨ho.kept (row := none) ⟨hb.os, hb.tape, hb.output, hb.size, fun k hk _ => hb.block k hk⟩ ?_, hB.trans (hb.mono hle), Nat.le_trans hle hb.size⟩
 rcases hv : v.ownBlock with _ | g
 ·exact .inl rfl
 ·exact .inr (by simp)
theorem Buf.iterAt {W0 w : World} {v : Value} {l : List UInt8} (h : Buf W0 w v l) {k : Nat} {s : ByteArray} {p q : Nat} (hk : w.heap[k]? = some (.stringIter s p)) (hW : W0.heap.size ≤ k) : Buf W0 (w.iterAt k s q) v l := by
 obtain ⟨ho, hB, hle⟩ := h
 have hb : ∀ j, j ≠ k → (w.iterAt k s q).heap[j]? = w.heap[j]? := fun j hj => by simp [World.iterAt, Array.getElem?_setIfInBounds, Ne.symm hj]
 have hsz : (w.iterAt k s q).heap.size = w.heap.size := by simp [World.iterAt]
 refine ⟨?_, hB.trans ⟨rfl, rfl, rfl, by omega, fun j hj => hb j (by omega)⟩, by omega⟩
 obtain ⟨h1, h2⟩ := ho
 refine ⟨h1, h2.imp id ?_⟩
 rintro ⟨g, cap, cur, fz, r1, r2, r3, r4⟩
 refine ⟨g, cap, cur, fz, r1, r2, ?_, r4⟩
 rw [hb g (by rintro rfl; rw [hk] at r3; cases r3)]; exact r3
section
variable {ops : Array Oper} {rest : List Oper} {o : Oper} {a : Act} {Q : Exit → Act → World → Prop}
theorem infoByte : ∃ i, Tryz.prog.info? 5 = some i ∧ i.zero = some (.int .u8 0) ∧ i.size = 1 ∧ i.bytes = 1 := by
 obtain ⟨i, h1, h2, h3, h4⟩ := info_parts (show (Tryz.prog.info? 5).map (fun i => (i.zero, i.size, i.bytes)) = some (some (.int .u8 0), 1, 1) by kernel_rfl)
 exact ⟨i, h1, h2, h3, h4⟩
theorem buf_byte (hgd : o.guard = none) (s x : Operand) (ho : o.op = .call { callee := .builtin .append, args := #[s, x], argTypes := #[66, 66] })
  {v : Value} {l : List UInt8} {W0 w0 : World} {c : UInt8} (hs : a.eval s = v) (hb : Buf W0 w0 v l)
  (hx : a.eval x = .slice (some ⟨w0.heap.size, 0, none⟩) 1 1) (hlen : l.length < 140737488355328)
  (h : ∀ v' w', Buf W0 w' v' (l ++ [c]) → w0.grownBy w' v.ownBlock → wpList Tryz.prog ops Q rest (a.put o.dst v') w') : wpList Tryz.prog ops Q (o :: rest) a (w0.alloc (.cells #[.int .u8 c.toNat] 5)) := by
 obtain ⟨i, h1, h2, h3, h4⟩ := infoByte
 have hb' := Lib.OwnBuf.alloc hb (.cells #[.int .u8 c.toNat] 5)
 refine wpList_append_ownF _ hgd s x 66 ho W0.heap.size 5 i (.int .u8 0) 1 1 Tryz.underlying66 h1 h2 h3 h4 rfl (by decide) v _ _ hs hb'.1 ⟨w0.heap.size, 0, none⟩ 1 1 [.int .u8 c.toNat] hx rfl ?_ ?_ (by unfold maxLen; omega) (by omega) hb'.2.2 ?_
 ·intro j u hj
  match j, hj with
  | 0, hj => simp at hj; subst hj; simp [Addr.add]
  | (j + 1), hj => simp at hj
 ·intro u hu; simp at hu; subst hu; rfl
 ·intro v' w' ho' hg _
  refine h v' w' ?_ (World.grownBy.trans (World.grownBy_alloc _ _ _) hg)
  have hv := hb'.grown ho' hg
  unfold Buf
  simpa [Lib.byteCells] using hv
theorem buf_make {w : World} (hgd : o.guard = none) (l c : Operand) (ho : o.op = Op.makeSlice 66 l c) (n : Nat) (C : Int) (hl : a.eval l = .int .i64 0) (hc : a.eval c = .int .i64 C) (hC : C = (n : Int)) (hn : n ≤ 140737488355328)
  (h : ∀ w', Buf w w' (.slice (some ⟨w.heap.size, 0, none⟩) 0 n) [] → wpList Tryz.prog ops Q rest (a.put o.dst (.slice (some ⟨w.heap.size, 0, none⟩) 0 n)) w') : wpList Tryz.prog ops Q (o :: rest) a w := by
 obtain ⟨i, h1, h2, h3, h4⟩ := infoByte
 refine wpList_make_own w hgd l c 66 ho w.heap.size 5 i (.int .u8 0) 1 Tryz.underlying66 h1 h2 h3 .i64 .i64 C n hl hc hC (by rw [h4]; omega) (by unfold maxLen; omega) (Nat.le_refl _) ?_
 intro w' ho' hg
 exact h w' ⟨World.ownsRowF_of ho', (Below.refl _ _).grown hg (Nat.le_refl _) (fun k hk => by cases hk), hg.size⟩
theorem buf_text {w : World} (hgd : o.guard = none) (sl x : Operand) (ho : o.op = .call { callee := .builtin .append, args := #[sl, x], argTypes := #[66, 9] })
  {v : Value} {l m : List UInt8} {W0 : World} (hs : a.eval sl = v) (hb : Buf W0 w v l)
  (hx : a.eval x = .string ⟨m.toArray⟩) (hlen : l.length + m.length ≤ 140737488355328)
  (h : ∀ v' w', Buf W0 w' v' (l ++ m) → w.grownBy w' v.ownBlock → wpList Tryz.prog ops Q rest (a.put o.dst v') w') : wpList Tryz.prog ops Q (o :: rest) a w := by
 obtain ⟨i, h1, h2, h3, h4⟩ := infoByte
 have hsz : (⟨m.toArray⟩ : ByteArray).size = m.length := by simp [ByteArray.size]
 refine Lib.wpList_append_own_stringF w hgd sl x 66 9 ho W0.heap.size 5 i Tryz.underlying66 Tryz.underlying9 h1 h2 h3 h4 v _ _ hs hb.1 ⟨m.toArray⟩ hx (by rw [hsz]; unfold maxLen; omega) (by rw [hsz]; exact hlen) hb.2.2 ?_
 intro v' w' ho' hg _
 refine h v' w' ?_ hg
 have hv := Lib.OwnBuf.grown hb ho' hg
 unfold Buf
 simpa [Lib.byteCells, Lib.strCells, ByteArray.size] using hv
end
theorem Buf.other {W0 w w' : World} {v : Value} {l : List UInt8} {k : Nat} {o : Obj} (h : Buf W0 w v l) (hg : w.grownBy w' v.ownBlock) (hk : w.heap[k]? = some o) (ho : ∀ c f, o ≠ .cells c 5 f) : w'.heap[k]? = some o := by
 rw [hg.block k ((Array.getElem?_eq_some_iff.1 hk).1)]
 ·exact hk
 ·obtain ⟨⟨h1, h2⟩, _⟩ := h
  rcases h2 with ⟨rfl, hn⟩ | ⟨g, cap, cur, fz, rfl, r2, r3, r4, r5, r6, r7, r8⟩
  ·simp [Value.ownBlock]
  ·intro e
   obtain rfl : k = g := by simpa [Value.ownBlock] using e
   rw [hk] at r3
   exact ho _ _ (Option.some.inj r3)
theorem row_string {B : Nat} {w : World} {v : Value} {l : List UInt8} (h : w.ownsRowF B 5 1 v l.length (Lib.byteCells l)) : (convert 66 9 v).run Tryz.prog w = .ok (.string ⟨l.toArray⟩) w := by
 obtain ⟨h1, h2⟩ := h
 rcases h2 with ⟨rfl, hn⟩ | ⟨g, cap, cur, fz, rfl, r2, r3, r4, r5, r6, r7, r8⟩
 ·obtain rfl : l = [] := List.eq_nil_of_length_eq_zero hn
  rw [run_convert_bytes_nil (w := w) (P := Tryz.prog) 66 5 Tryz.underlying66 Tryz.underlying5 0 0 9 Tryz.underlying9]
  rfl
 ·refine run_convert_bytes_back w 66 9 5 ⟨g, 0, none⟩ cap l Tryz.underlying66 Tryz.underlying5 Tryz.underlying9 ?_
  intro j hj
  have hadd : (⟨g, 0, none⟩ : Addr).add j = ⟨g, j, none⟩ := by unfold Addr.add; split <;> simp_all
  rw [hadd]
  simp only [World.cell?, r3]
  have : (cur.toList.take (l.length * 1))[j]? = some (.int .u8 l[j].toNat) := by rw [r8]; simp [Lib.byteCells, hj]
  rw [List.getElem?_take] at this
  simpa [hj] using this
theorem buf_string {W0 w : World} {v : Value} {l : List UInt8} (h : Buf W0 w v l) : (convert 66 9 v).run Tryz.prog w = .ok (.string ⟨l.toArray⟩) w := row_string h.1
theorem row_cell {B : Nat} {w : World} {v : Value} {l : List UInt8} (h : w.ownsRowF B 5 1 v l.length (Lib.byteCells l)) (hl : l ≠ []) : ∃ g cap, v = .slice (some ⟨g, 0, none⟩) l.length cap ∧ l.length ≤ cap ∧ B ≤ g ∧ g < w.heap.size ∧ ∀ j (hj : j < l.length), w.cell? ⟨g, j, none⟩ = some (.int .u8 l[j].toNat) := by
 obtain ⟨h1, h2⟩ := h
 rcases h2 with ⟨rfl, hn⟩ | ⟨g, cap, cur, fz, rfl, r2, r3, r4, r5, r6, r7, r8⟩
 ·exact absurd (List.eq_nil_of_length_eq_zero hn) hl
 ·refine ⟨g, cap, rfl, r5, r2, (Array.getElem?_eq_some_iff.1 r3).1, fun j hj => ?_⟩
  simp only [World.cell?, r3]
  have : (cur.toList.take (l.length * 1))[j]? = some (.int .u8 l[j].toNat) := by rw [r8]; simp [Lib.byteCells, hj]
  rw [List.getElem?_take] at this
  simpa [hj] using this
theorem Buf.cell {W0 w : World} {v : Value} {l : List UInt8} (h : Buf W0 w v l) (hl : l ≠ []) : ∃ g cap, v = .slice (some ⟨g, 0, none⟩) l.length cap ∧ l.length ≤ cap ∧ W0.heap.size ≤ g ∧ g < w.heap.size ∧ ∀ j (hj : j < l.length), w.cell? ⟨g, j, none⟩ = some (.int .u8 l[j].toNat) := row_cell h.1 hl
theorem row_len {B : Nat} {w : World} {v : Value} {l : List UInt8} (h : w.ownsRowF B 5 1 v l.length (Lib.byteCells l)) : ∃ A cap, v = .slice A l.length cap ∧ l.length ≤ cap := by
 obtain ⟨h1, h2⟩ := h
 rcases h2 with ⟨rfl, hn⟩ | ⟨g, cap, cur, fz, rfl, r2, r3, r4, r5, r6, r7, r8⟩
 ·exact ⟨none, 0, by rw [hn], by omega⟩
 ·exact ⟨_, cap, rfl, r5⟩
theorem Buf.len {W0 w : World} {v : Value} {l : List UInt8} (h : Buf W0 w v l) : ∃ A cap, v = .slice A l.length cap ∧ l.length ≤ cap := row_len h.1
open Go.ChangeShapes Go.WideShapes Go.ChangeAt Go.RowKit Go.Lib Go.Shelf
theorem own : ownKnob Tryz.prog.godebug = none := by kernel_rfl
def laidL : List (String × DataW Unit) := [("unicode/utf8.acceptRanges", Lib.acceptData), ("unicode/utf8.first", Lib.firstData)]
theorem env_of {W : World} (hL : laidMetH Tryz.prog laidL W) (hsh : W.ShapedOpen Tryz.prog) : Env W where
 tabs := utf8Tabs_of_readsT (U8Types.of196 Tryz.lays196) ⟨by kernel_rfl, by kernel_rfl, by kernel_rfl, by kernel_rfl, by kernel_rfl, by kernel_rfl, by kernel_rfl⟩ (Lib.laidMet.reads hL (.tail _ (.head _))) (Lib.laidMet.reads hL (.head _))
 mx := cell_of_shapedOpen_int (P := Tryz.prog) (g := 0) (t := 3) (zero := #[.int .i64 0]) hsh (of_decide_eq_true (by kernel_rfl)) (by kernel_rfl) rfl (by kernel_rfl) (by kernel_rfl) Tryz.underlying3
noncomputable def laidWorld (os : Os) : World :=
 let w0 := World.holding Tryz.prog os ⟨#[], #[], []⟩
 let put (h : Array Obj) (g : Nat) (cs : Array Value) : Array Obj := h.modify g fun
  | .cells _ t frozen => .cells cs t frozen
  | o => o
 let h1 := put w0.heap 1 (Lib.firstTab.map fun z => Value.int .u8 z).toArray
 let h2 := put h1 2 ((List.range 16).flatMap fun i => [Value.int .u8 (Lib.accLo i), Value.int .u8 (Lib.accHi i)]).toArray
 { w0 with heap := h2 }
theorem laid_met (os : Os) (args : Array Value) : laidMet Tryz.prog laidL ((laidWorld os).forCall (fun _ _ => 0) ⟨#[], args, []⟩).memory :=
 (LaidIn.of_run (l := laidL) [2, 1] 8 (by kernel_rfl) (by kernel_rfl) (by kernel_rfl) (by kernel_rfl)).met
open Go.RowKit
def encR (r : Int) : List UInt8 := (Utf8.encode r).data.toList
theorem encR_mk (r : Int) : (⟨(encR r).toArray⟩ : ByteArray) = Utf8.encode r := rfl
theorem PutRune_c (r : Int) (w : World) (hv : Lib.validRune r = true) :
  Calls Tryz.prog 170 #[.int .i32 r] w fun e w' => e = .returned (.tuple #[.string ⟨(encR r).toArray⟩, .int .i64 0]) ∧ w = w' := by
 go_enter Tryz.func170, Tryz.ntmps170
 go_wp2_with (go_at_call 141; refine (Tryz.utf8_ValidRune _ _).mono ?_; rintro e w' ⟨rfl, rfl⟩; rw [hv])
 go_ret2
 exact ⟨rfl, rfl⟩
theorem Text_c (l : List UInt8) (w : World) (hw : Env w) (hl : l.length ≤ 9223372036854775807) :
  Calls Tryz.prog 167 #[.string ⟨l.toArray⟩] w fun e w' => e = .returned (.bool (Lib.validD l)) ∧ Below w.heap.size w w' := by
 have cV := Tryz.utf8_ValidString ⟨l.toArray⟩ w (by simpa [ByteArray.size] using hl) hw.tabs
 simp only at cV
 generalize Lib.validD l = V at cV ⊢
 go_enter Tryz.func167, Tryz.ntmps167
 go_wp2_with (go_at_call 191; refine cV.mono ?_; rintro e w' ⟨rfl, hb⟩)
 go_ret
 exact ⟨rfl, hb⟩
def cmpB (a b : List UInt8) : Int := Lib.compareBytes a b
def runesF : Nat → List UInt8 → List Int
 | 0, _ => []
 | _ + 1, [] => []
 | n + 1, b :: l => ((Lib.decodeL (b :: l)).1 : Int) :: runesF n ((b :: l).drop (Lib.decodeL (b :: l)).2)
def runes (l : List UInt8) : List Int := runesF l.length l
def stepM (fold : Bool) (acc : List UInt8) (r : Int) : Option (List UInt8) :=
 if (mapR r).2.2 then none
 else if !(mapR r).2.1 then some acc
 else if (mapR r).1 = 32 ∧ acc.getLast? = some 32 then some acc
 else some (acc ++ encR (if fold then foldR (mapR r).1 else (mapR r).1))
def mapRunes (fold : Bool) : List Int → List UInt8 → Option (List UInt8)
 | [], acc => some acc
 | r :: rs, acc => (stepM fold acc r).bind (mapRunes fold rs)
def mappedL (l : List UInt8) (fold : Bool) : Option (List UInt8) := if Lib.validD l then mapRunes fold (runes l) [] else none
theorem decode_pos (l : List UInt8) (k : Nat) (hk : k < l.length) : Utf8.decode ⟨l.toArray⟩ k = Lib.decodeL (l.drop k) := by
 unfold Lib.decodeL
 rw [Lib.decode_at, Lib.decode_at]
 have hg : ∀ j, ((⟨l.toArray⟩ : ByteArray).get! (k + j)) = ((⟨(l.drop k).toArray⟩ : ByteArray).get! j) := by
  intro j
  simp [ByteArray.get!, Array.get!Internal, getElem!_def, List.getElem?_drop]
 have hs : (⟨l.toArray⟩ : ByteArray).size - k = (⟨(l.drop k).toArray⟩ : ByteArray).size - 0 := by simp [ByteArray.size]
 rw [hs, ← hg, ← hg, ← hg, ← hg]
 simp only [Nat.zero_add, Nat.add_zero]
open Go.RowKit
def strOr (err : Int) : Option (List UInt8) → Value
 | none => .tuple #[.string ⟨#[]⟩, .int .i64 err]
 | some m => .tuple #[.string ⟨m.toArray⟩, .int .i64 0]
theorem runesF_cons (n : Nat) (l : List UInt8) (h : l ≠ []) : runesF (n + 1) l = ((Lib.decodeL l).1 : Int) :: runesF n (l.drop (Lib.decodeL l).2) := by
 cases l with
 | nil => exact absurd rfl h
 | cons b l => rfl
theorem runesF_nil (n : Nat) : runesF n [] = [] := by cases n <;> rfl
theorem encR_len (r : Int) : 1 ≤ (encR r).length ∧ (encR r).length ≤ 4 := by
 unfold encR Utf8.encode
 dsimp only
 repeat' split
 all_goals simp
theorem decodeL_ok (l : List UInt8) (h : l ≠ []) : 1 ≤ (Lib.decodeL l).2 ∧ (Lib.decodeL l).2 ≤ l.length ∧ (Lib.decodeL l).1 ≤ 1114111 ∧ Lib.validRune ((Lib.decodeL l).1 : Int) = true := by
 refine ⟨?_, Lib.decodeL_le l h, ?_⟩
 all_goals
  rw [Lib.decodeL_N]
  have h0 : (l.getD 0 0).toNat < 256 := UInt8.toNat_lt _
  have h1 : (l.getD 1 0).toNat < 256 := UInt8.toNat_lt _
  have h2 : (l.getD 2 0).toNat < 256 := UInt8.toNat_lt _
  have h3 : (l.getD 3 0).toNat < 256 := UInt8.toNat_lt _
  generalize (l.getD 0 0).toNat = b0 at *
  generalize (l.getD 1 0).toNat = b1 at *
  generalize (l.getD 2 0).toNat = b2 at *
  generalize (l.getD 3 0).toNat = b3 at *
  rcases Lib.decodeN_shape l.length b0 b1 b2 b3 with ⟨c, e⟩ | ⟨c1, c2, c3, cv, e⟩ | ⟨c1, c2, c3, c4, cv, cs, e⟩ | ⟨c1, c2, c3, c4, c5, cv, cw, e⟩ | e
  all_goals rw [e]
  all_goals dsimp only
  all_goals first | omega | (refine ⟨by omega, ?_⟩; unfold Lib.validRune; simp; try omega)
theorem runesF_fuel : ∀ (n m : Nat) (l : List UInt8), l.length ≤ n → l.length ≤ m → runesF n l = runesF m l
 | 0, m, l, h, _ => by
  obtain rfl : l = [] := List.eq_nil_of_length_eq_zero (by omega)
  rw [runesF_nil, runesF_nil]
 | n + 1, 0, l, _, h => by
  obtain rfl : l = [] := List.eq_nil_of_length_eq_zero (by omega)
  rw [runesF_nil, runesF_nil]
 | n + 1, m + 1, l, hn, hm => by
  by_cases h : l = []
  ·subst h; rw [runesF_nil, runesF_nil]
  ·have := decodeL_ok l h
   rw [runesF_cons _ _ h, runesF_cons _ _ h, runesF_fuel n m _ (by simp; omega) (by simp; omega)]
theorem runes_step (l : List UInt8) (h : l ≠ []) : runes l = ((Lib.decodeL l).1 : Int) :: runes (l.drop (Lib.decodeL l).2) := by
 have := decodeL_ok l h
 have hp : 0 < l.length := List.length_pos_iff.2 h
 unfold runes
 rw [show l.length = (l.length - 1) + 1 by omega, runesF_cons _ _ h, runesF_fuel _ (l.drop (Lib.decodeL l).2).length _ (by simp; omega) (Nat.le_refl _)]
theorem mapR_rng (r : Int) (h0 : 0 ≤ r) (h1 : r ≤ 1114111) : 0 ≤ (mapR r).1 ∧ (mapR r).1 ≤ 1114111 ∧ ((mapR r).2.2 = false → (mapR r).2.1 = true → (mapR r).1 < 0xD800 ∨ 0xF8FF < (mapR r).1) := by
 unfold mapR
 repeat' split
 all_goals (simp only [Bool.false_eq_true, false_implies, implies_true, true_implies, and_true]; try omega)
 next h => unfold refR at h; omega
theorem foldR_rng (r : Int) (h0 : 0 ≤ r) (h1 : r ≤ 1114111) (h : r < 0xD800 ∨ 0xF8FF < r) : Lib.validRune (foldR r) = true ∧ Lib.validRune r = true := by
 unfold Lib.validRune foldR
 constructor
 ·repeat' split
  all_goals (simp; try omega)
 ·simp; try omega
set_option maxRecDepth 100000 in
theorem mapped_c (l : List UInt8) (fold : Bool) (w : World) (hw : Env w) (hl : l.length ≤ 1099511627776) :
  Calls Tryz.prog 134 #[.string ⟨l.toArray⟩, .bool fold] w fun e w' =>
   e = .returned (strOr 10 (mappedL l fold)) ∧ Below w.heap.size w w' := by
 unfold mappedL
 cases hv : Lib.validD l
 ·go_enter Tryz.func134, Tryz.ntmps134
  go_wp2_with (go_at_call 167; refine (Text_c _ _ hw (by omega)).mono ?_; rintro e w1 ⟨rfl, hb1⟩; rw [hv])
  go_ret2
  exact ⟨rfl, hb1⟩
 ·simp only [if_true]
  generalize hM : mapRunes fold (runes l) [] = M
  have HM := Lib.hid hM
  clear hM
  go_enter Tryz.func134, Tryz.ntmps134
  go_wp2_with (go_at_call 167; refine (Text_c _ _ hw (by omega)).mono ?_; rintro e w1 ⟨rfl, hb1⟩; rw [hv])
  clear hv
  go_loopg [6] l.length (fun gk v wr => ∃ (k : Nat) (acc : List UInt8), k ≤ l.length ∧ Aside (k + gk = l.length) ∧ Aside (wr.heap[w1.heap.size]? = some (.stringIter ⟨l.toArray⟩ k)) ∧ Buf w wr v acc ∧ acc.length ≤ 4 * k ∧ Aside (mapRunes fold (runes (l.drop k)) acc = M))
  case atStart =>
   refine ⟨0, [], Nat.zero_le _, Nat.zero_add _, World.iter_heap _ _ _, ?_, by simp, HM.out⟩
   exact ((Buf.nil w).grow hb1).alloc _
  case round =>
   obtain ⟨k, acc, hk, AG, AI, hbuf, hacc, AM⟩ := hrel
   have hlk : w.heap.size ≤ w1.heap.size := hb1.size
   by_cases hlt : k < l.length
   ·have hne : l.drop k ≠ [] := by intro h; have := congrArg List.length h; simp at this; omega
    obtain ⟨hn1, hn2, hr1, hr2⟩ := decodeL_ok _ hne
    have hd := decode_pos l k hlt
    have hnx := fun ty => Lib.run_next_any_at (P := Tryz.prog) wr w1.heap.size ⟨l.toArray⟩ k ty AI.out hlt
    rw [hd] at hnx
    have AM' : Aside (mapRunes fold (((Lib.decodeL (l.drop k)).1 : Int) :: runes (l.drop (k + (Lib.decodeL (l.drop k)).2))) acc = M) := by
     have := AM.out
     rw [runes_step _ hne, List.drop_drop] at this
     exact this
    have hbuf' := hbuf.iterAt (q := k + (Lib.decodeL (l.drop k)).2) AI.out hlk
    have AI' : Aside ((wr.iterAt w1.heap.size ⟨l.toArray⟩ (k + (Lib.decodeL (l.drop k)).2)).heap[w1.heap.size]? = some (.stringIter ⟨l.toArray⟩ (k + (Lib.decodeL (l.drop k)).2))) := Lib.iterAt_heap _ _ _ _ _ AI.out
    simp only [List.length_drop] at hn2
    clear hd hne AM AI
    generalize (Lib.decodeL (l.drop k)).2 = n at *
    generalize hr : (((Lib.decodeL (l.drop k)).1 : Nat) : Int) = r at *
    generalize (Lib.decodeL (l.drop k)).1 = rn at *
    obtain ⟨hm0, hm1, hm2⟩ := mapR_rng r (by omega) (by omega)
    clear hr
    generalize hW : wr.iterAt w1.heap.size ⟨l.toArray⟩ (k + n) = W at *
    clear hW
    have hcM := Map_c r W
    obtain ⟨x, st, rf, hmr⟩ : ∃ x st rf, mapR r = (x, st, rf) := ⟨_, _, _, rfl⟩
    rw [hmr] at hcM hm0 hm1 hm2
    have AS : Aside (((if rf then none else if !st then some acc else if x = 32 ∧ acc.getLast? = some 32 then some acc else some (acc ++ encR (if fold then foldR x else x))) : Option (List UInt8)).bind (mapRunes fold (runes (l.drop (k + n)))) = M) := by
     have := AM'.out
     rw [mapRunes, stepM, hmr] at this
     exact this
    have AGn : Aside (k + n + (gk - n) = l.length) := by have := AG.out; show _ = _; omega
    have hgk : n ≤ gk := by have := AG.out; omega
    have hkn : k + n ≤ l.length := by omega
    have hB := hbuf'.below
    clear hmr AM' AG hbuf
    cases rf
    ·cases st
     ·go_wp2_with (go_at_call 168; refine hcM.mono ?_; rintro e w' ⟨rfl, rfl⟩)
      go_roundg (gk - n)
      case measure => omega
      case rel => exact ⟨k + n, acc, hkn, AGn, AI', hbuf', by omega, AS.out⟩
     ·simp only [true_implies] at hm2
      by_cases hx : x = 32
      ·subst hx
       have hfo := foldR_rng 32 hm0 hm1 hm2
       have hel := encR_len 32
       have hef := encR_len (foldR 32)
       by_cases hnil : acc = []
       ·subst hnil
        have ASn : Aside (mapRunes fold (runes (l.drop (k + n))) ([] ++ encR (if fold then foldR 32 else 32)) = M) := by
         have := AS.out
         rw [if_neg (by simp), if_neg (by simp), if_neg (by simp)] at this
         exact this
        obtain ⟨Ad, cap, rfl, hcap⟩ := hbuf'.len
        clear AS
        cases fold
        all_goals
         go_wp2_with (first | (go_at_call 168; refine hcM.mono ?_; rintro e w' ⟨rfl, rfl⟩) | (go_at_call 169; refine (Fold_c _ _ hm0 hm1).mono ?_; rintro e w' ⟨rfl, rfl⟩) | (go_at_call 170; refine (PutRune_c _ _ (by first | exact hfo.1 | exact hfo.2)).mono ?_; rintro e w' ⟨rfl, rfl⟩) | (at_builtin; refine buf_text rfl _ _ rfl rfl hbuf' rfl (by first | (show 0 + (encR 32).length ≤ _; omega) | (show 0 + (encR (foldR 32)).length ≤ _; omega)) ?_; intro v' w' hbuf2 hg2))
         go_roundg (gk - n)
         case measure => omega
         case rel => exact ⟨k + n, _, hkn, AGn, hbuf'.other hg2 AI'.out (by intro c f h; cases h), hbuf2, by simp; omega, ASn.out⟩
       ·obtain ⟨g, cap, rfl, hcap, hg1, hg2, hcell⟩ := hbuf'.cell hnil
        have hpos : 0 < acc.length := List.length_pos_iff.2 hnil
        have hlast := hcell (acc.length - 1) (by omega)
        have hgl : acc.getLast? = some (acc[acc.length - 1]'(by omega)) := by rw [List.getLast?_eq_getElem?, List.getElem?_eq_getElem]
        have hac : ((acc.length : Int) - 1).toNat = acc.length - 1 := by omega
        clear hcell hnil
        by_cases h32 : acc[acc.length - 1]'(by omega) = 32
        ·have ASn : Aside (mapRunes fold (runes (l.drop (k + n))) acc = M) := by
          have := AS.out
          rw [if_neg (by simp), if_neg (by simp), if_pos ⟨rfl, by rw [hgl, h32]⟩] at this
          exact this
         rw [h32] at hlast
         clear AS hgl h32
         go_wp2_with (first | (go_at_call 168; refine hcM.mono ?_; rintro e w' ⟨rfl, rfl⟩))
         go_roundg (gk - n)
         case measure => omega
         case rel => exact ⟨k + n, _, hkn, AGn, AI'.out, hbuf', by omega, ASn.out⟩
        ·have ASn : Aside (mapRunes fold (runes (l.drop (k + n))) (acc ++ encR (if fold then foldR 32 else 32)) = M) := by
          have := AS.out
          rw [if_neg (by simp), if_neg (by simp), if_neg (by rw [hgl]; simp [h32])] at this
          exact this
         have hneq : ((acc[acc.length - 1]'(by omega)).toNat : Int) ≠ 32 := by
          intro h; exact h32 (UInt8.toNat_inj.1 (show _ = 32 by omega))
         generalize ((acc[acc.length - 1]'(by omega)).toNat : Int) = cl at hlast hneq
         have hcl : (cl == 32) = false := by simp [hneq]
         clear AS hgl h32 hneq
         cases fold
         all_goals
          go_wp2_with (first | (go_at_call 168; refine hcM.mono ?_; rintro e w' ⟨rfl, rfl⟩) | (go_at_call 169; refine (Fold_c _ _ hm0 hm1).mono ?_; rintro e w' ⟨rfl, rfl⟩) | (go_at_call 170; refine (PutRune_c _ _ (by first | exact hfo.1 | exact hfo.2)).mono ?_; rintro e w' ⟨rfl, rfl⟩) | (at_builtin; refine buf_text rfl _ _ rfl rfl hbuf' rfl (by first | (show acc.length + (encR 32).length ≤ _; omega) | (show acc.length + (encR (foldR 32)).length ≤ _; omega)) ?_; intro v' w' hbuf2 hg2))
          go_roundg (gk - n)
          case measure => omega
          case rel => exact ⟨k + n, _, hkn, AGn, hbuf'.other hg2 AI'.out (by intro c f h; cases h), hbuf2, by simp; omega, ASn.out⟩
      ·have hx1 : (x == 32) = false := by simp [hx]
       have hfo := foldR_rng x hm0 hm1 hm2
       have ASn : Aside (mapRunes fold (runes (l.drop (k + n))) (acc ++ encR (if fold then foldR x else x)) = M) := by
        have := AS.out
        rw [if_neg (by simp), if_neg (by simp), if_neg (by simp [hx])] at this
        exact this
       clear AS
       cases fold
       ·have hel := encR_len x
        go_wp2_with (first | (go_at_call 168; refine hcM.mono ?_; rintro e w' ⟨rfl, rfl⟩) | (go_at_call 170; refine (PutRune_c _ _ hfo.2).mono ?_; rintro e w' ⟨rfl, rfl⟩) | (at_builtin; refine buf_text rfl _ _ rfl rfl hbuf' rfl (show acc.length + (encR x).length ≤ _ by omega) ?_; intro v' w' hbuf2 hg2))
        go_roundg (gk - n)
        case measure => omega
        case rel => exact ⟨k + n, _, hkn, AGn, hbuf'.other hg2 AI'.out (by intro c f h; cases h), hbuf2, by simp; omega, ASn.out⟩
       ·have hel := encR_len (foldR x)
        go_wp2_with (first | (go_at_call 168; refine hcM.mono ?_; rintro e w' ⟨rfl, rfl⟩) | (go_at_call 169; refine (Fold_c _ _ hm0 hm1).mono ?_; rintro e w' ⟨rfl, rfl⟩) | (go_at_call 170; refine (PutRune_c _ _ hfo.1).mono ?_; rintro e w' ⟨rfl, rfl⟩) | (at_builtin; refine buf_text rfl _ _ rfl rfl hbuf' rfl (show acc.length + (encR (foldR x)).length ≤ _ by omega) ?_; intro v' w' hbuf2 hg2))
        go_roundg (gk - n)
        case measure => omega
        case rel => exact ⟨k + n, _, hkn, AGn, hbuf'.other hg2 AI'.out (by intro c f h; cases h), hbuf2, by simp; omega, ASn.out⟩
    ·obtain rfl : none = M := AS.out
     go_wp2_with (go_at_call 168; refine hcM.mono ?_; rintro e w' ⟨rfl, rfl⟩)
     go_ret2
     exact ⟨rfl, hB⟩
   ·obtain rfl : k = l.length := by omega
    obtain rfl : some acc = M := by have := AM.out; rw [List.drop_length] at this; exact this
    have hnx := fun ty => Lib.run_next_end_at (P := Tryz.prog) wr w1.heap.size ⟨l.toArray⟩ l.length ty AI.out (by simp [ByteArray.size])
    have hst := buf_string hbuf
    have hB := hbuf.below
    clear AM hbuf AI
    go_wp2
    go_ret2
    exact ⟨rfl, hB⟩
open Go.RowKit
def prepL (l : List UInt8) (fold : Bool) : Option (List UInt8) :=
 match mappedL l fold with
 | none => none
 | some t => if Lib.trimB t 32 = [] ∧ l ≠ [] then some [32] else some (Lib.trimB t 32)
theorem below_or {w w' : World} (h : w' = w ∨ w' = w.drew) : Below w.heap.size w w' := by
 rcases h with rfl | rfl
 ·exact Below.refl _ _
 ·exact (Below.refl _ _).drew
theorem encLen (r : List Int) (fold : Bool) : ∀ acc m, mapRunes fold r acc = some m → m.length ≤ acc.length + 4 * r.length := by
 induction r with
 | nil => intro acc m h; cases h; simp
 | cons x r ih =>
  intro acc m h
  rw [mapRunes] at h
  obtain ⟨a1, h1, h2⟩ := Option.bind_eq_some_iff.1 h
  have := ih _ _ h2
  have hl : a1.length ≤ acc.length + 4 := by
   unfold stepM at h1
   split at h1
   ·cases h1
   ·split at h1
    ·cases h1; omega
    ·split at h1
     ·cases h1; omega
     ·cases h1
      simp only [List.length_append]
      have := (encR_len (if fold then foldR (mapR x).1 else (mapR x).1)).2
      omega
  simp; omega
theorem runesF_len : ∀ (n : Nat) (l : List UInt8), (runesF n l).length ≤ n
 | 0, _ => by simp [runesF]
 | n + 1, [] => by simp [runesF]
 | n + 1, b :: l => by simp [runesF]; exact runesF_len n _
theorem mappedL_len {l m : List UInt8} {fold : Bool} (h : mappedL l fold = some m) : m.length ≤ 4 * l.length := by
 unfold mappedL at h
 split at h
 ·have := encLen _ _ _ _ h
  have h2 := runesF_len l.length l
  unfold runes at this
  simp at this; omega
 ·cases h
set_option maxRecDepth 100000 in
theorem Prepare_c (l : List UInt8) (fold : Bool) (w : World) (hw : Env w) (hl : l.length ≤ 1099511627776) :
  Calls Tryz.prog 157 #[.string ⟨l.toArray⟩, .bool fold] w fun e w' =>
   e = .returned (strOr 10 (prepL l fold)) ∧ Below w.heap.size w w' := by
 have hc := mapped_c l fold w hw hl
 unfold prepL
 rcases hm : mappedL l fold with _ | t
 ·rw [hm] at hc
  clear hm
  simp only [strOr] at hc ⊢
  go_enter Tryz.func157, Tryz.ntmps157
  go_wp2_with (go_at_call 134; refine hc.mono ?_; rintro e w1 ⟨rfl, hb1⟩)
  go_ret2
  exact ⟨rfl, hb1⟩
 ·rw [hm] at hc
  have hlen := mappedL_len hm
  clear hm
  simp only [strOr] at hc
  dsimp only
  have hT := fun w => Tryz.strings_Trim_one ⟨t.toArray⟩ 32 (by decide) w (by simp [ByteArray.size]; omega)
  simp only at hT
  generalize Lib.trimB t 32 = t' at *
  by_cases h1 : t' = []
  ·subst h1
   by_cases h2 : l = []
   ·subst h2
    simp only [ne_eq, not_true, and_false, if_false]
    go_enter Tryz.func157, Tryz.ntmps157
    go_wp2_with (first | (go_at_call 134; refine hc.mono ?_; rintro e w1 ⟨rfl, hb1⟩) | (go_at_call 120; refine (hT _).mono ?_; rintro e w2 ⟨rfl, hb2⟩))
    go_ret2
    exact ⟨rfl, hb1.trans ((below_or hb2).mono hb1.size)⟩
   ·have h3 : l.isEmpty = false := by cases l <;> simp_all
    rw [if_pos ⟨rfl, h2⟩]
    go_enter Tryz.func157, Tryz.ntmps157
    go_wp2_with (first | (go_at_call 134; refine hc.mono ?_; rintro e w1 ⟨rfl, hb1⟩) | (go_at_call 120; refine (hT _).mono ?_; rintro e w2 ⟨rfl, hb2⟩))
    go_ret2
    exact ⟨rfl, hb1.trans ((below_or hb2).mono hb1.size)⟩
  ·have h3 : t'.isEmpty = false := by cases t' <;> simp_all
   rw [if_neg (fun h => h1 h.1)]
   go_enter Tryz.func157, Tryz.ntmps157
   go_wp2_with (first | (go_at_call 134; refine hc.mono ?_; rintro e w1 ⟨rfl, hb1⟩) | (go_at_call 120; refine (hT _).mono ?_; rintro e w2 ⟨rfl, hb2⟩))
   go_ret2
   exact ⟨rfl, hb1.trans ((below_or hb2).mono hb1.size)⟩
open Go.RowKit
def orV (x y : Int) : Int := if x = 0 then y else x
/-! digits -/
def isDig (c : UInt8) : Bool := decide (48 ≤ c.toNat) && decide (c.toNat ≤ 57)
def digsL (l : List UInt8) : Bool := !l.isEmpty && l.all isDig
theorem dropWhile_nil_iff {α : Type} (p : α → Bool) (l : List α) : l.dropWhile p = [] ↔ l.all p = true := by
 induction l with
 | nil => simp
 | cons a l ih =>
  by_cases h : p a
  ·simp [List.dropWhile_cons, h, ih]
  ·simp [List.dropWhile_cons, h]
theorem trimS_nil_iff (l cs : List UInt8) : Lib.trimS l cs = [] ↔ l.all (cs.contains ·) = true := by
 unfold Lib.trimS Lib.trimLeftS Lib.trimRightS
 rw [dropWhile_nil_iff]
 constructor
 ·intro h
  by_cases h2 : (l.reverse.dropWhile (cs.contains ·)) = []
  ·rw [dropWhile_nil_iff] at h2
   simpa [List.all_reverse] using h2
  ·exfalso
   obtain ⟨x, t, hx⟩ := List.exists_cons_of_ne_nil h2
   have hh := List.head?_dropWhile_not (cs.contains ·) l.reverse
   rw [hx] at hh h
   simp at hh h
   exact absurd h.2 (by simp [hh])
 ·intro h
  have h2 : (l.reverse.dropWhile (cs.contains ·)) = [] := by rw [dropWhile_nil_iff]; simpa [List.all_reverse] using h
  rw [h2]; rfl
theorem digits_contains : (fun c : UInt8 => ([48, 49, 50, 51, 52, 53, 54, 55, 56, 57] : List UInt8).contains c) = isDig := by
 funext c
 have : ∀ n : Fin 256, ([48, 49, 50, 51, 52, 53, 54, 55, 56, 57] : List UInt8).contains (UInt8.ofNat n.val) = isDig (UInt8.ofNat n.val) := by decide +kernel
 have h := this ⟨c.toNat, UInt8.toNat_lt c⟩
 simpa using h
theorem asc_of_all {l : List UInt8} (h : l.all (fun b => decide (b.toNat < 128)) = true) : ∀ (j : Nat) b, l[j]? = some b → b.toNat < 128 :=
 fun _ b hb => of_decide_eq_true (List.all_eq_true.1 h b (List.mem_of_getElem? hb))
set_option maxRecDepth 10000 in
theorem isDigits_c (l : List UInt8) (w : World) (hl : l.length ≤ 9223372036854775807) :
  Calls Tryz.prog 183 #[.string ⟨l.toArray⟩] w fun e w' => e = .returned (.bool (digsL l)) ∧ Below w.heap.size w w' := by
 have hT := Tryz.strings_Trim_set ⟨l.toArray⟩ ⟨#[48, 49, 50, 51, 52, 53, 54, 55, 56, 57]⟩ w (by simpa [ByteArray.size] using hl) (by decide) (asc_of_all (by decide))
 simp only at hT
 have hiff := trimS_nil_iff l [48, 49, 50, 51, 52, 53, 54, 55, 56, 57]
 rw [digits_contains] at hiff
 unfold digsL
 by_cases h0 : l = []
 ·subst h0
  clear hT hiff
  go_enter Tryz.func183, Tryz.ntmps183
  go_wp2
  go_ret
  exact ⟨rfl, Below.refl _ _⟩
 ·have he : l.isEmpty = false := by cases l <;> simp_all
  rw [he]
  have Hiff := Lib.hid hiff
  clear hiff
  generalize Lib.trimS l [48, 49, 50, 51, 52, 53, 54, 55, 56, 57] = t at *
  go_enter Tryz.func183, Tryz.ntmps183
  go_wp2_with (go_at_call 120; refine hT.mono ?_; rintro e w1 ⟨rfl, hb1⟩)
  go_ret
  exact ⟨retb (by rw [Bool.eq_iff_iff]; simp only [List.isEmpty_iff, Hiff.out, Bool.not_false, Bool.true_and]), hb1⟩
/-! integers -/
def intL (l : List UInt8) : Bool :=
 let n := Lib.trimPrefix l [45]
 digsL n && decide (n.length ≤ 40) && (n.head? != some 48 || (n == [48] && !Lib.hasPrefix l [45]))
set_option maxRecDepth 10000 in
theorem isInteger_c (l : List UInt8) (w : World) (hl : l.length ≤ 65536) :
  Calls Tryz.prog 159 #[.string ⟨l.toArray⟩] w fun e w' => e = .returned (.bool (intL l)) ∧ Below w.heap.size w w' := by
 have hget := ba_get
 have hC := Tryz.strings_CutPrefix ⟨l.toArray⟩ ⟨#[45]⟩ w
 simp only at hC
 unfold intL
 dsimp only
 have hn : (Lib.trimPrefix l [45]).length ≤ 65536 := by unfold Lib.trimPrefix; split <;> (try simp) <;> omega
 generalize Lib.trimPrefix l [45] = n at *
 generalize Lib.hasPrefix l [45] = hp at *
 have hD := isDigits_c n w (by omega)
 cases hd : digsL n
 ·rw [hd] at hD
  go_enter Tryz.func159, Tryz.ntmps159
  go_wp2_with (first | (go_at_call 63; refine hC.mono ?_; rintro e w1 ⟨rfl, rfl⟩) | (go_at_call 183; refine hD.mono ?_; rintro e w1 ⟨rfl, hb1⟩))
  go_ret
  exact ⟨rfl, hb1⟩
 ·rw [hd] at hD
  by_cases h40 : n.length ≤ 40
  ·obtain ⟨c, m, rfl⟩ : ∃ c m, n = c :: m := by cases n with | nil => exact absurd hd (by decide) | cons c m => exact ⟨c, m, rfl⟩
   rw [decide_eq_true h40]
   simp only [List.length_cons] at h40
   by_cases hc : c = 48
   ·subst hc
    cases m with
    | nil =>
     cases hp
     all_goals
      go_enter Tryz.func159, Tryz.ntmps159
      go_wp2_with (first | (go_at_call 63; refine hC.mono ?_; rintro e w1 ⟨rfl, rfl⟩) | (go_at_call 183; refine hD.mono ?_; rintro e w1 ⟨rfl, hb1⟩))
      go_ret
      exact ⟨rfl, hb1⟩
    | cons c2 m =>
     simp only [List.length_cons] at h40
     have hne : (([48] : List UInt8) == 48 :: c2 :: m) = false := by simp
     have hne2 : ((48 :: c2 :: m : List UInt8) == [48]) = false := by simp
     go_enter Tryz.func159, Tryz.ntmps159
     go_wp2_with (first | (go_at_call 63; refine hC.mono ?_; rintro e w1 ⟨rfl, rfl⟩) | (go_at_call 183; refine hD.mono ?_; rintro e w1 ⟨rfl, hb1⟩))
     go_ret
     exact ⟨retb (by rw [hne2]; simp), hb1⟩
   ·have hc1 : ((c.toNat : Int) != 48) = true := by
     rw [bne_iff_ne]; intro h; exact hc (UInt8.toNat_inj.1 (show _ = 48 by omega))
    go_enter Tryz.func159, Tryz.ntmps159
    go_wp2_with (first | (go_at_call 63; refine hC.mono ?_; rintro e w1 ⟨rfl, rfl⟩) | (go_at_call 183; refine hD.mono ?_; rintro e w1 ⟨rfl, hb1⟩))
    go_ret
    exact ⟨retb (by simp [hc]), hb1⟩
  ·go_enter Tryz.func159, Tryz.ntmps159
   go_wp2_with (first | (go_at_call 63; refine hC.mono ?_; rintro e w1 ⟨rfl, rfl⟩) | (go_at_call 183; refine hD.mono ?_; rintro e w1 ⟨rfl, hb1⟩))
   go_ret
   exact ⟨retb (by simp [h40]), hb1⟩
open Go.RowKit
def numL : List UInt8 → Int → Int
 | [], n => n
 | c :: l, n => numL l (10 * n + ((c.toNat : Int) - 48))
theorem numL_rng (l : List UInt8) (h : l.all isDig = true) : ∀ n, 0 ≤ n → 0 ≤ numL l n ∧ numL l n < (n + 1) * 10 ^ l.length := by
 induction l with
 | nil => intro n hn; simp [numL]; omega
 | cons c l ih =>
  intro n hn
  simp only [List.all_cons, Bool.and_eq_true] at h
  have hc := h.1
  unfold isDig at hc
  simp at hc
  have := ih h.2 (10 * n + ((c.toNat : Int) - 48)) (by omega)
  simp only [numL]
  refine ⟨this.1, Int.lt_of_lt_of_le this.2 ?_⟩
  simp only [List.length_cons, Int.pow_succ]
  have h10 : (0 : Int) ≤ 10 ^ l.length := Int.le_of_lt (Int.pow_pos (by omega))
  calc (10 * n + ((c.toNat : Int) - 48) + 1) * 10 ^ l.length ≤ ((n + 1) * 10) * 10 ^ l.length := Int.mul_le_mul_of_nonneg_right (by omega) h10
   _ = (n + 1) * (10 ^ l.length * 10) := by rw [Int.mul_assoc, Int.mul_comm 10]
set_option maxRecDepth 10000 in
theorem number_c (l : List UInt8) (w : World) (hl : l.length ≤ 4) (hd : l.all isDig = true) :
  Calls Tryz.prog 187 #[.string ⟨l.toArray⟩] w fun e w' => e = .returned (.int .i64 (numL l 0)) ∧ w = w' := by
 have hget := ba_get
 go_enter Tryz.func187, Tryz.ntmps187
 have HD := Lib.hid hd
 clear hd
 go_wp2
 go_loopg [3, 7] l.length (fun gk n i wr => ∃ (k : Nat) (m : Int), k ≤ l.length ∧ i = .int .i64 k ∧ n = .int .i64 m ∧ 0 ≤ m ∧ m ≤ 99999 ∧ Aside (k + gk = l.length) ∧ Aside (wr = w) ∧ Aside (numL l 0 = numL (l.drop k) m) ∧ Aside (m < 10 ^ k))
 case atStart => exact ⟨0, 0, by omega, rfl, rfl, by omega, by omega, by show _ = _; omega, rfl, rfl, by show _ < _; decide⟩
 case round =>
  obtain ⟨k, m, hk, rfl, rfl, hm0, hm1, AG, AW, AN, AB⟩ := hrel
  obtain rfl : wr = w := AW.out
  by_cases hlt : k < l.length
  ·have hdk : isDig l[k] = true := List.all_eq_true.1 HD.out _ (List.getElem_mem hlt)
   have AN' : Aside (numL l 0 = numL (l.drop (k + 1)) (10 * m + ((l[k].toNat : Int) - 48))) := by
    have := AN.out
    rw [List.drop_eq_getElem_cons hlt] at this
    exact this
   unfold isDig at hdk
   simp at hdk
   have hkk : k = 0 ∨ k = 1 ∨ k = 2 ∨ k = 3 := by omega
   have hmk : m < 10 ^ k := AB.out
   have hm9 : m ≤ 999 := by rcases hkk with rfl | rfl | rfl | rfl <;> simp at hmk <;> omega
   have AB' : Aside (10 * m + ((l[k].toNat : Int) - 48) < 10 ^ (k + 1)) := by
    show _ < _
    rw [Int.pow_succ]
    omega
   obtain ⟨q, rfl⟩ : ∃ q, gk = q + 1 := ⟨gk - 1, by have := AG.out; omega⟩
   clear hkk hmk
   obtain ⟨hd1, hd2⟩ := hdk
   have hd3 : (48 : Int) ≤ (l[k].toNat : Int) := by omega
   have hd4 : (l[k].toNat : Int) ≤ 57 := by omega
   clear hd1 hd2
   go_wp2
   go_roundg q
   case measure => omega
   case rel => exact ⟨k + 1, _, by omega, by go_num, rfl, by omega, by omega, by have := AG.out; show _ = _; omega, rfl, AN'.out, AB'.out⟩
  ·obtain rfl : k = l.length := by omega
   go_wp2
   go_ret
   exact ⟨reti (by rw [AN.out, List.drop_length]; rfl), rfl⟩
end Go.Proofs.YtconnibnpckadaaGreatDoor
