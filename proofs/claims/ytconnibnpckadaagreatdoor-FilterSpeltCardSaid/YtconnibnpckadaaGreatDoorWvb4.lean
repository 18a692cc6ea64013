import Derived.Test.YtconnibnpckadaaGreatDoorWvb3
import Derived.Outline
set_option linter.all false
set_option maxHeartbeats 8000000
set_option maxRecDepth 100000
namespace Go.Proofs.YtconnibnpckadaaGreatDoor
open Go.RowKit Go.Sort
def normA (x : List UInt8 × List UInt8) : List UInt8 × List UInt8 := (smallL x.1, (prepL x.2 true).getD x.2)
def normP (p : List (List UInt8 × List UInt8)) : List (List UInt8 × List UInt8) := partN (p.map normA)
def nameN (s : List UInt8) : Option (List UInt8) := if (parseL s).1 = 0 then (if (printL ((parseL s).2.map normP)).1 = 0 then some (printL ((parseL s).2.map normP)).2 else none) else none
section
variable (Q : List UInt8 × List UInt8 → Prop) (hQ : ∀ r x r', pairR r = some (x, r') → Q x)
include hQ
end
open Go.RowKit Go.Sort
def upto (p : List (List UInt8 × List UInt8)) (j : Nat) : List (List UInt8 × List UInt8) := (p.take j).map normA ++ p.drop j
open Go.RowKit Go.Sort
def kTrue : List UInt8 := [84, 82, 85, 69]
def kFalse : List UInt8 := [70, 65, 76, 83, 69]
def boolL (v : List UInt8) : Bool := v == kTrue || v == kFalse
def textL (v : List UInt8) : Bool := !v.isEmpty && (prepL v false).isSome
def formOk (f v : List UInt8) : Bool :=
 if f = fOctets then true
 else if f = fText then textL v
 else if f = fAscii then asciiL v
 else if f = fInteger then intL v
 else if f = fBoolean then boolL v
 else if f = fName then (parseL v).1 == 0
 else if f = fOid then isTypeL v
 else if f = fTime then timeL v
 else false
def validL (f v : List UInt8) : Bool := decide (v.length ≤ 1024) && formOk f v
section
variable (f v : List UInt8) (w : World) (hw : Env w) (hv : v.length ≤ 1024)
def ValidSays (f v : List UInt8) (w : World) (b : Bool) : Prop :=
 Calls Tryz.prog 126 #[.string ⟨f.toArray⟩, .string ⟨v.toArray⟩] w fun e w' => e = .returned (.bool b) ∧ Below w.heap.size w w'
set_option maxRecDepth 100000
set_option maxHeartbeats 1000000
theorem Valid_long (hv : ¬ v.length ≤ 1024) : ValidSays f v w false := by
 unfold ValidSays
 have hv' : 1024 < v.length := by omega
 go_enter Tryz.func126, Tryz.ntmps126
 go_wp2
 go_ret
 exact ⟨rfl, Below.refl _ _⟩
include hv
theorem Valid_1 (e1 : (f == [111, 99, 116, 101, 116, 115]) = true) : ValidSays f v w true := by
 unfold ValidSays
 go_enter Tryz.func126, Tryz.ntmps126
 go_wp2
 go_ret
 exact ⟨rfl, Below.refl _ _⟩
theorem Valid_3 (e1 : (f == [111, 99, 116, 101, 116, 115]) = false) (e2 : (f == [116, 101, 120, 116]) = false) (e3 : (f == [97, 115, 99, 105, 105]) = true) : ValidSays f v w (asciiL v) := by
 unfold ValidSays
 go_enter Tryz.func126, Tryz.ntmps126
 go_wp2_with (go_at_call 158; refine (isASCII_c v _ hv).mono ?_; rintro e w' ⟨rfl, rfl⟩)
 go_ret
 exact ⟨rfl, Below.refl _ _⟩
theorem Valid_4 (e1 : (f == [111, 99, 116, 101, 116, 115]) = false) (e2 : (f == [116, 101, 120, 116]) = false) (e3 : (f == [97, 115, 99, 105, 105]) = false) (e4 : (f == [105, 110, 116, 101, 103, 101, 114]) = true) : ValidSays f v w (intL v) := by
 unfold ValidSays
 go_enter Tryz.func126, Tryz.ntmps126
 go_wp2_with (go_at_call 159; refine (isInteger_c v _ (by omega)).mono ?_; rintro e w' ⟨rfl, hb⟩)
 go_ret
 exact ⟨rfl, hb⟩
theorem Valid_5 (e1 : (f == [111, 99, 116, 101, 116, 115]) = false) (e2 : (f == [116, 101, 120, 116]) = false) (e3 : (f == [97, 115, 99, 105, 105]) = false) (e4 : (f == [105, 110, 116, 101, 103, 101, 114]) = false) (e5 : (f == [98, 111, 111, 108, 101, 97, 110]) = true) : ValidSays f v w (boolL v) := by
 unfold ValidSays boolL
 cases h1 : v == [84, 82, 85, 69] <;> cases h2 : v == [70, 65, 76, 83, 69]
 all_goals
  have h1' : (v == kTrue) = _ := h1
  have h2' : (v == kFalse) = _ := h2
  rw [h1', h2']
  clear h1' h2'
  go_enter Tryz.func126, Tryz.ntmps126
  go_wp2
  go_ret
  exact ⟨rfl, Below.refl _ _⟩
theorem Valid_8 (e1 : (f == [111, 99, 116, 101, 116, 115]) = false) (e2 : (f == [116, 101, 120, 116]) = false) (e3 : (f == [97, 115, 99, 105, 105]) = false) (e4 : (f == [105, 110, 116, 101, 103, 101, 114]) = false) (e5 : (f == [98, 111, 111, 108, 101, 97, 110]) = false) (e6 : (f == [110, 97, 109, 101]) = false) (e7 : (f == [111, 105, 100]) = false) (e8 : (f == [116, 105, 109, 101]) = true) : ValidSays f v w (timeL v) := by
 unfold ValidSays
 go_enter Tryz.func126, Tryz.ntmps126
 go_wp2_with (go_at_call 161; refine (isTime_c v _ (by omega)).mono ?_; rintro e w' ⟨rfl, hb⟩)
 go_ret
 exact ⟨rfl, hb⟩
theorem Valid_9 (e1 : (f == [111, 99, 116, 101, 116, 115]) = false) (e2 : (f == [116, 101, 120, 116]) = false) (e3 : (f == [97, 115, 99, 105, 105]) = false) (e4 : (f == [105, 110, 116, 101, 103, 101, 114]) = false) (e5 : (f == [98, 111, 111, 108, 101, 97, 110]) = false) (e6 : (f == [110, 97, 109, 101]) = false) (e7 : (f == [111, 105, 100]) = false) (e8 : (f == [116, 105, 109, 101]) = false) : ValidSays f v w false := by
 unfold ValidSays
 go_enter Tryz.func126, Tryz.ntmps126
 go_wp2
 go_ret
 exact ⟨rfl, Below.refl _ _⟩
include hw
theorem Valid_2 (e1 : (f == [111, 99, 116, 101, 116, 115]) = false) (e2 : (f == [116, 101, 120, 116]) = true) : ValidSays f v w (textL v) := by
 unfold ValidSays textL
 have hP := Prepare_c v false w hw (by omega)
 cases hp : prepL v false <;> cases hn : v.isEmpty
 all_goals
  rw [hp] at hP
  simp only [strOr] at hP
  go_enter Tryz.func126, Tryz.ntmps126
  go_wp2_with (go_at_call 157; refine hP.mono ?_; rintro e w' ⟨rfl, hb⟩)
  go_ret
  exact ⟨rfl, hb⟩
theorem Valid_6 (e1 : (f == [111, 99, 116, 101, 116, 115]) = false) (e2 : (f == [116, 101, 120, 116]) = false) (e3 : (f == [97, 115, 99, 105, 105]) = false) (e4 : (f == [105, 110, 116, 101, 103, 101, 114]) = false) (e5 : (f == [98, 111, 111, 108, 101, 97, 110]) = false) (e6 : (f == [110, 97, 109, 101]) = true) : ValidSays f v w ((parseL v).1 == 0) := by
 unfold ValidSays
 have hP := Parse_c v w hw
 generalize parseL v = ps at *
 obtain ⟨er, d⟩ := ps
 have HP := Lib.hid hP
 clear hP
 go_enter Tryz.func126, Tryz.ntmps126
 go_wp2_with (go_at_call 160; refine HP.out.mono ?_; rintro e w1 ⟨hb1, v, rfl, hd⟩; obtain ⟨A0, c0, rfl, hc0⟩ := hd.isSlice)
 go_ret
 exact ⟨rfl, hb1⟩
theorem Valid_7 (e1 : (f == [111, 99, 116, 101, 116, 115]) = false) (e2 : (f == [116, 101, 120, 116]) = false) (e3 : (f == [97, 115, 99, 105, 105]) = false) (e4 : (f == [105, 110, 116, 101, 103, 101, 114]) = false) (e5 : (f == [98, 111, 111, 108, 101, 97, 110]) = false) (e6 : (f == [110, 97, 109, 101]) = false) (e7 : (f == [111, 105, 100]) = true) : ValidSays f v w (isTypeL v) := by
 unfold ValidSays
 go_enter Tryz.func126, Tryz.ntmps126
 go_wp2_with (go_at_call 36; refine (IsType_c v _ hw (by omega)).mono ?_; rintro e w' ⟨rfl, hb⟩)
 go_ret
 exact ⟨rfl, hb⟩
end
theorem Valid_c (f v : List UInt8) (w : World) (hw : Env w) :
  Calls Tryz.prog 126 #[.string ⟨f.toArray⟩, .string ⟨v.toArray⟩] w fun e w' => e = .returned (.bool (validL f v)) ∧ Below w.heap.size w w' := by
 change ValidSays f v w (validL f v)
 unfold validL
 by_cases hv : v.length ≤ 1024
 ·rw [decide_eq_true hv, Bool.true_and]
  have no : ∀ l : List UInt8, f ≠ l → (f == l) = false := fun l h => beq_eq_false_iff_ne.2 h
  have ye : ∀ l : List UInt8, f = l → (f == l) = true := fun l h => beq_iff_eq.2 h
  unfold formOk
  by_cases h1 : f = fOctets
  ·rw [if_pos h1]; exact Valid_1 f v w hv (ye _ h1)
  rw [if_neg h1]
  by_cases h2 : f = fText
  ·rw [if_pos h2]; exact Valid_2 f v w hw hv (no _ h1) (ye _ h2)
  rw [if_neg h2]
  by_cases h3 : f = fAscii
  ·rw [if_pos h3]; exact Valid_3 f v w hv (no _ h1) (no _ h2) (ye _ h3)
  rw [if_neg h3]
  by_cases h4 : f = fInteger
  ·rw [if_pos h4]; exact Valid_4 f v w hv (no _ h1) (no _ h2) (no _ h3) (ye _ h4)
  rw [if_neg h4]
  by_cases h5 : f = fBoolean
  ·rw [if_pos h5]; exact Valid_5 f v w hv (no _ h1) (no _ h2) (no _ h3) (no _ h4) (ye _ h5)
  rw [if_neg h5]
  by_cases h6 : f = fName
  ·rw [if_pos h6]; exact Valid_6 f v w hw hv (no _ h1) (no _ h2) (no _ h3) (no _ h4) (no _ h5) (ye _ h6)
  rw [if_neg h6]
  by_cases h7 : f = fOid
  ·rw [if_pos h7]; exact Valid_7 f v w hw hv (no _ h1) (no _ h2) (no _ h3) (no _ h4) (no _ h5) (no _ h6) (ye _ h7)
  rw [if_neg h7]
  by_cases h8 : f = fTime
  ·rw [if_pos h8]; exact Valid_8 f v w hv (no _ h1) (no _ h2) (no _ h3) (no _ h4) (no _ h5) (no _ h6) (no _ h7) (ye _ h8)
  rw [if_neg h8]
  exact Valid_9 f v w hv (no _ h1) (no _ h2) (no _ h3) (no _ h4) (no _ h5) (no _ h6) (no _ h7) (no _ h8)
 ·rw [decide_eq_false hv, Bool.false_and]
  exact Valid_long f v w hv
open Go.RowKit Go.Sort
theorem normal1_c (f v : List UInt8) (a : Nat) (w : World) (hw : Env w) (hc : w.cell? ⟨a, 0, none⟩ = some (.string ⟨v.toArray⟩)) :
  Calls Tryz.prog 163 #[.string ⟨f.toArray⟩, .pointer (some ⟨a, 0, none⟩)] w fun e w' => e = .returned (.bool (validL f v)) ∧ Below w.heap.size w w' := by
 have hV := Valid_c f v w hw
 generalize validL f v = b at *
 go_enter Tryz.func163, Tryz.ntmps163
 go_wp2_with (go_at_call 126; refine hV.mono ?_; rintro e w' ⟨rfl, hb⟩)
 go_ret
 exact ⟨rfl, hb⟩
set_option maxRecDepth 10000 in
theorem forms_idx (p : List (List UInt8)) (v : Value) (w : World) (hv : Texts w v p) (hl : p.length ≤ 1000000) (a : Nat) (P : List UInt8 → Bool)
  (hF : ∀ x ∈ p, ∀ W, Below w.heap.size w W → Calls Tryz.prog 163 #[.string ⟨x.toArray⟩, .pointer (some ⟨a, 0, none⟩)] W fun e W' => e = .returned (.bool (P x)) ∧ Below W.heap.size W W') :
  Calls Tryz.prog 88 #[v, .func (.func 163) #[] #[.pointer (some ⟨a, 0, none⟩)]] w fun e w' => (∃ i : Int, e = .returned (.int .i64 i) ∧ decide (0 ≤ i) = p.any P) ∧ Below w.heap.size w w' := by
 have HF := Lib.hid hF
 clear hF
 obtain ⟨A, c, rfl, hc, hx⟩ : ∃ A c, v = .slice A p.length c ∧ p.length ≤ c ∧ (p = [] ∨ ∃ g, A = some ⟨g, 0, none⟩ ∧ g < w.heap.size ∧ ∀ j (hj : j < p.length), w.cell? ⟨g, j, none⟩ = some (.string ⟨p[j].toArray⟩)) := by
  rcases hv with ⟨rfl, rfl⟩ | ⟨b, c, rfl, h1, h2, h3⟩
  ·exact ⟨none, 0, rfl, Nat.le_refl _, .inl rfl⟩
  ·exact ⟨_, c, rfl, h1, .inr ⟨b, rfl, h2, h3⟩⟩
 have HX := Lib.hid hx
 clear hx
 go_enter Tryz.func88, Tryz.ntmps88
 go_wp2_with fail
 go_loopg [8] p.length (fun gk i wr => ∃ k : Nat, k ≤ p.length ∧ i = .int .i64 k ∧ Aside (k + gk = p.length) ∧ Below w.heap.size w wr ∧ Aside (p.any P = (p.drop k).any P))
 case atStart => exact ⟨0, by omega, rfl, by show _ = _; omega, Below.refl _ _, rfl⟩
 case round =>
  obtain ⟨k, hk, rfl, AG, hB, AS⟩ := hrel
  by_cases hlt : k < p.length
  ·obtain ⟨q, rfl⟩ : ∃ q, gk = q + 1 := ⟨gk - 1, by have := AG.out; omega⟩
   obtain ⟨g, rfl, hg, hcells⟩ := HX.out.resolve_left (by intro h; rw [h] at hlt; simp at hlt)
   have AS' : Aside (p.any P = (P p[k] || (p.drop (k + 1)).any P)) := by have := AS.out; rw [List.drop_eq_getElem_cons hlt] at this; exact this
   have c0 : wr.cell? ⟨g, k, none⟩ = some (.string ⟨p[k].toArray⟩) := (hB.cell (p := ⟨g, k, none⟩) hg).trans (hcells k hlt)
   have HC : Hid (∀ W, Below w.heap.size w W → Calls Tryz.prog 163 #[.string ⟨p[k].toArray⟩, .pointer (some ⟨a, 0, none⟩)] W fun e W' => e = .returned (.bool (P p[k])) ∧ Below W.heap.size W W') := fun W hW => HF.out p[k] (List.getElem_mem hlt) W hW
   clear hcells AS
   cases hP : P p[k]
   ·have HP := Lib.hid hP
    have HC' := HC.out
    rw [hP] at HC'
    have HC2 := Lib.hid HC'
    clear hP HC HC'
    go_wp2_with (go_at_call 163; refine (HC2.out _ hB).mono ?_; rintro e w2 ⟨rfl, hb2⟩)
    go_roundg q
    case measure => omega
    case rel => exact ⟨k + 1, by omega, by go_num, by have := AG.out; show _ = _; omega, hB.trans (hb2.mono hB.size), by have := AS'.out; rw [HP.out] at this; exact this⟩
   ·have HP := Lib.hid hP
    have HC' := HC.out
    rw [hP] at HC'
    have HC2 := Lib.hid HC'
    clear hP HC HC'
    go_wp2_with (go_at_call 163; refine (HC2.out _ hB).mono ?_; rintro e w2 ⟨rfl, hb2⟩)
    go_ret
    exact ⟨⟨k, rfl, by rw [AS'.out, HP.out]; simp⟩, hB.trans (hb2.mono hB.size)⟩
  ·obtain rfl : k = p.length := by omega
   have hs : p.any P = false := by have := AS.out; rw [List.drop_length] at this; exact this
   have Hs := Lib.hid hs
   clear hs AS
   go_wp2_with fail
   go_ret
   exact ⟨⟨-1, rfl, by rw [Hs.out]; rfl⟩, hB⟩
theorem forms_any (p : List (List UInt8)) (v : Value) (w : World) (hv : Texts w v p) (hl : p.length ≤ 1000000) (a : Nat) (P : List UInt8 → Bool)
  (hF : ∀ x ∈ p, ∀ W, Below w.heap.size w W → Calls Tryz.prog 163 #[.string ⟨x.toArray⟩, .pointer (some ⟨a, 0, none⟩)] W fun e W' => e = .returned (.bool (P x)) ∧ Below W.heap.size W W') :
  Calls Tryz.prog 43 #[v, .func (.func 163) #[] #[.pointer (some ⟨a, 0, none⟩)]] w fun e w' => e = .returned (.bool (p.any P)) ∧ Below w.heap.size w w' := by
 have hI := forms_idx p v w hv hl a P hF
 obtain ⟨A0, n0, c0, rfl⟩ := hv.isSlice
 clear hF hv
 go_enter Tryz.func43, Tryz.ntmps43
 go_wp2_with (go_at_call 88; refine hI.mono ?_; rintro e w1 ⟨⟨i, rfl, hi⟩, hb1⟩; have Hi := Lib.hid hi; clear hi)
 all_goals
  go_ret
  exact ⟨retb (by rw [← Hi.out]), hb1⟩
end Go.Proofs.YtconnibnpckadaaGreatDoor
