/- Contracts of the document's answer: chapter 5: Rules, Rule. -/
import Derived.Test.YtgpecklibcgifaaGreatDoorWr1
import Derived.Test.YtgpecklibcgifaaGreatDoorW7
import Derived.Test.YtgpecklibcgifaaGreatDoorWr2
import Derived.BigQuiet
set_option linter.all false
namespace Go.Proofs.YtgpecklibcgifaaGreatDoor
open Go.RowKit

/-- The names of the rules, as the document lists them. -/
def rnames : List (List UInt8) := [
  [111, 99, 116, 101, 116, 83, 116, 114, 105, 110, 103, 77, 97, 116, 99, 104],
  [99, 97, 115, 101, 69, 120, 97, 99, 116, 77, 97, 116, 99, 104],
  [99, 97, 115, 101, 73, 103, 110, 111, 114, 101, 77, 97, 116, 99, 104],
  [105, 110, 116, 101, 103, 101, 114, 77, 97, 116, 99, 104],
  [98, 111, 111, 108, 101, 97, 110, 77, 97, 116, 99, 104],
  [100, 105, 115, 116, 105, 110, 103, 117, 105, 115, 104, 101, 100, 78, 97, 109, 101, 77, 97, 116, 99, 104],
  [111, 98, 106, 101, 99, 116, 73, 100, 101, 110, 116, 105, 102, 105, 101, 114, 77, 97, 116, 99, 104],
  [103, 101, 110, 101, 114, 97, 108, 105, 122, 101, 100, 84, 105, 109, 101, 77, 97, 116, 99, 104],
  [111, 99, 116, 101, 116, 83, 116, 114, 105, 110, 103, 79, 114, 100, 101, 114, 105, 110, 103, 77, 97, 116, 99, 104],
  [99, 97, 115, 101, 69, 120, 97, 99, 116, 79, 114, 100, 101, 114, 105, 110, 103, 77, 97, 116, 99, 104],
  [99, 97, 115, 101, 73, 103, 110, 111, 114, 101, 79, 114, 100, 101, 114, 105, 110, 103, 77, 97, 116, 99, 104],
  [105, 110, 116, 101, 103, 101, 114, 79, 114, 100, 101, 114, 105, 110, 103, 77, 97, 116, 99, 104],
  [103, 101, 110, 101, 114, 97, 108, 105, 122, 101, 100, 84, 105, 109, 101, 79, 114, 100, 101, 114, 105, 110, 103, 77, 97, 116, 99, 104],
  [99, 97, 115, 101, 69, 120, 97, 99, 116, 83, 117, 98, 115, 116, 114, 105, 110, 103, 115, 77, 97, 116, 99, 104],
  [99, 97, 115, 101, 73, 103, 110, 111, 114, 101, 83, 117, 98, 115, 116, 114, 105, 110, 103, 115, 77, 97, 116, 99, 104]]
def rkind (i : Nat) : Int := if i < 8 then 0 else if i < 13 then 1 else 2
/-- The document's rule of a name with small letters. -/
def rgo (n : List UInt8) : Nat → List (List UInt8) → List UInt8 × Int
  | _, [] => ([], 0)
  | i, x :: xs => if smallL x = n then (x, rkind i) else rgo n (i + 1) xs
def refRule (n : List UInt8) : List UInt8 × Int := rgo n 0 rnames
theorem rnames_len : rnames.length = 15 := by decide
set_option maxRecDepth 10000 in
set_option maxHeartbeats 400000 in
theorem Rules_r (w : World) :
    Calls Tryz.prog 14 #[] w fun e w' => e = .returned (.slice (some ⟨w.heap.size, 0, none⟩) 15 15) ∧ w.alloc (.cells (rnames.map strV).toArray 9) = w' := by
  go_enter Tryz.func14, Tryz.ntmps14
  go_wp2
  go_ret
  exact ⟨rfl, rfl⟩
theorem rules_cell (w : World) (j : Nat) (hj : j < rnames.length) : (w.alloc (.cells (rnames.map strV).toArray 9)).cell? ⟨w.heap.size, j, none⟩ = some (.string ⟨rnames[j].toArray⟩) := by
  rw [(Bk.new w 9 (rnames.map strV).toArray).cell j]
  simp [hj, strV]
def strInt (x : List UInt8 × Int) : Value := .tuple #[.string ⟨x.1.toArray⟩, .int .i64 x.2]
theorem rgo_hit {n : List UInt8} {k : Nat} (hk : k < rnames.length) (h : smallL rnames[k] = n) : rgo n k (rnames.drop k) = (rnames[k], rkind k) := by
  rw [List.drop_eq_getElem_cons hk, rgo, if_pos h]
theorem rgo_miss {n : List UInt8} {k : Nat} (hk : k < rnames.length) (h : smallL rnames[k] ≠ n) : rgo n k (rnames.drop k) = rgo n (k + 1) (rnames.drop (k + 1)) := by
  rw [List.drop_eq_getElem_cons hk, rgo, if_neg h]
theorem rnames_short : ∀ x ∈ rnames, x.length ≤ 140737488351232 := by decide
set_option maxRecDepth 10000 in
set_option maxHeartbeats 1000000 in
theorem rRule_r (n : List UInt8) (w : World) (hn : n.length ≤ 140737488351232) :
    Calls Tryz.prog 27 #[.string ⟨n.toArray⟩] w fun e w' => e = .returned (strInt (refRule (smallL n))) ∧ Below w.heap.size w w' := by
  obtain ⟨R, hR⟩ : ∃ R, refRule (smallL n) = R := ⟨_, rfl⟩
  rw [hR]
  have HR := Lib.hid hR
  clear hR
  go_enter Tryz.func27, Tryz.ntmps27
  go_wp2_with (go_at_call 14; refine (Rules_r w).mono ?_; rintro e w1 ⟨rfl, h1⟩)
  have hB1 : Below w.heap.size w w1 := h1 ▸ (Below.refl _ _).alloc (Nat.le_refl _) _
  have hsz : w1.heap.size = w.heap.size + 1 := by rw [← h1]; simp
  have HC := Lib.hid (fun j (hj : j < rnames.length) => h1 ▸ rules_cell w j hj)
  clear h1
  go_loopg [5] 15 (fun gk i wr => ∃ k : Nat, k ≤ 15 ∧ i = .int .i64 k ∧ Aside (k + gk = 15) ∧ Below w1.heap.size w1 wr ∧ Aside (R = rgo (smallL n) k (rnames.drop k)))
  case atStart => exact ⟨0, by omega, rfl, by show _ = _; omega, Below.refl _ _, HR.out.symm⟩
  case round =>
    obtain ⟨k, hk, rfl, AG, hB, AT⟩ := hrel
    by_cases hlt : k < 15
    · obtain ⟨q, rfl⟩ : ∃ q, gk = q + 1 := ⟨gk - 1, by have := AG.out; omega⟩
      have hkl : k < rnames.length := hlt
      have fc : wr.cell? ⟨w.heap.size, k, none⟩ = some (.string ⟨rnames[k].toArray⟩) := (hB.cell (p := ⟨w.heap.size, k, none⟩) (by simp; omega)).trans (HC.out k hkl)
      have hxl : rnames[k].length ≤ 140737488351232 := rnames_short _ (List.getElem_mem _)
      have HL : Hid (∀ (l : List UInt8) (W : World), l.length ≤ 140737488351232 → Below wr.heap.size wr W → Calls Tryz.prog 44 #[.string ⟨l.toArray⟩] W fun e w' => e = .returned (.string ⟨(smallL l).toArray⟩) ∧ Below wr.heap.size wr w') :=
        fun l W hl hW => (Lower_r l W hl).mono fun e w' ⟨he, hb⟩ => ⟨he, hW.trans (hb.mono hW.size)⟩
      have hit := rgo_hit (n := smallL n) hkl
      have miss := rgo_miss (n := smallL n) hkl
      have hszr := hB.size
      have HIT := Lib.hid hit
      have MISS := Lib.hid miss
      clear hit miss
      generalize rnames[k] = x at *
      have HB0 := Lib.hid (show Below wr.heap.size wr (wr.drewN 1) from (Below.refl _ _).drew)
      have hw0 : w.heap.size < wr.heap.size := by omega
      by_cases hx : smallL x = smallL n
      · have hbq : (smallL x == smallL n) = true := beq_iff_eq.2 hx
        have hRx : R = (x, rkind k) := AT.out.trans (HIT.out hx)
        have HRx := Lib.hid hRx
        clear hx hRx AT HIT MISS
        go_wp2_with (go_at_call 44; refine (HL.out _ _ (by first | exact hxl | exact hn) (by first | exact hA | exact (Below.refl _ _) | exact HB0.out)).mono ?_; rintro e wA ⟨rfl, hA⟩; have fA : wA.cell? ⟨w.heap.size, k, none⟩ = some (.string ⟨x.toArray⟩) := (hA.cell (p := ⟨w.heap.size, k, none⟩) hw0).trans fc)
        all_goals
          go_ret2
          refine ⟨?_, hB1.trans ((hB.trans (hA.mono hB.size)).mono hB1.size)⟩
          rw [HRx.out]
          first
            | (have e : rkind k = 0 := if_pos (by omega)
               rw [e]; rfl)
            | (have e : rkind k = 1 := (if_neg (by omega)).trans (if_pos (by omega))
               rw [e]; rfl)
            | (have e : rkind k = 2 := (if_neg (by omega)).trans (if_neg (by omega))
               rw [e]; rfl)
      · have hbq : (smallL x == smallL n) = false := beq_eq_false_iff_ne.2 hx
        have AT' : Aside (R = rgo (smallL n) (k + 1) (rnames.drop (k + 1))) := AT.out.trans (MISS.out hx)
        clear hx AT HIT MISS
        go_wp2_with (go_at_call 44; refine (HL.out _ _ (by first | exact hxl | exact hn) (by first | exact hA | exact (Below.refl _ _) | exact HB0.out)).mono ?_; rintro e wA ⟨rfl, hA⟩; have fA : wA.cell? ⟨w.heap.size, k, none⟩ = some (.string ⟨x.toArray⟩) := (hA.cell (p := ⟨w.heap.size, k, none⟩) hw0).trans fc)
        all_goals
          go_wp2_with fail
          go_roundg q
          case measure => omega
          case rel => exact ⟨k + 1, by omega, by go_num, by have := AG.out; show _ = _; omega, hB.trans (hA.mono hB.size), AT'.out⟩
    · obtain rfl : k = 15 := by omega
      have hRx : R = ([], 0) := AT.out
      have HRx := Lib.hid hRx
      clear hRx AT
      go_wp2_with fail
      go_ret2
      exact ⟨by rw [HRx.out]; rfl, hB1.trans (hB.mono hB1.size)⟩
end Go.Proofs.YtgpecklibcgifaaGreatDoor
/- Contracts of the document's answer: chapter 5: Base, Of. -/
namespace Go.Proofs.YtgpecklibcgifaaGreatDoor
open Go.RowKit

/-- The rule of equality that a rule goes by. -/
def baseOf (own : List UInt8) : List UInt8 :=
  if own == [111, 99, 116, 101, 116, 83, 116, 114, 105, 110, 103, 79, 114, 100, 101, 114, 105, 110, 103, 77, 97, 116, 99, 104] then [111, 99, 116, 101, 116, 83, 116, 114, 105, 110, 103, 77, 97, 116, 99, 104] else
  if own == [99, 97, 115, 101, 69, 120, 97, 99, 116, 79, 114, 100, 101, 114, 105, 110, 103, 77, 97, 116, 99, 104] then [99, 97, 115, 101, 69, 120, 97, 99, 116, 77, 97, 116, 99, 104] else
  if own == [99, 97, 115, 101, 69, 120, 97, 99, 116, 83, 117, 98, 115, 116, 114, 105, 110, 103, 115, 77, 97, 116, 99, 104] then [99, 97, 115, 101, 69, 120, 97, 99, 116, 77, 97, 116, 99, 104] else
  if own == [99, 97, 115, 101, 73, 103, 110, 111, 114, 101, 79, 114, 100, 101, 114, 105, 110, 103, 77, 97, 116, 99, 104] then [99, 97, 115, 101, 73, 103, 110, 111, 114, 101, 77, 97, 116, 99, 104] else
  if own == [99, 97, 115, 101, 73, 103, 110, 111, 114, 101, 83, 117, 98, 115, 116, 114, 105, 110, 103, 115, 77, 97, 116, 99, 104] then [99, 97, 115, 101, 73, 103, 110, 111, 114, 101, 77, 97, 116, 99, 104] else
  if own == [105, 110, 116, 101, 103, 101, 114, 79, 114, 100, 101, 114, 105, 110, 103, 77, 97, 116, 99, 104] then [105, 110, 116, 101, 103, 101, 114, 77, 97, 116, 99, 104] else
  if own == [103, 101, 110, 101, 114, 97, 108, 105, 122, 101, 100, 84, 105, 109, 101, 79, 114, 100, 101, 114, 105, 110, 103, 77, 97, 116, 99, 104] then [103, 101, 110, 101, 114, 97, 108, 105, 122, 101, 100, 84, 105, 109, 101, 77, 97, 116, 99, 104] else
  own
def refBase (n : List UInt8) : List UInt8 := baseOf (refRule (smallL n)).1
set_option maxRecDepth 10000 in
set_option maxHeartbeats 1000000 in
theorem Base_r (n : List UInt8) (w : World) (hn : n.length ≤ 140737488351232) :
    Calls Tryz.prog 45 #[.string ⟨n.toArray⟩] w fun e w' => e = .returned (.string ⟨(refBase n).toArray⟩) ∧ Below w.heap.size w w' := by
  obtain ⟨R, hR⟩ : ∃ R, refBase n = R := ⟨_, rfl⟩
  rw [hR]
  have HR := Lib.hid hR
  clear hR
  obtain ⟨o, k, hk⟩ : ∃ o k, refRule (smallL n) = (o, k) := ⟨_, _, rfl⟩
  have HK := Lib.hid hk
  have HC := Lib.hid ((rRule_r n w hn))
  rw [hk] at HC
  clear hk
  go_enter Tryz.func45, Tryz.ntmps45
  go_wp2_with (go_at_call 27; refine HC.out.mono ?_; rintro e w1 ⟨rfl, h1⟩; unfold strInt)
  all_goals
    go_ret
    refine ⟨?_, h1⟩
    rw [← HR.out, refBase, HK.out]
    simp_all [baseOf]
/-- Is a rule of a form? -/
def ofB (b f : List UInt8) : Bool :=
  if b == [111, 99, 116, 101, 116, 83, 116, 114, 105, 110, 103, 77, 97, 116, 99, 104] then f == [111, 99, 116, 101, 116, 115] else
  if b == [99, 97, 115, 101, 69, 120, 97, 99, 116, 77, 97, 116, 99, 104] || b == [99, 97, 115, 101, 73, 103, 110, 111, 114, 101, 77, 97, 116, 99, 104] then f == [116, 101, 120, 116] || f == [97, 115, 99, 105, 105] else
  if b == [105, 110, 116, 101, 103, 101, 114, 77, 97, 116, 99, 104] then f == [105, 110, 116, 101, 103, 101, 114] else
  if b == [98, 111, 111, 108, 101, 97, 110, 77, 97, 116, 99, 104] then f == [98, 111, 111, 108, 101, 97, 110] else
  if b == [100, 105, 115, 116, 105, 110, 103, 117, 105, 115, 104, 101, 100, 78, 97, 109, 101, 77, 97, 116, 99, 104] then f == [110, 97, 109, 101] else
  if b == [111, 98, 106, 101, 99, 116, 73, 100, 101, 110, 116, 105, 102, 105, 101, 114, 77, 97, 116, 99, 104] then f == [111, 105, 100] else
  if b == [103, 101, 110, 101, 114, 97, 108, 105, 122, 101, 100, 84, 105, 109, 101, 77, 97, 116, 99, 104] then f == [116, 105, 109, 101] else
  false
set_option maxRecDepth 10000 in
set_option maxHeartbeats 1000000 in
theorem Of_r (n f : List UInt8) (w : World) (hn : n.length ≤ 140737488351232) :
    Calls Tryz.prog 41 #[.string ⟨n.toArray⟩, .string ⟨f.toArray⟩] w fun e w' => e = .returned (.bool (ofB (refBase n) f)) ∧ Below w.heap.size w w' := by
  obtain ⟨R, hR⟩ : ∃ R, ofB (refBase n) f = R := ⟨_, rfl⟩
  rw [hR]
  have HR := Lib.hid hR
  clear hR
  have HC := Lib.hid (Base_r n w hn)
  generalize refBase n = b at *
  go_enter Tryz.func41, Tryz.ntmps41
  go_wp2_with (go_at_call 45; refine HC.out.mono ?_; rintro e w1 ⟨rfl, h1⟩)
  all_goals
    go_ret
    refine ⟨?_, h1⟩
    rw [← HR.out]
    simp_all [ofB]
end Go.Proofs.YtgpecklibcgifaaGreatDoor
/- Contracts of the document's answer: chapter 5: Valid at its plain forms. -/
namespace Go.Proofs.YtgpecklibcgifaaGreatDoor
open Go.RowKit Go.Sort

section
variable (f v : List UInt8) (w : World) (hv : v.length ≤ 1024)
def RValidSays (f v : List UInt8) (w : World) (b : Bool) : Prop :=
  Calls Tryz.prog 23 #[.string ⟨f.toArray⟩, .string ⟨v.toArray⟩] w fun e w' => e = .returned (.bool b) ∧ Below w.heap.size w w'
set_option maxRecDepth 100000
set_option maxHeartbeats 1000000
theorem RValid_long (hv : ¬ v.length ≤ 1024) : RValidSays f v w false := by
  unfold RValidSays
  have hv' : 1024 < v.length := by omega
  go_enter Tryz.func23, Tryz.ntmps23
  go_wp2
  go_ret
  exact ⟨rfl, Below.refl _ _⟩
include hv
theorem RValid_1 (e1 : (f == [111, 99, 116, 101, 116, 115]) = true) : RValidSays f v w true := by
  unfold RValidSays
  go_enter Tryz.func23, Tryz.ntmps23
  go_wp2
  go_ret
  exact ⟨rfl, Below.refl _ _⟩
theorem RValid_2 (e1 : (f == [111, 99, 116, 101, 116, 115]) = false) (e2 : (f == [116, 101, 120, 116]) = true) : RValidSays f v w (textL v) := by
  unfold RValidSays textL
  have HP := Lib.hid (Prepare_r v false w (by omega))
  generalize prepL v false = o at *
  cases o with
  | none =>
    go_enter Tryz.func23, Tryz.ntmps23
    go_wp2_with (go_at_call 42; refine HP.out.mono ?_; rintro e w1 ⟨rfl, hb⟩; unfold strOr)
    all_goals
      go_ret
      refine ⟨retb ?_, hb⟩
      simp
  | some m =>
    cases v with
    | nil =>
      go_enter Tryz.func23, Tryz.ntmps23
      go_wp2_with (go_at_call 42; refine HP.out.mono ?_; rintro e w1 ⟨rfl, hb⟩; unfold strOr)
      all_goals
        go_ret
        refine ⟨retb ?_, hb⟩
        rfl
    | cons c t =>
      have e3 : (c :: t != []) = true := rfl
      have e4 : (c :: t == []) = false := rfl
      generalize hV : c :: t = v at *
      have hne : v.isEmpty = false := by rw [← hV]; rfl
      clear hV
      go_enter Tryz.func23, Tryz.ntmps23
      go_wp2_with (go_at_call 42; refine HP.out.mono ?_; rintro e w1 ⟨rfl, hb⟩; unfold strOr)
      all_goals
        go_ret
        refine ⟨retb ?_, hb⟩
        simp_all
theorem RValid_3 (e1 : (f == [111, 99, 116, 101, 116, 115]) = false) (e2 : (f == [116, 101, 120, 116]) = false) (e3 : (f == [97, 115, 99, 105, 105]) = true) : RValidSays f v w (asciiL v) := by
  unfold RValidSays
  have hget := ba_get
  obtain ⟨R, hR⟩ : ∃ R, asciiL v = R := ⟨_, rfl⟩
  rw [hR]
  have HR := Lib.hid hR
  clear hR
  go_enter Tryz.func23, Tryz.ntmps23
  go_wp2
  go_loop [7] (fun i => ∃ k : Nat, k ≤ v.length ∧ i = .int .i64 k ∧ Hid (R = asciiL (v.drop k))) (fun i => v.length - (intOf i).toNat)
  case atStart => exact ⟨0, Nat.zero_le _, rfl, Lib.hid HR.out.symm⟩
  case round =>
    obtain ⟨k, hk, rfl, HI⟩ := hrel
    by_cases hlt : k < v.length
    · by_cases hc : v[k].toNat < 128
      · have HI' : Hid (R = asciiL (v.drop (k+1))) := Lib.hid (by rw [HI.out, List.drop_eq_getElem_cons hlt]; simp [asciiL, hc])
        go_wp2
        go_round
        case rel => exact ⟨k + 1, by omega, by go_num, HI'⟩
        case measure => simp [intOf]; omega
      · go_wp2
        go_ret
        exact ⟨retb (by rw [HI.out, List.drop_eq_getElem_cons hlt]; simp [asciiL, hc]), Below.refl _ _⟩
    · go_wp2
      go_ret
      exact ⟨retb (by rw [HI.out, List.drop_eq_nil_of_le (by omega)]; simp [asciiL]), Below.refl _ _⟩
theorem RValid_5 (e1 : (f == [111, 99, 116, 101, 116, 115]) = false) (e2 : (f == [116, 101, 120, 116]) = false) (e3 : (f == [97, 115, 99, 105, 105]) = false) (e4 : (f == [105, 110, 116, 101, 103, 101, 114]) = false) (e5 : (f == [98, 111, 111, 108, 101, 97, 110]) = true) : RValidSays f v w (boolL v) := by
  unfold RValidSays boolL
  cases h1 : v == [84, 82, 85, 69] <;> cases h2 : v == [70, 65, 76, 83, 69]
  all_goals
    have h1' : (v == kTrue) = _ := h1
    have h2' : (v == kFalse) = _ := h2
    rw [h1', h2']
    clear h1' h2'
    go_enter Tryz.func23, Tryz.ntmps23
    go_wp2
    go_ret
    exact ⟨rfl, Below.refl _ _⟩
end
end Go.Proofs.YtgpecklibcgifaaGreatDoor
/- Contracts of the document's answer: chapter 5: Norm by the rules of text. -/
namespace Go.Proofs.YtgpecklibcgifaaGreatDoor
open Go.RowKit Go.Sort

def fforms : List (List UInt8) := [fOctets, fText, fAscii, fInteger, fBoolean, fName, fOid, fTime]
theorem fforms_len : fforms.length = 8 := by decide
def nTextRule (fold : Bool) : List UInt8 := bif fold then [99, 97, 115, 101, 73, 103, 110, 111, 114, 101, 77, 97, 116, 99, 104] else [99, 97, 115, 101, 69, 120, 97, 99, 116, 77, 97, 116, 99, 104]
theorem refBase_text (fold : Bool) : refBase (nTextRule fold) = nTextRule fold := by cases fold <;> decide +kernel
theorem refRule_text (fold : Bool) : refRule (smallL (nTextRule fold)) = (nTextRule fold, 0) := by cases fold <;> decide +kernel
def okForms (P : List UInt8 → Bool) (k : Nat) : Bool := (fforms.take k).any P
theorem okForms_step (P : List UInt8 → Bool) {k : Nat} (hk : k < fforms.length) : okForms P (k + 1) = (okForms P k || P fforms[k]) := by
  unfold okForms
  rw [List.take_succ_eq_append_getElem hk, List.any_append]
  simp
theorem ofText (fold : Bool) : ∀ k (hk : k < fforms.length), ofB (nTextRule fold) fforms[k] = true → fforms[k] = fText ∨ fforms[k] = fAscii := by
  cases fold <;> decide +kernel
theorem forms_cell (w : World) (j : Nat) (hj : j < fforms.length) : (w.alloc (.cells (fforms.map strV).toArray 9)).cell? ⟨w.heap.size, j, none⟩ = some (.string ⟨fforms[j].toArray⟩) := by
  rw [(Bk.new w 9 (fforms.map strV).toArray).cell j]
  simp [hj, strV]
theorem nText_len (fold : Bool) : (nTextRule fold).length ≤ 140737488351232 := by cases fold <;> decide
/-- What the document's Norm hands back by a rule of text. -/
def refNormT (fold : Bool) (v : List UInt8) : Value :=
  bif okForms (fun f => ofB (nTextRule fold) f && validL f v) 8 then strOr 10 (prepL v fold) else strOr 40 none
theorem RValid_text (fold : Bool) (v : List UInt8) (W : World) (k : Nat) (hk : k < fforms.length) (h : ofB (nTextRule fold) fforms[k] = true) : RValidSays fforms[k] v W (validL fforms[k] v) := by
  unfold validL
  by_cases hv : v.length ≤ 1024
  · rw [decide_eq_true hv, Bool.true_and]
    rcases ofText fold k hk h with e | e
    · rw [e]; exact RValid_2 _ v W hv (by decide) (by decide)
    · rw [e]; exact RValid_3 _ v W hv (by decide) (by decide) (by decide)
  · rw [decide_eq_false hv, Bool.false_and]
    exact RValid_long _ v W hv
set_option maxRecDepth 100000 in
set_option maxHeartbeats 2000000 in
theorem rNormT_r (fold : Bool) (v : List UInt8) (w : World) :
    Calls Tryz.prog 16 #[.string ⟨(nTextRule fold).toArray⟩, .string ⟨v.toArray⟩] w fun e w' => e = .returned (refNormT fold v) ∧ Below w.heap.size w w' := by
  obtain ⟨R, hR⟩ : ∃ R, refNormT fold v = R := ⟨_, rfl⟩
  rw [hR]
  have HR := Lib.hid hR
  clear hR
  have HC := Lib.hid (rRule_r (nTextRule fold) w (nText_len fold))
  rw [refRule_text] at HC
  have ne1 : (nTextRule fold == []) = false := by cases fold <;> rfl
  have HOf := Lib.hid (fun f W => Of_r (nTextRule fold) f W (nText_len fold))
  rw [refBase_text] at HOf
  have HV := Lib.hid (fun W k hk h => RValid_text fold v W k hk h)
  have HPre := Lib.hid (fun W => fun (hv : v.length ≤ 1024) => Prepare_r v fold W (by omega))
  have hsw : (nTextRule fold == [99, 97, 115, 101, 69, 120, 97, 99, 116, 77, 97, 116, 99, 104]) = !fold := by cases fold <;> rfl
  have hsw2 : (nTextRule fold == [99, 97, 115, 101, 73, 103, 110, 111, 114, 101, 77, 97, 116, 99, 104]) = fold := by cases fold <;> rfl
  unfold refNormT at HR
  have HST := Lib.hid (fun k (hk : k < fforms.length) => okForms_step (fun f => ofB (nTextRule fold) f && validL f v) hk)
  generalize hQ : (fun f => ofB (nTextRule fold) f && validL f v) = Q at HR HST
  have HQ := Lib.hid (fun f => congrFun hQ f)
  clear hQ
  generalize nTextRule fold = own at *
  go_enter Tryz.func16, Tryz.ntmps16
  go_wp2_with (go_at_call 27; refine HC.out.mono ?_; rintro e w1 ⟨rfl, h1⟩; unfold strInt)
  have hc0 : ∀ W, w1.alloc (.cells #[.string ⟨#[111, 99, 116, 101, 116, 115]⟩, .string ⟨#[116, 101, 120, 116]⟩, .string ⟨#[97, 115, 99, 105, 105]⟩, .string ⟨#[105, 110, 116, 101, 103, 101, 114]⟩, .string ⟨#[98, 111, 111, 108, 101, 97, 110]⟩, .string ⟨#[110, 97, 109, 101]⟩, .string ⟨#[111, 105, 100]⟩, .string ⟨#[116, 105, 109, 101]⟩] 9) = W → Hid (∀ k (hk : k < fforms.length), W.cell? ⟨w1.heap.size, k, none⟩ = some (.string ⟨fforms[k].toArray⟩)) := fun W hW => Lib.hid fun k hk => hW ▸ forms_cell w1 k hk
  have hB1 : Below w.heap.size w (w1.alloc (.cells #[.string ⟨#[111, 99, 116, 101, 116, 115]⟩, .string ⟨#[116, 101, 120, 116]⟩, .string ⟨#[97, 115, 99, 105, 105]⟩, .string ⟨#[105, 110, 116, 101, 103, 101, 114]⟩, .string ⟨#[98, 111, 111, 108, 101, 97, 110]⟩, .string ⟨#[110, 97, 109, 101]⟩, .string ⟨#[111, 105, 100]⟩, .string ⟨#[116, 105, 109, 101]⟩] 9)) := h1.alloc h1.size _
  have hsz1 : (w1.alloc (.cells #[.string ⟨#[111, 99, 116, 101, 116, 115]⟩, .string ⟨#[116, 101, 120, 116]⟩, .string ⟨#[97, 115, 99, 105, 105]⟩, .string ⟨#[105, 110, 116, 101, 103, 101, 114]⟩, .string ⟨#[98, 111, 111, 108, 101, 97, 110]⟩, .string ⟨#[110, 97, 109, 101]⟩, .string ⟨#[111, 105, 100]⟩, .string ⟨#[116, 105, 109, 101]⟩] 9)).heap.size = w1.heap.size + 1 := by simp
  generalize hW2 : w1.alloc (.cells #[.string ⟨#[111, 99, 116, 101, 116, 115]⟩, .string ⟨#[116, 101, 120, 116]⟩, .string ⟨#[97, 115, 99, 105, 105]⟩, .string ⟨#[105, 110, 116, 101, 103, 101, 114]⟩, .string ⟨#[98, 111, 111, 108, 101, 97, 110]⟩, .string ⟨#[110, 97, 109, 101]⟩, .string ⟨#[111, 105, 100]⟩, .string ⟨#[116, 105, 109, 101]⟩] 9) = w2 at *
  have HCell := hc0 w2 rfl
  clear hc0 hW2 HC
  go_loopg [9, 10] 8 (fun gk b i wr => ∃ (k : Nat) (ok : Bool), k ≤ 8 ∧ i = .int .i64 k ∧ b = .bool ok ∧ Aside (k + gk = 8) ∧ Below w2.heap.size w2 wr ∧ Aside (ok = okForms Q k))
  case atStart => exact ⟨0, false, by omega, rfl, rfl, by show _ = _; omega, Below.refl _ _, rfl⟩
  case round =>
    obtain ⟨k, ok, hk, rfl, rfl, AG, hB, AT⟩ := hrel
    by_cases hlt : k < 8
    · obtain ⟨q, rfl⟩ : ∃ q, gk = q + 1 := ⟨gk - 1, by have := AG.out; omega⟩
      have hkl : k < fforms.length := hlt
      have fc : wr.cell? ⟨w1.heap.size, k, none⟩ = some (.string ⟨fforms[k].toArray⟩) := (hB.cell (p := ⟨w1.heap.size, k, none⟩) (by simp; omega)).trans (HCell.out k hkl)
      have hw0 : w1.heap.size < wr.heap.size := by have := hB.size; omega
      have HS := Lib.hid (HST.out k hkl)
      have HVk := Lib.hid (fun W h => HV.out W k hkl h)
      have HQk := HQ.out fforms[k]
      have HOk := Lib.hid (fun W => HOf.out fforms[k] W)
      generalize fforms[k] = x at *
      generalize hbo : ofB own x = bo at *
      generalize hbp : validL x v = bp at *
      generalize Q x = qx at *
      clear hbo hbp
      have HOB : Hid (∀ (W : World), Below wr.heap.size wr W → Calls Tryz.prog 41 #[.string ⟨own.toArray⟩, .string ⟨x.toArray⟩] W fun e w' => e = .returned (.bool bo) ∧ Below wr.heap.size wr w') :=
        fun W hW => (HOk.out W).mono fun e w' ⟨he, hb⟩ => ⟨he, hW.trans (hb.mono hW.size)⟩
      have HVB : Hid (∀ (W : World), Below wr.heap.size wr W → bo = true → Calls Tryz.prog 23 #[.string ⟨x.toArray⟩, .string ⟨v.toArray⟩] W fun e w' => e = .returned (.bool bp) ∧ Below wr.heap.size wr w') :=
        fun W hW hbo => (HVk.out W hbo).mono fun e w' ⟨he, hb⟩ => ⟨he, hW.trans (hb.mono hW.size)⟩
      subst HQk
      clear HOk HVk HPre HST HQ HOf HV
      cases ok
      · cases bo
        · have hok' : okForms Q (k + 1) = false := by rw [HS.out, ← AT.out]; rfl
          have HOK := Lib.hid hok'
          clear hok' AT HS
          go_wp2_with (first | (go_at_call 41; refine (HOB.out _ (by first | exact hA | exact (Below.refl _ _))).mono ?_; rintro e wA ⟨rfl, hA⟩; have fA : wA.cell? ⟨w1.heap.size, k, none⟩ = some (.string ⟨x.toArray⟩) := (hA.cell (p := ⟨w1.heap.size, k, none⟩) hw0).trans fc) | (go_at_call 23; refine (HVB.out _ hA (by simp)).mono ?_; rintro e wB ⟨rfl, hA⟩))
          go_roundg q
          case measure => omega
          case rel => exact ⟨k + 1, false, by omega, by go_num, rfl, by have := AG.out; show _ = _; omega, hB.trans (hA.mono hB.size), HOK.out.symm⟩
        · have hok' : okForms Q (k + 1) = bp := by rw [HS.out, ← AT.out]; simp
          have HOK := Lib.hid hok'
          clear hok' AT HS
          go_wp2_with (first | (go_at_call 41; refine (HOB.out _ (by first | exact hA | exact (Below.refl _ _))).mono ?_; rintro e wA ⟨rfl, hA⟩; have fA : wA.cell? ⟨w1.heap.size, k, none⟩ = some (.string ⟨x.toArray⟩) := (hA.cell (p := ⟨w1.heap.size, k, none⟩) hw0).trans fc) | (go_at_call 23; refine (HVB.out _ hA (by simp)).mono ?_; rintro e wB ⟨rfl, hA⟩))
          go_roundg q
          case measure => omega
          case rel => exact ⟨k + 1, bp, by omega, by go_num, rfl, by have := AG.out; show _ = _; omega, hB.trans (hA.mono hB.size), HOK.out.symm⟩
      · have hok' : okForms Q (k + 1) = true := by rw [HS.out, ← AT.out]; rfl
        have HOK := Lib.hid hok'
        clear hok' AT HS
        go_wp2_with fail
        go_roundg q
        case measure => omega
        case rel => exact ⟨k + 1, true, by omega, by go_num, rfl, by have := AG.out; show _ = _; omega, hB, HOK.out.symm⟩
    · obtain rfl : k = 8 := by omega
      cases ok
      · have hRR : R = strOr 40 none := by rw [← HR.out, ← AT.out]; rfl
        have HRR := Lib.hid hRR
        clear hRR AT HR
        go_wp2_with fail
        go_ret2
        exact ⟨by rw [HRR.out]; rfl, hB1.trans (hB.mono hB1.size)⟩
      · have hRR : R = strOr 10 (prepL v fold) := by rw [← HR.out, ← AT.out]; rfl
        have HRR := Lib.hid hRR
        clear hRR HR
        by_cases hv : v.length ≤ 1024
        · have HPv := Lib.hid (fun W => HPre.out W hv)
          generalize prepL v fold = o at *
          clear AT hv
          cases fold <;> cases o
          all_goals
            simp only [Bool.not_true, Bool.not_false] at hsw
            go_wp2_with (go_at_call 42; refine (HPv.out _).mono ?_; rintro e wA ⟨rfl, hA⟩; unfold strOr)
            go_ret2
            refine ⟨by rw [HRR.out]; rfl, hB1.trans ((hB.trans (hA.mono hB.size)).mono hB1.size)⟩
        · exfalso
          have h8 : okForms Q 8 = true := AT.out.symm
          unfold okForms at h8
          rw [List.any_eq_true] at h8
          obtain ⟨f, _, hf⟩ := h8
          rw [← HQ.out f] at hf
          simp only [validL, hv, decide_false, Bool.false_and, Bool.and_false] at hf
          cases hf
end Go.Proofs.YtgpecklibcgifaaGreatDoor
/- Contracts of the document's answer: chapter 3: find. -/
namespace Go.Proofs.YtgpecklibcgifaaGreatDoor
open Go.RowKit Go.Sort

/-- Where a piece stands first, from a place on; -1: nowhere. -/
def findF (s x : List UInt8) : Nat → Nat → Int
  | 0, _ => -1
  | n + 1, i => if i + x.length ≤ s.length then (if sub s i (i + x.length) = x then (i : Int) else findF s x n (i + 1)) else -1
def findL (s x : List UInt8) (i : Nat) : Int := findF s x (s.length + 1 - i) i
set_option maxRecDepth 10000 in
set_option maxHeartbeats 1000000 in
theorem find_r (s x : List UInt8) (i0 : Nat) (w : World) (hs : s.length ≤ 1099511627776) (hx : x.length ≤ 1099511627776000) (h0 : i0 ≤ s.length) :
    Calls Tryz.prog 96 #[.string ⟨s.toArray⟩, .string ⟨x.toArray⟩, .int .i64 i0] w fun e w' => e = .returned (.int .i64 (findL s x i0)) ∧ w = w' := by
  have hext := ba_ext
  obtain ⟨R, hR⟩ : ∃ R, findL s x i0 = R := ⟨_, rfl⟩
  rw [hR]
  have HR := Lib.hid hR
  clear hR
  go_enter Tryz.func96, Tryz.ntmps96
  go_wp2_with fail
  go_loopg [7] (s.length + 1 - i0) (fun gk i wr => ∃ k : Nat, k ≤ s.length + 1 ∧ i = .int .i64 k ∧ Aside (k + gk = s.length + 1) ∧ w = wr ∧ Aside (R = findF s x gk k))
  case atStart => exact ⟨i0, by omega, rfl, by show _ = _; omega, rfl, HR.out.symm⟩
  case round =>
    obtain ⟨k, hk, rfl, AG, rfl, AT⟩ := hrel
    by_cases hlt : k + x.length ≤ s.length
    · obtain ⟨q, rfl⟩ : ∃ q, gk = q + 1 := ⟨gk - 1, by have := AG.out; omega⟩
      have hlti : (k : Int) + (x.length : Int) ≤ (s.length : Int) := by omega
      have htn : ((k : Int) + (x.length : Int)).toNat = k + x.length := by omega
      by_cases he : sub s k (k + x.length) = x
      · have hbq : (sub s k (k + x.length) == x) = true := beq_iff_eq.2 he
        have hRk : R = (k : Int) := by rw [AT.out, findF, if_pos hlt, if_pos he]
        have HRk := Lib.hid hRk
        clear he hRk AT
        go_wp2_with fail
        go_ret
        exact ⟨by rw [HRk.out]; rfl, rfl⟩
      · have hbq : (sub s k (k + x.length) == x) = false := beq_eq_false_iff_ne.2 he
        have AT' : Aside (R = findF s x q (k + 1)) := by
          show _ = _
          rw [AT.out, findF, if_pos hlt, if_neg he]
        clear he AT
        go_wp2_with fail
        go_roundg q
        case measure => omega
        case rel => exact ⟨k + 1, by omega, by go_num, by have := AG.out; show _ = _; omega, rfl, AT'.out⟩
    · have hRk : R = -1 := by
        rw [AT.out]
        cases gk with
        | zero => rfl
        | succ q => rw [findF, if_neg hlt]
      have HRk := Lib.hid hRk
      clear hRk AT
      have hlti : ¬ (k : Int) + (x.length : Int) ≤ (s.length : Int) := by omega
      go_wp2_with fail
      go_ret
      exact ⟨by rw [HRk.out]; rfl, rfl⟩
theorem findF_le (s x : List UInt8) : ∀ n i, findF s x n i = -1 ∨ (0 ≤ findF s x n i ∧ findF s x n i + x.length ≤ s.length)
  | 0, _ => .inl rfl
  | n + 1, i => by
    rw [findF]
    by_cases h : i + x.length ≤ s.length
    · rw [if_pos h]
      by_cases h2 : sub s i (i + x.length) = x
      · rw [if_pos h2]; right; omega
      · rw [if_neg h2]; exact findF_le s x n (i + 1)
    · rw [if_neg h]; exact .inl rfl
/-- Do the pieces stand behind a place, one behind the other? -/
def holdsGo (s : List UInt8) : List (List UInt8) → Nat → Bool
  | [], _ => true
  | x :: xs, p => if findL s x p < 0 then false else holdsGo s xs ((findL s x p).toNat + x.length)
def midsFrom (xs : List (List UInt8)) (i : Nat) : List (List UInt8) := (xs.drop i).take (xs.length - 1 - i)
def holdsRef (s : List UInt8) (xs : List (List UInt8)) (a z : List UInt8) : Bool :=
  if a.length + z.length ≤ s.length ∧ sub s 0 a.length = a ∧ sub s (s.length - z.length) s.length = z then holdsGo (sub s 0 (s.length - z.length)) (midsFrom xs 1) a.length else false
theorem midsFrom_step {xs : List (List UInt8)} {i : Nat} (h : i < xs.length - 1) : midsFrom xs i = xs[i]'(by omega) :: midsFrom xs (i + 1) := by
  unfold midsFrom
  rw [List.drop_eq_getElem_cons (by omega), show xs.length - 1 - i = (xs.length - 1 - (i + 1)) + 1 by omega, List.take_succ_cons]
theorem midsFrom_end {xs : List (List UInt8)} {i : Nat} (h : xs.length - 1 ≤ i) : midsFrom xs i = [] := by
  unfold midsFrom
  rw [show xs.length - 1 - i = 0 by omega, List.take_zero]
end Go.Proofs.YtgpecklibcgifaaGreatDoor
/- Contracts of the document's answer: chapter 3: Holds. -/
namespace Go.Proofs.YtgpecklibcgifaaGreatDoor
open Go.RowKit Go.Sort

set_option maxRecDepth 100000 in
set_option maxHeartbeats 2000000 in
theorem rHolds3_r (s : List UInt8) (xs : List (List UInt8)) (b c : Nat) (w : World) (hs : s.length ≤ 1099511627776) (hn : 2 ≤ xs.length) (hc : xs.length ≤ c) (hN : xs.length ≤ 1000000)
    (hcell : ∀ j (hj : j < xs.length), w.cell? ⟨b, j, none⟩ = some (.string ⟨xs[j].toArray⟩)) (hxl : ∀ x ∈ xs, x.length ≤ 1099511627776000) :
    Calls Tryz.prog 57 #[.string ⟨s.toArray⟩, .slice (some ⟨b, 0, none⟩) xs.length c] w fun e w' => e = .returned (.bool (holdsRef s xs (xs[0]'(by omega)) (xs[xs.length - 1]'(by omega)))) ∧ ∃ n, w' = w.drewN n := by
  have hext := ba_ext
  have f0 := hcell 0 (by omega)
  have f1 := hcell (xs.length - 1) (by omega)
  have l0 : (xs[0]'(by omega)).length ≤ 1099511627776000 := hxl _ (List.getElem_mem _)
  have l1 : (xs[xs.length - 1]'(by omega)).length ≤ 1099511627776000 := hxl _ (List.getElem_mem _)
  have HC := Lib.hid hcell
  have HXL := Lib.hid hxl
  clear hcell hxl
  obtain ⟨R, hR⟩ : ∃ R, holdsRef s xs (xs[0]'(by omega)) (xs[xs.length - 1]'(by omega)) = R := ⟨_, rfl⟩
  rw [hR]
  unfold holdsRef at hR
  generalize xs[0]'(by omega) = a at *
  generalize xs[xs.length - 1]'(by omega) = z at *
  have HR := Lib.hid hR
  clear hR
  have hi1 : IntKind.i64.wrap ((xs.length : Int) - 1) = ((xs.length - 1 : Nat) : Int) := by
    rw [IntWalk.i64_in _ (by omega)]; omega
  have hi2 : ((xs.length : Int) - 1) = ((xs.length - 1 : Nat) : Int) := by omega
  go_enter Tryz.func57, Tryz.ntmps57
  go_wp2_with fail
  go_quiet (fail)
  by_cases h1 : a.length + z.length ≤ s.length
  · have i1 : ¬ ((s.length : Int) < (a.length : Int) + (z.length : Int)) := by omega
    have i2 : ((s.length : Int) - (z.length : Int)) = ((s.length - z.length : Nat) : Int) := by omega
    have i3 : s.length - z.length ≤ s.length := by omega
    have i4 : a.length ≤ s.length - z.length := by omega
    by_cases h2 : sub s 0 a.length = a
    · have b2 : (sub s 0 a.length != a) = false := by simp [h2]
      have b2' : (sub s 0 a.length == a) = true := beq_iff_eq.2 h2
      by_cases h3 : sub s (s.length - z.length) s.length = z
      · have b3 : (sub s (s.length - z.length) s.length != z) = false := by simp [h3]
        have b3' : (sub s (s.length - z.length) s.length == z) = true := beq_iff_eq.2 h3
        have hRR : R = holdsGo (sub s 0 (s.length - z.length)) (midsFrom xs 1) a.length := by rw [← HR.out, if_pos ⟨h1, h2, h3⟩]
        have HRR := Lib.hid hRR
        clear hRR HR h2 h3
        go_wp2_with fail
        have hSl : (sub s 0 (s.length - z.length)).length = s.length - z.length := by simp [sub]
        generalize sub s 0 (s.length - z.length) = S at *
        have hSb : S.length ≤ 1099511627776 := by omega
        have hSa : a.length ≤ S.length := by omega
        clear i1 i2 i3 i4 b2 b2' b3 b3' h1 f0 f1 hSl l0 l1 hs
        go_loopg [7, 8] xs.length (fun gk at_ i wr => ∃ k p : Nat, 1 ≤ k ∧ k ≤ xs.length - 1 ∧ i = .int .i64 k ∧ at_ = .int .i64 p ∧ p ≤ S.length ∧ Aside (k + gk = xs.length + 1) ∧ (∃ n, wr = w.drewN n) ∧ Aside (R = holdsGo S (midsFrom xs k) p))
        case atStart => exact ⟨1, a.length, by omega, by omega, rfl, rfl, hSa, by show _ = _; omega, ⟨_, rfl⟩, HRR.out⟩
        case round =>
          obtain ⟨k, p, hk1, hk, rfl, rfl, hp, AG, ⟨n, rfl⟩, AT⟩ := hrel
          by_cases hlt : k < xs.length - 1
          · obtain ⟨q, rfl⟩ : ∃ q, gk = q + 1 := ⟨gk - 1, by have := AG.out; omega⟩
            have hkx : k < xs.length := by omega
            have fc : (w.drewN n).cell? ⟨b, k, none⟩ = some (.string ⟨xs[k].toArray⟩) := HC.out k hkx
            have hxk : xs[k].length ≤ 1099511627776000 := HXL.out _ (List.getElem_mem _)
            have AT2 : Aside (R = if findL S xs[k] p < 0 then false else holdsGo S (midsFrom xs (k + 1)) ((findL S xs[k] p).toNat + xs[k].length)) := by
              show _ = _
              rw [AT.out, midsFrom_step hlt, holdsGo]
            have HF := Lib.hid (fun W => find_r S xs[k] p W hSb hxk hp)
            have hfl := findF_le S xs[k] (S.length + 1 - p) p
            change findL S xs[k] p = -1 ∨ (0 ≤ findL S xs[k] p ∧ findL S xs[k] p + xs[k].length ≤ S.length) at hfl
            have hki : (k : Int) < ((xs.length - 1 : Nat) : Int) := by omega
            have hkj : (k : Int) < (xs.length : Int) - 1 := by omega
            clear AT
            generalize xs[k] = x at *
            generalize findL S x p = F at *
            rcases hfl with rfl | ⟨hF0, hFl⟩
            · have hRR : R = false := by rw [AT2.out]; rfl
              have HR2 := Lib.hid hRR
              clear hRR AT2 HRR
              go_wp2_with (go_at_call 96; refine (HF.out _).mono ?_; rintro e wA ⟨rfl, rfl⟩)
              go_ret
              exact ⟨retb HR2.out.symm, _, rfl⟩
            · obtain ⟨f, rfl⟩ : ∃ f : Nat, F = f := ⟨F.toNat, by omega⟩
              have AT3 : Aside (R = holdsGo S (midsFrom xs (k + 1)) (f + x.length)) := by
                show _ = _
                rw [AT2.out, if_neg (by omega)]; rfl
              have hfb : (f : Int) + (x.length : Int) ≤ (S.length : Int) := hFl
              clear AT2 hFl
              go_wp2_with (go_at_call 96; refine (HF.out _).mono ?_; rintro e wA ⟨rfl, rfl⟩)
              go_roundg q
              case measure => omega
              case rel => exact ⟨k + 1, f + x.length, by omega, by omega, by go_num, by go_num, by omega, by have := AG.out; show _ = _; omega, ⟨_, rfl⟩, AT3.out⟩
          · have hRR : R = true := by rw [AT.out, midsFrom_end (by omega), holdsGo]
            have HR2 := Lib.hid hRR
            clear hRR AT HRR
            have hki : ¬ (k : Int) < ((xs.length - 1 : Nat) : Int) := by omega
            have hkj : ¬ (k : Int) < (xs.length : Int) - 1 := by omega
            go_wp2_with fail
            go_ret
            exact ⟨retb HR2.out.symm, _, rfl⟩
      · have b3 : (sub s (s.length - z.length) s.length != z) = true := by simp [h3]
        have b3' : (sub s (s.length - z.length) s.length == z) = false := beq_eq_false_iff_ne.2 h3
        have hRR : R = false := by rw [← HR.out, if_neg (fun h => h3 h.2.2)]
        have HRR := Lib.hid hRR
        clear hRR HR h2 h3
        go_wp2_with fail
        go_ret
        exact ⟨retb HRR.out.symm, _, rfl⟩
    · have b2 : (sub s 0 a.length != a) = true := by simp [h2]
      have b2' : (sub s 0 a.length == a) = false := beq_eq_false_iff_ne.2 h2
      have hRR : R = false := by rw [← HR.out, if_neg (fun h => h2 h.2.1)]
      have HRR := Lib.hid hRR
      clear hRR HR h2
      go_wp2_with fail
      go_ret
      exact ⟨retb HRR.out.symm, _, rfl⟩
  · have i1 : ((s.length : Int) < (a.length : Int) + (z.length : Int)) := by omega
    have hRR : R = false := by rw [← HR.out, if_neg (fun h => h1 h.1)]
    have HRR := Lib.hid hRR
    clear hRR HR
    go_wp2_with fail
    go_ret
    exact ⟨retb HRR.out.symm, _, rfl⟩
end Go.Proofs.YtgpecklibcgifaaGreatDoor
