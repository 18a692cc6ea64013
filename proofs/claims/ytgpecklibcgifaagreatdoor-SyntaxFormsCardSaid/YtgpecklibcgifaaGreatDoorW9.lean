/- The law's own small functions: alive, text. -/
import Derived.Test.YtgpecklibcgifaaGreatDoorW7
import Derived.Test.YtgpecklibcgifaaGreatDoorW8
set_option linter.all false
namespace Go.Proofs.YtgpecklibcgifaaGreatDoor
open Go.RowKit Go.Sort

def nDn : List UInt8 := [100, 105, 115, 116, 105, 110, 103, 117, 105, 115, 104, 101, 100, 78, 97, 109, 101, 77, 97, 116, 99, 104]
def sAlive : List UInt8 := [83, 78, 61, 98, 43, 67, 78, 61, 32, 65, 32, 44, 68, 67, 61, 88]
def nAlive : List UInt8 := [99, 110, 61, 97, 43, 115, 110, 61, 98, 44, 100, 99, 61, 120]
theorem name_alive : nameN sAlive = some nAlive := by
  have h1 : parseL sAlive = (0, [[([83, 78], [98]), ([67, 78], [65])], [([68, 67], [88])]]) := by decide +kernel
  have h2 : normP [([83, 78], [98]), ([67, 78], [65])] = [([99, 110], [97]), ([115, 110], [98])] := by
    unfold normP
    have e : ([([83, 78], [98]), ([67, 78], [65])] : List (List UInt8 × List UInt8)).map normA = [([115, 110], [98]), ([99, 110], [97])] := by decide +kernel
    rw [e]
    refine SS.unique avaCmp_ord _ _ (partN_ss _) ?_ ?_
    · unfold SS; simp; decide +kernel
    · intro x; rw [partN_iff]; simp; exact or_comm
  have h3 : normP [([68, 67], [88])] = [([100, 99], [120])] := by
    unfold normP
    have e : ([([68, 67], [88])] : List (List UInt8 × List UInt8)).map normA = [([100, 99], [120])] := by decide +kernel
    rw [e]
    exact partN_id (by unfold SS; simp)
  have h4 : ([[([83, 78], [98]), ([67, 78], [65])], [([68, 67], [88])]] : List (List (List UInt8 × List UInt8))).map normP = [[([99, 110], [97]), ([115, 110], [98])], [([100, 99], [120])]] := by
    simp only [List.map_cons, List.map_nil, h2, h3]
  have h5 : printL [[([99, 110], [97]), ([115, 110], [98])], [([100, 99], [120])]] = (0, nAlive) := by decide +kernel
  unfold nameN
  rw [h1]
  simp only [if_true]
  rw [h4, h5]
  rfl
theorem ask_dn : askT (smallL nDn) 0 = some (nDn, 0, [fName], .name) := by decide +kernel
theorem ask_int : askT (smallL nIntOrd) 1 = some (nIntOrd, 1, [fInteger], .self) := by decide +kernel
theorem norm_alive : normV nDn sAlive = .tuple #[.string ⟨nAlive.toArray⟩, .int .i64 0] := by
  unfold normV
  rw [ask_dn]
  have hv : normS (nDn, 0, [fName], .name) sAlive = some nAlive := by
    unfold normS
    rw [if_pos (by decide +kernel)]
    exact name_alive
  simp only [hv]
  rfl
theorem order_alive : orderP nIntOrd [49, 48] [57] = (1, 0) := by
  unfold orderP
  rw [ask_int]
  decide +kernel
theorem valid_alive : validL fTime [50, 48, 50, 52, 48, 50, 50, 57, 48, 48, 48, 48, 48, 48, 90] = true := by decide +kernel
set_option maxRecDepth 100000 in
set_option maxHeartbeats 1000000 in
theorem alive_c (w : World) (hw : Env w) : Calls Tryz.prog 10 #[] w fun e w' => e = .returned (.bool true) ∧ Below w.heap.size w w' := by
  have h1 : Calls Tryz.prog 15 #[.string ⟨#[100, 105, 115, 116, 105, 110, 103, 117, 105, 115, 104, 101, 100, 78, 97, 109, 101, 77, 97, 116, 99, 104]⟩, .string ⟨#[83, 78, 61, 98, 43, 67, 78, 61, 32, 65, 32, 44, 68, 67, 61, 88]⟩] w fun e w' => e = .returned (.tuple #[.string ⟨#[99, 110, 61, 97, 43, 115, 110, 61, 98, 44, 100, 99, 61, 120]⟩, .int .i64 0]) ∧ Below w.heap.size w w' := by
    have h := Norm_c nDn sAlive w hw (by decide)
    rw [norm_alive] at h
    exact h
  have H2 : Hid (∀ W, Env W → Calls Tryz.prog 11 #[.string ⟨#[105, 110, 116, 101, 103, 101, 114, 79, 114, 100, 101, 114, 105, 110, 103, 77, 97, 116, 99, 104]⟩, .string ⟨#[49, 48]⟩, .string ⟨#[57]⟩] W fun e w' => e = .returned (.tuple #[.int .i64 1, .int .i64 0]) ∧ Below W.heap.size W w') := Lib.hid fun W hW => by
    have h := Order_c nIntOrd [49, 48] [57] W hW (by decide)
    rw [order_alive] at h
    exact h
  have H3 : Hid (∀ W, Env W → Calls Tryz.prog 13 #[.string ⟨#[116, 105, 109, 101]⟩, .string ⟨#[50, 48, 50, 52, 48, 50, 50, 57, 48, 48, 48, 48, 48, 48, 90]⟩] W fun e w' => e = .returned (.bool true) ∧ Below W.heap.size W w') := Lib.hid fun W hW => by
    have h := Valid_c fTime [50, 48, 50, 52, 48, 50, 50, 57, 48, 48, 48, 48, 48, 48, 90] W hW
    rw [valid_alive] at h
    exact h
  go_enter Tryz.func10, Tryz.ntmps10
  go_wp2_with (first | (go_at_call 15; refine h1.mono ?_; rintro e w1 ⟨rfl, hb1⟩) | (go_at_call 11; refine (H2.out _ (hw.keep hb1)).mono ?_; rintro e w2 ⟨rfl, hb2⟩; have hb2' := hb1.trans (hb2.mono hb1.size)) | (go_at_call 13; refine (H3.out _ (hw.keep hb2')).mono ?_; rintro e w3 ⟨rfl, hb3⟩))
  go_ret
  exact ⟨rfl, hb2'.trans (hb3.mono hb2'.size)⟩
end Go.Proofs.YtgpecklibcgifaaGreatDoor
/- The law's text: a number in digits. -/
namespace Go.Proofs.YtgpecklibcgifaaGreatDoor
open Go.RowKit Go.Sort

def digU (d : Int) : UInt8 := UInt8.ofNat (48 + d.toNat)
theorem enc_dig (d : Int) (h0 : 0 ≤ d) (h1 : d < 10) : Utf8.encode (48 + d) = ⟨[digU d].toArray⟩ := by
  unfold digU
  have := enc_cases (r := 48 + d) (by unfold VR; omega)
  rcases this with ⟨a, b, e⟩ | ⟨a, b, e⟩ | ⟨a, b, e⟩ | ⟨a, b, e⟩
  · rw [← encR_mk, e, show (48 + d).toNat = 48 + d.toNat by omega]
  all_goals omega
set_option maxRecDepth 100000 in
set_option maxHeartbeats 1000000 in
theorem text_pos (n : Nat) (hn : n ≤ 1099511627776) (w : World) : Calls Tryz.prog 12 #[.int .i64 n] w fun e w' => e = .returned (.string ⟨(decF 18 n).toArray⟩) ∧ w = w' := by
  have hng : ¬ ((n : Int) < 0) := by omega
  go_enter Tryz.func12, Tryz.ntmps12
  go_wp2_with fail
  go_loop [0, 3] (fun v s => ∃ (m k : Nat) (acc : List UInt8), m ≤ 1099511627776 ∧ v = .int .i64 m ∧ s = .string ⟨acc.toArray⟩ ∧ Aside (decF 18 n = decF k m ++ acc) ∧ Aside (m < 10 ^ (k + 1)) ∧ acc.length + k = 18) (fun v _ => (intOf v).toNat)
  case atStart => exact ⟨n, 18, [], hn, rfl, rfl, by show _ = _; simp, by show _ < _; omega, rfl⟩
  case round =>
    obtain ⟨m, k, acc, hm, rfl, rfl, AE, hmk, hak⟩ := hrel
    have e1 := enc_dig ((m : Int) % 10) (by omega) (by omega)
    by_cases h9 : 9 < m
    · obtain ⟨q, rfl⟩ : ∃ q, k = q + 1 := by
        cases k with
        | zero => have := hmk.out; simp at this; omega
        | succ q => exact ⟨q, rfl⟩
      have hcat : ∀ W, (Op.stringOp .add (Utf8.encode (48 + (m : Int) % 10)) ⟨acc.toArray⟩).run Tryz.prog W = .ok (.string ⟨(digU ((m : Int) % 10) :: acc).toArray⟩) W := fun W => by rw [e1]; exact run_string_add_lists (P := Tryz.prog) W [digU ((m : Int) % 10)] acc (by simp) (by omega)
      clear e1
      have hmi : (m : Int) ≤ 1099511627776 := by omega
      clear hn
      go_wp2_with fail
      go_round
      case rel =>
        refine ⟨m / 10, q, digU ((m : Int) % 10) :: acc, by omega, by go_num, rfl, ?_, ?_, by simp; omega⟩
        · show _ = _
          rw [AE.out, decF, if_pos h9]
          have : digU ((m : Int) % 10) = UInt8.ofNat (48 + m % 10) := by unfold digU; congr 2
          rw [this]; simp
        · show _ < _
          have := hmk.out
          rw [Nat.pow_succ] at this
          omega
      case measure => simp [intOf]; omega
    · have e2 := enc_dig (m : Int) (by omega) (by omega)
      have hcat : ∀ W, (Op.stringOp .add (Utf8.encode (48 + (m : Int))) ⟨acc.toArray⟩).run Tryz.prog W = .ok (.string ⟨(digU (m : Int) :: acc).toArray⟩) W := fun W => by rw [e2]; exact run_string_add_lists (P := Tryz.prog) W [digU (m : Int)] acc (by simp) (by omega)
      have hfin : decF 18 n = digU (m : Int) :: acc := by
        rw [AE.out]
        have : digU (m : Int) = UInt8.ofNat (48 + m) := by unfold digU; congr 1
        rw [this]
        cases k with
        | zero => rw [decF, show m % 10 = m by omega]; rfl
        | succ k => rw [decF, if_neg h9]; rfl
      have Hf := Lib.hid hfin
      clear e1 e2 hfin hn
      go_wp2_with fail
      go_ret
      exact ⟨by rw [Hf.out]; rfl, rfl⟩
set_option maxRecDepth 100000 in
set_option maxHeartbeats 1000000 in
theorem ltext_c (a : Int) (h1 : -1099511627776 ≤ a) (h2 : a ≤ 1099511627776) (w : World) : Calls Tryz.prog 12 #[.int .i64 a] w fun e w' => e = .returned (.string ⟨(textZ a).toArray⟩) ∧ w = w' := by
  by_cases ha : a < 0
  · have hT := text_pos a.natAbs (by omega) w
    rw [show ((a.natAbs : Nat) : Int) = -a by omega] at hT
    have hz : textZ a = 45 :: decF 18 a.natAbs := by unfold textZ; rw [if_pos ha]
    have hl := (decF_spec 18 a.natAbs (by omega)).2.2.1
    rw [hz]
    generalize decF 18 a.natAbs = D at *
    have hcat : ∀ W, (Op.stringOp .add ⟨#[45]⟩ ⟨D.toArray⟩).run Tryz.prog W = .ok (.string ⟨(45 :: D).toArray⟩) W := fun W => run_string_add_lists (P := Tryz.prog) W [45] D (by simp) (by omega)
    clear hz hl
    go_enter Tryz.func12, Tryz.ntmps12
    go_wp2_with (go_at_call 12; refine hT.mono ?_; rintro e w' ⟨rfl, rfl⟩)
    go_ret
    exact ⟨rfl, rfl⟩
  · have hT := text_pos a.natAbs (by omega) w
    rw [show ((a.natAbs : Nat) : Int) = a by omega] at hT
    have hz : textZ a = decF 18 a.natAbs := by unfold textZ; rw [if_neg ha]
    rw [hz]; exact hT
end Go.Proofs.YtgpecklibcgifaaGreatDoor
/- The law SyntaxNumbers. -/
namespace Go.Proofs.YtgpecklibcgifaaGreatDoor
open Go.RowKit Go.Sort

def nIntUp : List UInt8 := [73, 78, 84, 69, 71, 69, 82, 111, 114, 100, 101, 114, 105, 110, 103, 77, 97, 116, 99, 104]
theorem ask_intUp : askT (smallL nIntUp) 1 = some (nIntOrd, 1, [fInteger], .self) := by decide +kernel
def sgnZ (a b : Int) : Int := if a < b then -1 else if b < a then 1 else 0
theorem order_text (a b : Int) (ha : a.natAbs < 10 ^ (18 + 1)) (hb : b.natAbs < 10 ^ (18 + 1)) : orderP nIntUp (textZ a) (textZ b) = (sgnZ a b, 0) := by
  unfold orderP
  rw [ask_intUp]
  have hn : ∀ c : Int, c.natAbs < 10 ^ (18 + 1) → normS (nIntOrd, 1, [fInteger], .self) (textZ c) = some (textZ c) := by
    intro c hc
    have hl := text_len c hc
    unfold normS
    rw [if_pos]
    · rfl
    · have hv : validL fInteger (textZ c) = true := by
        unfold validL
        rw [decide_eq_true (by omega), Bool.true_and]
        exact int_text c hc
      simp only [List.any_cons, List.any_nil, hv, Bool.or_false, Bool.and_true]
      exact decide_eq_true (by omega)
  have hbo : bothS (nIntOrd, 1, [fInteger], .self) (textZ a) (textZ b) = some (textZ a, textZ b) := by
    unfold bothS
    rw [hn a ha, hn b hb]
  simp only [hbo, orderQ, if_true]
  rw [ints_text a b ha hb]
  rfl
theorem valid_int (l : List UInt8) (hl : l.length ≤ 1024) : validL fInteger l = intL l := by
  unfold validL
  rw [decide_eq_true hl, Bool.true_and]
  rfl
set_option maxRecDepth 100000 in
set_option maxHeartbeats 2000000 in
theorem numbers_c (a b : Int) (w : World) (hw : Env w) : Calls Tryz.prog 3 #[.int .i64 a, .int .i64 b] w fun e w' => e = .returned (.bool true) ∧ Below w.heap.size w w' := by
  by_cases hin : (-1099511627776 ≤ a ∧ -1099511627776 ≤ b) ∧ a ≤ 1099511627776 ∧ b ≤ 1099511627776
  · obtain ⟨⟨a1, b1⟩, a2, b2⟩ := hin
    have ha := natAbs_lt a1 a2
    have hb := natAbs_lt b1 b2
    have HTa := Lib.hid (fun W => ltext_c a a1 a2 W)
    have HTb := Lib.hid (fun W => ltext_c b b1 b2 W)
    have HO : Hid (∀ W, Env W → Calls Tryz.prog 11 #[.string ⟨#[73, 78, 84, 69, 71, 69, 82, 111, 114, 100, 101, 114, 105, 110, 103, 77, 97, 116, 99, 104]⟩, .string ⟨(textZ a).toArray⟩, .string ⟨(textZ b).toArray⟩] W fun e w' => e = .returned (.tuple #[.int .i64 (sgnZ a b), .int .i64 0]) ∧ Below W.heap.size W w') := Lib.hid fun W hW => by
      have h := Order_c nIntUp (textZ a) (textZ b) W hW (by decide)
      rw [order_text a b ha hb] at h
      exact h
    have hla := text_len a ha
    have hlb := text_len b hb
    have HV1 : Hid (∀ W, Env W → Calls Tryz.prog 13 #[.string ⟨#[105, 110, 116, 101, 103, 101, 114]⟩, .string ⟨(textZ a).toArray⟩] W fun e w' => e = .returned (.bool true) ∧ Below W.heap.size W w') := Lib.hid fun W hW => by
      have h := Valid_c fInteger (textZ a) W hW
      rw [valid_int _ (by omega), int_text a ha] at h
      exact h
    have HV2 : Hid (∀ W, Env W → Calls Tryz.prog 13 #[.string ⟨#[105, 110, 116, 101, 103, 101, 114]⟩, .string ⟨(48 :: textZ b).toArray⟩] W fun e w' => e = .returned (.bool false) ∧ Below W.heap.size W w') := Lib.hid fun W hW => by
      have h := Valid_c fInteger (48 :: textZ b) W hW
      rw [valid_int _ (by simp; omega), int_zero b hb] at h
      exact h
    have HV3 : Hid (∀ W, Env W → Calls Tryz.prog 13 #[.string ⟨#[105, 110, 116, 101, 103, 101, 114]⟩, .string ⟨(43 :: textZ b).toArray⟩] W fun e w' => e = .returned (.bool false) ∧ Below W.heap.size W w') := Lib.hid fun W hW => by
      have h := Valid_c fInteger (43 :: textZ b) W hW
      rw [valid_int _ (by simp; omega), int_plus b] at h
      exact h
    have hcat1 : ∀ W, (Op.stringOp .add ⟨#[48]⟩ ⟨(textZ b).toArray⟩).run Tryz.prog W = .ok (.string ⟨(48 :: textZ b).toArray⟩) W := fun W => run_string_add_lists (P := Tryz.prog) W [48] (textZ b) (by simp) (by omega)
    have hcat2 : ∀ W, (Op.stringOp .add ⟨#[43]⟩ ⟨(textZ b).toArray⟩).run Tryz.prog W = .ok (.string ⟨(43 :: textZ b).toArray⟩) W := fun W => run_string_add_lists (P := Tryz.prog) W [43] (textZ b) (by simp) (by omega)
    clear ha hb hla hlb
    rcases Int.lt_trichotomy a b with hlt | hlt | hlt
    · have hle : ¬ (b < a) := by omega
      have hs : sgnZ a b = -1 := by unfold sgnZ; first | rw [if_pos (by omega)] | rw [if_neg (by omega), if_pos (by omega)] | rw [if_neg (by omega), if_neg (by omega)]
      rw [hs] at HO
      clear hs
      go_enter Tryz.func3, Tryz.ntmps3
      go_wp2_with fail
      refine (HTa.out _).mono ?_
      rintro e w0 ⟨rfl, rfl⟩
      go_wp2_with fail
      refine (HTb.out _).mono ?_
      rintro e w0 ⟨rfl, rfl⟩
      go_wp2_with fail
      refine (HO.out _ hw).mono ?_
      rintro e w1 ⟨rfl, hb1⟩
      go_wp2_with fail
      refine (alive_c _ (hw.keep hb1)).mono ?_
      rintro e w2 ⟨rfl, hb2⟩
      have hB2 := hb1.trans (hb2.mono hb1.size)
      go_wp2_with fail
      refine (HTa.out _).mono ?_
      rintro e w0 ⟨rfl, rfl⟩
      go_wp2_with fail
      refine (HV1.out _ (hw.keep hB2)).mono ?_
      rintro e w3 ⟨rfl, hb3⟩
      have hB3 := hB2.trans (hb3.mono hB2.size)
      go_wp2_with fail
      refine (HTb.out _).mono ?_
      rintro e w0 ⟨rfl, rfl⟩
      go_wp2_with fail
      refine (HV2.out _ (hw.keep hB3)).mono ?_
      rintro e w4 ⟨rfl, hb4⟩
      have hB4 := hB3.trans (hb4.mono hB3.size)
      go_wp2_with fail
      refine (HTb.out _).mono ?_
      rintro e w0 ⟨rfl, rfl⟩
      go_wp2_with fail
      refine (HV3.out _ (hw.keep hB4)).mono ?_
      rintro e w5 ⟨rfl, hb5⟩
      go_wp2_with fail
      go_ret
      exact ⟨rfl, hB4.trans (hb5.mono hB4.size)⟩
    · subst hlt
      have hle : ¬ (a < a) := by omega
      have hs : sgnZ a a = 0 := by unfold sgnZ; first | rw [if_pos (by omega)] | rw [if_neg (by omega), if_pos (by omega)] | rw [if_neg (by omega), if_neg (by omega)]
      rw [hs] at HO
      clear hs
      go_enter Tryz.func3, Tryz.ntmps3
      go_wp2_with fail
      refine (HTa.out _).mono ?_
      rintro e w0 ⟨rfl, rfl⟩
      go_wp2_with fail
      refine (HTb.out _).mono ?_
      rintro e w0 ⟨rfl, rfl⟩
      go_wp2_with fail
      refine (HO.out _ hw).mono ?_
      rintro e w1 ⟨rfl, hb1⟩
      go_wp2_with fail
      refine (alive_c _ (hw.keep hb1)).mono ?_
      rintro e w2 ⟨rfl, hb2⟩
      have hB2 := hb1.trans (hb2.mono hb1.size)
      go_wp2_with fail
      refine (HTa.out _).mono ?_
      rintro e w0 ⟨rfl, rfl⟩
      go_wp2_with fail
      refine (HV1.out _ (hw.keep hB2)).mono ?_
      rintro e w3 ⟨rfl, hb3⟩
      have hB3 := hB2.trans (hb3.mono hB2.size)
      go_wp2_with fail
      refine (HTb.out _).mono ?_
      rintro e w0 ⟨rfl, rfl⟩
      go_wp2_with fail
      refine (HV2.out _ (hw.keep hB3)).mono ?_
      rintro e w4 ⟨rfl, hb4⟩
      have hB4 := hB3.trans (hb4.mono hB3.size)
      go_wp2_with fail
      refine (HTb.out _).mono ?_
      rintro e w0 ⟨rfl, rfl⟩
      go_wp2_with fail
      refine (HV3.out _ (hw.keep hB4)).mono ?_
      rintro e w5 ⟨rfl, hb5⟩
      go_wp2_with fail
      go_ret
      exact ⟨rfl, hB4.trans (hb5.mono hB4.size)⟩
    · have hle : ¬ (a < b) := by omega
      have hs : sgnZ a b = 1 := by unfold sgnZ; first | rw [if_pos (by omega)] | rw [if_neg (by omega), if_pos (by omega)] | rw [if_neg (by omega), if_neg (by omega)]
      rw [hs] at HO
      clear hs
      go_enter Tryz.func3, Tryz.ntmps3
      go_wp2_with fail
      refine (HTa.out _).mono ?_
      rintro e w0 ⟨rfl, rfl⟩
      go_wp2_with fail
      refine (HTb.out _).mono ?_
      rintro e w0 ⟨rfl, rfl⟩
      go_wp2_with fail
      refine (HO.out _ hw).mono ?_
      rintro e w1 ⟨rfl, hb1⟩
      go_wp2_with fail
      refine (alive_c _ (hw.keep hb1)).mono ?_
      rintro e w2 ⟨rfl, hb2⟩
      have hB2 := hb1.trans (hb2.mono hb1.size)
      go_wp2_with fail
      refine (HTa.out _).mono ?_
      rintro e w0 ⟨rfl, rfl⟩
      go_wp2_with fail
      refine (HV1.out _ (hw.keep hB2)).mono ?_
      rintro e w3 ⟨rfl, hb3⟩
      have hB3 := hB2.trans (hb3.mono hB2.size)
      go_wp2_with fail
      refine (HTb.out _).mono ?_
      rintro e w0 ⟨rfl, rfl⟩
      go_wp2_with fail
      refine (HV2.out _ (hw.keep hB3)).mono ?_
      rintro e w4 ⟨rfl, hb4⟩
      have hB4 := hB3.trans (hb4.mono hB3.size)
      go_wp2_with fail
      refine (HTb.out _).mono ?_
      rintro e w0 ⟨rfl, rfl⟩
      go_wp2_with fail
      refine (HV3.out _ (hw.keep hB4)).mono ?_
      rintro e w5 ⟨rfl, hb5⟩
      go_wp2_with fail
      go_ret
      exact ⟨rfl, hB4.trans (hb5.mono hB4.size)⟩
  · by_cases h1 : a < -1099511627776
    · clear hin
      go_enter Tryz.func3, Tryz.ntmps3
      go_wp2_with (go_at_call 10; refine (alive_c _ hw).mono ?_; rintro e w2 ⟨rfl, hb2⟩)
      go_ret
      exact ⟨rfl, hb2⟩
    · by_cases h2 : b < -1099511627776
      · clear hin
        go_enter Tryz.func3, Tryz.ntmps3
        go_wp2_with (go_at_call 10; refine (alive_c _ hw).mono ?_; rintro e w2 ⟨rfl, hb2⟩)
        go_ret
        exact ⟨rfl, hb2⟩
      · by_cases h3 : 1099511627776 < a
        · clear hin
          go_enter Tryz.func3, Tryz.ntmps3
          go_wp2_with (go_at_call 10; refine (alive_c _ hw).mono ?_; rintro e w2 ⟨rfl, hb2⟩)
          go_ret
          exact ⟨rfl, hb2⟩
        · have h4 : 1099511627776 < b := by omega
          clear hin
          go_enter Tryz.func3, Tryz.ntmps3
          go_wp2_with (go_at_call 10; refine (alive_c _ hw).mono ?_; rintro e w2 ⟨rfl, hb2⟩)
          go_ret
          exact ⟨rfl, hb2⟩
end Go.Proofs.YtgpecklibcgifaaGreatDoor
