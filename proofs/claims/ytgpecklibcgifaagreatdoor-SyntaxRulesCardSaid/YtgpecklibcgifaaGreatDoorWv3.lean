/- Contracts of the document's answer: Hex, a value's text. -/
import Derived.Test.YtgpecklibcgifaaGreatDoorW5
import Derived.Test.YtgpecklibcgifaaGreatDoorWr3
import Derived.Test.YtgpecklibcgifaaGreatDoorW8
import Derived.Test.YtgpecklibcgifaaGreatDoorW6
import Derived.Test.YtgpecklibcgifaaGreatDoorWr1
import Derived.Test.YtgpecklibcgifaaGreatDoorWv2
import Derived.Test.YtgpecklibcgifaaGreatDoorW2
set_option linter.all false
namespace Go.Proofs.YtgpecklibcgifaaGreatDoor
open Go.RowKit

set_option maxRecDepth 10000 in
set_option maxHeartbeats 1000000 in
theorem rHex_r (l : List UInt8) (w : World) (hl : l.length ≤ 1048576) :
    Calls Tryz.prog 177 #[.string ⟨l.toArray⟩] w fun e w' => e = .returned (.string ⟨(hexL l).toArray⟩) ∧ Below w.heap.size w w' := by
  have hget := ba_get
  go_enter Tryz.func177, Tryz.ntmps177
  go_wp2_with (at_make; refine buf_make rfl _ _ rfl (2 * l.length) _ rfl rfl (by simp) (by omega) ?_; intro w1 hb1)
  go_loopg [3, 4] l.length (fun gk v i wr => ∃ (p : Nat) (acc : List UInt8), p ≤ l.length ∧ i = .int .i64 p ∧ Aside (p + gk = l.length) ∧ Buf w wr v acc ∧ acc.length ≤ 2 * p ∧ Aside (acc = hexL (l.take p)))
  case atStart => exact ⟨0, [], by omega, rfl, by show _ = _; omega, hb1, by simp, rfl⟩
  case round =>
    obtain ⟨p, acc, hp, rfl, AG, hbuf, hacc, AU⟩ := hrel
    by_cases hlt : p < l.length
    · obtain ⟨q, rfl⟩ : ∃ q, gk = q + 1 := ⟨gk - 1, by have := AG.out; omega⟩
      have h8 := UInt8.toNat_lt l[p]
      have hk0 : (0 : Int) ≤ (p : Int) := by omega
      have hk1 : (p : Int) < (l.length : Int) := by omega
      have ha := and15 l[p]
      have ha2 : ((l[p].toNat % 16 : Nat) : Int) < 16 := by omega
      have ha3 : (0 : Int) ≤ ((l[p].toNat % 16 : Nat) : Int) := by omega
      have hd1 : (l[p].toNat : Int) / 16 < 16 := by omega
      have hd0 : (0 : Int) ≤ (l[p].toNat : Int) / 16 := by omega
      go_wp2_with fail
      have hdt : ((l[p].toNat : Int)).tdiv 16 = (l[p].toNat : Int) / 16 := Int.tdiv_eq_ediv_of_nonneg (by omega)
      have hmt : ((l[p].toNat : Int)).tmod 16 = (l[p].toNat : Int) % 16 := Int.tmod_eq_emod_of_nonneg (by omega)
      have hm1 : (l[p].toNat : Int) % 16 < 16 := by omega
      have hm0 : (0 : Int) ≤ (l[p].toNat : Int) % 16 := by omega
      have hwq : IntKind.u8.wrap ((l[p].toNat : Int) / 16) = (l[p].toNat : Int) / 16 := by simp [IntKind.wrap, IntKind.bits, IntKind.signed]; omega
      have hwm : IntKind.u8.wrap ((l[p].toNat : Int) % 16) = (l[p].toNat : Int) % 16 := by simp [IntKind.wrap, IntKind.bits, IntKind.signed]; omega
      go_region_held3 (fun _ => True) (trivial) ((refine step_two (by rfl) _ _ (by rfl) rfl hbuf rfl (by omega) ?_; intro v' w2 hb2 hg2))
      all_goals
        have e1 := hexD_at ((l[p].toNat : Int) / 16) (l[p].toNat / 16) (by show _ < 16; omega) (by omega)
        have e2 := hexD_at ((l[p].toNat : Int) % 16) (l[p].toNat % 16) (by show _ < 16; omega) (by omega)
        have hb3 : Buf w w2 v' (hexL (l.take (p + 1))) := by
          rw [hexL_snoc l p hlt, ← AU.out, ← e1, ← e2]
          exact hb2
        clear hb2 hg2 e1 e2
        go_wp2_with fail
        go_roundg q
        case measure => omega
        case rel =>
          exact ⟨p + 1, _, by omega, by go_num, by have := AG.out; show _ = _; omega, hb3, by rw [hexL_snoc l p hlt, ← AU.out]; simp; omega, rfl⟩
    · obtain rfl : p = l.length := by omega
      have hfin : acc = hexL l := by have := AU.out; rw [List.take_length] at this; exact this
      have Hf := Lib.hid hfin
      have hst := buf_string hbuf
      have hB := hbuf.below
      clear AU hfin
      go_wp2
      go_ret
      exact ⟨by rw [← Hf.out]; rfl, hB⟩
set_option maxRecDepth 10000 in
set_option maxHeartbeats 4000000 in
theorem value_r (l : List UInt8) (w : World) (hl : l.length ≤ 65536) :
    Calls Tryz.prog 155 #[.string ⟨l.toArray⟩] w fun e w' => e = .returned (.string ⟨(writtenL l).toArray⟩) ∧ Below w.heap.size w w' := by
  have hT := Text_r l w (by omega)
  have hxl : (hexL l).length = 2 * l.length := hexL_len l
  have hcat := fun w => run_string_add_lists (P := Tryz.prog) w [35] (hexL l) (by simp) (by omega)
  cases hV : Lib.validD l
  · have hR : writtenL l = 35 :: hexL l := by unfold writtenL; rw [hV]; rfl
    rw [hR]
    rw [hV] at hT
    clear hR hV
    go_enter Tryz.func155, Tryz.ntmps155
    go_wp2_with (first | (go_at_call 120; refine hT.mono ?_; rintro e w1 ⟨rfl, hw1⟩; have hb1 : Below w.heap.size w w1 := hw1 ▸ Below.refl _ _; clear hw1) | (go_at_call 177; refine (rHex_r l _ (by omega)).mono ?_; rintro e w2 ⟨rfl, hb2⟩))
    go_ret
    exact ⟨rfl, hb1.trans (hb2.mono hb1.size)⟩
  · have hR : writtenL l = wrL l l.length := by unfold writtenL; rw [hV]; rfl
    rw [hR]
    rw [hV] at hT
    clear hR hV hcat hxl
    have hget := ba_get
    go_enter Tryz.func155, Tryz.ntmps155
    go_wp2_with (go_at_call 120; refine hT.mono ?_; rintro e w1 ⟨rfl, hw1⟩; have hb1 : Below w.heap.size w w1 := hw1 ▸ Below.refl _ _; clear hw1)
    clear hT
    go_loopg [3, 4] l.length (fun gk v i wr => ∃ p : Nat, p ≤ l.length ∧ i = .int .i64 p ∧ Aside (p + gk = l.length) ∧ Buf w1 wr v (wrL l p))
    case atStart => exact ⟨0, by omega, rfl, by show _ = _; omega, Buf.nil w1⟩
    case round =>
      obtain ⟨p, hp, rfl, AG, hbuf⟩ := hrel
      have hacc := wrL_len l p
      by_cases hlt : p < l.length
      · obtain ⟨q, rfl⟩ : ∃ q, gk = q + 1 := ⟨gk - 1, by have := AG.out; omega⟩
        have hk0 : (0 : Int) ≤ (p : Int) := by omega
        have hk1 : (p : Int) < (l.length : Int) := by omega
        have HAT := Lib.hid (wrL_at l p hlt)
        have HIB := Lib.hid (fun w => special_r l[p] w)
        cases hz : ((l[p].toNat : Int) == 0)
        · have hgen : ∀ e : Bool, escB l.length p l[p] = e → wrB l.length p l[p] = if e then [92, l[p]] else [l[p]] := by
            intro e he; unfold wrB; rw [hz, he]; rfl
          have HG := Lib.hid hgen
          clear hgen
          have HE := Lib.hid (show escB l.length p l[p] = (decide (0 ≤ Lib.indexByte specCs l[p]) || ((p : Int) == 0 && ((l[p].toNat : Int) == 35 || (l[p].toNat : Int) == 32)) || ((p : Int) == (l.length : Int) - 1 && (l[p].toNat : Int) == 32)) from rfl)
          generalize wrL l p = acc at hbuf hacc HAT
          unfold specB at HIB
          generalize Lib.indexByte specCs l[p] = ib at HIB HE
          have hwr : IntKind.i64.wrap ((l.length : Int) - 1) = (l.length : Int) - 1 := IntWalk.i64_in _ (by omega)
          have hbN : ∀ n, Buf w1 (wr.drewN n) _ acc := fun n => hbuf.drewN n
          cases hib : decide (0 ≤ ib)
          · cases hp0 : ((p : Int) == 0)
            · cases hpl : ((p : Int) == (l.length : Int) - 1)
              · have hE := HE.out
                simp only [hib, hp0, hpl, Bool.false_and, Bool.and_false, Bool.true_and, Bool.or_false, Bool.false_or, Bool.true_or, Bool.or_true, Bool.and_true] at hE
                have hB := HG.out false hE
                have HB := Lib.hid hB
                clear hB hE
                go_wp2_with (first | (go_at_call 159; refine (HIB.out _).mono ?_; rintro e w3 ⟨rfl, rfl⟩) | (at_builtin; refine buf_byte (c := 92) rfl _ _ rfl rfl hbuf rfl (by omega) ?_; intro v2 w2 hb2 hg2) | (at_builtin; refine buf_byte (c := l[p]) rfl _ _ rfl rfl hbuf rfl (by omega) ?_; intro v3 w3 hb3 hg3))
                go_roundg q
                case measure => omega
                case rel => exact ⟨p + 1, by omega, by go_num, by have := AG.out; show _ = _; omega, by rw [HAT.out _ HB.out]; simpa using hb3⟩
              · cases h32 : ((l[p].toNat : Int) == 32)
                · have hE := HE.out
                  simp only [hib, hp0, hpl, h32, Bool.false_and, Bool.and_false, Bool.true_and, Bool.or_false, Bool.false_or, Bool.true_or, Bool.or_true, Bool.and_true] at hE
                  have hB := HG.out false hE
                  have HB := Lib.hid hB
                  clear hB hE
                  go_wp2_with (first | (go_at_call 159; refine (HIB.out _).mono ?_; rintro e w3 ⟨rfl, rfl⟩) | (at_builtin; refine buf_byte (c := 92) rfl _ _ rfl rfl hbuf rfl (by omega) ?_; intro v2 w2 hb2 hg2) | (at_builtin; refine buf_byte (c := l[p]) rfl _ _ rfl rfl hbuf rfl (by omega) ?_; intro v3 w3 hb3 hg3))
                  go_roundg q
                  case measure => omega
                  case rel => exact ⟨p + 1, by omega, by go_num, by have := AG.out; show _ = _; omega, by rw [HAT.out _ HB.out]; simpa using hb3⟩
                · have hE := HE.out
                  simp only [hib, hp0, hpl, h32, Bool.false_and, Bool.and_false, Bool.true_and, Bool.or_false, Bool.false_or, Bool.true_or, Bool.or_true, Bool.and_true] at hE
                  have hB := HG.out true hE
                  have HB := Lib.hid hB
                  clear hB hE
                  go_wp2_with (first | (go_at_call 159; refine (HIB.out _).mono ?_; rintro e w3 ⟨rfl, rfl⟩) | (at_builtin; refine buf_byte (c := 92) rfl _ _ rfl rfl hbuf rfl (by omega) ?_; intro v2 w2 hb2 hg2) | (at_builtin; refine buf_byte (c := l[p]) rfl _ _ rfl rfl hb2 rfl (by simp; omega) ?_; intro v3 w3 hb3 hg3))
                  go_roundg q
                  case measure => omega
                  case rel => exact ⟨p + 1, by omega, by go_num, by have := AG.out; show _ = _; omega, by rw [HAT.out _ HB.out]; simpa using hb3⟩
            · cases h32 : ((l[p].toNat : Int) == 32)
              · cases h35 : ((l[p].toNat : Int) == 35)
                · cases hpl : ((p : Int) == (l.length : Int) - 1)
                  · have hE := HE.out
                    simp only [hib, hp0, h35, h32, hpl, Bool.false_and, Bool.and_false, Bool.true_and, Bool.or_false, Bool.false_or, Bool.true_or, Bool.or_true, Bool.and_true] at hE
                    have hB := HG.out false hE
                    have HB := Lib.hid hB
                    clear hB hE
                    go_wp2_with (first | (go_at_call 159; refine (HIB.out _).mono ?_; rintro e w3 ⟨rfl, rfl⟩) | (at_builtin; refine buf_byte (c := 92) rfl _ _ rfl rfl hbuf rfl (by omega) ?_; intro v2 w2 hb2 hg2) | (at_builtin; refine buf_byte (c := l[p]) rfl _ _ rfl rfl hbuf rfl (by omega) ?_; intro v3 w3 hb3 hg3))
                    go_roundg q
                    case measure => omega
                    case rel => exact ⟨p + 1, by omega, by go_num, by have := AG.out; show _ = _; omega, by rw [HAT.out _ HB.out]; simpa using hb3⟩
                  · have hE := HE.out
                    simp only [hib, hp0, h35, h32, hpl, Bool.false_and, Bool.and_false, Bool.true_and, Bool.or_false, Bool.false_or, Bool.true_or, Bool.or_true, Bool.and_true] at hE
                    have hB := HG.out false hE
                    have HB := Lib.hid hB
                    clear hB hE
                    go_wp2_with (first | (go_at_call 159; refine (HIB.out _).mono ?_; rintro e w3 ⟨rfl, rfl⟩) | (at_builtin; refine buf_byte (c := 92) rfl _ _ rfl rfl hbuf rfl (by omega) ?_; intro v2 w2 hb2 hg2) | (at_builtin; refine buf_byte (c := l[p]) rfl _ _ rfl rfl hbuf rfl (by omega) ?_; intro v3 w3 hb3 hg3))
                    go_roundg q
                    case measure => omega
                    case rel => exact ⟨p + 1, by omega, by go_num, by have := AG.out; show _ = _; omega, by rw [HAT.out _ HB.out]; simpa using hb3⟩
                · have hE := HE.out
                  simp only [hib, hp0, h35, h32, Bool.false_and, Bool.and_false, Bool.true_and, Bool.or_false, Bool.false_or, Bool.true_or, Bool.or_true, Bool.and_true] at hE
                  have hB := HG.out true hE
                  have HB := Lib.hid hB
                  clear hB hE
                  go_wp2_with (first | (go_at_call 159; refine (HIB.out _).mono ?_; rintro e w3 ⟨rfl, rfl⟩) | (at_builtin; refine buf_byte (c := 92) rfl _ _ rfl rfl hbuf rfl (by omega) ?_; intro v2 w2 hb2 hg2) | (at_builtin; refine buf_byte (c := l[p]) rfl _ _ rfl rfl hb2 rfl (by simp; omega) ?_; intro v3 w3 hb3 hg3))
                  go_roundg q
                  case measure => omega
                  case rel => exact ⟨p + 1, by omega, by go_num, by have := AG.out; show _ = _; omega, by rw [HAT.out _ HB.out]; simpa using hb3⟩
              · cases h35 : ((l[p].toNat : Int) == 35)
                · have hE := HE.out
                  simp only [hib, hp0, h35, h32, Bool.false_and, Bool.and_false, Bool.true_and, Bool.or_false, Bool.false_or, Bool.true_or, Bool.or_true, Bool.and_true] at hE
                  have hB := HG.out true hE
                  have HB := Lib.hid hB
                  clear hB hE
                  go_wp2_with (first | (go_at_call 159; refine (HIB.out _).mono ?_; rintro e w3 ⟨rfl, rfl⟩) | (at_builtin; refine buf_byte (c := 92) rfl _ _ rfl rfl hbuf rfl (by omega) ?_; intro v2 w2 hb2 hg2) | (at_builtin; refine buf_byte (c := l[p]) rfl _ _ rfl rfl hb2 rfl (by simp; omega) ?_; intro v3 w3 hb3 hg3))
                  go_roundg q
                  case measure => omega
                  case rel => exact ⟨p + 1, by omega, by go_num, by have := AG.out; show _ = _; omega, by rw [HAT.out _ HB.out]; simpa using hb3⟩
                · have hE := HE.out
                  simp only [hib, hp0, h35, h32, Bool.false_and, Bool.and_false, Bool.true_and, Bool.or_false, Bool.false_or, Bool.true_or, Bool.or_true, Bool.and_true] at hE
                  have hB := HG.out true hE
                  have HB := Lib.hid hB
                  clear hB hE
                  go_wp2_with (first | (go_at_call 159; refine (HIB.out _).mono ?_; rintro e w3 ⟨rfl, rfl⟩) | (at_builtin; refine buf_byte (c := 92) rfl _ _ rfl rfl hbuf rfl (by omega) ?_; intro v2 w2 hb2 hg2) | (at_builtin; refine buf_byte (c := l[p]) rfl _ _ rfl rfl hb2 rfl (by simp; omega) ?_; intro v3 w3 hb3 hg3))
                  go_roundg q
                  case measure => omega
                  case rel => exact ⟨p + 1, by omega, by go_num, by have := AG.out; show _ = _; omega, by rw [HAT.out _ HB.out]; simpa using hb3⟩
          · have hE := HE.out
            simp only [hib, Bool.false_and, Bool.and_false, Bool.true_and, Bool.or_false, Bool.false_or, Bool.true_or, Bool.or_true, Bool.and_true] at hE
            have hB := HG.out true hE
            have HB := Lib.hid hB
            clear hB hE
            go_wp2_with (first | (go_at_call 159; refine (HIB.out _).mono ?_; rintro e w3 ⟨rfl, rfl⟩) | (at_builtin; refine buf_byte (c := 92) rfl _ _ rfl rfl hbuf rfl (by omega) ?_; intro v2 w2 hb2 hg2) | (at_builtin; refine buf_byte (c := l[p]) rfl _ _ rfl rfl hb2 rfl (by simp; omega) ?_; intro v3 w3 hb3 hg3))
            go_roundg q
            case measure => omega
            case rel => exact ⟨p + 1, by omega, by go_num, by have := AG.out; show _ = _; omega, by rw [HAT.out _ HB.out]; simpa using hb3⟩
        · have hB : wrB l.length p l[p] = [92, 48, 48] := by unfold wrB; rw [hz]; rfl
          have HB := Lib.hid hB
          clear hB
          generalize wrL l p = acc at hbuf hacc HAT
          go_wp2_with (at_builtin; refine buf_text (m := [92, 48, 48]) rfl _ _ rfl rfl hbuf rfl (by simp; omega) ?_; intro v2 w2 hb2 hg2)
          go_roundg q
          case measure => omega
          case rel => exact ⟨p + 1, by omega, by go_num, by have := AG.out; show _ = _; omega, by rw [HAT.out _ HB.out]; exact hb2⟩
      · obtain rfl : p = l.length := by omega
        have hst := buf_string hbuf
        have hB := hbuf.below
        go_wp2
        go_ret
        exact ⟨rfl, hb1.trans (hB.mono hb1.size)⟩
end Go.Proofs.YtgpecklibcgifaaGreatDoor
/- Contracts of the document's answer: chapter 4: Part, Less. -/
namespace Go.Proofs.YtgpecklibcgifaaGreatDoor
open Go.RowKit Go.Sort

theorem join_snoc (s : List UInt8) : ∀ (l : List (List UInt8)) (x : List UInt8), Lib.join (l ++ [x]) s = if l = [] then x else Lib.join l s ++ s ++ x
  | [], x => by simp [join_one']
  | [y], x => by simp [join_two, join_one']
  | y :: z :: t, x => by
    have ih := join_snoc s (z :: t) x
    rw [if_neg (by simp)] at ih ⊢
    simp only [List.cons_append] at ih ⊢
    rw [join_two, ih, join_two]
    simp
def accW (p : List (List UInt8 × List UInt8)) (k : Nat) : List UInt8 := Lib.join ((p.take k).map pairW) [43]
theorem accW_succ (p : List (List UInt8 × List UInt8)) (k : Nat) (hk : k < p.length) : accW p (k + 1) = (if k = 0 then [] else accW p k ++ [43]) ++ pairW p[k] := by
  unfold accW
  rw [List.take_succ_eq_append_getElem hk, List.map_append, List.map_singleton, join_snoc]
  by_cases h : k = 0
  · subst h; simp
  · rw [if_neg (by intro e; have := congrArg List.length e; rw [List.length_map, List.length_take, List.length_nil] at this; omega), if_neg h]
theorem pairW_len3 {x : List UInt8 × List UInt8} (h1 : x.1.length ≤ 64) (h2 : x.2.length ≤ 1024) : (pairW x).length ≤ 3138 := by
  have := writtenL_len x.2
  simp only [pairW, List.length_append, List.length_singleton]
  omega
theorem accW_len (p : List (List UInt8 × List UInt8)) (hp : ∀ x ∈ p, x.1.length ≤ 64 ∧ x.2.length ≤ 1024) : ∀ k, k ≤ p.length → (accW p k).length ≤ 3139 * k
  | 0, _ => by simp [accW, Lib.join]
  | k + 1, h => by
    have ih := accW_len p hp k (by omega)
    have hx := hp p[k] (List.getElem_mem _)
    have := pairW_len3 hx.1 hx.2
    rw [accW_succ p k (by omega)]
    by_cases h0 : k = 0
    · rw [if_pos h0]; simp; omega
    · rw [if_neg h0]; simp; omega
set_option maxRecDepth 100000 in
set_option maxHeartbeats 2000000 in
theorem rPart_r (p : List (List UInt8 × List UInt8)) (v : Value) (w : World) (hv : RdnR w v p) (hl : p.length ≤ 4) (hp : ∀ x ∈ p, x.1.length ≤ 64 ∧ x.2.length ≤ 1024) :
    Calls Tryz.prog 126 #[v] w fun e w' => e = .returned (.string ⟨(partW p).toArray⟩) ∧ Below w.heap.size w w' := by
  obtain ⟨A, c, rfl, hc, hx⟩ := hv
  have hfin : partW p = accW p p.length := by unfold partW accW; rw [List.take_length]
  rw [hfin]
  have HX := Lib.hid hx
  have HP := Lib.hid hp
  clear hx hp hfin
  go_enter Tryz.func126, Tryz.ntmps126
  go_wp2_with fail
  go_loopg [3, 4] p.length (fun gk s t wr => ∃ k : Nat, k ≤ p.length ∧ t = .int .i64 k ∧ s = .string ⟨(accW p k).toArray⟩ ∧ Aside (k + gk = p.length) ∧ Below w.heap.size w wr)
  case atStart => exact ⟨0, by omega, rfl, rfl, by show _ = _; omega, Below.refl _ _⟩
  case round =>
    obtain ⟨k, hk, rfl, rfl, AG, hB⟩ := hrel
    have hal := accW_len p HP.out k hk
    by_cases hlt : k < p.length
    · obtain ⟨q, rfl⟩ : ∃ q, gk = q + 1 := ⟨gk - 1, by have := AG.out; omega⟩
      obtain ⟨g, o, rfl, hg, c0, c1⟩ : ∃ g o, A = some ⟨g, o, none⟩ ∧ g < w.heap.size ∧ w.cell? ⟨g, o + 2 * k, none⟩ = some (.string ⟨p[k].1.toArray⟩) ∧ w.cell? ⟨g, o + 2 * k + 1, none⟩ = some (.string ⟨p[k].2.toArray⟩) := by
        rcases HX.out with rfl | ⟨g, o, rfl, hg, h⟩
        · simp at hlt
        · exact ⟨g, o, rfl, hg, h k p[k] (List.getElem?_eq_getElem hlt)⟩
      have hpk := HP.out p[k] (List.getElem_mem _)
      have HS := Lib.hid (accW_succ p k hlt)
      have hwl := writtenL_len p[k].2
      have HV := Lib.hid (fun W => value_r p[k].2 W (by omega))
      have hgw : g < wr.heap.size := Nat.lt_of_lt_of_le hg hB.size
      have d0 : wr.cell? ⟨g, o + 2 * k, none⟩ = some (.string ⟨p[k].1.toArray⟩) := (hB.cell (p := ⟨g, o + 2 * k, none⟩) hg).trans c0
      have d1 : wr.cell? ⟨g, o + 2 * k + 1, none⟩ = some (.string ⟨p[k].2.toArray⟩) := (hB.cell (p := ⟨g, o + 2 * k + 1, none⟩) hg).trans c1
      have hkk : (k : Int) < (p.length : Int) := by omega
      have hsw : o + k * 2 = o + 2 * k := by omega
      have hpk1 := hpk.1
      have hpk2 := hpk.2
      clear c0 c1 HX hpk
      unfold pairW at HS
      generalize p[k] = x at *
      obtain ⟨x1, x2⟩ := x
      simp only at *
      generalize writtenL x2 = u at *
      by_cases h0 : k = 0
      · subst h0
        rw [if_pos rfl] at HS
        have ha : accW p 0 = [] := rfl
        rw [ha]
        obtain ⟨a2, ha2⟩ : ∃ a2, a2 = ([] : List UInt8) ++ x1 := ⟨_, rfl⟩
        obtain ⟨a3, ha3⟩ : ∃ a3, a3 = a2 ++ [61] := ⟨_, rfl⟩
        obtain ⟨a4, ha4⟩ : ∃ a4, a4 = a3 ++ u := ⟨_, rfl⟩
        have l2 : a2.length ≤ 20000 := by rw [ha2, List.length_append]; simp; omega
        have l3 : a3.length ≤ 20001 := by rw [ha3, List.length_append, List.length_singleton]; omega
        have h1 : ∀ W, (Op.stringOp .add ⟨(([] : List UInt8)).toArray⟩ ⟨x1.toArray⟩).run Tryz.prog W = .ok (.string ⟨a2.toArray⟩) W := fun W => by rw [ha2]; exact run_string_add_lists (P := Tryz.prog) W _ _ (by simp) (by omega)
        have h2 : ∀ W, (Op.stringOp .add ⟨a2.toArray⟩ ⟨#[61]⟩).run Tryz.prog W = .ok (.string ⟨a3.toArray⟩) W := fun W => by rw [ha3]; exact run_string_add_lists (P := Tryz.prog) W _ [61] (by omega) (by simp)
        have h3 : ∀ W, (Op.stringOp .add ⟨a3.toArray⟩ ⟨u.toArray⟩).run Tryz.prog W = .ok (.string ⟨a4.toArray⟩) W := fun W => by rw [ha4]; exact run_string_add_lists (P := Tryz.prog) W _ _ (by omega) (by omega)
        have hS2 : accW p (0 + 1) = a4 := by rw [HS.out, ha4, ha3, ha2]; simp
        have HS2 := Lib.hid hS2
        have hk0 : ¬ (0 : Int) < ((0 : Nat) : Int) := by omega
        have d0' : wr.cell? ⟨g, o, none⟩ = some (.string ⟨x1.toArray⟩) := by simpa using d0
        have d1' : wr.cell? ⟨g, o + 1, none⟩ = some (.string ⟨x2.toArray⟩) := by simpa using d1
        clear hS2 HS ha hal ha2 ha3 ha4 d0 d1
        have d0 := d0'
        have d1 := d1'
        clear d0' d1'
        clear l2 l3
        go_wp2_with fail
        go_region_held3 (fun w' => w'.cell? ⟨g, o, none⟩ = some (.string ⟨x1.toArray⟩) ∧ w'.cell? ⟨g, o + 1, none⟩ = some (.string ⟨x2.toArray⟩)) (first | exact ⟨d0, d1⟩ | exact ⟨e0, e1⟩) (first | (go_at_call 155; refine (HV.out _).mono ?_; rintro e w2 ⟨rfl, hb2⟩; have e0 : w2.cell? ⟨g, o, none⟩ = some (.string ⟨x1.toArray⟩) := (hb2.cell (p := ⟨g, o, none⟩) hgw).trans d0; have e1 : w2.cell? ⟨g, o + 1, none⟩ = some (.string ⟨x2.toArray⟩) := (hb2.cell (p := ⟨g, o + 1, none⟩) hgw).trans d1))
        have hb2' : Below wr.heap.size wr w2 := (Below.refl wr.heap.size wr).drew.trans hb2
        go_wp2_with fail
        go_roundg q
        case measure => omega
        case rel => exact ⟨0 + 1, by omega, by go_num, by rw [HS2.out], by have := AG.out; show _ = _; omega, hB.trans (hb2'.mono hB.size)⟩
      · have hk0 : (0 : Int) < (k : Int) := by omega
        rw [if_neg h0] at HS
        generalize accW p k = acc at *
        obtain ⟨ac, hac⟩ : ∃ ac, ac = acc ++ [43] := ⟨_, rfl⟩
        have hacl : ac.length ≤ 3139 * k + 1 := by rw [hac, List.length_append, List.length_singleton]; omega
        have hp43 : ∀ W, (Op.stringOp .add ⟨acc.toArray⟩ ⟨#[43]⟩).run Tryz.prog W = .ok (.string ⟨ac.toArray⟩) W := fun W => by rw [hac]; exact run_string_add_lists (P := Tryz.prog) W _ [43] (by omega) (by simp)
        obtain ⟨a2, ha2⟩ : ∃ a2, a2 = ac ++ x1 := ⟨_, rfl⟩
        obtain ⟨a3, ha3⟩ : ∃ a3, a3 = a2 ++ [61] := ⟨_, rfl⟩
        obtain ⟨a4, ha4⟩ : ∃ a4, a4 = a3 ++ u := ⟨_, rfl⟩
        have l2 : a2.length ≤ 20000 := by rw [ha2, List.length_append]; omega
        have l3 : a3.length ≤ 20001 := by rw [ha3, List.length_append, List.length_singleton]; omega
        have h1 : ∀ W, (Op.stringOp .add ⟨(ac).toArray⟩ ⟨x1.toArray⟩).run Tryz.prog W = .ok (.string ⟨a2.toArray⟩) W := fun W => by rw [ha2]; exact run_string_add_lists (P := Tryz.prog) W _ _ (by omega) (by omega)
        have h2 : ∀ W, (Op.stringOp .add ⟨a2.toArray⟩ ⟨#[61]⟩).run Tryz.prog W = .ok (.string ⟨a3.toArray⟩) W := fun W => by rw [ha3]; exact run_string_add_lists (P := Tryz.prog) W _ [61] (by omega) (by simp)
        have h3 : ∀ W, (Op.stringOp .add ⟨a3.toArray⟩ ⟨u.toArray⟩).run Tryz.prog W = .ok (.string ⟨a4.toArray⟩) W := fun W => by rw [ha4]; exact run_string_add_lists (P := Tryz.prog) W _ _ (by omega) (by omega)
        have hS2 : accW p (k + 1) = a4 := by rw [HS.out, ha4, ha3, ha2, hac]; simp
        have HS2 := Lib.hid hS2
        clear hS2 HS hac ha2 ha3 ha4 hacl hal
        clear l2 l3
        go_wp2_with fail
        go_region_held3 (fun w' => w'.cell? ⟨g, o + 2 * k, none⟩ = some (.string ⟨x1.toArray⟩) ∧ w'.cell? ⟨g, o + 2 * k + 1, none⟩ = some (.string ⟨x2.toArray⟩)) (first | exact ⟨d0, d1⟩ | exact ⟨e0, e1⟩) (first | (go_at_call 155; refine (HV.out _).mono ?_; rintro e w2 ⟨rfl, hb2⟩; have e0 : w2.cell? ⟨g, o + 2 * k, none⟩ = some (.string ⟨x1.toArray⟩) := (hb2.cell (p := ⟨g, o + 2 * k, none⟩) hgw).trans d0; have e1 : w2.cell? ⟨g, o + 2 * k + 1, none⟩ = some (.string ⟨x2.toArray⟩) := (hb2.cell (p := ⟨g, o + 2 * k + 1, none⟩) hgw).trans d1))
        have hb2' : Below wr.heap.size wr w2 := (Below.refl wr.heap.size wr).drew.trans hb2
        go_wp2_with fail
        go_roundg q
        case measure => omega
        case rel => exact ⟨k + 1, by omega, by go_num, by rw [HS2.out], by have := AG.out; show _ = _; omega, hB.trans (hb2'.mono hB.size)⟩
    · obtain rfl : k = p.length := by omega
      go_wp2_with fail
      go_ret
      exact ⟨rfl, hB⟩
set_option maxRecDepth 100000 in
set_option maxHeartbeats 1000000 in
theorem Less_r (x y : List UInt8 × List UInt8) (w : World) (h1 : x.1.length ≤ 1000000 ∧ x.2.length ≤ 1000000) (h2 : y.1.length ≤ 1000000 ∧ y.2.length ≤ 1000000) :
    Calls Tryz.prog 125 #[avaV x, avaV y] w fun e w' => e = .returned (.int .i64 (avaCmp x y)) ∧ Below w.heap.size w w' := by
  obtain ⟨x1, x2⟩ := x
  obtain ⟨y1, y2⟩ := y
  show Calls Tryz.prog 125 #[.agg #[.string ⟨x1.toArray⟩, .string ⟨x2.toArray⟩], .agg #[.string ⟨y1.toArray⟩, .string ⟨y2.toArray⟩]] w _
  obtain ⟨a1, a2⟩ := h1
  obtain ⟨b1, b2⟩ := h2
  simp only at a1 a2 b1 b2
  have H1 := Lib.hid (fun W => Compare_r x1 y1 W (by omega) (by omega))
  have H2 := Lib.hid (fun W => Compare_r x2 y2 W (by omega) (by omega))
  unfold avaCmp orV
  simp only
  generalize cmpB x1 y1 = m1 at *
  generalize cmpB x2 y2 = m2 at *
  have hb : Below w.heap.size w ((w.alloc (.cells #[.string ⟨x1.toArray⟩, .string ⟨x2.toArray⟩] 85)).alloc (.cells #[.string ⟨y1.toArray⟩, .string ⟨y2.toArray⟩] 85)) := ((Below.refl _ _).alloc (Nat.le_refl _) _).alloc (by simp) _
  have k0 : Bk ((w.alloc (.cells #[.string ⟨x1.toArray⟩, .string ⟨x2.toArray⟩] 85)).alloc (.cells #[.string ⟨y1.toArray⟩, .string ⟨y2.toArray⟩] 85)) w.heap.size 85 #[.string ⟨x1.toArray⟩, .string ⟨x2.toArray⟩] := (Bk.new w _ _).alloc _
  have k1 : Bk ((w.alloc (.cells #[.string ⟨x1.toArray⟩, .string ⟨x2.toArray⟩] 85)).alloc (.cells #[.string ⟨y1.toArray⟩, .string ⟨y2.toArray⟩] 85)) (w.heap.size + 1) 85 #[.string ⟨y1.toArray⟩, .string ⟨y2.toArray⟩] := by
    have := Bk.new (w.alloc (.cells #[.string ⟨x1.toArray⟩, .string ⟨x2.toArray⟩] 85)) 85 #[.string ⟨y1.toArray⟩, .string ⟨y2.toArray⟩]
    rwa [World.size_alloc] at this
  have HK0 := Lib.hid k0
  have HK1 := Lib.hid k1
  clear k0 k1
  by_cases h0 : m1 = 0
  · rw [if_pos h0]
    subst h0
    go_enter Tryz.func125, Tryz.ntmps125
    go_wp2_with fail
    refine (H1.out _).mono ?_
    rintro e w2 ⟨rfl, hb2⟩
    have c0 := (HK0.out.below hb2).cell 1
    have c1 := (HK1.out.below hb2).cell 1
    simp at c0 c1
    go_wp2_with (go_at_call 47; refine (H2.out _).mono ?_; rintro e w3 ⟨rfl, hb3⟩)
    go_ret
    have hb' := hb.trans (hb2.mono hb.size)
    exact ⟨rfl, hb'.trans (hb3.mono hb'.size)⟩
  · rw [if_neg h0]
    have h0' : (m1 == 0) = false := beq_eq_false_iff_ne.2 h0
    go_enter Tryz.func125, Tryz.ntmps125
    go_wp2_with fail
    refine (H1.out _).mono ?_
    rintro e w2 ⟨rfl, hb2⟩
    go_wp2_with fail
    go_ret
    exact ⟨rfl, hb.trans (hb2.mono hb.size)⟩
end Go.Proofs.YtgpecklibcgifaaGreatDoor
/- Contracts of the document's answer: chapter 4: Print. -/
namespace Go.Proofs.YtgpecklibcgifaaGreatDoor
open Go.RowKit Go.Sort

def accN (d : List (List (List UInt8 × List UInt8))) (k : Nat) : List UInt8 := Lib.join ((d.take k).map partW) [44]
theorem accN_succ (d : List (List (List UInt8 × List UInt8))) (k : Nat) (hk : k < d.length) : accN d (k + 1) = (if k = 0 then [] else accN d k ++ [44]) ++ partW d[k] := by
  unfold accN
  rw [List.take_succ_eq_append_getElem hk, List.map_append, List.map_singleton, join_snoc]
  by_cases h : k = 0
  · subst h; simp
  · rw [if_neg (by intro e; have := congrArg List.length e; rw [List.length_map, List.length_take, List.length_nil] at this; omega), if_neg h]
def Fit (d : List (List (List UInt8 × List UInt8))) : Prop := d.length ≤ 20 ∧ ∀ p ∈ d, p.length ≤ 4 ∧ ∀ x ∈ p, x.1.length ≤ 64 ∧ x.2.length ≤ 1024
theorem partW_len4 {p : List (List UInt8 × List UInt8)} (h : p.length ≤ 4) (hp : ∀ x ∈ p, x.1.length ≤ 64 ∧ x.2.length ≤ 1024) : (partW p).length ≤ 12556 := by
  have h1 : partW p = accW p p.length := by unfold partW accW; rw [List.take_length]
  have := accW_len p hp p.length (Nat.le_refl _)
  rw [h1]
  omega
theorem accN_len (d : List (List (List UInt8 × List UInt8))) (hd : Fit d) : ∀ k, k ≤ d.length → (accN d k).length ≤ 12557 * k
  | 0, _ => by simp [accN, Lib.join]
  | k + 1, h => by
    have ih := accN_len d hd k (by omega)
    have hx := hd.2 d[k] (List.getElem_mem _)
    have := partW_len4 hx.1 hx.2
    rw [accN_succ d k (by omega)]
    by_cases h0 : k = 0
    · rw [if_pos h0]; simp; omega
    · rw [if_neg h0]; simp; omega
theorem fit_of {d : List (List (List UInt8 × List UInt8))} (h1 : d.any partBad = false) (h2 : tooLongL d = false) : Fit d := by
  unfold tooLongL at h2
  rw [Bool.or_eq_false_iff, decide_eq_false_iff_not, List.any_eq_false] at h2
  rw [List.any_eq_false] at h1
  refine ⟨by omega, fun p hp => ?_⟩
  have a := h1 p hp
  have b := h2.2 p hp
  unfold partBad at a
  unfold rdnLongB at b
  simp only [Bool.or_eq_true, not_or, decide_eq_true_eq, List.any_eq_true, not_exists, not_and] at a b
  refine ⟨by omega, fun x hx => ?_⟩
  have a2 := a.2 x hx
  have b2 := b.2 x hx
  unfold avaBadB at a2
  unfold avaLongB at b2
  simp only [Bool.not_eq_true', Bool.not_eq_false, decide_eq_true_eq] at a2 b2
  exact ⟨isTypeL_len a2, by omega⟩
set_option maxRecDepth 100000 in
set_option maxHeartbeats 4000000 in
theorem rPrint_r (d : List (List (List UInt8 × List UInt8))) (v : Value) (w : World) (hv : DnR w v d) (hl : d.length ≤ 1000000) (hl2 : ∀ p ∈ d, p.length ≤ 1000000 ∧ ∀ x ∈ p, x.1.length ≤ 1000000) :
    Calls Tryz.prog 80 #[v] w fun e w' => e = .returned (.tuple #[.string ⟨(printL d).2.toArray⟩, .int .i64 (printL d).1]) ∧ Below w.heap.size w w' := by
  have HFi := Lib.hid (fits_r d v w hv)
  have HDR := Lib.hid hv
  obtain ⟨R, hR⟩ : ∃ R, printL d = R := ⟨_, rfl⟩
  rw [hR]
  have HR := Lib.hid hR
  clear hR
  obtain ⟨A, c, rfl, hc, hx⟩ := hv
  have HX := Lib.hid hx
  have HL2 := Lib.hid hl2
  clear hx hl2
  go_enter Tryz.func80, Tryz.ntmps80
  go_wp2_with fail
  go_loopg [4] d.length (fun gk t wr => ∃ k : Nat, k ≤ d.length ∧ t = .int .i64 k ∧ Aside (k + gk = d.length) ∧ w = wr ∧ Aside (d.any partBad = (d.drop k).any partBad))
  case atStart => exact ⟨0, by omega, rfl, by show _ = _; omega, rfl, rfl⟩
  case round =>
    obtain ⟨k, hk, rfl, AG, rfl, AR⟩ := hrel
    by_cases hlt : k < d.length
    · obtain ⟨q, rfl⟩ : ∃ q, gk = q + 1 := ⟨gk - 1, by have := AG.out; omega⟩
      obtain ⟨g, o, rfl, hg, pv, hpc, hpr⟩ : ∃ g o, A = some ⟨g, o, none⟩ ∧ g < w.heap.size ∧ ∃ pv, w.cell? ⟨g, o + k, none⟩ = some pv ∧ RdnR w pv d[k] := by
        rcases HX.out with rfl | ⟨g, o, rfl, hg, h⟩
        · simp at hlt
        · exact ⟨g, o, rfl, hg, h k d[k] (List.getElem?_eq_getElem hlt)⟩
      have AR2 : Aside (d.any partBad = (partBad d[k] || (d.drop (k + 1)).any partBad)) := by
        show _ = _
        rw [AR.out, List.drop_eq_getElem_cons hlt, List.any_cons]
      have hpl := HL2.out d[k] (List.getElem_mem _)
      obtain ⟨Ap, cp, rfl, hcp, hpx⟩ := hpr
      have hkk : (k : Int) < (d.length : Int) := by omega
      clear AR
      generalize d[k] = p at *
      by_cases h0 : p = []
      · subst h0
        have hb : d.any partBad = true := by rw [AR2.out]; rfl
        have hRt : R = (30, []) := by rw [← HR.out]; unfold printL; rw [hb]; rfl
        subst hRt
        clear AR2 hpx hb HL2 HX
        go_wp2_with fail
        go_ret2
        exact ⟨rfl, Below.refl _ _⟩
      · have AR3 : Aside (d.any partBad = (p.any avaBadB || (d.drop (k + 1)).any partBad)) := by
          show _ = _
          rw [AR2.out]
          unfold partBad
          have : p.isEmpty = false := by cases p with | nil => exact absurd rfl h0 | cons _ _ => rfl
          rw [this, Bool.false_or]
        have hp0 : ((p.length : Int) == 0) = false := beq_eq_false_iff_ne.2 (by
          intro e
          exact h0 (List.eq_nil_of_length_eq_zero (by omega)))
        have HPX := Lib.hid hpx
        have hpl1 := hpl.1
        have HPL := Lib.hid hpl.2
        clear AR2 hpx h0 hpl
        go_wp2_with fail
        obtain ⟨wo, hwo⟩ : ∃ wo, wo = w := ⟨_, rfl⟩
        subst hwo
        go_loopg [5] p.length (fun gk2 t wr => ∃ m : Nat, m ≤ p.length ∧ t = .int .i64 m ∧ Aside (m + gk2 = p.length) ∧ wo = wr ∧ Aside (d.any partBad = ((p.drop m).any avaBadB || (d.drop (k + 1)).any partBad)))
        case atStart => exact ⟨0, by omega, rfl, by show _ = _; omega, rfl, AR3.out⟩
        case round =>
          obtain ⟨m, hm, rfl, AG2, rfl, AR4⟩ := hrel
          by_cases hlt2 : m < p.length
          · obtain ⟨q2, rfl⟩ : ∃ q2, gk = q2 + 1 := ⟨gk - 1, by have := AG2.out; omega⟩
            obtain ⟨gp, op, rfl, hgp, c0, c1⟩ : ∃ gp op, Ap = some ⟨gp, op, none⟩ ∧ gp < wo.heap.size ∧ wo.cell? ⟨gp, op + 2 * m, none⟩ = some (.string ⟨p[m].1.toArray⟩) ∧ wo.cell? ⟨gp, op + 2 * m + 1, none⟩ = some (.string ⟨p[m].2.toArray⟩) := by
              rcases HPX.out with h | ⟨gp, op, h1, h2, h3⟩
              · rw [h] at hlt2; simp at hlt2
              · exact ⟨gp, op, h1, h2, h3 m p[m] (List.getElem?_eq_getElem hlt2)⟩
            have AR5 : Aside (d.any partBad = ((avaBadB p[m] || (p.drop (m + 1)).any avaBadB) || (d.drop (k + 1)).any partBad)) := by
              show _ = _
              rw [AR4.out, List.drop_eq_getElem_cons hlt2, List.any_cons]
            have hxl := HPL.out p[m] (List.getElem_mem _)
            have hmm : (m : Int) < (p.length : Int) := by omega
            have hsw : op + m * 2 = op + 2 * m := by omega
            clear AR4 AR3
            generalize p[m] = x at *
            have HT := Lib.hid (fun W => IsType_r x.1 W hxl)
            cases ht : isTypeL x.1
            · rw [ht] at HT
              have hb : d.any partBad = true := by rw [AR5.out]; unfold avaBadB; rw [ht]; rfl
              have hRt : R = (30, []) := by rw [← HR.out]; unfold printL; rw [hb]; rfl
              subst hRt
              clear AR5 hb ht
              go_wp2_with (go_at_call 50; refine (HT.out _).mono ?_; rintro e w2 ⟨rfl, rfl⟩)
              go_ret2
              exact ⟨rfl, Below.refl _ _⟩
            · rw [ht] at HT
              have AR6 : Aside (d.any partBad = ((p.drop (m + 1)).any avaBadB || (d.drop (k + 1)).any partBad)) := by
                show _ = _
                rw [AR5.out]; unfold avaBadB; rw [ht]; rfl
              clear AR5 ht
              go_wp2_with (go_at_call 50; refine (HT.out _).mono ?_; rintro e w2 ⟨rfl, rfl⟩)
              go_roundg q2
              case measure => omega
              case rel => exact ⟨m + 1, by omega, by go_num, by have := AG2.out; show _ = _; omega, rfl, AR6.out⟩
          · have AR5 : Aside (d.any partBad = (d.drop (k + 1)).any partBad) := by
              show _ = _
              rw [AR4.out, List.drop_eq_nil_of_le (by omega)]; rfl
            clear AR4 AR3
            go_wp2_with fail
            go_roundg q
            case measure => omega
            case rel => exact ⟨k + 1, by omega, by go_num, by have := AG.out; show _ = _; omega, rfl, AR5.out⟩
    · have hnb : d.any partBad = false := by rw [AR.out, List.drop_eq_nil_of_le (by omega)]; rfl
      clear AR AG
      cases htl : tooLongL d
      · rw [htl] at HFi
        have hFit := fit_of hnb htl
        have hRt : R = printFin (accN d d.length) := by
          rw [← HR.out]; unfold printL; rw [hnb, htl]
          simp only [Bool.false_eq_true, if_false]
          unfold nameW accN; rw [List.take_length]
        have HRt := Lib.hid hRt
        have HFt := Lib.hid hFit
        have hd20 := hFit.1
        clear hRt hFit hnb htl HR
        go_wp2_with (go_at_call 83; refine HFi.out.mono ?_; rintro e w2 ⟨rfl, rfl⟩)
        clear HFi
        obtain ⟨wo, hwo⟩ : ∃ wo, wo = w := ⟨_, rfl⟩
        subst hwo
        go_loopg [6, 7] d.length (fun gk2 s t wr => ∃ m : Nat, m ≤ d.length ∧ t = .int .i64 m ∧ s = .string ⟨(accN d m).toArray⟩ ∧ Aside (m + gk2 = d.length) ∧ Below wo.heap.size wo wr)
        case atStart => exact ⟨0, by omega, rfl, rfl, by show _ = _; omega, Below.refl _ _⟩
        case round =>
          obtain ⟨m, hm, rfl, rfl, AG2, hB⟩ := hrel
          have hal := accN_len d HFt.out m hm
          by_cases hlt2 : m < d.length
          · obtain ⟨q2, rfl⟩ : ∃ q2, gk = q2 + 1 := ⟨gk - 1, by have := AG2.out; omega⟩
            obtain ⟨g, o, rfl, hg, pv, hpc, hpr⟩ : ∃ g o, A = some ⟨g, o, none⟩ ∧ g < wo.heap.size ∧ ∃ pv, wo.cell? ⟨g, o + m, none⟩ = some pv ∧ RdnR wo pv d[m] := by
              rcases HX.out with rfl | ⟨g, o, rfl, hg, h⟩
              · simp at hlt2
              · exact ⟨g, o, rfl, hg, h m d[m] (List.getElem?_eq_getElem hlt2)⟩
            have hpk := HFt.out.2 d[m] (List.getElem_mem _)
            have HS := Lib.hid (accN_succ d m hlt2)
            have hwl := partW_len4 hpk.1 hpk.2
            have HV := Lib.hid (rPart_r d[m] pv wr (hpr.below hB) hpk.1 hpk.2)
            have d0 : wr.cell? ⟨g, o + m, none⟩ = some pv := (hB.cell (p := ⟨g, o + m, none⟩) hg).trans hpc
            obtain ⟨Ap, cp, rfl, hcp, _⟩ := hpr
            have hmm : (m : Int) < (d.length : Int) := by omega
            clear hpc HX hpk HDR HL2
            generalize partW d[m] = u at *
            generalize d[m].length = pn at *
            by_cases h0 : m = 0
            · subst h0
              rw [if_pos rfl] at HS
              have ha : accN d 0 = [] := rfl
              rw [ha]
              have hS2 : accN d (0 + 1) = u := by rw [HS.out]; simp
              have HS2 := Lib.hid hS2
              have h1 : ∀ W, (Op.stringOp .add ⟨#[]⟩ ⟨u.toArray⟩).run Tryz.prog W = .ok (.string ⟨u.toArray⟩) W := fun W => run_string_add_lists (P := Tryz.prog) W [] u (by simp) (by omega)
              have d0' : wr.cell? ⟨g, o, none⟩ = some (.slice Ap pn cp) := by simpa using d0
              clear hS2 HS ha hal
              go_wp2_with (go_at_call 126; refine HV.out.mono ?_; rintro e w2 ⟨rfl, hb2⟩)
              go_roundg q2
              case measure => omega
              case rel => exact ⟨0 + 1, by omega, by go_num, by rw [HS2.out], by have := AG2.out; show _ = _; omega, hB.trans (hb2.mono hB.size)⟩
            · have hk0 : (0 : Int) < (m : Int) := by omega
              rw [if_neg h0] at HS
              generalize accN d m = acc at *
              obtain ⟨ac, hac⟩ : ∃ ac, ac = acc ++ [44] := ⟨_, rfl⟩
              obtain ⟨a4, ha4⟩ : ∃ a4, a4 = ac ++ u := ⟨_, rfl⟩
              have hacl : ac.length ≤ 12557 * m + 1 := by rw [hac, List.length_append, List.length_singleton]; omega
              have hp43 : ∀ W, (Op.stringOp .add ⟨acc.toArray⟩ ⟨#[44]⟩).run Tryz.prog W = .ok (.string ⟨ac.toArray⟩) W := fun W => by rw [hac]; exact run_string_add_lists (P := Tryz.prog) W _ [44] (by omega) (by simp)
              have h1 : ∀ W, (Op.stringOp .add ⟨ac.toArray⟩ ⟨u.toArray⟩).run Tryz.prog W = .ok (.string ⟨a4.toArray⟩) W := fun W => by rw [ha4]; exact run_string_add_lists (P := Tryz.prog) W _ _ (by omega) (by omega)
              have hS2 : accN d (m + 1) = a4 := by rw [HS.out, ha4, hac]
              have HS2 := Lib.hid hS2
              clear hS2 HS hac ha4 hacl hal
              go_wp2_with (go_at_call 126; refine HV.out.mono ?_; rintro e w2 ⟨rfl, hb2⟩)
              go_roundg q2
              case measure => omega
              case rel => exact ⟨m + 1, by omega, by go_num, by rw [HS2.out], by have := AG2.out; show _ = _; omega, hB.trans (hb2.mono hB.size)⟩
          · obtain rfl : m = d.length := by omega
            generalize accN d d.length = acc at *
            by_cases h65 : 65536 < acc.length
            · have hRR : R = (2, []) := by rw [HRt.out]; unfold printFin; rw [if_pos h65]
              subst hRR
              have h65' : (65536 : Int) < (acc.length : Int) := by omega
              clear HRt
              go_wp2_with fail
              go_ret2
              exact ⟨rfl, hB⟩
            · have hRR : R = (0, acc) := by rw [HRt.out]; unfold printFin; rw [if_neg h65]
              subst hRR
              have h65' : (acc.length : Int) ≤ 65536 := by omega
              clear HRt
              go_wp2_with fail
              go_ret2
              exact ⟨rfl, hB⟩
      · rw [htl] at HFi
        have hRt : R = (2, []) := by rw [← HR.out]; unfold printL; rw [hnb, htl]; rfl
        subst hRt
        clear hnb htl
        go_wp2_with (go_at_call 83; refine HFi.out.mono ?_; rintro e w2 ⟨rfl, rfl⟩)
        go_ret2
        exact ⟨rfl, Below.refl _ _⟩
end Go.Proofs.YtgpecklibcgifaaGreatDoor
/- Contracts of the document's answer: chapter 5: numbers. -/
namespace Go.Proofs.YtgpecklibcgifaaGreatDoor
open Go.RowKit

/-- The order of two texts without a sign. -/
def numP (a b : List UInt8) : Int := orV (Lib.compareInt a.length b.length) (cmpB a b)
theorem numP_lt {a b : List UInt8} (h : a.length < b.length) : numP a b = -1 := by
  unfold numP orV Lib.compareInt
  simp; omega
theorem numP_gt {a b : List UInt8} (h : b.length < a.length) : numP a b = 1 := by
  unfold numP orV Lib.compareInt
  simp; omega
theorem numP_eq {a b : List UInt8} (h : a.length = b.length) : numP a b = cmpB a b := by
  unfold numP orV Lib.compareInt
  simp [h]
set_option maxRecDepth 10000 in
set_option maxHeartbeats 1000000 in
theorem numbers_plain (a b : List UInt8) (w : World) (ha : 0 < a.length) (hb : 0 < b.length) (na : a[0] ≠ 45) (nb : b[0] ≠ 45) (la : a.length ≤ 1000000) (lb : b.length ≤ 1000000) :
    Calls Tryz.prog 46 #[.string ⟨a.toArray⟩, .string ⟨b.toArray⟩] w fun e w' => e = .returned (.int .i64 (numP a b)) ∧ Below w.heap.size w w' := by
  have hget := ba_get
  have qa : ((a[0].toNat : Int) == 45) = false := by rw [beq_eq_false_iff_ne]; intro e; exact na (UInt8.toNat_inj.1 (show _ = 45 by omega))
  have qb : ((b[0].toNat : Int) == 45) = false := by rw [beq_eq_false_iff_ne]; intro e; exact nb (UInt8.toNat_inj.1 (show _ = 45 by omega))
  have ha' : (0 : Int) < (a.length : Int) := by omega
  have hb' : (0 : Int) < (b.length : Int) := by omega
  rcases Nat.lt_trichotomy a.length b.length with h | h | h
  · rw [numP_lt h]
    have h' : (a.length : Int) < (b.length : Int) := by omega
    clear na nb
    go_enter Tryz.func46, Tryz.ntmps46
    go_wp2_with fail
    go_quiet (fail)
    go_wp2_with fail
    go_ret
    exact ⟨rfl, below_drewN (Below.refl _ _) nq⟩
  · rw [numP_eq h]
    have HC := Lib.hid (fun W => Compare_r a b W (by omega) (by omega))
    have h1 : ¬ (a.length : Int) < (b.length : Int) := by omega
    have h2 : ¬ (b.length : Int) < (a.length : Int) := by omega
    clear na nb h
    go_enter Tryz.func46, Tryz.ntmps46
    go_wp2_with fail
    go_quiet (fail)
    go_wp2_with (go_at_call 47; refine (HC.out _).mono ?_; rintro e w2 ⟨rfl, hb2⟩)
    go_ret
    have hb0 : Below w.heap.size w (w.drewN nq) := below_drewN (Below.refl _ _) nq
    exact ⟨rfl, hb0.trans hb2⟩
  · rw [numP_gt h]
    have h1 : ¬ (a.length : Int) < (b.length : Int) := by omega
    have h2 : (b.length : Int) < (a.length : Int) := by omega
    clear na nb
    go_enter Tryz.func46, Tryz.ntmps46
    go_wp2_with fail
    go_quiet (fail)
    go_wp2_with fail
    go_ret
    exact ⟨rfl, below_drewN (Below.refl _ _) nq⟩
theorem num_neg (a : List UInt8) : Lib.hasPrefix a [45] = (a.head? == some 45) := by
  unfold Lib.hasPrefix
  cases a with
  | nil => rfl
  | cons c t =>
    rw [Bool.eq_iff_iff]
    simp [List.isPrefixOf]
    exact eq_comm
/-- What is a whole number's text: nonempty, and digits behind the sign. -/
theorem int_parts {l : List UInt8} (h : intL l = true) : (∃ c t, l = c :: t ∧ isDig c = true) ∨ (∃ c t, l = 45 :: c :: t ∧ isDig c = true) := by
  unfold intL at h
  simp only [Bool.and_eq_true] at h
  have hd := h.1.1
  unfold digsL at hd
  simp only [Bool.and_eq_true, Bool.not_eq_true', List.all_eq_true] at hd
  obtain ⟨h1, h2⟩ := hd
  cases l with
  | nil => cases h1
  | cons c t =>
    by_cases hc : c = 45
    · subst hc
      right
      have hp : Lib.trimPrefix ((45 : UInt8) :: t) [45] = t := by unfold Lib.trimPrefix Lib.hasPrefix; simp [List.isPrefixOf]
      rw [hp] at h1 h2
      cases t with
      | nil => cases h1
      | cons d u => exact ⟨d, u, rfl, h2 d (List.mem_cons_self ..)⟩
    · left
      have hp : Lib.trimPrefix (c :: t) [45] = c :: t := by
        unfold Lib.trimPrefix
        rw [if_neg]
        rw [num_neg]
        simpa using hc
      rw [hp] at h2
      exact ⟨c, t, rfl, h2 c (List.mem_cons_self ..)⟩
theorem dig_ne45 {c : UInt8} (h : isDig c = true) : c ≠ 45 := by rintro rfl; exact absurd h (by decide)
theorem pre_pos {c : UInt8} {t : List UInt8} (h : c ≠ 45) : Lib.hasPrefix (c :: t) [45] = false ∧ Lib.trimPrefix (c :: t) [45] = c :: t := by
  have h1 : Lib.hasPrefix (c :: t) [45] = false := by rw [num_neg]; simpa using h
  exact ⟨h1, by unfold Lib.trimPrefix; rw [h1]; rfl⟩
theorem pre_neg (t : List UInt8) : Lib.hasPrefix ((45 : UInt8) :: t) [45] = true ∧ Lib.trimPrefix ((45 : UInt8) :: t) [45] = t := by
  have h1 : Lib.hasPrefix ((45 : UInt8) :: t) [45] = true := by rw [num_neg]; rfl
  exact ⟨h1, by unfold Lib.trimPrefix; rw [h1]; rfl⟩
set_option maxRecDepth 10000 in
set_option maxHeartbeats 1000000 in
theorem numbers_mix (a b : List UInt8) (w : World) (ha : 0 < a.length) (hb : 0 < b.length) (x y : Bool) (hx : ((a[0].toNat : Int) == 45) = x) (hy : ((b[0].toNat : Int) == 45) = y) (hxy : x ≠ y) :
    Calls Tryz.prog 46 #[.string ⟨a.toArray⟩, .string ⟨b.toArray⟩] w fun e w' => e = .returned (.int .i64 (if x then -1 else 1)) ∧ Below w.heap.size w w' := by
  have hget := ba_get
  have ha' : (0 : Int) < (a.length : Int) := by omega
  have hb' : (0 : Int) < (b.length : Int) := by omega
  cases x <;> cases y
  · exact absurd rfl hxy
  · clear hxy
    go_enter Tryz.func46, Tryz.ntmps46
    go_wp2_with fail
    go_quiet (fail)
    go_wp2_with fail
    go_ret
    exact ⟨rfl, below_drewN (Below.refl _ _) nq⟩
  · clear hxy
    go_enter Tryz.func46, Tryz.ntmps46
    go_wp2_with fail
    go_quiet (fail)
    go_wp2_with fail
    go_ret
    exact ⟨rfl, below_drewN (Below.refl _ _) nq⟩
  · exact absurd rfl hxy
theorem sub_tail1 (c : UInt8) (t : List UInt8) : sub (c :: t) 1 (t.length + 1) = t := by unfold sub; simp
set_option maxRecDepth 10000 in
set_option maxHeartbeats 1000000 in
theorem numbers_neg (a b : List UInt8) (w : World) (ha : 0 < a.length) (hb : 0 < b.length) (na : a[0] ≠ 45) (nb : b[0] ≠ 45) (la : a.length ≤ 1000000) (lb : b.length ≤ 1000000) :
    Calls Tryz.prog 46 #[.string ⟨(45 :: a).toArray⟩, .string ⟨(45 :: b).toArray⟩] w fun e w' => e = .returned (.int .i64 (numP b a)) ∧ Below w.heap.size w w' := by
  have hget := ba_get
  have hext := ba_ext
  have HN := Lib.hid (fun W => numbers_plain b a W hb ha nb na lb la)
  have ga : (1 : Int) ≤ (a.length : Int) + 1 := by omega
  have gb : (1 : Int) ≤ (b.length : Int) + 1 := by omega
  have ga' : (0 : Int) ≤ (a.length : Int) := by omega
  have gb' : (0 : Int) ≤ (b.length : Int) := by omega
  have sa := sub_tail1 45 a
  have sb := sub_tail1 45 b
  clear na nb
  go_enter Tryz.func46, Tryz.ntmps46
  go_wp2_with fail
  go_quiet (fail)
  go_wp2_with fail
  go_region_held3 (fun _ => True) (trivial) ((go_at_call 46; (try rw [sa]); (try rw [sb]); refine (HN.out _).mono ?_; rintro e w2 ⟨rfl, hb2⟩))
  all_goals
    go_wp2_with fail
    go_ret
    have hb0 : Below w.heap.size w (w.drewN nq).drew := below_drewN (below_drewN (Below.refl _ _) nq) 1
    exact ⟨rfl, hb0.trans hb2⟩
theorem numbers_r (a b : List UInt8) (w : World) (ha : intL a = true) (hb : intL b = true) (la : a.length ≤ 1000000) (lb : b.length ≤ 1000000) :
    Calls Tryz.prog 46 #[.string ⟨a.toArray⟩, .string ⟨b.toArray⟩] w fun e w' => e = .returned (.int .i64 (intsL a b)) ∧ Below w.heap.size w w' := by
  have n45 : ∀ c : UInt8, c ≠ 45 → ((c.toNat : Int) == 45) = false := fun c h => by rw [beq_eq_false_iff_ne]; intro e; exact h (UInt8.toNat_inj.1 (show _ = 45 by omega))
  unfold intsL
  rcases int_parts ha with ⟨c, t, rfl, hc⟩ | ⟨c, t, rfl, hc⟩ <;> rcases int_parts hb with ⟨d, u, rfl, hd⟩ | ⟨d, u, rfl, hd⟩
  · rw [(pre_pos (dig_ne45 hc)).1, (pre_pos (dig_ne45 hd)).1, (pre_pos (dig_ne45 hc)).2, (pre_pos (dig_ne45 hd)).2]
    exact numbers_plain _ _ w (by simp) (by simp) (dig_ne45 hc) (dig_ne45 hd) la lb
  · rw [(pre_pos (dig_ne45 hc)).1, (pre_neg (d :: u)).1]
    exact numbers_mix _ _ w (by simp) (by simp) false true (n45 c (dig_ne45 hc)) rfl (by simp)
  · rw [(pre_neg (c :: t)).1, (pre_pos (dig_ne45 hd)).1]
    exact numbers_mix _ _ w (by simp) (by simp) true false rfl (n45 d (dig_ne45 hd)) (by simp)
  · rw [(pre_neg (c :: t)).1, (pre_neg (d :: u)).1, (pre_neg (c :: t)).2, (pre_neg (d :: u)).2]
    exact numbers_neg (c :: t) (d :: u) w (by simp) (by simp) (dig_ne45 hc) (dig_ne45 hd) (by simp at la ⊢; omega) (by simp at lb ⊢; omega)
end Go.Proofs.YtgpecklibcgifaaGreatDoor
/- Plain: pairs put in one by one in their order, each once. -/
namespace Go.Proofs.YtgpecklibcgifaaGreatDoor

def insA (x : List UInt8 × List UInt8) : List (List UInt8 × List UInt8) → List (List UInt8 × List UInt8)
  | [] => [x]
  | y :: t => if avaCmp y x < 0 then y :: insA x t else if y = x then y :: t else x :: y :: t
def ordL : List (List UInt8 × List UInt8) → List (List UInt8 × List UInt8) → List (List UInt8 × List UInt8)
  | [], out => out
  | x :: r, out => ordL r (insA x out)
theorem insA_mem (x z : List UInt8 × List UInt8) : ∀ l, z ∈ insA x l ↔ z = x ∨ z ∈ l
  | [] => by simp [insA]
  | y :: t => by
    rw [insA]
    split
    · rw [List.mem_cons, insA_mem x z t, List.mem_cons]
      constructor
      · rintro (h | h | h)
        · exact .inr (.inl h)
        · exact .inl h
        · exact .inr (.inr h)
      · rintro (h | h | h)
        · exact .inr (.inl h)
        · exact .inl h
        · exact .inr (.inr h)
    · split
      · next h => subst h; simp
      · simp
theorem ordL_mem (z : List UInt8 × List UInt8) : ∀ r out, z ∈ ordL r out ↔ z ∈ r ∨ z ∈ out
  | [], out => by simp [ordL]
  | x :: r, out => by
    rw [ordL, ordL_mem z r, insA_mem, List.mem_cons]
    constructor
    · rintro (h | h | h)
      · exact .inl (.inr h)
      · exact .inl (.inl h)
      · exact .inr h
    · rintro ((h | h) | h)
      · exact .inr (.inl h)
      · exact .inl h
      · exact .inr (.inr h)
theorem ava_lt_of {x y : List UInt8 × List UInt8} (h1 : ¬ avaCmp y x < 0) (h2 : y ≠ x) : avaCmp x y < 0 := by
  have hs := avaCmp_ord.swap x y
  have hz : avaCmp y x ≠ 0 := fun e => h2 ((avaCmp_ord.zero y x).1 e)
  omega
theorem insA_ss (x : List UInt8 × List UInt8) : ∀ l, SS avaCmp l → SS avaCmp (insA x l)
  | [], _ => by simp [insA, SS]
  | y :: t, h => by
    have h' := List.pairwise_cons.1 h
    rw [insA]
    split
    · next hlt =>
      refine List.pairwise_cons.2 ⟨fun z hz => ?_, insA_ss x t h'.2⟩
      rcases (insA_mem x z t).1 hz with rfl | hz
      · exact hlt
      · exact h'.1 z hz
    · next hlt =>
      split
      · exact h
      · next hne =>
        have hxy := ava_lt_of hlt hne
        refine List.pairwise_cons.2 ⟨fun z hz => ?_, h⟩
        rcases List.mem_cons.1 hz with rfl | hz
        · exact hxy
        · exact avaCmp_ord.lt_trans x y z hxy (h'.1 z hz)
theorem ordL_ss : ∀ r out, SS avaCmp out → SS avaCmp (ordL r out)
  | [], out, h => h
  | x :: r, out, h => ordL_ss r _ (insA_ss x out h)
/-- So the document's order is the program's. -/
theorem ordL_partN (p : List (List UInt8 × List UInt8)) : ordL p [] = partN p :=
  SS.unique avaCmp_ord _ _ (ordL_ss p [] (by simp [SS])) (partN_ss p) (fun x => by rw [ordL_mem, partN_iff]; simp)
theorem insA_split (x : List UInt8 × List UInt8) : ∀ (acc : List (List UInt8 × List UInt8)) (m : Nat), (∀ j (hj : j < acc.length), j < m → avaCmp acc[j] x < 0) → insA x acc = acc.take m ++ insA x (acc.drop m)
  | acc, 0, _ => by simp
  | [], m + 1, _ => by simp
  | y :: t, m + 1, h => by
    have h0 := h 0 (by simp) (by omega)
    simp only [List.getElem_cons_zero] at h0
    rw [insA, if_pos h0, insA_split x t m (fun j hj hm => by have := h (j + 1) (by simpa using hj) (by omega); simpa using this)]
    simp
theorem insA_end {x : List UInt8 × List UInt8} {acc : List (List UInt8 × List UInt8)} {m : Nat} (h : ∀ j (hj : j < acc.length), j < m → avaCmp acc[j] x < 0) (hm : acc.length ≤ m) : insA x acc = acc ++ [x] := by
  rw [insA_split x acc m h, List.drop_eq_nil_of_le hm, List.take_of_length_le hm]; rfl
theorem insA_same {x : List UInt8 × List UInt8} {acc : List (List UInt8 × List UInt8)} {m : Nat} (h : ∀ j (hj : j < acc.length), j < m → avaCmp acc[j] x < 0) (hm : m < acc.length) (he : acc[m] = x) : insA x acc = acc := by
  rw [insA_split x acc m h, List.drop_eq_getElem_cons hm, insA, he]
  have hz : avaCmp x x = 0 := (avaCmp_ord.zero x x).2 rfl
  rw [if_neg (by omega), if_pos rfl]
  conv => rhs; rw [← List.take_append_drop m acc, List.drop_eq_getElem_cons hm, he]
theorem insA_mid {x : List UInt8 × List UInt8} {acc : List (List UInt8 × List UInt8)} {m : Nat} (h : ∀ j (hj : j < acc.length), j < m → avaCmp acc[j] x < 0) (hm : m < acc.length) (hn : ¬ avaCmp acc[m] x < 0) (he : acc[m] ≠ x) : insA x acc = acc.take m ++ x :: acc.drop m := by
  rw [insA_split x acc m h]
  conv => lhs; rw [List.drop_eq_getElem_cons hm, insA, if_neg hn, if_neg he]
  conv => rhs; rw [List.drop_eq_getElem_cons hm]
/-- One step of the shift. -/
theorem shift_step {acc : List (List UInt8 × List UInt8)} {j : Nat} (z : List UInt8 × List UInt8) (hj : j + 1 ≤ acc.length) : (acc.take (j + 1) ++ z :: acc.drop (j + 1)).set (j + 1) acc[j] = acc.take j ++ acc[j] :: acc.drop j := by
  have hl : (acc.take (j + 1)).length = j + 1 := by simp; omega
  rw [List.set_append_right _ _ (by omega), hl, Nat.sub_self, List.set_cons_zero]
  rw [List.take_succ_eq_append_getElem (by omega)]
  conv => rhs; rw [List.drop_eq_getElem_cons (by omega)]
  rw [List.append_assoc]; rfl
theorem put_mid {acc : List (List UInt8 × List UInt8)} {m : Nat} (x z : List UInt8 × List UInt8) (hm : m ≤ acc.length) : (acc.take m ++ z :: acc.drop m).set m x = acc.take m ++ x :: acc.drop m := by
  have hl : (acc.take m).length = m := by simp; omega
  rw [List.set_append_right _ _ (by omega), hl, Nat.sub_self, List.set_cons_zero]
end Go.Proofs.YtgpecklibcgifaaGreatDoor
/- A store into a row of the call's own. -/
namespace Go.Proofs.YtgpecklibcgifaaGreatDoor
open Go.RowKit Go.Sort

theorem row_set {w : World} {B g n cap s : Nat} {e : TypeId} {xs : List Value} (h : w.ownsRow B e s (.slice (some ⟨g, 0, none⟩) n cap) n xs) (i : Nat) (u : Value) :
    (w.setCell ⟨g, i, none⟩ u).ownsRow B e s (.slice (some ⟨g, 0, none⟩) n cap) n (xs.set i u) := by
  obtain ⟨h1, h2⟩ := h
  refine ⟨by simpa using h1, ?_⟩
  rcases h2 with ⟨hn, _⟩ | ⟨g', cap', cur, he, r2, r3, r4, r5, r6, r7⟩
  · cases hn
  · cases he
    refine .inr ⟨g, cap, cur.setIfInBounds i u, rfl, r2, ?_, r4, r5, by simpa using r6, ?_⟩
    · simp [World.setCell, Array.getElem?_modify, r3]
    · rw [← r7, Array.toList_setIfInBounds, List.take_set]
theorem flat_set : ∀ (l : List (List UInt8 × List UInt8)) (i : Nat) (x : List UInt8 × List UInt8), i < l.length → (l.set i x).flatMap avaCells = ((l.flatMap avaCells).set (2 * i) (.string ⟨x.1.toArray⟩)).set (2 * i + 1) (.string ⟨x.2.toArray⟩)
  | y :: l, 0, x, _ => by simp [avaCells]
  | y :: l, i + 1, x, h => by
    have ih := flat_set l i x (by simpa using h)
    simp only [List.set_cons_succ, List.flatMap_cons, avaCells, List.cons_append, List.nil_append] at ih ⊢
    rw [ih]
    rw [show 2 * (i + 1) = (2 * i) + 1 + 1 by omega, show 2 * i + 1 + 1 + 1 = (2 * i + 1) + 1 + 1 by omega]
    simp only [List.set_cons_succ]
theorem avas_set {B g cap : Nat} {w : World} {l : List (List UInt8 × List UInt8)} (h : Avas B w (.slice (some ⟨g, 0, none⟩) l.length cap) l) {i : Nat} (hi : i < l.length) (x : List UInt8 × List UInt8) :
    Avas B ((w.setCell ⟨g, 2 * i, none⟩ (.string ⟨x.1.toArray⟩)).setCell ⟨g, 2 * i + 1, none⟩ (.string ⟨x.2.toArray⟩)) (.slice (some ⟨g, 0, none⟩) (l.set i x).length cap) (l.set i x) := by
  refine ⟨?_, by simpa [World.setCell] using h.2⟩
  rw [List.length_set, flat_set l i x hi]
  exact row_set (row_set h.1 (2 * i) _) (2 * i + 1) _
end Go.Proofs.YtgpecklibcgifaaGreatDoor
/- Contracts of the document's answer: chapter 4: Ordered. -/
namespace Go.Proofs.YtgpecklibcgifaaGreatDoor
open Go.RowKit Go.Sort

def LenA (x : List UInt8 × List UInt8) : Prop := x.1.length ≤ 1000000 ∧ x.2.length ≤ 1000000
theorem avas_below {B : Nat} {w w' : World} {v : Value} {l : List (List UInt8 × List UInt8)} (h : Avas B w v l) (hb : Below w.heap.size w w') : Avas B w' v l := h.keep (grown_below hb none) (fun k hk => by cases hk)
/-- The cells of one pair. -/
theorem RdnR.at {w : World} {A : Option Addr} {n c : Nat} {p : List (List UInt8 × List UInt8)} (h : RdnR w (.slice A n c) p) {j : Nat} (hj : j < p.length) : ∃ g o, A = some ⟨g, o, none⟩ ∧ g < w.heap.size ∧ w.cell? ⟨g, o + 2 * j, none⟩ = some (.string ⟨p[j].1.toArray⟩) ∧ w.cell? ⟨g, o + 2 * j + 1, none⟩ = some (.string ⟨p[j].2.toArray⟩) := by
  obtain ⟨A', c', e, _, hx⟩ := h
  cases e
  rcases hx with h | ⟨g, o, h1, h2, h3⟩
  · rw [h] at hj; simp at hj
  · exact ⟨g, o, h1, h2, h3 j p[j] (List.getElem?_eq_getElem hj)⟩
theorem below_of_own {B : Nat} {w0 w w' : World} {v : Value} {l : List (List UInt8 × List UInt8)} (h : Avas B w v l) (hb : Below B w0 w) (hg : w.grownBy w' v.ownBlock) : Below B w0 w' :=
  ⟨hg.os.trans hb.os, hg.tape.trans hb.tape, hg.output.trans hb.output, Nat.le_trans hb.size hg.size, fun k hk => by
    rw [hg.block k (Nat.lt_of_lt_of_le hk h.2) (fun e => by have := (h.lt k e.symm).1; omega)]
    exact hb.block k hk⟩
theorem avas_opened {B : Nat} {w : World} {v : Value} {l : List (List UInt8 × List UInt8)} (h : Avas B w v l) (hn : 0 < l.length) : ∃ g cap, v = .slice (some ⟨g, 0, none⟩) l.length cap ∧ l.length ≤ cap ∧ B ≤ g := by
  rcases h.1.2 with ⟨rfl, hz⟩ | ⟨g, cap, cur, rfl, r2, _, r4, _⟩
  · omega
  · exact ⟨g, cap, rfl, r4, r2⟩
theorem mid_len {acc : List (List UInt8 × List UInt8)} {z : List UInt8 × List UInt8} {j : Nat} (h : j ≤ acc.length) : (acc.take j ++ z :: acc.drop j).length = acc.length + 1 := by simp; omega
theorem avas_blk {B g cap n : Nat} {w : World} {l : List (List UInt8 × List UInt8)} (h : Avas B w (.slice (some ⟨g, 0, none⟩) n cap) l) : g < w.heap.size := (h.lt g rfl).2
theorem avas_cell {B g cap n : Nat} {w : World} {l : List (List UInt8 × List UInt8)} (h : Avas B w (.slice (some ⟨g, 0, none⟩) n cap) l) {i : Nat} (hi : i < l.length) : w.cell? ⟨g, 2 * i, none⟩ = some (.string ⟨l[i].1.toArray⟩) ∧ w.cell? ⟨g, 2 * i + 1, none⟩ = some (.string ⟨l[i].2.toArray⟩) := by
  have h2 := h.reads
  obtain ⟨A, c, e, hc, _⟩ := h2
  cases e
  obtain ⟨g', o', e', _, h0, h1⟩ := h.reads.at hi
  cases e'
  rw [Nat.zero_add] at h0 h1
  exact ⟨h0, h1⟩
theorem avas_mid {B g cap i : Nat} {w : World} {acc : List (List UInt8 × List UInt8)} {z : List UInt8 × List UInt8} (h : Avas B w (.slice (some ⟨g, 0, none⟩) (acc.length + 1) cap) (acc.take (i + 1) ++ z :: acc.drop (i + 1))) (hi : i + 1 ≤ acc.length) :
    g < w.heap.size ∧ w.cell? ⟨g, 2 * i, none⟩ = some (.string ⟨acc[i].1.toArray⟩) ∧ w.cell? ⟨g, 2 * i + 1, none⟩ = some (.string ⟨acc[i].2.toArray⟩) := by
  refine ⟨avas_blk h, ?_⟩
  have hl := mid_len (z := z) hi
  have e : (acc.take (i + 1) ++ z :: acc.drop (i + 1))[i]'(by omega) = acc[i] := by
    rw [List.getElem_append_left (by simp; omega)]
    simp
  have := avas_cell h (i := i) (by omega)
  rw [e] at this
  exact this
theorem avas_hole {B g cap j : Nat} {w : World} {acc : List (List UInt8 × List UInt8)} {z : List UInt8 × List UInt8} (h : Avas B w (.slice (some ⟨g, 0, none⟩) (acc.length + 1) cap) (acc.take j ++ z :: acc.drop j)) (hj : j ≤ acc.length) (u : Value) :
    w.cell? ⟨g, 2 * j, none⟩ = some (.string ⟨z.1.toArray⟩) ∧ w.frozen? ⟨g, 2 * j, none⟩ = false ∧ (w.setCell ⟨g, 2 * j, none⟩ u).cell? ⟨g, 2 * j + 1, none⟩ = some (.string ⟨z.2.toArray⟩) ∧ (w.setCell ⟨g, 2 * j, none⟩ u).frozen? ⟨g, 2 * j + 1, none⟩ = false := by
  have e : (acc.take j ++ z :: acc.drop j)[j]? = some z := by
    have hl : (acc.take j).length = j := by simp; omega
    rw [List.getElem?_append_right (by omega), hl, Nat.sub_self]
    rfl
  have := h.row.2 j z e
  exact ⟨this.1.1, this.1.2, (set_other _ _ _ _ _ (by omega)).trans this.2.1, (World.frozen?_setCell _ _ _ _).trans this.2.2⟩
theorem avas_shift {B g cap i : Nat} {w : World} {acc : List (List UInt8 × List UInt8)} {z : List UInt8 × List UInt8} (h : Avas B w (.slice (some ⟨g, 0, none⟩) (acc.length + 1) cap) (acc.take (i + 1) ++ z :: acc.drop (i + 1))) (hi : i + 1 ≤ acc.length) :
    Avas B ((w.setCell ⟨g, 2 * (i + 1), none⟩ (.string ⟨acc[i].1.toArray⟩)).setCell ⟨g, 2 * (i + 1) + 1, none⟩ (.string ⟨acc[i].2.toArray⟩)) (.slice (some ⟨g, 0, none⟩) (acc.length + 1) cap) (acc.take i ++ acc[i] :: acc.drop i) := by
  have hl := mid_len (z := z) hi
  rw [← hl] at h
  have := avas_set h (i := i + 1) (by omega) acc[i]
  rw [shift_step z hi, mid_len (z := acc[i]) (by omega)] at this
  exact this
theorem avas_put {B g cap j : Nat} {w : World} {acc : List (List UInt8 × List UInt8)} {z : List UInt8 × List UInt8} (x : List UInt8 × List UInt8) (h : Avas B w (.slice (some ⟨g, 0, none⟩) (acc.length + 1) cap) (acc.take j ++ z :: acc.drop j)) (hj : j ≤ acc.length) :
    Avas B ((w.setCell ⟨g, 2 * j, none⟩ (.string ⟨x.1.toArray⟩)).setCell ⟨g, 2 * j + 1, none⟩ (.string ⟨x.2.toArray⟩)) (.slice (some ⟨g, 0, none⟩) (acc.length + 1) cap) (acc.take j ++ x :: acc.drop j) := by
  have hl := mid_len (z := z) hj
  rw [← hl] at h
  have := avas_set h (i := j) (by omega) x
  rw [put_mid x z hj, mid_len (z := x) hj] at this
  exact this
theorem ins_all {Q : (List UInt8 × List UInt8) → Prop} {acc : List (List UInt8 × List UInt8)} {x y : List UInt8 × List UInt8} {j : Nat} (h : ∀ x ∈ acc, Q x) (hx : Q x) (hy : y ∈ acc.take j ++ x :: acc.drop j) : Q y := by
  rw [List.mem_append, List.mem_cons] at hy
  rcases hy with hy | rfl | hy
  · exact h y (List.mem_of_mem_take hy)
  · exact hx
  · exact h y (List.mem_of_mem_drop hy)
set_option maxRecDepth 100000 in
set_option maxHeartbeats 4000000 in
theorem Ordered_r (p : List (List UInt8 × List UInt8)) (v : Value) (w : World) (hv : RdnR w v p) (hl : p.length ≤ 1000) (hp : ∀ x ∈ p, LenA x) :
    Calls Tryz.prog 79 #[v] w fun e w' => ∃ v', e = .returned v' ∧ Avas w.heap.size w' v' (ordL p []) ∧ Below w.heap.size w w' := by
  obtain ⟨R, hR⟩ : ∃ R, ordL p [] = R := ⟨_, rfl⟩
  rw [hR]
  have HR := Lib.hid hR
  clear hR
  have HV := Lib.hid hv
  obtain ⟨A, c, rfl, hc, _⟩ := hv
  have HP := Lib.hid hp
  clear hp
  go_enter Tryz.func79, Tryz.ntmps79
  go_wp2_with fail
  go_loopg [3, 4] p.length (fun gk out t wr => ∃ (k : Nat) (acc : List (List UInt8 × List UInt8)), k ≤ p.length ∧ t = .int .i64 k ∧ Aside (k + gk = p.length) ∧ Avas w.heap.size wr out acc ∧ acc.length ≤ k ∧ Below w.heap.size w wr ∧ Aside (ordL (p.drop k) acc = R) ∧ Aside (∀ x ∈ acc, LenA x))
  case atStart => exact ⟨0, [], by omega, rfl, by show _ = _; omega, ⟨World.ownsRow_nil _ _ _ _, Nat.le_refl _⟩, by simp, Below.refl _ _, HR.out, (by intro x hx; cases hx)⟩
  case round =>
    obtain ⟨k, acc, hk, rfl, AG, hA, hal, hB, AR, AL⟩ := hrel
    by_cases hlt : k < p.length
    · obtain ⟨q, rfl⟩ : ∃ q, gk = q + 1 := ⟨gk - 1, by have := AG.out; omega⟩
      obtain ⟨g, o, rfl, hgw, d0, d1⟩ := HV.out.at hlt
      have hg : g < wr.heap.size := Nat.lt_of_lt_of_le hgw hB.size
      have c0 := (hB.cell (p := ⟨g, o + 2 * k, none⟩) hgw).trans d0
      have c1 := (hB.cell (p := ⟨g, o + 2 * k + 1, none⟩) hgw).trans d1
      have hS : ordL (p.drop (k + 1)) (insA p[k] acc) = R := by
        have h := AR.out
        rw [List.drop_eq_getElem_cons hlt, ordL] at h
        exact h
      have HS := Lib.hid hS
      have hLx := HP.out p[k] (List.getElem_mem _)
      have HA := Lib.hid hA
      obtain ⟨Ao, co, rfl, hco⟩ := hA.isSlice
      have hkk : (k : Int) < (p.length : Int) := by omega
      have hsk : o + k * 2 = o + 2 * k := by omega
      clear hS AR hA
      generalize p[k] = x at *
      obtain ⟨x1, x2⟩ := x
      simp only at c0 c1 d0 d1
      have HD0 := Lib.hid d0
      have HD1 := Lib.hid d1
      clear d0 d1
      go_wp2_with fail
      obtain ⟨wo, hwo⟩ : ∃ wo, wo = wr := ⟨_, rfl⟩
      subst hwo
      go_loopg [5] acc.length (fun gk2 t wr => ∃ m : Nat, m ≤ acc.length ∧ t = .int .i64 m ∧ Aside (m + gk2 = acc.length) ∧ Below wo.heap.size wo wr ∧ Aside (∀ j (hj : j < acc.length), j < m → avaCmp acc[j] (x1, x2) < 0))
      case atStart => exact ⟨0, by omega, rfl, by show _ = _; omega, Below.refl _ _, (by intro j hj h; omega)⟩
      case round =>
        obtain ⟨m, hm, rfl, AG2, hB2, AC⟩ := hrel
        have hgr : g < wr.heap.size := Nat.lt_of_lt_of_le hg hB2.size
        have b0 := (hB2.cell (p := ⟨g, o + 2 * k, none⟩) hg).trans c0
        have b1 := (hB2.cell (p := ⟨g, o + 2 * k + 1, none⟩) hg).trans c1
        by_cases hlt2 : m < acc.length
        · obtain ⟨ga, oa, rfl, hga, a0, a1⟩ := (HA.out.reads.below hB2).at hlt2
          have hmm : (m : Int) < (acc.length : Int) := by omega
          have hsm : oa + m * 2 = oa + 2 * m := by omega
          have HLs := Lib.hid (fun W => Less_r acc[m] (x1, x2) W (AL.out _ (List.getElem_mem _)) hLx)
          have HE := Lib.hid (show acc[m]'hlt2 = acc[m]'hlt2 from rfl)
          by_cases hc : avaCmp acc[m] (x1, x2) < 0
          · obtain ⟨q2, rfl⟩ : ∃ q2, gk = q2 + 1 := ⟨gk - 1, by have := AG2.out; omega⟩
            have AC2 : Aside (∀ j (hj : j < acc.length), j < m + 1 → avaCmp acc[j] (x1, x2) < 0) := by
              intro j hj h
              by_cases hjm : j = m
              · subst hjm; exact hc
              · exact AC.out j hj (by omega)
            clear AC HE
            generalize acc[m] = y at *
            obtain ⟨y1, y2⟩ := y
            simp only [avaV] at HLs
            simp only at a0 a1
            go_wp2_with fail
            go_region_held3 (fun w' => (w'.cell? ⟨g, o + 2 * k, none⟩ = some (.string ⟨x1.toArray⟩) ∧ w'.cell? ⟨g, o + 2 * k + 1, none⟩ = some (.string ⟨x2.toArray⟩)) ∧ w'.cell? ⟨ga, oa + 2 * m, none⟩ = some (.string ⟨y1.toArray⟩) ∧ w'.cell? ⟨ga, oa + 2 * m + 1, none⟩ = some (.string ⟨y2.toArray⟩)) (first | exact ⟨⟨b0, b1⟩, a0, a1⟩ | exact ⟨⟨f0, f1⟩, f2, f3⟩) (first | (go_at_call 125; refine (HLs.out _).mono ?_; rintro e w2 ⟨rfl, hb2⟩; have f0 := (hb2.cell (p := ⟨g, o + 2 * k, none⟩) hgr).trans b0; have f1 := (hb2.cell (p := ⟨g, o + 2 * k + 1, none⟩) hgr).trans b1; have f2 := (hb2.cell (p := ⟨ga, oa + 2 * m, none⟩) hga).trans a0; have f3 := (hb2.cell (p := ⟨ga, oa + 2 * m + 1, none⟩) hga).trans a1))
            have hb2' : Below wr.heap.size wr w2 := (Below.refl wr.heap.size wr).drew.trans hb2
            go_wp2_with fail
            go_roundg q2
            case measure => omega
            case rel => exact ⟨m + 1, by omega, by go_num, by have := AG2.out; show _ = _; omega, hB2.trans (hb2'.mono hB2.size), AC2.out⟩
          · have HI := Lib.hid (fun (e : acc[m] = (x1, x2)) => insA_same AC.out hlt2 e)
            have HM := Lib.hid (fun (e : acc[m] ≠ (x1, x2)) => insA_mid AC.out hlt2 hc e)
            clear AC HE
            generalize acc[m] = y at *
            obtain ⟨y1, y2⟩ := y
            simp only [avaV] at HLs
            simp only at a0 a1
            have hc' : decide (avaCmp (y1, y2) (x1, x2) < 0) = false := decide_eq_false hc
            go_wp2_with fail
            go_region_held3 (fun w' => (w'.cell? ⟨g, o + 2 * k, none⟩ = some (.string ⟨x1.toArray⟩) ∧ w'.cell? ⟨g, o + 2 * k + 1, none⟩ = some (.string ⟨x2.toArray⟩)) ∧ w'.cell? ⟨ga, oa + 2 * m, none⟩ = some (.string ⟨y1.toArray⟩) ∧ w'.cell? ⟨ga, oa + 2 * m + 1, none⟩ = some (.string ⟨y2.toArray⟩)) (first | exact ⟨⟨b0, b1⟩, a0, a1⟩ | exact ⟨⟨f0, f1⟩, f2, f3⟩) (first | (go_at_call 125; refine (HLs.out _).mono ?_; rintro e w2 ⟨rfl, hb2⟩; have f0 := (hb2.cell (p := ⟨g, o + 2 * k, none⟩) hgr).trans b0; have f1 := (hb2.cell (p := ⟨g, o + 2 * k + 1, none⟩) hgr).trans b1; have f2 := (hb2.cell (p := ⟨ga, oa + 2 * m, none⟩) hga).trans a0; have f3 := (hb2.cell (p := ⟨ga, oa + 2 * m + 1, none⟩) hga).trans a1))
            have hb2' : Below wr.heap.size wr w2 := (Below.refl wr.heap.size wr).drew.trans hb2
            by_cases hyx : ((y1, y2) : List UInt8 × List UInt8) = (x1, x2)
            · have hins := HI.out hyx
              rw [hins] at HS
              have e1 : y1 = x1 := congrArg Prod.fst hyx
              have e2 : y2 = x2 := congrArg Prod.snd hyx
              subst e1
              subst e2
              clear HI HM hins hyx
              go_wp2_with fail
              have heq := eql_ava
              go_quiet (fail)
              have hbn : Below wo.heap.size wo (w2.drewN nq) := below_drewN (hB2.trans (hb2'.mono hB2.size)) nq
              clear f0 f1 f2 f3 heq
              go_wp2_with fail
              go_roundg q
              case measure => omega
              case rel => exact ⟨k + 1, acc, by omega, by go_num, by have := AG.out; show _ = _; omega, avas_below HA.out hbn, by omega, hB.trans (hbn.mono hB.size), HS.out, AL.out⟩
            · have HIns := Lib.hid (HM.out hyx)
              have hyx2 : decide (((y1, y2) : List UInt8 × List UInt8) = (x1, x2)) = false := decide_eq_false hyx
              have hyx3 : (decide (y1 = x1) && decide (y2 = x2)) = false := by
                cases h1 : (decide (y1 = x1) && decide (y2 = x2))
                · rfl
                · rw [Bool.and_eq_true, decide_eq_true_eq, decide_eq_true_eq] at h1
                  exact absurd (by rw [h1.1, h1.2]) hyx
              clear HI HM hyx
              go_wp2_with fail
              have heq := eql_ava
              go_quiet (fail)
              have hbq : Below wo.heap.size wo (w2.drewN nq) := below_drewN (hB2.trans (hb2'.mono hB2.size)) nq
              clear f0 f1 f2 f3 heq hb2 hb2' HLs a0 a1 b0 b1 hB2 hga hgr
              generalize w2.drewN nq = wq at *
              have HAq := Lib.hid (avas_below HA.out hbq)
              go_wp2_with (at_builtin; refine avas_one (t := []) (u := []) rfl _ _ rfl rfl HAq.out rfl rfl (by omega) ?_; intro v' w4 hA4 hg4; obtain ⟨g4, c4, rfl, hc4, hB4⟩ := avas_opened hA4 (by simp))
              have hb4 : Below w.heap.size w w4 := below_of_own HAq.out (hB.trans (hbq.mono hB.size)) hg4
              have hA4' : Avas w.heap.size w4 (.slice (some ⟨g4, 0, none⟩) (acc.length + 1) c4) (acc.take acc.length ++ ([], []) :: acc.drop acc.length) := by
                have := hA4
                simpa using this
              have hc4' : acc.length + 1 ≤ c4 := by simpa using hc4
              clear hA4 hg4 HAq hbq hc4
              go_loopg [6] (acc.length - m) (fun gk3 t wr => ∃ (j : Nat) (z : List UInt8 × List UInt8), m ≤ j ∧ j ≤ acc.length ∧ t = .int .i64 j ∧ j ≤ gk3 + m ∧ Avas w.heap.size wr (.slice (some ⟨g4, 0, none⟩) (acc.length + 1) c4) (acc.take j ++ z :: acc.drop j) ∧ Below w.heap.size w wr)
              case atStart => exact ⟨acc.length, ([], []), by omega, Nat.le_refl _, by simp, by omega, hA4', hb4⟩
              case round =>
                obtain ⟨j, z, hmj, hjl, rfl, hjg, hAj, hBj⟩ := hrel
                clear hA4' hb4
                have HAj := Lib.hid hAj
                clear hAj
                by_cases hlt3 : m < j
                · obtain ⟨i, rfl⟩ : ∃ i, j = i + 1 := ⟨j - 1, by omega⟩
                  obtain ⟨q3, rfl⟩ : ∃ q3, gk = q3 + 1 := ⟨gk - 1, by omega⟩
                  obtain ⟨hg4w, e0, e1⟩ := avas_mid HAj.out hjl
                  have HSh := Lib.hid (avas_shift HAj.out hjl)
                  have HHo := Lib.hid (fun u => avas_hole HAj.out hjl u)
                  have hgt : ((i : Int) + 1 > (m : Int)) := by omega
                  have hil : ((i : Int) + 1 < (acc.length : Int) + 1) := by omega
                  have hsi : i * 2 = 2 * i := by omega
                  have hsj : (i + 1) * 2 = 2 * (i + 1) := by omega
                  generalize acc[i]'(by omega) = y at *
                  obtain ⟨y1, y2⟩ := y
                  simp only at e0 e1 HSh
                  obtain ⟨z0, z1, z2, z3⟩ := HHo.out (.string ⟨y1.toArray⟩)
                  clear HHo
                  go_wp2_with fail
                  go_roundg q3
                  case measure => omega
                  case rel => exact ⟨i, (y1, y2), by omega, by omega, by go_num, by omega, HSh.out, (hBj.setCell hB4 _).setCell hB4 _⟩
                · obtain rfl : j = m := by omega
                  have r0 := (hBj.cell (p := ⟨g, o + 2 * k, none⟩) hgw).trans HD0.out
                  have r1 := (hBj.cell (p := ⟨g, o + 2 * k + 1, none⟩) hgw).trans HD1.out
                  have hg4w := (avas_blk HAj.out)
                  have HPu := Lib.hid (avas_put (x1, x2) HAj.out hjl)
                  simp only at HPu
                  have hjl3 : ((j : Int) < (acc.length : Int) + 1) := by omega
                  have hsj : j * 2 = 2 * j := by omega
                  obtain ⟨z0, z1, z2, z3⟩ := avas_hole HAj.out hjl (.string ⟨x1.toArray⟩)
                  clear c0 c1
                  go_wp2_with fail
                  go_roundg q
                  case measure => omega
                  case rel => exact ⟨k + 1, acc.take j ++ (x1, x2) :: acc.drop j, by omega, by go_num, by have := AG.out; show _ = _; omega, by simpa using HPu.out, by simp; omega, (hBj.setCell hB4 _).setCell hB4 _, by rw [← HIns.out]; exact HS.out, (by intro y hy; exact ins_all AL.out hLx hy)⟩
        · have HIns : Hid (insA (x1, x2) acc = acc.take m ++ (x1, x2) :: acc.drop m) := by
            have h := insA_end AC.out (by omega : acc.length ≤ m)
            refine Lib.hid ?_
            rw [h, List.take_of_length_le (by omega), List.drop_eq_nil_of_le (by omega)]
          have hmd : decide ((m : Int) < (acc.length : Int)) = false := decide_eq_false (by omega)
          have hmn : ¬ (m : Int) < (acc.length : Int) := by omega
          clear AC b0 b1 hgr
          go_wp2_with fail
          go_quiet (fail)
          have hb1 : Below wo.heap.size wo (wr.drewN nq) := below_drewN hB2 nq
          clear hB2
          generalize wr.drewN nq = w1 at *
          go_wp2_with fail
          go_quiet (fail)
          have hbq : Below wo.heap.size wo (w1.drewN nq) := below_drewN hb1 nq
          clear hb1
          generalize w1.drewN nq = wq at *
          have HAq := Lib.hid (avas_below HA.out hbq)
          go_wp2_with (at_builtin; refine avas_one (t := []) (u := []) rfl _ _ rfl rfl HAq.out rfl rfl (by omega) ?_; intro v' w4 hA4 hg4; obtain ⟨g4, c4, rfl, hc4, hB4⟩ := avas_opened hA4 (by simp))
          have hb4 : Below w.heap.size w w4 := below_of_own HAq.out (hB.trans (hbq.mono hB.size)) hg4
          have hA4' : Avas w.heap.size w4 (.slice (some ⟨g4, 0, none⟩) (acc.length + 1) c4) (acc.take acc.length ++ ([], []) :: acc.drop acc.length) := by
            have := hA4
            simpa using this
          have hc4' : acc.length + 1 ≤ c4 := by simpa using hc4
          clear hA4 hg4 HAq hbq hc4
          go_loopg [6] (acc.length - m) (fun gk3 t wr => ∃ (j : Nat) (z : List UInt8 × List UInt8), m ≤ j ∧ j ≤ acc.length ∧ t = .int .i64 j ∧ j ≤ gk3 + m ∧ Avas w.heap.size wr (.slice (some ⟨g4, 0, none⟩) (acc.length + 1) c4) (acc.take j ++ z :: acc.drop j) ∧ Below w.heap.size w wr)
          case atStart => exact ⟨acc.length, ([], []), by omega, Nat.le_refl _, by simp, by omega, hA4', hb4⟩
          case round =>
            obtain ⟨j, z, hmj, hjl, rfl, hjg, hAj, hBj⟩ := hrel
            clear hA4' hb4
            have HAj := Lib.hid hAj
            clear hAj
            by_cases hlt3 : m < j
            · exact absurd hlt3 (by omega)
            · obtain rfl : j = m := by omega
              have r0 := (hBj.cell (p := ⟨g, o + 2 * k, none⟩) hgw).trans HD0.out
              have r1 := (hBj.cell (p := ⟨g, o + 2 * k + 1, none⟩) hgw).trans HD1.out
              have hg4w := (avas_blk HAj.out)
              have HPu := Lib.hid (avas_put (x1, x2) HAj.out hjl)
              simp only at HPu
              have hjl3 : ((j : Int) < (acc.length : Int) + 1) := by omega
              have hsj : j * 2 = 2 * j := by omega
              obtain ⟨z0, z1, z2, z3⟩ := avas_hole HAj.out hjl (.string ⟨x1.toArray⟩)
              clear c0 c1
              go_wp2_with fail
              go_roundg q
              case measure => omega
              case rel => exact ⟨k + 1, acc.take j ++ (x1, x2) :: acc.drop j, by omega, by go_num, by have := AG.out; show _ = _; omega, by simpa using HPu.out, by simp; omega, (hBj.setCell hB4 _).setCell hB4 _, by rw [← HIns.out]; exact HS.out, (by intro y hy; exact ins_all AL.out hLx hy)⟩
    · have hfin : acc = R := by
        have h := AR.out
        rw [List.drop_eq_nil_of_le (by omega)] at h
        exact h
      have HF := Lib.hid hfin
      have HA := Lib.hid hA
      obtain ⟨Ao, co, rfl, hco⟩ := hA.isSlice
      clear hfin AR AL hA
      go_wp2_with fail
      go_ret
      exact ⟨_, rfl, by rw [← HF.out]; exact HA.out, hB⟩
end Go.Proofs.YtgpecklibcgifaaGreatDoor
/- Plain: a name of at most 1024 bytes has a normal form that can be written. -/
namespace Go.Proofs.YtgpecklibcgifaaGreatDoor

def wtA (x : List UInt8 × List UInt8) : Nat := x.1.length + 1 + x.2.length
def wtP (p : List (List UInt8 × List UInt8)) : Nat := (p.map wtA).sum
def wtD (d : List (List (List UInt8 × List UInt8))) : Nat := (d.map wtP).sum
theorem wtP_app (p q : List (List UInt8 × List UInt8)) : wtP (p ++ q) = wtP p + wtP q := by simp [wtP]
theorem wtP_cons (x : List UInt8 × List UInt8) (q : List (List UInt8 × List UInt8)) : wtP (x :: q) = wtA x + wtP q := by simp [wtP]
theorem wtD_app (p q : List (List (List UInt8 × List UInt8))) : wtD (p ++ q) = wtD p + wtD q := by simp [wtD]
theorem unhex_wt : ∀ {l v : List UInt8}, unhexL l = some v → 2 * v.length = l.length
  | [], v, h => by rw [unhexL] at h; cases h; rfl
  | [_], v, h => by rw [unhexL] at h; cases h
  | a :: b :: t, v, h => by
    rw [unhexL] at h
    split at h
    · cases h
    · cases hu : unhexL t with
      | none => rw [hu] at h; cases h
      | some u =>
        rw [hu] at h
        cases h
        have := unhex_wt hu
        simp only [List.length_cons]
        omega
theorem cut_wt (p : UInt8 → Bool) (l : List UInt8) : (l.takeWhile p).length + (l.dropWhile p).length = l.length := by
  have := congrArg List.length (List.takeWhile_append_dropWhile (p := p) (l := l))
  rw [List.length_append] at this
  exact this
theorem hexR_wt {r v r' : List UInt8} (h : hexR r = some (v, r')) : v.length + r'.length ≤ r.length := by
  unfold hexR at h
  split at h
  · cases h
  · next u hu =>
    split at h
    · cases h
    · cases h
      have h1 := unhex_wt hu
      have h2 := cut_wt isHex r
      omega
theorem valL_wt : ∀ (n : Nat) (r acc : List UInt8) (long : Nat) (v r' : List UInt8), valL n r acc long = some (v, r') → v.length + r'.length ≤ acc.length + r.length
  | n, [], acc, long, v, r', h => by
    cases n <;> (simp only [valL] at h; cases h; simp only [List.length_take, List.length_nil]; omega)
  | 0, _ :: _, _, _, v, r', h => by simp only [valL] at h; cases h
  | n + 1, c :: t, acc, long, v, r', h => by
    simp only [valL] at h
    split at h
    · cases h; simp only [List.length_take, List.length_cons]; omega
    · split at h
      · cases he : escR t with
        | none => rw [he] at h; cases h
        | some y =>
          obtain ⟨x, t'⟩ := y
          rw [he] at h
          have h1 := valL_wt n t' _ _ v r' h
          have h2 := escR_len he
          simp only [List.length_append, List.length_cons, List.length_nil] at h1 ⊢
          omega
      · split at h
        · cases h
        · have h1 := valL_wt n t _ _ v r' h
          simp only [List.length_append, List.length_cons, List.length_nil] at h1 ⊢
          omega
theorem hd_wt {r : List UInt8} {c : Int} (h : hd r c = true) : r.tail.length + 1 = r.length := by
  cases r with
  | nil => cases h
  | cons x t => simp
theorem valueR_wt {r v r' : List UInt8} (h : valueR r = some (v, r')) : v.length + r'.length ≤ r.length := by
  unfold valueR at h
  split at h
  · next hh => have h1 := hexR_wt h; have h2 := hd_wt hh; omega
  · have := valL_wt _ _ _ _ _ _ h
    simpa using this
theorem blk_wt (r : List UInt8) : (blk r).length ≤ r.length := dropWhile_le _ _
theorem pairR_wt {r r' : List UInt8} {x : List UInt8 × List UInt8} (h : pairR r = some (x, r')) : wtA x + r'.length ≤ r.length := by
  unfold pairR at h
  split at h
  · cases h
  · next t r2 ht =>
    unfold typR at ht
    split at ht
    · cases ht
      have h1 := cut_wt inTy (blk r)
      split at h
      · next hh =>
        split at h
        · cases h
        · next v r5 hv =>
          cases h
          have h2 := valueR_wt hv
          have h3 := hd_wt hh
          have h4 := blk_wt r
          have h5 := blk_wt (List.dropWhile inTy (blk r))
          have h6 := blk_wt (blk (List.dropWhile inTy (blk r))).tail
          have h7 := blk_wt r5
          unfold wtA
          simp only
          omega
      · cases h
    · cases ht
theorem partL_wt : ∀ (n : Nat) (r r' : List UInt8) (acc l : List (List UInt8 × List UInt8)), partL n r acc = some (l, r') → wtP l + r'.length ≤ wtP acc + r.length
  | 0, r, r', acc, l, h => by
    rw [partL] at h
    split at h
    · cases h
    · cases h; exact Nat.le_refl _
  | n + 1, r, r', acc, l, h => by
    rw [partL] at h
    split at h
    · next hh =>
      split at h
      · cases h
      · next x r2 hp =>
        have h1 := partL_wt n r2 r' _ l h
        have h2 := pairR_wt hp
        have h3 := hd_wt hh
        rw [wtP_app, wtP_cons, show wtP [] = 0 from rfl] at h1
        omega
    · cases h; exact Nat.le_refl _
theorem partR_wt {r r' : List UInt8} {l : List (List UInt8 × List UInt8)} (h : partR r = some (l, r')) : wtP l + r'.length ≤ r.length := by
  unfold partR at h
  split at h
  · cases h
  · next x r2 hp =>
    have h1 := partL_wt _ _ _ _ _ h
    have h2 := pairR_wt hp
    rw [wtP_cons, show wtP [] = 0 from rfl] at h1
    omega
theorem nameL_wt : ∀ (n : Nat) (r r' : List UInt8) (acc l : List (List (List UInt8 × List UInt8))), nameL n r acc = some (l, r') → wtD l + r'.length ≤ wtD acc + r.length
  | 0, r, r', acc, l, h => by
    rw [nameL] at h
    split at h
    · cases h
    · cases h; exact Nat.le_refl _
  | n + 1, r, r', acc, l, h => by
    rw [nameL] at h
    split at h
    · next hh =>
      split at h
      · cases h
      · next x r2 hp =>
        have h1 := nameL_wt n r2 r' _ l h
        have h2 := partR_wt hp
        have h3 := hd_wt hh
        rw [wtD_app, show wtD [x] = wtP x by simp [wtD]] at h1
        omega
    · cases h; exact Nat.le_refl _
theorem parse_wt {s : List UInt8} (h : (parseL s).1 = 0) : wtD (parseL s).2 ≤ s.length ∧ tooLongL (parseL s).2 = false ∧ nameR s = some (parseL s).2 := by
  unfold parseL at h ⊢
  split at h
  · simp at h
  · next h0 =>
    rw [if_neg h0]
    split at h
    · simp at h
    · next d hn =>
      split at h
      · simp at h
      · next htl =>
        rw [hn]
        simp only [htl, if_false, Bool.false_eq_true]
        refine ⟨?_, by simpa using htl, trivial⟩
        unfold nameR at hn
        split at hn
        · cases hn; simp [wtD]
        · unfold nameGo at hn
          split at hn
          · cases hn
          · next p r hp =>
            have h2 := partR_wt hp
            unfold nameFin at hn
            split at hn
            · cases hn
            · next d' r' hl =>
              split at hn
              · cases hn
                have h1 := nameL_wt _ _ _ _ _ hl
                rw [show wtD [p] = wtP p by simp [wtD]] at h1
                omega
              · cases hn
theorem insA_wt (x : List UInt8 × List UInt8) : ∀ l, wtP (insA x l) ≤ wtA x + wtP l
  | [] => by simp [insA, wtP]
  | y :: t => by
    rw [insA]
    split
    · rw [wtP_cons, wtP_cons]; have := insA_wt x t; omega
    · split
      · omega
      · rw [wtP_cons]; omega
theorem ordL_wt : ∀ r out, wtP (ordL r out) ≤ wtP r + wtP out
  | [], out => by simp [ordL]
  | x :: r, out => by
    rw [ordL, wtP_cons]
    have h1 := ordL_wt r (insA x out)
    have h2 := insA_wt x out
    omega
theorem partN_wt (p : List (List UInt8 × List UInt8)) : wtP (partN p) ≤ wtP p := by
  rw [← ordL_partN]
  have := ordL_wt p []
  simpa [wtP] using this
theorem enc_fold {r : Int} (h : VR r) (h1 : (mapR r).2.2 = false) (h2 : (mapR r).2.1 = true) (fold : Bool) : (encR (if fold then foldR (mapR r).1 else (mapR r).1)).length ≤ (encR r).length := by
  have hv := mapR_VR h h1 h2
  have key : ∀ a b : Int, VR a → VR b → (b < 128 ∨ (b < 2048 ∧ 128 ≤ a) ∨ (b < 65536 ∧ 2048 ≤ a) ∨ 65536 ≤ a) → (encR b).length ≤ (encR a).length := by
    intro a b ha hb hab
    unfold VR at ha hb
    rcases enc_cases (r := a) ha with ⟨a1, a2, e⟩ | ⟨a1, a2, e⟩ | ⟨a1, a2, e⟩ | ⟨a1, a2, e⟩ <;> rcases enc_cases (r := b) hb with ⟨b1, b2, e'⟩ | ⟨b1, b2, e'⟩ | ⟨b1, b2, e'⟩ | ⟨b1, b2, e'⟩ <;> rw [e, e'] <;> simp <;> omega
  have hm : (mapR r).1 = 32 ∨ (mapR r).1 = r := by
    unfold mapR at h1 h2 ⊢
    repeat' split
    all_goals simp_all
  have hf : ∀ a : Int, VR a → foldR a < 128 ∨ (foldR a < 2048 ∧ 128 ≤ a) ∨ (foldR a < 65536 ∧ 2048 ≤ a) ∨ 65536 ≤ a := by
    intro a ha
    unfold VR at ha
    unfold foldR
    repeat' split
    all_goals omega
  have hg : ∀ a : Int, VR a → a < 128 ∨ (a < 2048 ∧ 128 ≤ a) ∨ (a < 65536 ∧ 2048 ≤ a) ∨ 65536 ≤ a := by
    intro a ha
    omega
  have hm2 : (encR (mapR r).1).length ≤ (encR r).length := by
    rcases hm with e | e
    · rw [e]; exact key r 32 h (by unfold VR; omega) (by omega)
    · rw [e]; exact Nat.le_refl _
  cases fold
  · exact hm2
  · refine Nat.le_trans (key _ _ hv.1 hv.2 (hf _ hv.1)) hm2
theorem map_wt (fold : Bool) : ∀ (rs acc a : List Int), (∀ r ∈ rs, VR r) → mapRR fold rs acc = some a → (cat a).length ≤ (cat acc).length + (cat rs).length
  | [], acc, a, _, h => by simp only [mapRR] at h; cases h; simp [cat]
  | r :: rs, acc, a, hr, h => by
    rw [mapRR] at h
    cases hs : stepR fold acc r with
    | none => rw [hs] at h; cases h
    | some b =>
      rw [hs, Option.bind_some] at h
      have h1 := map_wt fold rs b a (fun x hx => hr x (by simp [hx])) h
      have h2 : (cat b).length ≤ (cat acc).length + (encR r).length := by
        unfold stepR at hs
        split at hs
        · cases hs
        · next n1 =>
          split at hs
          · cases hs; omega
          · next n2 =>
            split at hs
            · cases hs; omega
            · cases hs
              rw [cat_app, List.length_append]
              have := enc_fold (hr r (by simp)) (by simpa using n1) (by simpa using n2) fold
              rw [cat_cons, show cat [] = [] from rfl, List.append_nil]
              omega
      rw [cat_cons, List.length_append]
      omega
theorem prep_wt {l p : List UInt8} {fold : Bool} (h : prepL l fold = some p) : p.length ≤ l.length := by
  obtain ⟨hv, L, hm, _, _, hp⟩ := prep_form h
  have hr := cat_runes _ l (Nat.le_refl _) hv
  have h1 := map_wt fold _ _ _ hr.2 hm
  rw [hr.1, show cat [] = [] from rfl] at h1
  obtain ⟨a, b, hab⟩ := trimI_infix L
  have h2 : (cat (trimI L)).length ≤ (cat L).length := by
    conv => rhs; rw [hab, cat_app, cat_app]
    simp only [List.length_append]; omega
  rcases hp with ⟨_, hl, rfl⟩ | ⟨_, rfl⟩
  · cases l with
    | nil => exact absurd rfl hl
    | cons => simp
  · simp at h1; omega
theorem normA_wt (x : List UInt8 × List UInt8) : wtA (normA x) ≤ wtA x ∧ (normA x).2.length ≤ x.2.length := by
  have h : ((prepL x.2 true).getD x.2).length ≤ x.2.length := by
    cases hp : prepL x.2 true with
    | none => simp
    | some p => simpa using prep_wt hp
  unfold wtA normA
  simp only [smallL_len]
  omega
theorem map_normA_wt : ∀ p : List (List UInt8 × List UInt8), wtP (p.map normA) ≤ wtP p
  | [] => Nat.le_refl _
  | x :: p => by rw [List.map_cons, wtP_cons, wtP_cons]; have := map_normA_wt p; have := (normA_wt x).1; omega
theorem normP_wt (p : List (List UInt8 × List UInt8)) : wtP (normP p) ≤ wtP p := Nat.le_trans (partN_wt _) (map_normA_wt p)
theorem map_normP_wt : ∀ d : List (List (List UInt8 × List UInt8)), wtD (d.map normP) ≤ wtD d
  | [] => Nat.le_refl _
  | p :: d => by
    have h1 := map_normP_wt d
    have h2 := normP_wt p
    simp only [wtD, List.map_cons, List.sum_cons] at h1 ⊢
    omega
theorem join_wt (c : UInt8) : ∀ xs : List (List UInt8), (Lib.join xs [c]).length ≤ (xs.map (fun x => x.length + 1)).sum
  | [] => by simp [Lib.join, List.intercalate]
  | [x] => by simp [join_one']
  | x :: y :: t => by
    rw [join_two]
    have := join_wt c (y :: t)
    simp only [List.map_cons, List.sum_cons, List.length_append, List.length_cons, List.length_nil] at this ⊢
    omega
theorem partW_wt (p : List (List UInt8 × List UInt8)) : (partW p).length ≤ 3 * wtP p := by
  refine Nat.le_trans (join_wt 43 _) ?_
  induction p with
  | nil => simp [wtP]
  | cons x p ih =>
    rw [wtP_cons]
    have h1 := writtenL_len x.2
    simp only [List.map_cons, List.sum_cons] at ih ⊢
    have h2 : (pairW x).length = x.1.length + 1 + (writtenL x.2).length := by simp [pairW]; omega
    unfold wtA
    omega
theorem nameW_wt (d : List (List (List UInt8 × List UInt8))) : (nameW d).length ≤ 3 * wtD d + d.length := by
  refine Nat.le_trans (join_wt 44 _) ?_
  induction d with
  | nil => simp [wtD]
  | cons p d ih =>
    have h1 := partW_wt p
    simp only [List.map_cons, List.sum_cons, wtD, List.length_cons] at ih ⊢
    omega
/-- The normal form of a short name can be written. -/
theorem norm_prints {s : List UInt8} (h : (parseL s).1 = 0) (hs : s.length ≤ 1024) : (printL ((parseL s).2.map normP)).1 = 0 := by
  obtain ⟨h1, h2, _⟩ := parse_wt h
  have h3 := parseL_ne (s := s)
  have ht := fun p hp x hx => parse_type (s := s) p hp x hx
  generalize (parseL s).2 = d at *
  have hb : (d.map normP).any partBad = false := by
    rw [List.any_eq_false]
    intro q hq
    obtain ⟨p, hp, rfl⟩ := List.mem_map.1 hq
    unfold partBad
    rw [Bool.or_eq_true, not_or]
    constructor
    · intro he
      have he' : normP p = [] := by simpa using he
      cases hpp : p with
      | nil => exact h3 p hp hpp
      | cons x t =>
        have : normA x ∈ normP p := by unfold normP; rw [partN_iff]; exact List.mem_map_of_mem (by rw [hpp]; simp)
        rw [he'] at this
        cases this
    · intro he
      rw [List.any_eq_true] at he
      obtain ⟨y, hy, hbad⟩ := he
      unfold normP at hy
      rw [partN_iff] at hy
      obtain ⟨x, hx, rfl⟩ := List.mem_map.1 hy
      unfold avaBadB normA at hbad
      rw [type_small (ht p hp x hx)] at hbad
      cases hbad
  have hl : tooLongL (d.map normP) = false := by
    unfold tooLongL at h2 ⊢
    rw [Bool.or_eq_false_iff] at h2 ⊢
    refine ⟨by simpa using h2.1, ?_⟩
    rw [List.any_eq_false]
    intro q hq
    obtain ⟨p, hp, rfl⟩ := List.mem_map.1 hq
    have h4 := List.any_eq_false.1 h2.2 p hp
    unfold rdnLongB at h4 ⊢
    rw [Bool.or_eq_true, not_or] at h4 ⊢
    have h5 := partN_len (p.map normA)
    rw [List.length_map] at h5
    refine ⟨?_, ?_⟩
    · have := h4.1
      simp only [decide_eq_true_eq] at this ⊢
      unfold normP
      omega
    · intro he
      rw [List.any_eq_true] at he
      obtain ⟨y, hy, hbad⟩ := he
      unfold normP at hy
      rw [partN_iff] at hy
      obtain ⟨x, hx, rfl⟩ := List.mem_map.1 hy
      have h6 := List.any_eq_false.1 (by simpa using h4.2 : p.any avaLongB = false) x hx
      unfold avaLongB at h6 hbad
      simp only [decide_eq_true_eq] at h6 hbad
      have := (normA_wt x).2
      omega
  have hlen : d.length ≤ 20 := by
    unfold tooLongL at h2
    rw [Bool.or_eq_false_iff] at h2
    have := h2.1
    simp at this
    exact this
  unfold printL
  rw [hb, hl]
  simp only [Bool.false_eq_true, if_false]
  unfold printFin
  rw [if_neg]
  have h7 := nameW_wt (d.map normP)
  have h8 := map_normP_wt d
  rw [List.length_map] at h7
  omega
theorem nameN_ok {s : List UInt8} (h : (parseL s).1 = 0) (hs : s.length ≤ 1024) : nameN s = some (printL ((parseL s).2.map normP)).2 := by
  unfold nameN
  rw [if_pos h, if_pos (norm_prints h hs)]
end Go.Proofs.YtgpecklibcgifaaGreatDoor
