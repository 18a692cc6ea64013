import Derived.Test.YtkkbbhlihilnpaaGreatDoorWvb1
import Derived.Test.YtkkbbhlihilnpaaGreatDoorSort
set_option linter.all false
set_option maxHeartbeats 8000000
set_option maxRecDepth 100000
namespace Go.Proofs.YtkkbbhlihilnpaaGreatDoor
open Go.RowKit
def escB (n p : Nat) (c : UInt8) : Bool := decide (0 ≤ Lib.indexByte specCs c) || ((p : Int) == 0 && ((c.toNat : Int) == 35 || (c.toNat : Int) == 32)) || ((p : Int) == (n : Int) - 1 && (c.toNat : Int) == 32)
def wrB (n p : Nat) (c : UInt8) : List UInt8 := if (c.toNat : Int) == 0 then [92, 48, 48] else if escB n p c then [92, c] else [c]
def wrL (v : List UInt8) : Nat → List UInt8
 | 0 => []
 | p + 1 => wrL v p ++ wrB v.length p (v.getD p 0)
def writtenL (v : List UInt8) : List UInt8 := if Lib.validD v then wrL v v.length else 35 :: hexL v
theorem hexL_len (l : List UInt8) : (hexL l).length = 2 * l.length := by
 unfold hexL
 induction l with
 | nil => rfl
 | cons a t ih => simp only [List.flatMap_cons, List.length_append, ih, List.length_cons, List.length_nil]; omega
theorem wrB_len (n p : Nat) (c : UInt8) : (wrB n p c).length ≤ 3 := by unfold wrB; split; decide; split <;> simp
theorem wrL_len (v : List UInt8) : ∀ p, (wrL v p).length ≤ 3 * p
 | 0 => by simp [wrL]
 | p + 1 => by have := wrL_len v p; have := wrB_len v.length p (v.getD p 0); simp only [wrL, List.length_append]; omega
theorem wrL_at (v : List UInt8) (p : Nat) (h : p < v.length) (x : List UInt8) (hx : wrB v.length p v[p] = x) : wrL v (p + 1) = wrL v p ++ x := by
 rw [wrL, List.getD_eq_getElem?_getD, List.getElem?_eq_getElem h]
 exact congrArg _ hx
set_option maxRecDepth 10000 in
theorem written_c (l : List UInt8) (w : World) (hw : Env w) (hl : l.length ≤ 65536) :
  Calls Tryz.prog 129 #[.string ⟨l.toArray⟩] w fun e w' => e = .returned (.string ⟨(writtenL l).toArray⟩) ∧ Below w.heap.size w w' := by
 have hT := Text_c l w hw (by omega)
 have hxl : (hexL l).length = 2 * l.length := hexL_len l
 have hcat := fun w => run_string_add_lists (P := Tryz.prog) w [35] (hexL l) (by simp) (by omega)
 cases hV : Lib.validD l
 ·have hR : writtenL l = 35 :: hexL l := by unfold writtenL; rw [hV]; rfl
  rw [hR]
  rw [hV] at hT
  clear hR hV
  go_enter Tryz.func129, Tryz.ntmps129
  go_wp2_with (first | (go_at_call 187; refine hT.mono ?_; rintro e w1 ⟨rfl, hb1⟩) | (go_at_call 188; refine (Hex_c l _ (by omega)).mono ?_; rintro e w2 ⟨rfl, hb2⟩))
  go_ret
  exact ⟨rfl, hb1.trans (hb2.mono hb1.size)⟩
 ·have hR : writtenL l = wrL l l.length := by unfold writtenL; rw [hV]; rfl
  rw [hR]
  rw [hV] at hT
  clear hR hV hcat hxl
  have hget := ba_get
  go_enter Tryz.func129, Tryz.ntmps129
  go_wp2_with (go_at_call 187; refine hT.mono ?_; rintro e w1 ⟨rfl, hb1⟩)
  clear hT
  go_loopg [3, 14] l.length (fun gk v i wr => ∃ p : Nat, p ≤ l.length ∧ i = .int .i64 p ∧ Aside (p + gk = l.length) ∧ Buf w1 wr v (wrL l p))
  case atStart => exact ⟨0, by omega, rfl, by show _ = _; omega, Buf.nil w1⟩
  case round =>
   obtain ⟨p, hp, rfl, AG, hbuf⟩ := hrel
   have hacc := wrL_len l p
   by_cases hlt : p < l.length
   ·obtain ⟨q, rfl⟩ : ∃ q, gk = q + 1 := ⟨gk - 1, by have := AG.out; omega⟩
    have hk0 : (0 : Int) ≤ (p : Int) := by omega
    have hk1 : (p : Int) < (l.length : Int) := by omega
    have HAT := Lib.hid (wrL_at l p hlt)
    have HIB := Lib.hid (fun w => IndexByte_c specCs l[p] w)
    cases hz : ((l[p].toNat : Int) == 0)
    ·have hgen : ∀ e : Bool, escB l.length p l[p] = e → wrB l.length p l[p] = if e then [92, l[p]] else [l[p]] := by
      intro e he; unfold wrB; rw [hz, he]; rfl
     have HG := Lib.hid hgen
     clear hgen
     have HE := Lib.hid (show escB l.length p l[p] = (decide (0 ≤ Lib.indexByte specCs l[p]) || ((p : Int) == 0 && ((l[p].toNat : Int) == 35 || (l[p].toNat : Int) == 32)) || ((p : Int) == (l.length : Int) - 1 && (l[p].toNat : Int) == 32)) from rfl)
     generalize wrL l p = acc at hbuf hacc HAT
     generalize Lib.indexByte specCs l[p] = ib at HIB HE
     have hwr : IntKind.i64.wrap ((l.length : Int) - 1) = (l.length : Int) - 1 := IntWalk.i64_in _ (by omega)
     have hbN : ∀ n, Buf w1 (wr.drewN n) _ acc := fun n => hbuf.drewN n
     cases hib : decide (0 ≤ ib)
     ·cases hp0 : ((p : Int) == 0)
      ·cases hpl : ((p : Int) == (l.length : Int) - 1)
       ·have hE := HE.out
        simp only [hib, hp0, hpl, Bool.false_and, Bool.and_false, Bool.true_and, Bool.or_false, Bool.false_or, Bool.true_or, Bool.or_true, Bool.and_true] at hE
        have hB := HG.out false hE
        have HB := Lib.hid hB
        clear hB hE
        go_wp2_with (first | (go_at_call 148; refine (HIB.out _).mono ?_; rintro e w3 ⟨rfl, rfl⟩) | (at_builtin; refine buf_byte (c := 92) rfl _ _ rfl rfl hbuf rfl (by omega) ?_; intro v2 w2 hb2 hg2) | (at_builtin; refine buf_byte (c := l[p]) rfl _ _ rfl rfl hbuf rfl (by omega) ?_; intro v3 w3 hb3 hg3))
        go_roundg q
        case measure => omega
        case rel => exact ⟨p + 1, by omega, by go_num, by have := AG.out; show _ = _; omega, by rw [HAT.out _ HB.out]; simpa using hb3⟩
       ·cases h32 : ((l[p].toNat : Int) == 32)
        ·have hE := HE.out
         simp only [hib, hp0, hpl, h32, Bool.false_and, Bool.and_false, Bool.true_and, Bool.or_false, Bool.false_or, Bool.true_or, Bool.or_true, Bool.and_true] at hE
         have hB := HG.out false hE
         have HB := Lib.hid hB
         clear hB hE
         go_wp2_with (first | (go_at_call 148; refine (HIB.out _).mono ?_; rintro e w3 ⟨rfl, rfl⟩) | (at_builtin; refine buf_byte (c := 92) rfl _ _ rfl rfl hbuf rfl (by omega) ?_; intro v2 w2 hb2 hg2) | (at_builtin; refine buf_byte (c := l[p]) rfl _ _ rfl rfl hbuf rfl (by omega) ?_; intro v3 w3 hb3 hg3))
         go_roundg q
         case measure => omega
         case rel => exact ⟨p + 1, by omega, by go_num, by have := AG.out; show _ = _; omega, by rw [HAT.out _ HB.out]; simpa using hb3⟩
        ·have hE := HE.out
         simp only [hib, hp0, hpl, h32, Bool.false_and, Bool.and_false, Bool.true_and, Bool.or_false, Bool.false_or, Bool.true_or, Bool.or_true, Bool.and_true] at hE
         have hB := HG.out true hE
         have HB := Lib.hid hB
         clear hB hE
         go_wp2_with (first | (go_at_call 148; refine (HIB.out _).mono ?_; rintro e w3 ⟨rfl, rfl⟩) | (at_builtin; refine buf_byte (c := 92) rfl _ _ rfl rfl hbuf rfl (by omega) ?_; intro v2 w2 hb2 hg2) | (at_builtin; refine buf_byte (c := l[p]) rfl _ _ rfl rfl hb2 rfl (by simp; omega) ?_; intro v3 w3 hb3 hg3))
         go_roundg q
         case measure => omega
         case rel => exact ⟨p + 1, by omega, by go_num, by have := AG.out; show _ = _; omega, by rw [HAT.out _ HB.out]; simpa using hb3⟩
      ·cases h32 : ((l[p].toNat : Int) == 32)
       ·cases h35 : ((l[p].toNat : Int) == 35)
        ·cases hpl : ((p : Int) == (l.length : Int) - 1)
         ·have hE := HE.out
          simp only [hib, hp0, h35, h32, hpl, Bool.false_and, Bool.and_false, Bool.true_and, Bool.or_false, Bool.false_or, Bool.true_or, Bool.or_true, Bool.and_true] at hE
          have hB := HG.out false hE
          have HB := Lib.hid hB
          clear hB hE
          go_wp2_with (first | (go_at_call 148; refine (HIB.out _).mono ?_; rintro e w3 ⟨rfl, rfl⟩) | (at_builtin; refine buf_byte (c := 92) rfl _ _ rfl rfl hbuf rfl (by omega) ?_; intro v2 w2 hb2 hg2) | (at_builtin; refine buf_byte (c := l[p]) rfl _ _ rfl rfl hbuf rfl (by omega) ?_; intro v3 w3 hb3 hg3))
          go_roundg q
          case measure => omega
          case rel => exact ⟨p + 1, by omega, by go_num, by have := AG.out; show _ = _; omega, by rw [HAT.out _ HB.out]; simpa using hb3⟩
         ·have hE := HE.out
          simp only [hib, hp0, h35, h32, hpl, Bool.false_and, Bool.and_false, Bool.true_and, Bool.or_false, Bool.false_or, Bool.true_or, Bool.or_true, Bool.and_true] at hE
          have hB := HG.out false hE
          have HB := Lib.hid hB
          clear hB hE
          go_wp2_with (first | (go_at_call 148; refine (HIB.out _).mono ?_; rintro e w3 ⟨rfl, rfl⟩) | (at_builtin; refine buf_byte (c := 92) rfl _ _ rfl rfl hbuf rfl (by omega) ?_; intro v2 w2 hb2 hg2) | (at_builtin; refine buf_byte (c := l[p]) rfl _ _ rfl rfl hbuf rfl (by omega) ?_; intro v3 w3 hb3 hg3))
          go_roundg q
          case measure => omega
          case rel => exact ⟨p + 1, by omega, by go_num, by have := AG.out; show _ = _; omega, by rw [HAT.out _ HB.out]; simpa using hb3⟩
        ·have hE := HE.out
         simp only [hib, hp0, h35, h32, Bool.false_and, Bool.and_false, Bool.true_and, Bool.or_false, Bool.false_or, Bool.true_or, Bool.or_true, Bool.and_true] at hE
         have hB := HG.out true hE
         have HB := Lib.hid hB
         clear hB hE
         go_wp2_with (first | (go_at_call 148; refine (HIB.out _).mono ?_; rintro e w3 ⟨rfl, rfl⟩) | (at_builtin; refine buf_byte (c := 92) rfl _ _ rfl rfl hbuf rfl (by omega) ?_; intro v2 w2 hb2 hg2) | (at_builtin; refine buf_byte (c := l[p]) rfl _ _ rfl rfl hb2 rfl (by simp; omega) ?_; intro v3 w3 hb3 hg3))
         go_roundg q
         case measure => omega
         case rel => exact ⟨p + 1, by omega, by go_num, by have := AG.out; show _ = _; omega, by rw [HAT.out _ HB.out]; simpa using hb3⟩
       ·cases h35 : ((l[p].toNat : Int) == 35)
        ·have hE := HE.out
         simp only [hib, hp0, h35, h32, Bool.false_and, Bool.and_false, Bool.true_and, Bool.or_false, Bool.false_or, Bool.true_or, Bool.or_true, Bool.and_true] at hE
         have hB := HG.out true hE
         have HB := Lib.hid hB
         clear hB hE
         go_wp2_with (first | (go_at_call 148; refine (HIB.out _).mono ?_; rintro e w3 ⟨rfl, rfl⟩) | (at_builtin; refine buf_byte (c := 92) rfl _ _ rfl rfl hbuf rfl (by omega) ?_; intro v2 w2 hb2 hg2) | (at_builtin; refine buf_byte (c := l[p]) rfl _ _ rfl rfl hb2 rfl (by simp; omega) ?_; intro v3 w3 hb3 hg3))
         go_roundg q
         case measure => omega
         case rel => exact ⟨p + 1, by omega, by go_num, by have := AG.out; show _ = _; omega, by rw [HAT.out _ HB.out]; simpa using hb3⟩
        ·have hE := HE.out
         simp only [hib, hp0, h35, h32, Bool.false_and, Bool.and_false, Bool.true_and, Bool.or_false, Bool.false_or, Bool.true_or, Bool.or_true, Bool.and_true] at hE
         have hB := HG.out true hE
         have HB := Lib.hid hB
         clear hB hE
         go_wp2_with (first | (go_at_call 148; refine (HIB.out _).mono ?_; rintro e w3 ⟨rfl, rfl⟩) | (at_builtin; refine buf_byte (c := 92) rfl _ _ rfl rfl hbuf rfl (by omega) ?_; intro v2 w2 hb2 hg2) | (at_builtin; refine buf_byte (c := l[p]) rfl _ _ rfl rfl hb2 rfl (by simp; omega) ?_; intro v3 w3 hb3 hg3))
         go_roundg q
         case measure => omega
         case rel => exact ⟨p + 1, by omega, by go_num, by have := AG.out; show _ = _; omega, by rw [HAT.out _ HB.out]; simpa using hb3⟩
     ·have hE := HE.out
      simp only [hib, Bool.false_and, Bool.and_false, Bool.true_and, Bool.or_false, Bool.false_or, Bool.true_or, Bool.or_true, Bool.and_true] at hE
      have hB := HG.out true hE
      have HB := Lib.hid hB
      clear hB hE
      go_wp2_with (first | (go_at_call 148; refine (HIB.out _).mono ?_; rintro e w3 ⟨rfl, rfl⟩) | (at_builtin; refine buf_byte (c := 92) rfl _ _ rfl rfl hbuf rfl (by omega) ?_; intro v2 w2 hb2 hg2) | (at_builtin; refine buf_byte (c := l[p]) rfl _ _ rfl rfl hb2 rfl (by simp; omega) ?_; intro v3 w3 hb3 hg3))
      go_roundg q
      case measure => omega
      case rel => exact ⟨p + 1, by omega, by go_num, by have := AG.out; show _ = _; omega, by rw [HAT.out _ HB.out]; simpa using hb3⟩
    ·have hB : wrB l.length p l[p] = [92, 48, 48] := by unfold wrB; rw [hz]; rfl
     have HB := Lib.hid hB
     clear hB
     generalize wrL l p = acc at hbuf hacc HAT
     go_wp2_with (at_builtin; refine buf_text (m := [92, 48, 48]) rfl _ _ rfl rfl hbuf rfl (by simp; omega) ?_; intro v2 w2 hb2 hg2)
     go_roundg q
     case measure => omega
     case rel => exact ⟨p + 1, by omega, by go_num, by have := AG.out; show _ = _; omega, by rw [HAT.out _ HB.out]; exact hb2⟩
   ·obtain rfl : p = l.length := by omega
    have hst := buf_string hbuf
    have hB := hbuf.below
    go_wp2
    go_ret
    exact ⟨rfl, hb1.trans (hB.mono hb1.size)⟩
open Go.RowKit
theorem join_len (M : Nat) (sep : List UInt8) (hs : sep.length ≤ 1) : ∀ xs : List (List UInt8), (∀ x ∈ xs, x.length ≤ M) → (Lib.join xs sep).length ≤ xs.length * (M + 1)
 | [], _ => by simp [Lib.join_nil]
 | [x], h => by rw [Lib.join_one]; have := h x (by simp); simp; omega
 | x :: y :: t, h => by
  have ih := join_len M sep hs (y :: t) (fun z hz => h z (by simp [List.mem_cons.1 hz]))
  have hx := h x (by simp)
  have e : Lib.join (x :: y :: t) sep = x ++ sep ++ Lib.join (y :: t) sep := by simp [Lib.join, List.intercalate, List.intersperse]
  rw [e]
  simp only [List.length_append, List.length_cons] at ih ⊢
  rw [Nat.add_mul _ 1 (M + 1)]
  omega
theorem Join_c (xs : List (List UInt8)) (sep : List UInt8) (v : Value) (w : World) (hT : Texts w v xs) (hn : xs.length ≤ 1000000) (hl : (Lib.join xs sep).length ≤ 140737488355328) :
  Calls Tryz.prog 130 #[v, .string ⟨sep.toArray⟩] w fun e w' => e = .returned (.string ⟨(Lib.join xs sep).toArray⟩) ∧ Below w.heap.size w w' := by
 rcases hT with ⟨rfl, rfl⟩ | ⟨b, c, rfl, hc, hlt, hcell⟩
 ·refine (Tryz.strings_Join_none none 0 ⟨sep.toArray⟩ w).mono ?_
  rintro e w' ⟨rfl, rfl⟩
  exact ⟨rfl, Below.refl _ _⟩
 ·have e1 : (xs.map fun x => (⟨x.toArray⟩ : ByteArray)).map (·.data.toList) = xs := by rw [List.map_map]; exact (List.map_congr_left fun x _ => rfl).trans (List.map_id _)
  have h := Tryz.strings_Join b 0 c (xs.map fun x => ⟨x.toArray⟩) ⟨sep.toArray⟩ w (fun j x hj => by
   have hjl : j < xs.length := by simpa using (List.getElem?_eq_some_iff.1 hj).1
   rw [Nat.zero_add, hcell j hjl]
   simp [hjl] at hj
   rw [← hj]) hlt (by simp; omega) (by simpa using hc) (by rw [e1]; exact hl)
  rw [e1, List.length_map] at h
  exact h
def avaBadB (x : List UInt8 × List UInt8) : Bool := !isTypeL x.1
set_option maxRecDepth 10000 in
theorem Print1_c (x : List UInt8 × List UInt8) (w : World) (hw : Env w) (hl : x.1.length ≤ 1099511627776) :
  Calls Tryz.prog 128 #[avaV x] w fun e w' => e = .returned (.bool (avaBadB x)) ∧ Below w.heap.size w w' := by
 obtain ⟨x1, x2⟩ := x
 show Calls Tryz.prog 128 #[.agg #[.string ⟨x1.toArray⟩, .string ⟨x2.toArray⟩]] w _
 have hb : Below w.heap.size w (w.alloc (.cells #[.string ⟨x1.toArray⟩, .string ⟨x2.toArray⟩] 123)) := (Below.refl _ _).alloc (Nat.le_refl _) _
 have hI := IsType_c x1 _ (hw.keep hb) hl
 go_enter Tryz.func128, Tryz.ntmps128
 go_wp2_with (go_at_call 81; refine hI.mono ?_; rintro e w2 ⟨rfl, hb2⟩)
 go_ret
 exact ⟨rfl, hb.trans (hb2.mono hb.size)⟩
def partBad (p : List (List UInt8 × List UInt8)) : Bool := p.isEmpty || p.any avaBadB
def pairW (x : List UInt8 × List UInt8) : List UInt8 := x.1 ++ [61] ++ writtenL x.2
def partW (p : List (List UInt8 × List UInt8)) : List UInt8 := Lib.join (p.map pairW) [43]
def nameW (d : List (List (List UInt8 × List UInt8))) : List UInt8 := Lib.join (d.map partW) [44]
def printFin (s : List UInt8) : Int × List UInt8 := if 65536 < s.length then (2, []) else (0, s)
def printL (d : List (List (List UInt8 × List UInt8))) : Int × List UInt8 := if d.any partBad then (30, []) else if tooLongL d then (2, []) else printFin (nameW d)
theorem isTypeL_len {l : List UInt8} (h : isTypeL l = true) : l.length ≤ 64 := by
 unfold isTypeL at h
 split at h
 ·cases h
 ·simp_all
theorem writtenL_len (l : List UInt8) : (writtenL l).length ≤ 3 * l.length + 1 := by
 unfold writtenL
 split
 ·have := wrL_len l l.length; omega
 ·simp only [List.length_cons, hexL_len]; omega
theorem good_len {d : List (List (List UInt8 × List UInt8))} (h1 : d.any partBad = false) (h2 : tooLongL d = false) :
  d.length ≤ 20 ∧ ∀ p ∈ d, p ≠ [] ∧ p.length ≤ 4 ∧ ∀ x ∈ p, x.1.length ≤ 64 ∧ x.2.length ≤ 1024 := by
 unfold tooLongL at h2
 simp only [Bool.or_eq_false_iff, decide_eq_false_iff_not, List.any_eq_false] at h1 h2
 refine ⟨by omega, fun p hp => ?_⟩
 have a1 := h1 p hp
 have a2 := h2.2 p hp
 simp only [partBad, rdnLongB, Bool.or_eq_true, decide_eq_true_eq, not_or, List.any_eq_true, not_exists, not_and] at a1 a2
 refine ⟨by intro e; subst e; exact a1.1 rfl, by omega, fun x hx => ?_⟩
 have b1 := a1.2 x hx
 have b2 := a2.2 x hx
 simp only [avaBadB, avaLongB, Bool.not_eq_true', decide_eq_true_eq] at b1 b2
 exact ⟨isTypeL_len (by simpa using b1), by omega⟩
theorem pairW_len {x : List UInt8 × List UInt8} (h1 : x.1.length ≤ 64) (h2 : x.2.length ≤ 1024) : (pairW x).length ≤ 3138 := by
 have := writtenL_len x.2
 simp only [pairW, List.length_append, List.length_cons, List.length_nil]
 omega
theorem partW_len {p : List (List UInt8 × List UInt8)} (hp : p.length ≤ 4) (h : ∀ x ∈ p, x.1.length ≤ 64 ∧ x.2.length ≤ 1024) : (partW p).length ≤ 12556 := by
 have := join_len 3138 [43] (by decide) (p.map pairW) (fun z hz => by obtain ⟨x, hx, rfl⟩ := List.mem_map.1 hz; exact pairW_len (h x hx).1 (h x hx).2)
 rw [List.length_map] at this
 unfold partW
 omega
open Go.RowKit
section
variable {ops : Array Oper} {o : Oper} {a : Act} {K : Act → World → Prop} {Q : Exit → Act → World → Prop} {E : Prop}
theorem step_append_own {P : Program} {w : World} (hgd : o.guard = none) (s x : Operand) (t : TypeId)
  (ho : o.op = .call { callee := .builtin .append, args := #[s, x], argTypes := #[t, t] })
  (base : Nat) (e : TypeId) (i : TypeInfo) (z : Value) (size bytes : Nat) (ht : P.underlying t = some (.slice e)) (hi : P.info? e = some i) (hz : i.zero = some z)
  (hsize : i.size = size) (hby : i.bytes = bytes) (hzs : z.cells.size = size) (hsz : 0 < size)
  (v : Value) (n : Nat) (xs : List Value) (hs : a.eval s = v) (hown : w.ownsRow base e size v n xs)
  (ad : Addr) (m c : Nat) (news : List Value) (hx : a.eval x = .slice (some ad) m c) (hl : news.length = m * size) (hnews : ∀ j u, news[j]? = some u → w.cell? (ad.add j) = some u) (h1 : ∀ u ∈ news, u.oneCell' = true)
  (h63 : n + m ≤ maxLen) (hbytes : (n + m) * bytes ≤ 140737488355328) (hbase : base ≤ w.heap.size)
  (h : ∀ v' w', w'.ownsRow base e size v' (n + m) (xs ++ news) → w.grownBy w' v.ownBlock → K (a.put o.dst v') w') :
  if Region.wanted o (yielded ops a.tmps) = true then Oper.wp P o a w K Q else E := by
 have hw : Region.wanted o (yielded ops a.tmps) = true := by simp [Region.wanted, hgd]
 rw [if_pos hw]
 obtain ⟨v', w', hr, h2, h3, h4⟩ := run_append_own (P := P) w base t o.type e i z size bytes ht hi hz hsize hby hzs hsz v n xs hown ad m c news hl hnews h1 h63 hbytes hbase
 unfold Oper.wp execOp
 simp only [ho, resolve, invoke, builtin, Sem.run_bind, Sem.run_pure, Result.andThen_ok, List.map_toArray, List.map_cons, List.map_nil, hs, hx, hr]
 exact h v' w' h2 h3
theorem step_strs_one (hgd : o.guard = none) (s x : Operand) (ho : o.op = .call { callee := .builtin .append, args := #[s, x], argTypes := #[23, 23] })
  {v : Value} {xs : List (List UInt8)} {W0 w0 : World} {c : List UInt8} (hs : a.eval s = v) (hb : Strs W0 w0 v xs)
  (hx : a.eval x = .slice (some ⟨w0.heap.size, 0, none⟩) 1 1) (hlen : xs.length < 4398046511104)
  (h : ∀ v' w', Strs W0 w' v' (xs ++ [c]) → w0.grownBy w' v.ownBlock → K (a.put o.dst v') w') :
  if Region.wanted o (yielded ops a.tmps) = true then Oper.wp Tryz.prog o a (w0.alloc (.cells #[.string ⟨c.toArray⟩] 9)).drew K Q else E := by
 obtain ⟨i, h1, h2, h3, h4⟩ := infoStr
 have hb0 := hb.alloc (.cells #[.string ⟨c.toArray⟩] 9)
 have hb' : Strs W0 (w0.alloc (.cells #[.string ⟨c.toArray⟩] 9)).drew v xs := ⟨hb0.1, hb0.2.1.drew, hb0.2.2⟩
 refine step_append_own hgd s x 23 ho W0.heap.size 9 i (.string ⟨#[]⟩) 1 16 Tryz.underlying23 h1 h2 h3 h4 rfl (by decide) v _ _ hs hb'.1 ⟨w0.heap.size, 0, none⟩ 1 1 [.string ⟨c.toArray⟩] hx rfl ?_ ?_ (by unfold maxLen; omega) (by omega) hb'.2.2 ?_
 ·intro j u hj
  match j, hj with
  | 0, hj => simp at hj; subst hj; simp [Addr.add]
  | (j + 1), hj => simp at hj
 ·intro u hu; simp at hu; subst hu; rfl
 ·intro v' w' ho' hg
  refine h v' w' ?_ (World.grownBy.trans (World.grownBy_alloc _ _ _) ⟨hg.os, hg.tape, hg.output, hg.size, hg.block⟩)
  exact hb'.grown (by simpa [strV] using ho') hg
theorem step_strs_one0 (hgd : o.guard = none) (s x : Operand) (ho : o.op = .call { callee := .builtin .append, args := #[s, x], argTypes := #[23, 23] })
  {v : Value} {xs : List (List UInt8)} {W0 w0 : World} {c : List UInt8} (hs : a.eval s = v) (hb : Strs W0 w0 v xs)
  (hx : a.eval x = .slice (some ⟨w0.heap.size, 0, none⟩) 1 1) (hlen : xs.length < 4398046511104)
  (h : ∀ v' w', Strs W0 w' v' (xs ++ [c]) → w0.grownBy w' v.ownBlock → K (a.put o.dst v') w') :
  if Region.wanted o (yielded ops a.tmps) = true then Oper.wp Tryz.prog o a (w0.alloc (.cells #[.string ⟨c.toArray⟩] 9)) K Q else E := by
 obtain ⟨i, h1, h2, h3, h4⟩ := infoStr
 have hb0 := hb.alloc (.cells #[.string ⟨c.toArray⟩] 9)
 have hb' : Strs W0 (w0.alloc (.cells #[.string ⟨c.toArray⟩] 9)) v xs := hb0
 refine step_append_own hgd s x 23 ho W0.heap.size 9 i (.string ⟨#[]⟩) 1 16 Tryz.underlying23 h1 h2 h3 h4 rfl (by decide) v _ _ hs hb'.1 ⟨w0.heap.size, 0, none⟩ 1 1 [.string ⟨c.toArray⟩] hx rfl ?_ ?_ (by unfold maxLen; omega) (by omega) hb'.2.2 ?_
 ·intro j u hj
  match j, hj with
  | 0, hj => simp at hj; subst hj; simp [Addr.add]
  | (j + 1), hj => simp at hj
 ·intro u hu; simp at hu; subst hu; rfl
 ·intro v' w' ho' hg
  refine h v' w' ?_ (World.grownBy.trans (World.grownBy_alloc _ _ _) ⟨hg.os, hg.tape, hg.output, hg.size, hg.block⟩)
  exact hb'.grown (by simpa [strV] using ho') hg
end
def intStr (r : Int × List UInt8) : Value := .tuple #[.string ⟨r.2.toArray⟩, .int .i64 r.1]
set_option maxRecDepth 100000 in
theorem Print_c (d : List (List (List UInt8 × List UInt8))) (v : Value) (w : World) (hw : Env w) (hv : DnR w v d) (hl : d.length ≤ 1000000) (hl2 : ∀ p ∈ d, p.length ≤ 1000000 ∧ ∀ x ∈ p, x.1.length ≤ 1000000) :
  Calls Tryz.prog 72 #[v] w fun e w' => e = .returned (intStr (printL d)) ∧ Below w.heap.size w w' := by
 have HV := Lib.hid hv
 have HC := Lib.hid (fun (p : List (List UInt8 × List UInt8)) (hp : p ∈ d) (pv : Value) (W : World) (hB : Below w.heap.size w W) (hr : RdnR W pv p) => avaBad_any p pv W hr (hl2 p hp).1 avaBadB (fun x hx W' ev hB' (he : AvaE W' ev x) => by rw [he]; exact Print1_c x W' ((hw.keep hB).keep hB') (by have := (hl2 p hp).2 x hx; omega)))
 have HT := Lib.hid (fun (W : World) (hB : Below w.heap.size w W) => tooLong_c d v W (hv.below hB) hl (fun p hp => (hl2 p hp).1))
 obtain ⟨A, c, rfl, hc, hx⟩ := hv
 have HX := Lib.hid hx
 clear hx hl2
 go_enter Tryz.func72, Tryz.ntmps72
 go_wp2_with fail
 go_loopg [15] d.length (fun gk i wr => ∃ k : Nat, k ≤ d.length ∧ i = .int .i64 k ∧ Aside (k + gk = d.length) ∧ Below w.heap.size w wr ∧ Aside (d.any partBad = (d.drop k).any partBad))
 case atStart => exact ⟨0, by omega, rfl, by show _ = _; omega, Below.refl _ _, rfl⟩
 case round =>
  obtain ⟨k, hk, rfl, AG, hB, AS⟩ := hrel
  by_cases hlt : k < d.length
  ·obtain ⟨q, rfl⟩ : ∃ q, gk = q + 1 := ⟨gk - 1, by have := AG.out; omega⟩
   obtain ⟨g, o, rfl, hg, hcells⟩ := HX.out.resolve_left (by intro h; rw [h] at hlt; simp at hlt)
   obtain ⟨pv, hp1, hp2⟩ := hcells k d[k] (List.getElem?_eq_getElem hlt)
   have c0 : wr.cell? ⟨g, o + k, none⟩ = some pv := (hB.cell (p := ⟨g, o + k, none⟩) hg).trans hp1
   have AS' : Aside (d.any partBad = (partBad d[k] || (d.drop (k + 1)).any partBad)) := by have := AS.out; rw [List.drop_eq_getElem_cons hlt] at this; exact this
   have hC := HC.out d[k] (List.getElem_mem hlt) pv wr hB (hp2.below hB)
   obtain ⟨A2, c2, rfl, hc2, hx2⟩ := hp2
   clear hcells AS hx2 hp1
   by_cases he : d[k] = []
   ·have hfin : printL d = (30, []) := by unfold printL; rw [AS'.out, he]; rfl
    have Hf := Lib.hid hfin
    have hlen0 : (d[k].length : Int) = 0 := by rw [he]; rfl
    clear hfin hC
    go_wp2_with fail
    all_goals
     go_ret2
     exact ⟨by rw [Hf.out]; rfl, hB⟩
   ·have hne : ((d[k].length : Int) == 0) = false := by
     apply beq_eq_false_iff_ne.2
     intro h
     exact he (List.eq_nil_of_length_eq_zero (by omega))
    have hpb : partBad d[k] = d[k].any avaBadB := by
     unfold partBad
     cases hdk : d[k] with
     | nil => exact absurd hdk he
     | cons a t => rfl
    rw [hpb] at AS'
    clear hpb he
    cases hA : d[k].any avaBadB
    ·rw [hA] at hC AS'
     clear hA
     generalize d[k].length = nk at hC hne c0 hc2
     go_wp2_with (go_at_call 127; refine hC.mono ?_; rintro e w2 ⟨rfl, hb2⟩)
     go_roundg q
     case measure => omega
     case rel => exact ⟨k + 1, by omega, by go_num, by have := AG.out; show _ = _; omega, hB.trans (hb2.mono hB.size), AS'.out⟩
    ·rw [hA] at hC AS'
     have hfin : printL d = (30, []) := by unfold printL; rw [AS'.out]; rfl
     have Hf := Lib.hid hfin
     clear hfin hA
     generalize d[k].length = nk at hC hne c0 hc2
     go_wp2_with (go_at_call 127; refine hC.mono ?_; rintro e w2 ⟨rfl, hb2⟩)
     all_goals
      go_ret2
      exact ⟨by rw [Hf.out]; rfl, hB.trans (hb2.mono hB.size)⟩
  ·obtain rfl : k = d.length := by omega
   have hs : d.any partBad = false := by have := AS.out; rw [List.drop_length] at this; exact this
   have hT := HT.out wr hB
   cases hTL : tooLongL d
   ·obtain ⟨n20, hgood⟩ := good_len hs hTL
    have hfin : printL d = printFin (nameW d) := by unfold printL; rw [hs, hTL]; rfl
    have Hf := Lib.hid hfin
    have HG := Lib.hid hgood
    rw [hTL] at hT
    clear hfin hTL hs AS HC HT hgood
    go_wp2_with (go_at_call 122; refine hT.mono ?_; rintro e w1 ⟨rfl, hb1⟩)
    clear hT
    have hB1 : Below w.heap.size w w1 := hB.trans (hb1.mono hB.size)
    go_loopg [6, 31] d.length (fun gk ps i wr => ∃ k : Nat, k ≤ d.length ∧ i = .int .i64 k ∧ Aside (k + gk = d.length) ∧ Strs w1 wr ps ((d.take k).map partW))
    case atStart => exact ⟨0, by omega, rfl, by show _ = _; omega, by simpa using Strs.nil w1⟩
    case round =>
     obtain ⟨k, hk, rfl, AG2, hS⟩ := hrel
     have hSB := hS.below
     have hBr : Below w.heap.size w wr := hB1.trans (hSB.mono hB1.size)
     by_cases hlt : k < d.length
     ·obtain ⟨q, rfl⟩ : ∃ q, gk = q + 1 := ⟨gk - 1, by have := AG2.out; omega⟩
      obtain ⟨g, o, rfl, hg, hcells⟩ := HX.out.resolve_left (by intro h; rw [h] at hlt; simp at hlt)
      obtain ⟨pv, hp1, hp2⟩ := hcells k d[k] (List.getElem?_eq_getElem hlt)
      have c0 : wr.cell? ⟨g, o + k, none⟩ = some pv := (hBr.cell (p := ⟨g, o + k, none⟩) hg).trans hp1
      obtain ⟨hpne, hp4, hpx⟩ := HG.out d[k] (List.getElem_mem hlt)
      have HSN := Lib.hid (show (d.take (k + 1)).map partW = (d.take k).map partW ++ [partW d[k]] by rw [List.take_succ_eq_append_getElem hlt, List.map_append]; rfl)
      have hpl := partW_len hp4 hpx
      generalize hP : d[k] = p at *
      generalize (d.take k).map partW = acc at hS HSN
      obtain ⟨A2, c2, rfl, hc2, hx2⟩ := hp2
      obtain ⟨g2, o2, rfl, hg2, hx3⟩ := hx2.resolve_left hpne
      have HX3 := Lib.hid hx3
      have HPX := Lib.hid hpx
      clear hcells hp1 hx3 hpx hP
      go_wp2_with fail
      obtain ⟨wo, hwo⟩ : ∃ wo, wo = wr := ⟨_, rfl⟩
      subst hwo
      go_loopg [9, 37] p.length (fun gk qs i wi => ∃ j : Nat, j ≤ p.length ∧ i = .int .i64 j ∧ Aside (j + gk = p.length) ∧ Strs wo wi qs ((p.take j).map pairW))
      case atStart => exact ⟨0, by omega, rfl, by show _ = _; omega, by simpa using Strs.nil wo⟩
      case round =>
       obtain ⟨j, hj, rfl, AG3, hQ⟩ := hrel
       have hQB := hQ.below
       have hBi : Below w.heap.size w wr := hBr.trans (hQB.mono hBr.size)
       by_cases hjl : j < p.length
       ·obtain ⟨q2, rfl⟩ : ∃ q2, gk = q2 + 1 := ⟨gk - 1, by have := AG3.out; omega⟩
        have hx4 := HX3.out j p[j] (List.getElem?_eq_getElem hjl)
        have d0 : wr.cell? ⟨g2, o2 + j * 2, none⟩ = some (.string ⟨p[j].1.toArray⟩) := by rw [Nat.mul_comm]; exact (hBi.cell (p := ⟨g2, o2 + 2 * j, none⟩) hg2).trans hx4.1
        have d1 : wr.cell? ⟨g2, o2 + j * 2 + 1, none⟩ = some (.string ⟨p[j].2.toArray⟩) := by rw [Nat.mul_comm]; exact (hBi.cell (p := ⟨g2, o2 + 2 * j + 1, none⟩) hg2).trans hx4.2
        obtain ⟨x64, x1024⟩ := HPX.out p[j] (List.getElem_mem hjl)
        have HSN2 := Lib.hid (show (p.take (j + 1)).map pairW = (p.take j).map pairW ++ [p[j].1 ++ 61 :: writtenL p[j].2] by rw [List.take_succ_eq_append_getElem hjl, List.map_append]; simp [pairW])
        have hql : ((p.take j).map pairW).length ≤ 4 := by simp; omega
        generalize (p.take j).map pairW = acc2 at hQ HSN2 hql
        generalize p[j].1 = x1 at *
        generalize p[j].2 = x2 at *
        clear hx4
        have hcat1 := fun w => run_string_add_lists (P := Tryz.prog) w x1 [61] (by omega) (by simp)
        have hwl := writtenL_len x2
        have hcat2 := fun w => run_string_add_lists (P := Tryz.prog) w (x1 ++ [61]) (writtenL x2) (by simp; omega) (by omega)
        go_wp2_with fail
        have e3 : Env (wr.alloc (.cells #[.string ⟨x1.toArray⟩, .string ⟨x2.toArray⟩] 123)) := (hw.keep hBi).keep ((Below.refl _ _).alloc (Nat.le_refl _) _)
        have kA := Bk.new wr 123 #[.string ⟨x1.toArray⟩, .string ⟨x2.toArray⟩]
        have hQ3 := hQ.alloc (.cells #[.string ⟨x1.toArray⟩, .string ⟨x2.toArray⟩] 123)
        have hown := fun k hk => (hQ.1.lt k hk).2
        generalize (wr.alloc (.cells #[.string ⟨x1.toArray⟩, .string ⟨x2.toArray⟩] 123)) = W3 at *
        generalize wr.heap.size = gx at kA hown ⊢
        have f0 : W3.cell? ⟨gx, 0, none⟩ = some (.string ⟨x1.toArray⟩) := kA.cell 0
        have f1 : W3.cell? ⟨gx, 1, none⟩ = some (.string ⟨x2.toArray⟩) := kA.cell 1
        have hgx := kA.lt
        have HOWN := Lib.hid hown
        clear hown
        have HE3 := Lib.hid e3
        have HQ3 := Lib.hid hQ3
        clear e3 kA hQ3 hQB hBi d0 d1 hQ
        go_region_held3 (fun w' => w'.cell? ⟨gx, 0, none⟩ = some (.string ⟨x1.toArray⟩) ∧ w'.cell? ⟨gx, 1, none⟩ = some (.string ⟨x2.toArray⟩)) (first | exact ⟨f0, f1⟩ | exact ⟨f0', f1'⟩ | exact ⟨f0'', f1''⟩ | exact ⟨(World.cell?_alloc_lt _ _ _ hgx4).trans f0', (World.cell?_alloc_lt _ _ _ hgx4).trans f1'⟩) (first | (go_at_call 129; refine (written_c x2 _ (HE3.out.keep (Below.refl _ _).drew) (by omega)).mono ?_; rintro e w4 ⟨rfl, hb4⟩; have f0' : w4.cell? ⟨gx, 0, none⟩ = some (.string ⟨x1.toArray⟩) := (hb4.cell (p := ⟨gx, 0, none⟩) hgx).trans f0; have f1' : w4.cell? ⟨gx, 1, none⟩ = some (.string ⟨x2.toArray⟩) := (hb4.cell (p := ⟨gx, 1, none⟩) hgx).trans f1; have hgx4 : gx < w4.heap.size := Nat.lt_of_lt_of_le hgx hb4.size; have HQ4 : Hid (Strs wo w4 _ acc2) := HQ3.out.grow ⟨hb4.os, hb4.tape, hb4.output, hb4.size, hb4.block⟩) | (refine step_strs_one0 (by rfl) _ _ (by rfl) rfl HQ4.out rfl (by omega) ?_; intro v5 w5 hQ5 hg5; have f0'' : w5.cell? ⟨gx, 0, none⟩ = some (.string ⟨x1.toArray⟩) := hg5.cell f0' (fun e => by have := HOWN.out gx e.symm; omega); have f1'' : w5.cell? ⟨gx, 1, none⟩ = some (.string ⟨x2.toArray⟩) := hg5.cell f1' (fun e => by have := HOWN.out gx e.symm; omega)))
        all_goals
         go_wp2_with fail
         go_roundg q2
         case measure => omega
         case rel => exact ⟨j + 1, by omega, by go_num, by have := AG3.out; show _ = _; omega, by rw [HSN2.out]; exact hQ5⟩
       ·obtain rfl : j = p.length := by omega
        rw [List.take_length] at hQ
        have hQT := hQ.texts
        have hJ := fun W (hT : Texts W u9 (p.map pairW)) => Join_c (p.map pairW) [43] u9 W hT (by simp; omega) (by show (partW p).length ≤ _; omega)
        have hacc : acc.length ≤ 20 := by have := congrArg List.length HSN.out; simp at this; omega
        go_wp2_with (first | (go_at_call 130; refine (hJ _ hQT).mono ?_; rintro e w6 ⟨rfl, hb6⟩; have hS6 := (hS.grow hQB).grow hb6) | (at_builtin; refine strs_one (c := partW p) rfl _ _ rfl rfl hS6 rfl (by omega) ?_; intro v7 w7 hS7 hg7))
        go_roundg q
        case measure => omega
        case rel => exact ⟨k + 1, by omega, by go_num, by have := AG2.out; show _ = _; omega, by rw [HSN.out]; exact hS7⟩
     ·obtain rfl : k = d.length := by omega
      rw [List.take_length] at hS
      have hST := hS.texts
      have hnl : (nameW d).length ≤ 20 * 12557 := by
       have := join_len 12556 [44] (by decide) (d.map partW) (fun z hz => by obtain ⟨x, hx, rfl⟩ := List.mem_map.1 hz; exact partW_len (HG.out x hx).2.1 (HG.out x hx).2.2)
       rw [List.length_map] at this
       have h2 : d.length * (12556 + 1) ≤ 20 * 12557 := Nat.mul_le_mul n20 (Nat.le_refl _)
       unfold nameW
       omega
      have hJ := fun W (hT : Texts W u6 (d.map partW)) => Join_c (d.map partW) [44] u6 W hT (by simp; omega) (by show (nameW d).length ≤ _; omega)
      have HJ := Lib.hid hJ
      have HST := Lib.hid hST
      clear hJ hST
      by_cases hbig : 65536 < (nameW d).length
      ·have hpf : printFin (nameW d) = (2, []) := by unfold printFin; rw [if_pos hbig]
       rw [hpf] at Hf
       clear hpf
       go_wp2_with (go_at_call 130; refine (HJ.out _ HST.out).mono ?_; change ∀ e w', e = Ending.returned (.string ⟨(nameW d).toArray⟩) ∧ _ → _; rintro e w6 ⟨rfl, hb6⟩)
       go_ret2
       exact ⟨by rw [Hf.out]; rfl, hBr.trans (hb6.mono hBr.size)⟩
      ·have hpf : printFin (nameW d) = (0, nameW d) := by unfold printFin; rw [if_neg hbig]
       rw [hpf] at Hf
       clear hpf
       go_wp2_with (go_at_call 130; refine (HJ.out _ HST.out).mono ?_; change ∀ e w', e = Ending.returned (.string ⟨(nameW d).toArray⟩) ∧ _ → _; rintro e w6 ⟨rfl, hb6⟩)
       go_ret2
       exact ⟨by rw [Hf.out]; rfl, hBr.trans (hb6.mono hBr.size)⟩
   ·have hfin : printL d = (2, []) := by unfold printL; rw [hs, hTL]; rfl
    have Hf := Lib.hid hfin
    rw [hTL] at hT
    clear hfin hTL hs AS HC HT
    go_wp2_with (go_at_call 122; refine hT.mono ?_; rintro e w1 ⟨rfl, hb1⟩)
    go_ret2
    exact ⟨by rw [Hf.out]; rfl, hB.trans (hb1.mono hB.size)⟩
open Go.RowKit Go.Sort
def avaCmp (a b : List UInt8 × List UInt8) : Int := orV (cmpB a.1 b.1) (cmpB a.2 b.2)
set_option maxRecDepth 10000 in
theorem Part1_c (a b : List UInt8 × List UInt8) (w : World) :
  Calls Tryz.prog 124 #[avaV a, avaV b] w fun e w' => e = .returned (.int .i64 (avaCmp a b)) ∧ ∃ q os', w' = grow (w.drewN q) os' := by
 obtain ⟨a1, a2⟩ := a
 obtain ⟨b1, b2⟩ := b
 show Calls Tryz.prog 124 #[.agg #[.string ⟨a1.toArray⟩, .string ⟨a2.toArray⟩], .agg #[.string ⟨b1.toArray⟩, .string ⟨b2.toArray⟩]] w _
 have hb : Below w.heap.size w ((w.alloc (.cells #[.string ⟨a1.toArray⟩, .string ⟨a2.toArray⟩] 123)).alloc (.cells #[.string ⟨b1.toArray⟩, .string ⟨b2.toArray⟩] 123)) := ((Below.refl _ _).alloc (Nat.le_refl _) _).alloc (by simp) _
 have k1 := (Bk.new w 123 #[.string ⟨a1.toArray⟩, .string ⟨a2.toArray⟩]).alloc (.cells #[.string ⟨b1.toArray⟩, .string ⟨b2.toArray⟩] 123)
 have k2 := Bk.new (w.alloc (.cells #[.string ⟨a1.toArray⟩, .string ⟨a2.toArray⟩] 123)) 123 #[.string ⟨b1.toArray⟩, .string ⟨b2.toArray⟩]
 rw [show (w.alloc (.cells #[.string ⟨a1.toArray⟩, .string ⟨a2.toArray⟩] 123)).heap.size = w.heap.size + 1 by simp] at k2
 have HC := Lib.hid (fun (x y : List UInt8) (W : World) => Compare_c x y W)
 have HO := Lib.hid (fun (b : Nat) (x y : Int) (W : World) h0 h1 => Or_c b x y W h0 h1)
 have hR : avaCmp (a1, a2) (b1, b2) = orV (cmpB a1 b1) (cmpB a2 b2) := rfl
 rw [hR]
 clear hR
 go_enter Tryz.func124, Tryz.ntmps124
 go_wp2_with fail
 have hW : ((w.alloc (.cells #[.string ⟨a1.toArray⟩, .string ⟨a2.toArray⟩] 123)).alloc (.cells #[.string ⟨b1.toArray⟩, .string ⟨b2.toArray⟩] 123)) = grow w #[.cells #[.string ⟨a1.toArray⟩, .string ⟨a2.toArray⟩] 123, .cells #[.string ⟨b1.toArray⟩, .string ⟨b2.toArray⟩] 123] := by rw [alloc_eq_grow, alloc_eq_grow, grow_grow]; rfl
 have HW := Lib.hid hW
 clear hW
 generalize ((w.alloc (.cells #[.string ⟨a1.toArray⟩, .string ⟨a2.toArray⟩] 123)).alloc (.cells #[.string ⟨b1.toArray⟩, .string ⟨b2.toArray⟩] 123)) = W at *
 have f0 : W.cell? ⟨w.heap.size, 0, none⟩ = some (.string ⟨a1.toArray⟩) := k1.cell 0
 have f1 : W.cell? ⟨w.heap.size, 1, none⟩ = some (.string ⟨a2.toArray⟩) := k1.cell 1
 have f2 : W.cell? ⟨w.heap.size + 1, 0, none⟩ = some (.string ⟨b1.toArray⟩) := k2.cell 0
 have f3 : W.cell? ⟨w.heap.size + 1, 1, none⟩ = some (.string ⟨b2.toArray⟩) := k2.cell 1
 have hl1 := k1.lt
 have hl2 := k2.lt
 clear k1 k2
 go_region_held3 (fun w' => w'.cell? ⟨w.heap.size, 0, none⟩ = some (.string ⟨a1.toArray⟩) ∧ w'.cell? ⟨w.heap.size, 1, none⟩ = some (.string ⟨a2.toArray⟩) ∧ w'.cell? ⟨w.heap.size + 1, 0, none⟩ = some (.string ⟨b1.toArray⟩) ∧ w'.cell? ⟨w.heap.size + 1, 1, none⟩ = some (.string ⟨b2.toArray⟩)) (first | exact ⟨f0, f1, f2, f3⟩ | exact ⟨(World.cell?_alloc_lt _ _ _ hl1).trans f0, (World.cell?_alloc_lt _ _ _ hl1).trans f1, (World.cell?_alloc_lt _ _ _ hl2).trans f2, (World.cell?_alloc_lt _ _ _ hl2).trans f3⟩) (first | (go_at_call 68; refine (HC.out _ _ _).mono ?_; rintro e w1 ⟨rfl, rfl⟩) | (go_at_call 125; refine (HO.out _ (cmpB a1 b1) (cmpB a2 b2) _ (by simp [go_sem]) (by simp [go_sem])).mono ?_; rintro e w1 ⟨rfl, rfl⟩))
 all_goals
  go_wp2_with fail
  go_ret
  refine ⟨rfl, ?_⟩
  rw [HW.out]
  exact ⟨1, _, by rw [alloc_eq_grow, grow_grow]; rfl⟩
def encA (x : List UInt8 × List UInt8) : List Value := [.string ⟨x.1.toArray⟩, .string ⟨x.2.toArray⟩]
theorem cmpLays_ava (blk off size : Nat) (w : World) : CmpLays Tryz.prog 124 #[] encA 2 avaCmp blk off size w :=
 fun _ _ _ _ x y => Part1_c x y _
def sortA (p : List (List UInt8 × List UInt8)) : Array (List UInt8 × List UInt8) := Sort.insertionSort (ltOf avaCmp) p.toArray 0 p.length
set_option maxRecDepth 10000 in
theorem SortFunc_c (p : List (List UInt8 × List UInt8)) (blk cap : Nat) (w : World) (hH : HoldsK encA 2 w blk 0 p.toArray) (hblk : blk < w.heap.size) (h12 : p.length ≤ 12) :
  Calls Tryz.prog 123 #[.slice (some ⟨blk, 0, none⟩) p.length cap, .func (.func 124) #[] #[]] w fun e w' => e = .returned (.tuple #[]) ∧ ∃ n os, w' = sortWorldK encA 2 w blk 0 n (sortA p) os := by
 have eg : ∀ args w, (callFunc 124 args).run Tryz.prog w = .ok (.enter 124 args) w := enters_of Tryz.func124 (by kernel_rfl) rfl
 have hcon := fun lim => AnyQ.pdqsortCmpFunc_small Tryz.sortAva 2 Tryz.isAgg123 Tryz.sizeOf123 encA (fun _ => rfl) (fun x v hv => by simp [encA] at hv; rcases hv with rfl | rfl <;> rfl) avaCmp 124 #[] blk 0 cap 0 p.length lim p.toArray w eg (cmpLays_ava blk 0 p.toArray.size w) hH hblk (Nat.zero_le _) (by simp) (by simp; omega) (by omega)
 change ∀ lim, Calls Tryz.prog 185 _ _ _ at hcon
 simp only [List.size_toArray] at hcon
 have HL := Lib.hid (Tryz.bits_Len (p.length : Int) w (by omega) (by omega))
 unfold sortA
 generalize Sort.insertionSort (ltOf avaCmp) p.toArray 0 p.length = R at hcon ⊢
 have HC := Lib.hid hcon
 have hcv : IntKind.u64.wrap (p.length : Int) = (p.length : Int) := by first | exact IntWalk.u64_in _ (by omega) | (unfold IntKind.wrap; simp; omega)
 clear hcon hH
 go_enter Tryz.func123, Tryz.ntmps123
 go_wp2_with (first | (go_at_call 118; refine HL.out.mono ?_; rintro e w1 ⟨rfl, rfl⟩) | (go_at_call 185; refine (HC.out _).mono ?_; rintro e w' ⟨rfl, n, os, rfl⟩))
 go_end0
 exact ⟨rfl, n, os, rfl⟩
end Go.Proofs.YtkkbbhlihilnpaaGreatDoor
