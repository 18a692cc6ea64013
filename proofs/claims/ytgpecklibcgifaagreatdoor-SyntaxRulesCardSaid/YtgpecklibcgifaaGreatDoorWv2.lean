/- Contracts of the document's answer: chapter 5: digits, number, Days, integer, time. -/
import Derived.Test.YtgpecklibcgifaaGreatDoorWr1
import Derived.Test.YtgpecklibcgifaaGreatDoorWv1
import Derived.Test.YtgpecklibcgifaaGreatDoorW5
import Derived.Test.YtgpecklibcgifaaGreatDoorWt1
import Derived.Test.YtgpecklibcgifaaGreatDoorW10
set_option linter.all false
namespace Go.Proofs.YtgpecklibcgifaaGreatDoor
open Go.RowKit

theorem u8_48 (c : UInt8) : ((c.toNat : Int) = 48) ↔ c = 48 := by
  constructor
  · intro h; exact UInt8.toNat_inj.1 (show _ = 48 by omega)
  · rintro rfl; rfl
set_option maxRecDepth 10000 in
set_option maxHeartbeats 1000000 in
theorem rdigits_r (l : List UInt8) (w : World) (hl : l.length ≤ 1099511627776) :
    Calls Tryz.prog 81 #[.string ⟨l.toArray⟩] w fun e w' => e = .returned (.bool (digsL l)) ∧ w = w' := by
  have hget := ba_get
  obtain ⟨R, hR⟩ : ∃ R, digsL l = R := ⟨_, rfl⟩
  rw [hR]
  have HR : Hid (R = (!l.isEmpty && l.all isDig)) := Lib.hid hR.symm
  clear hR
  go_enter Tryz.func81, Tryz.ntmps81
  go_wp2
  go_loop [3] (fun i => ∃ k : Nat, k ≤ l.length ∧ i = .int .i64 k ∧ Hid (R = (!l.isEmpty && (l.drop k).all isDig))) (fun i => l.length - (intOf i).toNat)
  case atStart => exact ⟨0, Nat.zero_le _, rfl, HR⟩
  case round =>
    obtain ⟨k, hk, rfl, HI⟩ := hrel
    clear HR
    by_cases hlt : k < l.length
    · have HI' : Hid (R = (!l.isEmpty && (isDig l[k] && (l.drop (k + 1)).all isDig))) := Lib.hid (by rw [HI.out, List.drop_eq_getElem_cons hlt, List.all_cons])
      clear HI
      have h8 := UInt8.toNat_lt l[k]
      by_cases h1 : l[k].toNat < 48
      · have hd : isDig l[k] = false := by unfold isDig; simp; omega
        have hf : R = false := by rw [HI'.out, hd]; simp
        subst hf
        clear HI'
        go_wp2
        go_ret
        exact ⟨rfl, rfl⟩
      · by_cases h2 : 57 < l[k].toNat
        · have hd : isDig l[k] = false := by unfold isDig; simp; omega
          have hf : R = false := by rw [HI'.out, hd]; simp
          subst hf
          clear HI'
          go_wp2
          go_ret
          exact ⟨rfl, rfl⟩
        · have hd : isDig l[k] = true := by unfold isDig; simp; omega
          rw [hd, Bool.true_and] at HI'
          go_wp2
          go_round
          case rel => exact ⟨k + 1, by omega, by go_num, HI'⟩
          case measure => simp [intOf]; omega
    · have hf : R = !l.isEmpty := by rw [HI.out, List.drop_eq_nil_of_le (by omega)]; simp
      have HF := Lib.hid hf
      clear hf HI
      go_wp2
      go_ret
      refine ⟨retb ?_, rfl⟩
      rw [HF.out]
      cases l <;> simp
set_option maxRecDepth 10000 in
set_option maxHeartbeats 1000000 in
theorem rnumber_r (l : List UInt8) (w : World) (hl : l.length ≤ 4) (hd : l.all isDig = true) :
    Calls Tryz.prog 87 #[.string ⟨l.toArray⟩] w fun e w' => e = .returned (.int .i64 (numL l 0)) ∧ w = w' := by
  have hget := ba_get
  go_enter Tryz.func87, Tryz.ntmps87
  have HD := Lib.hid hd
  clear hd
  go_wp2
  go_loopg [3, 4] l.length (fun gk n i wr => ∃ (k : Nat) (m : Int), k ≤ l.length ∧ i = .int .i64 k ∧ n = .int .i64 m ∧ 0 ≤ m ∧ m ≤ 99999 ∧ Aside (k + gk = l.length) ∧ Aside (wr = w) ∧ Aside (numL l 0 = numL (l.drop k) m) ∧ Aside (m < 10 ^ k))
  case atStart => exact ⟨0, 0, by omega, rfl, rfl, by omega, by omega, by show _ = _; omega, rfl, rfl, by show _ < _; decide⟩
  case round =>
    obtain ⟨k, m, hk, rfl, rfl, hm0, hm1, AG, AW, AN, AB⟩ := hrel
    obtain rfl : wr = w := AW.out
    by_cases hlt : k < l.length
    · have hdk : isDig l[k] = true := List.all_eq_true.1 HD.out _ (List.getElem_mem hlt)
      have AN' : Aside (numL l 0 = numL (l.drop (k + 1)) (m * 10 + ((l[k].toNat : Int) - 48))) := by
        have := AN.out
        rw [List.drop_eq_getElem_cons hlt, numL, Int.mul_comm 10 m] at this
        exact this
      unfold isDig at hdk
      simp at hdk
      have hkk : k = 0 ∨ k = 1 ∨ k = 2 ∨ k = 3 := by omega
      have hmk : m < 10 ^ k := AB.out
      have hm9 : m ≤ 999 := by rcases hkk with rfl | rfl | rfl | rfl <;> simp at hmk <;> omega
      have AB' : Aside (m * 10 + ((l[k].toNat : Int) - 48) < 10 ^ (k + 1)) := by
        show _ < _
        rw [Int.pow_succ]
        omega
      obtain ⟨q, rfl⟩ : ∃ q, gk = q + 1 := ⟨gk - 1, by have := AG.out; omega⟩
      clear hkk hmk
      obtain ⟨hd1, hd2⟩ := hdk
      have hd3 : (48 : Int) ≤ (l[k].toNat : Int) := by omega
      have hd4 : (l[k].toNat : Int) ≤ 57 := by omega
      clear hd1 hd2
      go_wp2
      go_roundg q
      case measure => omega
      case rel => exact ⟨k + 1, _, by omega, by go_num, rfl, by omega, by omega, by have := AG.out; show _ = _; omega, rfl, AN'.out, AB'.out⟩
    · obtain rfl : k = l.length := by omega
      go_wp2
      go_ret
      exact ⟨reti (by rw [AN.out, List.drop_length]; rfl), rfl⟩
set_option maxHeartbeats 1000000 in
theorem rDays_r (y m : Int) (w : World) (h0 : 0 ≤ y) (h1 : y < 10000) :
    Calls Tryz.prog 88 #[.int .i64 y, .int .i64 m] w fun e w' => e = .returned (.int .i64 (daysV y m)) ∧ w = w' := by
  go_enter Tryz.func88, Tryz.ntmps88
  go_wp2
  all_goals
    go_ret
    refine ⟨reti ?_, rfl⟩
    unfold daysV
    simp_all
    try omega
/-- The document's integers. -/
def plainInt (l : List UInt8) : Bool := digsL l && decide (l.length ≤ 40) && (l.head? != some 48 || l == [48])
def rintL : List UInt8 → Bool
  | [] => false
  | c :: t => if c = 45 then (t != [48]) && rintL t && (t.head? != some 45) else plainInt (c :: t)
set_option maxRecDepth 10000 in
set_option maxHeartbeats 1000000 in
theorem rint_plain (l : List UInt8) (w : World) (hl : l.length ≤ 65536) (h45 : l.head? ≠ some 45) :
    Calls Tryz.prog 48 #[.string ⟨l.toArray⟩] w fun e w' => e = .returned (.bool (plainInt l)) ∧ w = w' := by
  have hget := ba_get
  have hD := rdigits_r l w (by omega)
  unfold plainInt
  have HN : Hid (∀ c t, l = c :: t → c ≠ 45) := Lib.hid (fun c t e h => h45 (by rw [e, h]; rfl))
  clear h45
  cases l with
  | nil =>
    have e0 : digsL ([] : List UInt8) = false := rfl
    rw [e0] at hD ⊢
    go_enter Tryz.func48, Tryz.ntmps48
    go_wp2_with (go_at_call 81; refine hD.mono ?_; rintro e w1 ⟨rfl, rfl⟩)
    go_ret
    exact ⟨rfl, rfl⟩
  | cons c t =>
    have hc : ((c.toNat : Int) == 45) = false := by
      rw [beq_eq_false_iff_ne]; intro e; exact HN.out c t rfl (UInt8.toNat_inj.1 (show _ = 45 by omega))
    have hc2 : (c.toNat == 45) = false := by
      rw [beq_eq_false_iff_ne]; intro e; exact HN.out c t rfl (UInt8.toNat_inj.1 e)
    have e48 : ((c :: t).head? != some 48) = ((c.toNat : Int) != 48) := by
      rw [Bool.eq_iff_iff]
      simp only [List.head?_cons, bne_iff_ne, ne_eq, Option.some.injEq]
      exact not_congr (u8_48 c).symm
    rw [e48]
    have hpos : (0 : Int) < ((c :: t).length : Int) := by simp only [List.length_cons]; omega
    have hg0 : ∀ h, (c :: t)[0]'h = c := fun _ => rfl
    cases hdg : digsL (c :: t)
    · rw [hdg] at hD
      go_enter Tryz.func48, Tryz.ntmps48
      go_wp2_with (go_at_call 81; refine hD.mono ?_; rintro e w1 ⟨rfl, rfl⟩)
      go_ret
      exact ⟨rfl, rfl⟩
    · rw [hdg] at hD
      clear HN
      by_cases h40 : (c :: t).length ≤ 40
      · have h40' : (t.length : Int) + 1 ≤ 40 := by simp at h40; omega
        rw [decide_eq_true h40]
        go_enter Tryz.func48, Tryz.ntmps48
        go_wp2_with (go_at_call 81; refine hD.mono ?_; rintro e w1 ⟨rfl, rfl⟩)
        all_goals
          go_ret
          refine ⟨retb ?_, rfl⟩
          simp_all
      · have h40' : (40 : Int) < (t.length : Int) + 1 := by simp at h40; omega
        rw [decide_eq_false h40]
        go_enter Tryz.func48, Tryz.ntmps48
        go_wp2_with (go_at_call 81; refine hD.mono ?_; rintro e w1 ⟨rfl, rfl⟩)
        go_ret
        exact ⟨rfl, rfl⟩
set_option maxRecDepth 10000 in
set_option maxHeartbeats 1000000 in
theorem rinteger_r : ∀ (l : List UInt8) (w : World) (_ : l.length ≤ 65536),
    Calls Tryz.prog 48 #[.string ⟨l.toArray⟩] w fun e w' => e = .returned (.bool (rintL l)) ∧ w = w'
  | [], w, hl => rint_plain [] w hl (by simp)
  | c :: t, w, hl => by
    by_cases h45 : c = 45
    · have ih := rinteger_r t w (by simp at hl; omega)
      have hget := ba_get
      have hext := ba_ext
      rw [rintL, if_pos h45]
      subst h45
      have hsub : sub (45 :: t) 1 (t.length + 1) = t := by unfold sub; simp
      have H := Lib.hid ih
      have hlt : (t.length : Int) ≤ 65535 := by simp at hl; omega
      have hg1 : ∀ h, (45 :: t)[1]'h = t[0]'(by simp at h; omega) := fun h => rfl
      clear ih
      by_cases h48 : t = [48]
      · subst h48
        go_enter Tryz.func48, Tryz.ntmps48
        go_wp2
        go_ret
        exact ⟨rfl, rfl⟩
      · have e48 : ((45 : UInt8) :: t == [45, 48]) = false := by simpa using h48
        have e48' : ((45 : UInt8) :: t != [45, 48]) = true := by simpa using h48
        have f48 : (t != [48]) = true := by simpa using h48
        rw [f48]
        cases hr : rintL t
        · rw [hr] at H
          go_enter Tryz.func48, Tryz.ntmps48
          go_wp2_with (go_at_call 48; (try rw [hsub]); refine H.out.mono ?_; rintro e w1 ⟨rfl, rfl⟩)
          go_ret
          exact ⟨rfl, rfl⟩
        · rw [hr] at H
          have hpos : 0 < t.length := by
            cases t with
            | nil => cases hr
            | cons d u => simp
          have hpos' : (1 : Int) < (t.length : Int) + 1 := by omega
          have e45 : (t.head? != some 45) = ((t[0].toNat : Int) != 45) := by
            rw [Bool.eq_iff_iff, List.head?_eq_getElem?, List.getElem?_eq_getElem hpos]
            simp only [bne_iff_ne, ne_eq, Option.some.injEq]
            refine not_congr ⟨fun e => by rw [e]; rfl, fun e => UInt8.toNat_inj.1 (show _ = 45 by omega)⟩
          rw [e45]
          clear hr h48
          go_enter Tryz.func48, Tryz.ntmps48
          go_wp2_with (go_at_call 48; (try rw [hsub]); refine H.out.mono ?_; rintro e w1 ⟨rfl, rfl⟩)
          go_ret
          refine ⟨retb ?_, rfl⟩
          simp
    · rw [rintL, if_neg h45]
      exact rint_plain (c :: t) w hl (by simpa using h45)
end Go.Proofs.YtgpecklibcgifaaGreatDoor
/- Contracts of the document's answer: chapter 4: name. -/
namespace Go.Proofs.YtgpecklibcgifaaGreatDoor
open Go.RowKit

theorem DnV.keep2 {B : Nat} {w w' : World} {v : Value} {d : List (List (List UInt8 × List UInt8))} {vs : List Value} (h : DnV B w v d vs) {r : Option Nat} (hg : w.grownBy w' r) (hv : v.ownBlock = none ∨ v.ownBlock ≠ r) (hvs : ∀ u ∈ vs, u.ownBlock = none ∨ u.ownBlock ≠ r) : DnV B w' v d vs := by
  obtain ⟨h1, h2, h3, h4⟩ := h
  exact ⟨h1.kept hg hv, Nat.le_trans h2 hg.size, h3.imp fun u q hu hA => avas_grown hA hg (hvs u hu), h4⟩
theorem row_ne_avas' {B B' : Nat} {w : World} {v u : Value} {n : Nat} {xs : List Value} {p : List (List UInt8 × List UInt8)} (h : w.ownsRow B 83 1 v n xs) (hu : Avas B' w u p) (hB : B ≤ B') : v.ownBlock = none ∨ v.ownBlock ≠ u.ownBlock := by
  rcases row_ne_avas h (hu.lower hB) with h' | h'
  · rcases hv : v.ownBlock with _ | k
    · exact .inl rfl
    · rw [h']; exact .inr (by simp)
  · exact .inr (Ne.symm h')
/-- The parts that are done stay while the part that is under way grows. -/
theorem DnV.grow {B B' : Nat} {w w' : World} {v u : Value} {d : List (List (List UInt8 × List UInt8))} {vs : List Value} {p : List (List UInt8 × List UInt8)} (h : DnV B w v d vs) (hu : Avas B' w u p) (hB : B ≤ B') (hold : ∀ x ∈ vs, ∀ k, x.ownBlock = some k → k < B') (hg : w.grownBy w' u.ownBlock) : DnV B w' v d vs := by
  refine h.keep2 hg (row_ne_avas' h.1 hu hB) (fun x hx => ?_)
  rcases hxb : x.ownBlock with _ | k
  · exact .inl rfl
  · refine .inr ?_
    intro e
    have h1 := hold x hx k hxb
    have h2 := (hu.lt k e.symm).1
    omega
def RNameRet (w : World) (o : Option (List (List (List UInt8 × List UInt8)))) (e : Ending) (w' : World) : Prop :=
  Below w.heap.size w w' ∧ ∃ v, e = .returned (.tuple #[v, .bool o.isSome]) ∧ DnAt w.heap.size w' v (o.getD [])
theorem DnAt.nilB {B : Nat} {w : World} (hB : B ≤ w.heap.size) : DnAt B w (.slice none 0 0) [] := ⟨[], World.ownsRow_nil _ _ _ _, hB, .nil, by simp⟩
theorem Avas.empt (B : Nat) {w : World} (hB : B ≤ w.heap.size) : Avas B w (.slice none 0 0) [] := ⟨World.ownsRow_nil _ _ _ _, hB⟩
theorem DnV.lower {B B' : Nat} {w : World} {v : Value} {d : List (List (List UInt8 × List UInt8))} {vs : List Value} (h : DnV B w v d vs) (hB : B' ≤ B) : DnV B' w v d vs := by
  obtain ⟨⟨h1, h2⟩, h3, h4, h5⟩ := h
  refine ⟨⟨h1, h2.imp id ?_⟩, by omega, h4.imp fun u q _ hu => hu.lower hB, h5⟩
  rintro ⟨g, cap, cur, r1, r2, r3⟩
  exact ⟨g, cap, cur, r1, by omega, r3⟩
theorem DnV.isSlice {B : Nat} {w : World} {v : Value} {d : List (List (List UInt8 × List UInt8))} {vs : List Value} (h : DnV B w v d vs) : ∃ A c, v = .slice A d.length c ∧ d.length ≤ c := by
  rcases h.1.2 with ⟨rfl, hn⟩ | ⟨g, cap, cur, rfl, _, _, h4, _⟩
  · exact ⟨_, _, by rw [hn], by omega⟩
  · exact ⟨_, _, rfl, h4⟩
theorem below_of_grown {w w' : World} {b : Nat} (h : w.grownBy w' (some b)) {B : Nat} (hB : B ≤ b) (hw : B ≤ w.heap.size) : Below B w w' := ⟨h.os, h.tape, h.output, h.size, fun k hk => h.block k (by omega) (by simp; omega)⟩
set_option maxRecDepth 100000 in
set_option maxHeartbeats 4000000 in
theorem rname_go (s : List UInt8) (w : World) (hs : s.length ≤ 65536) (hne : s ≠ []) :
    Calls Tryz.prog 82 #[.string ⟨s.toArray⟩] w (RNameRet w (flat rpairR (s.length + 1) s [] [])) := by
  obtain ⟨O, hO⟩ : ∃ O, flat rpairR (s.length + 1) s [] [] = O := ⟨_, rfl⟩
  rw [hO]
  have HO := Lib.hid hO
  have hne' : (s == []) = false := beq_eq_false_iff_ne.2 hne
  clear hO hne
  have hz : ∀ W : World, (zeroValue 85).run Tryz.prog W = .ok (.agg #[.string ⟨#[]⟩, .string ⟨#[]⟩]) W := fun W => by kernel_rfl
  go_enter Tryz.func82, Tryz.ntmps82
  go_wp2_with fail
  have k0 : Dk (w.alloc (.cells #[.string ⟨s.toArray⟩, .int .i64 0] 124)) w.heap.size s 0 := Bk.new w _ _
  have b0 : Below w.heap.size w (w.alloc (.cells #[.string ⟨s.toArray⟩, .int .i64 0] 124)) := (Below.refl _ _).alloc (Nat.le_refl _) _
  have z0 : (w.alloc (.cells #[.string ⟨s.toArray⟩, .int .i64 0] 124)).heap.size = w.heap.size + 1 := by simp
  generalize w.alloc (.cells #[.string ⟨s.toArray⟩, .int .i64 0] 124) = W0 at *
  obtain ⟨b, hb⟩ : ∃ b, w.heap.size = b := ⟨_, rfl⟩
  have HB := Lib.hid hb
  rw [hb] at k0 b0 z0 ⊢
  clear hb
  go_loopg [5, 6] (s.length + 1) (fun gk out part wr => ∃ (r' : List UInt8) (pt : List (List UInt8 × List UInt8)) (acc : List (List (List UInt8 × List UInt8))) (vs : List Value) (B' : Nat), r'.length + 1 ≤ gk ∧ DkAt wr b s r' ∧ DnV W0.heap.size wr out acc vs ∧ W0.heap.size ≤ B' ∧ Aside (∀ u ∈ vs, ∀ k, u.ownBlock = some k → k < B') ∧ Avas B' wr part pt ∧ acc.length + pt.length + r'.length ≤ s.length ∧ Aside (flat rpairR gk r' pt acc = O) ∧ W0.grownBy wr (some b))
  case atStart => exact ⟨s, [], [], [], W0.heap.size, Nat.le_refl _, ⟨0, by omega, rfl, k0⟩, ⟨World.ownsRow_nil _ _ _ _, Nat.le_refl _, .nil, by simp⟩, Nat.le_refl _, (by intro u hu; cases hu), Avas.empt _ (Nat.le_refl _), by simp, HO.out, World.grownBy.refl _ _⟩
  case round =>
    obtain ⟨r', pt, acc, vs, B', hgk, hR, hD, hB', AH, hA, hlen, AF, hg⟩ := hrel
    obtain ⟨q, rfl⟩ : ∃ q, gk = q + 1 := ⟨gk - 1, by omega⟩
    have hbw : b < W0.heap.size := by omega
    have HP := Lib.hid (dpair_r b s r' wr hR hs)
    have hF := AF.out
    rw [flat] at hF
    have HBel := Lib.hid (fun (w' : World) (h : W0.grownBy w' (some b)) => b0.trans (below_of_grown h (Nat.le_refl b) (by omega)))
    obtain ⟨Ao, co, rfl, hco⟩ := hD.isSlice
    obtain ⟨Ap, cpp, rfl, hcpp⟩ := hA.isSlice
    cases hp : rpairR r' with
    | none =>
      rw [hp] at HP hF
      have hON : O = none := hF.symm
      have HON := Lib.hid hON
      clear hON hF AF hp
      go_wp2_with (go_at_call 127; refine HP.out.mono ?_; rintro e w2 ⟨h2, ⟨x1, x2⟩, rfl, _⟩; simp only [avaV, Option.isSome])
      go_ret2
      rw [HON.out]
      unfold RNameRet
      rw [HB.out]
      have hb3 := HBel.out _ (World.grownBy.trans hg (World.grownBy.trans h2 (World.grownBy_alloc w2 (.cells #[.string ⟨x1.toArray⟩, .string ⟨x2.toArray⟩] 85) (some b))))
      exact ⟨hb3, _, rfl, DnAt.nilB (by have := hb3.size; rw [← HB.out]; exact this)⟩
    | some y =>
      obtain ⟨⟨x1, x2⟩, r2⟩ := y
      have hl2 := rpairR_len hp
      rw [hp] at HP hF
      have HF := Lib.hid hF
      clear hF AF hp
      go_wp2_with fail
      refine HP.out.mono ?_
      rintro e w2 ⟨h2, x, rfl, hx⟩
      obtain ⟨rfl, hR2⟩ := hx _ _ rfl
      simp only [avaV, Option.isSome]
      have h3 := World.grownBy.trans h2 (World.grownBy_alloc w2 (.cells #[.string ⟨x1.toArray⟩, .string ⟨x2.toArray⟩] 85) (some b))
      have hD3 := hD.keep h3 (fun k hk => by cases hk; exact hbw)
      have hA3 := hA.keep h3 (fun k hk => by cases hk; omega)
      have hR3 := hR2.keep (World.grownBy_alloc w2 (.cells #[.string ⟨x1.toArray⟩, .string ⟨x2.toArray⟩] 85) none) (by simp)
      have hg3 := World.grownBy.trans hg h3
      have hsz3 : (w2.alloc (.cells #[.string ⟨x1.toArray⟩, .string ⟨x2.toArray⟩] 85)).heap.size = w2.heap.size + 1 := by simp
      have HD3 := Lib.hid hD3
      have HA3 := Lib.hid hA3
      have HR3 := Lib.hid hR3
      have HG3 := Lib.hid hg3
      clear hD hA hR hR2 hx hg h2 h3 HP hD3 hA3 hR3 hg3
      go_wp2_with (at_builtin; refine avas_one rfl _ _ rfl rfl HA3.out rfl (by first | rfl | simp) (by omega) ?_; intro v' w4 hA4 hg4; obtain ⟨A4, c4, rfl, hc4⟩ := hA4.isSlice)
      have hD4 := HD3.out.grow HA3.out hB' AH.out hg4
      have hR4 := HR3.out.keep hg4 (fun e => by have := (HA3.out.lt b e.symm).1; omega)
      have hG4 : W0.grownBy w4 (some b) := (HA3.out.lower hB').grown HG3.out hg4
      clear HD3 HA3 HR3 HG3 hsz3 hg4
      have hI := dis_at b s r2 43 w4 hR4
      cases h43 : hd r2 43
      · rw [h43] at hI
        have hF2 : (if r2 = [] then some (acc ++ [pt ++ [(x1, x2)]]) else if hd r2 44 then flat rpairR q r2.tail [] (acc ++ [pt ++ [(x1, x2)]]) else none) = O := by
          have h := HF.out
          simp only [h43, Bool.false_eq_true, if_false] at h
          exact h
        have HF2 := Lib.hid hF2
        clear hF2 HF h43
        refine hI.mono ?_
        rintro e w5 ⟨rfl, n5, rfl⟩
        have hg5 := grown_drewN w4 n5 (none : Option Nat)
        have hD5 := hD4.keep hg5 (fun k hk => by cases hk)
        have hA5 := hA4.keep hg5 (fun k hk => by cases hk)
        have hR5 : DkAt (w4.drewN n5) b s r2 := hR4
        have hG5 := World.grownBy.trans hG4 (grown_drewN w4 n5 (some b))
        clear hD4 hA4 hR4 hG4 hI hg5
        generalize w4.drewN n5 = w5 at *
        have HD5 := Lib.hid hD5
        have HA5 := Lib.hid hA5
        have hptl : (pt ++ [(x1, x2)]).length = pt.length + 1 := by simp
        rw [hptl] at HA5
        clear hD5 hA5
        go_wp2_with (at_builtin; refine dn_one rfl _ _ rfl rfl HD5.out HA5.out hB' AH.out rfl rfl (by omega) ?_; intro v' w6 hD6 hg6; obtain ⟨A6, c6, rfl, hc6⟩ := hD6.isSlice)
        have hR6 : DkAt w6 b s r2 := hR5.keep hg6 (fun e => by have := (HD5.out.own b e.symm).1; omega)
        have hG6 : W0.grownBy w6 (some b) := HD5.out.grown hG5 hg6
        have hold6 := hD6.lt
        have HD6 := Lib.hid hD6
        have HO6 := Lib.hid hold6
        clear HD5 HA5 hR5 hG5 hg6 hD6 hold6
        obtain ⟨i, hi, hdi, hDi⟩ := hR6
        have d0 := hDi.c0
        have d1 := hDi.c1
        have HDi := Lib.hid hDi
        clear hDi
        go_quiet (fail)
        have hD7 := HD6.out.keep (grown_drewN w6 nq (none : Option Nat)) (fun k hk => by cases hk)
        have hR7 := HDi.out.drewN nq
        have hG7 := World.grownBy.trans hG6 (grown_drewN w6 nq (some b))
        have HO7 : Hid (∀ u ∈ vs ++ [Value.slice A4 (pt.length + 1) c4], ∀ k, u.ownBlock = some k → k < (w6.drewN nq).heap.size) := HO6
        clear HD6 HDi hG6 d0 d1 HO6
        generalize w6.drewN nq = w7 at *
        have HD7 := Lib.hid hD7
        clear hD7
        cases r2 with
        | nil =>
          have hil : i = s.length := by
            have := congrArg List.length hdi
            simp at this
            omega
          have hii : ((i : Int) == (s.length : Int)) = true := beq_iff_eq.2 (by omega)
          have hON : O = some (acc ++ [pt ++ [(x1, x2)]]) := by rw [← HF2.out]; rfl
          have HON := Lib.hid hON
          clear hON HF2
          go_wp2_with fail
          go_ret2
          rw [HON.out]
          unfold RNameRet
          rw [HB.out]
          refine ⟨HBel.out _ hG7, _, rfl, vs ++ [Value.slice A4 (pt.length + 1) c4], ?_⟩
          simpa using HD7.out.lower (by omega)
        | cons c2 t2 =>
          have hii : ((i : Int) == (s.length : Int)) = false := by
            have ⟨h1, _⟩ := drop_succ hdi
            exact beq_eq_false_iff_ne.2 (by omega)
          have hR8 : DkAt w7 b s (c2 :: t2) := ⟨i, hi, hdi, hR7⟩
          have hI := dis_at b s (c2 :: t2) 44 w7 hR8
          simp only [List.length_cons] at hl2
          cases h44 : hd (c2 :: t2) 44
          · rw [h44] at hI
            have hON : O = none := by rw [← HF2.out, h44]; rfl
            have HON := Lib.hid hON
            clear hON HF2 h44
            go_wp2_with fail
            refine hI.mono ?_
            rintro e w8 ⟨rfl, n8, rfl⟩
            go_wp2_with fail
            go_ret2
            rw [HON.out]
            unfold RNameRet
            rw [HB.out]
            have hb3 := HBel.out _ (World.grownBy.trans hG7 (grown_drewN w7 n8 (some b)))
            exact ⟨hb3, _, rfl, DnAt.nilB (by have := hb3.size; rw [← HB.out]; exact this)⟩
          · rw [h44] at hI
            have hF3 : flat rpairR q t2 [] (acc ++ [pt ++ [(x1, x2)]]) = O := by
              have h := HF2.out
              rw [if_neg (by simp), h44, if_pos rfl] at h
              exact h
            have HF3 := Lib.hid hF3
            clear hF3 HF2 h44
            go_wp2_with fail
            refine hI.mono ?_
            rintro e w8 ⟨rfl, n8, rfl⟩
            have hD8 := HD7.out.keep (grown_drewN w7 n8 (none : Option Nat)) (fun k hk => by cases hk)
            have hR9 : DkAt (w7.drewN n8) b s (c2 :: t2) := hR8
            have hG8 := World.grownBy.trans hG7 (grown_drewN w7 n8 (some b))
            have HO8 : Hid (∀ u ∈ vs ++ [Value.slice A4 (pt.length + 1) c4], ∀ k, u.ownBlock = some k → k < (w7.drewN n8).heap.size) := HO7
            clear HD7 hR8 hR7 hG7 HO7 hI hdi
            generalize w7.drewN n8 = w8 at *
            obtain ⟨i5, hi5, p1, pf, r6⟩ := hR9.next
            have hle8 := hG8.size
            go_wp2_with fail
            go_roundg q
            case measure => omega
            case rel => exact ⟨t2, [], acc ++ [pt ++ [(x1, x2)]], vs ++ [Value.slice A4 (pt.length + 1) c4], w8.heap.size, by omega, r6, by simpa using hD8.keep (grown_set (b := b) (o := 1) _) (fun k hk => by cases hk; exact hbw), hle8, HO8.out, Avas.empt _ (by simp [World.setCell]), by simp; omega, HF3.out, World.grownBy.trans hG8 (grown_set _)⟩
      · rw [h43] at hI
        obtain ⟨c2, t2, rfl⟩ := hd_cons h43
        have hF2 : flat rpairR q t2 (pt ++ [(x1, x2)]) acc = O := by
          have h := HF.out
          simp only [h43, if_true, List.tail_cons] at h
          exact h
        have HF2 := Lib.hid hF2
        clear hF2 HF h43
        refine hI.mono ?_
        rintro e w5 ⟨rfl, n5, rfl⟩
        have hg5 := grown_drewN w4 n5 (none : Option Nat)
        have hD5 := hD4.keep hg5 (fun k hk => by cases hk)
        have hA5 := hA4.keep hg5 (fun k hk => by cases hk)
        have hR5 : DkAt (w4.drewN n5) b s (c2 :: t2) := hR4
        have hG5 := World.grownBy.trans hG4 (grown_drewN w4 n5 (some b))
        clear hD4 hA4 hR4 hG4 hI hg5
        generalize w4.drewN n5 = w5 at *
        obtain ⟨i5, hi5, p1, pf, r6⟩ := hR5.next
        simp only [List.length_cons] at hl2
        go_wp2_with fail
        go_roundg q
        case measure => omega
        case rel => exact ⟨t2, pt ++ [(x1, x2)], acc, vs, B', by omega, r6, hD5.keep (grown_set (b := b) (o := 1) _) (fun k hk => by cases hk; exact hbw), hB', AH.out, by simpa using hA5.keep (grown_set (b := b) (o := 1) _) (fun k hk => by cases hk; omega), by simp; omega, HF2.out, World.grownBy.trans hG5 (grown_set _)⟩
end Go.Proofs.YtgpecklibcgifaaGreatDoor
/- Contracts of the document's answer: chapter 4: name, fits, Parse. -/
namespace Go.Proofs.YtgpecklibcgifaaGreatDoor
open Go.RowKit

set_option maxRecDepth 100000 in
set_option maxHeartbeats 1000000 in
theorem rname_nil (w : World) :
    Calls Tryz.prog 82 #[.string ⟨#[]⟩] w (RNameRet w (some [])) := by
  go_enter Tryz.func82, Tryz.ntmps82
  go_wp2_with fail
  go_ret2
  have hb := (Below.refl w.heap.size w).alloc (Nat.le_refl _) (.cells #[.string ⟨#[]⟩, .int .i64 0] 124)
  exact ⟨hb, _, rfl, DnAt.nilB hb.size⟩
theorem rname_r (s : List UInt8) (w : World) (hs : s.length ≤ 65536) :
    Calls Tryz.prog 82 #[.string ⟨s.toArray⟩] w (RNameRet w (nameR s)) := by
  by_cases hn : s = []
  · subst hn
    exact rname_nil w
  · rw [name_flat s hn]
    exact rname_go s w hs hn
theorem any_drop_hit {α : Type} {P : α → Bool} {l : List α} {k : Nat} (hk : k < l.length) (h : P l[k] = true) : (l.drop k).any P = true := by
  rw [List.drop_eq_getElem_cons hk, List.any_cons, h]; rfl
theorem any_drop_miss {α : Type} {P : α → Bool} {l : List α} {k : Nat} (hk : k < l.length) (h : P l[k] = false) : (l.drop k).any P = (l.drop (k + 1)).any P := by
  rw [List.drop_eq_getElem_cons hk, List.any_cons, h, Bool.false_or]
set_option maxRecDepth 100000 in
set_option maxHeartbeats 2000000 in
theorem fits_r (d : List (List (List UInt8 × List UInt8))) (v : Value) (w : World) (hv : DnR w v d) :
    Calls Tryz.prog 83 #[v] w fun e w' => e = .returned (.bool (!tooLongL d)) ∧ w = w' := by
  obtain ⟨A, c, rfl, hc, hx⟩ := hv
  by_cases h20 : 20 < d.length
  · have hR : tooLongL d = true := by simp [tooLongL, h20]
    rw [hR]
    clear hx hR
    generalize d.length = n at *
    go_enter Tryz.func83, Tryz.ntmps83
    go_wp2_with fail
    go_ret
    exact ⟨rfl, rfl⟩
  · obtain ⟨R, hR⟩ : ∃ R, tooLongL d = R := ⟨_, rfl⟩
    rw [hR]
    have hR2 : R = d.any rdnLongB := by rw [← hR]; simp [tooLongL, h20]
    have HR := Lib.hid hR2
    clear hR hR2
    have HX := Lib.hid hx
    have hd20 : (d.length : Int) ≤ 20 := by omega
    clear hx
    go_enter Tryz.func83, Tryz.ntmps83
    go_wp2_with fail
    go_loopg [3] d.length (fun gk t wr => ∃ k : Nat, k ≤ d.length ∧ t = .int .i64 k ∧ Aside (k + gk = d.length) ∧ w = wr ∧ Aside (R = (d.drop k).any rdnLongB))
    case atStart => exact ⟨0, by omega, rfl, by show _ = _; omega, rfl, HR.out⟩
    case round =>
      obtain ⟨k, hk, rfl, AG, rfl, AR⟩ := hrel
      by_cases hlt : k < d.length
      · obtain ⟨q, rfl⟩ : ∃ q, gk = q + 1 := ⟨gk - 1, by have := AG.out; omega⟩
        obtain ⟨g, o, rfl, hg, pv, hpc, hpr⟩ : ∃ g o, A = some ⟨g, o, none⟩ ∧ g < w.heap.size ∧ ∃ pv, w.cell? ⟨g, o + k, none⟩ = some pv ∧ RdnR w pv d[k] := by
          rcases HX.out with rfl | ⟨g, o, rfl, hg, h⟩
          · simp at hlt
          · exact ⟨g, o, rfl, hg, h k d[k] (List.getElem?_eq_getElem hlt)⟩
        have AR2 : Aside (R = (rdnLongB d[k] || (d.drop (k + 1)).any rdnLongB)) := by
          show _ = _
          rw [AR.out, List.drop_eq_getElem_cons hlt, List.any_cons]
        obtain ⟨Ap, cp, rfl, hcp, hpx⟩ := hpr
        have hkk : (k : Int) < (d.length : Int) := by omega
        clear AR HX
        generalize d[k] = p at *
        by_cases h4 : 4 < p.length
        · have hRt : R = true := by rw [AR2.out]; unfold rdnLongB; rw [decide_eq_true h4]; rfl
          subst hRt
          clear AR2 hpx
          have h4' : (4 : Int) < (p.length : Int) := by omega
          generalize p.length = pn at *
          go_wp2_with fail
          go_ret
          exact ⟨rfl, rfl⟩
        · have AR3 : Aside (R = (p.any avaLongB || (d.drop (k + 1)).any rdnLongB)) := by
            show _ = _
            rw [AR2.out]; unfold rdnLongB; rw [decide_eq_false h4, Bool.false_or]
          have HPX := Lib.hid hpx
          have h4' : (p.length : Int) ≤ 4 := by omega
          clear AR2 hpx
          go_wp2_with fail
          obtain ⟨wo, hwo⟩ : ∃ wo, wo = w := ⟨_, rfl⟩
          subst hwo
          go_loopg [4] p.length (fun gk2 t wr => ∃ m : Nat, m ≤ p.length ∧ t = .int .i64 m ∧ Aside (m + gk2 = p.length) ∧ wo = wr ∧ Aside (R = ((p.drop m).any avaLongB || (d.drop (k + 1)).any rdnLongB)))
          case atStart => exact ⟨0, by omega, rfl, by show _ = _; omega, rfl, AR3.out⟩
          case round =>
            obtain ⟨m, hm, rfl, AG2, rfl, AR4⟩ := hrel
            by_cases hlt2 : m < p.length
            · obtain ⟨q2, rfl⟩ : ∃ q2, gk = q2 + 1 := ⟨gk - 1, by have := AG2.out; omega⟩
              obtain ⟨gp, op, rfl, hgp, c0, c1⟩ : ∃ gp op, Ap = some ⟨gp, op, none⟩ ∧ gp < wo.heap.size ∧ wo.cell? ⟨gp, op + 2 * m, none⟩ = some (.string ⟨p[m].1.toArray⟩) ∧ wo.cell? ⟨gp, op + 2 * m + 1, none⟩ = some (.string ⟨p[m].2.toArray⟩) := by
                rcases HPX.out with h | ⟨gp, op, h1, h2, h3⟩
                · rw [h] at hlt2; simp at hlt2
                · exact ⟨gp, op, h1, h2, h3 m p[m] (List.getElem?_eq_getElem hlt2)⟩
              have AR5 : Aside (R = ((avaLongB p[m] || (p.drop (m + 1)).any avaLongB) || (d.drop (k + 1)).any rdnLongB)) := by
                show _ = _
                rw [AR4.out, List.drop_eq_getElem_cons hlt2, List.any_cons]
              have hmm : (m : Int) < (p.length : Int) := by omega
              have hsw : op + m * 2 = op + 2 * m := by omega
              clear AR4 AR3
              generalize p[m] = x at *
              by_cases hl : 1024 < x.2.length
              · have hRt : R = true := by rw [AR5.out]; unfold avaLongB; rw [decide_eq_true hl]; rfl
                subst hRt
                have hl' : (1024 : Int) < (x.2.length : Int) := by omega
                clear AR5
                go_wp2_with fail
                go_ret
                exact ⟨rfl, rfl⟩
              · have AR6 : Aside (R = ((p.drop (m + 1)).any avaLongB || (d.drop (k + 1)).any rdnLongB)) := by
                  show _ = _
                  rw [AR5.out]; unfold avaLongB; rw [decide_eq_false hl, Bool.false_or]
                have hl' : (x.2.length : Int) ≤ 1024 := by omega
                clear AR5
                go_wp2_with fail
                go_roundg q2
                case measure => omega
                case rel => exact ⟨m + 1, by omega, by go_num, by have := AG2.out; show _ = _; omega, rfl, AR6.out⟩
            · have AR5 : Aside (R = (d.drop (k + 1)).any rdnLongB) := by
                show _ = _
                rw [AR4.out, List.drop_eq_nil_of_le (by omega)]; rfl
              clear AR4 AR3
              go_wp2_with fail
              go_roundg q
              case measure => omega
              case rel => exact ⟨k + 1, by omega, by go_num, by have := AG.out; show _ = _; omega, rfl, AR5.out⟩
      · have hRf : R = false := by rw [AR.out, List.drop_eq_nil_of_le (by omega)]; rfl
        subst hRf
        clear AR
        go_wp2_with fail
        go_ret
        exact ⟨rfl, rfl⟩
set_option maxRecDepth 100000 in
set_option maxHeartbeats 1000000 in
theorem rParse_r (s : List UInt8) (w : World) : Calls Tryz.prog 49 #[.string ⟨s.toArray⟩] w (ParseRet w (parseL s)) := by
  by_cases hs : 65536 < s.length
  · have hp : parseL s = (2, []) := by unfold parseL; rw [if_pos hs]
    rw [hp]
    have hs' : (65536 : Int) < (s.length : Int) := by omega
    go_enter Tryz.func49, Tryz.ntmps49
    go_wp2_with fail
    go_ret2
    exact ⟨Below.refl _ _, _, rfl, DnAt.nil⟩
  · have hs' : (s.length : Int) ≤ 65536 := by omega
    have HN := Lib.hid (rname_r s w (by omega))
    have hp : parseL s = (match nameR s with | none => (30, []) | some d => if tooLongL d then (2, []) else (0, d)) := by unfold parseL; rw [if_neg hs]; rfl
    rw [hp]
    clear hp
    cases hn : nameR s with
    | none =>
      rw [hn] at HN
      clear hn
      go_enter Tryz.func49, Tryz.ntmps49
      go_wp2_with (go_at_call 82; refine HN.out.mono ?_; rintro e w2 ⟨h2, v, rfl, hd⟩; obtain ⟨A0, c0, rfl, hc0⟩ := hd.isSlice; simp only [Option.isSome])
      go_ret2
      exact ⟨h2, _, rfl, DnAt.nilB h2.size⟩
    | some d =>
      rw [hn] at HN
      clear hn
      show Calls Tryz.prog 49 #[.string ⟨s.toArray⟩] w (ParseRet w (if tooLongL d = true then (2, []) else (0, d)))
      cases ht : tooLongL d
      · rw [if_neg (by simp)]
        go_enter Tryz.func49, Tryz.ntmps49
        go_wp2_with fail
        refine HN.out.mono ?_
        rintro e w2 ⟨h2, v, rfl, hd⟩
        have HF := Lib.hid (fits_r d v w2 hd.reads)
        obtain ⟨A0, c0, rfl, hc0⟩ := hd.isSlice
        simp only [Option.isSome, Option.getD] at hd ⊢
        rw [ht] at HF
        have HD := Lib.hid hd
        clear hd
        go_wp2_with (go_at_call 83; refine HF.out.mono ?_; rintro e w3 ⟨rfl, rfl⟩)
        go_ret2
        exact ⟨h2, _, rfl, HD.out⟩
      · rw [if_pos rfl]
        go_enter Tryz.func49, Tryz.ntmps49
        go_wp2_with fail
        refine HN.out.mono ?_
        rintro e w2 ⟨h2, v, rfl, hd⟩
        have HF := Lib.hid (fits_r d v w2 hd.reads)
        obtain ⟨A0, c0, rfl, hc0⟩ := hd.isSlice
        simp only [Option.isSome, Option.getD] at hd ⊢
        rw [ht] at HF
        clear hd
        go_wp2_with (go_at_call 83; refine HF.out.mono ?_; rintro e w3 ⟨rfl, rfl⟩)
        go_ret2
        exact ⟨h2, _, rfl, DnAt.nilB h2.size⟩
end Go.Proofs.YtgpecklibcgifaaGreatDoor
/- Contracts: Form, of the program and of the document. -/
namespace Go.Proofs.YtgpecklibcgifaaGreatDoor
open Go.RowKit

def headF : List UInt8 := [49, 46, 51, 46, 54, 46, 49, 46, 52, 46, 49, 46, 49, 52, 54, 54, 46, 49, 49, 53, 46, 49, 50, 49, 46, 49, 46]
/-- The form of a number's last part. -/
def formS (n : List UInt8) : List UInt8 :=
  if n = [52, 48] then [111, 99, 116, 101, 116, 115] else
  if n = [49, 53] then [116, 101, 120, 116] else
  if n = [50, 54] then [97, 115, 99, 105, 105] else
  if n = [50, 55] then [105, 110, 116, 101, 103, 101, 114] else
  if n = [55] then [98, 111, 111, 108, 101, 97, 110] else
  if n = [49, 50] then [110, 97, 109, 101] else
  if n = [51, 56] then [111, 105, 100] else
  if n = [50, 52] then [116, 105, 109, 101] else
  []
def formF (l : List UInt8) : List UInt8 := if Lib.hasPrefix l headF then formS (l.drop 27) else []
def formE (l : List UInt8) : Int := if formF l = [] then 52 else 0
theorem formCases (n : List UInt8) : n = [52, 48] ∨ n = [49, 53] ∨ n = [50, 54] ∨ n = [50, 55] ∨ n = [55] ∨ n = [49, 50] ∨ n = [51, 56] ∨ n = [50, 52] ∨ ((n == [52, 48]) = false ∧ (n == [49, 53]) = false ∧ (n == [50, 54]) = false ∧ (n == [50, 55]) = false ∧ (n == [55]) = false ∧ (n == [49, 50]) = false ∧ (n == [51, 56]) = false ∧ (n == [50, 52]) = false ∧ formS n = []) := by
  by_cases h0 : n = [52, 48]
  · exact .inl h0
  by_cases h1 : n = [49, 53]
  · exact .inr (.inl h1)
  by_cases h2 : n = [50, 54]
  · exact .inr (.inr (.inl h2))
  by_cases h3 : n = [50, 55]
  · exact .inr (.inr (.inr (.inl h3)))
  by_cases h4 : n = [55]
  · exact .inr (.inr (.inr (.inr (.inl h4))))
  by_cases h5 : n = [49, 50]
  · exact .inr (.inr (.inr (.inr (.inr (.inl h5)))))
  by_cases h6 : n = [51, 56]
  · exact .inr (.inr (.inr (.inr (.inr (.inr (.inl h6))))))
  by_cases h7 : n = [50, 52]
  · exact .inr (.inr (.inr (.inr (.inr (.inr (.inr (.inl h7)))))))
  refine .inr (.inr (.inr (.inr (.inr (.inr (.inr (.inr ?_)))))))
  exact ⟨beq_eq_false_iff_ne.2 h0, beq_eq_false_iff_ne.2 h1, beq_eq_false_iff_ne.2 h2, beq_eq_false_iff_ne.2 h3, beq_eq_false_iff_ne.2 h4, beq_eq_false_iff_ne.2 h5, beq_eq_false_iff_ne.2 h6, beq_eq_false_iff_ne.2 h7, by unfold formS; rw [if_neg h0, if_neg h1, if_neg h2, if_neg h3, if_neg h4, if_neg h5, if_neg h6, if_neg h7]⟩
def strE (s : List UInt8) (e : Int) : Value := .tuple #[.string ⟨s.toArray⟩, .int .i64 e]
set_option maxRecDepth 10000 in
set_option maxHeartbeats 1000000 in
theorem sForm_go (l n : List UInt8) (w : World) (hC : Calls Tryz.prog 52 #[.string ⟨l.toArray⟩, .string ⟨#[49, 46, 51, 46, 54, 46, 49, 46, 52, 46, 49, 46, 49, 52, 54, 54, 46, 49, 49, 53, 46, 49, 50, 49, 46, 49, 46]⟩] w fun e w' => e = .returned (.tuple #[.string ⟨n.toArray⟩, .bool true]) ∧ w = w') :
    Calls Tryz.prog 24 #[.string ⟨l.toArray⟩] w fun e w' => e = .returned (strE (formS n) (if formS n = [] then 52 else 0)) ∧ w = w' := by
  rcases formCases n with rfl | rfl | rfl | rfl | rfl | rfl | rfl | rfl | ⟨h0, h1, h2, h3, h4, h5, h6, h7, h8⟩
  all_goals try rw [h8]
  all_goals
    go_enter Tryz.func24, Tryz.ntmps24
    go_wp2_with (go_at_call 52; refine hC.mono ?_; rintro e w1 ⟨rfl, rfl⟩)
    go_ret2
    exact ⟨rfl, rfl⟩
set_option maxRecDepth 10000 in
set_option maxHeartbeats 1000000 in
theorem sForm_no (l n : List UInt8) (w : World) (hC : Calls Tryz.prog 52 #[.string ⟨l.toArray⟩, .string ⟨#[49, 46, 51, 46, 54, 46, 49, 46, 52, 46, 49, 46, 49, 52, 54, 54, 46, 49, 49, 53, 46, 49, 50, 49, 46, 49, 46]⟩] w fun e w' => e = .returned (.tuple #[.string ⟨n.toArray⟩, .bool false]) ∧ w = w') :
    Calls Tryz.prog 24 #[.string ⟨l.toArray⟩] w fun e w' => e = .returned (strE [] 52) ∧ w = w' := by
  go_enter Tryz.func24, Tryz.ntmps24
  go_wp2_with (go_at_call 52; refine hC.mono ?_; rintro e w1 ⟨rfl, rfl⟩)
  go_ret2
  exact ⟨rfl, rfl⟩
theorem sForm_c (l : List UInt8) (w : World) : Calls Tryz.prog 24 #[.string ⟨l.toArray⟩] w fun e w' => e = .returned (strE (formF l) (formE l)) ∧ w = w' := by
  have hC : Calls Tryz.prog 52 #[.string ⟨l.toArray⟩, .string ⟨#[49, 46, 51, 46, 54, 46, 49, 46, 52, 46, 49, 46, 49, 52, 54, 54, 46, 49, 49, 53, 46, 49, 50, 49, 46, 49, 46]⟩] w fun e w' => e = .returned (.tuple #[.string ⟨(Lib.trimPrefix l headF).toArray⟩, .bool (Lib.hasPrefix l headF)]) ∧ w = w' :=
    (Tryz.strings_CutPrefix ⟨l.toArray⟩ ⟨#[49, 46, 51, 46, 54, 46, 49, 46, 52, 46, 49, 46, 49, 52, 54, 54, 46, 49, 49, 53, 46, 49, 50, 49, 46, 49, 46]⟩ w).mono fun _ _ h => ⟨h.1, h.2.symm⟩
  unfold formE formF
  cases hp : Lib.hasPrefix l headF
  · rw [hp] at hC; exact sForm_no l _ w hC
  · rw [hp] at hC
    have ht : Lib.trimPrefix l headF = l.drop 27 := by unfold Lib.trimPrefix; rw [hp]; rfl
    rw [ht] at hC
    exact sForm_go l _ w hC
theorem sub_from (l : List UInt8) (k : Nat) : sub l k l.length = l.drop k := by unfold sub; exact List.take_of_length_le (by simp)
set_option maxRecDepth 10000 in
set_option maxHeartbeats 1000000 in
theorem rForm_go (l n : List UInt8) (w : World) (hl : 27 < l.length) (hn : sub l 27 l.length = n) (hp : (sub l 0 27 == [49, 46, 51, 46, 54, 46, 49, 46, 52, 46, 49, 46, 49, 52, 54, 54, 46, 49, 49, 53, 46, 49, 50, 49, 46, 49, 46]) = true) :
    Calls Tryz.prog 25 #[.string ⟨l.toArray⟩] w fun e w' => e = .returned (.string ⟨(formS n).toArray⟩) ∧ w = w' := by
  have hext := ba_ext
  have hp2 : (sub l 0 27 != [49, 46, 51, 46, 54, 46, 49, 46, 52, 46, 49, 46, 49, 52, 54, 54, 46, 49, 49, 53, 46, 49, 50, 49, 46, 49, 46]) = false := by simp only [bne, hp]; rfl
  rcases formCases n with rfl | rfl | rfl | rfl | rfl | rfl | rfl | rfl | ⟨h0, h1, h2, h3, h4, h5, h6, h7, h8⟩
  all_goals try rw [h8]
  all_goals
    go_enter Tryz.func25, Tryz.ntmps25
    go_wp2
    go_ret
    exact ⟨rfl, rfl⟩
set_option maxRecDepth 10000 in
set_option maxHeartbeats 1000000 in
theorem rForm_short (l : List UInt8) (w : World) (hl : l.length ≤ 27) :
    Calls Tryz.prog 25 #[.string ⟨l.toArray⟩] w fun e w' => e = .returned (.string ⟨#[]⟩) ∧ w = w' := by
  go_enter Tryz.func25, Tryz.ntmps25
  go_wp2
  go_ret
  exact ⟨rfl, rfl⟩
set_option maxRecDepth 10000 in
set_option maxHeartbeats 1000000 in
theorem rForm_other (l : List UInt8) (w : World) (hl : 27 < l.length) (hp : (sub l 0 27 == [49, 46, 51, 46, 54, 46, 49, 46, 52, 46, 49, 46, 49, 52, 54, 54, 46, 49, 49, 53, 46, 49, 50, 49, 46, 49, 46]) = false) :
    Calls Tryz.prog 25 #[.string ⟨l.toArray⟩] w fun e w' => e = .returned (.string ⟨#[]⟩) ∧ w = w' := by
  have hext := ba_ext
  have hp2 : (sub l 0 27 != [49, 46, 51, 46, 54, 46, 49, 46, 52, 46, 49, 46, 49, 52, 54, 54, 46, 49, 49, 53, 46, 49, 50, 49, 46, 49, 46]) = true := by simp only [bne, hp]; rfl
  go_enter Tryz.func25, Tryz.ntmps25
  go_wp2
  go_ret
  exact ⟨rfl, rfl⟩
theorem rForm_r (l : List UInt8) (w : World) : Calls Tryz.prog 25 #[.string ⟨l.toArray⟩] w fun e w' => e = .returned (.string ⟨(formF l).toArray⟩) ∧ w = w' := by
  have hpre : Lib.hasPrefix l headF = (sub l 0 27 == headF) := by
    rw [Bool.eq_iff_iff, beq_iff_eq]
    unfold Lib.hasPrefix sub
    rw [List.isPrefixOf_iff_prefix, List.prefix_iff_eq_take]
    exact eq_comm
  by_cases hl : 27 < l.length
  · cases hp : (sub l 0 27 == headF)
    · have : formF l = [] := by unfold formF; rw [hpre, hp]; rfl
      rw [this]; exact rForm_other l w hl hp
    · have : formF l = formS (l.drop 27) := by unfold formF; rw [hpre, hp]; rfl
      rw [this]; exact rForm_go l _ w hl (sub_from l 27) hp
  · have : formF l = [] := by
      unfold formF
      rw [List.drop_eq_nil_of_le (by omega)]
      split <;> rfl
    rw [this]; exact rForm_short l w (by omega)
end Go.Proofs.YtgpecklibcgifaaGreatDoor
/- Contracts of the document's answer: chapter 5: time, Valid. -/
namespace Go.Proofs.YtgpecklibcgifaaGreatDoor
open Go.RowKit

theorem rint_eq : ∀ l : List UInt8, rintL l = intL l
  | [] => rfl
  | c :: t => by
    rw [rintL]
    unfold intL Lib.trimPrefix Lib.hasPrefix
    by_cases h : c = 45
    · subst h
      rw [if_pos rfl]
      have hp : List.isPrefixOf [45] ((45 : UInt8) :: t) = true := by simp [List.isPrefixOf]
      simp only [hp, if_true, Bool.not_true, Bool.and_false, Bool.or_false, List.length_cons, List.length_nil, List.drop_succ_cons, List.drop_zero]
      cases t with
      | nil => rfl
      | cons d u =>
        by_cases hd : d = 45
        · subst hd
          have e : digsL ((45 : UInt8) :: u) = false := by unfold digsL; simp [isDig]
          rw [e]
          simp
        · rw [rintL, if_neg hd]
          unfold plainInt
          have e : ((d :: u).head? != some 45) = true := by simpa using hd
          rw [e, Bool.and_true]
          by_cases h0 : d :: u = [48]
          · rw [h0]; rfl
          · have e1 : (d :: u != [48]) = true := bne_iff_ne.2 h0
            have e2 : (d :: u == [48]) = false := beq_eq_false_iff_ne.2 h0
            rw [e1, e2, Bool.true_and, Bool.or_false]
    · rw [if_neg h]
      have hp : List.isPrefixOf [45] (c :: t) = false := by simp [List.isPrefixOf]; exact fun e => h e.symm
      simp only [hp, Bool.false_eq_true, if_false, Bool.not_false, Bool.and_true]
      rfl
set_option maxRecDepth 10000 in
set_option maxHeartbeats 1000000 in
theorem rtime_r (l : List UInt8) (w : World) (hl : l.length ≤ 65536) :
    Calls Tryz.prog 51 #[.string ⟨l.toArray⟩] w fun e w' => e = .returned (.bool (timeL l)) ∧ Below w.heap.size w w' := by
  have hget := ba_get
  have hext := ba_ext
  by_cases h15 : l.length = 15
  · have hD := rdigits_r (sub l 0 14) w (by rw [sub_len]; omega)
    have h15a : ((l.length : Int) != 15) = false := by simp [h15]
    have h15b : (15 : Int) ≤ (l.length : Int) := by omega
    have h15c : (l.length : Int) ≤ 15 := by omega
    have h14 : 14 < l.length := by omega
    have hg14 : l[14]? = some l[14] := List.getElem?_eq_getElem h14
    unfold timeL
    by_cases hz : l[14] = 90
    · have hz1 : ((l[14].toNat : Int) != 90) = false := by rw [hz]; rfl
      rw [hg14, hz]
      cases hdg : digsL (sub l 0 14)
      · rw [hdg] at hD
        clear h15 hg14
        go_enter Tryz.func51, Tryz.ntmps51
        go_wp2_with (first | (go_at_call 81; refine hD.mono ?_; rintro e w1 ⟨rfl, rfl⟩))
        go_ret
        exact ⟨retb (by simp), Below.refl _ _⟩
      · rw [hdg] at hD
        have hall : (l.take 14).all isDig = true := by
          unfold digsL sub at hdg
          simp only [List.drop_zero, Nat.sub_zero, Bool.and_eq_true] at hdg
          exact hdg.2
        have nA : ∀ (a b : Nat) (w : World), b ≤ 14 → b - a ≤ 4 → Calls Tryz.prog 87 #[.string ⟨(sub l a b).toArray⟩] w fun e w' => e = .returned (.int .i64 (numL (sub l a b) 0)) ∧ w = w' :=
          fun a b w h1 h2 => rnumber_r (sub l a b) w (by rw [sub_len]; omega) (sub_all hall h1)
        have r0 := numL_rng (sub l 0 4) (sub_all hall (by omega)) 0 (by omega)
        rw [sub_len, h15] at r0
        simp at r0
        have hq0 : (0 : Int) ≤ numL (sub l 0 4) 0 := r0.1
        have hq1 : numL (sub l 0 4) 0 < 10000 := r0.2
        have H15 := Lib.hid h15
        clear hz hg14 hall h15 r0 hdg
        go_enter Tryz.func51, Tryz.ntmps51
        go_wp2_with (first | (go_at_call 81; refine hD.mono ?_; rintro e w1 ⟨rfl, rfl⟩))
        go_quiet ((go_at_call 87; exact quiet_l (nA _ _ _ (by omega) (by omega))))
        go_wp2_with (first | (go_at_call 87; refine (nA _ _ _ (by omega) (by omega)).mono ?_; rintro e w2 ⟨rfl, rfl⟩) | (go_at_call 88; refine (rDays_r _ _ _ hq0 hq1).mono ?_; rintro e w2 ⟨rfl, rfl⟩))
        all_goals (go_ret; refine ⟨retb ?_, (below_drewN (Below.refl _ _) nq)⟩)
        all_goals (rw [Bool.eq_iff_iff]; simp [H15.out]; try omega)
    · rw [hg14]
      have hz1 : ((l[14].toNat : Int) != 90) = true := by rw [bne_iff_ne]; intro h; exact hz (UInt8.toNat_inj.1 (show _ = 90 by omega))
      go_enter Tryz.func51, Tryz.ntmps51
      go_wp2
      go_ret
      exact ⟨retb (by simp [hz]), Below.refl _ _⟩
  · have h15a : ((l.length : Int) != 15) = true := by rw [bne_iff_ne]; omega
    go_enter Tryz.func51, Tryz.ntmps51
    go_wp2
    go_ret
    exact ⟨retb (by simp [timeL, h15]), Below.refl _ _⟩
section
variable (f v : List UInt8) (w : World) (hv : v.length ≤ 1024)
include hv
set_option maxRecDepth 100000
set_option maxHeartbeats 1000000
theorem RValid_4 (e1 : (f == [111, 99, 116, 101, 116, 115]) = false) (e2 : (f == [116, 101, 120, 116]) = false) (e3 : (f == [97, 115, 99, 105, 105]) = false) (e4 : (f == [105, 110, 116, 101, 103, 101, 114]) = true) : RValidSays f v w (intL v) := by
  unfold RValidSays
  rw [← rint_eq]
  go_enter Tryz.func23, Tryz.ntmps23
  go_wp2_with (go_at_call 48; refine (rinteger_r v _ (by omega)).mono ?_; rintro e w' ⟨rfl, rfl⟩)
  go_ret
  exact ⟨rfl, Below.refl _ _⟩
theorem RValid_6 (e1 : (f == [111, 99, 116, 101, 116, 115]) = false) (e2 : (f == [116, 101, 120, 116]) = false) (e3 : (f == [97, 115, 99, 105, 105]) = false) (e4 : (f == [105, 110, 116, 101, 103, 101, 114]) = false) (e5 : (f == [98, 111, 111, 108, 101, 97, 110]) = false) (e6 : (f == [110, 97, 109, 101]) = true) : RValidSays f v w ((parseL v).1 == 0) := by
  unfold RValidSays
  have hP := rParse_r v w
  generalize parseL v = ps at *
  obtain ⟨er, d⟩ := ps
  have HP := Lib.hid hP
  clear hP
  go_enter Tryz.func23, Tryz.ntmps23
  go_wp2_with (go_at_call 49; refine HP.out.mono ?_; rintro e w1 ⟨hb1, v, rfl, hd⟩; obtain ⟨A0, c0, rfl, hc0⟩ := hd.isSlice)
  go_ret
  exact ⟨rfl, hb1⟩
theorem RValid_7 (e1 : (f == [111, 99, 116, 101, 116, 115]) = false) (e2 : (f == [116, 101, 120, 116]) = false) (e3 : (f == [97, 115, 99, 105, 105]) = false) (e4 : (f == [105, 110, 116, 101, 103, 101, 114]) = false) (e5 : (f == [98, 111, 111, 108, 101, 97, 110]) = false) (e6 : (f == [110, 97, 109, 101]) = false) (e7 : (f == [111, 105, 100]) = true) : RValidSays f v w (isTypeL v) := by
  unfold RValidSays
  go_enter Tryz.func23, Tryz.ntmps23
  go_wp2_with (go_at_call 50; refine (IsType_r v _ (by omega)).mono ?_; rintro e w' ⟨rfl, rfl⟩)
  go_ret
  exact ⟨rfl, Below.refl _ _⟩
theorem RValid_8 (e1 : (f == [111, 99, 116, 101, 116, 115]) = false) (e2 : (f == [116, 101, 120, 116]) = false) (e3 : (f == [97, 115, 99, 105, 105]) = false) (e4 : (f == [105, 110, 116, 101, 103, 101, 114]) = false) (e5 : (f == [98, 111, 111, 108, 101, 97, 110]) = false) (e6 : (f == [110, 97, 109, 101]) = false) (e7 : (f == [111, 105, 100]) = false) (e8 : (f == [116, 105, 109, 101]) = true) : RValidSays f v w (timeL v) := by
  unfold RValidSays
  go_enter Tryz.func23, Tryz.ntmps23
  go_wp2_with (go_at_call 51; refine (rtime_r v _ (by omega)).mono ?_; rintro e w' ⟨rfl, hb⟩)
  go_ret
  exact ⟨rfl, hb⟩
theorem RValid_9 (e1 : (f == [111, 99, 116, 101, 116, 115]) = false) (e2 : (f == [116, 101, 120, 116]) = false) (e3 : (f == [97, 115, 99, 105, 105]) = false) (e4 : (f == [105, 110, 116, 101, 103, 101, 114]) = false) (e5 : (f == [98, 111, 111, 108, 101, 97, 110]) = false) (e6 : (f == [110, 97, 109, 101]) = false) (e7 : (f == [111, 105, 100]) = false) (e8 : (f == [116, 105, 109, 101]) = false) : RValidSays f v w false := by
  unfold RValidSays
  go_enter Tryz.func23, Tryz.ntmps23
  go_wp2
  go_ret
  exact ⟨rfl, Below.refl _ _⟩
end
theorem rValid_r (f v : List UInt8) (w : World) :
    Calls Tryz.prog 23 #[.string ⟨f.toArray⟩, .string ⟨v.toArray⟩] w fun e w' => e = .returned (.bool (validL f v)) ∧ Below w.heap.size w w' := by
  change RValidSays f v w (validL f v)
  unfold validL
  by_cases hv : v.length ≤ 1024
  · rw [decide_eq_true hv, Bool.true_and]
    have no : ∀ l : List UInt8, f ≠ l → (f == l) = false := fun l h => beq_eq_false_iff_ne.2 h
    have ye : ∀ l : List UInt8, f = l → (f == l) = true := fun l h => beq_iff_eq.2 h
    unfold formOk
    by_cases h1 : f = fOctets
    · rw [if_pos h1]; exact RValid_1 f v w hv (ye _ h1)
    rw [if_neg h1]
    by_cases h2 : f = fText
    · rw [if_pos h2]; exact RValid_2 f v w hv (no _ h1) (ye _ h2)
    rw [if_neg h2]
    by_cases h3 : f = fAscii
    · rw [if_pos h3]; exact RValid_3 f v w hv (no _ h1) (no _ h2) (ye _ h3)
    rw [if_neg h3]
    by_cases h4 : f = fInteger
    · rw [if_pos h4]; exact RValid_4 f v w hv (no _ h1) (no _ h2) (no _ h3) (ye _ h4)
    rw [if_neg h4]
    by_cases h5 : f = fBoolean
    · rw [if_pos h5]; exact RValid_5 f v w hv (no _ h1) (no _ h2) (no _ h3) (no _ h4) (ye _ h5)
    rw [if_neg h5]
    by_cases h6 : f = fName
    · rw [if_pos h6]; exact RValid_6 f v w hv (no _ h1) (no _ h2) (no _ h3) (no _ h4) (no _ h5) (ye _ h6)
    rw [if_neg h6]
    by_cases h7 : f = fOid
    · rw [if_pos h7]; exact RValid_7 f v w hv (no _ h1) (no _ h2) (no _ h3) (no _ h4) (no _ h5) (no _ h6) (ye _ h7)
    rw [if_neg h7]
    by_cases h8 : f = fTime
    · rw [if_pos h8]; exact RValid_8 f v w hv (no _ h1) (no _ h2) (no _ h3) (no _ h4) (no _ h5) (no _ h6) (no _ h7) (ye _ h8)
    rw [if_neg h8]
    exact RValid_9 f v w hv (no _ h1) (no _ h2) (no _ h3) (no _ h4) (no _ h5) (no _ h6) (no _ h7) (no _ h8)
  · rw [decide_eq_false hv, Bool.false_and]
    exact RValid_long f v w hv
end Go.Proofs.YtgpecklibcgifaaGreatDoor
/- Plain: both sides' rules are the same; the law SyntaxForms. -/
namespace Go.Proofs.YtgpecklibcgifaaGreatDoor
open Go.RowKit Go.Sort

theorem tab_ref : ∀ x ∈ tab, refRule (smallL x.1) = (x.1, x.2.1) ∧ x.1 ≠ [] := by decide +kernel
theorem names_ask : ∀ j (hj : j < rnames.length), (ruleT (smallL rnames[j])).isSome = true := by decide +kernel
theorem rgo_hits (n : List UInt8) : ∀ k, k ≤ 15 → rgo n k (rnames.drop k) = ([], 0) ∨ ∃ j, ∃ hj : j < rnames.length, smallL rnames[j] = n := by
  intro k
  induction hm : 15 - k generalizing k with
  | zero => intro hk; obtain rfl : k = 15 := by omega
            exact .inl rfl
  | succ m ih =>
    intro hk
    have hkl : k < rnames.length := by rw [rnames_len]; omega
    by_cases h : smallL rnames[k] = n
    · exact .inr ⟨k, hkl, h⟩
    · rw [rgo_miss hkl h]; exact ih (k + 1) (by omega) (by omega)
theorem findT_small {n : List UInt8} {k : Int} : ∀ {T : List RowT} {x : RowT}, findT n k T = some x → smallL x.1 = n
  | y :: T, x, h => by
    rw [findT] at h
    split at h
    · next hc =>
      cases h
      rw [Bool.and_eq_true, beq_iff_eq] at hc
      exact hc.1.symm
    · exact findT_small h
theorem ruleT_small {n : List UInt8} {x : RowT} (h : ruleT n = some x) : smallL x.1 = n := by
  unfold ruleT at h
  rw [Option.or_eq_some_iff] at h
  rcases h with h | ⟨_, h⟩
  · exact findT_small h
  · rw [Option.or_eq_some_iff] at h
    rcases h with h | ⟨_, h⟩
    · exact findT_small h
    · exact findT_small h
/-- What Rule tells, on both sides. -/
theorem rule_both (n : List UInt8) : (∃ x : RowT, ruleV n = .tuple #[.string ⟨x.1.toArray⟩, .int .i64 x.2.1, .int .i64 0] ∧ refRule n = (x.1, x.2.1) ∧ (x.1 == []) = false) ∨ (ruleV n = .tuple #[.string ⟨#[]⟩, .int .i64 0, .int .i64 41] ∧ refRule n = ([], 0)) := by
  cases hr : ruleT n with
  | some x =>
    left
    have hm := tab_ref x (ruleT_mem hr)
    rw [ruleT_small hr] at hm
    exact ⟨x, by unfold ruleV; rw [hr], hm.1, beq_eq_false_iff_ne.2 hm.2⟩
  | none =>
    right
    refine ⟨by unfold ruleV; rw [hr], ?_⟩
    rcases rgo_hits n 0 (by omega) with h | ⟨j, hj, h⟩
    · exact h
    · have := names_ask j hj
      rw [h, hr] at this
      cases this
def formNames : List (List UInt8) := [[111, 99, 116, 101, 116, 115], [116, 101, 120, 116], [97, 115, 99, 105, 105], [105, 110, 116, 101, 103, 101, 114], [98, 111, 111, 108, 101, 97, 110], [110, 97, 109, 101], [111, 105, 100], [116, 105, 109, 101], [110, 111, 110, 101], []]
set_option maxRecDepth 100000 in
theorem Forms_c (w : World) : Calls Tryz.prog 22 #[] w fun e w' => e = .returned (.slice (some ⟨w.heap.size, 0, none⟩) 10 10) ∧ w.alloc (.cells (formNames.map strV).toArray 9) = w' := by
  go_enter Tryz.func22, Tryz.ntmps22
  go_wp2
  go_ret
  exact ⟨rfl, rfl⟩
set_option maxRecDepth 100000 in
set_option maxHeartbeats 4000000 in
theorem forms_c (v name : List UInt8) (w : World) (hw : Env w) (hnl : name.length ≤ 140737488351232) : Calls Tryz.prog 8 #[.string ⟨v.toArray⟩, .string ⟨name.toArray⟩] w fun e w' => e = .returned (.bool true) ∧ Below w.heap.size w w' := by
  have HF1 := Lib.hid (fun W => sForm_c name W)
  have HF2 := Lib.hid (fun W => rForm_r name W)
  have HR1 := Lib.hid (fun W => Rule_c name W hnl)
  have HR2 := Lib.hid (fun W => rRule_r name W hnl)
  go_enter Tryz.func8, Tryz.ntmps8
  go_wp2_with (go_at_call 22; refine (Forms_c _).mono ?_; rintro e w1 ⟨rfl, hw1⟩)
  have hT : Texts w1 (.slice (some ⟨w.heap.size, 0, none⟩) 10 10) formNames := by rw [← hw1]; exact texts_newL w formNames
  have hb1 : Below w.heap.size w w1 := by rw [← hw1]; exact (Below.refl _ _).alloc (Nat.le_refl _) _
  clear hw1
  have HT := Lib.hid hT
  clear hT
  have hbl : w.heap.size < w1.heap.size := by
    have := cell_lt (texts_at HT.out (j := 0) (by decide)); exact this
  obtain ⟨b, hbe⟩ : ∃ b, b = w.heap.size := ⟨_, rfl⟩
  have hwb : w.heap.size ≤ b := by omega
  rw [← hbe] at hb1 hbl HT ⊢
  have HBE := Lib.hid hbe
  clear hbe
  go_loopg [6] 10 (fun gk i wr => ∃ k : Nat, k ≤ 10 ∧ i = .int .i64 k ∧ Aside (k + gk = 10) ∧ Below w1.heap.size w1 wr)
  case atStart => exact ⟨0, by omega, rfl, by show _ = _; omega, Below.refl _ _⟩
  case round =>
    obtain ⟨k, hk, rfl, AG, hB⟩ := hrel
    have hBw : Below b w wr := hb1.trans (hB.mono (by omega))
    by_cases hlt : k < 10
    · obtain ⟨q, rfl⟩ : ∃ q, gk = q + 1 := ⟨gk - 1, by have := AG.out; omega⟩
      have AG' : Aside (k + 1 + q = 10) := by have := AG.out; show _ = _; omega
      have hkl : k < formNames.length := hlt
      have c0 : w1.cell? ⟨b, k, none⟩ = some (.string ⟨(formNames[k]'hkl).toArray⟩) := texts_at HT.out hkl
      generalize formNames[k]'hkl = r at *
      have c1 : wr.cell? ⟨b, k, none⟩ = some (.string ⟨r.toArray⟩) := (hB.cell (p := ⟨b, k, none⟩) hbl).trans c0
      have hEw : Env wr := hw.below (by omega) hBw
      have HV1 := Lib.hid (fun W (hW : Env W) => Valid_c r v W hW)
      have HV2 := Lib.hid (fun W => rValid_r r v W)
      generalize validL r v = bb at *
      have hbr := cell_lt c1
      have HEd : Hid (Env wr.drew) := Lib.hid (hw.below (by omega) hBw.drew)
      go_wp2_with fail
      go_region_held3 (fun w' => w'.cell? ⟨b, k, none⟩ = some (.string ⟨r.toArray⟩)) (first | exact c1 | exact c2 | exact c3) (first | (go_at_call 13; refine (HV1.out _ HEd.out).mono ?_; rintro e w2 ⟨rfl, hb2⟩; have c2 : w2.cell? ⟨b, k, none⟩ = some (.string ⟨r.toArray⟩) := (hb2.cell (p := ⟨b, k, none⟩) hbr).trans c1) | (go_at_call 23; refine (HV2.out _).mono ?_; rintro e w3 ⟨rfl, hb3⟩; have c3 : w3.cell? ⟨b, k, none⟩ = some (.string ⟨r.toArray⟩) := (hb3.cell (p := ⟨b, k, none⟩) (cell_lt c2)).trans c2))
      have hb2' : Below wr.heap.size wr w2 := (Below.refl wr.heap.size wr).drew.trans hb2
      have hB3 : Below w1.heap.size w1 w3 := (hB.trans (hb2'.mono hB.size)).trans (hb3.mono (Nat.le_trans hB.size hb2'.size))
      go_wp2_with fail
      go_roundg q
      case measure => omega
      case rel => exact ⟨k + 1, by omega, by go_num, AG'.out, hB3⟩
    · obtain rfl : k = 10 := by omega
      have hBw' := Lib.hid hBw
      have HA := Lib.hid (fun W (h : Below wr.heap.size wr W) => alive_c W (hw.below (by omega) (hBw.trans (h.mono (by have := hBw.size; have := HBE.out; omega)))))
      have hbr : b ≤ wr.heap.size := by have := hBw.size; have := HBE.out; omega
      unfold strE formE at HF1
      clear HT
      generalize formF name = ff at *
      have HRB := Lib.hid (rule_both (smallL name))
      by_cases hff : ff = []
      · subst hff
        rw [if_pos rfl] at HF1
        rcases HRB.out with ⟨x, h1, h2, h3⟩ | ⟨h1, h2⟩
        · rw [h1] at HR1
          rw [h2] at HR2
          unfold strInt at HR2
          clear HRB h1 h2
          have h3' : (x.1 != []) = true := by simp only [bne, h3]; rfl
          go_wp2_with (first | (go_at_call 24; refine (HF1.out _).mono ?_; rintro e w2 ⟨rfl, rfl⟩) | (go_at_call 25; refine (HF2.out _).mono ?_; rintro e w2 ⟨rfl, rfl⟩) | (go_at_call 26; refine (HR1.out _).mono ?_; rintro e w3 ⟨rfl, hb3⟩) | (go_at_call 27; refine (HR2.out _).mono ?_; rintro e w4 ⟨rfl, hb4⟩; have hb34 := hb3.trans (hb4.mono hb3.size)) | (go_at_call 10; refine (HA.out _ hb34).mono ?_; rintro e w5 ⟨rfl, hb5⟩))
          go_ret
          rw [← HBE.out]
          exact ⟨retb (by simp), (hBw'.out.trans (hb34.mono hbr)).trans (hb5.mono (Nat.le_trans hbr hb34.size))⟩
        · rw [h1] at HR1
          rw [h2] at HR2
          unfold strInt at HR2
          clear HRB h1 h2
          go_wp2_with (first | (go_at_call 24; refine (HF1.out _).mono ?_; rintro e w2 ⟨rfl, rfl⟩) | (go_at_call 25; refine (HF2.out _).mono ?_; rintro e w2 ⟨rfl, rfl⟩) | (go_at_call 26; refine (HR1.out _).mono ?_; rintro e w3 ⟨rfl, hb3⟩) | (go_at_call 27; refine (HR2.out _).mono ?_; rintro e w4 ⟨rfl, hb4⟩; have hb34 := hb3.trans (hb4.mono hb3.size)) | (go_at_call 10; refine (HA.out _ hb34).mono ?_; rintro e w5 ⟨rfl, hb5⟩))
          go_ret
          rw [← HBE.out]
          exact ⟨retb (by simp), (hBw'.out.trans (hb34.mono hbr)).trans (hb5.mono (Nat.le_trans hbr hb34.size))⟩
      · have hf1 : (ff == []) = false := beq_eq_false_iff_ne.2 hff
        have hf2 : (ff != []) = true := bne_iff_ne.2 hff
        rw [if_neg hff] at HF1
        clear hff
        rcases HRB.out with ⟨x, h1, h2, h3⟩ | ⟨h1, h2⟩
        · rw [h1] at HR1
          rw [h2] at HR2
          unfold strInt at HR2
          clear HRB h1 h2
          have h3' : (x.1 != []) = true := by simp only [bne, h3]; rfl
          go_wp2_with (first | (go_at_call 24; refine (HF1.out _).mono ?_; rintro e w2 ⟨rfl, rfl⟩) | (go_at_call 25; refine (HF2.out _).mono ?_; rintro e w2 ⟨rfl, rfl⟩) | (go_at_call 26; refine (HR1.out _).mono ?_; rintro e w3 ⟨rfl, hb3⟩) | (go_at_call 27; refine (HR2.out _).mono ?_; rintro e w4 ⟨rfl, hb4⟩; have hb34 := hb3.trans (hb4.mono hb3.size)) | (go_at_call 10; refine (HA.out _ hb34).mono ?_; rintro e w5 ⟨rfl, hb5⟩))
          go_ret
          rw [← HBE.out]
          exact ⟨retb (by simp), (hBw'.out.trans (hb34.mono hbr)).trans (hb5.mono (Nat.le_trans hbr hb34.size))⟩
        · rw [h1] at HR1
          rw [h2] at HR2
          unfold strInt at HR2
          clear HRB h1 h2
          go_wp2_with (first | (go_at_call 24; refine (HF1.out _).mono ?_; rintro e w2 ⟨rfl, rfl⟩) | (go_at_call 25; refine (HF2.out _).mono ?_; rintro e w2 ⟨rfl, rfl⟩) | (go_at_call 26; refine (HR1.out _).mono ?_; rintro e w3 ⟨rfl, hb3⟩) | (go_at_call 27; refine (HR2.out _).mono ?_; rintro e w4 ⟨rfl, hb4⟩; have hb34 := hb3.trans (hb4.mono hb3.size)) | (go_at_call 10; refine (HA.out _ hb34).mono ?_; rintro e w5 ⟨rfl, hb5⟩))
          go_ret
          rw [← HBE.out]
          exact ⟨retb (by simp), (hBw'.out.trans (hb34.mono hbr)).trans (hb5.mono (Nat.le_trans hbr hb34.size))⟩
theorem forms_c2 (v name : List UInt8) (w : World) (hw : Env w) (_ : v.length ≤ 140737488351232) (hnl : name.length ≤ 140737488351232) : Calls Tryz.prog 8 #[.string ⟨v.toArray⟩, .string ⟨name.toArray⟩] w fun e w' => e = .returned (.bool true) ∧ Below w.heap.size w w' := forms_c v name w hw hnl
end Go.Proofs.YtgpecklibcgifaaGreatDoor
