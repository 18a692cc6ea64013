/- Contracts of the document's answer: letter, digit, Numbers, IsType. -/
import Derived.Test.YtgpecklibcgifaaGreatDoorWr2
import Derived.Test.YtgpecklibcgifaaGreatDoorW8
set_option linter.all false
namespace Go.Proofs.YtgpecklibcgifaaGreatDoor
open Go.RowKit

set_option maxHeartbeats 400000 in
theorem letter_r (c : Int) (w : World) :
    Calls Tryz.prog 84 #[.int .u8 c] w fun e w' => e = .returned (.bool (letB c)) ∧ w = w' := by
  go_enter Tryz.func84, Tryz.ntmps84
  go_wp2
  all_goals (go_ret; refine ⟨retb ?_, rfl⟩; unfold letB; rw [Bool.eq_iff_iff]; simp; omega)
set_option maxHeartbeats 400000 in
theorem digit_r (c : Int) (w : World) :
    Calls Tryz.prog 85 #[.int .u8 c] w fun e w' => e = .returned (.bool (digB c)) ∧ w = w' := by
  go_enter Tryz.func85, Tryz.ntmps85
  go_wp2
  all_goals (go_ret; refine ⟨retb ?_, rfl⟩; unfold digB; rw [Bool.eq_iff_iff]; simp; omega)
theorem digB_isDig (c : UInt8) : digB c.toNat = isDig c := by unfold digB isDig; rw [Bool.eq_iff_iff]; simp; omega
theorem spl_cons_ne {x : UInt8} (h : x ≠ 46) (t : List UInt8) : ∃ y r, spl 46 t = y :: r ∧ spl 46 (x :: t) = (x :: y) :: r := by
  have hne := spl_ne 46 t
  cases hs : spl 46 t with
  | nil => exact absurd hs hne
  | cons y r => exact ⟨y, r, rfl, by rw [spl, if_neg h, hs]⟩
theorem dig_ne46 {c : UInt8} (h : isDig c = true) : c ≠ 46 := by rintro rfl; exact absurd h (by decide)
theorem spl_dot : ∀ (cur t : List UInt8), (∀ c ∈ cur, isDig c = true) → spl 46 (cur ++ 46 :: t) = cur :: spl 46 t
  | [], t, _ => by rw [List.nil_append, spl, if_pos rfl]
  | x :: cur, t, h => by
    have ih := spl_dot cur t (fun c hc => h c (by simp [hc]))
    obtain ⟨y, r, e1, e2⟩ := spl_cons_ne (dig_ne46 (h x (by simp))) (cur ++ 46 :: t)
    rw [List.cons_append, e2]
    rw [ih] at e1
    cases e1; rfl
theorem spl_end : ∀ (cur : List UInt8), (∀ c ∈ cur, isDig c = true) → spl 46 cur = [cur]
  | [], _ => rfl
  | x :: cur, h => by
    have ih := spl_end cur (fun c hc => h c (by simp [hc]))
    obtain ⟨y, r, e1, e2⟩ := spl_cons_ne (dig_ne46 (h x (by simp))) cur
    rw [e2]
    rw [ih] at e1
    cases e1; rfl
theorem spl_pre : ∀ (cur t : List UInt8), (∀ c ∈ cur, c ≠ 46) → ∃ y r, spl 46 (cur ++ t) = (cur ++ y) :: r
  | [], t, _ => by
    have hne := spl_ne 46 t
    cases hs : spl 46 t with
    | nil => exact absurd hs hne
    | cons y r => exact ⟨y, r, by rw [List.nil_append, hs]; rfl⟩
  | x :: cur, t, h => by
    obtain ⟨y, r, e⟩ := spl_pre cur t (fun c hc => h c (by simp [hc]))
    obtain ⟨y', r', e1, e2⟩ := spl_cons_ne (h x (by simp)) (cur ++ t)
    rw [e] at e1
    cases e1
    exact ⟨y, r, by rw [List.cons_append, e2]; rfl⟩
theorem segOk_app_bad {cur y : List UInt8} {c : UInt8} (hc : isDig c = false) : segOk (cur ++ c :: y) = false := by
  unfold segOk
  rw [Bool.and_eq_false_iff]
  right
  rw [List.all_append, List.all_cons, hc]; simp
/-- Numbers under way: the segment began at f, all before it are right; so many points. -/
def NSt (l : List UInt8) (p f i : Nat) : Prop :=
  isOidL l = ((spl 46 (l.drop f)).all segOk && decide (1 < p + (spl 46 (l.drop f)).length)) ∧ f ≤ i ∧ i ≤ l.length ∧ ∃ cur, l.drop f = cur ++ l.drop i ∧ cur.length = i - f ∧ ∀ c ∈ cur, isDig c = true
theorem NSt.start (l : List UInt8) : NSt l 0 0 0 := by
  refine ⟨?_, Nat.le_refl _, Nat.zero_le _, [], by simp, rfl, by simp⟩
  unfold isOidL
  rw [segs_spl]
  simp
theorem NSt.dig {l : List UInt8} {p f i : Nat} (h : NSt l p f i) (hi : i < l.length) (hd : isDig l[i] = true) : NSt l p f (i + 1) := by
  obtain ⟨h1, h2, h3, cur, h4, h5, h6⟩ := h
  refine ⟨h1, by omega, by omega, cur ++ [l[i]], ?_, by simp; omega, ?_⟩
  · rw [h4, List.drop_eq_getElem_cons hi]; simp
  · intro c hc
    rw [List.mem_append, List.mem_singleton] at hc
    rcases hc with hc | rfl
    · exact h6 c hc
    · exact hd
theorem NSt.empty {l : List UInt8} {p f i : Nat} (h : NSt l p f i) (he : i = f) (hd : ∀ hi : i < l.length, isDig l[i] = false) : isOidL l = false := by
  obtain ⟨h1, h2, h3, cur, h4, h5, h6⟩ := h
  subst he
  rw [h1, Bool.and_eq_false_iff]
  left
  by_cases hi : i < l.length
  · rw [List.drop_eq_getElem_cons hi]
    have hdd := hd hi
    by_cases h46 : l[i] = 46
    · rw [h46, spl, if_pos rfl]; simp [segOk]
    · obtain ⟨y, r, e⟩ := spl_pre [l[i]] (l.drop (i + 1)) (by simpa using h46)
      rw [List.singleton_append] at e
      rw [e, List.all_cons]
      have := segOk_app_bad (cur := []) (y := y) hdd
      rw [List.nil_append] at this
      simp only [List.singleton_append]
      rw [this]; rfl
  · rw [List.drop_eq_nil_of_le (by omega)]; simp [spl, segOk]
theorem cur_head {l cur : List UInt8} {f i : Nat} (h4 : l.drop f = cur ++ l.drop i) (h5 : cur.length = i - f) (hlt : f < i) (hf : f < l.length) : ∃ t, cur = l[f] :: t := by
  cases cur with
  | nil => simp at h5; omega
  | cons x t =>
    rw [List.drop_eq_getElem_cons hf, List.cons_append] at h4
    exact ⟨t, by rw [(List.cons.inj h4).1]⟩
theorem NSt.zero {l : List UInt8} {p f i : Nat} (h : NSt l p f i) (hlt : f + 1 < i) (hf : f < l.length) (h48 : l[f] = 48) : isOidL l = false := by
  obtain ⟨h1, h2, h3, cur, h4, h5, h6⟩ := h
  obtain ⟨t, rfl⟩ := cur_head h4 h5 (by omega) hf
  rw [h1, Bool.and_eq_false_iff]
  left
  obtain ⟨y, r, e⟩ := spl_pre (l[f] :: t) (l.drop i) (fun c hc => dig_ne46 (h6 c hc))
  rw [h4, e, List.all_cons, h48]
  have : segOk ((48 :: t) ++ y) = false := by
    unfold segOk
    have hl : 1 < ((48 :: t) ++ y).length := by simp at h5 ⊢; omega
    rw [decide_eq_true hl]
    simp
  rw [this]; rfl
theorem NSt.bad {l : List UInt8} {p f i : Nat} (h : NSt l p f i) (hi : i < l.length) (hd : isDig l[i] = false) (h46 : l[i] ≠ 46) : isOidL l = false := by
  obtain ⟨h1, h2, h3, cur, h4, h5, h6⟩ := h
  rw [h1, Bool.and_eq_false_iff]
  left
  rw [List.drop_eq_getElem_cons hi] at h4
  obtain ⟨y, r, e⟩ := spl_pre (cur ++ [l[i]]) (l.drop (i + 1)) (fun c hc => by
    rw [List.mem_append, List.mem_singleton] at hc
    rcases hc with hc | rfl
    · exact dig_ne46 (h6 c hc)
    · exact h46)
  rw [show cur ++ [l[i]] ++ l.drop (i + 1) = l.drop f by rw [h4]; simp] at e
  rw [e, List.all_cons]
  have := segOk_app_bad (cur := cur) (y := y) hd
  rw [show cur ++ [l[i]] ++ y = cur ++ l[i] :: y by simp, this]; rfl
theorem seg_good {l cur : List UInt8} {f i : Nat} (h4 : l.drop f = cur ++ l.drop i) (h5 : cur.length = i - f) (hlt : f < i) (hf : f < l.length) (h6 : ∀ c ∈ cur, isDig c = true) (hz : ¬ (l[f] = 48 ∧ f + 1 < i)) : segOk cur = true := by
  obtain ⟨t, rfl⟩ := cur_head h4 h5 hlt hf
  unfold segOk
  simp only [List.isEmpty_cons, Bool.not_false, Bool.true_and, Bool.and_eq_true]
  refine ⟨?_, List.all_eq_true.2 h6⟩
  simp only [List.head?_cons]
  rw [Bool.not_eq_true', Bool.and_eq_false_iff]
  by_cases h : l[f] = 48
  · left; apply decide_eq_false; intro h1; apply hz; exact ⟨h, by rw [h5] at h1; omega⟩
  · right; rw [beq_eq_false_iff_ne]; simpa using h
theorem NSt.dot {l : List UInt8} {p f i : Nat} (h : NSt l p f i) (hi : i < l.length) (h46 : l[i] = 46) (hlt : f ≠ i) (hz : ∀ hf : f < l.length, ¬ (l[f] = 48 ∧ f + 1 < i)) : NSt l (p + 1) (i + 1) (i + 1) := by
  obtain ⟨h1, h2, h3, cur, h4, h5, h6⟩ := h
  have hf : f < l.length := by omega
  have hg := seg_good h4 h5 (by omega) hf h6 (hz hf)
  refine ⟨?_, Nat.le_refl _, by omega, [], by simp, by simp, by simp⟩
  rw [List.drop_eq_getElem_cons hi, h46] at h4
  rw [h1, h4, spl_dot cur _ h6, List.all_cons, hg, Bool.true_and, List.length_cons]
  congr 1
  exact decide_eq_decide.2 (by omega)
theorem NSt.fin {l : List UInt8} {p f i : Nat} (h : NSt l p f i) (hi : i = l.length) (hlt : f ≠ i) (hz : ∀ hf : f < l.length, ¬ (l[f] = 48 ∧ f + 1 < i)) : isOidL l = decide (0 < p) := by
  obtain ⟨h1, h2, h3, cur, h4, h5, h6⟩ := h
  have hf : f < l.length := by omega
  have hg := seg_good h4 h5 (by omega) hf h6 (hz hf)
  subst hi
  rw [List.drop_length, List.append_nil] at h4
  rw [h1, h4, spl_end cur h6]
  simp [hg]
set_option maxRecDepth 100000 in
set_option maxHeartbeats 2000000 in
theorem Numbers_r (l : List UInt8) (w : World) (hl : l.length ≤ 1000000) :
    Calls Tryz.prog 86 #[.string ⟨l.toArray⟩] w fun e w' => e = .returned (.bool (isOidL l)) ∧ w = w' := by
  have hget := ba_get
  obtain ⟨O, hO⟩ : ∃ O, isOidL l = O := ⟨_, rfl⟩
  rw [hO]
  have HO := Lib.hid hO
  clear hO
  go_enter Tryz.func86, Tryz.ntmps86
  go_wp2
  go_loop [3, 4, 5] (fun p f i => ∃ P F I : Nat, p = .int .i64 P ∧ f = .int .i64 F ∧ i = .int .i64 I ∧ P ≤ I ∧ I ≤ l.length + 1 ∧ F ≤ I ∧ (I ≤ l.length → NSt l P F I) ∧ (I = l.length + 1 → O = decide (0 < P))) (fun _ _ i => l.length + 2 - (intOf i).toNat)
  case atStart => exact ⟨0, 0, 0, rfl, rfl, rfl, by omega, by omega, by omega, fun _ => NSt.start l, fun h => by omega⟩
  case round =>
    obtain ⟨P, F, I, rfl, rfl, rfl, hP, hI, hF, hN, hE⟩ := hrel
    have HE := Lib.hid hE
    have HN := Lib.hid hN
    clear hE hN
    by_cases hle : I ≤ l.length
    · have hn := HN.out hle
      have Hn := Lib.hid hn
      clear hn
      by_cases hlt : I < l.length
      · by_cases hd : isDig l[I] = true
        · have hD := digit_r (l[I].toNat) w
          rw [digB_isDig, hd] at hD
          have hnx := Lib.hid (Hn.out.dig hlt hd)
          clear hd
          go_wp2_with (go_at_call 85; refine hD.mono ?_; rintro e w' ⟨rfl, rfl⟩)
          go_round
          case rel => exact ⟨P, F, I + 1, rfl, rfl, by go_num, by omega, by omega, by omega, fun _ => hnx.out, fun h => by omega⟩
          case measure => simp [intOf]; omega
        · have hd' : isDig l[I] = false := by simpa using hd
          have hD := digit_r (l[I].toNat) w
          rw [digB_isDig, hd'] at hD
          clear hd
          by_cases hef : I = F
          · subst hef
            have hfin : O = false := by rw [← HO.out]; exact Hn.out.empty rfl (fun _ => hd')
            subst hfin
            clear hd'
            go_wp2_with (go_at_call 85; refine hD.mono ?_; rintro e w' ⟨rfl, rfl⟩)
            go_ret
            exact ⟨rfl, rfl⟩
          · have hef' : ((I : Int) == (F : Int)) = false := beq_eq_false_iff_ne.2 (by omega)
            have hfl : F < l.length := by omega
            by_cases h48 : l[F] = 48
            · have q48 : ((l[F].toNat : Int) == 48) = true := by rw [h48]; rfl
              by_cases hg : F + 1 < I
              · have hfin : O = false := by rw [← HO.out]; exact Hn.out.zero hg hfl h48
                subst hfin
                have hg' : (F : Int) + 1 < (I : Int) := by omega
                clear hd' h48 hg
                go_wp2_with (go_at_call 85; refine hD.mono ?_; rintro e w' ⟨rfl, rfl⟩)
                go_ret
                exact ⟨rfl, rfl⟩
              · have hg' : ¬ (F : Int) + 1 < (I : Int) := by omega
                by_cases h46 : l[I] = 46
                · have q46 : ((l[I].toNat : Int) != 46) = false := by rw [h46]; rfl
                  have hnx := Lib.hid (Hn.out.dot hlt h46 (by omega) (fun _ h => hg h.2))
                  clear hd' h48 hg h46
                  go_wp2_with (go_at_call 85; refine hD.mono ?_; rintro e w' ⟨rfl, rfl⟩)
                  go_round
                  case rel => exact ⟨P + 1, I + 1, I + 1, by go_num, by go_num, by go_num, by omega, by omega, by omega, fun _ => hnx.out, fun h => by omega⟩
                  case measure => simp [intOf]; omega
                · have q46 : ((l[I].toNat : Int) != 46) = true := by rw [bne_iff_ne]; intro e; exact h46 (UInt8.toNat_inj.1 (by have : (46 : UInt8).toNat = 46 := rfl; omega))
                  have hfin : O = false := by rw [← HO.out]; exact Hn.out.bad hlt hd' h46
                  subst hfin
                  clear hd' h48 hg h46
                  go_wp2_with (go_at_call 85; refine hD.mono ?_; rintro e w' ⟨rfl, rfl⟩)
                  go_ret
                  exact ⟨rfl, rfl⟩
            · have q48 : ((l[F].toNat : Int) == 48) = false := by rw [beq_eq_false_iff_ne]; intro e; exact h48 (UInt8.toNat_inj.1 (by have : (48 : UInt8).toNat = 48 := rfl; omega))
              by_cases h46 : l[I] = 46
              · have q46 : ((l[I].toNat : Int) != 46) = false := by rw [h46]; rfl
                have hnx := Lib.hid (Hn.out.dot hlt h46 (by omega) (fun _ h => h48 h.1))
                clear hd' h48 h46
                go_wp2_with (go_at_call 85; refine hD.mono ?_; rintro e w' ⟨rfl, rfl⟩)
                go_round
                case rel => exact ⟨P + 1, I + 1, I + 1, by go_num, by go_num, by go_num, by omega, by omega, by omega, fun _ => hnx.out, fun h => by omega⟩
                case measure => simp [intOf]; omega
              · have q46 : ((l[I].toNat : Int) != 46) = true := by rw [bne_iff_ne]; intro e; exact h46 (UInt8.toNat_inj.1 (by have : (46 : UInt8).toNat = 46 := rfl; omega))
                have hfin : O = false := by rw [← HO.out]; exact Hn.out.bad hlt hd' h46
                subst hfin
                clear hd' h48 h46
                go_wp2_with (go_at_call 85; refine hD.mono ?_; rintro e w' ⟨rfl, rfl⟩)
                go_ret
                exact ⟨rfl, rfl⟩
      · obtain rfl : I = l.length := by omega
        by_cases hef : l.length = F
        · subst hef
          have hfin : O = false := by rw [← HO.out]; exact Hn.out.empty rfl (fun h => by omega)
          subst hfin
          go_wp2_with fail
          go_ret
          exact ⟨rfl, rfl⟩
        · have hef' : ((l.length : Int) == (F : Int)) = false := beq_eq_false_iff_ne.2 (by omega)
          have hfl : F < l.length := by omega
          by_cases h48 : l[F] = 48
          · have q48 : ((l[F].toNat : Int) == 48) = true := by rw [h48]; rfl
            by_cases hg : F + 1 < l.length
            · have hfin : O = false := by rw [← HO.out]; exact Hn.out.zero hg hfl h48
              subst hfin
              have hg' : (F : Int) + 1 < (l.length : Int) := by omega
              clear h48 hg
              go_wp2_with fail
              go_ret
              exact ⟨rfl, rfl⟩
            · have hg' : ¬ (F : Int) + 1 < (l.length : Int) := by omega
              have hfin := Lib.hid (Hn.out.fin rfl (by omega) (fun _ h => hg h.2))
              clear h48 hg
              go_wp2_with fail
              go_round
              case rel => exact ⟨P, l.length + 1, l.length + 1, rfl, by go_num, by go_num, by omega, by omega, by omega, fun h => by omega, fun _ => by rw [← HO.out]; exact hfin.out⟩
              case measure => simp [intOf]
          · have q48 : ((l[F].toNat : Int) == 48) = false := by rw [beq_eq_false_iff_ne]; intro e; exact h48 (UInt8.toNat_inj.1 (by have : (48 : UInt8).toNat = 48 := rfl; omega))
            have hfin := Lib.hid (Hn.out.fin rfl (by omega) (fun _ h => h48 h.1))
            clear h48
            go_wp2_with fail
            go_round
            case rel => exact ⟨P, l.length + 1, l.length + 1, rfl, by go_num, by go_num, by omega, by omega, by omega, fun h => by omega, fun _ => by rw [← HO.out]; exact hfin.out⟩
            case measure => simp [intOf]
    · obtain rfl : I = l.length + 1 := by omega
      have hfin := HE.out rfl
      have Hf := Lib.hid hfin
      have hle' : ¬ ((l.length : Int) + 1 ≤ (l.length : Int)) := by omega
      clear hfin
      by_cases hp : 0 < P
      · have hp' : (0 : Int) < (P : Int) := by omega
        go_wp2_with fail
        go_ret
        exact ⟨retb (by rw [Hf.out, decide_eq_true hp]), rfl⟩
      · have hp' : ¬ (0 : Int) < (P : Int) := by omega
        go_wp2_with fail
        go_ret
        exact ⟨retb (by rw [Hf.out, decide_eq_false hp]), rfl⟩
theorem typeCh_eq (c : UInt8) : typeCh c = (letB c.toNat || digB c.toNat || ((c.toNat : Int) == 45)) := by
  unfold typeCh inTypeB
  rw [Bool.eq_iff_iff]
  simp only [Bool.and_eq_true, Bool.or_eq_true, beq_iff_eq, Bool.not_eq_true', beq_eq_false_iff_ne]
  unfold letB digB
  simp only [Bool.and_eq_true, Bool.or_eq_true, decide_eq_true_eq]
  have h46 : c = 46 ↔ c.toNat = 46 := by rw [← UInt8.toNat_inj]; rfl
  rw [ne_eq, h46]
  omega
set_option maxRecDepth 100000 in
set_option maxHeartbeats 2000000 in
theorem IsType_r (l : List UInt8) (w : World) (hl : l.length ≤ 1000000) :
    Calls Tryz.prog 50 #[.string ⟨l.toArray⟩] w fun e w' => e = .returned (.bool (isTypeL l)) ∧ w = w' := by
  have hget := ba_get
  by_cases h0 : l = []
  · subst h0
    go_enter Tryz.func50, Tryz.ntmps50
    go_wp2_with fail
    go_ret
    exact ⟨rfl, rfl⟩
  · have hp : 0 < l.length := List.length_pos_iff.2 h0
    have hp' : ¬ ((l.length : Int) < 1) := by omega
    have hi0 : (0 : Int) < (l.length : Int) := by omega
    by_cases h64 : l.length ≤ 64
    · have h64' : ¬ ((64 : Int) < (l.length : Int)) := by omega
      have hL := letter_r (l[0].toNat) w
      have hty : isTypeL l = if letB l[0].toNat then l.all typeCh else isOidL l := by
        cases l with
        | nil => exact absurd rfl h0
        | cons c m =>
          show (decide ((c :: m).length ≤ 64) && (if letB c.toNat then (c :: m).all typeCh else isOidL (c :: m))) = _
          rw [decide_eq_true h64, Bool.true_and]; rfl
      cases hlet : letB l[0].toNat
      · rw [hlet] at hL hty
        have hty' : isTypeL l = isOidL l := by simpa using hty
        rw [hty']
        have hNm := Numbers_r l w hl
        generalize isOidL l = O at *
        clear hty hty' hlet
        go_enter Tryz.func50, Tryz.ntmps50
        go_wp2_with (first | (go_at_call 84; refine hL.mono ?_; rintro e w' ⟨rfl, rfl⟩) | (go_at_call 86; refine hNm.mono ?_; rintro e w' ⟨rfl, rfl⟩))
        go_ret
        exact ⟨rfl, rfl⟩
      · rw [hlet] at hL hty
        have hty' : isTypeL l = l.all typeCh := by simpa using hty
        rw [hty']
        clear hty hty' hlet
        obtain ⟨O, hO⟩ : ∃ O, l.all typeCh = O := ⟨_, rfl⟩
        rw [hO]
        have HO := Lib.hid hO
        clear hO
        go_enter Tryz.func50, Tryz.ntmps50
        go_wp2_with (go_at_call 84; refine hL.mono ?_; rintro e w' ⟨rfl, rfl⟩)
        go_loop [3] (fun i => ∃ k : Nat, k ≤ l.length ∧ i = .int .i64 k ∧ Aside (O = (l.drop k).all typeCh)) (fun i => l.length - (intOf i).toNat)
        case atStart => exact ⟨0, Nat.zero_le _, rfl, by show _ = _; rw [← HO.out]; rfl⟩
        case round =>
          clear hL
          obtain ⟨k, hk, rfl, AS⟩ := hrel
          by_cases hlt : k < l.length
          · have AS' : Aside (O = (typeCh l[k] && (l.drop (k + 1)).all typeCh)) := by show _ = _; rw [AS.out, List.drop_eq_getElem_cons hlt, List.all_cons]
            have hLk := letter_r (l[k].toNat) w
            have hDk := digit_r (l[k].toNat) w
            rw [typeCh_eq] at AS'
            clear AS
            cases c1 : letB l[k].toNat
            · cases c2 : digB l[k].toNat
              · cases c3 : ((l[k].toNat : Int) == 45)
                · rw [c1] at hLk
                  rw [c2] at hDk
                  have hfin : O = false := by rw [AS'.out, c1, c2, c3]; rfl
                  subst hfin
                  have c3' : ((l[k].toNat : Int) != 45) = true := by rw [bne, c3]; rfl
                  clear c1 c2 c3 AS'
                  go_wp2_with (first | (go_at_call 84; refine hLk.mono ?_; rintro e w' ⟨rfl, rfl⟩) | (go_at_call 85; refine hDk.mono ?_; rintro e w' ⟨rfl, rfl⟩))
                  go_ret
                  exact ⟨rfl, rfl⟩
                · rw [c1] at hLk
                  rw [c2] at hDk
                  have hfin := Lib.hid (show O = (l.drop (k + 1)).all typeCh by rw [AS'.out, c1, c2, c3]; rfl)
                  have c3' : ((l[k].toNat : Int) != 45) = false := by rw [bne, c3]; rfl
                  clear c1 c2 c3 AS'
                  go_wp2_with (first | (go_at_call 84; refine hLk.mono ?_; rintro e w' ⟨rfl, rfl⟩) | (go_at_call 85; refine hDk.mono ?_; rintro e w' ⟨rfl, rfl⟩))
                  go_round
                  case rel => exact ⟨k + 1, by omega, by go_num, hfin.out⟩
                  case measure => simp [intOf]; omega
              · rw [c1] at hLk
                rw [c2] at hDk
                have hfin := Lib.hid (show O = (l.drop (k + 1)).all typeCh by rw [AS'.out, c1, c2]; rfl)
                clear c1 c2 AS'
                go_wp2_with (first | (go_at_call 84; refine hLk.mono ?_; rintro e w' ⟨rfl, rfl⟩) | (go_at_call 85; refine hDk.mono ?_; rintro e w' ⟨rfl, rfl⟩))
                go_round
                case rel => exact ⟨k + 1, by omega, by go_num, hfin.out⟩
                case measure => simp [intOf]; omega
            · rw [c1] at hLk
              have hfin := Lib.hid (show O = (l.drop (k + 1)).all typeCh by rw [AS'.out, c1]; rfl)
              clear c1 AS' hDk
              go_wp2_with (go_at_call 84; refine hLk.mono ?_; rintro e w' ⟨rfl, rfl⟩)
              go_round
              case rel => exact ⟨k + 1, by omega, by go_num, hfin.out⟩
              case measure => simp [intOf]; omega
          · obtain rfl : k = l.length := by omega
            have hfin : O = true := by rw [AS.out, List.drop_length]; rfl
            subst hfin
            clear AS
            go_wp2_with fail
            go_ret
            exact ⟨rfl, rfl⟩
    · have h64' : (64 : Int) < (l.length : Int) := by omega
      have hty : isTypeL l = false := by
        cases l with
        | nil => exact absurd rfl h0
        | cons c m =>
          show (decide ((c :: m).length ≤ 64) && (if letB c.toNat then (c :: m).all typeCh else isOidL (c :: m))) = _
          rw [decide_eq_false h64, Bool.false_and]
      rw [hty]
      clear hty
      go_enter Tryz.func50, Tryz.ntmps50
      go_wp2_with fail
      go_ret
      exact ⟨rfl, rfl⟩
end Go.Proofs.YtgpecklibcgifaaGreatDoor
/- Contracts of the document's answer: the desk: is, blanks; special. -/
namespace Go.Proofs.YtgpecklibcgifaaGreatDoor
open Go.RowKit

/-- The desk in block b stands at byte i of s. -/
def Dk (w : World) (b : Nat) (s : List UInt8) (i : Nat) : Prop := w.heap[b]? = some (.cells #[.string ⟨s.toArray⟩, .int .i64 i] 124 (0, 0))
theorem Dk.lt {w : World} {b i : Nat} {s : List UInt8} (h : Dk w b s i) : b < w.heap.size := (Array.getElem?_eq_some_iff.1 h).1
theorem Dk.c0 {w : World} {b i : Nat} {s : List UInt8} (h : Dk w b s i) : w.cell? ⟨b, 0, none⟩ = some (.string ⟨s.toArray⟩) := by unfold Dk at h; simp [World.cell?, h]
theorem Dk.c1 {w : World} {b i : Nat} {s : List UInt8} (h : Dk w b s i) : w.cell? ⟨b, 1, none⟩ = some (.int .i64 i) := by unfold Dk at h; simp [World.cell?, h]
theorem Dk.f1 {w : World} {b i : Nat} {s : List UInt8} (h : Dk w b s i) : w.frozen? ⟨b, 1, none⟩ = false := by unfold Dk at h; simp [World.frozen?, h]
theorem Dk.set {w : World} {b i : Nat} {s : List UInt8} (h : Dk w b s i) (j : Nat) : Dk (w.setCell ⟨b, 1, none⟩ (.int .i64 j)) b s j := by
  unfold Dk at h ⊢
  simp [World.setCell, Array.getElem?_modify, h]
theorem Dk.keep {w w' : World} {b i : Nat} {s : List UInt8} (h : Dk w b s i) {r : Option Nat} (hg : w.grownBy w' r) (hne : some b ≠ r) : Dk w' b s i := (hg.block b h.lt hne).trans h
theorem Dk.drewN {w : World} {b i : Nat} {s : List UInt8} (h : Dk w b s i) (n : Nat) : Dk (w.drewN n) b s i := h
def DkAt (w : World) (b : Nat) (s r : List UInt8) : Prop := ∃ i, i ≤ s.length ∧ s.drop i = r ∧ Dk w b s i
set_option maxRecDepth 10000 in
set_option maxHeartbeats 1000000 in
theorem dis_i (b : Nat) (s : List UInt8) (i : Nat) (c : Int) (w : World) (h : Dk w b s i) (hi : i ≤ s.length) :
    Calls Tryz.prog 128 #[.pointer (some ⟨b, 0, none⟩), .int .u8 c] w fun e w' => e = .returned (.bool (isC s i c)) ∧ ∃ n, w' = w.drewN n := by
  have hget := ba_get
  have h0 := h.c0
  have h1 := h.c1
  unfold isC
  by_cases hlt : i < s.length
  · rw [List.getElem?_eq_getElem hlt]
    dsimp only
    clear h
    have hi0 : (0 : Int) ≤ (i : Int) := by omega
    have hi1 : (i : Int) < (s.length : Int) := by omega
    go_enter Tryz.func128, Tryz.ntmps128
    go_wp2
    go_quiet (fail)
    go_wp2
    go_ret
    exact ⟨rfl, nq, rfl⟩
  · obtain rfl : i = s.length := by omega
    rw [List.getElem?_eq_none (Nat.le_refl _)]
    dsimp only
    clear h
    have hn : decide ((s.length : Int) < (s.length : Int)) = false := by simp
    have hn2 : decide (s.length < s.length) = false := by simp
    go_enter Tryz.func128, Tryz.ntmps128
    go_wp2
    go_quiet (fail)
    go_wp2
    go_ret
    exact ⟨rfl, nq, rfl⟩
theorem dis_at (b : Nat) (s r : List UInt8) (c : Int) (w : World) (h : DkAt w b s r) :
    Calls Tryz.prog 128 #[.pointer (some ⟨b, 0, none⟩), .int .u8 c] w fun e w' => e = .returned (.bool (hd r c)) ∧ ∃ n, w' = w.drewN n := by
  obtain ⟨i, h1, rfl, h3⟩ := h
  refine (dis_i b s i c w h3 h1).mono ?_
  rintro e w' ⟨rfl, h⟩
  exact ⟨retb ((isC_drop c).trans rfl), h⟩
set_option maxRecDepth 10000 in
set_option maxHeartbeats 1000000 in
theorem dblanks_r (b : Nat) (s r : List UInt8) (w : World) (h : DkAt w b s r) (hs : s.length ≤ 65536) :
    Calls Tryz.prog 156 #[.pointer (some ⟨b, 0, none⟩)] w fun e w' => e = .returned (.tuple #[]) ∧ DkAt w' b s (blk r) ∧ w.grownBy w' (some b) := by
  have hget := ba_get
  have H := Lib.hid h
  clear h
  go_enter Tryz.func156, Tryz.ntmps156
  go_wp2_with fail
  go_loopg [] r.length (fun gk wr => ∃ r', r'.length ≤ gk ∧ DkAt wr b s r' ∧ Aside (blk r = blk r') ∧ w.grownBy wr (some b))
  case atStart => exact ⟨r, Nat.le_refl _, H.out, rfl, World.grownBy.refl _ _⟩
  case round =>
    obtain ⟨r', hlen, hR, AD, hg⟩ := hrel
    obtain ⟨i, hi, hd', hRd⟩ := hR
    have h0 := hRd.c0
    have h1 := hRd.c1
    have hf1 := hRd.f1
    have HR := Lib.hid hRd
    have HD := Lib.hid hd'
    clear hRd hd'
    by_cases hlt : i < s.length
    · have hi0 : (0 : Int) ≤ (i : Int) := by omega
      have hi1 : (i : Int) < (s.length : Int) := by omega
      have hcons : r' = s[i] :: s.drop (i + 1) := by rw [← HD.out, List.drop_eq_getElem_cons hlt]
      have HC := Lib.hid hcons
      clear hcons
      by_cases h32 : s[i] = 32
      · have q32 : ((s[i].toNat : Int) == 32) = true := by rw [h32]; rfl
        have AD' : Aside (blk r = blk (s.drop (i + 1))) := by show _ = _; rw [AD.out, HC.out, h32]; rfl
        have hlen' : (s.drop (i + 1)).length + 1 ≤ gk := by have := congrArg List.length HC.out; simp at this ⊢; omega
        clear h32 AD
        go_wp2_with fail
        go_quiet (fail)
        go_wp2_with fail
        go_roundg (s.drop (i + 1)).length
        case measure => omega
        case rel => exact ⟨s.drop (i + 1), Nat.le_refl _, ⟨i + 1, by omega, rfl, (HR.out.drewN _).set (i + 1)⟩, AD'.out, World.grownBy.trans hg (World.grownBy.trans (grown_drewN _ _ _) (grown_set _))⟩
      · have q32 : ((s[i].toNat : Int) == 32) = false := by rw [beq_eq_false_iff_ne]; intro e; exact h32 (UInt8.toNat_inj.1 (by have : (32 : UInt8).toNat = 32 := rfl; omega))
        have hfin : blk r' = r' := blk_id r' (fun x t e => by rw [HC.out] at e; cases e; exact h32)
        have Hf := Lib.hid hfin
        clear h32 hfin
        go_wp2_with fail
        go_quiet (fail)
        go_wp2_with fail
        go_end0
        exact ⟨rfl, by rw [AD.out, Hf.out]; exact ⟨i, hi, HD.out, HR.out⟩, World.grownBy.trans hg (grown_drewN _ _ _)⟩
    · obtain rfl : i = s.length := by omega
      have hfin : r' = [] := by rw [← HD.out, List.drop_length]
      have hn : decide ((s.length : Int) < (s.length : Int)) = false := by simp
      have hn2 : decide (s.length < s.length) = false := by simp
      have Hf := Lib.hid hfin
      clear hfin
      go_wp2_with fail
      go_quiet (fail)
      go_wp2_with fail
      go_end0
      exact ⟨rfl, by rw [AD.out, Hf.out]; exact ⟨s.length, Nat.le_refl _, by rw [List.drop_length]; rfl, HR.out⟩, World.grownBy.trans hg (grown_drewN _ _ _)⟩
def specB (c : UInt8) : Bool := decide (0 ≤ Lib.indexByte specCs c)
set_option maxRecDepth 10000 in
set_option maxHeartbeats 1000000 in
theorem special_r (c : UInt8) (w : World) :
    Calls Tryz.prog 159 #[.int .u8 c.toNat] w fun e w' => e = .returned (.bool (specB c)) ∧ w = w' := by
  have hget := ba_get
  obtain ⟨O, hO⟩ : ∃ O, specB c = O := ⟨_, rfl⟩
  have hO2 : O = specCs.any (· == c) := by
    rw [← hO]; unfold specB
    rw [Bool.eq_iff_iff]; simp [idx_mem]
  rw [hO]
  clear hO
  have HO := Lib.hid hO2
  clear hO2
  have hlen : specCs.length = 7 := rfl
  have hidx : ∀ (k : Nat) (hk : k < 7) (W : World), (Instr.index 9 (.string ⟨#[34, 43, 44, 59, 60, 62, 92]⟩) (.int .i64 (k : Int))).run Tryz.prog W = .ok (.int .u8 ((specCs[k]'(by rw [hlen]; exact hk)).toNat : Int)) W := by
    intro k hk W
    match k, hk with
    | 0, _ => rfl
    | 1, _ => rfl
    | 2, _ => rfl
    | 3, _ => rfl
    | 4, _ => rfl
    | 5, _ => rfl
    | 6, _ => rfl
  have HI := Lib.hid hidx
  clear hidx
  go_enter Tryz.func159, Tryz.ntmps159
  go_wp2
  go_loop [3] (fun i => ∃ k : Nat, k ≤ 7 ∧ i = .int .i64 k ∧ Aside (O = (specCs.drop k).any (· == c))) (fun i => 7 - (intOf i).toNat)
  case atStart => exact ⟨0, Nat.zero_le _, rfl, HO.out⟩
  case round =>
    obtain ⟨k, hk, rfl, AS⟩ := hrel
    by_cases hlt : k < 7
    · have hkl : k < specCs.length := hlt
      have AS' : Aside (O = ((specCs[k] == c) || (specCs.drop (k + 1)).any (· == c))) := by show _ = _; rw [AS.out, List.drop_eq_getElem_cons hkl, List.any_cons]
      have hI := HI.out k hlt
      clear AS
      generalize specCs[k] = x at *
      by_cases hx : x = c
      · subst hx
        have hfin : O = true := by rw [AS'.out, beq_self_eq_true]; rfl
        subst hfin
        clear AS'
        go_wp2_with fail
        go_ret
        exact ⟨rfl, rfl⟩
      · have hfin := Lib.hid (show O = (specCs.drop (k + 1)).any (· == c) by rw [AS'.out, beq_eq_false_iff_ne.2 hx, Bool.false_or])
        have hq : ((x.toNat : Int) == (c.toNat : Int)) = false := by rw [beq_eq_false_iff_ne]; intro e; exact hx (UInt8.toNat_inj.1 (by omega))
        have hq2 : (x.toNat == c.toNat) = false := by rw [beq_eq_false_iff_ne]; intro e; exact hx (UInt8.toNat_inj.1 e)
        clear AS' hx
        go_wp2_with fail
        go_round
        case rel => exact ⟨k + 1, by omega, by go_num, hfin.out⟩
        case measure => simp [intOf]; omega
    · obtain rfl : k = 7 := by omega
      have hfin : O = false := by rw [AS.out]; rfl
      subst hfin
      clear AS
      go_wp2_with fail
      go_ret
      exact ⟨rfl, rfl⟩
end Go.Proofs.YtgpecklibcgifaaGreatDoor
/- Contracts of the document's answer: Unhex. -/
namespace Go.Proofs.YtgpecklibcgifaaGreatDoor
open Go.RowKit

set_option maxRecDepth 10000 in
set_option maxHeartbeats 1000000 in
theorem Unhex_r (l : List UInt8) (w : World) (hl : l.length ≤ 1099511627776) :
    Calls Tryz.prog 158 #[.string ⟨l.toArray⟩] w fun e w' => e = .returned (strOr 11 (unhexL l)) ∧ Below w.heap.size w w' := by
  have hget := ba_get
  by_cases hodd : l.length % 2 = 0
  · have h1 : (((l.length : Int) % 2) != 0) = false := by simp; omega
    go_enter Tryz.func158, Tryz.ntmps158
    go_wp2_with (at_make; refine buf_make rfl _ _ rfl (l.length / 2) _ rfl rfl (by simp) (by omega) ?_; intro w1 hb1)
    go_loopg [4, 5] l.length (fun gk v i wr => ∃ (p : Nat) (acc : List UInt8), p ≤ l.length ∧ i = .int .i64 p ∧ l.length - p ≤ gk ∧ Aside (p % 2 = 0) ∧ Buf w wr v acc ∧ acc.length ≤ p ∧ Aside (unhexL l = (unhexL (l.drop p)).map (acc ++ ·)))
    case atStart => exact ⟨0, [], by omega, rfl, by omega, rfl, hb1, by simp, by show _ = _; simp⟩
    case round =>
      obtain ⟨p, acc, hp, rfl, hgk, AP, hbuf, hacc, AU⟩ := hrel
      by_cases hlt : p < l.length
      · have hlt1 : p + 1 < l.length := by have := AP.out; omega
        have hdr : l.drop p = l[p] :: l[p + 1] :: l.drop (p + 2) := by
          rw [List.drop_eq_getElem_cons hlt, List.drop_eq_getElem_cons hlt1]
        have hra := digitV_rng l[p].toNat
        have hrb := digitV_rng l[p + 1].toNat
        have HDD := Lib.hid (fun (c : Int) (w : World) (h0 : 0 ≤ c) (h1 : c < 256) => Digit_r c w h0 h1)
        have ha8 : (l[p].toNat : Int) < 256 := by have := UInt8.toNat_lt l[p]; omega
        have hb8 : (l[p + 1].toNat : Int) < 256 := by have := UInt8.toNat_lt l[p + 1]; omega
        have hk0 : (0 : Int) ≤ (p : Int) := by omega
        have hk1 : (p : Int) < (l.length : Int) := by omega
        have hk2 : (p : Int) + 1 < (l.length : Int) := by omega
        have hk3 : ((p : Int) + 1).toNat = p + 1 := by omega
        have hk4 : (0 : Int) ≤ (p : Int) + 1 := by omega
        have hk5 : IntKind.i64.wrap ((p : Int) + 1) = (p : Int) + 1 := IntWalk.i64_in _ (by omega)
        have AU' : Aside (unhexL l = (if digitV l[p].toNat < 0 ∨ digitV l[p + 1].toNat < 0 then none else (unhexL (l.drop (p + 2))).map (hexByte (digitV l[p].toNat) (digitV l[p + 1].toNat) :: ·)).map (acc ++ ·)) := by
          have := AU.out
          rw [hdr, unhexL] at this
          exact this
        clear hdr AU
        go_wp2_with fail
        go_quiet ((go_at_call 157; exact quiet_l (HDD.out _ _ (by omega) (by omega))))
        clear hk5
        generalize digitV l[p].toNat = x at hra AU' ⊢
        generalize digitV l[p + 1].toNat = y at hrb AU' ⊢
        by_cases hneg : x < 0 ∨ y < 0
        · have hno : unhexL l = none := by have := AU'.out; rw [if_pos hneg] at this; exact this
          have Hno := Lib.hid hno
          clear hno
          have hB := hbuf.below
          rcases hneg with h | h
          · go_wp2_with fail
            go_ret2
            exact ⟨by rw [Hno.out]; rfl, below_drewN hB _⟩
          · go_wp2_with fail
            all_goals
              go_ret2
              exact ⟨by rw [Hno.out]; rfl, below_drewN hB _⟩
        · have hx0 : 0 ≤ x := by omega
          have hy0 : 0 ≤ y := by omega
          have AU2 : Aside (unhexL l = (unhexL (l.drop (p + 2))).map ((acc ++ [hexByte x y]) ++ ·)) := by
            have := AU'.out
            rw [if_neg hneg, Option.map_map] at this
            show _ = _
            rw [this]
            congr 1
            funext z
            simp
          have hx15 : x ≤ 15 := hra.2
          have hy15 : y ≤ 15 := hrb.2
          clear hneg hra hrb AU'
          have hbits : 16 * x + y = ((hexByte x y).toNat : Int) := by unfold hexByte; rw [ofN (by omega)]; omega
          have hlt8 := UInt8.toNat_lt (hexByte x y)
          have hbufN := hbuf.drewN nq
          go_wp2_with (at_builtin; refine buf_byte rfl _ _ rfl rfl hbufN rfl (by omega) ?_; intro v' w2 hb2 hg2)
          go_roundg (l.length - (p + 2))
          case measure => omega
          case rel => exact ⟨p + 2, _, by omega, by go_num, Nat.le_refl _, by have := AP.out; show _ = _; omega, hb2, by simp; omega, AU2.out⟩
      · have hfin : unhexL l = some acc := by
          have := AU.out
          rw [List.drop_eq_nil_of_le (by omega), unhexL] at this
          simpa using this
        have Hf := Lib.hid hfin
        have hst := buf_string hbuf
        have hB := hbuf.below
        clear AU hfin
        go_wp2
        go_ret2
        exact ⟨by rw [Hf.out]; rfl, hB⟩
  · have h1 : (((l.length : Int) % 2) != 0) = true := by simp; omega
    have hno : ∀ (n : Nat) (l : List UInt8), l.length ≤ n → l.length % 2 ≠ 0 → unhexL l = none := by
      intro n
      induction n with
      | zero => intro l h1 h2; omega
      | succ n ih =>
        intro l h1 h2
        match l, h1, h2 with
        | [], _, h2 => simp at h2
        | [_], _, _ => rfl
        | a :: b :: t, h1, h2 =>
          rw [unhexL, ih t (by simp at h1; omega) (by simp at h2; omega)]
          split <;> rfl
    rw [hno l.length l (Nat.le_refl _) hodd]
    clear hno
    go_enter Tryz.func158, Tryz.ntmps158
    go_wp2
    go_ret2
    exact ⟨rfl, Below.refl _ _⟩
end Go.Proofs.YtgpecklibcgifaaGreatDoor
/- The document's own reading of a name, plainly; it gives what the program's gives. -/
namespace Go.Proofs.YtgpecklibcgifaaGreatDoor
open Go.RowKit

/-- A value's bytes: they end at a special byte, at 0, at the end; none: a backslash stands wrong. -/
def rvalL : Nat → List UInt8 → List UInt8 → Nat → Option (List UInt8 × List UInt8)
  | _, [], acc, keep => some (acc.take keep, [])
  | 0, _ :: _, _, _ => none
  | n + 1, c :: t, acc, keep =>
    if c = 92 then match escR t with
      | none => none
      | some (x, t') => rvalL n t' (acc ++ [x]) (acc.length + 1)
    else if specB c || c == 0 then some (acc.take keep, c :: t)
    else rvalL n t (acc ++ [c]) (if c = 32 then keep else acc.length + 1)
def stopB (r : List UInt8) : Bool := r.isEmpty || hd r 44 || hd r 43
theorem hd_eq (r : List UInt8) (n : Nat) (hn : n < 256) : hd r (n : Int) = true ↔ ∃ t, r = UInt8.ofNat n :: t := by
  cases r with
  | nil => simp [hd]
  | cons x t =>
    simp only [hd, beq_iff_eq]
    rw [u8_nat x n hn]
    constructor
    · rintro rfl; exact ⟨t, rfl⟩
    · rintro ⟨t', h⟩; exact (List.cons.inj h).1
theorem specB_iff (c : UInt8) : specB c = true ↔ c ∈ specCs := by unfold specB; simp [idx_mem]
theorem val_rval : ∀ (n : Nat) (r acc : List UInt8) (k : Nat), r.length ≤ n → valL n r acc k = (rvalL n r acc k).bind (fun x => if stopB x.2 then some x else none)
  | n, [], acc, k, _ => by cases n <;> simp [valL, rvalL, stopB]
  | 0, _ :: _, _, _, h => by simp at h
  | n + 1, c :: t, acc, k, h => by
    simp only [List.length_cons] at h
    rw [valL, rvalL]
    by_cases h92 : c = 92
    · subst h92
      rw [if_neg (by decide), if_pos (by decide), if_pos rfl]
      cases he : escR t with
      | none => rfl
      | some y =>
        obtain ⟨x, t'⟩ := y
        have := escR_len he
        exact val_rval n t' _ _ (by omega)
    · have h92' : ¬ ((c.toNat : Int) = 92) := fun e => h92 ((u8_nat c 92 (by omega)).1 e)
      rw [if_neg h92]
      by_cases hst : (c.toNat : Int) = 44 ∨ (c.toNat : Int) = 43
      · rw [if_pos hst]
        have hsp : specB c = true := by
          rw [specB_iff]
          rcases hst with e | e
          · rw [(u8_nat c 44 (by omega)).1 e]; decide
          · rw [(u8_nat c 43 (by omega)).1 e]; decide
        rw [hsp]
        simp only [Bool.true_or, if_true, Option.bind_some]
        rw [if_pos]
        unfold stopB hd
        rcases hst with e | e <;> simp [e]
      · rw [if_neg hst, if_neg h92']
        by_cases hbad : (c.toNat : Int) = 0 ∨ 0 ≤ Lib.indexByte specCs c
        · rw [if_pos hbad]
          have : (specB c || c == 0) = true := by
            rw [Bool.or_eq_true]
            rcases hbad with e | e
            · right; rw [(u8_nat c 0 (by omega)).1 e]; rfl
            · left; unfold specB; exact decide_eq_true e
          rw [this]
          simp only [if_true, Option.bind_some]
          rw [if_neg]
          unfold stopB hd
          simp only [List.isEmpty_cons, Bool.false_or, Bool.or_eq_true, beq_iff_eq]
          exact hst
        · rw [if_neg hbad]
          have : (specB c || c == 0) = false := by
            rw [Bool.or_eq_false_iff]
            refine ⟨by unfold specB; exact decide_eq_false (fun e => hbad (.inr e)), ?_⟩
            rw [beq_eq_false_iff_ne]; rintro rfl; exact hbad (.inl rfl)
          rw [this]
          simp only [Bool.false_eq_true, if_false]
          have e32 : ((c.toNat : Int) = 32) ↔ c = 32 := u8_nat c 32 (by omega)
          rw [val_rval n t _ _ (by omega)]
          by_cases h32 : c = 32
          · rw [if_pos (e32.2 h32), if_pos h32]
          · rw [if_neg (fun e => h32 (e32.1 e)), if_neg h32]
/-- A pair. -/
def rvalR (r : List UInt8) : Option (List UInt8 × List UInt8) :=
  if hd r 35 then (match hexR r.tail with
    | none => none
    | some (v, r') => some (v, blk r'))
  else rvalL r.length r [] 0
def rpairR (r : List UInt8) : Option ((List UInt8 × List UInt8) × List UInt8) :=
  match typR (blk r) with
  | none => none
  | some (t, r2) => if hd (blk r2) 61 then (match rvalR (blk (blk r2).tail) with
      | none => none
      | some (v, r5) => some ((t, v), r5)) else none
/-- One step behind a pair, in the flat loop. -/
def flat (f : List UInt8 → Option ((List UInt8 × List UInt8) × List UInt8)) : Nat → List UInt8 → List (List UInt8 × List UInt8) → List (List (List UInt8 × List UInt8)) → Option (List (List (List UInt8 × List UInt8)))
  | 0, _, _, _ => none
  | n + 1, r, part, out => match f r with
    | none => none
    | some (x, r') => if hd r' 43 then flat f n r'.tail (part ++ [x]) out
      else if r' = [] then some (out ++ [part ++ [x]])
      else if hd r' 44 then flat f n r'.tail [] (out ++ [part ++ [x]]) else none
theorem blk_stop {r : List UInt8} (h : stopB r = true) : blk r = r := by
  apply blk_id
  intro x t e
  subst e
  unfold stopB hd at h
  simp at h
  rcases h with h | h
  · rintro rfl; simp at h
  · rintro rfl; simp at h
theorem pair_rpair (r : List UInt8) : pairR r = rpairR r ∨ (pairR r = none ∧ ∃ x r', rpairR r = some (x, r') ∧ stopB r' = false) := by
  unfold pairR rpairR
  cases ht : typR (blk r) with
  | none => exact .inl rfl
  | some y =>
    obtain ⟨t, r2⟩ := y
    simp only
    cases h61 : hd (blk r2) 61
    · exact .inl rfl
    · simp only [if_true]
      generalize blk (blk r2).tail = q
      unfold valueR rvalR
      cases h35 : hd q 35
      · simp only [Bool.false_eq_true, if_false]
        rw [val_rval _ _ _ _ (Nat.le_refl _)]
        cases hv : rvalL q.length q [] 0 with
        | none => exact .inl rfl
        | some z =>
          obtain ⟨v, r5⟩ := z
          simp only [Option.bind_some]
          cases hs : stopB r5
          · right
            exact ⟨rfl, _, _, rfl, hs⟩
          · left
            simp only [if_true, blk_stop hs]
      · simp only [if_true]
        cases hexR q.tail with
        | none => exact .inl rfl
        | some z => exact .inl rfl
theorem flat_eq : ∀ (n : Nat) (r : List UInt8) (part : List (List UInt8 × List UInt8)) (out : List (List (List UInt8 × List UInt8))), flat rpairR n r part out = flat pairR n r part out
  | 0, _, _, _ => rfl
  | n + 1, r, part, out => by
    rw [flat, flat]
    rcases pair_rpair r with h | ⟨h, x, r', h2, h3⟩
    · rw [h]
      cases rpairR r with
      | none => rfl
      | some y =>
        obtain ⟨x, r'⟩ := y
        simp only [flat_eq n]
    · rw [h, h2]
      simp only
      unfold stopB at h3
      simp only [Bool.or_eq_false_iff] at h3
      rw [h3.2, h3.1.2, if_neg (by simp), if_neg, if_neg (by simp)]
      intro e; rw [e] at h3; simp at h3
/-- A part that is under way, then the rest of the name. -/
def cont (o : Option (List (List UInt8 × List UInt8) × List UInt8)) (out : List (List (List UInt8 × List UInt8))) : Option (List (List (List UInt8 × List UInt8))) := match o with
  | none => none
  | some (p, r) => nameFin (nameL r.length r (out ++ [p]))
def partFrom (r : List UInt8) (part : List (List UInt8 × List UInt8)) : Option (List (List UInt8 × List UInt8) × List UInt8) := match pairR r with
  | none => none
  | some (x, r') => partL r'.length r' (part ++ [x])
theorem flat_cont : ∀ (n : Nat) (r : List UInt8) (part : List (List UInt8 × List UInt8)) (out : List (List (List UInt8 × List UInt8))), r.length ≤ n → flat pairR (n + 1) r part out = cont (partFrom r part) out := by
  intro n
  induction n using Nat.strongRecOn with
  | ind n ih =>
    intro r part out hn
    rw [flat]
    unfold partFrom
    cases hp : pairR r with
    | none => rfl
    | some y =>
      obtain ⟨x, r'⟩ := y
      have hlen := pairR_len hp
      simp only
      cases h43 : hd r' 43
      · simp only [Bool.false_eq_true, if_false]
        have hpl : partL r'.length r' (part ++ [x]) = some (part ++ [x], r') := by
          cases hn' : r'.length <;> rw [partL, h43] <;> rfl
        rw [hpl]
        simp only [cont]
        by_cases hr : r' = []
        · subst hr
          rw [if_pos rfl]
          rfl
        · rw [if_neg hr]
          cases h44 : hd r' 44
          · simp only [Bool.false_eq_true, if_false]
            have hnl : nameL r'.length r' (out ++ [part ++ [x]]) = some (out ++ [part ++ [x]], r') := by
              cases hn' : r'.length <;> rw [nameL, h44] <;> rfl
            rw [hnl]
            simp [nameFin, hr]
          · simp only [if_true]
            obtain ⟨c, t, rfl⟩ : ∃ c t, r' = c :: t := by
              cases r' with
              | nil => exact absurd rfl hr
              | cons c t => exact ⟨c, t, rfl⟩
            simp only [List.tail_cons, List.length_cons] at *
            obtain ⟨m, rfl⟩ : ∃ m, n = m + 1 := ⟨n - 1, by omega⟩
            rw [ih m (by omega) t [] _ (by omega), nameL, h44]
            simp only [if_true, List.tail_cons]
            unfold partR partFrom
            cases hq : pairR t with
            | none => rfl
            | some z =>
              obtain ⟨x2, r2⟩ := z
              simp only [List.nil_append]
              cases hl : partL r2.length r2 [x2] with
              | none => rfl
              | some u =>
                obtain ⟨p2, r3⟩ := u
                simp only [cont]
                have l1 := pairR_len hq
                have l2 := partL_len _ _ _ _ _ hl
                rw [nameL_fuel t.length r3.length r3 _ (by omega) (Nat.le_refl _)]
      · simp only [if_true]
        obtain ⟨c, t, rfl⟩ : ∃ c t, r' = c :: t := by
          cases r' with
          | nil => simp [hd] at h43
          | cons c t => exact ⟨c, t, rfl⟩
        simp only [List.tail_cons, List.length_cons] at *
        obtain ⟨m, rfl⟩ : ∃ m, n = m + 1 := ⟨n - 1, by omega⟩
        rw [ih m (by omega) t _ out (by omega), partL, h43]
        simp only [if_true, List.tail_cons]
        unfold partFrom
        cases hq : pairR t with
        | none => rfl
        | some z =>
          obtain ⟨x2, r2⟩ := z
          have l1 := pairR_len hq
          simp only
          rw [partL_fuel t.length r2.length r2 _ (by omega) (Nat.le_refl _)]
/-- The document's reading of a whole name. -/
theorem name_flat (s : List UInt8) (hs : s ≠ []) : nameR s = flat rpairR (s.length + 1) s [] [] := by
  rw [flat_eq, flat_cont s.length s [] [] (Nat.le_refl _)]
  unfold nameR
  rw [if_neg hs]
  have : partR s = partFrom s [] := rfl
  rw [this]
  cases partFrom s [] with
  | none => rfl
  | some y => rfl
end Go.Proofs.YtgpecklibcgifaaGreatDoor
