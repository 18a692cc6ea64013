/- Plain law: names of letters, their normal forms. -/
import Derived.Test.YtgpecklibcgifaaGreatDoorW10
set_option linter.all false
namespace Go.Proofs.YtgpecklibcgifaaGreatDoor
open Go.RowKit Go.Sort

/-- Letters alone. -/
def Lets (l : List UInt8) : Prop := ∀ c ∈ l, (97 ≤ c.toNat ∧ c.toNat ≤ 122) ∨ (65 ≤ c.toNat ∧ c.toNat ≤ 90)
/-- Small letters alone. -/
def Lows (l : List UInt8) : Prop := ∀ c ∈ l, 97 ≤ c.toNat ∧ c.toNat ≤ 122
theorem Lows.lets {l : List UInt8} (h : Lows l) : Lets l := fun c hc => .inl (h c hc)
def bl (k : Nat) : List UInt8 := List.replicate k 32
theorem bl_succ (k : Nat) : bl (k + 1) = 32 :: bl k := List.replicate_succ
theorem blank_val (r : List UInt8) (hr : Stop r) : ∀ (k n : Nat) (acc : List UInt8) (long : Nat), long ≤ acc.length → (bl k ++ r).length ≤ n → valL n (bl k ++ r) acc long = some (acc.take long, r)
  | 0, n, acc, long, _, hn => by
    simp only [bl, List.replicate_zero, List.nil_append] at hn ⊢
    cases r with
    | nil => cases n <;> simp [valL]
    | cons x t =>
      cases n with
      | zero => simp at hn
      | succ n =>
        rw [valL, if_pos]
        rcases hr x t rfl with h | h
        · right; rw [h]; rfl
        · left; rw [h]; rfl
  | k + 1, n, acc, long, hl, hn => by
    rw [bl_succ] at hn ⊢
    simp only [List.cons_append, List.length_cons] at hn ⊢
    obtain ⟨m, rfl⟩ : ∃ m, n = m + 1 := ⟨n - 1, by omega⟩
    rw [valL, if_neg (by decide), if_neg (by decide), if_neg (by decide), if_pos (by decide)]
    rw [blank_val r hr k m (acc ++ [32]) long (by simp; omega) (by omega), List.take_append_of_le_length hl]
theorem let_val (r : List UInt8) (hr : Stop r) (k : Nat) : ∀ (u acc : List UInt8) (n : Nat), Lets u → (u ++ (bl k ++ r)).length ≤ n → valL n (u ++ (bl k ++ r)) acc acc.length = some (acc ++ u, r)
  | [], acc, n, _, hn => by
    rw [List.nil_append] at hn ⊢
    rw [blank_val r hr k n acc acc.length (Nat.le_refl _) hn]; simp
  | c :: u, acc, n, hu, hn => by
    have hc := hu c (by simp)
    simp only [List.cons_append, List.length_cons] at hn ⊢
    obtain ⟨m, rfl⟩ : ∃ m, n = m + 1 := ⟨n - 1, by omega⟩
    have hns : c ∉ specCs := by
      intro h
      have : ∀ x ∈ specCs, x.toNat < 65 ∨ x.toNat = 92 := by decide
      have := this c h
      omega
    rw [valL, if_neg (by omega), if_neg (by omega), if_neg]
    · rw [if_neg (by omega)]
      have := let_val r hr k u (acc ++ [c]) m (fun x hx => hu x (by simp [hx])) (by omega)
      rw [List.length_append, List.length_singleton] at this
      rw [this]; simp
    · rintro (h | h)
      · omega
      · exact hns ((idx_mem _ _).1 h)
theorem blk_bl (k : Nat) (l : List UInt8) : blk (bl k ++ l) = blk l := by
  induction k with
  | zero => rfl
  | succ k ih => rw [bl_succ]; unfold blk at *; rw [List.cons_append, List.dropWhile_cons]; simpa using ih
theorem let_head {l : List UInt8} (hl : Lets l) (hne : l ≠ []) (r : List UInt8) : ∀ x t, l ++ r = x :: t → x ≠ 32 ∧ x ≠ 35 := by
  intro x t e
  cases l with
  | nil => exact absurd rfl hne
  | cons c l =>
    simp only [List.cons_append, List.cons.injEq] at e
    have := hl c (by simp)
    rw [e.1] at this
    constructor
    · rintro rfl; simp at this
    · rintro rfl; simp at this
theorem let_value {l r : List UInt8} (hl : Lets l) (hr : Stop r) (j k : Nat) : valueR (blk (bl j ++ (l ++ (bl k ++ r)))) = some (l, r) := by
  rw [blk_bl]
  by_cases hne : l = []
  · subst hne
    rw [List.nil_append, blk_bl, hr.blk]
    unfold valueR
    rw [if_neg]
    · have := blank_val r hr 0 r.length [] 0 (Nat.le_refl _) (by simp [bl])
      simpa [bl] using this
    · cases r with
      | nil => simp [hd]
      | cons x t => rcases hr x t rfl with rfl | rfl <;> simp [hd]
  · rw [blk_id _ (fun x t e => (let_head hl hne _ x t e).1)]
    unfold valueR
    rw [if_neg]
    · have := let_val r hr k l [] _ hl (Nat.le_refl _)
      simpa using this
    · intro h
      cases hw : l ++ (bl k ++ r) with
      | nil => rw [hw] at h; simp [hd] at h
      | cons x t =>
        rw [hw] at h
        simp only [hd, beq_iff_eq] at h
        exact (let_head hl hne _ x t hw).2 ((u8_nat x 35 (by omega)).1 h)
/-- A pair as a text, with blanks about its parts. -/
def pw (n : Nat) (t : List UInt8) (i j : Nat) (l : List UInt8) (k : Nat) : List UInt8 := bl n ++ (t ++ (bl i ++ (61 :: (bl j ++ (l ++ bl k)))))
theorem pw_app (n : Nat) (t : List UInt8) (i j : Nat) (l : List UInt8) (k : Nat) (r : List UInt8) : pw n t i j l k ++ r = bl n ++ (t ++ (bl i ++ (61 :: (bl j ++ (l ++ (bl k ++ r)))))) := by simp [pw]
theorem pw_pair (n : Nat) {t : List UInt8} (i j : Nat) {l : List UInt8} (k : Nat) {r : List UInt8} (ht : isTypeL t = true) (hl : Lets l) (hr : Stop r) : pairR (pw n t i j l k ++ r) = some ((t, l), r) := by
  rw [pw_app]
  unfold pairR
  have hall := type_all ht
  rw [blk_bl, blk_id (t ++ _) (fun x u e => by
    cases t with
    | nil => exact absurd rfl (type_ne ht)
    | cons y m =>
      simp only [List.cons_append, List.cons.injEq] at e
      rw [← e.1]
      have := hall y (by simp)
      rintro rfl
      exact absurd this (by decide))]
  have htw := takeW_app (p := inTy) t (bl i ++ (61 :: (bl j ++ (l ++ (bl k ++ r))))) hall (fun x u e => by
    cases i with
    | zero => simp [bl] at e; rw [← e.1]; decide
    | succ i => rw [bl_succ] at e; simp at e; rw [← e.1]; decide)
  unfold typR
  rw [htw.1, htw.2, if_pos ht]
  simp only
  rw [blk_bl]
  have h61 : ∀ X, blk (61 :: X) = 61 :: X := fun X => blk_id _ (fun x u e => by simp at e; rw [← e.1]; decide)
  rw [h61, if_pos (by simp [hd])]
  simp only [List.tail_cons]
  rw [let_value hl hr j k]
  simp only
  rw [hr.blk]
theorem pw_one {p r : List UInt8} {x : List UInt8 × List UInt8} (h : ∀ r, Stop r → pairR (p ++ r) = some (x, r)) (hr : Stop4 r) : partR (p ++ r) = some ([x], r) := by
  unfold partR
  rw [h r hr.stop]
  simp only
  have h43 : hd r 43 = false := hd_no r 43 (by omega) (fun x t e => by rw [hr x t e]; decide)
  cases hn : r.length <;> simp [partL, h43]
theorem pw_two {p q r : List UInt8} {x y : List UInt8 × List UInt8} (h : ∀ r, Stop r → pairR (p ++ r) = some (x, r)) (h2 : ∀ r, Stop r → pairR (q ++ r) = some (y, r)) (hr : Stop4 r) : partR (p ++ (43 :: (q ++ r))) = some ([x, y], r) := by
  unfold partR
  rw [h _ (Stop.cons43 _)]
  simp only [List.length_cons]
  rw [partL, if_pos (by simp [hd])]
  simp only [List.tail_cons]
  rw [h2 r hr.stop]
  simp only
  have h43 : hd r 43 = false := hd_no r 43 (by omega) (fun x t e => by rw [hr x t e]; decide)
  cases hn : (q ++ r).length <;> simp [partL, h43]
theorem nil_stop4 : Stop4 [] := fun x t e => by cases e
theorem two_parts {p q : List UInt8} {x y : List (List UInt8 × List UInt8)} (hne : p ≠ []) (h : ∀ r, Stop4 r → partR (p ++ r) = some (x, r)) (h2 : ∀ r, Stop4 r → partR (q ++ r) = some (y, r)) : nameR (p ++ (44 :: q)) = some [x, y] := by
  unfold nameR
  rw [if_neg (by simp), h (44 :: q) (fun x t e => by simp at e; exact e.1.symm)]
  simp only [nameGo, List.length_cons]
  rw [nameL, if_pos (by simp [hd])]
  simp only [List.tail_cons]
  have := h2 [] nil_stop4
  rw [List.append_nil] at this
  rw [this]
  cases hn : q.length <;> simp [nameL, hd, nameFin]
/-! ### normal forms -/
theorem low_enc (c : UInt8) (h : c.toNat < 128) : encR (c.toNat : Int) = [c] := by
  rcases enc_cases (r := (c.toNat : Int)) (by unfold VR; omega) with ⟨a, b, e⟩ | ⟨a, b, e⟩ | ⟨a, b, e⟩ | ⟨a, b, e⟩
  · rw [e, Int.toNat_natCast, UInt8.ofNat_toNat]
  all_goals omega
theorem low_cat : ∀ l : List UInt8, Lows l → cat (l.map fun c => (c.toNat : Int)) = l
  | [], _ => rfl
  | c :: l, h => by
    rw [List.map_cons, cat_cons, low_enc c (by have := h c (by simp); omega), low_cat l (fun x hx => h x (by simp [hx]))]; rfl
theorem low_nice (c : UInt8) (h : 97 ≤ c.toNat ∧ c.toNat ≤ 122) : Nice true (c.toNat : Int) := by
  refine ⟨?_, fun _ => ?_, by unfold VR; omega⟩
  · unfold mapR
    rw [if_neg (by unfold blankR; omega), if_neg (by unfold goesR; omega), if_neg (by unfold refR; omega)]
  · unfold foldR
    repeat' split
    all_goals omega
theorem prep_low (l : List UInt8) (h : Lows l) : prepL l true = some l := by
  have hm : ∀ x ∈ l.map (fun c => (c.toNat : Int)), 97 ≤ x := by
    intro x hx
    obtain ⟨c, hc, rfl⟩ := List.mem_map.1 hx
    have := h c hc
    omega
  have := prep_of_nice true (l.map fun c => (c.toNat : Int)) (fun x hx => by
    obtain ⟨c, hc, rfl⟩ := List.mem_map.1 hx
    exact low_nice c (h c hc)) (fun i hi => by have := hm 32 (List.mem_of_getElem? hi.1); omega) (fun e => by have := hm 32 (List.mem_of_mem_head? e); omega) (fun e => by have := hm 32 (List.mem_of_getLast? e); omega)
  rw [low_cat l h] at this
  exact this
theorem norm_low {t l : List UInt8} (h : Lows l) : normA (t, l) = (smallL t, l) := by unfold normA; simp only [prep_low l h]; rfl
/-- What such a name is printed as. -/
theorem print_ok {d : List (List (List UInt8 × List UInt8))} (h1 : d.length ≤ 2) (h2 : ∀ p ∈ d, p ≠ [] ∧ p.length ≤ 2 ∧ ∀ x ∈ p, isTypeL x.1 = true ∧ x.1.length ≤ 2 ∧ x.2.length ≤ 201) : printL d = (0, nameW d) := by
  have hb : d.any partBad = false := List.any_eq_false.2 fun p hp => by
    obtain ⟨a, b, c⟩ := h2 p hp
    unfold partBad
    simp only [Bool.or_eq_true, List.isEmpty_iff, List.any_eq_true, not_or, not_exists, not_and]
    exact ⟨a, fun x hx => by unfold avaBadB; simp [(c x hx).1]⟩
  have ht : tooLongL d = false := by
    unfold tooLongL
    rw [Bool.or_eq_false_iff]
    refine ⟨decide_eq_false (by omega), List.any_eq_false.2 fun p hp => ?_⟩
    obtain ⟨a, b, c⟩ := h2 p hp
    unfold rdnLongB
    simp only [Bool.or_eq_true, decide_eq_true_eq, List.any_eq_true, not_or, not_exists, not_and]
    refine ⟨by omega, fun x hx => ?_⟩
    unfold avaLongB
    have := (c x hx).2.2
    simp; omega
  have hl : (nameW d).length ≤ 65536 := by
    have := join_len 12556 [44] (by decide) (d.map partW) (fun z hz => by
      obtain ⟨p, hp, rfl⟩ := List.mem_map.1 hz
      obtain ⟨a, b, c⟩ := h2 p hp
      exact partW_len (by omega) (fun x hx => ⟨by have := (c x hx).2.1; omega, by have := (c x hx).2.2; omega⟩))
    rw [List.length_map] at this
    have h3 : d.length * (12556 + 1) ≤ 2 * 12557 := Nat.mul_le_mul h1 (Nat.le_refl _)
    unfold nameW
    omega
  unfold printL
  rw [hb, ht]
  simp only [Bool.false_eq_true, if_false]
  unfold printFin
  rw [if_neg (by omega)]
end Go.Proofs.YtgpecklibcgifaaGreatDoor
/- The law SyntaxNames. -/
namespace Go.Proofs.YtgpecklibcgifaaGreatDoor
open Go.RowKit Go.Sort

def tcn : List UInt8 := [99, 110]
def tsn : List UInt8 := [115, 110]
def tdc : List UInt8 := [100, 99]
section
variable (a b : List UInt8)
/-- 'cn=a+SN=b,DC=x' -/
def s1 : List UInt8 := [99, 110, 61] ++ a ++ [43, 83, 78, 61] ++ b ++ [44, 68, 67, 61, 120]
/-- ' sn = b + CN=a, dc = X ' -/
def s2 : List UInt8 := [32, 115, 110, 32, 61, 32] ++ b ++ [32, 43, 32, 67, 78, 61] ++ a ++ [44, 32, 100, 99, 32, 61, 32, 88, 32]
def s3 : List UInt8 := [99, 110, 61] ++ a ++ [44, 100, 99, 61, 120]
def s4 : List UInt8 := [99, 110, 61] ++ a ++ [122, 44, 100, 99, 61, 120]
theorem s1_pw : s1 a b = (pw 0 tcn 0 0 a 0 ++ (43 :: (pw 0 [83, 78] 0 0 b 0 ++ []))) ++ (44 :: (pw 0 [68, 67] 0 0 [120] 0 ++ [])) := by simp [s1, pw, bl, tcn]
theorem s2_pw : s2 a b = (pw 1 tsn 1 1 b 1 ++ (43 :: (pw 1 [67, 78] 0 0 a 0 ++ []))) ++ (44 :: (pw 1 tdc 1 1 [88] 1 ++ [])) := by simp [s2, pw, bl, tsn, tdc]
theorem s3_pw : s3 a = pw 0 tcn 0 0 a 0 ++ (44 :: (pw 0 tdc 0 0 [120] 0 ++ [])) := by simp [s3, pw, bl, tcn, tdc]
theorem s4_pw : s4 a = pw 0 tcn 0 0 (a ++ [122]) 0 ++ (44 :: (pw 0 tdc 0 0 [120] 0 ++ [])) := by simp [s4, pw, bl, tcn, tdc]
end
theorem let_x : Lets [120] := by intro c h; simp at h; subst h; decide
theorem let_X : Lets [88] := by intro c h; simp at h; subst h; decide
theorem low_x : Lows [120] := by intro c h; simp at h; subst h; decide
theorem low_z {a : List UInt8} (h : Lows a) : Lows (a ++ [122]) := by
  intro c hc
  rw [List.mem_append, List.mem_singleton] at hc
  rcases hc with hc | rfl
  · exact h c hc
  · decide
theorem ty_cn : isTypeL tcn = true := by decide +kernel
theorem ty_sn : isTypeL tsn = true := by decide +kernel
theorem ty_dc : isTypeL tdc = true := by decide +kernel
theorem parse_of {s : List UInt8} {d : List (List (List UInt8 × List UInt8))} (h : nameR s = some d) (hl : s.length ≤ 1024) (ht : tooLongL d = false) : parseL s = (0, d) := by
  unfold parseL
  rw [if_neg (by omega), h]
  simp only
  rw [if_neg (by simp [ht])]
theorem short_ok {d : List (List (List UInt8 × List UInt8))} (h1 : d.length ≤ 2) (h2 : ∀ p ∈ d, p.length ≤ 2 ∧ ∀ x ∈ p, x.2.length ≤ 201) : tooLongL d = false := by
  unfold tooLongL
  rw [Bool.or_eq_false_iff]
  refine ⟨decide_eq_false (by omega), List.any_eq_false.2 fun p hp => ?_⟩
  obtain ⟨b, c⟩ := h2 p hp
  unfold rdnLongB
  simp only [Bool.or_eq_true, decide_eq_true_eq, List.any_eq_true, not_or, not_exists, not_and]
  refine ⟨by omega, fun x hx => ?_⟩
  unfold avaLongB
  have := c x hx
  simp; omega
section
variable {a b : List UInt8} (ha : Lows a) (hb : Lows b) (hl : a.length + b.length ≤ 200)
include ha hb hl
theorem parse1 : parseL (s1 a b) = (0, [[(tcn, a), ([83, 78], b)], [([68, 67], [120])]]) := by
  refine parse_of ?_ (by simp [s1]; omega) (short_ok (by simp) (by
    intro p hp
    simp at hp
    rcases hp with rfl | rfl
    · refine ⟨by simp, fun x hx => ?_⟩
      simp at hx
      rcases hx with rfl | rfl
      · simp; omega
      · simp; omega
    · refine ⟨by simp, fun x hx => ?_⟩
      simp at hx
      subst hx
      simp))
  rw [s1_pw]
  refine two_parts (by simp) (fun r hr => ?_) (fun r hr => ?_)
  · have := pw_two (x := (tcn, a)) (y := ([83, 78], b)) (fun r hr => pw_pair 0 0 0 0 ty_cn ha.lets hr) (fun r hr => pw_pair 0 0 0 0 (by decide +kernel) hb.lets hr) hr
    simpa using this
  · have := pw_one (x := ([68, 67], [120])) (fun r hr => pw_pair 0 0 0 0 (by decide +kernel) let_x hr) hr
    simpa using this
theorem parse2 : parseL (s2 a b) = (0, [[(tsn, b), ([67, 78], a)], [(tdc, [88])]]) := by
  refine parse_of ?_ (by simp [s2]; omega) (short_ok (by simp) (by
    intro p hp
    simp at hp
    rcases hp with rfl | rfl
    · refine ⟨by simp, fun x hx => ?_⟩
      simp at hx
      rcases hx with rfl | rfl
      · simp; omega
      · simp; omega
    · refine ⟨by simp, fun x hx => ?_⟩
      simp at hx
      subst hx
      simp))
  rw [s2_pw]
  refine two_parts (by simp) (fun r hr => ?_) (fun r hr => ?_)
  · have := pw_two (x := (tsn, b)) (y := ([67, 78], a)) (fun r hr => pw_pair 1 1 1 1 ty_sn hb.lets hr) (fun r hr => pw_pair 1 0 0 0 (by decide +kernel) ha.lets hr) hr
    simpa using this
  · have := pw_one (x := (tdc, [88])) (fun r hr => pw_pair 1 1 1 1 ty_dc let_X hr) hr
    simpa using this
omit hb in
theorem parse3 : parseL (s3 a) = (0, [[(tcn, a)], [(tdc, [120])]]) := by
  refine parse_of ?_ (by simp [s3]; omega) (short_ok (by simp) (by simp; omega))
  rw [s3_pw]
  refine two_parts (by simp [pw, tcn]) (fun r hr => ?_) (fun r hr => ?_)
  · exact pw_one (x := (tcn, a)) (fun r hr => pw_pair 0 0 0 0 ty_cn ha.lets hr) hr
  · have := pw_one (x := (tdc, [120])) (fun r hr => pw_pair 0 0 0 0 ty_dc let_x hr) hr
    simpa using this
omit hb in
theorem parse4 : parseL (s4 a) = (0, [[(tcn, a ++ [122])], [(tdc, [120])]]) := by
  refine parse_of ?_ (by simp [s4]; omega) (short_ok (by simp) (by simp; omega))
  rw [s4_pw]
  refine two_parts (by simp [pw, tcn]) (fun r hr => ?_) (fun r hr => ?_)
  · exact pw_one (x := (tcn, a ++ [122])) (fun r hr => pw_pair 0 0 0 0 ty_cn (low_z ha).lets hr) hr
  · have := pw_one (x := (tdc, [120])) (fun r hr => pw_pair 0 0 0 0 ty_dc let_x hr) hr
    simpa using this
omit ha hb hl in
theorem one_part (x : List UInt8 × List UInt8) : partN [x] = [x] := partN_id (by unfold SS; simp)
omit ha hb hl in
theorem dcX : normP [(tdc, [88])] = [(tdc, [120])] := by
  unfold normP
  have : ([(tdc, [88])] : List (List UInt8 × List UInt8)).map normA = [(tdc, [120])] := by decide +kernel
  rw [this, one_part]
omit ha hb hl in
theorem dcx : normP [(tdc, [120])] = [(tdc, [120])] := by
  unfold normP
  have : ([(tdc, [120])] : List (List UInt8 × List UInt8)).map normA = [(tdc, [120])] := by decide +kernel
  rw [this, one_part]
omit ha hb hl in
theorem DCx : normP [([68, 67], [120])] = [(tdc, [120])] := by
  unfold normP
  have : ([([68, 67], [120])] : List (List UInt8 × List UInt8)).map normA = [(tdc, [120])] := by decide +kernel
  rw [this, one_part]
omit hl in
theorem two1 : normP [(tcn, a), ([83, 78], b)] = partN [(tcn, a), (tsn, b)] := by
  unfold normP
  simp only [List.map_cons, List.map_nil, norm_low ha, norm_low hb]
  rfl
omit hl in
theorem two2 : normP [(tsn, b), ([67, 78], a)] = partN [(tcn, a), (tsn, b)] := by
  unfold normP
  simp only [List.map_cons, List.map_nil, norm_low ha, norm_low hb]
  exact partN_eq (fun x => by
    have e1 : smallL tsn = tsn := by decide
    have e2 : smallL [67, 78] = tcn := by decide
    rw [e1, e2]; simp; exact or_comm)
omit ha hb hl in
theorem two_sorted : partN [(tcn, a), (tsn, b)] = [(tcn, a), (tsn, b)] := partN_id (by
  unfold SS
  simp
  have : cmpB tcn tsn = -1 := by decide
  show orV (cmpB tcn tsn) (cmpB a b) < 0
  rw [this]; unfold orV; simp)
theorem name12 : nameN (s1 a b) = some (nameW [[(tcn, a), (tsn, b)], [(tdc, [120])]]) ∧ nameN (s2 a b) = some (nameW [[(tcn, a), (tsn, b)], [(tdc, [120])]]) := by
  have hp : printL [[(tcn, a), (tsn, b)], [(tdc, [120])]] = (0, nameW [[(tcn, a), (tsn, b)], [(tdc, [120])]]) := print_ok (by simp) (by
    intro p hp
    simp at hp
    rcases hp with rfl | rfl
    · refine ⟨by simp, by simp, fun x hx => ?_⟩
      simp at hx
      rcases hx with rfl | rfl
      · exact ⟨ty_cn, by show tcn.length ≤ 2; decide, by simp; omega⟩
      · exact ⟨ty_sn, by show tsn.length ≤ 2; decide, by simp; omega⟩
    · refine ⟨by simp, by simp, fun x hx => ?_⟩
      simp at hx
      subst hx
      exact ⟨ty_dc, by decide, by simp⟩)
  constructor
  · unfold nameN
    rw [parse1 ha hb hl]
    simp only [if_true, List.map_cons, List.map_nil, two1 ha hb, DCx, two_sorted, hp]
  · unfold nameN
    rw [parse2 ha hb hl]
    simp only [if_true, List.map_cons, List.map_nil, two2 ha hb, dcX, two_sorted, hp]
omit hb in
theorem name3 : nameN (s3 a) = some (nameW [[(tcn, a)], [(tdc, [120])]]) ∧ (printL [[(tcn, a)], [(tdc, [120])]]) = (0, nameW [[(tcn, a)], [(tdc, [120])]]) := by
  have hp : printL [[(tcn, a)], [(tdc, [120])]] = (0, nameW [[(tcn, a)], [(tdc, [120])]]) := print_ok (by simp) (by
    intro p hp
    simp at hp
    rcases hp with rfl | rfl
    · refine ⟨by simp, by simp, fun x hx => ?_⟩
      simp at hx
      subst hx
      exact ⟨ty_cn, by show tcn.length ≤ 2; decide, by simp; omega⟩
    · refine ⟨by simp, by simp, fun x hx => ?_⟩
      simp at hx
      subst hx
      exact ⟨ty_dc, by decide, by simp⟩)
  refine ⟨?_, hp⟩
  unfold nameN
  rw [parse3 ha hl]
  have h1 : normP [(tcn, a)] = [(tcn, a)] := by
    unfold normP
    simp only [List.map_cons, List.map_nil, norm_low ha]
    exact one_part _
  simp only [if_true, List.map_cons, List.map_nil, h1, dcx, hp]
omit hb in
theorem name4 : nameN (s4 a) = some (nameW [[(tcn, a ++ [122])], [(tdc, [120])]]) ∧ (printL [[(tcn, a ++ [122])], [(tdc, [120])]]) = (0, nameW [[(tcn, a ++ [122])], [(tdc, [120])]]) := by
  have hp : printL [[(tcn, a ++ [122])], [(tdc, [120])]] = (0, nameW [[(tcn, a ++ [122])], [(tdc, [120])]]) := print_ok (by simp) (by
    intro p hp
    simp at hp
    rcases hp with rfl | rfl
    · refine ⟨by simp, by simp, fun x hx => ?_⟩
      simp at hx
      subst hx
      exact ⟨ty_cn, by show tcn.length ≤ 2; decide, by simp; omega⟩
    · refine ⟨by simp, by simp, fun x hx => ?_⟩
      simp at hx
      subst hx
      exact ⟨ty_dc, by decide, by simp⟩)
  refine ⟨?_, hp⟩
  unfold nameN
  rw [parse4 ha hl]
  have h1 : normP [(tcn, a ++ [122])] = [(tcn, a ++ [122])] := by
    unfold normP
    simp only [List.map_cons, List.map_nil, norm_low (low_z ha)]
    exact one_part _
  simp only [if_true, List.map_cons, List.map_nil, h1, dcx, hp]
omit hb in
theorem name34 : nameW [[(tcn, a)], [(tdc, [120])]] ≠ nameW [[(tcn, a ++ [122])], [(tdc, [120])]] := by
  intro e
  have h3 := (name3 (b := b) ha hl).2
  have h4 := (name4 (b := b) ha hl).2
  have p3 := parse_print (by rw [h3])
  have p4 := parse_print (by rw [h4])
  rw [h3] at p3
  rw [h4] at p4
  simp only at p3 p4
  rw [e, p4] at p3
  simp at p3
end
theorem bothS_mk {x : RowT} {a b p q : List UInt8} (h1 : normS x a = some p) (h2 : normS x b = some q) : bothS x a b = some (p, q) := by unfold bothS; rw [h1, h2]
theorem dn_norm {s : List UInt8} (hl : s.length ≤ 1024) (hp : (parseL s).1 = 0) : normS (nDn, 0, [fName], .name) s = nameN s := by
  unfold normS
  rw [if_pos]
  · rfl
  · rw [decide_eq_true hl, Bool.true_and]
    simp only [List.any_cons, List.any_nil, Bool.or_false]
    unfold validL
    rw [decide_eq_true hl, Bool.true_and]
    show ((parseL s).1 == 0) = true
    rw [hp]; rfl
theorem same12 {a b : List UInt8} (ha : Lows a) (hb : Lows b) (hl : a.length + b.length ≤ 200) : sameP nDn (s1 a b) (s2 a b) = (true, 0) := by
  unfold sameP
  rw [ask_dn]
  have h := name12 ha hb hl
  have e1 := dn_norm (s := s1 a b) (by simp [s1]; omega) (by rw [parse1 ha hb hl])
  have e2 := dn_norm (s := s2 a b) (by simp [s2]; omega) (by rw [parse2 ha hb hl])
  rw [h.1] at e1
  rw [h.2] at e2
  simp only [bothS_mk e1 e2, sameQ, beq_self_eq_true]
theorem same34 {a b : List UInt8} (ha : Lows a) (hl : a.length + b.length ≤ 200) : sameP nDn (s3 a) (s4 a) = (false, 0) := by
  unfold sameP
  rw [ask_dn]
  have e1 := dn_norm (s := s3 a) (by simp [s3]; omega) (by rw [parse3 (b := b) ha hl])
  have e2 := dn_norm (s := s4 a) (by simp [s4]; omega) (by rw [parse4 (b := b) ha hl])
  rw [(name3 (b := b) ha hl).1] at e1
  rw [(name4 (b := b) ha hl).1] at e2
  have := name34 (b := b) ha hl
  simp only [bothS_mk e1 e2, sameQ]
  rw [beq_eq_false_iff_ne.2 this]
end Go.Proofs.YtgpecklibcgifaaGreatDoor
/- The law SyntaxNames, walked. -/
namespace Go.Proofs.YtgpecklibcgifaaGreatDoor
open Go.RowKit Go.Sort

set_option maxRecDepth 100000 in
set_option maxHeartbeats 4000000 in
theorem names_low (a b : List UInt8) (w : World) (hw : Env w) (ha : Lows a) (hb : Lows b) (hl : a.length + b.length ≤ 200) :
    Calls Tryz.prog 7 #[.string ⟨a.toArray⟩, .string ⟨b.toArray⟩] w fun e w' => e = .returned (.bool true) ∧ Below w.heap.size w w' := by
  have hget := ba_get
  have HS1 : Hid (∀ W, Env W → Calls Tryz.prog 17 #[.string ⟨#[100, 105, 115, 116, 105, 110, 103, 117, 105, 115, 104, 101, 100, 78, 97, 109, 101, 77, 97, 116, 99, 104]⟩, .string ⟨(s1 a b).toArray⟩, .string ⟨(s2 a b).toArray⟩] W fun e w' => e = .returned (.tuple #[.bool true, .int .i64 0]) ∧ Below W.heap.size W w') := Lib.hid fun W hW => by
    have h := Same_c nDn (s1 a b) (s2 a b) W hW (by decide)
    rw [same12 ha hb hl] at h
    exact h
  have HS2 : Hid (∀ W, Env W → Calls Tryz.prog 17 #[.string ⟨#[100, 105, 115, 116, 105, 110, 103, 117, 105, 115, 104, 101, 100, 78, 97, 109, 101, 77, 97, 116, 99, 104]⟩, .string ⟨(s3 a).toArray⟩, .string ⟨(s4 a).toArray⟩] W fun e w' => e = .returned (.tuple #[.bool false, .int .i64 0]) ∧ Below W.heap.size W w') := Lib.hid fun W hW => by
    have h := Same_c nDn (s3 a) (s4 a) W hW (by decide)
    rw [same34 (b := b) ha hl] at h
    exact h
  have HA := Lib.hid ha
  have HB := Lib.hid hb
  clear ha hb
  have cat1 : ∀ W, (Op.stringOp .add ⟨#[99, 110, 61]⟩ ⟨a.toArray⟩).run Tryz.prog W = .ok (.string ⟨([99, 110, 61] ++ a).toArray⟩) W := fun W => run_string_add_lists (P := Tryz.prog) W [99, 110, 61] a (by simp) (by omega)
  have cat2 : ∀ W, (Op.stringOp .add ⟨([99, 110, 61] ++ a).toArray⟩ ⟨#[43, 83, 78, 61]⟩).run Tryz.prog W = .ok (.string ⟨([99, 110, 61] ++ a ++ [43, 83, 78, 61]).toArray⟩) W := fun W => run_string_add_lists (P := Tryz.prog) W _ [43, 83, 78, 61] (by simp; omega) (by simp)
  have cat3 : ∀ W, (Op.stringOp .add ⟨([99, 110, 61] ++ a ++ [43, 83, 78, 61]).toArray⟩ ⟨b.toArray⟩).run Tryz.prog W = .ok (.string ⟨([99, 110, 61] ++ a ++ [43, 83, 78, 61] ++ b).toArray⟩) W := fun W => run_string_add_lists (P := Tryz.prog) W _ b (by simp; omega) (by omega)
  have cat4 : ∀ W, (Op.stringOp .add ⟨([99, 110, 61] ++ a ++ [43, 83, 78, 61] ++ b).toArray⟩ ⟨#[44, 68, 67, 61, 120]⟩).run Tryz.prog W = .ok (.string ⟨(s1 a b).toArray⟩) W := fun W => run_string_add_lists (P := Tryz.prog) W _ [44, 68, 67, 61, 120] (by simp; omega) (by simp)
  have cat5 : ∀ W, (Op.stringOp .add ⟨#[32, 115, 110, 32, 61, 32]⟩ ⟨b.toArray⟩).run Tryz.prog W = .ok (.string ⟨([32, 115, 110, 32, 61, 32] ++ b).toArray⟩) W := fun W => run_string_add_lists (P := Tryz.prog) W [32, 115, 110, 32, 61, 32] b (by simp) (by omega)
  have cat6 : ∀ W, (Op.stringOp .add ⟨([32, 115, 110, 32, 61, 32] ++ b).toArray⟩ ⟨#[32, 43, 32, 67, 78, 61]⟩).run Tryz.prog W = .ok (.string ⟨([32, 115, 110, 32, 61, 32] ++ b ++ [32, 43, 32, 67, 78, 61]).toArray⟩) W := fun W => run_string_add_lists (P := Tryz.prog) W _ [32, 43, 32, 67, 78, 61] (by simp; omega) (by simp)
  have cat7 : ∀ W, (Op.stringOp .add ⟨([32, 115, 110, 32, 61, 32] ++ b ++ [32, 43, 32, 67, 78, 61]).toArray⟩ ⟨a.toArray⟩).run Tryz.prog W = .ok (.string ⟨([32, 115, 110, 32, 61, 32] ++ b ++ [32, 43, 32, 67, 78, 61] ++ a).toArray⟩) W := fun W => run_string_add_lists (P := Tryz.prog) W _ a (by simp; omega) (by omega)
  have cat8 : ∀ W, (Op.stringOp .add ⟨([32, 115, 110, 32, 61, 32] ++ b ++ [32, 43, 32, 67, 78, 61] ++ a).toArray⟩ ⟨#[44, 32, 100, 99, 32, 61, 32, 88, 32]⟩).run Tryz.prog W = .ok (.string ⟨(s2 a b).toArray⟩) W := fun W => run_string_add_lists (P := Tryz.prog) W _ [44, 32, 100, 99, 32, 61, 32, 88, 32] (by simp; omega) (by simp)
  have cat9 : ∀ W, (Op.stringOp .add ⟨([99, 110, 61] ++ a).toArray⟩ ⟨#[44, 100, 99, 61, 120]⟩).run Tryz.prog W = .ok (.string ⟨(s3 a).toArray⟩) W := fun W => run_string_add_lists (P := Tryz.prog) W _ [44, 100, 99, 61, 120] (by simp; omega) (by simp)
  have cat0 : ∀ W, (Op.stringOp .add ⟨([99, 110, 61] ++ a).toArray⟩ ⟨#[122, 44, 100, 99, 61, 120]⟩).run Tryz.prog W = .ok (.string ⟨(s4 a).toArray⟩) W := fun W => run_string_add_lists (P := Tryz.prog) W _ [122, 44, 100, 99, 61, 120] (by simp; omega) (by simp)
  generalize s1 a b = S1 at *
  generalize s2 a b = S2 at *
  generalize s3 a = S3 at *
  generalize s4 a = S4 at *
  generalize [32, 115, 110, 32, 61, 32] ++ b ++ [32, 43, 32, 67, 78, 61] ++ a = T1 at *
  generalize [32, 115, 110, 32, 61, 32] ++ b ++ [32, 43, 32, 67, 78, 61] = T2 at *
  generalize [32, 115, 110, 32, 61, 32] ++ b = T3 at *
  generalize [99, 110, 61] ++ a ++ [43, 83, 78, 61] ++ b = T4 at *
  generalize [99, 110, 61] ++ a ++ [43, 83, 78, 61] = T5 at *
  generalize [99, 110, 61] ++ a = T6 at *
  have hl' : ¬ ((200 : Int) < (a.length : Int) + (b.length : Int)) := by omega
  go_enter Tryz.func7, Tryz.ntmps7
  go_wp2_with fail
  go_loop [5] (fun i => ∃ k : Nat, k ≤ a.length ∧ i = .int .i64 k) (fun i => a.length - (intOf i).toNat)
  case atStart => exact ⟨0, Nat.zero_le _, rfl⟩
  case round =>
    obtain ⟨k, hk, rfl⟩ := hrel
    by_cases hlt : k < a.length
    · have hc := HA.out a[k] (List.getElem_mem hlt)
      have q1 : ¬ ((a[k].toNat : Int) < 97) := by omega
      have q2 : ¬ ((122 : Int) < (a[k].toNat : Int)) := by omega
      clear hc
      go_wp2
      go_round
      case rel => exact ⟨k + 1, by omega, by go_num⟩
      case measure => simp [intOf]; omega
    · go_wp2_with fail
      go_loop [6] (fun i => ∃ k : Nat, k ≤ b.length ∧ i = .int .i64 k) (fun i => b.length - (intOf i).toNat)
      case atStart => exact ⟨0, Nat.zero_le _, rfl⟩
      case round =>
        obtain ⟨j, hj, rfl⟩ := hrel
        by_cases hlt2 : j < b.length
        · have hc := HB.out b[j] (List.getElem_mem hlt2)
          have q1 : ¬ ((b[j].toNat : Int) < 97) := by omega
          have q2 : ¬ ((122 : Int) < (b[j].toNat : Int)) := by omega
          clear hc
          go_wp2
          go_round
          case rel => exact ⟨j + 1, by omega, by go_num⟩
          case measure => simp [intOf]; omega
        · go_wp2_with fail
          refine (HS1.out _ hw).mono ?_
          rintro e w1 ⟨rfl, hb1⟩
          go_wp2_with fail
          refine (HS2.out _ (hw.keep hb1)).mono ?_
          rintro e w2 ⟨rfl, hb2⟩
          have hB2 := hb1.trans (hb2.mono hb1.size)
          go_wp2_with (go_at_call 10; refine (alive_c _ (hw.keep hB2)).mono ?_; rintro e w3 ⟨rfl, hb3⟩)
          go_ret
          exact ⟨rfl, hB2.trans (hb3.mono hB2.size)⟩
def lowC (c : UInt8) : Prop := 97 ≤ c.toNat ∧ c.toNat ≤ 122
theorem not_lows {l : List UInt8} (h : ¬ Lows l) : ∃ i, ∃ hi : i < l.length, ¬ lowC l[i] := by
  apply Classical.byContradiction
  intro hn
  apply h
  intro c hc
  obtain ⟨i, hi, rfl⟩ := List.mem_iff_getElem.1 hc
  apply Classical.byContradiction
  intro h2
  exact hn ⟨i, hi, h2⟩
set_option maxRecDepth 100000 in
set_option maxHeartbeats 4000000 in
theorem names_long (a b : List UInt8) (w : World) (hw : Env w) (la : a.length ≤ 140737488351232) (lb : b.length ≤ 140737488351232) (hl : ¬ a.length + b.length ≤ 200) :
    Calls Tryz.prog 7 #[.string ⟨a.toArray⟩, .string ⟨b.toArray⟩] w fun e w' => e = .returned (.bool true) ∧ Below w.heap.size w w' := by
  have hl' : (200 : Int) < (a.length : Int) + (b.length : Int) := by omega
  go_enter Tryz.func7, Tryz.ntmps7
  go_wp2_with (go_at_call 10; refine (alive_c _ hw).mono ?_; rintro e w3 ⟨rfl, hb3⟩)
  go_ret
  exact ⟨rfl, hb3⟩
set_option maxRecDepth 100000 in
set_option maxHeartbeats 4000000 in
theorem names_a (a b : List UInt8) (w : World) (hw : Env w) (hl : a.length + b.length ≤ 200) (i : Nat) (hi : i < a.length) (hbad : ¬ lowC a[i]) :
    Calls Tryz.prog 7 #[.string ⟨a.toArray⟩, .string ⟨b.toArray⟩] w fun e w' => e = .returned (.bool true) ∧ Below w.heap.size w w' := by
  have hget := ba_get
  have HBAD := Lib.hid hbad
  clear hbad
  have hl' : ¬ ((200 : Int) < (a.length : Int) + (b.length : Int)) := by omega
  go_enter Tryz.func7, Tryz.ntmps7
  go_wp2_with fail
  go_loop [5] (fun s => ∃ k : Nat, k ≤ i ∧ s = .int .i64 k) (fun s => a.length - (intOf s).toNat)
  case atStart => exact ⟨0, Nat.zero_le _, rfl⟩
  case round =>
    obtain ⟨k, hk, rfl⟩ := hrel
    have hlt : k < a.length := by omega
    by_cases hlow : lowC a[k]
    · have hne : k ≠ i := by intro e; subst e; exact HBAD.out hlow
      have q1 : ¬ ((a[k].toNat : Int) < 97) := by have := hlow.1; omega
      have q2 : ¬ ((122 : Int) < (a[k].toNat : Int)) := by have := hlow.2; omega
      clear hlow
      go_wp2
      go_round
      case rel => exact ⟨k + 1, by omega, by go_num⟩
      case measure => simp [intOf]; omega
    · by_cases q1 : (a[k].toNat : Int) < 97
      · clear hlow
        go_wp2_with (go_at_call 10; refine (alive_c _ hw).mono ?_; rintro e w3 ⟨rfl, hb3⟩)
        go_ret
        exact ⟨rfl, hb3⟩
      · have q2 : (122 : Int) < (a[k].toNat : Int) := by unfold lowC at hlow; omega
        clear hlow
        go_wp2_with (go_at_call 10; refine (alive_c _ hw).mono ?_; rintro e w3 ⟨rfl, hb3⟩)
        go_ret
        exact ⟨rfl, hb3⟩
set_option maxRecDepth 100000 in
set_option maxHeartbeats 4000000 in
theorem names_b (a b : List UInt8) (w : World) (hw : Env w) (hl : a.length + b.length ≤ 200) (ha : Lows a) (i : Nat) (hi : i < b.length) (hbad : ¬ lowC b[i]) :
    Calls Tryz.prog 7 #[.string ⟨a.toArray⟩, .string ⟨b.toArray⟩] w fun e w' => e = .returned (.bool true) ∧ Below w.heap.size w w' := by
  have hget := ba_get
  have HBAD := Lib.hid hbad
  have HA := Lib.hid ha
  clear hbad ha
  have hl' : ¬ ((200 : Int) < (a.length : Int) + (b.length : Int)) := by omega
  go_enter Tryz.func7, Tryz.ntmps7
  go_wp2_with fail
  go_loop [5] (fun i => ∃ k : Nat, k ≤ a.length ∧ i = .int .i64 k) (fun i => a.length - (intOf i).toNat)
  case atStart => exact ⟨0, Nat.zero_le _, rfl⟩
  case round =>
    obtain ⟨k, hk, rfl⟩ := hrel
    by_cases hlt : k < a.length
    · have hc := HA.out a[k] (List.getElem_mem hlt)
      have q1 : ¬ ((a[k].toNat : Int) < 97) := by omega
      have q2 : ¬ ((122 : Int) < (a[k].toNat : Int)) := by omega
      clear hc
      go_wp2
      go_round
      case rel => exact ⟨k + 1, by omega, by go_num⟩
      case measure => simp [intOf]; omega
    · go_wp2_with fail
      go_loop [6] (fun s => ∃ k : Nat, k ≤ i ∧ s = .int .i64 k) (fun s => b.length - (intOf s).toNat)
      case atStart => exact ⟨0, Nat.zero_le _, rfl⟩
      case round =>
        obtain ⟨j, hj, rfl⟩ := hrel
        have hlt2 : j < b.length := by omega
        by_cases hlow : lowC b[j]
        · have hne : j ≠ i := by intro e; subst e; exact HBAD.out hlow
          have q1 : ¬ ((b[j].toNat : Int) < 97) := by have := hlow.1; omega
          have q2 : ¬ ((122 : Int) < (b[j].toNat : Int)) := by have := hlow.2; omega
          clear hlow
          go_wp2
          go_round
          case rel => exact ⟨j + 1, by omega, by go_num⟩
          case measure => simp [intOf]; omega
        · by_cases q1 : (b[j].toNat : Int) < 97
          · clear hlow
            go_wp2_with (go_at_call 10; refine (alive_c _ hw).mono ?_; rintro e w3 ⟨rfl, hb3⟩)
            go_ret
            exact ⟨rfl, hb3⟩
          · have q2 : (122 : Int) < (b[j].toNat : Int) := by unfold lowC at hlow; omega
            clear hlow
            go_wp2_with (go_at_call 10; refine (alive_c _ hw).mono ?_; rintro e w3 ⟨rfl, hb3⟩)
            go_ret
            exact ⟨rfl, hb3⟩
theorem names_c (a b : List UInt8) (w : World) (hw : Env w) (la : a.length ≤ 140737488351232) (lb : b.length ≤ 140737488351232) :
    Calls Tryz.prog 7 #[.string ⟨a.toArray⟩, .string ⟨b.toArray⟩] w fun e w' => e = .returned (.bool true) ∧ Below w.heap.size w w' := by
  by_cases hl : a.length + b.length ≤ 200
  · by_cases ha : Lows a
    · by_cases hb : Lows b
      · exact names_low a b w hw ha hb hl
      · obtain ⟨i, hi, h⟩ := not_lows hb
        exact names_b a b w hw hl ha i hi h
    · obtain ⟨i, hi, h⟩ := not_lows ha
      exact names_a a b w hw hl i hi h
  · exact names_long a b w hw la lb hl
end Go.Proofs.YtgpecklibcgifaaGreatDoor
