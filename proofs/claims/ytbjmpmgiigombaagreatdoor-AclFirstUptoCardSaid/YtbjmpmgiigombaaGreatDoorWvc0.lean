import Derived.Test.YtbjmpmgiigombaaGreatDoorWvb6
import Derived.Lib.Replace
import Derived.Lib.IndexBytes
set_option linter.all false
set_option maxHeartbeats 8000000
namespace Go.Proofs.YtbjmpmgiigombaaGreatDoor
theorem index_hit0 (c : UInt8) (l : List UInt8) : Lib.index (c :: l) [c] = 0 := by
 rw [Lib.index, if_pos (by simp [List.isPrefixOf])]
theorem index_miss0 {b c : UInt8} (h : b ≠ c) (l : List UInt8) : Lib.index (b :: l) [c] = if Lib.index l [c] == -1 then -1 else Lib.index l [c] + 1 := by
 rw [Lib.index, if_neg (by simp [List.isPrefixOf, Ne.symm h])]
theorem repl_ne {b c : UInt8} (h : b ≠ c) (new : List UInt8) : ∀ (k : Nat) (l : List UInt8), Lib.replaceK [c] new k (b :: l) = b :: Lib.replaceK [c] new k l
 | 0, l => rfl
 | k + 1, l => by
  rw [Lib.replaceK, Lib.replaceK, index_miss0 h]
  have hge := Lib.index_ge l [c]
  by_cases hi : Lib.index l [c] = -1
  ·rw [hi]; simp
  ·have e1 : (Lib.index l [c] == -1) = false := beq_eq_false_iff_ne.2 hi
   have e2 : (Lib.index l [c] + 1 == -1) = false := beq_eq_false_iff_ne.2 (by omega)
   obtain ⟨i, hi2⟩ : ∃ i : Nat, Lib.index l [c] = i := ⟨(Lib.index l [c]).toNat, by omega⟩
   rw [e1]
   simp only [Bool.false_eq_true, if_false, e2]
   rw [hi2]
   have e3 : ((i : Int) + 1).toNat = i + 1 := by omega
   have e4 : ((i : Int)).toNat = i := by omega
   rw [e3, e4, show i + 1 + [c].length = (i + [c].length) + 1 by omega]
   simp
theorem repl_one (c : UInt8) (new : List UInt8) : ∀ (s : List UInt8) (k : Nat), s.count c ≤ k → Lib.replaceK [c] new k s = s.flatMap (fun x => if x == c then new else [x])
 | [], k, _ => by
  cases k with
  | zero => rfl
  | succ k => rw [Lib.replaceK, if_pos (by rw [Lib.index]; simp)]; rfl
 | b :: l, k, h => by
  rw [List.flatMap_cons]
  by_cases hb : b = c
  ·subst hb
   rw [List.count_cons_self] at h
   obtain ⟨k, rfl⟩ : ∃ q, k = q + 1 := ⟨k - 1, by omega⟩
   rw [Lib.replaceK, index_hit0, if_neg (by decide), if_pos (by simp)]
   simp only [Int.toNat_zero, List.take_zero, List.nil_append, Nat.zero_add, List.length_singleton, List.drop_succ_cons, List.drop_zero]
   rw [repl_one b new l k (by omega)]
  ·rw [List.count_cons_of_ne hb] at h
   have hbc : (b == c) = false := beq_eq_false_iff_ne.2 hb
   rw [repl_ne hb, repl_one c new l k h, hbc]
   rfl
theorem replAll_one (c : UInt8) (new : List UInt8) (hne : new ≠ [c]) (s : List UInt8) : Lib.replaceAll s [c] new = s.flatMap (fun x => if x == c then new else [x]) := by
 have h : ([c] == new) = false := beq_eq_false_iff_ne.2 (Ne.symm hne)
 unfold Lib.replaceAll Lib.replace
 rw [h]
 simp only [Bool.false_eq_true, if_false]
 unfold Lib.replaceNum
 rw [if_pos (.inl (by decide)), Lib.count_one]
 exact repl_one c new s _ (Nat.le_refl _)
theorem quote_repl (s : List UInt8) : 34 :: Lib.replaceAll (Lib.replaceAll s [92] [92, 92]) [34] [92, 34] ++ [34] = quoteA s := by
 rw [replAll_one 92 [92, 92] (by decide), replAll_one 34 [92, 34] (by decide)]
 unfold quoteA
 congr 2
 induction s with
 | nil => rfl
 | cons c s ih =>
  rw [List.flatMap_cons, List.flatMap_append, ih, List.flatMap_cons]
  congr 1
  by_cases h : c = 92
  ·subst h; rfl
  ·have h1 : (c == 92) = false := beq_eq_false_iff_ne.2 h
   simp [h]
theorem repl_len (s : List UInt8) (c : UInt8) (new : List UInt8) : Lib.countB ⟨s.toArray⟩ ⟨#[c]⟩ ≤ s.length := by
 have : Lib.countB ⟨s.toArray⟩ ⟨#[c]⟩ = Lib.count s [c] := rfl
 rw [this, Lib.count_one]
 exact List.count_le_length
theorem cut_one (c : UInt8) (s : List UInt8) : Lib.cut s [c] = (s.takeWhile (· != c), (s.dropWhile (· != c)).tail, s.contains c) := by
 induction s with
 | nil =>
  unfold Lib.cut
  rw [if_neg (by rw [Lib.index]; simp)]
  rfl
 | cons b s ih =>
  unfold Lib.cut at ih ⊢
  by_cases hb : b = c
  ·subst hb
   rw [index_hit0, if_pos (by decide)]
   simp
  ·have hbc : (b == c) = false := beq_eq_false_iff_ne.2 hb
   have hcb : (c == b) = false := beq_eq_false_iff_ne.2 (Ne.symm hb)
   rw [index_miss0 hb, List.contains_cons, hcb, Bool.false_or]
   have hge := Lib.index_ge s [c]
   have hne : (b != c) = true := by simp [hb]
   rw [List.takeWhile_cons, if_pos hne, List.dropWhile_cons, if_pos hne]
   by_cases hi : Lib.index s [c] = -1
   ·rw [hi] at ih ⊢
    simp only [beq_self_eq_true, if_true]
    rw [if_neg (by decide)] at ih ⊢
    injection ih with h1 h2
    injection h2 with h2 h3
    rw [← h1, ← h2, ← h3]
   ·have e1 : (Lib.index s [c] == -1) = false := beq_eq_false_iff_ne.2 hi
    obtain ⟨i, hi2⟩ : ∃ i : Nat, Lib.index s [c] = i := ⟨(Lib.index s [c]).toNat, by omega⟩
    rw [e1]
    simp only [Bool.false_eq_true, if_false]
    rw [hi2] at ih ⊢
    rw [if_pos (by omega)] at ih ⊢
    injection ih with h1 h2
    injection h2 with h2 h3
    rw [← h1, ← h2, ← h3]
    have e3 : ((i : Int) + 1).toNat = i + 1 := by omega
    have e4 : ((i : Int)).toNat = i := by omega
    rw [e3, e4]
    rfl
def escQ (s : List UInt8) : List UInt8 := s.flatMap fun c => if c == 92 then [92, 92] else if c == 34 then [92, 34] else [c]
theorem quoteA_esc (s : List UInt8) : quoteA s = 34 :: escQ s ++ [34] := rfl
theorem escQ_cons (c : UInt8) (s : List UInt8) : escQ (c :: s) = (if c == 92 then [92, 92] else if c == 34 then [92, 34] else [c]) ++ escQ s := by
 unfold escQ
 rw [List.flatMap_cons]
theorem quoteF_34 (t : List UInt8) : quoteF (34 :: t) = some ([34], t) := by cases t <;> rfl
theorem quoteF_92 (d : UInt8) (t : List UInt8) : quoteF (92 :: d :: t) = match quoteF t with
  | none => none
  | some (a, b) => some (92 :: d :: a, b) := rfl
theorem quoteF_go {c : UInt8} (h1 : (c == 34) = false) (h2 : (c == 92) = false) (t : List UInt8) : quoteF (c :: t) = match quoteF t with
  | none => none
  | some (a, b) => some (c :: a, b) := by
 rw [quoteF.eq_def]
 simp only [h1, h2, Bool.false_eq_true, if_false]
 rfl
theorem unqF_go {c : UInt8} (h1 : (c == 34) = false) (h2 : (c == 92) = false) (t : List UInt8) : unqF (c :: t) = (unqF t).map (c :: ·) := by
 rw [unqF.eq_def]
 simp only [h1, h2, Bool.false_eq_true, if_false]
theorem unqF_92 {d : UInt8} (h : (d == 34 || d == 92) = true) (t : List UInt8) : unqF (92 :: d :: t) = (unqF t).map (d :: ·) := by
 rw [unqF.eq_def]
 simp only [beq_self_eq_true, if_true, h]
theorem quoteF_esc (r : List UInt8) : ∀ s : List UInt8, quoteF (escQ s ++ 34 :: r) = some (escQ s ++ [34], r)
 | [] => by
  exact quoteF_34 r
 | c :: s => by
  have ih := quoteF_esc r s
  rw [escQ_cons]
  by_cases h1 : c = 92
  ·subst h1
   show quoteF (92 :: 92 :: (escQ s ++ 34 :: r)) = _
   rw [quoteF_92, ih]
   rfl
  ·by_cases h2 : c = 34
   ·subst h2
    show quoteF (92 :: 34 :: (escQ s ++ 34 :: r)) = _
    rw [quoteF_92, ih]
    rfl
   ·have e1 : (c == 92) = false := beq_eq_false_iff_ne.2 h1
    have e2 : (c == 34) = false := beq_eq_false_iff_ne.2 h2
    rw [e1, e2]
    show quoteF (c :: (escQ s ++ 34 :: r)) = _
    rw [quoteF_go e2 e1, ih]
    rfl
theorem unqF_esc : ∀ s : List UInt8, unqF (escQ s) = some s
 | [] => rfl
 | c :: s => by
  have ih := unqF_esc s
  rw [escQ_cons]
  by_cases h1 : c = 92
  ·subst h1
   show unqF (92 :: 92 :: escQ s) = _
   rw [unqF_92 (by decide), ih]
   rfl
  ·by_cases h2 : c = 34
   ·subst h2
    show unqF (92 :: 34 :: escQ s) = _
    rw [unqF_92 (by decide), ih]
    rfl
   ·have e1 : (c == 92) = false := beq_eq_false_iff_ne.2 h1
    have e2 : (c == 34) = false := beq_eq_false_iff_ne.2 h2
    rw [e1, e2]
    show unqF (c :: escQ s) = _
    rw [unqF_go e2 e1, ih]
    rfl
theorem unquoted_quote (s : List UInt8) : unquotedA (quoteA s) = some s := by
 rw [quoteA_esc]
 show unquotedA (34 :: (escQ s ++ [34])) = _
 unfold unquotedA
 simp only [List.getLast?_concat, List.dropLast_concat]
 rw [if_pos (by decide)]
 exact unqF_esc s
theorem esc_unqF : ∀ (s t : List UInt8), unqF s = some t → escQ t = s
 | [], t, h => by
  cases h
  rfl
 | c :: s, t, h => by
  by_cases h92 : c = 92
  ·subst h92
   match s, h with
   | [], h => cases h
   | d :: s', h =>
    by_cases hd : (d == 34 || d == 92) = true
    ·rw [unqF_92 hd, Option.map_eq_some_iff] at h
     obtain ⟨u, hu, rfl⟩ := h
     rw [escQ_cons, esc_unqF s' u hu]
     rw [Bool.or_eq_true, beq_iff_eq, beq_iff_eq] at hd
     rcases hd with rfl | rfl <;> rfl
    ·rw [unqF.eq_def] at h
     simp only [beq_self_eq_true, if_true] at h
     rw [if_neg hd] at h
     cases h
  ·have e1 : (c == 92) = false := beq_eq_false_iff_ne.2 h92
   by_cases h34 : c = 34
   ·subst h34
    rw [unqF.eq_def] at h
    simp at h
   ·have e2 : (c == 34) = false := beq_eq_false_iff_ne.2 h34
    rw [unqF_go e2 e1, Option.map_eq_some_iff] at h
    obtain ⟨u, hu, rfl⟩ := h
    rw [escQ_cons, esc_unqF s u hu, e1, e2]
    rfl
theorem quote_unquoted {s t : List UInt8} (h : unquotedA s = some t) : quoteA t = s := by
 unfold unquotedA at h
 split at h
 ·cases h
 ·next c u =>
  split at h
  ·cases h
  ·next d hd =>
   split at h
   ·next hcd =>
    rw [Bool.and_eq_true, beq_iff_eq, beq_iff_eq] at hcd
    obtain ⟨rfl, rfl⟩ := hcd
    rw [quoteA_esc, esc_unqF _ _ h]
    show 34 :: (u.dropLast ++ [34]) = 34 :: u
    congr 1
    have hne : u ≠ [] := by rintro rfl; simp at hd
    rw [List.getLast?_eq_some_getLast hne] at hd
    have := List.dropLast_concat_getLast hne
    rw [Option.some.inj hd] at this
    exact this
   ·cases h
inductive GoodW : List UInt8 → Prop
 | plain {w : List UInt8} : w ≠ [] → (∀ c ∈ w, wordStop c = false) → GoodW w
 | quoted {p s : List UInt8} : (∀ c ∈ p, wordStop c = false) → GoodW (p ++ quoteA s)
theorem take_stop {p q : List UInt8} (hp : ∀ c ∈ p, wordStop c = false) (hq : q = [] ∨ ∃ c t, q = c :: t ∧ wordStop c = true) : (p ++ q).takeWhile (fun c => !wordStop c) = p ∧ (p ++ q).dropWhile (fun c => !wordStop c) = q := by
 induction p with
 | nil =>
  rcases hq with rfl | ⟨c, t, rfl, hc⟩
  ·exact ⟨rfl, rfl⟩
  ·simp [hc]
 | cons a p ih =>
  have ha := hp a (by simp)
  obtain ⟨h1, h2⟩ := ih (fun c hc => hp c (by simp [hc]))
  simp [ha, h1, h2]
theorem GoodW.head {w : List UInt8} (h : GoodW w) : ∃ c t, w = c :: t ∧ c ≠ 32 := by
 cases h with
 | plain hne hs =>
  cases w with
  | nil => exact absurd rfl hne
  | cons c t =>
   refine ⟨c, t, rfl, ?_⟩
   rintro rfl
   have := hs 32 (by simp)
   simp [wordStop] at this
 | @quoted p s hp =>
  cases p with
  | nil => exact ⟨34, _, rfl, by decide⟩
  | cons c t =>
   refine ⟨c, _, rfl, ?_⟩
   rintro rfl
   have := hp 32 (by simp)
   simp [wordStop] at this
theorem words_step {w : List UInt8} (h : GoodW w) (n : Nat) (acc : List (List UInt8)) :
  wordsG (n + 2) [] w acc = some (acc ++ [w]) ∧ ∀ t, ∃ m, n ≤ m ∧ wordsG (n + 2) [] (w ++ 32 :: t) acc = wordsG m [] ((32 :: t).dropWhile (· == 32)) (acc ++ [w]) := by
 cases h with
 | plain hne hs =>
  obtain ⟨a1, a2⟩ := take_stop hs (.inl rfl)
  rw [List.append_nil] at a1 a2
  constructor
  ·rw [wordsG, a2, a1]
   simp [hne]
  ·intro t
   obtain ⟨b1, b2⟩ := take_stop (q := 32 :: t) hs (.inr ⟨32, t, rfl, rfl⟩)
   refine ⟨n + 1, by omega, ?_⟩
   rw [wordsG, b2, b1]
   simp only [List.nil_append]
   rw [if_neg (by decide), if_neg hne]
 | @quoted p s hp =>
  have hw : p ++ quoteA s = p ++ 34 :: (escQ s ++ [34]) := rfl
  have hne : p ++ 34 :: (escQ s ++ [34]) ≠ [] := by simp
  rw [hw]
  constructor
  ·obtain ⟨a1, a2⟩ := take_stop (q := 34 :: (escQ s ++ [34])) hp (.inr ⟨34, _, rfl, rfl⟩)
   rw [wordsG, a2, a1]
   simp only [beq_self_eq_true, if_true, quoteF_esc [] s, List.nil_append]
   rw [wordsG]
   simp
  ·intro t
   obtain ⟨a1, a2⟩ := take_stop (q := 34 :: (escQ s ++ 34 :: 32 :: t)) hp (.inr ⟨34, _, rfl, rfl⟩)
   refine ⟨n, Nat.le_refl _, ?_⟩
   have e : p ++ 34 :: (escQ s ++ [34]) ++ 32 :: t = p ++ 34 :: (escQ s ++ 34 :: 32 :: t) := by simp
   rw [e, wordsG, a2, a1]
   simp only [beq_self_eq_true, if_true, quoteF_esc (32 :: t) s, List.nil_append]
   rw [wordsG]
   have d1 : (32 :: t).dropWhile (fun c => !wordStop c) = 32 :: t := by rw [List.dropWhile_cons, if_neg (by decide)]
   have d2 : (32 :: t).takeWhile (fun c => !wordStop c) = [] := by rw [List.takeWhile_cons, if_neg (by decide)]
   rw [d1, d2, List.append_nil]
   simp only
   rw [if_neg (by decide), if_neg hne]
theorem words_join : ∀ (ws : List (List UInt8)) (n : Nat) (acc : List (List UInt8)), ws ≠ [] → (∀ w ∈ ws, GoodW w) → 2 * ws.length ≤ n → wordsG n [] (joinL [32] ws) acc = some (acc ++ ws)
 | [], _, _, h, _, _ => absurd rfl h
 | [w], n, acc, _, hg, hn => by
  obtain ⟨n, rfl⟩ : ∃ m, n = m + 2 := ⟨n - 2, by simp at hn; omega⟩
  exact (words_step (hg w (by simp)) n acc).1
 | w :: v :: ws, n, acc, _, hg, hn => by
  obtain ⟨n, rfl⟩ : ∃ m, n = m + 2 := ⟨n - 2, by simp at hn; omega⟩
  obtain ⟨m, hm, he⟩ := (words_step (hg w (by simp)) n acc).2 (joinL [32] (v :: ws))
  have e : joinL [32] (w :: v :: ws) = w ++ 32 :: joinL [32] (v :: ws) := by rw [joinL]; simp
  obtain ⟨c, t, hv, hc⟩ := (hg v (by simp)).head
  have hd : (32 :: joinL [32] (v :: ws)).dropWhile (· == 32) = joinL [32] (v :: ws) := by
   have hj : ∃ t', joinL [32] (v :: ws) = c :: t' := by
    cases ws with
    | nil => exact ⟨t, by rw [joinL, hv]⟩
    | cons x xs => exact ⟨t ++ [32] ++ joinL [32] (x :: xs), by rw [joinL, hv]; simp⟩
   obtain ⟨t', ht⟩ := hj
   rw [ht, List.dropWhile_cons, if_pos (by decide), List.dropWhile_cons, if_neg (by simpa using hc)]
  rw [e, he, hd, words_join (v :: ws) m (acc ++ [w]) (by simp) (fun x hx => hg x (by simp [hx])) (by simp at hn ⊢; omega)]
  simp
theorem type_chars {t : List UInt8} (h : isTypeL t = true) : t ≠ [] ∧ ∀ c ∈ t, c ≠ 32 ∧ c ≠ 34 ∧ c ≠ 44 ∧ c ≠ 61 := by
 refine ⟨type_ne h, fun c hc => ?_⟩
 have h1 := type_all h c hc
 have h2 : ∀ d : UInt8, d = 32 ∨ d = 34 ∨ d = 44 ∨ d = 61 → inTy d = false := by
  rintro d (rfl | rfl | rfl | rfl) <;> decide +kernel
 refine ⟨?_, ?_, ?_, ?_⟩
 all_goals
  rintro rfl
  rw [h2 _ (by decide)] at h1
  cases h1
theorem split_one {t : List UInt8} (h : ∀ c ∈ t, c ≠ 44) : splitC t = [t] := by
 induction t with
 | nil => rfl
 | cons c t ih =>
  rw [splitC, if_neg (by simpa using h c (by simp)), ih (fun d hd => h d (by simp [hd]))]
theorem split_ne (t : List UInt8) : splitC t ≠ [] := by
 cases t with
 | nil => simp [splitC]
 | cons c t =>
  rw [splitC]
  split
  ·simp
  ·split <;> simp
theorem split_app {t : List UInt8} (h : ∀ c ∈ t, c ≠ 44) (r : List UInt8) : splitC (t ++ 44 :: r) = t :: splitC r := by
 induction t with
 | nil => rfl
 | cons c t ih =>
  rw [List.cons_append, splitC, if_neg (by simpa using h c (by simp)), ih (fun d hd => h d (by simp [hd]))]
theorem split_join : ∀ xs : List (List UInt8), xs ≠ [] → (∀ x ∈ xs, ∀ c ∈ x, c ≠ 44) → splitC (joinL [44] xs) = xs
 | [], h, _ => absurd rfl h
 | [x], _, h => split_one (h x (by simp))
 | x :: y :: t, _, h => by
  have e : joinL [44] (x :: y :: t) = x ++ 44 :: joinL [44] (y :: t) := by rw [joinL]; simp
  rw [e, split_app (h x (by simp)), split_join (y :: t) (by simp) (fun z hz => h z (by simp [hz]))]
theorem join_split : ∀ s : List UInt8, joinL [44] (splitC s) = s
 | [] => rfl
 | c :: s => by
  have ih := join_split s
  rw [splitC]
  by_cases hc : c = 44
  ·subst hc
   rw [if_pos (by decide)]
   cases hs : splitC s with
   | nil => exact absurd hs (split_ne s)
   | cons x l =>
    rw [hs] at ih
    have e : joinL [44] ([] :: x :: l) = 44 :: joinL [44] (x :: l) := by rw [joinL]; simp
    rw [e, ih]
  ·rw [if_neg (by simpa using hc)]
   cases hs : splitC s with
   | nil => exact absurd hs (split_ne s)
   | cons x l =>
    rw [hs] at ih
    simp only
    cases l with
    | nil =>
     have : x = s := ih
     rw [← this]; rfl
    | cons y l =>
     have e1 : joinL [44] ((c :: x) :: y :: l) = c :: joinL [44] (x :: y :: l) := by rw [joinL, joinL]; simp
     rw [e1, ih]
structure RowOK (row : List (List UInt8)) : Prop where
 plain : ∀ w ∈ row, w ≠ [] ∧ ∀ c ∈ w, c ≠ 61 ∧ wordStop c = false
 once : ∀ (k : Nat) (hk : k < row.length), idxOf row row[k] = some k
theorem rowWhat : RowOK whatWs := ⟨by decide +kernel, by decide +kernel⟩
theorem rowWho : RowOK whoWs := ⟨by decide +kernel, by decide +kernel⟩
theorem rowLevel : RowOK levelWs := ⟨by decide +kernel, by decide +kernel⟩
theorem inRow_nat {n : Int} {l : List (List UInt8)} (h : inRow n l = true) : ∃ k : Nat, n = k ∧ k < l.length := by
 unfold inRow at h
 rw [Bool.and_eq_true, decide_eq_true_eq, decide_eq_true_eq] at h
 exact ⟨n.toNat, by omega, by omega⟩
theorem wordAt_nat {l : List (List UInt8)} {k : Nat} (h : k < l.length) : wordAt l k = l[k] := by
 unfold wordAt
 rw [Int.toNat_natCast, List.getD_eq_getElem?_getD, List.getElem?_eq_getElem h]
 rfl
theorem take_61 {w : List UInt8} (h : ∀ c ∈ w, c ≠ 61) : w.takeWhile (· != 61) = w ∧ w.contains 61 = false ∧ ∀ r, (w ++ 61 :: r).takeWhile (· != 61) = w ∧ (w ++ 61 :: r).dropWhile (· != 61) = 61 :: r ∧ (w ++ 61 :: r).contains 61 = true := by
 induction w with
 | nil => simp
 | cons c w ih =>
  have hc := h c (by simp)
  obtain ⟨h1, h2, h3⟩ := ih (fun d hd => h d (by simp [hd]))
  refine ⟨by simp [hc, h1], by rw [List.contains_cons, h2]; simp [Ne.symm hc], fun r => ?_⟩
  obtain ⟨g1, g2, g3⟩ := h3 r
  exact ⟨by simp [hc, g1], by simp [hc, g2], by rw [List.cons_append, List.contains_cons, g3]; simp⟩
theorem kind_plain {row : List (List UInt8)} (hr : RowOK row) {nm : Nat → Bool} {k : Nat} (hk : k < row.length) (hn : nm k = false) : kindA row[k] row nm = some (k, []) := by
 obtain ⟨h1, h2, _⟩ := take_61 (fun c hc => (hr.plain _ (List.getElem_mem hk)).2 c hc |>.1)
 unfold kindA
 rw [h1, hr.once k hk]
 simp only
 rw [h2, hn]
 simp
theorem kind_name {row : List (List UInt8)} (hr : RowOK row) {nm : Nat → Bool} {k : Nat} (hk : k < row.length) (hn : nm k = true) (s : List UInt8) : kindA (row[k] ++ 61 :: quoteA s) row nm = some (k, s) := by
 obtain ⟨_, _, h3⟩ := take_61 (fun c hc => (hr.plain _ (List.getElem_mem hk)).2 c hc |>.1)
 obtain ⟨g1, g2, g3⟩ := h3 (quoteA s)
 unfold kindA
 rw [g1, hr.once k hk]
 simp only
 rw [g3, hn, g2]
 simp [unquoted_quote]
theorem kind_back {row : List (List UInt8)} {nm : Nat → Bool} {w : List UInt8} {k : Nat} {s : List UInt8} (h : kindA w row nm = some (k, s)) : ∃ hk : k < row.length, (nm k = true ∧ w = row[k] ++ 61 :: quoteA s) ∨ (nm k = false ∧ s = [] ∧ w = row[k]) := by
 unfold kindA at h
 cases hi : idxOf row (w.takeWhile (· != 61)) with
 | none => rw [hi] at h; cases h
 | some j =>
  rw [hi] at h
  simp only at h
  have hrow : ∃ hj : j < row.length, row[j] = w.takeWhile (· != 61) := by
   unfold idxOf at hi
   obtain ⟨h1, h2, _⟩ := List.findIdx?_eq_some_iff_getElem.1 hi
   exact ⟨h1, by simpa using h2⟩
  obtain ⟨hj, hrj⟩ := hrow
  cases hc : w.contains 61
  ·rw [hc] at h
   cases hn : nm j
   ·rw [hn] at h
    simp at h
    obtain ⟨rfl, rfl⟩ := h
    refine ⟨hj, .inr ⟨hn, rfl, ?_⟩⟩
    rw [hrj]
    have hall : ∀ c ∈ w, (c != 61) = true := by
     intro c hcm
     rw [bne_iff_ne]
     rintro rfl
     rw [List.contains_iff_mem.2 hcm] at hc
     cases hc
    clear hi hrj
    induction w with
    | nil => rfl
    | cons c w ih =>
     rw [List.takeWhile_cons, if_pos (hall c (by simp)), ← ih (by
      rw [List.contains_cons, Bool.or_eq_false_iff] at hc
      exact hc.2) (fun d hd => hall d (by simp [hd]))]
   ·rw [hn] at h
    simp at h
  ·rw [hc] at h
   cases hn : nm j
   ·rw [hn] at h
    simp at h
   ·rw [hn] at h
    simp only [bne_self_eq_false, Bool.false_eq_true, if_false, if_true, Option.map_eq_some_iff] at h
    obtain ⟨u, hu, he⟩ := h
    cases he
    refine ⟨hj, .inl ⟨hn, ?_⟩⟩
    rw [quote_unquoted hu, hrj]
    have hd : w.dropWhile (· != 61) = 61 :: (w.dropWhile (· != 61)).tail := by
     have hm : (61 : UInt8) ∈ w := List.contains_iff_mem.1 hc
     clear hi hrj hu hc
     induction w with
     | nil => simp at hm
     | cons c w ih =>
      by_cases h61 : c = 61
      ·subst h61; simp
      ·rw [List.dropWhile_cons, if_pos (by simpa using h61)]
       exact ih (by simpa [Ne.symm h61] using hm)
    rw [← hd, List.takeWhile_append_dropWhile]
theorem good_row {row : List (List UInt8)} (hr : RowOK row) {k : Nat} (hk : k < row.length) : GoodW row[k] := .plain (hr.plain _ (List.getElem_mem hk)).1 (fun c hc => ((hr.plain _ (List.getElem_mem hk)).2 c hc).2)
theorem good_name {row : List (List UInt8)} (hr : RowOK row) {k : Nat} (hk : k < row.length) (s : List UInt8) : GoodW (row[k] ++ 61 :: quoteA s) := by
 have e : row[k] ++ 61 :: quoteA s = (row[k] ++ [61]) ++ quoteA s := by simp
 rw [e]
 refine .quoted fun c hc => ?_
 rcases List.mem_append.1 hc with h | h
 ·exact ((hr.plain _ (List.getElem_mem hk)).2 c h).2
 ·rw [List.mem_singleton.1 h]; rfl
theorem grant_said {g : GrantS} (h : badGrant g = false) : ∃ (k l : Nat) (hk : k < whoWs.length) (hl : l < levelWs.length), g.who = k ∧ g.level = l ∧ (namedB k = false → g.name = []) ∧ grantWs g = [wBy, whoWs[k] ++ (if namedB k then 61 :: quoteA g.name else []), levelWs[l]] := by
 unfold badGrant at h
 simp only [Bool.or_eq_false_iff, Bool.not_eq_false', Bool.and_eq_false_iff] at h
 obtain ⟨⟨h1, h2⟩, h3⟩ := h
 obtain ⟨k, hk, hkl⟩ := inRow_nat h1
 obtain ⟨l, hl, hll⟩ := inRow_nat h2
 refine ⟨k, l, hkl, hll, hk, hl, fun hn => ?_, ?_⟩
 ·rw [hk] at h3
  rcases h3 with h3 | h3
  ·rw [hn] at h3; simp at h3
  ·simpa using h3
 ·unfold grantWs
  rw [hk, hl, wordAt_nat hkl, wordAt_nat hll]
theorem grants_read : ∀ (gs acc : List GrantS), (∀ g ∈ gs, badGrant g = false) → grantsP (gs.flatMap grantWs) acc = some (acc ++ gs, [])
 | [], acc, _ => by simp [grantsP]
 | g :: gs, acc, h => by
  obtain ⟨k, l, hk, hl, e1, e2, e3, e4⟩ := grant_said (h g (by simp))
  have hkind : kindA (whoWs[k] ++ (if namedB k then 61 :: quoteA g.name else [])) whoWs (fun k => namedB k) = some (k, g.name) := by
   cases hn : namedB k
   ·rw [e3 hn]
    have := kind_plain rowWho (nm := fun k => namedB k) hk hn
    simpa using this
   ·have := kind_name rowWho (nm := fun k => namedB k) hk hn g.name
    simpa using this
  have hg : (⟨(k : Int), g.name, (l : Int)⟩ : GrantS) = g := by
   cases g
   simp only at e1 e2
   subst e1 e2
   rfl
  rw [List.flatMap_cons, e4]
  show grantsP (wBy :: _ :: _ :: gs.flatMap grantWs) acc = _
  rw [grantsP, if_pos (by decide), hkind]
  simp only
  rw [rowLevel.once l hl]
  simp only
  rw [hg, grants_read gs _ (fun x hx => h x (by simp [hx]))]
  simp
theorem rule_said {r : RuleS} (h : saidA r = true) : ∃ (k : Nat) (hk : k < whatWs.length), r.what = k ∧ (k = 0 → r.name = []) ∧ r.grants ≠ [] ∧ (∀ g ∈ r.grants, badGrant g = false) ∧ (∀ t ∈ r.attrs, isTypeL t = true) ∧
  ruleWs r = wTo :: (whatWs[k] ++ (if k = 0 then [] else 61 :: quoteA r.name)) :: ((if r.attrs = [] then [] else [wAttrsEq ++ joinL [44] r.attrs]) ++ r.grants.flatMap grantWs) := by
 unfold saidA at h
 split at h
 ·cases h
 ·next hc =>
  simp only [Bool.or_eq_true, not_or, Bool.not_eq_true, Bool.not_eq_false', Bool.and_eq_false_iff] at hc
  obtain ⟨⟨h1, h2⟩, h3⟩ := hc
  simp only [Bool.and_eq_true, Bool.not_eq_true', List.any_eq_false, Bool.not_eq_true, Bool.not_eq_false'] at h
  obtain ⟨k, hk, hkl⟩ := inRow_nat h1
  refine ⟨k, hkl, hk, fun h0 => ?_, ?_, h.1, fun t ht => by have := h.2 t ht; simpa using this, ?_⟩
  ·rcases h2 with h2 | h2
   ·rw [hk, h0] at h2; simp at h2
   ·simpa using h2
  ·rintro he
   rw [he] at h3
   simp at h3
  ·unfold ruleWs
   rw [hk, wordAt_nat hkl]
   have e0 : (((k : Int) == 0) = true) ↔ k = 0 := by rw [beq_iff_eq]; omega
   by_cases h0 : k = 0
   ·subst h0
    cases ha : r.attrs <;> simp
   ·have e1 : ((k : Int) == 0) = false := by rw [beq_eq_false_iff_ne]; omega
    rw [e1]
    cases ha : r.attrs <;> simp [h0]
theorem join_len7 : ∀ ws : List (List UInt8), ws.length ≤ (joinL [32] ws).length + 1
 | [] => by simp
 | [x] => by simp
 | x :: y :: t => by
  have := join_len7 (y :: t)
  rw [joinL]
  simp only [List.length_append, List.length_cons, List.length_nil] at this ⊢
  omega
theorem attrs_good {attrs : List (List UInt8)} (h : ∀ t ∈ attrs, isTypeL t = true) : GoodW (wAttrsEq ++ joinL [44] attrs) := by
 have hj : ∀ xs : List (List UInt8), (∀ t ∈ xs, isTypeL t = true) → ∀ c ∈ joinL [44] xs, wordStop c = false := by
  intro xs
  induction xs with
  | nil => intro _ c hc; simp [joinL] at hc
  | cons x t ih =>
   intro hx c hc
   have hx1 := (type_chars (hx x (by simp))).2
   have one : ∀ c ∈ x, wordStop c = false := by
    intro c hc
    obtain ⟨q1, q2, _⟩ := hx1 c hc
    simp [wordStop, q1, q2]
   cases t with
   | nil => exact one c hc
   | cons y t =>
    rw [joinL] at hc
    rcases List.mem_append.1 hc with hc | hc
    ·rcases List.mem_append.1 hc with hc | hc
     ·exact one c hc
     ·rw [List.mem_singleton.1 hc]; rfl
    ·exact ih (fun z hz => hx z (by simp [hz])) c hc
 refine .plain (by simp [wAttrsEq]) fun c hc => ?_
 rcases List.mem_append.1 hc with hc | hc
 ·have : ∀ c ∈ wAttrsEq, wordStop c = false := by decide +kernel
  exact this c hc
 ·exact hj attrs h c hc
theorem rule_good {r : RuleS} (h : saidA r = true) : ∀ w ∈ ruleWs r, GoodW w := by
 obtain ⟨k, hk, _, _, _, hg, ha, e⟩ := rule_said h
 rw [e]
 intro w hw
 rcases List.mem_cons.1 hw with rfl | hw
 ·exact .plain (by decide) (by decide +kernel)
 ·rcases List.mem_cons.1 hw with rfl | hw
  ·by_cases h0 : k = 0
   ·rw [if_pos h0, List.append_nil]; exact good_row rowWhat hk
   ·rw [if_neg h0]; exact good_name rowWhat hk _
  ·rcases List.mem_append.1 hw with hw | hw
   ·split at hw
    ·simp at hw
    ·rw [List.mem_singleton.1 hw]; exact attrs_good ha
   ·obtain ⟨g, hg', hw⟩ := List.mem_flatMap.1 hw
    obtain ⟨k', l', hk', hl', _, _, _, e4⟩ := grant_said (hg g hg')
    rw [e4] at hw
    rcases List.mem_cons.1 hw with rfl | hw
    ·exact .plain (by decide) (by decide +kernel)
    ·rcases List.mem_cons.1 hw with rfl | hw
     ·cases hn : namedB k'
      ·simp only [Bool.false_eq_true, if_false, List.append_nil]; exact good_row rowWho hk'
      ·simp only [if_true]; exact good_name rowWho hk' _
     ·rw [List.mem_singleton.1 hw]; exact good_row rowLevel hl'
theorem prefix_self (p s : List UInt8) : p.isPrefixOf (p ++ s) = true := by
 rw [List.isPrefixOf_iff_prefix]
 exact List.prefix_append p s
theorem parse_print7 {r : RuleS} (h : saidA r = true) (hl : (joinL [32] (ruleWs r)).length ≤ 65536) : parseA (joinL [32] (ruleWs r)) = (0, r) := by
 have hw : aclWords (joinL [32] (ruleWs r)) = some (ruleWs r) := by
  unfold aclWords
  have hj := join_len7 (ruleWs r)
  have := words_join (ruleWs r) (2 * (joinL [32] (ruleWs r)).length + 2) [] (by
   obtain ⟨k, hk, _, _, _, _, _, e⟩ := rule_said h
   rw [e]; simp) (rule_good h) (by omega)
  simpa using this
 obtain ⟨k, hk, e1, e2, hne, hg, ha, e⟩ := rule_said h
 unfold parseA
 rw [if_neg (by omega), hw, e]
 simp only
 have hkind : kindA (whatWs[k] ++ (if k = 0 then [] else 61 :: quoteA r.name)) whatWs (fun k => k != 0) = some (k, r.name) := by
  by_cases h0 : k = 0
  ·rw [if_pos h0, List.append_nil, e2 h0]
   exact kind_plain rowWhat hk (by simpa using h0)
  ·rw [if_neg h0]
   exact kind_name rowWhat hk (by simpa using h0) r.name
 rw [if_neg (by decide), hkind]
 simp only
 have hat : attrsP ((if r.attrs = [] then [] else [wAttrsEq ++ joinL [44] r.attrs]) ++ r.grants.flatMap grantWs) = (r.attrs, r.grants.flatMap grantWs) := by
  by_cases h0 : r.attrs = []
  ·rw [if_pos h0, List.nil_append, h0]
   cases hgs : r.grants with
   | nil => exact absurd hgs hne
   | cons g gs =>
    obtain ⟨k', l', hk', hl', _, _, _, e4⟩ := grant_said (hg g (by rw [hgs]; simp))
    rw [List.flatMap_cons, e4]
    show attrsP (wBy :: _) = _
    unfold attrsP
    simp only
    rw [if_neg (by decide)]
    rfl
  ·rw [if_neg h0]
   show attrsP ((wAttrsEq ++ joinL [44] r.attrs) :: r.grants.flatMap grantWs) = _
   unfold attrsP
   simp only
   rw [if_pos (prefix_self _ _)]
   have : (wAttrsEq ++ joinL [44] r.attrs).drop 6 = joinL [44] r.attrs := by
    rw [show (6 : Nat) = wAttrsEq.length from rfl, List.drop_left]
   rw [this, split_join r.attrs h0 (fun x hx c hc => ((type_chars (ha x hx)).2 c hc).2.2.1)]
 rw [hat]
 simp only
 rw [if_neg (by
  rw [Bool.not_eq_true, List.any_eq_false]
  intro t ht
  rw [ha t ht]; simp), grants_read r.grants [] hg]
 simp only [List.nil_append, List.isEmpty_nil, Bool.not_true, Bool.false_or]
 rw [if_neg (by
  cases hgs : r.grants with
  | nil => exact absurd hgs hne
  | cons g gs => simp)]
 rw [← e1]
theorem idx_back {row : List (List UInt8)} {w : List UInt8} {k : Nat} (h : idxOf row w = some k) : ∃ hk : k < row.length, row[k] = w := by
 unfold idxOf at h
 obtain ⟨h1, h2, _⟩ := List.findIdx?_eq_some_iff_getElem.1 h
 exact ⟨h1, by simpa using h2⟩
theorem inRow_of {l : List (List UInt8)} {k : Nat} (h : k < l.length) : inRow k l = true := by
 unfold inRow
 rw [Bool.and_eq_true, decide_eq_true_eq, decide_eq_true_eq]
 omega
theorem grants_back : ∀ (n : Nat) (l : List (List UInt8)) (acc gs : List GrantS) (rest : List (List UInt8)), l.length ≤ n → grantsP l acc = some (gs, rest) → ∃ new, gs = acc ++ new ∧ (∀ g ∈ new, badGrant g = false) ∧ l = new.flatMap grantWs ++ rest
 | n, b :: k :: v :: l, acc, gs, rest, hn, h => by
  rw [grantsP] at h
  split at h
  ·next hb =>
   obtain rfl : b = wBy := by simpa using hb
   cases hk : kindA k whoWs (fun k => namedB k) with
   | none => rw [hk] at h; cases h
   | some x =>
    obtain ⟨who, name⟩ := x
    rw [hk] at h
    simp only at h
    cases hv : idxOf levelWs v with
    | none => rw [hv] at h; cases h
    | some lev =>
     rw [hv] at h
     simp only at h
     obtain ⟨new, h1, h2, h3⟩ : ∃ new, gs = (acc ++ [⟨(who : Int), name, (lev : Int)⟩]) ++ new ∧ (∀ g ∈ new, badGrant g = false) ∧ l = new.flatMap grantWs ++ rest := by
      cases n with
      | zero => simp at hn
      | succ n => exact grants_back n l _ gs rest (by simp at hn; omega) h
     obtain ⟨hwho, hkw⟩ := kind_back hk
     obtain ⟨hlev, hvw⟩ := idx_back hv
     refine ⟨⟨who, name, lev⟩ :: new, by rw [h1]; simp, ?_, ?_⟩
     ·intro g hg
      rcases List.mem_cons.1 hg with rfl | hg
      ·unfold badGrant
       rw [inRow_of hwho, inRow_of hlev]
       rcases hkw with ⟨hn', _⟩ | ⟨hn', rfl, _⟩
       ·rw [hn']; rfl
       ·simp
      ·exact h2 g hg
     ·rw [List.flatMap_cons, h3]
      have : grantWs ⟨who, name, lev⟩ = [wBy, k, v] := by
       unfold grantWs
       rw [wordAt_nat hwho, wordAt_nat hlev, hvw]
       rcases hkw with ⟨hn', rfl⟩ | ⟨hn', rfl, rfl⟩
       ·rw [hn']; rfl
       ·rw [hn']; simp
      rw [this]
      simp
  ·cases h
   exact ⟨[], by simp, by simp, by simp⟩
 | _, [], acc, gs, rest, _, h => by
  rw [grantsP] at h
  ·cases h
   exact ⟨[], by simp, by simp, by simp⟩
  ·simp
 | _, [a], acc, gs, rest, _, h => by
  rw [grantsP] at h
  ·cases h
   exact ⟨[], by simp, by simp, by simp⟩
  ·simp
 | _, [a, b], acc, gs, rest, _, h => by
  rw [grantsP] at h
  ·cases h
   exact ⟨[], by simp, by simp, by simp⟩
  ·simp
theorem attrs_back (l : List (List UInt8)) : ((attrsP l).1 = [] ∧ (attrsP l).2 = l) ∨ ((attrsP l).1 ≠ [] ∧ l = (wAttrsEq ++ joinL [44] (attrsP l).1) :: (attrsP l).2) := by
 unfold attrsP
 cases l with
 | nil => exact .inl ⟨rfl, rfl⟩
 | cons a l =>
  simp only
  split
  ·next h =>
   refine .inr ⟨split_ne _, ?_⟩
   rw [join_split]
   rw [List.isPrefixOf_iff_prefix] at h
   obtain ⟨t, rfl⟩ := h
   rw [show (6 : Nat) = wAttrsEq.length from rfl, List.drop_left]
  ·exact .inl ⟨rfl, rfl⟩
theorem parse_said {text : List UInt8} {x : RuleS} (h : parseA text = (0, x)) : saidA x = true ∧ aclWords text = some (ruleWs x) ∧ text.length ≤ 65536 := by
 unfold parseA at h
 split at h
 ·cases h
 ·next hlen =>
  cases hw : aclWords text with
  | none => rw [hw] at h; simp at h
  | some ws =>
   rw [hw] at h
   match ws, hw, h with
   | [], _, h => simp at h
   | [_], _, h => simp at h
   | t :: k :: l, hw, h =>
    simp only at h
    split at h
    ·simp at h
    ·next ht =>
     obtain rfl : t = wTo := by simpa using ht
     cases hk : kindA k whatWs (fun k => k != 0) with
     | none => rw [hk] at h; simp at h
     | some y =>
      obtain ⟨what, name⟩ := y
      rw [hk] at h
      simp only at h
      split at h
      ·simp at h
      ·next ha =>
       cases hg : grantsP (attrsP l).2 [] with
       | none => rw [hg] at h; simp at h
       | some z =>
        obtain ⟨gs, rest⟩ := z
        rw [hg] at h
        simp only at h
        split at h
        ·simp at h
        ·next hr =>
         cases h
         rw [Bool.or_eq_true, not_or, Bool.not_eq_true, Bool.not_eq_true] at hr
         obtain ⟨hr1, hr2⟩ := hr
         have hrest : rest = [] := by simpa using hr1
         subst hrest
         have hgs : gs ≠ [] := by
          rintro rfl
          simp at hr2
         obtain ⟨new, e1, e2, e3⟩ := grants_back _ _ _ _ _ (Nat.le_refl _) hg
         rw [List.nil_append] at e1
         subst e1
         rw [List.append_nil] at e3
         obtain ⟨hwl, hkw⟩ := kind_back hk
         rw [Bool.not_eq_true, List.any_eq_false] at ha
         have hat : ∀ t ∈ (attrsP l).1, isTypeL t = true := fun t ht => by simpa using ha t ht
         have hsaid : saidA ⟨what, name, (attrsP l).1, gs⟩ = true := by
          unfold saidA
          rw [if_neg]
          ·simp only [Bool.and_eq_true, Bool.not_eq_true', List.any_eq_false]
           exact ⟨fun g hg => by rw [e2 g hg]; simp, fun t ht => by rw [hat t ht]; simp⟩
          ·simp only [inRow_of hwl]
           rcases hkw with ⟨hn, _⟩ | ⟨_, rfl, _⟩
           ·have : what ≠ 0 := by simpa using hn
            simp only [Bool.not_true, Bool.false_or, Bool.or_eq_true, not_or, Bool.and_eq_true]
            refine ⟨fun ⟨h0, _⟩ => ?_, ?_⟩
            ·have h0' : (what : Int) = 0 := by simpa using h0
             omega
            ·cases gs with
             | nil => exact absurd rfl hgs
             | cons g gs => simp
           ·cases gs with
            | nil => exact absurd rfl hgs
            | cons g gs => simp
         refine ⟨hsaid, ?_, by omega⟩
         congr 1
         obtain ⟨k', hk', q1, q2, _, _, _, e⟩ := rule_said hsaid
         simp only at q1 q2 e
         have hkk : k' = what := by omega
         subst hkk
         rw [e]
         congr 2
         ·rcases hkw with ⟨hn, rfl⟩ | ⟨hn, rfl, rfl⟩
          ·have : k' ≠ 0 := by simpa using hn
           rw [if_neg this]
          ·have : k' = 0 := by simpa using hn
           rw [if_pos this, List.append_nil]
         ·rw [← e3]
          rcases attrs_back l with ⟨b1, b2⟩ | ⟨b1, b2⟩
          ·rw [b1, if_pos rfl, b2]; rfl
          ·rw [if_neg b1]; exact b2
theorem drop_len (p : UInt8 → Bool) (l : List UInt8) : (l.dropWhile p).length ≤ l.length ∧ (l.takeWhile p).length + (l.dropWhile p).length = l.length := by
 have h := congrArg List.length (List.takeWhile_append_dropWhile (p := p) (l := l))
 rw [List.length_append] at h
 exact ⟨by omega, h⟩
theorem quoteF_len : ∀ (n : Nat) (l a b : List UInt8), l.length ≤ n → quoteF l = some (a, b) → a.length + b.length = l.length
 | n, [], a, b, _, h => by cases h
 | n, c :: t, a, b, hn, h => by
  by_cases h34 : c = 34
  ·subst h34
   rw [quoteF_34] at h
   cases h
   simp; omega
  ·by_cases h92 : c = 92
   ·subst h92
    match t, h, hn with
    | [], h, _ => cases h
    | d :: t', h, hn =>
     rw [quoteF_92] at h
     cases hq : quoteF t' with
     | none => rw [hq] at h; cases h
     | some x =>
      obtain ⟨a', b'⟩ := x
      rw [hq] at h
      cases h
      cases n with
      | zero => simp at hn
      | succ n =>
       have := quoteF_len n t' a' b (by simp at hn; omega) hq
       simp; omega
   ·rw [quoteF_go (beq_eq_false_iff_ne.2 h34) (beq_eq_false_iff_ne.2 h92)] at h
    cases hq : quoteF t with
    | none => rw [hq] at h; cases h
    | some x =>
     obtain ⟨a', b'⟩ := x
     rw [hq] at h
     cases h
     cases n with
     | zero => simp at hn
     | succ n =>
      have := quoteF_len n t a' b (by simp at hn; omega) hq
      simp; omega
theorem words_len : ∀ (n : Nat) (cur rest : List UInt8) (acc ws : List (List UInt8)), wordsG n cur rest acc = some ws → ∃ new, ws = acc ++ new ∧ new ≠ [] ∧ (joinL [32] new).length ≤ cur.length + rest.length
 | 0, _, _, _, _, h => by cases h
 | n + 1, cur, rest, acc, ws, h => by
  rw [wordsG] at h
  obtain ⟨_, hl⟩ := drop_len (fun c => !wordStop c) rest
  cases hd : rest.dropWhile (fun c => !wordStop c) with
  | nil =>
   rw [hd] at h hl
   simp only at h
   split at h
   ·cases h
   ·cases h
    refine ⟨[cur ++ rest.takeWhile (fun c => !wordStop c)], rfl, by simp, ?_⟩
    show (cur ++ rest.takeWhile (fun c => !wordStop c)).length ≤ _
    simp at hl ⊢
    omega
  | cons c q =>
   rw [hd] at h hl
   simp only at h
   split at h
   ·cases hq : quoteF q with
    | none => rw [hq] at h; cases h
    | some x =>
     obtain ⟨a, b⟩ := x
     rw [hq] at h
     have hql := quoteF_len _ _ _ _ (Nat.le_refl _) hq
     simp only at h
     match b, h, hql with
     | [], h, hql =>
      obtain ⟨new, e1, e2, e3⟩ := words_len n _ _ _ _ h
      refine ⟨new, e1, e2, ?_⟩
      simp at e3 hl hql
      omega
     | d :: b', h, hql =>
      simp only at h
      split at h
      ·obtain ⟨new, e1, e2, e3⟩ := words_len n _ _ _ _ h
       refine ⟨new, e1, e2, ?_⟩
       simp at e3 hl hql
       omega
      ·cases h
   ·split at h
    ·cases h
    ·next h34 _ =>
     obtain ⟨new, e1, e2, e3⟩ := words_len n _ _ _ _ h
     refine ⟨(cur ++ rest.takeWhile (fun c => !wordStop c)) :: new, by rw [e1]; simp, by simp, ?_⟩
     have hc : c = 32 := by
      have hne : rest.dropWhile (fun c => !wordStop c) ≠ [] := by rw [hd]; simp
      have := List.head_dropWhile_not (p := fun c => !wordStop c) hne
      simp only [hd, List.head_cons] at this
      unfold wordStop at this
      simp only [Bool.not_eq_false', Bool.or_eq_true, beq_iff_eq] at this
      rcases this with h | h
      ·exact h
      ·rw [h] at h34; exact absurd rfl h34
     subst hc
     have hdl : ((32 :: q).dropWhile (· == 32)).length ≤ q.length := by
      rw [List.dropWhile_cons, if_pos (by decide)]
      exact (drop_len _ _).1
     cases new with
     | nil => exact absurd rfl e2
     | cons y t =>
      rw [joinL]
      simp at e3 hl hdl ⊢
      omega
theorem back_law {text : List UInt8} {x : RuleS} (h : parseA text = (0, x)) : printA x = (0, joinL [32] (ruleWs x)) ∧ parseA (joinL [32] (ruleWs x)) = (0, x) := by
 obtain ⟨h1, h2, h3⟩ := parse_said h
 unfold aclWords at h2
 obtain ⟨new, e1, _, e3⟩ := words_len _ _ _ _ _ h2
 rw [List.nil_append] at e1
 subst e1
 have hl : (joinL [32] (ruleWs x)).length ≤ 65536 := by simp at e3; omega
 refine ⟨?_, parse_print7 h1 hl⟩
 unfold printA
 rw [h1, if_neg (by simp), if_neg (by omega)]
theorem print_back {r : RuleS} (h : (printA r).1 = 0) : parseA (printA r).2 = (0, r) := by
 unfold printA at h ⊢
 cases hs : saidA r
 ·rw [hs] at h; simp at h
 ·rw [hs] at h
  simp only [Bool.not_true, Bool.false_eq_true, if_false] at h ⊢
  split at h
  ·simp at h
  ·next hl =>
   rw [if_neg hl]
   exact parse_print7 hs (by omega)
end Go.Proofs.YtbjmpmgiigombaaGreatDoor
