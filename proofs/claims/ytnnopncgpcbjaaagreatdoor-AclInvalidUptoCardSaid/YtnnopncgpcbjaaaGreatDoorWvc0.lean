import Derived.Test.YtnnopncgpcbjaaaGreatDoorWvb6
import Derived.Lib.Replace
import Derived.Lib.IndexBytes
set_option linter.all false
set_option maxHeartbeats 8000000
namespace Go.Proofs.YtnnopncgpcbjaaaGreatDoor

theorem index_hit0 (c : UInt8) (l : List UInt8) : Lib.index (c :: l) [c] = 0 := by
 rw [Lib.index, if_pos (by simp [List.isPrefixOf])]
theorem index_miss0 {b c : UInt8} (h : b ≠ c) (l : List UInt8) : Lib.index (b :: l) [c] = if Lib.index l [c] == -1 then -1 else Lib.index l [c] + 1 := by
 rw [Lib.index, if_neg (by simp [List.isPrefixOf, Ne.symm h])]
theorem repl_ne {b c : UInt8} (h : b ≠ c) (new : List UInt8) : ∀ (k : Nat) (l : List UInt8), Lib.replaceK [c] new k (b :: l) = b :: Lib.replaceK [c] new k l
 | 0, l => rfl
 | k + 1, l => by
  rw [Lib.replaceK, Lib.replaceK, index_miss0 h]
  have hge := Lib.index_ge l [c]
  by_cases hi : Lib.index l [c] = -1
  ·rw [hi]; simp
  ·have e1 : (Lib.index l [c] == -1) = false := beq_eq_false_iff_ne.2 hi
   have e2 : (Lib.index l [c] + 1 == -1) = false := beq_eq_false_iff_ne.2 (by omega)
   obtain ⟨i, hi2⟩ : ∃ i : Nat, Lib.index l [c] = i := ⟨(Lib.index l [c]).toNat, by omega⟩
   rw [e1]
   simp only [Bool.false_eq_true, if_false, e2]
   rw [hi2]
   have e3 : ((i : Int) + 1).toNat = i + 1 := by omega
   have e4 : ((i : Int)).toNat = i := by omega
   rw [e3, e4, show i + 1 + [c].length = (i + [c].length) + 1 by omega]
   simp
theorem repl_one (c : UInt8) (new : List UInt8) : ∀ (s : List UInt8) (k : Nat), s.count c ≤ k → Lib.replaceK [c] new k s = s.flatMap (fun x => if x == c then new else [x])
 | [], k, _ => by
  cases k with
  | zero => rfl
  | succ k => rw [Lib.replaceK, if_pos (by rw [Lib.index]; simp)]; rfl
 | b :: l, k, h => by
  rw [List.flatMap_cons]
  by_cases hb : b = c
  ·subst hb
   rw [List.count_cons_self] at h
   obtain ⟨k, rfl⟩ : ∃ q, k = q + 1 := ⟨k - 1, by omega⟩
   rw [Lib.replaceK, index_hit0, if_neg (by decide), if_pos (by simp)]
   simp only [Int.toNat_zero, List.take_zero, List.nil_append, Nat.zero_add, List.length_singleton, List.drop_succ_cons, List.drop_zero]
   rw [repl_one b new l k (by omega)]
  ·rw [List.count_cons_of_ne hb] at h
   have hbc : (b == c) = false := beq_eq_false_iff_ne.2 hb
   rw [repl_ne hb, repl_one c new l k h, hbc]
   rfl
theorem replAll_one (c : UInt8) (new : List UInt8) (hne : new ≠ [c]) (s : List UInt8) : Lib.replaceAll s [c] new = s.flatMap (fun x => if x == c then new else [x]) := by
 have h : ([c] == new) = false := beq_eq_false_iff_ne.2 (Ne.symm hne)
 unfold Lib.replaceAll Lib.replace
 rw [h]
 simp only [Bool.false_eq_true, if_false]
 unfold Lib.replaceNum
 rw [if_pos (.inl (by decide)), Lib.count_one]
 exact repl_one c new s _ (Nat.le_refl _)
theorem quote_repl (s : List UInt8) : 34 :: Lib.replaceAll (Lib.replaceAll s [92] [92, 92]) [34] [92, 34] ++ [34] = quoteA s := by
 rw [replAll_one 92 [92, 92] (by decide), replAll_one 34 [92, 34] (by decide)]
 unfold quoteA
 congr 2
 induction s with
 | nil => rfl
 | cons c s ih =>
  rw [List.flatMap_cons, List.flatMap_append, ih, List.flatMap_cons]
  congr 1
  by_cases h : c = 92
  ·subst h; rfl
  ·have h1 : (c == 92) = false := beq_eq_false_iff_ne.2 h
   simp [h]
theorem repl_len (s : List UInt8) (c : UInt8) (new : List UInt8) : Lib.countB ⟨s.toArray⟩ ⟨#[c]⟩ ≤ s.length := by
 have : Lib.countB ⟨s.toArray⟩ ⟨#[c]⟩ = Lib.count s [c] := rfl
 rw [this, Lib.count_one]
 exact List.count_le_length
theorem cut_one (c : UInt8) (s : List UInt8) : Lib.cut s [c] = (s.takeWhile (· != c), (s.dropWhile (· != c)).tail, s.contains c) := by
 induction s with
 | nil =>
  unfold Lib.cut
  rw [if_neg (by rw [Lib.index]; simp)]
  rfl
 | cons b s ih =>
  unfold Lib.cut at ih ⊢
  by_cases hb : b = c
  ·subst hb
   rw [index_hit0, if_pos (by decide)]
   simp
  ·have hbc : (b == c) = false := beq_eq_false_iff_ne.2 hb
   have hcb : (c == b) = false := beq_eq_false_iff_ne.2 (Ne.symm hb)
   rw [index_miss0 hb, List.contains_cons, hcb, Bool.false_or]
   have hge := Lib.index_ge s [c]
   have hne : (b != c) = true := by simp [hb]
   rw [List.takeWhile_cons, if_pos hne, List.dropWhile_cons, if_pos hne]
   by_cases hi : Lib.index s [c] = -1
   ·rw [hi] at ih ⊢
    simp only [beq_self_eq_true, if_true]
    rw [if_neg (by decide)] at ih ⊢
    injection ih with h1 h2
    injection h2 with h2 h3
    rw [← h1, ← h2, ← h3]
   ·have e1 : (Lib.index s [c] == -1) = false := beq_eq_false_iff_ne.2 hi
    obtain ⟨i, hi2⟩ : ∃ i : Nat, Lib.index s [c] = i := ⟨(Lib.index s [c]).toNat, by omega⟩
    rw [e1]
    simp only [Bool.false_eq_true, if_false]
    rw [hi2] at ih ⊢
    rw [if_pos (by omega)] at ih ⊢
    injection ih with h1 h2
    injection h2 with h2 h3
    rw [← h1, ← h2, ← h3]
    have e3 : ((i : Int) + 1).toNat = i + 1 := by omega
    have e4 : ((i : Int)).toNat = i := by omega
    rw [e3, e4]
    rfl
end Go.Proofs.YtnnopncgpcbjaaaGreatDoor
namespace Go.Proofs.YtnnopncgpcbjaaaGreatDoor

inductive GoodW : List UInt8 → Prop
 | plain {w : List UInt8} : w ≠ [] → (∀ c ∈ w, wordStop c = false) → GoodW w
 | quoted {p s : List UInt8} : (∀ c ∈ p, wordStop c = false) → GoodW (p ++ quoteA s)
theorem GoodW.head {w : List UInt8} (h : GoodW w) : ∃ c t, w = c :: t ∧ c ≠ 32 := by
 cases h with
 | plain hne hs =>
  cases w with
  | nil => exact absurd rfl hne
  | cons c t =>
   refine ⟨c, t, rfl, ?_⟩
   rintro rfl
   have := hs 32 (by simp)
   simp [wordStop] at this
 | @quoted p s hp =>
  cases p with
  | nil => exact ⟨34, _, rfl, by decide⟩
  | cons c t =>
   refine ⟨c, _, rfl, ?_⟩
   rintro rfl
   have := hp 32 (by simp)
   simp [wordStop] at this
end Go.Proofs.YtnnopncgpcbjaaaGreatDoor
namespace Go.Proofs.YtnnopncgpcbjaaaGreatDoor

theorem inRow_nat {n : Int} {l : List (List UInt8)} (h : inRow n l = true) : ∃ k : Nat, n = k ∧ k < l.length := by
 unfold inRow at h
 rw [Bool.and_eq_true, decide_eq_true_eq, decide_eq_true_eq] at h
 exact ⟨n.toNat, by omega, by omega⟩
theorem wordAt_nat {l : List (List UInt8)} {k : Nat} (h : k < l.length) : wordAt l k = l[k] := by
 unfold wordAt
 rw [Int.toNat_natCast, List.getD_eq_getElem?_getD, List.getElem?_eq_getElem h]
 rfl
end Go.Proofs.YtnnopncgpcbjaaaGreatDoor
namespace Go.Proofs.YtnnopncgpcbjaaaGreatDoor

theorem grant_said {g : GrantS} (h : badGrant g = false) : ∃ (k l : Nat) (hk : k < whoWs.length) (hl : l < levelWs.length), g.who = k ∧ g.level = l ∧ (namedB k = false → g.name = []) ∧ grantWs g = [wBy, whoWs[k] ++ (if namedB k then 61 :: quoteA g.name else []), levelWs[l]] := by
 unfold badGrant at h
 simp only [Bool.or_eq_false_iff, Bool.not_eq_false', Bool.and_eq_false_iff] at h
 obtain ⟨⟨h1, h2⟩, h3⟩ := h
 obtain ⟨k, hk, hkl⟩ := inRow_nat h1
 obtain ⟨l, hl, hll⟩ := inRow_nat h2
 refine ⟨k, l, hkl, hll, hk, hl, fun hn => ?_, ?_⟩
 ·rw [hk] at h3
  rcases h3 with h3 | h3
  ·rw [hn] at h3; simp at h3
  ·simpa using h3
 ·unfold grantWs
  rw [hk, hl, wordAt_nat hkl, wordAt_nat hll]
theorem rule_said {r : RuleS} (h : saidA r = true) : ∃ (k : Nat) (hk : k < whatWs.length), r.what = k ∧ (k = 0 → r.name = []) ∧ r.grants ≠ [] ∧ (∀ g ∈ r.grants, badGrant g = false) ∧ (∀ t ∈ r.attrs, isTypeL t = true) ∧
  ruleWs r = wTo :: (whatWs[k] ++ (if k = 0 then [] else 61 :: quoteA r.name)) :: ((if r.attrs = [] then [] else [wAttrsEq ++ joinL [44] r.attrs]) ++ r.grants.flatMap grantWs) := by
 unfold saidA at h
 split at h
 ·cases h
 ·next hc =>
  simp only [Bool.or_eq_true, not_or, Bool.not_eq_true, Bool.not_eq_false', Bool.and_eq_false_iff] at hc
  obtain ⟨⟨h1, h2⟩, h3⟩ := hc
  simp only [Bool.and_eq_true, Bool.not_eq_true', List.any_eq_false, Bool.not_eq_true, Bool.not_eq_false'] at h
  obtain ⟨k, hk, hkl⟩ := inRow_nat h1
  refine ⟨k, hkl, hk, fun h0 => ?_, ?_, h.1, fun t ht => by have := h.2 t ht; simpa using this, ?_⟩
  ·rcases h2 with h2 | h2
   ·rw [hk, h0] at h2; simp at h2
   ·simpa using h2
  ·rintro he
   rw [he] at h3
   simp at h3
  ·unfold ruleWs
   rw [hk, wordAt_nat hkl]
   have e0 : (((k : Int) == 0) = true) ↔ k = 0 := by rw [beq_iff_eq]; omega
   by_cases h0 : k = 0
   ·subst h0
    cases ha : r.attrs <;> simp
   ·have e1 : ((k : Int) == 0) = false := by rw [beq_eq_false_iff_ne]; omega
    rw [e1]
    cases ha : r.attrs <;> simp [h0]
end Go.Proofs.YtnnopncgpcbjaaaGreatDoor
namespace Go.Proofs.YtnnopncgpcbjaaaGreatDoor

end Go.Proofs.YtnnopncgpcbjaaaGreatDoor
