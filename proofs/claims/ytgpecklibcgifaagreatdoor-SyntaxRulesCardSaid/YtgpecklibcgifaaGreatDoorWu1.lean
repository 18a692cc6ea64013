/- Plain: the program's search for pieces and the document's. -/
import Derived.Test.YtgpecklibcgifaaGreatDoorWt2
import Derived.Lib.TrimAscii
import Derived.Lib.ValidLaws
set_option linter.all false
namespace Go.Proofs.YtgpecklibcgifaaGreatDoor

theorem sub_eq_iff {S x : List UInt8} {p : Nat} (h : p + x.length ≤ S.length) : sub S p (p + x.length) = x ↔ x.isPrefixOf (S.drop p) = true := by
  unfold sub
  rw [List.isPrefixOf_iff_prefix, List.prefix_iff_eq_take]
  rw [show p + x.length - p = x.length by omega]
  exact ⟨fun h => h.symm, fun h => h.symm⟩
theorem find_index (S x : List UInt8) : ∀ n p, n + p = S.length + 1 → p ≤ S.length → findF S x n p = if Lib.index (S.drop p) x = -1 then -1 else (p : Int) + Lib.index (S.drop p) x := by
  intro n
  induction n with
  | zero => intro p h1 h2; omega
  | succ n ih =>
    intro p h1 h2
    rw [findF]
    by_cases h : p + x.length ≤ S.length
    · rw [if_pos h]
      by_cases he : sub S p (p + x.length) = x
      · rw [if_pos he]
        have hp := (sub_eq_iff h).1 he
        have h0 : Lib.index (S.drop p) x = 0 := by
          cases hd : S.drop p with
          | nil =>
            rw [hd] at hp
            cases x with
            | nil => rfl
            | cons _ _ => simp at hp
          | cons b l =>
            rw [hd] at hp
            rw [Lib.index, if_pos hp]
        rw [h0]
        simp
      · rw [if_neg he]
        have hp : ¬ x.isPrefixOf (S.drop p) = true := fun h' => he ((sub_eq_iff h).2 h')
        have hlt : p < S.length := by
          apply Classical.byContradiction
          intro hh
          have hx : x = [] := List.eq_nil_of_length_eq_zero (by omega)
          subst hx
          exact hp (by simp)
        rw [ih (p + 1) (by omega) (by omega)]
        have hi : Lib.index (S.drop p) x = if Lib.index (S.drop (p + 1)) x == -1 then -1 else Lib.index (S.drop (p + 1)) x + 1 := by
          rw [List.drop_eq_getElem_cons hlt] at hp ⊢
          rw [Lib.index, if_neg hp]
        rw [hi]
        by_cases h3 : Lib.index (S.drop (p + 1)) x = -1
        · rw [if_pos h3, h3]; rfl
        · have h4 := index_le (S.drop (p + 1)) x
          have h5 : (Lib.index (S.drop (p + 1)) x == -1) = false := beq_eq_false_iff_ne.2 h3
          rw [if_neg h3, h5]
          simp only [Bool.false_eq_true, if_false]
          rw [if_neg (by omega)]
          omega
    · rw [if_neg h]
      rcases index_le (S.drop p) x with e | ⟨e1, e2⟩
      · rw [if_pos e]
      · rw [List.length_drop] at e2
        omega
theorem goP_eq (S : List UInt8) : ∀ (ms : List (List UInt8)) (p : Nat), p ≤ S.length → goP (S.drop p) ms = holdsGo S ms p
  | [], _, _ => rfl
  | x :: ms, p, hp => by
    rw [goP, holdsGo]
    have hf : findL S x p = _ := find_index S x (S.length + 1 - p) p (by omega) hp
    rw [hf]
    rcases index_le (S.drop p) x with e | ⟨e1, e2⟩
    · rw [if_pos e, e]; rfl
    · have hne : ¬ Lib.index (S.drop p) x = -1 := by omega
      rw [if_neg hne, if_neg (by omega), if_neg (by omega)]
      rw [List.length_drop] at e2
      rw [List.drop_drop, show ((p : Int) + Lib.index (S.drop p) x).toNat + x.length = p + ((Lib.index (S.drop p) x).toNat + x.length) by omega]
      exact goP_eq S ms _ (by omega)
theorem holdsP_eq (s : List UInt8) (xs : List (List UInt8)) (a z : List UInt8) : holdsP s xs a z = holdsRef s xs a z := by
  unfold holdsP holdsRef
  by_cases h1 : a.length + z.length ≤ s.length
  · have ea : sub s 0 a.length = a ↔ Lib.hasPrefix s a = true := by
      have := sub_eq_iff (S := s) (x := a) (p := 0) (by omega)
      rw [Nat.zero_add, List.drop_zero] at this
      exact this
    by_cases h2 : Lib.hasPrefix s a = true
    · rw [if_pos h2]
      have ez : sub s (s.length - z.length) s.length = z ↔ Lib.hasSuffix (s.drop a.length) z = true := by
        unfold Lib.hasSuffix sub
        rw [List.isSuffixOf_iff_suffix, List.suffix_iff_eq_drop]
        rw [List.take_of_length_le (by simp), List.drop_drop, List.length_drop, show a.length + (s.length - a.length - z.length) = s.length - z.length by omega]
        exact ⟨fun h => h.symm, fun h => h.symm⟩
      by_cases h3 : Lib.hasSuffix (s.drop a.length) z = true
      · rw [if_pos h3, if_pos ⟨h1, ea.2 h2, ez.2 h3⟩]
        rw [← goP_eq (sub s 0 (s.length - z.length)) _ a.length (by simp [sub]; omega)]
        congr 1
        unfold sub
        rw [List.drop_zero, List.drop_take, List.length_drop]
        congr 1
        omega
      · rw [if_neg h3, if_neg (fun h => h3 (ez.1 h.2.2))]
    · rw [if_neg h2, if_neg (fun h => h2 (ea.1 h.2.1))]
  · have hE : (if a.length + z.length ≤ s.length ∧ sub s 0 a.length = a ∧ sub s (s.length - z.length) s.length = z then holdsGo (sub s 0 (s.length - z.length)) (midsFrom xs 1) a.length else false) = false := if_neg (fun h => h1 h.1)
    rw [hE]
    by_cases h2 : Lib.hasPrefix s a = true
    · rw [if_pos h2]
      by_cases h3 : Lib.hasSuffix (s.drop a.length) z = true
      · exfalso
        have l1 := (List.isPrefixOf_iff_prefix.1 h2).length_le
        have l2 := (List.isSuffixOf_iff_suffix.1 h3).length_le
        rw [List.length_drop] at l2
        omega
      · rw [if_neg h3]
    · rw [if_neg h2]
end Go.Proofs.YtgpecklibcgifaaGreatDoor
/- Plain: the rules of both sides, by name. -/
namespace Go.Proofs.YtgpecklibcgifaaGreatDoor

theorem ask_subs (fold : Bool) : askT (smallL (nSubs fold)) 2 = some (nSubs fold, 2, [fText, fAscii], .text fold) := by cases fold <;> decide +kernel
theorem rule_subs (fold : Bool) : refRule (smallL (nSubs fold)) = (nSubs fold, 2) := by cases fold <;> decide +kernel
theorem rnames13 : rnames[13]'(by decide) = nSubs false ∧ rnames[14]'(by decide) = nSubs true := by decide +kernel
theorem ask_other : ∀ k (hk : k < rnames.length), k < 13 → askT (smallL rnames[k]) 2 = none := by decide +kernel
theorem rule_other : ∀ k (hk : k < rnames.length), k < 13 → (refRule (smallL rnames[k])).1 ≠ [] ∧ (refRule (smallL rnames[k])).2 ≠ 2 := by decide +kernel
theorem ign_subs (fold : Bool) : (nSubs fold == nIgnSubs) = fold := by cases fold <;> rfl
theorem forms_ok (fold : Bool) (P : List UInt8 → Bool) : okForms (fun f => ofB (nTextRule fold) f && P f) 8 = (P fText || P fAscii) := by
  have h : ∀ f, f ∈ fforms → ofB (nTextRule fold) f = (f == fText || f == fAscii) := by cases fold <;> decide +kernel
  unfold okForms
  have : fforms.take 8 = [fOctets, fText, fAscii, fInteger, fBoolean, fName, fOid, fTime] := rfl
  rw [this]
  simp only [List.any_cons, List.any_nil]
  rw [h fOctets (by decide), h fText (by decide), h fAscii (by decide), h fInteger (by decide), h fBoolean (by decide), h fName (by decide), h fOid (by decide), h fTime (by decide)]
  have e1 : (fOctets == fText || fOctets == fAscii) = false := by decide
  have e2 : (fText == fText || fText == fAscii) = true := by decide
  have e3 : (fAscii == fText || fAscii == fAscii) = true := by decide
  have e4 : (fInteger == fText || fInteger == fAscii) = false := by decide
  have e5 : (fBoolean == fText || fBoolean == fAscii) = false := by decide
  have e6 : (fName == fText || fName == fAscii) = false := by decide
  have e7 : (fOid == fText || fOid == fAscii) = false := by decide
  have e8 : (fTime == fText || fTime == fAscii) = false := by decide
  rw [e1, e2, e3, e4, e5, e6, e7, e8]
  simp
end Go.Proofs.YtgpecklibcgifaaGreatDoor
/- Plain: when a value can be prepared. -/
namespace Go.Proofs.YtgpecklibcgifaaGreatDoor

theorem mapG_isSome (fold : Bool) : ∀ (rs acc : List Int), (mapG fold rs acc).isSome = rs.all (fun r => decide ((mapV r).2 ≠ 2))
  | [], acc => rfl
  | r :: rs, acc => by
    rw [mapG, List.all_cons]
    by_cases h : (mapV r).2 = 2
    · rw [if_pos h]; simp [h]
    · rw [if_neg h]
      by_cases h1 : (mapV r).2 = 1
      · rw [if_pos h1, mapG_isSome fold rs acc]; simp [h]
      · rw [if_neg h1, mapG_isSome fold rs _]; simp [h]
theorem prep_isSome (v : List UInt8) (fold : Bool) : (prepL v fold).isSome = (Lib.validD v && (runes v).all (fun r => decide ((mapV r).2 ≠ 2))) := by
  rw [prep_G]
  unfold prepG
  cases hv : Lib.validD v
  · rfl
  · simp only [if_true, Bool.true_and]
    rw [← mapG_isSome fold (runes v) []]
    cases mapG fold (runes v) [] <;> rfl
theorem prep_fold (v : List UInt8) (fold : Bool) : (prepL v fold).isSome = (prepL v false).isSome := by rw [prep_isSome, prep_isSome]
end Go.Proofs.YtgpecklibcgifaaGreatDoor
/- Plain: a value of ASCII can be prepared; Norm of both sides. -/
namespace Go.Proofs.YtgpecklibcgifaaGreatDoor

theorem ascii_mem : ∀ (v : List UInt8), asciiL v = true → ∀ b ∈ v, b.toNat < 128
  | [], _, b, hb => by cases hb
  | c :: r, h, b, hb => by
    simp only [asciiL, Bool.and_eq_true, decide_eq_true_eq] at h
    rcases List.mem_cons.1 hb with rfl | hb
    · exact h.1
    · exact ascii_mem r h.2 b hb
theorem ascii_runes : ∀ (n : Nat) (v : List UInt8), (∀ b ∈ v, b.toNat < 128) → ∀ r ∈ runesF n v, 0 ≤ r ∧ r < 128
  | 0, v, _, r, hr => by cases v <;> cases hr
  | n + 1, [], _, r, hr => by cases hr
  | n + 1, b :: l, h, r, hr => by
    have hb := h b (List.mem_cons_self ..)
    rw [runesF, Lib.decodeL_ascii b l hb] at hr
    rcases List.mem_cons.1 hr with rfl | hr
    · simp only; omega
    · exact ascii_runes n l (fun x hx => h x (List.mem_cons_of_mem _ hx)) r hr
theorem ascii_prep (v : List UInt8) (fold : Bool) (h : asciiL v = true) : (prepL v fold).isSome = true := by
  have hm := ascii_mem v h
  rw [prep_isSome, Bool.and_eq_true]
  refine ⟨?_, ?_⟩
  · rw [Lib.validD_ascii v.length v (fun b hb => hm b (List.mem_of_mem_take hb)), List.drop_length]
    rfl
  · rw [List.all_eq_true]
    intro r hr
    have := ascii_runes _ v hm r hr
    rw [decide_eq_true_eq]
    unfold mapV
    split
    · decide
    · split
      · decide
      · rw [if_neg (by unfold refR; omega)]; simp
theorem norm_both (fold : Bool) (v : List UInt8) : (∃ m, normS (nSubs fold, 2, [fText, fAscii], .text fold) v = some m ∧ normT fold v = (0, m)) ∨ (normS (nSubs fold, 2, [fText, fAscii], .text fold) v = none ∧ normT fold v = (40, [])) := by
  unfold normS normT
  rw [forms_ok fold (fun f => validL f v)]
  simp only [List.any_cons, List.any_nil, Bool.or_false]
  cases hf : (validL fText v || validL fAscii v)
  · right
    simp
  · have hl : v.length ≤ 1024 := by
      rcases Bool.or_eq_true_iff.1 hf with h | h
      · simp only [validL, Bool.and_eq_true, decide_eq_true_eq] at h; exact h.1
      · simp only [validL, Bool.and_eq_true, decide_eq_true_eq] at h; exact h.1
    have hs : (prepL v fold).isSome = true := by
      rcases Bool.or_eq_true_iff.1 hf with h | h
      · have h2 : textL v = true := by
          simp only [validL, Bool.and_eq_true] at h; exact h.2
        unfold textL at h2
        rw [Bool.and_eq_true] at h2
        rw [prep_fold]; exact h2.2
      · have h2 : asciiL v = true := by
          simp only [validL, Bool.and_eq_true] at h; exact h.2
        exact ascii_prep v fold h2
    rw [decide_eq_true hl]
    obtain ⟨m, hm⟩ := Option.isSome_iff_exists.1 hs
    left
    refine ⟨m, ?_, ?_⟩
    · simp only [Bool.and_true, if_true]; exact hm
    · rw [hm]; rfl
end Go.Proofs.YtgpecklibcgifaaGreatDoor
