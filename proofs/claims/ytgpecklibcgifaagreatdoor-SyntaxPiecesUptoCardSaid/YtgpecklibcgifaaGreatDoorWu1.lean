/- Plain: the program's search for pieces and the document's. -/
import Derived.Test.YtgpecklibcgifaaGreatDoorWt3
import Derived.Lib.TrimAscii
import Derived.Lib.ValidLaws
import Derived.Test.YtgpecklibcgifaaGreatDoorW10
set_option linter.all false
namespace Go.Proofs.YtgpecklibcgifaaGreatDoor

theorem sub_eq_iff {S x : List UInt8} {p : Nat} (h : p + x.length ≤ S.length) : sub S p (p + x.length) = x ↔ x.isPrefixOf (S.drop p) = true := by
  unfold sub
  rw [List.isPrefixOf_iff_prefix, List.prefix_iff_eq_take]
  rw [show p + x.length - p = x.length by omega]
  exact ⟨fun h => h.symm, fun h => h.symm⟩
theorem find_index (S x : List UInt8) : ∀ n p, n + p = S.length + 1 → p ≤ S.length → findF S x n p = if Lib.index (S.drop p) x = -1 then -1 else (p : Int) + Lib.index (S.drop p) x := by
  intro n
  induction n with
  | zero => intro p h1 h2; omega
  | succ n ih =>
    intro p h1 h2
    rw [findF]
    by_cases h : p + x.length ≤ S.length
    · rw [if_pos h]
      by_cases he : sub S p (p + x.length) = x
      · rw [if_pos he]
        have hp := (sub_eq_iff h).1 he
        have h0 : Lib.index (S.drop p) x = 0 := by
          cases hd : S.drop p with
          | nil =>
            rw [hd] at hp
            cases x with
            | nil => rfl
            | cons _ _ => simp at hp
          | cons b l =>
            rw [hd] at hp
            rw [Lib.index, if_pos hp]
        rw [h0]
        simp
      · rw [if_neg he]
        have hp : ¬ x.isPrefixOf (S.drop p) = true := fun h' => he ((sub_eq_iff h).2 h')
        have hlt : p < S.length := by
          apply Classical.byContradiction
          intro hh
          have hx : x = [] := List.eq_nil_of_length_eq_zero (by omega)
          subst hx
          exact hp (by simp)
        rw [ih (p + 1) (by omega) (by omega)]
        have hi : Lib.index (S.drop p) x = if Lib.index (S.drop (p + 1)) x == -1 then -1 else Lib.index (S.drop (p + 1)) x + 1 := by
          rw [List.drop_eq_getElem_cons hlt] at hp ⊢
          rw [Lib.index, if_neg hp]
        rw [hi]
        by_cases h3 : Lib.index (S.drop (p + 1)) x = -1
        · rw [if_pos h3, h3]; rfl
        · have h4 := index_le (S.drop (p + 1)) x
          have h5 : (Lib.index (S.drop (p + 1)) x == -1) = false := beq_eq_false_iff_ne.2 h3
          rw [if_neg h3, h5]
          simp only [Bool.false_eq_true, if_false]
          rw [if_neg (by omega)]
          omega
    · rw [if_neg h]
      rcases index_le (S.drop p) x with e | ⟨e1, e2⟩
      · rw [if_pos e]
      · rw [List.length_drop] at e2
        omega
theorem goP_eq (S : List UInt8) : ∀ (ms : List (List UInt8)) (p : Nat), p ≤ S.length → goP (S.drop p) ms = holdsGo S ms p
  | [], _, _ => rfl
  | x :: ms, p, hp => by
    rw [goP, holdsGo]
    have hf : findL S x p = _ := find_index S x (S.length + 1 - p) p (by omega) hp
    rw [hf]
    rcases index_le (S.drop p) x with e | ⟨e1, e2⟩
    · rw [if_pos e, e]; rfl
    · have hne : ¬ Lib.index (S.drop p) x = -1 := by omega
      rw [if_neg hne, if_neg (by omega), if_neg (by omega)]
      rw [List.length_drop] at e2
      rw [List.drop_drop, show ((p : Int) + Lib.index (S.drop p) x).toNat + x.length = p + ((Lib.index (S.drop p) x).toNat + x.length) by omega]
      exact goP_eq S ms _ (by omega)
theorem holdsP_eq (s : List UInt8) (xs : List (List UInt8)) (a z : List UInt8) : holdsP s xs a z = holdsRef s xs a z := by
  unfold holdsP holdsRef
  by_cases h1 : a.length + z.length ≤ s.length
  · have ea : sub s 0 a.length = a ↔ Lib.hasPrefix s a = true := by
      have := sub_eq_iff (S := s) (x := a) (p := 0) (by omega)
      rw [Nat.zero_add, List.drop_zero] at this
      exact this
    by_cases h2 : Lib.hasPrefix s a = true
    · rw [if_pos h2]
      have ez : sub s (s.length - z.length) s.length = z ↔ Lib.hasSuffix (s.drop a.length) z = true := by
        unfold Lib.hasSuffix sub
        rw [List.isSuffixOf_iff_suffix, List.suffix_iff_eq_drop]
        rw [List.take_of_length_le (by simp), List.drop_drop, List.length_drop, show a.length + (s.length - a.length - z.length) = s.length - z.length by omega]
        exact ⟨fun h => h.symm, fun h => h.symm⟩
      by_cases h3 : Lib.hasSuffix (s.drop a.length) z = true
      · rw [if_pos h3, if_pos ⟨h1, ea.2 h2, ez.2 h3⟩]
        rw [← goP_eq (sub s 0 (s.length - z.length)) _ a.length (by simp [sub]; omega)]
        congr 1
        unfold sub
        rw [List.drop_zero, List.drop_take, List.length_drop]
        congr 1
        omega
      · rw [if_neg h3, if_neg (fun h => h3 (ez.1 h.2.2))]
    · rw [if_neg h2, if_neg (fun h => h2 (ea.1 h.2.1))]
  · have hE : (if a.length + z.length ≤ s.length ∧ sub s 0 a.length = a ∧ sub s (s.length - z.length) s.length = z then holdsGo (sub s 0 (s.length - z.length)) (midsFrom xs 1) a.length else false) = false := if_neg (fun h => h1 h.1)
    rw [hE]
    by_cases h2 : Lib.hasPrefix s a = true
    · rw [if_pos h2]
      by_cases h3 : Lib.hasSuffix (s.drop a.length) z = true
      · exfalso
        have l1 := (List.isPrefixOf_iff_prefix.1 h2).length_le
        have l2 := (List.isSuffixOf_iff_suffix.1 h3).length_le
        rw [List.length_drop] at l2
        omega
      · rw [if_neg h3]
    · rw [if_neg h2]
end Go.Proofs.YtgpecklibcgifaaGreatDoor
/- Plain: the rules of both sides, by name. -/
namespace Go.Proofs.YtgpecklibcgifaaGreatDoor

theorem ask_subs (fold : Bool) : askT (smallL (nSubs fold)) 2 = some (nSubs fold, 2, [fText, fAscii], .text fold) := by cases fold <;> decide +kernel
theorem rule_subs (fold : Bool) : refRule (smallL (nSubs fold)) = (nSubs fold, 2) := by cases fold <;> decide +kernel
theorem rnames13 : rnames[13]'(by decide) = nSubs false ∧ rnames[14]'(by decide) = nSubs true := by decide +kernel
theorem ask_other : ∀ k (hk : k < rnames.length), k < 13 → askT (smallL rnames[k]) 2 = none := by decide +kernel
theorem rule_other : ∀ k (hk : k < rnames.length), k < 13 → (refRule (smallL rnames[k])).1 ≠ [] ∧ (refRule (smallL rnames[k])).2 ≠ 2 := by decide +kernel
theorem ign_subs (fold : Bool) : (nSubs fold == nIgnSubs) = fold := by cases fold <;> rfl
theorem forms_ok (fold : Bool) (P : List UInt8 → Bool) : okForms (fun f => ofB (nTextRule fold) f && P f) 8 = (P fText || P fAscii) := by
  have h : ∀ f, f ∈ fforms → ofB (nTextRule fold) f = (f == fText || f == fAscii) := by cases fold <;> decide +kernel
  unfold okForms
  have : fforms.take 8 = [fOctets, fText, fAscii, fInteger, fBoolean, fName, fOid, fTime] := rfl
  rw [this]
  simp only [List.any_cons, List.any_nil]
  rw [h fOctets (by decide), h fText (by decide), h fAscii (by decide), h fInteger (by decide), h fBoolean (by decide), h fName (by decide), h fOid (by decide), h fTime (by decide)]
  have e1 : (fOctets == fText || fOctets == fAscii) = false := by decide
  have e2 : (fText == fText || fText == fAscii) = true := by decide
  have e3 : (fAscii == fText || fAscii == fAscii) = true := by decide
  have e4 : (fInteger == fText || fInteger == fAscii) = false := by decide
  have e5 : (fBoolean == fText || fBoolean == fAscii) = false := by decide
  have e6 : (fName == fText || fName == fAscii) = false := by decide
  have e7 : (fOid == fText || fOid == fAscii) = false := by decide
  have e8 : (fTime == fText || fTime == fAscii) = false := by decide
  rw [e1, e2, e3, e4, e5, e6, e7, e8]
  simp
end Go.Proofs.YtgpecklibcgifaaGreatDoor
/- Plain: when a value can be prepared. -/
namespace Go.Proofs.YtgpecklibcgifaaGreatDoor

theorem mapG_isSome (fold : Bool) : ∀ (rs acc : List Int), (mapG fold rs acc).isSome = rs.all (fun r => decide ((mapV r).2 ≠ 2))
  | [], acc => rfl
  | r :: rs, acc => by
    rw [mapG, List.all_cons]
    by_cases h : (mapV r).2 = 2
    · rw [if_pos h]; simp [h]
    · rw [if_neg h]
      by_cases h1 : (mapV r).2 = 1
      · rw [if_pos h1, mapG_isSome fold rs acc]; simp [h]
      · rw [if_neg h1, mapG_isSome fold rs _]; simp [h]
theorem prep_isSome (v : List UInt8) (fold : Bool) : (prepL v fold).isSome = (Lib.validD v && (runes v).all (fun r => decide ((mapV r).2 ≠ 2))) := by
  rw [prep_G]
  unfold prepG
  cases hv : Lib.validD v
  · rfl
  · simp only [if_true, Bool.true_and]
    rw [← mapG_isSome fold (runes v) []]
    cases mapG fold (runes v) [] <;> rfl
theorem prep_fold (v : List UInt8) (fold : Bool) : (prepL v fold).isSome = (prepL v false).isSome := by rw [prep_isSome, prep_isSome]
end Go.Proofs.YtgpecklibcgifaaGreatDoor
/- Plain: a value of ASCII can be prepared; Norm of both sides. -/
namespace Go.Proofs.YtgpecklibcgifaaGreatDoor

theorem ascii_mem : ∀ (v : List UInt8), asciiL v = true → ∀ b ∈ v, b.toNat < 128
  | [], _, b, hb => by cases hb
  | c :: r, h, b, hb => by
    simp only [asciiL, Bool.and_eq_true, decide_eq_true_eq] at h
    rcases List.mem_cons.1 hb with rfl | hb
    · exact h.1
    · exact ascii_mem r h.2 b hb
theorem ascii_runes : ∀ (n : Nat) (v : List UInt8), (∀ b ∈ v, b.toNat < 128) → ∀ r ∈ runesF n v, 0 ≤ r ∧ r < 128
  | 0, v, _, r, hr => by cases v <;> cases hr
  | n + 1, [], _, r, hr => by cases hr
  | n + 1, b :: l, h, r, hr => by
    have hb := h b (List.mem_cons_self ..)
    rw [runesF, Lib.decodeL_ascii b l hb] at hr
    rcases List.mem_cons.1 hr with rfl | hr
    · simp only; omega
    · exact ascii_runes n l (fun x hx => h x (List.mem_cons_of_mem _ hx)) r hr
theorem ascii_prep (v : List UInt8) (fold : Bool) (h : asciiL v = true) : (prepL v fold).isSome = true := by
  have hm := ascii_mem v h
  rw [prep_isSome, Bool.and_eq_true]
  refine ⟨?_, ?_⟩
  · rw [Lib.validD_ascii v.length v (fun b hb => hm b (List.mem_of_mem_take hb)), List.drop_length]
    rfl
  · rw [List.all_eq_true]
    intro r hr
    have := ascii_runes _ v hm r hr
    rw [decide_eq_true_eq]
    unfold mapV
    split
    · decide
    · split
      · decide
      · rw [if_neg (by unfold refR; omega)]; simp
theorem norm_both (fold : Bool) (v : List UInt8) : (∃ m, normS (nSubs fold, 2, [fText, fAscii], .text fold) v = some m ∧ normT fold v = (0, m)) ∨ (normS (nSubs fold, 2, [fText, fAscii], .text fold) v = none ∧ normT fold v = (40, [])) := by
  unfold normS normT
  rw [forms_ok fold (fun f => validL f v)]
  simp only [List.any_cons, List.any_nil, Bool.or_false]
  cases hf : (validL fText v || validL fAscii v)
  · right
    simp
  · have hl : v.length ≤ 1024 := by
      rcases Bool.or_eq_true_iff.1 hf with h | h
      · simp only [validL, Bool.and_eq_true, decide_eq_true_eq] at h; exact h.1
      · simp only [validL, Bool.and_eq_true, decide_eq_true_eq] at h; exact h.1
    have hs : (prepL v fold).isSome = true := by
      rcases Bool.or_eq_true_iff.1 hf with h | h
      · have h2 : textL v = true := by
          simp only [validL, Bool.and_eq_true] at h; exact h.2
        unfold textL at h2
        rw [Bool.and_eq_true] at h2
        rw [prep_fold]; exact h2.2
      · have h2 : asciiL v = true := by
          simp only [validL, Bool.and_eq_true] at h; exact h.2
        exact ascii_prep v fold h2
    rw [decide_eq_true hl]
    obtain ⟨m, hm⟩ := Option.isSome_iff_exists.1 hs
    left
    refine ⟨m, ?_, ?_⟩
    · simp only [Bool.and_true, if_true]; exact hm
    · rw [hm]; rfl
end Go.Proofs.YtgpecklibcgifaaGreatDoor
/- Plain: blanks at the ends of texts, by characters and by bytes. -/
namespace Go.Proofs.YtgpecklibcgifaaGreatDoor

theorem enc_first2 {r : Int} (h : VR r) : ∃ b t, encR r = b :: t ∧ (b = 32 → r = 32) := by
  have hb : ∀ n : Nat, n < 256 → UInt8.ofNat n = 32 → n = 32 := by
    intro n hn he
    have := congrArg UInt8.toNat he
    rw [UInt8.toNat_ofNat'] at this
    have e : (32 : UInt8).toNat = 32 := rfl
    rw [e] at this
    omega
  rcases enc_cases h with ⟨h0, h1, e⟩ | ⟨h0, h1, e⟩ | ⟨h0, h1, e⟩ | ⟨h0, h1, e⟩
  · exact ⟨_, _, e, fun he => by have := hb _ (by omega) he; omega⟩
  · exact ⟨_, _, e, fun he => by have := hb _ (by omega) he; omega⟩
  · exact ⟨_, _, e, fun he => by have := hb _ (by omega) he; omega⟩
  · exact ⟨_, _, e, fun he => by have := hb _ (by omega) he; omega⟩
theorem enc32 : encR 32 = [32] := by
  rcases enc_cases (r := 32) (by unfold VR; omega) with ⟨_, _, e⟩ | ⟨h, _⟩ | ⟨h, _⟩ | ⟨h, _⟩
  · rw [e]; rfl
  all_goals omega
theorem trim_left (M : List Int) (h : ∀ r ∈ M, VR r) : Lib.trimPrefix (cat M) [32] = cat (leftL M) := by
  unfold Lib.trimPrefix Lib.hasPrefix leftL
  cases M with
  | nil => rfl
  | cons r M =>
    have hr := h r (List.mem_cons_self ..)
    by_cases h32 : r = 32
    · subst h32
      simp [cat, enc32]
    · obtain ⟨b, t, e, hb⟩ := enc_first2 hr
      have hne : ¬ b = 32 := fun h' => h32 (hb h')
      simp [cat, e, h32, Ne.symm hne]
theorem trim_right (M : List Int) (h : ∀ r ∈ M, VR r) : Lib.trimSuffix (cat M) [32] = cat (rightL M) := by
  rcases List.eq_nil_or_concat M with rfl | ⟨M', r, rfl⟩
  · rfl
  · have hr : VR r := h r (by simp)
    have hc : cat (M' ++ [r]) = cat M' ++ encR r := by simp [cat]
    unfold rightL
    have hl : (M' ++ [r]).getLast? = some r := by simp
    rw [List.concat_eq_append, hc, hl]
    by_cases h32 : r = 32
    · subst h32
      rw [if_pos rfl, enc32]
      unfold Lib.trimSuffix Lib.hasSuffix
      rw [if_pos (by rw [List.isSuffixOf_iff_suffix]; exact ⟨cat M', rfl⟩)]
      simp
    · have hn : ¬ (some r : Option Int) = some 32 := fun e => h32 (Option.some.inj e)
      rw [if_neg hn, hc]
      unfold Lib.trimSuffix Lib.hasSuffix
      rw [if_neg]
      intro hs
      rw [List.isSuffixOf_iff_suffix] at hs
      obtain ⟨t, ht⟩ := hs
      have hg : (cat M' ++ encR r).getLast? = some 32 := by rw [← ht]; simp
      obtain ⟨b, t2, e, _⟩ := enc_first2 hr
      have hx : (encR r).getLast? = some 32 := by
        rw [List.getLast?_append] at hg
        cases hq : (encR r).getLast? with
        | none => rw [e] at hq; simp at hq
        | some z => rw [hq] at hg; simpa using hg
      exact h32 ((enc_last hr).1 hx)
end Go.Proofs.YtgpecklibcgifaaGreatDoor
/- Plain: the prepared pieces of both sides are the same. -/
namespace Go.Proofs.YtgpecklibcgifaaGreatDoor

def mapM1 (fold : Bool) (x : List UInt8) : Option (List Int) := if Lib.validD x then (mapG fold (runes x) []).map (fun L => singL L []) else none
theorem mapped_M (x : List UInt8) (fold : Bool) : mappedL x fold = (mapM1 fold x).map cat := by
  unfold mapM1
  cases hv : Lib.validD x
  · unfold mappedL; rw [hv]; rfl
  · rw [mapped_eq x fold hv, map_sing]
    cases mapG fold (runes x) [] <;> rfl
theorem piece_M (fold : Bool) (n k : Nat) (x : List UInt8) : pieceR fold n k x = (mapM1 fold x).map (fun M => cat (ends n k M)) := by
  unfold pieceR mapM1
  cases Lib.validD x
  · rfl
  · cases mapG fold (runes x) [] <;> rfl
theorem mapM1_vr {fold : Bool} {x : List UInt8} {M : List Int} (h : mapM1 fold x = some M) (hx : x.length ≤ 1000000000000) : ∀ r ∈ M, VR r := by
  unfold mapM1 at h
  cases hv : Lib.validD x
  · rw [hv] at h; cases h
  · rw [hv, if_pos rfl] at h
    cases hm : mapG fold (runes x) [] with
    | none => rw [hm] at h; cases h
    | some L =>
      rw [hm] at h
      simp only [Option.map_some, Option.some.injEq] at h
      rw [← h]
      exact (nice_piece hv hm hx).2.2
def seqM (fold : Bool) : List (List UInt8) → Option (List (List Int))
  | [] => some []
  | x :: xs => (mapM1 fold x).bind fun M => (seqM fold xs).map (M :: ·)
def endsFrom (n : Nat) : Nat → List (List Int) → List (List UInt8)
  | _, [] => []
  | k, M :: Ms => cat (ends n k M) :: endsFrom n (k + 1) Ms
theorem mapAll_M (fold : Bool) : ∀ (l acc : List (List UInt8)), mapAll fold l acc = (seqM fold l).map (fun Ms => acc ++ Ms.map cat)
  | [], acc => by simp [mapAll, seqM]
  | x :: xs, acc => by
    rw [mapAll, mapped_M, seqM]
    cases mapM1 fold x with
    | none => rfl
    | some M =>
      simp only [Option.map_some, Option.bind_some]
      rw [mapAll_M fold xs]
      cases seqM fold xs <;> simp
theorem piecesGo_M (fold : Bool) (n : Nat) : ∀ (l acc : List (List UInt8)) (k : Nat), piecesGo fold n k l acc = (seqM fold l).map (fun Ms => acc ++ endsFrom n k Ms)
  | [], acc, k => by simp [piecesGo, seqM, endsFrom]
  | x :: xs, acc, k => by
    rw [piecesGo_cons, piece_M, seqM]
    cases mapM1 fold x with
    | none => rfl
    | some M =>
      simp only [Option.map_some, Option.bind_some]
      rw [piecesGo_M fold n xs]
      cases seqM fold xs <;> simp [endsFrom]
theorem seqM_facts {fold : Bool} : ∀ (l : List (List UInt8)) (Ms : List (List Int)), seqM fold l = some Ms → (∀ x ∈ l, x.length ≤ 1000000000000) → Ms.length = l.length ∧ ∀ M ∈ Ms, ∀ r ∈ M, VR r
  | [], Ms, h, _ => by
    rw [seqM] at h
    cases h
    exact ⟨rfl, fun M hM => by cases hM⟩
  | x :: xs, Ms, h, hx => by
    rw [seqM] at h
    cases hm : mapM1 fold x with
    | none => rw [hm] at h; cases h
    | some M =>
      rw [hm] at h
      simp only [Option.bind_some] at h
      cases hs : seqM fold xs with
      | none => rw [hs] at h; cases h
      | some Ns =>
        rw [hs] at h
        simp only [Option.map_some, Option.some.injEq] at h
        subst h
        have ih := seqM_facts xs Ns hs (fun z hz => hx z (List.mem_cons_of_mem _ hz))
        refine ⟨by simp [ih.1], fun N hN => ?_⟩
        rcases List.mem_cons.1 hN with rfl | hN
        · exact mapM1_vr hm (hx x (List.mem_cons_self ..))
        · exact ih.2 N hN
theorem endsFrom_len (n : Nat) : ∀ (Ms : List (List Int)) (k : Nat), (endsFrom n k Ms).length = Ms.length
  | [], k => rfl
  | M :: Ms, k => by simp [endsFrom, endsFrom_len n Ms]
theorem endsFrom_get (n : Nat) : ∀ (Ms : List (List Int)) (k j : Nat) (hj : j < Ms.length), (endsFrom n k Ms)[j]'(by rw [endsFrom_len]; exact hj) = cat (ends n (k + j) Ms[j])
  | [], k, j, hj => by cases hj
  | M :: Ms, k, 0, hj => by simp [endsFrom]
  | M :: Ms, k, j + 1, hj => by
    have := endsFrom_get n Ms (k + 1) j (by simpa using hj)
    simp only [endsFrom, List.getElem_cons_succ]
    rw [this]
    congr 2
    omega
theorem trimEnds_M (Ms : List (List Int)) (h2 : 2 ≤ Ms.length) (hv : ∀ M ∈ Ms, ∀ r ∈ M, VR r) : trimEnds (Ms.map cat) = endsFrom Ms.length 0 Ms := by
  rw [trimEnds_eq (by simpa using h2)]
  refine List.ext_getElem (by simp [endsFrom_len]) fun j h1 h3 => ?_
  have hj : j < Ms.length := by simpa using h1
  rw [endsFrom_get _ _ _ _ hj, Nat.zero_add]
  have hvj := hv _ (List.getElem_mem hj)
  unfold ends
  by_cases hl : j = Ms.length - 1
  · have h0 : ¬ j = 0 := by omega
    have e : (Ms.map cat).length - 1 = j := by simp [hl]
    simp only [e]
    rw [List.getElem_set_self, decide_eq_true hl, decide_eq_false h0]
    simp only [cond_true, cond_false]
    rw [List.getElem_map]
    exact trim_right _ hvj
  · have e : (Ms.map cat).length - 1 ≠ j := by simp; omega
    rw [List.getElem_set_ne e, decide_eq_false hl]
    by_cases h0 : j = 0
    · subst h0
      rw [List.getElem_set_self]
      simp only [cond_true, cond_false, decide_true]
      rw [List.getElem_map]
      exact trim_left _ hvj
    · rw [List.getElem_set_ne (Ne.symm h0), decide_eq_false h0, List.getElem_map]
      rfl
theorem pPcs_eq (fold : Bool) (i f : List UInt8) (xs : List (List UInt8)) (hlen : ∀ x ∈ [i] ++ xs ++ [f], x.length ≤ 1000000000000) : pPcs fold i xs f = refPcs fold i xs f := by
  unfold pPcs refPcs
  cases xs.any (fun x => x == [])
  · simp only [cond_false]
    rw [mapAll_M, piecesGo_M]
    cases hs : seqM fold ([i] ++ xs ++ [f]) with
    | none => rfl
    | some Ms =>
      obtain ⟨h1, h2⟩ := seqM_facts _ _ hs hlen
      have h3 : Ms.length = xs.length + 2 := by rw [h1]; simp
      simp only [Option.map_some, List.nil_append, resP, resOf]
      rw [trimEnds_M Ms (by omega) h2, h3]
  · rfl
theorem holds_eq (fold : Bool) (v i f : List UInt8) (xs : List (List UInt8)) (hlen : ∀ x ∈ [i] ++ xs ++ [f], x.length ≤ 1000000000000) :
    holdsX (nSubs fold, 2, [fText, fAscii], .text fold) v i xs f = holdsT fold v i xs f := by
  unfold holdsX holdsT
  simp only [ign_subs]
  rw [pPcs_eq fold i f xs hlen]
  rcases norm_both fold v with ⟨m, h1, h2⟩ | ⟨h1, h2⟩
  · rw [h1, h2]
    simp only [if_true]
    by_cases h0 : (refPcs fold i xs f).1 = 0
    · rw [if_pos h0, h0, holdsP_eq]; rfl
    · have : ((refPcs fold i xs f).1 == 0) = false := beq_eq_false_iff_ne.2 h0
      rw [if_neg h0, this]; rfl
  · rw [h1, h2]; rfl
theorem holds_ml (fold : Bool) (v : List UInt8) : ∀ m, normS (nSubs fold, 2, [fText, fAscii], .text fold) v = some m → m.length ≤ 1000000 := by
  intro m hm
  rcases norm_both fold v with ⟨m', h1, h2⟩ | ⟨h1, h2⟩
  · rw [h1] at hm
    cases hm
    have := normT_len (fold := fold) (v := v) (by rw [h2])
    rw [h2] at this
    exact this
  · rw [h1] at hm; cases hm
theorem holds_pl (i f : List UInt8) (xs : List (List UInt8)) (hlen : ∀ x ∈ [i] ++ xs ++ [f], x.length ≤ 1000000000000) : ∀ fold, (pPcs fold i xs f).1 = 0 → (pPcs fold i xs f).2.length = xs.length + 2 ∧ ∀ y ∈ (pPcs fold i xs f).2, y.length ≤ 4000000000000 := by
  intro fold h
  rw [pPcs_eq fold i f xs hlen] at h ⊢
  exact refPcs_facts hlen h
end Go.Proofs.YtgpecklibcgifaaGreatDoor
/- The law SyntaxPieces. -/
namespace Go.Proofs.YtgpecklibcgifaaGreatDoor
open Go.RowKit Go.Sort

theorem rules_texts (w : World) : Texts (w.alloc (.cells (rnames.map strV).toArray 9)) (.slice (some ⟨w.heap.size, 0, none⟩) 15 15) rnames := texts_newL w rnames
theorem rnames_subs : ∀ k (hk : k < rnames.length), 13 ≤ k → ∃ fold, rnames[k] = nSubs fold := by
  intro k hk h
  have hk15 : k < 15 := by rw [rnames_len] at hk; exact hk
  have hc : k = 13 ∨ k = 14 := by omega
  rcases hc with rfl | rfl
  · exact ⟨false, rnames13.1⟩
  · exact ⟨true, rnames13.2⟩
/-- What Holds answers by the k-th rule: the same on both sides. -/
theorem holds_both (r v i f : List UInt8) (xs : List (List UInt8)) (any : Value) (hr : ∃ k, ∃ hk : k < rnames.length, rnames[k] = r)
    (hN : xs.length ≤ 1000) (hlen : ∀ x ∈ [i] ++ xs ++ [f], x.length ≤ 1000000000000) :
    ∃ (b : Bool) (e : Int), (∀ w, Env w → TxA w any xs → Calls Tryz.prog 28 #[.string ⟨r.toArray⟩, .string ⟨v.toArray⟩, .string ⟨i.toArray⟩, any, .string ⟨f.toArray⟩] w fun E w' => E = .returned (.tuple #[.bool b, .int .i64 e]) ∧ Below w.heap.size w w') ∧
      (∀ w, TxA w any xs → Calls Tryz.prog 29 #[.string ⟨r.toArray⟩, .string ⟨v.toArray⟩, .string ⟨i.toArray⟩, any, .string ⟨f.toArray⟩] w fun E w' => E = .returned (.tuple #[.bool b, .int .i64 e]) ∧ Below w.heap.size w w') := by
  obtain ⟨k, hk, rfl⟩ := hr
  by_cases h13 : k < 13
  · refine ⟨false, 41, fun w hw hx => sHolds_no _ v i f any w (rnames_short _ (List.getElem_mem _)) (ask_other k hk h13), fun w hx => rHolds_no _ v i f any w (rnames_short _ (List.getElem_mem _)) ?_⟩
    obtain ⟨h1, h2⟩ := rule_other k hk h13
    exact .inr ⟨_, _, rfl, h1, h2⟩
  · obtain ⟨fold, hf⟩ := rnames_subs k hk (by omega)
    rw [hf]
    refine ⟨(holdsT fold v i xs f).1, (holdsT fold v i xs f).2, fun w hw hx => ?_, fun w hx => ?_⟩
    · have := sHolds_yes _ (nSubs fold) v i f xs any w hw (nSubs_len fold) (ask_subs fold) hx hN hlen (holds_ml fold v) (holds_pl i f xs hlen)
      rw [holds_eq fold v i f xs hlen] at this
      exact this
    · exact rHolds_yes fold (nSubs fold) v i f xs any w (nSubs_len fold) (rule_subs fold) hx hN hlen
set_option maxRecDepth 100000 in
set_option maxHeartbeats 2000000 in
theorem pieces_long (v i f : List UInt8) (A : Option Addr) (n c : Nat) (w : World) (hw : Env w) (hN : 50 < n) :
    Calls Tryz.prog 9 #[.string ⟨v.toArray⟩, .string ⟨i.toArray⟩, .slice A n c, .string ⟨f.toArray⟩] w fun e w' => e = .returned (.bool true) ∧ Below w.heap.size w w' := by
  have hn' : (50 : Int) < (n : Int) := by omega
  go_enter Tryz.func9, Tryz.ntmps9
  go_wp2_with (go_at_call 10; refine (alive_c _ hw).mono ?_; rintro e w2 ⟨rfl, hb2⟩)
  go_ret
  exact ⟨rfl, hb2⟩
set_option maxRecDepth 100000 in
set_option maxHeartbeats 2000000 in
theorem pieces_c (v i f : List UInt8) (xs : List (List UInt8)) (any : Value) (w : World) (hw : Env w) (hx : TxA w any xs) (hlen : ∀ x ∈ [i] ++ xs ++ [f], x.length ≤ 1000000000000) :
    Calls Tryz.prog 9 #[.string ⟨v.toArray⟩, .string ⟨i.toArray⟩, any, .string ⟨f.toArray⟩] w fun e w' => e = .returned (.bool true) ∧ Below w.heap.size w w' := by
  obtain ⟨A, c, rfl⟩ : ∃ A c, any = .slice A xs.length c := by
    rcases hx with ⟨rfl, rfl⟩ | ⟨a, c, rfl, _, _⟩
    · exact ⟨_, _, rfl⟩
    · exact ⟨_, _, rfl⟩
  by_cases hN : 50 < xs.length
  · exact pieces_long v i f A xs.length c w hw hN
  have HH := Lib.hid (fun r hr => holds_both r v i f xs (.slice A xs.length c) hr (by omega) hlen)
  have HX := Lib.hid hx
  clear hx hlen
  have hn' : ¬ (50 : Int) < (xs.length : Int) := by omega
  generalize xs.length = n at *
  go_enter Tryz.func9, Tryz.ntmps9
  go_wp2_with (go_at_call 14; refine (Rules_r _).mono ?_; rintro e w1 ⟨rfl, hw1⟩)
  have hT : Texts w1 (.slice (some ⟨w.heap.size, 0, none⟩) 15 15) rnames := by rw [← hw1]; exact rules_texts w
  have hb1 : Below w.heap.size w w1 := by rw [← hw1]; exact (Below.refl _ _).alloc (Nat.le_refl _) _
  clear hw1
  have HT := Lib.hid hT
  clear hT
  have hbl : w.heap.size < w1.heap.size := by
    have := cell_lt (texts_at HT.out (j := 0) (by decide)); exact this
  obtain ⟨b, hbe⟩ : ∃ b, b = w.heap.size := ⟨_, rfl⟩
  have hwb : w.heap.size ≤ b := by omega
  rw [← hbe] at hb1 hbl HT ⊢
  have HBE := Lib.hid hbe
  clear hbe
  go_loopg [10] 15 (fun gk i wr => ∃ k : Nat, k ≤ 15 ∧ i = .int .i64 k ∧ Aside (k + gk = 15) ∧ Below w1.heap.size w1 wr)
  case atStart => exact ⟨0, by omega, rfl, by show _ = _; omega, Below.refl _ _⟩
  case round =>
    obtain ⟨k, hk, rfl, AG, hB⟩ := hrel
    have hBw : Below b w wr := hb1.trans (hB.mono (by omega))
    by_cases hlt : k < 15
    · obtain ⟨q, rfl⟩ : ∃ q, gk = q + 1 := ⟨gk - 1, by have := AG.out; omega⟩
      have AG' : Aside (k + 1 + q = 15) := by have := AG.out; show _ = _; omega
      have hkl : k < rnames.length := by rw [rnames_len]; exact hlt
      have c0 : w1.cell? ⟨b, k, none⟩ = some (.string ⟨(rnames[k]'hkl).toArray⟩) := texts_at HT.out hkl
      obtain ⟨bb, ee, h1, h2⟩ := HH.out (rnames[k]'hkl) ⟨k, hkl, rfl⟩
      have H1 := Lib.hid h1
      have H2 := Lib.hid h2
      clear h1 h2
      generalize rnames[k]'hkl = r at *
      have c1 : wr.cell? ⟨b, k, none⟩ = some (.string ⟨r.toArray⟩) := (hB.cell (p := ⟨b, k, none⟩) hbl).trans c0
      have hXw : TxA wr (.slice A n c) xs := HX.out.below (by rw [HBE.out] at hBw; exact hBw)
      go_wp2_with fail
      refine (H1.out _ (hw.below (by omega) hBw) hXw).mono ?_
      rintro e w2 ⟨rfl, hb2⟩
      have c2 : w2.cell? ⟨b, k, none⟩ = some (.string ⟨r.toArray⟩) := (hb2.cell (p := ⟨b, k, none⟩) (cell_lt c1)).trans c1
      have hX2 := hXw.below hb2
      go_wp2_with fail
      refine (H2.out _ hX2).mono ?_
      rintro e w3 ⟨rfl, hb3⟩
      go_wp2_with fail
      go_roundg q
      case measure => omega
      case rel => exact ⟨k + 1, by omega, by go_num, AG'.out, (hB.trans (hb2.mono hB.size)).trans (hb3.mono (Nat.le_trans hB.size hb2.size))⟩
    · obtain rfl : k = 15 := by omega
      have hA := alive_c wr (hw.below (by omega) hBw)
      go_wp2_with (go_at_call 10; refine hA.mono ?_; rintro e w2 ⟨rfl, hb2⟩)
      go_ret
      rw [← HBE.out]
      exact ⟨rfl, hBw.trans (hb2.mono (by have := hBw.size; have := HBE.out; omega))⟩
end Go.Proofs.YtgpecklibcgifaaGreatDoor
