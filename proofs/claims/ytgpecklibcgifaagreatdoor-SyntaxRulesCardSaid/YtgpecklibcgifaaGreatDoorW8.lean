/- Plain laws: texts as lists of characters; a prepared text is its own prepared text. -/
import Derived.Test.YtgpecklibcgifaaGreatDoorW1
import Derived.Test.YtgpecklibcgifaaGreatDoorW6
set_option linter.all false
namespace Go.Proofs.YtgpecklibcgifaaGreatDoor
open Go.RowKit

def VR (r : Int) : Prop := (0 ≤ r ∧ r < 55296) ∨ (57344 ≤ r ∧ r ≤ 1114111)
def cat (rs : List Int) : List UInt8 := rs.flatMap encR
theorem VR_of {r : Int} (h : Lib.validRune r = true) : VR r := by
  unfold Lib.validRune at h; simp at h; unfold VR; omega
theorem enc_cases {r : Int} (h : VR r) :
    (0 ≤ r ∧ r < 128 ∧ encR r = [UInt8.ofNat r.toNat]) ∨
    (128 ≤ r ∧ r < 2048 ∧ encR r = [UInt8.ofNat (192 + r.toNat / 64), UInt8.ofNat (128 + r.toNat % 64)]) ∨
    (2048 ≤ r ∧ r < 65536 ∧ encR r = [UInt8.ofNat (224 + r.toNat / 4096), UInt8.ofNat (128 + r.toNat / 64 % 64), UInt8.ofNat (128 + r.toNat % 64)]) ∨
    (65536 ≤ r ∧ r ≤ 1114111 ∧ encR r = [UInt8.ofNat (240 + r.toNat / 262144), UInt8.ofNat (128 + r.toNat / 4096 % 64), UInt8.ofNat (128 + r.toNat / 64 % 64), UInt8.ofNat (128 + r.toNat % 64)]) := by
  have hv : Utf8.valid r = true := by unfold VR at h; unfold Utf8.valid; simp; omega
  unfold encR Utf8.encode
  rw [hv]
  simp only [if_true]
  by_cases h1 : r.toNat < 128
  · left; refine ⟨by unfold VR at h; omega, by omega, ?_⟩; rw [if_pos h1]
  · rw [if_neg h1]
    right
    by_cases h2 : r.toNat < 2048
    · left; refine ⟨by omega, by omega, ?_⟩; rw [if_pos h2]
    · rw [if_neg h2]
      right
      by_cases h3 : r.toNat < 65536
      · left; refine ⟨by omega, by omega, ?_⟩; rw [if_pos h3]
      · rw [if_neg h3]
        right
        refine ⟨by omega, by unfold VR at h; omega, rfl⟩
theorem ofN {n : Nat} (h : n < 256) : (UInt8.ofNat n).toNat = n := by simp; omega
theorem decode_enc {r : Int} (h : VR r) (t : List UInt8) : Lib.decodeL (encR r ++ t) = (r.toNat, (encR r).length) := by
  rw [Lib.decodeL_N]
  unfold VR at h
  rcases enc_cases h with ⟨a, b, e⟩ | ⟨a, b, e⟩ | ⟨a, b, e⟩ | ⟨a, b, e⟩
  · rw [e]
    simp only [List.cons_append, List.nil_append, List.getD_cons_zero, List.length_cons, List.length_nil]
    rw [ofN (by omega)]
    unfold Lib.decodeN
    rw [if_pos (by omega)]
  · rw [e]
    simp only [List.cons_append, List.nil_append, List.getD_cons_zero, List.getD_cons_succ, List.length_cons, List.length_nil]
    rw [ofN (by omega), ofN (by omega)]
    unfold Lib.decodeN
    rw [if_neg (by omega), if_pos (by omega), if_pos (by omega)]
    apply Prod.ext <;> simp only <;> omega
  · rw [e]
    simp only [List.cons_append, List.nil_append, List.getD_cons_zero, List.getD_cons_succ, List.length_cons, List.length_nil]
    rw [ofN (by omega), ofN (by omega), ofN (by omega)]
    unfold Lib.decodeN
    rw [if_neg (by omega), if_neg (by omega), if_pos (by omega), if_pos (by omega)]
    apply Prod.ext <;> simp only <;> omega
  · rw [e]
    simp only [List.cons_append, List.nil_append, List.getD_cons_zero, List.getD_cons_succ, List.length_cons, List.length_nil]
    rw [ofN (by omega), ofN (by omega), ofN (by omega), ofN (by omega)]
    unfold Lib.decodeN
    rw [if_neg (by omega), if_neg (by omega), if_neg (by omega), if_pos (by omega), if_pos (by omega)]
    apply Prod.ext <;> simp only <;> omega
theorem enc_ne (r : Int) : encR r ≠ [] := by
  intro h; have := (encR_len r).1; rw [h] at this; simp at this
theorem cat_cons (r : Int) (rs : List Int) : cat (r :: rs) = encR r ++ cat rs := by simp [cat]
theorem cat_app (a b : List Int) : cat (a ++ b) = cat a ++ cat b := by simp [cat]
theorem runes_cat : ∀ rs : List Int, (∀ r ∈ rs, VR r) → runes (cat rs) = rs
  | [], _ => rfl
  | r :: rs, h => by
    have hr := h r (by simp)
    rw [cat_cons, runes_step _ (by simp [enc_ne]), decode_enc hr]
    simp only [List.drop_left]
    rw [runes_cat rs (fun x hx => h x (by simp [hx]))]
    congr 1
    unfold VR at hr; omega
theorem valid_cat : ∀ rs : List Int, (∀ r ∈ rs, VR r) → Lib.validD (cat rs) = true
  | [], _ => rfl
  | r :: rs, h => by
    have hr := h r (by simp)
    rw [cat_cons, Lib.validD_step _ (by simp [enc_ne]), decode_enc hr]
    simp only [List.drop_left]
    rw [if_neg, valid_cat rs (fun x hx => h x (by simp [hx]))]
    rintro ⟨h1, h2⟩
    rcases enc_cases hr with ⟨a, b, e⟩ | ⟨a, b, e⟩ | ⟨a, b, e⟩ | ⟨a, b, e⟩
    all_goals (rw [e] at h2; simp at h2)
    omega
theorem encR_lib (r : Int) (h : VR r) : encR r = Lib.encodeRune r := by
  have h' := h
  unfold VR at h'
  rcases enc_cases h with ⟨a, b, e⟩ | ⟨a, b, e⟩ | ⟨a, b, e⟩ | ⟨a, b, e⟩
  · rw [e, Lib.encodeRune, Lib.encodeRuneZ_one a (by omega)]; rfl
  · rw [e, Lib.encodeRune, Lib.encodeRuneZ_two a (by omega)]
    simp only [List.map_cons, List.map_nil]
    rw [show (192 + r / 64).toNat = 192 + r.toNat / 64 by omega, show (128 + r % 64).toNat = 128 + r.toNat % 64 by omega]
  · rw [e, Lib.encodeRune, Lib.encodeRuneZ_three (by omega)]
    simp only [List.map_cons, List.map_nil]
    rw [show (224 + r / 4096).toNat = 224 + r.toNat / 4096 by omega, show (128 + r / 64 % 64).toNat = 128 + r.toNat / 64 % 64 by omega, show (128 + r % 64).toNat = 128 + r.toNat % 64 by omega]
  · rw [e, Lib.encodeRune, Lib.encodeRuneZ_four a b]
    simp only [List.map_cons, List.map_nil]
    rw [show (240 + r / 262144).toNat = 240 + r.toNat / 262144 by omega, show (128 + r / 4096 % 64).toNat = 128 + r.toNat / 4096 % 64 by omega, show (128 + r / 64 % 64).toNat = 128 + r.toNat / 64 % 64 by omega, show (128 + r % 64).toNat = 128 + r.toNat % 64 by omega]
theorem cat_runes : ∀ (n : Nat) (l : List UInt8), l.length ≤ n → Lib.validD l = true → cat (runes l) = l ∧ ∀ r ∈ runes l, VR r
  | 0, l, hn, _ => by
    obtain rfl : l = [] := List.eq_nil_of_length_eq_zero (by omega)
    exact ⟨rfl, by simp [runes, runesF]⟩
  | n + 1, l, hn, hv => by
    by_cases hl : l = []
    · subst hl; exact ⟨rfl, by simp [runes, runesF]⟩
    · have hok := decodeL_ok l hl
      rw [Lib.validD_step l hl] at hv
      split at hv
      · cases hv
      · next hbad =>
        have ih := cat_runes n (l.drop (Lib.decodeL l).2) (by simp; omega) hv
        have hvr := VR_of hok.2.2.2
        rw [runes_step l hl, cat_cons, ih.1, encR_lib _ hvr, Lib.encode_decode l hl hbad, List.take_append_drop]
        refine ⟨rfl, fun r hr => ?_⟩
        simp only [List.mem_cons] at hr
        rcases hr with rfl | hr
        · exact hvr
        · exact ih.2 r hr

/-! ### what becomes of characters -/
def stepR (fold : Bool) (acc : List Int) (r : Int) : Option (List Int) :=
  if (mapR r).2.2 then none
  else if !(mapR r).2.1 then some acc
  else if (mapR r).1 = 32 ∧ acc.getLast? = some 32 then some acc
  else some (acc ++ [if fold then foldR (mapR r).1 else (mapR r).1])
def mapRR (fold : Bool) : List Int → List Int → Option (List Int)
  | [], acc => some acc
  | r :: rs, acc => (stepR fold acc r).bind (mapRR fold rs)
theorem some32 (n : Nat) (h : n < 256) : (some (UInt8.ofNat n) = some (32 : UInt8)) ↔ n = 32 := by
  rw [Option.some_inj, ← UInt8.toNat_inj, ofN h]; rfl
theorem enc_last {r : Int} (h : VR r) : ((encR r).getLast? = some 32 ↔ r = 32) := by
  rcases enc_cases h with ⟨a, b, e⟩ | ⟨a, b, e⟩ | ⟨a, b, e⟩ | ⟨a, b, e⟩
  all_goals rw [e]
  all_goals refine (some32 _ (by omega)).trans (by omega)
theorem enc_first {r : Int} (h : VR r) : ((encR r).head? = some 32 ↔ r = 32) := by
  rcases enc_cases h with ⟨a, b, e⟩ | ⟨a, b, e⟩ | ⟨a, b, e⟩ | ⟨a, b, e⟩
  all_goals rw [e]
  all_goals refine (some32 _ (by omega)).trans (by omega)
theorem cat_last (acc : List Int) (h : ∀ r ∈ acc, VR r) : ((cat acc).getLast? = some 32 ↔ acc.getLast? = some 32) := by
  rcases List.eq_nil_or_concat acc with rfl | ⟨a, r, rfl⟩
  · simp [cat]
  · rw [List.concat_eq_append, cat_app] at *
    have hr := h r (by simp)
    have : cat [r] = encR r := by simp [cat]
    rw [this, List.getLast?_append, List.getLast?_append]
    have he := enc_last hr
    have hne := enc_ne r
    cases hg : (encR r).getLast? with
    | none => simp at hg; exact absurd hg hne
    | some x => rw [hg] at he; simpa using he
theorem mapR_VR {r : Int} (h : VR r) (h1 : (mapR r).2.2 = false) (h2 : (mapR r).2.1 = true) : VR (mapR r).1 ∧ VR (foldR (mapR r).1) := by
  unfold VR at h
  have := mapR_rng r (by omega) (by omega)
  have h3 := foldR_rng (mapR r).1 this.1 this.2.1 (this.2.2 h1 h2)
  exact ⟨VR_of h3.2, VR_of h3.1⟩
theorem stepM_eq (fold : Bool) (acc : List Int) (r : Int) (ha : ∀ r ∈ acc, VR r) (hr : VR r) : stepM fold (cat acc) r = (stepR fold acc r).map cat ∧ ∀ a, stepR fold acc r = some a → ∀ x ∈ a, VR x := by
  unfold stepM stepR
  by_cases h1 : (mapR r).2.2 = true
  · rw [if_pos h1, if_pos h1]; exact ⟨rfl, by simp⟩
  · rw [if_neg h1, if_neg h1]
    by_cases h2 : (!(mapR r).2.1) = true
    · rw [if_pos h2, if_pos h2]; exact ⟨rfl, by simp; exact ha⟩
    · rw [if_neg h2, if_neg h2]
      have hv := mapR_VR hr (by simpa using h1) (by simpa using h2)
      by_cases h3 : (mapR r).1 = 32 ∧ acc.getLast? = some 32
      · rw [if_pos ⟨h3.1, (cat_last acc ha).2 h3.2⟩, if_pos h3]; exact ⟨rfl, by simp; exact ha⟩
      · rw [if_neg (fun h => h3 ⟨h.1, (cat_last acc ha).1 h.2⟩), if_neg h3]
        refine ⟨by simp [cat], ?_⟩
        intro a e
        cases e
        intro x hx
        simp only [List.mem_append, List.mem_singleton] at hx
        rcases hx with hx | rfl
        · exact ha x hx
        · cases fold
          · exact hv.1
          · exact hv.2
theorem mapRunes_eq (fold : Bool) : ∀ (rs acc : List Int), (∀ r ∈ acc, VR r) → (∀ r ∈ rs, VR r) → mapRunes fold rs (cat acc) = (mapRR fold rs acc).map cat
  | [], acc, _, _ => rfl
  | r :: rs, acc, ha, hr => by
    have := stepM_eq fold acc r ha (hr r (by simp))
    rw [mapRunes, mapRR, this.1]
    cases hs : stepR fold acc r with
    | none => rfl
    | some a =>
      simp only [Option.map_some, Option.bind_some]
      exact mapRunes_eq fold rs a (this.2 a hs) (fun x hx => hr x (by simp [hx]))
theorem mapped_eq (l : List UInt8) (fold : Bool) (hv : Lib.validD l = true) : mappedL l fold = (mapRR fold (runes l) []).map cat := by
  unfold mappedL
  rw [if_pos hv]
  exact mapRunes_eq fold _ [] (by simp) (cat_runes _ l (Nat.le_refl _) hv).2
/-- A character that stays as it is. -/
def Nice (fold : Bool) (r : Int) : Prop := mapR r = (r, true, false) ∧ (fold = true → foldR r = r) ∧ VR r
def NoTwo (l : List Int) : Prop := ∀ i : Nat, ¬ (l[i]? = some 32 ∧ l[i + 1]? = some 32)
theorem nice_blank (fold : Bool) : Nice fold 32 := by
  refine ⟨by decide, fun _ => by decide, by unfold VR; omega⟩
theorem fold_nice {r : Int} (h : VR r) (hm : mapR r = (r, true, false)) : Nice true (foldR r) := by
  have hr : VR (foldR r) := by have := mapR_VR h (by rw [hm]) (by rw [hm]); rw [hm] at this; exact this.2
  have key : mapR (foldR r) = (foldR r, true, false) ∧ foldR (foldR r) = foldR r := by
    unfold mapR at hm
    split at hm
    · next hb => have e : r = 32 := by have := congrArg Prod.fst hm; simpa using this.symm
                 subst e; decide
    · split at hm
      · have := congrArg (fun x => x.2.1) hm; simp at this
      · split at hm
        · have := congrArg (fun x => x.2.1) hm; simp at this
        · next h1 h2 h3 =>
          have hcase : foldR r = r ∨ (0x61 ≤ foldR r ∧ foldR r ≤ 0x7A) ∨ (0xDF ≤ foldR r ∧ foldR r ≤ 0xFE) ∨ (0x101 ≤ foldR r ∧ foldR r ≤ 0x177 ∧ foldR r % 2 = 1) ∨ (0x3B1 ≤ foldR r ∧ foldR r ≤ 0x3C9) ∨ (0x430 ≤ foldR r ∧ foldR r ≤ 0x45F) := by
            unfold foldR
            repeat' split
            all_goals omega
          have hff : foldR (foldR r) = foldR r := by
            rcases hcase with e | hc
            · rw [e, e]
            · generalize foldR r = x at hc
              unfold foldR
              repeat' split
              all_goals omega
          refine ⟨?_, hff⟩
          rcases hcase with e | hc
          · rw [e]; unfold mapR; rw [if_neg h1, if_neg h2, if_neg h3]
          · generalize foldR r = x at hc
            unfold mapR
            rw [if_neg (by unfold blankR; omega), if_neg (by unfold goesR; omega), if_neg (by unfold refR; omega)]
  exact ⟨key.1, fun _ => key.2, hr⟩
theorem mapR_stays {r : Int} (h1 : (mapR r).2.2 = false) (h2 : (mapR r).2.1 = true) : mapR (mapR r).1 = ((mapR r).1, true, false) := by
  unfold mapR at h1 h2 ⊢
  split
  · decide
  · next hb =>
    rw [if_neg hb] at h1 h2
    split
    · next hg => rw [if_pos hg] at h2; simp at h2
    · next hg =>
      rw [if_neg hg] at h1 h2
      split
      · next hf => rw [if_pos hf] at h1; simp at h1
      · next hf => first | (simp only; done) | (simp only; rw [if_neg hb, if_neg hg, if_neg hf])
theorem step_nice (fold : Bool) (acc a : List Int) (r : Int) (hr : VR r) (ha : ∀ x ∈ acc, Nice fold x) (hn : NoTwo acc) (h : stepR fold acc r = some a) : (∀ x ∈ a, Nice fold x) ∧ NoTwo a := by
  unfold stepR at h
  split at h
  · cases h
  · next h1 =>
    split at h
    · cases h; exact ⟨ha, hn⟩
    · next h2 =>
      have h1' : (mapR r).2.2 = false := by simpa using h1
      have h2' : (mapR r).2.1 = true := by simpa using h2
      split at h
      · cases h; exact ⟨ha, hn⟩
      · next h3 =>
        have hv := mapR_VR hr h1' h2'
        have hst := mapR_stays h1' h2'
        have hnew : Nice fold (if fold = true then foldR (mapR r).1 else (mapR r).1) := by
          cases fold
          · simp only [Bool.false_eq_true, if_false]; exact ⟨hst, by simp, hv.1⟩
          · simp only [if_true]; exact fold_nice hv.1 hst
        have h32 : (if fold = true then foldR (mapR r).1 else (mapR r).1) = 32 → (mapR r).1 = 32 := by
          cases fold
          · simp
          · simp only [if_true]
            generalize (mapR r).1 = x
            unfold foldR
            repeat' split
            all_goals omega
        cases h
        refine ⟨fun x hx => ?_, fun i hi => ?_⟩
        · simp only [List.mem_append, List.mem_singleton] at hx
          rcases hx with hx | rfl
          · exact ha x hx
          · exact hnew
        · obtain ⟨ha1, ha2⟩ := hi
          by_cases hlt : i + 1 < acc.length
          · rw [List.getElem?_append_left (by omega)] at ha1
            rw [List.getElem?_append_left hlt] at ha2
            exact hn i ⟨ha1, ha2⟩
          · have hi1 : i + 1 = acc.length := by
              have := (List.getElem?_eq_some_iff.1 ha2).1; simp at this; omega
            rw [List.getElem?_append_left (by omega)] at ha1
            rw [hi1, List.getElem?_append_right (Nat.le_refl _)] at ha2
            simp only [Nat.sub_self, List.getElem?_cons_zero, Option.some.injEq] at ha2
            apply h3
            refine ⟨h32 ha2, ?_⟩
            rw [List.getLast?_eq_getElem?, show acc.length - 1 = i by omega]
            exact ha1
theorem map_nice (fold : Bool) : ∀ (rs acc a : List Int), (∀ r ∈ rs, VR r) → (∀ x ∈ acc, Nice fold x) → NoTwo acc → mapRR fold rs acc = some a → (∀ x ∈ a, Nice fold x) ∧ NoTwo a
  | [], acc, a, _, ha, hn, h => by cases h; exact ⟨ha, hn⟩
  | r :: rs, acc, a, hr, ha, hn, h => by
    rw [mapRR] at h
    obtain ⟨b, hb, h2⟩ := Option.bind_eq_some_iff.1 h
    have := step_nice fold acc b r (hr r (by simp)) ha hn hb
    exact map_nice fold rs b a (fun x hx => hr x (by simp [hx])) this.1 this.2 h2
theorem map_same (fold : Bool) : ∀ (rs acc : List Int), (∀ x ∈ rs, Nice fold x) → NoTwo (acc ++ rs) → mapRR fold rs acc = some (acc ++ rs)
  | [], acc, _, _ => by simp [mapRR]
  | r :: rs, acc, hr, hn => by
    have h0 := hr r (by simp)
    have hs : stepR fold acc r = some (acc ++ [r]) := by
      unfold stepR
      rw [h0.1]
      simp only [Bool.false_eq_true, if_false, Bool.not_true]
      rw [if_neg]
      · cases fold
        · simp
        · simp [h0.2.1 rfl]
      · rintro ⟨rfl, hl⟩
        rw [List.getLast?_eq_getElem?] at hl
        have hp : acc.length - 1 < acc.length := (List.getElem?_eq_some_iff.1 hl).1
        apply hn (acc.length - 1)
        constructor
        · rw [List.getElem?_append_left hp]; exact hl
        · rw [show acc.length - 1 + 1 = acc.length by omega, List.getElem?_append_right (Nat.le_refl _)]; simp
    rw [mapRR, hs]
    simp only [Option.bind_some]
    rw [map_same fold rs (acc ++ [r]) (fun x hx => hr x (by simp [hx])) (by simpa using hn)]
    simp
end Go.Proofs.YtgpecklibcgifaaGreatDoor
/- Plain laws: a prepared text is its own prepared text. -/
namespace Go.Proofs.YtgpecklibcgifaaGreatDoor
open Go.RowKit

def trimI (L : List Int) : List Int := ((L.reverse.dropWhile (· == 32)).reverse).dropWhile (· == 32)
theorem dropW_id {α : Type} [BEq α] [LawfulBEq α] (c : α) : ∀ l : List α, l.head? ≠ some c → l.dropWhile (· == c) = l
  | [], _ => rfl
  | x :: l, h => by
    have : (x == c) = false := by rw [beq_eq_false_iff_ne]; intro e; apply h; simp [e]
    rw [List.dropWhile_cons, this]; simp
theorem dropW_head {α : Type} [BEq α] [LawfulBEq α] (c : α) : ∀ l : List α, (l.dropWhile (· == c)).head? ≠ some c
  | [] => by simp
  | x :: l => by
    rw [List.dropWhile_cons]
    split
    · exact dropW_head c l
    · next h => simp; intro e; exact h (by simp [e])
theorem dropW_suffix {α : Type} (p : α → Bool) (l : List α) : ∃ a, l = a ++ l.dropWhile p := ⟨l.takeWhile p, (List.takeWhile_append_dropWhile).symm⟩
theorem cat_dropW : ∀ rs : List Int, (∀ r ∈ rs, VR r) → (cat rs).dropWhile (· == 32) = cat (rs.dropWhile (· == 32))
  | [], _ => rfl
  | r :: rs, h => by
    have hr := h r (by simp)
    by_cases he : r = 32
    · subst he
      have e : encR 32 = [32] := by decide
      rw [cat_cons, e, List.dropWhile_cons, List.singleton_append, List.dropWhile_cons]
      simp only [beq_self_eq_true, if_true]
      exact cat_dropW rs (fun x hx => h x (by simp [hx]))
    · rw [dropW_id 32 (r :: rs) (by simp [he])]
      apply dropW_id
      rw [cat_cons, List.head?_append]
      have h1 := enc_first hr
      have hne := enc_ne r
      cases hg : (encR r).head? with
      | none => simp at hg; exact absurd hg hne
      | some x => rw [hg] at h1; simp at h1 ⊢; intro e; exact he (h1.1 e)
theorem cat_dropR : ∀ (n : Nat) (rs : List Int), rs.length = n → (∀ r ∈ rs, VR r) → ((cat rs).reverse.dropWhile (· == 32)).reverse = cat ((rs.reverse.dropWhile (· == 32)).reverse)
  | 0, rs, hn, _ => by
    obtain rfl : rs = [] := List.eq_nil_of_length_eq_zero hn
    rfl
  | n + 1, rs, hn, h => by
    rcases List.eq_nil_or_concat rs with rfl | ⟨a, r, rfl⟩
    · rfl
    · rw [List.concat_eq_append] at *
      have hr := h r (by simp)
      by_cases he : r = 32
      · subst he
        have e : cat [32] = [32] := by decide
        rw [cat_app, e, List.reverse_append, List.reverse_append, List.reverse_singleton, List.reverse_singleton, List.singleton_append, List.singleton_append, List.dropWhile_cons, List.dropWhile_cons]
        simp only [beq_self_eq_true, if_true]
        exact cat_dropR n a (by simp at hn; exact hn) (fun x hx => h x (by simp [hx]))
      · rw [dropW_id 32 (a ++ [r]).reverse (by simp [he]), dropW_id, List.reverse_reverse, List.reverse_reverse]
        rw [List.head?_reverse]
        intro e
        have := (cat_last _ h).1 e
        simp at this
        exact he this
theorem cat_trim (L : List Int) (h : ∀ r ∈ L, VR r) : Lib.trimB (cat L) 32 = cat (trimI L) := by
  unfold Lib.trimB Lib.trimLeftB Lib.trimRightB trimI
  rw [cat_dropR _ L rfl h, cat_dropW]
  intro r hr
  apply h
  rw [List.mem_reverse] at hr
  have := List.dropWhile_suffix (l := L.reverse) (· == 32)
  exact List.mem_reverse.1 (this.subset hr)
theorem trimI_infix (L : List Int) : ∃ a b, L = a ++ trimI L ++ b := by
  unfold trimI
  obtain ⟨b, hb⟩ := dropW_suffix (· == 32) L.reverse
  obtain ⟨a, ha⟩ := dropW_suffix (· == 32) (L.reverse.dropWhile (· == 32)).reverse
  refine ⟨a, b.reverse, ?_⟩
  rw [← ha]
  have := congrArg List.reverse hb
  rw [List.reverse_reverse, List.reverse_append] at this
  exact this
theorem trimI_head (L : List Int) : (trimI L).head? ≠ some 32 := dropW_head 32 _
theorem trimI_last (L : List Int) : (trimI L).getLast? ≠ some 32 := by
  unfold trimI
  have h0 := dropW_head 32 L.reverse
  rw [← List.getLast?_reverse] at h0
  generalize (L.reverse.dropWhile (· == 32)).reverse = N at h0 ⊢
  obtain ⟨a, ha⟩ := dropW_suffix (· == 32) N
  generalize N.dropWhile (· == 32) = M at ha
  subst ha
  intro e
  apply h0
  rw [List.getLast?_append, e]; rfl
theorem trimI_id (M : List Int) (h1 : M.head? ≠ some 32) (h2 : M.getLast? ≠ some 32) : trimI M = M := by
  unfold trimI
  rw [dropW_id 32 M.reverse (by rw [List.head?_reverse]; exact h2), List.reverse_reverse, dropW_id 32 M h1]
theorem NoTwo.infix {a b c : List Int} (h : NoTwo (a ++ b ++ c)) : NoTwo b := by
  intro i hi
  obtain ⟨h1, h2⟩ := hi
  apply h (a.length + i)
  have l1 := (List.getElem?_eq_some_iff.1 h1).1
  have l2 := (List.getElem?_eq_some_iff.1 h2).1
  rw [List.append_assoc]
  constructor
  · rw [List.getElem?_append_right (by omega), List.getElem?_append_left (by omega), show a.length + i - a.length = i by omega]; exact h1
  · rw [List.getElem?_append_right (by omega), List.getElem?_append_left (by omega), show a.length + i + 1 - a.length = i + 1 by omega]; exact h2
/-- What Prepare tells, in characters. -/
theorem prep_form {l p : List UInt8} {fold : Bool} (h : prepL l fold = some p) : Lib.validD l = true ∧ ∃ L, mapRR fold (runes l) [] = some L ∧ (∀ x ∈ L, Nice fold x) ∧ NoTwo L ∧ ((cat (trimI L) = [] ∧ l ≠ [] ∧ p = [32]) ∨ (¬ (cat (trimI L) = [] ∧ l ≠ []) ∧ p = cat (trimI L))) := by
  unfold prepL at h
  have hv : Lib.validD l = true := by
    cases hv : Lib.validD l
    · unfold mappedL at h; rw [hv] at h; simp at h
    · rfl
  refine ⟨hv, ?_⟩
  rw [mapped_eq l fold hv] at h
  cases hm : mapRR fold (runes l) [] with
  | none => rw [hm] at h; simp at h
  | some L =>
    rw [hm] at h
    have hn := map_nice fold (runes l) [] L (cat_runes _ l (Nat.le_refl _) hv).2 (by simp) (by intro i hi; simp at hi) hm
    simp only [Option.map_some] at h
    rw [cat_trim L (fun r hr => (hn.1 r hr).2.2)] at h
    refine ⟨L, rfl, hn.1, hn.2, ?_⟩
    split at h
    · next hc => exact .inl ⟨hc.1, hc.2, (Option.some.inj h).symm⟩
    · next hc => exact .inr ⟨hc, (Option.some.inj h).symm⟩
theorem cat_nil {L : List Int} : cat L = [] ↔ L = [] := by
  constructor
  · intro h
    cases L with
    | nil => rfl
    | cons r L => rw [cat_cons] at h; simp [enc_ne] at h
  · rintro rfl; rfl
/-- What is prepared stays, whatever it is made of: characters that stay, no two blanks. -/
theorem prep_of_nice (fold : Bool) (L : List Int) (hn : ∀ x ∈ L, Nice fold x) (h2 : NoTwo L) (h3 : L.head? ≠ some 32) (h4 : L.getLast? ≠ some 32) : prepL (cat L) fold = some (cat L) := by
  have hVR : ∀ x ∈ L, VR x := fun x hx => (hn x hx).2.2
  unfold prepL
  rw [mapped_eq _ fold (valid_cat L hVR), runes_cat L hVR, map_same fold L [] hn (by simpa using h2)]
  simp only [List.nil_append, Option.map_some]
  rw [cat_trim L hVR, trimI_id L h3 h4, if_neg (fun h => h.2 h.1)]
theorem prep_blank (fold : Bool) : prepL [32] fold = some [32] := by cases fold <;> decide
theorem prep_idem {l p : List UInt8} {fold : Bool} (h : prepL l fold = some p) : prepL p fold = some p := by
  obtain ⟨hv, L, hm, hn, h2, hc⟩ := prep_form h
  rcases hc with ⟨_, _, rfl⟩ | ⟨_, rfl⟩
  · exact prep_blank fold
  · obtain ⟨a, b, hab⟩ := trimI_infix L
    refine prep_of_nice fold _ (fun x hx => hn x ?_) (NoTwo.infix (hab ▸ h2)) (trimI_head L) (trimI_last L)
    rw [hab]; simp [hx]
theorem prep_ne {l p : List UInt8} {fold : Bool} (h : prepL l fold = some p) (hl : l ≠ []) : p ≠ [] := by
  obtain ⟨hv, L, hm, hn, h2, hc⟩ := prep_form h
  rcases hc with ⟨_, _, rfl⟩ | ⟨h1, rfl⟩
  · simp
  · intro e; exact h1 ⟨e, hl⟩
theorem prep_nil {p : List UInt8} {fold : Bool} (h : prepL [] fold = some p) : p = [] := by
  have : prepL [] fold = some [] := by cases fold <;> decide
  rw [this] at h; exact (Option.some.inj h).symm
theorem map_some (f g : Bool) : ∀ (rs acc acc' : List Int), (mapRR f rs acc).isSome = (mapRR g rs acc').isSome
  | [], _, _ => rfl
  | r :: rs, acc, acc' => by
    rw [mapRR, mapRR]
    have hs : ∀ (f : Bool) (acc : List Int), (mapR r).2.2 = false → ∃ a, stepR f acc r = some a := by
      intro f acc h
      unfold stepR
      rw [h]
      simp only [Bool.false_eq_true, if_false]
      split
      · exact ⟨_, rfl⟩
      · split
        · exact ⟨_, rfl⟩
        · exact ⟨_, rfl⟩
    cases h : (mapR r).2.2
    · obtain ⟨a, ha⟩ := hs f acc h
      obtain ⟨b, hb⟩ := hs g acc' h
      rw [ha, hb]
      exact map_some f g rs a b
    · have : ∀ (f : Bool) (acc : List Int), stepR f acc r = none := by intro f acc; unfold stepR; rw [h]; rfl
      rw [this, this]; rfl
/-- Whether a text can be prepared does not go by the letters. -/
theorem prep_some (f g : Bool) (l : List UInt8) : (prepL l f).isSome = (prepL l g).isSome := by
  have e : ∀ f, (prepL l f).isSome = (mappedL l f).isSome := by
    intro f
    unfold prepL
    cases mappedL l f with
    | none => rfl
    | some t => simp only; split <;> rfl
  rw [e, e]
  cases hv : Lib.validD l
  · unfold mappedL; rw [hv]; rfl
  · rw [mapped_eq l f hv, mapped_eq l g hv]
    simp only [Option.isSome_map]
    exact map_some f g _ _ _
end Go.Proofs.YtgpecklibcgifaaGreatDoor
/- Plain laws: a part's pairs in their order, each once: told by its members alone. -/
namespace Go.Proofs.YtgpecklibcgifaaGreatDoor
open Go.RowKit Go.Sort

/-- Strictly in an order. -/
def SS {α : Type} (f : α → α → Int) (l : List α) : Prop := l.Pairwise (fun a b => f a b < 0)
theorem SS.unique {α : Type} {f : α → α → Int} (hf : Ord f) : ∀ l l' : List α, SS f l → SS f l' → (∀ x, x ∈ l ↔ x ∈ l') → l = l'
  | [], [], _, _, _ => rfl
  | [], y :: l', _, _, h => by have := (h y).2 (by simp); simp at this
  | x :: l, [], _, _, h => by have := (h x).1 (by simp); simp at this
  | x :: l, y :: l', h1, h2, h => by
    unfold SS at h1 h2
    rw [List.pairwise_cons] at h1 h2
    have hxy : x = y := by
      have a := (h x).1 (by simp)
      have b := (h y).2 (by simp)
      rw [List.mem_cons] at a b
      rcases a with a | a
      · exact a
      · rcases b with b | b
        · exact b.symm
        · have c := h1.1 y b
          have d := h2.1 x a
          have e := hf.swap x y
          omega
    subst hxy
    have hx := (hf.zero x x).2 rfl
    rw [SS.unique hf l l' h1.2 h2.2 (fun z => ?_)]
    constructor
    · intro hz
      have := (h z).1 (by simp [hz])
      rw [List.mem_cons] at this
      rcases this with e | e
      · have := h1.1 z hz; rw [e] at this; omega
      · exact e
    · intro hz
      have := (h z).2 (by simp [hz])
      rw [List.mem_cons] at this
      rcases this with e | e
      · have := h2.1 z hz; rw [e] at this; omega
      · exact e
theorem ddL_ss {α : Type} [DecidableEq α] {f : α → α → Int} (hf : Ord f) (p : List α) (hs : ∀ (i j : Nat) x y, i < j → p[i]? = some x → p[j]? = some y → f x y ≤ 0) :
    ∀ n, n ≤ p.length → SS f (ddL p n) ∧ ∀ x, x ∈ ddL p n ↔ ∃ i, i < n ∧ p[i]? = some x
  | 0, _ => ⟨by simp [ddL, SS], by simp [ddL]⟩
  | n + 1, hn => by
    obtain ⟨ih1, ih2⟩ := ddL_ss hf p hs n (by omega)
    have hx : p[n]? = some p[n] := List.getElem?_eq_getElem (by omega)
    rw [ddL, hx]
    simp only
    by_cases hc : n ≠ 0 ∧ p[n - 1]? = some p[n]
    · rw [if_pos hc]
      refine ⟨ih1, fun x => ?_⟩
      rw [ih2]
      constructor
      · rintro ⟨i, hi, h⟩; exact ⟨i, by omega, h⟩
      · rintro ⟨i, hi, h⟩
        by_cases hin : i = n
        · subst hin; exact ⟨i - 1, by omega, by rw [hc.2, ← hx, h]⟩
        · exact ⟨i, by omega, h⟩
    · rw [if_neg hc]
      constructor
      · unfold SS at *
        rw [List.pairwise_append]
        refine ⟨ih1, by simp, fun y hy z hz => ?_⟩
        rw [List.mem_singleton] at hz
        subst hz
        obtain ⟨i, hi, h⟩ := (ih2 y).1 hy
        have h1 := hs i n y _ hi h hx
        rcases Int.lt_or_eq_of_le h1 with h2 | h2
        · exact h2
        · exfalso
          have hyx := (hf.zero _ _).1 h2
          subst hyx
          have hm : p[n - 1]? = some p[n - 1] := List.getElem?_eq_getElem (by omega)
          apply hc
          refine ⟨by omega, ?_⟩
          rw [hm]
          congr 1
          apply (hf.zero _ _).1
          have a := hs (n - 1) n _ _ (by omega) hm hx
          have b : f p[n] p[n - 1] ≤ 0 := by
            by_cases e : i = n - 1
            · subst e
              have : p[n] = p[n - 1] := by rw [hm] at h; exact (Option.some.inj h).symm
              rw [this]; have := (hf.zero p[n - 1] p[n - 1]).2 rfl; omega
            · exact hs i (n - 1) _ _ (by omega) h hm
          have c := hf.swap p[n - 1] p[n]
          omega
      · intro x
        rw [List.mem_append, List.mem_singleton, ih2]
        constructor
        · rintro (⟨i, hi, h⟩ | rfl)
          · exact ⟨i, by omega, h⟩
          · exact ⟨n, by omega, hx⟩
        · rintro ⟨i, hi, h⟩
          by_cases hin : i = n
          · subst hin; right; rw [hx] at h; exact (Option.some.inj h).symm
          · left; exact ⟨i, by omega, h⟩
theorem sortA_le (p : List (List UInt8 × List UInt8)) (i j : Nat) (x y : List UInt8 × List UInt8) (hij : i < j) (hx : (sortA p).toList[i]? = some x) (hy : (sortA p).toList[j]? = some y) : avaCmp x y ≤ 0 := by
  have h := (insertionSort_holds (lt := ltOf avaCmp) avaCmp_ord.swo p.toArray 0 p.length (Nat.zero_le _) (by simp)).2
  have hl := sortA_len p
  obtain ⟨hj, ey⟩ := List.getElem?_eq_some_iff.1 hy
  obtain ⟨hi, ex⟩ := List.getElem?_eq_some_iff.1 hx
  have hh := h i j (Nat.zero_le _) hij (by omega)
  have e1 : (sortA p)[i]! = x := by rw [← ex]; simp at hi; simp [hi]
  have e2 : (sortA p)[j]! = y := by rw [← ey]; simp at hj; simp [hj]
  change ltOf avaCmp (sortA p)[j]! (sortA p)[i]! = false at hh
  rw [e1, e2] at hh
  simp only [ltOf, decide_eq_false_iff_not] at hh
  have := avaCmp_ord.swap x y
  omega
theorem partN_ss (p : List (List UInt8 × List UInt8)) : SS avaCmp (partN p) := (ddL_ss avaCmp_ord _ (sortA_le p) p.length (by rw [sortA_len]; exact Nat.le_refl _)).1
theorem partN_iff (p : List (List UInt8 × List UInt8)) (x : List UInt8 × List UInt8) : x ∈ partN p ↔ x ∈ p := by
  unfold partN
  rw [(ddL_ss avaCmp_ord _ (sortA_le p) p.length (by rw [sortA_len]; exact Nat.le_refl _)).2, ← (sortA_perm p).mem_iff]
  constructor
  · rintro ⟨i, _, h⟩; exact List.mem_of_getElem? h
  · intro h
    obtain ⟨i, hi, e⟩ := List.mem_iff_getElem.1 h
    exact ⟨i, by rw [sortA_len] at hi; exact hi, by rw [List.getElem?_eq_getElem hi, e]⟩
theorem partN_id {p : List (List UInt8 × List UInt8)} (h : SS avaCmp p) : partN p = p := SS.unique avaCmp_ord _ _ (partN_ss p) h (partN_iff p)
theorem partN_eq {p q : List (List UInt8 × List UInt8)} (h : ∀ x, x ∈ p ↔ x ∈ q) : partN p = partN q := SS.unique avaCmp_ord _ _ (partN_ss p) (partN_ss q) (fun x => by rw [partN_iff, partN_iff, h])
theorem lowB_idem (c : UInt8) : lowB (lowB c) = lowB c := by
  unfold lowB
  split
  · next h =>
    have e : (c + 32).toNat = c.toNat + 32 := by rw [UInt8.toNat_add]; simp; omega
    rw [if_neg (by omega)]
  · next h => first | rfl | rw [if_neg h]
theorem small_idem (l : List UInt8) : smallL (smallL l) = smallL l := by
  unfold smallL
  rw [List.map_map]
  exact List.map_congr_left fun c _ => lowB_idem c
theorem normA_idem (x : List UInt8 × List UInt8) : normA (normA x) = normA x := by
  unfold normA
  simp only [small_idem]
  cases h : prepL x.2 true with
  | none => simp [h]
  | some p => simp [prep_idem h]
theorem normP_idem (p : List (List UInt8 × List UInt8)) : normP (normP p) = normP p := by
  unfold normP
  have : (partN (p.map normA)).map normA = partN (p.map normA) := by
    refine (List.map_congr_left (g := id) fun x hx => ?_).trans (List.map_id _)
    rw [partN_iff] at hx
    obtain ⟨y, _, rfl⟩ := List.mem_map.1 hx
    exact normA_idem y
  rw [this]
  exact partN_id (partN_ss _)
end Go.Proofs.YtgpecklibcgifaaGreatDoor
/- Plain laws: what stands between dots; types. -/
namespace Go.Proofs.YtgpecklibcgifaaGreatDoor
open Go.RowKit Go.Sort

/-- A text cut at its dots. -/
def spl (d : UInt8) : List UInt8 → List (List UInt8)
  | [] => [[]]
  | c :: t => if c = d then [] :: spl d t else match spl d t with
    | [] => [[c]]
    | x :: r => (c :: x) :: r
theorem spl_ne (d : UInt8) : ∀ l, spl d l ≠ []
  | [] => by simp [spl]
  | c :: t => by
    rw [spl]
    split
    · simp
    · split <;> simp
theorem splitK_cons (c d : UInt8) (h : c ≠ d) (t : List UInt8) : ∀ k, ∃ x r, Lib.splitK [d] 0 k t = x :: r ∧ Lib.splitK [d] 0 k (c :: t) = (c :: x) :: r
  | 0 => ⟨t, [], rfl, rfl⟩
  | k + 1 => by
    have hp : ([d] : List UInt8).isPrefixOf (c :: t) = false := by simp [List.isPrefixOf, Ne.symm h]
    have hix : Lib.index (c :: t) [d] = if Lib.index t [d] == -1 then -1 else Lib.index t [d] + 1 := by rw [Lib.index, hp]; simp
    rw [Lib.splitK, Lib.splitK, hix]
    by_cases hm : (Lib.index t [d] == -1) = true
    · rw [if_pos hm, if_pos hm]; exact ⟨t, [], rfl, rfl⟩
    · rw [if_neg hm, if_neg hm]
      have hge := Lib.index_ge t [d]
      have hm' : Lib.index t [d] ≠ -1 := by simpa using hm
      obtain ⟨j, hj⟩ : ∃ j : Nat, Lib.index t [d] = j := ⟨(Lib.index t [d]).toNat, by omega⟩
      rw [hj, if_neg (by simp; omega)]
      refine ⟨_, _, rfl, ?_⟩
      rw [show ((j : Int) + 1).toNat = j + 1 by omega]
      simp
theorem splitK_spl (d : UInt8) : ∀ l : List UInt8, Lib.splitK [d] 0 (l.count d) l = spl d l
  | [] => rfl
  | c :: t => by
    have ih := splitK_spl d t
    by_cases h : c = d
    · subst h
      rw [List.count_cons_self, Lib.splitK, spl, if_pos rfl]
      have hix : Lib.index (c :: t) [c] = ((0 : Nat) : Int) := by rw [Lib.index]; simp [List.isPrefixOf]
      rw [hix]
      simp only [List.length_singleton, Int.toNat_natCast]
      rw [if_neg (by decide)]
      simp [ih]
    · rw [List.count_cons_of_ne (by simpa using h)]
      obtain ⟨x, r, e1, e2⟩ := splitK_cons c d h t (t.count d)
      rw [e2, spl, if_neg h, ← ih, e1]
theorem segs_spl (l : List UInt8) : segs l = spl 46 l := by
  unfold segs
  rw [Lib.splitB_data]
  have : Lib.countB ⟨l.toArray⟩ ⟨#[46]⟩ = l.count 46 := by
    show Lib.count l [46] = _
    exact Lib.count_one 46 l
  rw [this]
  exact splitK_spl 46 l
theorem spl_mem (d : UInt8) : ∀ (l : List UInt8) (c : UInt8), c ∈ l → c = d ∨ ∃ s ∈ spl d l, c ∈ s
  | [], c, h => by simp at h
  | x :: t, c, h => by
    rw [spl]
    rw [List.mem_cons] at h
    by_cases hx : x = d
    · rw [if_pos hx]
      rcases h with rfl | h
      · exact .inl hx
      · rcases spl_mem d t c h with h1 | ⟨s, h1, h2⟩
        · exact .inl h1
        · exact .inr ⟨s, by simp [h1], h2⟩
    · rw [if_neg hx]
      have hne := spl_ne d t
      cases hs : spl d t with
      | nil => exact absurd hs hne
      | cons y r =>
        simp only
        rcases h with rfl | h
        · exact .inr ⟨_, List.mem_cons_self .., by simp⟩
        · rcases spl_mem d t c h with h1 | ⟨s, h1, h2⟩
          · exact .inl h1
          · rw [hs, List.mem_cons] at h1
            rcases h1 with rfl | h1
            · exact .inr ⟨_, List.mem_cons_self .., by simp [h2]⟩
            · exact .inr ⟨s, by simp [h1], h2⟩
theorem isOid_all {l : List UInt8} (h : isOidL l = true) : ∀ c ∈ l, c = 46 ∨ isDig c = true := by
  intro c hc
  unfold isOidL at h
  rw [segs_spl, Bool.and_eq_true] at h
  rcases spl_mem 46 l c hc with h1 | ⟨s, h1, h2⟩
  · exact .inl h1
  · right
    have := List.all_eq_true.1 h.1 s h1
    unfold segOk at this
    rw [Bool.and_eq_true] at this
    exact List.all_eq_true.1 this.2 c h2
theorem dig_inTy {c : UInt8} (h : c = 46 ∨ isDig c = true) : inTy c = true ∧ lowB c = c := by
  unfold inTy inTypeB digB lowB
  rcases h with rfl | h
  · decide
  · unfold isDig at h
    simp at h
    refine ⟨?_, by rw [if_neg (by omega)]⟩
    have h1 : decide ((48 : Int) ≤ (c.toNat : Int)) = true := by simp; omega
    have h2 : decide ((c.toNat : Int) ≤ 57) = true := by simp; omega
    rw [h1, h2]; simp
theorem type_ne {t : List UInt8} (h : isTypeL t = true) : t ≠ [] := by rintro rfl; simp [isTypeL] at h
theorem type_all {t : List UInt8} (h : isTypeL t = true) : ∀ c ∈ t, inTy c = true := by
  cases t with
  | nil => simp
  | cons c m =>
    unfold isTypeL at h
    rw [Bool.and_eq_true] at h
    intro x hx
    by_cases hl : letB c.toNat = true
    · rw [if_pos hl] at h
      have := List.all_eq_true.1 h.2 x hx
      unfold typeCh at this
      rw [Bool.and_eq_true] at this
      exact this.1
    · rw [if_neg hl] at h
      exact (dig_inTy (isOid_all h.2 x hx)).1
theorem low_nat (c : UInt8) : (lowB c).toNat = if 65 ≤ c.toNat ∧ c.toNat ≤ 90 then c.toNat + 32 else c.toNat := by
  unfold lowB
  split
  · rw [UInt8.toNat_add]; simp; omega
  · rfl
theorem low_let (c : UInt8) : letB (lowB c).toNat = letB c.toNat := by
  rw [low_nat]; unfold letB; rw [Bool.eq_iff_iff]; simp; split <;> omega
theorem low_typeCh (c : UInt8) (h : typeCh c = true) : typeCh (lowB c) = true := by
  unfold typeCh inTypeB at *
  rw [low_let]
  by_cases hc : 65 ≤ c.toNat ∧ c.toNat ≤ 90
  · have h1 : letB c.toNat = true := by unfold letB; simp; omega
    rw [h1]
    have h2 : (lowB c == 46) = false := by
      rw [beq_eq_false_iff_ne]; intro e
      have := congrArg UInt8.toNat e
      rw [low_nat, if_pos hc] at this
      simp at this; omega
    simp [h2]
  · have : lowB c = c := by unfold lowB; rw [if_neg hc]
    rw [this]; exact h
theorem type_small {t : List UInt8} (h : isTypeL t = true) : isTypeL (smallL t) = true := by
  cases t with
  | nil => simp [isTypeL] at h
  | cons c m =>
    unfold isTypeL at h
    rw [Bool.and_eq_true] at h
    by_cases hl : letB c.toNat = true
    · rw [if_pos hl] at h
      unfold smallL
      rw [List.map_cons]
      unfold isTypeL
      rw [Bool.and_eq_true, low_let, if_pos hl]
      refine ⟨by simpa using h.1, ?_⟩
      rw [← List.map_cons, List.all_map]
      exact List.all_eq_true.2 fun x hx => low_typeCh x (List.all_eq_true.1 h.2 x hx)
    · rw [if_neg hl] at h
      have hs : smallL (c :: m) = c :: m := by
        unfold smallL
        exact (List.map_congr_left (g := id) fun x hx => (dig_inTy (isOid_all h.2 x hx)).2).trans (List.map_id _)
      rw [hs]
      unfold isTypeL
      rw [Bool.and_eq_true, if_neg hl]
      exact h
end Go.Proofs.YtgpecklibcgifaaGreatDoor
/- Plain laws: a name that is written is read as it was. -/
namespace Go.Proofs.YtgpecklibcgifaaGreatDoor
open Go.RowKit Go.Sort

/-- Nothing, or a comma or a plus. -/
def Stop (r : List UInt8) : Prop := ∀ x t, r = x :: t → x = 43 ∨ x = 44
theorem idx_mem (l : List UInt8) (c : UInt8) : 0 ≤ Lib.indexByte l c ↔ c ∈ l := by
  have := Lib.contains_iff_indexByte l c
  rw [Bool.eq_iff_iff] at this
  simpa using this.symm
theorem u8_nat (c : UInt8) (n : Nat) (h : n < 256) : ((c.toNat : Int) = (n : Int)) ↔ c = UInt8.ofNat n := by
  rw [← UInt8.toNat_inj, ofN h]; omega
/-- A value as it is written, from a place on. -/
def wrT (n : Nat) : Nat → List UInt8 → List UInt8
  | _, [] => []
  | p, c :: t => wrB n p c ++ wrT n (p + 1) t
theorem wrL_T (v : List UInt8) : ∀ (k p : Nat), p + k = v.length → wrL v v.length = wrL v p ++ wrT v.length p (v.drop p)
  | 0, p, h => by
    obtain rfl : p = v.length := by omega
    rw [List.drop_length]; simp [wrT]
  | k + 1, p, h => by
    have hp : p < v.length := by omega
    rw [wrL_T v k (p + 1) (by omega), wrL_at v p hp _ rfl, List.drop_eq_getElem_cons hp, wrT, List.append_assoc]
theorem written_T (v : List UInt8) (hv : Lib.validD v = true) : writtenL v = wrT v.length 0 v := by
  unfold writtenL
  rw [if_pos hv, wrL_T v v.length 0 (by omega)]
  simp [wrL]
theorem val_read (v : List UInt8) (r : List UInt8) (hr : Stop r) : ∀ (u acc : List UInt8) (long n : Nat), v = acc ++ u → long ≤ acc.length → (u = [] → long = acc.length) → (wrT v.length acc.length u ++ r).length ≤ n →
    valL n (wrT v.length acc.length u ++ r) acc long = some (v, r)
  | [], acc, long, n, hv, hl, he, hn => by
    simp only [List.append_nil] at hv
    subst hv
    rw [wrT, List.nil_append, he rfl]
    cases r with
    | nil => rw [valL]; simp
    | cons x t =>
      rw [wrT, List.nil_append] at hn
      cases n with
      | zero => simp at hn
      | succ n =>
        rw [valL, if_pos]
        · simp
        · rcases hr x t rfl with h | h
          · right; rw [h]; rfl
          · left; rw [h]; rfl
  | c :: u, acc, long, n, hv, hl, he, hn => by
    have ih := fun long' n' h1 h2 h3 => val_read v r hr u (acc ++ [c]) long' n' (by rw [hv]; simp) h1 h2 h3
    rw [wrT, List.append_assoc] at hn ⊢
    have hlen : (acc ++ [c]).length = acc.length + 1 := by simp
    rw [hlen] at ih
    have hlast : u = [] → acc.length = v.length - 1 := by rintro rfl; rw [hv]; simp
    generalize hw : wrT v.length (acc.length + 1) u ++ r = R at *
    unfold wrB at hn ⊢
    by_cases h0 : c = 0
    · subst h0
      rw [if_pos (by decide)] at hn ⊢
      simp only [List.cons_append, List.nil_append, List.length_cons] at hn ⊢
      obtain ⟨m, rfl⟩ : ∃ m, n = m + 1 := ⟨n - 1, by omega⟩
      rw [valL, if_neg (by decide), if_pos (by decide)]
      have : escR (48 :: 48 :: R) = some (0, R) := by
        rw [escR, if_neg (by decide), esc2, if_neg (by decide)]; rfl
      rw [this]
      exact ih _ _ (by omega) (fun _ => rfl) (by omega)
    · have h0' : ¬ (((c.toNat : Int) == 0) = true) := by
        simp only [beq_iff_eq]; intro e; apply h0; have := (u8_nat c 0 (by omega)).1 e; exact this
      rw [if_neg h0'] at hn ⊢
      by_cases hE : escB v.length acc.length c = true
      · rw [if_pos hE] at hn ⊢
        simp only [List.cons_append, List.nil_append, List.length_cons] at hn ⊢
        obtain ⟨m, rfl⟩ : ∃ m, n = m + 1 := ⟨n - 1, by omega⟩
        rw [valL, if_neg (by decide), if_pos (by decide)]
        have hmem : c ∈ escCs := by
          unfold escB at hE
          simp only [Bool.or_eq_true, Bool.and_eq_true, decide_eq_true_eq, beq_iff_eq] at hE
          rcases hE with (h | ⟨_, h | h⟩) | ⟨_, h⟩
          · have := (idx_mem _ _).1 h
            have hsub : ∀ x ∈ specCs, x ∈ escCs := by decide
            exact hsub c this
          · rw [(u8_nat c 35 (by omega)).1 h]; decide
          · rw [(u8_nat c 32 (by omega)).1 h]; decide
          · rw [(u8_nat c 32 (by omega)).1 h]; decide
        have : escR (c :: R) = some (c, R) := by rw [escR, if_pos ((idx_mem _ _).2 hmem)]
        rw [this]
        exact ih _ _ (by omega) (fun _ => rfl) (by omega)
      · rw [if_neg hE] at hn ⊢
        have hns : c ∉ specCs := by
          intro h; apply hE; unfold escB; simp [(idx_mem _ _).2 h]
        simp only [List.cons_append, List.nil_append, List.length_cons] at hn ⊢
        obtain ⟨m, rfl⟩ : ∃ m, n = m + 1 := ⟨n - 1, by omega⟩
        have k44 : ¬ ((c.toNat : Int) = 44) := fun e => hns (by rw [(u8_nat c 44 (by omega)).1 e]; decide)
        have k43 : ¬ ((c.toNat : Int) = 43) := fun e => hns (by rw [(u8_nat c 43 (by omega)).1 e]; decide)
        have k92 : ¬ ((c.toNat : Int) = 92) := fun e => hns (by rw [(u8_nat c 92 (by omega)).1 e]; decide)
        rw [valL, if_neg (by rintro (h | h); exact k44 h; exact k43 h), if_neg k92, if_neg]
        · refine ih _ _ ?_ ?_ (by omega)
          · split <;> omega
          · intro hu
            rw [if_neg]
            intro h32
            apply hE
            have := hlast hu
            unfold escB
            have hp : 0 < v.length := by rw [hv]; simp; omega
            have e1 : ((acc.length : Int) == (v.length : Int) - 1) = true := by rw [beq_iff_eq]; omega
            have e2 : ((c.toNat : Int) == 32) = true := by rw [beq_iff_eq]; exact h32
            rw [e1, e2]; simp
        · rintro (h | h)
          · exact h0' (by rw [beq_iff_eq]; exact h)
          · exact hns ((idx_mem _ _).1 h)
theorem digit_hex : ∀ n : Fin 16, digitV (hexD n.val).toNat = (n.val : Int) ∧ isHex (hexD n.val) = true := by decide
theorem unhex_hex : ∀ v : List UInt8, unhexL (hexL v) = some v
  | [] => rfl
  | c :: t => by
    have h1 := (digit_hex ⟨c.toNat / 16, by have := UInt8.toNat_lt c; omega⟩).1
    have h2 := (digit_hex ⟨c.toNat % 16, by omega⟩).1
    simp only at h1 h2
    have : hexL (c :: t) = hexD (c.toNat / 16) :: hexD (c.toNat % 16) :: hexL t := by simp [hexL]
    rw [this, unhexL, h1, h2, if_neg (by omega), unhex_hex t]
    simp only [Option.map_some]
    congr 2
    unfold hexByte
    apply UInt8.toNat_inj.1
    have := UInt8.toNat_lt c
    rw [ofN (by omega)]
    omega
theorem hex_all (v : List UInt8) : ∀ c ∈ hexL v, isHex c = true := by
  intro c hc
  unfold hexL at hc
  rw [List.mem_flatMap] at hc
  obtain ⟨x, _, h⟩ := hc
  simp only [List.mem_cons, List.not_mem_nil, or_false] at h
  rcases h with rfl | rfl
  · exact (digit_hex ⟨x.toNat / 16, by have := UInt8.toNat_lt x; omega⟩).2
  · exact (digit_hex ⟨x.toNat % 16, by omega⟩).2
theorem takeW_app {p : UInt8 → Bool} : ∀ (l r : List UInt8), (∀ c ∈ l, p c = true) → (∀ x t, r = x :: t → p x = false) → (l ++ r).takeWhile p = l ∧ (l ++ r).dropWhile p = r
  | [], r, _, h => by
    cases r with
    | nil => simp
    | cons x t => simp [h x t rfl]
  | c :: l, r, h1, h2 => by
    have ih := takeW_app l r (fun x hx => h1 x (by simp [hx])) h2
    have hc := h1 c (by simp)
    simp [hc, ih.1, ih.2]
theorem wr_head (v : List UInt8) (r : List UInt8) (hr : Stop r) : ∀ x t, writtenL v ++ r = x :: t → x ≠ 32 ∧ (Lib.validD v = true → x ≠ 35) := by
  intro x t h
  cases hv : Lib.validD v
  · unfold writtenL at h
    rw [hv] at h
    simp only [Bool.false_eq_true, if_false, List.cons_append, List.cons.injEq] at h
    rw [← h.1]; exact ⟨by decide, by simp⟩
  · rw [written_T v hv] at h
    cases v with
    | nil =>
      rw [wrT, List.nil_append] at h
      rcases hr x t h with rfl | rfl <;> exact ⟨by decide, fun _ => by decide⟩
    | cons c u =>
      rw [wrT, List.append_assoc] at h
      unfold wrB at h
      split at h
      · simp at h; rw [← h.1]; exact ⟨by decide, fun _ => by decide⟩
      · split at h
        · simp at h; rw [← h.1]; exact ⟨by decide, fun _ => by decide⟩
        · next hE =>
          simp only [List.cons_append, List.nil_append, List.cons.injEq] at h
          obtain ⟨rfl, _⟩ := h
          refine ⟨?_, fun _ => ?_⟩
          · rintro rfl; apply hE; unfold escB; simp
          · rintro rfl; apply hE; unfold escB; simp
theorem invalid_ne {v : List UInt8} (h : Lib.validD v = false) : v ≠ [] := by rintro rfl; simp [Lib.validD_nil] at h
theorem value_read (v r : List UInt8) (hr : Stop r) : valueR (writtenL v ++ r) = some (v, r) := by
  unfold valueR
  cases hv : Lib.validD v
  · have e : writtenL v = 35 :: hexL v := by unfold writtenL; rw [hv]; rfl
    rw [e, if_pos (by simp [hd])]
    simp only [List.cons_append, List.tail_cons]
    unfold hexR
    have := takeW_app (p := isHex) (hexL v) r (hex_all v) (fun x t h => by rcases hr x t h with rfl | rfl <;> decide)
    rw [this.1, this.2, unhex_hex]
    simp [invalid_ne hv]
  · rw [if_neg]
    · rw [written_T v hv]
      exact val_read v r hr v [] 0 _ (by simp) (by simp) (by simp) (by simp)
    · intro h
      cases hw : writtenL v ++ r with
      | nil => rw [hw] at h; simp [hd] at h
      | cons x t =>
        rw [hw] at h
        simp only [hd, beq_iff_eq] at h
        exact (wr_head v r hr x t hw).2 hv ((u8_nat x 35 (by omega)).1 h)
theorem blk_id (l : List UInt8) (h : ∀ x t, l = x :: t → x ≠ 32) : blk l = l := by
  unfold blk
  apply dropW_id
  cases l with
  | nil => simp
  | cons x t => simp; exact h x t rfl
theorem Stop.blk {r : List UInt8} (h : Stop r) : blk r = r := blk_id r (fun x t e => by rcases h x t e with rfl | rfl <;> decide)
theorem pair_read (x : List UInt8 × List UInt8) (r : List UInt8) (ht : isTypeL x.1 = true) (hr : Stop r) : pairR (pairW x ++ r) = some (x, r) := by
  obtain ⟨t, v⟩ := x
  simp only at ht
  unfold pairW pairR
  simp only [List.append_assoc, List.cons_append, List.nil_append]
  have hall := type_all ht
  have hb : blk (t ++ 61 :: (writtenL v ++ r)) = t ++ 61 :: (writtenL v ++ r) := by
    apply blk_id
    intro c u e
    cases t with
    | nil => exact absurd rfl (type_ne ht)
    | cons y m =>
      simp only [List.cons_append, List.cons.injEq] at e
      rw [← e.1]
      have := hall y (by simp)
      rintro rfl
      exact absurd this (by decide)
  have htw := takeW_app (p := inTy) t (61 :: (writtenL v ++ r)) hall (fun x u e => by simp at e; rw [← e.1]; decide)
  rw [hb]
  unfold typR
  rw [htw.1, htw.2, if_pos ht]
  simp only
  have h61 : blk (61 :: (writtenL v ++ r)) = 61 :: (writtenL v ++ r) := blk_id _ (fun x u e => by simp at e; rw [← e.1]; decide)
  rw [h61, if_pos (by simp [hd])]
  simp only [List.tail_cons]
  rw [blk_id (writtenL v ++ r) (fun y u e => (wr_head v r hr y u e).1), value_read v r hr]
  simp only
  rw [hr.blk]
theorem Stop.cons43 (r : List UInt8) : Stop (43 :: r) := fun x t h => by simp at h; exact .inl h.1.symm
theorem Stop.cons44 (r : List UInt8) : Stop (44 :: r) := fun x t h => by simp at h; exact .inr h.1.symm
/-- Nothing, or a comma. -/
def Stop4 (r : List UInt8) : Prop := ∀ x t, r = x :: t → x = 44
theorem Stop4.stop {r : List UInt8} (h : Stop4 r) : Stop r := fun x t e => .inr (h x t e)
theorem hd_no (r : List UInt8) (n : Nat) (hn : n < 256) (h : ∀ x t, r = x :: t → x ≠ UInt8.ofNat n) : hd r (n : Int) = false := by
  cases r with
  | nil => rfl
  | cons x t =>
    simp only [hd]
    rw [beq_eq_false_iff_ne]
    intro e
    exact h x t rfl ((u8_nat x n hn).1 e)
theorem join_two (x y : List UInt8) (t : List (List UInt8)) (s : List UInt8) : Lib.join (x :: y :: t) s = x ++ s ++ Lib.join (y :: t) s := by
  simp [Lib.join, List.intercalate]
theorem join_one' (x : List UInt8) (s : List UInt8) : Lib.join [x] s = x := by simp [Lib.join, List.intercalate]
/-- What stands behind the first pair. -/
def tailW : List (List UInt8 × List UInt8) → List UInt8
  | [] => []
  | y :: t => 43 :: (pairW y ++ tailW t)
theorem partW_cons (x : List UInt8 × List UInt8) : ∀ t, partW (x :: t) = pairW x ++ tailW t
  | [] => by simp [partW, tailW, join_one']
  | y :: t => by
    have ih := partW_cons y t
    unfold partW at *
    simp only [List.map_cons] at *
    rw [join_two, ih]; simp [tailW]
theorem tailW_stop (t : List (List UInt8 × List UInt8)) (r : List UInt8) (h : Stop4 r) : Stop (tailW t ++ r) := by
  cases t with
  | nil => exact h.stop
  | cons y t => exact Stop.cons43 _
theorem part_tail (r : List UInt8) (hr : Stop4 r) : ∀ (t : List (List UInt8 × List UInt8)) (acc : List (List UInt8 × List UInt8)) (n : Nat), (∀ x ∈ t, isTypeL x.1 = true) → (tailW t ++ r).length ≤ n → partL n (tailW t ++ r) acc = some (acc ++ t, r)
  | [], acc, n, _, _ => by
    have h43 : hd r 43 = false := hd_no r 43 (by omega) (fun x t e => by rw [hr x t e]; decide)
    cases n <;> simp [partL, tailW, h43]
  | y :: t, acc, n, ht, hn => by
    simp only [tailW, List.cons_append, List.append_assoc, List.length_cons] at hn ⊢
    obtain ⟨m, rfl⟩ : ∃ m, n = m + 1 := ⟨n - 1, by omega⟩
    rw [partL, if_pos (by simp [hd])]
    simp only [List.tail_cons]
    rw [pair_read y (tailW t ++ r) (ht y (by simp)) (tailW_stop t r hr)]
    simp only
    rw [part_tail r hr t (acc ++ [y]) m (fun x hx => ht x (by simp [hx])) (by simp at hn ⊢; omega)]
    simp
theorem part_read (p : List (List UInt8 × List UInt8)) (hp : p ≠ []) (ht : ∀ x ∈ p, isTypeL x.1 = true) (r : List UInt8) (hr : Stop4 r) : partR (partW p ++ r) = some (p, r) := by
  cases p with
  | nil => exact absurd rfl hp
  | cons x t =>
    rw [partW_cons, List.append_assoc]
    unfold partR
    rw [pair_read x (tailW t ++ r) (ht x (by simp)) (tailW_stop t r hr)]
    simp only
    rw [part_tail r hr t [x] _ (fun y hy => ht y (by simp [hy])) (Nat.le_refl _)]
    simp
def tailN : List (List (List UInt8 × List UInt8)) → List UInt8
  | [] => []
  | p :: t => 44 :: (partW p ++ tailN t)
theorem nameW_cons (p : List (List UInt8 × List UInt8)) : ∀ t, nameW (p :: t) = partW p ++ tailN t
  | [] => by simp [nameW, tailN, join_one']
  | y :: t => by
    have ih := nameW_cons y t
    unfold nameW at *
    simp only [List.map_cons] at *
    rw [join_two, ih]; simp [tailN]
theorem tailN_stop (t : List (List (List UInt8 × List UInt8))) : Stop4 (tailN t) := by
  cases t with
  | nil => intro x t h; cases h
  | cons y t => intro x u h; simp [tailN] at h; exact h.1.symm
theorem name_tail : ∀ (t : List (List (List UInt8 × List UInt8))) (acc : List (List (List UInt8 × List UInt8))) (n : Nat), (∀ p ∈ t, p ≠ [] ∧ ∀ x ∈ p, isTypeL x.1 = true) → (tailN t).length ≤ n → nameL n (tailN t) acc = some (acc ++ t, [])
  | [], acc, n, _, _ => by cases n <;> simp [nameL, tailN, hd]
  | p :: t, acc, n, ht, hn => by
    simp only [tailN, List.length_cons] at hn ⊢
    obtain ⟨m, rfl⟩ : ∃ m, n = m + 1 := ⟨n - 1, by omega⟩
    rw [nameL, if_pos (by simp [hd])]
    simp only [List.tail_cons]
    rw [part_read p (ht p (by simp)).1 (ht p (by simp)).2 (tailN t) (tailN_stop t)]
    simp only
    rw [name_tail t (acc ++ [p]) m (fun x hx => ht x (by simp [hx])) (by simp at hn ⊢; omega)]
    simp
theorem pairW_ne (x : List UInt8 × List UInt8) : pairW x ≠ [] := by simp [pairW]
theorem name_read (d : List (List (List UInt8 × List UInt8))) (h : ∀ p ∈ d, p ≠ [] ∧ ∀ x ∈ p, isTypeL x.1 = true) : nameR (nameW d) = some d := by
  cases d with
  | nil => rfl
  | cons p t =>
    rw [nameW_cons]
    unfold nameR
    have hne : partW p ++ tailN t ≠ [] := by
      have hp := (h p (by simp)).1
      cases p with
      | nil => exact absurd rfl hp
      | cons x u => rw [partW_cons]; simp [pairW_ne]
    rw [if_neg hne, part_read p (h p (by simp)).1 (h p (by simp)).2 (tailN t) (tailN_stop t)]
    simp only [nameGo]
    rw [name_tail t [p] _ (fun x hx => h x (by simp [hx])) (Nat.le_refl _)]
    simp [nameFin]
/-- What is printed is read as it was. -/
theorem parse_print {d : List (List (List UInt8 × List UInt8))} (h : (printL d).1 = 0) : parseL (printL d).2 = (0, d) := by
  unfold printL at h ⊢
  split at h
  · simp at h
  · next hb =>
    split at h
    · simp at h
    · next htl =>
      unfold printFin at h
      split at h
      · simp at h
      · next hl =>
        rw [if_neg hb, if_neg htl]
        unfold printFin
        rw [if_neg hl]
        simp only
        unfold parseL
        rw [if_neg hl, name_read d, ]
        · simp only; rw [if_neg htl]
        · intro p hp
          have hb' : d.any partBad = false := by simpa using hb
          have := List.any_eq_false.1 hb' p hp
          unfold partBad at this
          simp only [Bool.or_eq_true, not_or] at this
          refine ⟨by intro e; apply this.1; rw [e]; rfl, fun x hx => ?_⟩
          have h2 : p.any avaBadB = false := by simpa using this.2
          have h3 := List.any_eq_false.1 h2 x hx
          unfold avaBadB at h3
          simpa using h3
/-- A name's normal form is its own. -/
theorem nameN_idem {s m : List UInt8} (h : nameN s = some m) : nameN m = some m := by
  unfold nameN at h
  split at h
  · split at h
    · next h1 h2 =>
      have hm := Option.some.inj h
      have hp := parse_print h2
      rw [hm] at hp
      unfold nameN
      rw [hp]
      simp only [if_true]
      have e : ((parseL s).2.map normP).map normP = (parseL s).2.map normP := by
        rw [List.map_map]
        exact List.map_congr_left fun p _ => normP_idem p
      rw [e, if_pos h2, hm]
    · cases h
  · cases h
end Go.Proofs.YtgpecklibcgifaaGreatDoor
/- Plain laws: numbers as texts, and their order. -/
namespace Go.Proofs.YtgpecklibcgifaaGreatDoor
open Go.RowKit Go.Sort

/-- What digits say. -/
def vd : List UInt8 → Nat
  | [] => 0
  | c :: l => (c.toNat - 48) * 10 ^ l.length + vd l
theorem vd_snoc (l : List UInt8) (c : UInt8) : vd (l ++ [c]) = 10 * vd l + (c.toNat - 48) := by
  induction l with
  | nil => simp [vd]
  | cons x l ih =>
    simp only [List.cons_append, vd, ih, List.length_append, List.length_singleton, Nat.pow_succ]
    have e : (x.toNat - 48) * (10 ^ l.length * 10) = 10 * ((x.toNat - 48) * 10 ^ l.length) := by rw [← Nat.mul_assoc, Nat.mul_comm]
    omega
theorem dig_rng {c : UInt8} (h : isDig c = true) : 48 ≤ c.toNat ∧ c.toNat ≤ 57 := by unfold isDig at h; simpa using h
theorem vd_lt : ∀ l : List UInt8, l.all isDig = true → vd l < 10 ^ l.length
  | [], _ => by simp [vd]
  | c :: l, h => by
    rw [List.all_cons, Bool.and_eq_true] at h
    have ih := vd_lt l h.2
    have hc := dig_rng h.1
    simp only [vd, List.length_cons, Nat.pow_succ]
    have : (c.toNat - 48) * 10 ^ l.length ≤ 9 * 10 ^ l.length := Nat.mul_le_mul_right _ (by omega)
    omega
theorem cmp_same : ∀ l m : List UInt8, l.length = m.length → l.all isDig = true → m.all isDig = true → cmpB l m = if vd l < vd m then -1 else if vd m < vd l then 1 else 0
  | [], [], _, _, _ => rfl
  | [], _ :: _, h, _, _ => by simp at h
  | _ :: _, [], h, _, _ => by simp at h
  | x :: l, y :: m, h, h1, h2 => by
    rw [List.all_cons, Bool.and_eq_true] at h1 h2
    have hl : l.length = m.length := by simpa using h
    have ih := cmp_same l m hl h1.2 h2.2
    have bl := vd_lt l h1.2
    have bm := vd_lt m h2.2
    have hx := dig_rng h1.1
    have hy := dig_rng h2.1
    have v1 : vd (x :: l) = (x.toNat - 48) * 10 ^ m.length + vd l := by rw [vd, hl]
    have v2 : vd (y :: m) = (y.toNat - 48) * 10 ^ m.length + vd m := rfl
    unfold cmpB at *
    simp only [Lib.compareBytes, UInt8.lt_iff_toNat_lt]
    rw [v1, v2]
    rw [hl] at bl
    generalize 10 ^ m.length = P at *
    rcases Nat.lt_trichotomy x.toNat y.toNat with k | k | k
    · have : (x.toNat - 48 + 1) * P ≤ (y.toNat - 48) * P := Nat.mul_le_mul_right _ (by omega)
      rw [Nat.add_mul] at this
      rw [if_pos k, if_pos (by omega)]
    · rw [if_neg (by omega), if_neg (by omega), ih, k]
      simp only [Nat.add_lt_add_iff_left]
    · have : (y.toNat - 48 + 1) * P ≤ (x.toNat - 48) * P := Nat.mul_le_mul_right _ (by omega)
      rw [Nat.add_mul] at this
      rw [if_neg (by omega), if_pos k, if_neg (by omega), if_pos (by omega)]
/-- Digits that begin with no 0, or 0 alone. -/
structure Dec (l : List UInt8) : Prop where
  ne : l ≠ []
  dig : l.all isDig = true
  lead : l.head? ≠ some 48 ∨ l = [48]
theorem Dec.ge {l : List UInt8} (h : Dec l) (h2 : 2 ≤ l.length) : 10 ^ (l.length - 1) ≤ vd l := by
  obtain ⟨h1, h3, h4⟩ := h
  cases l with
  | nil => exact absurd rfl h1
  | cons c l =>
    rw [List.all_cons, Bool.and_eq_true] at h3
    have hc := dig_rng h3.1
    have hc' : c ≠ 48 := by
      rcases h4 with h4 | h4
      · intro e; apply h4; simp [e]
      · simp at h4; simp [h4.2] at h2
    have hn : c.toNat ≠ 48 := fun e => hc' (UInt8.toNat_inj.1 (by rw [e]; rfl))
    simp only [vd, List.length_cons, Nat.add_sub_cancel]
    have : 1 * 10 ^ l.length ≤ (c.toNat - 48) * 10 ^ l.length := Nat.mul_le_mul_right _ (by omega)
    omega
/-- The order of digits: by how many, then one behind the other. -/
def decCmp (l m : List UInt8) : Int := orV (Lib.compareInt l.length m.length) (cmpB l m)
theorem dec_cmp {l m : List UInt8} (hl : Dec l) (hm : Dec m) : decCmp l m = if vd l < vd m then -1 else if vd m < vd l then 1 else 0 := by
  have key : ∀ l m : List UInt8, Dec l → Dec m → l.length < m.length → vd l < vd m := by
    intro l m hl hm h
    have h0 : 0 < l.length := List.length_pos_iff.2 hl.ne
    have b1 := vd_lt l hl.dig
    have b2 := hm.ge (by omega)
    have b3 : 10 ^ l.length ≤ 10 ^ (m.length - 1) := Nat.pow_le_pow_right (by omega) (by omega)
    omega
  unfold decCmp orV Lib.compareInt
  rcases Nat.lt_trichotomy l.length m.length with h | h | h
  · have := key l m hl hm h
    have e : (if (l.length : Int) < (m.length : Int) then (-1 : Int) else if (l.length : Int) > (m.length : Int) then 1 else 0) = -1 := by rw [if_pos (by omega)]
    rw [e, if_neg (by decide), if_pos this]
  · have e : (if (l.length : Int) < (m.length : Int) then (-1 : Int) else if (l.length : Int) > (m.length : Int) then 1 else 0) = 0 := by rw [if_neg (by omega), if_neg (by omega)]
    rw [e, if_pos rfl]
    exact cmp_same l m h hl.dig hm.dig
  · have := key m l hm hl h
    have e : (if (l.length : Int) < (m.length : Int) then (-1 : Int) else if (l.length : Int) > (m.length : Int) then 1 else 0) = 1 := by rw [if_neg (by omega), if_pos (by omega)]
    rw [e, if_neg (by decide), if_neg (by omega), if_pos this]
/-- A number's digits; k: how many behind the first there may be. -/
def decF : Nat → Nat → List UInt8
  | 0, n => [UInt8.ofNat (48 + n % 10)]
  | k + 1, n => if 9 < n then decF k (n / 10) ++ [UInt8.ofNat (48 + n % 10)] else [UInt8.ofNat (48 + n)]
theorem one_dig (n : Nat) (h : n < 10) : Dec [UInt8.ofNat (48 + n)] ∧ vd [UInt8.ofNat (48 + n)] = n := by
  have e : (UInt8.ofNat (48 + n)).toNat = 48 + n := by simp; omega
  refine ⟨⟨by simp, ?_, ?_⟩, ?_⟩
  · simp [isDig, e]; omega
  · by_cases hn : n = 0
    · right; subst hn; rfl
    · left; intro h2; rw [List.head?_cons] at h2; have := congrArg UInt8.toNat (Option.some.inj h2); rw [e] at this; have e48 : (48 : UInt8).toNat = 48 := rfl; omega
  · simp [vd]; omega
theorem decF_spec : ∀ (k n : Nat), n < 10 ^ (k + 1) → Dec (decF k n) ∧ vd (decF k n) = n ∧ (decF k n).length ≤ k + 1 ∧ (9 < n → (decF k n).head? ≠ some 48)
  | 0, n, h => by
    have hn : n < 10 := by simpa using h
    have := one_dig n hn
    rw [decF, show n % 10 = n by omega]
    exact ⟨this.1, this.2, by simp, by omega⟩
  | k + 1, n, h => by
    rw [decF]
    by_cases h9 : 9 < n
    · rw [if_pos h9]
      have hlt : n / 10 < 10 ^ (k + 1) := by rw [Nat.pow_succ] at h; omega
      obtain ⟨h1, h2, h3, h4⟩ := decF_spec k (n / 10) hlt
      have hd := one_dig (n % 10) (by omega)
      have e : (UInt8.ofNat (48 + n % 10)).toNat = 48 + n % 10 := by simp; omega
      have hh : (decF k (n / 10)).head? ≠ some 48 := by
        rcases h1.lead with h5 | h5
        · exact h5
        · rw [h5] at h2; simp [vd] at h2; omega
      have hne := h1.ne
      have hhead : (decF k (n / 10) ++ [UInt8.ofNat (48 + n % 10)]).head? ≠ some 48 := by
        cases hd' : decF k (n / 10) with
        | nil => exact absurd hd' hne
        | cons c t => rw [hd'] at hh; simpa using hh
      refine ⟨⟨by simp, ?_, .inl hhead⟩, ?_, by simp; omega, fun _ => hhead⟩
      · rw [List.all_append, h1.dig, hd.1.dig]; rfl
      · rw [vd_snoc, h2, e]; omega
    · rw [if_neg h9]
      have := one_dig n (by omega)
      exact ⟨this.1, this.2, by simp, by omega⟩
/-- A number's text. -/
def textZ (a : Int) : List UInt8 := if a < 0 then 45 :: decF 18 a.natAbs else decF 18 a.natAbs
theorem dec_nominus {l : List UInt8} (h : Dec l) : Lib.hasPrefix l [45] = false ∧ Lib.trimPrefix l [45] = l := by
  have : Lib.hasPrefix l [45] = false := by
    obtain ⟨h1, h2, _⟩ := h
    cases l with
    | nil => exact absurd rfl h1
    | cons c t =>
      rw [List.all_cons, Bool.and_eq_true] at h2
      have := dig_rng h2.1
      unfold Lib.hasPrefix
      simp [List.isPrefixOf]
      rintro rfl
      simp at this
  exact ⟨this, by unfold Lib.trimPrefix; rw [this]; rfl⟩
theorem minus_pre (l : List UInt8) : Lib.hasPrefix (45 :: l) [45] = true ∧ Lib.trimPrefix (45 :: l) [45] = l := by
  have : Lib.hasPrefix (45 :: l) [45] = true := by unfold Lib.hasPrefix; simp [List.isPrefixOf]
  exact ⟨this, by unfold Lib.trimPrefix; rw [this]; rfl⟩
theorem natAbs_lt {a : Int} (h : -1099511627776 ≤ a) (h' : a ≤ 1099511627776) : a.natAbs < 10 ^ (18 + 1) := by omega
theorem ints_text (a b : Int) (ha : a.natAbs < 10 ^ (18 + 1)) (hb : b.natAbs < 10 ^ (18 + 1)) : intsL (textZ a) (textZ b) = if a < b then -1 else if b < a then 1 else 0 := by
  obtain ⟨a1, a2, _⟩ := decF_spec 18 a.natAbs ha
  obtain ⟨b1, b2, _⟩ := decF_spec 18 b.natAbs hb
  have na := dec_nominus a1
  have nb := dec_nominus b1
  have ma := minus_pre (decF 18 a.natAbs)
  have mb := minus_pre (decF 18 b.natAbs)
  have cab := dec_cmp a1 b1
  have cba := dec_cmp b1 a1
  rw [a2, b2] at cab cba
  unfold decCmp at cab cba
  unfold intsL textZ
  by_cases h1 : a < 0 <;> by_cases h2 : b < 0
  · rw [if_pos h1, if_pos h2]
    simp only [ma.1, ma.2, mb.1, mb.2, Bool.not_true, Bool.and_false, Bool.false_eq_true, if_false, if_true, cba]
    repeat' split
    all_goals omega
  · rw [if_pos h1, if_neg h2]
    simp only [ma.1, nb.1, Bool.not_false, Bool.and_true, if_true]
    rw [if_pos (by omega)]
  · rw [if_neg h1, if_pos h2]
    simp only [na.1, mb.1, Bool.not_false, Bool.and_true, Bool.not_true, Bool.and_false, Bool.false_eq_true, if_false, if_true]
    rw [if_neg (by omega), if_pos (by omega)]
  · rw [if_neg h1, if_neg h2]
    simp only [na.1, na.2, nb.1, nb.2, Bool.not_false, Bool.and_true, Bool.false_eq_true, if_false, cab]
    repeat' split
    all_goals omega
theorem int_text (a : Int) (ha : a.natAbs < 10 ^ (18 + 1)) : intL (textZ a) = true := by
  obtain ⟨a1, a2, a3, _⟩ := decF_spec 18 a.natAbs ha
  have na := dec_nominus a1
  have ma := minus_pre (decF 18 a.natAbs)
  have hdg : digsL (decF 18 a.natAbs) = true := by
    unfold digsL
    rw [a1.dig, Bool.and_true]
    have := a1.ne
    cases h : decF 18 a.natAbs with
    | nil => exact absurd h this
    | cons _ _ => rfl
  have hlen : decide ((decF 18 a.natAbs).length ≤ 40) = true := decide_eq_true (by omega)
  unfold intL textZ
  by_cases h1 : a < 0
  · rw [if_pos h1]
    simp only [ma.1, ma.2, hdg, hlen, Bool.true_and, Bool.not_true, Bool.and_false, Bool.or_false]
    rcases a1.lead with h | h
    · simpa using h
    · rw [h] at a2; simp [vd] at a2; omega
  · rw [if_neg h1]
    simp only [na.1, na.2, hdg, hlen, Bool.true_and, Bool.not_false, Bool.and_true]
    rcases a1.lead with h | h
    · simp [h]
    · rw [h]; decide
theorem int_zero (b : Int) (hb : b.natAbs < 10 ^ (18 + 1)) : intL (48 :: textZ b) = false := by
  obtain ⟨b1, b2, _⟩ := decF_spec 18 b.natAbs hb
  have hp : Lib.hasPrefix (48 :: textZ b) [45] = false := by unfold Lib.hasPrefix; simp [List.isPrefixOf]
  have ht : Lib.trimPrefix (48 :: textZ b) [45] = 48 :: textZ b := by unfold Lib.trimPrefix; rw [hp]; rfl
  have hne : textZ b ≠ [] := by
    unfold textZ
    split
    · simp
    · exact b1.ne
  unfold intL
  simp only [ht, hp, List.head?_cons, bne_self_eq_false, Bool.false_or, Bool.not_false, Bool.and_true]
  have : ((48 :: textZ b) == [48]) = false := by rw [beq_eq_false_iff_ne]; simp [hne]
  rw [this]; simp
theorem int_plus (b : Int) : intL (43 :: textZ b) = false := by
  have hp : Lib.hasPrefix (43 :: textZ b) [45] = false := by unfold Lib.hasPrefix; simp [List.isPrefixOf]
  have ht : Lib.trimPrefix (43 :: textZ b) [45] = 43 :: textZ b := by unfold Lib.trimPrefix; rw [hp]; rfl
  unfold intL
  simp only [ht]
  have : digsL (43 :: textZ b) = false := by unfold digsL; simp [isDig]
  rw [this]; simp
theorem text_len (b : Int) (hb : b.natAbs < 10 ^ (18 + 1)) : (textZ b).length ≤ 20 := by
  obtain ⟨_, _, h, _⟩ := decF_spec 18 b.natAbs hb
  unfold textZ
  split
  · simp; omega
  · omega
end Go.Proofs.YtgpecklibcgifaaGreatDoor
