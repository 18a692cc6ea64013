/- Plain laws: texts as lists of characters; a prepared text is its own prepared text. -/
import Derived.Test.YtcjobpcbppcdnaaGreatDoorWx1
import Derived.Test.YtcjobpcbppcdnaaGreatDoorWx3
import Derived.Test.YtcjobpcbppcdnaaGreatDoorWx2
import Derived.Lib.IndexAny
set_option linter.all false
namespace Go.Proofs.YtcjobpcbppcdnaaGreatDoor
open Go.RowKit

def VR (r : Int) : Prop := (0 ≤ r ∧ r < 55296) ∨ (57344 ≤ r ∧ r ≤ 1114111)
def cat (rs : List Int) : List UInt8 := rs.flatMap encR
theorem VR_of {r : Int} (h : Lib.validRune r = true) : VR r := by
  unfold Lib.validRune at h; simp at h; unfold VR; omega
theorem enc_cases {r : Int} (h : VR r) :
    (0 ≤ r ∧ r < 128 ∧ encR r = [UInt8.ofNat r.toNat]) ∨
    (128 ≤ r ∧ r < 2048 ∧ encR r = [UInt8.ofNat (192 + r.toNat / 64), UInt8.ofNat (128 + r.toNat % 64)]) ∨
    (2048 ≤ r ∧ r < 65536 ∧ encR r = [UInt8.ofNat (224 + r.toNat / 4096), UInt8.ofNat (128 + r.toNat / 64 % 64), UInt8.ofNat (128 + r.toNat % 64)]) ∨
    (65536 ≤ r ∧ r ≤ 1114111 ∧ encR r = [UInt8.ofNat (240 + r.toNat / 262144), UInt8.ofNat (128 + r.toNat / 4096 % 64), UInt8.ofNat (128 + r.toNat / 64 % 64), UInt8.ofNat (128 + r.toNat % 64)]) := by
  have hv : Utf8.valid r = true := by unfold VR at h; unfold Utf8.valid; simp; omega
  unfold encR Utf8.encode
  rw [hv]
  simp only [if_true]
  by_cases h1 : r.toNat < 128
  · left; refine ⟨by unfold VR at h; omega, by omega, ?_⟩; rw [if_pos h1]
  · rw [if_neg h1]
    right
    by_cases h2 : r.toNat < 2048
    · left; refine ⟨by omega, by omega, ?_⟩; rw [if_pos h2]
    · rw [if_neg h2]
      right
      by_cases h3 : r.toNat < 65536
      · left; refine ⟨by omega, by omega, ?_⟩; rw [if_pos h3]
      · rw [if_neg h3]
        right
        refine ⟨by omega, by unfold VR at h; omega, rfl⟩
theorem ofN {n : Nat} (h : n < 256) : (UInt8.ofNat n).toNat = n := by simp; omega
theorem decode_enc {r : Int} (h : VR r) (t : List UInt8) : Lib.decodeL (encR r ++ t) = (r.toNat, (encR r).length) := by
  rw [Lib.decodeL_N]
  unfold VR at h
  rcases enc_cases h with ⟨a, b, e⟩ | ⟨a, b, e⟩ | ⟨a, b, e⟩ | ⟨a, b, e⟩
  · rw [e]
    simp only [List.cons_append, List.nil_append, List.getD_cons_zero, List.length_cons, List.length_nil]
    rw [ofN (by omega)]
    unfold Lib.decodeN
    rw [if_pos (by omega)]
  · rw [e]
    simp only [List.cons_append, List.nil_append, List.getD_cons_zero, List.getD_cons_succ, List.length_cons, List.length_nil]
    rw [ofN (by omega), ofN (by omega)]
    unfold Lib.decodeN
    rw [if_neg (by omega), if_pos (by omega), if_pos (by omega)]
    apply Prod.ext <;> simp only <;> omega
  · rw [e]
    simp only [List.cons_append, List.nil_append, List.getD_cons_zero, List.getD_cons_succ, List.length_cons, List.length_nil]
    rw [ofN (by omega), ofN (by omega), ofN (by omega)]
    unfold Lib.decodeN
    rw [if_neg (by omega), if_neg (by omega), if_pos (by omega), if_pos (by omega)]
    apply Prod.ext <;> simp only <;> omega
  · rw [e]
    simp only [List.cons_append, List.nil_append, List.getD_cons_zero, List.getD_cons_succ, List.length_cons, List.length_nil]
    rw [ofN (by omega), ofN (by omega), ofN (by omega), ofN (by omega)]
    unfold Lib.decodeN
    rw [if_neg (by omega), if_neg (by omega), if_neg (by omega), if_pos (by omega), if_pos (by omega)]
    apply Prod.ext <;> simp only <;> omega
theorem enc_ne (r : Int) : encR r ≠ [] := by
  intro h; have := (encR_len r).1; rw [h] at this; simp at this
theorem cat_cons (r : Int) (rs : List Int) : cat (r :: rs) = encR r ++ cat rs := by simp [cat]
theorem cat_app (a b : List Int) : cat (a ++ b) = cat a ++ cat b := by simp [cat]
theorem runes_cat : ∀ rs : List Int, (∀ r ∈ rs, VR r) → runes (cat rs) = rs
  | [], _ => rfl
  | r :: rs, h => by
    have hr := h r (by simp)
    rw [cat_cons, runes_step _ (by simp [enc_ne]), decode_enc hr]
    simp only [List.drop_left]
    rw [runes_cat rs (fun x hx => h x (by simp [hx]))]
    congr 1
    unfold VR at hr; omega
theorem valid_cat : ∀ rs : List Int, (∀ r ∈ rs, VR r) → Lib.validD (cat rs) = true
  | [], _ => rfl
  | r :: rs, h => by
    have hr := h r (by simp)
    rw [cat_cons, Lib.validD_step _ (by simp [enc_ne]), decode_enc hr]
    simp only [List.drop_left]
    rw [if_neg, valid_cat rs (fun x hx => h x (by simp [hx]))]
    rintro ⟨h1, h2⟩
    rcases enc_cases hr with ⟨a, b, e⟩ | ⟨a, b, e⟩ | ⟨a, b, e⟩ | ⟨a, b, e⟩
    all_goals (rw [e] at h2; simp at h2)
    omega
theorem encR_lib (r : Int) (h : VR r) : encR r = Lib.encodeRune r := by
  have h' := h
  unfold VR at h'
  rcases enc_cases h with ⟨a, b, e⟩ | ⟨a, b, e⟩ | ⟨a, b, e⟩ | ⟨a, b, e⟩
  · rw [e, Lib.encodeRune, Lib.encodeRuneZ_one a (by omega)]; rfl
  · rw [e, Lib.encodeRune, Lib.encodeRuneZ_two a (by omega)]
    simp only [List.map_cons, List.map_nil]
    rw [show (192 + r / 64).toNat = 192 + r.toNat / 64 by omega, show (128 + r % 64).toNat = 128 + r.toNat % 64 by omega]
  · rw [e, Lib.encodeRune, Lib.encodeRuneZ_three (by omega)]
    simp only [List.map_cons, List.map_nil]
    rw [show (224 + r / 4096).toNat = 224 + r.toNat / 4096 by omega, show (128 + r / 64 % 64).toNat = 128 + r.toNat / 64 % 64 by omega, show (128 + r % 64).toNat = 128 + r.toNat % 64 by omega]
  · rw [e, Lib.encodeRune, Lib.encodeRuneZ_four a b]
    simp only [List.map_cons, List.map_nil]
    rw [show (240 + r / 262144).toNat = 240 + r.toNat / 262144 by omega, show (128 + r / 4096 % 64).toNat = 128 + r.toNat / 4096 % 64 by omega, show (128 + r / 64 % 64).toNat = 128 + r.toNat / 64 % 64 by omega, show (128 + r % 64).toNat = 128 + r.toNat % 64 by omega]
theorem cat_runes : ∀ (n : Nat) (l : List UInt8), l.length ≤ n → Lib.validD l = true → cat (runes l) = l ∧ ∀ r ∈ runes l, VR r
  | 0, l, hn, _ => by
    obtain rfl : l = [] := List.eq_nil_of_length_eq_zero (by omega)
    exact ⟨rfl, by simp [runes, runesF]⟩
  | n + 1, l, hn, hv => by
    by_cases hl : l = []
    · subst hl; exact ⟨rfl, by simp [runes, runesF]⟩
    · have hok := decodeL_ok l hl
      rw [Lib.validD_step l hl] at hv
      split at hv
      · cases hv
      · next hbad =>
        have ih := cat_runes n (l.drop (Lib.decodeL l).2) (by simp; omega) hv
        have hvr := VR_of hok.2.2.2
        rw [runes_step l hl, cat_cons, ih.1, encR_lib _ hvr, Lib.encode_decode l hl hbad, List.take_append_drop]
        refine ⟨rfl, fun r hr => ?_⟩
        simp only [List.mem_cons] at hr
        rcases hr with rfl | hr
        · exact hvr
        · exact ih.2 r hr

/-! ### what becomes of characters -/
def stepR (fold : Bool) (acc : List Int) (r : Int) : Option (List Int) :=
  if (mapR r).2.2 then none
  else if !(mapR r).2.1 then some acc
  else if (mapR r).1 = 32 ∧ acc.getLast? = some 32 then some acc
  else some (acc ++ [if fold then foldR (mapR r).1 else (mapR r).1])
def mapRR (fold : Bool) : List Int → List Int → Option (List Int)
  | [], acc => some acc
  | r :: rs, acc => (stepR fold acc r).bind (mapRR fold rs)
theorem some32 (n : Nat) (h : n < 256) : (some (UInt8.ofNat n) = some (32 : UInt8)) ↔ n = 32 := by
  rw [Option.some_inj, ← UInt8.toNat_inj, ofN h]; rfl
theorem enc_last {r : Int} (h : VR r) : ((encR r).getLast? = some 32 ↔ r = 32) := by
  rcases enc_cases h with ⟨a, b, e⟩ | ⟨a, b, e⟩ | ⟨a, b, e⟩ | ⟨a, b, e⟩
  all_goals rw [e]
  all_goals refine (some32 _ (by omega)).trans (by omega)
theorem enc_first {r : Int} (h : VR r) : ((encR r).head? = some 32 ↔ r = 32) := by
  rcases enc_cases h with ⟨a, b, e⟩ | ⟨a, b, e⟩ | ⟨a, b, e⟩ | ⟨a, b, e⟩
  all_goals rw [e]
  all_goals refine (some32 _ (by omega)).trans (by omega)
theorem cat_last (acc : List Int) (h : ∀ r ∈ acc, VR r) : ((cat acc).getLast? = some 32 ↔ acc.getLast? = some 32) := by
  rcases List.eq_nil_or_concat acc with rfl | ⟨a, r, rfl⟩
  · simp [cat]
  · rw [List.concat_eq_append, cat_app] at *
    have hr := h r (by simp)
    have : cat [r] = encR r := by simp [cat]
    rw [this, List.getLast?_append, List.getLast?_append]
    have he := enc_last hr
    have hne := enc_ne r
    cases hg : (encR r).getLast? with
    | none => simp at hg; exact absurd hg hne
    | some x => rw [hg] at he; simpa using he
theorem mapR_VR {r : Int} (h : VR r) (h1 : (mapR r).2.2 = false) (h2 : (mapR r).2.1 = true) : VR (mapR r).1 ∧ VR (foldR (mapR r).1) := by
  unfold VR at h
  have := mapR_rng r (by omega) (by omega)
  have h3 := foldR_rng (mapR r).1 this.1 this.2.1 (this.2.2 h1 h2)
  exact ⟨VR_of h3.2, VR_of h3.1⟩
theorem stepM_eq (fold : Bool) (acc : List Int) (r : Int) (ha : ∀ r ∈ acc, VR r) (hr : VR r) : stepM fold (cat acc) r = (stepR fold acc r).map cat ∧ ∀ a, stepR fold acc r = some a → ∀ x ∈ a, VR x := by
  unfold stepM stepR
  by_cases h1 : (mapR r).2.2 = true
  · rw [if_pos h1, if_pos h1]; exact ⟨rfl, by simp⟩
  · rw [if_neg h1, if_neg h1]
    by_cases h2 : (!(mapR r).2.1) = true
    · rw [if_pos h2, if_pos h2]; exact ⟨rfl, by simp; exact ha⟩
    · rw [if_neg h2, if_neg h2]
      have hv := mapR_VR hr (by simpa using h1) (by simpa using h2)
      by_cases h3 : (mapR r).1 = 32 ∧ acc.getLast? = some 32
      · rw [if_pos ⟨h3.1, (cat_last acc ha).2 h3.2⟩, if_pos h3]; exact ⟨rfl, by simp; exact ha⟩
      · rw [if_neg (fun h => h3 ⟨h.1, (cat_last acc ha).1 h.2⟩), if_neg h3]
        refine ⟨by simp [cat], ?_⟩
        intro a e
        cases e
        intro x hx
        simp only [List.mem_append, List.mem_singleton] at hx
        rcases hx with hx | rfl
        · exact ha x hx
        · cases fold
          · exact hv.1
          · exact hv.2
theorem mapRunes_eq (fold : Bool) : ∀ (rs acc : List Int), (∀ r ∈ acc, VR r) → (∀ r ∈ rs, VR r) → mapRunes fold rs (cat acc) = (mapRR fold rs acc).map cat
  | [], acc, _, _ => rfl
  | r :: rs, acc, ha, hr => by
    have := stepM_eq fold acc r ha (hr r (by simp))
    rw [mapRunes, mapRR, this.1]
    cases hs : stepR fold acc r with
    | none => rfl
    | some a =>
      simp only [Option.map_some, Option.bind_some]
      exact mapRunes_eq fold rs a (this.2 a hs) (fun x hx => hr x (by simp [hx]))
theorem mapped_eq (l : List UInt8) (fold : Bool) (hv : Lib.validD l = true) : mappedL l fold = (mapRR fold (runes l) []).map cat := by
  unfold mappedL
  rw [if_pos hv]
  exact mapRunes_eq fold _ [] (by simp) (cat_runes _ l (Nat.le_refl _) hv).2
/-- A character that stays as it is. -/
def Nice (fold : Bool) (r : Int) : Prop := mapR r = (r, true, false) ∧ (fold = true → foldR r = r) ∧ VR r
def NoTwo (l : List Int) : Prop := ∀ i : Nat, ¬ (l[i]? = some 32 ∧ l[i + 1]? = some 32)
theorem nice_blank (fold : Bool) : Nice fold 32 := by
  refine ⟨by decide, fun _ => by decide, by unfold VR; omega⟩
theorem fold_nice {r : Int} (h : VR r) (hm : mapR r = (r, true, false)) : Nice true (foldR r) := by
  have hr : VR (foldR r) := by have := mapR_VR h (by rw [hm]) (by rw [hm]); rw [hm] at this; exact this.2
  have key : mapR (foldR r) = (foldR r, true, false) ∧ foldR (foldR r) = foldR r := by
    unfold mapR at hm
    split at hm
    · next hb => have e : r = 32 := by have := congrArg Prod.fst hm; simpa using this.symm
                 subst e; decide
    · split at hm
      · have := congrArg (fun x => x.2.1) hm; simp at this
      · split at hm
        · have := congrArg (fun x => x.2.1) hm; simp at this
        · next h1 h2 h3 =>
          have hcase : foldR r = r ∨ (0x61 ≤ foldR r ∧ foldR r ≤ 0x7A) ∨ (0xDF ≤ foldR r ∧ foldR r ≤ 0xFE) ∨ (0x101 ≤ foldR r ∧ foldR r ≤ 0x177 ∧ foldR r % 2 = 1) ∨ (0x3B1 ≤ foldR r ∧ foldR r ≤ 0x3C9) ∨ (0x430 ≤ foldR r ∧ foldR r ≤ 0x45F) := by
            unfold foldR
            repeat' split
            all_goals omega
          have hff : foldR (foldR r) = foldR r := by
            rcases hcase with e | hc
            · rw [e, e]
            · generalize foldR r = x at hc
              unfold foldR
              repeat' split
              all_goals omega
          refine ⟨?_, hff⟩
          rcases hcase with e | hc
          · rw [e]; unfold mapR; rw [if_neg h1, if_neg h2, if_neg h3]
          · generalize foldR r = x at hc
            unfold mapR
            rw [if_neg (by unfold blankR; omega), if_neg (by unfold goesR; omega), if_neg (by unfold refR; omega)]
  exact ⟨key.1, fun _ => key.2, hr⟩
theorem mapR_stays {r : Int} (h1 : (mapR r).2.2 = false) (h2 : (mapR r).2.1 = true) : mapR (mapR r).1 = ((mapR r).1, true, false) := by
  unfold mapR at h1 h2 ⊢
  split
  · decide
  · next hb =>
    rw [if_neg hb] at h1 h2
    split
    · next hg => rw [if_pos hg] at h2; simp at h2
    · next hg =>
      rw [if_neg hg] at h1 h2
      split
      · next hf => rw [if_pos hf] at h1; simp at h1
      · next hf => first | (simp only; done) | (simp only; rw [if_neg hb, if_neg hg, if_neg hf])
theorem step_nice (fold : Bool) (acc a : List Int) (r : Int) (hr : VR r) (ha : ∀ x ∈ acc, Nice fold x) (hn : NoTwo acc) (h : stepR fold acc r = some a) : (∀ x ∈ a, Nice fold x) ∧ NoTwo a := by
  unfold stepR at h
  split at h
  · cases h
  · next h1 =>
    split at h
    · cases h; exact ⟨ha, hn⟩
    · next h2 =>
      have h1' : (mapR r).2.2 = false := by simpa using h1
      have h2' : (mapR r).2.1 = true := by simpa using h2
      split at h
      · cases h; exact ⟨ha, hn⟩
      · next h3 =>
        have hv := mapR_VR hr h1' h2'
        have hst := mapR_stays h1' h2'
        have hnew : Nice fold (if fold = true then foldR (mapR r).1 else (mapR r).1) := by
          cases fold
          · simp only [Bool.false_eq_true, if_false]; exact ⟨hst, by simp, hv.1⟩
          · simp only [if_true]; exact fold_nice hv.1 hst
        have h32 : (if fold = true then foldR (mapR r).1 else (mapR r).1) = 32 → (mapR r).1 = 32 := by
          cases fold
          · simp
          · simp only [if_true]
            generalize (mapR r).1 = x
            unfold foldR
            repeat' split
            all_goals omega
        cases h
        refine ⟨fun x hx => ?_, fun i hi => ?_⟩
        · simp only [List.mem_append, List.mem_singleton] at hx
          rcases hx with hx | rfl
          · exact ha x hx
          · exact hnew
        · obtain ⟨ha1, ha2⟩ := hi
          by_cases hlt : i + 1 < acc.length
          · rw [List.getElem?_append_left (by omega)] at ha1
            rw [List.getElem?_append_left hlt] at ha2
            exact hn i ⟨ha1, ha2⟩
          · have hi1 : i + 1 = acc.length := by
              have := (List.getElem?_eq_some_iff.1 ha2).1; simp at this; omega
            rw [List.getElem?_append_left (by omega)] at ha1
            rw [hi1, List.getElem?_append_right (Nat.le_refl _)] at ha2
            simp only [Nat.sub_self, List.getElem?_cons_zero, Option.some.injEq] at ha2
            apply h3
            refine ⟨h32 ha2, ?_⟩
            rw [List.getLast?_eq_getElem?, show acc.length - 1 = i by omega]
            exact ha1
theorem map_nice (fold : Bool) : ∀ (rs acc a : List Int), (∀ r ∈ rs, VR r) → (∀ x ∈ acc, Nice fold x) → NoTwo acc → mapRR fold rs acc = some a → (∀ x ∈ a, Nice fold x) ∧ NoTwo a
  | [], acc, a, _, ha, hn, h => by cases h; exact ⟨ha, hn⟩
  | r :: rs, acc, a, hr, ha, hn, h => by
    rw [mapRR] at h
    obtain ⟨b, hb, h2⟩ := Option.bind_eq_some_iff.1 h
    have := step_nice fold acc b r (hr r (by simp)) ha hn hb
    exact map_nice fold rs b a (fun x hx => hr x (by simp [hx])) this.1 this.2 h2
theorem map_same (fold : Bool) : ∀ (rs acc : List Int), (∀ x ∈ rs, Nice fold x) → NoTwo (acc ++ rs) → mapRR fold rs acc = some (acc ++ rs)
  | [], acc, _, _ => by simp [mapRR]
  | r :: rs, acc, hr, hn => by
    have h0 := hr r (by simp)
    have hs : stepR fold acc r = some (acc ++ [r]) := by
      unfold stepR
      rw [h0.1]
      simp only [Bool.false_eq_true, if_false, Bool.not_true]
      rw [if_neg]
      · cases fold
        · simp
        · simp [h0.2.1 rfl]
      · rintro ⟨rfl, hl⟩
        rw [List.getLast?_eq_getElem?] at hl
        have hp : acc.length - 1 < acc.length := (List.getElem?_eq_some_iff.1 hl).1
        apply hn (acc.length - 1)
        constructor
        · rw [List.getElem?_append_left hp]; exact hl
        · rw [show acc.length - 1 + 1 = acc.length by omega, List.getElem?_append_right (Nat.le_refl _)]; simp
    rw [mapRR, hs]
    simp only [Option.bind_some]
    rw [map_same fold rs (acc ++ [r]) (fun x hx => hr x (by simp [hx])) (by simpa using hn)]
    simp
end Go.Proofs.YtcjobpcbppcdnaaGreatDoor
/- Plain laws: a prepared text is its own prepared text. -/
namespace Go.Proofs.YtcjobpcbppcdnaaGreatDoor
open Go.RowKit

def trimI (L : List Int) : List Int := ((L.reverse.dropWhile (· == 32)).reverse).dropWhile (· == 32)
theorem dropW_id {α : Type} [BEq α] [LawfulBEq α] (c : α) : ∀ l : List α, l.head? ≠ some c → l.dropWhile (· == c) = l
  | [], _ => rfl
  | x :: l, h => by
    have : (x == c) = false := by rw [beq_eq_false_iff_ne]; intro e; apply h; simp [e]
    rw [List.dropWhile_cons, this]; simp
theorem dropW_head {α : Type} [BEq α] [LawfulBEq α] (c : α) : ∀ l : List α, (l.dropWhile (· == c)).head? ≠ some c
  | [] => by simp
  | x :: l => by
    rw [List.dropWhile_cons]
    split
    · exact dropW_head c l
    · next h => simp; intro e; exact h (by simp [e])
theorem dropW_suffix {α : Type} (p : α → Bool) (l : List α) : ∃ a, l = a ++ l.dropWhile p := ⟨l.takeWhile p, (List.takeWhile_append_dropWhile).symm⟩
theorem cat_dropW : ∀ rs : List Int, (∀ r ∈ rs, VR r) → (cat rs).dropWhile (· == 32) = cat (rs.dropWhile (· == 32))
  | [], _ => rfl
  | r :: rs, h => by
    have hr := h r (by simp)
    by_cases he : r = 32
    · subst he
      have e : encR 32 = [32] := by decide
      rw [cat_cons, e, List.dropWhile_cons, List.singleton_append, List.dropWhile_cons]
      simp only [beq_self_eq_true, if_true]
      exact cat_dropW rs (fun x hx => h x (by simp [hx]))
    · rw [dropW_id 32 (r :: rs) (by simp [he])]
      apply dropW_id
      rw [cat_cons, List.head?_append]
      have h1 := enc_first hr
      have hne := enc_ne r
      cases hg : (encR r).head? with
      | none => simp at hg; exact absurd hg hne
      | some x => rw [hg] at h1; simp at h1 ⊢; intro e; exact he (h1.1 e)
theorem cat_dropR : ∀ (n : Nat) (rs : List Int), rs.length = n → (∀ r ∈ rs, VR r) → ((cat rs).reverse.dropWhile (· == 32)).reverse = cat ((rs.reverse.dropWhile (· == 32)).reverse)
  | 0, rs, hn, _ => by
    obtain rfl : rs = [] := List.eq_nil_of_length_eq_zero hn
    rfl
  | n + 1, rs, hn, h => by
    rcases List.eq_nil_or_concat rs with rfl | ⟨a, r, rfl⟩
    · rfl
    · rw [List.concat_eq_append] at *
      have hr := h r (by simp)
      by_cases he : r = 32
      · subst he
        have e : cat [32] = [32] := by decide
        rw [cat_app, e, List.reverse_append, List.reverse_append, List.reverse_singleton, List.reverse_singleton, List.singleton_append, List.singleton_append, List.dropWhile_cons, List.dropWhile_cons]
        simp only [beq_self_eq_true, if_true]
        exact cat_dropR n a (by simp at hn; exact hn) (fun x hx => h x (by simp [hx]))
      · rw [dropW_id 32 (a ++ [r]).reverse (by simp [he]), dropW_id, List.reverse_reverse, List.reverse_reverse]
        rw [List.head?_reverse]
        intro e
        have := (cat_last _ h).1 e
        simp at this
        exact he this
theorem cat_trim (L : List Int) (h : ∀ r ∈ L, VR r) : Lib.trimB (cat L) 32 = cat (trimI L) := by
  unfold Lib.trimB Lib.trimLeftB Lib.trimRightB trimI
  rw [cat_dropR _ L rfl h, cat_dropW]
  intro r hr
  apply h
  rw [List.mem_reverse] at hr
  have := List.dropWhile_suffix (l := L.reverse) (· == 32)
  exact List.mem_reverse.1 (this.subset hr)
theorem trimI_infix (L : List Int) : ∃ a b, L = a ++ trimI L ++ b := by
  unfold trimI
  obtain ⟨b, hb⟩ := dropW_suffix (· == 32) L.reverse
  obtain ⟨a, ha⟩ := dropW_suffix (· == 32) (L.reverse.dropWhile (· == 32)).reverse
  refine ⟨a, b.reverse, ?_⟩
  rw [← ha]
  have := congrArg List.reverse hb
  rw [List.reverse_reverse, List.reverse_append] at this
  exact this
theorem trimI_head (L : List Int) : (trimI L).head? ≠ some 32 := dropW_head 32 _
theorem trimI_last (L : List Int) : (trimI L).getLast? ≠ some 32 := by
  unfold trimI
  have h0 := dropW_head 32 L.reverse
  rw [← List.getLast?_reverse] at h0
  generalize (L.reverse.dropWhile (· == 32)).reverse = N at h0 ⊢
  obtain ⟨a, ha⟩ := dropW_suffix (· == 32) N
  generalize N.dropWhile (· == 32) = M at ha
  subst ha
  intro e
  apply h0
  rw [List.getLast?_append, e]; rfl
theorem trimI_id (M : List Int) (h1 : M.head? ≠ some 32) (h2 : M.getLast? ≠ some 32) : trimI M = M := by
  unfold trimI
  rw [dropW_id 32 M.reverse (by rw [List.head?_reverse]; exact h2), List.reverse_reverse, dropW_id 32 M h1]
theorem NoTwo.infix {a b c : List Int} (h : NoTwo (a ++ b ++ c)) : NoTwo b := by
  intro i hi
  obtain ⟨h1, h2⟩ := hi
  apply h (a.length + i)
  have l1 := (List.getElem?_eq_some_iff.1 h1).1
  have l2 := (List.getElem?_eq_some_iff.1 h2).1
  rw [List.append_assoc]
  constructor
  · rw [List.getElem?_append_right (by omega), List.getElem?_append_left (by omega), show a.length + i - a.length = i by omega]; exact h1
  · rw [List.getElem?_append_right (by omega), List.getElem?_append_left (by omega), show a.length + i + 1 - a.length = i + 1 by omega]; exact h2
/-- What Prepare tells, in characters. -/
theorem prep_form {l p : List UInt8} {fold : Bool} (h : prepL l fold = some p) : Lib.validD l = true ∧ ∃ L, mapRR fold (runes l) [] = some L ∧ (∀ x ∈ L, Nice fold x) ∧ NoTwo L ∧ ((cat (trimI L) = [] ∧ l ≠ [] ∧ p = [32]) ∨ (¬ (cat (trimI L) = [] ∧ l ≠ []) ∧ p = cat (trimI L))) := by
  unfold prepL at h
  have hv : Lib.validD l = true := by
    cases hv : Lib.validD l
    · unfold mappedL at h; rw [hv] at h; simp at h
    · rfl
  refine ⟨hv, ?_⟩
  rw [mapped_eq l fold hv] at h
  cases hm : mapRR fold (runes l) [] with
  | none => rw [hm] at h; simp at h
  | some L =>
    rw [hm] at h
    have hn := map_nice fold (runes l) [] L (cat_runes _ l (Nat.le_refl _) hv).2 (by simp) (by intro i hi; simp at hi) hm
    simp only [Option.map_some] at h
    rw [cat_trim L (fun r hr => (hn.1 r hr).2.2)] at h
    refine ⟨L, rfl, hn.1, hn.2, ?_⟩
    split at h
    · next hc => exact .inl ⟨hc.1, hc.2, (Option.some.inj h).symm⟩
    · next hc => exact .inr ⟨hc, (Option.some.inj h).symm⟩
theorem cat_nil {L : List Int} : cat L = [] ↔ L = [] := by
  constructor
  · intro h
    cases L with
    | nil => rfl
    | cons r L => rw [cat_cons] at h; simp [enc_ne] at h
  · rintro rfl; rfl
/-- What is prepared stays, whatever it is made of: characters that stay, no two blanks. -/
theorem prep_of_nice (fold : Bool) (L : List Int) (hn : ∀ x ∈ L, Nice fold x) (h2 : NoTwo L) (h3 : L.head? ≠ some 32) (h4 : L.getLast? ≠ some 32) : prepL (cat L) fold = some (cat L) := by
  have hVR : ∀ x ∈ L, VR x := fun x hx => (hn x hx).2.2
  unfold prepL
  rw [mapped_eq _ fold (valid_cat L hVR), runes_cat L hVR, map_same fold L [] hn (by simpa using h2)]
  simp only [List.nil_append, Option.map_some]
  rw [cat_trim L hVR, trimI_id L h3 h4, if_neg (fun h => h.2 h.1)]
theorem prep_blank (fold : Bool) : prepL [32] fold = some [32] := by cases fold <;> decide
theorem prep_idem {l p : List UInt8} {fold : Bool} (h : prepL l fold = some p) : prepL p fold = some p := by
  obtain ⟨hv, L, hm, hn, h2, hc⟩ := prep_form h
  rcases hc with ⟨_, _, rfl⟩ | ⟨_, rfl⟩
  · exact prep_blank fold
  · obtain ⟨a, b, hab⟩ := trimI_infix L
    refine prep_of_nice fold _ (fun x hx => hn x ?_) (NoTwo.infix (hab ▸ h2)) (trimI_head L) (trimI_last L)
    rw [hab]; simp [hx]
theorem prep_ne {l p : List UInt8} {fold : Bool} (h : prepL l fold = some p) (hl : l ≠ []) : p ≠ [] := by
  obtain ⟨hv, L, hm, hn, h2, hc⟩ := prep_form h
  rcases hc with ⟨_, _, rfl⟩ | ⟨h1, rfl⟩
  · simp
  · intro e; exact h1 ⟨e, hl⟩
theorem prep_nil {p : List UInt8} {fold : Bool} (h : prepL [] fold = some p) : p = [] := by
  have : prepL [] fold = some [] := by cases fold <;> decide
  rw [this] at h; exact (Option.some.inj h).symm
theorem map_some (f g : Bool) : ∀ (rs acc acc' : List Int), (mapRR f rs acc).isSome = (mapRR g rs acc').isSome
  | [], _, _ => rfl
  | r :: rs, acc, acc' => by
    rw [mapRR, mapRR]
    have hs : ∀ (f : Bool) (acc : List Int), (mapR r).2.2 = false → ∃ a, stepR f acc r = some a := by
      intro f acc h
      unfold stepR
      rw [h]
      simp only [Bool.false_eq_true, if_false]
      split
      · exact ⟨_, rfl⟩
      · split
        · exact ⟨_, rfl⟩
        · exact ⟨_, rfl⟩
    cases h : (mapR r).2.2
    · obtain ⟨a, ha⟩ := hs f acc h
      obtain ⟨b, hb⟩ := hs g acc' h
      rw [ha, hb]
      exact map_some f g rs a b
    · have : ∀ (f : Bool) (acc : List Int), stepR f acc r = none := by intro f acc; unfold stepR; rw [h]; rfl
      rw [this, this]; rfl
/-- Whether a text can be prepared does not go by the letters. -/
theorem prep_some (f g : Bool) (l : List UInt8) : (prepL l f).isSome = (prepL l g).isSome := by
  have e : ∀ f, (prepL l f).isSome = (mappedL l f).isSome := by
    intro f
    unfold prepL
    cases mappedL l f with
    | none => rfl
    | some t => simp only; split <;> rfl
  rw [e, e]
  cases hv : Lib.validD l
  · unfold mappedL; rw [hv]; rfl
  · rw [mapped_eq l f hv, mapped_eq l g hv]
    simp only [Option.isSome_map]
    exact map_some f g _ _ _
end Go.Proofs.YtcjobpcbppcdnaaGreatDoor
/- Plain laws: a part's pairs in their order, each once: told by its members alone. -/
namespace Go.Proofs.YtcjobpcbppcdnaaGreatDoor
open Go.RowKit Go.Sort

/-- Strictly in an order. -/
def SS {α : Type} (f : α → α → Int) (l : List α) : Prop := l.Pairwise (fun a b => f a b < 0)
theorem SS.unique {α : Type} {f : α → α → Int} (hf : Ord f) : ∀ l l' : List α, SS f l → SS f l' → (∀ x, x ∈ l ↔ x ∈ l') → l = l'
  | [], [], _, _, _ => rfl
  | [], y :: l', _, _, h => by have := (h y).2 (by simp); simp at this
  | x :: l, [], _, _, h => by have := (h x).1 (by simp); simp at this
  | x :: l, y :: l', h1, h2, h => by
    unfold SS at h1 h2
    rw [List.pairwise_cons] at h1 h2
    have hxy : x = y := by
      have a := (h x).1 (by simp)
      have b := (h y).2 (by simp)
      rw [List.mem_cons] at a b
      rcases a with a | a
      · exact a
      · rcases b with b | b
        · exact b.symm
        · have c := h1.1 y b
          have d := h2.1 x a
          have e := hf.swap x y
          omega
    subst hxy
    have hx := (hf.zero x x).2 rfl
    rw [SS.unique hf l l' h1.2 h2.2 (fun z => ?_)]
    constructor
    · intro hz
      have := (h z).1 (by simp [hz])
      rw [List.mem_cons] at this
      rcases this with e | e
      · have := h1.1 z hz; rw [e] at this; omega
      · exact e
    · intro hz
      have := (h z).2 (by simp [hz])
      rw [List.mem_cons] at this
      rcases this with e | e
      · have := h2.1 z hz; rw [e] at this; omega
      · exact e
theorem ddL_ss {α : Type} [DecidableEq α] {f : α → α → Int} (hf : Ord f) (p : List α) (hs : ∀ (i j : Nat) x y, i < j → p[i]? = some x → p[j]? = some y → f x y ≤ 0) :
    ∀ n, n ≤ p.length → SS f (ddL p n) ∧ ∀ x, x ∈ ddL p n ↔ ∃ i, i < n ∧ p[i]? = some x
  | 0, _ => ⟨by simp [ddL, SS], by simp [ddL]⟩
  | n + 1, hn => by
    obtain ⟨ih1, ih2⟩ := ddL_ss hf p hs n (by omega)
    have hx : p[n]? = some p[n] := List.getElem?_eq_getElem (by omega)
    rw [ddL, hx]
    simp only
    by_cases hc : n ≠ 0 ∧ p[n - 1]? = some p[n]
    · rw [if_pos hc]
      refine ⟨ih1, fun x => ?_⟩
      rw [ih2]
      constructor
      · rintro ⟨i, hi, h⟩; exact ⟨i, by omega, h⟩
      · rintro ⟨i, hi, h⟩
        by_cases hin : i = n
        · subst hin; exact ⟨i - 1, by omega, by rw [hc.2, ← hx, h]⟩
        · exact ⟨i, by omega, h⟩
    · rw [if_neg hc]
      constructor
      · unfold SS at *
        rw [List.pairwise_append]
        refine ⟨ih1, by simp, fun y hy z hz => ?_⟩
        rw [List.mem_singleton] at hz
        subst hz
        obtain ⟨i, hi, h⟩ := (ih2 y).1 hy
        have h1 := hs i n y _ hi h hx
        rcases Int.lt_or_eq_of_le h1 with h2 | h2
        · exact h2
        · exfalso
          have hyx := (hf.zero _ _).1 h2
          subst hyx
          have hm : p[n - 1]? = some p[n - 1] := List.getElem?_eq_getElem (by omega)
          apply hc
          refine ⟨by omega, ?_⟩
          rw [hm]
          congr 1
          apply (hf.zero _ _).1
          have a := hs (n - 1) n _ _ (by omega) hm hx
          have b : f p[n] p[n - 1] ≤ 0 := by
            by_cases e : i = n - 1
            · subst e
              have : p[n] = p[n - 1] := by rw [hm] at h; exact (Option.some.inj h).symm
              rw [this]; have := (hf.zero p[n - 1] p[n - 1]).2 rfl; omega
            · exact hs i (n - 1) _ _ (by omega) h hm
          have c := hf.swap p[n - 1] p[n]
          omega
      · intro x
        rw [List.mem_append, List.mem_singleton, ih2]
        constructor
        · rintro (⟨i, hi, h⟩ | rfl)
          · exact ⟨i, by omega, h⟩
          · exact ⟨n, by omega, hx⟩
        · rintro ⟨i, hi, h⟩
          by_cases hin : i = n
          · subst hin; right; rw [hx] at h; exact (Option.some.inj h).symm
          · left; exact ⟨i, by omega, h⟩
theorem sortA_le (p : List (List UInt8 × List UInt8)) (i j : Nat) (x y : List UInt8 × List UInt8) (hij : i < j) (hx : (sortA p).toList[i]? = some x) (hy : (sortA p).toList[j]? = some y) : avaCmp x y ≤ 0 := by
  have h := (insertionSort_holds (lt := ltOf avaCmp) avaCmp_ord.swo p.toArray 0 p.length (Nat.zero_le _) (by simp)).2
  have hl := sortA_len p
  obtain ⟨hj, ey⟩ := List.getElem?_eq_some_iff.1 hy
  obtain ⟨hi, ex⟩ := List.getElem?_eq_some_iff.1 hx
  have hh := h i j (Nat.zero_le _) hij (by omega)
  have e1 : (sortA p)[i]! = x := by rw [← ex]; simp at hi; simp [hi]
  have e2 : (sortA p)[j]! = y := by rw [← ey]; simp at hj; simp [hj]
  change ltOf avaCmp (sortA p)[j]! (sortA p)[i]! = false at hh
  rw [e1, e2] at hh
  simp only [ltOf, decide_eq_false_iff_not] at hh
  have := avaCmp_ord.swap x y
  omega
theorem partN_ss (p : List (List UInt8 × List UInt8)) : SS avaCmp (partN p) := (ddL_ss avaCmp_ord _ (sortA_le p) p.length (by rw [sortA_len]; exact Nat.le_refl _)).1
theorem partN_iff (p : List (List UInt8 × List UInt8)) (x : List UInt8 × List UInt8) : x ∈ partN p ↔ x ∈ p := by
  unfold partN
  rw [(ddL_ss avaCmp_ord _ (sortA_le p) p.length (by rw [sortA_len]; exact Nat.le_refl _)).2, ← (sortA_perm p).mem_iff]
  constructor
  · rintro ⟨i, _, h⟩; exact List.mem_of_getElem? h
  · intro h
    obtain ⟨i, hi, e⟩ := List.mem_iff_getElem.1 h
    exact ⟨i, by rw [sortA_len] at hi; exact hi, by rw [List.getElem?_eq_getElem hi, e]⟩
theorem partN_id {p : List (List UInt8 × List UInt8)} (h : SS avaCmp p) : partN p = p := SS.unique avaCmp_ord _ _ (partN_ss p) h (partN_iff p)
theorem partN_eq {p q : List (List UInt8 × List UInt8)} (h : ∀ x, x ∈ p ↔ x ∈ q) : partN p = partN q := SS.unique avaCmp_ord _ _ (partN_ss p) (partN_ss q) (fun x => by rw [partN_iff, partN_iff, h])
theorem lowB_idem (c : UInt8) : lowB (lowB c) = lowB c := by
  unfold lowB
  split
  · next h =>
    have e : (c + 32).toNat = c.toNat + 32 := by rw [UInt8.toNat_add]; simp; omega
    rw [if_neg (by omega)]
  · next h => first | rfl | rw [if_neg h]
theorem small_idem (l : List UInt8) : smallL (smallL l) = smallL l := by
  unfold smallL
  rw [List.map_map]
  exact List.map_congr_left fun c _ => lowB_idem c
theorem normA_idem (x : List UInt8 × List UInt8) : normA (normA x) = normA x := by
  unfold normA
  simp only [small_idem]
  cases h : prepL x.2 true with
  | none => simp [h]
  | some p => simp [prep_idem h]
theorem normP_idem (p : List (List UInt8 × List UInt8)) : normP (normP p) = normP p := by
  unfold normP
  have : (partN (p.map normA)).map normA = partN (p.map normA) := by
    refine (List.map_congr_left (g := id) fun x hx => ?_).trans (List.map_id _)
    rw [partN_iff] at hx
    obtain ⟨y, _, rfl⟩ := List.mem_map.1 hx
    exact normA_idem y
  rw [this]
  exact partN_id (partN_ss _)
end Go.Proofs.YtcjobpcbppcdnaaGreatDoor
/- Plain laws: what stands between dots; types. -/
namespace Go.Proofs.YtcjobpcbppcdnaaGreatDoor
open Go.RowKit Go.Sort

/-- A text cut at its dots. -/
def spl (d : UInt8) : List UInt8 → List (List UInt8)
  | [] => [[]]
  | c :: t => if c = d then [] :: spl d t else match spl d t with
    | [] => [[c]]
    | x :: r => (c :: x) :: r
theorem spl_ne (d : UInt8) : ∀ l, spl d l ≠ []
  | [] => by simp [spl]
  | c :: t => by
    rw [spl]
    split
    · simp
    · split <;> simp
theorem splitK_cons (c d : UInt8) (h : c ≠ d) (t : List UInt8) : ∀ k, ∃ x r, Lib.splitK [d] 0 k t = x :: r ∧ Lib.splitK [d] 0 k (c :: t) = (c :: x) :: r
  | 0 => ⟨t, [], rfl, rfl⟩
  | k + 1 => by
    have hp : ([d] : List UInt8).isPrefixOf (c :: t) = false := by simp [List.isPrefixOf, Ne.symm h]
    have hix : Lib.index (c :: t) [d] = if Lib.index t [d] == -1 then -1 else Lib.index t [d] + 1 := by rw [Lib.index, hp]; simp
    rw [Lib.splitK, Lib.splitK, hix]
    by_cases hm : (Lib.index t [d] == -1) = true
    · rw [if_pos hm, if_pos hm]; exact ⟨t, [], rfl, rfl⟩
    · rw [if_neg hm, if_neg hm]
      have hge := Lib.index_ge t [d]
      have hm' : Lib.index t [d] ≠ -1 := by simpa using hm
      obtain ⟨j, hj⟩ : ∃ j : Nat, Lib.index t [d] = j := ⟨(Lib.index t [d]).toNat, by omega⟩
      rw [hj, if_neg (by simp; omega)]
      refine ⟨_, _, rfl, ?_⟩
      rw [show ((j : Int) + 1).toNat = j + 1 by omega]
      simp
theorem splitK_spl (d : UInt8) : ∀ l : List UInt8, Lib.splitK [d] 0 (l.count d) l = spl d l
  | [] => rfl
  | c :: t => by
    have ih := splitK_spl d t
    by_cases h : c = d
    · subst h
      rw [List.count_cons_self, Lib.splitK, spl, if_pos rfl]
      have hix : Lib.index (c :: t) [c] = ((0 : Nat) : Int) := by rw [Lib.index]; simp [List.isPrefixOf]
      rw [hix]
      simp only [List.length_singleton, Int.toNat_natCast]
      rw [if_neg (by decide)]
      simp [ih]
    · rw [List.count_cons_of_ne (by simpa using h)]
      obtain ⟨x, r, e1, e2⟩ := splitK_cons c d h t (t.count d)
      rw [e2, spl, if_neg h, ← ih, e1]
theorem segs_spl (l : List UInt8) : segs l = spl 46 l := by
  unfold segs
  rw [Lib.splitB_data]
  have : Lib.countB ⟨l.toArray⟩ ⟨#[46]⟩ = l.count 46 := by
    show Lib.count l [46] = _
    exact Lib.count_one 46 l
  rw [this]
  exact splitK_spl 46 l
theorem spl_mem (d : UInt8) : ∀ (l : List UInt8) (c : UInt8), c ∈ l → c = d ∨ ∃ s ∈ spl d l, c ∈ s
  | [], c, h => by simp at h
  | x :: t, c, h => by
    rw [spl]
    rw [List.mem_cons] at h
    by_cases hx : x = d
    · rw [if_pos hx]
      rcases h with rfl | h
      · exact .inl hx
      · rcases spl_mem d t c h with h1 | ⟨s, h1, h2⟩
        · exact .inl h1
        · exact .inr ⟨s, by simp [h1], h2⟩
    · rw [if_neg hx]
      have hne := spl_ne d t
      cases hs : spl d t with
      | nil => exact absurd hs hne
      | cons y r =>
        simp only
        rcases h with rfl | h
        · exact .inr ⟨_, List.mem_cons_self .., by simp⟩
        · rcases spl_mem d t c h with h1 | ⟨s, h1, h2⟩
          · exact .inl h1
          · rw [hs, List.mem_cons] at h1
            rcases h1 with rfl | h1
            · exact .inr ⟨_, List.mem_cons_self .., by simp [h2]⟩
            · exact .inr ⟨s, by simp [h1], h2⟩
theorem isOid_all {l : List UInt8} (h : isOidL l = true) : ∀ c ∈ l, c = 46 ∨ isDig c = true := by
  intro c hc
  unfold isOidL at h
  rw [segs_spl, Bool.and_eq_true] at h
  rcases spl_mem 46 l c hc with h1 | ⟨s, h1, h2⟩
  · exact .inl h1
  · right
    have := List.all_eq_true.1 h.1 s h1
    unfold segOk at this
    rw [Bool.and_eq_true] at this
    exact List.all_eq_true.1 this.2 c h2
theorem dig_inTy {c : UInt8} (h : c = 46 ∨ isDig c = true) : inTy c = true ∧ lowB c = c := by
  unfold inTy inTypeB digB lowB
  rcases h with rfl | h
  · decide
  · unfold isDig at h
    simp at h
    refine ⟨?_, by rw [if_neg (by omega)]⟩
    have h1 : decide ((48 : Int) ≤ (c.toNat : Int)) = true := by simp; omega
    have h2 : decide ((c.toNat : Int) ≤ 57) = true := by simp; omega
    rw [h1, h2]; simp
theorem type_ne {t : List UInt8} (h : isTypeL t = true) : t ≠ [] := by rintro rfl; simp [isTypeL] at h
theorem type_all {t : List UInt8} (h : isTypeL t = true) : ∀ c ∈ t, inTy c = true := by
  cases t with
  | nil => simp
  | cons c m =>
    unfold isTypeL at h
    rw [Bool.and_eq_true] at h
    intro x hx
    by_cases hl : letB c.toNat = true
    · rw [if_pos hl] at h
      have := List.all_eq_true.1 h.2 x hx
      unfold typeCh at this
      rw [Bool.and_eq_true] at this
      exact this.1
    · rw [if_neg hl] at h
      exact (dig_inTy (isOid_all h.2 x hx)).1
theorem low_nat (c : UInt8) : (lowB c).toNat = if 65 ≤ c.toNat ∧ c.toNat ≤ 90 then c.toNat + 32 else c.toNat := by
  unfold lowB
  split
  · rw [UInt8.toNat_add]; simp; omega
  · rfl
theorem low_let (c : UInt8) : letB (lowB c).toNat = letB c.toNat := by
  rw [low_nat]; unfold letB; rw [Bool.eq_iff_iff]; simp; split <;> omega
theorem low_typeCh (c : UInt8) (h : typeCh c = true) : typeCh (lowB c) = true := by
  unfold typeCh inTypeB at *
  rw [low_let]
  by_cases hc : 65 ≤ c.toNat ∧ c.toNat ≤ 90
  · have h1 : letB c.toNat = true := by unfold letB; simp; omega
    rw [h1]
    have h2 : (lowB c == 46) = false := by
      rw [beq_eq_false_iff_ne]; intro e
      have := congrArg UInt8.toNat e
      rw [low_nat, if_pos hc] at this
      simp at this; omega
    simp [h2]
  · have : lowB c = c := by unfold lowB; rw [if_neg hc]
    rw [this]; exact h
theorem type_small {t : List UInt8} (h : isTypeL t = true) : isTypeL (smallL t) = true := by
  cases t with
  | nil => simp [isTypeL] at h
  | cons c m =>
    unfold isTypeL at h
    rw [Bool.and_eq_true] at h
    by_cases hl : letB c.toNat = true
    · rw [if_pos hl] at h
      unfold smallL
      rw [List.map_cons]
      unfold isTypeL
      rw [Bool.and_eq_true, low_let, if_pos hl]
      refine ⟨by simpa using h.1, ?_⟩
      rw [← List.map_cons, List.all_map]
      exact List.all_eq_true.2 fun x hx => low_typeCh x (List.all_eq_true.1 h.2 x hx)
    · rw [if_neg hl] at h
      have hs : smallL (c :: m) = c :: m := by
        unfold smallL
        exact (List.map_congr_left (g := id) fun x hx => (dig_inTy (isOid_all h.2 x hx)).2).trans (List.map_id _)
      rw [hs]
      unfold isTypeL
      rw [Bool.and_eq_true, if_neg hl]
      exact h
end Go.Proofs.YtcjobpcbppcdnaaGreatDoor
/- Plain laws: a name that is written is read as it was. -/
namespace Go.Proofs.YtcjobpcbppcdnaaGreatDoor
open Go.RowKit Go.Sort

/-- Nothing, or a comma or a plus. -/
def Stop (r : List UInt8) : Prop := ∀ x t, r = x :: t → x = 43 ∨ x = 44
theorem idx_mem (l : List UInt8) (c : UInt8) : 0 ≤ Lib.indexByte l c ↔ c ∈ l := by
  have := Lib.contains_iff_indexByte l c
  rw [Bool.eq_iff_iff] at this
  simpa using this.symm
theorem u8_nat (c : UInt8) (n : Nat) (h : n < 256) : ((c.toNat : Int) = (n : Int)) ↔ c = UInt8.ofNat n := by
  rw [← UInt8.toNat_inj, ofN h]; omega
/-- A value as it is written, from a place on. -/
def wrT (n : Nat) : Nat → List UInt8 → List UInt8
  | _, [] => []
  | p, c :: t => wrB n p c ++ wrT n (p + 1) t
theorem wrL_T (v : List UInt8) : ∀ (k p : Nat), p + k = v.length → wrL v v.length = wrL v p ++ wrT v.length p (v.drop p)
  | 0, p, h => by
    obtain rfl : p = v.length := by omega
    rw [List.drop_length]; simp [wrT]
  | k + 1, p, h => by
    have hp : p < v.length := by omega
    rw [wrL_T v k (p + 1) (by omega), wrL_at v p hp _ rfl, List.drop_eq_getElem_cons hp, wrT, List.append_assoc]
theorem written_T (v : List UInt8) (hv : Lib.validD v = true) : writtenL v = wrT v.length 0 v := by
  unfold writtenL
  rw [if_pos hv, wrL_T v v.length 0 (by omega)]
  simp [wrL]
theorem val_read (v : List UInt8) (r : List UInt8) (hr : Stop r) : ∀ (u acc : List UInt8) (long n : Nat), v = acc ++ u → long ≤ acc.length → (u = [] → long = acc.length) → (wrT v.length acc.length u ++ r).length ≤ n →
    valL n (wrT v.length acc.length u ++ r) acc long = some (v, r)
  | [], acc, long, n, hv, hl, he, hn => by
    simp only [List.append_nil] at hv
    subst hv
    rw [wrT, List.nil_append, he rfl]
    cases r with
    | nil => rw [valL]; simp
    | cons x t =>
      rw [wrT, List.nil_append] at hn
      cases n with
      | zero => simp at hn
      | succ n =>
        rw [valL, if_pos]
        · simp
        · rcases hr x t rfl with h | h
          · right; rw [h]; rfl
          · left; rw [h]; rfl
  | c :: u, acc, long, n, hv, hl, he, hn => by
    have ih := fun long' n' h1 h2 h3 => val_read v r hr u (acc ++ [c]) long' n' (by rw [hv]; simp) h1 h2 h3
    rw [wrT, List.append_assoc] at hn ⊢
    have hlen : (acc ++ [c]).length = acc.length + 1 := by simp
    rw [hlen] at ih
    have hlast : u = [] → acc.length = v.length - 1 := by rintro rfl; rw [hv]; simp
    generalize hw : wrT v.length (acc.length + 1) u ++ r = R at *
    unfold wrB at hn ⊢
    by_cases h0 : c = 0
    · subst h0
      rw [if_pos (by decide)] at hn ⊢
      simp only [List.cons_append, List.nil_append, List.length_cons] at hn ⊢
      obtain ⟨m, rfl⟩ : ∃ m, n = m + 1 := ⟨n - 1, by omega⟩
      rw [valL, if_neg (by decide), if_pos (by decide)]
      have : escR (48 :: 48 :: R) = some (0, R) := by
        rw [escR, if_neg (by decide), esc2, if_neg (by decide)]; rfl
      rw [this]
      exact ih _ _ (by omega) (fun _ => rfl) (by omega)
    · have h0' : ¬ (((c.toNat : Int) == 0) = true) := by
        simp only [beq_iff_eq]; intro e; apply h0; have := (u8_nat c 0 (by omega)).1 e; exact this
      rw [if_neg h0'] at hn ⊢
      by_cases hE : escB v.length acc.length c = true
      · rw [if_pos hE] at hn ⊢
        simp only [List.cons_append, List.nil_append, List.length_cons] at hn ⊢
        obtain ⟨m, rfl⟩ : ∃ m, n = m + 1 := ⟨n - 1, by omega⟩
        rw [valL, if_neg (by decide), if_pos (by decide)]
        have hmem : c ∈ escCs := by
          unfold escB at hE
          simp only [Bool.or_eq_true, Bool.and_eq_true, decide_eq_true_eq, beq_iff_eq] at hE
          rcases hE with (h | ⟨_, h | h⟩) | ⟨_, h⟩
          · have := (idx_mem _ _).1 h
            have hsub : ∀ x ∈ specCs, x ∈ escCs := by decide
            exact hsub c this
          · rw [(u8_nat c 35 (by omega)).1 h]; decide
          · rw [(u8_nat c 32 (by omega)).1 h]; decide
          · rw [(u8_nat c 32 (by omega)).1 h]; decide
        have : escR (c :: R) = some (c, R) := by rw [escR, if_pos ((idx_mem _ _).2 hmem)]
        rw [this]
        exact ih _ _ (by omega) (fun _ => rfl) (by omega)
      · rw [if_neg hE] at hn ⊢
        have hns : c ∉ specCs := by
          intro h; apply hE; unfold escB; simp [(idx_mem _ _).2 h]
        simp only [List.cons_append, List.nil_append, List.length_cons] at hn ⊢
        obtain ⟨m, rfl⟩ : ∃ m, n = m + 1 := ⟨n - 1, by omega⟩
        have k44 : ¬ ((c.toNat : Int) = 44) := fun e => hns (by rw [(u8_nat c 44 (by omega)).1 e]; decide)
        have k43 : ¬ ((c.toNat : Int) = 43) := fun e => hns (by rw [(u8_nat c 43 (by omega)).1 e]; decide)
        have k92 : ¬ ((c.toNat : Int) = 92) := fun e => hns (by rw [(u8_nat c 92 (by omega)).1 e]; decide)
        rw [valL, if_neg (by rintro (h | h); exact k44 h; exact k43 h), if_neg k92, if_neg]
        · refine ih _ _ ?_ ?_ (by omega)
          · split <;> omega
          · intro hu
            rw [if_neg]
            intro h32
            apply hE
            have := hlast hu
            unfold escB
            have hp : 0 < v.length := by rw [hv]; simp; omega
            have e1 : ((acc.length : Int) == (v.length : Int) - 1) = true := by rw [beq_iff_eq]; omega
            have e2 : ((c.toNat : Int) == 32) = true := by rw [beq_iff_eq]; exact h32
            rw [e1, e2]; simp
        · rintro (h | h)
          · exact h0' (by rw [beq_iff_eq]; exact h)
          · exact hns ((idx_mem _ _).1 h)
theorem digit_hex : ∀ n : Fin 16, digitV (hexD n.val).toNat = (n.val : Int) ∧ isHex (hexD n.val) = true := by decide
theorem unhex_hex : ∀ v : List UInt8, unhexL (hexL v) = some v
  | [] => rfl
  | c :: t => by
    have h1 := (digit_hex ⟨c.toNat / 16, by have := UInt8.toNat_lt c; omega⟩).1
    have h2 := (digit_hex ⟨c.toNat % 16, by omega⟩).1
    simp only at h1 h2
    have : hexL (c :: t) = hexD (c.toNat / 16) :: hexD (c.toNat % 16) :: hexL t := by simp [hexL]
    rw [this, unhexL, h1, h2, if_neg (by omega), unhex_hex t]
    simp only [Option.map_some]
    congr 2
    unfold hexByte
    apply UInt8.toNat_inj.1
    have := UInt8.toNat_lt c
    rw [ofN (by omega)]
    omega
theorem hex_all (v : List UInt8) : ∀ c ∈ hexL v, isHex c = true := by
  intro c hc
  unfold hexL at hc
  rw [List.mem_flatMap] at hc
  obtain ⟨x, _, h⟩ := hc
  simp only [List.mem_cons, List.not_mem_nil, or_false] at h
  rcases h with rfl | rfl
  · exact (digit_hex ⟨x.toNat / 16, by have := UInt8.toNat_lt x; omega⟩).2
  · exact (digit_hex ⟨x.toNat % 16, by omega⟩).2
theorem takeW_app {p : UInt8 → Bool} : ∀ (l r : List UInt8), (∀ c ∈ l, p c = true) → (∀ x t, r = x :: t → p x = false) → (l ++ r).takeWhile p = l ∧ (l ++ r).dropWhile p = r
  | [], r, _, h => by
    cases r with
    | nil => simp
    | cons x t => simp [h x t rfl]
  | c :: l, r, h1, h2 => by
    have ih := takeW_app l r (fun x hx => h1 x (by simp [hx])) h2
    have hc := h1 c (by simp)
    simp [hc, ih.1, ih.2]
theorem wr_head (v : List UInt8) (r : List UInt8) (hr : Stop r) : ∀ x t, writtenL v ++ r = x :: t → x ≠ 32 ∧ (Lib.validD v = true → x ≠ 35) := by
  intro x t h
  cases hv : Lib.validD v
  · unfold writtenL at h
    rw [hv] at h
    simp only [Bool.false_eq_true, if_false, List.cons_append, List.cons.injEq] at h
    rw [← h.1]; exact ⟨by decide, by simp⟩
  · rw [written_T v hv] at h
    cases v with
    | nil =>
      rw [wrT, List.nil_append] at h
      rcases hr x t h with rfl | rfl <;> exact ⟨by decide, fun _ => by decide⟩
    | cons c u =>
      rw [wrT, List.append_assoc] at h
      unfold wrB at h
      split at h
      · simp at h; rw [← h.1]; exact ⟨by decide, fun _ => by decide⟩
      · split at h
        · simp at h; rw [← h.1]; exact ⟨by decide, fun _ => by decide⟩
        · next hE =>
          simp only [List.cons_append, List.nil_append, List.cons.injEq] at h
          obtain ⟨rfl, _⟩ := h
          refine ⟨?_, fun _ => ?_⟩
          · rintro rfl; apply hE; unfold escB; simp
          · rintro rfl; apply hE; unfold escB; simp
theorem invalid_ne {v : List UInt8} (h : Lib.validD v = false) : v ≠ [] := by rintro rfl; simp [Lib.validD_nil] at h
theorem value_read (v r : List UInt8) (hr : Stop r) : valueR (writtenL v ++ r) = some (v, r) := by
  unfold valueR
  cases hv : Lib.validD v
  · have e : writtenL v = 35 :: hexL v := by unfold writtenL; rw [hv]; rfl
    rw [e, if_pos (by simp [hd])]
    simp only [List.cons_append, List.tail_cons]
    unfold hexR
    have := takeW_app (p := isHex) (hexL v) r (hex_all v) (fun x t h => by rcases hr x t h with rfl | rfl <;> decide)
    rw [this.1, this.2, unhex_hex]
    simp [invalid_ne hv]
  · rw [if_neg]
    · rw [written_T v hv]
      exact val_read v r hr v [] 0 _ (by simp) (by simp) (by simp) (by simp)
    · intro h
      cases hw : writtenL v ++ r with
      | nil => rw [hw] at h; simp [hd] at h
      | cons x t =>
        rw [hw] at h
        simp only [hd, beq_iff_eq] at h
        exact (wr_head v r hr x t hw).2 hv ((u8_nat x 35 (by omega)).1 h)
theorem blk_id (l : List UInt8) (h : ∀ x t, l = x :: t → x ≠ 32) : blk l = l := by
  unfold blk
  apply dropW_id
  cases l with
  | nil => simp
  | cons x t => simp; exact h x t rfl
theorem Stop.blk {r : List UInt8} (h : Stop r) : blk r = r := blk_id r (fun x t e => by rcases h x t e with rfl | rfl <;> decide)
theorem pair_read (x : List UInt8 × List UInt8) (r : List UInt8) (ht : isTypeL x.1 = true) (hr : Stop r) : pairR (pairW x ++ r) = some (x, r) := by
  obtain ⟨t, v⟩ := x
  simp only at ht
  unfold pairW pairR
  simp only [List.append_assoc, List.cons_append, List.nil_append]
  have hall := type_all ht
  have hb : blk (t ++ 61 :: (writtenL v ++ r)) = t ++ 61 :: (writtenL v ++ r) := by
    apply blk_id
    intro c u e
    cases t with
    | nil => exact absurd rfl (type_ne ht)
    | cons y m =>
      simp only [List.cons_append, List.cons.injEq] at e
      rw [← e.1]
      have := hall y (by simp)
      rintro rfl
      exact absurd this (by decide)
  have htw := takeW_app (p := inTy) t (61 :: (writtenL v ++ r)) hall (fun x u e => by simp at e; rw [← e.1]; decide)
  rw [hb]
  unfold typR
  rw [htw.1, htw.2, if_pos ht]
  simp only
  have h61 : blk (61 :: (writtenL v ++ r)) = 61 :: (writtenL v ++ r) := blk_id _ (fun x u e => by simp at e; rw [← e.1]; decide)
  rw [h61, if_pos (by simp [hd])]
  simp only [List.tail_cons]
  rw [blk_id (writtenL v ++ r) (fun y u e => (wr_head v r hr y u e).1), value_read v r hr]
  simp only
  rw [hr.blk]
theorem Stop.cons43 (r : List UInt8) : Stop (43 :: r) := fun x t h => by simp at h; exact .inl h.1.symm
theorem Stop.cons44 (r : List UInt8) : Stop (44 :: r) := fun x t h => by simp at h; exact .inr h.1.symm
/-- Nothing, or a comma. -/
def Stop4 (r : List UInt8) : Prop := ∀ x t, r = x :: t → x = 44
theorem Stop4.stop {r : List UInt8} (h : Stop4 r) : Stop r := fun x t e => .inr (h x t e)
theorem hd_no (r : List UInt8) (n : Nat) (hn : n < 256) (h : ∀ x t, r = x :: t → x ≠ UInt8.ofNat n) : hd r (n : Int) = false := by
  cases r with
  | nil => rfl
  | cons x t =>
    simp only [hd]
    rw [beq_eq_false_iff_ne]
    intro e
    exact h x t rfl ((u8_nat x n hn).1 e)
theorem join_two (x y : List UInt8) (t : List (List UInt8)) (s : List UInt8) : Lib.join (x :: y :: t) s = x ++ s ++ Lib.join (y :: t) s := by
  simp [Lib.join, List.intercalate]
theorem join_one' (x : List UInt8) (s : List UInt8) : Lib.join [x] s = x := by simp [Lib.join, List.intercalate]
/-- What stands behind the first pair. -/
def tailW : List (List UInt8 × List UInt8) → List UInt8
  | [] => []
  | y :: t => 43 :: (pairW y ++ tailW t)
theorem partW_cons (x : List UInt8 × List UInt8) : ∀ t, partW (x :: t) = pairW x ++ tailW t
  | [] => by simp [partW, tailW, join_one']
  | y :: t => by
    have ih := partW_cons y t
    unfold partW at *
    simp only [List.map_cons] at *
    rw [join_two, ih]; simp [tailW]
theorem tailW_stop (t : List (List UInt8 × List UInt8)) (r : List UInt8) (h : Stop4 r) : Stop (tailW t ++ r) := by
  cases t with
  | nil => exact h.stop
  | cons y t => exact Stop.cons43 _
theorem part_tail (r : List UInt8) (hr : Stop4 r) : ∀ (t : List (List UInt8 × List UInt8)) (acc : List (List UInt8 × List UInt8)) (n : Nat), (∀ x ∈ t, isTypeL x.1 = true) → (tailW t ++ r).length ≤ n → partL n (tailW t ++ r) acc = some (acc ++ t, r)
  | [], acc, n, _, _ => by
    have h43 : hd r 43 = false := hd_no r 43 (by omega) (fun x t e => by rw [hr x t e]; decide)
    cases n <;> simp [partL, tailW, h43]
  | y :: t, acc, n, ht, hn => by
    simp only [tailW, List.cons_append, List.append_assoc, List.length_cons] at hn ⊢
    obtain ⟨m, rfl⟩ : ∃ m, n = m + 1 := ⟨n - 1, by omega⟩
    rw [partL, if_pos (by simp [hd])]
    simp only [List.tail_cons]
    rw [pair_read y (tailW t ++ r) (ht y (by simp)) (tailW_stop t r hr)]
    simp only
    rw [part_tail r hr t (acc ++ [y]) m (fun x hx => ht x (by simp [hx])) (by simp at hn ⊢; omega)]
    simp
theorem part_read (p : List (List UInt8 × List UInt8)) (hp : p ≠ []) (ht : ∀ x ∈ p, isTypeL x.1 = true) (r : List UInt8) (hr : Stop4 r) : partR (partW p ++ r) = some (p, r) := by
  cases p with
  | nil => exact absurd rfl hp
  | cons x t =>
    rw [partW_cons, List.append_assoc]
    unfold partR
    rw [pair_read x (tailW t ++ r) (ht x (by simp)) (tailW_stop t r hr)]
    simp only
    rw [part_tail r hr t [x] _ (fun y hy => ht y (by simp [hy])) (Nat.le_refl _)]
    simp
def tailN : List (List (List UInt8 × List UInt8)) → List UInt8
  | [] => []
  | p :: t => 44 :: (partW p ++ tailN t)
theorem nameW_cons (p : List (List UInt8 × List UInt8)) : ∀ t, nameW (p :: t) = partW p ++ tailN t
  | [] => by simp [nameW, tailN, join_one']
  | y :: t => by
    have ih := nameW_cons y t
    unfold nameW at *
    simp only [List.map_cons] at *
    rw [join_two, ih]; simp [tailN]
theorem tailN_stop (t : List (List (List UInt8 × List UInt8))) : Stop4 (tailN t) := by
  cases t with
  | nil => intro x t h; cases h
  | cons y t => intro x u h; simp [tailN] at h; exact h.1.symm
theorem name_tail : ∀ (t : List (List (List UInt8 × List UInt8))) (acc : List (List (List UInt8 × List UInt8))) (n : Nat), (∀ p ∈ t, p ≠ [] ∧ ∀ x ∈ p, isTypeL x.1 = true) → (tailN t).length ≤ n → nameL n (tailN t) acc = some (acc ++ t, [])
  | [], acc, n, _, _ => by cases n <;> simp [nameL, tailN, hd]
  | p :: t, acc, n, ht, hn => by
    simp only [tailN, List.length_cons] at hn ⊢
    obtain ⟨m, rfl⟩ : ∃ m, n = m + 1 := ⟨n - 1, by omega⟩
    rw [nameL, if_pos (by simp [hd])]
    simp only [List.tail_cons]
    rw [part_read p (ht p (by simp)).1 (ht p (by simp)).2 (tailN t) (tailN_stop t)]
    simp only
    rw [name_tail t (acc ++ [p]) m (fun x hx => ht x (by simp [hx])) (by simp at hn ⊢; omega)]
    simp
theorem pairW_ne (x : List UInt8 × List UInt8) : pairW x ≠ [] := by simp [pairW]
theorem name_read (d : List (List (List UInt8 × List UInt8))) (h : ∀ p ∈ d, p ≠ [] ∧ ∀ x ∈ p, isTypeL x.1 = true) : nameR (nameW d) = some d := by
  cases d with
  | nil => rfl
  | cons p t =>
    rw [nameW_cons]
    unfold nameR
    have hne : partW p ++ tailN t ≠ [] := by
      have hp := (h p (by simp)).1
      cases p with
      | nil => exact absurd rfl hp
      | cons x u => rw [partW_cons]; simp [pairW_ne]
    rw [if_neg hne, part_read p (h p (by simp)).1 (h p (by simp)).2 (tailN t) (tailN_stop t)]
    simp only [nameGo]
    rw [name_tail t [p] _ (fun x hx => h x (by simp [hx])) (Nat.le_refl _)]
    simp [nameFin]
/-- What is printed is read as it was. -/
theorem parse_print {d : List (List (List UInt8 × List UInt8))} (h : (printL d).1 = 0) : parseL (printL d).2 = (0, d) := by
  unfold printL at h ⊢
  split at h
  · simp at h
  · next hb =>
    split at h
    · simp at h
    · next htl =>
      unfold printFin at h
      split at h
      · simp at h
      · next hl =>
        rw [if_neg hb, if_neg htl]
        unfold printFin
        rw [if_neg hl]
        simp only
        unfold parseL
        rw [if_neg hl, name_read d, ]
        · simp only; rw [if_neg htl]
        · intro p hp
          have hb' : d.any partBad = false := by simpa using hb
          have := List.any_eq_false.1 hb' p hp
          unfold partBad at this
          simp only [Bool.or_eq_true, not_or] at this
          refine ⟨by intro e; apply this.1; rw [e]; rfl, fun x hx => ?_⟩
          have h2 : p.any avaBadB = false := by simpa using this.2
          have h3 := List.any_eq_false.1 h2 x hx
          unfold avaBadB at h3
          simpa using h3
/-- A name's normal form is its own. -/
theorem nameN_idem {s m : List UInt8} (h : nameN s = some m) : nameN m = some m := by
  unfold nameN at h
  split at h
  · split at h
    · next h1 h2 =>
      have hm := Option.some.inj h
      have hp := parse_print h2
      rw [hm] at hp
      unfold nameN
      rw [hp]
      simp only [if_true]
      have e : ((parseL s).2.map normP).map normP = (parseL s).2.map normP := by
        rw [List.map_map]
        exact List.map_congr_left fun p _ => normP_idem p
      rw [e, if_pos h2, hm]
    · cases h
  · cases h
end Go.Proofs.YtcjobpcbppcdnaaGreatDoor
/- Plain: where a byte, one of some bytes stands; the words' steps. -/
namespace Go.Proofs.YtcjobpcbppcdnaaGreatDoor
open Go.RowKit

def stopCs : List UInt8 := [32, 9, 10, 13, 40, 41, 36, 39]
theorem sStop_iff (c : UInt8) : sStop c = stopCs.contains c := by
  unfold sStop sBlank sAlone stopCs
  rw [Bool.eq_iff_iff]
  simp [or_assoc]
theorem sBlank_idx (c : UInt8) : (sBlank c = true ↔ 0 ≤ Lib.indexByte [32, 9, 10, 13] c) := by
  rw [idx_mem]
  unfold sBlank
  simp [or_assoc]
theorem sAlone_idx (c : UInt8) : (sAlone c = true ↔ 0 ≤ Lib.indexByte [40, 41, 36] c) := by
  rw [idx_mem]
  unfold sAlone
  simp [or_assoc]
theorem idxB_some : ∀ (l : List UInt8) (c : UInt8), l.contains c = true → Lib.indexByte l c = ((l.takeWhile (· != c)).length : Int) ∧ (l.takeWhile (· != c)).length < l.length
  | [], c, h => by simp at h
  | b :: l, c, h => by
    rw [Lib.indexByte, List.takeWhile_cons]
    by_cases hb : b = c
    · subst hb; simp
    · have h1 : l.contains c = true := by
        simp only [List.contains_eq_mem, List.mem_cons, decide_eq_true_eq] at h ⊢
        rcases h with h | h
        · exact absurd h.symm hb
        · exact h
      obtain ⟨h2, h3⟩ := idxB_some l c h1
      have h4 : (b == c) = false := beq_eq_false_iff_ne.2 hb
      have h5 : (b != c) = true := by simp [hb]
      rw [h4, h5, h2]
      simp only [Bool.false_eq_true, if_false, if_true, List.length_cons]
      have h6 : (((l.takeWhile (· != c)).length : Int) == -1) = false := by rw [beq_eq_false_iff_ne]; omega
      rw [h6]
      simp only [Bool.false_eq_true, if_false]
      exact ⟨by omega, by omega⟩
theorem idxB_none (l : List UInt8) (c : UInt8) (h : l.contains c = false) : Lib.indexByte l c = -1 := by
  have h1 := Lib.indexByte_ge l c
  have h2 : ¬ 0 ≤ Lib.indexByte l c := by
    rw [idx_mem]
    simpa using h
  omega
theorem idxA_some (cs : List UInt8) : ∀ l : List UInt8, l.any cs.contains = true → Lib.indexAny l cs = ((l.takeWhile (fun c => !cs.contains c)).length : Int) ∧ (l.takeWhile (fun c => !cs.contains c)).length < l.length
  | [], h => by simp at h
  | b :: l, h => by
    rw [Lib.indexAny, List.takeWhile_cons]
    cases hb : cs.contains b
    · have h1 : l.any cs.contains = true := by
        rw [List.any_cons, hb, Bool.false_or] at h
        exact h
      obtain ⟨h2, h3⟩ := idxA_some cs l h1
      rw [h2]
      simp only [Bool.false_eq_true, if_false, Bool.not_false, if_true, List.length_cons]
      have h6 : (((l.takeWhile (fun c => !cs.contains c)).length : Int) == -1) = false := by rw [beq_eq_false_iff_ne]; omega
      rw [h6]
      simp only [Bool.false_eq_true, if_false]
      exact ⟨by omega, by omega⟩
    · simp
theorem idxA_none (cs : List UInt8) : ∀ l : List UInt8, l.any cs.contains = false → Lib.indexAny l cs = -1 ∧ l.takeWhile (fun c => !cs.contains c) = l
  | [], _ => by simp [Lib.indexAny]
  | b :: l, h => by
    rw [List.any_cons, Bool.or_eq_false_iff] at h
    obtain ⟨h2, h3⟩ := idxA_none cs l h.2
    rw [Lib.indexAny, List.takeWhile_cons, h.1, h2, h3]
    simp
theorem stop_fun : (fun c => !sStop c) = fun c => !stopCs.contains c := funext fun c => by rw [sStop_iff]
/-- The words of a text do not hang on the fuel. -/
theorem wordsF_fuel : ∀ (n m : Nat) (r : List UInt8) (acc : List Wd), r.length < n → r.length < m → wordsF n r acc = wordsF m r acc
  | 0, _, _, _, h, _ => by omega
  | _ + 1, 0, _, _, _, h => by omega
  | n + 1, m + 1, r, acc, h1, h2 => by
    have hd : (r.dropWhile sBlank).length ≤ r.length := (List.dropWhile_sublist _).length_le
    rw [wordsF, wordsF]
    cases hr : r.dropWhile sBlank with
    | nil => rfl
    | cons c t =>
      rw [hr] at hd
      simp only [List.length_cons] at hd
      simp only
      split
      · split
        · refine wordsF_fuel n m _ _ ?_ ?_
          all_goals
            have := (List.dropWhile_sublist (fun x : UInt8 => x != 39) (l := t)).length_le
            rw [List.length_tail]
            omega
        · rfl
      · split
        · exact wordsF_fuel n m t _ (by omega) (by omega)
        · refine wordsF_fuel n m _ _ ?_ ?_
          all_goals
            have := (List.dropWhile_sublist (fun c : UInt8 => !sStop c) (l := t)).length_le
            omega
theorem wordsF_nil (n : Nat) {r : List UInt8} (acc : List Wd) (h : r.dropWhile sBlank = []) : wordsF (n + 1) r acc = some acc := by
  rw [wordsF, h]
theorem wordsF_go (n : Nat) {r t : List UInt8} {c : UInt8} (acc : List Wd) (hn : r.length < n + 1) (h : r.dropWhile sBlank = c :: t) : wordsF (n + 1) r acc = (
      if c == 39 then (if t.contains 39 then wordsF (n + 1) (t.dropWhile (· != 39)).tail (acc ++ [(t.takeWhile (· != 39), true)]) else none)
      else if sAlone c then wordsF (n + 1) t (acc ++ [([c], false)])
      else wordsF (n + 1) (t.dropWhile (fun c => !sStop c)) (acc ++ [(c :: t.takeWhile (fun c => !sStop c), false)])) := by
  have hd : (r.dropWhile sBlank).length ≤ r.length := (List.dropWhile_sublist _).length_le
  rw [h] at hd
  simp only [List.length_cons] at hd
  have h1 := (List.dropWhile_sublist (fun x : UInt8 => x != 39) (l := t)).length_le
  have h2 := (List.dropWhile_sublist (fun c : UInt8 => !sStop c) (l := t)).length_le
  rw [wordsF, h]
  simp only
  rw [wordsF_fuel n (n + 1) (t.dropWhile (· != 39)).tail _ (by rw [List.length_tail]; omega) (by rw [List.length_tail]; omega), wordsF_fuel n (n + 1) t _ (by omega) (by omega), wordsF_fuel n (n + 1) (t.dropWhile fun c => !sStop c) _ (by omega) (by omega)]
theorem drop_take_len {α : Type} (p : α → Bool) : ∀ t : List α, t.drop (t.takeWhile p).length = t.dropWhile p
  | [] => rfl
  | c :: t => by
    rw [List.takeWhile_cons, List.dropWhile_cons]
    cases p c
    · rfl
    · simpa using drop_take_len p t
theorem take_take_len {α : Type} (p : α → Bool) : ∀ t : List α, t.take (t.takeWhile p).length = t.takeWhile p
  | [] => rfl
  | c :: t => by
    rw [List.takeWhile_cons]
    cases p c
    · rfl
    · simpa using take_take_len p t
end Go.Proofs.YtcjobpcbppcdnaaGreatDoor
/- Contracts: the reader of a definition's words: is, take, plain, quoted, name. -/
namespace Go.Proofs.YtcjobpcbppcdnaaGreatDoor
open Go.RowKit

theorem in_word (W : World) (a b : List UInt8) (p q : Bool) : (Op.equalIn 10000 125 (.agg #[.string ⟨a.toArray⟩, .bool p]) (.agg #[.string ⟨b.toArray⟩, .bool q])).run Tryz.prog W = .ok (a == b && p == q) W := by
  have u9 := Tryz.underlying9
  have a9 := Tryz.isAgg9
  have z9 := Tryz.sizeOf9
  have u4 := Tryz.underlying4
  have a4 := Tryz.isAgg4
  have z4 := Tryz.sizeOf4
  have hS : Tryz.prog.underlying 125 = some (.struct (Tryz.prog.fieldsOf 125)) := by kernel_rfl
  have hp : Tryz.prog.stoodInHeld 125 = false := by kernel_rfl
  rw [show (10000 : Nat) = 9999 + 1 from rfl, run_equalIn_agg W 9999 125 _ _ hS hp]
  simp only [Program.fieldsOf, Tryz.underlying125]
  go_simp
  by_cases h1 : a = b <;> by_cases h2 : p = q <;> simp [h1, h2]
theorem eql_word (W : World) (a b : List UInt8) (p q : Bool) : (binOp .eql 125 (.agg #[.string ⟨a.toArray⟩, .bool p]) (.agg #[.string ⟨b.toArray⟩, .bool q])).run Tryz.prog W = .ok (.bool (a == b && p == q)) W := by
  rw [run_eql_struct, in_word]; rfl
/-- What a step of the reader leaves. -/
theorem RdW.at {w : World} {r : Nat} {l : List Wd} (h : RdW w r l) : ∃ A c, Bk w r 89 #[.slice A l.length c] ∧ WdsR w (.slice A l.length c) l ∧ l.length ≤ c := by
  obtain ⟨v, hb, hw⟩ := h
  obtain ⟨A, c, rfl, hc, _⟩ := id hw
  exact ⟨A, c, hb, hw, hc⟩
theorem RdW.step {w : World} {r : Nat} {A : Option Addr} {n c : Nat} {x : Wd} {l : List Wd} (hb : Bk w r 89 #[.slice A n c]) {v : Value} (hw : WdsR w v l) : RdW (w.setCell ⟨r, 0, none⟩ v) r l := by
  refine ⟨v, by simpa using hb.set 0 v, hw.mods (S := [r]) ((Mods.refl [r] w).setCell (by simp) v) (NoWord.of_bk hb (by decide))⟩
set_option maxRecDepth 100000 in
set_option maxHeartbeats 1000000 in
theorem is_nil (r : Nat) (s : List UInt8) (w : World) (h : RdW w r []) :
    Calls Tryz.prog 82 #[.pointer (some ⟨r, 0, none⟩), .string ⟨s.toArray⟩] w fun e w' => e = .returned (.bool false) ∧ w = w' := by
  obtain ⟨A, c, hb, _, _⟩ := h.at
  have c0 := hb.cell 0
  simp at c0
  go_enter Tryz.func82, Tryz.ntmps82
  go_wp2_with fail
  go_ret
  exact ⟨rfl, rfl⟩
set_option maxRecDepth 100000 in
set_option maxHeartbeats 1000000 in
theorem is_cons (r : Nat) (x : Wd) (l : List Wd) (s : List UInt8) (w : World) (h : RdW w r (x :: l)) :
    Calls Tryz.prog 82 #[.pointer (some ⟨r, 0, none⟩), .string ⟨s.toArray⟩] w fun e w' => e = .returned (.bool (rIs (x :: l) s)) ∧ w = w' := by
  obtain ⟨A, c, hb, hw, _⟩ := h.at
  obtain ⟨g, o, rfl, _, hc, d0, d1, _⟩ := hw.uncons
  have c0 := hb.cell 0
  simp at c0
  obtain ⟨t, q⟩ := x
  simp only at d0 d1
  have heq := fun W => eql_word W t s q false
  clear hb hw
  have hl0 : (0 : Int) < (l.length : Int) + 1 := by omega
  go_enter Tryz.func82, Tryz.ntmps82
  go_wp2_with fail
  go_ret
  exact ⟨rfl, rfl⟩
theorem is_w (r : Nat) (l : List Wd) (s : List UInt8) (w : World) (h : RdW w r l) :
    Calls Tryz.prog 82 #[.pointer (some ⟨r, 0, none⟩), .string ⟨s.toArray⟩] w fun e w' => e = .returned (.bool (rIs l s)) ∧ w = w' := by
  cases l with
  | nil => exact is_nil r s w h
  | cons x l => exact is_cons r x l s w h
/-- 'r.l[1:]' -/
theorem slice_word (g o k c : Nat) (hc : k + 1 ≤ c) : ∃ A', (∀ W : World, (Instr.slice 84 (.slice (some ⟨g, o, none⟩) (k + 1) c) (some (.int .i64 1)) none none).run Tryz.prog W = .ok (.slice A' k (c - 1)) W) ∧ (1 < c → A' = some ⟨g, o + 2, none⟩) := by
  by_cases h1 : c = 1
  · refine ⟨some ⟨g, o, none⟩, fun W => ?_, fun h => by omega⟩
    have hk : k = 0 := by omega
    subst h1 hk
    have hb : (Instr.sliceBounds true 1 1 (some (.int .i64 1)) none none).run Tryz.prog W = .ok (1, 1, 1) W := by
      simp [Instr.sliceBounds, run_sliceBound]
    have h2 : (sizeOf 125).run Tryz.prog W = .ok 2 W := by kernel_rfl
    unfold Instr.slice
    simp only [Sem.run_bind, run_underlying Tryz.underlying84, Result.andThen_ok, hb, h2, Sem.run_pure]
    simp
  · refine ⟨some ⟨g, o + 2, none⟩, fun W => ?_, fun _ => rfl⟩
    have hb : (Instr.sliceBounds true (k + 1) c (some (.int .i64 1)) none none).run Tryz.prog W = .ok (1, k + 1, c) W := by
      have h1' : (Instr.sliceBound (.int .i64 1) (k + 1) BoundsCode.sliceB).run Tryz.prog W = .ok 1 W := by
        have := run_sliceBound (P := Tryz.prog) (w := W) .i64 1 (k + 1) BoundsCode.sliceB (by omega) (by omega)
        exact this
      simp [Instr.sliceBounds, h1']
    have h2 : (sizeOf 125).run Tryz.prog W = .ok 2 W := by kernel_rfl
    unfold Instr.slice
    simp only [Sem.run_bind, run_underlying Tryz.underlying84, Result.andThen_ok, hb, h2, Sem.run_pure]
    have ha : (⟨g, o, none⟩ : Addr).add (1 * 2) = ⟨g, o + 2, none⟩ := by unfold Addr.add; split <;> simp_all
    simp [ha]
    omega
/-- What take, plain, quoted leave: the words that are left. -/
def StepRet (w : World) (r : Nat) (l' : List Wd) (v : Value) (e : Ending) (w' : World) : Prop := e = .returned v ∧ RdW w' r l' ∧ w.grownBy w' (some r)
theorem grown_set' (w : World) (r : Nat) (v : Value) : w.grownBy (w.setCell ⟨r, 0, none⟩ v) (some r) := setCell_grown w r 0 v
set_option maxRecDepth 100000 in
set_option maxHeartbeats 1000000 in
theorem take_yes (r : Nat) (x : Wd) (l : List Wd) (s : List UInt8) (w : World) (h : RdW w r (x :: l)) (hs : rIs (x :: l) s = true) :
    Calls Tryz.prog 49 #[.pointer (some ⟨r, 0, none⟩), .string ⟨s.toArray⟩] w (StepRet w r l (.bool true)) := by
  have HI := Lib.hid (is_w r (x :: l) s w h)
  rw [hs] at HI
  obtain ⟨A, c, hb, hw, _⟩ := h.at
  obtain ⟨g, o, rfl, _, hc, d0, d1, hu⟩ := hw.uncons
  obtain ⟨A', hsl, hA'⟩ := slice_word g o l.length c hc
  have hfin := RdW.step (x := x) hb (hu A' (c - 1) (by omega) hA')
  have HF := Lib.hid hfin
  have c0 := hb.cell 0
  have f0 := hb.frozen 0
  simp at c0
  clear hfin hu hA' hw hb d0 d1 hs h
  go_enter Tryz.func49, Tryz.ntmps49
  go_wp2_with (go_at_call 82; refine HI.out.mono ?_; rintro e w1 ⟨rfl, rfl⟩)
  go_ret
  exact ⟨rfl, HF.out, grown_set' _ _ _⟩
set_option maxRecDepth 100000 in
set_option maxHeartbeats 1000000 in
theorem take_no (r : Nat) (l : List Wd) (s : List UInt8) (w : World) (h : RdW w r l) (hs : rIs l s = false) :
    Calls Tryz.prog 49 #[.pointer (some ⟨r, 0, none⟩), .string ⟨s.toArray⟩] w fun e w' => e = .returned (.bool false) ∧ w = w' := by
  have HI := Lib.hid (is_w r l s w h)
  rw [hs] at HI
  clear hs h
  go_enter Tryz.func49, Tryz.ntmps49
  go_wp2_with (go_at_call 82; refine HI.out.mono ?_; rintro e w1 ⟨rfl, rfl⟩)
  go_ret
  exact ⟨rfl, rfl⟩
def strBool (s : List UInt8) (b : Bool) : Value := .tuple #[.string ⟨s.toArray⟩, .bool b]
/-- What plain, quoted, name hand back: the word, and what is left; or nothing. -/
def OneRet (w : World) (r : Nat) (o : Option (List UInt8 × List Wd)) (e : Ending) (w' : World) : Prop := match o with
  | none => ∃ s, e = .returned (strBool s false) ∧ Mods [r] w w'
  | some (s, l') => e = .returned (strBool s true) ∧ RdW w' r l' ∧ Mods [r] w w'
set_option maxRecDepth 100000 in
set_option maxHeartbeats 1000000 in
theorem quoted_nil (r : Nat) (w : World) (h : RdW w r []) :
    Calls Tryz.prog 92 #[.pointer (some ⟨r, 0, none⟩)] w fun e w' => e = .returned (strBool [] false) ∧ w = w' := by
  obtain ⟨A, c, hb, _, _⟩ := h.at
  have c0 := hb.cell 0
  simp at c0
  clear hb h
  go_enter Tryz.func92, Tryz.ntmps92
  go_wp2_with fail
  go_ret2
  exact ⟨rfl, rfl⟩
set_option maxRecDepth 100000 in
set_option maxHeartbeats 1000000 in
theorem quoted_no (r : Nat) (t : List UInt8) (l : List Wd) (w : World) (h : RdW w r ((t, false) :: l)) :
    Calls Tryz.prog 92 #[.pointer (some ⟨r, 0, none⟩)] w fun e w' => e = .returned (strBool [] false) ∧ w = w' := by
  obtain ⟨A, c, hb, hw, _⟩ := h.at
  obtain ⟨g, o, rfl, _, hc, d0, d1, _⟩ := hw.uncons
  have c0 := hb.cell 0
  simp at c0
  simp only at d0 d1
  have hne : ((l.length : Int) + 1 == 0) = false := by rw [beq_eq_false_iff_ne]; omega
  have hl0 : (0 : Int) < (l.length : Int) + 1 := by omega
  clear hb h hw
  go_enter Tryz.func92, Tryz.ntmps92
  go_wp2_with fail
  go_ret2
  exact ⟨rfl, rfl⟩
set_option maxRecDepth 100000 in
set_option maxHeartbeats 1000000 in
theorem quoted_yes (r : Nat) (t : List UInt8) (l : List Wd) (w : World) (h : RdW w r ((t, true) :: l)) :
    Calls Tryz.prog 92 #[.pointer (some ⟨r, 0, none⟩)] w (StepRet w r l (strBool t true)) := by
  obtain ⟨A, c, hb, hw, _⟩ := h.at
  obtain ⟨g, o, rfl, _, hc, d0, d1, hu⟩ := hw.uncons
  obtain ⟨A', hsl, hA'⟩ := slice_word g o l.length c hc
  have hfin := RdW.step (x := (t, true)) hb (hu A' (c - 1) (by omega) hA')
  have HF := Lib.hid hfin
  have c0 := hb.cell 0
  have f0 := hb.frozen 0
  simp at c0
  simp only at d0 d1
  have hne : ((l.length : Int) + 1 == 0) = false := by rw [beq_eq_false_iff_ne]; omega
  have hl0 : (0 : Int) < (l.length : Int) + 1 := by omega
  clear hfin hu hA' hw hb h
  go_enter Tryz.func92, Tryz.ntmps92
  go_wp2_with fail
  go_ret2
  exact ⟨rfl, HF.out, grown_set' _ _ _⟩
theorem quoted_w (r : Nat) (l : List Wd) (w : World) (h : RdW w r l) :
    Calls Tryz.prog 92 #[.pointer (some ⟨r, 0, none⟩)] w (OneRet w r (rQuoted l)) := by
  match l, h with
  | [], h => exact (quoted_nil r w h).mono fun e w' ⟨he, hw⟩ => ⟨[], he, hw ▸ Mods.refl _ _⟩
  | (t, false) :: l, h => exact (quoted_no r t l w h).mono fun e w' ⟨he, hw⟩ => ⟨[], he, hw ▸ Mods.refl _ _⟩
  | (t, true) :: l, h => exact (quoted_yes r t l w h).mono fun e w' ⟨he, h1, h2⟩ => ⟨he, h1, Mods.of_grown h2 (by simp)⟩
set_option maxRecDepth 100000 in
set_option maxHeartbeats 1000000 in
theorem plain_nil (r : Nat) (w : World) (h : RdW w r []) :
    Calls Tryz.prog 50 #[.pointer (some ⟨r, 0, none⟩)] w fun e w' => e = .returned (strBool [] false) ∧ w = w' := by
  obtain ⟨A, c, hb, _, _⟩ := h.at
  have c0 := hb.cell 0
  simp at c0
  clear hb h
  go_enter Tryz.func50, Tryz.ntmps50
  go_wp2_with fail
  go_ret2
  exact ⟨rfl, rfl⟩
set_option maxRecDepth 100000 in
set_option maxHeartbeats 1000000 in
theorem plain_text (r : Nat) (t : List UInt8) (l : List Wd) (w : World) (h : RdW w r ((t, true) :: l)) :
    Calls Tryz.prog 50 #[.pointer (some ⟨r, 0, none⟩)] w fun e w' => e = .returned (strBool [] false) ∧ w = w' := by
  obtain ⟨A, c, hb, hw, _⟩ := h.at
  obtain ⟨g, o, rfl, _, hc, d0, d1, _⟩ := hw.uncons
  have c0 := hb.cell 0
  simp at c0
  simp only at d0 d1
  have hne : ((l.length : Int) + 1 == 0) = false := by rw [beq_eq_false_iff_ne]; omega
  have hl0 : (0 : Int) < (l.length : Int) + 1 := by omega
  clear hb h hw
  go_enter Tryz.func50, Tryz.ntmps50
  go_wp2_with fail
  go_ret2
  exact ⟨rfl, rfl⟩
theorem Contains_c (l : List UInt8) (w : World) (hw : Env w) : Calls Tryz.prog 83 #[.string ⟨#[40, 41, 36]⟩, .string ⟨l.toArray⟩] w fun e w' => e = .returned (.bool (Lib.contains [40, 41, 36] l)) ∧ w = w' := by
  obtain ⟨m, hm⟩ := hw.mx
  refine (Tryz.strings_Contains ⟨#[40, 41, 36]⟩ ⟨l.toArray⟩ m w (by decide) hm).mono ?_
  rintro e w' ⟨rfl, rfl⟩
  exact ⟨rfl, rfl⟩
set_option maxRecDepth 100000 in
set_option maxHeartbeats 1000000 in
theorem plain_no (r : Nat) (t : List UInt8) (l : List Wd) (w : World) (hw : Env w) (h : RdW w r ((t, false) :: l)) (hc : Lib.contains [40, 41, 36] t = true) :
    Calls Tryz.prog 50 #[.pointer (some ⟨r, 0, none⟩)] w fun e w' => e = .returned (strBool [] false) ∧ w = w' := by
  have HC := Lib.hid (Contains_c t w hw)
  rw [hc] at HC
  obtain ⟨A, c, hb, hw, _⟩ := h.at
  obtain ⟨g, o, rfl, _, hc, d0, d1, _⟩ := hw.uncons
  have c0 := hb.cell 0
  simp at c0
  simp only at d0 d1
  have hne : ((l.length : Int) + 1 == 0) = false := by rw [beq_eq_false_iff_ne]; omega
  have hl0 : (0 : Int) < (l.length : Int) + 1 := by omega
  clear hb h hw
  go_enter Tryz.func50, Tryz.ntmps50
  go_wp2_with (go_at_call 83; refine HC.out.mono ?_; rintro e w1 ⟨rfl, rfl⟩)
  go_ret2
  exact ⟨rfl, rfl⟩
set_option maxRecDepth 100000 in
set_option maxHeartbeats 1000000 in
theorem plain_yes (r : Nat) (t : List UInt8) (l : List Wd) (w : World) (hw : Env w) (h : RdW w r ((t, false) :: l)) (hc : Lib.contains [40, 41, 36] t = false) :
    Calls Tryz.prog 50 #[.pointer (some ⟨r, 0, none⟩)] w (StepRet w r l (strBool t true)) := by
  have HC := Lib.hid (Contains_c t w hw)
  rw [hc] at HC
  obtain ⟨A, c, hb, hw, _⟩ := h.at
  obtain ⟨g, o, rfl, _, hc, d0, d1, hu⟩ := hw.uncons
  obtain ⟨A', hsl, hA'⟩ := slice_word g o l.length c hc
  have hfin := RdW.step (x := (t, false)) hb (hu A' (c - 1) (by omega) hA')
  have HF := Lib.hid hfin
  have c0 := hb.cell 0
  have f0 := hb.frozen 0
  simp at c0
  simp only at d0 d1
  have hne : ((l.length : Int) + 1 == 0) = false := by rw [beq_eq_false_iff_ne]; omega
  have hl0 : (0 : Int) < (l.length : Int) + 1 := by omega
  clear hfin hu hA' hw hb h
  go_enter Tryz.func50, Tryz.ntmps50
  go_wp2_with (go_at_call 83; refine HC.out.mono ?_; rintro e w1 ⟨rfl, rfl⟩)
  go_ret2
  exact ⟨rfl, HF.out, grown_set' _ _ _⟩
theorem plain_w (r : Nat) (l : List Wd) (w : World) (hw : Env w) (h : RdW w r l) :
    Calls Tryz.prog 50 #[.pointer (some ⟨r, 0, none⟩)] w (OneRet w r (rPlain l)) := by
  match l, h with
  | [], h => exact (plain_nil r w h).mono fun e w' ⟨he, hw⟩ => ⟨[], he, hw ▸ Mods.refl _ _⟩
  | (t, true) :: l, h => exact (plain_text r t l w h).mono fun e w' ⟨he, hw⟩ => ⟨[], he, hw ▸ Mods.refl _ _⟩
  | (t, false) :: l, h =>
    cases hc : Lib.contains [40, 41, 36] t
    · have hr : rPlain ((t, false) :: l) = some (t, l) := by simp [rPlain, hc]
      rw [hr]
      exact (plain_yes r t l w hw h hc).mono fun e w' ⟨he, h1, h2⟩ => ⟨he, h1, Mods.of_grown h2 (by simp)⟩
    · have hr : rPlain ((t, false) :: l) = none := by simp [rPlain, hc]
      rw [hr]
      exact (plain_no r t l w hw h hc).mono fun e w' ⟨he, hw⟩ => ⟨[], he, hw ▸ Mods.refl _ _⟩
end Go.Proofs.YtcjobpcbppcdnaaGreatDoor
/- Contracts: the reader of a definition's words: name, list. -/
namespace Go.Proofs.YtcjobpcbppcdnaaGreatDoor
open Go.RowKit

theorem Env.mods {S : List Nat} {w w' : World} (h : Env w) (hm : Mods S w w') (hS : ∀ b ∈ S, Off b) : Env w' := by
  obtain ⟨⟨h1, h2⟩, m, hx⟩ := h
  have n1 : 1 ∉ S := fun hb => (hS _ hb).1 rfl
  have n2 : 2 ∉ S := fun hb => (hS _ hb).2.1 rfl
  have n3 : 0 ∉ S := fun hb => (hS _ hb).2.2 rfl
  exact ⟨⟨fun c hc => hm.cell (h1 c hc) n1, fun i hi => ⟨hm.cell (h2 i hi).1 n2, hm.cell (h2 i hi).2 n2⟩⟩, m, hm.cell hx n3⟩
/-- A list of texts in a row of the call's own. -/
def Own (B : Nat) (w : World) (v : Value) (xs : List (List UInt8)) : Prop := w.ownsRow B 9 1 v xs.length (xs.map strV) ∧ B ≤ w.heap.size
theorem Own.nil {B : Nat} {w : World} (hB : B ≤ w.heap.size) : Own B w (.slice none 0 0) [] := ⟨World.ownsRow_nil _ _ _ _, hB⟩
theorem Own.lt {B : Nat} {w : World} {v : Value} {xs : List (List UInt8)} (h : Own B w v xs) : ∀ k, v.ownBlock = some k → B ≤ k ∧ k < w.heap.size := fun k hk => h.1.lt k hk
theorem Own.keep {B : Nat} {w w' : World} {v : Value} {xs : List (List UInt8)} (h : Own B w v xs) {r : Option Nat} (hg : w.grownBy w' r) (hr : ∀ k, r = some k → k < B) : Own B w' v xs := by
  refine ⟨h.1.kept hg ?_, Nat.le_trans h.2 hg.size⟩
  rcases hv : v.ownBlock with _ | g
  · exact .inl rfl
  · refine .inr ?_
    intro he
    have := hr g he.symm
    have := (h.1.lt g hv).1
    omega
theorem Own.below {B : Nat} {w w' : World} {v : Value} {xs : List (List UInt8)} (h : Own B w v xs) (hb : Below w.heap.size w w') : Own B w' v xs := h.keep (grown_below hb none) (fun k hk => by cases hk)
theorem Own.mods {B r : Nat} {w w' : World} {v : Value} {xs : List (List UInt8)} (h : Own B w v xs) (hm : Mods [r] w w') (hr : r < B) : Own B w' v xs :=
  h.keep (r := some r) ⟨hm.os, hm.tape, hm.output, hm.size, fun k hk hne => hm.block k hk (by intro hx; apply hne; simp at hx; rw [hx])⟩ (fun k hk => by cases hk; exact hr)
theorem Own.texts {B : Nat} {w : World} {v : Value} {xs : List (List UInt8)} (h : Own B w v xs) : Texts w v xs := by
  obtain ⟨⟨h1, h2⟩, _⟩ := h
  rcases h2 with ⟨rfl, hn⟩ | ⟨g, cap, cur, rfl, r2, r3, r4, r5, r6, r7⟩
  · exact .inl ⟨List.eq_nil_of_length_eq_zero hn, rfl⟩
  · refine .inr ⟨g, cap, rfl, r4, (Array.getElem?_eq_some_iff.1 r3).1, fun j hj => ?_⟩
    simp only [World.cell?, r3]
    have : (cur.toList.take (xs.length * 1))[j]? = some (strV xs[j]) := by rw [r7]; simp [hj]
    rw [List.getElem?_take] at this
    simpa [hj, strV] using this
theorem Own.noword {B : Nat} {w : World} {v : Value} {xs : List (List UInt8)} (h : Own B w v xs) {k : Nat} (hk : v.ownBlock = some k) : NoWord w [k] := by
  obtain ⟨⟨h1, h2⟩, _⟩ := h
  rcases h2 with ⟨rfl, hn⟩ | ⟨g, cap, cur, rfl, r2, r3, r4, r5, r6, r7⟩
  · simp [Value.ownBlock] at hk
  · have hgk : g = k := by simpa [Value.ownBlock] using hk
    subst hgk
    intro x hx cs z
    have : x = g := by simpa using hx
    subst this
    rw [r3]
    intro e
    cases e
theorem Own.isSlice {B : Nat} {w : World} {v : Value} {xs : List (List UInt8)} (h : Own B w v xs) : ∃ A c, v = .slice A xs.length c ∧ xs.length ≤ c := by
  obtain ⟨⟨h1, h2⟩, _⟩ := h
  rcases h2 with ⟨rfl, hn⟩ | ⟨g, cap, cur, rfl, r2, r3, r4, _⟩
  · exact ⟨none, 0, by rw [hn], by omega⟩
  · exact ⟨_, cap, rfl, r4⟩
theorem own_one {ops : Array Oper} {rest : List Oper} {o : Oper} {a : Act} {Q : Exit → Act → World → Prop} (hgd : o.guard = none) (s x : Operand) (ho : o.op = .call { callee := .builtin .append, args := #[s, x], argTypes := #[22, 22] })
    {v : Value} {xs : List (List UInt8)} {B N : Nat} {w0 : World} {c : List UInt8} (hs : a.eval s = v) (hb : Own B w0 v xs)
    (hx : a.eval x = .slice (some ⟨N, 0, none⟩) 1 1) (hN : N = w0.heap.size) (hlen : xs.length < 4398046511104)
    (h : ∀ v' w', Own B w' v' (xs ++ [c]) → w0.grownBy w' v.ownBlock → wpList Tryz.prog ops Q rest (a.put o.dst v') w') : wpList Tryz.prog ops Q (o :: rest) a (w0.alloc (.cells #[.string ⟨c.toArray⟩] 9)) := by
  subst hN
  obtain ⟨i, h1, h2, h3, h4⟩ := infoStr
  have hb' := hb.keep (World.grownBy_alloc w0 (.cells #[.string ⟨c.toArray⟩] 9) none) (fun k hk => by cases hk)
  refine wpList_append_own _ hgd s x 22 ho B 9 i (.string ⟨#[]⟩) 1 16 Tryz.underlying22 h1 h2 h3 h4 rfl (by decide) v _ _ hs hb'.1 ⟨w0.heap.size, 0, none⟩ 1 1 [.string ⟨c.toArray⟩] hx rfl ?_ ?_ (by unfold maxLen; omega) (by omega) hb'.2 ?_
  · intro j u hj
    match j, hj with
    | 0, hj => simp at hj; subst hj; simp [Addr.add]
    | (j + 1), hj => simp at hj
  · intro u hu; simp at hu; subst hu; rfl
  · intro v' w' ho' hg _
    refine h v' w' ⟨?_, Nat.le_trans hb'.2 hg.size⟩ (World.grownBy.trans (World.grownBy_alloc _ _ _) hg)
    simpa [strV] using ho'
/-- What an append to a row of the call's own leaves to the reader, and to all else. -/
theorem RdW.owned {w w' : World} {r B : Nat} {l : List Wd} {v : Value} {xs : List (List UInt8)} (h : RdW w r l) (ho : Own B w v xs) (hr : r < B) (hg : w.grownBy w' v.ownBlock) : RdW w' r l := by
  rcases hv : v.ownBlock with _ | k
  · rw [hv] at hg
    exact h.below ⟨hg.os, hg.tape, hg.output, hg.size, fun j hj => hg.block j hj (by simp)⟩
  · rw [hv] at hg
    have := ho.lt k hv
    exact h.mods (Mods.of_grown hg (S := [k]) (by simp)) (by simp; omega) (ho.noword hv)
theorem Mods.owned {S : List Nat} {w0 w w' : World} {v : Value} {xs : List (List UInt8)} (h : Mods S w0 w) (ho : Own w0.heap.size w v xs) (hg : w.grownBy w' v.ownBlock) : Mods S w0 w' := by
  rcases hv : v.ownBlock with _ | k
  · rw [hv] at hg
    exact h.trans (Mods.of_grown' hg (fun k hk => by cases hk))
  · rw [hv] at hg
    have hk := ho.lt k hv
    refine ((h.mono (S' := k :: S) (fun x hx => by simp [hx])).trans (Mods.of_grown hg (by simp))).news ?_
    intro x hx
    rcases List.mem_cons.1 hx with rfl | hx
    · exact .inr hk.1
    · exact .inl hx
set_option maxRecDepth 100000 in
set_option maxHeartbeats 1000000 in
theorem name_none (r : Nat) (l : List Wd) (w : World) (hw : Env w) (h : RdW w r l) (hn : rPlain l = none) :
    Calls Tryz.prog 90 #[.pointer (some ⟨r, 0, none⟩)] w fun e w' => ∃ s, e = .returned (strBool s false) ∧ Mods [r] w w' := by
  have hp := plain_w r l w hw h
  rw [hn] at hp
  have HP : Hid (Calls Tryz.prog 50 #[.pointer (some ⟨r, 0, none⟩)] w fun e w' => ∃ s : List UInt8, e = .returned (.tuple #[.string ⟨s.toArray⟩, .bool false]) ∧ Mods [r] w w') := Lib.hid hp
  clear hp hn h
  go_enter Tryz.func90, Tryz.ntmps90
  go_wp2_with (go_at_call 50; refine HP.out.mono ?_; rintro e w1 ⟨s, rfl, hm⟩)
  go_ret2
  exact ⟨s, rfl, hm⟩
set_option maxRecDepth 100000 in
set_option maxHeartbeats 1000000 in
theorem name_some (r : Nat) (l t : List Wd) (s : List UInt8) (w : World) (hw : Env w) (hO : Off r) (h : RdW w r l) (hn : rPlain l = some (s, t)) (hs : s.length ≤ 1000000) :
    Calls Tryz.prog 90 #[.pointer (some ⟨r, 0, none⟩)] w fun e w' => e = .returned (strBool s (isTypeL s)) ∧ RdW w' r t ∧ Mods [r] w w' := by
  have hp := plain_w r l w hw h
  rw [hn] at hp
  have HP : Hid (Calls Tryz.prog 50 #[.pointer (some ⟨r, 0, none⟩)] w fun e w' => e = .returned (.tuple #[.string ⟨s.toArray⟩, .bool true]) ∧ RdW w' r t ∧ Mods [r] w w') := Lib.hid hp
  have HT := Lib.hid (fun (W : World) (hm : Mods [r] w W) => IsType_c s W (hw.mods hm (by simpa using hO)) (by omega))
  clear hp hn h
  go_enter Tryz.func90, Tryz.ntmps90
  go_wp2_with (first | (go_at_call 50; refine HP.out.mono ?_; rintro e w1 ⟨rfl, hr, hm⟩) | (go_at_call 51; refine (HT.out _ hm).mono ?_; rintro e w2 ⟨rfl, hb⟩))
  go_ret2
  exact ⟨rfl, hr.below hb, hm.trans (Mods.of_below hb _)⟩
theorem rPlain_cons {l t : List Wd} {s : List UInt8} (h : rPlain l = some (s, t)) : ∃ q, l = (s, q) :: t := by
  unfold rPlain at h
  split at h
  · cases h
  · split at h
    · cases h
    · cases h; exact ⟨_, rfl⟩
theorem rQuoted_cons {l t : List Wd} {s : List UInt8} (h : rQuoted l = some (s, t)) : ∃ q, l = (s, q) :: t := by
  unfold rQuoted at h
  split at h
  · cases h
  · split at h
    · cases h; exact ⟨_, rfl⟩
    · cases h
theorem rName_cons {l t : List Wd} {s : List UInt8} (h : rName l = some (s, t)) : ∃ q, l = (s, q) :: t := by
  unfold rName at h
  split at h
  · cases h
  · next s' t' hp =>
    split at h
    · cases h; exact rPlain_cons hp
    · cases h
/-- The words are short. -/
def Shorts (l : List Wd) : Prop := ∀ x ∈ l, x.1.length ≤ 1000000
theorem name_w (r : Nat) (l : List Wd) (w : World) (hw : Env w) (hO : Off r) (h : RdW w r l) (hl : Shorts l) :
    Calls Tryz.prog 90 #[.pointer (some ⟨r, 0, none⟩)] w (OneRet w r (rName l)) := by
  unfold rName
  cases hp : rPlain l with
  | none => exact name_none r l w hw h hp
  | some x =>
    obtain ⟨s, t⟩ := x
    obtain ⟨q, hq⟩ := rPlain_cons hp
    refine (name_some r l t s w hw hO h hp (by rw [hq] at hl; exact hl _ (List.mem_cons_self ..))).mono ?_
    rintro e w' ⟨rfl, h1, h2⟩
    show OneRet w r (if isTypeL s then some (s, t) else none) _ _
    cases hT : isTypeL s
    · exact ⟨s, rfl, h2⟩
    · exact ⟨rfl, h1, h2⟩
/-- A method that takes a word. -/
structure OneOK (f : FuncId) (r : Nat) (one : List Wd → Option (List UInt8 × List Wd)) : Prop where
  call : ∀ (W : World) (l : List Wd), Env W → RdW W r l → Shorts l → Calls Tryz.prog f #[.pointer (some ⟨r, 0, none⟩)] W (OneRet W r (one l))
  cons : ∀ (l t : List Wd) (s : List UInt8), one l = some (s, t) → ∃ q, l = (s, q) :: t
  enter : ∀ (args : Array Value) (w : World), (callFunc f args).run Tryz.prog w = .ok (.enter f args) w
theorem oneName (r : Nat) (hO : Off r) : OneOK 90 r rName := ⟨fun W l hE hR hS => name_w r l W hE hO hR hS, fun _ _ _ h => rName_cons h, fun _ _ => by kernel_rfl⟩
theorem oneQuoted (r : Nat) : OneOK 92 r rQuoted := ⟨fun W l _ hR _ => quoted_w r l W hR, fun _ _ _ h => rQuoted_cons h, fun _ _ => by kernel_rfl⟩
def ListRet (w : World) (r : Nat) (o : Option (List (List UInt8) × List Wd)) (e : Ending) (w' : World) : Prop := match o with
  | none => e = .returned (.tuple #[.slice none 0 0, .bool false]) ∧ Mods [r] w w'
  | some (xs, l') => ∃ v, e = .returned (.tuple #[v, .bool true]) ∧ Texts w' v xs ∧ RdW w' r l' ∧ Mods [r] w w'
end Go.Proofs.YtcjobpcbppcdnaaGreatDoor
/- Contracts: a list of words. -/
namespace Go.Proofs.YtcjobpcbppcdnaaGreatDoor
open Go.RowKit

/-- What holds ahead of the next word of a list. -/
structure LJ (w : World) (r : Nat) (sign : List UInt8) (one : List Wd → Option (List UInt8 × List Wd)) (many : Bool) (R : Option (List (List UInt8) × List Wd)) (gk : Nat) (out : Value) (wr : World) (l : List Wd) (acc : List (List UInt8)) : Prop where
  fuel : l.length < gk
  own : Own w.heap.size wr out acc
  rd : RdW wr r l
  mods : Mods [r] w wr
  rest : listF sign one many gk l acc = R
  num : acc.length + l.length ≤ 1000000
  short : Shorts l
theorem LJ.env {w : World} {r : Nat} {sign : List UInt8} {one : List Wd → Option (List UInt8 × List Wd)} {many : Bool} {R : Option (List (List UInt8) × List Wd)} {gk : Nat} {out : Value} {wr : World} {l : List Wd} {acc : List (List UInt8)} (h : LJ w r sign one many R gk out wr l acc) (hw : Env w) (hO : Off r) : Env wr := hw.mods h.mods (by simpa using hO)
theorem Shorts.tail {x : Wd} {l : List Wd} (h : Shorts (x :: l)) : Shorts l := fun y hy => h y (List.mem_cons_of_mem _ hy)
theorem listF_none {sign : List UInt8} {one : List Wd → Option (List UInt8 × List Wd)} {many : Bool} {n : Nat} {l : List Wd} {acc : List (List UInt8)} (h : one l = none) : listF sign one many (n + 1) l acc = none := by
  rw [listF, h]
theorem listF_some {sign : List UInt8} {one : List Wd → Option (List UInt8 × List Wd)} {many : Bool} {n : Nat} {l t : List Wd} {s : List UInt8} {acc : List (List UInt8)} (h : one l = some (s, t)) : listF sign one many (n + 1) l acc = if isTypeL s then
        (if !many then some (acc ++ [s], t)
         else if rIs t [41] then some (acc ++ [s], t.tail)
         else if sign == [] then listF sign one many n t (acc ++ [s])
         else if rIs t sign then listF sign one many n t.tail (acc ++ [s]) else none)
      else none := by
  rw [listF, h]
theorem rIs_cons {l : List Wd} {s : List UInt8} (h : rIs l s = true) : ∃ x, l = x :: l.tail := by
  cases l with
  | nil => cases h
  | cons x t => exact ⟨x, rfl⟩
theorem one_short {one : List Wd → Option (List UInt8 × List Wd)} (hc : ∀ (l t : List Wd) (s : List UInt8), one l = some (s, t) → ∃ q, l = (s, q) :: t) {l : List Wd} (hs : Shorts l) {x : List UInt8 × List Wd} (h : one l = some x) : x.1.length ≤ 1000000 := by
  obtain ⟨q, hq⟩ := hc l x.2 x.1 h
  rw [hq] at hs
  exact hs _ (List.mem_cons_self ..)
theorem take_true (r : Nat) (l : List Wd) (s : List UInt8) (w : World) (h : RdW w r l) (hs : rIs l s = true) :
    Calls Tryz.prog 49 #[.pointer (some ⟨r, 0, none⟩), .string ⟨s.toArray⟩] w (StepRet w r l.tail (.bool true)) := by
  obtain ⟨x, hx⟩ := rIs_cons hs
  rw [hx] at h hs
  exact take_yes r x l.tail s w h hs
set_option maxRecDepth 100000 in
set_option maxHeartbeats 4000000 in
theorem list_c (f : FuncId) (one : List Wd → Option (List UInt8 × List Wd)) (sign : List UInt8) (hsg : sign = [] ∨ sign = [36]) (r : Nat) (l : List Wd) (w : World) (hw : Env w) (hO : Off r) (hone : OneOK f r one) (h : RdW w r l) (hs : Shorts l) (hl : l.length ≤ 1000000) :
    Calls Tryz.prog 89 #[.pointer (some ⟨r, 0, none⟩), .string ⟨sign.toArray⟩, .func (.func f) #[.pointer (some ⟨r, 0, none⟩)] #[]] w (ListRet w r (rList sign one l)) := by
  obtain ⟨R, hR⟩ : ∃ R, rList sign one l = R := ⟨_, rfl⟩
  rw [hR]
  have hrw : r < w.heap.size := by obtain ⟨v, hb, _⟩ := h; exact hb.lt
  have HH := Lib.hid h
  have HS := Lib.hid hs
  unfold rList at hR
  have HR := Lib.hid hR
  clear h hs hR
  have HT0 : Hid (Calls Tryz.prog 49 #[.pointer (some ⟨r, 0, none⟩), .string ⟨#[40]⟩] w fun e w' => e = .returned (.bool (rIs l [40])) ∧ RdW w' r (if rIs l [40] then l.tail else l) ∧ Mods [r] w w') := Lib.hid (by
    cases hm : rIs l [40]
    · exact (take_no r l [40] w HH.out hm).mono fun e w' ⟨he, hw'⟩ => ⟨he, hw' ▸ HH.out, hw' ▸ Mods.refl _ _⟩
    · exact (take_true r l [40] w HH.out hm).mono fun e w' ⟨he, h1, h2⟩ => ⟨he, h1, Mods.of_grown h2 (by simp)⟩)
  have HL0 : Hid ((if rIs l [40] then l.tail else l).length ≤ l.length ∧ Shorts (if rIs l [40] then l.tail else l)) := Lib.hid (by
    cases rIs l [40]
    · exact ⟨Nat.le_refl _, HS.out⟩
    · exact ⟨by simp, fun x hx => HS.out x (List.mem_of_mem_tail hx)⟩)
  generalize (if rIs l [40] then l.tail else l) = l0 at HT0 HR HL0
  generalize rIs l [40] = many at HT0 HR
  have hent := hone.enter
  clear HS HH
  go_enter Tryz.func89, Tryz.ntmps89
  go_wp2_with (go_at_call 49; refine HT0.out.mono ?_; rintro e w1 ⟨rfl, hr1, hm1⟩)
  go_loopg [9] (l.length + 1) (fun gk out wr => ∃ (l' : List Wd) (acc : List (List UInt8)), Aside (LJ w r sign one many R gk out wr l' acc))
  case atStart =>
    refine ⟨l0, [], ?_⟩
    have hl0 := HL0.out
    exact (⟨by omega, Own.nil hm1.size, hr1, hm1, HR.out, by simp only [List.length_nil]; omega, hl0.2⟩ : LJ w r sign one many R _ _ _ _ _)
  case round =>
    clear HT0 HR HL0
    obtain ⟨l', acc, AJ⟩ := hrel
    obtain ⟨q, rfl⟩ : ∃ q, gk = q + 1 := ⟨gk - 1, by have := AJ.out.fuel; omega⟩
    have H1 := hone.call wr l' (AJ.out.env hw hO) AJ.out.rd AJ.out.short
    obtain ⟨Ao, co, rfl, hco⟩ := AJ.out.own.isSlice
    cases ho : one l' with
    | none =>
      rw [ho] at H1
      have hfin : R = none := by rw [← AJ.out.rest, listF_none ho]
      have Hf := Lib.hid hfin
      clear hfin ho
      have H1' : Hid (Calls Tryz.prog f #[.pointer (some ⟨r, 0, none⟩)] wr fun e w' => ∃ s : List UInt8, e = .returned (.tuple #[.string ⟨s.toArray⟩, .bool false]) ∧ Mods [r] wr w') := Lib.hid H1
      clear H1
      go_wp2_with ((with_reducible refine H1'.out.mono ?_); rintro e w2 ⟨s, rfl, hm2⟩)
      go_ret2
      rw [Hf.out]
      exact ⟨rfl, AJ.out.mods.trans hm2⟩
    | some xx =>
      obtain ⟨s, t⟩ := xx
      rw [ho] at H1
      have H1' : Hid (Calls Tryz.prog f #[.pointer (some ⟨r, 0, none⟩)] wr fun e w' => e = .returned (.tuple #[.string ⟨s.toArray⟩, .bool true]) ∧ RdW w' r t ∧ Mods [r] wr w') := Lib.hid H1
      clear H1
      have hc := hone.cons l' t s ho
      have hstep := listF_some (sign := sign) (many := many) (n := q) (acc := acc) ho
      rw [AJ.out.rest] at hstep
      have HS := Lib.hid hstep
      have hsl := one_short hone.cons AJ.out.short ho
      simp only at hsl
      have hlt : l'.length = t.length + 1 := by obtain ⟨q', hq⟩ := hc; rw [hq]; rfl
      have hst : Shorts t := by have := AJ.out.short; obtain ⟨q', hq⟩ := hc; rw [hq] at this; exact this.tail
      have hfuel := AJ.out.fuel
      have hnum := AJ.out.num
      have HST := Lib.hid hst
      have HT := Lib.hid (fun (W : World) (hm : Mods [r] wr W) => IsType_c s W ((AJ.out.env hw hO).mods hm (by simpa using hO)) (by omega))
      clear hc hstep ho hst
      have HO := Lib.hid (fun (w2 w3 : World) (hm2 : Mods [r] wr w2) (hb3 : Below w2.heap.size w2 w3) => (AJ.out.own.mods hm2 hrw).below hb3)
      have HM := Lib.hid (fun (w2 w3 : World) (hm2 : Mods [r] wr w2) (hb3 : Below w2.heap.size w2 w3) => (AJ.out.mods.trans hm2).trans (Mods.of_below hb3 [r]))
      have H79 : Hid (Mods [r] w wr) := Lib.hid AJ.out.mods
      clear AJ
      cases hT : isTypeL s
      · rw [hT] at HT HS
        simp only [Bool.false_eq_true, if_false] at HS
        clear hT
        go_wp2_with (first | ((with_reducible refine H1'.out.mono ?_); rintro e w2 ⟨rfl, hr2, hm2⟩) | (go_at_call 51; refine (HT.out _ hm2).mono ?_; rintro e w3 ⟨rfl, hb3⟩))
        go_ret2
        rw [HS.out]
        exact ⟨rfl, HM.out _ _ hm2 hb3⟩
      · rw [hT] at HT HS
        simp only [if_true] at HS
        clear hT
        cases many
        · simp only [Bool.not_false, if_true] at HS
          go_wp2_with (first | ((with_reducible refine H1'.out.mono ?_); rintro e w2 ⟨rfl, hr2, hm2⟩) | (go_at_call 51; refine (HT.out _ hm2).mono ?_; rintro e w3 ⟨rfl, hb3⟩; have hO3 := HO.out _ _ hm2 hb3) | (at_builtin; refine own_one (c := s) rfl _ _ rfl rfl hO3 rfl rfl (by omega) ?_; intro v' w4 hO4 hg4))
          go_ret2
          rw [HS.out]
          exact ⟨v', rfl, hO4.texts, (hr2.below hb3).owned hO3 hrw hg4, (HM.out _ _ hm2 hb3).owned hO3 hg4⟩
        · simp only [Bool.not_true, Bool.false_eq_true, if_false] at HS
          cases h41 : rIs t [41]
          · rw [h41] at HS
            simp only [Bool.false_eq_true, if_false] at HS
            have H41 := Lib.hid h41
            clear h41
            rcases hsg with rfl | rfl
            · have hS2 : Hid (R = listF [] one true q t (acc ++ [s])) := Lib.hid HS.out
              clear HS
              go_wp2_with (first | ((with_reducible refine H1'.out.mono ?_); rintro e w2 ⟨rfl, hr2, hm2⟩) | (go_at_call 51; refine (HT.out _ hm2).mono ?_; rintro e w3 ⟨rfl, hb3⟩; have hO3 := HO.out _ _ hm2 hb3) | (at_builtin; refine own_one (c := s) rfl _ _ rfl rfl hO3 rfl rfl (by omega) ?_; intro v' w4 hO4 hg4; have hr4 := (hr2.below hb3).owned hO3 hrw hg4) | (go_at_call 49; (with_reducible refine (take_no r t [41] _ hr4 H41.out).mono ?_); rintro e w5 ⟨rfl, rfl⟩))
              go_roundg q
              case measure => omega
              case rel => exact ⟨t, acc ++ [s], (⟨by omega, hO4, hr4, (HM.out _ _ hm2 hb3).owned hO3 hg4, hS2.out.symm, by simp only [List.length_append, List.length_cons, List.length_nil]; omega, HST.out⟩ : LJ w r [] one true R q v' _ t (acc ++ [s]))⟩
            · cases h36 : rIs t [36]
              · have hS2 : Hid (R = none) := Lib.hid (by rw [HS.out, h36]; rfl)
                have H36 := Lib.hid h36
                clear HS h36
                go_wp2_with (first | ((with_reducible refine H1'.out.mono ?_); rintro e w2 ⟨rfl, hr2, hm2⟩) | (go_at_call 51; refine (HT.out _ hm2).mono ?_; rintro e w3 ⟨rfl, hb3⟩; have hO3 := HO.out _ _ hm2 hb3) | (at_builtin; refine own_one (c := s) rfl _ _ rfl rfl hO3 rfl rfl (by omega) ?_; intro v' w4 hO4 hg4; have hr4 := (hr2.below hb3).owned hO3 hrw hg4) | (go_at_call 49; (with_reducible refine (take_no r t [41] _ hr4 H41.out).mono ?_); rintro e w5 ⟨rfl, rfl⟩) | (go_at_call 49; (with_reducible refine (take_no r t [36] _ hr4 H36.out).mono ?_); rintro e w5 ⟨rfl, rfl⟩))
                go_ret2
                rw [hS2.out]
                exact ⟨rfl, (HM.out _ _ hm2 hb3).owned hO3 hg4⟩
              · have hS2 : Hid (R = listF [36] one true q t.tail (acc ++ [s])) := Lib.hid (by rw [HS.out, h36]; rfl)
                have H36 := Lib.hid h36
                have htl : t.tail.length ≤ t.length := by simp
                clear HS h36
                go_wp2_with (first | ((with_reducible refine H1'.out.mono ?_); rintro e w2 ⟨rfl, hr2, hm2⟩) | (go_at_call 51; refine (HT.out _ hm2).mono ?_; rintro e w3 ⟨rfl, hb3⟩; have hO3 := HO.out _ _ hm2 hb3) | (at_builtin; refine own_one (c := s) rfl _ _ rfl rfl hO3 rfl rfl (by omega) ?_; intro v' w4 hO4 hg4; have hr4 := (hr2.below hb3).owned hO3 hrw hg4) | (go_at_call 49; (with_reducible refine (take_no r t [41] _ hr4 H41.out).mono ?_); rintro e w5 ⟨rfl, rfl⟩) | (go_at_call 49; (with_reducible refine (take_true r t [36] _ hr4 H36.out).mono ?_); rintro e w6 ⟨rfl, hr6, hg6⟩))
                go_roundg q
                case measure => omega
                case rel => exact ⟨t.tail, acc ++ [s], (⟨by omega, hO4.keep hg6 (fun k hk => by cases hk; exact hrw), hr6, ((HM.out _ _ hm2 hb3).owned hO3 hg4).trans (Mods.of_grown hg6 (by simp)), hS2.out.symm, by simp only [List.length_append, List.length_cons, List.length_nil]; omega, fun x hx => HST.out x (List.mem_of_mem_tail hx)⟩ : LJ w r [36] one true R q v' _ t.tail (acc ++ [s]))⟩
          · rw [h41] at HS
            simp only [if_true] at HS
            have H41 := Lib.hid h41
            clear h41
            go_wp2_with (first | ((with_reducible refine H1'.out.mono ?_); rintro e w2 ⟨rfl, hr2, hm2⟩) | (go_at_call 51; refine (HT.out _ hm2).mono ?_; rintro e w3 ⟨rfl, hb3⟩; have hO3 := HO.out _ _ hm2 hb3) | (at_builtin; refine own_one (c := s) rfl _ _ rfl rfl hO3 rfl rfl (by omega) ?_; intro v' w4 hO4 hg4; have hr4 := (hr2.below hb3).owned hO3 hrw hg4) | (go_at_call 49; (with_reducible refine (take_true r t [41] _ hr4 H41.out).mono ?_); rintro e w6 ⟨rfl, hr6, hg6⟩))
            go_ret2
            rw [HS.out]
            exact ⟨v', rfl, (hO4.keep hg6 (fun k hk => by cases hk; exact hrw)).texts, hr6, ((HM.out _ _ hm2 hb3).owned hO3 hg4).trans (Mods.of_grown hg6 (by simp))⟩
end Go.Proofs.YtcjobpcbppcdnaaGreatDoor
/- Plain: what stands above a definition (chapter 6). -/
namespace Go.Proofs.YtcjobpcbppcdnaaGreatDoor

theorem nodup_bound : ∀ (N : Nat) (l : List Nat), l.Nodup → (∀ x ∈ l, x < N) → l.length ≤ N
  | 0, l, _, h => by
    cases l with
    | nil => simp
    | cons x t => exact absurd (h x (by simp)) (by omega)
  | N + 1, l, hn, h => by
    by_cases hm : N ∈ l
    · have h1 := nodup_bound N (l.erase N) (hn.erase N) (fun x hx => by
        have h2 := h x (List.mem_of_mem_erase hx)
        have h3 : x ≠ N := by
          intro e
          subst e
          exact (hn.not_mem_erase) hx
        omega)
      have h4 := List.length_erase_of_mem hm
      omega
    · have h1 := nodup_bound N l hn (fun x hx => by
        have h2 := h x hx
        have h3 : x ≠ N := by rintro rfl; exact hm hx
        omega)
      omega
/-- The definitions that a definition's superiors are. -/
def succs (L : List DefS) (i : Nat) : List Nat := match L[i]? with
  | none => []
  | some d => d.sup.filterMap fun nm => findD L d.cls nm
theorem foldl_succs (f : Nat → List Nat → List Nat) (g : List UInt8 → Option Nat) : ∀ (s : List (List UInt8)) (acc : List Nat),
    s.foldl (fun l nm => match g nm with
      | none => l
      | some j => f j l) acc = (s.filterMap g).foldl (fun l j => f j l) acc
  | [], acc => rfl
  | x :: s, acc => by
    rw [List.foldl_cons, List.filterMap_cons]
    cases hg : g x with
    | none => exact foldl_succs f g s acc
    | some j => exact foldl_succs f g s _
theorem aboveF_succ (L : List DefS) (n i : Nat) (l : List Nat) : aboveF L (n + 1) i l = if l.contains i then l else (succs L i).foldl (fun l j => aboveF L n j l) (l ++ [i]) := by
  rw [aboveF]
  split
  · rfl
  · unfold succs
    cases L[i]? with
    | none => rfl
    | some d => exact foldl_succs (fun j l => aboveF L n j l) (fun nm => findD L d.cls nm) d.sup _
theorem findD_lt {L : List DefS} {c : Bool} {n : List UInt8} {j : Nat} (h : findD L c n = some j) : j < L.length := by
  unfold findD at h
  exact (List.findIdx?_eq_some_iff_getElem.1 h).1
theorem succs_lt {L : List DefS} {i j : Nat} (h : j ∈ succs L i) : j < L.length := by
  unfold succs at h
  split at h
  · simp at h
  · obtain ⟨n, _, hf⟩ := List.mem_filterMap.1 h
    exact findD_lt hf
inductive Reach (L : List DefS) : Nat → Nat → Prop
  | refl (i : Nat) : Reach L i i
  | step {i u j : Nat} (h : u ∈ succs L i) (t : Reach L u j) : Reach L i j
theorem Reach.trans {L : List DefS} {i j k : Nat} (h : Reach L i j) (t : Reach L j k) : Reach L i k := by
  induction h with
  | refl => exact t
  | step h _ ih => exact .step h (ih t)
theorem Reach.lt {L : List DefS} {i j : Nat} (h : Reach L i j) (hi : i < L.length) : j < L.length := by
  induction h with
  | refl => exact hi
  | step h _ ih => exact ih (succs_lt h)
structure AboveSays (L : List DefS) (i : Nat) (l R : List Nat) : Prop where
  grown : ∃ t, R = l ++ t
  nodup : R.Nodup
  lt : ∀ v ∈ R, v < L.length
  self : i ∈ R
  closed : ∀ v ∈ R, v ∉ l → ∀ u ∈ succs L v, u ∈ R
  reach : ∀ v ∈ R, v ∈ l ∨ Reach L i v
theorem aboveF_says (L : List DefS) : ∀ (n i : Nat) (l : List Nat), l.Nodup → (∀ v ∈ l, v < L.length) → i < L.length → L.length + 1 ≤ n + l.length → AboveSays L i l (aboveF L n i l)
  | 0, i, l, hn, hl, hi, hf => by
    have := nodup_bound _ l hn hl
    omega
  | n + 1, i, l, hn, hl, hi, hf => by
    rw [aboveF_succ]
    split
    · next hc =>
      have hm : i ∈ l := by simpa using hc
      exact ⟨⟨[], by simp⟩, hn, hl, hm, fun v hv hnv => absurd hv hnv, fun v hv => .inl hv⟩
    · next hc =>
      have hm : i ∉ l := by simpa using hc
      have hn1 : (l ++ [i]).Nodup := by
        rw [List.nodup_append]
        refine ⟨hn, by simp, ?_⟩
        intro a ha b hb
        have hb' : b = i := by simpa using hb
        subst hb'
        rintro rfl
        exact hm ha
      have key : ∀ (S : List Nat) (R : List Nat), (∀ j ∈ S, j ∈ succs L i) → (∃ t, R = l ++ [i] ++ t) → R.Nodup → (∀ v ∈ R, v < L.length) → (∀ v ∈ R, v ∉ l → v ≠ i → ∀ u ∈ succs L v, u ∈ R) → (∀ v ∈ R, v ∈ l ∨ Reach L i v) →
          (∃ t, S.foldl (fun l j => aboveF L n j l) R = R ++ t) ∧ (S.foldl (fun l j => aboveF L n j l) R).Nodup ∧ (∀ v ∈ S.foldl (fun l j => aboveF L n j l) R, v < L.length) ∧ (∀ j ∈ S, j ∈ S.foldl (fun l j => aboveF L n j l) R) ∧
          (∀ v ∈ S.foldl (fun l j => aboveF L n j l) R, v ∉ l → v ≠ i → ∀ u ∈ succs L v, u ∈ S.foldl (fun l j => aboveF L n j l) R) ∧ (∀ v ∈ S.foldl (fun l j => aboveF L n j l) R, v ∈ l ∨ Reach L i v) := by
        intro S
        induction S with
        | nil => intro R _ _ h2 h3 h4 h5; exact ⟨⟨[], by simp⟩, h2, h3, fun j hj => (by simp at hj), h4, h5⟩
        | cons j S ih =>
          intro R h0 h1 h2 h3 h4 h5
          obtain ⟨t1, ht1⟩ := h1
          have hj := h0 j (by simp)
          have hA := aboveF_says L n j R h2 h3 (succs_lt hj) (by rw [ht1]; simp only [List.length_append, List.length_cons, List.length_nil]; omega)
          obtain ⟨t2, ht2⟩ := hA.grown
          rw [List.foldl_cons]
          generalize aboveF L n j R = R2 at *
          have hsub : ∀ v ∈ R, v ∈ R2 := fun v hv => by rw [ht2]; exact List.mem_append_left _ hv
          obtain ⟨⟨t3, ht3⟩, g2, g3, g4, g5, g6⟩ := ih R2 (fun x hx => h0 x (by simp [hx])) ⟨t1 ++ t2, by rw [ht2, ht1]; simp⟩ hA.nodup hA.lt
            (fun v hv hvl hvi u hu => by
              by_cases hvR : v ∈ R
              · exact hsub u (h4 v hvR hvl hvi u hu)
              · exact hA.closed v hv hvR u hu)
            (fun v hv => by
              rcases hA.reach v hv with h | h
              · exact h5 v h
              · exact .inr (.step hj h))
          refine ⟨⟨t2 ++ t3, by rw [ht3, ht2]; simp⟩, g2, g3, ?_, g5, g6⟩
          intro x hx
          rcases List.mem_cons.1 hx with rfl | hx
          · rw [ht3]; exact List.mem_append_left _ hA.self
          · exact g4 x hx
      obtain ⟨⟨t, ht⟩, g2, g3, g4, g5, g6⟩ := key (succs L i) (l ++ [i]) (fun j hj => hj) ⟨[], by simp⟩ hn1
        (fun v hv => by
          rcases List.mem_append.1 hv with h | h
          · exact hl v h
          · have : v = i := by simpa using h
            omega)
        (fun v hv hvl hvi => absurd (List.mem_append.1 hv) (by simp [hvl, hvi]))
        (fun v hv => by
          rcases List.mem_append.1 hv with h | h
          · exact .inl h
          · have : v = i := by simpa using h
            subst this
            exact .inr (.refl _))
      refine ⟨⟨[i] ++ t, by rw [ht]; simp⟩, g2, g3, by rw [ht]; simp, ?_, g6⟩
      intro v hv hvl u hu
      by_cases hvi : v = i
      · subst hvi; exact g4 u hu
      · exact g5 v hv hvl hvi u hu
theorem aboveD_says (L : List DefS) (i : Nat) (hi : i < L.length) : AboveSays L i [] (aboveD L i []) := aboveF_says L _ i [] (by simp) (by simp) hi (by simp)
theorem reach_in {L : List DefS} {S : List Nat} (hc : ∀ v ∈ S, ∀ u ∈ succs L v, u ∈ S) {a j : Nat} (hr : Reach L a j) (ha : a ∈ S) : j ∈ S := by
  induction hr with
  | refl => exact ha
  | step hu _ ih => exact ih (hc _ ha _ hu)
theorem aboveD_iff {L : List DefS} {i : Nat} (hi : i < L.length) (j : Nat) : j ∈ aboveD L i [] ↔ Reach L i j := by
  have h := aboveD_says L i hi
  constructor
  · intro hj
    rcases h.reach j hj with h' | h'
    · simp at h'
    · exact h'
  · intro hr
    exact reach_in (fun v hv u hu => h.closed v hv (by simp) u hu) hr h.self
/-- No definition is above itself. -/
def Acyc (L : List DefS) : Prop := ∀ i j, i < L.length → Reach L i j → i ∉ succs L j
theorem acyc_of {L : List DefS} (h : ∀ i, i < L.length → loopsD L i = false) : Acyc L := by
  intro i j hi hr hs
  have hl := h i hi
  unfold loopsD at hl
  rw [List.any_eq_false] at hl
  have := hl j ((aboveD_iff hi j).2 hr)
  unfold succs at hs
  cases hL : L[j]? with
  | none => rw [hL] at hs; simp at hs
  | some d =>
    rw [hL] at this hs
    apply this
    obtain ⟨n, hn, hf⟩ := List.mem_filterMap.1 hs
    simp only [List.any_eq_true]
    exact ⟨n, hn, by simp [hf]⟩
theorem findD_at {L : List DefS} {c : Bool} {n : List UInt8} {j : Nat} (h : findD L c n = some j) : ∃ d, L[j]? = some d ∧ d.cls = c ∧ (c, smallL n) ∈ d.keys := by
  unfold findD at h
  obtain ⟨h1, h2, _⟩ := List.findIdx?_eq_some_iff_getElem.1 h
  refine ⟨L[j], List.getElem?_eq_getElem h1, ?_, by simpa using h2⟩
  have h3 : (c, smallL n) ∈ L[j].keys := by simpa using h2
  unfold DefS.keys at h3
  obtain ⟨_, _, e⟩ := List.mem_map.1 h3
  exact congrArg Prod.fst e
theorem countsF_some {L : List DefS} (hA : Acyc L) (hk : ∀ d ∈ L, d.cls = false → ∀ s ∈ d.sup, (findD L false s).isSome = true) : ∀ (n i : Nat) (l : List Nat), (∀ d, L[i]? = some d → d.cls = false) → l.Nodup → (∀ v ∈ l, v < L.length ∧ ∃ u, Reach L v u ∧ i ∈ succs L u) → i < L.length → L.length + 1 ≤ n + l.length → (countsF L n i).isSome = true
  | 0, i, l, _, hn, hl, hi, hf => by
    have := nodup_bound _ l hn (fun v hv => (hl v hv).1)
    omega
  | n + 1, i, l, hcl, hn, hl, hi, hf => by
    rw [countsF]
    have hLi : L[i]? = some L[i] := List.getElem?_eq_getElem hi
    rw [hLi]
    simp only
    have hcf : L[i].cls = false := hcl _ hLi
    split
    · rfl
    · next s rest hs =>
      have hk1 := hk L[i] (List.getElem_mem _) hcf s (by rw [hs]; simp)
      cases hfd : findD L false s with
      | none => rw [hfd] at hk1; cases hk1
      | some j =>
        simp only [Option.isSome_map]
        have hji : j ∈ succs L i := by
          unfold succs
          rw [hLi]
          exact List.mem_filterMap.2 ⟨s, by rw [hs]; simp, by rw [hcf]; exact hfd⟩
        have hil : i ∉ l := by
          intro hil
          obtain ⟨_, u, hr, hu⟩ := hl i hil
          exact hA i u hi hr hu
        refine countsF_some hA hk n j (l ++ [i]) ?_ ?_ ?_ (findD_lt hfd) (by simp only [List.length_append, List.length_cons, List.length_nil]; omega)
        · intro d hd
          obtain ⟨d', h1, h2, _⟩ := findD_at hfd
          rw [h1] at hd
          cases hd
          exact h2
        · rw [List.nodup_append]
          refine ⟨hn, by simp, ?_⟩
          intro a ha b hb
          have hb' : b = i := by simpa using hb
          subst hb'
          rintro rfl
          exact hil ha
        · intro v hv
          rcases List.mem_append.1 hv with hv | hv
          · obtain ⟨h1, u, hr, hu⟩ := hl v hv
            exact ⟨h1, i, hr.trans (.step hu (.refl _)), hji⟩
          · have : v = i := by simpa using hv
            subst this
            exact ⟨hi, v, .refl _, hji⟩
theorem countsD_some {L : List DefS} (hA : Acyc L) (hk : ∀ d ∈ L, d.cls = false → ∀ s ∈ d.sup, (findD L false s).isSome = true) {i : Nat} {d : DefS} (hd : L[i]? = some d) (hc : d.cls = false) : ∃ a, countsD L i = some a := by
  have hi : i < L.length := (List.getElem?_eq_some_iff.1 hd).1
  exact Option.isSome_iff_exists.1 (countsF_some hA hk (L.length + 1) i [] (fun d' h => by rw [hd] at h; cases h; exact hc) (by simp) (by simp) hi (by simp))
end Go.Proofs.YtcjobpcbppcdnaaGreatDoor
/- Plain: what New has read: each name once; what is asked of it (chapter 6). -/
namespace Go.Proofs.YtcjobpcbppcdnaaGreatDoor

theorem okPut_iff : ∀ (M ks : List (Bool × List UInt8)), okPut M ks = true ↔ ks.Nodup ∧ ∀ k ∈ ks, k ∉ M
  | M, [] => by simp [okPut]
  | M, k :: ks => by
    rw [okPut, Bool.and_eq_true, okPut_iff (M ++ [k]) ks, List.nodup_cons]
    simp only [Bool.not_eq_true', List.contains_eq_mem, decide_eq_false_iff_not, List.mem_append, List.mem_cons, List.not_mem_nil, or_false, not_or]
    constructor
    · rintro ⟨h1, h2, h3⟩
      refine ⟨⟨fun hk => (h3 k hk).2 rfl, h2⟩, fun x hx => ?_⟩
      rcases hx with rfl | hx
      · exact h1
      · exact (h3 x hx).1
    · rintro ⟨⟨h1, h2⟩, h3⟩
      exact ⟨h3 k (.inl rfl), h2, fun x hx => ⟨h3 x (.inr hx), fun e => h1 (e ▸ hx)⟩⟩
theorem readAll_keys : ∀ (na i : Nat) (xs : List (List UInt8)) (L L' : List DefS), (L.flatMap DefS.keys).Nodup → readAll na i xs L = .inr L' → (L'.flatMap DefS.keys).Nodup
  | na, i, [], L, L', h, e => by
    rw [readAll] at e
    cases e
    exact h
  | na, i, s :: xs, L, L', h, e => by
    rw [readAll] at e
    split at e
    · cases e
    · next d hd =>
      split at e
      · next hp =>
        refine readAll_keys na (i + 1) xs _ L' ?_ e
        rw [okPut_iff] at hp
        rw [List.flatMap_append, List.nodup_append]
        refine ⟨h, by simpa using hp.1, ?_⟩
        intro a ha b hb
        have hb' : b ∈ d.keys := by simpa using hb
        rintro rfl
        exact hp.2 a hb' ha
      · cases e
/-- Each name stands once: who has a name is the one who is found by it. -/
theorem findD_of {L : List DefS} (hN : (L.flatMap DefS.keys).Nodup) {x : Nat} {d : DefS} (hd : L[x]? = some d) {c : Bool} {n : List UInt8} (hk : (c, smallL n) ∈ d.keys) : findD L c n = some x := by
  have hx : x < L.length := (List.getElem?_eq_some_iff.1 hd).1
  have hdx : L[x] = d := (List.getElem?_eq_some_iff.1 hd).2
  unfold findD
  rw [List.findIdx?_eq_some_iff_getElem]
  refine ⟨hx, by rw [hdx]; simpa using hk, ?_⟩
  intro j hj
  have hjl : j < L.length := by omega
  rw [Bool.not_eq_true, ← Bool.not_eq_true']
  simp only [Bool.not_eq_true', List.contains_eq_mem, decide_eq_false_iff_not]
  intro hm
  have hsplit : L = L.take x ++ d :: L.drop (x + 1) := by
    rw [← hdx]
    simp
  rw [hsplit, List.flatMap_append, List.nodup_append] at hN
  have h1 : (c, smallL n) ∈ (L.take x).flatMap DefS.keys := by
    rw [List.mem_flatMap]
    refine ⟨L[j], ?_, hm⟩
    rw [List.mem_take_iff_getElem]
    exact ⟨j, by omega, rfl⟩
  have h2 : (c, smallL n) ∈ (d :: L.drop (x + 1)).flatMap DefS.keys := by
    rw [List.flatMap_cons]
    exact List.mem_append_left _ hk
  exact hN.2.2 _ h1 _ h2 rfl
theorem oid_key (d : DefS) : (d.cls, smallL d.oid) ∈ d.keys := by unfold DefS.keys; simp
theorem name_key (d : DefS) : (d.cls, smallL d.name) ∈ d.keys := by
  unfold DefS.keys DefS.name
  cases d.names with
  | nil => simp
  | cons n t => simp
structure NewSays (L : List DefS) : Prop where
  keys : (L.flatMap DefS.keys).Nodup
  known : ∀ d ∈ L, knownD L d = true
  acyc : Acyc L
  fits : ∀ i d, L[i]? = some d → fitsD L d i = true
  len : L.length ≤ 300
theorem readAll_len : ∀ (na i : Nat) (xs : List (List UInt8)) (L L' : List DefS), readAll na i xs L = .inr L' → L'.length = L.length + xs.length
  | na, i, [], L, L', e => by rw [readAll] at e; cases e; simp
  | na, i, s :: xs, L, L', e => by
    rw [readAll] at e
    split at e
    · cases e
    · split at e
      · have := readAll_len na (i + 1) xs _ L' e
        simp at this ⊢
        omega
      · cases e
theorem newL_says {attrs classes : List (List UInt8)} {L : List DefS} (h : newL attrs classes = .inr L) : NewSays L := by
  unfold newL at h
  split at h
  · cases h
  · next hl =>
    split at h
    · cases h
    · next L' hr =>
      split at h
      · cases h
      · next hk =>
        split at h
        · cases h
        · next hlo =>
          split at h
          · cases h
          · next hf =>
            cases h
            have hlen := readAll_len _ _ _ _ _ hr
            rw [List.findIdx?_eq_none_iff] at hk
            rw [List.find?_eq_none] at hlo hf
            refine ⟨readAll_keys _ _ _ [] _ (by simp) hr, fun d hd => by simpa using hk d hd, acyc_of (fun i hi => by simpa using hlo i (by simpa using hi)), ?_, by simp at hlen; omega⟩
            intro i d hd
            have hi : i < L.length := (List.getElem?_eq_some_iff.1 hd).1
            have := hf i (by simpa using hi)
            rw [hd] at this
            simpa using this
/-- Which definition has been asked for is told; is a above b? -/
def isSubD (L : List DefS) (a b : List UInt8) : Bool := match findD L false a with
  | none => false
  | some x => match findD L false b with
    | none => false
    | some y => (aboveD L x []).contains y
theorem NewSays.sup_known {L : List DefS} (h : NewSays L) : ∀ d ∈ L, ∀ s ∈ d.sup, (findD L d.cls s).isSome = true := by
  intro d hd s hs
  have := h.known d hd
  unfold knownD at this
  rw [Bool.and_eq_true, Bool.and_eq_true, List.all_eq_true] at this
  exact this.1.1 s hs
theorem NewSays.counts {L : List DefS} (h : NewSays L) {i : Nat} {d : DefS} (hd : L[i]? = some d) (hc : d.cls = false) : ∃ a, countsD L i = some a :=
  countsD_some h.acyc (fun d hd hc s hs => by rw [← hc]; exact h.sup_known d hd s hs) hd hc
theorem countsF_sup {L : List DefS} (n : Nat) {i : Nat} {d : DefS} {a : AttrS} (hd : L[i]? = some d) (h : countsF L n i = some a) :
    a.oid = d.oid ∧ a.name = d.name ∧ ((d.sup = [] ∧ a.sup = []) ∨ ∃ s t j u, d.sup = s :: t ∧ findD L false s = some j ∧ L[j]? = some u ∧ a.sup = u.name) := by
  cases n with
  | zero => rw [countsF] at h; cases h
  | succ n =>
    rw [countsF, hd] at h
    simp only at h
    split at h
    · next hs => cases h; exact ⟨rfl, rfl, .inl ⟨hs, rfl⟩⟩
    · next s t hs =>
      split at h
      · cases h
      · next j hj =>
        rw [Option.map_eq_some_iff] at h
        obtain ⟨up, hup, rfl⟩ := h
        obtain ⟨u, hu, _⟩ := findD_at hj
        refine ⟨rfl, rfl, .inr ⟨s, t, j, u, hs, hj, hu, ?_⟩⟩
        show up.name = u.name
        cases n with
        | zero => rw [countsF] at hup; cases hup
        | succ n =>
          rw [countsF, hu] at hup
          simp only at hup
          split at hup
          · cases hup; rfl
          · split at hup
            · cases hup
            · rw [Option.map_eq_some_iff] at hup
              obtain ⟨_, _, rfl⟩ := hup
              rfl
/-- SchemaOrder, plainly. -/
theorem order_law {L : List DefS} (h : NewSays L) {x : Nat} {d : DefS} {a : AttrS} (hd : L[x]? = some d) (hc : d.cls = false) (ha : countsD L x = some a) :
    isSubD L d.name d.name = true ∧ (a.sup ≠ [] → isSubD L d.name a.sup = true) ∧ isSubD L a.oid d.name = true ∧
    ∀ y e, L[y]? = some e → e.cls = false → (x ≠ y → ¬ (isSubD L d.name e.name = true ∧ isSubD L e.name d.name = true)) ∧ (a.sup ≠ [] → isSubD L a.sup e.name = true → isSubD L d.name e.name = true) := by
  have hx : x < L.length := (List.getElem?_eq_some_iff.1 hd).1
  have fn : ∀ y e, L[y]? = some e → e.cls = false → findD L false e.name = some y := fun y e he hce => findD_of h.keys he (by have := name_key e; rw [hce] at this; exact this)
  have fo : findD L false d.oid = some x := findD_of h.keys hd (by have := oid_key d; rw [hc] at this; exact this)
  have sub : ∀ p q n m, findD L false n = some p → findD L false m = some q → (isSubD L n m = true ↔ Reach L p q) := by
    intro p q n m hp hq
    unfold isSubD
    rw [hp]
    simp only
    rw [hq]
    simp only [List.contains_iff_mem]
    exact aboveD_iff (findD_lt hp) q
  obtain ⟨e1, e2, e3⟩ := countsF_sup _ hd ha
  have fx := fn x d hd hc
  refine ⟨(sub x x _ _ fx fx).2 (.refl _), ?_, ?_, ?_⟩
  · intro hs
    rcases e3 with ⟨_, e3⟩ | ⟨s, t, j, u, h1, h2, h3, h4⟩
    · exact absurd e3 hs
    · obtain ⟨u', hu', hcu, _⟩ := findD_at h2
      rw [h3] at hu'
      cases hu'
      have fj := fn j u h3 hcu
      rw [h4]
      refine (sub x j _ _ fx fj).2 (.step ?_ (.refl _))
      unfold succs
      rw [hd]
      exact List.mem_filterMap.2 ⟨s, by rw [h1]; simp, by rw [hc]; exact h2⟩
  · rw [e1]
    exact (sub x x _ _ fo fx).2 (.refl _)
  · intro y e he hce
    have fy := fn y e he hce
    constructor
    · rintro hxy ⟨h1, h2⟩
      have r1 := (sub x y _ _ fx fy).1 h1
      have r2 := (sub y x _ _ fy fx).1 h2
      -- the way back to x ends with a step
      have back : ∀ p, Reach L p x → p ≠ x → ∃ q, Reach L p q ∧ x ∈ succs L q := by
        intro p hp
        generalize hz : x = z at hp
        induction hp with
        | refl => intro hne; exact absurd rfl hne
        | @step i u j hu ht ih =>
          intro _
          by_cases huz : u = j
          · subst huz; exact ⟨i, .refl _, hu⟩
          · obtain ⟨q, hq1, hq2⟩ := ih hz huz
            exact ⟨q, .step hu hq1, hq2⟩
      obtain ⟨q, hq1, hq2⟩ := back y r2 (Ne.symm hxy)
      exact h.acyc x q hx (r1.trans hq1) hq2
    · intro hs h1
      rcases e3 with ⟨_, e3⟩ | ⟨s, t, j, u, g1, g2, g3, g4⟩
      · exact absurd e3 hs
      · obtain ⟨u', hu', hcu, _⟩ := findD_at g2
        rw [g3] at hu'
        cases hu'
        have fj := fn j u g3 hcu
        rw [g4] at h1
        refine (sub x y _ _ fx fy).2 (.step (u := j) ?_ ((sub j y _ _ fj fy).1 h1))
        unfold succs
        rw [hd]
        exact List.mem_filterMap.2 ⟨s, by rw [g1]; simp, by rw [hc]; exact g2⟩
end Go.Proofs.YtcjobpcbppcdnaaGreatDoor
/- A schema in memory. -/
namespace Go.Proofs.YtcjobpcbppcdnaaGreatDoor
open Go.RowKit

def ptrV (p : Nat) : Value := .pointer (some ⟨p, 0, none⟩)
def defCells (d : DefS) (vn vs vm vy : Value) : Array Value := #[.bool d.cls, .string ⟨d.oid.toArray⟩, vn, vs, vm, vy, .string ⟨d.form.toArray⟩, .string ⟨d.eqr.toArray⟩, .string ⟨d.ordr.toArray⟩, .string ⟨d.subs.toArray⟩, .bool d.single, .bool d.fixed, .bool d.oper, .int .i64 d.kind]
/-- A definition in memory. -/
def DefAt (w : World) (p : Nat) (d : DefS) : Prop := ∃ vn vs vm vy, Bk w p 78 (defCells d vn vs vm vy) ∧ Texts w vn d.names ∧ Texts w vs d.sup ∧ Texts w vm d.must ∧ Texts w vy d.may
theorem DefAt.mods {S : List Nat} {w w' : World} {p : Nat} {d : DefS} (h : DefAt w p d) (hm : Mods S w w') (hp : p ∉ S) (hS : NoText w S) : DefAt w' p d := by
  obtain ⟨vn, vs, vm, vy, h1, h2, h3, h4, h5⟩ := h
  exact ⟨vn, vs, vm, vy, hm.bk h1 hp, h2.mods hm hS, h3.mods hm hS, h4.mods hm hS, h5.mods hm hS⟩
theorem DefAt.below {w w' : World} {p : Nat} {d : DefS} (h : DefAt w p d) (hb : Below w.heap.size w w') : DefAt w' p d := h.mods (Mods.of_below hb []) (by simp) (fun g hg => by cases hg)
theorem DefAt.notext {w : World} {p : Nat} {d : DefS} (h : DefAt w p d) : NoText w [p] := by
  obtain ⟨vn, vs, vm, vy, h1, _⟩ := h
  intro g hg s
  have : g = p := by simpa using hg
  subst this
  rw [h1.cell 0]
  simp [defCells]
theorem DefAt.lt {w : World} {p : Nat} {d : DefS} (h : DefAt w p d) : p < w.heap.size := by
  obtain ⟨vn, vs, vm, vy, h1, _⟩ := h
  exact h1.lt
theorem NoText.app {w : World} {S S' : List Nat} (h : NoText w S) (h' : NoText w S') : NoText w (S ++ S') := by
  intro g hg s
  rcases List.mem_append.1 hg with h1 | h1
  · exact h g h1 s
  · exact h' g h1 s
def kvS (k : Bool × List UInt8) : Value := .agg #[.bool k.1, .string ⟨k.2.toArray⟩]
/-- What the map of a schema holds. -/
def keysR : List Nat → List DefS → List ((Bool × List UInt8) × Value)
  | p :: ps, d :: L => d.keys.map (fun k => (k, ptrV p)) ++ keysR ps L
  | _, _ => []
theorem look_map {κ : Type} [DecidableEq κ] (v : Value) (k : κ) : ∀ ks : List κ, look (ks.map fun x => (x, v)) k = if k ∈ ks then some v else none
  | [] => by simp [look]
  | x :: ks => by
    rw [List.map_cons, look, look_map v k ks]
    by_cases h : k = x
    · simp [h]
    · simp [h]
theorem look_keys : ∀ (ps : List Nat) (L : List DefS), ps.length = L.length → ∀ (c : Bool) (n : List UInt8), look (keysR ps L) (c, smallL n) = (findD L c n).map (fun j => ptrV (ps.getD j 0))
  | [], [], _, c, n => by simp [keysR, look, findD]
  | [], _ :: _, h, _, _ => by simp at h
  | _ :: _, [], h, _, _ => by simp at h
  | p :: ps, d :: L, h, c, n => by
    have ih := look_keys ps L (by simpa using h) c n
    rw [keysR, look_app, look_map, ih]
    unfold findD
    rw [List.findIdx?_cons]
    by_cases hd : (c, smallL n) ∈ d.keys
    · have : d.keys.contains (c, smallL n) = true := by simpa using hd
      rw [if_pos hd, if_pos this]
      rfl
    · have : ¬ d.keys.contains (c, smallL n) = true := by simpa using hd
      rw [if_neg hd, if_neg this, Option.map_map]
      simp only [Option.none_or]
      congr 1
theorem keysR_snoc : ∀ (ps : List Nat) (L : List DefS) (p : Nat) (d : DefS), ps.length = L.length → keysR (ps ++ [p]) (L ++ [d]) = keysR ps L ++ d.keys.map (fun k => (k, ptrV p))
  | [], [], p, d, _ => by simp [keysR]
  | [], _ :: _, _, _, h => by simp at h
  | _ :: _, [], _, _, h => by simp at h
  | q :: ps, e :: L, p, d, h => by
    rw [List.cons_append, List.cons_append, keysR, keysR, keysR_snoc ps L p d (by simpa using h), List.append_assoc]
theorem keysR_keys : ∀ (ps : List Nat) (L : List DefS), ps.length = L.length → (keysR ps L).map (·.1) = L.flatMap DefS.keys
  | [], [], _ => rfl
  | [], _ :: _, h => by simp at h
  | _ :: _, [], h => by simp at h
  | p :: ps, d :: L, h => by
    rw [keysR, List.map_append, keysR_keys ps L (by simpa using h), List.flatMap_cons, List.map_map]
    congr 1
    exact (List.map_congr_left (fun _ _ => rfl)).trans (List.map_id _)
/-- Pointers as they read. -/
def PtrsR (w : World) (v : Value) (ps : List Nat) : Prop := ∃ A c, v = .slice A ps.length c ∧ ps.length ≤ c ∧ (ps = [] ∨ ∃ g, A = some ⟨g, 0, none⟩ ∧ ∀ (j p : Nat), ps[j]? = some p → w.cell? ⟨g, j, none⟩ = some (ptrV p))
theorem PtrsR.mods {S : List Nat} {w w' : World} {v : Value} {ps : List Nat} (h : PtrsR w v ps) (hm : Mods S w w') (hS : ∀ g ∈ S, ∀ p, w.cell? ⟨g, 0, none⟩ ≠ some (ptrV p)) : PtrsR w' v ps := by
  obtain ⟨A, c, rfl, hc, h⟩ := h
  refine ⟨A, c, rfl, hc, ?_⟩
  cases ps with
  | nil => exact .inl rfl
  | cons q t =>
    rcases h with h | ⟨g, rfl, hx⟩
    · cases h
    · have hg : g ∉ S := fun hg => hS g hg q (hx 0 q rfl)
      exact .inr ⟨g, rfl, fun j p hj => hm.cell (hx j p hj) hg⟩
theorem PtrsR.below {w w' : World} {v : Value} {ps : List Nat} (h : PtrsR w v ps) (hb : Below w.heap.size w w') : PtrsR w' v ps := h.mods (Mods.of_below hb []) (fun g hg => by cases hg)
/-- A schema: its block, where its definitions lie, what they say. -/
structure SchAt (w : World) (s : Nat) (ps : List Nat) (L : List DefS) : Prop where
  head : ∃ lv m es c, Bk w s 53 #[lv, .map (some m)] ∧ PtrsR w lv ps ∧ w.heap[m]? = some (.map es c) ∧ MapR kvS es (keysR ps L)
  len : ps.length = L.length
  nodup : ps.Nodup
  defs : ∀ (i p : Nat) (d : DefS), ps[i]? = some p → L[i]? = some d → DefAt w p d
theorem SchAt.below {w w' : World} {s : Nat} {ps : List Nat} {L : List DefS} (h : SchAt w s ps L) (hb : Below w.heap.size w w') : SchAt w' s ps L := by
  obtain ⟨⟨lv, m, es, c, h1, h2, h3, h4⟩, h5, h6, h7⟩ := h
  exact ⟨⟨lv, m, es, c, h1.below hb, h2.below hb, (hb.block m (Array.getElem?_eq_some_iff.1 h3).1).trans h3, h4⟩, h5, h6, fun i p d hp hd => (h7 i p d hp hd).below hb⟩
end Go.Proofs.YtcjobpcbppcdnaaGreatDoor
/- Contracts: what is done at each field's word. (Printed by gen_mn.py.) -/
namespace Go.Proofs.YtcjobpcbppcdnaaGreatDoor
open Go.RowKit

theorem DefAt.bk {w : World} {p : Nat} {d : DefS} (h : DefAt w p d) : ∃ vn vs vm vy, Bk w p 78 (defCells d vn vs vm vy) := by
  obtain ⟨vn, vs, vm, vy, h1, _⟩ := h
  exact ⟨vn, vs, vm, vy, h1⟩
theorem DefAt.noword {w : World} {p : Nat} {d : DefS} (h : DefAt w p d) : NoWord w [p] := by
  obtain ⟨vn, vs, vm, vy, h1, _⟩ := h
  exact NoWord.of_bk h1 (by decide)
/-- A field's word has been read, or not. -/
def FieldRet (w : World) (r p : Nat) (o : Option (DefS × List Wd)) (e : Ending) (w' : World) : Prop := Mods [r, p] w w' ∧ match o with
  | none => e = .returned (.bool false)
  | some (d', l') => e = .returned (.bool true) ∧ RdW w' r l' ∧ DefAt w' p d'
theorem mods_r {r p : Nat} {w w' : World} (h : Mods [r] w w') : Mods [r, p] w w' := h.mono (by simp)
theorem DefAt.modr {w w' : World} {r p : Nat} {d : DefS} {l : List Wd} (h : DefAt w p d) (hr : RdW w r l) (hne : p ≠ r) (hm : Mods [r] w w') : DefAt w' p d := h.mods hm (by simpa using hne) hr.notext
theorem rd_set {w : World} {r p i : Nat} {d : DefS} {l : List Wd} (h : RdW w r l) (hd : DefAt w p d) (hne : p ≠ r) (v : Value) : RdW (w.setCell ⟨p, i, none⟩ v) r l :=
  h.mods ((Mods.refl [p] w).setCell (by simp) v) (by simpa using hne.symm) hd.noword
theorem texts_set {w : World} {p i : Nat} {d : DefS} {u : Value} {xs : List (List UInt8)} (h : Texts w u xs) (hd : DefAt w p d) (v : Value) : Texts (w.setCell ⟨p, i, none⟩ v) u xs :=
  h.mods ((Mods.refl [p] w).setCell (by simp) v) hd.notext
theorem mods_set {w w' : World} {r p i : Nat} (h : Mods [r, p] w w') (v : Value) : Mods [r, p] w (w'.setCell ⟨p, i, none⟩ v) := h.setCell (by simp) v
theorem set_oid {w : World} {p : Nat} {d : DefS} (hd : DefAt w p d) (x : List UInt8) : DefAt (w.setCell ⟨p, 1, none⟩ (.string ⟨x.toArray⟩)) p { d with oid := x } := by
  obtain ⟨vn, vs, vm, vy, h1, h2, h3, h4, h5⟩ := id hd
  exact ⟨vn, vs, vm, vy, by simpa [defCells] using h1.set 1 (.string ⟨x.toArray⟩), texts_set h2 hd _, texts_set h3 hd _, texts_set h4 hd _, texts_set h5 hd _⟩
theorem set_names {w : World} {p : Nat} {d : DefS} (hd : DefAt w p d) {v : Value} {x : List (List UInt8)} (hx : Texts w v x) : DefAt (w.setCell ⟨p, 2, none⟩ v) p { d with names := x } := by
  obtain ⟨vn, vs, vm, vy, h1, h2, h3, h4, h5⟩ := id hd
  exact ⟨v, vs, vm, vy, by simpa [defCells] using h1.set 2 v, texts_set hx hd v, texts_set h3 hd v, texts_set h4 hd v, texts_set h5 hd v⟩
theorem set_sup {w : World} {p : Nat} {d : DefS} (hd : DefAt w p d) {v : Value} {x : List (List UInt8)} (hx : Texts w v x) : DefAt (w.setCell ⟨p, 3, none⟩ v) p { d with sup := x } := by
  obtain ⟨vn, vs, vm, vy, h1, h2, h3, h4, h5⟩ := id hd
  exact ⟨vn, v, vm, vy, by simpa [defCells] using h1.set 3 v, texts_set h2 hd v, texts_set hx hd v, texts_set h4 hd v, texts_set h5 hd v⟩
theorem set_must {w : World} {p : Nat} {d : DefS} (hd : DefAt w p d) {v : Value} {x : List (List UInt8)} (hx : Texts w v x) : DefAt (w.setCell ⟨p, 4, none⟩ v) p { d with must := x } := by
  obtain ⟨vn, vs, vm, vy, h1, h2, h3, h4, h5⟩ := id hd
  exact ⟨vn, vs, v, vy, by simpa [defCells] using h1.set 4 v, texts_set h2 hd v, texts_set h3 hd v, texts_set hx hd v, texts_set h5 hd v⟩
theorem set_may {w : World} {p : Nat} {d : DefS} (hd : DefAt w p d) {v : Value} {x : List (List UInt8)} (hx : Texts w v x) : DefAt (w.setCell ⟨p, 5, none⟩ v) p { d with may := x } := by
  obtain ⟨vn, vs, vm, vy, h1, h2, h3, h4, h5⟩ := id hd
  exact ⟨vn, vs, vm, v, by simpa [defCells] using h1.set 5 v, texts_set h2 hd v, texts_set h3 hd v, texts_set h4 hd v, texts_set hx hd v⟩
theorem set_form {w : World} {p : Nat} {d : DefS} (hd : DefAt w p d) (x : List UInt8) : DefAt (w.setCell ⟨p, 6, none⟩ (.string ⟨x.toArray⟩)) p { d with form := x } := by
  obtain ⟨vn, vs, vm, vy, h1, h2, h3, h4, h5⟩ := id hd
  exact ⟨vn, vs, vm, vy, by simpa [defCells] using h1.set 6 (.string ⟨x.toArray⟩), texts_set h2 hd _, texts_set h3 hd _, texts_set h4 hd _, texts_set h5 hd _⟩
theorem set_eqr {w : World} {p : Nat} {d : DefS} (hd : DefAt w p d) (x : List UInt8) : DefAt (w.setCell ⟨p, 7, none⟩ (.string ⟨x.toArray⟩)) p { d with eqr := x } := by
  obtain ⟨vn, vs, vm, vy, h1, h2, h3, h4, h5⟩ := id hd
  exact ⟨vn, vs, vm, vy, by simpa [defCells] using h1.set 7 (.string ⟨x.toArray⟩), texts_set h2 hd _, texts_set h3 hd _, texts_set h4 hd _, texts_set h5 hd _⟩
theorem set_ordr {w : World} {p : Nat} {d : DefS} (hd : DefAt w p d) (x : List UInt8) : DefAt (w.setCell ⟨p, 8, none⟩ (.string ⟨x.toArray⟩)) p { d with ordr := x } := by
  obtain ⟨vn, vs, vm, vy, h1, h2, h3, h4, h5⟩ := id hd
  exact ⟨vn, vs, vm, vy, by simpa [defCells] using h1.set 8 (.string ⟨x.toArray⟩), texts_set h2 hd _, texts_set h3 hd _, texts_set h4 hd _, texts_set h5 hd _⟩
theorem set_subs {w : World} {p : Nat} {d : DefS} (hd : DefAt w p d) (x : List UInt8) : DefAt (w.setCell ⟨p, 9, none⟩ (.string ⟨x.toArray⟩)) p { d with subs := x } := by
  obtain ⟨vn, vs, vm, vy, h1, h2, h3, h4, h5⟩ := id hd
  exact ⟨vn, vs, vm, vy, by simpa [defCells] using h1.set 9 (.string ⟨x.toArray⟩), texts_set h2 hd _, texts_set h3 hd _, texts_set h4 hd _, texts_set h5 hd _⟩
theorem set_single {w : World} {p : Nat} {d : DefS} (hd : DefAt w p d) (x : Bool) : DefAt (w.setCell ⟨p, 10, none⟩ (.bool x)) p { d with single := x } := by
  obtain ⟨vn, vs, vm, vy, h1, h2, h3, h4, h5⟩ := id hd
  exact ⟨vn, vs, vm, vy, by simpa [defCells] using h1.set 10 (.bool x), texts_set h2 hd _, texts_set h3 hd _, texts_set h4 hd _, texts_set h5 hd _⟩
theorem set_fixed {w : World} {p : Nat} {d : DefS} (hd : DefAt w p d) (x : Bool) : DefAt (w.setCell ⟨p, 11, none⟩ (.bool x)) p { d with fixed := x } := by
  obtain ⟨vn, vs, vm, vy, h1, h2, h3, h4, h5⟩ := id hd
  exact ⟨vn, vs, vm, vy, by simpa [defCells] using h1.set 11 (.bool x), texts_set h2 hd _, texts_set h3 hd _, texts_set h4 hd _, texts_set h5 hd _⟩
theorem set_oper {w : World} {p : Nat} {d : DefS} (hd : DefAt w p d) (x : Bool) : DefAt (w.setCell ⟨p, 12, none⟩ (.bool x)) p { d with oper := x } := by
  obtain ⟨vn, vs, vm, vy, h1, h2, h3, h4, h5⟩ := id hd
  exact ⟨vn, vs, vm, vy, by simpa [defCells] using h1.set 12 (.bool x), texts_set h2 hd _, texts_set h3 hd _, texts_set h4 hd _, texts_set h5 hd _⟩
theorem set_kind {w : World} {p : Nat} {d : DefS} (hd : DefAt w p d) (x : Int) : DefAt (w.setCell ⟨p, 13, none⟩ (.int .i64 x)) p { d with kind := x } := by
  obtain ⟨vn, vs, vm, vy, h1, h2, h3, h4, h5⟩ := id hd
  exact ⟨vn, vs, vm, vy, by simpa [defCells] using h1.set 13 (.int .i64 x), texts_set h2 hd _, texts_set h3 hd _, texts_set h4 hd _, texts_set h5 hd _⟩

/-- A list of names, put where it belongs. -/
def ToRet (w : World) (r p i : Nat) (o : Option (List (List UInt8) × List Wd)) (e : Ending) (w' : World) : Prop := ∃ w1 v, Mods [r] w w1 ∧ w' = w1.setCell ⟨p, i, none⟩ v ∧ match o with
  | none => e = .returned (.bool false)
  | some (xs, l') => e = .returned (.bool true) ∧ Texts w1 v xs ∧ RdW w1 r l'
theorem list_w (f : FuncId) (one : List Wd → Option (List UInt8 × List Wd)) (sign : List UInt8) (hsg : sign = [] ∨ sign = [36]) (r : Nat) (l : List Wd) (w : World) (hw : Env w) (hO : Off r) (hone : OneOK f r one) (h : RdW w r l) (hs : Shorts l) (hl : l.length ≤ 1000000) :
    Calls Tryz.prog 89 #[.pointer (some ⟨r, 0, none⟩), .string ⟨sign.toArray⟩, .func (.func f) #[.pointer (some ⟨r, 0, none⟩)] #[]] w
      fun e w' => ∃ A n c, e = .returned (.tuple #[.slice A n c, .bool (rList sign one l).isSome]) ∧ Mods [r] w w' ∧ ∀ xs l', rList sign one l = some (xs, l') → Texts w' (.slice A n c) xs ∧ RdW w' r l' := by
  refine (list_c f one sign hsg r l w hw hO hone h hs hl).mono ?_
  intro e w' hL
  cases ho : rList sign one l with
  | none =>
    rw [ho] at hL
    obtain ⟨rfl, hm⟩ := hL
    exact ⟨none, 0, 0, rfl, hm, fun _ _ h => by cases h⟩
  | some x =>
    rw [ho] at hL
    obtain ⟨v, rfl, ht, hr, hm⟩ := hL
    obtain ⟨A, n, c, rfl⟩ := ht.isSlice
    exact ⟨A, n, c, rfl, hm, fun _ _ h => by cases h; exact ⟨ht, hr⟩⟩
set_option maxRecDepth 100000 in
set_option maxHeartbeats 1000000 in
theorem listTo_c (b1 b2 r p i : Nat) (l : List Wd) (d : DefS) (v0 : Value) (w : World) (hw : Env w) (hO : Off r) (h1 : w.cell? ⟨b1, 0, none⟩ = some (ptrV r)) (h2 : w.cell? ⟨b2, 0, none⟩ = some (.pointer (some ⟨p, i, none⟩))) (hb : b2 ≠ r) (hp : p ≠ r)
    (hd : DefAt w p d) (hv : w.cell? ⟨p, i, none⟩ = some v0) (hR : RdW w r l) (hs : Shorts l) (hl : l.length ≤ 1000000) :
    Calls Tryz.prog 88 #[ptrV b1, ptrV b2] w (ToRet w r p i (rList [36] rName l)) := by
  have HL := Lib.hid (list_w 90 rName [36] (.inr rfl) r l w hw hO (oneName r hO) hR hs hl)
  have h1' : w.cell? ⟨b1, 0, none⟩ = some (.pointer (some ⟨r, 0, none⟩)) := h1
  have HF := Lib.hid (show ∀ w1, Mods [r] w w1 → w1.frozen? ⟨p, i, none⟩ = false from fun w1 hm => by
    obtain ⟨vn, vs, vm, vy, hB, _⟩ := hd
    exact (hm.bk hB (by simpa using hp)).frozen i)
  have hb' : b2 ∉ [r] := by simpa using hb
  have hp' : p ∉ [r] := by simpa using hp
  have hmf : ∀ (fn : Fn) (first cap : Array Value) (w : World), (Instr.makeFunc fn first cap).run Tryz.prog w = .ok (.func fn first cap) w := fun _ _ _ _ => rfl
  clear h1 hR hd
  unfold ptrV
  go_enter Tryz.func88, Tryz.ntmps88
  go_wp2_with (go_at_call 89; refine HL.out.mono ?_; rintro e w1 ⟨A, n, c, rfl, hm, hx⟩; have c2 := hm.cell h2 hb'; have c3 := hm.cell hv hp'; have c4 := HF.out _ hm; have HX := Lib.hid hx; clear hx)
  go_ret
  refine ⟨w1, .slice A n c, hm, rfl, ?_⟩
  cases ho : rList [36] rName l with
  | none => rfl
  | some x => exact ⟨rfl, HX.out _ _ ho⟩

theorem list_set {w w' : World} {r p i : Nat} {l : List Wd} {d : DefS} {o : Option (List (List UInt8) × List Wd)} {e : Ending} (hd : DefAt w p d) (hR : RdW w r l) (hp : p ≠ r) (h : ToRet w r p i o e w')
    (F : List (List UInt8) → DefS) (hF : ∀ w1 v xs, DefAt w1 p d → Texts w1 v xs → DefAt (w1.setCell ⟨p, i, none⟩ v) p (F xs)) : FieldRet w r p (o.map fun x => (F x.1, x.2)) e w' := by
  obtain ⟨w1, v, hm, rfl, ho⟩ := h
  have hd1 := hd.modr hR hp hm
  refine ⟨mods_set (mods_r hm) v, ?_⟩
  cases o with
  | none => exact ho
  | some x => exact ⟨ho.1, rd_set ho.2.2 hd1 hp v, hF w1 v x.1 hd1 ho.2.1⟩
set_option maxRecDepth 100000 in
set_option maxHeartbeats 1000000 in
theorem doName_c (b1 b2 r p : Nat) (l : List Wd) (d : DefS) (w : World) (hw : Env w) (hO : Off r) (h1 : w.cell? ⟨b1, 0, none⟩ = some (ptrV r)) (h2 : w.cell? ⟨b2, 0, none⟩ = some (ptrV p)) (hb : b2 ≠ r) (hp : p ≠ r)
    (hd : DefAt w p d) (hR : RdW w r l) (hs : Shorts l) (hl : l.length ≤ 1000000) :
    Calls Tryz.prog 91 #[ptrV b1, ptrV b2] w (FieldRet w r p ((rList [] rQuoted l).map fun x => ({ d with names := x.1 }, x.2))) := by
  refine Calls.mono (R := ToRet w r p 2 (rList [] rQuoted l)) ?_ (fun e w' h => list_set hd hR hp h (fun xs => { d with names := xs }) (fun w1 v xs h1 h2 => set_names h1 h2))
  have HL := Lib.hid (list_w 92 rQuoted [] (.inl rfl) r l w hw hO (oneQuoted r) hR hs hl)
  have h1' : w.cell? ⟨b1, 0, none⟩ = some (.pointer (some ⟨r, 0, none⟩)) := h1
  have h2' : w.cell? ⟨b2, 0, none⟩ = some (.pointer (some ⟨p, 0, none⟩)) := h2
  have HF := Lib.hid (show ∀ w1, Mods [r] w w1 → w1.frozen? ⟨p, 2, none⟩ = false ∧ ∃ v, w1.cell? ⟨p, 2, none⟩ = some v from fun w1 hm => by
    obtain ⟨vn, vs, vm, vy, hB, _⟩ := hd
    have hB1 := hm.bk hB (by simpa using hp)
    exact ⟨hB1.frozen 2, vn, (hB1.cell 2).trans rfl⟩)
  have hb' : b2 ∉ [r] := by simpa using hb
  have hmf : ∀ (fn : Fn) (first cap : Array Value) (w : World), (Instr.makeFunc fn first cap).run Tryz.prog w = .ok (.func fn first cap) w := fun _ _ _ _ => rfl
  clear h1 h2 hR hd
  unfold ptrV
  go_enter Tryz.func91, Tryz.ntmps91
  go_wp2_with (go_at_call 89; refine HL.out.mono ?_; rintro e w1 ⟨A, n, c, rfl, hm, hx⟩; have c2 := hm.cell h2' hb'; obtain ⟨c4, v3, c3⟩ := HF.out _ hm; have HX := Lib.hid hx; clear hx)
  go_ret
  refine ⟨w1, .slice A n c, hm, rfl, ?_⟩
  cases ho : rList [] rQuoted l with
  | none => rfl
  | some x => exact ⟨rfl, HX.out _ _ ho⟩
/-- What a word's reader hands back, in one form. -/
theorem one_w (f : FuncId) (one : List Wd → Option (List UInt8 × List Wd)) (r : Nat) (l : List Wd) (w : World) (h : Calls Tryz.prog f #[.pointer (some ⟨r, 0, none⟩)] w (OneRet w r (one l))) :
    Calls Tryz.prog f #[.pointer (some ⟨r, 0, none⟩)] w fun e w' => ∃ s : List UInt8, e = .returned (.tuple #[.string ⟨s.toArray⟩, .bool (one l).isSome]) ∧ Mods [r] w w' ∧ (∀ x, one l = some x → s = x.1 ∧ RdW w' r x.2) := by
  refine h.mono ?_
  intro e w' hL
  cases ho : one l with
  | none =>
    rw [ho] at hL
    obtain ⟨s, rfl, hm⟩ := hL
    exact ⟨s, rfl, hm, fun _ h => by cases h⟩
  | some x =>
    rw [ho] at hL
    obtain ⟨rfl, hr, hm⟩ := hL
    exact ⟨_, rfl, hm, fun _ h => by cases h; exact ⟨rfl, hr⟩⟩
set_option maxRecDepth 100000 in
set_option maxHeartbeats 1000000 in
theorem doDesc_c (b1 r p : Nat) (l : List Wd) (d : DefS) (w : World) (h1 : w.cell? ⟨b1, 0, none⟩ = some (ptrV r)) (hp : p ≠ r) (hd : DefAt w p d) (hR : RdW w r l) :
    Calls Tryz.prog 93 #[ptrV b1] w (FieldRet w r p ((rQuoted l).map fun x => (d, x.2))) := by
  have HL := Lib.hid (one_w 92 rQuoted r l w (quoted_w r l w hR))
  have h1' : w.cell? ⟨b1, 0, none⟩ = some (.pointer (some ⟨r, 0, none⟩)) := h1
  have HD := Lib.hid (fun w1 (hm : Mods [r] w w1) => hd.modr hR hp hm)
  clear h1 hR hd
  unfold ptrV
  go_enter Tryz.func93, Tryz.ntmps93
  go_wp2_with (go_at_call 92; refine HL.out.mono ?_; rintro e w1 ⟨s, rfl, hm, hx⟩; have HX := Lib.hid hx; clear hx)
  go_ret
  refine ⟨mods_r hm, ?_⟩
  cases ho : rQuoted l with
  | none => rfl
  | some x => exact ⟨rfl, (HX.out _ ho).2, HD.out _ hm⟩
theorem texts_one (w : World) (c : List UInt8) : Texts (w.alloc (.cells #[.string ⟨c.toArray⟩] 9)) (.slice (some ⟨w.heap.size, 0, none⟩) 1 1) [c] := (Strs.made1 w c).texts
set_option maxRecDepth 100000 in
set_option maxHeartbeats 1000000 in
theorem doSup_c (b1 b2 r p : Nat) (l : List Wd) (d : DefS) (w : World) (hw : Env w) (hO : Off r) (h1 : w.cell? ⟨b1, 0, none⟩ = some (ptrV r)) (h2 : w.cell? ⟨b2, 0, none⟩ = some (ptrV p)) (hb : b2 ≠ r) (hp : p ≠ r)
    (hd : DefAt w p d) (hR : RdW w r l) (hs : Shorts l) :
    Calls Tryz.prog 94 #[ptrV b1, ptrV b2] w (FieldRet w r p ((rName l).map fun x => ({ d with sup := [x.1] }, x.2))) := by
  have HL := Lib.hid (one_w 90 rName r l w (name_w r l w hw hO hR hs))
  have h1' : w.cell? ⟨b1, 0, none⟩ = some (.pointer (some ⟨r, 0, none⟩)) := h1
  have h2' : w.cell? ⟨b2, 0, none⟩ = some (.pointer (some ⟨p, 0, none⟩)) := h2
  have HD := Lib.hid (fun w1 (hm : Mods [r] w w1) => hd.modr hR hp hm)
  have HF := Lib.hid (show ∀ w1, Mods [r] w w1 → w1.frozen? ⟨p, 3, none⟩ = false ∧ p < w1.heap.size ∧ ∃ v, w1.cell? ⟨p, 3, none⟩ = some v from fun w1 hm => by
    obtain ⟨vn, vs, vm, vy, hB, _⟩ := hd
    have hB1 := hm.bk hB (by simpa using hp)
    exact ⟨hB1.frozen 3, hB1.lt, vs, (hB1.cell 3).trans rfl⟩)
  have hb' : b2 ∉ [r] := by simpa using hb
  clear h1 h2 hR hd
  unfold ptrV
  go_enter Tryz.func94, Tryz.ntmps94
  go_wp2_with (go_at_call 90; refine HL.out.mono ?_; rintro e w1 ⟨s, rfl, hm, hx⟩; have c2 := hm.cell h2' hb'; obtain ⟨c4, hplt, v3, c3⟩ := HF.out _ hm; have HX := Lib.hid hx; clear hx)
  go_ret
  have hd1 := HD.out _ hm
  have hb1 : Below w1.heap.size w1 (w1.alloc (.cells #[.string ⟨s.toArray⟩] 9)) := (Below.refl _ _).alloc (Nat.le_refl _) _
  have hd2 := hd1.below hb1
  rw [← World.setCell_alloc_past _ _ _ _ hplt]
  refine ⟨mods_set (mods_r (hm.alloc _)) _, ?_⟩
  cases ho : rName l with
  | none => rfl
  | some x =>
    obtain ⟨rfl, hr⟩ := HX.out _ ho
    exact ⟨rfl, rd_set (hr.below hb1) hd2 hp _, set_sup hd2 (texts_one w1 _)⟩
set_option maxRecDepth 100000 in
set_option maxHeartbeats 1000000 in
theorem doFlag_c (b1 r p i : Nat) (l : List Wd) (d d' : DefS) (v0 : Bool) (w : World) (h1 : w.cell? ⟨b1, 0, none⟩ = some (.pointer (some ⟨p, i, none⟩))) (hp : p ≠ r) (hd : DefAt w p d) (hR : RdW w r l)
    (hv : w.cell? ⟨p, i, none⟩ = some (.bool v0)) (hs : DefAt (w.setCell ⟨p, i, none⟩ (.bool true)) p d') :
    Calls Tryz.prog 136 #[ptrV b1] w (FieldRet w r p (some (d', l))) := by
  have hf : w.frozen? ⟨p, i, none⟩ = false := by
    obtain ⟨vn, vs, vm, vy, hB⟩ := hd.bk
    exact hB.frozen i
  have HR := Lib.hid (rd_set (i := i) hR hd hp (.bool true))
  have HS := Lib.hid hs
  clear hs hd hR
  unfold ptrV
  go_enter Tryz.func136, Tryz.ntmps136
  go_wp2_with fail
  go_ret
  exact ⟨mods_set (Mods.refl _ _) _, rfl, HR.out, HS.out⟩
end Go.Proofs.YtcjobpcbppcdnaaGreatDoor
