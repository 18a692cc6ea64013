import Derived.Test.YtconnibnpckadaaGreatDoorWvb4
import Derived.Lib.TrimAscii
set_option linter.all false
set_option maxHeartbeats 8000000
set_option maxRecDepth 100000
namespace Go.Proofs.YtconnibnpckadaaGreatDoor
open Go.RowKit Go.Sort
abbrev RowT := List UInt8 × Int × List (List UInt8) × NormFn
def applyN : NormFn → List UInt8 → Option (List UInt8)
 | .self, v => some v
 | .text fold, v => prepL v fold
 | .name, v => nameN v
 | .oid, v => some (smallL v)
def normS (x : RowT) (v : List UInt8) : Option (List UInt8) := if decide (v.length ≤ 1024) && x.2.2.1.any (fun f => validL f v) then applyN x.2.2.2 v else none
theorem RowAt.any {w W : World} {b : Nat} {x : RowT} {v : List UInt8} (h : RowAt w b x) (hfl : x.2.2.1.length ≤ 2) (hw : Env w) (hW : W = w.alloc (.cells #[.string ⟨v.toArray⟩] 9)) {fA : Option Addr} {fN fC : Nat} (hT : Texts w (.slice fA fN fC) x.2.2.1) :
  Calls Tryz.prog 43 #[.slice fA fN fC, .func (.func 163) #[] #[.pointer (some ⟨w.heap.size, 0, none⟩)]] W fun e w' => e = .returned (.bool (x.2.2.1.any (fun f => validL f v))) ∧ Below W.heap.size W w' := by
 subst hW
 have hb := (Below.refl w.heap.size w).alloc (Nat.le_refl _) (.cells #[.string ⟨v.toArray⟩] 9)
 have hc := Bk.new w 9 #[.string ⟨v.toArray⟩]
 exact forms_any x.2.2.1 _ _ (hT.below hb) (by omega) w.heap.size (fun f => validL f v) (fun f _ W' hB => normal1_c f v w.heap.size W' ((hw.keep hb).keep hB) ((hc.below hB).cell 0))
open Go.RowKit Go.Sort
theorem findT_mem {n : List UInt8} {k : Int} {x : RowT} : ∀ {T : List RowT}, findT n k T = some x → x ∈ T
 | [], h => by cases h
 | y :: T, h => by
  rw [findT] at h
  split at h
  ·cases h; simp
  ·simp [findT_mem h]
theorem ruleT_mem {n : List UInt8} {x : RowT} (h : ruleT n = some x) : x ∈ tab := by
 unfold ruleT at h
 rw [Option.or_eq_some_iff] at h
 rcases h with h | ⟨_, h⟩
 ·exact findT_mem h
 ·rw [Option.or_eq_some_iff] at h
  rcases h with h | ⟨_, h⟩
  ·exact findT_mem h
  ·exact findT_mem h
open Go.RowKit
def VR (r : Int) : Prop := (0 ≤ r ∧ r < 55296) ∨ (57344 ≤ r ∧ r ≤ 1114111)
theorem VR_of {r : Int} (h : Lib.validRune r = true) : VR r := by
 unfold Lib.validRune at h; simp at h; unfold VR; omega
theorem enc_cases {r : Int} (h : VR r) :
  (0 ≤ r ∧ r < 128 ∧ encR r = [UInt8.ofNat r.toNat]) ∨
  (128 ≤ r ∧ r < 2048 ∧ encR r = [UInt8.ofNat (192 + r.toNat / 64), UInt8.ofNat (128 + r.toNat % 64)]) ∨
  (2048 ≤ r ∧ r < 65536 ∧ encR r = [UInt8.ofNat (224 + r.toNat / 4096), UInt8.ofNat (128 + r.toNat / 64 % 64), UInt8.ofNat (128 + r.toNat % 64)]) ∨
  (65536 ≤ r ∧ r ≤ 1114111 ∧ encR r = [UInt8.ofNat (240 + r.toNat / 262144), UInt8.ofNat (128 + r.toNat / 4096 % 64), UInt8.ofNat (128 + r.toNat / 64 % 64), UInt8.ofNat (128 + r.toNat % 64)]) := by
 have hv : Utf8.valid r = true := by unfold VR at h; unfold Utf8.valid; simp; omega
 unfold encR Utf8.encode
 rw [hv]
 simp only [if_true]
 by_cases h1 : r.toNat < 128
 ·left; refine ⟨by unfold VR at h; omega, by omega, ?_⟩; rw [if_pos h1]
 ·rw [if_neg h1]
  right
  by_cases h2 : r.toNat < 2048
  ·left; refine ⟨by omega, by omega, ?_⟩; rw [if_pos h2]
  ·rw [if_neg h2]
   right
   by_cases h3 : r.toNat < 65536
   ·left; refine ⟨by omega, by omega, ?_⟩; rw [if_pos h3]
   ·rw [if_neg h3]
    right
    refine ⟨by omega, by unfold VR at h; omega, rfl⟩
theorem ofN {n : Nat} (h : n < 256) : (UInt8.ofNat n).toNat = n := by simp; omega
/-! ### what becomes of characters -/
def stepR (fold : Bool) (acc : List Int) (r : Int) : Option (List Int) :=
 if (mapR r).2.2 then none
 else if !(mapR r).2.1 then some acc
 else if (mapR r).1 = 32 ∧ acc.getLast? = some 32 then some acc
 else some (acc ++ [if fold then foldR (mapR r).1 else (mapR r).1])
def mapRR (fold : Bool) : List Int → List Int → Option (List Int)
 | [], acc => some acc
 | r :: rs, acc => (stepR fold acc r).bind (mapRR fold rs)
open Go.RowKit
theorem dropW_id {α : Type} [BEq α] [LawfulBEq α] (c : α) : ∀ l : List α, l.head? ≠ some c → l.dropWhile (· == c) = l
 | [], _ => rfl
 | x :: l, h => by
  have : (x == c) = false := by rw [beq_eq_false_iff_ne]; intro e; apply h; simp [e]
  rw [List.dropWhile_cons, this]; simp
theorem map_some (f g : Bool) : ∀ (rs acc acc' : List Int), (mapRR f rs acc).isSome = (mapRR g rs acc').isSome
 | [], _, _ => rfl
 | r :: rs, acc, acc' => by
  rw [mapRR, mapRR]
  have hs : ∀ (f : Bool) (acc : List Int), (mapR r).2.2 = false → ∃ a, stepR f acc r = some a := by
   intro f acc h
   unfold stepR
   rw [h]
   simp only [Bool.false_eq_true, if_false]
   split
   ·exact ⟨_, rfl⟩
   ·split
    ·exact ⟨_, rfl⟩
    ·exact ⟨_, rfl⟩
  cases h : (mapR r).2.2
  ·obtain ⟨a, ha⟩ := hs f acc h
   obtain ⟨b, hb⟩ := hs g acc' h
   rw [ha, hb]
   exact map_some f g rs a b
  ·have : ∀ (f : Bool) (acc : List Int), stepR f acc r = none := by intro f acc; unfold stepR; rw [h]; rfl
   rw [this, this]; rfl
open Go.RowKit Go.Sort
open Go.RowKit Go.Sort
def spl (d : UInt8) : List UInt8 → List (List UInt8)
 | [] => [[]]
 | c :: t => if c = d then [] :: spl d t else match spl d t with
  | [] => [[c]]
  | x :: r => (c :: x) :: r
theorem spl_ne (d : UInt8) : ∀ l, spl d l ≠ []
 | [] => by simp [spl]
 | c :: t => by
  rw [spl]
  split
  ·simp
  ·split <;> simp
theorem splitK_cons (c d : UInt8) (h : c ≠ d) (t : List UInt8) : ∀ k, ∃ x r, Lib.splitK [d] 0 k t = x :: r ∧ Lib.splitK [d] 0 k (c :: t) = (c :: x) :: r
 | 0 => ⟨t, [], rfl, rfl⟩
 | k + 1 => by
  have hp : ([d] : List UInt8).isPrefixOf (c :: t) = false := by simp [List.isPrefixOf, Ne.symm h]
  have hix : Lib.index (c :: t) [d] = if Lib.index t [d] == -1 then -1 else Lib.index t [d] + 1 := by rw [Lib.index, hp]; simp
  rw [Lib.splitK, Lib.splitK, hix]
  by_cases hm : (Lib.index t [d] == -1) = true
  ·rw [if_pos hm, if_pos hm]; exact ⟨t, [], rfl, rfl⟩
  ·rw [if_neg hm, if_neg hm]
   have hge := Lib.index_ge t [d]
   have hm' : Lib.index t [d] ≠ -1 := by simpa using hm
   obtain ⟨j, hj⟩ : ∃ j : Nat, Lib.index t [d] = j := ⟨(Lib.index t [d]).toNat, by omega⟩
   rw [hj, if_neg (by simp; omega)]
   refine ⟨_, _, rfl, ?_⟩
   rw [show ((j : Int) + 1).toNat = j + 1 by omega]
   simp
theorem splitK_spl (d : UInt8) : ∀ l : List UInt8, Lib.splitK [d] 0 (l.count d) l = spl d l
 | [] => rfl
 | c :: t => by
  have ih := splitK_spl d t
  by_cases h : c = d
  ·subst h
   rw [List.count_cons_self, Lib.splitK, spl, if_pos rfl]
   have hix : Lib.index (c :: t) [c] = ((0 : Nat) : Int) := by rw [Lib.index]; simp [List.isPrefixOf]
   rw [hix]
   simp only [List.length_singleton, Int.toNat_natCast]
   rw [if_neg (by decide)]
   simp [ih]
  ·rw [List.count_cons_of_ne (by simpa using h)]
   obtain ⟨x, r, e1, e2⟩ := splitK_cons c d h t (t.count d)
   rw [e2, spl, if_neg h, ← ih, e1]
theorem segs_spl (l : List UInt8) : segs l = spl 46 l := by
 unfold segs
 rw [Lib.splitB_data]
 have : Lib.countB ⟨l.toArray⟩ ⟨#[46]⟩ = l.count 46 := by
  show Lib.count l [46] = _
  exact Lib.count_one 46 l
 rw [this]
 exact splitK_spl 46 l
theorem spl_mem (d : UInt8) : ∀ (l : List UInt8) (c : UInt8), c ∈ l → c = d ∨ ∃ s ∈ spl d l, c ∈ s
 | [], c, h => by simp at h
 | x :: t, c, h => by
  rw [spl]
  rw [List.mem_cons] at h
  by_cases hx : x = d
  ·rw [if_pos hx]
   rcases h with rfl | h
   ·exact .inl hx
   ·rcases spl_mem d t c h with h1 | ⟨s, h1, h2⟩
    ·exact .inl h1
    ·exact .inr ⟨s, by simp [h1], h2⟩
  ·rw [if_neg hx]
   have hne := spl_ne d t
   cases hs : spl d t with
   | nil => exact absurd hs hne
   | cons y r =>
    simp only
    rcases h with rfl | h
    ·exact .inr ⟨_, List.mem_cons_self .., by simp⟩
    ·rcases spl_mem d t c h with h1 | ⟨s, h1, h2⟩
     ·exact .inl h1
     ·rw [hs, List.mem_cons] at h1
      rcases h1 with rfl | h1
      ·exact .inr ⟨_, List.mem_cons_self .., by simp [h2]⟩
      ·exact .inr ⟨s, by simp [h1], h2⟩
theorem isOid_all {l : List UInt8} (h : isOidL l = true) : ∀ c ∈ l, c = 46 ∨ isDig c = true := by
 intro c hc
 unfold isOidL at h
 rw [segs_spl, Bool.and_eq_true] at h
 rcases spl_mem 46 l c hc with h1 | ⟨s, h1, h2⟩
 ·exact .inl h1
 ·right
  have := List.all_eq_true.1 h.1 s h1
  unfold segOk at this
  rw [Bool.and_eq_true] at this
  exact List.all_eq_true.1 this.2 c h2
theorem dig_inTy {c : UInt8} (h : c = 46 ∨ isDig c = true) : inTy c = true ∧ lowB c = c := by
 unfold inTy inTypeB digB lowB
 rcases h with rfl | h
 ·decide
 ·unfold isDig at h
  simp at h
  refine ⟨?_, by rw [if_neg (by omega)]⟩
  have h1 : decide ((48 : Int) ≤ (c.toNat : Int)) = true := by simp; omega
  have h2 : decide ((c.toNat : Int) ≤ 57) = true := by simp; omega
  rw [h1, h2]; simp
theorem type_ne {t : List UInt8} (h : isTypeL t = true) : t ≠ [] := by rintro rfl; simp [isTypeL] at h
theorem type_all {t : List UInt8} (h : isTypeL t = true) : ∀ c ∈ t, inTy c = true := by
 cases t with
 | nil => simp
 | cons c m =>
  unfold isTypeL at h
  rw [Bool.and_eq_true] at h
  intro x hx
  by_cases hl : letB c.toNat = true
  ·rw [if_pos hl] at h
   have := List.all_eq_true.1 h.2 x hx
   unfold typeCh at this
   rw [Bool.and_eq_true] at this
   exact this.1
  ·rw [if_neg hl] at h
   exact (dig_inTy (isOid_all h.2 x hx)).1
open Go.RowKit Go.Sort
def Stop (r : List UInt8) : Prop := ∀ x t, r = x :: t → x = 43 ∨ x = 44
theorem idx_mem (l : List UInt8) (c : UInt8) : 0 ≤ Lib.indexByte l c ↔ c ∈ l := by
 have := Lib.contains_iff_indexByte l c
 rw [Bool.eq_iff_iff] at this
 simpa using this.symm
theorem u8_nat (c : UInt8) (n : Nat) (h : n < 256) : ((c.toNat : Int) = (n : Int)) ↔ c = UInt8.ofNat n := by
 rw [← UInt8.toNat_inj, ofN h]; omega
def wrT (n : Nat) : Nat → List UInt8 → List UInt8
 | _, [] => []
 | p, c :: t => wrB n p c ++ wrT n (p + 1) t
theorem wrL_T (v : List UInt8) : ∀ (k p : Nat), p + k = v.length → wrL v v.length = wrL v p ++ wrT v.length p (v.drop p)
 | 0, p, h => by
  obtain rfl : p = v.length := by omega
  rw [List.drop_length]; simp [wrT]
 | k + 1, p, h => by
  have hp : p < v.length := by omega
  rw [wrL_T v k (p + 1) (by omega), wrL_at v p hp _ rfl, List.drop_eq_getElem_cons hp, wrT, List.append_assoc]
theorem written_T (v : List UInt8) (hv : Lib.validD v = true) : writtenL v = wrT v.length 0 v := by
 unfold writtenL
 rw [if_pos hv, wrL_T v v.length 0 (by omega)]
 simp [wrL]
theorem val_read (v : List UInt8) (r : List UInt8) (hr : Stop r) : ∀ (u acc : List UInt8) (long n : Nat), v = acc ++ u → long ≤ acc.length → (u = [] → long = acc.length) → (wrT v.length acc.length u ++ r).length ≤ n →
  valL n (wrT v.length acc.length u ++ r) acc long = some (v, r)
 | [], acc, long, n, hv, hl, he, hn => by
  simp only [List.append_nil] at hv
  subst hv
  rw [wrT, List.nil_append, he rfl]
  cases r with
  | nil => rw [valL]; simp
  | cons x t =>
   rw [wrT, List.nil_append] at hn
   cases n with
   | zero => simp at hn
   | succ n =>
    rw [valL, if_pos]
    ·simp
    ·rcases hr x t rfl with h | h
     ·right; rw [h]; rfl
     ·left; rw [h]; rfl
 | c :: u, acc, long, n, hv, hl, he, hn => by
  have ih := fun long' n' h1 h2 h3 => val_read v r hr u (acc ++ [c]) long' n' (by rw [hv]; simp) h1 h2 h3
  rw [wrT, List.append_assoc] at hn ⊢
  have hlen : (acc ++ [c]).length = acc.length + 1 := by simp
  rw [hlen] at ih
  have hlast : u = [] → acc.length = v.length - 1 := by rintro rfl; rw [hv]; simp
  generalize hw : wrT v.length (acc.length + 1) u ++ r = R at *
  unfold wrB at hn ⊢
  by_cases h0 : c = 0
  ·subst h0
   rw [if_pos (by decide)] at hn ⊢
   simp only [List.cons_append, List.nil_append, List.length_cons] at hn ⊢
   obtain ⟨m, rfl⟩ : ∃ m, n = m + 1 := ⟨n - 1, by omega⟩
   rw [valL, if_neg (by decide), if_pos (by decide)]
   have : escR (48 :: 48 :: R) = some (0, R) := by
    rw [escR, if_neg (by decide), esc2, if_neg (by decide)]; rfl
   rw [this]
   exact ih _ _ (by omega) (fun _ => rfl) (by omega)
  ·have h0' : ¬ (((c.toNat : Int) == 0) = true) := by
    simp only [beq_iff_eq]; intro e; apply h0; have := (u8_nat c 0 (by omega)).1 e; exact this
   rw [if_neg h0'] at hn ⊢
   by_cases hE : escB v.length acc.length c = true
   ·rw [if_pos hE] at hn ⊢
    simp only [List.cons_append, List.nil_append, List.length_cons] at hn ⊢
    obtain ⟨m, rfl⟩ : ∃ m, n = m + 1 := ⟨n - 1, by omega⟩
    rw [valL, if_neg (by decide), if_pos (by decide)]
    have hmem : c ∈ escCs := by
     unfold escB at hE
     simp only [Bool.or_eq_true, Bool.and_eq_true, decide_eq_true_eq, beq_iff_eq] at hE
     rcases hE with (h | ⟨_, h | h⟩) | ⟨_, h⟩
     ·have := (idx_mem _ _).1 h
      have hsub : ∀ x ∈ specCs, x ∈ escCs := by decide
      exact hsub c this
     ·rw [(u8_nat c 35 (by omega)).1 h]; decide
     ·rw [(u8_nat c 32 (by omega)).1 h]; decide
     ·rw [(u8_nat c 32 (by omega)).1 h]; decide
    have : escR (c :: R) = some (c, R) := by rw [escR, if_pos ((idx_mem _ _).2 hmem)]
    rw [this]
    exact ih _ _ (by omega) (fun _ => rfl) (by omega)
   ·rw [if_neg hE] at hn ⊢
    have hns : c ∉ specCs := by
     intro h; apply hE; unfold escB; simp [(idx_mem _ _).2 h]
    simp only [List.cons_append, List.nil_append, List.length_cons] at hn ⊢
    obtain ⟨m, rfl⟩ : ∃ m, n = m + 1 := ⟨n - 1, by omega⟩
    have k44 : ¬ ((c.toNat : Int) = 44) := fun e => hns (by rw [(u8_nat c 44 (by omega)).1 e]; decide)
    have k43 : ¬ ((c.toNat : Int) = 43) := fun e => hns (by rw [(u8_nat c 43 (by omega)).1 e]; decide)
    have k92 : ¬ ((c.toNat : Int) = 92) := fun e => hns (by rw [(u8_nat c 92 (by omega)).1 e]; decide)
    rw [valL, if_neg (by rintro (h | h); exact k44 h; exact k43 h), if_neg k92, if_neg]
    ·refine ih _ _ ?_ ?_ (by omega)
     ·split <;> omega
     ·intro hu
      rw [if_neg]
      intro h32
      apply hE
      have := hlast hu
      unfold escB
      have hp : 0 < v.length := by rw [hv]; simp; omega
      have e1 : ((acc.length : Int) == (v.length : Int) - 1) = true := by rw [beq_iff_eq]; omega
      have e2 : ((c.toNat : Int) == 32) = true := by rw [beq_iff_eq]; exact h32
      rw [e1, e2]; simp
    ·rintro (h | h)
     ·exact h0' (by rw [beq_iff_eq]; exact h)
     ·exact hns ((idx_mem _ _).1 h)
theorem digit_hex : ∀ n : Fin 16, digitV (hexD n.val).toNat = (n.val : Int) ∧ isHex (hexD n.val) = true := by decide
theorem unhex_hex : ∀ v : List UInt8, unhexL (hexL v) = some v
 | [] => rfl
 | c :: t => by
  have h1 := (digit_hex ⟨c.toNat / 16, by have := UInt8.toNat_lt c; omega⟩).1
  have h2 := (digit_hex ⟨c.toNat % 16, by omega⟩).1
  simp only at h1 h2
  have : hexL (c :: t) = hexD (c.toNat / 16) :: hexD (c.toNat % 16) :: hexL t := by simp [hexL]
  rw [this, unhexL, h1, h2, if_neg (by omega), unhex_hex t]
  simp only [Option.map_some]
  congr 2
  unfold hexByte
  apply UInt8.toNat_inj.1
  have := UInt8.toNat_lt c
  rw [ofN (by omega)]
  omega
theorem hex_all (v : List UInt8) : ∀ c ∈ hexL v, isHex c = true := by
 intro c hc
 unfold hexL at hc
 rw [List.mem_flatMap] at hc
 obtain ⟨x, _, h⟩ := hc
 simp only [List.mem_cons, List.not_mem_nil, or_false] at h
 rcases h with rfl | rfl
 ·exact (digit_hex ⟨x.toNat / 16, by have := UInt8.toNat_lt x; omega⟩).2
 ·exact (digit_hex ⟨x.toNat % 16, by omega⟩).2
theorem takeW_app {p : UInt8 → Bool} : ∀ (l r : List UInt8), (∀ c ∈ l, p c = true) → (∀ x t, r = x :: t → p x = false) → (l ++ r).takeWhile p = l ∧ (l ++ r).dropWhile p = r
 | [], r, _, h => by
  cases r with
  | nil => simp
  | cons x t => simp [h x t rfl]
 | c :: l, r, h1, h2 => by
  have ih := takeW_app l r (fun x hx => h1 x (by simp [hx])) h2
  have hc := h1 c (by simp)
  simp [hc, ih.1, ih.2]
theorem wr_head (v : List UInt8) (r : List UInt8) (hr : Stop r) : ∀ x t, writtenL v ++ r = x :: t → x ≠ 32 ∧ (Lib.validD v = true → x ≠ 35) := by
 intro x t h
 cases hv : Lib.validD v
 ·unfold writtenL at h
  rw [hv] at h
  simp only [Bool.false_eq_true, if_false, List.cons_append, List.cons.injEq] at h
  rw [← h.1]; exact ⟨by decide, by simp⟩
 ·rw [written_T v hv] at h
  cases v with
  | nil =>
   rw [wrT, List.nil_append] at h
   rcases hr x t h with rfl | rfl <;> exact ⟨by decide, fun _ => by decide⟩
  | cons c u =>
   rw [wrT, List.append_assoc] at h
   unfold wrB at h
   split at h
   ·simp at h; rw [← h.1]; exact ⟨by decide, fun _ => by decide⟩
   ·split at h
    ·simp at h; rw [← h.1]; exact ⟨by decide, fun _ => by decide⟩
    ·next hE =>
     simp only [List.cons_append, List.nil_append, List.cons.injEq] at h
     obtain ⟨rfl, _⟩ := h
     refine ⟨?_, fun _ => ?_⟩
     ·rintro rfl; apply hE; unfold escB; simp
     ·rintro rfl; apply hE; unfold escB; simp
theorem invalid_ne {v : List UInt8} (h : Lib.validD v = false) : v ≠ [] := by rintro rfl; simp [Lib.validD_nil] at h
theorem value_read (v r : List UInt8) (hr : Stop r) : valueR (writtenL v ++ r) = some (v, r) := by
 unfold valueR
 cases hv : Lib.validD v
 ·have e : writtenL v = 35 :: hexL v := by unfold writtenL; rw [hv]; rfl
  rw [e, if_pos (by simp [hd])]
  simp only [List.cons_append, List.tail_cons]
  unfold hexR
  have := takeW_app (p := isHex) (hexL v) r (hex_all v) (fun x t h => by rcases hr x t h with rfl | rfl <;> decide)
  rw [this.1, this.2, unhex_hex]
  simp [invalid_ne hv]
 ·rw [if_neg]
  ·rw [written_T v hv]
   exact val_read v r hr v [] 0 _ (by simp) (by simp) (by simp) (by simp)
  ·intro h
   cases hw : writtenL v ++ r with
   | nil => rw [hw] at h; simp [hd] at h
   | cons x t =>
    rw [hw] at h
    simp only [hd, beq_iff_eq] at h
    exact (wr_head v r hr x t hw).2 hv ((u8_nat x 35 (by omega)).1 h)
theorem blk_id (l : List UInt8) (h : ∀ x t, l = x :: t → x ≠ 32) : blk l = l := by
 unfold blk
 apply dropW_id
 cases l with
 | nil => simp
 | cons x t => simp; exact h x t rfl
theorem Stop.blk {r : List UInt8} (h : Stop r) : blk r = r := blk_id r (fun x t e => by rcases h x t e with rfl | rfl <;> decide)
theorem pair_read (x : List UInt8 × List UInt8) (r : List UInt8) (ht : isTypeL x.1 = true) (hr : Stop r) : pairR (pairW x ++ r) = some (x, r) := by
 obtain ⟨t, v⟩ := x
 simp only at ht
 unfold pairW pairR
 simp only [List.append_assoc, List.cons_append, List.nil_append]
 have hall := type_all ht
 have hb : blk (t ++ 61 :: (writtenL v ++ r)) = t ++ 61 :: (writtenL v ++ r) := by
  apply blk_id
  intro c u e
  cases t with
  | nil => exact absurd rfl (type_ne ht)
  | cons y m =>
   simp only [List.cons_append, List.cons.injEq] at e
   rw [← e.1]
   have := hall y (by simp)
   rintro rfl
   exact absurd this (by decide)
 have htw := takeW_app (p := inTy) t (61 :: (writtenL v ++ r)) hall (fun x u e => by simp at e; rw [← e.1]; decide)
 rw [hb]
 unfold typR
 rw [htw.1, htw.2, if_pos ht]
 simp only
 have h61 : blk (61 :: (writtenL v ++ r)) = 61 :: (writtenL v ++ r) := blk_id _ (fun x u e => by simp at e; rw [← e.1]; decide)
 rw [h61, if_pos (by simp [hd])]
 simp only [List.tail_cons]
 rw [blk_id (writtenL v ++ r) (fun y u e => (wr_head v r hr y u e).1), value_read v r hr]
 simp only
 rw [hr.blk]
theorem Stop.cons43 (r : List UInt8) : Stop (43 :: r) := fun x t h => by simp at h; exact .inl h.1.symm
def Stop4 (r : List UInt8) : Prop := ∀ x t, r = x :: t → x = 44
theorem Stop4.stop {r : List UInt8} (h : Stop4 r) : Stop r := fun x t e => .inr (h x t e)
theorem hd_no (r : List UInt8) (n : Nat) (hn : n < 256) (h : ∀ x t, r = x :: t → x ≠ UInt8.ofNat n) : hd r (n : Int) = false := by
 cases r with
 | nil => rfl
 | cons x t =>
  simp only [hd]
  rw [beq_eq_false_iff_ne]
  intro e
  exact h x t rfl ((u8_nat x n hn).1 e)
theorem join_two (x y : List UInt8) (t : List (List UInt8)) (s : List UInt8) : Lib.join (x :: y :: t) s = x ++ s ++ Lib.join (y :: t) s := by
 simp [Lib.join, List.intercalate]
theorem join_one' (x : List UInt8) (s : List UInt8) : Lib.join [x] s = x := by simp [Lib.join, List.intercalate]
def tailW : List (List UInt8 × List UInt8) → List UInt8
 | [] => []
 | y :: t => 43 :: (pairW y ++ tailW t)
theorem partW_cons (x : List UInt8 × List UInt8) : ∀ t, partW (x :: t) = pairW x ++ tailW t
 | [] => by simp [partW, tailW, join_one']
 | y :: t => by
  have ih := partW_cons y t
  unfold partW at *
  simp only [List.map_cons] at *
  rw [join_two, ih]; simp [tailW]
theorem tailW_stop (t : List (List UInt8 × List UInt8)) (r : List UInt8) (h : Stop4 r) : Stop (tailW t ++ r) := by
 cases t with
 | nil => exact h.stop
 | cons y t => exact Stop.cons43 _
theorem part_tail (r : List UInt8) (hr : Stop4 r) : ∀ (t : List (List UInt8 × List UInt8)) (acc : List (List UInt8 × List UInt8)) (n : Nat), (∀ x ∈ t, isTypeL x.1 = true) → (tailW t ++ r).length ≤ n → partL n (tailW t ++ r) acc = some (acc ++ t, r)
 | [], acc, n, _, _ => by
  have h43 : hd r 43 = false := hd_no r 43 (by omega) (fun x t e => by rw [hr x t e]; decide)
  cases n <;> simp [partL, tailW, h43]
 | y :: t, acc, n, ht, hn => by
  simp only [tailW, List.cons_append, List.append_assoc, List.length_cons] at hn ⊢
  obtain ⟨m, rfl⟩ : ∃ m, n = m + 1 := ⟨n - 1, by omega⟩
  rw [partL, if_pos (by simp [hd])]
  simp only [List.tail_cons]
  rw [pair_read y (tailW t ++ r) (ht y (by simp)) (tailW_stop t r hr)]
  simp only
  rw [part_tail r hr t (acc ++ [y]) m (fun x hx => ht x (by simp [hx])) (by simp at hn ⊢; omega)]
  simp
theorem part_read (p : List (List UInt8 × List UInt8)) (hp : p ≠ []) (ht : ∀ x ∈ p, isTypeL x.1 = true) (r : List UInt8) (hr : Stop4 r) : partR (partW p ++ r) = some (p, r) := by
 cases p with
 | nil => exact absurd rfl hp
 | cons x t =>
  rw [partW_cons, List.append_assoc]
  unfold partR
  rw [pair_read x (tailW t ++ r) (ht x (by simp)) (tailW_stop t r hr)]
  simp only
  rw [part_tail r hr t [x] _ (fun y hy => ht y (by simp [hy])) (Nat.le_refl _)]
  simp
def tailN : List (List (List UInt8 × List UInt8)) → List UInt8
 | [] => []
 | p :: t => 44 :: (partW p ++ tailN t)
theorem nameW_cons (p : List (List UInt8 × List UInt8)) : ∀ t, nameW (p :: t) = partW p ++ tailN t
 | [] => by simp [nameW, tailN, join_one']
 | y :: t => by
  have ih := nameW_cons y t
  unfold nameW at *
  simp only [List.map_cons] at *
  rw [join_two, ih]; simp [tailN]
theorem tailN_stop (t : List (List (List UInt8 × List UInt8))) : Stop4 (tailN t) := by
 cases t with
 | nil => intro x t h; cases h
 | cons y t => intro x u h; simp [tailN] at h; exact h.1.symm
theorem name_tail : ∀ (t : List (List (List UInt8 × List UInt8))) (acc : List (List (List UInt8 × List UInt8))) (n : Nat), (∀ p ∈ t, p ≠ [] ∧ ∀ x ∈ p, isTypeL x.1 = true) → (tailN t).length ≤ n → nameL n (tailN t) acc = some (acc ++ t, [])
 | [], acc, n, _, _ => by cases n <;> simp [nameL, tailN, hd]
 | p :: t, acc, n, ht, hn => by
  simp only [tailN, List.length_cons] at hn ⊢
  obtain ⟨m, rfl⟩ : ∃ m, n = m + 1 := ⟨n - 1, by omega⟩
  rw [nameL, if_pos (by simp [hd])]
  simp only [List.tail_cons]
  rw [part_read p (ht p (by simp)).1 (ht p (by simp)).2 (tailN t) (tailN_stop t)]
  simp only
  rw [name_tail t (acc ++ [p]) m (fun x hx => ht x (by simp [hx])) (by simp at hn ⊢; omega)]
  simp
theorem pairW_ne (x : List UInt8 × List UInt8) : pairW x ≠ [] := by simp [pairW]
theorem name_read (d : List (List (List UInt8 × List UInt8))) (h : ∀ p ∈ d, p ≠ [] ∧ ∀ x ∈ p, isTypeL x.1 = true) : nameR (nameW d) = some d := by
 cases d with
 | nil => rfl
 | cons p t =>
  rw [nameW_cons]
  unfold nameR
  have hne : partW p ++ tailN t ≠ [] := by
   have hp := (h p (by simp)).1
   cases p with
   | nil => exact absurd rfl hp
   | cons x u => rw [partW_cons]; simp [pairW_ne]
  rw [if_neg hne, part_read p (h p (by simp)).1 (h p (by simp)).2 (tailN t) (tailN_stop t)]
  simp only [nameGo]
  rw [name_tail t [p] _ (fun x hx => h x (by simp [hx])) (Nat.le_refl _)]
  simp [nameFin]
theorem parse_print {d : List (List (List UInt8 × List UInt8))} (h : (printL d).1 = 0) : parseL (printL d).2 = (0, d) := by
 unfold printL at h ⊢
 split at h
 ·simp at h
 ·next hb =>
  split at h
  ·simp at h
  ·next htl =>
   unfold printFin at h
   split at h
   ·simp at h
   ·next hl =>
    rw [if_neg hb, if_neg htl]
    unfold printFin
    rw [if_neg hl]
    simp only
    unfold parseL
    rw [if_neg hl, name_read d, ]
    ·simp only; rw [if_neg htl]
    ·intro p hp
     have hb' : d.any partBad = false := by simpa using hb
     have := List.any_eq_false.1 hb' p hp
     unfold partBad at this
     simp only [Bool.or_eq_true, not_or] at this
     refine ⟨by intro e; apply this.1; rw [e]; rfl, fun x hx => ?_⟩
     have h2 : p.any avaBadB = false := by simpa using this.2
     have h3 := List.any_eq_false.1 h2 x hx
     unfold avaBadB at h3
     simpa using h3
open Go.RowKit Go.Sort
def normE (r v : List UInt8) : Int × List UInt8 := match askT (smallL r) 0 with
 | none => (41, [])
 | some x => match normS x v with
  | none => (40, [])
  | some m => (0, m)
def normTy (L : List DefS) (t v : List UInt8) : Int × List UInt8 := match findD L false t with
 | none => (52, [])
 | some i => match countsD L i with
  | none => (52, [])
  | some a => if validL a.form v then (if a.eqr == [] then (0, v) else normE a.eqr v) else (40, [])
def nameTy (L : List DefS) (t : List UInt8) : List UInt8 := match findD L false t with
 | none => []
 | some i => nameOf L i
def mapK {α β : Type} (f : α → Int × β) : List α → Int × List β
 | [] => (0, [])
 | x :: t => if (f x).1 ≠ 0 then ((f x).1, []) else (if (mapK f t).1 ≠ 0 then ((mapK f t).1, []) else (0, (f x).2 :: (mapK f t).2))
def avaK (L : List DefS) (x : List UInt8 × List UInt8) : Int × (List UInt8 × List UInt8) := ((normTy L x.1 x.2).1, (smallL (nameTy L x.1), (normTy L x.1 x.2).2))
def partK (L : List DefS) (p : List (List UInt8 × List UInt8)) : Int × List (List UInt8 × List UInt8) := ((mapK (avaK L) p).1, partN (mapK (avaK L) p).2)
def keyS (L : List DefS) (s : List UInt8) : Int × List UInt8 :=
 if (parseL s).1 ≠ 0 then ((parseL s).1, [])
 else if (mapK (partK L) (parseL s).2).1 ≠ 0 then ((mapK (partK L) (parseL s).2).1, [])
 else printL (mapK (partK L) (parseL s).2).2
end Go.Proofs.YtconnibnpckadaaGreatDoor
