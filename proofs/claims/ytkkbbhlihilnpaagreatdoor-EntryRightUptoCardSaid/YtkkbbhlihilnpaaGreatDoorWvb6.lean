import Derived.Test.YtkkbbhlihilnpaaGreatDoorWvb5
import Derived.Lib.TrimAscii
set_option linter.all false
set_option maxHeartbeats 8000000
namespace Go.Proofs.YtkkbbhlihilnpaaGreatDoor
open Go.RowKit Go.Sort
theorem findT_mem {n : List UInt8} {k : Int} {x : RowT} : ∀ {T : List RowT}, findT n k T = some x → x ∈ T
 | [], h => by cases h
 | y :: T, h => by
  rw [findT] at h
  split at h
  ·cases h; simp
  ·simp [findT_mem h]
theorem ruleT_mem {n : List UInt8} {x : RowT} (h : ruleT n = some x) : x ∈ tab := by
 unfold ruleT at h
 rw [Option.or_eq_some_iff] at h
 rcases h with h | ⟨_, h⟩
 ·exact findT_mem h
 ·rw [Option.or_eq_some_iff] at h
  rcases h with h | ⟨_, h⟩
  ·exact findT_mem h
  ·exact findT_mem h
theorem askT_mem {n : List UInt8} {k : Int} {x : RowT} (h : askT n k = some x) : x ∈ tab := ruleT_mem (Option.filter_eq_some_iff.1 h).1
theorem tab_forms : ∀ x ∈ tab, x.2.2.1.length ≤ 2 := by decide
theorem askT_forms {n : List UInt8} {k : Int} {x : RowT} (h : askT n k = some x) : x.2.2.1.length ≤ 2 := tab_forms x (askT_mem h)
def normV (rule v : List UInt8) : Value := match askT (smallL rule) 0 with
 | none => .tuple #[.string ⟨#[]⟩, .int .i64 41]
 | some x => strOr 40 (normS x v)
set_option maxRecDepth 100000 in
theorem Norm_c (rule v : List UInt8) (w : World) (hw : Env w) (hl : rule.length ≤ 140737488351232) :
  Calls Tryz.prog 41 #[.string ⟨rule.toArray⟩, .string ⟨v.toArray⟩] w fun e w' => e = .returned (normV rule v) ∧ Below w.heap.size w w' := by
 have hc := asked_c rule 0 w hl
 cases ha : askT (smallL rule) 0 with
 | none =>
  rw [ha] at hc
  rw [show normV rule v = .tuple #[.string ⟨#[]⟩, .int .i64 41] by unfold normV; rw [ha]]
  clear ha
  go_enter Tryz.func41, Tryz.ntmps41
  go_wp2_with (go_at_call 83; refine hc.mono ?_; rintro e w1 ⟨hb, rfl⟩)
  go_ret2
  exact ⟨rfl, hb⟩
 | some x =>
  have hfl := askT_forms ha
  rw [ha] at hc
  have HN := Lib.hid (fun b W (hW : Env W) hR => normal_c x b v W hW hR hfl)
  rw [show normV rule v = strOr 40 (normS x v) by unfold normV; rw [ha]]
  clear ha
  generalize normS x v = o at *
  cases o
  ·simp only [strOr]
   go_enter Tryz.func41, Tryz.ntmps41
   go_wp2_with (first | (go_at_call 83; refine hc.mono ?_; rintro e w1 ⟨hb, b, rfl, hbb, hrow⟩) | (go_at_call 84; refine (HN.out _ _ (hw.keep hb) hrow).mono ?_; rintro e w2 ⟨rfl, hb2⟩; simp only [strOr]))
   go_ret2
   exact ⟨rfl, hb.trans (hb2.mono hb.size)⟩
  ·simp only [strOr]
   go_enter Tryz.func41, Tryz.ntmps41
   go_wp2_with (first | (go_at_call 83; refine hc.mono ?_; rintro e w1 ⟨hb, b, rfl, hbb, hrow⟩) | (go_at_call 84; refine (HN.out _ _ (hw.keep hb) hrow).mono ?_; rintro e w2 ⟨rfl, hb2⟩; simp only [strOr]))
   go_ret2
   exact ⟨rfl, hb.trans (hb2.mono hb.size)⟩
open Go.RowKit
def VR (r : Int) : Prop := (0 ≤ r ∧ r < 55296) ∨ (57344 ≤ r ∧ r ≤ 1114111)
theorem VR_of {r : Int} (h : Lib.validRune r = true) : VR r := by
 unfold Lib.validRune at h; simp at h; unfold VR; omega
theorem enc_cases {r : Int} (h : VR r) :
  (0 ≤ r ∧ r < 128 ∧ encR r = [UInt8.ofNat r.toNat]) ∨
  (128 ≤ r ∧ r < 2048 ∧ encR r = [UInt8.ofNat (192 + r.toNat / 64), UInt8.ofNat (128 + r.toNat % 64)]) ∨
  (2048 ≤ r ∧ r < 65536 ∧ encR r = [UInt8.ofNat (224 + r.toNat / 4096), UInt8.ofNat (128 + r.toNat / 64 % 64), UInt8.ofNat (128 + r.toNat % 64)]) ∨
  (65536 ≤ r ∧ r ≤ 1114111 ∧ encR r = [UInt8.ofNat (240 + r.toNat / 262144), UInt8.ofNat (128 + r.toNat / 4096 % 64), UInt8.ofNat (128 + r.toNat / 64 % 64), UInt8.ofNat (128 + r.toNat % 64)]) := by
 have hv : Utf8.valid r = true := by unfold VR at h; unfold Utf8.valid; simp; omega
 unfold encR Utf8.encode
 rw [hv]
 simp only [if_true]
 by_cases h1 : r.toNat < 128
 ·left; refine ⟨by unfold VR at h; omega, by omega, ?_⟩; rw [if_pos h1]
 ·rw [if_neg h1]
  right
  by_cases h2 : r.toNat < 2048
  ·left; refine ⟨by omega, by omega, ?_⟩; rw [if_pos h2]
  ·rw [if_neg h2]
   right
   by_cases h3 : r.toNat < 65536
   ·left; refine ⟨by omega, by omega, ?_⟩; rw [if_pos h3]
   ·rw [if_neg h3]
    right
    refine ⟨by omega, by unfold VR at h; omega, rfl⟩
theorem ofN {n : Nat} (h : n < 256) : (UInt8.ofNat n).toNat = n := by simp; omega
/-! ### what becomes of characters -/
def stepR (fold : Bool) (acc : List Int) (r : Int) : Option (List Int) :=
 if (mapR r).2.2 then none
 else if !(mapR r).2.1 then some acc
 else if (mapR r).1 = 32 ∧ acc.getLast? = some 32 then some acc
 else some (acc ++ [if fold then foldR (mapR r).1 else (mapR r).1])
def mapRR (fold : Bool) : List Int → List Int → Option (List Int)
 | [], acc => some acc
 | r :: rs, acc => (stepR fold acc r).bind (mapRR fold rs)
open Go.RowKit
theorem dropW_id {α : Type} [BEq α] [LawfulBEq α] (c : α) : ∀ l : List α, l.head? ≠ some c → l.dropWhile (· == c) = l
 | [], _ => rfl
 | x :: l, h => by
  have : (x == c) = false := by rw [beq_eq_false_iff_ne]; intro e; apply h; simp [e]
  rw [List.dropWhile_cons, this]; simp
theorem map_some (f g : Bool) : ∀ (rs acc acc' : List Int), (mapRR f rs acc).isSome = (mapRR g rs acc').isSome
 | [], _, _ => rfl
 | r :: rs, acc, acc' => by
  rw [mapRR, mapRR]
  have hs : ∀ (f : Bool) (acc : List Int), (mapR r).2.2 = false → ∃ a, stepR f acc r = some a := by
   intro f acc h
   unfold stepR
   rw [h]
   simp only [Bool.false_eq_true, if_false]
   split
   ·exact ⟨_, rfl⟩
   ·split
    ·exact ⟨_, rfl⟩
    ·exact ⟨_, rfl⟩
  cases h : (mapR r).2.2
  ·obtain ⟨a, ha⟩ := hs f acc h
   obtain ⟨b, hb⟩ := hs g acc' h
   rw [ha, hb]
   exact map_some f g rs a b
  ·have : ∀ (f : Bool) (acc : List Int), stepR f acc r = none := by intro f acc; unfold stepR; rw [h]; rfl
   rw [this, this]; rfl
open Go.RowKit Go.Sort
open Go.RowKit Go.Sort
open Go.RowKit Go.Sort
def Stop (r : List UInt8) : Prop := ∀ x t, r = x :: t → x = 43 ∨ x = 44
theorem idx_mem (l : List UInt8) (c : UInt8) : 0 ≤ Lib.indexByte l c ↔ c ∈ l := by
 have := Lib.contains_iff_indexByte l c
 rw [Bool.eq_iff_iff] at this
 simpa using this.symm
theorem blk_id (l : List UInt8) (h : ∀ x t, l = x :: t → x ≠ 32) : blk l = l := by
 unfold blk
 apply dropW_id
 cases l with
 | nil => simp
 | cons x t => simp; exact h x t rfl
theorem Stop.blk {r : List UInt8} (h : Stop r) : blk r = r := blk_id r (fun x t e => by rcases h x t e with rfl | rfl <;> decide)
open Go.RowKit Go.Sort
def normE (r v : List UInt8) : Int × List UInt8 := match askT (smallL r) 0 with
 | none => (41, [])
 | some x => match normS x v with
  | none => (40, [])
  | some m => (0, m)
def normTy (L : List DefS) (t v : List UInt8) : Int × List UInt8 := match findD L false t with
 | none => (52, [])
 | some i => match countsD L i with
  | none => (52, [])
  | some a => if validL a.form v then (if a.eqr == [] then (0, v) else normE a.eqr v) else (40, [])
def nameTy (L : List DefS) (t : List UInt8) : List UInt8 := match findD L false t with
 | none => []
 | some i => nameOf L i
def mapK {α β : Type} (f : α → Int × β) : List α → Int × List β
 | [] => (0, [])
 | x :: t => if (f x).1 ≠ 0 then ((f x).1, []) else (if (mapK f t).1 ≠ 0 then ((mapK f t).1, []) else (0, (f x).2 :: (mapK f t).2))
def avaK (L : List DefS) (x : List UInt8 × List UInt8) : Int × (List UInt8 × List UInt8) := ((normTy L x.1 x.2).1, (smallL (nameTy L x.1), (normTy L x.1 x.2).2))
def partK (L : List DefS) (p : List (List UInt8 × List UInt8)) : Int × List (List UInt8 × List UInt8) := ((mapK (avaK L) p).1, partN (mapK (avaK L) p).2)
def keyS (L : List DefS) (s : List UInt8) : Int × List UInt8 :=
 if (parseL s).1 ≠ 0 then ((parseL s).1, [])
 else if (mapK (partK L) (parseL s).2).1 ≠ 0 then ((mapK (partK L) (parseL s).2).1, [])
 else printL (mapK (partK L) (parseL s).2).2
theorem mapK_mk {α β : Type} {f : α → Int × β} : ∀ {l : List α}, (∀ x ∈ l, (f x).1 = 0) → mapK f l = (0, l.map (fun x => (f x).2))
 | [], _ => by simp [mapK]
 | x :: t, h => by
  have ih := mapK_mk (f := f) (l := t) (fun y hy => h y (by simp [hy]))
  have h1 := h x (by simp)
  rw [mapK, if_neg (by simpa using h1), ih, if_neg (by simp)]
  simp
end Go.Proofs.YtkkbbhlihilnpaaGreatDoor
