import Derived.Test.YtbjmpmgiigombaaGreatDoorWvb5
import Derived.Lib.TrimAscii
set_option linter.all false
set_option maxHeartbeats 8000000
namespace Go.Proofs.YtbjmpmgiigombaaGreatDoor
open Go.RowKit Go.Sort
theorem findT_mem {n : List UInt8} {k : Int} {x : RowT} : ∀ {T : List RowT}, findT n k T = some x → x ∈ T
 | [], h => by cases h
 | y :: T, h => by
  rw [findT] at h
  split at h
  ·cases h; simp
  ·simp [findT_mem h]
theorem ruleT_mem {n : List UInt8} {x : RowT} (h : ruleT n = some x) : x ∈ tab := by
 unfold ruleT at h
 rw [Option.or_eq_some_iff] at h
 rcases h with h | ⟨_, h⟩
 ·exact findT_mem h
 ·rw [Option.or_eq_some_iff] at h
  rcases h with h | ⟨_, h⟩
  ·exact findT_mem h
  ·exact findT_mem h
theorem askT_mem {n : List UInt8} {k : Int} {x : RowT} (h : askT n k = some x) : x ∈ tab := ruleT_mem (Option.filter_eq_some_iff.1 h).1
theorem tab_forms : ∀ x ∈ tab, x.2.2.1.length ≤ 2 := by decide
theorem askT_forms {n : List UInt8} {k : Int} {x : RowT} (h : askT n k = some x) : x.2.2.1.length ≤ 2 := tab_forms x (askT_mem h)
def normV (rule v : List UInt8) : Value := match askT (smallL rule) 0 with
 | none => .tuple #[.string ⟨#[]⟩, .int .i64 41]
 | some x => strOr 40 (normS x v)
set_option maxRecDepth 100000 in
theorem Norm_c (rule v : List UInt8) (w : World) (hw : Env w) (hl : rule.length ≤ 140737488351232) :
  Calls Tryz.prog 287 #[.string ⟨rule.toArray⟩, .string ⟨v.toArray⟩] w fun e w' => e = .returned (normV rule v) ∧ Below w.heap.size w w' := by
 have hc := asked_c rule 0 w hl
 cases ha : askT (smallL rule) 0 with
 | none =>
  rw [ha] at hc
  rw [show normV rule v = .tuple #[.string ⟨#[]⟩, .int .i64 41] by unfold normV; rw [ha]]
  clear ha
  go_enter Tryz.func287, Tryz.ntmps287
  go_wp2_with (go_at_call 323; refine hc.mono ?_; rintro e w1 ⟨hb, rfl⟩)
  go_ret2
  exact ⟨rfl, hb⟩
 | some x =>
  have hfl := askT_forms ha
  rw [ha] at hc
  have HN := Lib.hid (fun b W (hW : Env W) hR => normal_c x b v W hW hR hfl)
  rw [show normV rule v = strOr 40 (normS x v) by unfold normV; rw [ha]]
  clear ha
  generalize normS x v = o at *
  cases o
  ·simp only [strOr]
   go_enter Tryz.func287, Tryz.ntmps287
   go_wp2_with (first | (go_at_call 323; refine hc.mono ?_; rintro e w1 ⟨hb, b, rfl, hbb, hrow⟩) | (go_at_call 324; refine (HN.out _ _ (hw.keep hb) hrow).mono ?_; rintro e w2 ⟨rfl, hb2⟩; simp only [strOr]))
   go_ret2
   exact ⟨rfl, hb.trans (hb2.mono hb.size)⟩
  ·simp only [strOr]
   go_enter Tryz.func287, Tryz.ntmps287
   go_wp2_with (first | (go_at_call 323; refine hc.mono ?_; rintro e w1 ⟨hb, b, rfl, hbb, hrow⟩) | (go_at_call 324; refine (HN.out _ _ (hw.keep hb) hrow).mono ?_; rintro e w2 ⟨rfl, hb2⟩; simp only [strOr]))
   go_ret2
   exact ⟨rfl, hb.trans (hb2.mono hb.size)⟩
open Go.RowKit
def VR (r : Int) : Prop := (0 ≤ r ∧ r < 55296) ∨ (57344 ≤ r ∧ r ≤ 1114111)
theorem VR_of {r : Int} (h : Lib.validRune r = true) : VR r := by
 unfold Lib.validRune at h; simp at h; unfold VR; omega
theorem enc_cases {r : Int} (h : VR r) :
  (0 ≤ r ∧ r < 128 ∧ encR r = [UInt8.ofNat r.toNat]) ∨
  (128 ≤ r ∧ r < 2048 ∧ encR r = [UInt8.ofNat (192 + r.toNat / 64), UInt8.ofNat (128 + r.toNat % 64)]) ∨
  (2048 ≤ r ∧ r < 65536 ∧ encR r = [UInt8.ofNat (224 + r.toNat / 4096), UInt8.ofNat (128 + r.toNat / 64 % 64), UInt8.ofNat (128 + r.toNat % 64)]) ∨
  (65536 ≤ r ∧ r ≤ 1114111 ∧ encR r = [UInt8.ofNat (240 + r.toNat / 262144), UInt8.ofNat (128 + r.toNat / 4096 % 64), UInt8.ofNat (128 + r.toNat / 64 % 64), UInt8.ofNat (128 + r.toNat % 64)]) := by
 have hv : Utf8.valid r = true := by unfold VR at h; unfold Utf8.valid; simp; omega
 unfold encR Utf8.encode
 rw [hv]
 simp only [if_true]
 by_cases h1 : r.toNat < 128
 ·left; refine ⟨by unfold VR at h; omega, by omega, ?_⟩; rw [if_pos h1]
 ·rw [if_neg h1]
  right
  by_cases h2 : r.toNat < 2048
  ·left; refine ⟨by omega, by omega, ?_⟩; rw [if_pos h2]
  ·rw [if_neg h2]
   right
   by_cases h3 : r.toNat < 65536
   ·left; refine ⟨by omega, by omega, ?_⟩; rw [if_pos h3]
   ·rw [if_neg h3]
    right
    refine ⟨by omega, by unfold VR at h; omega, rfl⟩
theorem ofN {n : Nat} (h : n < 256) : (UInt8.ofNat n).toNat = n := by simp; omega
/-! ### what becomes of characters -/
def stepR (fold : Bool) (acc : List Int) (r : Int) : Option (List Int) :=
 if (mapR r).2.2 then none
 else if !(mapR r).2.1 then some acc
 else if (mapR r).1 = 32 ∧ acc.getLast? = some 32 then some acc
 else some (acc ++ [if fold then foldR (mapR r).1 else (mapR r).1])
def mapRR (fold : Bool) : List Int → List Int → Option (List Int)
 | [], acc => some acc
 | r :: rs, acc => (stepR fold acc r).bind (mapRR fold rs)
open Go.RowKit
theorem map_some (f g : Bool) : ∀ (rs acc acc' : List Int), (mapRR f rs acc).isSome = (mapRR g rs acc').isSome
 | [], _, _ => rfl
 | r :: rs, acc, acc' => by
  rw [mapRR, mapRR]
  have hs : ∀ (f : Bool) (acc : List Int), (mapR r).2.2 = false → ∃ a, stepR f acc r = some a := by
   intro f acc h
   unfold stepR
   rw [h]
   simp only [Bool.false_eq_true, if_false]
   split
   ·exact ⟨_, rfl⟩
   ·split
    ·exact ⟨_, rfl⟩
    ·exact ⟨_, rfl⟩
  cases h : (mapR r).2.2
  ·obtain ⟨a, ha⟩ := hs f acc h
   obtain ⟨b, hb⟩ := hs g acc' h
   rw [ha, hb]
   exact map_some f g rs a b
  ·have : ∀ (f : Bool) (acc : List Int), stepR f acc r = none := by intro f acc; unfold stepR; rw [h]; rfl
   rw [this, this]; rfl
open Go.RowKit Go.Sort
open Go.RowKit Go.Sort
def spl (d : UInt8) : List UInt8 → List (List UInt8)
 | [] => [[]]
 | c :: t => if c = d then [] :: spl d t else match spl d t with
  | [] => [[c]]
  | x :: r => (c :: x) :: r
theorem spl_ne (d : UInt8) : ∀ l, spl d l ≠ []
 | [] => by simp [spl]
 | c :: t => by
  rw [spl]
  split
  ·simp
  ·split <;> simp
theorem splitK_cons (c d : UInt8) (h : c ≠ d) (t : List UInt8) : ∀ k, ∃ x r, Lib.splitK [d] 0 k t = x :: r ∧ Lib.splitK [d] 0 k (c :: t) = (c :: x) :: r
 | 0 => ⟨t, [], rfl, rfl⟩
 | k + 1 => by
  have hp : ([d] : List UInt8).isPrefixOf (c :: t) = false := by simp [List.isPrefixOf, Ne.symm h]
  have hix : Lib.index (c :: t) [d] = if Lib.index t [d] == -1 then -1 else Lib.index t [d] + 1 := by rw [Lib.index, hp]; simp
  rw [Lib.splitK, Lib.splitK, hix]
  by_cases hm : (Lib.index t [d] == -1) = true
  ·rw [if_pos hm, if_pos hm]; exact ⟨t, [], rfl, rfl⟩
  ·rw [if_neg hm, if_neg hm]
   have hge := Lib.index_ge t [d]
   have hm' : Lib.index t [d] ≠ -1 := by simpa using hm
   obtain ⟨j, hj⟩ : ∃ j : Nat, Lib.index t [d] = j := ⟨(Lib.index t [d]).toNat, by omega⟩
   rw [hj, if_neg (by simp; omega)]
   refine ⟨_, _, rfl, ?_⟩
   rw [show ((j : Int) + 1).toNat = j + 1 by omega]
   simp
theorem splitK_spl (d : UInt8) : ∀ l : List UInt8, Lib.splitK [d] 0 (l.count d) l = spl d l
 | [] => rfl
 | c :: t => by
  have ih := splitK_spl d t
  by_cases h : c = d
  ·subst h
   rw [List.count_cons_self, Lib.splitK, spl, if_pos rfl]
   have hix : Lib.index (c :: t) [c] = ((0 : Nat) : Int) := by rw [Lib.index]; simp [List.isPrefixOf]
   rw [hix]
   simp only [List.length_singleton, Int.toNat_natCast]
   rw [if_neg (by decide)]
   simp [ih]
  ·rw [List.count_cons_of_ne (by simpa using h)]
   obtain ⟨x, r, e1, e2⟩ := splitK_cons c d h t (t.count d)
   rw [e2, spl, if_neg h, ← ih, e1]
theorem segs_spl (l : List UInt8) : segs l = spl 46 l := by
 unfold segs
 rw [Lib.splitB_data]
 have : Lib.countB ⟨l.toArray⟩ ⟨#[46]⟩ = l.count 46 := by
  show Lib.count l [46] = _
  exact Lib.count_one 46 l
 rw [this]
 exact splitK_spl 46 l
theorem spl_mem (d : UInt8) : ∀ (l : List UInt8) (c : UInt8), c ∈ l → c = d ∨ ∃ s ∈ spl d l, c ∈ s
 | [], c, h => by simp at h
 | x :: t, c, h => by
  rw [spl]
  rw [List.mem_cons] at h
  by_cases hx : x = d
  ·rw [if_pos hx]
   rcases h with rfl | h
   ·exact .inl hx
   ·rcases spl_mem d t c h with h1 | ⟨s, h1, h2⟩
    ·exact .inl h1
    ·exact .inr ⟨s, by simp [h1], h2⟩
  ·rw [if_neg hx]
   have hne := spl_ne d t
   cases hs : spl d t with
   | nil => exact absurd hs hne
   | cons y r =>
    simp only
    rcases h with rfl | h
    ·exact .inr ⟨_, List.mem_cons_self .., by simp⟩
    ·rcases spl_mem d t c h with h1 | ⟨s, h1, h2⟩
     ·exact .inl h1
     ·rw [hs, List.mem_cons] at h1
      rcases h1 with rfl | h1
      ·exact .inr ⟨_, List.mem_cons_self .., by simp [h2]⟩
      ·exact .inr ⟨s, by simp [h1], h2⟩
theorem isOid_all {l : List UInt8} (h : isOidL l = true) : ∀ c ∈ l, c = 46 ∨ isDig c = true := by
 intro c hc
 unfold isOidL at h
 rw [segs_spl, Bool.and_eq_true] at h
 rcases spl_mem 46 l c hc with h1 | ⟨s, h1, h2⟩
 ·exact .inl h1
 ·right
  have := List.all_eq_true.1 h.1 s h1
  unfold segOk at this
  rw [Bool.and_eq_true] at this
  exact List.all_eq_true.1 this.2 c h2
theorem dig_inTy {c : UInt8} (h : c = 46 ∨ isDig c = true) : inTy c = true ∧ lowB c = c := by
 unfold inTy inTypeB digB lowB
 rcases h with rfl | h
 ·decide
 ·unfold isDig at h
  simp at h
  refine ⟨?_, by rw [if_neg (by omega)]⟩
  have h1 : decide ((48 : Int) ≤ (c.toNat : Int)) = true := by simp; omega
  have h2 : decide ((c.toNat : Int) ≤ 57) = true := by simp; omega
  rw [h1, h2]; simp
theorem type_ne {t : List UInt8} (h : isTypeL t = true) : t ≠ [] := by rintro rfl; simp [isTypeL] at h
theorem type_all {t : List UInt8} (h : isTypeL t = true) : ∀ c ∈ t, inTy c = true := by
 cases t with
 | nil => simp
 | cons c m =>
  unfold isTypeL at h
  rw [Bool.and_eq_true] at h
  intro x hx
  by_cases hl : letB c.toNat = true
  ·rw [if_pos hl] at h
   have := List.all_eq_true.1 h.2 x hx
   unfold typeCh at this
   rw [Bool.and_eq_true] at this
   exact this.1
  ·rw [if_neg hl] at h
   exact (dig_inTy (isOid_all h.2 x hx)).1
open Go.RowKit Go.Sort
def Stop (r : List UInt8) : Prop := ∀ x t, r = x :: t → x = 43 ∨ x = 44
theorem idx_mem (l : List UInt8) (c : UInt8) : 0 ≤ Lib.indexByte l c ↔ c ∈ l := by
 have := Lib.contains_iff_indexByte l c
 rw [Bool.eq_iff_iff] at this
 simpa using this.symm
open Go.RowKit Go.Sort
def normE (r v : List UInt8) : Int × List UInt8 := match askT (smallL r) 0 with
 | none => (41, [])
 | some x => match normS x v with
  | none => (40, [])
  | some m => (0, m)
def normTy (L : List DefS) (t v : List UInt8) : Int × List UInt8 := match findD L false t with
 | none => (52, [])
 | some i => match countsD L i with
  | none => (52, [])
  | some a => if validL a.form v then (if a.eqr == [] then (0, v) else normE a.eqr v) else (40, [])
def nameTy (L : List DefS) (t : List UInt8) : List UInt8 := match findD L false t with
 | none => []
 | some i => nameOf L i
def mapK {α β : Type} (f : α → Int × β) : List α → Int × List β
 | [] => (0, [])
 | x :: t => if (f x).1 ≠ 0 then ((f x).1, []) else (if (mapK f t).1 ≠ 0 then ((mapK f t).1, []) else (0, (f x).2 :: (mapK f t).2))
def avaK (L : List DefS) (x : List UInt8 × List UInt8) : Int × (List UInt8 × List UInt8) := ((normTy L x.1 x.2).1, (smallL (nameTy L x.1), (normTy L x.1 x.2).2))
def partK (L : List DefS) (p : List (List UInt8 × List UInt8)) : Int × List (List UInt8 × List UInt8) := ((mapK (avaK L) p).1, partN (mapK (avaK L) p).2)
def keyS (L : List DefS) (s : List UInt8) : Int × List UInt8 :=
 if (parseL s).1 ≠ 0 then ((parseL s).1, [])
 else if (mapK (partK L) (parseL s).2).1 ≠ 0 then ((mapK (partK L) (parseL s).2).1, [])
 else printL (mapK (partK L) (parseL s).2).2
theorem mapK_mk {α β : Type} {f : α → Int × β} : ∀ {l : List α}, (∀ x ∈ l, (f x).1 = 0) → mapK f l = (0, l.map (fun x => (f x).2))
 | [], _ => by simp [mapK]
 | x :: t, h => by
  have ih := mapK_mk (f := f) (l := t) (fun y hy => h y (by simp [hy]))
  have h1 := h x (by simp)
  rw [mapK, if_neg (by simpa using h1), ih, if_neg (by simp)]
  simp
def underS (a b : List UInt8) : Bool := (parseL a).1 == 0 && (parseL b).1 == 0 && decide ((parseL b).2.length ≤ (parseL a).2.length) && ((parseL a).2.drop ((parseL a).2.length - (parseL b).2.length) == (parseL b).2)
def depthS (a : List UInt8) : Int := if (parseL a).1 = 0 then (parseL a).2.length else -1
structure GrantS where
 who : Int
 name : List UInt8
 level : Int
structure RuleS where
 what : Int
 name : List UInt8
 attrs : List (List UInt8)
 grants : List GrantS
def levelWs : List (List UInt8) := [[110, 111, 110, 101], [100, 105, 115, 99, 108, 111, 115, 101], [97, 117, 116, 104], [99, 111, 109, 112, 97, 114, 101], [115, 101, 97, 114, 99, 104], [114, 101, 97, 100], [119, 114, 105, 116, 101]]
def whatWs : List (List UInt8) := [[42], [100, 110, 46, 98, 97, 115, 101], [100, 110, 46, 111, 110, 101], [100, 110, 46, 115, 117, 98], [100, 110, 46, 99, 104, 105, 108, 100, 114, 101, 110]]
def whoWs : List (List UInt8) := [[42], [97, 110, 111, 110, 121, 109, 111, 117, 115], [117, 115, 101, 114, 115], [115, 101, 108, 102], [100, 110], [115, 117, 98], [103, 114, 111, 117, 112]]
def wTo : List UInt8 := [116, 111]
def wBy : List UInt8 := [98, 121]
def wAttrsEq : List UInt8 := [97, 116, 116, 114, 115, 61]
def wEntry : List UInt8 := [101, 110, 116, 114, 121]
def wChildren : List UInt8 := [99, 104, 105, 108, 100, 114, 101, 110]
def inRow (n : Int) (l : List (List UInt8)) : Bool := decide (0 ≤ n) && decide (n < l.length)
def namedB (who : Int) : Bool := decide (4 ≤ who)
def badGrant (g : GrantS) : Bool := !inRow g.who whoWs || !inRow g.level levelWs || (!namedB g.who && g.name != [])
def saidA (r : RuleS) : Bool := if !inRow r.what whatWs || (r.what == 0 && r.name != []) || r.grants.isEmpty then false else !r.grants.any badGrant && !r.attrs.any (fun t => !isTypeL t)
def quoteA (s : List UInt8) : List UInt8 := 34 :: (s.flatMap fun c => if c == 92 then [92, 92] else if c == 34 then [92, 34] else [c]) ++ [34]
def joinL (sep : List UInt8) : List (List UInt8) → List UInt8
 | [] => []
 | [x] => x
 | x :: y :: t => x ++ sep ++ joinL sep (y :: t)
def wordAt (l : List (List UInt8)) (n : Int) : List UInt8 := l.getD n.toNat []
def grantWs (g : GrantS) : List (List UInt8) := [wBy, wordAt whoWs g.who ++ (if namedB g.who then 61 :: quoteA g.name else []), wordAt levelWs g.level]
def ruleWs (r : RuleS) : List (List UInt8) := [wTo, wordAt whatWs r.what ++ (if r.what == 0 then [] else 61 :: quoteA r.name)] ++ (if r.attrs.isEmpty then [] else [wAttrsEq ++ joinL [44] r.attrs]) ++ r.grants.flatMap grantWs
def printA (r : RuleS) : Int × List UInt8 := if !saidA r then (100, []) else if 65536 < (joinL [32] (ruleWs r)).length then (2, []) else (0, joinL [32] (ruleWs r))
def isWordA (t : List UInt8) : Bool := t == wEntry || t == wChildren
def badName (L : List DefS) (x : List UInt8) : Bool := (keyS L x).1 != 0
def validA (L : List DefS) (r : RuleS) : Bool := (printA r).1 == 0 && !((r.what != 0 && badName L r.name) || r.grants.any (fun g => namedB g.who && badName L g.name)) && !r.attrs.any (fun t => !isWordA t && (findD L false t).isNone)
def meansA (L : List DefS) (key attr : List UInt8) (r : RuleS) : Bool :=
 (if r.what == 1 then key == (keyS L r.name).2
  else if r.what == 2 then underS key (keyS L r.name).2 && depthS key == depthS (keyS L r.name).2 + 1
  else if r.what == 3 then underS key (keyS L r.name).2
  else if r.what == 4 then underS key (keyS L r.name).2 && key != (keyS L r.name).2
  else true) && (r.attrs.isEmpty || r.attrs.any (fun t => if isWordA t || isWordA attr then t == attr else isSubD L attr t))
def namesA (L : List DefS) (who : List UInt8) (groups : List (List UInt8)) (key : List UInt8) (g : GrantS) : Bool :=
 if g.who == 0 then true
 else if g.who == 1 then who == []
 else if g.who == 2 then who != []
 else if g.who == 3 then who != [] && who == key
 else if g.who == 4 then who != [] && who == (keyS L g.name).2
 else if g.who == 5 then who != [] && underS who (keyS L g.name).2
 else groups.contains (keyS L g.name).2
def grantsA (L : List DefS) (who : List UInt8) (groups : List (List UInt8)) (key : List UInt8) : List GrantS → Int
 | [] => 0
 | g :: gs => if namesA L who groups key g then g.level else grantsA L who groups key gs
def levelF (L : List DefS) (who : List UInt8) (groups : List (List UInt8)) (key attr : List UInt8) : List RuleS → Int
 | [] => 0
 | r :: rs => if validA L r && meansA L key attr r then grantsA L who groups key r.grants else levelF L who groups key attr rs
def levelA (L : List DefS) (rs : List RuleS) (who : List UInt8) (groups : List (List UInt8)) (key attr : List UInt8) : Int := if rs.isEmpty then 5 else levelF L who groups key attr rs
section
variable (L : List DefS) (who : List UInt8) (groups : List (List UInt8)) (key attr : List UInt8)
def decides (r : RuleS) : Bool := validA L r && meansA L key attr r
theorem levelF_app (b : List RuleS) : ∀ a : List RuleS, levelF L who groups key attr (a ++ b) = if a.any (decides L key attr) then levelF L who groups key attr a else levelF L who groups key attr b
 | [] => rfl
 | r :: a => by
  have ih := levelF_app b a
  rw [List.cons_append, levelF, levelF, List.any_cons]
  unfold decides at ih ⊢
  cases hd : (validA L r && meansA L key attr r)
  ·rw [ih]; simp
  ·simp
theorem levelF_none : ∀ a : List RuleS, a.any (decides L key attr) = false → levelF L who groups key attr a = 0
 | [], _ => rfl
 | r :: a, h => by
  rw [List.any_cons, Bool.or_eq_false_iff] at h
  have ih := levelF_none a h.2
  rw [levelF]
  have h1 := h.1
  unfold decides at h1
  rw [h1]
  simpa using ih
end
theorem quote_len (s : List UInt8) : (quoteA s).length ≤ 2 * s.length + 2 := by
 unfold quoteA
 have h : ∀ s : List UInt8, (s.flatMap fun c => if c == 92 then [92, 92] else if c == 34 then [92, 34] else [c]).length ≤ 2 * s.length := by
  intro s
  induction s with
  | nil => simp
  | cons c s ih =>
   rw [List.flatMap_cons, List.length_append, List.length_cons]
   have : (if c == 92 then [92, 92] else if c == 34 then [92, 34] else [c] : List UInt8).length ≤ 2 := by
    split
    ·simp
    ·split <;> simp
   omega
 have := h s
 simp only [List.length_append, List.length_cons, List.length_nil]
 omega
def quoteF : List UInt8 → Option (List UInt8 × List UInt8)
 | [] => none
 | c :: t => if c == 34 then some ([34], t) else if c == 92 then (match t with
  | [] => none
  | d :: t' => match quoteF t' with
   | none => none
   | some (a, b) => some (92 :: d :: a, b)) else match quoteF t with
   | none => none
   | some (a, b) => some (c :: a, b)
def wordStop (c : UInt8) : Bool := c == 32 || c == 34
def wordsG : Nat → List UInt8 → List UInt8 → List (List UInt8) → Option (List (List UInt8))
 | 0, _, _, _ => none
 | n + 1, cur, rest, acc => match rest.dropWhile (fun c => !wordStop c) with
  | [] => if cur ++ rest.takeWhile (fun c => !wordStop c) = [] then none else some (acc ++ [cur ++ rest.takeWhile (fun c => !wordStop c)])
  | c :: q => if c == 34 then (match quoteF q with
    | none => none
    | some (a, b) => match b with
     | [] => wordsG n (cur ++ rest.takeWhile (fun c => !wordStop c) ++ 34 :: a) [] acc
     | d :: b' => if d == 32 then wordsG n (cur ++ rest.takeWhile (fun c => !wordStop c) ++ 34 :: a) (d :: b') acc else none)
   else if cur ++ rest.takeWhile (fun c => !wordStop c) = [] then none
   else wordsG n [] ((c :: q).dropWhile (· == 32)) (acc ++ [cur ++ rest.takeWhile (fun c => !wordStop c)])
def aclWords (s : List UInt8) : Option (List (List UInt8)) := wordsG (2 * s.length + 2) [] s []
def unqF : List UInt8 → Option (List UInt8)
 | [] => some []
 | c :: t => if c == 92 then (match t with
  | [] => none
  | d :: t' => if d == 34 || d == 92 then (unqF t').map (d :: ·) else none) else if c == 34 then none else (unqF t).map (c :: ·)
def unquotedA (s : List UInt8) : Option (List UInt8) := match s with
 | [] => none
 | c :: t => match t.getLast? with
  | none => none
  | some d => if c == 34 && d == 34 then unqF t.dropLast else none
def idxOf (row : List (List UInt8)) (w : List UInt8) : Option Nat := row.findIdx? (· == w)
def kindA (w : List UInt8) (row : List (List UInt8)) (nm : Nat → Bool) : Option (Nat × List UInt8) := match idxOf row (w.takeWhile (· != 61)) with
 | none => none
 | some k => if nm k != w.contains 61 then none else if w.contains 61 then (unquotedA (w.dropWhile (· != 61)).tail).map (fun n => (k, n)) else some (k, [])
def grantsP : List (List UInt8) → List GrantS → Option (List GrantS × List (List UInt8))
 | b :: k :: v :: l, acc => if b == wBy then (match kindA k whoWs (fun k => namedB k) with
   | none => none
   | some (who, name) => match idxOf levelWs v with
    | none => none
    | some lev => grantsP l (acc ++ [⟨who, name, lev⟩])) else some (acc, b :: k :: v :: l)
 | l, acc => some (acc, l)
def splitC : List UInt8 → List (List UInt8)
 | [] => [[]]
 | c :: t => if c == 44 then [] :: splitC t else match splitC t with
  | [] => [[c]]
  | x :: l => (c :: x) :: l
def noRule : RuleS := ⟨0, [], [], []⟩
def attrsP (l : List (List UInt8)) : List (List UInt8) × List (List UInt8) := match l with
 | [] => ([], [])
 | a :: l' => if wAttrsEq.isPrefixOf a then (splitC (a.drop 6), l') else ([], a :: l')
def parseA (text : List UInt8) : Int × RuleS := if 65536 < text.length then (2, noRule) else match aclWords text with
 | some (t :: k :: l) => if t != wTo then (100, noRule) else match kindA k whatWs (fun k => k != 0) with
  | none => (100, noRule)
  | some (what, name) => if (attrsP l).1.any (fun t => !isTypeL t) then (100, noRule) else match grantsP (attrsP l).2 [] with
   | none => (100, noRule)
   | some (gs, rest) => if !rest.isEmpty || gs.isEmpty then (100, noRule) else (0, ⟨what, name, (attrsP l).1, gs⟩)
 | _ => (100, noRule)
def aliveText : List UInt8 := [116, 111, 32, 100, 110, 46, 115, 117, 98, 61, 34, 111, 117, 61, 120, 34, 32, 97, 116, 116, 114, 115, 61, 99, 110, 44, 101, 110, 116, 114, 121, 32, 98, 121, 32, 115, 101, 108, 102, 32, 119, 114, 105, 116, 101, 32, 98, 121, 32, 42, 32, 110, 111, 110, 101]
def aliveRule : RuleS := ⟨3, [111, 117, 61, 120], [[99, 110], wEntry], [⟨3, [], 6⟩, ⟨0, [], 0⟩]⟩
theorem parse_alive : parseA aliveText = (0, aliveRule) := by kernel_rfl
theorem print_alive : printA aliveRule = (0, aliveText) := by decide +kernel
theorem quoteF_size : ∀ (n : Nat) (q : List UInt8), q.length ≤ n → ∀ a b, quoteF q = some (a, b) → a.length + b.length = q.length ∧ 0 < a.length
 | 0, q, h, a, b, hq => by
  cases q with
  | nil => simp [quoteF] at hq
  | cons c t => simp at h
 | n + 1, q, h, a, b, hq => by
  cases q with
  | nil => simp [quoteF] at hq
  | cons c t =>
   rw [quoteF.eq_def] at hq
   simp only [List.length_cons] at h hq
   split at hq
   ·cases hq; simp; omega
   ·split at hq
    ·cases t with
     | nil => cases hq
     | cons d t' =>
      simp only [List.length_cons] at h
      cases h1 : quoteF t' with
      | none => simp [h1] at hq
      | some x =>
       simp only [h1, Option.some.injEq, Prod.mk.injEq] at hq
       have := quoteF_size n t' (by omega) x.1 x.2 h1
       rw [← hq.1, ← hq.2]
       simp only [List.length_cons]
       omega
    ·cases h1 : quoteF t with
     | none => simp [h1] at hq
     | some x =>
      simp only [h1, Option.some.injEq, Prod.mk.injEq] at hq
      have := quoteF_size n t (by omega) x.1 x.2 h1
      rw [← hq.1, ← hq.2]
      simp only [List.length_cons]
      omega
theorem dropWhile_stop {p : UInt8 → Bool} : ∀ {l : List UInt8} {c : UInt8} {q : List UInt8}, l.dropWhile p = c :: q → p c = false ∧ q.length < l.length
 | x :: l, c, q, h => by
  rw [List.dropWhile_cons] at h
  split at h
  ·have := dropWhile_stop h
   exact ⟨this.1, by simp; omega⟩
  ·next hx =>
   cases h
   exact ⟨by simpa using hx, by simp⟩
theorem wordsG_fuel : ∀ (k n m : Nat) (cur rest : List UInt8) (acc : List (List UInt8)), rest.length ≤ k → k < n → k < m → wordsG n cur rest acc = wordsG m cur rest acc := by
 intro k
 induction k with
 | zero =>
  intro n m cur rest acc h1 h2 h3
  obtain ⟨n, rfl⟩ : ∃ q, n = q + 1 := ⟨n - 1, by omega⟩
  obtain ⟨m, rfl⟩ : ∃ q, m = q + 1 := ⟨m - 1, by omega⟩
  obtain rfl : rest = [] := List.eq_nil_of_length_eq_zero (by omega)
  rfl
 | succ k ih =>
  intro n m cur rest acc h1 h2 h3
  obtain ⟨n, rfl⟩ : ∃ q, n = q + 1 := ⟨n - 1, by omega⟩
  obtain ⟨m, rfl⟩ : ∃ q, m = q + 1 := ⟨m - 1, by omega⟩
  rw [wordsG, wordsG]
  cases hd : rest.dropWhile (fun c => !wordStop c) with
  | nil => rfl
  | cons c q =>
   have hq := (dropWhile_stop hd).2
   have hs : wordStop c = true := by simpa using (dropWhile_stop hd).1
   simp only
   split
   ·cases hf : quoteF q with
    | none => rfl
    | some x =>
     obtain ⟨a, b⟩ := x
     have := quoteF_size _ q (Nat.le_refl _) a b hf
     cases b with
     | nil => exact ih n m _ _ _ (by simp) (by omega) (by omega)
     | cons d b' =>
      simp only
      split
      ·exact ih n m _ _ _ (by simp only [List.length_cons] at this ⊢; omega) (by omega) (by omega)
      ·rfl
   ·next hc =>
    split
    ·rfl
    ·have h32 : (c == 32) = true := by
      unfold wordStop at hs
      cases h : (c == 32)
      ·rw [h, Bool.false_or] at hs; exact absurd hs hc
      ·rfl
     have hl : ((c :: q).dropWhile (· == 32)).length ≤ q.length := by
      rw [List.dropWhile_cons, if_pos h32]
      exact (List.dropWhile_sublist _).length_le
     exact ih n m _ _ _ (by omega) (by omega) (by omega)
def wordsR (s : List UInt8) (f i : Nat) (acc : List (List UInt8)) : Option (List (List UInt8)) := wordsG (s.length + 1) (sub s f i) (s.drop i) acc
theorem aclWords_R (s : List UInt8) : aclWords s = wordsR s 0 0 [] := by
 unfold aclWords wordsR
 rw [wordsG_fuel s.length _ (s.length + 1) _ _ _ (Nat.le_refl _) (by omega) (by omega), List.drop_zero]
 simp [sub]
theorem wordsR_fuel (s : List UInt8) (n f i : Nat) (acc : List (List UInt8)) (hn : s.length - i < n) : wordsG n (sub s f i) (s.drop i) acc = wordsR s f i acc := by
 unfold wordsR
 exact wordsG_fuel (s.length - i) _ _ _ _ _ (by simp) hn (by omega)
theorem sub_sub (s : List UInt8) (f i m : Nat) (h1 : f ≤ i) (h2 : i ≤ m) : sub s f i ++ sub s i m = sub s f m := by
 unfold sub
 rw [show m - f = (i - f) + (m - i) by omega, List.take_add, List.drop_drop, show f + (i - f) = i by omega]
structure Went (s : List UInt8) (i m : Nat) : Prop where
 le : i ≤ m
 len : m ≤ s.length
 tw : (s.drop i).takeWhile (fun c => !wordStop c) = sub s i m ++ (s.drop m).takeWhile (fun c => !wordStop c)
 dw : (s.drop i).dropWhile (fun c => !wordStop c) = (s.drop m).dropWhile (fun c => !wordStop c)
theorem Went.start {s : List UInt8} {i : Nat} (h : i ≤ s.length) : Went s i i := ⟨Nat.le_refl _, h, by simp [sub], rfl⟩
theorem sub_snoc (s : List UInt8) (i m : Nat) (h : i ≤ m) (hm : m < s.length) : sub s i (m + 1) = sub s i m ++ [s[m]] := by
 rw [← sub_sub s i m (m + 1) h (by omega)]
 congr 1
 unfold sub
 rw [List.drop_eq_getElem_cons hm, show m + 1 - m = 1 by omega]
 rfl
theorem Went.step {s : List UInt8} {i m : Nat} (h : Went s i m) (hm : m < s.length) (hs : wordStop s[m] = false) : Went s i (m + 1) := by
 have e := List.drop_eq_getElem_cons hm
 refine ⟨by have := h.le; omega, by omega, ?_, ?_⟩
 ·rw [h.tw, e, List.takeWhile_cons, if_pos (by simp [hs]), sub_snoc s i m h.le hm]; simp
 ·rw [h.dw, e, List.dropWhile_cons, if_pos (by simp [hs])]
theorem Went.stop_tw {s : List UInt8} {i m : Nat} (h : Went s i m) (hs : ∀ hm : m < s.length, wordStop s[m] = true) : (s.drop i).takeWhile (fun c => !wordStop c) = sub s i m := by
 rw [h.tw]
 by_cases hm : m < s.length
 ·rw [List.drop_eq_getElem_cons hm, List.takeWhile_cons, if_neg (by simp [hs hm])]; simp
 ·rw [List.drop_eq_nil_of_le (by omega)]; simp
theorem Went.stop_dw {s : List UInt8} {i m : Nat} (h : Went s i m) (hm : m < s.length) (hs : wordStop s[m] = true) : (s.drop i).dropWhile (fun c => !wordStop c) = s[m] :: s.drop (m + 1) := by
 rw [h.dw, List.drop_eq_getElem_cons hm, List.dropWhile_cons, if_neg (by simp [hs])]
theorem sub_nil {s : List UInt8} {f m : Nat} (h1 : f ≤ m) (h2 : m ≤ s.length) : sub s f m = [] ↔ f = m := by
 unfold sub
 rw [List.take_eq_nil_iff, List.drop_eq_nil_iff]
 omega
theorem wordsR_unfold (s : List UInt8) (f i : Nat) (acc : List (List UInt8)) : wordsR s f i acc = match (s.drop i).dropWhile (fun c => !wordStop c) with
  | [] => if sub s f i ++ (s.drop i).takeWhile (fun c => !wordStop c) = [] then none else some (acc ++ [sub s f i ++ (s.drop i).takeWhile (fun c => !wordStop c)])
  | c :: q => if c == 34 then (match quoteF q with
    | none => none
    | some (a, b) => match b with
     | [] => wordsG s.length (sub s f i ++ (s.drop i).takeWhile (fun c => !wordStop c) ++ 34 :: a) [] acc
     | d :: b' => if d == 32 then wordsG s.length (sub s f i ++ (s.drop i).takeWhile (fun c => !wordStop c) ++ 34 :: a) (d :: b') acc else none)
   else if sub s f i ++ (s.drop i).takeWhile (fun c => !wordStop c) = [] then none
   else wordsG s.length [] ((c :: q).dropWhile (· == 32)) (acc ++ [sub s f i ++ (s.drop i).takeWhile (fun c => !wordStop c)]) := by
 unfold wordsR
 rw [wordsG]
 try rfl
theorem wordsR_end {s : List UInt8} {f i : Nat} {acc : List (List UInt8)} (h : Went s i s.length) (hf : f ≤ i) : wordsR s f i acc = if f = s.length then none else some (acc ++ [sub s f s.length]) := by
 rw [wordsR_unfold, h.dw, h.stop_tw (fun hm => absurd hm (by omega)), sub_sub s f i _ hf h.le, List.drop_length]
 simp only [List.dropWhile_nil]
 have := sub_nil (s := s) (show f ≤ s.length by have := h.le; omega) (Nat.le_refl _)
 by_cases hx : f = s.length
 ·rw [if_pos (this.2 hx), if_pos hx]
 ·rw [if_neg (fun h => hx (this.1 h)), if_neg hx]
theorem wordsR_none {s : List UInt8} {f i m : Nat} {acc : List (List UInt8)} (h : Went s i m) (hf : f ≤ i) (hm : m < s.length) (hs : s[m] = 32) (he : f = m) : wordsR s f i acc = none := by
 have hst : wordStop s[m] = true := by rw [hs]; rfl
 rw [wordsR_unfold, h.stop_dw hm hst, h.stop_tw (fun _ => hst), sub_sub s f i _ hf h.le]
 simp only
 rw [hs, if_neg (by decide), if_pos ((sub_nil (by omega) (by omega)).2 he)]
theorem wordsR_word {s : List UInt8} {f i m k : Nat} {acc : List (List UInt8)} (h : Went s i m) (hf : f ≤ i) (hm : m < s.length) (hs : s[m] = 32) (he : f ≠ m) (hk : (s.drop m).dropWhile (· == 32) = s.drop k) (hkm : m < k) (hkl : k ≤ s.length) : wordsR s f i acc = wordsR s k k (acc ++ [sub s f m]) := by
 have hst : wordStop s[m] = true := by rw [hs]; rfl
 rw [wordsR_unfold, h.stop_dw hm hst, h.stop_tw (fun _ => hst), sub_sub s f i _ hf h.le]
 simp only
 rw [if_neg (by rw [hs]; decide), if_neg (fun hx => he ((sub_nil (by have := h.le; omega) (by omega)).1 hx)), ← List.drop_eq_getElem_cons hm, hk]
 have := wordsR_fuel s s.length k k (acc ++ [sub s f m]) (by omega)
 rw [← this]
 congr 1
 simp [sub]
theorem wordsR_open {s : List UInt8} {f i m : Nat} {acc : List (List UInt8)} (h : Went s i m) (hf : f ≤ i) (hm : m < s.length) (hs : s[m] = 34) (hq : quoteF (s.drop (m + 1)) = none) : wordsR s f i acc = none := by
 have hst : wordStop s[m] = true := by rw [hs]; rfl
 rw [wordsR_unfold, h.stop_dw hm hst, h.stop_tw (fun _ => hst), sub_sub s f i _ hf h.le]
 simp only
 rw [if_pos (by rw [hs]; rfl), hq]
theorem wordsR_quote {s : List UInt8} {f i m q : Nat} {acc : List (List UInt8)} (h : Went s i m) (hf : f ≤ i) (hm : m < s.length) (hs : s[m] = 34) (hq : quoteF (s.drop (m + 1)) = some (sub s (m + 1) q, s.drop q)) (hmq : m < q) (hql : q ≤ s.length) :
  wordsR s f i acc = if hx : q < s.length then (if s[q] == 32 then wordsR s f q acc else none) else wordsR s f q acc := by
 have hst : wordStop s[m] = true := by rw [hs]; rfl
 rw [wordsR_unfold, h.stop_dw hm hst, h.stop_tw (fun _ => hst), sub_sub s f i _ hf h.le]
 simp only
 have e1 : sub s f m ++ 34 :: sub s (m + 1) q = sub s f q := by
  rw [← sub_sub s f m q (by have := h.le; omega) (by omega), ← sub_sub s m (m + 1) q (by omega) (by omega)]
  congr 1
  rw [sub_snoc s m m (Nat.le_refl _) hm, hs]
  simp [sub]
 rw [if_pos (by rw [hs]; rfl), hq]
 simp only
 rw [e1]
 have hR := wordsR_fuel s s.length f q acc (by omega)
 by_cases hx : q < s.length
 ·rw [dif_pos hx, List.drop_eq_getElem_cons hx]
  simp only
  rw [← List.drop_eq_getElem_cons hx, hR]
 ·rw [dif_neg hx, ← hR, List.drop_eq_nil_of_le (by omega)]
structure Quo (s : List UInt8) (p m : Nat) : Prop where
 le : p ≤ m
 eq : quoteF (s.drop p) = (quoteF (s.drop m)).map (fun x => (sub s p m ++ x.1, x.2))
theorem Quo.start (s : List UInt8) (p : Nat) : Quo s p p := ⟨Nat.le_refl _, by cases quoteF (s.drop p) <;> simp [sub]⟩
theorem Quo.plain {s : List UInt8} {p m : Nat} (h : Quo s p m) (hm : m < s.length) (h1 : s[m] ≠ 34) (h2 : s[m] ≠ 92) : Quo s p (m + 1) := by
 refine ⟨by have := h.le; omega, ?_⟩
 rw [h.eq, List.drop_eq_getElem_cons hm, quoteF.eq_def, sub_snoc s p m h.le hm]
 simp only
 rw [if_neg (by simpa using h1), if_neg (by simpa using h2)]
 cases quoteF (s.drop (m + 1)) <;> simp
theorem Quo.esc {s : List UInt8} {p m : Nat} (h : Quo s p m) (hm : m < s.length) (h2 : s[m] = 92) : Quo s p (m + 2) := by
 refine ⟨by have := h.le; omega, ?_⟩
 rw [h.eq, List.drop_eq_getElem_cons hm, quoteF.eq_def]
 simp only
 rw [if_neg (by rw [h2]; decide), if_pos (by rw [h2]; rfl)]
 by_cases hm1 : m + 1 < s.length
 ·have e : sub s p (m + 2) = sub s p m ++ [s[m], s[m + 1]] := by
   rw [sub_snoc s p (m + 1) (by have := h.le; omega) hm1, sub_snoc s p m h.le hm]; simp
  rw [List.drop_eq_getElem_cons hm1, e, h2]
  simp only
  cases quoteF (s.drop (m + 1 + 1)) <;> simp
 ·rw [List.drop_eq_nil_of_le (show s.length ≤ m + 1 by omega), List.drop_eq_nil_of_le (show s.length ≤ m + 2 by omega)]
  rfl
theorem Quo.off {s : List UInt8} {p m : Nat} (h : Quo s p m) (hm : ¬ m < s.length) : quoteF (s.drop p) = none := by
 rw [h.eq, List.drop_eq_nil_of_le (by omega)]; rfl
theorem Quo.close {s : List UInt8} {p m : Nat} (h : Quo s p m) (hm : m < s.length) (h1 : s[m] = 34) : quoteF (s.drop p) = some (sub s p (m + 1), s.drop (m + 1)) := by
 rw [h.eq, List.drop_eq_getElem_cons hm, quoteF.eq_def, sub_snoc s p m h.le hm]
 simp only
 rw [if_pos (by rw [h1]; rfl), h1]
 simp
structure Skip (s : List UInt8) (m k : Nat) : Prop where
 le : m ≤ k
 len : k ≤ s.length
 eq : (s.drop m).dropWhile (· == 32) = (s.drop k).dropWhile (· == 32)
theorem Skip.step {s : List UInt8} {m k : Nat} (h : Skip s m k) (hk : k < s.length) (hs : s[k] = 32) : Skip s m (k + 1) := by
 refine ⟨by have := h.le; omega, by omega, ?_⟩
 rw [h.eq, List.drop_eq_getElem_cons hk, List.dropWhile_cons, if_pos (by rw [hs]; rfl)]
theorem Skip.stop {s : List UInt8} {m k : Nat} (h : Skip s m k) (hs : ∀ hk : k < s.length, s[k] ≠ 32) : (s.drop m).dropWhile (· == 32) = s.drop k := by
 rw [h.eq]
 by_cases hk : k < s.length
 ·rw [List.drop_eq_getElem_cons hk, List.dropWhile_cons, if_neg (by simpa using hs hk)]
 ·rw [List.drop_eq_nil_of_le (by omega)]; rfl
theorem unqF_nil : unqF [] = some [] := rfl
theorem unqF_plain {c : UInt8} {t : List UInt8} (h1 : c ≠ 92) (h2 : c ≠ 34) : unqF (c :: t) = (unqF t).map (c :: ·) := by
 rw [unqF.eq_def]
 simp only
 rw [if_neg (by simpa using h1), if_neg (by simpa using h2)]
theorem unqF_quote {t : List UInt8} : unqF (34 :: t) = none := by
 rw [unqF.eq_def]; rfl
theorem unqF_escs {d : UInt8} {t : List UInt8} (h : (d == 34 || d == 92) = true) : unqF (92 :: d :: t) = (unqF t).map (d :: ·) := by
 rw [unqF.eq_def]
 simp only
 rw [if_pos (show ((92 : UInt8) == 92) = true from rfl), if_pos h]
theorem unqF_bad {d : UInt8} {t : List UInt8} (h : (d == 34 || d == 92) = false) : unqF (92 :: d :: t) = none := by
 rw [unqF.eq_def]
 simp only
 rw [if_pos (show ((92 : UInt8) == 92) = true from rfl), if_neg (by rw [h]; simp)]
structure UqJ (s : List UInt8) (i : Nat) (b : List UInt8) : Prop where
 le : i ≤ s.length
 num : b.length ≤ i
 eq : unqF s = (unqF (s.drop i)).map (b ++ ·)
theorem UqJ.start (s : List UInt8) : UqJ s 0 [] := ⟨Nat.zero_le _, Nat.le_refl _, by rw [List.drop_zero]; cases unqF s <;> simp⟩
theorem UqJ.plain {s : List UInt8} {i : Nat} {b : List UInt8} (h : UqJ s i b) (hi : i < s.length) (h1 : s[i] ≠ 92) (h2 : s[i] ≠ 34) : UqJ s (i + 1) (b ++ [s[i]]) := by
 refine ⟨by omega, by have := h.num; simp; omega, ?_⟩
 rw [h.eq, List.drop_eq_getElem_cons hi, unqF_plain h1 h2]
 cases unqF (s.drop (i + 1)) <;> simp
theorem UqJ.esc {s : List UInt8} {i : Nat} {b : List UInt8} (h : UqJ s i b) (hi : i + 1 < s.length) (h1 : s[i] = 92) (h2 : s[i + 1] = 34 ∨ s[i + 1] = 92) : UqJ s (i + 2) (b ++ [s[i + 1]]) := by
 refine ⟨by omega, by have := h.num; simp; omega, ?_⟩
 rw [h.eq, List.drop_eq_getElem_cons (show i < s.length by omega), List.drop_eq_getElem_cons hi, h1, unqF_escs (by simpa using h2)]
 cases unqF (s.drop (i + 2)) <;> simp
theorem UqJ.bad {s : List UInt8} {i : Nat} {b : List UInt8} (h : UqJ s i b) (hi : i + 1 < s.length) (h1 : s[i] = 92) (h2 : s[i + 1] ≠ 34) (h3 : s[i + 1] ≠ 92) : unqF s = none := by
 rw [h.eq, List.drop_eq_getElem_cons (show i < s.length by omega), List.drop_eq_getElem_cons hi, h1, unqF_bad (by simp [h2, h3])]
 rfl
theorem UqJ.last {s : List UInt8} {i : Nat} {b : List UInt8} (h : UqJ s i b) (hi : i + 1 = s.length) (h1 : s[i] = 92) : unqF s = none := by
 rw [h.eq, List.drop_eq_getElem_cons (show i < s.length by omega), List.drop_eq_nil_of_le (by omega), h1]
 rfl
theorem UqJ.quote {s : List UInt8} {i : Nat} {b : List UInt8} (h : UqJ s i b) (hi : i < s.length) (h1 : s[i] = 34) : unqF s = none := by
 rw [h.eq, List.drop_eq_getElem_cons hi, h1, unqF_quote]
 rfl
theorem UqJ.done {s : List UInt8} {i : Nat} {b : List UInt8} (h : UqJ s i b) (hi : ¬ i < s.length) : unqF s = some b := by
 rw [h.eq, List.drop_eq_nil_of_le (by omega)]; simp [unqF_nil]
theorem unquotedA_short {s : List UInt8} (h : s.length < 2) : unquotedA s = none := by
 match s, h with
 | [], _ => rfl
 | [c], _ => rfl
theorem unquotedA_eq {s : List UInt8} (h : 2 ≤ s.length) : unquotedA s = if s[0] == 34 && s[s.length - 1] == 34 then unqF (sub s 1 (s.length - 1)) else none := by
 match s, h with
 | c :: d :: t, _ =>
  have hl : (d :: t).getLast? = some ((c :: d :: t)[(c :: d :: t).length - 1]) := by
   rw [List.getLast?_eq_getElem?]
   simp
  have hd : sub (c :: d :: t) 1 ((c :: d :: t).length - 1) = (d :: t).dropLast := by
   rw [List.dropLast_eq_take]
   simp [sub]
  rw [hd]
  show (match (d :: t).getLast? with
   | none => none
   | some e => if c == 34 && e == 34 then unqF (d :: t).dropLast else none) = _
  rw [hl]
  rfl
theorem wordsG_small : ∀ (n : Nat) (cur rest : List UInt8) (acc l : List (List UInt8)), wordsG n cur rest acc = some l → l.length ≤ acc.length + rest.length + 1 ∧ ∀ x ∈ l, x ∈ acc ∨ x.length ≤ cur.length + rest.length
 | 0, _, _, _, _, h => by cases h
 | n + 1, cur, rest, acc, l, h => by
  rw [wordsG] at h
  have hsum : (rest.takeWhile (fun c => !wordStop c)).length + (rest.dropWhile (fun c => !wordStop c)).length = rest.length := by
   rw [← List.length_append, List.takeWhile_append_dropWhile]
  split at h
  ·next hd =>
   split at h
   ·cases h
   ·cases h
    refine ⟨by simp, ?_⟩
    intro x hx
    rcases List.mem_append.1 hx with hx | hx
    ·exact .inl hx
    ·rw [List.mem_singleton.1 hx, List.length_append]
     exact .inr (by omega)
  ·next c q hd =>
   rw [hd, List.length_cons] at hsum
   split at h
   ·split at h
    ·cases h
    ·next a b hq =>
     have hl := (quoteF_size _ q (Nat.le_refl _) a b hq).1
     split at h
     ·obtain ⟨r1, r2⟩ := wordsG_small n _ _ _ l h
      refine ⟨by simp at r1; omega, fun x hx => (r2 x hx).imp id (fun h => ?_)⟩
      simp only [List.length_append, List.length_cons, List.length_nil] at h
      omega
     ·split at h
      ·obtain ⟨r1, r2⟩ := wordsG_small n _ _ _ l h
       simp only [List.length_cons] at r1 hl
       refine ⟨by omega, fun x hx => (r2 x hx).imp id (fun h => ?_)⟩
       simp only [List.length_append, List.length_cons] at h
       omega
      ·cases h
   ·split at h
    ·cases h
    ·obtain ⟨r1, r2⟩ := wordsG_small n _ _ _ l h
     have hs : wordStop c = true := by simpa using (dropWhile_stop hd).1
     have h32 : (c == 32) = true := by
      unfold wordStop at hs
      rw [Bool.or_eq_true] at hs
      rcases hs with hs | hs
      ·exact hs
      ·next h1 _ => exact absurd hs h1
     have hl : ((c :: q).dropWhile (· == 32)).length ≤ q.length := by
      rw [List.dropWhile_cons, if_pos h32]
      exact (List.dropWhile_sublist _).length_le
     refine ⟨by simp only [List.length_append, List.length_cons, List.length_nil] at r1; omega, fun x hx => ?_⟩
     rcases r2 x hx with hx | hx
     ·rcases List.mem_append.1 hx with hx | hx
      ·exact .inl hx
      ·rw [List.mem_singleton.1 hx, List.length_append]
       exact .inr (by omega)
     ·exact .inr (by simp only [List.length_nil] at hx; omega)
theorem aclWords_small {s : List UInt8} {l : List (List UInt8)} (h : aclWords s = some l) : l.length ≤ s.length + 1 ∧ ∀ x ∈ l, x.length ≤ s.length := by
 obtain ⟨r1, r2⟩ := wordsG_small _ _ _ _ l h
 refine ⟨by simpa using r1, fun x hx => ?_⟩
 rcases r2 x hx with h | h
 ·cases h
 ·simpa using h
end Go.Proofs.YtbjmpmgiigombaaGreatDoor
