import Derived.Test.YtconnibnpckadaaGreatDoorWvd8
set_option linter.all false
set_option maxHeartbeats 8000000
set_option maxRecDepth 100000
namespace Go.Proofs.YtconnibnpckadaaGreatDoor
open Go.RowKit
def SetT (w : World) (m : Nat) (xs : List (List UInt8)) : Prop := ∃ es c, MapS w m es c (xs.map fun x => (x, .agg #[]))
theorem SetT.lt {w : World} {m : Nat} {xs : List (List UInt8)} (h : SetT w m xs) : m < w.heap.size := by
 obtain ⟨es, c, h1⟩ := h
 exact h1.lt
theorem SetT.below {w w' : World} {m : Nat} {xs : List (List UInt8)} (h : SetT w m xs) (hb : Below w.heap.size w w') : SetT w' m xs := by
 obtain ⟨es, c, h1⟩ := h
 exact ⟨es, c, h1.keep (hb.block m h1.lt)⟩
theorem SetT.made (w : World) : SetT (w.alloc (.map #[] 0)) w.heap.size [] := ⟨_, _, MapS.made w⟩
def entryArg (e : Ent.EntryE) (va : Value) : Value := .agg #[.string ⟨e.dn.toArray⟩, va]
def findF (f : List UInt8 → Bool) : List Ent.AttrE → List (List UInt8) → List (List UInt8)
 | [], acc => acc
 | a :: l, acc => if f a.typ then findF f l (acc ++ a.vals) else findF f l acc
theorem findF_eq (S : Ent.SchE) (dn t : List UInt8) : ∀ (l : List Ent.AttrE) (acc : List (List UInt8)), findF (fun x => S.sub x t) l acc = acc ++ Ent.findE S ⟨dn, l⟩ t
 | [], acc => by simp [findF, Ent.findE]
 | a :: l, acc => by
  have e : Ent.findE S ⟨dn, a :: l⟩ t = (if S.sub a.typ t then a.vals else []) ++ Ent.findE S ⟨dn, l⟩ t := by
   unfold Ent.findE
   rw [List.flatMap_cons]
  rw [findF, findF_eq S dn t l, findF_eq S dn t l, e]
  split <;> simp
def valsN (l : List Ent.AttrE) : Nat := (l.map fun a => a.vals.length).sum
theorem valsN_cons (a : Ent.AttrE) (l : List Ent.AttrE) : valsN (a :: l) = a.vals.length + valsN l := by simp [valsN]
set_option maxRecDepth 100000 in
theorem Find_c (s : Nat) (ps : List Nat) (L : List DefS) (hL : Sound L) (en : Ent.EntryE) (va : Value) (t : List UInt8) (w : World) (hS : SchAt w s ps L) (hv : AttrsA w va en.attrs) (hl : en.attrs.length ≤ 1000) (hvn : valsN en.attrs ≤ 1000000) (hlt : ∀ a ∈ en.attrs, a.typ.length ≤ 1000000) (ht : t.length ≤ 1000000) :
  Calls Tryz.prog 128 #[.pointer (some ⟨s, 0, none⟩), entryArg en va, .string ⟨t.toArray⟩] w fun e w' => ∃ v, e = .returned v ∧ Own w.heap.size w' v (Ent.findE (schE L) en t) ∧ Below w.heap.size w w' := by
 obtain ⟨R, hR⟩ : ∃ R, Ent.findE (schE L) en t = R := ⟨_, rfl⟩
 obtain ⟨dn, attrs⟩ := en
 have hR0 : findF (fun x => isSubD L x t) attrs [] = R := by
  have := findF_eq (schE L) dn t attrs []
  rw [hR] at this
  have h2 : findF (fun x => (schE L).sub x t) attrs [] = R := by simpa using this
  exact h2
 rw [hR]
 unfold entryArg
 simp only at hv hl hvn hlt ⊢
 have HI : Hid (∀ a ∈ attrs, ∀ W : World, Below w.heap.size w W → Calls Tryz.prog 162 #[.pointer (some ⟨s, 0, none⟩), .string ⟨a.typ.toArray⟩, .string ⟨t.toArray⟩] W fun e w' => e = .returned (.bool (isSubD L a.typ t)) ∧ Below W.heap.size W w') := Lib.hid fun a ha W h => IsSub_c s ps L a.typ t W (hS.below h) hL.lim (by have := hL.says.len; omega) hL.says.sup_known (hlt a ha) ht
 obtain ⟨A, c, rfl, hc, hcell⟩ := hv.at
 have HV := Lib.hid hcell
 have HR := Lib.hid hR0
 clear hv hcell hS hL hR hR0 hlt ht
 obtain ⟨na, hna⟩ : ∃ n, n = attrs.length := ⟨_, rfl⟩
 have hb0 : Below w.heap.size w (w.alloc (.cells #[.string ⟨dn.toArray⟩, .slice A attrs.length c] 44)) := (Below.refl _ _).alloc (Nat.le_refl _) _
 go_enter Tryz.func128, Tryz.ntmps128
 go_wp2_with fail
 go_loopg [7, 13] attrs.length (fun gk out i wr => ∃ (k : Nat) (acc : List (List UInt8)), k ≤ attrs.length ∧ i = .int .i64 k ∧ Aside (k + gk = attrs.length) ∧ Aside (acc.length + valsN (attrs.drop k) ≤ 1000000) ∧ Aside (Below w.heap.size w wr ∧ Own w.heap.size wr out acc) ∧ Aside (findF (fun x => isSubD L x t) (attrs.drop k) acc = R))
 case atStart => exact ⟨0, [], by omega, rfl, by show _ = _; omega, by show _ ≤ _; simpa using hvn, ⟨hb0, Own.nil hb0.size⟩, HR.out⟩
 case round =>
  clear HR hb0
  obtain ⟨k, acc, hk, rfl, AG, AC, AB, AS⟩ := hrel
  obtain ⟨Ao, co, rfl, hco⟩ := AB.out.2.isSlice
  by_cases hlt : k < attrs.length
  ·obtain ⟨q, rfl⟩ : ∃ q, gk = q + 1 := ⟨gk - 1, by have := AG.out; omega⟩
   obtain ⟨b, o, va, rfl, c0, c1, hta⟩ := HV.out k hlt
   have HMEM := Lib.hid (List.getElem_mem hlt)
   have AS' : Aside ((if isSubD L attrs[k].typ t then findF (fun x => isSubD L x t) (attrs.drop (k + 1)) (acc ++ attrs[k].vals) else findF (fun x => isSubD L x t) (attrs.drop (k + 1)) acc) = R) := by have := AS.out; rw [List.drop_eq_getElem_cons hlt] at this; exact this
   have hcnt : acc.length + (attrs[k].vals.length + valsN (attrs.drop (k + 1))) ≤ 1000000 := by have := AC.out; rw [List.drop_eq_getElem_cons hlt, valsN_cons] at this; exact this
   have d0 := (AB.out.1.cell (cell_lt c0)).trans c0
   have d1 := (AB.out.1.cell (cell_lt c1)).trans c1
   have hadd := add_at2
   clear AS c0 c1 AC
   generalize attrs[k] = x at *
   obtain ⟨typ, vals⟩ := x
   simp only at AS' hcnt d0 hta
   obtain ⟨Av, nv, cv, rfl⟩ : ∃ A n c, va = .slice A n c := by
    obtain ⟨A, c, h, _⟩ := hta.at
    exact ⟨A, _, c, h⟩
   have hbx : Below wr.heap.size wr (wr.alloc (.cells #[.string ⟨typ.toArray⟩, .slice Av nv cv] 200)) := (Below.refl _ _).alloc (Nat.le_refl _) _
   have hBx := AB.out.1.trans (hbx.mono AB.out.1.size)
   have hkx : Bk (wr.alloc (.cells #[.string ⟨typ.toArray⟩, .slice Av nv cv] 200)) wr.heap.size 200 #[.string ⟨typ.toArray⟩, .slice Av nv cv] := Bk.new wr _ _
   have hO1 := AB.out.2.below hbx
   have HI1 := Lib.hid (HI.out ⟨typ, vals⟩ HMEM.out _ hBx)
   have HTA := Lib.hid (hta.below hBx)
   clear hta HMEM
   simp only at HI1
   cases hsub : isSubD L typ t
   ·rw [hsub] at HI1 AS'
    simp only [Bool.false_eq_true, if_false] at AS'
    clear hsub
    go_wp2_with (go_at_call 162; (with_reducible refine HI1.out.mono ?_); rintro e w2 ⟨rfl, hb2⟩)
    go_roundg q
    case measure => omega
    case rel => exact ⟨k + 1, acc, by omega, by go_num, by have := AG.out; show _ = _; omega, by show _ ≤ _; omega, ⟨hBx.trans (hb2.mono hBx.size), hO1.below hb2⟩, AS'.out⟩
   ·rw [hsub] at HI1 AS'
    simp only [if_true] at AS'
    clear hsub
    go_wp2_with (first | (go_at_call 162; (with_reducible refine HI1.out.mono ?_); rintro e w2 ⟨rfl, hb2⟩; have hO2 := hO1.below hb2; have hB2 := hBx.trans (hb2.mono hBx.size); have hT2 := HTA.out.below hb2; have e1 : w2.cell? ⟨wr.heap.size, 1, none⟩ = some (.slice Av nv cv) := (hkx.below hb2).cell 1) | (at_builtin; refine own_moreA rfl _ _ rfl rfl hO2 rfl hT2 (by omega) ?_; intro v' w4 hO4 hg4))
    go_roundg q
    case measure => omega
    case rel => exact ⟨k + 1, acc ++ vals, by omega, by go_num, by have := AG.out; show _ = _; omega, by show _ ≤ _; rw [List.length_append]; omega, ⟨Own.bel hB2 hO2 hg4, hO4⟩, AS'.out⟩
  ·obtain rfl : k = attrs.length := by omega
   have AS2 : Aside (R = acc) := by have := AS.out; rw [List.drop_length] at this; exact this.symm
   clear AS
   go_wp2_with fail
   go_ret
   rw [AS2.out]
   exact ⟨_, rfl, AB.out.2, AB.out.1⟩
open Go.RowKit
def attrO (L : List DefS) (t : List UInt8) : AttrS := (attrL L t).getD noAttr
def attrC (L : List DefS) (t : List UInt8) : Int := if (attrL L t).isSome then 0 else 52
theorem AttrU_c (s : Nat) (ps : List Nat) (L : List DefS) (hL : Sound L) (t : List UInt8) (w : World) (hS : SchAt w s ps L) (ht : t.length ≤ 140737488351232) :
  Calls Tryz.prog 52 #[.pointer (some ⟨s, 0, none⟩), .string ⟨t.toArray⟩] w fun e w' => Below w.heap.size w w' ∧ ∃ A n c, e = .returned (.tuple #[attrV (attrO L t) (.slice A n c), .int .i64 (attrC L t)]) := by
 unfold attrO attrC
 cases hf : findD L false t with
 | none =>
  have ha : attrL L t = none := by unfold attrL; rw [hf]
  rw [ha]
  refine (Attr_noneW s ps L t w hS ht hf).mono ?_
  rintro e w' ⟨h1, h2⟩
  exact ⟨h1, none, 0, 0, h2⟩
 | some j =>
  obtain ⟨a, ha⟩ := hL.counts t j hf
  have ha2 : attrL L t = some a := by unfold attrL; rw [hf]; exact ha
  rw [ha2]
  refine (Attr_someW s ps L hL.lim t j a w hS ht hf ha).mono ?_
  rintro e w' ⟨h1, nv, rfl, h2⟩
  obtain ⟨A, c, rfl, _⟩ := h2.isSlice
  exact ⟨h1, A, _, c, rfl⟩
def nmV (k : List UInt8 × List UInt8) : Value := .agg #[.string ⟨k.1.toArray⟩, .string ⟨k.2.toArray⟩]
def SetN (w : World) (m : Nat) (xs : List (List UInt8 × List UInt8)) : Prop := ∃ es c, w.heap[m]? = some (.map es c) ∧ MapR nmV es (xs.map fun x => (x, Value.agg #[]))
theorem SetN.lt {w : World} {m : Nat} {xs : List (List UInt8 × List UInt8)} (h : SetN w m xs) : m < w.heap.size := by
 obtain ⟨es, c, h1, _⟩ := h
 exact (Array.getElem?_eq_some_iff.1 h1).1
theorem SetN.below {w w' : World} {m : Nat} {xs : List (List UInt8 × List UInt8)} (h : SetN w m xs) (hb : Below w.heap.size w w') : SetN w' m xs := by
 have hl := h.lt
 obtain ⟨es, c, h1, h2⟩ := h
 exact ⟨es, c, (hb.block m hl).trans h1, h2⟩
theorem SetN.made (w : World) : SetN (w.alloc (.map #[] 0)) w.heap.size [] := ⟨#[], 0, heap_alloc_new w _, rfl⟩
theorem parse_no {x : List UInt8} (h : (parseL x).1 ≠ 0) : (parseL x).2 = [] := by
 unfold parseL at h ⊢
 split
 ·rfl
 ·next hx =>
  rw [if_neg hx] at h
  split
  ·rfl
  ·next d hd =>
   rw [hd] at h
   simp only at h
   split
   ·rfl
   ·next ht =>
    rw [if_neg ht] at h
    exact absurd rfl h
open Go.RowKit
def atI : Option Nat → Int
 | none => -1
 | some k => k
theorem idx_any {α : Type} {P : α → Bool} (l : List α) : decide (0 ≤ atI (l.findIdx? P)) = l.any P := by
 cases h : l.findIdx? P with
 | none =>
  rw [List.findIdx?_eq_none_iff] at h
  have : l.any P = false := by
   rw [List.any_eq_false]
   intro y hy
   simp [h y hy]
  rw [this]; rfl
 | some k =>
  obtain ⟨hk, hp, _⟩ := List.findIdx?_eq_some_iff_getElem.1 h
  have : l.any P = true := List.any_eq_true.2 ⟨_, List.getElem_mem hk, hp⟩
  rw [this]; simp [atI]
set_option maxRecDepth 10000 in
theorem IndexFuncSA_c (f : FuncId) (cap : Array Value) (xs : List (List UInt8)) (v : Value) (w : World) (hv : TextsA w v xs) (hl : xs.length ≤ 4611686018427387904) (P : List UInt8 → Bool) (hF : AskS w f cap xs P) :
  Calls Tryz.prog 88 #[v, .func (.func f) #[] cap] w fun e w' => (∃ i : Int, e = .returned (.int .i64 i) ∧ decide (0 ≤ i) = xs.any P) ∧ Below w.heap.size w w' := by
 have HF := Lib.hid hF.call
 have hent := hF.enter
 clear hF
 obtain ⟨A, c, rfl, hc, hcell⟩ := hv.at
 have HV := Lib.hid hcell
 clear hv hcell
 go_enter Tryz.func88, Tryz.ntmps88
 go_wp2_with fail
 go_loopg [8] xs.length (fun gk i wr => ∃ k : Nat, k ≤ xs.length ∧ i = .int .i64 k ∧ Aside (k + gk = xs.length) ∧ Below w.heap.size w wr ∧ Aside (xs.any P = (xs.drop k).any P))
 case atStart => exact ⟨0, by omega, rfl, by show _ = _; omega, Below.refl _ _, rfl⟩
 case round =>
  obtain ⟨k, hk, rfl, AG, hB, AS⟩ := hrel
  by_cases hlt : k < xs.length
  ·obtain ⟨q, rfl⟩ : ∃ q, gk = q + 1 := ⟨gk - 1, by have := AG.out; omega⟩
   obtain ⟨a, rfl, c0⟩ := HV.out k hlt
   have AS' : Aside (xs.any P = (P xs[k] || (xs.drop (k + 1)).any P)) := by have := AS.out; rw [List.drop_eq_getElem_cons hlt] at this; exact this
   have d0 := (hB.cell (cell_lt c0)).trans c0
   have hC := HF.out xs[k] (List.getElem_mem hlt) wr hB
   clear AS c0
   generalize xs[k] = x at hC AS' d0
   cases hP : P x
   all_goals
    have HP := Lib.hid hP
    rw [hP] at hC
    have HC := Lib.hid hC
    clear hP hC
   ·go_wp2_with ((with_reducible refine HC.out.mono ?_); rintro e w2 ⟨rfl, hb2⟩)
    go_roundg q
    case measure => omega
    case rel => exact ⟨k + 1, by omega, by go_num, by have := AG.out; show _ = _; omega, hB.trans (hb2.mono hB.size), by have := AS'.out; rw [HP.out] at this; exact this⟩
   ·go_wp2_with ((with_reducible refine HC.out.mono ?_); rintro e w2 ⟨rfl, hb2⟩)
    go_ret
    exact ⟨⟨k, rfl, by rw [AS'.out, HP.out]; simp⟩, hB.trans (hb2.mono hB.size)⟩
  ·obtain rfl : k = xs.length := by omega
   have hs : xs.any P = false := by have := AS.out; rw [List.drop_length] at this; exact this
   have Hs := Lib.hid hs
   clear hs AS
   go_wp2_with fail
   go_ret
   exact ⟨⟨-1, rfl, by rw [Hs.out]; rfl⟩, hB⟩
theorem ContainsFuncSA_c (f : FuncId) (cap : Array Value) (xs : List (List UInt8)) (v : Value) (w : World) (hv : TextsA w v xs) (hl : xs.length ≤ 4611686018427387904) (P : List UInt8 → Bool) (hF : AskS w f cap xs P) :
  Calls Tryz.prog 43 #[v, .func (.func f) #[] cap] w fun e w' => e = .returned (.bool (xs.any P)) ∧ Below w.heap.size w w' := by
 have hI := IndexFuncSA_c f cap xs v w hv hl P hF
 obtain ⟨A, c, rfl, hc, _⟩ := hv.at
 clear hF hv
 go_enter Tryz.func43, Tryz.ntmps43
 go_wp2_with (go_at_call 88; refine hI.mono ?_; rintro e w1 ⟨⟨i, rfl, hi⟩, hb1⟩; have Hi := Lib.hid hi; clear hi)
 all_goals
  go_ret
  exact ⟨retb (by rw [← Hi.out]), hb1⟩
theorem IndexSA_c (x : List UInt8) (xs : List (List UInt8)) (v : Value) (w : World) (hv : TextsA w v xs) (hl : xs.length ≤ 4611686018427387904) :
  Calls Tryz.prog 112 #[v, .string ⟨x.toArray⟩] w fun e w' => e = .returned (.int .i64 (atI (xs.findIdx? (· == x)))) ∧ w = w' := by
 obtain ⟨R, hR⟩ : ∃ R : Int, (atI (xs.findIdx? (· == x))) = R := ⟨_, rfl⟩
 rw [hR]
 obtain ⟨A, c, rfl, hc, hcell⟩ := hv.at
 have HV := Lib.hid hcell
 have HR := Lib.hid hR
 clear hv hcell hR
 go_enter Tryz.func112, Tryz.ntmps112
 go_wp2_with fail
 go_loopg [8] xs.length (fun gk i wr => ∃ k : Nat, k ≤ xs.length ∧ i = .int .i64 k ∧ Aside (k + gk = xs.length) ∧ w = wr ∧ Aside (∀ y ∈ xs.take k, y ≠ x))
 case atStart => exact ⟨0, by omega, rfl, by show _ = _; omega, rfl, by show ∀ y ∈ _, _; simp⟩
 case round =>
  obtain ⟨k, hk, rfl, AG, rfl, AS⟩ := hrel
  by_cases hlt : k < xs.length
  ·obtain ⟨q, rfl⟩ : ∃ q, gk = q + 1 := ⟨gk - 1, by have := AG.out; omega⟩
   obtain ⟨a, rfl, hcell⟩ := HV.out k hlt
   have HRk : Hid (xs[k] = x → R = k) := Lib.hid fun he => by
    have : xs.findIdx? (· == x) = some k := by
     rw [List.findIdx?_eq_some_iff_getElem]
     refine ⟨hlt, by simpa using he, fun j hj => ?_⟩
     have := AS.out xs[j] (by rw [List.mem_take_iff_getElem]; exact ⟨j, by omega, rfl⟩)
     simpa using this
    rw [← HR.out, this]; rfl
   have HAS : Hid (xs[k] ≠ x → ∀ y ∈ xs.take (k + 1), y ≠ x) := Lib.hid fun he y hy => by
    rw [List.take_succ_eq_append_getElem hlt] at hy
    rcases List.mem_append.1 hy with hy | hy
    ·exact AS.out y hy
    ·rw [List.mem_singleton.1 hy]; exact he
   clear AS
   generalize xs[k] = y at hcell HRk HAS
   by_cases hyx : x = y
   ·subst hyx
    have Hf := Lib.hid (HRk.out rfl)
    clear HRk HAS
    go_wp2_with fail
    all_goals
     go_ret
     exact ⟨by rw [Hf.out]; try rfl, rfl⟩
   ·have hb1 : (x == y) = false := beq_eq_false_iff_ne.2 hyx
    have hb2 : (y == x) = false := beq_eq_false_iff_ne.2 (Ne.symm hyx)
    have Hf := Lib.hid (HAS.out (Ne.symm hyx))
    clear HRk HAS hyx
    go_wp2_with fail
    go_roundg q
    case measure => omega
    case rel => exact ⟨k + 1, by omega, by go_num, by have := AG.out; show _ = _; omega, rfl, Hf.out⟩
  ·obtain rfl : k = xs.length := by omega
   have hs : R = -1 := by
    have : xs.findIdx? (· == x) = none := by
     rw [List.findIdx?_eq_none_iff]
     intro y hy
     have := AS.out y (by rw [List.take_length]; exact hy)
     simpa using this
    rw [← HR.out, this]; rfl
   have Hs := Lib.hid hs
   clear hs AS
   go_wp2_with fail
   go_ret
   exact ⟨by rw [Hs.out]; try rfl, rfl⟩
theorem ContainsSA_c (x : List UInt8) (xs : List (List UInt8)) (v : Value) (w : World) (hv : TextsA w v xs) (hl : xs.length ≤ 4611686018427387904) :
  Calls Tryz.prog 67 #[v, .string ⟨x.toArray⟩] w fun e w' => e = .returned (.bool (xs.contains x)) ∧ w = w' := by
 have hI := IndexSA_c x xs v w hv hl
 have hi : decide (0 ≤ atI (xs.findIdx? (· == x))) = xs.contains x := by
  rw [idx_any, List.contains_eq_any_beq]
  congr 1
  funext y
  rw [Bool.eq_iff_iff, beq_iff_eq, beq_iff_eq]
  exact eq_comm
 obtain ⟨i, hie⟩ : ∃ i, atI (xs.findIdx? (· == x)) = i := ⟨_, rfl⟩
 rw [hie] at hI hi
 have Hi := Lib.hid hi
 obtain ⟨A, c, rfl, hc, _⟩ := hv.at
 clear hv hie hi
 go_enter Tryz.func67, Tryz.ntmps67
 go_wp2_with (go_at_call 112; refine hI.mono ?_; rintro e w1 ⟨rfl, rfl⟩)
 all_goals
  go_ret
  exact ⟨retb (by rw [← Hi.out]), rfl⟩
end Go.Proofs.YtconnibnpckadaaGreatDoor
