import Derived.Test.YtkkbbhlihilnpaaGreatDoorWr5
import Derived.Test.YtkkbbhlihilnpaaGreatDoorWr6
set_option linter.all false
set_option maxHeartbeats 8000000
set_option maxRecDepth 100000
namespace Go.Proofs.YtkkbbhlihilnpaaGreatDoor
open Go.RowKit
theorem findD_key {L : List DefS} {c : Bool} {x : LU} {i : Nat} (h : findD L c x = some i) : ∃ d, L[i]? = some d ∧ d.keys.contains (c, smallL x) = true := by
 unfold findD at h
 obtain ⟨hi, hp, _⟩ := List.findIdx?_eq_some_iff_getElem.1 h
 exact ⟨_, List.getElem?_eq_getElem hi, hp⟩
theorem found_short {L : List DefS} (hlim : ∀ d ∈ L, DefLim d) {c : Bool} {x : LU} {i : Nat} (h : findD L c x = some i) : x.length ≤ 1000000 := by
 obtain ⟨d, hd, hk⟩ := findD_key h
 have hl := hlim d (List.mem_of_getElem? hd)
 have hm := List.contains_iff_mem.1 hk
 have hs : (smallL x).length = x.length := by unfold smallL; rw [List.length_map]
 have hs2 : ∀ y : LU, (smallL y).length = y.length := fun y => by unfold smallL; rw [List.length_map]
 unfold DefS.keys at hm
 obtain ⟨n, hn, he⟩ := List.mem_map.1 hm
 have h1 : smallL n = smallL x := (Prod.mk.inj he).2
 have h2 : n.length ≤ 1000000 := by
  rcases List.mem_cons.1 hn with rfl | hn
  ·exact hl.oid
  ·exact hl.names.2 n hn
 have h3 := hs2 n
 rw [h1, hs] at h3
 omega
theorem classN_out {w W : World} {tmps : Array Value} {Q : Ending → World → Prop} (hz : Bk W w.heap.size 89 #[.string ⟨#[]⟩, .string ⟨#[]⟩, .slice none 0 0, .slice none 0 0, .int .i64 0, .slice none 0 0, .slice none 0 0]) (h4 : tmps[4]? = some (.pointer (some ⟨w.heap.size, 0, none⟩))) (h5 : tmps[5]? = some (.int .i64 52))
  (h : Q (.returned (.tuple #[.agg #[.string ⟨#[]⟩, .string ⟨#[]⟩, .slice none 0 0, .slice none 0 0, .int .i64 0, .slice none 0 0, .slice none 0 0], .int .i64 52])) W) :
  bodyPost Tryz.prog Tryz.f48 Q .ret { tmps := tmps, defers := [] } W := by
 have e4 : tmps[4]?.getD undef = .pointer (some ⟨w.heap.size, 0, none⟩) := by rw [h4]; rfl
 have e5 : tmps[5]?.getD undef = .int .i64 52 := by rw [h5]; rfl
 have c0 := hz.cell 0
 have c1 := hz.cell 1
 have c2 := hz.cell 2
 have c3 := hz.cell 3
 have c4 := hz.cell 4
 have c5 := hz.cell 5
 have c6 := hz.cell 6
 simp only [gs3] at c0 c1 c2 c3 c4 c5 c6
 refine bodyPost_ret (v := .tuple #[.agg #[.string ⟨#[]⟩, .string ⟨#[]⟩, .slice none 0 0, .slice none 0 0, .int .i64 0, .slice none 0 0, .slice none 0 0], .int .i64 52]) ?_ rfl h
 simp [results, Tryz.results48, go_sem, e4, e5, c0, c1, c2, c3, c4, c5, c6]
theorem Class_none (s : Nat) (ps : List Nat) (L : List DefS) (x : LU) (w : World) (hS : SchAt w s ps L) (hx : x.length ≤ 140737488351232) (hf : findD L true x = none) :
  Calls Tryz.prog 48 #[.pointer (some ⟨s, 0, none⟩), .string ⟨x.toArray⟩] w fun e w' => e = .returned (.tuple #[.agg #[.string ⟨#[]⟩, .string ⟨#[]⟩, .slice none 0 0, .slice none 0 0, .int .i64 0, .slice none 0 0, .slice none 0 0], .int .i64 52]) ∧ Below w.heap.size w w' := by
 have hb0 : Below w.heap.size w (w.alloc zeroCls) := (Below.refl _ _).alloc (Nat.le_refl _) _
 have hF := find_cW s ps L true x _ (hS.below hb0) hx
 rw [hf] at hF
 have HF : Hid (Calls Tryz.prog 38 #[.pointer (some ⟨s, 0, none⟩), .bool true, .string ⟨x.toArray⟩] (w.alloc zeroCls) fun e w' => e = .returned (.pointer none) ∧ Below (w.alloc zeroCls).heap.size (w.alloc zeroCls) w') := hiD hF
 have hk : Bk (w.alloc zeroCls) w.heap.size 89 #[.string ⟨#[]⟩, .string ⟨#[]⟩, .slice none 0 0, .slice none 0 0, .int .i64 0, .slice none 0 0, .slice none 0 0] := Bk.new w _ _
 have HK := hiD hk
 clear hF hS hf hk
 go_enter Tryz.func48, Tryz.ntmps48
 go_wp2_with (go_at_call 38; refine HF.out.mono ?_; rintro e w1 ⟨rfl, hb1⟩; have hk1 := HK.out.below hb1; have oc0 := hk1.cell 0; have oc1 := hk1.cell 1; have oc2 := hk1.cell 2; have oc3 := hk1.cell 3; have oc4 := hk1.cell 4; have oc5 := hk1.cell 5; have oc6 := hk1.cell 6; simp only [gs3] at oc0 oc1 oc2 oc3 oc4 oc5 oc6; have of := fun i => hk1.frozen i)
 have hz := bk_set7 _ _ _ _ _ _ _ (.string ⟨#[]⟩) (.string ⟨#[]⟩) (.slice none 0 0) (.slice none 0 0) (.int .i64 0) (.slice none 0 0) (.slice none 0 0) hk1
 exact classN_out hz rfl rfl ⟨rfl, below_set7 (hb0.trans (hb1.mono hb0.size)) (Nat.le_refl _) _ _ _ _ _ _ _⟩
theorem texts_keepR {w w' : World} {v : Value} {xs : LL} {r : Option Nat} (h : Texts w v xs) (hg : w.grownBy w' r) (hr : ∀ k, v.ownBlock = some k → r ≠ some k) : Texts w' v xs := by
 rcases h with ⟨rfl, rfl⟩ | ⟨b, c, rfl, hc, hlt, hx⟩
 ·exact .inl ⟨rfl, rfl⟩
 ·have hkb := hg.block b hlt (fun e => hr b rfl e.symm)
  refine .inr ⟨b, c, rfl, hc, Nat.lt_of_lt_of_le hlt hg.size, fun j hj => ?_⟩
  rw [World.cell?_of_block (w := w) (w' := w') (a := ⟨b, j, none⟩) hkb]
  exact hx j hj
def ClsRet7 (w : World) (o : Option Ent.ClassE) (e : Ending) (w' : World) : Prop := Below w.heap.size w w' ∧ ∃ od nm A1 n1 c1 A2 n2 c2 kd Am nm' cm Ay ny cy k, e = .returned (.tuple #[.agg #[.string ⟨od⟩, .string ⟨nm⟩, .slice A1 n1 c1, .slice A2 n2 c2, .int .i64 kd, .slice Am nm' cm, .slice Ay ny cy], .int .i64 k]) ∧ match o with
 | none => k = 52
 | some d => k = 0 ∧ nm = d.name.toArray ∧ kd = d.kind ∧ Texts w' (.slice Am nm' cm) d.must ∧ Texts w' (.slice Ay ny cy) d.may ∧ d.must.length ≤ 1000000 ∧ d.may.length ≤ 1000000 ∧ (∀ k, (Value.slice Am nm' cm).ownBlock = some k → w.heap.size ≤ k) ∧ ∀ k, (Value.slice Ay ny cy).ownBlock = some k → w.heap.size ≤ k
theorem Class_u {L : List DefS} (hL : Sound L) (s : Nat) (ps : List Nat) (x : LU) (w : World) (hS : SchAt w s ps L) (hx : x.length ≤ 140737488351232) :
  Calls Tryz.prog 48 #[.pointer (some ⟨s, 0, none⟩), .string ⟨x.toArray⟩] w (ClsRet7 w ((schE L).cls x)) := by
 cases hc : (schE L).cls x with
 | none =>
  refine (Class_none s ps L x w hS hx (cls_none hc)).mono ?_
  rintro e w' ⟨rfl, hb⟩
  exact ⟨hb, _, _, _, _, _, _, _, _, _, _, _, _, _, _, _, _, rfl, rfl⟩
 | some d =>
  obtain ⟨i, D, hf, hD, _, rfl⟩ := cls_at hc
  refine (Class_o hL s ps x i D w hS (found_short hL.lim hf) hf hD).mono ?_
  rintro e w' ⟨A1, n1, c1, A2, n2, c2, Am, nm, cm, Ay, ny, cy, rfl, hb, t3, t4, l1, l2⟩
  exact ⟨hb, _, _, _, _, _, _, _, _, _, _, _, _, _, _, _, _, rfl, rfl, rfl, rfl, t3, t4, l1, l2⟩
open Go.RowKit
theorem attrO_eqr {L : List DefS} (hrl : ∀ d ∈ L, RuleLim d) (t : LU) : (attrO L t).eqr.length ≤ 1000000 := by
 unfold attrO
 cases h : attrL L t with
 | none => exact Nat.zero_le _
 | some a =>
  obtain ⟨j, d, _, _, _, hc, _, _⟩ := attr_at h
  exact (countsF_lim hrl _ _ _ hc).1
theorem eqrE_eq (L : List DefS) (t : LU) : Ent.eqrE (schE L) t = (attrO L t).eqr := by
 unfold Ent.eqrE attrO schE
 simp only
 cases attrL L t <;> rfl
theorem known_short {L : List DefS} (hlim : ∀ d ∈ L, DefLim d) {t v : LU} (hN : NewSays L) (h : (normTy L t v).1 = 0) : t.length ≤ 1000000 := by
 have h1 : ((schE L).attr t).isSome = true := (schE_law hN).normAttr t v h
 have h2 : (attrL L t).isSome = true := by
  have : ((attrL L t).map infoE).isSome = true := h1
  simpa using this
 obtain ⟨a, ha⟩ := Option.isSome_iff_exists.1 h2
 obtain ⟨j, d, hf, _⟩ := attr_at ha
 exact found_short hlim hf
theorem hasF_c (L : List DefS) (bd bw : Nat) (q want x : LU) (w : World) (hw : Env w) (hd : w.cell? ⟨bd, 5, none⟩ = some (.string ⟨q.toArray⟩)) (hwn : w.cell? ⟨bw, 0, none⟩ = some (.string ⟨want.toArray⟩)) (hq : q.length ≤ 1000000) :
  Calls Tryz.prog 44 #[.string ⟨x.toArray⟩, .pointer (some ⟨bd, 0, none⟩), .pointer (some ⟨bw, 0, none⟩)] w fun e w' => e = .returned (.bool (Ent.hasOne (schE L) q want x)) ∧ Below w.heap.size w w' := by
 have HN := Norm_c q x w hw (by omega)
 rw [normV_eq] at HN
 have HN := hiD HN
 obtain ⟨R, hR⟩ : ∃ R, Ent.hasOne (schE L) q want x = R := ⟨_, rfl⟩
 rw [hR]
 have hR0 : (if q.isEmpty then x == want else (normE q x).1 == 0 && (normE q x).2 == want) = R := hR
 clear hw hR
 cases q with
 | nil =>
  simp only [List.isEmpty_nil, if_true] at hR0
  subst hR0
  clear HN
  go_enter Tryz.func44, Tryz.ntmps44
  go_wp2_with fail
  all_goals
   go_ret
   exact ⟨retb (by first | rfl | (rw [Bool.eq_iff_iff]; simp)), Below.refl _ _⟩
 | cons a t =>
  simp only [List.isEmpty_cons, Bool.false_eq_true, if_false] at hR0
  generalize normE (a :: t) x = p at HN hR0
  obtain ⟨k, y⟩ := p
  simp only at HN hR0
  by_cases hk : k = 0
  ·subst hk
   have hR1 : (y == want) = R := by simpa using hR0
   subst hR1
   clear hR0
   go_enter Tryz.func44, Tryz.ntmps44
   go_wp2_with (go_at_call 41; (with_reducible refine HN.out.mono ?_); rintro e w1 ⟨rfl, hb1⟩; have hwn1 := (hb1.cell (p := ⟨bw, 0, none⟩) (cell_lt hwn)).trans hwn)
   all_goals
    go_ret
    exact ⟨retb (by first | rfl | (rw [Bool.eq_iff_iff]; simp)), hb1⟩
  ·have hkb : (k == 0) = false := beq_eq_false_iff_ne.2 hk
   have hR1 : R = false := by rw [← hR0, hkb]; rfl
   subst hR1
   clear hR0
   go_enter Tryz.func44, Tryz.ntmps44
   go_wp2_with (go_at_call 41; (with_reducible refine HN.out.mono ?_); rintro e w1 ⟨rfl, hb1⟩)
   all_goals
    go_ret
    exact ⟨rfl, hb1⟩
theorem Has_c (s : Nat) (ps : List Nat) (L : List DefS) (hL : Sound L) (en : Ent.EntryE) (va : Value) (t v : LU) (w : World) (hw : Env w) (hS : SchAt w s ps L) (hv : AttrsA w va en.attrs) (hl : en.attrs.length ≤ 1000) (hvn : valsN en.attrs ≤ 1000000) (hlt : ∀ a ∈ en.attrs, a.typ.length ≤ 1000000) (ht : t.length ≤ 140737488351232) :
  Calls Tryz.prog 22 #[.pointer (some ⟨s, 0, none⟩), entryArg en va, .string ⟨t.toArray⟩, .string ⟨v.toArray⟩] w fun e w' => e = .returned (.bool (Ent.hasE (schE L) en t v)) ∧ Below w.heap.size w w' := by
 have HN : Hid (∀ W : World, Below w.heap.size w W → Calls Tryz.prog 21 #[.pointer (some ⟨s, 0, none⟩), .string ⟨t.toArray⟩, .string ⟨v.toArray⟩] W fun e w' => e = .returned (.tuple #[.string ⟨(normTy L t v).2.toArray⟩, .int .i64 (normTy L t v).1]) ∧ Below W.heap.size W w') := hiD fun W h => NormTy_cW s ps L hL.lim hL.rul hL.counts t v W (hw.keep h) (hS.below h) ht
 have HA : Hid (∀ (W : World), Below w.heap.size w W → Calls Tryz.prog 20 #[.pointer (some ⟨s, 0, none⟩), .string ⟨t.toArray⟩] W fun e w' => Below W.heap.size W w' ∧ ∃ A n c, e = .returned (.tuple #[attrV (attrO L t) (.slice A n c), .int .i64 (attrC L t)])) := hiD fun W h => AttrU_c s ps L hL t W (hS.below h) ht
 have hR : Ent.hasE (schE L) en t v = (((normTy L t v).1 == 0) && (Ent.findE (schE L) en t).any (Ent.hasOne (schE L) (attrO L t).eqr (normTy L t v).2)) := by
  unfold Ent.hasE
  rw [eqrE_eq]
  rfl
 have HFd : Hid ((normTy L t v).1 = 0 → ∀ W : World, Below w.heap.size w W → Calls Tryz.prog 43 #[.pointer (some ⟨s, 0, none⟩), entryArg en va, .string ⟨t.toArray⟩] W fun e w' => ∃ A c, e = .returned (.slice A (Ent.findE (schE L) en t).length c) ∧ TextsA w' (.slice A (Ent.findE (schE L) en t).length c) (Ent.findE (schE L) en t) ∧ Below W.heap.size W w') := hiD fun h0 W h => (Find_c s ps L hL en va t W (hS.below h) (hv.below h) hl hvn hlt (known_short hL.lim hL.says h0)).mono (by
  rintro e w' ⟨v', rfl, hO, hb⟩
  obtain ⟨A, c, rfl, _⟩ := hO.isSlice
  exact ⟨A, c, rfl, hO.textsA, hb⟩)
 have HC : Hid (∀ (vv : Value) (W : World) (bd bw : Nat), Below w.heap.size w W → TextsA W vv (Ent.findE (schE L) en t) → W.cell? ⟨bd, 5, none⟩ = some (.string ⟨(attrO L t).eqr.toArray⟩) → W.cell? ⟨bw, 0, none⟩ = some (.string ⟨(normTy L t v).2.toArray⟩) → Calls Tryz.prog 42 #[vv, .func (.func 44) #[] #[.pointer (some ⟨bd, 0, none⟩), .pointer (some ⟨bw, 0, none⟩)]] W fun e w' => e = .returned (.bool ((Ent.findE (schE L) en t).any (Ent.hasOne (schE L) (attrO L t).eqr (normTy L t v).2))) ∧ Below W.heap.size W w') := hiD fun vv W bd bw h hT h5 h0 => ContainsFuncSA_c 44 _ _ vv W hT (Nat.le_trans find_len (Nat.le_trans hvn (by decide))) _ ⟨fun x _ W2 hW2 => hasF_c L bd bw _ _ x W2 (hw.keep (h.trans (hW2.mono h.size))) ((hW2.cell (p := ⟨bd, 5, none⟩) (cell_lt h5)).trans h5) ((hW2.cell (p := ⟨bw, 0, none⟩) (cell_lt h0)).trans h0) (attrO_eqr hL.rul t), fun _ _ => by kernel_rfl⟩
 rw [hR]
 obtain ⟨Av, cv, rfl, hcv⟩ := hv.isSlice
 obtain ⟨dn, attrs⟩ := en
 unfold entryArg at *
 simp only at *
 unfold attrV attrCells at HA
 generalize Ent.findE (schE L) ⟨dn, attrs⟩ t = fl at *
 generalize attrO L t = ad at *
 generalize attrC L t = ac at *
 generalize normTy L t v = p at *
 obtain ⟨k, nv⟩ := p
 simp only at *
 generalize (fl.any (Ent.hasOne (schE L) ad.eqr nv)) = bf at *
 clear hS hv hw hL hvn hlt hR
 have hb0 := bel_one w (.cells #[.string ⟨dn.toArray⟩, .slice Av attrs.length cv] 37)
 have hkE := Bk.new w 37 #[.string ⟨dn.toArray⟩, .slice Av attrs.length cv]
 by_cases hk : k = 0
 ·subst hk
  have HF2 := hiD (HFd.out rfl)
  clear HFd
  go_enter Tryz.func22, Tryz.ntmps22
  go_wp2_with (first
   | (go_at_call 21; (with_reducible refine (HN.out _ hb0).mono ?_); rintro e w1 ⟨rfl, hb1⟩; have hB1 := hb0.trans (hb1.mono hb0.size); have hW := bel_one w1 (.cells #[.string ⟨nv.toArray⟩] 9); have hB2 := hB1.trans (hW.mono hB1.size); have hkW := Bk.new w1 9 #[.string ⟨nv.toArray⟩]; have hkE2 := (hkE.below hb1).below hW)
   | (go_at_call 20; (with_reducible refine (HA.out _ hB2).mono ?_); rintro e w3 ⟨hb3, A1, n1, c1, rfl⟩; have hB3 := hB2.trans (hb3.mono hB2.size); have hD := bel_one w3 (.cells (adC ad A1 n1 c1) 41); have hB4 := hB3.trans (hD.mono hB3.size); have hkD := Bk.new w3 41 (adC ad A1 n1 c1); have hkW4 := (hkW.below hb3).below hD; have hkE4 := (hkE2.below hb3).below hD; have x0 := hkE4.cell 0; have x1 := hkE4.cell 1; simp only [gs3] at x0 x1)
   | (go_at_call 43; (with_reducible refine (HF2.out _ hB4).mono ?_); rintro e w5 ⟨A5, c5, rfl, hT5, hb5⟩; have hB5 := hB4.trans (hb5.mono hB4.size); have d5 := (hkD.below hb5).cell 5; have w5c := (hkW4.below hb5).cell 0; simp only [gs3] at d5 w5c)
   | (go_at_call 42; (with_reducible refine (HC.out _ _ _ _ hB5 hT5 d5 w5c).mono ?_); rintro e w6 ⟨rfl, hb6⟩))
  all_goals
   go_ret
   exact ⟨retb (by simp), hB5.trans (hb6.mono hB5.size)⟩
 ·have hkb : (k == 0) = false := beq_eq_false_iff_ne.2 hk
  rw [hkb]
  clear HFd HC HA
  go_enter Tryz.func22, Tryz.ntmps22
  go_wp2_with (go_at_call 21; (with_reducible refine (HN.out _ hb0).mono ?_); rintro e w1 ⟨rfl, hb1⟩; have hB1 := hb0.trans (hb1.mono hb0.size); have hW := bel_one w1 (.cells #[.string ⟨nv.toArray⟩] 9); have hB2 := hB1.trans (hW.mono hB1.size))
  all_goals
   go_ret
   exact ⟨rfl, hB2⟩
end Go.Proofs.YtkkbbhlihilnpaaGreatDoor
