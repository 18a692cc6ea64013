import Derived.Test.YtbjmpmgiigombaaGreatDoorWve0
set_option linter.all false
set_option maxHeartbeats 8000000
namespace Go.Proofs.YtbjmpmgiigombaaGreatDoor
open Go.RowKit
theorem aclPrint_c (r : RuleS) (va vg : Value) (w : World) (hw : Env w) (hva : TextsA w va r.attrs) (hvg : GrantsA w vg r.grants) (hlim : AclLim r) :
  Calls Tryz.prog 12 #[ruleArg r va vg] w fun e w' => e = .returned (.tuple #[.string ⟨(printA r).2.toArray⟩, .int .i64 (printA r).1]) ∧ Below w.heap.size w w' := by
 cases hs : saidA r
 ·have hp : printA r = (100, []) := by unfold printA; rw [hs]; rfl
  rw [hp]
  exact Print_bad r va vg w hw hva hvg hlim.nattrs (fun t ht => Nat.le_trans (attr_in_join _ t ht) hlim.attrs) hlim.ngrants hs
 ·exact Print_ok r va vg w hw hva hvg hlim hs
set_option maxRecDepth 100000 in
theorem valid1_c (s bs : Nat) (ps : List Nat) (L : List DefS) (hL : Sound L) (x : List UInt8) (w : World) (hw : Env w) (hS : SchAt w s ps L) (hb : w.cell? ⟨bs, 0, none⟩ = some (ptrV s)) :
  Calls Tryz.prog 182 #[.string ⟨x.toArray⟩, .pointer (some ⟨bs, 0, none⟩)] w fun e w' => e = .returned (.bool (badName L x)) ∧ Below w.heap.size w w' := by
 have HK := Lib.hid (Key_c s ps L hL x w hw hS)
 unfold badName
 obtain ⟨er, k, hk⟩ : ∃ a b, keyS L x = (a, b) := ⟨_, _, rfl⟩
 rw [hk] at HK ⊢
 unfold intStr ptrV at *
 clear hS hw hL hk
 simp only at HK ⊢
 go_enter Tryz.func182, Tryz.ntmps182
 go_wp2_with (go_at_call 183; refine HK.out.mono ?_; rintro e w1 ⟨rfl, hb1⟩)
 go_ret
 exact ⟨rfl, hb1⟩
set_option maxRecDepth 100000 in
theorem valid2_c (s bs bf : Nat) (ps : List Nat) (L : List DefS) (hL : Sound L) (g : GrantS) (w : World) (hw : Env w) (hS : SchAt w s ps L) (hb : w.cell? ⟨bs, 0, none⟩ = some (ptrV s)) (hf : w.cell? ⟨bf, 0, none⟩ = some (.func (.func 182) #[] #[.pointer (some ⟨bs, 0, none⟩)])) :
  Calls Tryz.prog 184 #[.agg #[.int .i64 g.who, .string ⟨g.name.toArray⟩, .int .i64 g.level], .pointer (some ⟨bf, 0, none⟩)] w fun e w' => e = .returned (.bool (namedB g.who && badName L g.name)) ∧ Below w.heap.size w w' := by
 obtain ⟨who, name, level⟩ := g
 simp only
 have hba := (Below.refl w.heap.size w).alloc (Nat.le_refl _) (.cells #[.int .i64 who, .string ⟨name.toArray⟩, .int .i64 level] 61)
 have HV := Lib.hid (valid1_c s bs ps L hL name _ (hw.keep hba) (hS.below hba) ((hba.cell (p := ⟨bs, 0, none⟩) (cell_lt hb)).trans hb))
 have hf2 : (w.alloc (.cells #[.int .i64 who, .string ⟨name.toArray⟩, .int .i64 level] 61)).cell? ⟨bf, 0, none⟩ = some (.func (.func 182) #[] #[.pointer (some ⟨bs, 0, none⟩)]) := (hba.cell (p := ⟨bf, 0, none⟩) (cell_lt hf)).trans hf
 obtain ⟨bn, hbn⟩ : ∃ b, namedB who = b := ⟨_, rfl⟩
 have HNM : Hid (∀ W : World, Calls Tryz.prog 29 #[.int .i64 who] W fun e w' => e = .returned (.bool bn) ∧ W = w') := Lib.hid fun W => by rw [← hbn]; exact named_c _ W
 have hent : ∀ (args : Array Value) (W : World), (callFunc 182 args).run Tryz.prog W = .ok (.enter 182 args) W := fun _ _ => by kernel_rfl
 rw [hbn]
 generalize badName L name = bb at HV ⊢
 clear hS hw hL hb hf hbn
 cases bn
 ·go_enter Tryz.func184, Tryz.ntmps184
  go_wp2_with (go_at_call 29; refine (HNM.out _).mono ?_; rintro e w1 ⟨rfl, rfl⟩)
  all_goals
   go_ret
   exact ⟨rfl, hba⟩
 ·go_enter Tryz.func184, Tryz.ntmps184
  go_wp2_with (first | (go_at_call 29; refine (HNM.out _).mono ?_; rintro e w1 ⟨rfl, rfl⟩) | ((with_reducible refine HV.out.mono ?_); rintro e w2 ⟨rfl, hb2⟩))
  all_goals
   go_ret
   exact ⟨rfl, hba.trans (hb2.mono hba.size)⟩
set_option maxRecDepth 100000 in
theorem valid3_c (s bs : Nat) (ps : List Nat) (L : List DefS) (hL : Sound L) (t : List UInt8) (w : World) (hS : SchAt w s ps L) (hb : w.cell? ⟨bs, 0, none⟩ = some (ptrV s)) (ht : t.length ≤ 1000000) :
  Calls Tryz.prog 185 #[.string ⟨t.toArray⟩, .pointer (some ⟨bs, 0, none⟩)] w fun e w' => e = .returned (.bool (!isWordA t && (findD L false t).isNone)) ∧ Below w.heap.size w w' := by
 obtain ⟨er, hn, HA⟩ : ∃ er : Int, (er != 0) = (findD L false t).isNone ∧ Hid (Calls Tryz.prog 186 #[.pointer (some ⟨s, 0, none⟩), .string ⟨t.toArray⟩] w fun e w' => ∃ a A n c, e = .returned (.tuple #[attrV a (.slice A n c), .int .i64 er]) ∧ Below w.heap.size w w') := by
  cases hf : findD L false t with
  | none =>
   refine ⟨52, rfl, Lib.hid ((Attr_none s ps L t w hS ht hf).mono ?_)⟩
   rintro e w' ⟨h1, rfl⟩
   exact ⟨noAttr, none, 0, 0, rfl, h1⟩
  | some j =>
   obtain ⟨a, ha⟩ := hL.counts t j hf
   refine ⟨0, rfl, Lib.hid ((Attr_some s ps L hL.lim t j a w hS ht hf ha).mono ?_)⟩
   rintro e w' ⟨h1, nv, rfl, h2⟩
   obtain ⟨A, c, rfl, _⟩ := h2.isSlice
   exact ⟨a, A, _, c, rfl, h1⟩
 have HW := Lib.hid (fun W => isWord_c t W)
 unfold ptrV at hb
 unfold attrV attrCells at HA
 rw [← hn]
 generalize isWordA t = bw at HW ⊢
 clear hS hL hn
 cases bw
 ·go_enter Tryz.func185, Tryz.ntmps185
  go_wp2_with (first | (go_at_call 186; refine HA.out.mono ?_; rintro e w1 ⟨a, A, n, c, rfl, hb1⟩) | (go_at_call 187; refine (HW.out _).mono ?_; rintro e w2 ⟨rfl, rfl⟩))
  all_goals
   go_ret
   exact ⟨rfl, hb1.alloc hb1.size _⟩
 ·go_enter Tryz.func185, Tryz.ntmps185
  go_wp2_with (first | (go_at_call 186; refine HA.out.mono ?_; rintro e w1 ⟨a, A, n, c, rfl, hb1⟩) | (go_at_call 187; refine (HW.out _).mono ?_; rintro e w2 ⟨rfl, rfl⟩))
  all_goals
   go_ret
   exact ⟨rfl, hb1.alloc hb1.size _⟩
theorem attr_short {r : RuleS} (h : (printA r).1 = 0) (t : List UInt8) (ht : t ∈ r.attrs) : t.length ≤ 1000000 := by
 have hs : saidA r = true := by
  cases hs : saidA r with
  | true => rfl
  | false => rw [show printA r = (100, []) by unfold printA; rw [hs]; rfl] at h; cases h
 obtain ⟨_, _, _, _, _, _, ha, _⟩ := rule_said hs
 have := ha t ht
 cases t with
 | nil => exact Nat.zero_le _
 | cons a m =>
  unfold isTypeL at this
  simp only [Bool.and_eq_true, decide_eq_true_eq] at this
  omega
set_option maxRecDepth 100000 in
theorem aclValid_c (s : Nat) (ps : List Nat) (L : List DefS) (hL : Sound L) (r : RuleS) (va vg : Value) (w : World) (hw : Env w) (hS : SchAt w s ps L) (hva : TextsA w va r.attrs) (hvg : GrantsA w vg r.grants) (hlim : AclLim r) :
  Calls Tryz.prog 111 #[.pointer (some ⟨s, 0, none⟩), ruleArg r va vg] w fun e w' => e = .returned (.bool (validA L r)) ∧ Below w.heap.size w w' := by
 have HP : Hid (∀ W, Below w.heap.size w W → Calls Tryz.prog 12 #[ruleArg r va vg] W fun e w' => e = .returned (.tuple #[.string ⟨(printA r).2.toArray⟩, .int .i64 (printA r).1]) ∧ Below W.heap.size W w') := Lib.hid fun W hW => aclPrint_c r va vg W (hw.keep hW) (hva.below hW) (hvg.below hW) hlim
 have HV : Hid (∀ W, Below w.heap.size w W → W.cell? ⟨w.heap.size, 0, none⟩ = some (.pointer (some ⟨s, 0, none⟩)) → Calls Tryz.prog 182 #[.string ⟨r.name.toArray⟩, .pointer (some ⟨w.heap.size, 0, none⟩)] W fun e w' => e = .returned (.bool (badName L r.name)) ∧ Below W.heap.size W w') := Lib.hid fun W hW hc => valid1_c s w.heap.size ps L hL r.name W (hw.keep hW) (hS.below hW) hc
 have HGR : Hid (∀ W bf, Below w.heap.size w W → W.cell? ⟨w.heap.size, 0, none⟩ = some (.pointer (some ⟨s, 0, none⟩)) → W.cell? ⟨bf, 0, none⟩ = some (.func (.func 182) #[] #[.pointer (some ⟨w.heap.size, 0, none⟩)]) → Calls Tryz.prog 176 #[vg, .func (.func 184) #[] #[.pointer (some ⟨bf, 0, none⟩)]] W fun e w' => e = .returned (.bool (r.grants.any fun g => namedB g.who && badName L g.name)) ∧ Below W.heap.size W w') := Lib.hid fun W bf hW hc hf => ContainsFuncGr_c 184 _ r.grants vg W (hvg.below hW) (Nat.le_trans hlim.ngrants (by decide)) _ ⟨fun g _ W2 hW2 => valid2_c s w.heap.size bf ps L hL g W2 (hw.keep (hW.trans (hW2.mono hW.size))) (hS.below (hW.trans (hW2.mono hW.size))) ((hW2.cell (cell_lt hc)).trans hc) ((hW2.cell (cell_lt hf)).trans hf), fun _ _ => by kernel_rfl⟩
 have HAT : Hid ((printA r).1 = 0 → ∀ W, Below w.heap.size w W → W.cell? ⟨w.heap.size, 0, none⟩ = some (.pointer (some ⟨s, 0, none⟩)) → Calls Tryz.prog 25 #[va, .func (.func 185) #[] #[.pointer (some ⟨w.heap.size, 0, none⟩)]] W fun e w' => e = .returned (.bool (r.attrs.any fun t => !isWordA t && (findD L false t).isNone)) ∧ Below W.heap.size W w') := Lib.hid fun h0 W hW hc => ContainsFuncSA_c 185 _ r.attrs va W (hva.below hW) (Nat.le_trans hlim.nattrs (by decide)) _ ⟨fun t ht W2 hW2 => valid3_c s w.heap.size ps L hL t W2 (hS.below (hW.trans (hW2.mono hW.size))) ((hW2.cell (cell_lt hc)).trans hc) (attr_short h0 t ht), fun _ _ => by kernel_rfl⟩
 have hvd : validA L r = ((printA r).1 == 0 && !((r.what != 0 && badName L r.name) || r.grants.any (fun g => namedB g.who && badName L g.name)) && !r.attrs.any (fun t => !isWordA t && (findD L false t).isNone)) := rfl
 rw [hvd]
 obtain ⟨Aa, ca, rfl, _⟩ := hva.at
 obtain ⟨Ag, cg, rfl, hcg, _⟩ := id hvg
 unfold ruleArg at *
 generalize (r.grants.any fun g => namedB g.who && badName L g.name) = bg at HGR ⊢
 generalize (r.attrs.any fun t => !isWordA t && (findD L false t).isNone) = ba at HAT ⊢
 generalize badName L r.name = bn at HV ⊢
 generalize (printA r).1 = er at HP HAT ⊢
 generalize (printA r).2 = tx at HP ⊢
 clear hvd hL hw hS hva hvg hlim
 obtain ⟨what, name, attrs, grants⟩ := r
 simp only at *
 have hg1 := (Below.refl w.heap.size w).alloc (Nat.le_refl _) (.cells #[.pointer (some ⟨s, 0, none⟩)] 58)
 have hg2 := hg1.alloc hg1.size (.cells #[.int .i64 what, .string ⟨name.toArray⟩, .slice Aa attrs.length ca, .slice Ag grants.length cg] 47)
 by_cases he0 : er = 0
 case neg =>
  have he : (er == 0) = false := by cases h : er == 0 with | false => rfl | true => exact absurd (eq_of_beq h) he0
  have he' : (er != 0) = true := by unfold bne; rw [he]; rfl
  go_enter Tryz.func111, Tryz.ntmps111
  go_upto_region 4 with (go_at_call 12; refine (HP.out _ hg2).mono ?_; rintro e w1 ⟨rfl, hb1⟩)
  all_goals
   go_ret
   exact ⟨retb (by rw [he]; rfl), hg2.trans (hb1.mono hg2.size)⟩
 case pos =>
  subst he0
  have HAT2 := Lib.hid (HAT.out rfl)
  clear HAT
  go_enter Tryz.func111, Tryz.ntmps111
  go_upto_region 5 with (go_at_call 12; refine (HP.out _ hg2).mono ?_; rintro e w1 ⟨rfl, hb1⟩)
  clear HP
  have hb01 : Below w.heap.size w w1 := hg2.trans (hb1.mono hg2.size)
  have q0 : Bk w1 w.heap.size 58 #[.pointer (some ⟨s, 0, none⟩)] := ((Bk.new w _ _).alloc _).below hb1
  have q1 : Bk w1 (w.heap.size + 1) 47 #[.int .i64 what, .string ⟨name.toArray⟩, .slice Aa attrs.length ca, .slice Ag grants.length cg] := by
   have := (Bk.new (w.alloc (.cells #[.pointer (some ⟨s, 0, none⟩)] 58)) 47 #[.int .i64 what, .string ⟨name.toArray⟩, .slice Aa attrs.length ca, .slice Ag grants.length cg]).below hb1
   simpa using this
  have qf : Bk (w1.alloc (.cells #[.func (.func 182) #[] #[.pointer (some ⟨w.heap.size, 0, none⟩)]] 54)) w1.heap.size 54 #[.func (.func 182) #[] #[.pointer (some ⟨w.heap.size, 0, none⟩)]] := Bk.new w1 _ _
  have q0' := q0.alloc (.cells #[.func (.func 182) #[] #[.pointer (some ⟨w.heap.size, 0, none⟩)]] 54)
  have q1' := q1.alloc (.cells #[.func (.func 182) #[] #[.pointer (some ⟨w.heap.size, 0, none⟩)]] 54)
  have hb2 := hb01.alloc hb01.size (.cells #[.func (.func 182) #[] #[.pointer (some ⟨w.heap.size, 0, none⟩)]] 54)
  clear q0 q1 hb1 hb01 hg1 hg2
  generalize (w1.alloc (.cells #[.func (.func 182) #[] #[.pointer (some ⟨w.heap.size, 0, none⟩)]] 54)) = w2 at *
  generalize w1.heap.size = bf at *
  have e0 : w2.cell? ⟨w.heap.size, 0, none⟩ = some (.pointer (some ⟨s, 0, none⟩)) := q0'.cell 0
  have d0 : w2.cell? ⟨w.heap.size + 1, 0, none⟩ = some (.int .i64 what) := q1'.cell 0
  have d1 : w2.cell? ⟨w.heap.size + 1, 1, none⟩ = some (.string ⟨name.toArray⟩) := q1'.cell 1
  have d2 : w2.cell? ⟨w.heap.size + 1, 2, none⟩ = some (.slice Aa attrs.length ca) := q1'.cell 2
  have d3 : w2.cell? ⟨w.heap.size + 1, 3, none⟩ = some (.slice Ag grants.length cg) := q1'.cell 3
  have df : w2.cell? ⟨bf, 0, none⟩ = some (.func (.func 182) #[] #[.pointer (some ⟨w.heap.size, 0, none⟩)]) := qf.cell 0
  have hent : ∀ (args : Array Value) (W : World), (callFunc 182 args).run Tryz.prog W = .ok (.enter 182 args) W := fun _ _ => by kernel_rfl
  cases hz : (what != 0) <;> cases bn <;> cases bg
  all_goals
   go_wp2_with (first | ((with_reducible refine (HV.out _ hb2 e0).mono ?_); rintro e w3 ⟨rfl, hb3⟩; have hba := hb2.trans (hb3.mono hb2.size); have q0x := q0'.below hb3; have q1x := q1'.below hb3; have qfx := qf.below hb3; have d2x : w3.cell? ⟨w.heap.size + 1, 2, none⟩ = some (.slice Aa attrs.length ca) := q1x.cell 2; have d3x : w3.cell? ⟨w.heap.size + 1, 3, none⟩ = some (.slice Ag grants.length cg) := q1x.cell 3) | (go_at_call 176; refine (HGR.out _ _ hba (q0x.cell 0) (qfx.cell 0)).mono ?_; rintro e w4 ⟨rfl, hb4⟩; have hbb := hba.trans (hb4.mono hba.size); have q0y := q0x.below hb4; have d2y : w4.cell? ⟨w.heap.size + 1, 2, none⟩ = some (.slice Aa attrs.length ca) := (q1x.below hb4).cell 2) | (go_at_call 176; refine (HGR.out _ _ hb2 (q0'.cell 0) (qf.cell 0)).mono ?_; rintro e w4 ⟨rfl, hb4⟩; have hbb := hb2.trans (hb4.mono hb2.size); have q0y := q0'.below hb4; have d2y : w4.cell? ⟨w.heap.size + 1, 2, none⟩ = some (.slice Aa attrs.length ca) := (q1'.below hb4).cell 2) | (go_at_call 25; refine (HAT2.out _ hbb (q0y.cell 0)).mono ?_; rintro e w5 ⟨rfl, hb5⟩))
  all_goals
   go_ret
   first
    | exact ⟨retb (by rw [hz]; cases ba <;> rfl), hbb.trans (hb5.mono hbb.size)⟩
    | exact ⟨retb (by rw [hz]; cases ba <;> rfl), hbb⟩
    | exact ⟨retb (by rw [hz]; cases ba <;> rfl), hba⟩
end Go.Proofs.YtbjmpmgiigombaaGreatDoor
