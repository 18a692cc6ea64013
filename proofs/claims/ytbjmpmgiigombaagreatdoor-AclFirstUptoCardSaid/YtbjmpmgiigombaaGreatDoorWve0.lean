import Derived.Test.YtbjmpmgiigombaaGreatDoorWvd8
import Derived.Deep.RegionLaw
set_option linter.all false
set_option maxHeartbeats 8000000
namespace Go.Proofs.YtbjmpmgiigombaaGreatDoor
open Go.RowKit
theorem rule_words_len {r : RuleS} (hs : saidA r = true) (hl : AclLim r) : (∀ x ∈ ruleWs r, x.length ≤ 4000100) ∧ (ruleWs r).length ≤ 3000003 := by
 obtain ⟨k, hk, _, _, _, hg, _, e⟩ := rule_said hs
 have hq := quote_len r.name
 have hn := hl.name
 have ha := hl.attrs
 have hw1 : ∀ x ∈ whatWs, x.length ≤ 20 := by decide +kernel
 have hw2 : ∀ x ∈ whoWs, x.length ≤ 20 := by decide +kernel
 have hw3 : ∀ x ∈ levelWs, x.length ≤ 20 := by decide +kernel
 have h3 : ∀ gs : List GrantS, (gs.flatMap grantWs).length = 3 * gs.length := by
  intro gs
  induction gs with
  | nil => rfl
  | cons g gs ih => rw [List.flatMap_cons, List.length_append, ih, List.length_cons]; show 3 + _ = _; omega
 have hng := hl.ngrants
 rw [e]
 constructor
 ·intro x hx
  rcases List.mem_cons.1 hx with rfl | hx
  ·decide
  ·rcases List.mem_cons.1 hx with rfl | hx
   ·have := hw1 _ (List.getElem_mem hk)
    split
    ·simp; omega
    ·simp; omega
   ·rcases List.mem_append.1 hx with hx | hx
    ·split at hx
     ·simp at hx
     ·rw [List.mem_singleton.1 hx, List.length_append]
      have : wAttrsEq.length = 6 := rfl
      omega
    ·obtain ⟨g, hgm, hx⟩ := List.mem_flatMap.1 hx
     obtain ⟨k', l', hk', hl', _, _, _, q4⟩ := grant_said (hg g hgm)
     rw [q4] at hx
     have hgn := hl.grants g hgm
     have hgq := quote_len g.name
     have h2 := hw2 _ (List.getElem_mem hk')
     have h4 := hw3 _ (List.getElem_mem hl')
     rcases List.mem_cons.1 hx with rfl | hx
     ·decide
     ·rcases List.mem_cons.1 hx with rfl | hx
      ·split
       ·simp; omega
       ·simp; omega
      ·rw [List.mem_singleton.1 hx]; omega
 ·simp only [List.length_cons, List.length_append, h3]
  split <;> simp <;> omega
def ruleCells (r : RuleS) (va vg : Value) : Array Value := #[.int .i64 r.what, .string ⟨r.name.toArray⟩, va, vg]
structure PrJ (w wx : World) (r : RuleS) (va vg : Value) (l : Value) (ws : List (List UInt8)) : Prop where
 bk : Bk wx w.heap.size 47 (ruleCells r va vg)
 bel : Below w.heap.size w wx
 own : Own (w.heap.size + 1) wx l ws
theorem PrJ.below {w wx W : World} {r : RuleS} {va vg l : Value} {ws : List (List UInt8)} (h : PrJ w wx r va vg l ws) (hb : Below wx.heap.size wx W) : PrJ w W r va vg l ws :=
 ⟨h.bk.below hb, h.bel.trans (hb.mono h.bel.size), h.own.below hb⟩
theorem PrJ.grown {w wx W : World} {r : RuleS} {va vg l l' : Value} {ws ws' : List (List UInt8)} (h : PrJ w wx r va vg l ws) (hg : wx.grownBy W l.ownBlock) (ho : Own (w.heap.size + 1) W l' ws') : PrJ w W r va vg l' ws' := by
 have hl := h.own.lt
 exact ⟨h.bk.grown hg (by intro e; have := (hl _ e.symm).1; omega), h.bel.grown hg h.bel.size (fun k hk => by have := (hl k hk).1; omega), ho⟩
theorem PrJ.set {w wx : World} {r : RuleS} {va vg : Value} {ws : List (List UInt8)} {g n c : Nat} (h : PrJ w wx r va vg (.slice (some ⟨g, 0, none⟩) n c) ws) {j : Nat} (hj : j < ws.length) (x : List UInt8) : PrJ w (wx.setCell ⟨g, j, none⟩ (.string ⟨x.toArray⟩)) r va vg (.slice (some ⟨g, 0, none⟩) n c) (ws.set j x) := by
 have hl := (h.own.lt g rfl).1
 exact ⟨h.bk.far (by omega) _, h.bel.setCell (by simp; omega) _, own_set h.own hj x⟩
theorem row_word {w : World} {b n c : Nat} {ws : List (List UInt8)} {B : Nat} (h : Own B w (.slice (some ⟨b, 0, none⟩) n c) ws) {k : Nat} (hk : k < ws.length) : w.cell? ⟨b, k, none⟩ = some (.string ⟨ws[k].toArray⟩) := texts_at2 h.texts hk
section
variable {ops : Array Oper} {o : Oper} {a : Act} {K : Act → World → Prop} {Q : Exit → Act → World → Prop} {E : Prop}
theorem step_own_three (hgd : o.guard = none) (s x : Operand) (ho : o.op = .call { callee := .builtin .append, args := #[s, x], argTypes := #[44, 44] })
  {v : Value} {xs : List (List UInt8)} {B : Nat} {w0 : World} {c1 c2 c3 : List UInt8} (hs : a.eval s = v) (hb : Own B w0 v xs)
  (hx : a.eval x = .slice (some ⟨w0.heap.size, 0, none⟩) 3 3) (hlen : xs.length < 4398046511000)
  (h : ∀ v' w', Own B w' v' (xs ++ [c1, c2, c3]) → w0.grownBy w' v.ownBlock → K (a.put o.dst v') w') :
  if Region.wanted o (yielded ops a.tmps) = true then Oper.wp Tryz.prog o a (w0.alloc (.cells #[.string ⟨c1.toArray⟩, .string ⟨c2.toArray⟩, .string ⟨c3.toArray⟩] 9)) K Q else E := by
 have hb' := hb.keep (World.grownBy_alloc w0 (.cells #[.string ⟨c1.toArray⟩, .string ⟨c2.toArray⟩, .string ⟨c3.toArray⟩] 9) none) (fun k hk => by cases hk)
 have hn := own_new (B := w0.heap.size) w0 (Nat.le_refl _) [c1, c2, c3] (by simp)
 exact step_own_more (xs := xs) (ys := [c1, c2, c3]) hgd s x ho hs hb' hx hn.texts (by simp; omega) (fun v' w' ho' hg => h v' w' ho' (World.grownBy.trans (World.grownBy_alloc _ _ _) hg))
end
set_option maxRecDepth 100000 in
theorem Print_bad (r : RuleS) (va vg : Value) (w : World) (hw : Env w) (hva : TextsA w va r.attrs) (hvg : GrantsA w vg r.grants) (hal : r.attrs.length ≤ 1048576) (hat : ∀ t ∈ r.attrs, t.length ≤ 4000000) (hgl : r.grants.length ≤ 1000000) (hs : saidA r = false) :
  Calls Tryz.prog 12 #[ruleArg r va vg] w fun e w' => e = .returned (.tuple #[.string ⟨#[]⟩, .int .i64 100]) ∧ Below w.heap.size w w' := by
 have hb0 : Below w.heap.size w (w.alloc (.cells (ruleCells r va vg) 47)) := (Below.refl _ _).alloc (Nat.le_refl _) _
 have hS := said_c r va vg _ (hw.keep hb0) (hva.below hb0) (hvg.below hb0) hal hat hgl
 rw [hs] at hS
 have HS := Lib.hid hS
 obtain ⟨Aa, ca, rfl, _⟩ := hva.at
 obtain ⟨Ag, cg, rfl, _⟩ := id hvg
 clear hS hva hvg hw hat hs
 unfold ruleArg ruleCells at *
 go_enter Tryz.func12, Tryz.ntmps12
 go_wp2_with (go_at_call 108; refine HS.out.mono ?_; rintro e w1 ⟨rfl, hb1⟩)
 go_ret2
 exact ⟨rfl, hb0.trans (hb1.mono hb0.size)⟩
open Go.RowKit
set_option maxRecDepth 100000 in
theorem Print_ok (r : RuleS) (va vg : Value) (w : World) (hw : Env w) (hva : TextsA w va r.attrs) (hvg : GrantsA w vg r.grants) (hlim : AclLim r) (hs : saidA r = true) :
  Calls Tryz.prog 12 #[ruleArg r va vg] w fun e w' => e = .returned (.tuple #[.string ⟨(printA r).2.toArray⟩, .int .i64 (printA r).1]) ∧ Below w.heap.size w w' := by
 obtain ⟨k, hk, e1, e2, hne, hg, ha, e⟩ := rule_said hs
 have hpr : printA r = if 65536 < (joinL [32] (ruleWs r)).length then (2, []) else (0, joinL [32] (ruleWs r)) := by unfold printA; rw [hs]; rfl
 have hb0 : Below w.heap.size w (w.alloc (.cells (ruleCells r va vg) 47)) := (Below.refl _ _).alloc (Nat.le_refl _) _
 have hk0 : Bk (w.alloc (.cells (ruleCells r va vg) 47)) w.heap.size 47 (ruleCells r va vg) := Bk.new w _ _
 have hS := said_c r va vg _ (hw.keep hb0) (hva.below hb0) (hvg.below hb0) hlim.nattrs (fun t ht => Nat.le_trans (attr_in_join _ t ht) hlim.attrs) hlim.ngrants
 rw [hs] at hS
 have HS : Hid (Calls Tryz.prog 108 #[ruleArg r va vg] (w.alloc (.cells (ruleCells r va vg) 47)) fun e w' => e = .returned (.bool true) ∧ Below w.heap.size w w' ∧ Bk w' w.heap.size 47 (ruleCells r va vg)) := Lib.hid (hS.mono fun e w' ⟨h1, h2⟩ => ⟨h1, hb0.trans (h2.mono hb0.size), hk0.below h2⟩)
 have HQ : Hid (∀ (s : List UInt8) (W : World), s.length ≤ 2000000 → Below w.heap.size w W → Calls Tryz.prog 109 #[.string ⟨s.toArray⟩] W fun e w' => e = .returned (.string ⟨(quoteA s).toArray⟩) ∧ Below W.heap.size W w') := Lib.hid fun s W hl hW => quoted_c s W (hw.keep hW) hl
 have HJA : Hid (∀ W : World, Below w.heap.size w W → Calls Tryz.prog 110 #[va, .string ⟨#[44]⟩] W fun e w' => e = .returned (.string ⟨(joinL [44] r.attrs).toArray⟩) ∧ Below W.heap.size W w') := Lib.hid fun W hW => JoinA_c r.attrs [44] va W (hva.below hW) hlim.nattrs (by have := hlim.attrs; omega)
 have HLEN : Hid ((joinL [32] (ruleWs r)).length ≤ 140737488355328) := Lib.hid (by
  obtain ⟨h1, h2⟩ := rule_words_len hs hlim
  have := join_len 4000100 [32] (by decide) (ruleWs r) h1
  rw [← joinL_eq] at this
  have h3 : (ruleWs r).length * (4000100 + 1) ≤ 3000003 * (4000100 + 1) := Nat.mul_le_mul_right _ h2
  omega)
 have HVG := Lib.hid hvg
 obtain ⟨Aa, ca, rfl, _⟩ := hva.at
 obtain ⟨Ag, cg, rfl, hcg, hgx⟩ := id hvg
 have HLIM := Lib.hid hlim
 have HPR := Lib.hid hpr
 have HG := Lib.hid hg
 have HE := Lib.hid e
 clear hS hva hvg hw hs hb0 hk0 hpr hg ha hgx hlim e e2 hne
 obtain ⟨what, name, attrs, grants⟩ := r
 simp only at e1 HQ HJA HVG HLIM HPR HG HE hcg HLEN
 subst e1
 unfold ruleArg ruleCells at *
 have hki0 : (0 : Int) ≤ (k : Int) := by omega
 have hki1 : (k : Int) < (whatWs.length : Int) := by omega
 go_enter Tryz.func12, Tryz.ntmps12
 go_upto_region 3 with (go_at_call 108; refine HS.out.mono ?_; rintro e w1 ⟨rfl, hb1, hz1⟩)
 have hgw : w.heap.size < w1.heap.size := hz1.lt
 have hd1 : Below w.heap.size w w1.drew := hb1.drew
 have c0 : w1.cell? ⟨w.heap.size, 0, none⟩ = some (.int .i64 (k : Int)) := hz1.cell 0
 go_cut [4] (fun s4 wx => ∃ (A : Option Addr) (c : Nat), s4 = .slice A 2 c ∧ Aside (PrJ w wx ⟨k, name, attrs, grants⟩ (.slice Aa attrs.length ca) (.slice Ag grants.length cg) (.slice A 2 c) [wTo, whatWs[k]]))
 case first =>
  go_region_law (first | (go_simp; go_at_call 20; refine (whats_c _).mono ?_; rintro e w2 ⟨rfl, hb2x, hO2⟩; have hb2 := below_undrew hb2x; clear hb2x; have ck : w2.cell? ⟨w1.heap.size, k, none⟩ = some (.string ⟨whatWs[k].toArray⟩) := row_word hO2 hk; have hz2 := hz1.below hb2; have d0 : w2.cell? ⟨w.heap.size, 0, none⟩ = some (.int .i64 (k : Int)) := hz2.cell 0))
  all_goals
   go_wp2_with fail
   go_meet
   refine ⟨_, _, rfl, ?_⟩
   exact (⟨hz2.alloc _, (hb1.trans (hb2.mono hb1.size)).alloc (Nat.le_trans hb1.size hb2.size) _, own_new w2 (Nat.le_trans hgw hb2.size) [wTo, whatWs[k]] (by simp)⟩ : PrJ w _ ⟨k, name, attrs, grants⟩ (.slice Aa attrs.length ca) (.slice Ag grants.length cg) _ _)
 case rest =>
  clear HS hd1 c0 hz1 hgw hb1
  obtain ⟨A, c, rfl, HC0⟩ := hcut
  have HC := Lib.hid HC0.out
  clear HC0
  obtain ⟨w4, hw4⟩ : ∃ x, x = wc := ⟨_, rfl⟩
  subst hw4
  have c0 : w4.cell? ⟨w.heap.size, 0, none⟩ = some (.int .i64 (k : Int)) := HC.out.bk.cell 0
  go_upto_if 20 with fail
  go_cut [4] (fun s4 wx => ∃ (A : Option Addr) (c : Nat), s4 = .slice A 2 c ∧ Aside (PrJ w wx ⟨k, name, attrs, grants⟩ (.slice Aa attrs.length ca) (.slice Ag grants.length cg) (.slice A 2 c) [wTo, (whatWs[k] ++ (if k = 0 then [] else 61 :: quoteA name))]))
  case first =>
   by_cases hk0 : k = 0
   ·subst hk0
    go_wp2_with fail
    go_meet
    exact ⟨_, _, rfl, by simp only [if_true, List.append_nil]; exact HC.out⟩
   ·have hkn : ((k : Int) != 0) = true := bne_iff_ne.2 (by omega)
    have hql : (quoteA name).length ≤ 4000002 := by have := quote_len name; have := HLIM.out.name; simp only at this; omega
    obtain ⟨gl, cl, hA, hcl, hgl, hob, hrow⟩ : ∃ g c', (Value.slice A 2 c) = .slice (some ⟨g, 0, none⟩) 2 c' ∧ 2 ≤ c' ∧ w.heap.size + 1 ≤ g ∧ (Value.slice A 2 c).ownBlock = some g ∧ RowS w4 g [wTo, whatWs[k]] := by
     rcases HC.out.own.row with ⟨_, h⟩ | ⟨g, c', h1, h2, h3, h4, h5⟩
     ·cases h
     ·exact ⟨g, c', h1, h2, h3, h4, h5⟩
    cases hA
    have q0 : w4.cell? ⟨gl, 1, none⟩ = some (.string ⟨whatWs[k].toArray⟩) := (hrow.at_ 1 _ rfl).1
    have n0 : w4.cell? ⟨w.heap.size, 1, none⟩ = some (.string ⟨name.toArray⟩) := HC.out.bk.cell 1
    have hdw : Below w.heap.size w w4.drew := HC.out.bel.drew
    have hnl : name.length ≤ 2000000 := HLIM.out.name
    have HROW := Lib.hid hrow
    have hwl : whatWs[k].length ≤ 20 := by
     have : ∀ x ∈ whatWs, x.length ≤ 20 := by decide +kernel
     exact this _ (List.getElem_mem hk)
    obtain ⟨qn, hqn⟩ : ∃ q, 61 :: quoteA name = q := ⟨_, rfl⟩
    obtain ⟨tn, htn⟩ : ∃ q, whatWs[k] ++ qn = q := ⟨_, rfl⟩
    have cat1 : ∀ W, (Op.stringOp .add ⟨#[61]⟩ ⟨(quoteA name).toArray⟩).run Tryz.prog W = .ok (.string ⟨qn.toArray⟩) W := fun W => by rw [← hqn]; exact run_string_add_lists (P := Tryz.prog) W [61] (quoteA name) (by simp) (by omega)
    have cat2 : ∀ W, (Op.stringOp .add ⟨whatWs[k].toArray⟩ ⟨qn.toArray⟩).run Tryz.prog W = .ok (.string ⟨tn.toArray⟩) W := fun W => by rw [← htn]; exact run_string_add_lists (P := Tryz.prog) W whatWs[k] qn (by omega) (by rw [← hqn]; simp; omega)
    have HTN : Hid (whatWs[k] ++ (if k = 0 then [] else 61 :: quoteA name) = tn) := Lib.hid (by rw [if_neg hk0, hqn, htn])
    clear hrow hqn htn
    go_upto_region 5 with fail
    go_region_law (first | (go_simp; go_at_call 109; refine (HQ.out name _ hnl hdw).mono ?_; rintro e w5 ⟨rfl, hb5x⟩; have hb5 := below_undrew hb5x; clear hb5x; have HC5 := Lib.hid (HC.out.below hb5); have hr5 := HROW.out.grown (grown_below hb5 none) (by simp); have q1 : w5.cell? ⟨gl, 1, none⟩ = some (.string ⟨whatWs[k].toArray⟩) := (hr5.at_ 1 _ rfl).1; have f1 : w5.frozen? ⟨gl, 1, none⟩ = false := (hr5.at_ 1 _ rfl).2; clear hr5))
    all_goals
     go_wp2_with fail
     go_meet
     refine ⟨_, _, rfl, ?_⟩
     have h := HC5.out.set (j := 1) (by simp) tn
     rw [HTN.out]
     exact h
  case rest =>
   clear HC c0
   obtain ⟨A, c, rfl, HC0⟩ := hcut
   have HC := Lib.hid HC0.out
   clear HC0
   obtain ⟨w5, hw5⟩ : ∃ x, x = wc := ⟨_, rfl⟩
   subst hw5
   obtain ⟨w0s, hw0s⟩ : ∃ q, whatWs[k] ++ (if k = 0 then [] else 61 :: quoteA name) = q := ⟨_, rfl⟩
   rw [hw0s] at HC
   have HE2 : Hid (ruleWs ⟨k, name, attrs, grants⟩ = [wTo, w0s] ++ (if attrs = [] then [] else [wAttrsEq ++ joinL [44] attrs]) ++ grants.flatMap grantWs) := Lib.hid (by
    have h := HE.out
    rw [hw0s] at h
    rw [h]
    simp)
   clear hw0s
   have c2 : w5.cell? ⟨w.heap.size, 2, none⟩ = some (.slice Aa attrs.length ca) := HC.out.bk.cell 2
   go_upto_if 33 with fail
   go_cut [4] (fun s4 wx => ∃ (A : Option Addr) (n c : Nat), s4 = .slice A n c ∧ Aside (PrJ w wx ⟨k, name, attrs, grants⟩ (.slice Aa attrs.length ca) (.slice Ag grants.length cg) (.slice A n c) ([wTo, w0s] ++ (if attrs = [] then [] else [wAttrsEq ++ joinL [44] attrs]))))
   case first =>
    by_cases hat0 : attrs = []
    ·subst hat0
     go_wp2_with fail
     go_meet
     exact ⟨_, _, _, rfl, by simp only [if_true, List.append_nil]; exact HC.out⟩
    ·have hpos := List.length_pos_iff.2 hat0
     have hlp : (0 : Int) < (attrs.length : Int) := by omega
     have hcat : ∀ W, (Op.stringOp .add ⟨#[97, 116, 116, 114, 115, 61]⟩ ⟨(joinL [44] attrs).toArray⟩).run Tryz.prog W = .ok (.string ⟨(wAttrsEq ++ joinL [44] attrs).toArray⟩) W := fun W => run_string_add_lists (P := Tryz.prog) W wAttrsEq (joinL [44] attrs) (by decide) (by have := HLIM.out.attrs; simp only at this; omega)
     have HJ5 := Lib.hid (HJA.out w5 HC.out.bel)
     obtain ⟨ja, hja⟩ : ∃ q, joinL [44] attrs = q := ⟨_, rfl⟩
     obtain ⟨wa, hwa⟩ : ∃ q, wAttrsEq ++ ja = q := ⟨_, rfl⟩
     rw [hja] at hcat HJ5
     rw [hwa] at hcat
     have HWA : Hid (wAttrsEq ++ joinL [44] attrs = wa) := Lib.hid (by rw [hja, hwa])
     clear hja hwa
     go_wp2_with (first | (go_at_call 110; (with_reducible refine HJ5.out.mono ?_); rintro e w6 ⟨rfl, hb6⟩; have HC6 := Lib.hid (HC.out.below hb6); have hO6 := HC6.out.own) | (at_builtin; refine own_one (c := wa) rfl _ _ rfl rfl hO6 rfl rfl (by simp) ?_; intro v7 w7 hO7 hg7; obtain ⟨A7, n7, c7, rfl⟩ : ∃ A n c, v7 = .slice A n c := (by obtain ⟨A, c, h, _⟩ := hO7.isSlice; exact ⟨A, _, c, h⟩); have HC7 := Lib.hid (HC6.out.grown hg7 hO7)))
     go_meet
     exact ⟨_, _, _, rfl, by rw [if_neg hat0, HWA.out]; exact HC7.out⟩
   case rest =>
    clear HC c2 HJA
    obtain ⟨A, n, c, rfl, HC0⟩ := hcut
    have HC := Lib.hid HC0.out
    clear HC0
    obtain ⟨w6, hw6⟩ : ∃ x, x = wc := ⟨_, rfl⟩
    subst hw6
    obtain ⟨ws, hws⟩ : ∃ q, [wTo, w0s] ++ (if attrs = [] then [] else [wAttrsEq ++ joinL [44] attrs]) = q := ⟨_, rfl⟩
    have hwl : ws.length ≤ 3 := by rw [← hws]; split <;> simp
    rw [hws] at HC HE2
    have c3 : w6.cell? ⟨w.heap.size, 3, none⟩ = some (.slice Ag grants.length cg) := HC.out.bk.cell 3
    have hng : grants.length ≤ 1000000 := HLIM.out.ngrants
    clear hws
    go_wp2_with fail
    go_loopg [4, 44] grants.length (fun gk l i wr => ∃ (j : Nat) (A : Option Addr) (n c : Nat), j ≤ grants.length ∧ l = .slice A n c ∧ i = .int .i64 j ∧ Aside (j + gk = grants.length) ∧ Aside (PrJ w wr ⟨k, name, attrs, grants⟩ (.slice Aa attrs.length ca) (.slice Ag grants.length cg) (.slice A n c) (ws ++ (grants.take j).flatMap grantWs)))
    case atStart => exact ⟨0, A, n, c, Nat.zero_le _, rfl, rfl, by show _ = _; omega, by simp only [List.take_zero, List.flatMap_nil, List.append_nil]; exact HC.out⟩
    case round =>
     clear HC c3
     obtain ⟨j, A, n, c, hj, rfl, rfl, AG, AC⟩ := hrel
     have HC := Lib.hid AC.out
     clear AC
     obtain ⟨w7, hw7⟩ : ∃ x, x = wr := ⟨_, rfl⟩
     subst hw7
     by_cases hjl : j < grants.length
     ·obtain ⟨q, rfl⟩ : ∃ q, gk = q + 1 := ⟨gk - 1, by have := AG.out; omega⟩
      have hmem := List.getElem_mem hjl
      have hstep : (grants.take (j + 1)).flatMap grantWs = (grants.take j).flatMap grantWs ++ grantWs grants[j] := by
       rw [List.take_succ_eq_append_getElem hjl, List.flatMap_append]
       simp
      obtain ⟨k', l', hk', hl', q1, q2, q3, q4⟩ := grant_said (HG.out _ hmem)
      have hxl := HLIM.out.grants _ hmem
      obtain ⟨Ax, cx, hA, _, hx⟩ := HVG.out.below HC.out.bel
      obtain ⟨b, o, hAb, g0, g1, g2⟩ := hx j hjl
      cases hA
      subst hAb
      obtain ⟨x, hxe⟩ : ∃ x, grants[j] = x := ⟨_, rfl⟩
      rw [hxe] at hstep q1 q2 q3 q4 hxl g0 g1 g2
      obtain ⟨xw, xn, xl⟩ := x
      simp only at q1 q2 q3 q4 hxl g0 g1 g2
      subst q1 q2
      rw [q4] at hstep
      have HST := Lib.hid hstep
      have hadd := add_at3
      clear q3 q4 hstep hxe hmem hx
      have hwq : (whoWs[k']).length ≤ 20 := by
       have : ∀ y ∈ whoWs, y.length ≤ 20 := by decide +kernel
       exact this _ (List.getElem_mem hk')
      go_upto_region 11 with fail
      have hbk := Bk.new w7 61 #[.int .i64 (k' : Int), .string ⟨xn.toArray⟩, .int .i64 (l' : Int)]
      have hba := (Below.refl w7.heap.size w7).alloc (Nat.le_refl _) (.cells #[.int .i64 (k' : Int), .string ⟨xn.toArray⟩, .int .i64 (l' : Int)] 61)
      have HCA := Lib.hid (HC.out.below hba)
      have HBK := Lib.hid hbk
      clear hbk hba HC g0 g1 g2
      generalize w7.heap.size = gg at HBK ⊢
      generalize (w7.alloc _) = w8 at HBK HCA ⊢
      have b0 : w8.cell? ⟨gg, 0, none⟩ = some (.int .i64 (k' : Int)) := HBK.out.cell 0
      have hkw0 : (0 : Int) ≤ (k' : Int) := by omega
      have hkw1 : (k' : Int) < (whoWs.length : Int) := by omega
      go_cut [7] (fun s7 wx => s7 = .string ⟨whoWs[k'].toArray⟩ ∧ Aside (Below w8.heap.size w8 wx))
      case first =>
       go_region_law (first | (go_simp; go_at_call 28; refine (whos_c _).mono ?_; rintro e w9 ⟨rfl, hb9x, hO9⟩; have hb9 := below_undrew hb9x; clear hb9x; have ck : w9.cell? ⟨w8.heap.size, k', none⟩ = some (.string ⟨whoWs[k'].toArray⟩) := row_word hO9 hk'; have b1 : w9.cell? ⟨gg, 0, none⟩ = some (.int .i64 (k' : Int)) := (HBK.out.below hb9).cell 0))
       all_goals
        go_wp2_with fail
        go_meet
        exact ⟨rfl, hb9⟩
      case rest =>
       clear b0 hkw0 hkw1
       obtain ⟨rfl, HB0⟩ := hcut
       have HB := Lib.hid HB0.out
       clear HB0
       obtain ⟨w9, hw9⟩ : ∃ x, x = wc := ⟨_, rfl⟩
       subst hw9
       obtain ⟨bn, hbn⟩ : ∃ b, namedB (k' : Int) = b := ⟨_, rfl⟩
       rw [hbn] at HST
       have HNM : Hid (∀ W : World, Calls Tryz.prog 29 #[.int .i64 (k' : Int)] W fun e w' => e = .returned (.bool bn) ∧ W = w') := Lib.hid fun W => by rw [← hbn]; exact named_c _ W
       have b0 : w9.cell? ⟨gg, 0, none⟩ = some (.int .i64 (k' : Int)) := (HBK.out.below HB.out).cell 0
       clear hbn
       go_upto_if 55 with (go_at_call 29; refine (HNM.out _).mono ?_; rintro e w' ⟨rfl, rfl⟩)
       go_cut [7] (fun s7 wx => s7 = .string ⟨(whoWs[k'] ++ (if bn then 61 :: quoteA xn else [])).toArray⟩ ∧ Aside (Below w8.heap.size w8 wx))
       case first =>
        cases bn
        ·go_wp2_with fail
         go_meet
         exact ⟨by simp, HB.out⟩
        ·have hql : (quoteA xn).length ≤ 4000002 := by have := quote_len xn; omega
         obtain ⟨qn, hqn⟩ : ∃ q, 61 :: quoteA xn = q := ⟨_, rfl⟩
         obtain ⟨tn, htn⟩ : ∃ q, whoWs[k'] ++ qn = q := ⟨_, rfl⟩
         have cat1 : ∀ W, (Op.stringOp .add ⟨#[61]⟩ ⟨(quoteA xn).toArray⟩).run Tryz.prog W = .ok (.string ⟨qn.toArray⟩) W := fun W => by rw [← hqn]; exact run_string_add_lists (P := Tryz.prog) W [61] (quoteA xn) (by simp) (by omega)
         have cat2 : ∀ W, (Op.stringOp .add ⟨whoWs[k'].toArray⟩ ⟨qn.toArray⟩).run Tryz.prog W = .ok (.string ⟨tn.toArray⟩) W := fun W => by rw [← htn]; exact run_string_add_lists (P := Tryz.prog) W whoWs[k'] qn (by omega) (by rw [← hqn]; simp; omega)
         have HTN : Hid (whoWs[k'] ++ (if true then 61 :: quoteA xn else []) = tn) := Lib.hid (by simp only [if_true]; rw [hqn, htn])
         have n0 : w9.cell? ⟨gg, 1, none⟩ = some (.string ⟨xn.toArray⟩) := (HBK.out.below HB.out).cell 1
         have HQ9 := Lib.hid (HQ.out xn w9 hxl (HCA.out.bel.trans (HB.out.mono HCA.out.bel.size)))
         clear hqn htn
         go_wp2_with (go_at_call 109; refine HQ9.out.mono ?_; rintro e wa ⟨rfl, hba⟩)
         go_meet
         exact ⟨by rw [HTN.out], HB.out.trans (hba.mono HB.out.size)⟩
       case rest =>
        clear HB b0 HNM HQ
        obtain ⟨rfl, HB0⟩ := hcut
        have HB := Lib.hid HB0.out
        clear HB0
        obtain ⟨wa, hwa⟩ : ∃ x, x = wc := ⟨_, rfl⟩
        subst hwa
        obtain ⟨tw, htw⟩ : ∃ q, whoWs[k'] ++ (if bn then 61 :: quoteA xn else []) = q := ⟨_, rfl⟩
        rw [htw] at HST ⊢
        clear htw
        have b2 : wa.cell? ⟨gg, 2, none⟩ = some (.int .i64 (l' : Int)) := (HBK.out.below HB.out).cell 2
        have hl0 : (0 : Int) ≤ (l' : Int) := by omega
        have hl1 : (l' : Int) < (levelWs.length : Int) := by omega
        have hal : (ws ++ (grants.take j).flatMap grantWs).length < 4398046511000 := by
         have h3 : ∀ gs : List GrantS, (gs.flatMap grantWs).length = 3 * gs.length := by
          intro gs
          induction gs with
          | nil => rfl
          | cons g gs ih => rw [List.flatMap_cons, List.length_append, ih, List.length_cons]; show 3 + _ = _; omega
         rw [List.length_append, h3, List.length_take]
         omega
        have HCB := Lib.hid (HCA.out.below HB.out)
        clear HCA HB
        obtain ⟨acc, hacc⟩ : ∃ q, ws ++ (grants.take j).flatMap grantWs = q := ⟨_, rfl⟩
        have HACC : Hid (ws ++ (grants.take (j + 1)).flatMap grantWs = acc ++ [wBy, tw, levelWs[l']]) := Lib.hid (by rw [HST.out, ← List.append_assoc, hacc])
        rw [hacc] at HCB hal
        clear hacc HST
        go_upto_region 14 with fail
        go_region_law (first | (go_simp; go_at_call 31; refine (levels_c _).mono ?_; rintro e wb ⟨rfl, hbbx, hOb⟩; have hbb := below_undrew hbbx; clear hbbx; have ck : wb.cell? ⟨wa.heap.size, l', none⟩ = some (.string ⟨levelWs[l'].toArray⟩) := row_word hOb hl'; have HCC := Lib.hid (HCB.out.below hbb); have hOC := HCC.out.own; have b3 : wb.cell? ⟨gg, 2, none⟩ = some (.int .i64 (l' : Int)) := (hbb.cell (p := ⟨gg, 2, none⟩) (cell_lt b2)).trans b2) | (refine step_own_three (c1 := wBy) (c2 := tw) (c3 := levelWs[l']) (by rfl) _ _ (by rfl) rfl hOC rfl hal ?_; intro v' wd hO' hg'; obtain ⟨A', n', c', rfl⟩ : ∃ A n c, v' = .slice A n c := (by obtain ⟨A, c, h, _⟩ := hO'.isSlice; exact ⟨A, _, c, h⟩); have HCD := Lib.hid (HCC.out.grown hg' hO')))
        all_goals
         go_wp2_with fail
         go_roundg q
         case measure => omega
         case rel => exact ⟨j + 1, A', n', c', by omega, rfl, by go_num, by have := AG.out; show _ = _; omega, by rw [HACC.out]; exact HCD.out⟩
     ·obtain rfl : j = grants.length := by omega
      have hfin : ws ++ (grants.take grants.length).flatMap grantWs = ruleWs ⟨k, name, attrs, grants⟩ := by rw [List.take_length, HE2.out]
      rw [hfin] at HC
      have hpr := HPR.out
      have HJL : Hid (Calls Tryz.prog 110 #[.slice A n c, .string ⟨#[32]⟩] w7 fun e w' => e = .returned (.string ⟨(joinL [32] (ruleWs ⟨k, name, attrs, grants⟩)).toArray⟩) ∧ Below w7.heap.size w7 w') := Lib.hid (by
       have hlen : (ruleWs ⟨k, name, attrs, grants⟩).length ≤ 1000000 * 4 := by
        rw [HE2.out, List.length_append]
        have h3 : ∀ gs : List GrantS, (gs.flatMap grantWs).length = 3 * gs.length := by
         intro gs
         induction gs with
         | nil => rfl
         | cons g gs ih => rw [List.flatMap_cons, List.length_append, ih, List.length_cons]; show 3 + _ = _; omega
        rw [h3]
        omega
       obtain ⟨Ax, cx, hA, hcx⟩ := HC.out.own.isSlice
       exact JoinB_c _ [32] _ w7 (texts_toA HC.out.own.texts) hlen HLEN.out)
      have HB7 := Lib.hid HC.out.bel
      clear HC HPR hfin HE2 HE HG HVG HLIM HLEN
      obtain ⟨s, hs⟩ : ∃ q, joinL [32] (ruleWs ⟨k, name, attrs, grants⟩) = q := ⟨_, rfl⟩
      rw [hs] at hpr HJL
      have HPR := Lib.hid hpr
      clear hpr hs
      by_cases hl : 65536 < s.length
      ·have hli : (65536 : Int) < (s.length : Int) := by omega
       have HF : Hid (printA ⟨k, name, attrs, grants⟩ = (2, [])) := Lib.hid (by rw [HPR.out, if_pos hl])
       clear HPR
       go_wp2_with (go_at_call 110; refine HJL.out.mono ?_; rintro e w8 ⟨rfl, hb8⟩)
       go_ret2
       rw [HF.out]
       exact ⟨rfl, HB7.out.trans (hb8.mono HB7.out.size)⟩
      ·have hli : ¬ (65536 : Int) < (s.length : Int) := by omega
       have HF : Hid (printA ⟨k, name, attrs, grants⟩ = (0, s)) := Lib.hid (by rw [HPR.out, if_neg hl])
       clear HPR
       go_wp2_with (go_at_call 110; refine HJL.out.mono ?_; rintro e w8 ⟨rfl, hb8⟩)
       go_ret2
       rw [HF.out]
       exact ⟨rfl, HB7.out.trans (hb8.mono HB7.out.size)⟩
end Go.Proofs.YtbjmpmgiigombaaGreatDoor
