import Derived.Test.YtbjmpmgiigombaaGreatDoorWve7
set_option linter.all false
set_option maxHeartbeats 8000000
namespace Go.Proofs.YtbjmpmgiigombaaGreatDoor
open Go.RowKit
section
variable {ops : Array Oper} {o : Oper} {a : Act} {K : Act → World → Prop} {Q : Exit → Act → World → Prop} {E : Prop}
theorem step_rules_more {w W : World} (hgd : o.guard = none) (s x : Operand) (ho : o.op = .call { callee := .builtin .append, args := #[s, x], argTypes := #[53, 53] })
  {v xv : Value} {qs ys : List RuleQ} {B : Nat} (hs : a.eval s = v) (hb : OwnR B w v qs) (hQ : QOk W ys)
  (hx : a.eval x = xv) (hy : RulesQ w xv ys) (hlen : qs.length + ys.length < 1000000)
  (h : ∀ v' w', OwnR B w' v' (qs ++ ys) → w.grownBy w' v.ownBlock → K (a.put o.dst v') w') :
  if Region.wanted o (yielded ops a.tmps) = true then Oper.wp Tryz.prog o a w K Q else E := by
 obtain ⟨i, h1, h2, h3, h4⟩ := infoRule
 obtain ⟨A, c, rfl, hc, hn, hcell⟩ := hy
 cases A with
 | none =>
  have hc0 := hn rfl
  have hys : ys = [] := List.eq_nil_of_length_eq_zero (by omega)
  subst hys
  subst hc0
  have hw : Region.wanted o (yielded ops a.tmps) = true := by simp [Region.wanted, hgd]
  rw [if_pos hw]
  have hr : (Builtin.append_ #[53, 53] o.type #[v, .slice none 0 0]).run Tryz.prog w = .ok v w := by
   rcases hb.1.2 with ⟨rfl, _⟩ | ⟨g, cap, cur, rfl, _, _, hnc, _⟩
   ·simp [Builtin.append_, run_underlying Tryz.underlying53, sizeOf, typeInfo, h1, Builtin.lenOf, Builtin.firstCells]
   ·simp [Builtin.append_, run_underlying Tryz.underlying53, sizeOf, typeInfo, h1, Builtin.lenOf, Builtin.firstCells, hnc, storeCells]
  unfold Oper.wp execOp
  simp only [ho, resolve, invoke, builtin, Sem.run_bind, Sem.run_pure, Result.andThen_ok, List.map_toArray, List.map_cons, List.map_nil, hs, hx, List.length_nil, hr]
  exact h v w (by simpa using hb) (World.grownBy.refl _ _)
 | some ad =>
  refine step_append_own hgd s x 53 ho B 47 i (.agg #[.int .i64 0, .string ⟨#[]⟩, .slice none 0 0, .slice none 0 0]) 4 72 Tryz.underlying53 h1 h2 h3 h4 rfl (by decide) v _ _ hs hb.1 ad ys.length c (ys.flatMap rqCells) hx (rflat_len ys) ?_ ?_ (by unfold maxLen; omega) (by omega) hb.2 ?_
  ·intro j u hj
   obtain ⟨hjl, hu⟩ := rflat_get ys j u hj
   obtain ⟨b, o', hA, hk⟩ := hcell (j / 4) hjl
   cases hA
   have := hk (j % 4) u hu
   rw [add_at4]
   rw [show o' + j = o' + j / 4 * 4 + j % 4 by omega]
   exact this
  ·intro u hu
   obtain ⟨q, hq, hu⟩ := List.mem_flatMap.1 hu
   simp only [rqCells, List.mem_cons, List.not_mem_nil, or_false] at hu
   rcases hu with rfl | rfl | rfl | rfl
   ·rfl
   ·rfl
   ·exact texts_slice (hQ q hq).1
   ·exact grants_slice (hQ q hq).2
  ·intro v' w' ho' hg
   exact h v' w' ⟨by simpa using ho', Nat.le_trans hb.2 hg.size⟩ hg
end
theorem rules_more {ops : Array Oper} {rest : List Oper} {o : Oper} {a : Act} {Q : Exit → Act → World → Prop} {w : World} (hgd : o.guard = none) (s x : Operand) (ho : o.op = .call { callee := .builtin .append, args := #[s, x], argTypes := #[53, 53] })
  {v xv : Value} {qs ys : List RuleQ} {B : Nat} {W : World} (hs : a.eval s = v) (hb : OwnR B w v qs) (hQ : QOk W ys)
  (hx : a.eval x = xv) (hy : RulesQ w xv ys) (hlen : qs.length + ys.length < 1000000)
  (h : ∀ v' w', OwnR B w' v' (qs ++ ys) → w.grownBy w' v.ownBlock → wpList Tryz.prog ops Q rest (a.put o.dst v') w') : wpList Tryz.prog ops Q (o :: rest) a w := by
 obtain ⟨i, h1, h2, h3, h4⟩ := infoRule
 obtain ⟨A, c, rfl, hc, hn, hcell⟩ := hy
 have go : ∀ ad : Addr, A = some ad → wpList Tryz.prog ops Q (o :: rest) a w := by
  rintro ad rfl
  refine wpList_append_own _ hgd s x 53 ho B 47 i (.agg #[.int .i64 0, .string ⟨#[]⟩, .slice none 0 0, .slice none 0 0]) 4 72 Tryz.underlying53 h1 h2 h3 h4 rfl (by decide) v _ _ hs hb.1 ad ys.length c (ys.flatMap rqCells) hx (rflat_len ys) ?_ ?_ (by unfold maxLen; omega) (by omega) hb.2 ?_
  ·intro j u hj
   obtain ⟨hjl, hu⟩ := rflat_get ys j u hj
   obtain ⟨b, o', hA, hk⟩ := hcell (j / 4) hjl
   cases hA
   have := hk (j % 4) u hu
   rw [add_at4]
   rw [show o' + j = o' + j / 4 * 4 + j % 4 by omega]
   exact this
  ·intro u hu
   obtain ⟨q, hq, hu⟩ := List.mem_flatMap.1 hu
   simp only [rqCells, List.mem_cons, List.not_mem_nil, or_false] at hu
   rcases hu with rfl | rfl | rfl | rfl
   ·rfl
   ·rfl
   ·exact texts_slice (hQ q hq).1
   ·exact grants_slice (hQ q hq).2
  ·intro v' w' ho' hg _
   exact h v' w' ⟨by simpa using ho', Nat.le_trans hb.2 hg.size⟩ hg
 cases A with
 | some ad => exact go ad rfl
 | none =>
  have hc0 := hn rfl
  have hys : ys = [] := List.eq_nil_of_length_eq_zero (by omega)
  subst hys
  subst hc0
  refine wpList_append_own_none hgd s x 53 ho B 47 i 4 Tryz.underlying53 h1 v _ _ hs hb.1 hx ?_
  exact h v w (by simpa using hb) (World.grownBy.refl _ _)
def allRule (level : Int) : RuleS := ⟨0, [], [], [⟨0, [], level⟩]⟩
theorem level_cases {level : Int} (h0 : 0 ≤ level) (h6 : level ≤ 6) (P : Int → Prop) (hP : ∀ k : Nat, k ≤ 6 → P k) : P level := by
 have := hP level.toNat (by omega)
 rwa [show ((level.toNat : Nat) : Int) = level by omega] at this
theorem all_print {level : Int} (h0 : 0 ≤ level) (h6 : level ≤ 6) : (printA (allRule level)).1 = 0 := by
 refine level_cases h0 h6 (fun l => (printA (allRule l)).1 = 0) ?_
 decide +kernel
theorem all_decides (L : List DefS) (key attr : List UInt8) {level : Int} (h0 : 0 ≤ level) (h6 : level ≤ 6) : decides L key attr (allRule level) = true := by
 unfold decides validA
 rw [all_print h0 h6]
 simp [allRule, namedB, meansA]
theorem all_level (L : List DefS) (who : List UInt8) (groups : List (List UInt8)) (key attr : List UInt8) {level : Int} (h0 : 0 ≤ level) (h6 : level ≤ 6) (b : List RuleS) : levelF L who groups key attr (allRule level :: b) = level := by
 have hd := all_decides L key attr h0 h6
 unfold decides at hd
 rw [levelF, hd]
 simp [allRule, grantsA, namesA]
theorem first_law (L : List DefS) (who : List UInt8) (groups : List (List UInt8)) (key attr : List UInt8) {level : Int} (h0 : 0 ≤ level) (h6 : level ≤ 6) (rs more : List RuleS) :
  levelA L (rs ++ [allRule level]) who groups key attr = levelA L (rs ++ [allRule level] ++ more) who groups key attr ∧ levelA L (allRule level :: rs) who groups key attr = level ∧
  (rs ≠ [] → levelA L rs who groups key attr = levelA L (rs ++ [allRule level]) who groups key attr ∨ levelA L rs who groups key attr = 0) ∧ (rs = [] → levelA L rs who groups key attr = 5 ∧ levelA L (rs ++ [allRule level]) who groups key attr = level) := by
 have e1 : (rs ++ [allRule level]).isEmpty = false := by cases rs <;> rfl
 have e2 : (rs ++ [allRule level] ++ more).isEmpty = false := by cases rs <;> rfl
 have hA := all_level L who groups key attr h0 h6
 unfold levelA
 rw [e1, e2]
 simp only [Bool.false_eq_true, if_false, List.isEmpty_cons]
 refine ⟨?_, hA _, ?_, ?_⟩
 ·rw [List.append_assoc, levelF_app, levelF_app, List.singleton_append, hA, hA]
 ·intro hne
  have e3 : rs.isEmpty = false := by cases rs with
   | nil => exact absurd rfl hne
   | cons x t => rfl
  rw [e3]
  simp only [Bool.false_eq_true, if_false]
  rw [levelF_app]
  cases hd : rs.any (decides L key attr)
  ·exact .inr (levelF_none L who groups key attr rs hd)
  ·exact .inl (by simp)
 ·rintro rfl
  exact ⟨rfl, hA _⟩
open Go.RowKit
theorem QOk.below8 {w w' : World} {qs : List RuleQ} (h : QOk w qs) (hb : Below w.heap.size w w') : QOk w' qs := fun q hq => ⟨(h q hq).1.below hb, (h q hq).2.below hb⟩
theorem RulesQ.below8 {w w' : World} {v : Value} {qs : List RuleQ} (h : RulesQ w v qs) (hb : Below w.heap.size w w') : RulesQ w' v qs := by
 obtain ⟨A, c, rfl, hc, hn, hx⟩ := h
 refine ⟨A, c, rfl, hc, hn, fun j hj => ?_⟩
 obtain ⟨b, o, hA, hk⟩ := hx j hj
 exact ⟨b, o, hA, fun k u hu => (hb.cell (cell_lt (hk k u hu))).trans (hk k u hu)⟩
theorem OwnR.new {B : Nat} (w : World) (q : RuleQ) (hB : B ≤ w.heap.size) : OwnR B (w.alloc (.cells (rqCells q).toArray 47)) (.slice (some ⟨w.heap.size, 0, none⟩) 1 1) [q] :=
 ⟨⟨rfl, .inr ⟨w.heap.size, 1, (rqCells q).toArray, rfl, hB, heap_alloc_new w _, Nat.le_refl _, by decide, rfl, rfl⟩⟩, by rw [World.size_alloc]; omega⟩
theorem rules_more_g {ops : Array Oper} {rest : List Oper} {o : Oper} {a : Act} {Q : Exit → Act → World → Prop} {w : World} (hw : Region.wanted o (yielded ops a.tmps) = true) (s x : Operand) (ho : o.op = .call { callee := .builtin .append, args := #[s, x], argTypes := #[53, 53] })
  {v xv : Value} {qs ys : List RuleQ} {B : Nat} {W : World} (hs : a.eval s = v) (hb : OwnR B w v qs) (hQ : QOk W ys)
  (hx : a.eval x = xv) (hy : RulesQ w xv ys) (hlen : qs.length + ys.length < 1000000)
  (h : ∀ v' w', OwnR B w' v' (qs ++ ys) → w.grownBy w' v.ownBlock → wpList Tryz.prog ops Q rest (a.put o.dst v') w') : wpList Tryz.prog ops Q (o :: rest) a w := by
 have h1 := step_rules_more (o := { o with guard := none }) (ops := ops) (a := a) (E := True) (Q := Q) (K := fun a' w' => wpList Tryz.prog ops Q rest a' w') rfl s x ho hs hb hQ hx hy hlen h
 rw [if_pos (by simp [Region.wanted])] at h1
 rw [wpList, if_pos hw]
 exact Or.inl h1
set_option maxRecDepth 100000 in
theorem first_out (A1 A2 : Option Addr) (n1 c1 n2 c2 : Nat) (who key attr : List UInt8) (level : Int) (w : World) (hw : Env w) (hn1 : n1 ≤ 1048576) (hn2 : n2 ≤ 1048576) (h1 : who.length ≤ 1048576) (h2 : key.length ≤ 1048576) (h3 : attr.length ≤ 1048576) (ho : 20 < n1 ∨ 20 < n2 ∨ level < 0 ∨ 6 < level ∨ 1000 < who.length + key.length + attr.length) :
  Calls Tryz.prog 5 #[.slice A1 n1 c1, .slice A2 n2 c2, .string ⟨who.toArray⟩, .string ⟨key.toArray⟩, .string ⟨attr.toArray⟩, .int .i64 level] w fun e w' => e = .returned (.bool true) ∧ Below w.heap.size w w' := by
 have HAl := Lib.hid (alive_c16 w hw)
 have hget := ba_get
 have hext := ba_ext
 clear hw
 by_cases g1 : 20 < n1
 ·go_enter Tryz.func5, Tryz.ntmps5
  go_wp2_with (go_at_call 6; refine HAl.out.mono ?_; rintro e w2 ⟨rfl, hb2⟩)
  all_goals
   go_ret
   exact ⟨rfl, hb2⟩
 ·by_cases g2 : 20 < n2
  ·go_enter Tryz.func5, Tryz.ntmps5
   go_wp2_with (go_at_call 6; refine HAl.out.mono ?_; rintro e w2 ⟨rfl, hb2⟩)
   all_goals
    go_ret
    exact ⟨rfl, hb2⟩
  ·by_cases g3 : level < 0
   ·go_enter Tryz.func5, Tryz.ntmps5
    go_wp2_with (go_at_call 6; refine HAl.out.mono ?_; rintro e w2 ⟨rfl, hb2⟩)
    all_goals
     go_ret
     exact ⟨rfl, hb2⟩
   ·by_cases g4 : 6 < level
    ·go_enter Tryz.func5, Tryz.ntmps5
     go_wp2_with (go_at_call 6; refine HAl.out.mono ?_; rintro e w2 ⟨rfl, hb2⟩)
     all_goals
      go_ret
      exact ⟨rfl, hb2⟩
    ·have g5 : 1000 < who.length + key.length + attr.length := by omega
     go_enter Tryz.func5, Tryz.ntmps5
     go_wp2_with (go_at_call 6; refine HAl.out.mono ?_; rintro e w2 ⟨rfl, hb2⟩)
     all_goals
      go_ret
      exact ⟨rfl, hb2⟩
def allQ (level : Int) (g : Nat) : RuleQ := (allRule level, .slice none 0 0, .slice (some ⟨g, 0, none⟩) 1 1)
theorem allQ_cells (level : Int) (g : Nat) : (rqCells (allQ level g)).toArray = #[.int .i64 0, .string ⟨#[]⟩, .slice none 0 0, .slice (some ⟨g, 0, none⟩) 1 1] := rfl
theorem allQ_ok {W : World} {g : Nat} {level : Int} (h : Bk W g 61 #[.int .i64 0, .string ⟨#[]⟩, .int .i64 level]) : QOk W [allQ level g] := by
 intro q hq
 rw [List.mem_singleton.1 hq]
 refine ⟨.inl ⟨rfl, rfl⟩, ⟨some ⟨g, 0, none⟩, 1, rfl, Nat.le_refl _, fun j hj => ⟨g, 0, rfl, ?_⟩⟩⟩
 have hj0 : j = 0 := by simpa [allQ, allRule] using hj
 subst hj0
 exact ⟨h.cell 0, h.cell 1, h.cell 2⟩
theorem all_lim (level : Int) : AclLim (allRule level) := by
 refine ⟨by simp [allRule], by simp [allRule], by simp [allRule, joinL], by simp [allRule], fun g hg => ?_⟩
 have : g = ⟨0, [], level⟩ := by simpa [allRule] using hg
 subst this
 simp
end Go.Proofs.YtbjmpmgiigombaaGreatDoor
