/- Rules appended in a region that draws; windows of a row of rules; the law AclInvalid, its early ends. -/
import Derived.Test.YtnnopncgpcbjaaaGreatDoorWve7
import Derived.Test.YtnnopncgpcbjaaaGreatDoorWi2
set_option linter.all false
set_option maxHeartbeats 8000000
namespace Go.Proofs.YtnnopncgpcbjaaaGreatDoor
open Go.RowKit

section
variable {ops : Array Oper} {o : Oper} {a : Act} {K : Act → World → Prop} {Q : Exit → Act → World → Prop} {E : Prop}
/-- 'append(own, rules...)' in a region that draws. -/
theorem step_rules_more {w W : World} (hgd : o.guard = none) (s x : Operand) (ho : o.op = .call { callee := .builtin .append, args := #[s, x], argTypes := #[72, 72] })
    {v xv : Value} {qs ys : List RuleQ} {B : Nat} (hs : a.eval s = v) (hb : OwnR B w v qs) (hQ : QOk W ys)
    (hx : a.eval x = xv) (hy : RulesQ w xv ys) (hlen : qs.length + ys.length < 1000000)
    (h : ∀ v' w', OwnR B w' v' (qs ++ ys) → w.grownBy w' v.ownBlock → K (a.put o.dst v') w') :
    if Region.wanted o (yielded ops a.tmps) = true then Oper.wp Tryz.prog o a w K Q else E := by
  obtain ⟨i, h1, h2, h3, h4⟩ := infoRule
  obtain ⟨A, c, rfl, hc, hn, hcell⟩ := hy
  cases A with
  | none =>
    have hc0 := hn rfl
    have hys : ys = [] := List.eq_nil_of_length_eq_zero (by omega)
    subst hys
    subst hc0
    have hw : Region.wanted o (yielded ops a.tmps) = true := by simp [Region.wanted, hgd]
    rw [if_pos hw]
    have hr : (Builtin.append_ #[72, 72] o.type #[v, .slice none 0 0]).run Tryz.prog w = .ok v w := by
      rcases hb.1.2 with ⟨rfl, _⟩ | ⟨g, cap, cur, rfl, _, _, hnc, _⟩
      · simp [Builtin.append_, run_underlying Tryz.underlying72, sizeOf, typeInfo, h1, Builtin.lenOf, Builtin.firstCells]
      · simp [Builtin.append_, run_underlying Tryz.underlying72, sizeOf, typeInfo, h1, Builtin.lenOf, Builtin.firstCells, hnc, storeCells]
    unfold Oper.wp execOp
    simp only [ho, resolve, invoke, builtin, Sem.run_bind, Sem.run_pure, Result.andThen_ok, List.map_toArray, List.map_cons, List.map_nil, hs, hx, List.length_nil, hr]
    exact h v w (by simpa using hb) (World.grownBy.refl _ _)
  | some ad =>
    refine step_append_own hgd s x 72 ho B 67 i (.agg #[.int .i64 0, .string ⟨#[]⟩, .slice none 0 0, .slice none 0 0]) 4 72 Tryz.underlying72 h1 h2 h3 h4 rfl (by decide) v _ _ hs hb.1 ad ys.length c (ys.flatMap rqCells) hx (rflat_len ys) ?_ ?_ (by unfold maxLen; omega) (by omega) hb.2 ?_
    · intro j u hj
      obtain ⟨hjl, hu⟩ := rflat_get ys j u hj
      obtain ⟨b, o', hA, hk⟩ := hcell (j / 4) hjl
      cases hA
      have := hk (j % 4) u hu
      rw [add_at4]
      rw [show o' + j = o' + j / 4 * 4 + j % 4 by omega]
      exact this
    · intro u hu
      obtain ⟨q, hq, hu⟩ := List.mem_flatMap.1 hu
      simp only [rqCells, List.mem_cons, List.not_mem_nil, or_false] at hu
      rcases hu with rfl | rfl | rfl | rfl
      · rfl
      · rfl
      · exact texts_slice (hQ q hq).1
      · exact grants_slice (hQ q hq).2
    · intro v' w' ho' hg
      exact h v' w' ⟨by simpa using ho', Nat.le_trans hb.2 hg.size⟩ hg
end
/-- 'l = append(l, m...)'. -/
theorem rules_more {ops : Array Oper} {rest : List Oper} {o : Oper} {a : Act} {Q : Exit → Act → World → Prop} {w : World} (hgd : o.guard = none) (s x : Operand) (ho : o.op = .call { callee := .builtin .append, args := #[s, x], argTypes := #[72, 72] })
    {v xv : Value} {qs ys : List RuleQ} {B : Nat} {W : World} (hs : a.eval s = v) (hb : OwnR B w v qs) (hQ : QOk W ys)
    (hx : a.eval x = xv) (hy : RulesQ w xv ys) (hlen : qs.length + ys.length < 1000000)
    (h : ∀ v' w', OwnR B w' v' (qs ++ ys) → w.grownBy w' v.ownBlock → wpList Tryz.prog ops Q rest (a.put o.dst v') w') : wpList Tryz.prog ops Q (o :: rest) a w := by
  obtain ⟨i, h1, h2, h3, h4⟩ := infoRule
  obtain ⟨A, c, rfl, hc, hn, hcell⟩ := hy
  have go : ∀ ad : Addr, A = some ad → wpList Tryz.prog ops Q (o :: rest) a w := by
    rintro ad rfl
    refine wpList_append_own _ hgd s x 72 ho B 67 i (.agg #[.int .i64 0, .string ⟨#[]⟩, .slice none 0 0, .slice none 0 0]) 4 72 Tryz.underlying72 h1 h2 h3 h4 rfl (by decide) v _ _ hs hb.1 ad ys.length c (ys.flatMap rqCells) hx (rflat_len ys) ?_ ?_ (by unfold maxLen; omega) (by omega) hb.2 ?_
    · intro j u hj
      obtain ⟨hjl, hu⟩ := rflat_get ys j u hj
      obtain ⟨b, o', hA, hk⟩ := hcell (j / 4) hjl
      cases hA
      have := hk (j % 4) u hu
      rw [add_at4]
      rw [show o' + j = o' + j / 4 * 4 + j % 4 by omega]
      exact this
    · intro u hu
      obtain ⟨q, hq, hu⟩ := List.mem_flatMap.1 hu
      simp only [rqCells, List.mem_cons, List.not_mem_nil, or_false] at hu
      rcases hu with rfl | rfl | rfl | rfl
      · rfl
      · rfl
      · exact texts_slice (hQ q hq).1
      · exact grants_slice (hQ q hq).2
    · intro v' w' ho' hg _
      exact h v' w' ⟨by simpa using ho', Nat.le_trans hb.2 hg.size⟩ hg
  cases A with
  | some ad => exact go ad rfl
  | none =>
    have hc0 := hn rfl
    have hys : ys = [] := List.eq_nil_of_length_eq_zero (by omega)
    subst hys
    subst hc0
    refine wpList_append_own_none hgd s x 72 ho B 67 i 4 Tryz.underlying72 h1 v _ _ hs hb.1 hx ?_
    exact h v w (by simpa using hb) (World.grownBy.refl _ _)
set_option maxRecDepth 100000 in
set_option maxHeartbeats 8000000 in
theorem invalid_out (A : Option Addr) (n c : Nat) (k : Int) (who key attr : List UInt8) (w : World) (hw : Env w) (hn : n ≤ 140737488355328) (h1 : who.length ≤ 140737488355328) (h2 : key.length ≤ 140737488355328) (h3 : attr.length ≤ 140737488355328) (ho : n < 2 ∨ 20 < n ∨ 1000 < who.length + key.length + attr.length) :
    Calls Tryz.prog 7 #[.slice A n c, .int .i64 k, .string ⟨who.toArray⟩, .string ⟨key.toArray⟩, .string ⟨attr.toArray⟩] w fun e w' => e = .returned (.bool true) ∧ Below w.heap.size w w' := by
  have HAl := Lib.hid (alive_c16 w hw)
  have hget := ba_get
  have hext := ba_ext
  clear hw
  by_cases ha : n < 2
  · go_enter Tryz.func7, Tryz.ntmps7
    go_wp2_with (go_at_call 20; refine HAl.out.mono ?_; rintro e w2 ⟨rfl, hb2⟩)
    all_goals
      go_ret
      exact ⟨rfl, hb2⟩
  · by_cases hb : 20 < n
    · go_enter Tryz.func7, Tryz.ntmps7
      go_wp2_with (go_at_call 20; refine HAl.out.mono ?_; rintro e w2 ⟨rfl, hb2⟩)
      all_goals
        go_ret
        exact ⟨rfl, hb2⟩
    · have hc : 1000 < who.length + key.length + attr.length := by omega
      go_enter Tryz.func7, Tryz.ntmps7
      go_wp2_with (go_at_call 20; refine HAl.out.mono ?_; rintro e w2 ⟨rfl, hb2⟩)
      all_goals
        go_ret
        exact ⟨rfl, hb2⟩
end Go.Proofs.YtnnopncgpcbjaaaGreatDoor
/- The law AclInvalid. -/
namespace Go.Proofs.YtnnopncgpcbjaaaGreatDoor
open Go.RowKit

theorem rq_take {w : World} {b o c : Nat} {qs : List RuleQ} {n : Nat} (h : RulesQ w (.slice (some ⟨b, o, none⟩) n c) qs) (m : Nat) (hm : m ≤ qs.length) : RulesQ w (.slice (some ⟨b, o, none⟩) m c) (qs.take m) := by
  obtain ⟨A, c', hsl, hc, hn, hx⟩ := h
  have hA : A = some ⟨b, o, none⟩ := by cases hsl; rfl
  have hcc : c' = c := by cases hsl; rfl
  subst hA
  subst hcc
  have hl : (qs.take m).length = m := by rw [List.length_take]; omega
  refine ⟨_, c', by rw [hl], by omega, fun h => (by cases h), fun j hj => ?_⟩
  rw [hl] at hj
  obtain ⟨b', o', hA, hk⟩ := hx j (by omega)
  cases hA
  refine ⟨_, _, rfl, fun k u hu => hk k u ?_⟩
  rw [List.getElem_take] at hu
  exact hu
theorem rq_drop {w : World} {b o c : Nat} {qs : List RuleQ} {n : Nat} (h : RulesQ w (.slice (some ⟨b, o, none⟩) n c) qs) (m : Nat) (hm : m ≤ qs.length) (hn : qs.length = n) : RulesQ w (.slice (some ⟨b, o + m * 4, none⟩) (n - m) (c - m)) (qs.drop m) := by
  obtain ⟨A, c', hsl, hc, hn0, hx⟩ := h
  have hA : A = some ⟨b, o, none⟩ := by cases hsl; rfl
  have hcc : c' = c := by cases hsl; rfl
  subst hA
  subst hcc
  have hl : (qs.drop m).length = n - m := by rw [List.length_drop, hn]
  refine ⟨_, c' - m, by rw [hl], by omega, fun h => (by cases h), fun j hj => ?_⟩
  rw [hl] at hj
  obtain ⟨b', o', hA, hk⟩ := hx (m + j) (by omega)
  cases hA
  refine ⟨_, _, rfl, fun k u hu => ?_⟩
  rw [List.getElem_drop] at hu
  have := hk k u hu
  rw [show o + m * 4 + j * 4 + k = o + (m + j) * 4 + k by omega]
  exact this
theorem rq_none {w : World} {qs : List RuleQ} {n m : Nat} (hn : qs.length = n) (hm : n ≤ m) (A' : Option Addr) : RulesQ w (.slice A' (n - m) 0) (qs.drop m) := by
  have hl : qs.drop m = [] := List.drop_eq_nil_of_le (by omega)
  rw [hl]
  exact ⟨_, 0, by rw [show n - m = 0 by omega]; rfl, Nat.le_refl _, fun _ => rfl, fun j hj => absurd hj (by simp)⟩
set_option maxRecDepth 100000 in
set_option maxHeartbeats 8000000 in
theorem invalid_main (qs : List RuleQ) (n b o c : Nat) (hn : qs.length = n) (k : Int) (who key attr : List UInt8) (w : World) (hw : Env w) (hv : RulesQ w (.slice (some ⟨b, o, none⟩) n c) qs) (hq : QOk w qs) (hlim : ∀ q ∈ qs, AclLim q.1) (h2 : 2 ≤ n) (h20 : n ≤ 20) (hl : who.length + key.length + attr.length ≤ 1000) :
    Calls Tryz.prog 7 #[.slice (some ⟨b, o, none⟩) n c, .int .i64 k, .string ⟨who.toArray⟩, .string ⟨key.toArray⟩, .string ⟨attr.toArray⟩] w fun e w' => e = .returned (.bool true) ∧ Below w.heap.size w w' := by
  have HAl := Lib.hid (fun (W : World) (h : Below w.heap.size w W) => alive_c16 W (hw.keep h))
  have HBa := Lib.hid (base_c16 w hw)
  have hget := ba_get
  have hext := ba_ext
  have hne : ((n : Int) == 0) = false := by rw [beq_eq_false_iff_ne]; omega
  have hne2 : ¬ ((n : Int) = 0) := by omega
  obtain ⟨t, ht⟩ : ∃ t, k.tmod (n : Int) = t := ⟨_, rfl⟩
  have ht1 : t < n := by rw [← ht]; exact Int.tmod_lt_of_pos k (by omega)
  have ht2 : -(n : Int) < t := by
    rw [← ht]
    have := Int.tmod_lt_of_pos (-k) (show (0 : Int) < n by omega)
    rw [Int.neg_tmod] at this
    omega
  obtain ⟨m, hm⟩ : ∃ m : Nat, (if t < 0 then t + n else t) = (m : Int) := ⟨(if t < 0 then t + n else t).toNat, by split <;> omega⟩
  have hmn : m < n := by split at hm <;> omega
  have hmq : m < qs.length := by omega
  obtain ⟨A', c', hsl, hcc, _, hx⟩ := id hv
  have hnc : n ≤ c := by
    have : c' = c := by cases hsl; rfl
    omega
  obtain ⟨b', o', hA', hcell⟩ := hx m hmq
  have hA : A' = some ⟨b, o, none⟩ := by cases hsl; rfl
  rw [hA] at hA'
  cases hA'
  have e0 : w.cell? ⟨b, o + m * 4, none⟩ = some (.int .i64 qs[m].1.what) := hcell 0 _ rfl
  have e1 : w.cell? ⟨b, o + m * 4 + 1, none⟩ = some (.string ⟨qs[m].1.name.toArray⟩) := hcell 1 _ rfl
  have e2 : w.cell? ⟨b, o + m * 4 + 2, none⟩ = some qs[m].2.1 := hcell 2 _ rfl
  have e3 : w.cell? ⟨b, o + m * 4 + 3, none⟩ = some qs[m].2.2 := hcell 3 _ rfl
  have hqm := hq _ (List.getElem_mem hmq)
  have hlm := hlim _ (List.getElem_mem hmq)
  have hsplit : qs = qs.take m ++ qs[m] :: qs.drop (m + 1) := by rw [← List.drop_eq_getElem_cons hmq, List.take_append_drop]
  have HSP := Lib.hid hsplit
  generalize qs[m] = q at *
  obtain ⟨r, va, vg⟩ := q
  simp only at e0 e1 e2 e3 hqm hlm
  obtain ⟨Ba, na, ca, rfl⟩ : ∃ A n c, va = .slice A n c := by
    obtain ⟨A, c, h, _⟩ := hqm.1.at
    exact ⟨A, _, c, h⟩
  obtain ⟨Bg, cg, hvg, _⟩ := id hqm.2
  subst hvg
  have HVa : Hid (∀ (W : World) (s : Nat) (ps : List Nat), Below w.heap.size w W → SchAt W s ps baseL → Calls Tryz.prog 29 #[.pointer (some ⟨s, 0, none⟩), .agg #[.int .i64 r.what, .string ⟨r.name.toArray⟩, .slice Ba na ca, .slice Bg r.grants.length cg]] W fun e w' => e = .returned (.bool (validA baseL r)) ∧ Below W.heap.size W w') := Lib.hid fun W s ps h hS => aclValid_c s ps baseL base_sound r _ _ W (hw.keep h) hS (hqm.1.below h) (hqm.2.below h) hlm
  have HV := Lib.hid hv
  have HQ := Lib.hid hq
  have HLm := Lib.hid hlim
  have hadd := add_at4
  have hm0 : (0 : Int) ≤ (m : Int) := by omega
  have hm1 : (m : Int) < (n : Int) := by omega
  clear hx hv hq hlim hqm hlm hsl hA hsplit hcell
  go_enter Tryz.func7, Tryz.ntmps7
  go_upto_if 39 with (go_at_call 27; refine HBa.out.mono ?_; rintro e w1 ⟨s, ps, rfl, hb1, hS1⟩)
  go_cut [1] (fun s1 wx => wx = w1 ∧ s1 = .int .i64 (m : Int))
  case first =>
    by_cases htn : t < 0
    · rw [if_pos htn] at hm
      go_wp2_with fail
      go_meet
      exact ⟨rfl, by rw [← hm]⟩
    · rw [if_neg htn] at hm
      go_wp2_with fail
      go_meet
      exact ⟨rfl, by rw [← hm]⟩
  case rest =>
    obtain ⟨rfl, rfl⟩ := hcut
    obtain ⟨wo, hwo⟩ : ∃ x, x = wc := ⟨_, rfl⟩
    subst hwo
    clear ht ht1 ht2 hm hne hne2 HBa
    have f0 := (hb1.cell (cell_lt e0)).trans e0
    have f1 := (hb1.cell (cell_lt e1)).trans e1
    have f2 := (hb1.cell (cell_lt e2)).trans e2
    have f3 := (hb1.cell (cell_lt e3)).trans e3
    clear e0 e1 e2 e3
    have HVa1 := Lib.hid (HVa.out _ s ps hb1 hS1)
    cases hval : validA baseL r with
    | true =>
      rw [hval] at HVa1
      go_wp2_with (first
        | (go_at_call 29; (with_reducible refine HVa1.out.mono ?_); rintro e w2 ⟨rfl, hb2⟩)
        | (go_at_call 20; refine (HAl.out _ (hb1.trans (hb2.mono hb1.size))).mono ?_; rintro e w3 ⟨rfl, hb3⟩))
      go_ret
      exact ⟨rfl, (hb1.trans (hb2.mono hb1.size)).trans (hb3.mono (hb1.trans (hb2.mono hb1.size)).size)⟩
    | false =>
      rw [hval] at HVa1
      go_upto_region 9 with (go_at_call 29; (with_reducible refine HVa1.out.mono ?_); rintro e w2 ⟨rfl, hb2⟩)
      have hB2 := hb1.trans (hb2.mono hb1.size)
      have hS2 := hS1.below hb2
      have hN : ∀ W : World, w2.heap.size ≤ W.heap.size → OwnR w2.heap.size W (.slice none 0 0) [] := fun W h => OwnR.nil h
      have hR1 : ∀ W : World, Below w2.heap.size w2 W → RulesQ W (.slice (some ⟨b, o, none⟩) m c) (qs.take m) := fun W h => rq_take ((HV.out.below hB2).below h) m (by omega)
      have hR2 : ∀ W : World, Below w2.heap.size w2 W → RulesQ W (.slice (some ⟨b, o + (m + 1) * 4, none⟩) (n - (m + 1)) (c - (m + 1))) (qs.drop (m + 1)) := fun W h => rq_drop ((HV.out.below hB2).below h) (m + 1) (by omega) hn
      have hR3 : ∀ (W : World) (A' : Option Addr), n ≤ m + 1 → RulesQ W (.slice A' (n - (m + 1)) 0) (qs.drop (m + 1)) := fun W A' h => rq_none hn h A'
      have hQt : QOk w (qs.take m) := fun q hq => HQ.out q (List.mem_of_mem_take hq)
      have hQd : QOk w (qs.drop (m + 1)) := fun q hq => HQ.out q (List.mem_of_mem_drop hq)
      have hlt : (qs.take m).length ≤ 20 := by rw [List.length_take]; omega
      have hld : (qs.drop (m + 1)).length ≤ 20 := by rw [List.length_drop]; omega
      have hm2 : (m : Int) + 1 ≤ (n : Int) := by omega
      have hm3 : (m : Int) ≤ (n : Int) := by omega
      have hm4 : (m : Int) ≤ (c : Int) := by omega
      go_cut [12] (fun s12 wx => Aside (Below w2.heap.size w2 wx ∧ OwnR w2.heap.size wx s12 (qs.take m ++ qs.drop (m + 1))))
      case first =>
        clear f0 f1 f2 f3
        have hmt : ((m : Int) + 1).toNat = m + 1 := by omega
        have hwr : IntKind.i64.wrap ((m : Int) + 1) = (m : Int) + 1 := IntWalk.i64_in _ (by omega)
        have hm5 : (0 : Int) ≤ (m : Int) + 1 := by omega
        have hm6 : (m : Int) + 1 ≤ (c : Int) := by omega
        have hc0 : ¬ c = 0 := by omega
        have hc1 : 0 < c := by omega
        have hc2 : ¬ (c : Int) = 0 := by omega
        rcases Nat.lt_or_ge (m + 1) c with hcm | hcm
        · have hcp : 0 < c - (m + 1) := by omega
          have hcq : ¬ c - (m + 1) = 0 := by omega
          have hcs : (m : Int) + 1 < (c : Int) := by omega
          have hct : ¬ c = m + 1 := by omega
          go_region_held3 (fun _ => True) (trivial) (first
            | (refine step_rules_more (xv := .slice (some ⟨b, o + (m + 1) * 4, none⟩) (n - (m + 1)) (c - (m + 1))) (by rfl) _ _ (by rfl) rfl hO3 hQd rfl (hR2 _ hb3) (by simp only [List.nil_append]; omega) ?_; intro v4 w4 hO4 hg4; have hb4 := OwnR.bel hb3 hO3 hg4)
            | (refine step_rules_more (xv := .slice (some ⟨b, o, none⟩) m c) (by rfl) _ _ (by rfl) rfl (hN _ (Nat.le_refl _)) hQt rfl (hR1 _ (Below.refl _ _).drew) (by simp only [List.length_nil]; omega) ?_; intro v3 w3 hO3 hg3; have hb3 := OwnR.bel (Below.refl _ _).drew (hN _ (Nat.le_refl _)) hg3))
          all_goals
            go_wp2_with fail
            go_meet
            exact ⟨hb4, by simpa using hO4⟩
        · obtain rfl : c = m + 1 := by omega
          have hm7 : (m : Int) ≤ (m : Int) + 1 := by omega
          have hm8 : m ≤ m + 1 := by omega
          have hm9 : (m : Int) ≤ ((m + 1 : Nat) : Int) := by omega
          have hR4 : ∀ W : World, RulesQ W (.slice (some ⟨b, o, none⟩) 0 0) (qs.drop (m + 1)) := fun W => by
            have := hR3 W (some ⟨b, o, none⟩) (by omega)
            rw [show n - (m + 1) = 0 by omega] at this
            exact this
          go_region_held3 (fun _ => True) (trivial) (first
            | (refine step_rules_more (xv := .slice (some ⟨b, o, none⟩) 0 0) (by rfl) _ _ (by rfl) rfl hO3 hQd rfl (hR4 _) (by simp only [List.nil_append]; omega) ?_; intro v4 w4 hO4 hg4; have hb4 := OwnR.bel hb3 hO3 hg4)
            | (refine step_rules_more (xv := .slice (some ⟨b, o, none⟩) m (m + 1)) (by rfl) _ _ (by rfl) rfl (hN _ (Nat.le_refl _)) hQt rfl (hR1 _ (Below.refl _ _).drew) (by simp only [List.length_nil]; omega) ?_; intro v3 w3 hO3 hg3; have hb3 := OwnR.bel (Below.refl _ _).drew (hN _ (Nat.le_refl _)) hg3))
          all_goals
            go_wp2_with fail
            go_meet
            exact ⟨hb4, by simpa using hO4⟩
      case rest =>
        have hb3 := hcut.out.1
        have hO3 := hcut.out.2
        have hB3 := hB2.trans (hb3.mono hB2.size)
        have hS3 := hS2.below hb3
        have hQ3 : QOk wc (qs.take m ++ qs.drop (m + 1)) := (hQt.app hQd).below hB3
        have hR4 := hO3.reads.rules hQ3
        have hRv : RulesA wc (.slice (some ⟨b, o, none⟩) n c) (qs.map (·.1)) := (HV.out.below hB3).rules (HQ.out.below hB3)
        have hlaw : levelA baseL (qs.map (·.1)) who [] key attr = levelA baseL ((qs.take m ++ qs.drop (m + 1)).map (·.1)) who [] key attr := by
          have h1 : qs.map (·.1) = (qs.take m).map (·.1) ++ r :: (qs.drop (m + 1)).map (·.1) := by
            have := congrArg (List.map (·.1)) HSP.out
            rw [List.map_append, List.map_cons] at this
            exact this
          rw [h1, List.map_append]
          refine invalid_law baseL who [] key attr hval _ _ ?_
          intro h
          have hlen := congrArg List.length h
          rw [List.length_append, List.length_map, List.length_map, List.length_take, List.length_drop, List.length_nil] at hlen
          omega
        obtain ⟨lv, hlv⟩ : ∃ lv, levelA baseL (qs.map (·.1)) who [] key attr = lv := ⟨_, rfl⟩
        have HLv1 : Hid (∀ W : World, Below wc.heap.size wc W → Calls Tryz.prog 28 #[.pointer (some ⟨s, 0, none⟩), .slice (some ⟨b, o, none⟩) n c, .string ⟨who.toArray⟩, .slice none 0 0, .string ⟨key.toArray⟩, .string ⟨attr.toArray⟩] W fun e w' => e = .returned (.int .i64 lv) ∧ Below W.heap.size W w') := Lib.hid fun W h => by
          have := Level_c s ps baseL base_sound (qs.map (·.1)) _ who [] (.slice none 0 0) key attr W (hw.keep (hB3.trans (h.mono hB3.size))) (hS3.below h) (hRv.below h) (by rw [List.length_map]; omega) (fun r hr => by obtain ⟨q, hq, rfl⟩ := List.mem_map.1 hr; exact HLm.out q hq) (.inl ⟨rfl, rfl⟩) (by simp) (by omega)
          rw [hlv] at this
          exact this
        have HLv2 : Hid (∀ W : World, Below wc.heap.size wc W → Calls Tryz.prog 28 #[.pointer (some ⟨s, 0, none⟩), u12, .string ⟨who.toArray⟩, .slice none 0 0, .string ⟨key.toArray⟩, .string ⟨attr.toArray⟩] W fun e w' => e = .returned (.int .i64 lv) ∧ Below W.heap.size W w') := Lib.hid fun W h => by
          have := Level_c s ps baseL base_sound ((qs.take m ++ qs.drop (m + 1)).map (·.1)) _ who [] (.slice none 0 0) key attr W (hw.keep (hB3.trans (h.mono hB3.size))) (hS3.below h) (hR4.below h) (by rw [List.length_map, List.length_append]; omega) (fun r hr => by obtain ⟨q, hq, rfl⟩ := List.mem_map.1 hr; exact HLm.out q ((List.mem_append.1 hq).elim List.mem_of_mem_take List.mem_of_mem_drop)) (.inl ⟨rfl, rfl⟩) (by simp) (by omega)
          rw [← hlaw, hlv] at this
          exact this
        obtain ⟨Ao, co, rfl, hco⟩ := hO3.isSlice
        have hu12 : (qs.take m ++ qs.drop (m + 1)).length ≤ 40 := by rw [List.length_append]; omega
        generalize (qs.take m ++ qs.drop (m + 1)).length = no at *
        clear hR4 hRv hQ3 hO3 hcut hN hR1 hR2 hR3 hlaw hlv hS3
        go_wp2_with (first
          | (go_at_call 20; refine (HAl.out _ hB3).mono ?_; rintro e w4 ⟨rfl, hb4⟩)
          | (go_at_call 28; (with_reducible refine (HLv1.out _ hb4).mono ?_); rintro e w5 ⟨rfl, hb5⟩; have hb5x := hb4.trans (hb5.mono hb4.size))
          | (go_at_call 28; (with_reducible refine (HLv2.out _ hb5x).mono ?_); rintro e w6 ⟨rfl, hb6⟩))
        all_goals
          go_ret
          exact ⟨retb (by simp), hB3.trans ((hb5x.trans (hb6.mono hb5x.size)).mono hB3.size)⟩
end Go.Proofs.YtnnopncgpcbjaaaGreatDoor
/- The law AclInvalid, whole. -/
namespace Go.Proofs.YtnnopncgpcbjaaaGreatDoor
open Go.RowKit

theorem invalid_c (rs : List RuleS) (v : Value) (k : Int) (who key attr : List UInt8) (w : World) (hw : Env w) (hv : RulesA w v rs) (hn : ∀ c, v = .slice none rs.length c → c = 0) (hb : (rs.map fun r => 1 + ruleW r).sum + who.length + key.length + attr.length ≤ 1048576) :
    Calls Tryz.prog 7 #[v, .int .i64 k, .string ⟨who.toArray⟩, .string ⟨key.toArray⟩, .string ⟨attr.toArray⟩] w fun e w' => e = .returned (.bool true) ∧ Below w.heap.size w w' := by
  have hlim := lim_all (rs := rs) (by omega)
  have hlen := sum_len (rs := rs)
  by_cases ho : rs.length < 2 ∨ 20 < rs.length ∨ 1000 < who.length + key.length + attr.length
  · obtain ⟨A, c, rfl, hc, _⟩ := id hv
    exact invalid_out A rs.length c k who key attr w hw (by omega) (by omega) (by omega) (by omega) ho
  · obtain ⟨qs, hqr, hq, hok⟩ := hv.quads hn
    have hql : qs.length = rs.length := by rw [← hqr, List.length_map]
    obtain ⟨A, c, rfl, hc, hn0, hx⟩ := id hq
    obtain ⟨b, o, rfl, _⟩ := hx 0 (by omega)
    exact invalid_main qs qs.length b o c rfl k who key attr w hw hq hok (fun q hqm => hlim _ (by rw [← hqr]; exact List.mem_map_of_mem hqm)) (by omega) (by omega) (by omega)
end Go.Proofs.YtnnopncgpcbjaaaGreatDoor
