import Derived.Test.YtbjmpmgiigombaaGreatDoorWve8
set_option linter.all false
set_option maxHeartbeats 8000000
namespace Go.Proofs.YtbjmpmgiigombaaGreatDoor
theorem in_join (sep : List UInt8) : ∀ (xs : List (List UInt8)) (x : List UInt8), x ∈ xs → x.length ≤ (joinL sep xs).length
 | [a], x, h => by
  rw [List.mem_singleton.1 h]
  exact Nat.le_refl _
 | a :: b :: t, x, h => by
  rcases List.mem_cons.1 h with rfl | h
  ·simp only [joinL, List.length_append]; omega
  ·have := in_join sep (b :: t) x h
   simp only [joinL, List.length_append]
   omega
theorem join_num (c : UInt8) : ∀ xs : List (List UInt8), xs.length ≤ (joinL [c] xs).length + 1
 | [] => by simp
 | [a] => by simp
 | a :: b :: t => by
  have := join_num c (b :: t)
  simp only [joinL, List.length_append, List.length_cons, List.length_nil] at this ⊢
  omega
theorem quote_ge (s : List UInt8) : s.length ≤ (quoteA s).length := by
 have : ∀ l : List UInt8, l.length ≤ (l.flatMap fun c => if c == 92 then [92, 92] else if c == 34 then [92, 34] else [c]).length := by
  intro l
  induction l with
  | nil => simp
  | cons c l ih =>
   rw [List.flatMap_cons, List.length_append, List.length_cons]
   have : 1 ≤ (if c == 92 then [92, 92] else if c == 34 then [92, 34] else [c]).length := by
    split
    ·decide
    ·split
     ·decide
     ·simp
   omega
 have := this s
 unfold quoteA
 simp only [List.length_append, List.length_cons]
 omega
theorem lim_print {r : RuleS} (h : (printA r).1 = 0) : AclLim r := by
 have hs : saidA r = true := by
  cases hs : saidA r with
  | true => rfl
  | false => rw [show printA r = (100, []) by unfold printA; rw [hs]; rfl] at h; cases h
 have hJ : (joinL [32] (ruleWs r)).length ≤ 65536 := by
  unfold printA at h
  rw [hs] at h
  simp only [Bool.not_true, Bool.false_eq_true, if_false] at h
  split at h
  ·cases h
  ·omega
 obtain ⟨k, hk, hw, hz, _, hg, _, _⟩ := rule_said hs
 have hmem : ∀ x ∈ ruleWs r, x.length ≤ 65536 := fun x hx => Nat.le_trans (in_join _ _ x hx) hJ
 have hnum := join_num 32 (ruleWs r)
 have hat : (joinL [44] r.attrs).length ≤ 65536 := by
  by_cases he : r.attrs = []
  ·rw [he]; simp [joinL]
  ·have : (wAttrsEq ++ joinL [44] r.attrs) ∈ ruleWs r := by
    unfold ruleWs
    have hne : r.attrs.isEmpty = false := by cases ha : r.attrs with
     | nil => exact absurd ha he
     | cons a t => rfl
    rw [hne]
    simp
   have := hmem _ this
   rw [List.length_append] at this
   omega
 have hng : (r.grants.flatMap grantWs).length = r.grants.length * 3 := by
  generalize r.grants = l
  induction l with
  | nil => rfl
  | cons g l ih => rw [List.flatMap_cons, List.length_append, ih, List.length_cons]; simp only [grantWs, List.length_cons, List.length_nil]; omega
 have hlen : r.grants.length * 3 ≤ (ruleWs r).length := by
  unfold ruleWs
  simp only [List.length_append, hng]
  omega
 have hna := join_num 44 r.attrs
 refine ⟨?_, by omega, by omega, by omega, fun g hgm => ?_⟩
 ·by_cases h0 : r.what = 0
  ·rw [hz (by omega)]; simp
  ·have hb : (r.what == 0) = false := by rw [beq_eq_false_iff_ne]; exact h0
   have : (wordAt whatWs r.what ++ 61 :: quoteA r.name) ∈ ruleWs r := by
    unfold ruleWs
    rw [hb]
    simp
   have := hmem _ this
   have h2 := quote_ge r.name
   simp only [List.length_append, List.length_cons] at this
   omega
 ·cases hn : namedB g.who with
  | false =>
   have := hg g hgm
   unfold badGrant at this
   rw [hn] at this
   have hnil : g.name = [] := by
    cases hgn : g.name with
    | nil => rfl
    | cons a t => rw [hgn] at this; simp at this
   rw [hnil]
   simp
  | true =>
   have : (wordAt whoWs g.who ++ 61 :: quoteA g.name) ∈ ruleWs r := by
    unfold ruleWs
    refine List.mem_append_right _ (List.mem_flatMap.2 ⟨g, hgm, ?_⟩)
    unfold grantWs
    rw [hn]
    simp
   have := hmem _ this
   have h2 := quote_ge g.name
   simp only [List.length_append, List.length_cons] at this
   omega
theorem parse_code {text : List UInt8} (hl : text.length ≤ 65536) (h : (parseA text).1 ≠ 0) : (parseA text).1 = 100 := by
 unfold parseA at h ⊢
 rw [if_neg (by omega)] at h ⊢
 split
 ·next t k l heq =>
  rw [heq] at h
  simp only at h
  split
  ·rfl
  ·next ht =>
   rw [if_neg ht] at h
   split
   ·rfl
   ·next what name hk =>
    rw [hk] at h
    simp only at h
    split
    ·rfl
    ·next ha =>
     rw [if_neg ha] at h
     split
     ·rfl
     ·next gs rest hg =>
      rw [hg] at h
      simp only at h
      split
      ·rfl
      ·next hr =>
       rw [if_neg hr] at h
       exact absurd rfl h
 ·rfl
theorem print_len {r : RuleS} (h : (printA r).1 = 0) : (printA r).2.length ≤ 65536 := by
 unfold printA at h ⊢
 cases hs : saidA r
 ·rw [hs] at h; simp at h
 ·rw [hs] at h
  simp only [Bool.not_true, Bool.false_eq_true, if_false] at h ⊢
  split at h
  ·simp at h
  ·next hl =>
   rw [if_neg hl]
   show (joinL [32] (ruleWs r)).length ≤ 65536
   omega
open Go.RowKit
theorem bel_new (w : World) (o : Obj) : Below w.heap.size w (w.alloc o) := (Below.refl _ _).alloc (Nat.le_refl _) _
theorem in_grant (W : World) (a c : Int) (x : List UInt8) : (Op.equalIn 10000 61 (.agg #[.int .i64 a, .string ⟨x.toArray⟩, .int .i64 c]) (.agg #[.int .i64 a, .string ⟨x.toArray⟩, .int .i64 c])).run Tryz.prog W = .ok true W := by
 have u9 := Tryz.underlying9
 have a9 := Tryz.isAgg9
 have z9 := Tryz.sizeOf9
 have u3 := Tryz.underlying3
 have a3 := Tryz.isAgg3
 have z3 := Tryz.sizeOf3
 have hS : Tryz.prog.underlying 61 = some (.struct (Tryz.prog.fieldsOf 61)) := by kernel_rfl
 have hp : Tryz.prog.stoodInHeld 61 = false := by kernel_rfl
 rw [show (10000 : Nat) = 9999 + 1 from rfl, run_equalIn_agg W 9999 61 _ _ hS hp]
 simp only [Program.fieldsOf, Tryz.underlying61]
 go_simp
 first | done | simp
theorem neq_grant (W : World) (a c : Int) (x : List UInt8) : (binOp .neq 61 (.agg #[.int .i64 a, .string ⟨x.toArray⟩, .int .i64 c]) (.agg #[.int .i64 a, .string ⟨x.toArray⟩, .int .i64 c])).run Tryz.prog W = .ok (.bool false) W := by
 rw [run_neq_struct, in_grant]; rfl
def S2 (w wr : World) (a b : Array Value) : Prop := Below w.heap.size w wr ∧ Bk wr w.heap.size 47 a ∧ Bk wr (w.heap.size + 1) 47 b
set_option maxRecDepth 100000 in
theorem same16_c (x : RuleS) (va vg vb vh : Value) (w : World) (ha : TextsA w va x.attrs) (hg : GrantsA w vg x.grants) (hb : TextsA w vb x.attrs) (hh : GrantsA w vh x.grants) (hna : x.attrs.length ≤ 1048576) (hng : x.grants.length ≤ 1048576) :
  Calls Tryz.prog 9 #[ruleArg x va vg, ruleArg x vb vh] w fun e w' => e = .returned (.bool true) ∧ Below w.heap.size w w' := by
 obtain ⟨Aa, ca, rfl, hca, h1⟩ := ha.at
 obtain ⟨Ab, cb, rfl, hcb, h2⟩ := hb.at
 obtain ⟨Ag, cg, rfl, hcg, h3⟩ := id hg
 obtain ⟨Ah, ch, rfl, hch, h4⟩ := id hh
 have H1 := Lib.hid h1
 have H2 := Lib.hid h2
 have H3 := Lib.hid h3
 have H4 := Lib.hid h4
 have hadd := add_at3
 have hneq := neq_grant
 clear h1 h2 h3 h4 ha hb hg hh
 unfold ruleArg
 generalize hrn : x.name = name at *
 generalize hrw : x.what = what at *
 have hb1 := bel_new w (.cells #[.int .i64 what, .string ⟨name.toArray⟩, .slice Aa x.attrs.length ca, .slice Ag x.grants.length cg] 47)
 have hq1 := Bk.new w 47 #[.int .i64 what, .string ⟨name.toArray⟩, .slice Aa x.attrs.length ca, .slice Ag x.grants.length cg]
 have hb2 := hb1.alloc hb1.size (.cells #[.int .i64 what, .string ⟨name.toArray⟩, .slice Ab x.attrs.length cb, .slice Ah x.grants.length ch] 47)
 have hq1b := hq1.alloc (.cells #[.int .i64 what, .string ⟨name.toArray⟩, .slice Ab x.attrs.length cb, .slice Ah x.grants.length ch] 47)
 have hq2 := Bk.new (w.alloc (.cells #[.int .i64 what, .string ⟨name.toArray⟩, .slice Aa x.attrs.length ca, .slice Ag x.grants.length cg] 47)) 47 #[.int .i64 what, .string ⟨name.toArray⟩, .slice Ab x.attrs.length cb, .slice Ah x.grants.length ch]
 rw [World.size_alloc] at hq2
 go_enter Tryz.func9, Tryz.ntmps9
 go_wp2_with fail
 go_loopg [5] x.attrs.length (fun gk i wr => ∃ k : Nat, k ≤ x.attrs.length ∧ i = .int .i64 k ∧ Aside (k + gk = x.attrs.length) ∧ Aside (S2 w wr #[.int .i64 what, .string ⟨name.toArray⟩, .slice Aa x.attrs.length ca, .slice Ag x.grants.length cg] #[.int .i64 what, .string ⟨name.toArray⟩, .slice Ab x.attrs.length cb, .slice Ah x.grants.length ch]))
 case atStart => exact ⟨0, by omega, rfl, by show _ = _; omega, ⟨hb2, hq1b, hq2⟩⟩
 case round =>
  clear hb1 hb2 hq1 hq1b hq2
  obtain ⟨k, hk, rfl, AG, AB⟩ := hrel
  obtain ⟨wo, hwo⟩ : ∃ wo, wo = wr := ⟨_, rfl⟩
  subst hwo
  have a2 : wo.cell? ⟨w.heap.size, 2, none⟩ = some (.slice Aa x.attrs.length ca) := AB.out.2.1.cell 2
  have b2 : wo.cell? ⟨w.heap.size + 1, 2, none⟩ = some (.slice Ab x.attrs.length cb) := AB.out.2.2.cell 2
  by_cases hlt : k < x.attrs.length
  ·obtain ⟨q, rfl⟩ : ∃ q, gk = q + 1 := ⟨gk - 1, by have := AG.out; omega⟩
   obtain ⟨p1, rfl, c1⟩ := H1.out k hlt
   obtain ⟨p2, rfl, c2⟩ := H2.out k hlt
   have d1 := (AB.out.1.cell (cell_lt c1)).trans c1
   have d2 := (AB.out.1.cell (cell_lt c2)).trans c2
   clear c1 c2
   generalize x.attrs[k] = t at d1 d2
   go_wp2_with fail
   go_quiet (fail)
   go_wp2_with fail
   go_roundg q
   case measure => omega
   case rel => exact ⟨k + 1, by omega, by go_num, by have := AG.out; show _ = _; omega, ⟨below_drewN AB.out.1 nq, AB.out.2.1.drewN nq, AB.out.2.2.drewN nq⟩⟩
  ·obtain rfl : k = x.attrs.length := by omega
   have hB0 := AB.out.1
   have hQ1 := AB.out.2.1
   have hQ2 := AB.out.2.2
   clear AB AG
   go_wp2_with fail
   go_loopg [6] x.grants.length (fun gk i wr => ∃ k : Nat, k ≤ x.grants.length ∧ i = .int .i64 k ∧ Aside (k + gk = x.grants.length) ∧ Aside (S2 w wr #[.int .i64 what, .string ⟨name.toArray⟩, .slice Aa x.attrs.length ca, .slice Ag x.grants.length cg] #[.int .i64 what, .string ⟨name.toArray⟩, .slice Ab x.attrs.length cb, .slice Ah x.grants.length ch]))
   case atStart => exact ⟨0, by omega, rfl, by show _ = _; omega, ⟨hB0, hQ1, hQ2⟩⟩
   case round =>
    clear a2 b2 hB0 hQ1 hQ2
    obtain ⟨k, hk, rfl, AG, AB⟩ := hrel
    have a3 : wr.cell? ⟨w.heap.size, 3, none⟩ = some (.slice Ag x.grants.length cg) := AB.out.2.1.cell 3
    have b3 : wr.cell? ⟨w.heap.size + 1, 3, none⟩ = some (.slice Ah x.grants.length ch) := AB.out.2.2.cell 3
    by_cases hlt : k < x.grants.length
    ·obtain ⟨q, rfl⟩ : ∃ q, gk = q + 1 := ⟨gk - 1, by have := AG.out; omega⟩
     obtain ⟨p1, o1, rfl, c1, c2, c3⟩ := H3.out k hlt
     obtain ⟨p2, o2, rfl, e1, e2, e3⟩ := H4.out k hlt
     have d1 := (AB.out.1.cell (cell_lt c1)).trans c1
     have d2 := (AB.out.1.cell (cell_lt c2)).trans c2
     have d3 := (AB.out.1.cell (cell_lt c3)).trans c3
     have f1 := (AB.out.1.cell (cell_lt e1)).trans e1
     have f2 := (AB.out.1.cell (cell_lt e2)).trans e2
     have f3 := (AB.out.1.cell (cell_lt e3)).trans e3
     clear c1 c2 c3 e1 e2 e3
     generalize x.grants[k] = t at d1 d2 d3 f1 f2 f3
     go_wp2_with fail
     go_quiet (fail)
     go_wp2_with fail
     go_roundg q
     case measure => omega
     case rel => exact ⟨k + 1, by omega, by go_num, by have := AG.out; show _ = _; omega, ⟨below_drewN AB.out.1 nq, AB.out.2.1.drewN nq, AB.out.2.2.drewN nq⟩⟩
    ·obtain rfl : k = x.grants.length := by omega
     go_wp2_with fail
     go_ret
     exact ⟨rfl, AB.out.1⟩
open Go.RowKit
set_option maxRecDepth 100000 in
theorem back_out (r : RuleS) (va vg : Value) (text : List UInt8) (w : World) (hw : Env w) (hva : TextsA w va r.attrs) (hvg : GrantsA w vg r.grants) (hlim : AclLim r) (ht : text.length ≤ 1048576) (ho : 200 < r.attrs.length ∨ 200 < r.grants.length ∨ 9000 < text.length) :
  Calls Tryz.prog 4 #[ruleArg r va vg, .string ⟨text.toArray⟩] w fun e w' => e = .returned (.bool true) ∧ Below w.heap.size w w' := by
 have HAl := Lib.hid (fun (W : World) (h : Below w.heap.size w W) => alive_c16 W (hw.keep h))
 obtain ⟨Aa, ca, rfl, hca, hz1⟩ := hva.at
 obtain ⟨Ag, cg, rfl, hcg, hz2⟩ := id hvg
 clear hz1 hz2
 have hna := hlim.nattrs
 have hng := hlim.ngrants
 have hget := ba_get
 have hext := ba_ext
 unfold ruleArg
 clear hva hvg hlim hw
 generalize r.attrs.length = na at *
 generalize r.grants.length = ng at *
 have hb0 := bel_new w (.cells #[.int .i64 r.what, .string ⟨r.name.toArray⟩, .slice Aa na ca, .slice Ag ng cg] 47)
 have h : 200 < na ∨ (¬ 200 < na ∧ 200 < ng) ∨ (¬ 200 < na ∧ ¬ 200 < ng ∧ 9000 < text.length) := by omega
 rcases h with h1 | ⟨h1, h2⟩ | ⟨h1, h2, h3⟩
 all_goals
  go_enter Tryz.func4, Tryz.ntmps4
  go_wp2_with (go_at_call 6; refine (HAl.out _ hb0).mono ?_; rintro e w2 ⟨rfl, hb2⟩)
  all_goals
   go_ret
   exact ⟨rfl, hb0.trans (hb2.mono hb0.size)⟩
set_option maxRecDepth 100000 in
theorem back_main (r : RuleS) (va vg : Value) (text : List UInt8) (w : World) (hw : Env w) (hva : TextsA w va r.attrs) (hvg : GrantsA w vg r.grants) (hlim : AclLim r) (h1 : r.attrs.length ≤ 200) (h2 : r.grants.length ≤ 200) (h3 : text.length ≤ 9000) :
  Calls Tryz.prog 4 #[ruleArg r va vg, .string ⟨text.toArray⟩] w fun e w' => e = .returned (.bool true) ∧ Below w.heap.size w w' := by
 have HAl := Lib.hid (fun (W : World) (h : Below w.heap.size w W) => alive_c16 W (hw.keep h))
 have hPc : Hid (∀ (t : List UInt8) (c : Int) (x : RuleS), parseA t = (c, x) → t.length ≤ 65536 → ∀ W, Below w.heap.size w W → Calls Tryz.prog 7 #[.string ⟨t.toArray⟩] W fun e w' => ∃ Aa na ca Ag ng cg, Below W.heap.size W w' ∧ e = .returned (.tuple #[.agg #[.int .i64 x.what, .string ⟨x.name.toArray⟩, .slice Aa na ca, .slice Ag ng cg], .int .i64 c]) ∧ TextsA w' (.slice Aa na ca) x.attrs ∧ GrantsA w' (.slice Ag ng cg) x.grants) := Lib.hid fun t c x hp hl W h => by
  have := aclParse_c t W (hw.keep h) (by omega)
  rw [hp] at this
  refine this.mono ?_
  rintro e w' ⟨hb, v1, v2, rfl, g1, g2⟩
  obtain ⟨Aa, ca, rfl, _⟩ := g1.isSlice
  obtain ⟨Ag, cg, rfl, _⟩ := g2.isSlice
  exact ⟨Aa, _, ca, Ag, _, cg, hb, rfl, g1.textsA, g2.reads⟩
 have hPr : Hid (∀ (x : RuleS), AclLim x → ∀ (v1 v2 : Value) (W : World), Below w.heap.size w W → TextsA W v1 x.attrs → GrantsA W v2 x.grants → Calls Tryz.prog 12 #[.agg #[.int .i64 x.what, .string ⟨x.name.toArray⟩, v1, v2]] W fun e w' => e = .returned (.tuple #[.string ⟨(printA x).2.toArray⟩, .int .i64 (printA x).1]) ∧ Below W.heap.size W w') := Lib.hid fun x hx v1 v2 W h g1 g2 => aclPrint_c x v1 v2 W (hw.keep h) g1 g2 hx
 have hSm : Hid (∀ (x : RuleS), AclLim x → ∀ (v1 v2 v3 v4 : Value) (W : World), TextsA W v1 x.attrs → GrantsA W v2 x.grants → TextsA W v3 x.attrs → GrantsA W v4 x.grants → Calls Tryz.prog 9 #[.agg #[.int .i64 x.what, .string ⟨x.name.toArray⟩, v1, v2], .agg #[.int .i64 x.what, .string ⟨x.name.toArray⟩, v3, v4]] W fun e w' => e = .returned (.bool true) ∧ Below W.heap.size W w') := Lib.hid fun x hx v1 v2 v3 v4 W g1 g2 g3 g4 => same16_c x v1 v2 v3 v4 W g1 g2 g3 g4 hx.nattrs (Nat.le_trans hx.ngrants (by decide))
 have HPr0 := Lib.hid (hPr.out r hlim)
 have HSm0 := Lib.hid (hSm.out r hlim)
 obtain ⟨Aa, ca, rfl, hca, hz1⟩ := hva.at
 obtain ⟨Ag, cg, rfl, hcg, hz2⟩ := id hvg
 clear hz1 hz2
 have HVA := Lib.hid hva
 have HVG := Lib.hid hvg
 have hget := ba_get
 have hext := ba_ext
 unfold ruleArg
 have hb0 := bel_new w (.cells #[.int .i64 r.what, .string ⟨r.name.toArray⟩, .slice Aa r.attrs.length ca, .slice Ag r.grants.length cg] 47)
 have hk0 := Bk.new w 47 #[.int .i64 r.what, .string ⟨r.name.toArray⟩, .slice Aa r.attrs.length ca, .slice Ag r.grants.length cg]
 have hT0 := hva.below hb0
 have hG0 := hvg.below hb0
 clear hva hvg hlim hw
 obtain ⟨p, hp⟩ : ∃ p, printA r = p := ⟨_, rfl⟩
 have HP0 : Hid ((p.1 = 0 → parseA p.2 = (0, r) ∧ p.2.length ≤ 65536)) := Lib.hid fun h => by
  rw [← hp] at h ⊢
  exact ⟨print_back h, print_len h⟩
 rw [hp] at HPr0
 clear hp
 obtain ⟨c0, t0⟩ := p
 simp only at HPr0 HP0
 go_enter Tryz.func4, Tryz.ntmps4
 go_upto_if 36 with (go_at_call 12; (with_reducible refine (HPr0.out _ _ _ hb0 hT0 hG0).mono ?_); rintro e w1 ⟨rfl, hb1⟩)
 have hB1 := hb0.trans (hb1.mono hb0.size)
 have hk1 := hk0.below hb1
 have r0 : w1.cell? ⟨w.heap.size, 0, none⟩ = some (.int .i64 r.what) := hk1.cell 0
 have r1 : w1.cell? ⟨w.heap.size, 1, none⟩ = some (.string ⟨r.name.toArray⟩) := hk1.cell 1
 have r2 : w1.cell? ⟨w.heap.size, 2, none⟩ = some (.slice Aa r.attrs.length ca) := hk1.cell 2
 have r3 : w1.cell? ⟨w.heap.size, 3, none⟩ = some (.slice Ag r.grants.length cg) := hk1.cell 3
 have hT1 := hT0.below hb1
 have hG1 := hG0.below hb1
 go_cut [4] (fun s4 wx => s4 = .bool false ∧ Aside (Below w.heap.size w wx))
 case first =>
  by_cases hc : c0 = 0
  ·subst hc
   have hpb := HP0.out rfl
   have HPa := Lib.hid (hPc.out t0 0 r hpb.1 hpb.2)
   clear HP0 hpb
   go_wp2_with (first
    | (go_at_call 7; (with_reducible refine (HPa.out _ hB1).mono ?_); rintro e w3 ⟨Ba, na, cb, Bg, ng, ch, hb3, rfl, hT3, hG3⟩; have hB3 := hB1.trans (hb3.mono hB1.size); have hbx := bel_new w3 (.cells #[.int .i64 r.what, .string ⟨r.name.toArray⟩, .slice Ba na cb, .slice Bg ng ch] 47); have hB4 := hB3.trans (hbx.mono hB3.size); have hT4 := hT3.below hbx; have hG4 := hG3.below hbx; have hk4 := (hk1.below hb3).below hbx; have g0 := hk4.cell 0; have g1 := hk4.cell 1; have g2 := hk4.cell 2; have g3 := hk4.cell 3; simp only [List.getElem?_toArray, List.getElem?_cons_zero, List.getElem?_cons_succ] at g0 g1 g2 g3; have hT5 := (hT1.below hb3).below hbx; have hG5 := (hG1.below hb3).below hbx)
    | (go_at_call 9; (with_reducible refine (HSm0.out _ _ _ _ _ hT4 hG4 hT5 hG5).mono ?_); rintro e w5 ⟨rfl, hb5⟩))
   all_goals
    go_meet
    exact ⟨rfl, hB4.trans (hb5.mono hB4.size)⟩
  ·have hcb : (c0 == 0) = false := beq_eq_false_iff_ne.2 hc
   go_wp2_with fail
   all_goals
    go_meet
    exact ⟨rfl, hB1⟩
 case rest =>
  obtain ⟨rfl, AB⟩ := hcut
  have hB := AB.out
  clear hk1 r0 r1 r2 r3 hT1 hG1 hk0 hT0 hG0 hb1 hB1 HP0 HPr0 HSm0
  obtain ⟨x, hx⟩ : ∃ x, parseA text = x := ⟨_, rfl⟩
  obtain ⟨c, x⟩ := x
  have HPa := Lib.hid (hPc.out text c x hx (by omega))
  by_cases hc : c = 0
  ·subst hc
   obtain ⟨q1, q2⟩ := back_law hx
   have hl : AclLim x := lim_print (by rw [q1])
   have hlen : (joinL [32] (ruleWs x)).length ≤ 65536 := by have := print_len (r := x) (by rw [q1]); rw [q1] at this; exact this
   have HPx := Lib.hid (hPr.out x hl)
   rw [q1] at HPx
   have HPy := Lib.hid (hPc.out _ 0 x q2 hlen)
   have HSx := Lib.hid (hSm.out x hl)
   simp only at HPx
   clear hl hlen q1 q2 hx hPc hPr hSm
   generalize joinL [32] (ruleWs x) = u at *
   go_wp2_with (first
    | (go_at_call 7; (with_reducible refine (HPa.out _ hB).mono ?_); rintro e w3 ⟨Ba, na, cb, Bg, ng, ch, hb3, rfl, hT3, hG3⟩; have hB3 := hB.trans (hb3.mono hB.size); have hbx := bel_new w3 (.cells #[.int .i64 x.what, .string ⟨x.name.toArray⟩, .slice Ba na cb, .slice Bg ng ch] 47); have hB4 := hB3.trans (hbx.mono hB3.size); have hT4 := hT3.below hbx; have hG4 := hG3.below hbx; have hk4 := Bk.new w3 47 #[.int .i64 x.what, .string ⟨x.name.toArray⟩, .slice Ba na cb, .slice Bg ng ch])
    | (go_at_call 12; (with_reducible refine (HPx.out _ _ _ hB4 hT4 hG4).mono ?_); rintro e w5 ⟨rfl, hb5⟩; have hB5 := hB4.trans (hb5.mono hB4.size); have hT5 := hT4.below hb5; have hG5 := hG4.below hb5; have hk5 := hk4.below hb5)
    | (go_at_call 7; (with_reducible refine (HPy.out _ hB5).mono ?_); rintro e w6 ⟨Da, ma, da, Dg, mg, dg, hb6, rfl, hT6, hG6⟩; have hB6 := hB5.trans (hb6.mono hB5.size); have hby := bel_new w6 (.cells #[.int .i64 x.what, .string ⟨x.name.toArray⟩, .slice Da ma da, .slice Dg mg dg] 47); have hB7 := hB6.trans (hby.mono hB6.size); have hT7 := hT6.below hby; have hG7 := hG6.below hby; have hk7 := Bk.new w6 47 #[.int .i64 x.what, .string ⟨x.name.toArray⟩, .slice Da ma da, .slice Dg mg dg]; have hkx := ((hk5.below hb6).below hby); have hTx := (hT5.below hb6).below hby; have hGx := (hG5.below hb6).below hby)
    | (go_at_call 6; refine (HAl.out _ hB7).mono ?_; rintro e w8 ⟨rfl, hb8⟩; have hB8 := hB7.trans (hb8.mono hB7.size); have hT8 := hT7.below hb8; have hG8 := hG7.below hb8; have hk8 := hk7.below hb8; have hk9 := hkx.below hb8; have hT9 := hTx.below hb8; have hG9 := hGx.below hb8; have g0 := hk8.cell 0; have g1 := hk8.cell 1; have g2 := hk8.cell 2; have g3 := hk8.cell 3; have f0 := hk9.cell 0; have f1 := hk9.cell 1; have f2 := hk9.cell 2; have f3 := hk9.cell 3; simp only [List.getElem?_toArray, List.getElem?_cons_zero, List.getElem?_cons_succ] at g0 g1 g2 g3 f0 f1 f2 f3)
    | (go_at_call 9; (with_reducible refine (HSx.out _ _ _ _ _ hT9 hG9 hT8 hG8).mono ?_); rintro e w9 ⟨rfl, hb9⟩))
   all_goals
    go_ret
    exact ⟨rfl, hB8.trans (hb9.mono hB8.size)⟩
  ·have hc1 : c = 100 := by
    have h0 : (parseA text).1 ≠ 0 := by rw [hx]; exact hc
    have := parse_code (by omega) h0
    rw [hx] at this
    exact this
   subst hc1
   clear hc hx hPc hPr hSm
   go_wp2_with (first
    | (go_at_call 7; (with_reducible refine (HPa.out _ hB).mono ?_); rintro e w3 ⟨Ba, na, cb, Bg, ng, ch, hb3, rfl, hT3, hG3⟩; have hB3 := hB.trans (hb3.mono hB.size); have hbx := bel_new w3 (.cells #[.int .i64 x.what, .string ⟨x.name.toArray⟩, .slice Ba na cb, .slice Bg ng ch] 47); have hB4 := hB3.trans (hbx.mono hB3.size))
    | (go_at_call 6; refine (HAl.out _ hB4).mono ?_; rintro e w8 ⟨rfl, hb8⟩; have hB8 := hB4.trans (hb8.mono hB4.size)))
   all_goals
    go_ret
    exact ⟨rfl, hB8⟩
theorem back_c (r : RuleS) (va vg : Value) (text : List UInt8) (w : World) (hw : Env w) (hva : TextsA w va r.attrs) (hvg : GrantsA w vg r.grants) (hlim : AclLim r) (ht : text.length ≤ 1048576) :
  Calls Tryz.prog 4 #[ruleArg r va vg, .string ⟨text.toArray⟩] w fun e w' => e = .returned (.bool true) ∧ Below w.heap.size w w' := by
 by_cases ho : 200 < r.attrs.length ∨ 200 < r.grants.length ∨ 9000 < text.length
 ·exact back_out r va vg text w hw hva hvg hlim ht ho
 ·exact back_main r va vg text w hw hva hvg hlim (by omega) (by omega) (by omega)
open Go.RowKit
theorem backB_c (r : RuleS) (va vg : Value) (text : List UInt8) (w : World) (hw : Env w) (hva : TextsA w va r.attrs) (hvg : GrantsA w vg r.grants) (hb : ruleW r + text.length ≤ 1048576) :
  Calls Tryz.prog 4 #[ruleArg r va vg, .string ⟨text.toArray⟩] w fun e w' => e = .returned (.bool true) ∧ Below w.heap.size w w' :=
 back_c r va vg text w hw hva hvg (lim_of (by omega)) (by omega)
end Go.Proofs.YtbjmpmgiigombaaGreatDoor
