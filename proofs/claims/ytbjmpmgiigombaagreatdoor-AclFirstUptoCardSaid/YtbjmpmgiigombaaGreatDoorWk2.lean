import Derived.Test.YtbjmpmgiigombaaGreatDoorWk1
import Derived.Test.YtbjmpmgiigombaaGreatDoorWve8
set_option linter.all false
set_option maxHeartbeats 8000000
namespace Go.Proofs.YtbjmpmgiigombaaGreatDoor
open Go.RowKit
set_option maxRecDepth 100000 in
theorem first_main (qs ms : List RuleQ) (A1 A2 : Option Addr) (c1 c2 n1 n2 : Nat) (hn1 : qs.length = n1) (hn2 : ms.length = n2) (who key attr : List UInt8) (level : Int) (w : World) (hw : Env w) (hv1 : RulesQ w (.slice A1 n1 c1) qs) (hq1 : QOk w qs) (hlim1 : ∀ q ∈ qs, AclLim q.1) (hv2 : RulesQ w (.slice A2 n2 c2) ms) (hq2 : QOk w ms) (hlim2 : ∀ q ∈ ms, AclLim q.1) (h1 : n1 ≤ 20) (h2 : n2 ≤ 20) (h0 : 0 ≤ level) (h6 : level ≤ 6) (hl : who.length + key.length + attr.length ≤ 1000) :
  Calls Tryz.prog 5 #[.slice A1 n1 c1, .slice A2 n2 c2, .string ⟨who.toArray⟩, .string ⟨key.toArray⟩, .string ⟨attr.toArray⟩, .int .i64 level] w fun e w' => e = .returned (.bool true) ∧ Below w.heap.size w w' := by
 have HAl := Lib.hid (fun (W : World) (h : Below w.heap.size w W) => alive_c16 W (hw.keep h))
 have HBa := Lib.hid (base_c16 w hw)
 have hget := ba_get
 have hext := ba_ext
 obtain ⟨f1, f2, f3, f4⟩ := first_law baseL who [] key attr h0 h6 (qs.map (·.1)) (ms.map (·.1))
 obtain ⟨la, hla⟩ : ∃ x, levelA baseL (qs.map (·.1) ++ [allRule level]) who [] key attr = x := ⟨_, rfl⟩
 obtain ⟨lc, hlc⟩ : ∃ x, levelA baseL (qs.map (·.1)) who [] key attr = x := ⟨_, rfl⟩
 rw [hla] at f1 f3 f4
 rw [hlc] at f3 f4
 have f3' : n1 ≠ 0 → lc = la ∨ lc = 0 := fun h => f3 (by intro e; apply h; rw [← hn1, ← List.length_map (f := (·.1)), e]; rfl)
 have f4' : n1 = 0 → lc = 5 ∧ la = level := fun h => f4 (by
  have : qs = [] := List.eq_nil_of_length_eq_zero (by omega)
  rw [this]; rfl)
 clear f3 f4
 have HL : Hid (∀ (rs : List RuleS) (lv : Int), levelA baseL rs who [] key attr = lv → rs.length ≤ 100 → (∀ r ∈ rs, AclLim r) → ∀ (s : Nat) (ps : List Nat) (vr : Value) (W : World), Below w.heap.size w W → SchAt W s ps baseL → RulesA W vr rs → Calls Tryz.prog 14 #[.pointer (some ⟨s, 0, none⟩), vr, .string ⟨who.toArray⟩, .slice none 0 0, .string ⟨key.toArray⟩, .string ⟨attr.toArray⟩] W fun e w' => e = .returned (.int .i64 lv) ∧ Below W.heap.size W w') := Lib.hid fun rs lv hlv hr hlm s ps vr W hW hS hR => by
  have := Level_c s ps baseL base_sound rs vr who [] (.slice none 0 0) key attr W (hw.keep hW) hS hR (by omega) hlm (.inl ⟨rfl, rfl⟩) (by simp) (by omega)
  rw [hlv] at this
  exact this
 have hlimA : ∀ q ∈ ([] ++ qs) ++ [allQ level 0], AclLim q.1 := fun q hq => by
  rcases List.mem_append.1 hq with hq | hq
  ·exact hlim1 q (by simpa using hq)
  ·rw [List.mem_singleton.1 hq]; exact all_lim level
 have HL5 := Lib.hid (HL.out (qs.map (·.1) ++ [allRule level]) la hla (by simp; omega) (fun r hr => by
  rcases List.mem_append.1 hr with hr | hr
  ·obtain ⟨q, hq, rfl⟩ := List.mem_map.1 hr; exact hlim1 q hq
  ·rw [List.mem_singleton.1 hr]; exact all_lim level))
 have HL6 := Lib.hid (HL.out (qs.map (·.1) ++ [allRule level] ++ ms.map (·.1)) la f1.symm (by simp; omega) (fun r hr => by
  rcases List.mem_append.1 hr with hr | hr
  ·rcases List.mem_append.1 hr with hr | hr
   ·obtain ⟨q, hq, rfl⟩ := List.mem_map.1 hr; exact hlim1 q hq
   ·rw [List.mem_singleton.1 hr]; exact all_lim level
  ·obtain ⟨q, hq, rfl⟩ := List.mem_map.1 hr; exact hlim2 q hq))
 have HL7 := Lib.hid (HL.out (allRule level :: qs.map (·.1)) level f2 (by simp; omega) (fun r hr => by
  rcases List.mem_cons.1 hr with rfl | hr
  ·exact all_lim level
  ·obtain ⟨q, hq, rfl⟩ := List.mem_map.1 hr; exact hlim1 q hq))
 have HL9 := Lib.hid (HL.out (qs.map (·.1)) lc hlc (by simp; omega) (fun r hr => by
  obtain ⟨q, hq, rfl⟩ := List.mem_map.1 hr; exact hlim1 q hq))
 have HV1 := Lib.hid hv1
 have HV2 := Lib.hid hv2
 have HQ1 := Lib.hid hq1
 have HQ2 := Lib.hid hq2
 have F3 := Lib.hid f3'
 have F4 := Lib.hid f4'
 have hcl1 : n1 ≤ c1 := by obtain ⟨A, c, hsl, hc, _⟩ := hv1; cases hsl; omega
 have hcl2 : n2 ≤ c2 := by obtain ⟨A, c, hsl, hc, _⟩ := hv2; cases hsl; omega
 clear hv1 hv2 hq1 hq2 hlim1 hlim2 hlimA hla hlc f1 f2 f3' f4' HL
 go_enter Tryz.func5, Tryz.ntmps5
 go_upto_region 5 with (go_at_call 13; refine HBa.out.mono ?_; rintro e w1 ⟨s, ps, rfl, hb1, hS1⟩)
 have hg : Bk (w1.alloc (.cells #[.int .i64 0, .string ⟨#[]⟩, .int .i64 level] 61)) w1.heap.size 61 #[.int .i64 0, .string ⟨#[]⟩, .int .i64 level] := Bk.new w1 _ _
 have hb2 := hb1.alloc hb1.size (.cells #[.int .i64 0, .string ⟨#[]⟩, .int .i64 level] 61)
 have hb2a : Below w1.heap.size w1 (w1.alloc (.cells #[.int .i64 0, .string ⟨#[]⟩, .int .i64 level] 61)) := (Below.refl _ _).alloc (Nat.le_refl _) _
 have hb3 := hb2.alloc hb2.size (.cells #[.int .i64 0, .string ⟨#[]⟩, .slice none 0 0, .slice (some ⟨w1.heap.size, 0, none⟩) 1 1] 47)
 have hb3a := hb2a.alloc hb2a.size (.cells #[.int .i64 0, .string ⟨#[]⟩, .slice none 0 0, .slice (some ⟨w1.heap.size, 0, none⟩) 1 1] 47)
 have hg2 := hg.alloc (.cells #[.int .i64 0, .string ⟨#[]⟩, .slice none 0 0, .slice (some ⟨w1.heap.size, 0, none⟩) 1 1] 47)
 have hk2 := Bk.new (w1.alloc (.cells #[.int .i64 0, .string ⟨#[]⟩, .int .i64 level] 61)) 47 #[.int .i64 0, .string ⟨#[]⟩, .slice none 0 0, .slice (some ⟨w1.heap.size, 0, none⟩) 1 1]
 have hS4 := hS1.below hb3a
 rw [World.size_alloc] at hk2
 generalize (w1.alloc (.cells #[.int .i64 0, .string ⟨#[]⟩, .int .i64 level] 61)).alloc (.cells #[.int .i64 0, .string ⟨#[]⟩, .slice none 0 0, .slice (some ⟨w1.heap.size, 0, none⟩) 1 1] 47) = W4 at *
 clear hg hb2 hb2a hb3a hS1
 generalize w1.heap.size = g at *
 have hok4 := allQ_ok hg2
 have HOK := Lib.hid (fun (W : World) (h : Below W4.heap.size W4 W) => hok4.below8 h)
 have HKc : ∀ W : World, Below W4.heap.size W4 W → W.cell? ⟨g + 1, 0, none⟩ = some (.int .i64 0) ∧ W.cell? ⟨g + 1, 1, none⟩ = some (.string ⟨#[]⟩) ∧ W.cell? ⟨g + 1, 2, none⟩ = some (.slice none 0 0) ∧ W.cell? ⟨g + 1, 3, none⟩ = some (.slice (some ⟨g, 0, none⟩) 1 1) := fun W h => ⟨(hk2.below h).cell 0, (hk2.below h).cell 1, (hk2.below h).cell 2, (hk2.below h).cell 3⟩
 have hN : ∀ W : World, Below W4.heap.size W4 W → OwnR W4.heap.size W (.slice none 0 0) [] := fun W h => OwnR.nil h.size
 have hR1 : ∀ W : World, Below W4.heap.size W4 W → RulesQ W (.slice A1 n1 c1) qs := fun W h => HV1.out.below8 (hb3.trans (h.mono hb3.size))
 have hR2 : ∀ W : World, Below W4.heap.size W4 W → RulesQ W (.slice A2 n2 c2) ms := fun W h => HV2.out.below8 (hb3.trans (h.mono hb3.size))
 have hL5 : Hid (∀ (v : Value) (W : World), Below W4.heap.size W4 W → OwnR W4.heap.size W v (([] ++ qs) ++ [allQ level g]) → Calls Tryz.prog 14 #[.pointer (some ⟨s, 0, none⟩), v, .string ⟨who.toArray⟩, .slice none 0 0, .string ⟨key.toArray⟩, .string ⟨attr.toArray⟩] W fun e w' => e = .returned (.int .i64 la) ∧ Below W.heap.size W w') := Lib.hid fun v W h hO => HL5.out s ps v W (hb3.trans (h.mono hb3.size)) (hS4.below h) (by
  have := hO.reads.rules (QOk.app (QOk.app (fun q hq => (by cases hq)) (HQ1.out.below8 (hb3.trans (h.mono hb3.size)))) (HOK.out W h))
  simpa [allQ] using this)
 have hL6 : Hid (∀ (v : Value) (W : World), Below W4.heap.size W4 W → OwnR W4.heap.size W v ((([] ++ qs) ++ [allQ level g]) ++ ms) → Calls Tryz.prog 14 #[.pointer (some ⟨s, 0, none⟩), v, .string ⟨who.toArray⟩, .slice none 0 0, .string ⟨key.toArray⟩, .string ⟨attr.toArray⟩] W fun e w' => e = .returned (.int .i64 la) ∧ Below W.heap.size W w') := Lib.hid fun v W h hO => HL6.out s ps v W (hb3.trans (h.mono hb3.size)) (hS4.below h) (by
  have := hO.reads.rules (QOk.app (QOk.app (QOk.app (fun q hq => (by cases hq)) (HQ1.out.below8 (hb3.trans (h.mono hb3.size)))) (HOK.out W h)) (HQ2.out.below8 (hb3.trans (h.mono hb3.size))))
  simpa [allQ] using this)
 have hL7 : Hid (∀ (v : Value) (W : World), Below W4.heap.size W4 W → OwnR W4.heap.size W v ([allQ level g] ++ qs) → Calls Tryz.prog 14 #[.pointer (some ⟨s, 0, none⟩), v, .string ⟨who.toArray⟩, .slice none 0 0, .string ⟨key.toArray⟩, .string ⟨attr.toArray⟩] W fun e w' => e = .returned (.int .i64 level) ∧ Below W.heap.size W w') := Lib.hid fun v W h hO => HL7.out s ps v W (hb3.trans (h.mono hb3.size)) (hS4.below h) (by
  have := hO.reads.rules (QOk.app (HOK.out W h) (HQ1.out.below8 (hb3.trans (h.mono hb3.size))))
  simpa [allQ] using this)
 have hL9 : Hid (∀ (W : World), Below W4.heap.size W4 W → Calls Tryz.prog 14 #[.pointer (some ⟨s, 0, none⟩), .slice A1 n1 c1, .string ⟨who.toArray⟩, .slice none 0 0, .string ⟨key.toArray⟩, .string ⟨attr.toArray⟩] W fun e w' => e = .returned (.int .i64 lc) ∧ Below W.heap.size W w') := Lib.hid fun W h => HL9.out s ps _ W (hb3.trans (h.mono hb3.size)) (hS4.below h) ((hR1 W h).rules (HQ1.out.below8 (hb3.trans (h.mono hb3.size))))
 have hal : Hid (∀ W : World, Below W4.heap.size W4 W → Calls Tryz.prog 6 #[] W fun e w' => e = .returned (.bool true) ∧ Below W.heap.size W w') := Lib.hid fun W h => HAl.out W (hb3.trans (h.mono hb3.size))
 have hq1 := HQ1.out
 have hq2 := HQ2.out
 clear HL5 HL6 HL7 HL9 hS4 hk2 hg2 HAl hok4
 have hx0 := Below.refl W4.heap.size W4
 go_cut [15] (fun s15 wx => s15 = .int .i64 la ∧ Aside (Below W4.heap.size W4 wx))
 case first =>
  have hxA := hx0.drew
  have hxB := hxA.alloc hxA.size (.cells #[.int .i64 0, .string ⟨#[]⟩, .slice none 0 0, .slice (some ⟨g, 0, none⟩) 1 1] 47)
  have hnA := rules_new W4.drew (allQ level g)
  rw [allQ_cells] at hnA
  have hk0 := HKc _ hx0
  go_region_held3 (fun w' => w'.cell? ⟨g + 1, 0, none⟩ = some (.int .i64 0) ∧ w'.cell? ⟨g + 1, 1, none⟩ = some (.string ⟨#[]⟩) ∧ w'.cell? ⟨g + 1, 2, none⟩ = some (.slice none 0 0) ∧ w'.cell? ⟨g + 1, 3, none⟩ = some (.slice (some ⟨g, 0, none⟩) 1 1)) (first | exact hk0 | exact HKc _ hxA | exact HKc _ hxB | exact HKc _ hb3w | exact HKc _ hb3n | exact HKc _ hb5w | exact HKc _ hb6w) (first
   | (go_at_call 14; (with_reducible refine (hL5.out _ _ hb5w hO5).mono ?_); rintro e w6 ⟨rfl, hb6⟩; have hb6w := hb5w.trans (hb6.mono hb5w.size))
   | (refine step_rules_more (xv := .slice (some ⟨w3.heap.size, 0, none⟩) 1 1) (by rfl) _ _ (by rfl) rfl hO3n (HOK.out _ hx0) rfl hn3 (by simp only [List.nil_append, List.length_singleton]; omega) ?_; intro v5 w5 hO5 hg5; have hb5w := OwnR.bel hb3n hO3n hg5)
   | (refine step_rules_more (xv := .slice (some ⟨W4.heap.size, 0, none⟩) 1 1) (by rfl) _ _ (by rfl) rfl hO3 (HOK.out _ hx0) rfl hn3 (by simp only [List.nil_append, List.length_singleton]; omega) ?_; intro v5 w5 hO5 hg5; have hb5w := OwnR.bel hb3w hO3 hg5)
   | (refine step_rules_more (xv := .slice A1 n1 c1) (by rfl) _ _ (by rfl) rfl (hN _ hxA) hq1 rfl (hR1 _ hxA) (by simp only [List.length_nil]; omega) ?_; intro v3 w3 hO3 hg3; have hb3w := OwnR.bel hxA (hN _ hxA) hg3; have hb3z : Below w3.heap.size w3 (w3.alloc (.cells #[.int .i64 0, .string ⟨#[]⟩, .slice none 0 0, .slice (some ⟨g, 0, none⟩) 1 1] 47)) := (Below.refl _ _).alloc (Nat.le_refl _) _; have hb3n := hb3w.trans (hb3z.mono hb3w.size); have hO3n := hO3.below hb3z; have hn3 := rules_new w3 (allQ level g); rw [allQ_cells] at hn3)
   | (refine step_rules_more (xv := .slice A1 n1 c1) (by rfl) _ _ (by rfl) rfl (hN _ hxB) hq1 rfl (hR1 _ hxB) (by simp only [List.length_nil]; omega) ?_; intro v3 w3 hO3 hg3; have hb3w := OwnR.bel hxB (hN _ hxB) hg3; have hn3 := hnA.below8 (OwnR.bel (Below.refl _ _) (OwnR.nil (Nat.le_refl _)) hg3)))
  all_goals
   go_wp2_with fail
   go_meet
   exact ⟨rfl, hb6w⟩
 case rest =>
  obtain ⟨rfl, A5⟩ := hcut
  have hB5 := A5.out
  obtain ⟨W5, hW5⟩ : ∃ x, x = wc := ⟨_, rfl⟩
  subst hW5
  clear A5 hx0 hL5
  go_upto_region 6 with fail
  go_cut [16] (fun s16 wx => s16 = .int .i64 la ∧ Aside (Below W4.heap.size W4 wx))
  case first =>
   have hxA := hB5.drew
   have hxB := hxA.alloc hxA.size (.cells #[.int .i64 0, .string ⟨#[]⟩, .slice none 0 0, .slice (some ⟨g, 0, none⟩) 1 1] 47)
   have hnA := rules_new W5.drew (allQ level g)
   rw [allQ_cells] at hnA
   have hk0 := HKc _ hB5
   go_region_held3 (fun w' => w'.cell? ⟨g + 1, 0, none⟩ = some (.int .i64 0) ∧ w'.cell? ⟨g + 1, 1, none⟩ = some (.string ⟨#[]⟩) ∧ w'.cell? ⟨g + 1, 2, none⟩ = some (.slice none 0 0) ∧ w'.cell? ⟨g + 1, 3, none⟩ = some (.slice (some ⟨g, 0, none⟩) 1 1)) (first | exact hk0 | exact HKc _ hxA | exact HKc _ hxB | exact HKc _ hb3w | exact HKc _ hb3n | exact HKc _ hb5w | exact HKc _ hb6w | exact HKc _ hb7w) (first
    | (go_at_call 14; (with_reducible refine (hL6.out _ _ hb6w hO6).mono ?_); rintro e w7 ⟨rfl, hb7⟩; have hb7w := hb6w.trans (hb7.mono hb6w.size))
    | (refine step_rules_more (xv := .slice A2 n2 c2) (by rfl) _ _ (by rfl) rfl hO5 hq2 rfl (hR2 _ hb5w) (by simp only [List.nil_append, List.length_append, List.length_singleton]; omega) ?_; intro v6 w6 hO6 hg6; have hb6w := OwnR.bel hb5w hO5 hg6)
    | (refine step_rules_more (xv := .slice (some ⟨w3.heap.size, 0, none⟩) 1 1) (by rfl) _ _ (by rfl) rfl hO3n (HOK.out _ hB5) rfl hn3 (by simp only [List.nil_append, List.length_singleton]; omega) ?_; intro v5 w5 hO5 hg5; have hb5w := OwnR.bel hb3n hO3n hg5)
    | (refine step_rules_more (xv := .slice (some ⟨W5.heap.size, 0, none⟩) 1 1) (by rfl) _ _ (by rfl) rfl hO3 (HOK.out _ hB5) rfl hn3 (by simp only [List.nil_append, List.length_singleton]; omega) ?_; intro v5 w5 hO5 hg5; have hb5w := OwnR.bel hb3w hO3 hg5)
    | (refine step_rules_more (xv := .slice A1 n1 c1) (by rfl) _ _ (by rfl) rfl (hN _ hxA) hq1 rfl (hR1 _ hxA) (by simp only [List.length_nil]; omega) ?_; intro v3 w3 hO3 hg3; have hb3w := OwnR.bel hxA (hN _ hxA) hg3; have hb3z : Below w3.heap.size w3 (w3.alloc (.cells #[.int .i64 0, .string ⟨#[]⟩, .slice none 0 0, .slice (some ⟨g, 0, none⟩) 1 1] 47)) := (Below.refl _ _).alloc (Nat.le_refl _) _; have hb3n := hb3w.trans (hb3z.mono hb3w.size); have hO3n := hO3.below hb3z; have hn3 := rules_new w3 (allQ level g); rw [allQ_cells] at hn3)
    | (refine step_rules_more (xv := .slice A1 n1 c1) (by rfl) _ _ (by rfl) rfl (hN _ hxB) hq1 rfl (hR1 _ hxB) (by simp only [List.length_nil]; omega) ?_; intro v3 w3 hO3 hg3; have hb3w := OwnR.bel hxB (hN _ hxB) hg3; have hn3 := hnA.below8 (OwnR.bel (Below.refl _ _) (OwnR.nil (Nat.le_refl _)) hg3)))
   all_goals
    go_wp2_with fail
    go_meet
    exact ⟨rfl, hb7w⟩
  case rest =>
   obtain ⟨rfl, A6⟩ := hcut
   have hB6 := A6.out
   obtain ⟨W6, hW6⟩ : ∃ x, x = wc := ⟨_, rfl⟩
   subst hW6
   clear A6 hB5 hL6 hR2 hq2
   have hk6 := HKc _ hB6
   obtain ⟨k0, k1, k2, k3⟩ := hk6
   have hO6 := OwnR.new (B := W4.heap.size) W6 (allQ level g) hB6.size
   have hB7 := hB6.alloc hB6.size (.cells #[.int .i64 0, .string ⟨#[]⟩, .slice none 0 0, .slice (some ⟨g, 0, none⟩) 1 1] 47)
   rw [allQ_cells] at hO6
   go_upto_if 88 with (first
    | (at_builtin; refine rules_more_g (by rfl) _ _ rfl rfl hO6 hq1 rfl (hR1 _ hB7) (by simp only [List.length_singleton]; omega) ?_; intro v7 w7 hO7 hg7; have hB8 := OwnR.bel hB7 hO6 hg7)
    | (go_at_call 14; (with_reducible refine (hL7.out _ _ hB8 hO7).mono ?_); rintro e w9 ⟨rfl, hb9⟩; have hB9 := hB8.trans (hb9.mono hB8.size)))
   by_cases hz : n1 = 0
   ·obtain ⟨e1, e2⟩ := F4.out hz
    subst e1
    subst e2
    subst hz
    clear F3 F4
    go_wp2_with (first
     | (go_at_call 14; (with_reducible refine (hL9.out _ hB9).mono ?_); rintro e wa ⟨rfl, hba⟩; have hBa := hB9.trans (hba.mono hB9.size))
     | (go_at_call 6; (with_reducible refine (hal.out _ hBa).mono ?_); rintro e wb ⟨rfl, hbb⟩))
    go_ret
    exact ⟨rfl, hb3.trans ((hBa.trans (hbb.mono hBa.size)).mono hb3.size)⟩
   ·have hf3 := F3.out hz
    have hpos : 0 < n1 := by omega
    clear F3 F4
    by_cases hq : lc = la
    ·subst hq
     clear hf3 hz
     go_wp2_with (first
      | (go_at_call 14; (with_reducible refine (hL9.out _ hB9).mono ?_); rintro e wa ⟨rfl, hba⟩; have hBa := hB9.trans (hba.mono hB9.size))
      | (go_at_call 6; (with_reducible refine (hal.out _ hBa).mono ?_); rintro e wb ⟨rfl, hbb⟩))
     go_ret
     exact ⟨rfl, hb3.trans ((hBa.trans (hbb.mono hBa.size)).mono hb3.size)⟩
    ·obtain rfl : lc = 0 := hf3.resolve_left hq
     have hqb : ((0 : Int) == la) = false := beq_eq_false_iff_ne.2 hq
     clear hf3 hz hq
     go_wp2_with (first
      | (go_at_call 14; (with_reducible refine (hL9.out _ hB9).mono ?_); rintro e wa ⟨rfl, hba⟩; have hBa := hB9.trans (hba.mono hB9.size))
      | (go_at_call 6; (with_reducible refine (hal.out _ hBa).mono ?_); rintro e wb ⟨rfl, hbb⟩))
     go_ret
     exact ⟨rfl, hb3.trans ((hBa.trans (hbb.mono hBa.size)).mono hb3.size)⟩
open Go.RowKit
theorem first_c (rs : List RuleS) (v : Value) (ms : List RuleS) (u : Value) (who key attr : List UInt8) (level : Int) (w : World) (hw : Env w) (hv : RulesA w v rs) (hn : ∀ c, v = .slice none rs.length c → c = 0) (hu : RulesA w u ms) (hm : ∀ c, u = .slice none ms.length c → c = 0) (hb : (rs.map fun r => 1 + ruleW r).sum + (ms.map fun r => 1 + ruleW r).sum + who.length + key.length + attr.length ≤ 1048576) :
  Calls Tryz.prog 5 #[v, u, .string ⟨who.toArray⟩, .string ⟨key.toArray⟩, .string ⟨attr.toArray⟩, .int .i64 level] w fun e w' => e = .returned (.bool true) ∧ Below w.heap.size w w' := by
 have hlim := lim_all (rs := rs) (by omega)
 have hlim2 := lim_all (rs := ms) (by omega)
 have hlen := sum_len (rs := rs)
 have hlen2 := sum_len (rs := ms)
 by_cases ho : 20 < rs.length ∨ 20 < ms.length ∨ level < 0 ∨ 6 < level ∨ 1000 < who.length + key.length + attr.length
 ·obtain ⟨A, c, rfl, hc, _⟩ := id hv
  obtain ⟨A2, c2, rfl, hc2, _⟩ := id hu
  exact first_out A A2 rs.length c ms.length c2 who key attr level w hw (by omega) (by omega) (by omega) (by omega) (by omega) ho
 ·obtain ⟨qs, hqr, hq, hok⟩ := hv.quads hn
  obtain ⟨qs2, hqr2, hq2, hok2⟩ := hu.quads hm
  have hql : qs.length = rs.length := by rw [← hqr, List.length_map]
  have hql2 : qs2.length = ms.length := by rw [← hqr2, List.length_map]
  obtain ⟨A, c, rfl, _⟩ := id hq
  obtain ⟨A2, c2, rfl, _⟩ := id hq2
  exact first_main qs qs2 A A2 c c2 qs.length qs2.length rfl rfl who key attr level w hw hq hok (fun q hqm => hlim _ (by rw [← hqr]; exact List.mem_map_of_mem hqm)) hq2 hok2 (fun q hqm => hlim2 _ (by rw [← hqr2]; exact List.mem_map_of_mem hqm)) (by omega) (by omega) (by omega) (by omega) (by omega)
end Go.Proofs.YtbjmpmgiigombaaGreatDoor
