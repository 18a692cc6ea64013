import Derived.Test.YtbjmpmgiigombaaGreatDoorWve5
set_option linter.all false
set_option maxHeartbeats 8000000
namespace Go.Proofs.YtbjmpmgiigombaaGreatDoor
open Go.RowKit
set_option maxRecDepth 100000 in
theorem means1_c (s : Nat) (ps : List Nat) (L : List DefS) (hL : Sound L) (t attr : List UInt8) (ba : Nat) (w : World) (hS : SchAt w s ps L) (h0 : w.cell? ⟨ba, 0, none⟩ = some (.pointer (some ⟨s, 0, none⟩))) (h4 : w.cell? ⟨ba, 4, none⟩ = some (.string ⟨attr.toArray⟩)) (hla : attr.length ≤ 1000000) (hlt : t.length ≤ 1000000) :
  Calls Tryz.prog 190 #[.string ⟨t.toArray⟩, .pointer (some ⟨ba, 0, none⟩)] w fun e w' => e = .returned (.bool (if isWordA t || isWordA attr then t == attr else isSubD L attr t)) ∧ Below w.heap.size w w' := by
 have HW1 := Lib.hid (fun W => isWord_c t W)
 have HW2 := Lib.hid (fun W => isWord_c attr W)
 have HS := Lib.hid (IsSub_s s ps L hL attr t w hS hla hlt)
 unfold ptrV at HS
 generalize isSubD L attr t = sb at HS ⊢
 generalize isWordA t = b1 at HW1 ⊢
 generalize isWordA attr = b2 at HW2 ⊢
 clear hS hL
 cases b1 <;> cases b2
 all_goals
  go_enter Tryz.func190, Tryz.ntmps190
  go_wp2_with (first | (go_at_call 187; (with_reducible refine (HW1.out _).mono ?_); rintro e w2 ⟨rfl, rfl⟩) | (go_at_call 187; (with_reducible refine (HW2.out _).mono ?_); rintro e w2 ⟨rfl, rfl⟩) | (go_at_call 191; refine HS.out.mono ?_; rintro e w1 ⟨rfl, hb1⟩))
  all_goals
   go_ret
   first | exact ⟨retb (by simp), Below.refl _ _⟩ | exact ⟨rfl, hb1⟩
theorem depth_le7 (s : List UInt8) : -1 ≤ depthS s ∧ depthS s ≤ 1000000 := by
 unfold depthS
 have := (parse_small s).1
 split <;> omega
set_option maxRecDepth 100000 in
theorem means_c (s : Nat) (ps : List Nat) (L : List DefS) (hL : Sound L) (who : List UInt8) (A : Option Addr) (cl cc : Nat) (key attr : List UInt8) (r : RuleS) (va vg : Value) (w : World) (hw : Env w) (hS : SchAt w s ps L) (hva : TextsA w va r.attrs) (hvg : GrantsA w vg r.grants) (hn : r.attrs.length ≤ 1048576) (ht : ∀ t ∈ r.attrs, t.length ≤ 1000000) (hla : attr.length ≤ 1000000) :
  Calls Tryz.prog 112 #[.agg (askCells s who (.slice A cl cc) key attr), ruleArg r va vg] w fun e w' => e = .returned (.bool (meansA L key attr r)) ∧ Below w.heap.size w w' := by
 have HK : Hid (∀ W, Below w.heap.size w W → Calls Tryz.prog 183 #[.pointer (some ⟨s, 0, none⟩), .string ⟨r.name.toArray⟩] W fun e w' => e = .returned (.tuple #[.string ⟨(keyS L r.name).2.toArray⟩, .int .i64 (keyS L r.name).1]) ∧ Below W.heap.size W w') := Lib.hid fun W hW => Key_c s ps L hL r.name W (hw.keep hW) (hS.below hW)
 have HU : Hid (∀ W, Below w.heap.size w W → Calls Tryz.prog 188 #[.pointer (some ⟨s, 0, none⟩), .string ⟨key.toArray⟩, .string ⟨(keyS L r.name).2.toArray⟩] W fun e w' => e = .returned (.bool (underS key (keyS L r.name).2)) ∧ Below W.heap.size W w') := Lib.hid fun W hW => Under_c _ key _ W (hw.keep hW)
 have HD : Hid (∀ x W, Below w.heap.size w W → Calls Tryz.prog 189 #[.pointer (some ⟨s, 0, none⟩), .string ⟨x.toArray⟩] W fun e w' => e = .returned (.int .i64 (depthS x)) ∧ Below W.heap.size W w') := Lib.hid fun x W hW => Depth_c _ x W (hw.keep hW)
 have HA : Hid (∀ W ba, Below w.heap.size w W → Bk W ba 124 (askCells s who (.slice A cl cc) key attr) → Calls Tryz.prog 25 #[va, .func (.func 190) #[] #[.pointer (some ⟨ba, 0, none⟩)]] W fun e w' => e = .returned (.bool (r.attrs.any fun t => if isWordA t || isWordA attr then t == attr else isSubD L attr t)) ∧ Below W.heap.size W w') := Lib.hid fun W ba hW hq => ContainsFuncSA_c 190 _ r.attrs va W (hva.below hW) (Nat.le_trans hn (by decide)) _ ⟨fun t htm W2 hW2 => means1_c s ps L hL t attr ba W2 (hS.below (hW.trans (hW2.mono hW.size))) ((hq.below hW2).cell 0) ((hq.below hW2).cell 4) hla (ht t htm), fun _ _ => by kernel_rfl⟩
 have hdk := depth_le7 key
 have hdn := depth_le7 (keyS L r.name).2
 unfold meansA
 obtain ⟨Aa, ca, rfl, hca, _⟩ := hva.at
 obtain ⟨Ag, cg, rfl, hcg, _⟩ := id hvg
 generalize (r.attrs.any fun t => if isWordA t || isWordA attr then t == attr else isSubD L attr t) = an at HA ⊢
 generalize (keyS L r.name).2 = k at HK HU hdn ⊢
 generalize (keyS L r.name).1 = er at HK
 generalize hu : underS key k = u at HU ⊢
 have HDK := Lib.hid (HD.out key)
 have HDN := Lib.hid (HD.out k)
 generalize depthS key = dk at HDK hdk ⊢
 generalize depthS k = dn at HDN hdn ⊢
 clear hu HD hw hS hL hva hvg ht hn hla
 obtain ⟨what, name, attrs, grants⟩ := r
 simp only at *
 unfold ruleArg askCells at *
 have hg1 := (Below.refl w.heap.size w).alloc (Nat.le_refl _) (.cells #[.pointer (some ⟨s, 0, none⟩), .string ⟨who.toArray⟩, .slice A cl cc, .string ⟨key.toArray⟩, .string ⟨attr.toArray⟩] 124)
 have hg2 := hg1.alloc hg1.size (.cells #[.int .i64 what, .string ⟨name.toArray⟩, .slice Aa attrs.length ca, .slice Ag grants.length cg] 47)
 have hq : Bk ((w.alloc (.cells #[.pointer (some ⟨s, 0, none⟩), .string ⟨who.toArray⟩, .slice A cl cc, .string ⟨key.toArray⟩, .string ⟨attr.toArray⟩] 124)).alloc (.cells #[.int .i64 what, .string ⟨name.toArray⟩, .slice Aa attrs.length ca, .slice Ag grants.length cg] 47)) w.heap.size 124 #[.pointer (some ⟨s, 0, none⟩), .string ⟨who.toArray⟩, .slice A cl cc, .string ⟨key.toArray⟩, .string ⟨attr.toArray⟩] := (Bk.new w _ _).alloc _
 have hq2 : Bk ((w.alloc (.cells #[.pointer (some ⟨s, 0, none⟩), .string ⟨who.toArray⟩, .slice A cl cc, .string ⟨key.toArray⟩, .string ⟨attr.toArray⟩] 124)).alloc (.cells #[.int .i64 what, .string ⟨name.toArray⟩, .slice Aa attrs.length ca, .slice Ag grants.length cg] 47)) (w.heap.size + 1) 47 #[.int .i64 what, .string ⟨name.toArray⟩, .slice Aa attrs.length ca, .slice Ag grants.length cg] := by
  have := Bk.new (w.alloc (.cells #[.pointer (some ⟨s, 0, none⟩), .string ⟨who.toArray⟩, .slice A cl cc, .string ⟨key.toArray⟩, .string ⟨attr.toArray⟩] 124)) 47 #[.int .i64 what, .string ⟨name.toArray⟩, .slice Aa attrs.length ca, .slice Ag grants.length cg]
  rw [World.size_alloc] at this
  exact this
 go_enter Tryz.func112, Tryz.ntmps112
 go_upto_region 2 with (go_at_call 183; refine (HK.out _ hg2).mono ?_; rintro e w1 ⟨rfl, hb1⟩)
 have hb1w := hg2.trans (hb1.mono hg2.size)
 have p1 := hq.below hb1
 have p2 := hq2.below hb1
 have a0 : w1.cell? ⟨w.heap.size, 0, none⟩ = some (.pointer (some ⟨s, 0, none⟩)) := p1.cell 0
 have a3 : w1.cell? ⟨w.heap.size, 3, none⟩ = some (.string ⟨key.toArray⟩) := p1.cell 3
 clear hb1 hq hq2 hg1 hg2 HK
 go_upto_region 4 with (go_at_call 188; refine (HU.out _ hb1w).mono ?_; rintro e w2 ⟨rfl, hb2⟩)
 have hb2w := hb1w.trans (hb2.mono hb1w.size)
 have q1 := p1.below hb2
 have q2 := p2.below hb2
 clear hb2 p1 p2 a0 a3 HU hb1w
 have c0 : w2.cell? ⟨w.heap.size, 0, none⟩ = some (.pointer (some ⟨s, 0, none⟩)) := q1.cell 0
 have c3 : w2.cell? ⟨w.heap.size, 3, none⟩ = some (.string ⟨key.toArray⟩) := q1.cell 3
 have d0 : w2.cell? ⟨w.heap.size + 1, 0, none⟩ = some (.int .i64 what) := q2.cell 0
 have d2 : w2.cell? ⟨w.heap.size + 1, 2, none⟩ = some (.slice Aa attrs.length ca) := q2.cell 2
 have hw5 : what = 1 ∨ what = 2 ∨ what = 3 ∨ what = 4 ∨ ((what == 1) = false ∧ (what == 2) = false ∧ (what == 3) = false ∧ (what == 4) = false) := by
  simp only [beq_eq_false_iff_ne]
  omega
 have HQ := Lib.hid (And.intro q1 q2)
 clear q1 q2
 have hz : ((attrs.length : Int) == 0) = attrs.isEmpty := by
  cases attrs with
  | nil => rfl
  | cons a t => rw [List.length_cons]; simp; omega
 have HA2 := Lib.hid (HA.out w2 w.heap.size hb2w HQ.out.1)
 generalize hae : attrs.isEmpty = ae at hz
 rcases hw5 with rfl | rfl | rfl | rfl | ⟨n1, n2, n3, n4⟩
 ·cases hm : (key == k) <;> cases ae
  all_goals
   go_wp2_with (go_at_call 25; refine HA2.out.mono ?_; rintro e w3 ⟨rfl, hb3⟩)
   all_goals
    go_ret
    first | exact ⟨retb (by simp [hae, hm]), hb2w⟩ | exact ⟨retb (by simp [hae, hm]), hb2w.trans (hb3.mono hb2w.size)⟩
 ·have hd2 : Below w.heap.size w w2.drew := hb2w.drew
  go_upto_region 8 with fail
  cases u
  ·cases ae
   all_goals
    go_quiet (fail)
    all_goals
     go_wp2_with fail
     all_goals
      go_ret
      exact ⟨retb (by simp [hae]), (by first | exact hb2w | exact hd2 | exact ⟨hb2w.os, hb2w.tape, hb2w.output, hb2w.size, hb2w.block⟩)⟩
  ·obtain ⟨mb, hm⟩ : ∃ b, (dk == dn + 1) = b := ⟨_, rfl⟩
   cases mb <;> cases ae
   all_goals
    go_region_held3 (fun w' => w'.cell? ⟨w.heap.size, 0, none⟩ = some (.pointer (some ⟨s, 0, none⟩)) ∧ w'.cell? ⟨w.heap.size, 3, none⟩ = some (.string ⟨key.toArray⟩)) (first | exact ⟨f0, f3⟩ | exact ⟨b0, b3⟩ | exact ⟨c0, c3⟩) (first
     | (go_at_call 189; (with_reducible refine (HDK.out _ hb3w).mono ?_); rintro e w4 ⟨rfl, hb4⟩; have hb4w := hb3w.trans (hb4.mono hb3w.size); have qq := HQ3.out.1.below hb4; have pp := HQ3.out.2.below hb4; have f0 : w4.cell? ⟨w.heap.size, 0, none⟩ = some (.pointer (some ⟨s, 0, none⟩)) := qq.cell 0; have f3 : w4.cell? ⟨w.heap.size, 3, none⟩ = some (.string ⟨key.toArray⟩) := qq.cell 3; have e2 : w4.cell? ⟨w.heap.size + 1, 2, none⟩ = some (.slice Aa attrs.length ca) := pp.cell 2; have HA4 := Lib.hid (HA.out _ _ hb4w qq); clear qq pp)
     | (go_at_call 189; (with_reducible refine (HDN.out _ hb3w).mono ?_); rintro e w4 ⟨rfl, hb4⟩; have hb4w := hb3w.trans (hb4.mono hb3w.size); have qq := HQ3.out.1.below hb4; have pp := HQ3.out.2.below hb4; have f0 : w4.cell? ⟨w.heap.size, 0, none⟩ = some (.pointer (some ⟨s, 0, none⟩)) := qq.cell 0; have f3 : w4.cell? ⟨w.heap.size, 3, none⟩ = some (.string ⟨key.toArray⟩) := qq.cell 3; have e2 : w4.cell? ⟨w.heap.size + 1, 2, none⟩ = some (.slice Aa attrs.length ca) := pp.cell 2; have HA4 := Lib.hid (HA.out _ _ hb4w qq); clear qq pp)
     | (go_at_call 189; (with_reducible refine (HDK.out _ hd2).mono ?_); rintro e w3 ⟨rfl, hb3x⟩; have hb3 := below_undrew hb3x; clear hb3x; have hb3w := hb2w.trans (hb3.mono hb2w.size); have qq := HQ.out.1.below hb3; have pp := HQ.out.2.below hb3; have b0 : w3.cell? ⟨w.heap.size, 0, none⟩ = some (.pointer (some ⟨s, 0, none⟩)) := qq.cell 0; have b3 : w3.cell? ⟨w.heap.size, 3, none⟩ = some (.string ⟨key.toArray⟩) := qq.cell 3; have HQ3 := Lib.hid (And.intro qq pp); clear qq pp)
     | (go_at_call 189; (with_reducible refine (HDN.out _ hd2).mono ?_); rintro e w3 ⟨rfl, hb3x⟩; have hb3 := below_undrew hb3x; clear hb3x; have hb3w := hb2w.trans (hb3.mono hb2w.size); have qq := HQ.out.1.below hb3; have pp := HQ.out.2.below hb3; have b0 : w3.cell? ⟨w.heap.size, 0, none⟩ = some (.pointer (some ⟨s, 0, none⟩)) := qq.cell 0; have b3 : w3.cell? ⟨w.heap.size, 3, none⟩ = some (.string ⟨key.toArray⟩) := qq.cell 3; have HQ3 := Lib.hid (And.intro qq pp); clear qq pp))
    all_goals
     go_wp2_with (go_at_call 25; refine HA4.out.mono ?_; rintro e w5 ⟨rfl, hb5⟩)
     all_goals
      first
       | (exfalso; have hh := eq_of_beq hm; omega)
       | (exfalso; have hh := beq_eq_false_iff_ne.1 hm; omega)
       | (go_ret; first | exact ⟨retb (by simp [hae, hm]), hb4w⟩ | exact ⟨retb (by simp [hae, hm]), hb4w.trans (hb5.mono hb4w.size)⟩)
 ·cases u <;> cases ae
  all_goals
   go_wp2_with (go_at_call 25; refine HA2.out.mono ?_; rintro e w3 ⟨rfl, hb3⟩)
   all_goals
    go_ret
    first | exact ⟨retb (by simp [hae]), hb2w⟩ | exact ⟨retb (by simp [hae]), hb2w.trans (hb3.mono hb2w.size)⟩
 ·obtain ⟨mb, hm⟩ : ∃ b, (key == k) = b := ⟨_, rfl⟩
  have hm' : (key != k) = !mb := by unfold bne; rw [hm]
  cases u <;> cases mb <;> cases ae
  all_goals
   simp only [Bool.not_true, Bool.not_false] at hm'
   go_wp2_with (go_at_call 25; refine HA2.out.mono ?_; rintro e w3 ⟨rfl, hb3⟩)
   all_goals
    go_ret
    first | exact ⟨retb (by simp [hae, hm]), hb2w⟩ | exact ⟨retb (by simp [hae, hm]), hb2w.trans (hb3.mono hb2w.size)⟩
 ·cases ae
  all_goals
   go_wp2_with (go_at_call 25; refine HA2.out.mono ?_; rintro e w3 ⟨rfl, hb3⟩)
   all_goals
    go_ret
    first | exact ⟨retb (by simp [hae, n1, n2, n3, n4]), hb2w⟩ | exact ⟨retb (by simp [hae, n1, n2, n3, n4]), hb2w.trans (hb3.mono hb2w.size)⟩
end Go.Proofs.YtbjmpmgiigombaaGreatDoor
