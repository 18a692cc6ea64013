import Derived.Test.YtbjmpmgiigombaaGreatDoorWve6
import Derived.Test.YtbjmpmgiigombaaGreatDoorWve4
set_option linter.all false
set_option maxHeartbeats 8000000
namespace Go.Proofs.YtbjmpmgiigombaaGreatDoor
open Go.RowKit
def RulesA (w : World) (v : Value) (rs : List RuleS) : Prop := ∃ A c, v = .slice A rs.length c ∧ rs.length ≤ c ∧ ∀ j (hj : j < rs.length), ∃ b o va vg, A = some ⟨b, o, none⟩ ∧ w.cell? ⟨b, o + j * 4, none⟩ = some (.int .i64 rs[j].what) ∧ w.cell? ⟨b, o + j * 4 + 1, none⟩ = some (.string ⟨rs[j].name.toArray⟩) ∧ w.cell? ⟨b, o + j * 4 + 2, none⟩ = some va ∧ w.cell? ⟨b, o + j * 4 + 3, none⟩ = some vg ∧ TextsA w va rs[j].attrs ∧ GrantsA w vg rs[j].grants
theorem said_who {r : RuleS} (h : (printA r).1 = 0) (g : GrantS) (hg : g ∈ r.grants) : inRow g.who whoWs = true := by
 have hs : saidA r = true := by
  cases hs : saidA r with
  | true => rfl
  | false => rw [show printA r = (100, []) by unfold printA; rw [hs]; rfl] at h; cases h
 obtain ⟨_, _, _, _, _, hgr, _, _⟩ := rule_said hs
 have := hgr g hg
 unfold badGrant at this
 cases hi : inRow g.who whoWs with
 | true => rfl
 | false => rw [hi] at this; simp at this
theorem valid_said {L : List DefS} {r : RuleS} (h : validA L r = true) : (printA r).1 = 0 := by
 unfold validA at h
 simp only [Bool.and_eq_true, beq_iff_eq] at h
 exact h.1.1
theorem add_at4 (b o j : Nat) : (⟨b, o, none⟩ : Addr).add j = ⟨b, o + j, none⟩ := by unfold Addr.add; split <;> simp_all
set_option maxRecDepth 100000 in
theorem Level_c (s : Nat) (ps : List Nat) (L : List DefS) (hL : Sound L) (rs : List RuleS) (vr : Value) (who : List UInt8) (gs : List (List UInt8)) (vg : Value) (key attr : List UInt8) (w : World) (hw : Env w) (hS : SchAt w s ps L) (hr : RulesA w vr rs) (hlr : rs.length ≤ 4611686018427387904) (hlim : ∀ r ∈ rs, AclLim r) (hg : Texts w vg gs) (hlg : gs.length ≤ 1000000) (hla : attr.length ≤ 1000000) :
  Calls Tryz.prog 14 #[.pointer (some ⟨s, 0, none⟩), vr, .string ⟨who.toArray⟩, vg, .string ⟨key.toArray⟩, .string ⟨attr.toArray⟩] w fun e w' => e = .returned (.int .i64 (levelA L rs who gs key attr)) ∧ Below w.heap.size w w' := by
 obtain ⟨A, cl, cc, rfl⟩ := hg.isSlice
 have hadd := add_at4
 have HV : Hid (∀ r ∈ rs, ∀ va vg' W, Below w.heap.size w W → TextsA W va r.attrs → GrantsA W vg' r.grants → Calls Tryz.prog 111 #[.pointer (some ⟨s, 0, none⟩), ruleArg r va vg'] W fun e w' => e = .returned (.bool (validA L r)) ∧ Below W.heap.size W w') := Lib.hid fun r hrm va vg' W hW h1 h2 => aclValid_c s ps L hL r va vg' W (hw.keep hW) (hS.below hW) h1 h2 (hlim r hrm)
 have HM : Hid (∀ r ∈ rs, validA L r = true → ∀ va vg' W, Below w.heap.size w W → TextsA W va r.attrs → GrantsA W vg' r.grants → Calls Tryz.prog 112 #[.agg (askCells s who (.slice A cl cc) key attr), ruleArg r va vg'] W fun e w' => e = .returned (.bool (meansA L key attr r)) ∧ Below W.heap.size W w') := Lib.hid fun r hrm hv va vg' W hW h1 h2 => means_c s ps L hL who A cl cc key attr r va vg' W (hw.keep hW) (hS.below hW) h1 h2 (hlim r hrm).nattrs (fun t ht => attr_short (valid_said hv) t ht) hla
 have HN : Hid (∀ r ∈ rs, validA L r = true → ∀ g ∈ r.grants, ∀ W, Below w.heap.size w W → Calls Tryz.prog 113 #[.agg (askCells s who (.slice A cl cc) key attr), .agg #[.int .i64 g.who, .string ⟨g.name.toArray⟩, .int .i64 g.level]] W fun e w' => e = .returned (.bool (namesA L who gs key g)) ∧ Below W.heap.size W w') := Lib.hid fun r _ hv g hgm W hW => names_c s ps L hL who gs (.slice A cl cc) key attr g W (hw.keep hW) (hS.below hW) (hg.below hW) hlg (said_who (valid_said hv) g hgm)
 obtain ⟨Ar, cr, rfl, hcr, hx⟩ := id hr
 have HR := Lib.hid hr
 have HX := Lib.hid hx
 have HL := Lib.hid hlim
 clear hr hx hw hS hL hg hlim hla hlg
 unfold askCells at *
 by_cases he : rs = []
 ·subst he
  go_enter Tryz.func14, Tryz.ntmps14
  go_wp2_with fail
  go_ret
  exact ⟨rfl, Below.refl _ _⟩
 ·have hz : ((rs.length : Int) == 0) = false := by
   cases rs with
   | nil => exact absurd rfl he
   | cons a t => rw [List.length_cons]; simp; omega
  have hlv : levelA L rs who gs key attr = levelF L who gs key attr rs := by
   unfold levelA
   cases rs with
   | nil => exact absurd rfl he
   | cons a t => rfl
  rw [hlv]
  go_enter Tryz.func14, Tryz.ntmps14
  go_wp2_with fail
  have hq0 : Bk (w.alloc (.cells #[.pointer (some ⟨s, 0, none⟩), .string ⟨who.toArray⟩, .slice A cl cc, .string ⟨key.toArray⟩, .string ⟨attr.toArray⟩] 124)) w.heap.size 124 #[.pointer (some ⟨s, 0, none⟩), .string ⟨who.toArray⟩, .slice A cl cc, .string ⟨key.toArray⟩, .string ⟨attr.toArray⟩] := Bk.new w _ _
  have hb0 : Below w.heap.size w (w.alloc (.cells #[.pointer (some ⟨s, 0, none⟩), .string ⟨who.toArray⟩, .slice A cl cc, .string ⟨key.toArray⟩, .string ⟨attr.toArray⟩] 124)) := (Below.refl _ _).alloc (Nat.le_refl _) _
  go_loopg [29] rs.length (fun gk i wr => ∃ k : Nat, k ≤ rs.length ∧ i = .int .i64 k ∧ Aside (k + gk = rs.length) ∧ Aside (Below w.heap.size w wr ∧ Bk wr w.heap.size 124 #[.pointer (some ⟨s, 0, none⟩), .string ⟨who.toArray⟩, .slice A cl cc, .string ⟨key.toArray⟩, .string ⟨attr.toArray⟩]) ∧ Aside (levelF L who gs key attr rs = levelF L who gs key attr (rs.drop k)))
  case atStart => exact ⟨0, by omega, rfl, by show _ = _; omega, ⟨hb0, hq0⟩, rfl⟩
  case round =>
   clear hb0 hq0
   obtain ⟨k, hk, rfl, AG, AB, AS⟩ := hrel
   obtain ⟨wo, hwo⟩ : ∃ wo, wo = wr := ⟨_, rfl⟩
   subst hwo
   by_cases hlt : k < rs.length
   ·obtain ⟨q, rfl⟩ : ∃ q, gk = q + 1 := ⟨gk - 1, by have := AG.out; omega⟩
    obtain ⟨b, o, va, vg', rfl, e0, e1, e2, e3, hta, hga⟩ := HX.out k hlt
    have AS' : Aside (levelF L who gs key attr rs = if validA L rs[k] && meansA L key attr rs[k] then grantsA L who gs key rs[k].grants else levelF L who gs key attr (rs.drop (k + 1))) := by have := AS.out; rw [List.drop_eq_getElem_cons hlt] at this; exact this
    have d0 := (AB.out.1.cell (cell_lt e0)).trans e0
    have d1 := (AB.out.1.cell (cell_lt e1)).trans e1
    have d2 := (AB.out.1.cell (cell_lt e2)).trans e2
    have d3 := (AB.out.1.cell (cell_lt e3)).trans e3
    have HMEM := Lib.hid (List.getElem_mem hlt)
    clear e0 e1 e2 e3 AS hz
    generalize rs[k] = r at *
    have hng : r.grants.length ≤ 1000000 := (HL.out r HMEM.out).ngrants
    have hbr := AB.out.1.alloc AB.out.1.size (.cells #[.int .i64 r.what, .string ⟨r.name.toArray⟩, va, vg'] 47)
    have hqa : Bk (wo.alloc (.cells #[.int .i64 r.what, .string ⟨r.name.toArray⟩, va, vg'] 47)) w.heap.size 124 #[.pointer (some ⟨s, 0, none⟩), .string ⟨who.toArray⟩, .slice A cl cc, .string ⟨key.toArray⟩, .string ⟨attr.toArray⟩] := AB.out.2.alloc _
    have hqr : Bk (wo.alloc (.cells #[.int .i64 r.what, .string ⟨r.name.toArray⟩, va, vg'] 47)) wo.heap.size 47 #[.int .i64 r.what, .string ⟨r.name.toArray⟩, va, vg'] := Bk.new wo _ _
    have hta2 := hta.below hbr
    have hga2 := hga.below hbr
    have HV1 := Lib.hid (HV.out r HMEM.out va vg' _ hbr hta2 hga2)
    obtain ⟨Ba, na, ca, rfl⟩ : ∃ A n c, va = .slice A n c := by
     obtain ⟨A, c, h, _⟩ := hta.at
     exact ⟨A, _, c, h⟩
    obtain ⟨Bg, cg, rfl, hcg, _⟩ := id hga
    unfold ruleArg at *
    cases hva : validA L r
    ·rw [hva] at HV1
     have AS2 : Aside (levelF L who gs key attr rs = levelF L who gs key attr (rs.drop (k + 1))) := by have := AS'.out; rw [hva] at this; exact this
     clear hva AS' HM HN
     go_wp2_with (go_at_call 111; refine HV1.out.mono ?_; rintro e w1 ⟨rfl, hb1⟩; have hb1w := hbr.trans (hb1.mono hbr.size); have qa1 := hqa.below hb1; have qr1 := hqr.below hb1; have a0 : w1.cell? ⟨w.heap.size, 0, none⟩ = some (.pointer (some ⟨s, 0, none⟩)) := qa1.cell 0; have a1 : w1.cell? ⟨w.heap.size, 1, none⟩ = some (.string ⟨who.toArray⟩) := qa1.cell 1; have a2 : w1.cell? ⟨w.heap.size, 2, none⟩ = some (.slice A cl cc) := qa1.cell 2; have a3 : w1.cell? ⟨w.heap.size, 3, none⟩ = some (.string ⟨key.toArray⟩) := qa1.cell 3; have a4 : w1.cell? ⟨w.heap.size, 4, none⟩ = some (.string ⟨attr.toArray⟩) := qa1.cell 4; have r0 : w1.cell? ⟨wo.heap.size, 0, none⟩ = some (.int .i64 r.what) := qr1.cell 0; have r1 : w1.cell? ⟨wo.heap.size, 1, none⟩ = some (.string ⟨r.name.toArray⟩) := qr1.cell 1; have r2 : w1.cell? ⟨wo.heap.size, 2, none⟩ = some (.slice Ba na ca) := qr1.cell 2; have r3 : w1.cell? ⟨wo.heap.size, 3, none⟩ = some (.slice Bg r.grants.length cg) := qr1.cell 3)
     go_roundg q
     case measure => omega
     case rel => exact ⟨k + 1, by omega, by go_num, by have := AG.out; show _ = _; omega, ⟨hb1w, qa1⟩, AS2.out⟩
    ·rw [hva] at HV1
     have HM1 := Lib.hid (fun W (hW : Below w.heap.size w W) h1 h2 => HM.out r HMEM.out hva (.slice Ba na ca) (.slice Bg r.grants.length cg) W hW h1 h2)
     cases hme : meansA L key attr r
     ·have AS2 : Aside (levelF L who gs key attr rs = levelF L who gs key attr (rs.drop (k + 1))) := by have := AS'.out; rw [hva, hme] at this; exact this
      rw [hme] at HM1
      clear hva hme AS' HM HN HV
      go_wp2_with (first | (go_at_call 111; refine HV1.out.mono ?_; rintro e w1 ⟨rfl, hb1⟩; have hb1w := hbr.trans (hb1.mono hbr.size); have qa1 := hqa.below hb1; have qr1 := hqr.below hb1; have a0 : w1.cell? ⟨w.heap.size, 0, none⟩ = some (.pointer (some ⟨s, 0, none⟩)) := qa1.cell 0; have a1 : w1.cell? ⟨w.heap.size, 1, none⟩ = some (.string ⟨who.toArray⟩) := qa1.cell 1; have a2 : w1.cell? ⟨w.heap.size, 2, none⟩ = some (.slice A cl cc) := qa1.cell 2; have a3 : w1.cell? ⟨w.heap.size, 3, none⟩ = some (.string ⟨key.toArray⟩) := qa1.cell 3; have a4 : w1.cell? ⟨w.heap.size, 4, none⟩ = some (.string ⟨attr.toArray⟩) := qa1.cell 4; have r0 : w1.cell? ⟨wo.heap.size, 0, none⟩ = some (.int .i64 r.what) := qr1.cell 0; have r1 : w1.cell? ⟨wo.heap.size, 1, none⟩ = some (.string ⟨r.name.toArray⟩) := qr1.cell 1; have r2 : w1.cell? ⟨wo.heap.size, 2, none⟩ = some (.slice Ba na ca) := qr1.cell 2; have r3 : w1.cell? ⟨wo.heap.size, 3, none⟩ = some (.slice Bg r.grants.length cg) := qr1.cell 3) | (go_at_call 112; (with_reducible refine (HM1.out _ hb1w (hta2.below hb1) (hga2.below hb1)).mono ?_); rintro e w2 ⟨rfl, hb2⟩; have hb2w := hb1w.trans (hb2.mono hb1w.size); have qa2 := qa1.below hb2; have qr2 := qr1.below hb2; have t3 : w2.cell? ⟨wo.heap.size, 3, none⟩ = some (.slice Bg r.grants.length cg) := qr2.cell 3))
      go_roundg q
      case measure => omega
      case rel => exact ⟨k + 1, by omega, by go_num, by have := AG.out; show _ = _; omega, ⟨hb2w, qa2⟩, AS2.out⟩
     ·have AS2 : Aside (levelF L who gs key attr rs = grantsA L who gs key r.grants) := by have := AS'.out; rw [hva, hme] at this; exact this
      rw [hme] at HM1
      have HN1 := Lib.hid (HN.out r HMEM.out hva)
      clear hva hme AS' HM HN HV
      go_upto_region 9 with (first | (go_at_call 111; refine HV1.out.mono ?_; rintro e w1 ⟨rfl, hb1⟩; have hb1w := hbr.trans (hb1.mono hbr.size); have qa1 := hqa.below hb1; have qr1 := hqr.below hb1; have a0 : w1.cell? ⟨w.heap.size, 0, none⟩ = some (.pointer (some ⟨s, 0, none⟩)) := qa1.cell 0; have a1 : w1.cell? ⟨w.heap.size, 1, none⟩ = some (.string ⟨who.toArray⟩) := qa1.cell 1; have a2 : w1.cell? ⟨w.heap.size, 2, none⟩ = some (.slice A cl cc) := qa1.cell 2; have a3 : w1.cell? ⟨w.heap.size, 3, none⟩ = some (.string ⟨key.toArray⟩) := qa1.cell 3; have a4 : w1.cell? ⟨w.heap.size, 4, none⟩ = some (.string ⟨attr.toArray⟩) := qa1.cell 4; have r0 : w1.cell? ⟨wo.heap.size, 0, none⟩ = some (.int .i64 r.what) := qr1.cell 0; have r1 : w1.cell? ⟨wo.heap.size, 1, none⟩ = some (.string ⟨r.name.toArray⟩) := qr1.cell 1; have r2 : w1.cell? ⟨wo.heap.size, 2, none⟩ = some (.slice Ba na ca) := qr1.cell 2; have r3 : w1.cell? ⟨wo.heap.size, 3, none⟩ = some (.slice Bg r.grants.length cg) := qr1.cell 3) | (go_at_call 112; (with_reducible refine (HM1.out _ hb1w (hta2.below hb1) (hga2.below hb1)).mono ?_); rintro e w2 ⟨rfl, hb2⟩; have hb2w := hb1w.trans (hb2.mono hb1w.size); have qa2 := qa1.below hb2; have qr2 := qr1.below hb2; have t3 : w2.cell? ⟨wo.heap.size, 3, none⟩ = some (.slice Bg r.grants.length cg) := qr2.cell 3))
      have hga3 := (hga2.below hb1).below hb2
      have HG3 := Lib.hid hga3
      clear hga hga2 hga3 hta hta2
      have hi2 : Aside (Below w.heap.size w w2 ∧ Bk w2 w.heap.size 124 #[.pointer (some ⟨s, 0, none⟩), .string ⟨who.toArray⟩, .slice A cl cc, .string ⟨key.toArray⟩, .string ⟨attr.toArray⟩] ∧ Below w2.heap.size w2 w2) := ⟨hb2w, qa2, Below.refl _ _⟩
      go_loopg [46] r.grants.length (fun gk i wr => ∃ j : Nat, j ≤ r.grants.length ∧ i = .int .i64 j ∧ Aside (j + gk = r.grants.length) ∧ Aside (Below w.heap.size w wr ∧ Bk wr w.heap.size 124 #[.pointer (some ⟨s, 0, none⟩), .string ⟨who.toArray⟩, .slice A cl cc, .string ⟨key.toArray⟩, .string ⟨attr.toArray⟩] ∧ Below w2.heap.size w2 wr) ∧ Aside (levelF L who gs key attr rs = grantsA L who gs key (r.grants.drop j)))
      case atStart => exact ⟨0, by omega, rfl, by show _ = _; omega, hi2, AS2⟩
      case round =>
       obtain ⟨j, hj, rfl, AG2, AB2, AS3⟩ := hrel
       clear AS2 hi2 a0 a1 a2 a3 a4 r0 r1 r2 r3 t3
       by_cases hjl : j < r.grants.length
       ·obtain ⟨q2, rfl⟩ : ∃ q, gk = q + 1 := ⟨gk - 1, by have := AG2.out; omega⟩
        obtain ⟨A', c', hsl, _, hcell⟩ := HG3.out
        obtain ⟨b', o', hA', g0, g1, g2⟩ := hcell j hjl
        obtain ⟨rfl, rfl⟩ : Bg = A' ∧ cg = c' := by cases hsl; exact ⟨rfl, rfl⟩
        subst hA'
        clear hcell hsl
        have AS4 : Aside (levelF L who gs key attr rs = if namesA L who gs key r.grants[j] then r.grants[j].level else grantsA L who gs key (r.grants.drop (j + 1))) := by have := AS3.out; rw [List.drop_eq_getElem_cons hjl] at this; exact this
        have x0 := (AB2.out.2.2.cell (cell_lt g0)).trans g0
        have x1 := (AB2.out.2.2.cell (cell_lt g1)).trans g1
        have x2 := (AB2.out.2.2.cell (cell_lt g2)).trans g2
        have HNg := Lib.hid (HN1.out r.grants[j] (List.getElem_mem hjl))
        clear g0 g1 g2 AS3
        generalize r.grants[j] = g at *
        have hbg := AB2.out.1.alloc AB2.out.1.size (.cells #[.int .i64 g.who, .string ⟨g.name.toArray⟩, .int .i64 g.level] 61)
        have hbg2 := AB2.out.2.2.alloc AB2.out.2.2.size (.cells #[.int .i64 g.who, .string ⟨g.name.toArray⟩, .int .i64 g.level] 61)
        have hqb : Bk (wr.alloc (.cells #[.int .i64 g.who, .string ⟨g.name.toArray⟩, .int .i64 g.level] 61)) w.heap.size 124 #[.pointer (some ⟨s, 0, none⟩), .string ⟨who.toArray⟩, .slice A cl cc, .string ⟨key.toArray⟩, .string ⟨attr.toArray⟩] := AB2.out.2.1.alloc _
        have hqg : Bk (wr.alloc (.cells #[.int .i64 g.who, .string ⟨g.name.toArray⟩, .int .i64 g.level] 61)) wr.heap.size 61 #[.int .i64 g.who, .string ⟨g.name.toArray⟩, .int .i64 g.level] := Bk.new wr _ _
        have HNg1 := Lib.hid (HNg.out _ hbg)
        have y0 : (wr.alloc (.cells #[.int .i64 g.who, .string ⟨g.name.toArray⟩, .int .i64 g.level] 61)).cell? ⟨w.heap.size, 0, none⟩ = some (.pointer (some ⟨s, 0, none⟩)) := hqb.cell 0
        have y1 : (wr.alloc (.cells #[.int .i64 g.who, .string ⟨g.name.toArray⟩, .int .i64 g.level] 61)).cell? ⟨w.heap.size, 1, none⟩ = some (.string ⟨who.toArray⟩) := hqb.cell 1
        have y2 : (wr.alloc (.cells #[.int .i64 g.who, .string ⟨g.name.toArray⟩, .int .i64 g.level] 61)).cell? ⟨w.heap.size, 2, none⟩ = some (.slice A cl cc) := hqb.cell 2
        have y3 : (wr.alloc (.cells #[.int .i64 g.who, .string ⟨g.name.toArray⟩, .int .i64 g.level] 61)).cell? ⟨w.heap.size, 3, none⟩ = some (.string ⟨key.toArray⟩) := hqb.cell 3
        have y4 : (wr.alloc (.cells #[.int .i64 g.who, .string ⟨g.name.toArray⟩, .int .i64 g.level] 61)).cell? ⟨w.heap.size, 4, none⟩ = some (.string ⟨attr.toArray⟩) := hqb.cell 4
        clear HNg HN1
        cases hnm : namesA L who gs key g
        all_goals
         rw [hnm] at HNg1
         have HNM := Lib.hid hnm
         clear hnm
         go_wp2_with (go_at_call 113; (with_reducible refine HNg1.out.mono ?_); rintro e w3 ⟨rfl, hb3⟩; have hb3w := hbg.trans (hb3.mono hbg.size); have hb32 := hbg2.trans (hb3.mono hbg2.size); have qb3 := hqb.below hb3; have z2 : w3.cell? ⟨wr.heap.size, 2, none⟩ = some (.int .i64 g.level) := (hqg.below hb3).cell 2)
        ·go_roundg q2
         case measure => omega
         case rel => exact ⟨j + 1, by omega, by go_num, by have := AG2.out; show _ = _; omega, ⟨hb3w, qb3, hb32⟩, by have := AS4.out; rw [HNM.out] at this; exact this⟩
        ·go_ret
         exact ⟨by rw [AS4.out, HNM.out]; rfl, hb3w⟩
       ·obtain rfl : j = r.grants.length := by omega
        have hs : levelF L who gs key attr rs = 0 := by have := AS3.out; rw [List.drop_length] at this; exact this
        have HS := Lib.hid hs
        clear hs AS3
        go_wp2_with fail
        go_ret
        exact ⟨by rw [HS.out]; rfl, AB2.out.1⟩
   ·obtain rfl : k = rs.length := by omega
    have hs : levelF L who gs key attr rs = 0 := by have := AS.out; rw [List.drop_length] at this; exact this
    have HS := Lib.hid hs
    clear hz hs AS
    go_wp2_with fail
    go_ret
    exact ⟨by rw [HS.out]; rfl, AB.out.1⟩
open Go.RowKit
set_option maxRecDepth 100000 in
theorem Name_c (n : Nat) (hn : n < levelWs.length) (w : World) :
  Calls Tryz.prog 17 #[.int .i64 n] w fun e w' => e = .returned (.string ⟨levelWs[n].toArray⟩) ∧ Below w.heap.size w w' := by
 have hin : ∀ (A : Option Addr) (W : World), Calls Tryz.prog 120 #[.int .i64 n, .slice A levelWs.length levelWs.length] W fun e w' => e = .returned (.bool true) ∧ W = w' := fun A W => by
  have := in_c n A levelWs.length levelWs.length W
  rw [decide_eq_true (by omega : (0 : Int) ≤ n), decide_eq_true (by omega : (n : Int) < (levelWs.length : Nat))] at this
  exact this
 have HIN := Lib.hid hin
 clear hin
 have hadd := add_at4
 have hn7 : (n : Int) < (levelWs.length : Int) := by omega
 go_enter Tryz.func17, Tryz.ntmps17
 go_upto_region 3 with (first
  | (go_at_call 31; refine (levels_c _).mono ?_; rintro e w1 ⟨rfl, hb1, hO1⟩)
  | (go_at_call 120; (with_reducible refine (HIN.out _ _).mono ?_); rintro e w2 ⟨rfl, rfl⟩))
 go_wp2_with (go_at_call 31; refine (levels_c _).mono ?_; rintro e w3 ⟨rfl, hb3, hO3⟩; have ck : w3.cell? ⟨w1.heap.size, n, none⟩ = some (.string ⟨levelWs[n].toArray⟩) := row_word hO3 hn)
 go_ret
 exact ⟨rfl, hb1.trans (hb3.mono hb1.size)⟩
open Go.RowKit
abbrev RuleQ := RuleS × Value × Value
def rqCells (q : RuleQ) : List Value := [.int .i64 q.1.what, .string ⟨q.1.name.toArray⟩, q.2.1, q.2.2]
theorem rqCells_len (q : RuleQ) : (rqCells q).length = 4 := rfl
theorem rflat_len : ∀ l : List RuleQ, (l.flatMap rqCells).length = l.length * 4
 | [] => rfl
 | q :: l => by rw [List.flatMap_cons, List.length_append, rflat_len l, rqCells_len, List.length_cons]; omega
theorem rflat_get : ∀ (l : List RuleQ) (j : Nat) (u : Value), (l.flatMap rqCells)[j]? = some u → ∃ h : j / 4 < l.length, (rqCells l[j / 4])[j % 4]? = some u
 | [], j, u, h => by simp at h
 | q :: l, j, u, h => by
  rw [List.flatMap_cons] at h
  by_cases hj : j < 4
  ·rw [List.getElem?_append_left (by rw [rqCells_len]; exact hj)] at h
   refine ⟨by simp; omega, ?_⟩
   have e1 : j / 4 = 0 := by omega
   have e2 : j % 4 = j := by omega
   simp only [e1, e2]
   exact h
  ·rw [List.getElem?_append_right (by rw [rqCells_len]; omega), rqCells_len] at h
   obtain ⟨h1, h2⟩ := rflat_get l (j - 4) u h
   have e1 : j / 4 = (j - 4) / 4 + 1 := by omega
   have e2 : j % 4 = (j - 4) % 4 := by omega
   refine ⟨by rw [e1]; simp; omega, ?_⟩
   simp only [e1, e2, List.getElem_cons_succ]
   exact h2
theorem rflat_at : ∀ (l : List RuleQ) (j k : Nat) (u : Value) (h : j < l.length), (rqCells l[j])[k]? = some u → (l.flatMap rqCells)[j * 4 + k]? = some u
 | [], j, k, u, h, _ => absurd h (by simp)
 | q :: l, 0, k, u, h, hu => by
  have hk : k < 4 := by have := (List.getElem?_eq_some_iff.1 hu).1; rw [rqCells_len] at this; exact this
  rw [List.flatMap_cons, Nat.zero_mul, Nat.zero_add, List.getElem?_append_left (by rw [rqCells_len]; exact hk)]
  exact hu
 | q :: l, j + 1, k, u, h, hu => by
  rw [List.flatMap_cons, List.getElem?_append_right (by rw [rqCells_len]; omega), rqCells_len, show (j + 1) * 4 + k - 4 = j * 4 + k by omega]
  exact rflat_at l j k u (by simpa using h) hu
def OwnR (B : Nat) (w : World) (v : Value) (qs : List RuleQ) : Prop := w.ownsRow B 47 4 v qs.length (qs.flatMap rqCells) ∧ B ≤ w.heap.size
theorem OwnR.nil {B : Nat} {w : World} (hB : B ≤ w.heap.size) : OwnR B w (.slice none 0 0) [] := ⟨World.ownsRow_nil _ _ _ _, hB⟩
theorem OwnR.lt {B : Nat} {w : World} {v : Value} {qs : List RuleQ} (h : OwnR B w v qs) : ∀ k, v.ownBlock = some k → B ≤ k ∧ k < w.heap.size := fun k hk => h.1.lt k hk
theorem OwnR.keep {B : Nat} {w w' : World} {v : Value} {qs : List RuleQ} (h : OwnR B w v qs) {r : Option Nat} (hg : w.grownBy w' r) (hr : ∀ k, r = some k → k < B) : OwnR B w' v qs := by
 refine ⟨h.1.kept hg ?_, Nat.le_trans h.2 hg.size⟩
 rcases hv : v.ownBlock with _ | g
 ·exact .inl rfl
 ·refine .inr ?_
  intro he
  have := hr g he.symm
  have := (h.1.lt g hv).1
  omega
theorem OwnR.below {B : Nat} {w w' : World} {v : Value} {qs : List RuleQ} (h : OwnR B w v qs) (hb : Below w.heap.size w w') : OwnR B w' v qs := h.keep (grown_below hb none) (fun k hk => by cases hk)
theorem OwnR.isSlice {B : Nat} {w : World} {v : Value} {qs : List RuleQ} (h : OwnR B w v qs) : ∃ A c, v = .slice A qs.length c ∧ qs.length ≤ c := by
 obtain ⟨⟨h1, h2⟩, h3⟩ := h
 rcases h2 with ⟨rfl, hn⟩ | ⟨g, cap, cur, rfl, r2, r3, r4, _⟩
 ·exact ⟨none, 0, by rw [hn], by omega⟩
 ·exact ⟨_, cap, rfl, r4⟩
theorem OwnR.bel {B : Nat} {W w w' : World} {v : Value} {qs : List RuleQ} (hb : Below B W w) (hO : OwnR B w v qs) (hg : w.grownBy w' v.ownBlock) : Below B W w' := hb.grown hg hO.2 (fun k hk => (hO.lt k hk).1)
def RulesQ (w : World) (v : Value) (qs : List RuleQ) : Prop := ∃ A c, v = .slice A qs.length c ∧ qs.length ≤ c ∧ (A = none → c = 0) ∧ ∀ j (hj : j < qs.length), ∃ b o, A = some ⟨b, o, none⟩ ∧ ∀ k u, (rqCells qs[j])[k]? = some u → w.cell? ⟨b, o + j * 4 + k, none⟩ = some u
def QOk (W : World) (qs : List RuleQ) : Prop := ∀ q ∈ qs, TextsA W q.2.1 q.1.attrs ∧ GrantsA W q.2.2 q.1.grants
theorem QOk.app {w : World} {qs ys : List RuleQ} (h : QOk w qs) (h' : QOk w ys) : QOk w (qs ++ ys) := fun q hq => (List.mem_append.1 hq).elim (h q) (h' q)
theorem RulesQ.rules {w : World} {v : Value} {qs : List RuleQ} (h : RulesQ w v qs) (hq : QOk w qs) : RulesA w v (qs.map (·.1)) := by
 obtain ⟨A, c, rfl, hc, hn, hx⟩ := h
 refine ⟨A, c, by rw [List.length_map], by rw [List.length_map]; exact hc, fun j hj => ?_⟩
 rw [List.length_map] at hj
 obtain ⟨b, o, hA, hk⟩ := hx j hj
 have hm := hq _ (List.getElem_mem hj)
 have g0 := hk 0 _ rfl
 have g1 := hk 1 _ rfl
 have g2 := hk 2 _ rfl
 have g3 := hk 3 _ rfl
 refine ⟨b, o, qs[j].2.1, qs[j].2.2, hA, ?_, ?_, g2, g3, ?_, ?_⟩
 ·rw [List.getElem_map]; exact g0
 ·rw [List.getElem_map]; exact g1
 ·rw [List.getElem_map]; exact hm.1
 ·rw [List.getElem_map]; exact hm.2
theorem RulesA.quads {w : World} {v : Value} {rs : List RuleS} (h : RulesA w v rs) (hn : ∀ c, v = .slice none rs.length c → c = 0) : ∃ qs : List RuleQ, qs.map (·.1) = rs ∧ RulesQ w v qs ∧ QOk w qs := by
 obtain ⟨A, c, rfl, hc, hx⟩ := h
 have : ∀ n, n ≤ rs.length → ∃ qs : List RuleQ, qs.map (·.1) = rs.take n ∧ QOk w qs ∧ ∀ j (hj : j < qs.length), ∃ b o, A = some ⟨b, o, none⟩ ∧ ∀ k u, (rqCells qs[j])[k]? = some u → w.cell? ⟨b, o + j * 4 + k, none⟩ = some u := by
  intro n
  induction n with
  | zero => intro _; exact ⟨[], by simp, fun q hq => (by cases hq), fun j hj => absurd hj (by simp)⟩
  | succ n ih =>
   intro hn
   obtain ⟨qs, h1, h2, h3⟩ := ih (by omega)
   obtain ⟨b, o, va, vg, hA, e0, e1, e2, e3, e4, e5⟩ := hx n (by omega)
   have hlen : qs.length = n := by
    have := congrArg List.length h1
    simp at this
    omega
   refine ⟨qs ++ [(rs[n], va, vg)], ?_, ?_, ?_⟩
   ·rw [List.map_append, h1, List.take_succ_eq_append_getElem (by omega)]
    rfl
   ·intro q hq
    rcases List.mem_append.1 hq with hq | hq
    ·exact h2 q hq
    ·rw [List.mem_singleton.1 hq]; exact ⟨e4, e5⟩
   ·intro j hj
    by_cases hjn : j < qs.length
    ·obtain ⟨b', o', hA', hk⟩ := h3 j hjn
     refine ⟨b', o', hA', fun k u hu => ?_⟩
     rw [List.getElem_append_left hjn] at hu
     exact hk k u hu
    ·have hj' : j = n := by simp at hj; omega
     subst hj'
     refine ⟨b, o, hA, fun k u hu => ?_⟩
     rw [List.getElem_append_right (by omega)] at hu
     simp only [hlen, Nat.sub_self, List.getElem_cons_zero] at hu
     match k, hu with
     | 0, hu => cases hu; exact e0
     | 1, hu => cases hu; exact e1
     | 2, hu => cases hu; exact e2
     | 3, hu => cases hu; exact e3
     | k + 4, hu => simp [rqCells] at hu
 obtain ⟨qs, h1, h2, h3⟩ := this rs.length (Nat.le_refl _)
 rw [List.take_length] at h1
 have hlen : qs.length = rs.length := by rw [← h1, List.length_map]
 exact ⟨qs, h1, ⟨A, c, by rw [hlen], by omega, fun hA => hn c (by rw [hA]), h3⟩, h2⟩
theorem OwnR.reads {B : Nat} {w : World} {v : Value} {qs : List RuleQ} (h : OwnR B w v qs) : RulesQ w v qs := by
 obtain ⟨⟨h1, h2⟩, h3⟩ := h
 rcases h2 with ⟨rfl, hn⟩ | ⟨g, cap, cur, rfl, r2, r3, r4, r5, r6, r7⟩
 ·have : qs = [] := List.eq_nil_of_length_eq_zero hn
  subst this
  exact ⟨none, 0, rfl, Nat.le_refl _, fun _ => rfl, fun j hj => absurd hj (by simp)⟩
 ·refine ⟨_, cap, rfl, r4, fun h => (by cases h), fun j hj => ⟨g, 0, rfl, fun k u hu => ?_⟩⟩
  have hf := rflat_at qs j k u hj hu
  have hk : k < 4 := by have := (List.getElem?_eq_some_iff.1 hu).1; rw [rqCells_len] at this; exact this
  rw [← r7, List.getElem?_take, if_pos (by omega)] at hf
  simp only [World.cell?, r3, Nat.zero_add]
  simpa using hf
theorem infoRule : ∃ i, Tryz.prog.info? 47 = some i ∧ i.zero = some (.agg #[.int .i64 0, .string ⟨#[]⟩, .slice none 0 0, .slice none 0 0]) ∧ i.size = 4 ∧ i.bytes = 72 := by
 obtain ⟨i, h1, h2, h3, h4⟩ := info_parts (show (Tryz.prog.info? 47).map (fun i => (i.zero, i.size, i.bytes)) = some (some (.agg #[.int .i64 0, .string ⟨#[]⟩, .slice none 0 0, .slice none 0 0]), 4, 72) by kernel_rfl)
 exact ⟨i, h1, h2, h3, h4⟩
theorem texts_slice {w : World} {v : Value} {xs : List (List UInt8)} (h : TextsA w v xs) : v.oneCell' = true := by
 rcases h with ⟨_, rfl⟩ | ⟨a, c, rfl, _⟩ <;> rfl
theorem grants_slice {w : World} {v : Value} {gs : List GrantS} (h : GrantsA w v gs) : v.oneCell' = true := by
 obtain ⟨A, c, rfl, _⟩ := h
 rfl
theorem rules_new (w : World) (q : RuleQ) : RulesQ (w.alloc (.cells (rqCells q).toArray 47)) (.slice (some ⟨w.heap.size, 0, none⟩) 1 1) [q] := by
 refine ⟨_, 1, rfl, Nat.le_refl _, fun h => (by cases h), fun j hj => ⟨w.heap.size, 0, rfl, fun k u hu => ?_⟩⟩
 have hj0 : j = 0 := by simpa using hj
 subst hj0
 simp only [List.getElem_cons_zero] at hu
 have hq : Bk (w.alloc (.cells (rqCells q).toArray 47)) w.heap.size 47 (rqCells q).toArray := Bk.new w _ _
 have := hq.cell k
 rw [Nat.zero_mul, Nat.zero_add, this]
 simpa using hu
open Go.RowKit
def ouX : List UInt8 := [111, 117, 61, 120]
theorem level_alive : levelA baseL [aliveRule] ouX [] ouX wEntry = 6 := by decide +kernel
set_option maxRecDepth 100000 in
theorem base_c16 (w : World) (hw : Env w) : Calls Tryz.prog 13 #[] w fun e w' => ∃ s ps, e = .returned (.pointer (some ⟨s, 0, none⟩)) ∧ Below w.heap.size w w' ∧ SchAt w' s ps baseL := by
 have HBs := Lib.hid (Base_c w)
 have HNw : Hid (∀ (va vb : Value) (W : World), Below w.heap.size w W → Texts W va baseA → Texts W vb baseC → Calls Tryz.prog 16 #[va, vb] W fun e w' => Below W.heap.size W w' ∧ ∃ s ps, e = .returned (.tuple #[.pointer (some ⟨s, 0, none⟩), .int .i64 0, .int .i64 0]) ∧ SchAt w' s ps baseL) := Lib.hid fun va vb W h h1 h2 => by
  have := New_c va vb baseA baseC W (hw.keep h) h1 h2 (by rw [baseA_len, baseC_len]; omega) (fun x hx => Nat.le_trans (base_short x hx) (by decide))
  rw [base_new] at this
  exact this
 clear hw
 go_enter Tryz.func13, Tryz.ntmps13
 go_wp2_with (first | (go_at_call 15; refine HBs.out.mono ?_; rintro e w1 ⟨rfl, hb1, hA1, hC1⟩) | (go_at_call 16; refine (HNw.out _ _ _ hb1 hA1.texts hC1.texts).mono ?_; rintro e w2 ⟨hb2, s, ps, rfl, hS2⟩; have hB2 := hb1.trans (hb2.mono hb1.size)))
 go_ret
 exact ⟨s, ps, rfl, hB2, hS2⟩
set_option maxRecDepth 100000 in
theorem alive_c16 (w : World) (hw : Env w) : Calls Tryz.prog 6 #[] w fun e w' => e = .returned (.bool true) ∧ Below w.heap.size w w' := by
 have HBs := Lib.hid (Base_c w)
 have HNw : Hid (∀ (va vb : Value) (W : World), Below w.heap.size w W → Texts W va baseA → Texts W vb baseC → Calls Tryz.prog 16 #[va, vb] W fun e w' => Below W.heap.size W w' ∧ ∃ s ps, e = .returned (.tuple #[.pointer (some ⟨s, 0, none⟩), .int .i64 0, .int .i64 0]) ∧ SchAt w' s ps baseL) := Lib.hid fun va vb W h h1 h2 => by
  have := New_c va vb baseA baseC W (hw.keep h) h1 h2 (by rw [baseA_len, baseC_len]; omega) (fun x hx => Nat.le_trans (base_short x hx) (by decide))
  rw [base_new] at this
  exact this
 have HPa : Hid (∀ (W : World), Below w.heap.size w W → Calls Tryz.prog 7 #[.string ⟨aliveText.toArray⟩] W fun e w' => ∃ Aa na ca Ag ng cg, Below W.heap.size W w' ∧ e = .returned (.tuple #[.agg #[.int .i64 3, .string ⟨#[111, 117, 61, 120]⟩, .slice Aa na ca, .slice Ag ng cg], .int .i64 0]) ∧ TextsA w' (.slice Aa na ca) aliveRule.attrs ∧ GrantsA w' (.slice Ag ng cg) aliveRule.grants) := Lib.hid fun W h => by
  have := aclParse_c aliveText W (hw.keep h) (by decide)
  rw [parse_alive] at this
  refine this.mono ?_
  rintro e w' ⟨hb, va, vg, rfl, h1, h2⟩
  obtain ⟨Aa, ca, rfl, _⟩ := h1.isSlice
  obtain ⟨Ag, cg, rfl, _⟩ := h2.isSlice
  exact ⟨Aa, _, ca, Ag, _, cg, hb, rfl, h1.textsA, h2.reads⟩
 have HPr : Hid (∀ (W : World) (va vg : Value), Below w.heap.size w W → TextsA W va aliveRule.attrs → GrantsA W vg aliveRule.grants → Calls Tryz.prog 12 #[.agg #[.int .i64 3, .string ⟨#[111, 117, 61, 120]⟩, va, vg]] W fun e w' => e = .returned (.tuple #[.string ⟨aliveText.toArray⟩, .int .i64 0]) ∧ Below W.heap.size W w') := Lib.hid fun W va vg h h1 h2 => by
  have := aclPrint_c aliveRule va vg W (hw.keep h) h1 h2 ⟨by decide, by decide, by decide, by decide, by decide⟩
  rw [print_alive] at this
  exact this
 have HLv : Hid (∀ (W : World) (s : Nat) (ps : List Nat) (vr : Value), Below w.heap.size w W → SchAt W s ps baseL → RulesA W vr [aliveRule] → Calls Tryz.prog 14 #[.pointer (some ⟨s, 0, none⟩), vr, .string ⟨#[111, 117, 61, 120]⟩, .slice none 0 0, .string ⟨#[111, 117, 61, 120]⟩, .string ⟨#[101, 110, 116, 114, 121]⟩] W fun e w' => e = .returned (.int .i64 6) ∧ Below W.heap.size W w') := Lib.hid fun W s ps vr h hS hr => by
  have := Level_c s ps baseL base_sound [aliveRule] vr ouX [] (.slice none 0 0) ouX wEntry W (hw.keep h) hS hr (by decide) (fun r hr => by rw [List.mem_singleton.1 hr]; exact ⟨by decide, by decide, by decide, by decide, by decide⟩) (.inl ⟨rfl, rfl⟩) (by decide) (by decide)
  rw [level_alive] at this
  exact this
 have HNm : Hid (∀ (W : World), Calls Tryz.prog 17 #[.int .i64 2] W fun e w' => e = .returned (.string ⟨#[97, 117, 116, 104]⟩) ∧ Below W.heap.size W w') := Lib.hid fun W => Name_c 2 (by decide) W
 clear hw
 have hget := ba_get
 have hext := ba_ext
 unfold aliveText at *
 go_enter Tryz.func6, Tryz.ntmps6
 go_wp2_with (first
  | (go_at_call 15; refine HBs.out.mono ?_; rintro e w1 ⟨rfl, hb1, hA1, hC1⟩)
  | (go_at_call 16; refine (HNw.out _ _ _ hb1 hA1.texts hC1.texts).mono ?_; rintro e w2 ⟨hb2, s, ps, rfl, hS2⟩; have hB2 := hb1.trans (hb2.mono hb1.size))
  | (go_at_call 7; (with_reducible refine (HPa.out _ hB2).mono ?_); rintro e w3 ⟨Aa, na, ca, Ag, ng, cg, hb3, rfl, hT3, hG3⟩; have hB3 := hB2.trans (hb3.mono hB2.size); have hS3 := hS2.below hb3; have hbx : Below w3.heap.size w3 (w3.alloc (.cells #[.int .i64 3, .string ⟨#[111, 117, 61, 120]⟩, .slice Aa na ca, .slice Ag ng cg] 47)) := (Below.refl _ _).alloc (Nat.le_refl _) _; have hk3 : Bk (w3.alloc (.cells #[.int .i64 3, .string ⟨#[111, 117, 61, 120]⟩, .slice Aa na ca, .slice Ag ng cg] 47)) w3.heap.size 47 #[.int .i64 3, .string ⟨#[111, 117, 61, 120]⟩, .slice Aa na ca, .slice Ag ng cg] := Bk.new w3 _ _; have hB4 := hB3.trans (hbx.mono hB3.size); have hT4 := hT3.below hbx; have hG4 := hG3.below hbx; have hS4 := hS3.below hbx)
  | (go_at_call 12; (with_reducible refine (HPr.out _ _ _ hB4 hT4 hG4).mono ?_); rintro e w5 ⟨rfl, hb5⟩; have hB5 := hB4.trans (hb5.mono hB4.size); have hS5 := hS4.below hb5; have hT5 := hT4.below hb5; have hG5 := hG4.below hb5; have hk5 := hk3.below hb5; have d0 := hk5.cell 0; have d1 := hk5.cell 1; have d2 := hk5.cell 2; have d3 := hk5.cell 3; simp only [List.getElem?_toArray, List.getElem?_cons_zero, List.getElem?_cons_succ] at d0 d1 d2 d3; have hR5 : RulesA (w5.alloc (.cells #[.int .i64 3, .string ⟨#[111, 117, 61, 120]⟩, .slice Aa na ca, .slice Ag ng cg] 47)) (.slice (some ⟨w5.heap.size, 0, none⟩) 1 1) [aliveRule] := (rules_new w5 (aliveRule, .slice Aa na ca, .slice Ag ng cg)).rules (by intro q hq; rw [List.mem_singleton.1 hq]; exact ⟨hT5.below ((Below.refl _ _).alloc (Nat.le_refl _) _), hG5.below ((Below.refl _ _).alloc (Nat.le_refl _) _)⟩); have hby : Below w5.heap.size w5 (w5.alloc (.cells #[.int .i64 3, .string ⟨#[111, 117, 61, 120]⟩, .slice Aa na ca, .slice Ag ng cg] 47)) := (Below.refl _ _).alloc (Nat.le_refl _) _; have hB6 := hB5.trans (hby.mono hB5.size); have hS6 := hS5.below hby)
  | (go_at_call 14; (with_reducible refine (HLv.out _ s ps _ hB6 hS6 hR5).mono ?_); rintro e w7 ⟨rfl, hb7⟩; have hB7 := hB6.trans (hb7.mono hB6.size))
  | (go_at_call 17; (with_reducible refine (HNm.out _).mono ?_); rintro e w8 ⟨rfl, hb8⟩))
 all_goals
  go_ret
  exact ⟨rfl, hB7.trans (hb8.mono hB7.size)⟩
end Go.Proofs.YtbjmpmgiigombaaGreatDoor
