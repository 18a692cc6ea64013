import Derived.Test.YtkkbbhlihilnpaaGreatDoorWs5
import Derived.Test.YtkkbbhlihilnpaaGreatDoorWs6
set_option linter.all false
set_option maxHeartbeats 8000000
set_option maxRecDepth 100000
namespace Go.Proofs.YtkkbbhlihilnpaaGreatDoor
open Go.RowKit
theorem Apply_out {w W : World} {r0 r1 : Value} {tmps : Array Value} {R : Int × Ent.EntryE} {k : Int} (hz : Bk W (w.heap.size + 1) 37 #[r0, r1]) (h8 : tmps[8]? = some (.pointer (some ⟨w.heap.size + 1, 0, none⟩))) (h9 : tmps[9]? = some (.int .i64 k))
  (h : EntRet w R (.returned (.tuple #[.agg #[r0, r1], .int .i64 k])) W) :
  bodyPost Tryz.prog Tryz.f25 (EntRet w R) .ret { tmps := tmps, defers := [] } W := by
 have e8 : tmps[8]?.getD undef = .pointer (some ⟨w.heap.size + 1, 0, none⟩) := by rw [h8]; rfl
 have e9 : tmps[9]?.getD undef = .int .i64 k := by rw [h9]; rfl
 have c0 := hz.cell 0
 have c1 := hz.cell 1
 simp only [gs3] at c0 c1
 refine bodyPost_ret (v := .tuple #[.agg #[r0, r1], .int .i64 k]) ?_ rfl h
 simp [results, Tryz.results25, go_sem, e8, e9, c0, c1]
theorem mods_step (S : Ent.SchE) (perm : Bool) (m : Ent.ModE) (ms : List Ent.ModE) (e : Ent.EntryE) : Ent.modsE S perm (m :: ms) e = match Ent.oneE S perm e m with
 | .inl c => .inl c
 | .inr e' => Ent.modsE S perm ms e' := rfl
structure ApJ (w wr : World) (p : Nat) (e : Ent.EntryE) : Prop where
 bel : Below w.heap.size w wr
 res : Bk wr (w.heap.size + 1) 37 #[.string ⟨#[]⟩, .slice none 0 0]
 ent : EntAt w.heap.size wr p e
theorem ApJ.below {w wr W : World} {p : Nat} {e : Ent.EntryE} (h : ApJ w wr p e) (hb : Below wr.heap.size wr W) : ApJ w W p e := ⟨h.bel.trans (hb.mono h.bel.size), h.res.below hb, h.ent.below hb⟩
theorem ApJ.chg {w wr W : World} {p : Nat} {e e' : Ent.EntryE} (h : ApJ w wr p e) (hp : w.heap.size + 1 < p) (hc : ChgB w.heap.size p wr W) (hE : EntAt w.heap.size W p e') : ApJ w W p e' := ⟨h.bel.trans hc.1, hc.2 _ _ _ h.res (by omega) (by decide), hE⟩
theorem right_values {S : Ent.SchE} {e : Ent.EntryE} (h : Ent.RightE S e) (t : LU) : (Ent.valuesE e t).length ≤ 1000 := by
 have := (Ent.values_right (t := t) h.r0).2.2
 omega
theorem Apply_c (s : Nat) (ps : List Nat) (e : Ent.EntryE) (va : Value) (ms : List Ent.ModE) (vm : Value) (perm : Bool) (w : World) (hw : Env w) (hS : SchAt w s ps baseL) (hr : Ent.RightE (schE baseL) e) (hv : AttrsA w va e.attrs) (hm : ModsA w vm ms) (hml : ms.length ≤ 1048576) (hlm : ∀ m ∈ ms, m.typ.length ≤ 140737488351232 ∧ m.vals.length ≤ 2000000)
  (hfd : ∀ e', Ent.modsE (schE baseL) perm ms e = .inr e' → ∀ x ∈ Ent.findE (schE baseL) e' Ent.wObj, x.length ≤ 140737488351232) :
  Calls Tryz.prog 25 #[.pointer (some ⟨s, 0, none⟩), .agg #[.string ⟨e.dn.toArray⟩, va], vm, .bool perm] w (EntRet w (Ent.applyE (schE baseL) e ms perm)) := by
 obtain ⟨M, hM⟩ : ∃ M, Ent.applyE (schE baseL) e ms perm = M := ⟨_, rfl⟩
 rw [hM]
 have hM0 : (match Ent.modsE (schE baseL) perm ms e with
  | .inl c => (c, Ent.zeroE)
  | .inr e' => if !Ent.ownE (schE baseL) e' then (67, Ent.zeroE) else if Ent.checkE (schE baseL) e' != 0 then (Ent.checkE (schE baseL) e', Ent.zeroE) else (0, e')) = M := hM
 obtain ⟨R, hR⟩ : ∃ R, Ent.modsE (schE baseL) perm ms e = R := ⟨_, rfl⟩
 rw [hR] at hM0 hfd
 have hL := base_sound
 have HA : Hid (∀ (t : LU) (W : World), t.length ≤ 140737488351232 → Below w.heap.size w W → Calls Tryz.prog 20 #[.pointer (some ⟨s, 0, none⟩), .string ⟨t.toArray⟩] W fun e w' => Below W.heap.size W w' ∧ ∃ A n c, e = .returned (.tuple #[attrV (attrO baseL t) (.slice A n c), .int .i64 (attrC baseL t)])) := hiD fun t W ht h => AttrU_c s ps baseL hL t W (hS.below h) ht
 have HAp : Hid (∀ (p : Nat) (e' : Ent.EntryE) (m : Ent.ModE) (vm : Value) (W : World), Below w.heap.size w W → EntAt w.heap.size W p e' → Ent.RightE (schE baseL) e' → m.typ.length ≤ 140737488351232 → TextsA W vm m.vals → m.vals.length ≤ 2000000 → Calls Tryz.prog 53 #[.agg #[.pointer (some ⟨s, 0, none⟩), .pointer (some ⟨p, 0, none⟩), .string ⟨(attrO baseL m.typ).name.toArray⟩, .bool perm], .agg #[.int .i64 m.op, .string ⟨m.typ.toArray⟩, vm]] W (ChgRet w.heap.size p W (Ent.oneE (schE baseL) perm e' m))) := hiD fun p e' m vm W h hE hr hmt hu hul => apply_c w.heap.size s p ps baseL hL _ perm e' m vm W (hw.keep h) (hS.below h) rfl hE (by have := hr.few; omega) (right_values hr _) hmt hu hul
 have HO : Hid (∀ (e' : Ent.EntryE) (va : Value) (W : World), Ent.RightE (schE baseL) e' → Below w.heap.size w W → AttrsA W va e'.attrs → Calls Tryz.prog 37 #[.pointer (some ⟨s, 0, none⟩), .agg #[.string ⟨e'.dn.toArray⟩, va]] W fun e w' => e = .returned (.bool (Ent.ownE (schE baseL) e')) ∧ Below W.heap.size W w') := hiD fun e' va W hr h hA => own_c s ps baseL hL e'.dn e'.attrs va W (hw.keep h) (hS.below h) hA (by have := hr.few; omega) (fun a ha => right_short hL.lim (hr.all a ha)) (have_nodup e'.dn e'.attrs hr.all hr.once)
 have HCk : Hid (∀ (e' : Ent.EntryE) (va : Value) (W : World), R = .inr e' → Ent.RightE (schE baseL) e' → Below w.heap.size w W → AttrsA W va e'.attrs → Calls Tryz.prog 24 #[.pointer (some ⟨s, 0, none⟩), .agg #[.string ⟨e'.dn.toArray⟩, va]] W fun e w' => e = .returned (.int .i64 (Ent.checkE (schE baseL) e')) ∧ Below W.heap.size W w') := hiD fun e' va W hRe hr h hA => CheckB_c s ps e' va W (hS.below h) hA (by have := hr.few; omega) (by have := valsN_le e'.attrs (fun a ha => (hr.all a ha).few); have := hr.few; omega) (fun a ha => (right_short hL.lim (hr.all a ha)).1) (hfd e' hRe)
 have HM := hiD hM0
 have HRm := hiD hR
 have hb1 := bel_one w (.cells #[.string ⟨e.dn.toArray⟩, va] 37)
 have hk1 := Bk.new w 37 #[.string ⟨e.dn.toArray⟩, va]
 have hb2 := bel_one (w.alloc (.cells #[.string ⟨e.dn.toArray⟩, va] 37)) (.cells #[.string ⟨#[]⟩, .slice none 0 0] 37)
 have hk2 := hk1.below hb2
 have hk3 := Bk.new (w.alloc (.cells #[.string ⟨e.dn.toArray⟩, va] 37)) 37 #[.string ⟨#[]⟩, .slice none 0 0]
 have hs2 : w.heap.size + 1 + 1 = ((w.alloc (.cells #[.string ⟨e.dn.toArray⟩, va] 37)).alloc (.cells #[.string ⟨#[]⟩, .slice none 0 0] 37)).heap.size := by rw [World.size_alloc, World.size_alloc]
 rw [World.size_alloc] at hk3
 have hB2 := hb1.trans (hb2.mono hb1.size)
 have hfew := hr.few
 have HCp := hiD (copied_c e.dn e.attrs va _ (hv.below hB2) (by omega) (fun a ha => by have := (hr.all a ha).few; omega))
 have x0 := hk2.cell 0
 have x1 := hk2.cell 1
 obtain ⟨Al, cl, rfl, _⟩ := hv.isSlice
 simp only [gs3] at x0 x1
 obtain ⟨Am, cm, rfl, hcm, hmc⟩ := hm
 have HMC := hiD hmc
 have HLM := hiD hlm
 have hadd := add_at2
 clear hv hmc hlm hM hM0 hR hw hS
 go_enter Tryz.func25, Tryz.ntmps25
 go_wp2_with (go_at_call 52; (with_reducible refine HCp.out.mono ?_); rintro r w3 ⟨hb3, A3, c3, qs, rfl, hq, hO, hQ⟩)
 have hB3 := hB2.trans (hb3.mono hB2.size)
 have hP0 := bel_one w3 (.cells #[.string ⟨e.dn.toArray⟩, .slice A3 e.attrs.length c3] 37)
 have hp : w.heap.size + 1 < w3.heap.size := by have := hb3.size; omega
 have hJ0 : ApJ w (w3.alloc (.cells #[.string ⟨e.dn.toArray⟩, .slice A3 e.attrs.length c3] 37)) w3.heap.size e := ⟨hB3.trans (hP0.mono hB3.size), (hk3.below hb3).below hP0, ⟨A3, c3, qs, hq, by omega, Bk.new w3 _ _, (OwnAt.low hO (by rw [← hs2]; omega)).below hP0, hQ.below hP0⟩⟩
 clear x0 x1 hk1 hk2 hk3 hb1 hb2 hB2 hs2 hb3 hB3 hP0 hO hQ hq HCp
 generalize w3.alloc (.cells #[.string ⟨e.dn.toArray⟩, .slice A3 e.attrs.length c3] 37) = W4 at *
 generalize w3.heap.size = p at *
 go_loopg [21] ms.length (fun gk i wr => ∃ (k : Nat) (e' : Ent.EntryE), k ≤ ms.length ∧ i = .int .i64 k ∧ Aside (k + gk = ms.length) ∧ Aside (ApJ w wr p e') ∧ Aside (Ent.RightE (schE baseL) e') ∧ Aside (Ent.modsE (schE baseL) perm (ms.drop k) e' = R))
 case atStart => exact ⟨0, e, by omega, rfl, by show _ = _; omega, hJ0, hr, HRm.out⟩
 case round =>
  clear hJ0 HRm hr hfew
  obtain ⟨k, e', hk, rfl, AG, AJ, AE, AS⟩ := hrel
  by_cases hlt : k < ms.length
  ·obtain ⟨q, rfl⟩ : ∃ q, gk = q + 1 := ⟨gk - 1, by have := AG.out; omega⟩
   obtain ⟨b, o, vx, rfl, c0, c1, c2, hta⟩ := HMC.out k hlt
   obtain ⟨Av, cv, rfl, hcv, _⟩ := hta.at
   have d0 := (AJ.out.bel.cell (cell_lt c0)).trans c0
   have d1 := (AJ.out.bel.cell (cell_lt c1)).trans c1
   have d2 := (AJ.out.bel.cell (cell_lt c2)).trans c2
   have HLk := hiD (HLM.out _ (List.getElem_mem hlt))
   have AS' : Aside ((match Ent.oneE (schE baseL) perm e' ms[k] with
    | .inl c => .inl c
    | .inr e2 => Ent.modsE (schE baseL) perm (ms.drop (k + 1)) e2) = R) := by have := AS.out; rw [List.drop_eq_getElem_cons hlt, mods_step] at this; exact this
   have HRt : Hid (∀ e2, Ent.oneE (schE baseL) perm e' ms[k] = .inr e2 → Ent.RightE (schE baseL) e2) := hiD fun e2 h => (Ent.one_says (schE_law hL.says) AE.out.r0 h).1
   have HCd : Hid (∀ c, Ent.oneE (schE baseL) perm e' ms[k] = .inl c → c ≠ 0) := hiD fun c h hc => Ent.one_code (by rw [h, hc])
   have HT := hiD (hta.below AJ.out.bel)
   clear AS c0 c1 c2 hta
   have hA1 := HA.out ms[k].typ
   have hAp := fun W hb hE => HAp.out p e' ms[k] (.slice Av ms[k].vals.length cv) W hb hE AE.out HLk.out.1
   generalize hone : Ent.oneE (schE baseL) perm e' ms[k] = O at *
   generalize ms[k] = m at *
   obtain ⟨op, mt, mv⟩ := m
   simp only at d0 d1 d2 HLk HT hA1 hAp
   have hbm := bel_one wr (.cells #[.int .i64 op, .string ⟨mt.toArray⟩, .slice Av mv.length cv] 55)
   have hkm := Bk.new wr 55 #[.int .i64 op, .string ⟨mt.toArray⟩, .slice Av mv.length cv]
   have hJm := AJ.out.below hbm
   have HTm := hiD (HT.out.below hbm)
   have HA2 := hiD (hA1 _ HLk.out.1 hJm.bel)
   have m0 := hkm.cell 0
   have m1 := hkm.cell 1
   have m2 := hkm.cell 2
   simp only [gs3] at m0 m1 m2
   unfold attrV attrCells at HA2
   obtain ⟨ad, had⟩ : ∃ x, attrO baseL mt = x := ⟨_, rfl⟩
   rw [had] at HA2 hAp
   have HAp2 := hiD hAp
   generalize attrC baseL mt = ac at *
   clear hA1 hAp had HT AJ hone
   go_upto_region 6 with (go_at_call 20; (with_reducible refine HA2.out.mono ?_); rintro r w5 ⟨hb5, A5, n5, c5, rfl⟩)
   have hbd := bel_one w5 (.cells (adC ad A5 n5 c5) 41)
   have hkd := Bk.new w5 41 (adC ad A5 n5 c5)
   have hb6 := hb5.trans (hbd.mono hb5.size)
   have hJ6 := hJm.below hb6
   have HT6 := HTm.out.below hb6
   have n1 := hkd.cell 1
   have k0 := (hb6.cell (cell_lt m0)).trans m0
   have k1 := (hb6.cell (cell_lt m1)).trans m1
   have k2 := (hb6.cell (cell_lt m2)).trans m2
   simp only [gs3] at n1
   have HAp3 := hiD (HAp2.out _ hJ6.bel hJ6.ent HT6 HLk.out.2)
   generalize w5.alloc (.cells (adC ad A5 n5 c5) 41) = W6 at *
   generalize w5.heap.size = dp at *
   clear hbd hkd hb6 hb5 hbm hkm hJm HTm HA2 HAp2 m0 m1 m2 d0 d1 d2 HT6
   unfold ChgRet at HAp3
   cases O with
   | inl c =>
    simp only at HAp3 AS'
    have hcz := HCd.out c rfl
    have hcb : (c != 0) = true := bne_iff_ne.2 hcz
    have hM2 : M = (c, Ent.zeroE) := by have := HM.out; rw [← AS'.out] at this; exact this.symm
    subst hM2
    clear HM AS' HRt HCd HO HCk HA HAp
    go_wp2_with (go_at_call 53; (with_reducible refine HAp3.out.mono ?_); rintro r w7 ⟨hc7, rfl⟩; have hB7 := hJ6.bel.trans hc7.1; have hR7 := hc7.2 _ _ _ hJ6.res (by omega) (by decide); have r0 := hR7.cell 0; have r1 := hR7.cell 1; simp only [gs3] at r0 r1; have of := fun i => hR7.frozen i)
    have hz := bk_set2 _ _ (.string ⟨#[]⟩) (.slice none 0 0) hR7
    exact Apply_out hz rfl rfl (EntRet.zero (below_set2 hB7 (Nat.le_succ _) _ _) _)
   | inr e2 =>
    simp only at HAp3 AS'
    have hr2 := HRt.out e2 rfl
    have HR2 := hiD hr2
    clear HRt HCd hr2
    go_wp2_with (go_at_call 53; (with_reducible refine HAp3.out.mono ?_); rintro r w7 ⟨hc7, rfl, hE7⟩; have hJ7 := hJ6.chg hp hc7 hE7)
    go_roundg q
    case measure => omega
    case rel => exact ⟨k + 1, e2, by omega, by go_num, by have := AG.out; show _ = _; omega, hJ7, HR2.out, AS'.out⟩
  ·obtain rfl : k = ms.length := by omega
   have hRe : R = .inr e' := by have := AS.out; rw [List.drop_length] at this; exact this.symm
   subst hRe
   have hM2 := HM.out
   simp only at hM2
   have hJ := AJ.out
   obtain ⟨A, c, qs, hq, hBp, hP, hO, hQ⟩ := hJ.ent
   have hA := hO.attrs hQ.ok
   rw [hq] at hA
   have p0 := hP.cell 0
   have p1 := hP.cell 1
   simp only [gs3] at p0 p1
   have HO2 := hiD (HO.out e' _ wr AE.out hJ.bel hA)
   have HC2 : Hid (∀ W, Below wr.heap.size wr W → Calls Tryz.prog 24 #[.pointer (some ⟨s, 0, none⟩), .agg #[.string ⟨e'.dn.toArray⟩, .slice A e'.attrs.length c]] W fun e w' => e = .returned (.int .i64 (Ent.checkE (schE baseL) e')) ∧ Below W.heap.size W w') := hiD fun W h => HCk.out e' _ W rfl AE.out (hJ.bel.trans (h.mono hJ.bel.size)) (hA.below h)
   have HP : Hid (∀ W, Below wr.heap.size wr W → W.cell? ⟨p, 0, none⟩ = some (.string ⟨e'.dn.toArray⟩) ∧ W.cell? ⟨p, 1, none⟩ = some (.slice A e'.attrs.length c)) := hiD fun W h => ⟨(hP.below h).cell 0, (hP.below h).cell 1⟩
   clear AS AJ HM HO HCk HA HAp HMC HLM hA
   cases hown : Ent.ownE (schE baseL) e'
   ·rw [hown] at hM2 HO2
    have hM3 : M = (67, Ent.zeroE) := by rw [← hM2]; rfl
    subst hM3
    clear hM2 hown HC2 HP
    go_wp2_with (go_at_call 37; (with_reducible refine HO2.out.mono ?_); rintro r w3 ⟨rfl, hb3⟩; have hJ4 := hJ.below hb3; have r0 := hJ4.res.cell 0; have r1 := hJ4.res.cell 1; simp only [gs3] at r0 r1; have of := fun i => hJ4.res.frozen i)
    have hz := bk_set2 _ _ (.string ⟨#[]⟩) (.slice none 0 0) hJ4.res
    exact Apply_out hz rfl rfl (EntRet.zero (below_set2 hJ4.bel (Nat.le_succ _) _ _) 67)
   ·rw [hown] at hM2 HO2
    obtain ⟨ck, hck⟩ : ∃ x, Ent.checkE (schE baseL) e' = x := ⟨_, rfl⟩
    rw [hck] at HC2 hM2
    by_cases hcz : ck = 0
    ·subst hcz
     have hM3 : M = (0, e') := by rw [← hM2]; rfl
     subst hM3
     clear hM2 hown hck
     go_wp2_with (first
      | (go_at_call 37; (with_reducible refine HO2.out.mono ?_); rintro r w3 ⟨rfl, hb3⟩; obtain ⟨q0, q1⟩ := HP.out _ hb3)
      | (go_at_call 24; (with_reducible refine (HC2.out _ hb3).mono ?_); rintro r w4 ⟨rfl, hb4⟩; have hb5 := hb3.trans (hb4.mono hb3.size); obtain ⟨q0, q1⟩ := HP.out _ hb5; have hJ4 := hJ.below hb5; have r0 := hJ4.res.cell 0; have r1 := hJ4.res.cell 1; simp only [gs3] at r0 r1; have of := fun i => hJ4.res.frozen i))
     have hz := bk_set2 _ _ (.string ⟨e'.dn.toArray⟩) (.slice A e'.attrs.length c) hJ4.res
     have hgr := grown_set2 w4 (w.heap.size + 1) (.string ⟨e'.dn.toArray⟩) (.slice A e'.attrs.length c)
     have hO5 := hO.below hb5
     exact Apply_out hz rfl rfl ⟨below_set2 hJ4.bel (Nat.le_succ _) _ _, A, c, qs, rfl, hq, hO5.keep2 hgr (hO5.apart hJ4.res (by decide)), (hQ.below hb5).far hJ4.res (by decide) hgr⟩
    ·have hcb : (ck != 0) = true := bne_iff_ne.2 hcz
     have hM3 : M = (ck, Ent.zeroE) := by rw [← hM2, hcb]; rfl
     subst hM3
     clear hM2 hown hck
     go_wp2_with (first
      | (go_at_call 37; (with_reducible refine HO2.out.mono ?_); rintro r w3 ⟨rfl, hb3⟩; obtain ⟨q0, q1⟩ := HP.out _ hb3)
      | (go_at_call 24; (with_reducible refine (HC2.out _ hb3).mono ?_); rintro r w4 ⟨rfl, hb4⟩; have hb5 := hb3.trans (hb4.mono hb3.size); have hJ4 := hJ.below hb5; have r0 := hJ4.res.cell 0; have r1 := hJ4.res.cell 1; simp only [gs3] at r0 r1; have of := fun i => hJ4.res.frozen i))
     have hz := bk_set2 _ _ (.string ⟨#[]⟩) (.slice none 0 0) hJ4.res
     exact Apply_out hz rfl rfl (EntRet.zero (below_set2 hJ4.bel (Nat.le_succ _) _ _) _)
open Go.RowKit
theorem Bk.c2 {w : World} {g : Nat} {t : TypeId} {a b : Value} (h : Bk w g t #[a, b]) : w.cell? ⟨g, 0, none⟩ = some a ∧ w.cell? ⟨g, 1, none⟩ = some b := ⟨h.cell 0, h.cell 1⟩
theorem ent_lay {w0 wp w : World} (dn : LU) (u : Value) (hB : Below w0.heap.size w0 wp) (hb : Below wp.heap.size wp w) : Below w0.heap.size w0 (w.alloc (.cells #[.string ⟨dn.toArray⟩, u] 37)) ∧ Below wp.heap.size wp (w.alloc (.cells #[.string ⟨dn.toArray⟩, u] 37)) ∧ Below w.heap.size w (w.alloc (.cells #[.string ⟨dn.toArray⟩, u] 37)) ∧ Bk (w.alloc (.cells #[.string ⟨dn.toArray⟩, u] 37)) w.heap.size 37 #[.string ⟨dn.toArray⟩, u] := by
 have hx := bel_one w (.cells #[.string ⟨dn.toArray⟩, u] 37)
 have hy := hb.trans (hx.mono hb.size)
 exact ⟨hB.trans (hy.mono hB.size), hy, hx, Bk.new w _ _⟩
def ShortV (v : LU) : Prop := v.length ≤ 1048576
def QRet (w : World) (R : Int × Ent.EntryE) (r : Ending) (w' : World) : Prop := Below w.heap.size w w' ∧ ∃ A c, r = .returned (.tuple #[.agg #[.string ⟨R.2.dn.toArray⟩, .slice A R.2.attrs.length c], .int .i64 R.1]) ∧ AttrsA w' (.slice A R.2.attrs.length c) R.2.attrs
theorem EntRet.q {w w' : World} {R : Int × Ent.EntryE} {r : Ending} (h : EntRet w R r w') : QRet w R r w' := by
 obtain ⟨hb, A, c, qs, rfl, hq, hO, hQ⟩ := h
 have hA := hO.attrs hQ.ok
 rw [hq] at hA
 exact ⟨hb, A, c, rfl, hA⟩
theorem MakeQ_c (s : Nat) (ps : List Nat) (nm : LU) (l : List Ent.AttrE) (vl : Value) (w : World) (hw : Env w) (hS : SchAt w s ps baseL) (hv : AttrsA w vl l) (hl : l.length ≤ 1000) (hlt : ∀ a ∈ l, a.typ.length ≤ 140737488351232 ∧ a.vals.length ≤ 1000000) :
  Calls Tryz.prog 19 #[.pointer (some ⟨s, 0, none⟩), .string ⟨nm.toArray⟩, vl] w (QRet w (Ent.makeE (schE baseL) nm l)) := (Make_c s ps baseL base_sound nm l vl w hw hS hv (by omega) hlt).mono fun _ _ h => h.q
theorem ApplyQ_c (s : Nat) (ps : List Nat) (e : Ent.EntryE) (va : Value) (ms : List Ent.ModE) (vm : Value) (perm : Bool) (w : World) (hw : Env w) (hS : SchAt w s ps baseL) (hr : Ent.RightE (schE baseL) e) (hsv : Ent.AllV ShortV e) (hv : AttrsA w va e.attrs) (hm : ModsA w vm ms) (hml : ms.length ≤ 1048576) (hms : ∀ m ∈ ms, m.typ.length ≤ 1048576 ∧ m.vals.length ≤ 1048576 ∧ ∀ v ∈ m.vals, ShortV v) :
  Calls Tryz.prog 25 #[.pointer (some ⟨s, 0, none⟩), .agg #[.string ⟨e.dn.toArray⟩, va], vm, .bool perm] w (QRet w (Ent.applyE (schE baseL) e ms perm)) :=
 (Apply_c s ps e va ms vm perm w hw hS hr hv hm hml (fun m hm => ⟨Nat.le_trans (hms m hm).1 (by decide), Nat.le_trans (hms m hm).2.1 (by decide)⟩) (fun e' he x hx => by
  have h : ShortV x := ((hsv.mods ms e e' (fun m hm => (hms m hm).2.2) he).find Ent.wObj) x hx
  exact Nat.le_trans h (by decide))).mono fun _ _ h => h.q
theorem right_lim {e : Ent.EntryE} (hr : Ent.RightE (schE baseL) e) : (∀ a ∈ e.attrs, a.typ.length ≤ 140737488351232 ∧ a.vals.length ≤ 1000000) ∧ (∀ a ∈ e.attrs, a.typ.length ≤ 1000000) ∧ valsN e.attrs ≤ 1000000 ∧ e.attrs.length ≤ 1000 ∧ ∀ a ∈ e.attrs, a.vals.length ≤ 4611686018427387904 := by
 have hs := fun a ha => right_short base_sound.lim (hr.all a ha)
 have hf := hr.few
 refine ⟨fun a ha => ⟨Nat.le_trans (hs a ha).1 (by decide), (hs a ha).2⟩, fun a ha => (hs a ha).1, ?_, by omega, fun a ha => Nat.le_trans (hs a ha).2 (by decide)⟩
 have := valsN_le e.attrs (fun a ha => (hr.all a ha).few)
 omega
theorem apply_right {e x : Ent.EntryE} {ms : List Ent.ModE} {perm : Bool} (hr : Ent.RightE (schE baseL) e) (hsv : Ent.AllV ShortV e) (hms : ∀ m ∈ ms, m.typ.length ≤ 1048576 ∧ m.vals.length ≤ 1048576 ∧ ∀ v ∈ m.vals, ShortV v) (h : Ent.applyE (schE baseL) e ms perm = (0, x)) : Ent.RightE (schE baseL) x ∧ Ent.AllV ShortV x := by
 obtain ⟨m1, _, _⟩ := Ent.apply_ok h (Ent.mods_code _ e)
 exact ⟨(Ent.mods_right (schE_law base_sound.says) ms e x hr m1).1, hsv.mods ms e x (fun m hm => (hms m hm).2.2) m1⟩
theorem make_good {nm : LU} {l : List Ent.AttrE} {e : Ent.EntryE} (hlv : ∀ a ∈ l, ∀ v ∈ a.vals, ShortV v) (h : Ent.makeE (schE baseL) nm l = (0, e)) : Ent.RightE (schE baseL) e ∧ Ent.AllV ShortV e := by
 refine ⟨(Ent.make_right (schE_law base_sound.says) h).1, ?_⟩
 have := Ent.make_vals (S := schE baseL) (nm := nm) hlv
 rw [h] at this
 exact this
theorem SameQ_c (x : Ent.EntryE) (v1 v2 : Value) (w : World) (hr : Ent.RightE (schE baseL) x) (h1 : AttrsA w v1 x.attrs) (h2 : AttrsA w v2 x.attrs) : Calls Tryz.prog 23 #[.agg #[.string ⟨x.dn.toArray⟩, v1], .agg #[.string ⟨x.dn.toArray⟩, v2]] w fun e w' => e = .returned (.bool true) ∧ Below w.heap.size w w' :=
 Same7_c x v1 v2 w h1 h2 (by have := hr.few; omega) (right_lim hr).2.2.2.2
theorem SameAttrs0_c (A : Option Addr) (c : Nat) (w : World) : Calls Tryz.prog 54 #[.slice A 0 c, .slice none 0 0] w fun e w' => e = .returned (.bool true) ∧ Below w.heap.size w w' := by
 go_enter Tryz.func54, Tryz.ntmps54
 go_wp2_with fail
 go_loopg [5] 0 (fun gk i wr => i = .int .i64 0 ∧ w = wr)
 case atStart => exact ⟨rfl, rfl⟩
 case round =>
  obtain ⟨rfl, rfl⟩ := hrel
  go_wp2_with fail
  go_ret
  exact ⟨rfl, Below.refl _ _⟩
theorem Same0_c (A : Option Addr) (c : Nat) (w : World) : Calls Tryz.prog 26 #[.agg #[.string ⟨#[]⟩, .slice A 0 c], .agg #[.string ⟨#[]⟩, .slice none 0 0]] w fun e w' => e = .returned (.bool true) ∧ Below w.heap.size w w' := by
 have hb1 := bel_one w (.cells #[.string ⟨#[]⟩, .slice A 0 c] 37)
 have hb2 := hb1.alloc hb1.size (.cells #[.string ⟨#[]⟩, .slice none 0 0] 37)
 go_enter Tryz.func26, Tryz.ntmps26
 go_wp2_with (go_at_call 54; (with_reducible refine (SameAttrs0_c A c _).mono ?_); rintro e w3 ⟨rfl, hb3⟩)
 all_goals
  go_ret
  exact ⟨rfl, hb2.trans (hb3.mono hb2.size)⟩
end Go.Proofs.YtkkbbhlihilnpaaGreatDoor
