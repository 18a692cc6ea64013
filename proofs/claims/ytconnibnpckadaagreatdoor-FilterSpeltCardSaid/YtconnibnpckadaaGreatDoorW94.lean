import Derived.Test.YtconnibnpckadaaGreatDoorW93
import Derived.Test.YtconnibnpckadaaGreatDoorW92
set_option linter.all false
set_option maxHeartbeats 8000000
set_option maxRecDepth 100000
namespace Go.Proofs.YtconnibnpckadaaGreatDoor
open Go.RowKit
set_option maxRecDepth 100000 in
theorem put_sub_c (w0 : World) (hw : Env w0) (p : Fil.FilE) (t : List Fil.FilE) (v : Value) (w : World) (acc : List UInt8) (hv : FilsA w0 v (p :: t)) (hb : Below w0.heap.size w0 w) (hI : IsB w0.heap.size w0.heap.size acc w) (hl : Fil.wgt (p :: t) ≤ 1048576) (ha : acc.length + 4 * Fil.wgt (p :: t) ≤ 1000000000) (ho : p.op = 4) :
  Calls Tryz.prog 25 #[.pointer (some ⟨w0.heap.size, 0, none⟩), v] w (PutRetF w0 w acc (40 :: (Fil.itemT p ++ [41]), t)) := by
 obtain ⟨bb, oo, c, vy, vt, rfl, hc, ⟨c0, c1, c2, c3, c4, c5, c6⟩, hta, hsl, ht⟩ := hv.tail
 rw [Fil.wgt_cons] at hl ha
 have hW := fun (x : List UInt8) (W : World) (hW : Below w0.heap.size w0 W) (h : x.length ≤ 1048576) => written8_c x W (hw.keep hW) (by omega)
 have HWr := Lib.hid hW
 have hBp := hI.lt
 obtain ⟨Ay, cy, rfl, hyc, hy⟩ := hta.at
 obtain ⟨At, ct, rfl, hct⟩ := ht.isSlice
 have HT := Lib.hid ht
 obtain ⟨o, n, ty, va, i, f, y⟩ := p
 unfold filW at hl ha
 simp only at c0 c1 c2 c3 c4 c5 c6 hl ha hyc hy ho
 have d0 := (hb.cell (cell_lt c0)).trans c0
 have d1 := (hb.cell (cell_lt c1)).trans c1
 have d2 := (hb.cell (cell_lt c2)).trans c2
 have d3 := (hb.cell (cell_lt c3)).trans c3
 have d4 := (hb.cell (cell_lt c4)).trans c4
 have d5 := (hb.cell (cell_lt c5)).trans c5
 have d6 := (hb.cell (cell_lt c6)).trans c6
 have hk1 := Bk.new w 34 #[.int .i64 o, .int .i64 n, .string ⟨ty.toArray⟩, .string ⟨va.toArray⟩, .string ⟨i.toArray⟩, .string ⟨f.toArray⟩, .slice Ay y.length cy]
 have hb1 := bel_f1 w (.cells #[.int .i64 o, .int .i64 n, .string ⟨ty.toArray⟩, .string ⟨va.toArray⟩, .string ⟨i.toArray⟩, .string ⟨f.toArray⟩, .slice Ay y.length cy] 34)
 have hI1 := hI.below hb1
 have hbb := hb.trans (hb1.mono hb.size)
 have hpn : w.heap.size ≠ w0.heap.size := by omega
 have hi1 : (0 : Int) < (t.length : Int) + 1 := by omega
 obtain ⟨a1, ha1⟩ : ∃ a1, acc ++ [40] = a1 := ⟨_, rfl⟩
 have ha1l : a1.length = acc.length + 1 := by rw [← ha1, List.length_append]; rfl
 have HB1 := Lib.hid hbb
 have HK1 := Lib.hid hk1
 have HI1 := Lib.hid hI1
 have hb10 : Below w0.heap.size w (w.alloc (.cells #[.int .i64 o, .int .i64 n, .string ⟨ty.toArray⟩, .string ⟨va.toArray⟩, .string ⟨i.toArray⟩, .string ⟨f.toArray⟩, .slice Ay y.length cy] 34)) := hb1.mono hb.size
 have HB10 := Lib.hid hb10
 have H40 : Hid (∀ W, IsB w0.heap.size w0.heap.size acc W → Calls Tryz.prog 57 #[.pointer (some ⟨w0.heap.size, 0, none⟩), .int .u8 40] W fun e w' => e = .returned .nilIface ∧ IsB w0.heap.size w0.heap.size a1 w' ∧ Below w0.heap.size W w' ∧ Oth w0.heap.size W w') := Lib.hid fun W hW => WriteByteN_c _ _ acc a1 40 ha1 W hW (by omega)
 clear c0 c1 c2 c3 c4 c5 c6 hv ht hb hI hW hk1 hb1 hI1 hbb hb10
 subst ho
 have hvi := Fil.wrL_len8 i
 have hvf := Fil.wrL_len8 f
 have hva := Fil.any_len y
 have HV : Hid (∀ W, Below w0.heap.size w0 W → Calls Tryz.prog 59 #[.string ⟨i.toArray⟩] W fun e w' => e = .returned (.string ⟨(Fil.wrL i).toArray⟩) ∧ Below W.heap.size W w') := Lib.hid fun W hW => HWr.out i W hW (by omega)
 have HVf : Hid (∀ W, Below w0.heap.size w0 W → Calls Tryz.prog 59 #[.string ⟨f.toArray⟩] W fun e w' => e = .returned (.string ⟨(Fil.wrL f).toArray⟩) ∧ Below W.heap.size W w') := Lib.hid fun W hW => HWr.out f W hW (by omega)
 have hit : Fil.itemT ⟨4, n, ty, va, i, f, y⟩ = ty ++ 61 :: (Fil.wrL i ++ 42 :: (y.flatMap fun x => Fil.wrL x ++ [42])) ++ Fil.wrL f := by unfold Fil.itemT; rw [if_neg (by simp only; decide), if_pos rfl]
 rw [hit]
 have hys : ∀ k (hk : k < y.length), y[k].length ≤ 1048576 := fun k hk => by
  have : y[k].length ≤ (y.map List.length).sum := sum_mem8 _ _ (List.mem_map.2 ⟨y[k], List.getElem_mem hk, rfl⟩)
  omega
 have HYS := Lib.hid hys
 have HY := Lib.hid hy
 generalize Fil.wrL i = wi at *
 generalize Fil.wrL f = wf at *
 obtain ⟨Y, hY⟩ : ∃ Y, (y.flatMap fun x => Fil.wrL x ++ [42]) = Y := ⟨_, rfl⟩
 rw [hY] at hva ⊢
 obtain ⟨s1, hs1⟩ : ∃ s1, ty ++ [61] = s1 := ⟨_, rfl⟩
 have hcat : ∀ W : World, (Op.stringOp .add ⟨ty.toArray⟩ ⟨#[61]⟩).run Tryz.prog W = .ok (.string ⟨s1.toArray⟩) W := fun W => by rw [← hs1]; exact run_string_add_lists W ty [61] (by omega) (by simp)
 have hs1l : s1.length = ty.length + 1 := by rw [← hs1, List.length_append]; rfl
 obtain ⟨s2, hs2⟩ : ∃ s2, s1 ++ wi = s2 := ⟨_, rfl⟩
 have hcat2 : ∀ W : World, (Op.stringOp .add ⟨s1.toArray⟩ ⟨wi.toArray⟩).run Tryz.prog W = .ok (.string ⟨s2.toArray⟩) W := fun W => by rw [← hs2]; exact run_string_add_lists W s1 wi (by omega) (by omega)
 have hs2l : s2.length = s1.length + wi.length := by rw [← hs2, List.length_append]
 obtain ⟨s3, hs3⟩ : ∃ s3, s2 ++ [42] = s3 := ⟨_, rfl⟩
 have hcat3 : ∀ W : World, (Op.stringOp .add ⟨s2.toArray⟩ ⟨#[42]⟩).run Tryz.prog W = .ok (.string ⟨s3.toArray⟩) W := fun W => by rw [← hs3]; exact run_string_add_lists W s2 [42] (by omega) (by simp)
 have hs3l : s3.length = s2.length + 1 := by rw [← hs3, List.length_append]; rfl
 obtain ⟨a2, ha2⟩ : ∃ a2, a1 ++ s3 = a2 := ⟨_, rfl⟩
 have ha2l : a2.length = a1.length + s3.length := by rw [← ha2, List.length_append]
 obtain ⟨a3, ha3⟩ : ∃ a3, a2 ++ Y = a3 := ⟨_, rfl⟩
 have ha3l : a3.length = a2.length + Y.length := by rw [← ha3, List.length_append]
 obtain ⟨a4, ha4⟩ : ∃ a4, a3 ++ wf = a4 := ⟨_, rfl⟩
 have ha4l : a4.length = a3.length + wf.length := by rw [← ha4, List.length_append]
 obtain ⟨a5, ha5⟩ : ∃ a5, a4 ++ [41] = a5 := ⟨_, rfl⟩
 have hfin : acc ++ (40 :: (ty ++ 61 :: (wi ++ 42 :: Y) ++ wf ++ [41])) = a5 := by
  rw [← ha5, ← ha4, ← ha3, ← ha2, ← ha1, ← hs3, ← hs2, ← hs1]
  simp
 have HF := Lib.hid hfin
 have H3 : Hid (a2 ++ (y.drop 0).flatMap (fun x => Fil.wrL x ++ [42]) = a3) := Lib.hid (by rw [List.drop_zero, hY, ha3])
 have H41 : Hid (∀ W, IsB w0.heap.size w0.heap.size a4 W → Calls Tryz.prog 57 #[.pointer (some ⟨w0.heap.size, 0, none⟩), .int .u8 41] W fun e w' => e = .returned .nilIface ∧ IsB w0.heap.size w0.heap.size a5 w' ∧ Below w0.heap.size W w' ∧ Oth w0.heap.size W w') := Lib.hid fun W hW => WriteByteN_c _ _ a4 a5 41 ha5 W hW (by omega)
 have HS := Lib.hid (fun W hW => WriteStringN_c w0.heap.size w0.heap.size a1 s3 a2 ha2 W hW (by omega) (by omega))
 have HS4 := Lib.hid (fun W hW => WriteStringN_c w0.heap.size w0.heap.size a3 wf a4 ha4 W hW (by omega) (by omega))
 have HLN := Lib.hid (show a3.length ≤ 1100000000 by omega)
 clear hfin ha1 ha2 ha3 ha4 ha5 hs1 hs2 hs3 hit hY hys hy
 go_enter Tryz.func25, Tryz.ntmps25
 go_wp2_with (go_at_call 57; (with_reducible refine (H40.out _ HI1.out).mono ?_); rintro e w3 ⟨rfl, hI3, hb3, ho3⟩; have hk3 := HK1.out.oth ho3 hpn (by decide); have e0 := hk3.cell 0; have e1 := hk3.cell 1; have e2 := hk3.cell 2; have e3 := hk3.cell 3; have e4 := hk3.cell 4; have e5 := hk3.cell 5; have e6 := hk3.cell 6; simp only [List.getElem?_toArray, List.getElem?_cons_zero, List.getElem?_cons_succ] at e0 e1 e2 e3 e4 e5 e6; have HI3 := Lib.hid hI3; have HK3 := Lib.hid hk3; have HB3 := Lib.hid (HB1.out.trans hb3); have HBw3 := Lib.hid (HB10.out.trans hb3); clear hI3 hk3 ho3 hb3)
 go_region_held3 (fun w' => w'.cell? ⟨w.heap.size, 2, none⟩ = some (.string ⟨ty.toArray⟩) ∧ w'.cell? ⟨w.heap.size, 4, none⟩ = some (.string ⟨i.toArray⟩)) (first | exact ⟨e2, e4⟩ | exact ⟨g2, g4⟩ | exact ⟨h2, h4⟩) (first
  | (go_at_call 59; (refine (HV.out _ (by exact HB3.out.drew)).mono ?_); rintro e w6 ⟨rfl, hb6⟩; have HI6 := Lib.hid (HI3.out.drew.below hb6); have HB6 := Lib.hid (HBw3.out.drew.trans (hb6.mono HB3.out.size)); have g2 := (hb6.cell (cell_lt e2)).trans e2; have g4 := (hb6.cell (cell_lt e4)).trans e4)
  | (go_at_call 58; (refine (HS.out _ (by exact HI6.out)).mono ?_); rintro e w7 ⟨rfl, hI7, hb7, ho7⟩; have HI7 := Lib.hid hI7; have hk7 := ((HK3.out.below (Below.refl _ _).drew).below hb6).oth ho7 hpn (by decide); have h2 := hk7.cell 2; have h4 := hk7.cell 4; have h6 := hk7.cell 6; simp only [List.getElem?_toArray, List.getElem?_cons_zero, List.getElem?_cons_succ] at h2 h4 h6)
  | fail)
 go_wp2_with fail
 have HBw7 := Lib.hid (HB6.out.trans hb7)
 have HK7 := Lib.hid hk7
 have HB03 := HB3.out.size
 have HBs := Lib.hid (show Below w0.heap.size w0 w7 from (HB3.out.drew.trans (hb6.mono HB3.out.size)).trans hb7)
 clear hI7 hb7 hk7 hb6 ho7 g2 g4 h2 h4
 go_loopg [68] y.length (fun gk ix wr => ∃ (k : Nat) (aj : List UInt8), k ≤ y.length ∧ ix = .int .i64 (k : Int) ∧ Aside (k + gk = y.length) ∧ Aside (aj ++ (y.drop k).flatMap (fun x => Fil.wrL x ++ [42]) = a3) ∧ Aside (IsB w0.heap.size w0.heap.size aj wr) ∧ Aside (Bk wr w.heap.size 34 #[.int .i64 4, .int .i64 n, .string ⟨ty.toArray⟩, .string ⟨va.toArray⟩, .string ⟨i.toArray⟩, .string ⟨f.toArray⟩, .slice Ay y.length cy]) ∧ Aside (Below w0.heap.size w wr) ∧ Aside (Below w0.heap.size w0 wr))
 case atStart => exact ⟨0, a2, by omega, rfl, by show _ = _; omega, H3.out, HI7.out, HK7.out, HBw7.out, HBs.out⟩
 case round =>
  clear e0 e1 e2 e3 e4 e5 e6 HI3 HK3 HB3 HBw3 HI6 HB6 HI7 HBw7 HK7 HB03 HBs h6
  obtain ⟨k, aj, hk, rfl, AG, AA, AI, AK, AB, AB0⟩ := hrel
  have haj : aj.length ≤ 1100000000 := by
   have h1 := congrArg List.length AA.out
   rw [List.length_append] at h1
   have := HLN.out
   omega
  by_cases hlt : k < y.length
  ·have hki : (k : Int) < (y.length : Int) := by omega
   obtain ⟨q, rfl⟩ : ∃ q, gk = q + 1 := ⟨gk - 1, by have := AG.out; omega⟩
   obtain ⟨p1, rfl, x1⟩ := HY.out k hlt
   have x2 := (AB0.out.cell (cell_lt x1)).trans x1
   have hvk := Fil.wrL_len8 y[k]
   have hyk := HYS.out k hlt
   have HVk : Hid (∀ W, Below w0.heap.size w0 W → Calls Tryz.prog 59 #[.string ⟨y[k].toArray⟩] W fun e w' => e = .returned (.string ⟨(Fil.wrL y[k]).toArray⟩) ∧ Below W.heap.size W w') := Lib.hid fun W hW => HWr.out y[k] W hW hyk
   have hdr : (y.drop k).flatMap (fun x => Fil.wrL x ++ [42]) = (Fil.wrL y[k] ++ [42]) ++ (y.drop (k + 1)).flatMap (fun x => Fil.wrL x ++ [42]) := by rw [List.drop_eq_getElem_cons hlt, List.flatMap_cons]
   have hAA := AA.out
   rw [hdr, ← List.append_assoc] at hAA
   generalize Fil.wrL y[k] = wk at *
   generalize y[k] = yk at *
   obtain ⟨u1, hu1⟩ : ∃ u1, wk ++ [42] = u1 := ⟨_, rfl⟩
   have hcatk : ∀ W : World, (Op.stringOp .add ⟨wk.toArray⟩ ⟨#[42]⟩).run Tryz.prog W = .ok (.string ⟨u1.toArray⟩) W := fun W => by rw [← hu1]; exact run_string_add_lists W wk [42] (by omega) (by simp)
   have hu1l : u1.length = wk.length + 1 := by rw [← hu1, List.length_append]; rfl
   rw [hu1] at hAA
   obtain ⟨an, han⟩ : ∃ an, aj ++ u1 = an := ⟨_, rfl⟩
   rw [han] at hAA
   have HSk := Lib.hid (fun W hW => WriteStringN_c w0.heap.size w0.heap.size aj u1 an han W hW (by omega) (by omega))
   have HAA := Lib.hid hAA
   clear hAA hdr hu1 han x1 hvk hyk
   go_wp2_with (first
    | (go_at_call 59; (refine (HVk.out _ (by exact AB0.out)).mono ?_); rintro e w6 ⟨rfl, hb6⟩; have HI6 := Lib.hid (AI.out.below hb6))
    | (go_at_call 58; (refine (HSk.out _ (by exact HI6.out)).mono ?_); rintro e w7 ⟨rfl, hI7, hb7, ho7⟩))
   go_roundg q
   case measure => omega
   case rel => exact ⟨k + 1, an, by omega, by go_num, by have := AG.out; show _ = _; omega, HAA.out, hI7, (AK.out.below hb6).oth ho7 hpn (by decide), (AB.out.trans (hb6.mono AB0.out.size)).trans hb7, (AB0.out.trans (hb6.mono AB0.out.size)).trans hb7⟩
  ·obtain rfl : k = y.length := by omega
   have hA3 : aj = a3 := by have := AA.out; rw [List.drop_length] at this; simpa using this
   subst hA3
   have x5 := AK.out.cell 5
   simp only [List.getElem?_toArray, List.getElem?_cons_zero, List.getElem?_cons_succ] at x5
   go_wp2_with (first
    | (go_at_call 59; (refine (HVf.out _ (by exact AB0.out)).mono ?_); rintro e w6 ⟨rfl, hb6⟩; have HI6 := Lib.hid (AI.out.below hb6); have HB6 := Lib.hid (AB.out.trans (hb6.mono AB0.out.size)))
    | (go_at_call 58; (refine (HS4.out _ (by exact HI6.out)).mono ?_); rintro e w7 ⟨rfl, hI7, hb7, ho7⟩; have HI7 := Lib.hid hI7)
    | (go_at_call 57; (with_reducible refine (H41.out _ HI7.out).mono ?_); rintro e w8 ⟨rfl, hI8, hb8, _⟩))
   go_ret
   exact ⟨(HB6.out.trans hb7).trans hb8, hI8.cast HF.out.symm, _, rfl, HT.out⟩
open Go.RowKit
set_option maxRecDepth 100000 in
theorem put_kids_c (w0 : World) (hw : Env w0) (p : Fil.FilE) (t : List Fil.FilE) (v : Value) (w : World) (acc : List UInt8) (hv : FilsA w0 v (p :: t)) (hb : Below w0.heap.size w0 w) (hI : IsB w0.heap.size w0.heap.size acc w) (hl : Fil.wgt (p :: t) ≤ 1048576) (ha : acc.length + 4 * Fil.wgt (p :: t) ≤ 1000000000) (ho : p.op = 0 ∨ p.op = 1 ∨ p.op = 2) (hn : 0 ≤ p.n) (d : Nat) (r : List Fil.FilE) (hwh : Fil.times (Fil.wholeF d) p.n.toNat t = some r)
  (ih : ∀ (l r : List Fil.FilE) (v : Value) (w : World) (acc : List UInt8), Fil.wholeF d l = some r → FilsA w0 v l → Below w0.heap.size w0 w → IsB w0.heap.size w0.heap.size acc w → Fil.wgt l ≤ 1048576 → acc.length + 4 * Fil.wgt l ≤ 1000000000 → Calls Tryz.prog 25 #[.pointer (some ⟨w0.heap.size, 0, none⟩), v] w (PutRetF w0 w acc (Fil.putF d l))) :
  Calls Tryz.prog 25 #[.pointer (some ⟨w0.heap.size, 0, none⟩), v] w (PutRetF w0 w acc (40 :: Fil.opB p.op :: ((Fil.putsF (Fil.putF d) p.n.toNat t).1 ++ [41]), (Fil.putsF (Fil.putF d) p.n.toNat t).2)) := by
 obtain ⟨bb, oo, c, vy, vt, rfl, hc, ⟨c0, c1, c2, c3, c4, c5, c6⟩, hta, hsl, ht⟩ := hv.tail
 rw [Fil.wgt_cons] at hl ha
 have hW := fun (x : List UInt8) (W : World) (hW : Below w0.heap.size w0 W) (h : x.length ≤ 1048576) => written8_c x W (hw.keep hW) (by omega)
 have HWr := Lib.hid hW
 have hBp := hI.lt
 obtain ⟨Ay, cy, rfl, hyc, hy⟩ := hta.at
 obtain ⟨At, ct, rfl, hct⟩ := ht.isSlice
 have HT := Lib.hid ht
 obtain ⟨o, n, ty, va, i, f, y⟩ := p
 unfold filW at hl ha
 simp only at c0 c1 c2 c3 c4 c5 c6 hl ha hyc hy ho hn hwh
 have d0 := (hb.cell (cell_lt c0)).trans c0
 have d1 := (hb.cell (cell_lt c1)).trans c1
 have d2 := (hb.cell (cell_lt c2)).trans c2
 have d3 := (hb.cell (cell_lt c3)).trans c3
 have d4 := (hb.cell (cell_lt c4)).trans c4
 have d5 := (hb.cell (cell_lt c5)).trans c5
 have d6 := (hb.cell (cell_lt c6)).trans c6
 have hk1 := Bk.new w 34 #[.int .i64 o, .int .i64 n, .string ⟨ty.toArray⟩, .string ⟨va.toArray⟩, .string ⟨i.toArray⟩, .string ⟨f.toArray⟩, .slice Ay y.length cy]
 have hb1 := bel_f1 w (.cells #[.int .i64 o, .int .i64 n, .string ⟨ty.toArray⟩, .string ⟨va.toArray⟩, .string ⟨i.toArray⟩, .string ⟨f.toArray⟩, .slice Ay y.length cy] 34)
 have hI1 := hI.below hb1
 have hbb := hb.trans (hb1.mono hb.size)
 have hpn : w.heap.size ≠ w0.heap.size := by omega
 have hi1 : (0 : Int) < (t.length : Int) + 1 := by omega
 obtain ⟨a1, ha1⟩ : ∃ a1, acc ++ [40] = a1 := ⟨_, rfl⟩
 have ha1l : a1.length = acc.length + 1 := by rw [← ha1, List.length_append]; rfl
 have HB1 := Lib.hid hbb
 have HK1 := Lib.hid hk1
 have HI1 := Lib.hid hI1
 have hb10 : Below w0.heap.size w (w.alloc (.cells #[.int .i64 o, .int .i64 n, .string ⟨ty.toArray⟩, .string ⟨va.toArray⟩, .string ⟨i.toArray⟩, .string ⟨f.toArray⟩, .slice Ay y.length cy] 34)) := hb1.mono hb.size
 have HB10 := Lib.hid hb10
 have H40 : Hid (∀ W, IsB w0.heap.size w0.heap.size acc W → Calls Tryz.prog 57 #[.pointer (some ⟨w0.heap.size, 0, none⟩), .int .u8 40] W fun e w' => e = .returned .nilIface ∧ IsB w0.heap.size w0.heap.size a1 w' ∧ Below w0.heap.size W w' ∧ Oth w0.heap.size W w') := Lib.hid fun W hW => WriteByteN_c _ _ acc a1 40 ha1 W hW (by omega)
 clear c0 c1 c2 c3 c4 c5 c6 hv ht hb hI hW hk1 hb1 hI1 hbb hb10
 obtain ⟨n, rfl⟩ : ∃ N : Nat, n = N := ⟨n.toNat, by omega⟩
 rw [show (⟨o, (n : Int), ty, va, i, f, y⟩ : Fil.FilE).n.toNat = n from Int.toNat_natCast n, show (⟨o, (n : Int), ty, va, i, f, y⟩ : Fil.FilE).op = o from rfl]
 rw [Int.toNat_natCast] at hwh
 have hnt : n ≤ t.length := by have := (Fil.times_suf (Fil.whole_suf d) _ _ _ hwh).1; omega
 have htw := Fil.wgt_len t
 obtain ⟨a2, ha2⟩ : ∃ a2, a1 ++ [Fil.opB o] = a2 := ⟨_, rfl⟩
 have ha2l : a2.length = a1.length + 1 := by rw [← ha2, List.length_append]; rfl
 have hpw := Fil.puts_wgt (Fil.put_wgt d) n t
 obtain ⟨a3, ha3⟩ : ∃ a3, a2 ++ (Fil.putsF (Fil.putF d) n t).1 = a3 := ⟨_, rfl⟩
 have ha3l : a3.length = a2.length + (Fil.putsF (Fil.putF d) n t).1.length := by rw [← ha3, List.length_append]
 obtain ⟨a4, ha4⟩ : ∃ a4, a3 ++ [41] = a4 := ⟨_, rfl⟩
 obtain ⟨lN, hlN⟩ : ∃ lN, (Fil.putsF (Fil.putF d) n t).2 = lN := ⟨_, rfl⟩
 have hfin : acc ++ (40 :: Fil.opB o :: ((Fil.putsF (Fil.putF d) n t).1 ++ [41])) = a4 := by
  rw [← ha4, ← ha3, ← ha2, ← ha1]
  simp
 have HF := Lib.hid hfin
 have HA3 := Lib.hid ha3
 have HLN := Lib.hid hlN
 have HWH := Lib.hid hwh
 have IH := Lib.hid ih
 have H41 : Hid (∀ W, IsB w0.heap.size w0.heap.size a3 W → Calls Tryz.prog 57 #[.pointer (some ⟨w0.heap.size, 0, none⟩), .int .u8 41] W fun e w' => e = .returned .nilIface ∧ IsB w0.heap.size w0.heap.size a4 w' ∧ Below w0.heap.size W w' ∧ Oth w0.heap.size W w') := Lib.hid fun W hW => WriteByteN_c _ _ a3 a4 41 ha4 W hW (by omega)
 have HOP := Lib.hid (fun W hW => WriteByteN_c w0.heap.size w0.heap.size a1 a2 (Fil.opB o) ha2 W hW (by omega))
 have H2L := Lib.hid (show a2.length + 4 * Fil.wgt t ≤ 1000000000 by omega)
 have htw2 : Fil.wgt t ≤ 1048576 := by omega
 rw [hlN]
 clear hfin ha1 ha2 ha3 ha4 hlN hwh ih hpw ha3l
 have hget := ba_get
 rcases ho with rfl | rfl | rfl
 all_goals
  first
   | rw [show ((Fil.opB 0).toNat : Int) = 38 from rfl] at HOP
   | rw [show ((Fil.opB 1).toNat : Int) = 124 from rfl] at HOP
   | rw [show ((Fil.opB 2).toNat : Int) = 33 from rfl] at HOP
  go_enter Tryz.func25, Tryz.ntmps25
  go_wp2_with (first
   | (go_at_call 57; (with_reducible refine (HOP.out _ HI3.out).mono ?_); rintro e w7 ⟨rfl, hI7, hb7, ho7⟩; have HI7 := Lib.hid hI7; have hk7 := HK3.out.oth ho7 hpn (by decide); have x1 := hk7.cell 1; simp only [List.getElem?_toArray, List.getElem?_cons_zero, List.getElem?_cons_succ] at x1; have HB7 := Lib.hid (HBw3.out.trans hb7); have HB07 := Lib.hid (HB3.out.trans hb7))
   | (go_at_call 57; (with_reducible refine (H40.out _ HI1.out).mono ?_); rintro e w3 ⟨rfl, hI3, hb3, ho3⟩; have hk3 := HK1.out.oth ho3 hpn (by decide); have e0 := hk3.cell 0; have e1 := hk3.cell 1; have e2 := hk3.cell 2; have e3 := hk3.cell 3; have e4 := hk3.cell 4; have e5 := hk3.cell 5; have e6 := hk3.cell 6; simp only [List.getElem?_toArray, List.getElem?_cons_zero, List.getElem?_cons_succ] at e0 e1 e2 e3 e4 e5 e6; have HI3 := Lib.hid hI3; have HK3 := Lib.hid hk3; have HB3 := Lib.hid (HB1.out.trans hb3); have HBw3 := Lib.hid (HB10.out.trans hb3); clear hI3 hk3 ho3 hb3))
  go_loopg [1, 40] n (fun gk vj ix wr => ∃ (j : Nat) (lj : List Fil.FilE) (aj : List UInt8), ix = .int .i64 (j : Int) ∧ Aside (j + gk = n) ∧ Aside (FilsA w0 vj lj) ∧ Aside (Fil.times (Fil.wholeF d) gk lj = some r) ∧ Aside (aj ++ (Fil.putsF (Fil.putF d) gk lj).1 = a3) ∧ Aside ((Fil.putsF (Fil.putF d) gk lj).2 = lN) ∧ Aside (IsB w0.heap.size w0.heap.size aj wr) ∧ Aside (Fil.wgt lj ≤ 1048576) ∧ Aside (aj.length + 4 * Fil.wgt lj ≤ 1000000000) ∧ Aside (Below w0.heap.size w wr) ∧ Aside (Below w0.heap.size w0 wr))
  case atStart => exact ⟨0, t, a2, rfl, by show _ = _; omega, HT.out, HWH.out, HA3.out, HLN.out, HI7.out, htw2, H2L.out, HB7.out, HB07.out⟩
  case round =>
   clear HI3 HK3 HB3 HBw3 HI7 HB7 HB07 hk7 x1 hI7 hb7 ho7 HT HWH HA3 HLN e0 e1 e2 e3 e4 e5 e6
   obtain ⟨j, lj, aj, rfl, AG, AF, AT, AA, AL, AI, AW, AN, AB, AB0⟩ := hrel
   obtain ⟨Aj, cj, rfl, hcj⟩ := AF.out.isSlice
   cases gk with
   | zero =>
    have hj : j = n := AG.out
    subst hj
    have h3 : aj = a3 := by have := AA.out; simpa [Fil.putsF] using this
    have h4 : lj = lN := AL.out
    subst h3 h4
    go_wp2_with (go_at_call 57; (with_reducible refine (H41.out _ AI.out).mono ?_); rintro e w8 ⟨rfl, hI8, hb8, _⟩)
    go_ret
    exact ⟨AB.out.trans hb8, hI8.cast HF.out.symm, _, rfl, AF.out⟩
   | succ q =>
    have hji : (j : Int) < (n : Int) := by have := AG.out; omega
    obtain ⟨l2, hl2, ht2⟩ : ∃ l2, Fil.wholeF d lj = some l2 ∧ Fil.times (Fil.wholeF d) q l2 = some r := by
     have := AT.out
     rw [show Fil.times (Fil.wholeF d) (q + 1) lj = (Fil.wholeF d lj).bind (Fil.times (Fil.wholeF d) q) from rfl] at this
     cases hc : Fil.wholeF d lj with
     | none => rw [hc] at this; cases this
     | some l2 => rw [hc] at this; exact ⟨l2, rfl, this⟩
    obtain ⟨_, -, hp2, -⟩ := Fil.fil_back d lj l2 hl2
    have hpw := Fil.put_wgt d lj
    have hwg := Fil.whole_wgt hl2
    have HC := Lib.hid (IH.out lj l2 (.slice Aj lj.length cj) wr aj hl2 AF.out AB0.out AI.out AW.out AN.out)
    have hA2 : (aj ++ (Fil.putF d lj).1) ++ (Fil.putsF (Fil.putF d) q (Fil.putF d lj).2).1 = a3 := by rw [List.append_assoc]; exact AA.out
    have hL2 : (Fil.putsF (Fil.putF d) q (Fil.putF d lj).2).2 = lN := AL.out
    rw [hp2] at hA2 hL2 hpw
    have HA2 := Lib.hid hA2
    have HL2 := Lib.hid hL2
    have HT2 := Lib.hid ht2
    have HN2 := Lib.hid (show (aj ++ (Fil.putF d lj).1).length + 4 * Fil.wgt l2 ≤ 1000000000 by rw [List.length_append]; have := AN.out; omega)
    have HW2 := Lib.hid (show Fil.wgt l2 ≤ 1048576 by have := AW.out; omega)
    have HP2 := Lib.hid hp2
    clear hA2 hL2 ht2 hl2 hpw hwg hp2
    go_wp2_with (go_at_call 25; (with_reducible refine HC.out.mono ?_); rintro e w2 ⟨hb2, hI2, v2, rfl, hf2⟩)
    go_roundg q
    case measure => omega
    case rel => exact ⟨j + 1, l2, _, by go_num, by have := AG.out; show _ = _; omega, HP2.out ▸ hf2, HT2.out, HA2.out, HL2.out, hI2, HW2.out, HN2.out, AB.out.trans hb2, AB0.out.trans hb2⟩
set_option maxRecDepth 100000 in
theorem fPut_c (w0 : World) (hw : Env w0) : ∀ (d : Nat) (l r : List Fil.FilE) (v : Value) (w : World) (acc : List UInt8), Fil.wholeF d l = some r → FilsA w0 v l → Below w0.heap.size w0 w → IsB w0.heap.size w0.heap.size acc w → Fil.wgt l ≤ 1048576 → acc.length + 4 * Fil.wgt l ≤ 1000000000 → Calls Tryz.prog 25 #[.pointer (some ⟨w0.heap.size, 0, none⟩), v] w (PutRetF w0 w acc (Fil.putF d l))
 | 0, l, r, v, w, acc, h, _, _, _, _, _ => by cases h
 | d + 1, [], r, v, w, acc, h, _, _, _, _, _ => by cases h
 | d + 1, p :: t, r, v, w, acc, h, hv, hb, hI, hl, ha => by
  have hs : Fil.shapeB p = true := by
   unfold Fil.wholeF at h
   split at h
   ·next hs => exact hs
   ·cases h
  have hn := shape_n hs
  rw [Fil.wholeF, if_pos hs] at h
  rw [Fil.putF]
  by_cases h0 : p.op = 0 ∨ p.op = 1 ∨ p.op = 2
  ·rw [if_pos h0]
   exact put_kids_c w0 hw p t v w acc hv hb hI hl ha h0 hn d r h (fPut_c w0 hw d)
  ·rw [if_neg h0]
   by_cases h1 : p.op < 0 ∨ 8 < p.op
   ·rw [Fil.shape_no p h1] at hs; cases hs
   by_cases h7 : p.op = 7
   ·exact put_pres_c w0 hw p t v w acc hv hb hI hl ha h7
   by_cases h4 : p.op = 4
   ·exact put_sub_c w0 hw p t v w acc hv hb hI hl ha h4
   ·exact put_val_c w0 hw p t v w acc hv hb hI hl ha (by omega)
theorem fText_c (l r : List Fil.FilE) (v : Value) (w : World) (hw : Env w) (hv : FilsA w v l) (hl : Fil.wgt l ≤ 1048576) (h : Fil.wholeF 20 l = some r) :
  Calls Tryz.prog 13 #[v] w fun e w' => e = .returned (.string ⟨(Fil.textF l).toArray⟩) ∧ Below w.heap.size w w' := by
 have hP := fPut_c w hw 20 l r v (w.alloc (.cells #[.pointer none, .slice none 0 0] 68)) [] h hv ((Below.refl _ _).alloc (Nat.le_refl _) _) (IsB.new w) hl (by rw [List.length_nil]; omega)
 have hb0 : Below w.heap.size w (w.alloc (.cells #[.pointer none, .slice none 0 0] 68)) := (Below.refl _ _).alloc (Nat.le_refl _) _
 rw [show Fil.textF l = (Fil.putF 20 l).1 from rfl]
 have HP := Lib.hid hP
 have HB0 := Lib.hid hb0
 obtain ⟨A, c, rfl, hc⟩ := hv.isSlice
 generalize Fil.putF 20 l = X at *
 clear hP hb0 hv h
 go_enter Tryz.func13, Tryz.ntmps13
 go_wp2_with (first
  | (go_at_call 25; (with_reducible refine HP.out.mono ?_); rintro e w2 ⟨hb2, hI2, v2, rfl, hf2⟩; obtain ⟨A2, c2, rfl, hc2⟩ := hf2.isSlice; have HI2 := Lib.hid hI2)
  | (go_at_call 26; (refine (BString_c w.heap.size w.heap.size _ w2 HI2.out).mono ?_); rintro e w3 ⟨rfl, _, hb3⟩))
 go_ret
 exact ⟨by simp, (HB0.out.trans hb2).trans hb3⟩
theorem fPrint_c (l : List Fil.FilE) (v : Value) (w : World) (hw : Env w) (hv : FilsA w v l) (hl : Fil.wgt l ≤ 1048576) (hn : NFit l) :
  Calls Tryz.prog 6 #[v] w fun e w' => e = .returned (.tuple #[.string ⟨(Fil.printF l).1.toArray⟩, .int .i64 (Fil.printF l).2]) ∧ Below w.heap.size w w' := by
 have hV := fValid_c l v w hw hv (by omega) hn
 have HV := Lib.hid hV
 obtain ⟨A, c, rfl, hc⟩ := hv.isSlice
 clear hV
 cases hb : Fil.validF l with
 | false =>
  have hR : Fil.printF l = ([], 60) := by unfold Fil.printF; rw [hb]; rfl
  rw [hR]
  rw [hb] at HV
  clear hR hb hv
  go_enter Tryz.func6, Tryz.ntmps6
  go_wp2_with (go_at_call 9; (with_reducible refine HV.out.mono ?_); rintro e w2 ⟨rfl, hb2⟩)
  go_ret2
  exact ⟨rfl, hb2⟩
 | true =>
  have hR : Fil.printF l = if 65536 < (Fil.textF l).length then ([], 2) else (Fil.textF l, 0) := by unfold Fil.printF; rw [hb]; rfl
  rw [hb] at HV
  have hwh : Fil.wholeF 20 l = some [] := by
   unfold Fil.validF at hb
   simp only [Bool.and_eq_true, beq_iff_eq] at hb
   exact hb.2
  have hT := fun (W : World) (hb : Below w.heap.size w W) => fText_c l [] (.slice A l.length c) W (hw.keep hb) (hv.below hb) hl hwh
  have HT := Lib.hid hT
  clear hb hv hwh hT
  rw [hR]
  clear hR
  generalize Fil.textF l = X at *
  by_cases hX : 65536 < X.length
  ·have hXi : ((X.length : Int) > 65536) := by omega
   rw [if_pos hX]
   go_enter Tryz.func6, Tryz.ntmps6
   go_wp2_with (first
    | (go_at_call 9; (with_reducible refine HV.out.mono ?_); rintro e w2 ⟨rfl, hb2⟩)
    | (go_at_call 13; (refine (HT.out _ hb2).mono ?_); rintro e w3 ⟨rfl, hb3⟩))
   go_ret2
   exact ⟨rfl, hb2.trans (hb3.mono hb2.size)⟩
  ·have hXi : ¬ ((X.length : Int) > 65536) := by omega
   rw [if_neg hX]
   go_enter Tryz.func6, Tryz.ntmps6
   go_wp2_with (first
    | (go_at_call 9; (with_reducible refine HV.out.mono ?_); rintro e w2 ⟨rfl, hb2⟩)
    | (go_at_call 13; (refine (HT.out _ hb2).mono ?_); rintro e w3 ⟨rfl, hb3⟩))
   go_ret2
   exact ⟨rfl, hb2.trans (hb3.mono hb2.size)⟩
end Go.Proofs.YtconnibnpckadaaGreatDoor
