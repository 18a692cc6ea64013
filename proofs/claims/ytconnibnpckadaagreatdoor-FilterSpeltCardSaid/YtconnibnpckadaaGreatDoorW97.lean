import Derived.Test.YtconnibnpckadaaGreatDoorW96
set_option linter.all false
set_option maxHeartbeats 8000000
set_option maxRecDepth 100000
namespace Go.Proofs.YtconnibnpckadaaGreatDoor
open Go.RowKit
theorem slice_u8 (s : List UInt8) (i j : Nat) (W : World) (h1 : i ≤ j) (h2 : j ≤ s.length) : (Instr.slice 9 (.string ⟨s.toArray⟩) (some (.int .u8 (i : Int))) (some (.int .u8 (j : Int))) none).run Tryz.prog W = .ok (.string ⟨((s.drop i).take (j - i)).toArray⟩) W := by
 have := run_slice_string (P := Tryz.prog) W 9 ⟨s.toArray⟩ .u8 .u8 (i : Int) (j : Int) Tryz.underlying9 (by omega) (by omega) (by simp [ByteArray.size]; omega)
 rw [this]
 simp only [Int.toNat_natCast]
 rw [ba_ext]
 rfl
theorem digS_at (a : Nat) (ha : a < 16) (W : World) : (Instr.slice 9 (.string ⟨#[48, 49, 50, 51, 52, 53, 54, 55, 56, 57, 97, 98, 99, 100, 101, 102]⟩) (some (.int .u8 (a : Int))) (some (.int .u8 ((a : Int) + 1))) none).run Tryz.prog W = .ok (.string ⟨#[Fil.digS a]⟩) W := by
 have h := slice_u8 [48, 49, 50, 51, 52, 53, 54, 55, 56, 57, 97, 98, 99, 100, 101, 102] a (a + 1) W (by omega) (by simp; omega)
 rw [show ((a + 1 : Nat) : Int) = (a : Int) + 1 by omega, show a + 1 - a = 1 by omega] at h
 refine h.trans ?_
 have : ∀ b : Fin 16, ([48, 49, 50, 51, 52, 53, 54, 55, 56, 57, 97, 98, 99, 100, 101, 102].drop b.val).take 1 = [Fil.digS b.val] := by decide
 rw [this ⟨a, ha⟩]
theorem digG_at (a : Nat) (ha : a < 16) (W : World) : (Instr.slice 9 (.string ⟨#[48, 49, 50, 51, 52, 53, 54, 55, 56, 57, 65, 66, 67, 68, 69, 70]⟩) (some (.int .u8 (a : Int))) (some (.int .u8 ((a : Int) + 1))) none).run Tryz.prog W = .ok (.string ⟨#[Fil.digG a]⟩) W := by
 have h := slice_u8 [48, 49, 50, 51, 52, 53, 54, 55, 56, 57, 65, 66, 67, 68, 69, 70] a (a + 1) W (by omega) (by simp; omega)
 rw [show ((a + 1 : Nat) : Int) = (a : Int) + 1 by omega, show a + 1 - a = 1 by omega] at h
 refine h.trans ?_
 have : ∀ b : Fin 16, ([48, 49, 50, 51, 52, 53, 54, 55, 56, 57, 65, 66, 67, 68, 69, 70].drop b.val).take 1 = [Fil.digG b.val] := by decide
 rw [this ⟨a, ha⟩]
theorem spelt_snoc (d : UInt8 → UInt8 × UInt8) (v : List UInt8) (k : Nat) (hk : k < v.length) : Fil.speltB d (v.take (k + 1)) = Fil.speltB d (v.take k) ++ [92, (d v[k]).1, (d v[k]).2] := by
 unfold Fil.speltB
 rw [List.take_succ_eq_append_getElem hk, List.flatMap_append]
 simp
set_option maxRecDepth 100000 in
theorem spelt_c (v : List UInt8) (w : World) (hw : Env w) :
  Calls Tryz.prog 4 #[.string ⟨v.toArray⟩] w fun e w' => e = .returned (.bool true) ∧ Below w.heap.size w w' := by
 have HAl := Lib.hid (fun (W : World) (hW : Env W) => alive8_c W hW)
 by_cases h3 : 3000 < v.length
 ·have h1 : (v.length : Int) > 3000 := by omega
  go_enter Tryz.func4, Tryz.ntmps4
  go_wp2_with (go_at_call 5; (refine (HAl.out _ hw).mono ?_); rintro e w9 ⟨rfl, hb⟩)
  go_ret
  exact ⟨rfl, hb⟩
 have h1 : ¬ (v.length : Int) > 3000 := by omega
 have hget := ba_get
 go_enter Tryz.func4, Tryz.ntmps4
 go_wp2_with fail
 go_loopg [3, 4, 5] v.length (fun gk s t i wr => ∃ (k : Nat) (sl tl : List UInt8), k ≤ v.length ∧ s = .string ⟨sl.toArray⟩ ∧ t = .string ⟨tl.toArray⟩ ∧ i = .int .i64 (k : Int) ∧ Aside (k + gk = v.length) ∧ Aside (sl = 40 :: 99 :: 110 :: 61 :: Fil.speltB Fil.twoS (v.take k)) ∧ Aside (tl = 40 :: 99 :: 110 :: 61 :: Fil.speltB Fil.twoG (v.take k)) ∧ Below w.heap.size w wr)
 case atStart => exact ⟨0, [40, 99, 110, 61], [40, 99, 110, 61], by omega, rfl, rfl, rfl, by show _ = _; omega, rfl, rfl, Below.refl _ _⟩
 case round =>
  obtain ⟨k, sl, tl, hk, rfl, rfl, rfl, AG, AS, AT, hB⟩ := hrel
  by_cases hlt : k < v.length
  ·have hki : (k : Int) < (v.length : Int) := by omega
   have hk0 : (0 : Int) ≤ (k : Int) := by omega
   obtain ⟨q, rfl⟩ : ∃ q, gk = q + 1 := ⟨gk - 1, by have := AG.out; omega⟩
   have hx := UInt8.toNat_lt v[k]
   obtain ⟨a, ha⟩ : ∃ a, v[k].toNat / 16 = a := ⟨_, rfl⟩
   obtain ⟨b, hb⟩ : ∃ b, v[k].toNat % 16 = b := ⟨_, rfl⟩
   have ha16 : a < 16 := by omega
   have hb16 : b < 16 := by omega
   have hai : (v[k].toNat : Int) / 16 = (a : Int) := by omega
   have hbi : (v[k].toNat : Int) % 16 = (b : Int) := by omega
   have hlS := spelt_snoc Fil.twoS v k hlt
   have hlG := spelt_snoc Fil.twoG v k hlt
   have hlen1 : sl.length ≤ 10000 := by rw [AS.out]; simp only [List.length_cons, Fil.spelt_len, List.length_take]; omega
   have hlen2 : tl.length ≤ 10000 := by rw [AT.out]; simp only [List.length_cons, Fil.spelt_len, List.length_take]; omega
   simp only [Fil.twoS, Fil.twoG, ha, hb] at hlS hlG
   have hs1 := fun W => digS_at a ha16 W
   have hs2 := fun W => digS_at b hb16 W
   have hs3 := fun W => digG_at a ha16 W
   have hs4 := fun W => digG_at b hb16 W
   generalize Fil.digS a = p1 at *
   generalize Fil.digS b = p2 at *
   generalize Fil.digG a = p3 at *
   generalize Fil.digG b = p4 at *
   have hwa : ((a : Int) + 1) % 256 = (a : Int) + 1 := by omega
   have hwb : ((b : Int) + 1) % 256 = (b : Int) + 1 := by omega
   have hc1 : ∀ W : World, (Op.stringOp .add ⟨#[92]⟩ ⟨#[p1]⟩).run Tryz.prog W = .ok (.string ⟨#[92, p1]⟩) W := fun W => run_string_add_lists W [92] [p1] (by simp) (by simp)
   have hc2 : ∀ W : World, (Op.stringOp .add ⟨#[92, p1]⟩ ⟨#[p2]⟩).run Tryz.prog W = .ok (.string ⟨#[92, p1, p2]⟩) W := fun W => run_string_add_lists W [92, p1] [p2] (by simp) (by simp)
   have hc3 : ∀ W : World, (Op.stringOp .add ⟨#[92]⟩ ⟨#[p3]⟩).run Tryz.prog W = .ok (.string ⟨#[92, p3]⟩) W := fun W => run_string_add_lists W [92] [p3] (by simp) (by simp)
   have hc4 : ∀ W : World, (Op.stringOp .add ⟨#[92, p3]⟩ ⟨#[p4]⟩).run Tryz.prog W = .ok (.string ⟨#[92, p3, p4]⟩) W := fun W => run_string_add_lists W [92, p3] [p4] (by simp) (by simp)
   obtain ⟨sn, hsn⟩ : ∃ sn, sl ++ [92, p1, p2] = sn := ⟨_, rfl⟩
   obtain ⟨tn, htn⟩ : ∃ tn, tl ++ [92, p3, p4] = tn := ⟨_, rfl⟩
   have hc5 : ∀ W : World, (Op.stringOp .add ⟨sl.toArray⟩ ⟨#[92, p1, p2]⟩).run Tryz.prog W = .ok (.string ⟨sn.toArray⟩) W := fun W => by rw [← hsn]; exact run_string_add_lists W sl [92, p1, p2] (by omega) (by simp)
   have hc6 : ∀ W : World, (Op.stringOp .add ⟨tl.toArray⟩ ⟨#[92, p3, p4]⟩).run Tryz.prog W = .ok (.string ⟨tn.toArray⟩) W := fun W => by rw [← htn]; exact run_string_add_lists W tl [92, p3, p4] (by omega) (by simp)
   have HSN : Hid (sn = 40 :: 99 :: 110 :: 61 :: Fil.speltB Fil.twoS (v.take (k + 1))) := Lib.hid (by rw [hlS, ← hsn, AS.out]; simp)
   have HTN : Hid (tn = 40 :: 99 :: 110 :: 61 :: Fil.speltB Fil.twoG (v.take (k + 1))) := Lib.hid (by rw [hlG, ← htn, AT.out]; simp)
   clear hlS hlG hsn htn ha hb AS AT
   go_wp2_with fail
   go_quiet (fail)
   try rw [hai]
   try rw [hbi]
   clear hai hbi hx
   go_wp2_with fail
   go_quiet (fail)
   go_wp2_with fail
   go_quiet (fail)
   go_wp2_with fail
   go_roundg q
   case measure => omega
   case rel => exact ⟨k + 1, sn, tn, by omega, rfl, rfl, by go_num, by have := AG.out; show _ = _; omega, HSN.out, HTN.out, below_drewN hB _⟩
  ·obtain rfl : k = v.length := by omega
   have hS := AS.out
   have hT := AT.out
   rw [List.take_length] at hS hT
   obtain ⟨s1, hs1⟩ : ∃ s1, sl ++ [41] = s1 := ⟨_, rfl⟩
   obtain ⟨t1, ht1⟩ : ∃ t1, tl ++ [41] = t1 := ⟨_, rfl⟩
   have hlen1 : sl.length ≤ 10000 := by rw [hS]; simp only [List.length_cons, Fil.spelt_len]; omega
   have hlen2 : tl.length ≤ 10000 := by rw [hT]; simp only [List.length_cons, Fil.spelt_len]; omega
   have hc5 : ∀ W : World, (Op.stringOp .add ⟨sl.toArray⟩ ⟨#[41]⟩).run Tryz.prog W = .ok (.string ⟨s1.toArray⟩) W := fun W => by rw [← hs1]; exact run_string_add_lists W sl [41] (by omega) (by simp)
   have hc6 : ∀ W : World, (Op.stringOp .add ⟨tl.toArray⟩ ⟨#[41]⟩).run Tryz.prog W = .ok (.string ⟨t1.toArray⟩) W := fun W => by rw [← ht1]; exact run_string_add_lists W tl [41] (by omega) (by simp)
   have HP1 : Hid (∀ (W : World), Env W → Calls Tryz.prog 7 #[.string ⟨s1.toArray⟩] W fun e w' => Below W.heap.size W w' ∧ ∃ x, e = .returned (.tuple #[x, .int .i64 0]) ∧ FilsA w' x [⟨3, 0, [99, 110], v, [], [], []⟩]) := Lib.hid fun W hW => by
    have := fParse_c s1 W hW
    rw [← hs1, hS, List.cons_append, List.cons_append, List.cons_append, List.cons_append, Fil.spelt_law Fil.twoS Fil.twoS_read v (by omega)] at this
    rw [← hs1, hS]
    exact this
   have HP2 : Hid (∀ (W : World), Env W → Calls Tryz.prog 7 #[.string ⟨t1.toArray⟩] W fun e w' => Below W.heap.size W w' ∧ ∃ x, e = .returned (.tuple #[x, .int .i64 0]) ∧ FilsA w' x [⟨3, 0, [99, 110], v, [], [], []⟩]) := Lib.hid fun W hW => by
    have := fParse_c t1 W hW
    rw [← ht1, hT, List.cons_append, List.cons_append, List.cons_append, List.cons_append, Fil.spelt_law Fil.twoG Fil.twoG_read v (by omega)] at this
    rw [← ht1, hT]
    exact this
   have HSF := Lib.hid (fun (W : World) (v1 v2 : Value) (h1 : FilsA W v1 [⟨3, 0, [99, 110], v, [], [], []⟩]) (h2 : FilsA W v2 [⟨3, 0, [99, 110], v, [], [], []⟩]) => sameF_c (by simp [Fil.wgt, filW]; omega) v1 v2 W h1 h2)
   have HB := Lib.hid hB
   have hne : s1 ≠ t1 ∨ s1 = t1 := by by_cases h : s1 = t1; exact .inr h; exact .inl h
   clear hS hT hs1 ht1 AS AT AG hne hget
   go_wp2_with (first
    | (go_at_call 7; (with_reducible refine (HP1.out _ (by exact hw.keep HB.out)).mono ?_); rintro e w4 ⟨hb, v4, rfl, hg4⟩; obtain ⟨A4, c4, rfl, _⟩ := hg4.isSlice; have HG4 := Lib.hid hg4; clear hg4; have HB := Lib.hid (HB.out.trans (hb.mono HB.out.size)); have HC : Hid (Below w4.heap.size w4 w4) := Lib.hid (Below.refl _ _))
    | (go_at_call 7; (with_reducible refine (HP2.out _ (by exact hw.keep HB.out)).mono ?_); rintro e w6 ⟨hb, v6, rfl, hg6⟩; obtain ⟨A6, c6, rfl, _⟩ := hg6.isSlice; have HG6 := Lib.hid hg6; clear hg6; have HB := Lib.hid (HB.out.trans (hb.mono HB.out.size)); have HC := Lib.hid (HC.out.trans (hb.mono HC.out.size)); have HD : Hid (Below w6.heap.size w6 w6) := Lib.hid (Below.refl _ _))
    | (go_at_call 5; (with_reducible refine (HAl.out _ (by exact hw.keep HB.out)).mono ?_); rintro e w9 ⟨rfl, hb⟩; have HB := Lib.hid (HB.out.trans (hb.mono HB.out.size)); have HC := Lib.hid (HC.out.trans (hb.mono HC.out.size)); have HD := Lib.hid (HD.out.trans (hb.mono HD.out.size)); have HX := Lib.hid (fils_one (p := ⟨3, 0, [99, 110], v, [], [], []⟩) rfl (Bk.new w9 34 (fqCells (⟨3, 0, [99, 110], v, [], [], []⟩, .slice none 0 0)).toArray)); have hb := bel_f1 w9 (.cells (fqCells (⟨3, 0, [99, 110], v, [], [], []⟩, .slice none 0 0)).toArray 34); have HB := Lib.hid (HB.out.trans (hb.mono HB.out.size)); have HC := Lib.hid (HC.out.trans (hb.mono HC.out.size)); have HD := Lib.hid (HD.out.trans (hb.mono HD.out.size)))
    | (go_at_call 8; (refine (HSF.out _ _ _ (by exact HG4.out.below HC.out) (by exact HX.out)).mono ?_); rintro e w7 ⟨rfl, hb⟩; have HB := Lib.hid (HB.out.trans (hb.mono HB.out.size)); have HC := Lib.hid (HC.out.trans (hb.mono HC.out.size)); have HD := Lib.hid (HD.out.trans (hb.mono HD.out.size)))
    | (go_at_call 8; (refine (HSF.out _ _ _ (by exact HG4.out.below HC.out) (by exact HG6.out.below HD.out)).mono ?_); rintro e w8 ⟨rfl, hb⟩; have HB := Lib.hid (HB.out.trans (hb.mono HB.out.size)))
    | fail)
   go_ret
   exact ⟨rfl, HB.out⟩
end Go.Proofs.YtconnibnpckadaaGreatDoor
