import Derived.Test.YtkkbbhlihilnpaaGreatDoorWk5
import Derived.Test.YtkkbbhlihilnpaaGreatDoorWk3
set_option linter.all false
set_option maxHeartbeats 8000000
set_option maxRecDepth 100000
namespace Go.Proofs.YtkkbbhlihilnpaaGreatDoor
open Go.RowKit
def MayRet (w0 w : World) (x : Bool) (r : List Key.PlanE) (e : Ending) (w' : World) : Prop := Below w.heap.size w w' ∧ ∃ v, e = .returned (.tuple #[.bool x, v]) ∧ PlanS w0 v r
theorem Key.steps_succ {l : List (List UInt8)} {f j : Nat} {t tk : List Key.PlanE} (h : Key.times (Key.rest f) j t = some tk) (a b : Bool) : (Key.steps (Key.eval l f) a (j + 1) (b, t)).1 = if a then (Key.steps (Key.eval l f) a j (b, t)).1 && (Key.eval l f tk).1 else (Key.steps (Key.eval l f) a j (b, t)).1 || (Key.eval l f tk).1 := by
 have := Key.steps_rest (l := l) h a b
 rw [Key.steps, Key.step, this]
set_option maxRecDepth 100000 in
theorem may14_c (w0 : World) (m : Nat) (xs : List (List UInt8)) (hm : SetT w0 m xs) : ∀ (f : Nat) (p r : List Key.PlanE) (v : Value) (w : World), Key.rest f p = some r → p.length ≤ 1000 → Below w0.heap.size w0 w → PlanS w0 v p →
  Calls Tryz.prog 32 #[v, .map (some m)] w (MayRet w0 w (Key.eval xs f p).1 r) := by
 intro f
 have HM := Lib.hid hm
 clear hm
 induction f with
 | zero => intro p r v w hr; cases hr
 | succ f ih =>
  intro p r v w hr hl hb hp
  cases p with
  | nil => cases hr
  | cons x t =>
   simp only [List.length_cons] at hl
   obtain ⟨b, o, c, vt, rfl, ⟨c0, c1, c2⟩, hsl, ht⟩ := hp.tail
   clear hp
   have d0 := (hb.cell (cell_lt c0)).trans c0
   have d1 := (hb.cell (cell_lt c1)).trans c1
   have d2 := (hb.cell (cell_lt c2)).trans c2
   rw [Key.rest] at hr
   split at hr
   case isFalse => cases hr
   case isTrue ho =>
   obtain ⟨o1, o2, o3, o4, o5⟩ := ho
   obtain ⟨R, hR⟩ : ∃ R, (Key.eval xs (f + 1) (x :: t)).1 = R := ⟨_, rfl⟩
   rw [hR]
   rw [Key.eval] at hR
   have HR := Lib.hid hR
   have HE := Lib.hid hr
   have IH := Lib.hid ih
   clear c0 c1 c2 hR ih hr
   obtain ⟨At, ct, rfl, hct⟩ := ht.isSlice
   have HT := Lib.hid ht
   obtain ⟨op, n, key⟩ := x
   simp only at d0 d1 d2 HR HE o1 o2 o3 o4 o5
   obtain ⟨N, rfl⟩ : ∃ N : Nat, n = N := ⟨n.toNat, by omega⟩
   rw [Int.toNat_natCast] at HE HR
   have hba := bel_one w (.cells #[.int .i64 op, .int .i64 (N : Int), .string ⟨key.toArray⟩] 26)
   have hk := Bk.new w 26 #[.int .i64 op, .int .i64 (N : Int), .string ⟨key.toArray⟩]
   have m0 := hk.cell 0
   have m1 := hk.cell 1
   have m2 := hk.cell 2
   simp only [List.getElem?_toArray, List.getElem?_cons_zero, List.getElem?_cons_succ] at m0 m1 m2
   have hbW := hb.trans (hba.mono hb.size)
   have hs1 := HM.out.below hbW
   have hask := setT_ask hs1 key
   clear ht hk hs1
   have hz : op ≠ 3 → op ≠ 4 → r = t := fun h3 h4 => by
    have h0 : N = 0 := by have := o4 h3 h4; omega
    have := HE.out
    rw [h0] at this
    exact (Option.some.inj this).symm
   have hcs : op = 0 ∨ op = 1 ∨ op = 2 ∨ op = 3 ∨ op = 4 := by omega
   have HK := Lib.hid o5
   clear o4 o5
   rcases hcs with rfl | rfl | rfl | rfl | rfl
   ·obtain rfl := hz (by decide) (by decide)
    have hR2 : R = true := HR.out.symm
    subst hR2
    clear HR HE IH
    go_enter Tryz.func32, Tryz.ntmps32
    go_wp2_with fail
    go_ret2
    exact ⟨hba, _, rfl, HT.out⟩
   ·obtain rfl := hz (by decide) (by decide)
    have hR2 : R = false := HR.out.symm
    subst hR2
    clear HR HE IH
    go_enter Tryz.func32, Tryz.ntmps32
    go_wp2_with fail
    go_ret2
    exact ⟨hba, _, rfl, HT.out⟩
   ·obtain rfl := hz (by decide) (by decide)
    have hR2 : R = xs.contains key := by rw [← HR.out, if_neg (by decide), if_pos rfl, Bool.eq_iff_iff, decide_eq_true_iff, List.contains_iff_mem]
    subst hR2
    clear HR HE IH
    have hbx := bel_one (w.alloc (.cells #[.int .i64 2, .int .i64 (N : Int), .string ⟨key.toArray⟩] 26)) (.cells #[] 72)
    have hb3 := hba.trans (hbx.mono hba.size)
    go_enter Tryz.func32, Tryz.ntmps32
    go_wp2_with fail
    go_ret2
    exact ⟨hb3, _, rfl, HT.out⟩
   ·have hR2 : R = (Key.steps (Key.eval xs f) true N (true, t)).1 := by rw [← HR.out, if_neg (by decide), if_neg (by decide), if_pos rfl]
    have HR2 := Lib.hid hR2
    have hkey : key = [] := HK.out (by decide)
    subst hkey
    have hN : N ≤ t.length := by have := Key.times_len (Key.rest_len f) _ _ _ HE.out; omega
    clear HR hR2 hz hask HK
    go_enter Tryz.func32, Tryz.ntmps32
    go_wp2_with fail
    go_loopg [0, 9, 40] N (fun gk v out i wr => ∃ (j : Nat) (tk : List Key.PlanE) (ob : Bool), j ≤ N ∧ i = .int .i64 (j : Int) ∧ out = .bool ob ∧ Aside (j + gk = N) ∧ Aside (PlanS w0 v tk) ∧ Aside (Key.times (Key.rest f) j t = some tk) ∧ Aside (ob = (Key.steps (Key.eval xs f) true j (true, t)).1) ∧ Aside (Below w.heap.size w wr ∧ wr.cell? ⟨w.heap.size, 0, none⟩ = some (.int .i64 3)))
    case atStart => exact ⟨0, t, true, by omega, rfl, rfl, by show _ = _; omega, HT.out, rfl, rfl, hba, m0⟩
    case round =>
     clear hba m0 m1 m2 hsl hbW
     obtain ⟨j, tk, ob, hjN, rfl, rfl, AG, AP, AT, AO, AB⟩ := hrel
     have x0 := AB.out.2
     obtain ⟨Ak, ck, rfl, hck⟩ := AP.out.isSlice
     by_cases hlt : j < N
     ·obtain ⟨q, rfl⟩ : ∃ q, gk = q + 1 := ⟨gk - 1, by have := AG.out; omega⟩
      obtain ⟨tk', r2, ht1, ht2⟩ := Key.times_at HE.out hlt
      have htt : tk' = tk := Option.some.inj (ht1.symm.trans AT.out)
      subst htt
      have htl := Key.times_len (Key.rest_len f) _ _ _ ht1
      have HC := Lib.hid (IH.out tk' r2 (.slice Ak tk'.length ck) wr ht2 (by omega) (hb.trans (AB.out.1.mono hb.size)) AP.out)
      have AT2 := Lib.hid (Key.times_step ht1 ht2)
      have hst := Key.steps_succ (l := xs) ht1 true true
      rw [← AO.out] at hst
      have HST := Lib.hid hst
      clear hst ht1 ht2
      generalize (Key.eval xs f tk').1 = is at *
      have hji : (j : Int) < (N : Int) := by omega
      cases ob
      all_goals
       go_wp2_with (go_at_call 32; (with_reducible refine HC.out.mono ?_); rintro e w2 ⟨hb2, v2, rfl, hp2⟩; have x2 := (hb2.cell (cell_lt x0)).trans x0)
       go_roundg q
       case measure => omega
       case rel => exact ⟨j + 1, r2, _, by omega, by go_num, rfl, by have := AG.out; show _ = _; omega, hp2, AT2.out, HST.out.symm, AB.out.1.trans (hb2.mono AB.out.1.size), x2⟩
     ·obtain rfl : j = N := by omega
      have hre : r = tk := Option.some.inj (HE.out.symm.trans AT.out)
      subst hre
      have hRo : R = ob := HR2.out.trans AO.out.symm
      subst hRo
      go_wp2_with fail
      go_ret2
      exact ⟨AB.out.1, _, rfl, AP.out⟩
   ·have hR2 : R = (Key.steps (Key.eval xs f) false N (false, t)).1 := by rw [← HR.out, if_neg (by decide), if_neg (by decide), if_neg (by decide), if_pos rfl]
    have HR2 := Lib.hid hR2
    have hkey : key = [] := HK.out (by decide)
    subst hkey
    have hN : N ≤ t.length := by have := Key.times_len (Key.rest_len f) _ _ _ HE.out; omega
    clear HR hR2 hz hask HK
    go_enter Tryz.func32, Tryz.ntmps32
    go_wp2_with fail
    go_loopg [0, 9, 40] N (fun gk v out i wr => ∃ (j : Nat) (tk : List Key.PlanE) (ob : Bool), j ≤ N ∧ i = .int .i64 (j : Int) ∧ out = .bool ob ∧ Aside (j + gk = N) ∧ Aside (PlanS w0 v tk) ∧ Aside (Key.times (Key.rest f) j t = some tk) ∧ Aside (ob = (Key.steps (Key.eval xs f) false j (false, t)).1) ∧ Aside (Below w.heap.size w wr ∧ wr.cell? ⟨w.heap.size, 0, none⟩ = some (.int .i64 4)))
    case atStart => exact ⟨0, t, false, by omega, rfl, rfl, by show _ = _; omega, HT.out, rfl, rfl, hba, m0⟩
    case round =>
     clear hba m0 m1 m2 hsl hbW
     obtain ⟨j, tk, ob, hjN, rfl, rfl, AG, AP, AT, AO, AB⟩ := hrel
     have x0 := AB.out.2
     obtain ⟨Ak, ck, rfl, hck⟩ := AP.out.isSlice
     by_cases hlt : j < N
     ·obtain ⟨q, rfl⟩ : ∃ q, gk = q + 1 := ⟨gk - 1, by have := AG.out; omega⟩
      obtain ⟨tk', r2, ht1, ht2⟩ := Key.times_at HE.out hlt
      have htt : tk' = tk := Option.some.inj (ht1.symm.trans AT.out)
      subst htt
      have htl := Key.times_len (Key.rest_len f) _ _ _ ht1
      have HC := Lib.hid (IH.out tk' r2 (.slice Ak tk'.length ck) wr ht2 (by omega) (hb.trans (AB.out.1.mono hb.size)) AP.out)
      have AT2 := Lib.hid (Key.times_step ht1 ht2)
      have hst := Key.steps_succ (l := xs) ht1 false false
      rw [← AO.out] at hst
      have HST := Lib.hid hst
      clear hst ht1 ht2
      generalize (Key.eval xs f tk').1 = is at *
      have hji : (j : Int) < (N : Int) := by omega
      cases ob
      all_goals
       go_wp2_with (go_at_call 32; (with_reducible refine HC.out.mono ?_); rintro e w2 ⟨hb2, v2, rfl, hp2⟩; have x2 := (hb2.cell (cell_lt x0)).trans x0)
       go_roundg q
       case measure => omega
       case rel => exact ⟨j + 1, r2, _, by omega, by go_num, rfl, by have := AG.out; show _ = _; omega, hp2, AT2.out, HST.out.symm, AB.out.1.trans (hb2.mono AB.out.1.size), x2⟩
     ·obtain rfl : j = N := by omega
      have hre : r = tk := Option.some.inj (HE.out.symm.trans AT.out)
      subst hre
      have hRo : R = ob := HR2.out.trans AO.out.symm
      subst hRo
      go_wp2_with fail
      go_ret2
      exact ⟨AB.out.1, _, rfl, AP.out⟩
open Go.RowKit
set_option maxRecDepth 100000 in
theorem rMay14_c (w0 : World) (vh : Value) (xs : List (List UInt8)) (hv : TextsA w0 vh xs) (hxl : xs.length ≤ 1000000) : ∀ (f : Nat) (p : List Key.PlanE) (v : Value) (w : World), Key.rest f p = some [] → p.length ≤ f → p.length ≤ 1000 → Below w0.heap.size w0 w → PlanS w0 v p →
  Calls Tryz.prog 33 #[v, vh] w fun e w' => e = .returned (.bool (Key.eval xs f p).1) ∧ Below w.heap.size w w' := by
 intro f
 have HV := Lib.hid hv
 have hvs : ∃ A c, vh = .slice A xs.length c ∧ xs.length ≤ c := by
  obtain ⟨A, c, h, hc, _⟩ := hv.at
  exact ⟨A, c, h, hc⟩
 clear hv
 induction f with
 | zero => intro p v w hr; cases hr
 | succ f ih =>
  intro p v w hr hpf hl hb hp
  cases p with
  | nil => cases hr
  | cons x t =>
   have HP0 := Lib.hid hp
   simp only [List.length_cons] at hl hpf
   obtain ⟨b, o, c, vt, rfl, ⟨c0, c1, c2⟩, _, _⟩ := hp.tail
   obtain ⟨_, _, he, hct, _⟩ := hp
   have hc : t.length + 1 ≤ c := by cases he; simpa using hct
   clear he hct
   have d0 := (hb.cell (cell_lt c0)).trans c0
   have d1 := (hb.cell (cell_lt c1)).trans c1
   have d2 := (hb.cell (cell_lt c2)).trans c2
   rw [Key.rest] at hr
   split at hr
   case isFalse => cases hr
   case isTrue ho =>
   obtain ⟨o1, o2, o3, o4, o5⟩ := ho
   obtain ⟨R, hR⟩ : ∃ R, (Key.eval xs (f + 1) (x :: t)).1 = R := ⟨_, rfl⟩
   rw [hR]
   rw [Key.eval] at hR
   have HR := Lib.hid hR
   have HE := Lib.hid hr
   have IH := Lib.hid ih
   clear c0 c1 c2 hR ih hr
   obtain ⟨op, n, key⟩ := x
   simp only at d0 d1 d2 HR HE o1 o2 o3 o4 o5
   obtain ⟨N, rfl⟩ : ∃ N : Nat, n = N := ⟨n.toNat, by omega⟩
   rw [Int.toNat_natCast] at HE HR
   have hcs : op = 0 ∨ op = 1 ∨ op = 2 ∨ op = 3 ∨ op = 4 := by omega
   have HP := HP0
   have hv2 := hvs
   clear o4 o5 HP0
   have hadd := add_at2
   rcases hcs with rfl | rfl | rfl | rfl | rfl
   ·have hR2 : R = true := HR.out.symm
    subst hR2
    obtain ⟨Ah, ch, rfl, _⟩ := hvs
    clear HR HE IH HV hv2
    go_enter Tryz.func33, Tryz.ntmps33
    go_wp2_with fail
    go_ret
    exact ⟨rfl, Below.refl _ _⟩
   ·have hR2 : R = false := HR.out.symm
    subst hR2
    obtain ⟨Ah, ch, rfl, _⟩ := hvs
    clear HR HE IH HV hv2
    go_enter Tryz.func33, Tryz.ntmps33
    go_wp2_with fail
    go_ret
    exact ⟨rfl, Below.refl _ _⟩
   ·have hR2 : R = decide (key ∈ xs) := by rw [← HR.out, if_neg (by decide), if_pos rfl]
    obtain ⟨Ah, ch, rfl, hch, hcell⟩ := HV.out.at
    have HVc := Lib.hid hcell
    have HR2 := Lib.hid hR2
    clear HR HE IH HV hv2 hcell hR2 hvs
    go_enter Tryz.func33, Tryz.ntmps33
    go_wp2_with fail
    go_loopg [5] xs.length (fun gk i wr => ∃ k : Nat, k ≤ xs.length ∧ i = .int .i64 k ∧ Aside (k + gk = xs.length) ∧ Aside (Below w.heap.size w wr) ∧ Aside (∀ y ∈ xs.take k, y ≠ key))
    case atStart => exact ⟨0, by omega, rfl, by show _ = _; omega, Below.refl _ _, by show ∀ y ∈ _, _; simp⟩
    case round =>
     obtain ⟨k, hk, rfl, AG, AB, AS⟩ := hrel
     have x0 := (AB.out.cell (cell_lt d0)).trans d0
     have x2 := (AB.out.cell (cell_lt d2)).trans d2
     clear d0 d1 d2
     by_cases hlt : k < xs.length
     ·obtain ⟨q, rfl⟩ : ∃ q, gk = q + 1 := ⟨gk - 1, by have := AG.out; omega⟩
      obtain ⟨a, rfl, hcell⟩ := HVc.out k hlt
      have y0 := (hb.trans (AB.out.mono hb.size)).cell (cell_lt hcell) |>.trans hcell
      have HRk : Hid (xs[k] = key → R = true) := Lib.hid fun he => by rw [HR2.out, decide_eq_true_iff, ← he]; exact List.getElem_mem hlt
      have HAS : Hid (xs[k] ≠ key → ∀ y ∈ xs.take (k + 1), y ≠ key) := Lib.hid fun he y hy => by
       rw [List.take_succ_eq_append_getElem hlt] at hy
       rcases List.mem_append.1 hy with hy | hy
       ·exact AS.out y hy
       ·rw [List.mem_singleton.1 hy]; exact he
      have hki : (k : Int) < (xs.length : Int) := by omega
      clear AS hcell
      generalize xs[k] = y at y0 HRk HAS
      by_cases hyx : y = key
      ·subst hyx
       have Hf := Lib.hid (HRk.out rfl)
       clear HRk HAS
       go_wp2_with fail
       go_quiet (fail)
       go_wp2_with fail
       go_ret
       exact ⟨by rw [Hf.out]; rfl, below_drewN AB.out nq⟩
      ·have hb1 : (y == key) = false := beq_eq_false_iff_ne.2 hyx
       have hb2 : (key == y) = false := beq_eq_false_iff_ne.2 (Ne.symm hyx)
       have Hf := Lib.hid (HAS.out hyx)
       clear HRk HAS hyx
       go_wp2_with fail
       go_quiet (fail)
       go_wp2_with fail
       go_roundg q
       case measure => omega
       case rel => exact ⟨k + 1, by omega, by go_num, by have := AG.out; show _ = _; omega, below_drewN AB.out nq, Hf.out⟩
     ·obtain rfl : k = xs.length := by omega
      have hs : R = false := by
       rw [HR2.out, decide_eq_false_iff_not]
       intro hm
       exact AS.out key (by rw [List.take_length]; exact hm) rfl
      clear AS
      subst hs
      go_wp2_with fail
      go_ret
      exact ⟨rfl, AB.out⟩
   ·have hR2 : R = (Key.steps (Key.eval xs f) true N (true, t)).1 := by rw [← HR.out, if_neg (by decide), if_neg (by decide), if_pos rfl]
    have HR2 := Lib.hid hR2
    have hN : N ≤ t.length := by have := Key.times_len (Key.rest_len f) _ _ _ HE.out; omega
    clear HR hR2 HV hv2
    go_enter Tryz.func33, Tryz.ntmps33
    go_wp2_with fail
    go_loopg [6, 7, 8, 9] N (fun gk a6 a7 a8 a9 wr => ∃ (j : Nat) (tk : List Key.PlanE) (oa oo : Bool), j ≤ N ∧ tk.length + j ≤ t.length ∧ a6 = .int .i64 ((t.length + 1 - tk.length : Nat) : Int) ∧ a7 = .bool oa ∧ a8 = .bool oo ∧ a9 = .int .i64 (j : Int) ∧ Aside (j + gk = N) ∧ Aside (Key.times (Key.rest f) j t = some tk) ∧ Aside (oa = (Key.steps (Key.eval xs f) true j (true, t)).1 ∧ oo = (Key.steps (Key.eval xs f) false j (false, t)).1) ∧ Aside (Below w.heap.size w wr))
    case atStart => exact ⟨0, t, true, false, by omega, by omega, by rw [show t.length + 1 - t.length = 1 by omega]; rfl, rfl, rfl, rfl, by show _ = _; omega, rfl, ⟨rfl, rfl⟩, Below.refl _ _⟩
    case round =>
     obtain ⟨j, tk, oa, oo, hjN, hjt, rfl, rfl, rfl, rfl, AG, AT, AO, AB⟩ := hrel
     have x0 := (AB.out.cell (cell_lt d0)).trans d0
     have x1 := (AB.out.cell (cell_lt d1)).trans d1
     clear d0 d1 d2
     by_cases hlt : j < N
     ·obtain ⟨q, rfl⟩ : ∃ q, gk = q + 1 := ⟨gk - 1, by have := AG.out; omega⟩
      obtain ⟨tk', r2, ht1, ht2⟩ := Key.times_at HE.out hlt
      have htt : tk' = tk := Option.some.inj (ht1.symm.trans AT.out)
      subst htt
      have hrl := Key.rest_len _ _ _ ht2
      have hdr : (⟨3, (N : Int), key⟩ :: t : List Key.PlanE).drop (t.length + 1 - tk'.length) = tk' := by
       have := drop_step (p := (⟨3, (N : Int), key⟩ :: t : List Key.PlanE)) (k := 1) (t := t) rfl (Key.times_drop ht1)
       rwa [show 1 + (t.length - tk'.length) = t.length + 1 - tk'.length by omega] at this
      have hbr := hb.trans (AB.out.mono hb.size)
      have HC := end14_c w0 _ _ HP.out (by simp only [List.length_cons]; omega) f (t.length + 1 - tk'.length) wr (by rw [hdr]; omega) (by simp only [List.length_cons]; omega) hbr
      rw [hdr, ht2] at HC
      have hnn : endI (⟨3, (N : Int), key⟩ :: t : List Key.PlanE) (some r2) = ((t.length + 1 - r2.length : Nat) : Int) := by
       show ((t.length + 1 : Nat) : Int) - (r2.length : Int) = _
       omega
      rw [hnn] at HC
      have HC2 := Lib.hid HC
      obtain ⟨B, hB, hsl⟩ := slice_mid Tryz.underlying22 size_plan b o (t.length + 1) c (t.length + 1 - tk'.length) (t.length + 1 - r2.length) (by omega) (by omega)
      obtain ⟨hw1, hw2, _⟩ := Key.rest_own (l := xs) ht2
      have hcut : ((⟨3, (N : Int), key⟩ :: t : List Key.PlanE).take (t.length + 1 - r2.length)).drop (t.length + 1 - tk'.length) = tk'.take (tk'.length - r2.length) := by
       rw [List.drop_take, hdr]
       congr 1
       omega
      have hP2 := PlanS.take HP.out (k := t.length + 1 - r2.length) (by simp only [List.length_cons]; omega)
      have hlen : ((⟨3, (N : Int), key⟩ :: t : List Key.PlanE).take (t.length + 1 - r2.length)).length = t.length + 1 - r2.length := by rw [List.length_take, List.length_cons]; omega
      have hP3 : PlanS w0 (.slice (some B) (t.length + 1 - r2.length - (t.length + 1 - tk'.length)) (c - (t.length + 1 - tk'.length))) (tk'.take (tk'.length - r2.length)) := by
       have := PlanS.drop (w := w0) (l := (⟨3, (N : Int), key⟩ :: t : List Key.PlanE).take (t.length + 1 - r2.length)) (b := b) (o := o) (c := c) (k := t.length + 1 - tk'.length) (B := B) (by rw [hlen]; exact hP2) (by rw [hlen]; omega) hB
       rw [hlen, hcut] at this
       exact this
      have HI : Hid (∀ W, Below w0.heap.size w0 W → Calls Tryz.prog 33 #[.slice (some B) (t.length + 1 - r2.length - (t.length + 1 - tk'.length)) (c - (t.length + 1 - tk'.length)), vh] W fun e w' => e = .returned (.bool (Key.eval xs f tk').1) ∧ Below W.heap.size W w') := Lib.hid fun W h => by
       have := IH.out _ _ W hw1 (by rw [List.length_take]; omega) (by rw [List.length_take]; omega) h hP3
       rw [hw2] at this
       exact this
      have AT2 := Lib.hid (Key.times_step ht1 ht2)
      have h3 := Key.steps_succ (l := xs) ht1 true true
      have h4 := Key.steps_succ (l := xs) ht1 false false
      rw [← AO.out.1] at h3
      rw [← AO.out.2] at h4
      have H3 := Lib.hid h3
      have H4 := Lib.hid h4
      have hrr : r2.length + (j + 1) ≤ t.length := by have := Key.times_len (Key.rest_len f) _ _ _ AT2.out; omega
      obtain ⟨Ah, ch, rfl, _⟩ := hvs
      clear h3 h4 hP3 hlen hP2 hcut hw1 hw2 hB HC hnn hdr ht1 ht2
      generalize (Key.eval xs f tk').1 = is at *
      have hji : (j : Int) < (N : Int) := by omega
      generalize hlo : t.length + 1 - tk'.length = lo at *
      generalize hhi : t.length + 1 - r2.length = hi at *
      cases oa
      all_goals
       cases oo
       all_goals
        go_wp2_with (first | (go_at_call 31; (with_reducible refine HC2.out.mono ?_); rintro e w2 ⟨rfl, hb2⟩; have hb3 := hbr.trans (hb2.mono hbr.size)) | (go_at_call 33; (with_reducible refine (HI.out _ hb3).mono ?_); rintro e w4 ⟨rfl, hb4⟩))
        go_roundg q
        case measure => omega
        case rel => exact ⟨j + 1, r2, _, _, by omega, by omega, by rw [hhi], rfl, rfl, by go_num, by have := AG.out; show _ = _; omega, AT2.out, ⟨H3.out.symm, H4.out.symm⟩, (AB.out.trans (hb2.mono AB.out.size)).trans (hb4.mono (Nat.le_trans AB.out.size hb2.size))⟩
     ·obtain rfl : j = N := by omega
      have hRo : R = oa := HR2.out.trans AO.out.1.symm
      clear AO
      cases oa
      all_goals
       cases oo
       all_goals
        subst hRo
        go_wp2_with fail
        go_ret
        exact ⟨rfl, AB.out⟩
   ·have hR2 : R = (Key.steps (Key.eval xs f) false N (false, t)).1 := by rw [← HR.out, if_neg (by decide), if_neg (by decide), if_neg (by decide), if_pos rfl]
    have HR2 := Lib.hid hR2
    have hN : N ≤ t.length := by have := Key.times_len (Key.rest_len f) _ _ _ HE.out; omega
    clear HR hR2 HV hv2
    go_enter Tryz.func33, Tryz.ntmps33
    go_wp2_with fail
    go_loopg [6, 7, 8, 9] N (fun gk a6 a7 a8 a9 wr => ∃ (j : Nat) (tk : List Key.PlanE) (oa oo : Bool), j ≤ N ∧ tk.length + j ≤ t.length ∧ a6 = .int .i64 ((t.length + 1 - tk.length : Nat) : Int) ∧ a7 = .bool oa ∧ a8 = .bool oo ∧ a9 = .int .i64 (j : Int) ∧ Aside (j + gk = N) ∧ Aside (Key.times (Key.rest f) j t = some tk) ∧ Aside (oa = (Key.steps (Key.eval xs f) true j (true, t)).1 ∧ oo = (Key.steps (Key.eval xs f) false j (false, t)).1) ∧ Aside (Below w.heap.size w wr))
    case atStart => exact ⟨0, t, true, false, by omega, by omega, by rw [show t.length + 1 - t.length = 1 by omega]; rfl, rfl, rfl, rfl, by show _ = _; omega, rfl, ⟨rfl, rfl⟩, Below.refl _ _⟩
    case round =>
     obtain ⟨j, tk, oa, oo, hjN, hjt, rfl, rfl, rfl, rfl, AG, AT, AO, AB⟩ := hrel
     have x0 := (AB.out.cell (cell_lt d0)).trans d0
     have x1 := (AB.out.cell (cell_lt d1)).trans d1
     clear d0 d1 d2
     by_cases hlt : j < N
     ·obtain ⟨q, rfl⟩ : ∃ q, gk = q + 1 := ⟨gk - 1, by have := AG.out; omega⟩
      obtain ⟨tk', r2, ht1, ht2⟩ := Key.times_at HE.out hlt
      have htt : tk' = tk := Option.some.inj (ht1.symm.trans AT.out)
      subst htt
      have hrl := Key.rest_len _ _ _ ht2
      have hdr : (⟨4, (N : Int), key⟩ :: t : List Key.PlanE).drop (t.length + 1 - tk'.length) = tk' := by
       have := drop_step (p := (⟨4, (N : Int), key⟩ :: t : List Key.PlanE)) (k := 1) (t := t) rfl (Key.times_drop ht1)
       rwa [show 1 + (t.length - tk'.length) = t.length + 1 - tk'.length by omega] at this
      have hbr := hb.trans (AB.out.mono hb.size)
      have HC := end14_c w0 _ _ HP.out (by simp only [List.length_cons]; omega) f (t.length + 1 - tk'.length) wr (by rw [hdr]; omega) (by simp only [List.length_cons]; omega) hbr
      rw [hdr, ht2] at HC
      have hnn : endI (⟨4, (N : Int), key⟩ :: t : List Key.PlanE) (some r2) = ((t.length + 1 - r2.length : Nat) : Int) := by
       show ((t.length + 1 : Nat) : Int) - (r2.length : Int) = _
       omega
      rw [hnn] at HC
      have HC2 := Lib.hid HC
      obtain ⟨B, hB, hsl⟩ := slice_mid Tryz.underlying22 size_plan b o (t.length + 1) c (t.length + 1 - tk'.length) (t.length + 1 - r2.length) (by omega) (by omega)
      obtain ⟨hw1, hw2, _⟩ := Key.rest_own (l := xs) ht2
      have hcut : ((⟨4, (N : Int), key⟩ :: t : List Key.PlanE).take (t.length + 1 - r2.length)).drop (t.length + 1 - tk'.length) = tk'.take (tk'.length - r2.length) := by
       rw [List.drop_take, hdr]
       congr 1
       omega
      have hP2 := PlanS.take HP.out (k := t.length + 1 - r2.length) (by simp only [List.length_cons]; omega)
      have hlen : ((⟨4, (N : Int), key⟩ :: t : List Key.PlanE).take (t.length + 1 - r2.length)).length = t.length + 1 - r2.length := by rw [List.length_take, List.length_cons]; omega
      have hP3 : PlanS w0 (.slice (some B) (t.length + 1 - r2.length - (t.length + 1 - tk'.length)) (c - (t.length + 1 - tk'.length))) (tk'.take (tk'.length - r2.length)) := by
       have := PlanS.drop (w := w0) (l := (⟨4, (N : Int), key⟩ :: t : List Key.PlanE).take (t.length + 1 - r2.length)) (b := b) (o := o) (c := c) (k := t.length + 1 - tk'.length) (B := B) (by rw [hlen]; exact hP2) (by rw [hlen]; omega) hB
       rw [hlen, hcut] at this
       exact this
      have HI : Hid (∀ W, Below w0.heap.size w0 W → Calls Tryz.prog 33 #[.slice (some B) (t.length + 1 - r2.length - (t.length + 1 - tk'.length)) (c - (t.length + 1 - tk'.length)), vh] W fun e w' => e = .returned (.bool (Key.eval xs f tk').1) ∧ Below W.heap.size W w') := Lib.hid fun W h => by
       have := IH.out _ _ W hw1 (by rw [List.length_take]; omega) (by rw [List.length_take]; omega) h hP3
       rw [hw2] at this
       exact this
      have AT2 := Lib.hid (Key.times_step ht1 ht2)
      have h3 := Key.steps_succ (l := xs) ht1 true true
      have h4 := Key.steps_succ (l := xs) ht1 false false
      rw [← AO.out.1] at h3
      rw [← AO.out.2] at h4
      have H3 := Lib.hid h3
      have H4 := Lib.hid h4
      have hrr : r2.length + (j + 1) ≤ t.length := by have := Key.times_len (Key.rest_len f) _ _ _ AT2.out; omega
      obtain ⟨Ah, ch, rfl, _⟩ := hvs
      clear h3 h4 hP3 hlen hP2 hcut hw1 hw2 hB HC hnn hdr ht1 ht2
      generalize (Key.eval xs f tk').1 = is at *
      have hji : (j : Int) < (N : Int) := by omega
      generalize hlo : t.length + 1 - tk'.length = lo at *
      generalize hhi : t.length + 1 - r2.length = hi at *
      cases oa
      all_goals
       cases oo
       all_goals
        go_wp2_with (first | (go_at_call 31; (with_reducible refine HC2.out.mono ?_); rintro e w2 ⟨rfl, hb2⟩; have hb3 := hbr.trans (hb2.mono hbr.size)) | (go_at_call 33; (with_reducible refine (HI.out _ hb3).mono ?_); rintro e w4 ⟨rfl, hb4⟩))
        go_roundg q
        case measure => omega
        case rel => exact ⟨j + 1, r2, _, _, by omega, by omega, by rw [hhi], rfl, rfl, by go_num, by have := AG.out; show _ = _; omega, AT2.out, ⟨H3.out.symm, H4.out.symm⟩, (AB.out.trans (hb2.mono AB.out.size)).trans (hb4.mono (Nat.le_trans AB.out.size hb2.size))⟩
     ·obtain rfl : j = N := by omega
      have hRo : R = oo := HR2.out.trans AO.out.2.symm
      clear AO
      cases oa
      all_goals
       cases oo
       all_goals
        subst hRo
        go_wp2_with fail
        go_ret
        exact ⟨rfl, AB.out⟩
end Go.Proofs.YtkkbbhlihilnpaaGreatDoor
