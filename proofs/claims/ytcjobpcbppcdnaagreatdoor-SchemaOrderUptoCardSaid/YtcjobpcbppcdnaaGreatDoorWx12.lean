/- SchemaOrder: the walk of the law. (Printed by gen_order.py.) -/
import Derived.Test.YtcjobpcbppcdnaaGreatDoorWx11
set_option linter.all false
set_option linter.unusedSimpArgs false
namespace Go.Proofs.YtcjobpcbppcdnaaGreatDoor
open Go.RowKit
open List (getElem_toArray getElem_cons_zero getElem_cons_succ setIfInBounds_toArray set_cons_zero set_cons_succ)

set_option maxRecDepth 100000 in
set_option maxHeartbeats 4000000 in
theorem order_not (xa xc : List (List UInt8)) (va vb : Value) (w : World) (hw : Env w) (hva : TextsA w va xa) (hvb : TextsA w vb xc) (hsz : xa.length + sumL xa + (xc.length + sumL xc) ≤ 1048576) (hn : lightL xa xc = false ∨ 30 < xa.length) :
    Calls Tryz.prog 4 #[va, vb] w fun e w' => e = .returned (.bool true) ∧ Below w.heap.size w w' := by
  have HL := Lib.hid (light_c xa xc va vb w hva hvb hsz)
  have HAl := Lib.hid (alive_c w hw)
  obtain ⟨Aa, ca, rfl, _⟩ := hva.at
  obtain ⟨Ac, cc, rfl, _⟩ := hvb.at
  clear hw hva hvb hsz
  cases hl : lightL xa xc with
  | false =>
    rw [hl] at HL
    go_enter Tryz.func4, Tryz.ntmps4
    go_wp2_with (first | (go_at_call 10; refine HL.out.mono ?_; rintro e w1 ⟨rfl, rfl⟩) | (go_at_call 8; refine HAl.out.mono ?_; rintro e w2 ⟨rfl, hb2⟩))
    all_goals
      go_ret
      exact ⟨rfl, hb2⟩
  | true =>
    have h30 : 30 < xa.length := by rw [hl] at hn; simpa using hn
    have h30i : (30 : Int) < (xa.length : Int) := by omega
    rw [hl] at HL
    go_enter Tryz.func4, Tryz.ntmps4
    go_wp2_with (first | (go_at_call 10; refine HL.out.mono ?_; rintro e w1 ⟨rfl, rfl⟩) | (go_at_call 8; refine HAl.out.mono ?_; rintro e w2 ⟨rfl, hb2⟩))
    all_goals
      go_ret
      exact ⟨rfl, hb2⟩
set_option maxRecDepth 100000 in
set_option maxHeartbeats 4000000 in
theorem order_nil (xa xc : List (List UInt8)) (va vb : Value) (w : World) (hw : Env w) (hva : TextsA w va xa) (hvb : TextsA w vb xc) (hsz : xa.length + sumL xa + (xc.length + sumL xc) ≤ 1048576) (hl : lightL xa xc = true) (h30 : xa.length ≤ 30) (x : Int × Nat) (hx : newL (baseA ++ xa) baseC = .inl x) :
    Calls Tryz.prog 4 #[va, vb] w fun e w' => e = .returned (.bool true) ∧ Below w.heap.size w w' := by
  have HL := Lib.hid (light_c xa xc va vb w hva hvb hsz)
  have HAl := Lib.hid (fun (W : World) (h : Below w.heap.size w W) => alive_c W (hw.keep h))
  have HM0 := made_c xa [] va (.slice none 0 0) w hw hva (.inl ⟨rfl, rfl⟩) (by simp; omega) (by
    intro y hy
    have := sum_mem (show y ∈ xa by simpa using hy)
    have := (light_sums hl).1
    omega)
  rw [List.append_nil, hx] at HM0
  have HM := Lib.hid HM0
  obtain ⟨Aa, ca, rfl, _⟩ := hva.at
  obtain ⟨Ac, cc, rfl, _⟩ := hvb.at
  have h30i : ¬ (30 : Int) < (xa.length : Int) := by omega
  clear hw hva hvb hsz HM0 hx
  rw [hl] at HL
  go_enter Tryz.func4, Tryz.ntmps4
  go_wp2_with (first | (go_at_call 10; refine HL.out.mono ?_; rintro e w1 ⟨rfl, rfl⟩) | (go_at_call 11; refine HM.out.mono ?_; rintro e w1 ⟨hb1, rfl⟩) | (go_at_call 8; refine (HAl.out _ hb1).mono ?_; rintro e w2 ⟨rfl, hb2⟩))
  all_goals
    go_ret
    exact ⟨rfl, hb1.trans (hb2.mono hb1.size)⟩
set_option maxRecDepth 100000 in
set_option maxHeartbeats 64000000 in
theorem order_go (xa xc : List (List UInt8)) (va vb : Value) (w : World) (hw : Env w) (hva : TextsA w va xa) (hvb : TextsA w vb xc) (hsz : xa.length + sumL xa + (xc.length + sumL xc) ≤ 1048576) (hl : lightL xa xc = true) (h30 : xa.length ≤ 30) (L : List DefS) (hx : newL (baseA ++ xa) baseC = .inr L) :
    Calls Tryz.prog 4 #[va, vb] w fun e w' => e = .returned (.bool true) ∧ Below w.heap.size w w' := by
  have HL := Lib.hid (light_c xa xc va vb w hva hvb hsz)
  have HAl := Lib.hid (fun (W : World) (h : Below w.heap.size w W) => alive_c W (hw.keep h))
  have hshort : ∀ y ∈ xa, y.length ≤ 1000000 := by
    intro y hy
    have := sum_mem hy
    have := (light_sums hl).1
    omega
  have HM0 := made_c xa [] va (.slice none 0 0) w hw hva (.inl ⟨rfl, rfl⟩) (by simp; omega) (by simpa using hshort)
  rw [List.append_nil, hx] at HM0
  have HM : Hid (Calls Tryz.prog 11 #[va, .slice none 0 0] w fun e w' => ∃ s ps, e = .returned (.pointer (some ⟨s, 0, none⟩)) ∧ Below w.heap.size w w' ∧ SchAt w' s ps L) := Lib.hid (HM0.mono (by
    rintro e w' ⟨h1, s, ps, h2, h3⟩
    exact ⟨s, ps, h2, h1, h3⟩))
  have hL : Sound L := sound_of hx (by
    intro y hy
    rcases List.mem_append.1 hy with h | h
    · rcases List.mem_append.1 h with h | h
      · exact Nat.le_trans (base_short y (List.mem_append_left _ h)) (by decide)
      · exact hshort y h
    · exact Nat.le_trans (base_short y (List.mem_append_right _ h)) (by decide))
  have HLS := Lib.hid hL
  have hN : L.length ≤ 300 := hL.says.len
  have HAT : Hid (∀ (s : Nat) (ps : List Nat) (W : World), SchAt W s ps L → Calls Tryz.prog 12 #[.pointer (some ⟨s, 0, none⟩)] W fun e w' => ∃ v, e = .returned v ∧ Below W.heap.size W w' ∧ Own W.heap.size w' v (listedL L false)) := Lib.hid fun s ps W hS => Attrs_c s ps L W hS (by omega)
  have hlen := listed_len L false
  have HSH := Lib.hid (listed_short hL false)
  have HA1 : Hid (∀ (t : List UInt8) (i : Nat) (a : AttrS) (s : Nat) (ps : List Nat) (W : World), SchAt W s ps L → t.length ≤ 1000000 → findD L false t = some i → countsD L i = some a → Calls Tryz.prog 13 #[.pointer (some ⟨s, 0, none⟩), .string ⟨t.toArray⟩] W fun e w' => ∃ A n c, e = .returned (.tuple #[attrV a (.slice A n c), .int .i64 0]) ∧ Below W.heap.size W w') := Lib.hid fun t i a s ps W hS hl hf ha => (Attr_some s ps L hL.lim t i a W hS hl hf ha).mono (by
    rintro e w' ⟨h1, nv, rfl, h2⟩
    obtain ⟨A, c, rfl, _⟩ := h2.isSlice
    exact ⟨A, _, c, rfl, h1⟩)
  have HSB : Hid (∀ (p q : List UInt8) (r : Bool) (s : Nat) (ps : List Nat) (W W0 : World), SchAt W0 s ps L → p.length ≤ 1000000 → q.length ≤ 1000000 → isSubD L p q = r → Below W0.heap.size W0 W → Calls Tryz.prog 14 #[.pointer (some ⟨s, 0, none⟩), .string ⟨p.toArray⟩, .string ⟨q.toArray⟩] W fun e w' => e = .returned (.bool r) ∧ Below W0.heap.size W0 w') := Lib.hid fun p q r s ps W W0 hS hp hq hr hb => by
    subst hr
    exact (IsSub_s s ps L hL p q W (hS.below hb) hp hq).mono (by
      rintro e w' ⟨h1, h2⟩
      exact ⟨h1, hb.trans (h2.mono hb.size)⟩)
  obtain ⟨Aa, ca, rfl, _⟩ := hva.at
  obtain ⟨Ac, cc, rfl, _⟩ := hvb.at
  have h30i : ¬ (30 : Int) < (xa.length : Int) := by omega
  rw [hl] at HL
  obtain ⟨ls, hls⟩ : ∃ ls, listedL L false = ls := ⟨_, rfl⟩
  rw [hls] at HAT hlen HSH
  have HOR : Hid (∀ (i : Nat) (hi : i < ls.length), ∃ x a, findD L false ls[i] = some x ∧ countsD L x = some a ∧ isSubD L ls[i] ls[i] = true ∧ (a.sup ≠ [] → isSubD L ls[i] a.sup = true) ∧ isSubD L a.oid ls[i] = true ∧ ∀ k (hk : k < ls.length), (i ≠ k → isSubD L ls[i] ls[k] = true → isSubD L ls[k] ls[i] = false) ∧ (a.sup ≠ [] → isSubD L a.sup ls[k] = true → isSubD L ls[i] ls[k] = true)) := by
    subst hls
    exact Lib.hid (fun i hi => order_at hL.says hi)
  clear hw hva hvb hsz HM0 hx hshort hL hls
  go_enter Tryz.func4, Tryz.ntmps4
  go_wp2_with (first | (go_at_call 10; refine HL.out.mono ?_; rintro e w1 ⟨rfl, rfl⟩) | (go_at_call 11; refine HM.out.mono ?_; rintro e w1 ⟨s, ps, rfl, hb1, hS1⟩) | (go_at_call 12; refine (HAT.out s ps _ hS1).mono ?_; rintro e w4 ⟨v4, rfl, hb4, hO4⟩; obtain ⟨A4, c4, rfl, hc4⟩ := hO4.isSlice))
  have hS4 := hS1.below hb4
  have hB4 := hb1.trans (hb4.mono hb1.size)
  have HTX := Lib.hid hO4.texts
  clear HM HL HAT hO4 hS1 hb1 hb4
  go_loopg [7] ls.length (fun gk j wr => ∃ i : Nat, i ≤ ls.length ∧ j = .int .i64 i ∧ Aside (i + gk = ls.length) ∧ Below w4.heap.size w4 wr)
  case atStart => exact ⟨0, Nat.zero_le _, rfl, by show _ = _; omega, Below.refl _ _⟩
  case round =>
    obtain ⟨i, hi, rfl, AG, hBo⟩ := hrel
    obtain ⟨wo, hwo⟩ : ∃ wo, wo = wr := ⟨_, rfl⟩
    subst hwo
    by_cases hil : i < ls.length
    · obtain ⟨q, rfl⟩ : ∃ q, gk = q + 1 := ⟨gk - 1, by have := AG.out; omega⟩
      obtain ⟨x, a, hf, ha, o1, o2, o3, o4⟩ := HOR.out i hil
      obtain ⟨has1, has2⟩ := attr_short HLS.out ha
      have hlis := HSH.out _ (List.getElem_mem hil)
      obtain ⟨g, rfl, ci0⟩ := texts_at HTX.out hil
      have HLS2 : Hid (∀ k (hk : k < ls.length), w4.cell? ⟨g, k, none⟩ = some (.string ⟨ls[k].toArray⟩)) := Lib.hid fun k hk => by
        obtain ⟨g', e, h⟩ := texts_at HTX.out hk
        cases e
        exact h
      have ci : wo.cell? ⟨g, i, none⟩ = some (.string ⟨ls[i].toArray⟩) := (hBo.cell (p := ⟨g, i, none⟩) (cell_lt ci0)).trans ci0
      have HAc := Lib.hid (HA1.out ls[i] x a s ps wo (hS4.below hBo) hlis hf ha)
      have HO4 := Lib.hid o4
      obtain ⟨li, hli⟩ : ∃ li, ls[i] = li := ⟨_, rfl⟩
      rw [hli] at HAc o1 o2 o3 hlis ci ci0
      have HO4' : Hid (∀ k (hk : k < ls.length), (i ≠ k → isSubD L li ls[k] = true → isSubD L ls[k] li = false) ∧ (a.sup ≠ [] → isSubD L a.sup ls[k] = true → isSubD L li ls[k] = true)) := Lib.hid (by
        have h := HO4.out
        rw [hli] at h
        exact h)
      unfold attrV attrCells at HAc
      clear o4 HO4 hf ha hli HOR HA1
      obtain ⟨su, hsu⟩ : ∃ su, a.sup = su := ⟨_, rfl⟩
      rw [hsu] at o2 HAc has2 HO4'
      clear hsu
      go_wp2_with (go_at_call 13; refine HAc.out.mono ?_; rintro e w5 ⟨A, n, c, rfl, hb5⟩)
      have hbk := Bk.new w5 36 #[.string ⟨a.oid.toArray⟩, .string ⟨a.name.toArray⟩, .string ⟨su.toArray⟩, .slice A n c, .string ⟨a.form.toArray⟩, .string ⟨a.eqr.toArray⟩, .string ⟨a.ordr.toArray⟩, .string ⟨a.subs.toArray⟩, .bool a.single, .bool a.fixed, .bool a.oper]
      have f0 := hbk.cell 0
      have f2 := hbk.cell 2
      simp only [List.getElem?_toArray, List.getElem?_cons_zero, List.getElem?_cons_succ] at f0 f2
      have hbn := hBo.trans ((hb5.alloc hb5.size (.cells #[.string ⟨a.oid.toArray⟩, .string ⟨a.name.toArray⟩, .string ⟨su.toArray⟩, .slice A n c, .string ⟨a.form.toArray⟩, .string ⟨a.eqr.toArray⟩, .string ⟨a.ordr.toArray⟩, .string ⟨a.subs.toArray⟩, .bool a.single, .bool a.fixed, .bool a.oper] 36)).mono hBo.size)
      have HB := Lib.hid hbn
      have HF0 := Lib.hid f0
      have HF2 := Lib.hid f2
      clear hbk f0 f2 hbn hb5
      generalize w5.heap.size = ga at HF0 HF2 ⊢
      generalize (w5.alloc _) = wb at HF0 HF2 HB ⊢
      have HKB : Hid (∀ W, Below wb.heap.size wb W → W.cell? ⟨g, i, none⟩ = some (.string ⟨li.toArray⟩) ∧ W.cell? ⟨ga, 0, none⟩ = some (.string ⟨a.oid.toArray⟩) ∧ W.cell? ⟨ga, 2, none⟩ = some (.string ⟨su.toArray⟩) ∧ Below wb.heap.size wb W) := Lib.hid fun W h => by
        have e1 : wb.cell? ⟨g, i, none⟩ = some (.string ⟨li.toArray⟩) := (HB.out.cell (p := ⟨g, i, none⟩) (cell_lt ci0)).trans ci0
        exact ⟨(h.cell (p := ⟨g, i, none⟩) (cell_lt e1)).trans e1, (h.cell (p := ⟨ga, 0, none⟩) (cell_lt HF0.out)).trans HF0.out, (h.cell (p := ⟨ga, 2, none⟩) (cell_lt HF2.out)).trans HF2.out, h⟩
      have hSb := hS4.below HB.out
      have HSBb : Hid (∀ (p q : List UInt8) (r : Bool), p.length ≤ 1000000 → q.length ≤ 1000000 → isSubD L p q = r → ∀ W : World, Below wb.heap.size wb W → Calls Tryz.prog 14 #[.pointer (some ⟨s, 0, none⟩), .string ⟨p.toArray⟩, .string ⟨q.toArray⟩] W fun e w' => e = .returned (.bool r) ∧ Below wb.heap.size wb w') := Lib.hid fun p q r hp hq hr W hb => HSB.out p q r s ps W wb hSb hp hq hr hb
      have HS1 : Hid (∀ W : World, Below wb.heap.size wb W → Calls Tryz.prog 14 #[.pointer (some ⟨s, 0, none⟩), .string ⟨li.toArray⟩, .string ⟨li.toArray⟩] W fun e w' => e = .returned (.bool true) ∧ Below wb.heap.size wb w') := Lib.hid (HSBb.out li li true hlis hlis o1)
      have HS3 : Hid (∀ W : World, Below wb.heap.size wb W → Calls Tryz.prog 14 #[.pointer (some ⟨s, 0, none⟩), .string ⟨a.oid.toArray⟩, .string ⟨li.toArray⟩] W fun e w' => e = .returned (.bool true) ∧ Below wb.heap.size wb w') := Lib.hid (HSBb.out a.oid li true has1 hlis o3)
      have hi0 : (0 : Int) ≤ (i : Int) := by omega
      have hi1 : (i : Int) < (ls.length : Int) := by omega
      have HO2 := Lib.hid o2
      have HCI := Lib.hid (And.intro ci ci0)
      clear o1 o2 o3 HAc HSB hSb ci ci0
      rcases su with _ | ⟨s0, st⟩
      · clear HO2
        have hdr : Below wb.heap.size wb wb.drew := (Below.refl _ _).drew
        refine wp_region_noPanic ?_
        refine wp_region_held_drew (S := (fun W => W.cell? ⟨g, i, none⟩ = some (.string ⟨li.toArray⟩) ∧ W.cell? ⟨ga, 0, none⟩ = some (.string ⟨a.oid.toArray⟩) ∧ W.cell? ⟨ga, 2, none⟩ = some (.string ⟨([] : List UInt8).toArray⟩) ∧ Below wb.heap.size wb W)) (by kernel_rfl) ?_ (fun hHeld => ?_)
        · exact HKB.out _ hdr
        refine wpAnyH_take (i := 0) (v := ?v0_1) rfl (by kernel_rfl) (by kernel_rfl) (by kernel_rfl) (fun _ _ _ h => h) (Or.inl ⟨by rfl, ?y0_1⟩) hHeld ?_
        case y0_1 => (intro w hSw; (try dsimp only at hSw); go_simp; first | done | (with_reducible rfl))
        simp only [getElem_toArray, getElem_cons_zero, getElem_cons_succ, Act.put, setIfInBounds_toArray, set_cons_zero, set_cons_succ]
        refine wpAnyH_take (i := 1) (v := .bool false) rfl (by kernel_rfl) (by kernel_rfl) (by kernel_rfl) (fun _ _ _ h => h) (Or.inl ⟨by rfl, ?y1_1⟩) hHeld ?_
        case y1_1 => (intro w hSw; (try dsimp only at hSw); go_simp; first | done | (with_reducible rfl))
        simp only [getElem_toArray, getElem_cons_zero, getElem_cons_succ, Act.put, setIfInBounds_toArray, set_cons_zero, set_cons_succ]
        refine wpAnyH_take (i := 2) (v := .bool false) rfl (by kernel_rfl) (by kernel_rfl) (by kernel_rfl) (fun _ _ _ h => h) (Or.inl ⟨by rfl, ?y2_1⟩) hHeld ?_
        case y2_1 => (intro w hSw; (try dsimp only at hSw); go_simp; first | done | (with_reducible rfl))
        simp only [getElem_toArray, getElem_cons_zero, getElem_cons_succ, Act.put, setIfInBounds_toArray, set_cons_zero, set_cons_succ]
        refine wpAnyH_take (i := 3) (v := ?v3_1) rfl (by kernel_rfl) (by kernel_rfl) (by kernel_rfl) (fun _ _ _ h => h) (Or.inl ⟨by rfl, ?y3_1⟩) hHeld ?_
        case y3_1 => (intro w hSw; (try dsimp only at hSw); go_simp; first | done | (with_reducible rfl))
        simp only [getElem_toArray, getElem_cons_zero, getElem_cons_succ, Act.put, setIfInBounds_toArray, set_cons_zero, set_cons_succ]
        refine wpAnyH_take (i := 4) (v := ?v4_1) rfl (by kernel_rfl) (by kernel_rfl) (by kernel_rfl) (fun _ _ _ h => h) (Or.inl ⟨by rfl, ?y4_1⟩) hHeld ?_
        case y4_1 => (intro w hSw; (try dsimp only at hSw); go_simp; first | done | (with_reducible rfl))
        simp only [getElem_toArray, getElem_cons_zero, getElem_cons_succ, Act.put, setIfInBounds_toArray, set_cons_zero, set_cons_succ]
        refine wpAnyH_take (i := 5) (v := ?v5_1) rfl (by kernel_rfl) (by kernel_rfl) (by kernel_rfl) (fun _ _ _ h => h) (Or.inl ⟨by rfl, ?y5_1⟩) hHeld ?_
        case y5_1 => (intro w hSw; (try dsimp only at hSw); go_simp; first | done | (with_reducible rfl))
        simp only [getElem_toArray, getElem_cons_zero, getElem_cons_succ, Act.put, setIfInBounds_toArray, set_cons_zero, set_cons_succ]
        refine wpAnyH_take (i := 6) (v := ?v6_1) rfl (by kernel_rfl) (by kernel_rfl) (by kernel_rfl) (fun _ _ _ h => h) (Or.inl ⟨by rfl, ?y6_1⟩) hHeld ?_
        case y6_1 => (intro w hSw; (try dsimp only at hSw); go_simp; first | done | (with_reducible rfl))
        simp only [getElem_toArray, getElem_cons_zero, getElem_cons_succ, Act.put, setIfInBounds_toArray, set_cons_zero, set_cons_succ]
        refine wpAnyH_take (i := 7) (v := ?v7_1) rfl (by kernel_rfl) (by kernel_rfl) (by kernel_rfl) (fun _ _ _ h => h) (Or.inl ⟨by rfl, ?y7_1⟩) hHeld ?_
        case y7_1 => (intro w hSw; (try dsimp only at hSw); go_simp; first | done | (with_reducible rfl))
        simp only [getElem_toArray, getElem_cons_zero, getElem_cons_succ, Act.put, setIfInBounds_toArray, set_cons_zero, set_cons_succ]
        refine wpAnyH_take (i := 8) (v := ?v8_1) rfl (by kernel_rfl) (by kernel_rfl) (by kernel_rfl) (fun _ _ _ h => h) (Or.inl ⟨by rfl, ?y8_1⟩) hHeld ?_
        case y8_1 => (intro w hSw; (try dsimp only at hSw); go_simp; first | done | (with_reducible rfl))
        simp only [getElem_toArray, getElem_cons_zero, getElem_cons_succ, Act.put, setIfInBounds_toArray, set_cons_zero, set_cons_succ]
        refine wpAnyH_take (i := 9) (v := ?v9_1) rfl (by kernel_rfl) (by kernel_rfl) (by kernel_rfl) (fun _ _ _ h => h) (Or.inl ⟨by rfl, ?y9_1⟩) hHeld ?_
        case y9_1 => (intro w hSw; (try dsimp only at hSw); go_simp; first | done | (with_reducible rfl))
        simp only [getElem_toArray, getElem_cons_zero, getElem_cons_succ, Act.put, setIfInBounds_toArray, set_cons_zero, set_cons_succ]
        refine wpAnyH_take (i := 10) (v := ?v10_1) rfl (by kernel_rfl) (by kernel_rfl) (by kernel_rfl) (fun _ _ _ h => h) (Or.inl ⟨by rfl, ?y10_1⟩) hHeld ?_
        case y10_1 => (intro w hSw; (try dsimp only at hSw); go_simp; first | done | (with_reducible rfl))
        simp only [getElem_toArray, getElem_cons_zero, getElem_cons_succ, Act.put, setIfInBounds_toArray, set_cons_zero, set_cons_succ]
        refine wpAnyH_take (i := 11) (v := ?v11_1) rfl (by kernel_rfl) (by kernel_rfl) (by kernel_rfl) (fun _ _ _ h => h) (Or.inl ⟨by rfl, ?y11_1⟩) hHeld ?_
        case y11_1 => (intro w hSw; (try dsimp only at hSw); go_simp; first | done | (with_reducible rfl))
        simp only [getElem_toArray, getElem_cons_zero, getElem_cons_succ, Act.put, setIfInBounds_toArray, set_cons_zero, set_cons_succ]
        refine wpAnyH_ready (rs := [12]) (by kernel_rfl) (by simp) ?_
        refine AllReadyH.cons rfl (fun K hK => ?_) AllReadyH.nil
        go_simp
        (refine (HS1.out _ (by assumption)).mono ?_; rintro e w2 ⟨rfl, hb2⟩)
        (try go_wp2_with fail)
        refine hK.out _ _ ?_ (fun hHeld => ?_)
        · exact HKB.out _ hb2
        clear hK K
        try simp only [getElem_toArray, getElem_cons_zero, getElem_cons_succ, Act.put, setIfInBounds_toArray, set_cons_zero, set_cons_succ]
        refine wpAnyH_take (i := 13) (v := .bool false) rfl (by kernel_rfl) (by kernel_rfl) (by kernel_rfl) (fun _ _ _ h => h) (Or.inl ⟨by rfl, ?y13_1⟩) hHeld ?_
        case y13_1 => (intro w hSw; (try dsimp only at hSw); go_simp; first | done | (with_reducible rfl))
        simp only [getElem_toArray, getElem_cons_zero, getElem_cons_succ, Act.put, setIfInBounds_toArray, set_cons_zero, set_cons_succ]
        refine wpAnyH_take (i := 14) (v := .bool false) rfl (by kernel_rfl) (by kernel_rfl) (by kernel_rfl) (fun _ _ _ h => h) (Or.inl ⟨by rfl, ?y14_1⟩) hHeld ?_
        case y14_1 => (intro w hSw; (try dsimp only at hSw); go_simp; first | done | (with_reducible rfl))
        simp only [getElem_toArray, getElem_cons_zero, getElem_cons_succ, Act.put, setIfInBounds_toArray, set_cons_zero, set_cons_succ]
        refine wpAnyH_take (i := 15) (v := .bool false) rfl (by kernel_rfl) (by kernel_rfl) (by kernel_rfl) (fun _ _ _ h => h) (Or.inl ⟨by rfl, ?y15_1⟩) hHeld ?_
        case y15_1 => (intro w hSw; (try dsimp only at hSw); go_simp; first | done | (with_reducible rfl))
        simp only [getElem_toArray, getElem_cons_zero, getElem_cons_succ, Act.put, setIfInBounds_toArray, set_cons_zero, set_cons_succ]
        refine wpAnyH_take (i := 16) (v := ?v16_1) rfl (by kernel_rfl) (by kernel_rfl) (by kernel_rfl) (fun _ _ _ h => h) (Or.inl ⟨by rfl, ?y16_1⟩) hHeld ?_
        case y16_1 => (intro w hSw; (try dsimp only at hSw); go_simp; first | done | (with_reducible rfl))
        simp only [getElem_toArray, getElem_cons_zero, getElem_cons_succ, Act.put, setIfInBounds_toArray, set_cons_zero, set_cons_succ]
        refine wpAnyH_take (i := 17) (v := ?v17_1) rfl (by kernel_rfl) (by kernel_rfl) (by kernel_rfl) (fun _ _ _ h => h) (Or.inl ⟨by rfl, ?y17_1⟩) hHeld ?_
        case y17_1 => (intro w hSw; (try dsimp only at hSw); go_simp; first | done | (with_reducible rfl))
        simp only [getElem_toArray, getElem_cons_zero, getElem_cons_succ, Act.put, setIfInBounds_toArray, set_cons_zero, set_cons_succ]
        refine wpAnyH_take (i := 18) (v := .bool false) rfl (by kernel_rfl) (by kernel_rfl) (by kernel_rfl) (fun _ _ _ h => h) (Or.inl ⟨by rfl, ?y18_1⟩) hHeld ?_
        case y18_1 => (intro w hSw; (try dsimp only at hSw); go_simp; first | done | (with_reducible rfl))
        simp only [getElem_toArray, getElem_cons_zero, getElem_cons_succ, Act.put, setIfInBounds_toArray, set_cons_zero, set_cons_succ]
        refine wpAnyH_take (i := 19) (v := .bool false) rfl (by kernel_rfl) (by kernel_rfl) (by kernel_rfl) (fun _ _ _ h => h) (Or.inl ⟨by rfl, ?y19_1⟩) hHeld ?_
        case y19_1 => (intro w hSw; (try dsimp only at hSw); go_simp; first | done | (with_reducible rfl))
        simp only [getElem_toArray, getElem_cons_zero, getElem_cons_succ, Act.put, setIfInBounds_toArray, set_cons_zero, set_cons_succ]
        refine wpAnyH_take (i := 20) (v := undef) rfl (by kernel_rfl) (by kernel_rfl) (by kernel_rfl) (fun _ _ _ h => h) (Or.inr ⟨by rfl, rfl⟩) hHeld ?_
        simp only [getElem_toArray, getElem_cons_zero, getElem_cons_succ, Act.put, setIfInBounds_toArray, set_cons_zero, set_cons_succ]
        refine wpAnyH_take (i := 21) (v := undef) rfl (by kernel_rfl) (by kernel_rfl) (by kernel_rfl) (fun _ _ _ h => h) (Or.inr ⟨by rfl, rfl⟩) hHeld ?_
        simp only [getElem_toArray, getElem_cons_zero, getElem_cons_succ, Act.put, setIfInBounds_toArray, set_cons_zero, set_cons_succ]
        refine wpAnyH_take (i := 22) (v := undef) rfl (by kernel_rfl) (by kernel_rfl) (by kernel_rfl) (fun _ _ _ h => h) (Or.inr ⟨by rfl, rfl⟩) hHeld ?_
        simp only [getElem_toArray, getElem_cons_zero, getElem_cons_succ, Act.put, setIfInBounds_toArray, set_cons_zero, set_cons_succ]
        refine wpAnyH_take (i := 23) (v := undef) rfl (by kernel_rfl) (by kernel_rfl) (by kernel_rfl) (fun _ _ _ h => h) (Or.inr ⟨by rfl, rfl⟩) hHeld ?_
        simp only [getElem_toArray, getElem_cons_zero, getElem_cons_succ, Act.put, setIfInBounds_toArray, set_cons_zero, set_cons_succ]
        refine wpAnyH_take (i := 24) (v := undef) rfl (by kernel_rfl) (by kernel_rfl) (by kernel_rfl) (fun _ _ _ h => h) (Or.inr ⟨by rfl, rfl⟩) hHeld ?_
        simp only [getElem_toArray, getElem_cons_zero, getElem_cons_succ, Act.put, setIfInBounds_toArray, set_cons_zero, set_cons_succ]
        refine wpAnyH_take (i := 25) (v := undef) rfl (by kernel_rfl) (by kernel_rfl) (by kernel_rfl) (fun _ _ _ h => h) (Or.inr ⟨by rfl, rfl⟩) hHeld ?_
        simp only [getElem_toArray, getElem_cons_zero, getElem_cons_succ, Act.put, setIfInBounds_toArray, set_cons_zero, set_cons_succ]
        refine wpAnyH_take (i := 26) (v := undef) rfl (by kernel_rfl) (by kernel_rfl) (by kernel_rfl) (fun _ _ _ h => h) (Or.inr ⟨by rfl, rfl⟩) hHeld ?_
        simp only [getElem_toArray, getElem_cons_zero, getElem_cons_succ, Act.put, setIfInBounds_toArray, set_cons_zero, set_cons_succ]
        refine wpAnyH_take (i := 27) (v := undef) rfl (by kernel_rfl) (by kernel_rfl) (by kernel_rfl) (fun _ _ _ h => h) (Or.inr ⟨by rfl, rfl⟩) hHeld ?_
        simp only [getElem_toArray, getElem_cons_zero, getElem_cons_succ, Act.put, setIfInBounds_toArray, set_cons_zero, set_cons_succ]
        refine wpAnyH_take (i := 28) (v := undef) rfl (by kernel_rfl) (by kernel_rfl) (by kernel_rfl) (fun _ _ _ h => h) (Or.inr ⟨by rfl, rfl⟩) hHeld ?_
        simp only [getElem_toArray, getElem_cons_zero, getElem_cons_succ, Act.put, setIfInBounds_toArray, set_cons_zero, set_cons_succ]
        refine wpAnyH_take (i := 29) (v := .bool false) rfl (by kernel_rfl) (by kernel_rfl) (by kernel_rfl) (fun _ _ _ h => h) (Or.inl ⟨by rfl, ?y29_1⟩) hHeld ?_
        case y29_1 => (intro w hSw; (try dsimp only at hSw); go_simp; first | done | (with_reducible rfl))
        simp only [getElem_toArray, getElem_cons_zero, getElem_cons_succ, Act.put, setIfInBounds_toArray, set_cons_zero, set_cons_succ]
        refine wpAnyH_take (i := 30) (v := .bool false) rfl (by kernel_rfl) (by kernel_rfl) (by kernel_rfl) (fun _ _ _ h => h) (Or.inl ⟨by rfl, ?y30_1⟩) hHeld ?_
        case y30_1 => (intro w hSw; (try dsimp only at hSw); go_simp; first | done | (with_reducible rfl))
        simp only [getElem_toArray, getElem_cons_zero, getElem_cons_succ, Act.put, setIfInBounds_toArray, set_cons_zero, set_cons_succ]
        refine wpAnyH_take (i := 31) (v := .bool false) rfl (by kernel_rfl) (by kernel_rfl) (by kernel_rfl) (fun _ _ _ h => h) (Or.inl ⟨by rfl, ?y31_1⟩) hHeld ?_
        case y31_1 => (intro w hSw; (try dsimp only at hSw); go_simp; first | done | (with_reducible rfl))
        simp only [getElem_toArray, getElem_cons_zero, getElem_cons_succ, Act.put, setIfInBounds_toArray, set_cons_zero, set_cons_succ]
        refine wpAnyH_take (i := 32) (v := ?v32_1) rfl (by kernel_rfl) (by kernel_rfl) (by kernel_rfl) (fun _ _ _ h => h) (Or.inl ⟨by rfl, ?y32_1⟩) hHeld ?_
        case y32_1 => (intro w hSw; (try dsimp only at hSw); go_simp; first | done | (with_reducible rfl))
        simp only [getElem_toArray, getElem_cons_zero, getElem_cons_succ, Act.put, setIfInBounds_toArray, set_cons_zero, set_cons_succ]
        refine wpAnyH_take (i := 33) (v := ?v33_1) rfl (by kernel_rfl) (by kernel_rfl) (by kernel_rfl) (fun _ _ _ h => h) (Or.inl ⟨by rfl, ?y33_1⟩) hHeld ?_
        case y33_1 => (intro w hSw; (try dsimp only at hSw); go_simp; first | done | (with_reducible rfl))
        simp only [getElem_toArray, getElem_cons_zero, getElem_cons_succ, Act.put, setIfInBounds_toArray, set_cons_zero, set_cons_succ]
        refine wpAnyH_take (i := 34) (v := ?v34_1) rfl (by kernel_rfl) (by kernel_rfl) (by kernel_rfl) (fun _ _ _ h => h) (Or.inl ⟨by rfl, ?y34_1⟩) hHeld ?_
        case y34_1 => (intro w hSw; (try dsimp only at hSw); go_simp; first | done | (with_reducible rfl))
        simp only [getElem_toArray, getElem_cons_zero, getElem_cons_succ, Act.put, setIfInBounds_toArray, set_cons_zero, set_cons_succ]
        refine wpAnyH_take (i := 35) (v := ?v35_1) rfl (by kernel_rfl) (by kernel_rfl) (by kernel_rfl) (fun _ _ _ h => h) (Or.inl ⟨by rfl, ?y35_1⟩) hHeld ?_
        case y35_1 => (intro w hSw; (try dsimp only at hSw); go_simp; first | done | (with_reducible rfl))
        simp only [getElem_toArray, getElem_cons_zero, getElem_cons_succ, Act.put, setIfInBounds_toArray, set_cons_zero, set_cons_succ]
        refine wpAnyH_take (i := 36) (v := ?v36_1) rfl (by kernel_rfl) (by kernel_rfl) (by kernel_rfl) (fun _ _ _ h => h) (Or.inl ⟨by rfl, ?y36_1⟩) hHeld ?_
        case y36_1 => (intro w hSw; (try dsimp only at hSw); go_simp; first | done | (with_reducible rfl))
        simp only [getElem_toArray, getElem_cons_zero, getElem_cons_succ, Act.put, setIfInBounds_toArray, set_cons_zero, set_cons_succ]
        refine wpAnyH_take (i := 37) (v := ?v37_1) rfl (by kernel_rfl) (by kernel_rfl) (by kernel_rfl) (fun _ _ _ h => h) (Or.inl ⟨by rfl, ?y37_1⟩) hHeld ?_
        case y37_1 => (intro w hSw; (try dsimp only at hSw); go_simp; first | done | (with_reducible rfl))
        simp only [getElem_toArray, getElem_cons_zero, getElem_cons_succ, Act.put, setIfInBounds_toArray, set_cons_zero, set_cons_succ]
        refine wpAnyH_take (i := 38) (v := ?v38_1) rfl (by kernel_rfl) (by kernel_rfl) (by kernel_rfl) (fun _ _ _ h => h) (Or.inl ⟨by rfl, ?y38_1⟩) hHeld ?_
        case y38_1 => (intro w hSw; (try dsimp only at hSw); go_simp; first | done | (with_reducible rfl))
        simp only [getElem_toArray, getElem_cons_zero, getElem_cons_succ, Act.put, setIfInBounds_toArray, set_cons_zero, set_cons_succ]
        refine wpAnyH_ready (rs := [39]) (by kernel_rfl) (by simp) ?_
        refine AllReadyH.cons rfl (fun K hK => ?_) AllReadyH.nil
        go_simp
        (refine (HS3.out _ (by assumption)).mono ?_; rintro e w2 ⟨rfl, hb2⟩)
        (try go_wp2_with fail)
        refine hK.out _ _ ?_ (fun hHeld => ?_)
        · exact HKB.out _ hb2
        clear hK K
        try simp only [getElem_toArray, getElem_cons_zero, getElem_cons_succ, Act.put, setIfInBounds_toArray, set_cons_zero, set_cons_succ]
        refine wpAnyH_take (i := 40) (v := .bool false) rfl (by kernel_rfl) (by kernel_rfl) (by kernel_rfl) (fun _ _ _ h => h) (Or.inl ⟨by rfl, ?y40_1⟩) hHeld ?_
        case y40_1 => (intro w hSw; (try dsimp only at hSw); go_simp; first | done | (with_reducible rfl))
        simp only [getElem_toArray, getElem_cons_zero, getElem_cons_succ, Act.put, setIfInBounds_toArray, set_cons_zero, set_cons_succ]
        refine wpAnyH_take (i := 41) (v := .bool false) rfl (by kernel_rfl) (by kernel_rfl) (by kernel_rfl) (fun _ _ _ h => h) (Or.inl ⟨by rfl, ?y41_1⟩) hHeld ?_
        case y41_1 => (intro w hSw; (try dsimp only at hSw); go_simp; first | done | (with_reducible rfl))
        simp only [getElem_toArray, getElem_cons_zero, getElem_cons_succ, Act.put, setIfInBounds_toArray, set_cons_zero, set_cons_succ]
        refine wpAnyH_done (by kernel_rfl) ?_ _
        refine NoPanic.normal ?_
        go_wp2_with fail
        have hbr : Below wb.heap.size wb w2 := hb2
        clear HS1 HS3 hdr
        go_loopg [10] ls.length (fun gk j wr => ∃ k : Nat, k ≤ ls.length ∧ j = .int .i64 k ∧ Aside (k + gk = ls.length) ∧ Below wb.heap.size wb wr)
        case atStart => exact ⟨0, Nat.zero_le _, rfl, by show _ = _; omega, hbr⟩
        case round =>
          clear hbr
          obtain ⟨k, hk, rfl, AG2, hB⟩ := hrel
          by_cases hkl : k < ls.length
          · obtain ⟨q2, rfl⟩ : ∃ q, gk = q + 1 := ⟨gk - 1, by have := AG2.out; omega⟩
            have hlks := HSH.out _ (List.getElem_mem hkl)
            have hO := HO4'.out k hkl
            have ck0 := HLS2.out k hkl
            obtain ⟨lk, hlk⟩ : ∃ lk, ls[k] = lk := ⟨_, rfl⟩
            rw [hlk] at hlks hO ck0
            clear hlk
            have HKB2 : Hid (∀ W, Below wb.heap.size wb W → W.cell? ⟨g, i, none⟩ = some (.string ⟨li.toArray⟩) ∧ W.cell? ⟨g, k, none⟩ = some (.string ⟨lk.toArray⟩) ∧ W.cell? ⟨ga, 2, none⟩ = some (.string ⟨([] : List UInt8).toArray⟩) ∧ Below wb.heap.size wb W) := Lib.hid fun W h => by
              have e1 : wb.cell? ⟨g, k, none⟩ = some (.string ⟨lk.toArray⟩) := (HB.out.cell (p := ⟨g, k, none⟩) (cell_lt ck0)).trans ck0
              obtain ⟨h1, h2, h3, h4⟩ := HKB.out W h
              exact ⟨h1, (h.cell (p := ⟨g, k, none⟩) (cell_lt e1)).trans e1, h3, h4⟩
            have hk0 : (0 : Int) ≤ (k : Int) := by omega
            have hk1 : (k : Int) < (ls.length : Int) := by omega
            obtain ⟨r1, hr1⟩ : ∃ r, isSubD L li lk = r := ⟨_, rfl⟩
            obtain ⟨r2, hr2⟩ : ∃ r, isSubD L lk li = r := ⟨_, rfl⟩
            rw [hr1, hr2] at hO
            have HI1 : Hid (∀ W : World, Below wb.heap.size wb W → Calls Tryz.prog 14 #[.pointer (some ⟨s, 0, none⟩), .string ⟨li.toArray⟩, .string ⟨lk.toArray⟩] W fun e w' => e = .returned (.bool r1) ∧ Below wb.heap.size wb w') := Lib.hid (HSBb.out li lk r1 hlis hlks hr1)
            have HI2 : Hid (∀ W : World, Below wb.heap.size wb W → Calls Tryz.prog 14 #[.pointer (some ⟨s, 0, none⟩), .string ⟨lk.toArray⟩, .string ⟨li.toArray⟩] W fun e w' => e = .returned (.bool r2) ∧ Below wb.heap.size wb w') := Lib.hid (HSBb.out lk li r2 hlks hlis hr2)
            have HO := Lib.hid hO
            clear hO hr1 hr2 ck0 HO4' HLS2 HKB HSBb HTX HSH
            by_cases hik : i = k
            · subst hik
              have hll : li = lk := by
                obtain ⟨h1, h2, _⟩ := HKB2.out _ (Below.refl _ _)
                rw [h1] at h2
                simpa using h2
              subst hll
              as_aux_lemma =>
                go_wp2_with fail
                have hdr : Below wb.heap.size wb wr.drew := hB.drew
                refine wp_region_noPanic ?_
                refine wp_region_held_drew (S := (fun W => W.cell? ⟨g, i, none⟩ = some (.string ⟨li.toArray⟩) ∧ W.cell? ⟨g, i, none⟩ = some (.string ⟨li.toArray⟩) ∧ W.cell? ⟨ga, 2, none⟩ = some (.string ⟨([] : List UInt8).toArray⟩) ∧ Below wb.heap.size wb W)) (by kernel_rfl) ?_ (fun hHeld => ?_)
                · exact HKB2.out _ hdr
                refine wpAnyH_take (i := 0) (v := ?v0_2) rfl (by kernel_rfl) (by kernel_rfl) (by kernel_rfl) (fun _ _ _ h => h) (Or.inl ⟨by rfl, ?y0_2⟩) hHeld ?_
                case y0_2 => (intro w hSw; (try dsimp only at hSw); go_simp; first | done | (with_reducible rfl))
                simp only [getElem_toArray, getElem_cons_zero, getElem_cons_succ, Act.put, setIfInBounds_toArray, set_cons_zero, set_cons_succ]
                refine wpAnyH_take (i := 1) (v := ?v1_2) rfl (by kernel_rfl) (by kernel_rfl) (by kernel_rfl) (fun _ _ _ h => h) (Or.inl ⟨by rfl, ?y1_2⟩) hHeld ?_
                case y1_2 => (intro w hSw; (try dsimp only at hSw); go_simp; first | done | (with_reducible rfl))
                simp only [getElem_toArray, getElem_cons_zero, getElem_cons_succ, Act.put, setIfInBounds_toArray, set_cons_zero, set_cons_succ]
                refine wpAnyH_take (i := 2) (v := .bool false) rfl (by kernel_rfl) (by kernel_rfl) (by kernel_rfl) (fun _ _ _ h => h) (Or.inl ⟨by rfl, ?y2_2⟩) hHeld ?_
                case y2_2 => (intro w hSw; (try dsimp only at hSw); go_simp; first | done | (with_reducible rfl))
                simp only [getElem_toArray, getElem_cons_zero, getElem_cons_succ, Act.put, setIfInBounds_toArray, set_cons_zero, set_cons_succ]
                refine wpAnyH_take (i := 3) (v := .bool false) rfl (by kernel_rfl) (by kernel_rfl) (by kernel_rfl) (fun _ _ _ h => h) (Or.inl ⟨by rfl, ?y3_2⟩) hHeld ?_
                case y3_2 => (intro w hSw; (try dsimp only at hSw); go_simp; first | done | (with_reducible rfl))
                simp only [getElem_toArray, getElem_cons_zero, getElem_cons_succ, Act.put, setIfInBounds_toArray, set_cons_zero, set_cons_succ]
                refine wpAnyH_take (i := 4) (v := undef) rfl (by kernel_rfl) (by kernel_rfl) (by kernel_rfl) (fun _ _ _ h => h) (Or.inr ⟨by rfl, rfl⟩) hHeld ?_
                simp only [getElem_toArray, getElem_cons_zero, getElem_cons_succ, Act.put, setIfInBounds_toArray, set_cons_zero, set_cons_succ]
                refine wpAnyH_take (i := 5) (v := undef) rfl (by kernel_rfl) (by kernel_rfl) (by kernel_rfl) (fun _ _ _ h => h) (Or.inr ⟨by rfl, rfl⟩) hHeld ?_
                simp only [getElem_toArray, getElem_cons_zero, getElem_cons_succ, Act.put, setIfInBounds_toArray, set_cons_zero, set_cons_succ]
                refine wpAnyH_take (i := 6) (v := undef) rfl (by kernel_rfl) (by kernel_rfl) (by kernel_rfl) (fun _ _ _ h => h) (Or.inr ⟨by rfl, rfl⟩) hHeld ?_
                simp only [getElem_toArray, getElem_cons_zero, getElem_cons_succ, Act.put, setIfInBounds_toArray, set_cons_zero, set_cons_succ]
                refine wpAnyH_take (i := 7) (v := undef) rfl (by kernel_rfl) (by kernel_rfl) (by kernel_rfl) (fun _ _ _ h => h) (Or.inr ⟨by rfl, rfl⟩) hHeld ?_
                simp only [getElem_toArray, getElem_cons_zero, getElem_cons_succ, Act.put, setIfInBounds_toArray, set_cons_zero, set_cons_succ]
                refine wpAnyH_take (i := 8) (v := undef) rfl (by kernel_rfl) (by kernel_rfl) (by kernel_rfl) (fun _ _ _ h => h) (Or.inr ⟨by rfl, rfl⟩) hHeld ?_
                simp only [getElem_toArray, getElem_cons_zero, getElem_cons_succ, Act.put, setIfInBounds_toArray, set_cons_zero, set_cons_succ]
                refine wpAnyH_take (i := 9) (v := undef) rfl (by kernel_rfl) (by kernel_rfl) (by kernel_rfl) (fun _ _ _ h => h) (Or.inr ⟨by rfl, rfl⟩) hHeld ?_
                simp only [getElem_toArray, getElem_cons_zero, getElem_cons_succ, Act.put, setIfInBounds_toArray, set_cons_zero, set_cons_succ]
                refine wpAnyH_take (i := 10) (v := undef) rfl (by kernel_rfl) (by kernel_rfl) (by kernel_rfl) (fun _ _ _ h => h) (Or.inr ⟨by rfl, rfl⟩) hHeld ?_
                simp only [getElem_toArray, getElem_cons_zero, getElem_cons_succ, Act.put, setIfInBounds_toArray, set_cons_zero, set_cons_succ]
                refine wpAnyH_take (i := 11) (v := undef) rfl (by kernel_rfl) (by kernel_rfl) (by kernel_rfl) (fun _ _ _ h => h) (Or.inr ⟨by rfl, rfl⟩) hHeld ?_
                simp only [getElem_toArray, getElem_cons_zero, getElem_cons_succ, Act.put, setIfInBounds_toArray, set_cons_zero, set_cons_succ]
                refine wpAnyH_take (i := 12) (v := undef) rfl (by kernel_rfl) (by kernel_rfl) (by kernel_rfl) (fun _ _ _ h => h) (Or.inr ⟨by rfl, rfl⟩) hHeld ?_
                simp only [getElem_toArray, getElem_cons_zero, getElem_cons_succ, Act.put, setIfInBounds_toArray, set_cons_zero, set_cons_succ]
                refine wpAnyH_take (i := 13) (v := undef) rfl (by kernel_rfl) (by kernel_rfl) (by kernel_rfl) (fun _ _ _ h => h) (Or.inr ⟨by rfl, rfl⟩) hHeld ?_
                simp only [getElem_toArray, getElem_cons_zero, getElem_cons_succ, Act.put, setIfInBounds_toArray, set_cons_zero, set_cons_succ]
                refine wpAnyH_take (i := 14) (v := .bool false) rfl (by kernel_rfl) (by kernel_rfl) (by kernel_rfl) (fun _ _ _ h => h) (Or.inl ⟨by rfl, ?y14_2⟩) hHeld ?_
                case y14_2 => (intro w hSw; (try dsimp only at hSw); go_simp; first | done | (with_reducible rfl))
                simp only [getElem_toArray, getElem_cons_zero, getElem_cons_succ, Act.put, setIfInBounds_toArray, set_cons_zero, set_cons_succ]
                refine wpAnyH_take (i := 15) (v := .bool false) rfl (by kernel_rfl) (by kernel_rfl) (by kernel_rfl) (fun _ _ _ h => h) (Or.inl ⟨by rfl, ?y15_2⟩) hHeld ?_
                case y15_2 => (intro w hSw; (try dsimp only at hSw); go_simp; first | done | (with_reducible rfl))
                simp only [getElem_toArray, getElem_cons_zero, getElem_cons_succ, Act.put, setIfInBounds_toArray, set_cons_zero, set_cons_succ]
                refine wpAnyH_take (i := 16) (v := undef) rfl (by kernel_rfl) (by kernel_rfl) (by kernel_rfl) (fun _ _ _ h => h) (Or.inr ⟨by rfl, rfl⟩) hHeld ?_
                simp only [getElem_toArray, getElem_cons_zero, getElem_cons_succ, Act.put, setIfInBounds_toArray, set_cons_zero, set_cons_succ]
                refine wpAnyH_take (i := 17) (v := undef) rfl (by kernel_rfl) (by kernel_rfl) (by kernel_rfl) (fun _ _ _ h => h) (Or.inr ⟨by rfl, rfl⟩) hHeld ?_
                simp only [getElem_toArray, getElem_cons_zero, getElem_cons_succ, Act.put, setIfInBounds_toArray, set_cons_zero, set_cons_succ]
                refine wpAnyH_take (i := 18) (v := undef) rfl (by kernel_rfl) (by kernel_rfl) (by kernel_rfl) (fun _ _ _ h => h) (Or.inr ⟨by rfl, rfl⟩) hHeld ?_
                simp only [getElem_toArray, getElem_cons_zero, getElem_cons_succ, Act.put, setIfInBounds_toArray, set_cons_zero, set_cons_succ]
                refine wpAnyH_take (i := 19) (v := undef) rfl (by kernel_rfl) (by kernel_rfl) (by kernel_rfl) (fun _ _ _ h => h) (Or.inr ⟨by rfl, rfl⟩) hHeld ?_
                simp only [getElem_toArray, getElem_cons_zero, getElem_cons_succ, Act.put, setIfInBounds_toArray, set_cons_zero, set_cons_succ]
                refine wpAnyH_take (i := 20) (v := undef) rfl (by kernel_rfl) (by kernel_rfl) (by kernel_rfl) (fun _ _ _ h => h) (Or.inr ⟨by rfl, rfl⟩) hHeld ?_
                simp only [getElem_toArray, getElem_cons_zero, getElem_cons_succ, Act.put, setIfInBounds_toArray, set_cons_zero, set_cons_succ]
                refine wpAnyH_take (i := 21) (v := undef) rfl (by kernel_rfl) (by kernel_rfl) (by kernel_rfl) (fun _ _ _ h => h) (Or.inr ⟨by rfl, rfl⟩) hHeld ?_
                simp only [getElem_toArray, getElem_cons_zero, getElem_cons_succ, Act.put, setIfInBounds_toArray, set_cons_zero, set_cons_succ]
                refine wpAnyH_take (i := 22) (v := undef) rfl (by kernel_rfl) (by kernel_rfl) (by kernel_rfl) (fun _ _ _ h => h) (Or.inr ⟨by rfl, rfl⟩) hHeld ?_
                simp only [getElem_toArray, getElem_cons_zero, getElem_cons_succ, Act.put, setIfInBounds_toArray, set_cons_zero, set_cons_succ]
                refine wpAnyH_take (i := 23) (v := undef) rfl (by kernel_rfl) (by kernel_rfl) (by kernel_rfl) (fun _ _ _ h => h) (Or.inr ⟨by rfl, rfl⟩) hHeld ?_
                simp only [getElem_toArray, getElem_cons_zero, getElem_cons_succ, Act.put, setIfInBounds_toArray, set_cons_zero, set_cons_succ]
                refine wpAnyH_take (i := 24) (v := undef) rfl (by kernel_rfl) (by kernel_rfl) (by kernel_rfl) (fun _ _ _ h => h) (Or.inr ⟨by rfl, rfl⟩) hHeld ?_
                simp only [getElem_toArray, getElem_cons_zero, getElem_cons_succ, Act.put, setIfInBounds_toArray, set_cons_zero, set_cons_succ]
                refine wpAnyH_take (i := 25) (v := undef) rfl (by kernel_rfl) (by kernel_rfl) (by kernel_rfl) (fun _ _ _ h => h) (Or.inr ⟨by rfl, rfl⟩) hHeld ?_
                simp only [getElem_toArray, getElem_cons_zero, getElem_cons_succ, Act.put, setIfInBounds_toArray, set_cons_zero, set_cons_succ]
                refine wpAnyH_take (i := 26) (v := .bool false) rfl (by kernel_rfl) (by kernel_rfl) (by kernel_rfl) (fun _ _ _ h => h) (Or.inl ⟨by rfl, ?y26_2⟩) hHeld ?_
                case y26_2 => (intro w hSw; (try dsimp only at hSw); go_simp; first | done | (with_reducible rfl))
                simp only [getElem_toArray, getElem_cons_zero, getElem_cons_succ, Act.put, setIfInBounds_toArray, set_cons_zero, set_cons_succ]
                refine wpAnyH_take (i := 27) (v := .bool false) rfl (by kernel_rfl) (by kernel_rfl) (by kernel_rfl) (fun _ _ _ h => h) (Or.inl ⟨by rfl, ?y27_2⟩) hHeld ?_
                case y27_2 => (intro w hSw; (try dsimp only at hSw); go_simp; first | done | (with_reducible rfl))
                simp only [getElem_toArray, getElem_cons_zero, getElem_cons_succ, Act.put, setIfInBounds_toArray, set_cons_zero, set_cons_succ]
                refine wpAnyH_take (i := 28) (v := ?v28_2) rfl (by kernel_rfl) (by kernel_rfl) (by kernel_rfl) (fun _ _ _ h => h) (Or.inl ⟨by rfl, ?y28_2⟩) hHeld ?_
                case y28_2 => (intro w hSw; (try dsimp only at hSw); go_simp; first | done | (with_reducible rfl))
                simp only [getElem_toArray, getElem_cons_zero, getElem_cons_succ, Act.put, setIfInBounds_toArray, set_cons_zero, set_cons_succ]
                refine wpAnyH_take (i := 29) (v := ?v29_2) rfl (by kernel_rfl) (by kernel_rfl) (by kernel_rfl) (fun _ _ _ h => h) (Or.inl ⟨by rfl, ?y29_2⟩) hHeld ?_
                case y29_2 => (intro w hSw; (try dsimp only at hSw); go_simp; first | done | (with_reducible rfl))
                simp only [getElem_toArray, getElem_cons_zero, getElem_cons_succ, Act.put, setIfInBounds_toArray, set_cons_zero, set_cons_succ]
                refine wpAnyH_take (i := 30) (v := .bool false) rfl (by kernel_rfl) (by kernel_rfl) (by kernel_rfl) (fun _ _ _ h => h) (Or.inl ⟨by rfl, ?y30_2⟩) hHeld ?_
                case y30_2 => (intro w hSw; (try dsimp only at hSw); go_simp; first | done | (with_reducible rfl))
                simp only [getElem_toArray, getElem_cons_zero, getElem_cons_succ, Act.put, setIfInBounds_toArray, set_cons_zero, set_cons_succ]
                refine wpAnyH_take (i := 31) (v := .bool false) rfl (by kernel_rfl) (by kernel_rfl) (by kernel_rfl) (fun _ _ _ h => h) (Or.inl ⟨by rfl, ?y31_2⟩) hHeld ?_
                case y31_2 => (intro w hSw; (try dsimp only at hSw); go_simp; first | done | (with_reducible rfl))
                simp only [getElem_toArray, getElem_cons_zero, getElem_cons_succ, Act.put, setIfInBounds_toArray, set_cons_zero, set_cons_succ]
                refine wpAnyH_take (i := 32) (v := undef) rfl (by kernel_rfl) (by kernel_rfl) (by kernel_rfl) (fun _ _ _ h => h) (Or.inr ⟨by rfl, rfl⟩) hHeld ?_
                simp only [getElem_toArray, getElem_cons_zero, getElem_cons_succ, Act.put, setIfInBounds_toArray, set_cons_zero, set_cons_succ]
                refine wpAnyH_take (i := 33) (v := undef) rfl (by kernel_rfl) (by kernel_rfl) (by kernel_rfl) (fun _ _ _ h => h) (Or.inr ⟨by rfl, rfl⟩) hHeld ?_
                simp only [getElem_toArray, getElem_cons_zero, getElem_cons_succ, Act.put, setIfInBounds_toArray, set_cons_zero, set_cons_succ]
                refine wpAnyH_take (i := 34) (v := undef) rfl (by kernel_rfl) (by kernel_rfl) (by kernel_rfl) (fun _ _ _ h => h) (Or.inr ⟨by rfl, rfl⟩) hHeld ?_
                simp only [getElem_toArray, getElem_cons_zero, getElem_cons_succ, Act.put, setIfInBounds_toArray, set_cons_zero, set_cons_succ]
                refine wpAnyH_take (i := 35) (v := undef) rfl (by kernel_rfl) (by kernel_rfl) (by kernel_rfl) (fun _ _ _ h => h) (Or.inr ⟨by rfl, rfl⟩) hHeld ?_
                simp only [getElem_toArray, getElem_cons_zero, getElem_cons_succ, Act.put, setIfInBounds_toArray, set_cons_zero, set_cons_succ]
                refine wpAnyH_take (i := 36) (v := undef) rfl (by kernel_rfl) (by kernel_rfl) (by kernel_rfl) (fun _ _ _ h => h) (Or.inr ⟨by rfl, rfl⟩) hHeld ?_
                simp only [getElem_toArray, getElem_cons_zero, getElem_cons_succ, Act.put, setIfInBounds_toArray, set_cons_zero, set_cons_succ]
                refine wpAnyH_take (i := 37) (v := undef) rfl (by kernel_rfl) (by kernel_rfl) (by kernel_rfl) (fun _ _ _ h => h) (Or.inr ⟨by rfl, rfl⟩) hHeld ?_
                simp only [getElem_toArray, getElem_cons_zero, getElem_cons_succ, Act.put, setIfInBounds_toArray, set_cons_zero, set_cons_succ]
                refine wpAnyH_take (i := 38) (v := undef) rfl (by kernel_rfl) (by kernel_rfl) (by kernel_rfl) (fun _ _ _ h => h) (Or.inr ⟨by rfl, rfl⟩) hHeld ?_
                simp only [getElem_toArray, getElem_cons_zero, getElem_cons_succ, Act.put, setIfInBounds_toArray, set_cons_zero, set_cons_succ]
                refine wpAnyH_take (i := 39) (v := undef) rfl (by kernel_rfl) (by kernel_rfl) (by kernel_rfl) (fun _ _ _ h => h) (Or.inr ⟨by rfl, rfl⟩) hHeld ?_
                simp only [getElem_toArray, getElem_cons_zero, getElem_cons_succ, Act.put, setIfInBounds_toArray, set_cons_zero, set_cons_succ]
                refine wpAnyH_take (i := 40) (v := .bool false) rfl (by kernel_rfl) (by kernel_rfl) (by kernel_rfl) (fun _ _ _ h => h) (Or.inl ⟨by rfl, ?y40_2⟩) hHeld ?_
                case y40_2 => (intro w hSw; (try dsimp only at hSw); go_simp; first | done | (with_reducible rfl))
                simp only [getElem_toArray, getElem_cons_zero, getElem_cons_succ, Act.put, setIfInBounds_toArray, set_cons_zero, set_cons_succ]
                refine wpAnyH_take (i := 41) (v := .bool false) rfl (by kernel_rfl) (by kernel_rfl) (by kernel_rfl) (fun _ _ _ h => h) (Or.inl ⟨by rfl, ?y41_2⟩) hHeld ?_
                case y41_2 => (intro w hSw; (try dsimp only at hSw); go_simp; first | done | (with_reducible rfl))
                simp only [getElem_toArray, getElem_cons_zero, getElem_cons_succ, Act.put, setIfInBounds_toArray, set_cons_zero, set_cons_succ]
                refine wpAnyH_take (i := 42) (v := undef) rfl (by kernel_rfl) (by kernel_rfl) (by kernel_rfl) (fun _ _ _ h => h) (Or.inr ⟨by rfl, rfl⟩) hHeld ?_
                simp only [getElem_toArray, getElem_cons_zero, getElem_cons_succ, Act.put, setIfInBounds_toArray, set_cons_zero, set_cons_succ]
                refine wpAnyH_take (i := 43) (v := undef) rfl (by kernel_rfl) (by kernel_rfl) (by kernel_rfl) (fun _ _ _ h => h) (Or.inr ⟨by rfl, rfl⟩) hHeld ?_
                simp only [getElem_toArray, getElem_cons_zero, getElem_cons_succ, Act.put, setIfInBounds_toArray, set_cons_zero, set_cons_succ]
                refine wpAnyH_take (i := 44) (v := undef) rfl (by kernel_rfl) (by kernel_rfl) (by kernel_rfl) (fun _ _ _ h => h) (Or.inr ⟨by rfl, rfl⟩) hHeld ?_
                simp only [getElem_toArray, getElem_cons_zero, getElem_cons_succ, Act.put, setIfInBounds_toArray, set_cons_zero, set_cons_succ]
                refine wpAnyH_take (i := 45) (v := undef) rfl (by kernel_rfl) (by kernel_rfl) (by kernel_rfl) (fun _ _ _ h => h) (Or.inr ⟨by rfl, rfl⟩) hHeld ?_
                simp only [getElem_toArray, getElem_cons_zero, getElem_cons_succ, Act.put, setIfInBounds_toArray, set_cons_zero, set_cons_succ]
                refine wpAnyH_take (i := 46) (v := undef) rfl (by kernel_rfl) (by kernel_rfl) (by kernel_rfl) (fun _ _ _ h => h) (Or.inr ⟨by rfl, rfl⟩) hHeld ?_
                simp only [getElem_toArray, getElem_cons_zero, getElem_cons_succ, Act.put, setIfInBounds_toArray, set_cons_zero, set_cons_succ]
                refine wpAnyH_take (i := 47) (v := undef) rfl (by kernel_rfl) (by kernel_rfl) (by kernel_rfl) (fun _ _ _ h => h) (Or.inr ⟨by rfl, rfl⟩) hHeld ?_
                simp only [getElem_toArray, getElem_cons_zero, getElem_cons_succ, Act.put, setIfInBounds_toArray, set_cons_zero, set_cons_succ]
                refine wpAnyH_take (i := 48) (v := undef) rfl (by kernel_rfl) (by kernel_rfl) (by kernel_rfl) (fun _ _ _ h => h) (Or.inr ⟨by rfl, rfl⟩) hHeld ?_
                simp only [getElem_toArray, getElem_cons_zero, getElem_cons_succ, Act.put, setIfInBounds_toArray, set_cons_zero, set_cons_succ]
                refine wpAnyH_take (i := 49) (v := undef) rfl (by kernel_rfl) (by kernel_rfl) (by kernel_rfl) (fun _ _ _ h => h) (Or.inr ⟨by rfl, rfl⟩) hHeld ?_
                simp only [getElem_toArray, getElem_cons_zero, getElem_cons_succ, Act.put, setIfInBounds_toArray, set_cons_zero, set_cons_succ]
                refine wpAnyH_take (i := 50) (v := undef) rfl (by kernel_rfl) (by kernel_rfl) (by kernel_rfl) (fun _ _ _ h => h) (Or.inr ⟨by rfl, rfl⟩) hHeld ?_
                simp only [getElem_toArray, getElem_cons_zero, getElem_cons_succ, Act.put, setIfInBounds_toArray, set_cons_zero, set_cons_succ]
                refine wpAnyH_take (i := 51) (v := undef) rfl (by kernel_rfl) (by kernel_rfl) (by kernel_rfl) (fun _ _ _ h => h) (Or.inr ⟨by rfl, rfl⟩) hHeld ?_
                simp only [getElem_toArray, getElem_cons_zero, getElem_cons_succ, Act.put, setIfInBounds_toArray, set_cons_zero, set_cons_succ]
                refine wpAnyH_take (i := 52) (v := undef) rfl (by kernel_rfl) (by kernel_rfl) (by kernel_rfl) (fun _ _ _ h => h) (Or.inr ⟨by rfl, rfl⟩) hHeld ?_
                simp only [getElem_toArray, getElem_cons_zero, getElem_cons_succ, Act.put, setIfInBounds_toArray, set_cons_zero, set_cons_succ]
                refine wpAnyH_take (i := 53) (v := .bool false) rfl (by kernel_rfl) (by kernel_rfl) (by kernel_rfl) (fun _ _ _ h => h) (Or.inl ⟨by rfl, ?y53_2⟩) hHeld ?_
                case y53_2 => (intro w hSw; (try dsimp only at hSw); go_simp; first | done | (with_reducible rfl))
                simp only [getElem_toArray, getElem_cons_zero, getElem_cons_succ, Act.put, setIfInBounds_toArray, set_cons_zero, set_cons_succ]
                refine wpAnyH_take (i := 54) (v := .bool false) rfl (by kernel_rfl) (by kernel_rfl) (by kernel_rfl) (fun _ _ _ h => h) (Or.inl ⟨by rfl, ?y54_2⟩) hHeld ?_
                case y54_2 => (intro w hSw; (try dsimp only at hSw); go_simp; first | done | (with_reducible rfl))
                simp only [getElem_toArray, getElem_cons_zero, getElem_cons_succ, Act.put, setIfInBounds_toArray, set_cons_zero, set_cons_succ]
                refine wpAnyH_done (by kernel_rfl) ?_ _
                refine NoPanic.normal ?_
                go_wp2_with fail
                go_roundg q2
                case measure => omega
                case rel => exact ⟨i + 1, by omega, by go_num, by have := AG2.out; show _ = _; omega, hdr⟩
            · have hikv : ((i : Int) != (k : Int)) = true := bne_iff_ne.2 (by omega)
              cases r1
              · as_aux_lemma =>
                  go_wp2_with fail
                  have hdr : Below wb.heap.size wb wr.drew := hB.drew
                  refine wp_region_noPanic ?_
                  refine wp_region_held_drew (S := (fun W => W.cell? ⟨g, i, none⟩ = some (.string ⟨li.toArray⟩) ∧ W.cell? ⟨g, k, none⟩ = some (.string ⟨lk.toArray⟩) ∧ W.cell? ⟨ga, 2, none⟩ = some (.string ⟨([] : List UInt8).toArray⟩) ∧ Below wb.heap.size wb W)) (by kernel_rfl) ?_ (fun hHeld => ?_)
                  · exact HKB2.out _ hdr
                  refine wpAnyH_take (i := 0) (v := ?v0_3) rfl (by kernel_rfl) (by kernel_rfl) (by kernel_rfl) (fun _ _ _ h => h) (Or.inl ⟨by rfl, ?y0_3⟩) hHeld ?_
                  case y0_3 => (intro w hSw; (try dsimp only at hSw); go_simp; first | done | (with_reducible rfl))
                  simp only [getElem_toArray, getElem_cons_zero, getElem_cons_succ, Act.put, setIfInBounds_toArray, set_cons_zero, set_cons_succ]
                  refine wpAnyH_take (i := 1) (v := ?v1_3) rfl (by kernel_rfl) (by kernel_rfl) (by kernel_rfl) (fun _ _ _ h => h) (Or.inl ⟨by rfl, ?y1_3⟩) hHeld ?_
                  case y1_3 => (intro w hSw; (try dsimp only at hSw); go_simp; first | done | (with_reducible rfl))
                  simp only [getElem_toArray, getElem_cons_zero, getElem_cons_succ, Act.put, setIfInBounds_toArray, set_cons_zero, set_cons_succ]
                  refine wpAnyH_take (i := 2) (v := .bool true) rfl (by kernel_rfl) (by kernel_rfl) (by kernel_rfl) (fun _ _ _ h => h) (Or.inl ⟨by rfl, ?y2_3⟩) hHeld ?_
                  case y2_3 => (intro w hSw; (try dsimp only at hSw); go_simp; first | done | (with_reducible rfl))
                  simp only [getElem_toArray, getElem_cons_zero, getElem_cons_succ, Act.put, setIfInBounds_toArray, set_cons_zero, set_cons_succ]
                  refine wpAnyH_take (i := 3) (v := ?v3_3) rfl (by kernel_rfl) (by kernel_rfl) (by kernel_rfl) (fun _ _ _ h => h) (Or.inl ⟨by rfl, ?y3_3⟩) hHeld ?_
                  case y3_3 => (intro w hSw; (try dsimp only at hSw); go_simp; first | done | (with_reducible rfl))
                  simp only [getElem_toArray, getElem_cons_zero, getElem_cons_succ, Act.put, setIfInBounds_toArray, set_cons_zero, set_cons_succ]
                  refine wpAnyH_take (i := 4) (v := ?v4_3) rfl (by kernel_rfl) (by kernel_rfl) (by kernel_rfl) (fun _ _ _ h => h) (Or.inl ⟨by rfl, ?y4_3⟩) hHeld ?_
                  case y4_3 => (intro w hSw; (try dsimp only at hSw); go_simp; first | done | (with_reducible rfl))
                  simp only [getElem_toArray, getElem_cons_zero, getElem_cons_succ, Act.put, setIfInBounds_toArray, set_cons_zero, set_cons_succ]
                  refine wpAnyH_take (i := 5) (v := ?v5_3) rfl (by kernel_rfl) (by kernel_rfl) (by kernel_rfl) (fun _ _ _ h => h) (Or.inl ⟨by rfl, ?y5_3⟩) hHeld ?_
                  case y5_3 => (intro w hSw; (try dsimp only at hSw); go_simp; first | done | (with_reducible rfl))
                  simp only [getElem_toArray, getElem_cons_zero, getElem_cons_succ, Act.put, setIfInBounds_toArray, set_cons_zero, set_cons_succ]
                  refine wpAnyH_take (i := 6) (v := ?v6_3) rfl (by kernel_rfl) (by kernel_rfl) (by kernel_rfl) (fun _ _ _ h => h) (Or.inl ⟨by rfl, ?y6_3⟩) hHeld ?_
                  case y6_3 => (intro w hSw; (try dsimp only at hSw); go_simp; first | done | (with_reducible rfl))
                  simp only [getElem_toArray, getElem_cons_zero, getElem_cons_succ, Act.put, setIfInBounds_toArray, set_cons_zero, set_cons_succ]
                  refine wpAnyH_take (i := 7) (v := ?v7_3) rfl (by kernel_rfl) (by kernel_rfl) (by kernel_rfl) (fun _ _ _ h => h) (Or.inl ⟨by rfl, ?y7_3⟩) hHeld ?_
                  case y7_3 => (intro w hSw; (try dsimp only at hSw); go_simp; first | done | (with_reducible rfl))
                  simp only [getElem_toArray, getElem_cons_zero, getElem_cons_succ, Act.put, setIfInBounds_toArray, set_cons_zero, set_cons_succ]
                  refine wpAnyH_take (i := 8) (v := ?v8_3) rfl (by kernel_rfl) (by kernel_rfl) (by kernel_rfl) (fun _ _ _ h => h) (Or.inl ⟨by rfl, ?y8_3⟩) hHeld ?_
                  case y8_3 => (intro w hSw; (try dsimp only at hSw); go_simp; first | done | (with_reducible rfl))
                  simp only [getElem_toArray, getElem_cons_zero, getElem_cons_succ, Act.put, setIfInBounds_toArray, set_cons_zero, set_cons_succ]
                  refine wpAnyH_take (i := 9) (v := ?v9_3) rfl (by kernel_rfl) (by kernel_rfl) (by kernel_rfl) (fun _ _ _ h => h) (Or.inl ⟨by rfl, ?y9_3⟩) hHeld ?_
                  case y9_3 => (intro w hSw; (try dsimp only at hSw); go_simp; first | done | (with_reducible rfl))
                  simp only [getElem_toArray, getElem_cons_zero, getElem_cons_succ, Act.put, setIfInBounds_toArray, set_cons_zero, set_cons_succ]
                  refine wpAnyH_take (i := 10) (v := ?v10_3) rfl (by kernel_rfl) (by kernel_rfl) (by kernel_rfl) (fun _ _ _ h => h) (Or.inl ⟨by rfl, ?y10_3⟩) hHeld ?_
                  case y10_3 => (intro w hSw; (try dsimp only at hSw); go_simp; first | done | (with_reducible rfl))
                  simp only [getElem_toArray, getElem_cons_zero, getElem_cons_succ, Act.put, setIfInBounds_toArray, set_cons_zero, set_cons_succ]
                  refine wpAnyH_take (i := 11) (v := ?v11_3) rfl (by kernel_rfl) (by kernel_rfl) (by kernel_rfl) (fun _ _ _ h => h) (Or.inl ⟨by rfl, ?y11_3⟩) hHeld ?_
                  case y11_3 => (intro w hSw; (try dsimp only at hSw); go_simp; first | done | (with_reducible rfl))
                  simp only [getElem_toArray, getElem_cons_zero, getElem_cons_succ, Act.put, setIfInBounds_toArray, set_cons_zero, set_cons_succ]
                  refine wpAnyH_take (i := 12) (v := ?v12_3) rfl (by kernel_rfl) (by kernel_rfl) (by kernel_rfl) (fun _ _ _ h => h) (Or.inl ⟨by rfl, ?y12_3⟩) hHeld ?_
                  case y12_3 => (intro w hSw; (try dsimp only at hSw); go_simp; first | done | (with_reducible rfl))
                  simp only [getElem_toArray, getElem_cons_zero, getElem_cons_succ, Act.put, setIfInBounds_toArray, set_cons_zero, set_cons_succ]
                  refine wpAnyH_ready (rs := [13]) (by kernel_rfl) (by simp) ?_
                  refine AllReadyH.cons rfl (fun K hK => ?_) AllReadyH.nil
                  go_simp
                  (refine (HI1.out _ (by assumption)).mono ?_; rintro e w2 ⟨rfl, hb2⟩)
                  (try go_wp2_with fail)
                  refine hK.out _ _ ?_ (fun hHeld => ?_)
                  · exact HKB2.out _ hb2
                  clear hK K
                  try simp only [getElem_toArray, getElem_cons_zero, getElem_cons_succ, Act.put, setIfInBounds_toArray, set_cons_zero, set_cons_succ]
                  refine wpAnyH_take (i := 14) (v := .bool false) rfl (by kernel_rfl) (by kernel_rfl) (by kernel_rfl) (fun _ _ _ h => h) (Or.inl ⟨by rfl, ?y14_3⟩) hHeld ?_
                  case y14_3 => (intro w hSw; (try dsimp only at hSw); go_simp; first | done | (with_reducible rfl))
                  simp only [getElem_toArray, getElem_cons_zero, getElem_cons_succ, Act.put, setIfInBounds_toArray, set_cons_zero, set_cons_succ]
                  refine wpAnyH_take (i := 15) (v := .bool false) rfl (by kernel_rfl) (by kernel_rfl) (by kernel_rfl) (fun _ _ _ h => h) (Or.inl ⟨by rfl, ?y15_3⟩) hHeld ?_
                  case y15_3 => (intro w hSw; (try dsimp only at hSw); go_simp; first | done | (with_reducible rfl))
                  simp only [getElem_toArray, getElem_cons_zero, getElem_cons_succ, Act.put, setIfInBounds_toArray, set_cons_zero, set_cons_succ]
                  refine wpAnyH_take (i := 16) (v := undef) rfl (by kernel_rfl) (by kernel_rfl) (by kernel_rfl) (fun _ _ _ h => h) (Or.inr ⟨by rfl, rfl⟩) hHeld ?_
                  simp only [getElem_toArray, getElem_cons_zero, getElem_cons_succ, Act.put, setIfInBounds_toArray, set_cons_zero, set_cons_succ]
                  refine wpAnyH_take (i := 17) (v := undef) rfl (by kernel_rfl) (by kernel_rfl) (by kernel_rfl) (fun _ _ _ h => h) (Or.inr ⟨by rfl, rfl⟩) hHeld ?_
                  simp only [getElem_toArray, getElem_cons_zero, getElem_cons_succ, Act.put, setIfInBounds_toArray, set_cons_zero, set_cons_succ]
                  refine wpAnyH_take (i := 18) (v := undef) rfl (by kernel_rfl) (by kernel_rfl) (by kernel_rfl) (fun _ _ _ h => h) (Or.inr ⟨by rfl, rfl⟩) hHeld ?_
                  simp only [getElem_toArray, getElem_cons_zero, getElem_cons_succ, Act.put, setIfInBounds_toArray, set_cons_zero, set_cons_succ]
                  refine wpAnyH_take (i := 19) (v := undef) rfl (by kernel_rfl) (by kernel_rfl) (by kernel_rfl) (fun _ _ _ h => h) (Or.inr ⟨by rfl, rfl⟩) hHeld ?_
                  simp only [getElem_toArray, getElem_cons_zero, getElem_cons_succ, Act.put, setIfInBounds_toArray, set_cons_zero, set_cons_succ]
                  refine wpAnyH_take (i := 20) (v := undef) rfl (by kernel_rfl) (by kernel_rfl) (by kernel_rfl) (fun _ _ _ h => h) (Or.inr ⟨by rfl, rfl⟩) hHeld ?_
                  simp only [getElem_toArray, getElem_cons_zero, getElem_cons_succ, Act.put, setIfInBounds_toArray, set_cons_zero, set_cons_succ]
                  refine wpAnyH_take (i := 21) (v := undef) rfl (by kernel_rfl) (by kernel_rfl) (by kernel_rfl) (fun _ _ _ h => h) (Or.inr ⟨by rfl, rfl⟩) hHeld ?_
                  simp only [getElem_toArray, getElem_cons_zero, getElem_cons_succ, Act.put, setIfInBounds_toArray, set_cons_zero, set_cons_succ]
                  refine wpAnyH_take (i := 22) (v := undef) rfl (by kernel_rfl) (by kernel_rfl) (by kernel_rfl) (fun _ _ _ h => h) (Or.inr ⟨by rfl, rfl⟩) hHeld ?_
                  simp only [getElem_toArray, getElem_cons_zero, getElem_cons_succ, Act.put, setIfInBounds_toArray, set_cons_zero, set_cons_succ]
                  refine wpAnyH_take (i := 23) (v := undef) rfl (by kernel_rfl) (by kernel_rfl) (by kernel_rfl) (fun _ _ _ h => h) (Or.inr ⟨by rfl, rfl⟩) hHeld ?_
                  simp only [getElem_toArray, getElem_cons_zero, getElem_cons_succ, Act.put, setIfInBounds_toArray, set_cons_zero, set_cons_succ]
                  refine wpAnyH_take (i := 24) (v := undef) rfl (by kernel_rfl) (by kernel_rfl) (by kernel_rfl) (fun _ _ _ h => h) (Or.inr ⟨by rfl, rfl⟩) hHeld ?_
                  simp only [getElem_toArray, getElem_cons_zero, getElem_cons_succ, Act.put, setIfInBounds_toArray, set_cons_zero, set_cons_succ]
                  refine wpAnyH_take (i := 25) (v := undef) rfl (by kernel_rfl) (by kernel_rfl) (by kernel_rfl) (fun _ _ _ h => h) (Or.inr ⟨by rfl, rfl⟩) hHeld ?_
                  simp only [getElem_toArray, getElem_cons_zero, getElem_cons_succ, Act.put, setIfInBounds_toArray, set_cons_zero, set_cons_succ]
                  refine wpAnyH_take (i := 26) (v := .bool false) rfl (by kernel_rfl) (by kernel_rfl) (by kernel_rfl) (fun _ _ _ h => h) (Or.inl ⟨by rfl, ?y26_3⟩) hHeld ?_
                  case y26_3 => (intro w hSw; (try dsimp only at hSw); go_simp; first | done | (with_reducible rfl))
                  simp only [getElem_toArray, getElem_cons_zero, getElem_cons_succ, Act.put, setIfInBounds_toArray, set_cons_zero, set_cons_succ]
                  refine wpAnyH_take (i := 27) (v := .bool false) rfl (by kernel_rfl) (by kernel_rfl) (by kernel_rfl) (fun _ _ _ h => h) (Or.inl ⟨by rfl, ?y27_3⟩) hHeld ?_
                  case y27_3 => (intro w hSw; (try dsimp only at hSw); go_simp; first | done | (with_reducible rfl))
                  simp only [getElem_toArray, getElem_cons_zero, getElem_cons_succ, Act.put, setIfInBounds_toArray, set_cons_zero, set_cons_succ]
                  refine wpAnyH_take (i := 28) (v := ?v28_3) rfl (by kernel_rfl) (by kernel_rfl) (by kernel_rfl) (fun _ _ _ h => h) (Or.inl ⟨by rfl, ?y28_3⟩) hHeld ?_
                  case y28_3 => (intro w hSw; (try dsimp only at hSw); go_simp; first | done | (with_reducible rfl))
                  simp only [getElem_toArray, getElem_cons_zero, getElem_cons_succ, Act.put, setIfInBounds_toArray, set_cons_zero, set_cons_succ]
                  refine wpAnyH_take (i := 29) (v := ?v29_3) rfl (by kernel_rfl) (by kernel_rfl) (by kernel_rfl) (fun _ _ _ h => h) (Or.inl ⟨by rfl, ?y29_3⟩) hHeld ?_
                  case y29_3 => (intro w hSw; (try dsimp only at hSw); go_simp; first | done | (with_reducible rfl))
                  simp only [getElem_toArray, getElem_cons_zero, getElem_cons_succ, Act.put, setIfInBounds_toArray, set_cons_zero, set_cons_succ]
                  refine wpAnyH_take (i := 30) (v := .bool false) rfl (by kernel_rfl) (by kernel_rfl) (by kernel_rfl) (fun _ _ _ h => h) (Or.inl ⟨by rfl, ?y30_3⟩) hHeld ?_
                  case y30_3 => (intro w hSw; (try dsimp only at hSw); go_simp; first | done | (with_reducible rfl))
                  simp only [getElem_toArray, getElem_cons_zero, getElem_cons_succ, Act.put, setIfInBounds_toArray, set_cons_zero, set_cons_succ]
                  refine wpAnyH_take (i := 31) (v := .bool false) rfl (by kernel_rfl) (by kernel_rfl) (by kernel_rfl) (fun _ _ _ h => h) (Or.inl ⟨by rfl, ?y31_3⟩) hHeld ?_
                  case y31_3 => (intro w hSw; (try dsimp only at hSw); go_simp; first | done | (with_reducible rfl))
                  simp only [getElem_toArray, getElem_cons_zero, getElem_cons_succ, Act.put, setIfInBounds_toArray, set_cons_zero, set_cons_succ]
                  refine wpAnyH_take (i := 32) (v := undef) rfl (by kernel_rfl) (by kernel_rfl) (by kernel_rfl) (fun _ _ _ h => h) (Or.inr ⟨by rfl, rfl⟩) hHeld ?_
                  simp only [getElem_toArray, getElem_cons_zero, getElem_cons_succ, Act.put, setIfInBounds_toArray, set_cons_zero, set_cons_succ]
                  refine wpAnyH_take (i := 33) (v := undef) rfl (by kernel_rfl) (by kernel_rfl) (by kernel_rfl) (fun _ _ _ h => h) (Or.inr ⟨by rfl, rfl⟩) hHeld ?_
                  simp only [getElem_toArray, getElem_cons_zero, getElem_cons_succ, Act.put, setIfInBounds_toArray, set_cons_zero, set_cons_succ]
                  refine wpAnyH_take (i := 34) (v := undef) rfl (by kernel_rfl) (by kernel_rfl) (by kernel_rfl) (fun _ _ _ h => h) (Or.inr ⟨by rfl, rfl⟩) hHeld ?_
                  simp only [getElem_toArray, getElem_cons_zero, getElem_cons_succ, Act.put, setIfInBounds_toArray, set_cons_zero, set_cons_succ]
                  refine wpAnyH_take (i := 35) (v := undef) rfl (by kernel_rfl) (by kernel_rfl) (by kernel_rfl) (fun _ _ _ h => h) (Or.inr ⟨by rfl, rfl⟩) hHeld ?_
                  simp only [getElem_toArray, getElem_cons_zero, getElem_cons_succ, Act.put, setIfInBounds_toArray, set_cons_zero, set_cons_succ]
                  refine wpAnyH_take (i := 36) (v := undef) rfl (by kernel_rfl) (by kernel_rfl) (by kernel_rfl) (fun _ _ _ h => h) (Or.inr ⟨by rfl, rfl⟩) hHeld ?_
                  simp only [getElem_toArray, getElem_cons_zero, getElem_cons_succ, Act.put, setIfInBounds_toArray, set_cons_zero, set_cons_succ]
                  refine wpAnyH_take (i := 37) (v := undef) rfl (by kernel_rfl) (by kernel_rfl) (by kernel_rfl) (fun _ _ _ h => h) (Or.inr ⟨by rfl, rfl⟩) hHeld ?_
                  simp only [getElem_toArray, getElem_cons_zero, getElem_cons_succ, Act.put, setIfInBounds_toArray, set_cons_zero, set_cons_succ]
                  refine wpAnyH_take (i := 38) (v := undef) rfl (by kernel_rfl) (by kernel_rfl) (by kernel_rfl) (fun _ _ _ h => h) (Or.inr ⟨by rfl, rfl⟩) hHeld ?_
                  simp only [getElem_toArray, getElem_cons_zero, getElem_cons_succ, Act.put, setIfInBounds_toArray, set_cons_zero, set_cons_succ]
                  refine wpAnyH_take (i := 39) (v := undef) rfl (by kernel_rfl) (by kernel_rfl) (by kernel_rfl) (fun _ _ _ h => h) (Or.inr ⟨by rfl, rfl⟩) hHeld ?_
                  simp only [getElem_toArray, getElem_cons_zero, getElem_cons_succ, Act.put, setIfInBounds_toArray, set_cons_zero, set_cons_succ]
                  refine wpAnyH_take (i := 40) (v := .bool false) rfl (by kernel_rfl) (by kernel_rfl) (by kernel_rfl) (fun _ _ _ h => h) (Or.inl ⟨by rfl, ?y40_3⟩) hHeld ?_
                  case y40_3 => (intro w hSw; (try dsimp only at hSw); go_simp; first | done | (with_reducible rfl))
                  simp only [getElem_toArray, getElem_cons_zero, getElem_cons_succ, Act.put, setIfInBounds_toArray, set_cons_zero, set_cons_succ]
                  refine wpAnyH_take (i := 41) (v := .bool false) rfl (by kernel_rfl) (by kernel_rfl) (by kernel_rfl) (fun _ _ _ h => h) (Or.inl ⟨by rfl, ?y41_3⟩) hHeld ?_
                  case y41_3 => (intro w hSw; (try dsimp only at hSw); go_simp; first | done | (with_reducible rfl))
                  simp only [getElem_toArray, getElem_cons_zero, getElem_cons_succ, Act.put, setIfInBounds_toArray, set_cons_zero, set_cons_succ]
                  refine wpAnyH_take (i := 42) (v := undef) rfl (by kernel_rfl) (by kernel_rfl) (by kernel_rfl) (fun _ _ _ h => h) (Or.inr ⟨by rfl, rfl⟩) hHeld ?_
                  simp only [getElem_toArray, getElem_cons_zero, getElem_cons_succ, Act.put, setIfInBounds_toArray, set_cons_zero, set_cons_succ]
                  refine wpAnyH_take (i := 43) (v := undef) rfl (by kernel_rfl) (by kernel_rfl) (by kernel_rfl) (fun _ _ _ h => h) (Or.inr ⟨by rfl, rfl⟩) hHeld ?_
                  simp only [getElem_toArray, getElem_cons_zero, getElem_cons_succ, Act.put, setIfInBounds_toArray, set_cons_zero, set_cons_succ]
                  refine wpAnyH_take (i := 44) (v := undef) rfl (by kernel_rfl) (by kernel_rfl) (by kernel_rfl) (fun _ _ _ h => h) (Or.inr ⟨by rfl, rfl⟩) hHeld ?_
                  simp only [getElem_toArray, getElem_cons_zero, getElem_cons_succ, Act.put, setIfInBounds_toArray, set_cons_zero, set_cons_succ]
                  refine wpAnyH_take (i := 45) (v := undef) rfl (by kernel_rfl) (by kernel_rfl) (by kernel_rfl) (fun _ _ _ h => h) (Or.inr ⟨by rfl, rfl⟩) hHeld ?_
                  simp only [getElem_toArray, getElem_cons_zero, getElem_cons_succ, Act.put, setIfInBounds_toArray, set_cons_zero, set_cons_succ]
                  refine wpAnyH_take (i := 46) (v := undef) rfl (by kernel_rfl) (by kernel_rfl) (by kernel_rfl) (fun _ _ _ h => h) (Or.inr ⟨by rfl, rfl⟩) hHeld ?_
                  simp only [getElem_toArray, getElem_cons_zero, getElem_cons_succ, Act.put, setIfInBounds_toArray, set_cons_zero, set_cons_succ]
                  refine wpAnyH_take (i := 47) (v := undef) rfl (by kernel_rfl) (by kernel_rfl) (by kernel_rfl) (fun _ _ _ h => h) (Or.inr ⟨by rfl, rfl⟩) hHeld ?_
                  simp only [getElem_toArray, getElem_cons_zero, getElem_cons_succ, Act.put, setIfInBounds_toArray, set_cons_zero, set_cons_succ]
                  refine wpAnyH_take (i := 48) (v := undef) rfl (by kernel_rfl) (by kernel_rfl) (by kernel_rfl) (fun _ _ _ h => h) (Or.inr ⟨by rfl, rfl⟩) hHeld ?_
                  simp only [getElem_toArray, getElem_cons_zero, getElem_cons_succ, Act.put, setIfInBounds_toArray, set_cons_zero, set_cons_succ]
                  refine wpAnyH_take (i := 49) (v := undef) rfl (by kernel_rfl) (by kernel_rfl) (by kernel_rfl) (fun _ _ _ h => h) (Or.inr ⟨by rfl, rfl⟩) hHeld ?_
                  simp only [getElem_toArray, getElem_cons_zero, getElem_cons_succ, Act.put, setIfInBounds_toArray, set_cons_zero, set_cons_succ]
                  refine wpAnyH_take (i := 50) (v := undef) rfl (by kernel_rfl) (by kernel_rfl) (by kernel_rfl) (fun _ _ _ h => h) (Or.inr ⟨by rfl, rfl⟩) hHeld ?_
                  simp only [getElem_toArray, getElem_cons_zero, getElem_cons_succ, Act.put, setIfInBounds_toArray, set_cons_zero, set_cons_succ]
                  refine wpAnyH_take (i := 51) (v := undef) rfl (by kernel_rfl) (by kernel_rfl) (by kernel_rfl) (fun _ _ _ h => h) (Or.inr ⟨by rfl, rfl⟩) hHeld ?_
                  simp only [getElem_toArray, getElem_cons_zero, getElem_cons_succ, Act.put, setIfInBounds_toArray, set_cons_zero, set_cons_succ]
                  refine wpAnyH_take (i := 52) (v := undef) rfl (by kernel_rfl) (by kernel_rfl) (by kernel_rfl) (fun _ _ _ h => h) (Or.inr ⟨by rfl, rfl⟩) hHeld ?_
                  simp only [getElem_toArray, getElem_cons_zero, getElem_cons_succ, Act.put, setIfInBounds_toArray, set_cons_zero, set_cons_succ]
                  refine wpAnyH_take (i := 53) (v := .bool false) rfl (by kernel_rfl) (by kernel_rfl) (by kernel_rfl) (fun _ _ _ h => h) (Or.inl ⟨by rfl, ?y53_3⟩) hHeld ?_
                  case y53_3 => (intro w hSw; (try dsimp only at hSw); go_simp; first | done | (with_reducible rfl))
                  simp only [getElem_toArray, getElem_cons_zero, getElem_cons_succ, Act.put, setIfInBounds_toArray, set_cons_zero, set_cons_succ]
                  refine wpAnyH_take (i := 54) (v := .bool false) rfl (by kernel_rfl) (by kernel_rfl) (by kernel_rfl) (fun _ _ _ h => h) (Or.inl ⟨by rfl, ?y54_3⟩) hHeld ?_
                  case y54_3 => (intro w hSw; (try dsimp only at hSw); go_simp; first | done | (with_reducible rfl))
                  simp only [getElem_toArray, getElem_cons_zero, getElem_cons_succ, Act.put, setIfInBounds_toArray, set_cons_zero, set_cons_succ]
                  refine wpAnyH_done (by kernel_rfl) ?_ _
                  refine NoPanic.normal ?_
                  go_wp2_with fail
                  go_roundg q2
                  case measure => omega
                  case rel => exact ⟨k + 1, by omega, by go_num, by have := AG2.out; show _ = _; omega, hb2⟩
              · obtain rfl : r2 = false := HO.out.1 hik rfl
                as_aux_lemma =>
                  go_wp2_with fail
                  have hdr : Below wb.heap.size wb wr.drew := hB.drew
                  refine wp_region_noPanic ?_
                  refine wp_region_held_drew (S := (fun W => W.cell? ⟨g, i, none⟩ = some (.string ⟨li.toArray⟩) ∧ W.cell? ⟨g, k, none⟩ = some (.string ⟨lk.toArray⟩) ∧ W.cell? ⟨ga, 2, none⟩ = some (.string ⟨([] : List UInt8).toArray⟩) ∧ Below wb.heap.size wb W)) (by kernel_rfl) ?_ (fun hHeld => ?_)
                  · exact HKB2.out _ hdr
                  refine wpAnyH_take (i := 0) (v := ?v0_4) rfl (by kernel_rfl) (by kernel_rfl) (by kernel_rfl) (fun _ _ _ h => h) (Or.inl ⟨by rfl, ?y0_4⟩) hHeld ?_
                  case y0_4 => (intro w hSw; (try dsimp only at hSw); go_simp; first | done | (with_reducible rfl))
                  simp only [getElem_toArray, getElem_cons_zero, getElem_cons_succ, Act.put, setIfInBounds_toArray, set_cons_zero, set_cons_succ]
                  refine wpAnyH_take (i := 1) (v := ?v1_4) rfl (by kernel_rfl) (by kernel_rfl) (by kernel_rfl) (fun _ _ _ h => h) (Or.inl ⟨by rfl, ?y1_4⟩) hHeld ?_
                  case y1_4 => (intro w hSw; (try dsimp only at hSw); go_simp; first | done | (with_reducible rfl))
                  simp only [getElem_toArray, getElem_cons_zero, getElem_cons_succ, Act.put, setIfInBounds_toArray, set_cons_zero, set_cons_succ]
                  refine wpAnyH_take (i := 2) (v := .bool true) rfl (by kernel_rfl) (by kernel_rfl) (by kernel_rfl) (fun _ _ _ h => h) (Or.inl ⟨by rfl, ?y2_4⟩) hHeld ?_
                  case y2_4 => (intro w hSw; (try dsimp only at hSw); go_simp; first | done | (with_reducible rfl))
                  simp only [getElem_toArray, getElem_cons_zero, getElem_cons_succ, Act.put, setIfInBounds_toArray, set_cons_zero, set_cons_succ]
                  refine wpAnyH_take (i := 3) (v := ?v3_4) rfl (by kernel_rfl) (by kernel_rfl) (by kernel_rfl) (fun _ _ _ h => h) (Or.inl ⟨by rfl, ?y3_4⟩) hHeld ?_
                  case y3_4 => (intro w hSw; (try dsimp only at hSw); go_simp; first | done | (with_reducible rfl))
                  simp only [getElem_toArray, getElem_cons_zero, getElem_cons_succ, Act.put, setIfInBounds_toArray, set_cons_zero, set_cons_succ]
                  refine wpAnyH_take (i := 4) (v := ?v4_4) rfl (by kernel_rfl) (by kernel_rfl) (by kernel_rfl) (fun _ _ _ h => h) (Or.inl ⟨by rfl, ?y4_4⟩) hHeld ?_
                  case y4_4 => (intro w hSw; (try dsimp only at hSw); go_simp; first | done | (with_reducible rfl))
                  simp only [getElem_toArray, getElem_cons_zero, getElem_cons_succ, Act.put, setIfInBounds_toArray, set_cons_zero, set_cons_succ]
                  refine wpAnyH_take (i := 5) (v := ?v5_4) rfl (by kernel_rfl) (by kernel_rfl) (by kernel_rfl) (fun _ _ _ h => h) (Or.inl ⟨by rfl, ?y5_4⟩) hHeld ?_
                  case y5_4 => (intro w hSw; (try dsimp only at hSw); go_simp; first | done | (with_reducible rfl))
                  simp only [getElem_toArray, getElem_cons_zero, getElem_cons_succ, Act.put, setIfInBounds_toArray, set_cons_zero, set_cons_succ]
                  refine wpAnyH_take (i := 6) (v := ?v6_4) rfl (by kernel_rfl) (by kernel_rfl) (by kernel_rfl) (fun _ _ _ h => h) (Or.inl ⟨by rfl, ?y6_4⟩) hHeld ?_
                  case y6_4 => (intro w hSw; (try dsimp only at hSw); go_simp; first | done | (with_reducible rfl))
                  simp only [getElem_toArray, getElem_cons_zero, getElem_cons_succ, Act.put, setIfInBounds_toArray, set_cons_zero, set_cons_succ]
                  refine wpAnyH_take (i := 7) (v := ?v7_4) rfl (by kernel_rfl) (by kernel_rfl) (by kernel_rfl) (fun _ _ _ h => h) (Or.inl ⟨by rfl, ?y7_4⟩) hHeld ?_
                  case y7_4 => (intro w hSw; (try dsimp only at hSw); go_simp; first | done | (with_reducible rfl))
                  simp only [getElem_toArray, getElem_cons_zero, getElem_cons_succ, Act.put, setIfInBounds_toArray, set_cons_zero, set_cons_succ]
                  refine wpAnyH_take (i := 8) (v := ?v8_4) rfl (by kernel_rfl) (by kernel_rfl) (by kernel_rfl) (fun _ _ _ h => h) (Or.inl ⟨by rfl, ?y8_4⟩) hHeld ?_
                  case y8_4 => (intro w hSw; (try dsimp only at hSw); go_simp; first | done | (with_reducible rfl))
                  simp only [getElem_toArray, getElem_cons_zero, getElem_cons_succ, Act.put, setIfInBounds_toArray, set_cons_zero, set_cons_succ]
                  refine wpAnyH_take (i := 9) (v := ?v9_4) rfl (by kernel_rfl) (by kernel_rfl) (by kernel_rfl) (fun _ _ _ h => h) (Or.inl ⟨by rfl, ?y9_4⟩) hHeld ?_
                  case y9_4 => (intro w hSw; (try dsimp only at hSw); go_simp; first | done | (with_reducible rfl))
                  simp only [getElem_toArray, getElem_cons_zero, getElem_cons_succ, Act.put, setIfInBounds_toArray, set_cons_zero, set_cons_succ]
                  refine wpAnyH_take (i := 10) (v := ?v10_4) rfl (by kernel_rfl) (by kernel_rfl) (by kernel_rfl) (fun _ _ _ h => h) (Or.inl ⟨by rfl, ?y10_4⟩) hHeld ?_
                  case y10_4 => (intro w hSw; (try dsimp only at hSw); go_simp; first | done | (with_reducible rfl))
                  simp only [getElem_toArray, getElem_cons_zero, getElem_cons_succ, Act.put, setIfInBounds_toArray, set_cons_zero, set_cons_succ]
                  refine wpAnyH_take (i := 11) (v := ?v11_4) rfl (by kernel_rfl) (by kernel_rfl) (by kernel_rfl) (fun _ _ _ h => h) (Or.inl ⟨by rfl, ?y11_4⟩) hHeld ?_
                  case y11_4 => (intro w hSw; (try dsimp only at hSw); go_simp; first | done | (with_reducible rfl))
                  simp only [getElem_toArray, getElem_cons_zero, getElem_cons_succ, Act.put, setIfInBounds_toArray, set_cons_zero, set_cons_succ]
                  refine wpAnyH_take (i := 12) (v := ?v12_4) rfl (by kernel_rfl) (by kernel_rfl) (by kernel_rfl) (fun _ _ _ h => h) (Or.inl ⟨by rfl, ?y12_4⟩) hHeld ?_
                  case y12_4 => (intro w hSw; (try dsimp only at hSw); go_simp; first | done | (with_reducible rfl))
                  simp only [getElem_toArray, getElem_cons_zero, getElem_cons_succ, Act.put, setIfInBounds_toArray, set_cons_zero, set_cons_succ]
                  refine wpAnyH_ready (rs := [13]) (by kernel_rfl) (by simp) ?_
                  refine AllReadyH.cons rfl (fun K hK => ?_) AllReadyH.nil
                  go_simp
                  (refine (HI1.out _ (by assumption)).mono ?_; rintro e w2 ⟨rfl, hb2⟩)
                  (try go_wp2_with fail)
                  refine hK.out _ _ ?_ (fun hHeld => ?_)
                  · exact HKB2.out _ hb2
                  clear hK K
                  try simp only [getElem_toArray, getElem_cons_zero, getElem_cons_succ, Act.put, setIfInBounds_toArray, set_cons_zero, set_cons_succ]
                  refine wpAnyH_take (i := 14) (v := ?v14_4) rfl (by kernel_rfl) (by kernel_rfl) (by kernel_rfl) (fun _ _ _ h => h) (Or.inl ⟨by rfl, ?y14_4⟩) hHeld ?_
                  case y14_4 => (intro w hSw; (try dsimp only at hSw); go_simp; first | done | (with_reducible rfl))
                  simp only [getElem_toArray, getElem_cons_zero, getElem_cons_succ, Act.put, setIfInBounds_toArray, set_cons_zero, set_cons_succ]
                  refine wpAnyH_take (i := 15) (v := ?v15_4) rfl (by kernel_rfl) (by kernel_rfl) (by kernel_rfl) (fun _ _ _ h => h) (Or.inl ⟨by rfl, ?y15_4⟩) hHeld ?_
                  case y15_4 => (intro w hSw; (try dsimp only at hSw); go_simp; first | done | (with_reducible rfl))
                  simp only [getElem_toArray, getElem_cons_zero, getElem_cons_succ, Act.put, setIfInBounds_toArray, set_cons_zero, set_cons_succ]
                  refine wpAnyH_take (i := 16) (v := ?v16_4) rfl (by kernel_rfl) (by kernel_rfl) (by kernel_rfl) (fun _ _ _ h => h) (Or.inl ⟨by rfl, ?y16_4⟩) hHeld ?_
                  case y16_4 => (intro w hSw; (try dsimp only at hSw); go_simp; first | done | (with_reducible rfl))
                  simp only [getElem_toArray, getElem_cons_zero, getElem_cons_succ, Act.put, setIfInBounds_toArray, set_cons_zero, set_cons_succ]
                  refine wpAnyH_take (i := 17) (v := ?v17_4) rfl (by kernel_rfl) (by kernel_rfl) (by kernel_rfl) (fun _ _ _ h => h) (Or.inl ⟨by rfl, ?y17_4⟩) hHeld ?_
                  case y17_4 => (intro w hSw; (try dsimp only at hSw); go_simp; first | done | (with_reducible rfl))
                  simp only [getElem_toArray, getElem_cons_zero, getElem_cons_succ, Act.put, setIfInBounds_toArray, set_cons_zero, set_cons_succ]
                  refine wpAnyH_take (i := 18) (v := ?v18_4) rfl (by kernel_rfl) (by kernel_rfl) (by kernel_rfl) (fun _ _ _ h => h) (Or.inl ⟨by rfl, ?y18_4⟩) hHeld ?_
                  case y18_4 => (intro w hSw; (try dsimp only at hSw); go_simp; first | done | (with_reducible rfl))
                  simp only [getElem_toArray, getElem_cons_zero, getElem_cons_succ, Act.put, setIfInBounds_toArray, set_cons_zero, set_cons_succ]
                  refine wpAnyH_take (i := 19) (v := ?v19_4) rfl (by kernel_rfl) (by kernel_rfl) (by kernel_rfl) (fun _ _ _ h => h) (Or.inl ⟨by rfl, ?y19_4⟩) hHeld ?_
                  case y19_4 => (intro w hSw; (try dsimp only at hSw); go_simp; first | done | (with_reducible rfl))
                  simp only [getElem_toArray, getElem_cons_zero, getElem_cons_succ, Act.put, setIfInBounds_toArray, set_cons_zero, set_cons_succ]
                  refine wpAnyH_take (i := 20) (v := ?v20_4) rfl (by kernel_rfl) (by kernel_rfl) (by kernel_rfl) (fun _ _ _ h => h) (Or.inl ⟨by rfl, ?y20_4⟩) hHeld ?_
                  case y20_4 => (intro w hSw; (try dsimp only at hSw); go_simp; first | done | (with_reducible rfl))
                  simp only [getElem_toArray, getElem_cons_zero, getElem_cons_succ, Act.put, setIfInBounds_toArray, set_cons_zero, set_cons_succ]
                  refine wpAnyH_take (i := 21) (v := ?v21_4) rfl (by kernel_rfl) (by kernel_rfl) (by kernel_rfl) (fun _ _ _ h => h) (Or.inl ⟨by rfl, ?y21_4⟩) hHeld ?_
                  case y21_4 => (intro w hSw; (try dsimp only at hSw); go_simp; first | done | (with_reducible rfl))
                  simp only [getElem_toArray, getElem_cons_zero, getElem_cons_succ, Act.put, setIfInBounds_toArray, set_cons_zero, set_cons_succ]
                  refine wpAnyH_take (i := 22) (v := ?v22_4) rfl (by kernel_rfl) (by kernel_rfl) (by kernel_rfl) (fun _ _ _ h => h) (Or.inl ⟨by rfl, ?y22_4⟩) hHeld ?_
                  case y22_4 => (intro w hSw; (try dsimp only at hSw); go_simp; first | done | (with_reducible rfl))
                  simp only [getElem_toArray, getElem_cons_zero, getElem_cons_succ, Act.put, setIfInBounds_toArray, set_cons_zero, set_cons_succ]
                  refine wpAnyH_take (i := 23) (v := ?v23_4) rfl (by kernel_rfl) (by kernel_rfl) (by kernel_rfl) (fun _ _ _ h => h) (Or.inl ⟨by rfl, ?y23_4⟩) hHeld ?_
                  case y23_4 => (intro w hSw; (try dsimp only at hSw); go_simp; first | done | (with_reducible rfl))
                  simp only [getElem_toArray, getElem_cons_zero, getElem_cons_succ, Act.put, setIfInBounds_toArray, set_cons_zero, set_cons_succ]
                  refine wpAnyH_take (i := 24) (v := ?v24_4) rfl (by kernel_rfl) (by kernel_rfl) (by kernel_rfl) (fun _ _ _ h => h) (Or.inl ⟨by rfl, ?y24_4⟩) hHeld ?_
                  case y24_4 => (intro w hSw; (try dsimp only at hSw); go_simp; first | done | (with_reducible rfl))
                  simp only [getElem_toArray, getElem_cons_zero, getElem_cons_succ, Act.put, setIfInBounds_toArray, set_cons_zero, set_cons_succ]
                  refine wpAnyH_ready (rs := [25]) (by kernel_rfl) (by simp) ?_
                  refine AllReadyH.cons rfl (fun K hK => ?_) AllReadyH.nil
                  go_simp
                  (refine (HI2.out _ (by assumption)).mono ?_; rintro e w2 ⟨rfl, hb2⟩)
                  (try go_wp2_with fail)
                  refine hK.out _ _ ?_ (fun hHeld => ?_)
                  · exact HKB2.out _ hb2
                  clear hK K
                  try simp only [getElem_toArray, getElem_cons_zero, getElem_cons_succ, Act.put, setIfInBounds_toArray, set_cons_zero, set_cons_succ]
                  refine wpAnyH_take (i := 26) (v := .bool false) rfl (by kernel_rfl) (by kernel_rfl) (by kernel_rfl) (fun _ _ _ h => h) (Or.inl ⟨by rfl, ?y26_4⟩) hHeld ?_
                  case y26_4 => (intro w hSw; (try dsimp only at hSw); go_simp; first | done | (with_reducible rfl))
                  simp only [getElem_toArray, getElem_cons_zero, getElem_cons_succ, Act.put, setIfInBounds_toArray, set_cons_zero, set_cons_succ]
                  refine wpAnyH_take (i := 27) (v := .bool false) rfl (by kernel_rfl) (by kernel_rfl) (by kernel_rfl) (fun _ _ _ h => h) (Or.inl ⟨by rfl, ?y27_4⟩) hHeld ?_
                  case y27_4 => (intro w hSw; (try dsimp only at hSw); go_simp; first | done | (with_reducible rfl))
                  simp only [getElem_toArray, getElem_cons_zero, getElem_cons_succ, Act.put, setIfInBounds_toArray, set_cons_zero, set_cons_succ]
                  refine wpAnyH_take (i := 28) (v := ?v28_4) rfl (by kernel_rfl) (by kernel_rfl) (by kernel_rfl) (fun _ _ _ h => h) (Or.inl ⟨by rfl, ?y28_4⟩) hHeld ?_
                  case y28_4 => (intro w hSw; (try dsimp only at hSw); go_simp; first | done | (with_reducible rfl))
                  simp only [getElem_toArray, getElem_cons_zero, getElem_cons_succ, Act.put, setIfInBounds_toArray, set_cons_zero, set_cons_succ]
                  refine wpAnyH_take (i := 29) (v := ?v29_4) rfl (by kernel_rfl) (by kernel_rfl) (by kernel_rfl) (fun _ _ _ h => h) (Or.inl ⟨by rfl, ?y29_4⟩) hHeld ?_
                  case y29_4 => (intro w hSw; (try dsimp only at hSw); go_simp; first | done | (with_reducible rfl))
                  simp only [getElem_toArray, getElem_cons_zero, getElem_cons_succ, Act.put, setIfInBounds_toArray, set_cons_zero, set_cons_succ]
                  refine wpAnyH_take (i := 30) (v := .bool false) rfl (by kernel_rfl) (by kernel_rfl) (by kernel_rfl) (fun _ _ _ h => h) (Or.inl ⟨by rfl, ?y30_4⟩) hHeld ?_
                  case y30_4 => (intro w hSw; (try dsimp only at hSw); go_simp; first | done | (with_reducible rfl))
                  simp only [getElem_toArray, getElem_cons_zero, getElem_cons_succ, Act.put, setIfInBounds_toArray, set_cons_zero, set_cons_succ]
                  refine wpAnyH_take (i := 31) (v := .bool false) rfl (by kernel_rfl) (by kernel_rfl) (by kernel_rfl) (fun _ _ _ h => h) (Or.inl ⟨by rfl, ?y31_4⟩) hHeld ?_
                  case y31_4 => (intro w hSw; (try dsimp only at hSw); go_simp; first | done | (with_reducible rfl))
                  simp only [getElem_toArray, getElem_cons_zero, getElem_cons_succ, Act.put, setIfInBounds_toArray, set_cons_zero, set_cons_succ]
                  refine wpAnyH_take (i := 32) (v := undef) rfl (by kernel_rfl) (by kernel_rfl) (by kernel_rfl) (fun _ _ _ h => h) (Or.inr ⟨by rfl, rfl⟩) hHeld ?_
                  simp only [getElem_toArray, getElem_cons_zero, getElem_cons_succ, Act.put, setIfInBounds_toArray, set_cons_zero, set_cons_succ]
                  refine wpAnyH_take (i := 33) (v := undef) rfl (by kernel_rfl) (by kernel_rfl) (by kernel_rfl) (fun _ _ _ h => h) (Or.inr ⟨by rfl, rfl⟩) hHeld ?_
                  simp only [getElem_toArray, getElem_cons_zero, getElem_cons_succ, Act.put, setIfInBounds_toArray, set_cons_zero, set_cons_succ]
                  refine wpAnyH_take (i := 34) (v := undef) rfl (by kernel_rfl) (by kernel_rfl) (by kernel_rfl) (fun _ _ _ h => h) (Or.inr ⟨by rfl, rfl⟩) hHeld ?_
                  simp only [getElem_toArray, getElem_cons_zero, getElem_cons_succ, Act.put, setIfInBounds_toArray, set_cons_zero, set_cons_succ]
                  refine wpAnyH_take (i := 35) (v := undef) rfl (by kernel_rfl) (by kernel_rfl) (by kernel_rfl) (fun _ _ _ h => h) (Or.inr ⟨by rfl, rfl⟩) hHeld ?_
                  simp only [getElem_toArray, getElem_cons_zero, getElem_cons_succ, Act.put, setIfInBounds_toArray, set_cons_zero, set_cons_succ]
                  refine wpAnyH_take (i := 36) (v := undef) rfl (by kernel_rfl) (by kernel_rfl) (by kernel_rfl) (fun _ _ _ h => h) (Or.inr ⟨by rfl, rfl⟩) hHeld ?_
                  simp only [getElem_toArray, getElem_cons_zero, getElem_cons_succ, Act.put, setIfInBounds_toArray, set_cons_zero, set_cons_succ]
                  refine wpAnyH_take (i := 37) (v := undef) rfl (by kernel_rfl) (by kernel_rfl) (by kernel_rfl) (fun _ _ _ h => h) (Or.inr ⟨by rfl, rfl⟩) hHeld ?_
                  simp only [getElem_toArray, getElem_cons_zero, getElem_cons_succ, Act.put, setIfInBounds_toArray, set_cons_zero, set_cons_succ]
                  refine wpAnyH_take (i := 38) (v := undef) rfl (by kernel_rfl) (by kernel_rfl) (by kernel_rfl) (fun _ _ _ h => h) (Or.inr ⟨by rfl, rfl⟩) hHeld ?_
                  simp only [getElem_toArray, getElem_cons_zero, getElem_cons_succ, Act.put, setIfInBounds_toArray, set_cons_zero, set_cons_succ]
                  refine wpAnyH_take (i := 39) (v := undef) rfl (by kernel_rfl) (by kernel_rfl) (by kernel_rfl) (fun _ _ _ h => h) (Or.inr ⟨by rfl, rfl⟩) hHeld ?_
                  simp only [getElem_toArray, getElem_cons_zero, getElem_cons_succ, Act.put, setIfInBounds_toArray, set_cons_zero, set_cons_succ]
                  refine wpAnyH_take (i := 40) (v := .bool false) rfl (by kernel_rfl) (by kernel_rfl) (by kernel_rfl) (fun _ _ _ h => h) (Or.inl ⟨by rfl, ?y40_4⟩) hHeld ?_
                  case y40_4 => (intro w hSw; (try dsimp only at hSw); go_simp; first | done | (with_reducible rfl))
                  simp only [getElem_toArray, getElem_cons_zero, getElem_cons_succ, Act.put, setIfInBounds_toArray, set_cons_zero, set_cons_succ]
                  refine wpAnyH_take (i := 41) (v := .bool false) rfl (by kernel_rfl) (by kernel_rfl) (by kernel_rfl) (fun _ _ _ h => h) (Or.inl ⟨by rfl, ?y41_4⟩) hHeld ?_
                  case y41_4 => (intro w hSw; (try dsimp only at hSw); go_simp; first | done | (with_reducible rfl))
                  simp only [getElem_toArray, getElem_cons_zero, getElem_cons_succ, Act.put, setIfInBounds_toArray, set_cons_zero, set_cons_succ]
                  refine wpAnyH_take (i := 42) (v := undef) rfl (by kernel_rfl) (by kernel_rfl) (by kernel_rfl) (fun _ _ _ h => h) (Or.inr ⟨by rfl, rfl⟩) hHeld ?_
                  simp only [getElem_toArray, getElem_cons_zero, getElem_cons_succ, Act.put, setIfInBounds_toArray, set_cons_zero, set_cons_succ]
                  refine wpAnyH_take (i := 43) (v := undef) rfl (by kernel_rfl) (by kernel_rfl) (by kernel_rfl) (fun _ _ _ h => h) (Or.inr ⟨by rfl, rfl⟩) hHeld ?_
                  simp only [getElem_toArray, getElem_cons_zero, getElem_cons_succ, Act.put, setIfInBounds_toArray, set_cons_zero, set_cons_succ]
                  refine wpAnyH_take (i := 44) (v := undef) rfl (by kernel_rfl) (by kernel_rfl) (by kernel_rfl) (fun _ _ _ h => h) (Or.inr ⟨by rfl, rfl⟩) hHeld ?_
                  simp only [getElem_toArray, getElem_cons_zero, getElem_cons_succ, Act.put, setIfInBounds_toArray, set_cons_zero, set_cons_succ]
                  refine wpAnyH_take (i := 45) (v := undef) rfl (by kernel_rfl) (by kernel_rfl) (by kernel_rfl) (fun _ _ _ h => h) (Or.inr ⟨by rfl, rfl⟩) hHeld ?_
                  simp only [getElem_toArray, getElem_cons_zero, getElem_cons_succ, Act.put, setIfInBounds_toArray, set_cons_zero, set_cons_succ]
                  refine wpAnyH_take (i := 46) (v := undef) rfl (by kernel_rfl) (by kernel_rfl) (by kernel_rfl) (fun _ _ _ h => h) (Or.inr ⟨by rfl, rfl⟩) hHeld ?_
                  simp only [getElem_toArray, getElem_cons_zero, getElem_cons_succ, Act.put, setIfInBounds_toArray, set_cons_zero, set_cons_succ]
                  refine wpAnyH_take (i := 47) (v := undef) rfl (by kernel_rfl) (by kernel_rfl) (by kernel_rfl) (fun _ _ _ h => h) (Or.inr ⟨by rfl, rfl⟩) hHeld ?_
                  simp only [getElem_toArray, getElem_cons_zero, getElem_cons_succ, Act.put, setIfInBounds_toArray, set_cons_zero, set_cons_succ]
                  refine wpAnyH_take (i := 48) (v := undef) rfl (by kernel_rfl) (by kernel_rfl) (by kernel_rfl) (fun _ _ _ h => h) (Or.inr ⟨by rfl, rfl⟩) hHeld ?_
                  simp only [getElem_toArray, getElem_cons_zero, getElem_cons_succ, Act.put, setIfInBounds_toArray, set_cons_zero, set_cons_succ]
                  refine wpAnyH_take (i := 49) (v := undef) rfl (by kernel_rfl) (by kernel_rfl) (by kernel_rfl) (fun _ _ _ h => h) (Or.inr ⟨by rfl, rfl⟩) hHeld ?_
                  simp only [getElem_toArray, getElem_cons_zero, getElem_cons_succ, Act.put, setIfInBounds_toArray, set_cons_zero, set_cons_succ]
                  refine wpAnyH_take (i := 50) (v := undef) rfl (by kernel_rfl) (by kernel_rfl) (by kernel_rfl) (fun _ _ _ h => h) (Or.inr ⟨by rfl, rfl⟩) hHeld ?_
                  simp only [getElem_toArray, getElem_cons_zero, getElem_cons_succ, Act.put, setIfInBounds_toArray, set_cons_zero, set_cons_succ]
                  refine wpAnyH_take (i := 51) (v := undef) rfl (by kernel_rfl) (by kernel_rfl) (by kernel_rfl) (fun _ _ _ h => h) (Or.inr ⟨by rfl, rfl⟩) hHeld ?_
                  simp only [getElem_toArray, getElem_cons_zero, getElem_cons_succ, Act.put, setIfInBounds_toArray, set_cons_zero, set_cons_succ]
                  refine wpAnyH_take (i := 52) (v := undef) rfl (by kernel_rfl) (by kernel_rfl) (by kernel_rfl) (fun _ _ _ h => h) (Or.inr ⟨by rfl, rfl⟩) hHeld ?_
                  simp only [getElem_toArray, getElem_cons_zero, getElem_cons_succ, Act.put, setIfInBounds_toArray, set_cons_zero, set_cons_succ]
                  refine wpAnyH_take (i := 53) (v := .bool false) rfl (by kernel_rfl) (by kernel_rfl) (by kernel_rfl) (fun _ _ _ h => h) (Or.inl ⟨by rfl, ?y53_4⟩) hHeld ?_
                  case y53_4 => (intro w hSw; (try dsimp only at hSw); go_simp; first | done | (with_reducible rfl))
                  simp only [getElem_toArray, getElem_cons_zero, getElem_cons_succ, Act.put, setIfInBounds_toArray, set_cons_zero, set_cons_succ]
                  refine wpAnyH_take (i := 54) (v := .bool false) rfl (by kernel_rfl) (by kernel_rfl) (by kernel_rfl) (fun _ _ _ h => h) (Or.inl ⟨by rfl, ?y54_4⟩) hHeld ?_
                  case y54_4 => (intro w hSw; (try dsimp only at hSw); go_simp; first | done | (with_reducible rfl))
                  simp only [getElem_toArray, getElem_cons_zero, getElem_cons_succ, Act.put, setIfInBounds_toArray, set_cons_zero, set_cons_succ]
                  refine wpAnyH_done (by kernel_rfl) ?_ _
                  refine NoPanic.normal ?_
                  go_wp2_with fail
                  go_roundg q2
                  case measure => omega
                  case rel => exact ⟨k + 1, by omega, by go_num, by have := AG2.out; show _ = _; omega, hb2⟩
          · obtain rfl : k = ls.length := by omega
            go_wp2_with fail
            go_roundg q
            case measure => omega
            case rel => exact ⟨i + 1, by omega, by go_num, by have := AG.out; show _ = _; omega, HB.out.trans (hB.mono HB.out.size)⟩
      · have HS2 : Hid (∀ W : World, Below wb.heap.size wb W → Calls Tryz.prog 14 #[.pointer (some ⟨s, 0, none⟩), .string ⟨li.toArray⟩, .string ⟨(s0 :: st).toArray⟩] W fun e w' => e = .returned (.bool true) ∧ Below wb.heap.size wb w') := Lib.hid (HSBb.out li (s0 :: st) true hlis has2 (HO2.out (by simp)))
        have hdr : Below wb.heap.size wb wb.drew := (Below.refl _ _).drew
        refine wp_region_noPanic ?_
        refine wp_region_held_drew (S := (fun W => W.cell? ⟨g, i, none⟩ = some (.string ⟨li.toArray⟩) ∧ W.cell? ⟨ga, 0, none⟩ = some (.string ⟨a.oid.toArray⟩) ∧ W.cell? ⟨ga, 2, none⟩ = some (.string ⟨(s0 :: st).toArray⟩) ∧ Below wb.heap.size wb W)) (by kernel_rfl) ?_ (fun hHeld => ?_)
        · exact HKB.out _ hdr
        refine wpAnyH_take (i := 0) (v := ?v0_5) rfl (by kernel_rfl) (by kernel_rfl) (by kernel_rfl) (fun _ _ _ h => h) (Or.inl ⟨by rfl, ?y0_5⟩) hHeld ?_
        case y0_5 => (intro w hSw; (try dsimp only at hSw); go_simp; first | done | (with_reducible rfl))
        simp only [getElem_toArray, getElem_cons_zero, getElem_cons_succ, Act.put, setIfInBounds_toArray, set_cons_zero, set_cons_succ]
        refine wpAnyH_take (i := 1) (v := .bool false) rfl (by kernel_rfl) (by kernel_rfl) (by kernel_rfl) (fun _ _ _ h => h) (Or.inl ⟨by rfl, ?y1_5⟩) hHeld ?_
        case y1_5 => (intro w hSw; (try dsimp only at hSw); go_simp; first | done | (with_reducible rfl))
        simp only [getElem_toArray, getElem_cons_zero, getElem_cons_succ, Act.put, setIfInBounds_toArray, set_cons_zero, set_cons_succ]
        refine wpAnyH_take (i := 2) (v := .bool false) rfl (by kernel_rfl) (by kernel_rfl) (by kernel_rfl) (fun _ _ _ h => h) (Or.inl ⟨by rfl, ?y2_5⟩) hHeld ?_
        case y2_5 => (intro w hSw; (try dsimp only at hSw); go_simp; first | done | (with_reducible rfl))
        simp only [getElem_toArray, getElem_cons_zero, getElem_cons_succ, Act.put, setIfInBounds_toArray, set_cons_zero, set_cons_succ]
        refine wpAnyH_take (i := 3) (v := ?v3_5) rfl (by kernel_rfl) (by kernel_rfl) (by kernel_rfl) (fun _ _ _ h => h) (Or.inl ⟨by rfl, ?y3_5⟩) hHeld ?_
        case y3_5 => (intro w hSw; (try dsimp only at hSw); go_simp; first | done | (with_reducible rfl))
        simp only [getElem_toArray, getElem_cons_zero, getElem_cons_succ, Act.put, setIfInBounds_toArray, set_cons_zero, set_cons_succ]
        refine wpAnyH_take (i := 4) (v := ?v4_5) rfl (by kernel_rfl) (by kernel_rfl) (by kernel_rfl) (fun _ _ _ h => h) (Or.inl ⟨by rfl, ?y4_5⟩) hHeld ?_
        case y4_5 => (intro w hSw; (try dsimp only at hSw); go_simp; first | done | (with_reducible rfl))
        simp only [getElem_toArray, getElem_cons_zero, getElem_cons_succ, Act.put, setIfInBounds_toArray, set_cons_zero, set_cons_succ]
        refine wpAnyH_take (i := 5) (v := ?v5_5) rfl (by kernel_rfl) (by kernel_rfl) (by kernel_rfl) (fun _ _ _ h => h) (Or.inl ⟨by rfl, ?y5_5⟩) hHeld ?_
        case y5_5 => (intro w hSw; (try dsimp only at hSw); go_simp; first | done | (with_reducible rfl))
        simp only [getElem_toArray, getElem_cons_zero, getElem_cons_succ, Act.put, setIfInBounds_toArray, set_cons_zero, set_cons_succ]
        refine wpAnyH_take (i := 6) (v := ?v6_5) rfl (by kernel_rfl) (by kernel_rfl) (by kernel_rfl) (fun _ _ _ h => h) (Or.inl ⟨by rfl, ?y6_5⟩) hHeld ?_
        case y6_5 => (intro w hSw; (try dsimp only at hSw); go_simp; first | done | (with_reducible rfl))
        simp only [getElem_toArray, getElem_cons_zero, getElem_cons_succ, Act.put, setIfInBounds_toArray, set_cons_zero, set_cons_succ]
        refine wpAnyH_take (i := 7) (v := ?v7_5) rfl (by kernel_rfl) (by kernel_rfl) (by kernel_rfl) (fun _ _ _ h => h) (Or.inl ⟨by rfl, ?y7_5⟩) hHeld ?_
        case y7_5 => (intro w hSw; (try dsimp only at hSw); go_simp; first | done | (with_reducible rfl))
        simp only [getElem_toArray, getElem_cons_zero, getElem_cons_succ, Act.put, setIfInBounds_toArray, set_cons_zero, set_cons_succ]
        refine wpAnyH_take (i := 8) (v := ?v8_5) rfl (by kernel_rfl) (by kernel_rfl) (by kernel_rfl) (fun _ _ _ h => h) (Or.inl ⟨by rfl, ?y8_5⟩) hHeld ?_
        case y8_5 => (intro w hSw; (try dsimp only at hSw); go_simp; first | done | (with_reducible rfl))
        simp only [getElem_toArray, getElem_cons_zero, getElem_cons_succ, Act.put, setIfInBounds_toArray, set_cons_zero, set_cons_succ]
        refine wpAnyH_take (i := 9) (v := ?v9_5) rfl (by kernel_rfl) (by kernel_rfl) (by kernel_rfl) (fun _ _ _ h => h) (Or.inl ⟨by rfl, ?y9_5⟩) hHeld ?_
        case y9_5 => (intro w hSw; (try dsimp only at hSw); go_simp; first | done | (with_reducible rfl))
        simp only [getElem_toArray, getElem_cons_zero, getElem_cons_succ, Act.put, setIfInBounds_toArray, set_cons_zero, set_cons_succ]
        refine wpAnyH_take (i := 10) (v := ?v10_5) rfl (by kernel_rfl) (by kernel_rfl) (by kernel_rfl) (fun _ _ _ h => h) (Or.inl ⟨by rfl, ?y10_5⟩) hHeld ?_
        case y10_5 => (intro w hSw; (try dsimp only at hSw); go_simp; first | done | (with_reducible rfl))
        simp only [getElem_toArray, getElem_cons_zero, getElem_cons_succ, Act.put, setIfInBounds_toArray, set_cons_zero, set_cons_succ]
        refine wpAnyH_take (i := 11) (v := ?v11_5) rfl (by kernel_rfl) (by kernel_rfl) (by kernel_rfl) (fun _ _ _ h => h) (Or.inl ⟨by rfl, ?y11_5⟩) hHeld ?_
        case y11_5 => (intro w hSw; (try dsimp only at hSw); go_simp; first | done | (with_reducible rfl))
        simp only [getElem_toArray, getElem_cons_zero, getElem_cons_succ, Act.put, setIfInBounds_toArray, set_cons_zero, set_cons_succ]
        refine wpAnyH_ready (rs := [12]) (by kernel_rfl) (by simp) ?_
        refine AllReadyH.cons rfl (fun K hK => ?_) AllReadyH.nil
        go_simp
        (refine (HS1.out _ (by assumption)).mono ?_; rintro e w2 ⟨rfl, hb2⟩)
        (try go_wp2_with fail)
        refine hK.out _ _ ?_ (fun hHeld => ?_)
        · exact HKB.out _ hb2
        clear hK K
        try simp only [getElem_toArray, getElem_cons_zero, getElem_cons_succ, Act.put, setIfInBounds_toArray, set_cons_zero, set_cons_succ]
        refine wpAnyH_take (i := 13) (v := .bool false) rfl (by kernel_rfl) (by kernel_rfl) (by kernel_rfl) (fun _ _ _ h => h) (Or.inl ⟨by rfl, ?y13_5⟩) hHeld ?_
        case y13_5 => (intro w hSw; (try dsimp only at hSw); go_simp; first | done | (with_reducible rfl))
        simp only [getElem_toArray, getElem_cons_zero, getElem_cons_succ, Act.put, setIfInBounds_toArray, set_cons_zero, set_cons_succ]
        refine wpAnyH_take (i := 14) (v := .bool false) rfl (by kernel_rfl) (by kernel_rfl) (by kernel_rfl) (fun _ _ _ h => h) (Or.inl ⟨by rfl, ?y14_5⟩) hHeld ?_
        case y14_5 => (intro w hSw; (try dsimp only at hSw); go_simp; first | done | (with_reducible rfl))
        simp only [getElem_toArray, getElem_cons_zero, getElem_cons_succ, Act.put, setIfInBounds_toArray, set_cons_zero, set_cons_succ]
        refine wpAnyH_take (i := 15) (v := .bool false) rfl (by kernel_rfl) (by kernel_rfl) (by kernel_rfl) (fun _ _ _ h => h) (Or.inl ⟨by rfl, ?y15_5⟩) hHeld ?_
        case y15_5 => (intro w hSw; (try dsimp only at hSw); go_simp; first | done | (with_reducible rfl))
        simp only [getElem_toArray, getElem_cons_zero, getElem_cons_succ, Act.put, setIfInBounds_toArray, set_cons_zero, set_cons_succ]
        refine wpAnyH_take (i := 16) (v := ?v16_5) rfl (by kernel_rfl) (by kernel_rfl) (by kernel_rfl) (fun _ _ _ h => h) (Or.inl ⟨by rfl, ?y16_5⟩) hHeld ?_
        case y16_5 => (intro w hSw; (try dsimp only at hSw); go_simp; first | done | (with_reducible rfl))
        simp only [getElem_toArray, getElem_cons_zero, getElem_cons_succ, Act.put, setIfInBounds_toArray, set_cons_zero, set_cons_succ]
        refine wpAnyH_take (i := 17) (v := ?v17_5) rfl (by kernel_rfl) (by kernel_rfl) (by kernel_rfl) (fun _ _ _ h => h) (Or.inl ⟨by rfl, ?y17_5⟩) hHeld ?_
        case y17_5 => (intro w hSw; (try dsimp only at hSw); go_simp; first | done | (with_reducible rfl))
        simp only [getElem_toArray, getElem_cons_zero, getElem_cons_succ, Act.put, setIfInBounds_toArray, set_cons_zero, set_cons_succ]
        refine wpAnyH_take (i := 18) (v := .bool true) rfl (by kernel_rfl) (by kernel_rfl) (by kernel_rfl) (fun _ _ _ h => h) (Or.inl ⟨by rfl, ?y18_5⟩) hHeld ?_
        case y18_5 => (intro w hSw; (try dsimp only at hSw); go_simp; first | done | (with_reducible rfl))
        simp only [getElem_toArray, getElem_cons_zero, getElem_cons_succ, Act.put, setIfInBounds_toArray, set_cons_zero, set_cons_succ]
        refine wpAnyH_take (i := 19) (v := ?v19_5) rfl (by kernel_rfl) (by kernel_rfl) (by kernel_rfl) (fun _ _ _ h => h) (Or.inl ⟨by rfl, ?y19_5⟩) hHeld ?_
        case y19_5 => (intro w hSw; (try dsimp only at hSw); go_simp; first | done | (with_reducible rfl))
        simp only [getElem_toArray, getElem_cons_zero, getElem_cons_succ, Act.put, setIfInBounds_toArray, set_cons_zero, set_cons_succ]
        refine wpAnyH_take (i := 20) (v := ?v20_5) rfl (by kernel_rfl) (by kernel_rfl) (by kernel_rfl) (fun _ _ _ h => h) (Or.inl ⟨by rfl, ?y20_5⟩) hHeld ?_
        case y20_5 => (intro w hSw; (try dsimp only at hSw); go_simp; first | done | (with_reducible rfl))
        simp only [getElem_toArray, getElem_cons_zero, getElem_cons_succ, Act.put, setIfInBounds_toArray, set_cons_zero, set_cons_succ]
        refine wpAnyH_take (i := 21) (v := ?v21_5) rfl (by kernel_rfl) (by kernel_rfl) (by kernel_rfl) (fun _ _ _ h => h) (Or.inl ⟨by rfl, ?y21_5⟩) hHeld ?_
        case y21_5 => (intro w hSw; (try dsimp only at hSw); go_simp; first | done | (with_reducible rfl))
        simp only [getElem_toArray, getElem_cons_zero, getElem_cons_succ, Act.put, setIfInBounds_toArray, set_cons_zero, set_cons_succ]
        refine wpAnyH_take (i := 22) (v := ?v22_5) rfl (by kernel_rfl) (by kernel_rfl) (by kernel_rfl) (fun _ _ _ h => h) (Or.inl ⟨by rfl, ?y22_5⟩) hHeld ?_
        case y22_5 => (intro w hSw; (try dsimp only at hSw); go_simp; first | done | (with_reducible rfl))
        simp only [getElem_toArray, getElem_cons_zero, getElem_cons_succ, Act.put, setIfInBounds_toArray, set_cons_zero, set_cons_succ]
        refine wpAnyH_take (i := 23) (v := ?v23_5) rfl (by kernel_rfl) (by kernel_rfl) (by kernel_rfl) (fun _ _ _ h => h) (Or.inl ⟨by rfl, ?y23_5⟩) hHeld ?_
        case y23_5 => (intro w hSw; (try dsimp only at hSw); go_simp; first | done | (with_reducible rfl))
        simp only [getElem_toArray, getElem_cons_zero, getElem_cons_succ, Act.put, setIfInBounds_toArray, set_cons_zero, set_cons_succ]
        refine wpAnyH_take (i := 24) (v := ?v24_5) rfl (by kernel_rfl) (by kernel_rfl) (by kernel_rfl) (fun _ _ _ h => h) (Or.inl ⟨by rfl, ?y24_5⟩) hHeld ?_
        case y24_5 => (intro w hSw; (try dsimp only at hSw); go_simp; first | done | (with_reducible rfl))
        simp only [getElem_toArray, getElem_cons_zero, getElem_cons_succ, Act.put, setIfInBounds_toArray, set_cons_zero, set_cons_succ]
        refine wpAnyH_take (i := 25) (v := ?v25_5) rfl (by kernel_rfl) (by kernel_rfl) (by kernel_rfl) (fun _ _ _ h => h) (Or.inl ⟨by rfl, ?y25_5⟩) hHeld ?_
        case y25_5 => (intro w hSw; (try dsimp only at hSw); go_simp; first | done | (with_reducible rfl))
        simp only [getElem_toArray, getElem_cons_zero, getElem_cons_succ, Act.put, setIfInBounds_toArray, set_cons_zero, set_cons_succ]
        refine wpAnyH_take (i := 26) (v := ?v26_5) rfl (by kernel_rfl) (by kernel_rfl) (by kernel_rfl) (fun _ _ _ h => h) (Or.inl ⟨by rfl, ?y26_5⟩) hHeld ?_
        case y26_5 => (intro w hSw; (try dsimp only at hSw); go_simp; first | done | (with_reducible rfl))
        simp only [getElem_toArray, getElem_cons_zero, getElem_cons_succ, Act.put, setIfInBounds_toArray, set_cons_zero, set_cons_succ]
        refine wpAnyH_ready (rs := [27]) (by kernel_rfl) (by simp) ?_
        refine AllReadyH.cons rfl (fun K hK => ?_) AllReadyH.nil
        go_simp
        (refine (HS2.out _ (by assumption)).mono ?_; rintro e w2 ⟨rfl, hb2⟩)
        (try go_wp2_with fail)
        refine hK.out _ _ ?_ (fun hHeld => ?_)
        · exact HKB.out _ hb2
        clear hK K
        try simp only [getElem_toArray, getElem_cons_zero, getElem_cons_succ, Act.put, setIfInBounds_toArray, set_cons_zero, set_cons_succ]
        refine wpAnyH_take (i := 28) (v := .bool false) rfl (by kernel_rfl) (by kernel_rfl) (by kernel_rfl) (fun _ _ _ h => h) (Or.inl ⟨by rfl, ?y28_5⟩) hHeld ?_
        case y28_5 => (intro w hSw; (try dsimp only at hSw); go_simp; first | done | (with_reducible rfl))
        simp only [getElem_toArray, getElem_cons_zero, getElem_cons_succ, Act.put, setIfInBounds_toArray, set_cons_zero, set_cons_succ]
        refine wpAnyH_take (i := 29) (v := .bool false) rfl (by kernel_rfl) (by kernel_rfl) (by kernel_rfl) (fun _ _ _ h => h) (Or.inl ⟨by rfl, ?y29_5⟩) hHeld ?_
        case y29_5 => (intro w hSw; (try dsimp only at hSw); go_simp; first | done | (with_reducible rfl))
        simp only [getElem_toArray, getElem_cons_zero, getElem_cons_succ, Act.put, setIfInBounds_toArray, set_cons_zero, set_cons_succ]
        refine wpAnyH_take (i := 30) (v := .bool false) rfl (by kernel_rfl) (by kernel_rfl) (by kernel_rfl) (fun _ _ _ h => h) (Or.inl ⟨by rfl, ?y30_5⟩) hHeld ?_
        case y30_5 => (intro w hSw; (try dsimp only at hSw); go_simp; first | done | (with_reducible rfl))
        simp only [getElem_toArray, getElem_cons_zero, getElem_cons_succ, Act.put, setIfInBounds_toArray, set_cons_zero, set_cons_succ]
        refine wpAnyH_take (i := 31) (v := .bool false) rfl (by kernel_rfl) (by kernel_rfl) (by kernel_rfl) (fun _ _ _ h => h) (Or.inl ⟨by rfl, ?y31_5⟩) hHeld ?_
        case y31_5 => (intro w hSw; (try dsimp only at hSw); go_simp; first | done | (with_reducible rfl))
        simp only [getElem_toArray, getElem_cons_zero, getElem_cons_succ, Act.put, setIfInBounds_toArray, set_cons_zero, set_cons_succ]
        refine wpAnyH_take (i := 32) (v := ?v32_5) rfl (by kernel_rfl) (by kernel_rfl) (by kernel_rfl) (fun _ _ _ h => h) (Or.inl ⟨by rfl, ?y32_5⟩) hHeld ?_
        case y32_5 => (intro w hSw; (try dsimp only at hSw); go_simp; first | done | (with_reducible rfl))
        simp only [getElem_toArray, getElem_cons_zero, getElem_cons_succ, Act.put, setIfInBounds_toArray, set_cons_zero, set_cons_succ]
        refine wpAnyH_take (i := 33) (v := ?v33_5) rfl (by kernel_rfl) (by kernel_rfl) (by kernel_rfl) (fun _ _ _ h => h) (Or.inl ⟨by rfl, ?y33_5⟩) hHeld ?_
        case y33_5 => (intro w hSw; (try dsimp only at hSw); go_simp; first | done | (with_reducible rfl))
        simp only [getElem_toArray, getElem_cons_zero, getElem_cons_succ, Act.put, setIfInBounds_toArray, set_cons_zero, set_cons_succ]
        refine wpAnyH_take (i := 34) (v := ?v34_5) rfl (by kernel_rfl) (by kernel_rfl) (by kernel_rfl) (fun _ _ _ h => h) (Or.inl ⟨by rfl, ?y34_5⟩) hHeld ?_
        case y34_5 => (intro w hSw; (try dsimp only at hSw); go_simp; first | done | (with_reducible rfl))
        simp only [getElem_toArray, getElem_cons_zero, getElem_cons_succ, Act.put, setIfInBounds_toArray, set_cons_zero, set_cons_succ]
        refine wpAnyH_take (i := 35) (v := ?v35_5) rfl (by kernel_rfl) (by kernel_rfl) (by kernel_rfl) (fun _ _ _ h => h) (Or.inl ⟨by rfl, ?y35_5⟩) hHeld ?_
        case y35_5 => (intro w hSw; (try dsimp only at hSw); go_simp; first | done | (with_reducible rfl))
        simp only [getElem_toArray, getElem_cons_zero, getElem_cons_succ, Act.put, setIfInBounds_toArray, set_cons_zero, set_cons_succ]
        refine wpAnyH_take (i := 36) (v := ?v36_5) rfl (by kernel_rfl) (by kernel_rfl) (by kernel_rfl) (fun _ _ _ h => h) (Or.inl ⟨by rfl, ?y36_5⟩) hHeld ?_
        case y36_5 => (intro w hSw; (try dsimp only at hSw); go_simp; first | done | (with_reducible rfl))
        simp only [getElem_toArray, getElem_cons_zero, getElem_cons_succ, Act.put, setIfInBounds_toArray, set_cons_zero, set_cons_succ]
        refine wpAnyH_take (i := 37) (v := ?v37_5) rfl (by kernel_rfl) (by kernel_rfl) (by kernel_rfl) (fun _ _ _ h => h) (Or.inl ⟨by rfl, ?y37_5⟩) hHeld ?_
        case y37_5 => (intro w hSw; (try dsimp only at hSw); go_simp; first | done | (with_reducible rfl))
        simp only [getElem_toArray, getElem_cons_zero, getElem_cons_succ, Act.put, setIfInBounds_toArray, set_cons_zero, set_cons_succ]
        refine wpAnyH_take (i := 38) (v := ?v38_5) rfl (by kernel_rfl) (by kernel_rfl) (by kernel_rfl) (fun _ _ _ h => h) (Or.inl ⟨by rfl, ?y38_5⟩) hHeld ?_
        case y38_5 => (intro w hSw; (try dsimp only at hSw); go_simp; first | done | (with_reducible rfl))
        simp only [getElem_toArray, getElem_cons_zero, getElem_cons_succ, Act.put, setIfInBounds_toArray, set_cons_zero, set_cons_succ]
        refine wpAnyH_ready (rs := [39]) (by kernel_rfl) (by simp) ?_
        refine AllReadyH.cons rfl (fun K hK => ?_) AllReadyH.nil
        go_simp
        (refine (HS3.out _ (by assumption)).mono ?_; rintro e w2 ⟨rfl, hb2⟩)
        (try go_wp2_with fail)
        refine hK.out _ _ ?_ (fun hHeld => ?_)
        · exact HKB.out _ hb2
        clear hK K
        try simp only [getElem_toArray, getElem_cons_zero, getElem_cons_succ, Act.put, setIfInBounds_toArray, set_cons_zero, set_cons_succ]
        refine wpAnyH_take (i := 40) (v := .bool false) rfl (by kernel_rfl) (by kernel_rfl) (by kernel_rfl) (fun _ _ _ h => h) (Or.inl ⟨by rfl, ?y40_5⟩) hHeld ?_
        case y40_5 => (intro w hSw; (try dsimp only at hSw); go_simp; first | done | (with_reducible rfl))
        simp only [getElem_toArray, getElem_cons_zero, getElem_cons_succ, Act.put, setIfInBounds_toArray, set_cons_zero, set_cons_succ]
        refine wpAnyH_take (i := 41) (v := .bool false) rfl (by kernel_rfl) (by kernel_rfl) (by kernel_rfl) (fun _ _ _ h => h) (Or.inl ⟨by rfl, ?y41_5⟩) hHeld ?_
        case y41_5 => (intro w hSw; (try dsimp only at hSw); go_simp; first | done | (with_reducible rfl))
        simp only [getElem_toArray, getElem_cons_zero, getElem_cons_succ, Act.put, setIfInBounds_toArray, set_cons_zero, set_cons_succ]
        refine wpAnyH_done (by kernel_rfl) ?_ _
        refine NoPanic.normal ?_
        go_wp2_with fail
        have hbr : Below wb.heap.size wb w2 := hb2
        clear HS1 HS3 HS2 hdr
        go_loopg [10] ls.length (fun gk j wr => ∃ k : Nat, k ≤ ls.length ∧ j = .int .i64 k ∧ Aside (k + gk = ls.length) ∧ Below wb.heap.size wb wr)
        case atStart => exact ⟨0, Nat.zero_le _, rfl, by show _ = _; omega, hbr⟩
        case round =>
          clear hbr
          obtain ⟨k, hk, rfl, AG2, hB⟩ := hrel
          by_cases hkl : k < ls.length
          · obtain ⟨q2, rfl⟩ : ∃ q, gk = q + 1 := ⟨gk - 1, by have := AG2.out; omega⟩
            have hlks := HSH.out _ (List.getElem_mem hkl)
            have hO := HO4'.out k hkl
            have ck0 := HLS2.out k hkl
            obtain ⟨lk, hlk⟩ : ∃ lk, ls[k] = lk := ⟨_, rfl⟩
            rw [hlk] at hlks hO ck0
            clear hlk
            have HKB2 : Hid (∀ W, Below wb.heap.size wb W → W.cell? ⟨g, i, none⟩ = some (.string ⟨li.toArray⟩) ∧ W.cell? ⟨g, k, none⟩ = some (.string ⟨lk.toArray⟩) ∧ W.cell? ⟨ga, 2, none⟩ = some (.string ⟨(s0 :: st).toArray⟩) ∧ Below wb.heap.size wb W) := Lib.hid fun W h => by
              have e1 : wb.cell? ⟨g, k, none⟩ = some (.string ⟨lk.toArray⟩) := (HB.out.cell (p := ⟨g, k, none⟩) (cell_lt ck0)).trans ck0
              obtain ⟨h1, h2, h3, h4⟩ := HKB.out W h
              exact ⟨h1, (h.cell (p := ⟨g, k, none⟩) (cell_lt e1)).trans e1, h3, h4⟩
            have hk0 : (0 : Int) ≤ (k : Int) := by omega
            have hk1 : (k : Int) < (ls.length : Int) := by omega
            obtain ⟨r1, hr1⟩ : ∃ r, isSubD L li lk = r := ⟨_, rfl⟩
            obtain ⟨r2, hr2⟩ : ∃ r, isSubD L lk li = r := ⟨_, rfl⟩
            obtain ⟨r3, hr3⟩ : ∃ r, isSubD L (s0 :: st) lk = r := ⟨_, rfl⟩
            rw [hr1, hr2, hr3] at hO
            have HI1 : Hid (∀ W : World, Below wb.heap.size wb W → Calls Tryz.prog 14 #[.pointer (some ⟨s, 0, none⟩), .string ⟨li.toArray⟩, .string ⟨lk.toArray⟩] W fun e w' => e = .returned (.bool r1) ∧ Below wb.heap.size wb w') := Lib.hid (HSBb.out li lk r1 hlis hlks hr1)
            have HI2 : Hid (∀ W : World, Below wb.heap.size wb W → Calls Tryz.prog 14 #[.pointer (some ⟨s, 0, none⟩), .string ⟨lk.toArray⟩, .string ⟨li.toArray⟩] W fun e w' => e = .returned (.bool r2) ∧ Below wb.heap.size wb w') := Lib.hid (HSBb.out lk li r2 hlks hlis hr2)
            have HI3 : Hid (∀ W : World, Below wb.heap.size wb W → Calls Tryz.prog 14 #[.pointer (some ⟨s, 0, none⟩), .string ⟨(s0 :: st).toArray⟩, .string ⟨lk.toArray⟩] W fun e w' => e = .returned (.bool r3) ∧ Below wb.heap.size wb w') := Lib.hid (HSBb.out (s0 :: st) lk r3 has2 hlks hr3)
            have HI4 : Hid (∀ W : World, Below wb.heap.size wb W → Calls Tryz.prog 14 #[.pointer (some ⟨s, 0, none⟩), .string ⟨li.toArray⟩, .string ⟨lk.toArray⟩] W fun e w' => e = .returned (.bool r1) ∧ Below wb.heap.size wb w') := HI1
            have HO := Lib.hid hO
            clear hO hr1 hr2 hr3 ck0 HO4' HLS2 HKB HSBb HTX HSH
            by_cases hik : i = k
            · subst hik
              have hll : li = lk := by
                obtain ⟨h1, h2, _⟩ := HKB2.out _ (Below.refl _ _)
                rw [h1] at h2
                simpa using h2
              subst hll
              cases r3
              · as_aux_lemma =>
                  go_wp2_with fail
                  have hdr : Below wb.heap.size wb wr.drew := hB.drew
                  refine wp_region_noPanic ?_
                  refine wp_region_held_drew (S := (fun W => W.cell? ⟨g, i, none⟩ = some (.string ⟨li.toArray⟩) ∧ W.cell? ⟨g, i, none⟩ = some (.string ⟨li.toArray⟩) ∧ W.cell? ⟨ga, 2, none⟩ = some (.string ⟨(s0 :: st).toArray⟩) ∧ Below wb.heap.size wb W)) (by kernel_rfl) ?_ (fun hHeld => ?_)
                  · exact HKB2.out _ hdr
                  refine wpAnyH_take (i := 0) (v := ?v0_6) rfl (by kernel_rfl) (by kernel_rfl) (by kernel_rfl) (fun _ _ _ h => h) (Or.inl ⟨by rfl, ?y0_6⟩) hHeld ?_
                  case y0_6 => (intro w hSw; (try dsimp only at hSw); go_simp; first | done | (with_reducible rfl))
                  simp only [getElem_toArray, getElem_cons_zero, getElem_cons_succ, Act.put, setIfInBounds_toArray, set_cons_zero, set_cons_succ]
                  refine wpAnyH_take (i := 1) (v := ?v1_6) rfl (by kernel_rfl) (by kernel_rfl) (by kernel_rfl) (fun _ _ _ h => h) (Or.inl ⟨by rfl, ?y1_6⟩) hHeld ?_
                  case y1_6 => (intro w hSw; (try dsimp only at hSw); go_simp; first | done | (with_reducible rfl))
                  simp only [getElem_toArray, getElem_cons_zero, getElem_cons_succ, Act.put, setIfInBounds_toArray, set_cons_zero, set_cons_succ]
                  refine wpAnyH_take (i := 2) (v := .bool false) rfl (by kernel_rfl) (by kernel_rfl) (by kernel_rfl) (fun _ _ _ h => h) (Or.inl ⟨by rfl, ?y2_6⟩) hHeld ?_
                  case y2_6 => (intro w hSw; (try dsimp only at hSw); go_simp; first | done | (with_reducible rfl))
                  simp only [getElem_toArray, getElem_cons_zero, getElem_cons_succ, Act.put, setIfInBounds_toArray, set_cons_zero, set_cons_succ]
                  refine wpAnyH_take (i := 3) (v := .bool false) rfl (by kernel_rfl) (by kernel_rfl) (by kernel_rfl) (fun _ _ _ h => h) (Or.inl ⟨by rfl, ?y3_6⟩) hHeld ?_
                  case y3_6 => (intro w hSw; (try dsimp only at hSw); go_simp; first | done | (with_reducible rfl))
                  simp only [getElem_toArray, getElem_cons_zero, getElem_cons_succ, Act.put, setIfInBounds_toArray, set_cons_zero, set_cons_succ]
                  refine wpAnyH_take (i := 4) (v := undef) rfl (by kernel_rfl) (by kernel_rfl) (by kernel_rfl) (fun _ _ _ h => h) (Or.inr ⟨by rfl, rfl⟩) hHeld ?_
                  simp only [getElem_toArray, getElem_cons_zero, getElem_cons_succ, Act.put, setIfInBounds_toArray, set_cons_zero, set_cons_succ]
                  refine wpAnyH_take (i := 5) (v := undef) rfl (by kernel_rfl) (by kernel_rfl) (by kernel_rfl) (fun _ _ _ h => h) (Or.inr ⟨by rfl, rfl⟩) hHeld ?_
                  simp only [getElem_toArray, getElem_cons_zero, getElem_cons_succ, Act.put, setIfInBounds_toArray, set_cons_zero, set_cons_succ]
                  refine wpAnyH_take (i := 6) (v := undef) rfl (by kernel_rfl) (by kernel_rfl) (by kernel_rfl) (fun _ _ _ h => h) (Or.inr ⟨by rfl, rfl⟩) hHeld ?_
                  simp only [getElem_toArray, getElem_cons_zero, getElem_cons_succ, Act.put, setIfInBounds_toArray, set_cons_zero, set_cons_succ]
                  refine wpAnyH_take (i := 7) (v := undef) rfl (by kernel_rfl) (by kernel_rfl) (by kernel_rfl) (fun _ _ _ h => h) (Or.inr ⟨by rfl, rfl⟩) hHeld ?_
                  simp only [getElem_toArray, getElem_cons_zero, getElem_cons_succ, Act.put, setIfInBounds_toArray, set_cons_zero, set_cons_succ]
                  refine wpAnyH_take (i := 8) (v := undef) rfl (by kernel_rfl) (by kernel_rfl) (by kernel_rfl) (fun _ _ _ h => h) (Or.inr ⟨by rfl, rfl⟩) hHeld ?_
                  simp only [getElem_toArray, getElem_cons_zero, getElem_cons_succ, Act.put, setIfInBounds_toArray, set_cons_zero, set_cons_succ]
                  refine wpAnyH_take (i := 9) (v := undef) rfl (by kernel_rfl) (by kernel_rfl) (by kernel_rfl) (fun _ _ _ h => h) (Or.inr ⟨by rfl, rfl⟩) hHeld ?_
                  simp only [getElem_toArray, getElem_cons_zero, getElem_cons_succ, Act.put, setIfInBounds_toArray, set_cons_zero, set_cons_succ]
                  refine wpAnyH_take (i := 10) (v := undef) rfl (by kernel_rfl) (by kernel_rfl) (by kernel_rfl) (fun _ _ _ h => h) (Or.inr ⟨by rfl, rfl⟩) hHeld ?_
                  simp only [getElem_toArray, getElem_cons_zero, getElem_cons_succ, Act.put, setIfInBounds_toArray, set_cons_zero, set_cons_succ]
                  refine wpAnyH_take (i := 11) (v := undef) rfl (by kernel_rfl) (by kernel_rfl) (by kernel_rfl) (fun _ _ _ h => h) (Or.inr ⟨by rfl, rfl⟩) hHeld ?_
                  simp only [getElem_toArray, getElem_cons_zero, getElem_cons_succ, Act.put, setIfInBounds_toArray, set_cons_zero, set_cons_succ]
                  refine wpAnyH_take (i := 12) (v := undef) rfl (by kernel_rfl) (by kernel_rfl) (by kernel_rfl) (fun _ _ _ h => h) (Or.inr ⟨by rfl, rfl⟩) hHeld ?_
                  simp only [getElem_toArray, getElem_cons_zero, getElem_cons_succ, Act.put, setIfInBounds_toArray, set_cons_zero, set_cons_succ]
                  refine wpAnyH_take (i := 13) (v := undef) rfl (by kernel_rfl) (by kernel_rfl) (by kernel_rfl) (fun _ _ _ h => h) (Or.inr ⟨by rfl, rfl⟩) hHeld ?_
                  simp only [getElem_toArray, getElem_cons_zero, getElem_cons_succ, Act.put, setIfInBounds_toArray, set_cons_zero, set_cons_succ]
                  refine wpAnyH_take (i := 14) (v := .bool false) rfl (by kernel_rfl) (by kernel_rfl) (by kernel_rfl) (fun _ _ _ h => h) (Or.inl ⟨by rfl, ?y14_6⟩) hHeld ?_
                  case y14_6 => (intro w hSw; (try dsimp only at hSw); go_simp; first | done | (with_reducible rfl))
                  simp only [getElem_toArray, getElem_cons_zero, getElem_cons_succ, Act.put, setIfInBounds_toArray, set_cons_zero, set_cons_succ]
                  refine wpAnyH_take (i := 15) (v := .bool false) rfl (by kernel_rfl) (by kernel_rfl) (by kernel_rfl) (fun _ _ _ h => h) (Or.inl ⟨by rfl, ?y15_6⟩) hHeld ?_
                  case y15_6 => (intro w hSw; (try dsimp only at hSw); go_simp; first | done | (with_reducible rfl))
                  simp only [getElem_toArray, getElem_cons_zero, getElem_cons_succ, Act.put, setIfInBounds_toArray, set_cons_zero, set_cons_succ]
                  refine wpAnyH_take (i := 16) (v := undef) rfl (by kernel_rfl) (by kernel_rfl) (by kernel_rfl) (fun _ _ _ h => h) (Or.inr ⟨by rfl, rfl⟩) hHeld ?_
                  simp only [getElem_toArray, getElem_cons_zero, getElem_cons_succ, Act.put, setIfInBounds_toArray, set_cons_zero, set_cons_succ]
                  refine wpAnyH_take (i := 17) (v := undef) rfl (by kernel_rfl) (by kernel_rfl) (by kernel_rfl) (fun _ _ _ h => h) (Or.inr ⟨by rfl, rfl⟩) hHeld ?_
                  simp only [getElem_toArray, getElem_cons_zero, getElem_cons_succ, Act.put, setIfInBounds_toArray, set_cons_zero, set_cons_succ]
                  refine wpAnyH_take (i := 18) (v := undef) rfl (by kernel_rfl) (by kernel_rfl) (by kernel_rfl) (fun _ _ _ h => h) (Or.inr ⟨by rfl, rfl⟩) hHeld ?_
                  simp only [getElem_toArray, getElem_cons_zero, getElem_cons_succ, Act.put, setIfInBounds_toArray, set_cons_zero, set_cons_succ]
                  refine wpAnyH_take (i := 19) (v := undef) rfl (by kernel_rfl) (by kernel_rfl) (by kernel_rfl) (fun _ _ _ h => h) (Or.inr ⟨by rfl, rfl⟩) hHeld ?_
                  simp only [getElem_toArray, getElem_cons_zero, getElem_cons_succ, Act.put, setIfInBounds_toArray, set_cons_zero, set_cons_succ]
                  refine wpAnyH_take (i := 20) (v := undef) rfl (by kernel_rfl) (by kernel_rfl) (by kernel_rfl) (fun _ _ _ h => h) (Or.inr ⟨by rfl, rfl⟩) hHeld ?_
                  simp only [getElem_toArray, getElem_cons_zero, getElem_cons_succ, Act.put, setIfInBounds_toArray, set_cons_zero, set_cons_succ]
                  refine wpAnyH_take (i := 21) (v := undef) rfl (by kernel_rfl) (by kernel_rfl) (by kernel_rfl) (fun _ _ _ h => h) (Or.inr ⟨by rfl, rfl⟩) hHeld ?_
                  simp only [getElem_toArray, getElem_cons_zero, getElem_cons_succ, Act.put, setIfInBounds_toArray, set_cons_zero, set_cons_succ]
                  refine wpAnyH_take (i := 22) (v := undef) rfl (by kernel_rfl) (by kernel_rfl) (by kernel_rfl) (fun _ _ _ h => h) (Or.inr ⟨by rfl, rfl⟩) hHeld ?_
                  simp only [getElem_toArray, getElem_cons_zero, getElem_cons_succ, Act.put, setIfInBounds_toArray, set_cons_zero, set_cons_succ]
                  refine wpAnyH_take (i := 23) (v := undef) rfl (by kernel_rfl) (by kernel_rfl) (by kernel_rfl) (fun _ _ _ h => h) (Or.inr ⟨by rfl, rfl⟩) hHeld ?_
                  simp only [getElem_toArray, getElem_cons_zero, getElem_cons_succ, Act.put, setIfInBounds_toArray, set_cons_zero, set_cons_succ]
                  refine wpAnyH_take (i := 24) (v := undef) rfl (by kernel_rfl) (by kernel_rfl) (by kernel_rfl) (fun _ _ _ h => h) (Or.inr ⟨by rfl, rfl⟩) hHeld ?_
                  simp only [getElem_toArray, getElem_cons_zero, getElem_cons_succ, Act.put, setIfInBounds_toArray, set_cons_zero, set_cons_succ]
                  refine wpAnyH_take (i := 25) (v := undef) rfl (by kernel_rfl) (by kernel_rfl) (by kernel_rfl) (fun _ _ _ h => h) (Or.inr ⟨by rfl, rfl⟩) hHeld ?_
                  simp only [getElem_toArray, getElem_cons_zero, getElem_cons_succ, Act.put, setIfInBounds_toArray, set_cons_zero, set_cons_succ]
                  refine wpAnyH_take (i := 26) (v := .bool false) rfl (by kernel_rfl) (by kernel_rfl) (by kernel_rfl) (fun _ _ _ h => h) (Or.inl ⟨by rfl, ?y26_6⟩) hHeld ?_
                  case y26_6 => (intro w hSw; (try dsimp only at hSw); go_simp; first | done | (with_reducible rfl))
                  simp only [getElem_toArray, getElem_cons_zero, getElem_cons_succ, Act.put, setIfInBounds_toArray, set_cons_zero, set_cons_succ]
                  refine wpAnyH_take (i := 27) (v := .bool false) rfl (by kernel_rfl) (by kernel_rfl) (by kernel_rfl) (fun _ _ _ h => h) (Or.inl ⟨by rfl, ?y27_6⟩) hHeld ?_
                  case y27_6 => (intro w hSw; (try dsimp only at hSw); go_simp; first | done | (with_reducible rfl))
                  simp only [getElem_toArray, getElem_cons_zero, getElem_cons_succ, Act.put, setIfInBounds_toArray, set_cons_zero, set_cons_succ]
                  refine wpAnyH_take (i := 28) (v := ?v28_6) rfl (by kernel_rfl) (by kernel_rfl) (by kernel_rfl) (fun _ _ _ h => h) (Or.inl ⟨by rfl, ?y28_6⟩) hHeld ?_
                  case y28_6 => (intro w hSw; (try dsimp only at hSw); go_simp; first | done | (with_reducible rfl))
                  simp only [getElem_toArray, getElem_cons_zero, getElem_cons_succ, Act.put, setIfInBounds_toArray, set_cons_zero, set_cons_succ]
                  refine wpAnyH_take (i := 29) (v := ?v29_6) rfl (by kernel_rfl) (by kernel_rfl) (by kernel_rfl) (fun _ _ _ h => h) (Or.inl ⟨by rfl, ?y29_6⟩) hHeld ?_
                  case y29_6 => (intro w hSw; (try dsimp only at hSw); go_simp; first | done | (with_reducible rfl))
                  simp only [getElem_toArray, getElem_cons_zero, getElem_cons_succ, Act.put, setIfInBounds_toArray, set_cons_zero, set_cons_succ]
                  refine wpAnyH_take (i := 30) (v := .bool true) rfl (by kernel_rfl) (by kernel_rfl) (by kernel_rfl) (fun _ _ _ h => h) (Or.inl ⟨by rfl, ?y30_6⟩) hHeld ?_
                  case y30_6 => (intro w hSw; (try dsimp only at hSw); go_simp; first | done | (with_reducible rfl))
                  simp only [getElem_toArray, getElem_cons_zero, getElem_cons_succ, Act.put, setIfInBounds_toArray, set_cons_zero, set_cons_succ]
                  refine wpAnyH_take (i := 31) (v := ?v31_6) rfl (by kernel_rfl) (by kernel_rfl) (by kernel_rfl) (fun _ _ _ h => h) (Or.inl ⟨by rfl, ?y31_6⟩) hHeld ?_
                  case y31_6 => (intro w hSw; (try dsimp only at hSw); go_simp; first | done | (with_reducible rfl))
                  simp only [getElem_toArray, getElem_cons_zero, getElem_cons_succ, Act.put, setIfInBounds_toArray, set_cons_zero, set_cons_succ]
                  refine wpAnyH_take (i := 32) (v := ?v32_6) rfl (by kernel_rfl) (by kernel_rfl) (by kernel_rfl) (fun _ _ _ h => h) (Or.inl ⟨by rfl, ?y32_6⟩) hHeld ?_
                  case y32_6 => (intro w hSw; (try dsimp only at hSw); go_simp; first | done | (with_reducible rfl))
                  simp only [getElem_toArray, getElem_cons_zero, getElem_cons_succ, Act.put, setIfInBounds_toArray, set_cons_zero, set_cons_succ]
                  refine wpAnyH_take (i := 33) (v := ?v33_6) rfl (by kernel_rfl) (by kernel_rfl) (by kernel_rfl) (fun _ _ _ h => h) (Or.inl ⟨by rfl, ?y33_6⟩) hHeld ?_
                  case y33_6 => (intro w hSw; (try dsimp only at hSw); go_simp; first | done | (with_reducible rfl))
                  simp only [getElem_toArray, getElem_cons_zero, getElem_cons_succ, Act.put, setIfInBounds_toArray, set_cons_zero, set_cons_succ]
                  refine wpAnyH_take (i := 34) (v := ?v34_6) rfl (by kernel_rfl) (by kernel_rfl) (by kernel_rfl) (fun _ _ _ h => h) (Or.inl ⟨by rfl, ?y34_6⟩) hHeld ?_
                  case y34_6 => (intro w hSw; (try dsimp only at hSw); go_simp; first | done | (with_reducible rfl))
                  simp only [getElem_toArray, getElem_cons_zero, getElem_cons_succ, Act.put, setIfInBounds_toArray, set_cons_zero, set_cons_succ]
                  refine wpAnyH_take (i := 35) (v := ?v35_6) rfl (by kernel_rfl) (by kernel_rfl) (by kernel_rfl) (fun _ _ _ h => h) (Or.inl ⟨by rfl, ?y35_6⟩) hHeld ?_
                  case y35_6 => (intro w hSw; (try dsimp only at hSw); go_simp; first | done | (with_reducible rfl))
                  simp only [getElem_toArray, getElem_cons_zero, getElem_cons_succ, Act.put, setIfInBounds_toArray, set_cons_zero, set_cons_succ]
                  refine wpAnyH_take (i := 36) (v := ?v36_6) rfl (by kernel_rfl) (by kernel_rfl) (by kernel_rfl) (fun _ _ _ h => h) (Or.inl ⟨by rfl, ?y36_6⟩) hHeld ?_
                  case y36_6 => (intro w hSw; (try dsimp only at hSw); go_simp; first | done | (with_reducible rfl))
                  simp only [getElem_toArray, getElem_cons_zero, getElem_cons_succ, Act.put, setIfInBounds_toArray, set_cons_zero, set_cons_succ]
                  refine wpAnyH_take (i := 37) (v := ?v37_6) rfl (by kernel_rfl) (by kernel_rfl) (by kernel_rfl) (fun _ _ _ h => h) (Or.inl ⟨by rfl, ?y37_6⟩) hHeld ?_
                  case y37_6 => (intro w hSw; (try dsimp only at hSw); go_simp; first | done | (with_reducible rfl))
                  simp only [getElem_toArray, getElem_cons_zero, getElem_cons_succ, Act.put, setIfInBounds_toArray, set_cons_zero, set_cons_succ]
                  refine wpAnyH_take (i := 38) (v := ?v38_6) rfl (by kernel_rfl) (by kernel_rfl) (by kernel_rfl) (fun _ _ _ h => h) (Or.inl ⟨by rfl, ?y38_6⟩) hHeld ?_
                  case y38_6 => (intro w hSw; (try dsimp only at hSw); go_simp; first | done | (with_reducible rfl))
                  simp only [getElem_toArray, getElem_cons_zero, getElem_cons_succ, Act.put, setIfInBounds_toArray, set_cons_zero, set_cons_succ]
                  refine wpAnyH_ready (rs := [39]) (by kernel_rfl) (by simp) ?_
                  refine AllReadyH.cons rfl (fun K hK => ?_) AllReadyH.nil
                  go_simp
                  (refine (HI3.out _ (by assumption)).mono ?_; rintro e w2 ⟨rfl, hb2⟩)
                  (try go_wp2_with fail)
                  refine hK.out _ _ ?_ (fun hHeld => ?_)
                  · exact HKB2.out _ hb2
                  clear hK K
                  try simp only [getElem_toArray, getElem_cons_zero, getElem_cons_succ, Act.put, setIfInBounds_toArray, set_cons_zero, set_cons_succ]
                  refine wpAnyH_take (i := 40) (v := .bool false) rfl (by kernel_rfl) (by kernel_rfl) (by kernel_rfl) (fun _ _ _ h => h) (Or.inl ⟨by rfl, ?y40_6⟩) hHeld ?_
                  case y40_6 => (intro w hSw; (try dsimp only at hSw); go_simp; first | done | (with_reducible rfl))
                  simp only [getElem_toArray, getElem_cons_zero, getElem_cons_succ, Act.put, setIfInBounds_toArray, set_cons_zero, set_cons_succ]
                  refine wpAnyH_take (i := 41) (v := .bool false) rfl (by kernel_rfl) (by kernel_rfl) (by kernel_rfl) (fun _ _ _ h => h) (Or.inl ⟨by rfl, ?y41_6⟩) hHeld ?_
                  case y41_6 => (intro w hSw; (try dsimp only at hSw); go_simp; first | done | (with_reducible rfl))
                  simp only [getElem_toArray, getElem_cons_zero, getElem_cons_succ, Act.put, setIfInBounds_toArray, set_cons_zero, set_cons_succ]
                  refine wpAnyH_take (i := 42) (v := undef) rfl (by kernel_rfl) (by kernel_rfl) (by kernel_rfl) (fun _ _ _ h => h) (Or.inr ⟨by rfl, rfl⟩) hHeld ?_
                  simp only [getElem_toArray, getElem_cons_zero, getElem_cons_succ, Act.put, setIfInBounds_toArray, set_cons_zero, set_cons_succ]
                  refine wpAnyH_take (i := 43) (v := undef) rfl (by kernel_rfl) (by kernel_rfl) (by kernel_rfl) (fun _ _ _ h => h) (Or.inr ⟨by rfl, rfl⟩) hHeld ?_
                  simp only [getElem_toArray, getElem_cons_zero, getElem_cons_succ, Act.put, setIfInBounds_toArray, set_cons_zero, set_cons_succ]
                  refine wpAnyH_take (i := 44) (v := undef) rfl (by kernel_rfl) (by kernel_rfl) (by kernel_rfl) (fun _ _ _ h => h) (Or.inr ⟨by rfl, rfl⟩) hHeld ?_
                  simp only [getElem_toArray, getElem_cons_zero, getElem_cons_succ, Act.put, setIfInBounds_toArray, set_cons_zero, set_cons_succ]
                  refine wpAnyH_take (i := 45) (v := undef) rfl (by kernel_rfl) (by kernel_rfl) (by kernel_rfl) (fun _ _ _ h => h) (Or.inr ⟨by rfl, rfl⟩) hHeld ?_
                  simp only [getElem_toArray, getElem_cons_zero, getElem_cons_succ, Act.put, setIfInBounds_toArray, set_cons_zero, set_cons_succ]
                  refine wpAnyH_take (i := 46) (v := undef) rfl (by kernel_rfl) (by kernel_rfl) (by kernel_rfl) (fun _ _ _ h => h) (Or.inr ⟨by rfl, rfl⟩) hHeld ?_
                  simp only [getElem_toArray, getElem_cons_zero, getElem_cons_succ, Act.put, setIfInBounds_toArray, set_cons_zero, set_cons_succ]
                  refine wpAnyH_take (i := 47) (v := undef) rfl (by kernel_rfl) (by kernel_rfl) (by kernel_rfl) (fun _ _ _ h => h) (Or.inr ⟨by rfl, rfl⟩) hHeld ?_
                  simp only [getElem_toArray, getElem_cons_zero, getElem_cons_succ, Act.put, setIfInBounds_toArray, set_cons_zero, set_cons_succ]
                  refine wpAnyH_take (i := 48) (v := undef) rfl (by kernel_rfl) (by kernel_rfl) (by kernel_rfl) (fun _ _ _ h => h) (Or.inr ⟨by rfl, rfl⟩) hHeld ?_
                  simp only [getElem_toArray, getElem_cons_zero, getElem_cons_succ, Act.put, setIfInBounds_toArray, set_cons_zero, set_cons_succ]
                  refine wpAnyH_take (i := 49) (v := undef) rfl (by kernel_rfl) (by kernel_rfl) (by kernel_rfl) (fun _ _ _ h => h) (Or.inr ⟨by rfl, rfl⟩) hHeld ?_
                  simp only [getElem_toArray, getElem_cons_zero, getElem_cons_succ, Act.put, setIfInBounds_toArray, set_cons_zero, set_cons_succ]
                  refine wpAnyH_take (i := 50) (v := undef) rfl (by kernel_rfl) (by kernel_rfl) (by kernel_rfl) (fun _ _ _ h => h) (Or.inr ⟨by rfl, rfl⟩) hHeld ?_
                  simp only [getElem_toArray, getElem_cons_zero, getElem_cons_succ, Act.put, setIfInBounds_toArray, set_cons_zero, set_cons_succ]
                  refine wpAnyH_take (i := 51) (v := undef) rfl (by kernel_rfl) (by kernel_rfl) (by kernel_rfl) (fun _ _ _ h => h) (Or.inr ⟨by rfl, rfl⟩) hHeld ?_
                  simp only [getElem_toArray, getElem_cons_zero, getElem_cons_succ, Act.put, setIfInBounds_toArray, set_cons_zero, set_cons_succ]
                  refine wpAnyH_take (i := 52) (v := undef) rfl (by kernel_rfl) (by kernel_rfl) (by kernel_rfl) (fun _ _ _ h => h) (Or.inr ⟨by rfl, rfl⟩) hHeld ?_
                  simp only [getElem_toArray, getElem_cons_zero, getElem_cons_succ, Act.put, setIfInBounds_toArray, set_cons_zero, set_cons_succ]
                  refine wpAnyH_take (i := 53) (v := .bool false) rfl (by kernel_rfl) (by kernel_rfl) (by kernel_rfl) (fun _ _ _ h => h) (Or.inl ⟨by rfl, ?y53_6⟩) hHeld ?_
                  case y53_6 => (intro w hSw; (try dsimp only at hSw); go_simp; first | done | (with_reducible rfl))
                  simp only [getElem_toArray, getElem_cons_zero, getElem_cons_succ, Act.put, setIfInBounds_toArray, set_cons_zero, set_cons_succ]
                  refine wpAnyH_take (i := 54) (v := .bool false) rfl (by kernel_rfl) (by kernel_rfl) (by kernel_rfl) (fun _ _ _ h => h) (Or.inl ⟨by rfl, ?y54_6⟩) hHeld ?_
                  case y54_6 => (intro w hSw; (try dsimp only at hSw); go_simp; first | done | (with_reducible rfl))
                  simp only [getElem_toArray, getElem_cons_zero, getElem_cons_succ, Act.put, setIfInBounds_toArray, set_cons_zero, set_cons_succ]
                  refine wpAnyH_done (by kernel_rfl) ?_ _
                  refine NoPanic.normal ?_
                  go_wp2_with fail
                  go_roundg q2
                  case measure => omega
                  case rel => exact ⟨i + 1, by omega, by go_num, by have := AG2.out; show _ = _; omega, hb2⟩
              · obtain rfl : r1 = true := HO.out.2 (by simp) rfl
                as_aux_lemma =>
                  go_wp2_with fail
                  have hdr : Below wb.heap.size wb wr.drew := hB.drew
                  refine wp_region_noPanic ?_
                  refine wp_region_held_drew (S := (fun W => W.cell? ⟨g, i, none⟩ = some (.string ⟨li.toArray⟩) ∧ W.cell? ⟨g, i, none⟩ = some (.string ⟨li.toArray⟩) ∧ W.cell? ⟨ga, 2, none⟩ = some (.string ⟨(s0 :: st).toArray⟩) ∧ Below wb.heap.size wb W)) (by kernel_rfl) ?_ (fun hHeld => ?_)
                  · exact HKB2.out _ hdr
                  refine wpAnyH_take (i := 0) (v := ?v0_7) rfl (by kernel_rfl) (by kernel_rfl) (by kernel_rfl) (fun _ _ _ h => h) (Or.inl ⟨by rfl, ?y0_7⟩) hHeld ?_
                  case y0_7 => (intro w hSw; (try dsimp only at hSw); go_simp; first | done | (with_reducible rfl))
                  simp only [getElem_toArray, getElem_cons_zero, getElem_cons_succ, Act.put, setIfInBounds_toArray, set_cons_zero, set_cons_succ]
                  refine wpAnyH_take (i := 1) (v := ?v1_7) rfl (by kernel_rfl) (by kernel_rfl) (by kernel_rfl) (fun _ _ _ h => h) (Or.inl ⟨by rfl, ?y1_7⟩) hHeld ?_
                  case y1_7 => (intro w hSw; (try dsimp only at hSw); go_simp; first | done | (with_reducible rfl))
                  simp only [getElem_toArray, getElem_cons_zero, getElem_cons_succ, Act.put, setIfInBounds_toArray, set_cons_zero, set_cons_succ]
                  refine wpAnyH_take (i := 2) (v := .bool false) rfl (by kernel_rfl) (by kernel_rfl) (by kernel_rfl) (fun _ _ _ h => h) (Or.inl ⟨by rfl, ?y2_7⟩) hHeld ?_
                  case y2_7 => (intro w hSw; (try dsimp only at hSw); go_simp; first | done | (with_reducible rfl))
                  simp only [getElem_toArray, getElem_cons_zero, getElem_cons_succ, Act.put, setIfInBounds_toArray, set_cons_zero, set_cons_succ]
                  refine wpAnyH_take (i := 3) (v := .bool false) rfl (by kernel_rfl) (by kernel_rfl) (by kernel_rfl) (fun _ _ _ h => h) (Or.inl ⟨by rfl, ?y3_7⟩) hHeld ?_
                  case y3_7 => (intro w hSw; (try dsimp only at hSw); go_simp; first | done | (with_reducible rfl))
                  simp only [getElem_toArray, getElem_cons_zero, getElem_cons_succ, Act.put, setIfInBounds_toArray, set_cons_zero, set_cons_succ]
                  refine wpAnyH_take (i := 4) (v := undef) rfl (by kernel_rfl) (by kernel_rfl) (by kernel_rfl) (fun _ _ _ h => h) (Or.inr ⟨by rfl, rfl⟩) hHeld ?_
                  simp only [getElem_toArray, getElem_cons_zero, getElem_cons_succ, Act.put, setIfInBounds_toArray, set_cons_zero, set_cons_succ]
                  refine wpAnyH_take (i := 5) (v := undef) rfl (by kernel_rfl) (by kernel_rfl) (by kernel_rfl) (fun _ _ _ h => h) (Or.inr ⟨by rfl, rfl⟩) hHeld ?_
                  simp only [getElem_toArray, getElem_cons_zero, getElem_cons_succ, Act.put, setIfInBounds_toArray, set_cons_zero, set_cons_succ]
                  refine wpAnyH_take (i := 6) (v := undef) rfl (by kernel_rfl) (by kernel_rfl) (by kernel_rfl) (fun _ _ _ h => h) (Or.inr ⟨by rfl, rfl⟩) hHeld ?_
                  simp only [getElem_toArray, getElem_cons_zero, getElem_cons_succ, Act.put, setIfInBounds_toArray, set_cons_zero, set_cons_succ]
                  refine wpAnyH_take (i := 7) (v := undef) rfl (by kernel_rfl) (by kernel_rfl) (by kernel_rfl) (fun _ _ _ h => h) (Or.inr ⟨by rfl, rfl⟩) hHeld ?_
                  simp only [getElem_toArray, getElem_cons_zero, getElem_cons_succ, Act.put, setIfInBounds_toArray, set_cons_zero, set_cons_succ]
                  refine wpAnyH_take (i := 8) (v := undef) rfl (by kernel_rfl) (by kernel_rfl) (by kernel_rfl) (fun _ _ _ h => h) (Or.inr ⟨by rfl, rfl⟩) hHeld ?_
                  simp only [getElem_toArray, getElem_cons_zero, getElem_cons_succ, Act.put, setIfInBounds_toArray, set_cons_zero, set_cons_succ]
                  refine wpAnyH_take (i := 9) (v := undef) rfl (by kernel_rfl) (by kernel_rfl) (by kernel_rfl) (fun _ _ _ h => h) (Or.inr ⟨by rfl, rfl⟩) hHeld ?_
                  simp only [getElem_toArray, getElem_cons_zero, getElem_cons_succ, Act.put, setIfInBounds_toArray, set_cons_zero, set_cons_succ]
                  refine wpAnyH_take (i := 10) (v := undef) rfl (by kernel_rfl) (by kernel_rfl) (by kernel_rfl) (fun _ _ _ h => h) (Or.inr ⟨by rfl, rfl⟩) hHeld ?_
                  simp only [getElem_toArray, getElem_cons_zero, getElem_cons_succ, Act.put, setIfInBounds_toArray, set_cons_zero, set_cons_succ]
                  refine wpAnyH_take (i := 11) (v := undef) rfl (by kernel_rfl) (by kernel_rfl) (by kernel_rfl) (fun _ _ _ h => h) (Or.inr ⟨by rfl, rfl⟩) hHeld ?_
                  simp only [getElem_toArray, getElem_cons_zero, getElem_cons_succ, Act.put, setIfInBounds_toArray, set_cons_zero, set_cons_succ]
                  refine wpAnyH_take (i := 12) (v := undef) rfl (by kernel_rfl) (by kernel_rfl) (by kernel_rfl) (fun _ _ _ h => h) (Or.inr ⟨by rfl, rfl⟩) hHeld ?_
                  simp only [getElem_toArray, getElem_cons_zero, getElem_cons_succ, Act.put, setIfInBounds_toArray, set_cons_zero, set_cons_succ]
                  refine wpAnyH_take (i := 13) (v := undef) rfl (by kernel_rfl) (by kernel_rfl) (by kernel_rfl) (fun _ _ _ h => h) (Or.inr ⟨by rfl, rfl⟩) hHeld ?_
                  simp only [getElem_toArray, getElem_cons_zero, getElem_cons_succ, Act.put, setIfInBounds_toArray, set_cons_zero, set_cons_succ]
                  refine wpAnyH_take (i := 14) (v := .bool false) rfl (by kernel_rfl) (by kernel_rfl) (by kernel_rfl) (fun _ _ _ h => h) (Or.inl ⟨by rfl, ?y14_7⟩) hHeld ?_
                  case y14_7 => (intro w hSw; (try dsimp only at hSw); go_simp; first | done | (with_reducible rfl))
                  simp only [getElem_toArray, getElem_cons_zero, getElem_cons_succ, Act.put, setIfInBounds_toArray, set_cons_zero, set_cons_succ]
                  refine wpAnyH_take (i := 15) (v := .bool false) rfl (by kernel_rfl) (by kernel_rfl) (by kernel_rfl) (fun _ _ _ h => h) (Or.inl ⟨by rfl, ?y15_7⟩) hHeld ?_
                  case y15_7 => (intro w hSw; (try dsimp only at hSw); go_simp; first | done | (with_reducible rfl))
                  simp only [getElem_toArray, getElem_cons_zero, getElem_cons_succ, Act.put, setIfInBounds_toArray, set_cons_zero, set_cons_succ]
                  refine wpAnyH_take (i := 16) (v := undef) rfl (by kernel_rfl) (by kernel_rfl) (by kernel_rfl) (fun _ _ _ h => h) (Or.inr ⟨by rfl, rfl⟩) hHeld ?_
                  simp only [getElem_toArray, getElem_cons_zero, getElem_cons_succ, Act.put, setIfInBounds_toArray, set_cons_zero, set_cons_succ]
                  refine wpAnyH_take (i := 17) (v := undef) rfl (by kernel_rfl) (by kernel_rfl) (by kernel_rfl) (fun _ _ _ h => h) (Or.inr ⟨by rfl, rfl⟩) hHeld ?_
                  simp only [getElem_toArray, getElem_cons_zero, getElem_cons_succ, Act.put, setIfInBounds_toArray, set_cons_zero, set_cons_succ]
                  refine wpAnyH_take (i := 18) (v := undef) rfl (by kernel_rfl) (by kernel_rfl) (by kernel_rfl) (fun _ _ _ h => h) (Or.inr ⟨by rfl, rfl⟩) hHeld ?_
                  simp only [getElem_toArray, getElem_cons_zero, getElem_cons_succ, Act.put, setIfInBounds_toArray, set_cons_zero, set_cons_succ]
                  refine wpAnyH_take (i := 19) (v := undef) rfl (by kernel_rfl) (by kernel_rfl) (by kernel_rfl) (fun _ _ _ h => h) (Or.inr ⟨by rfl, rfl⟩) hHeld ?_
                  simp only [getElem_toArray, getElem_cons_zero, getElem_cons_succ, Act.put, setIfInBounds_toArray, set_cons_zero, set_cons_succ]
                  refine wpAnyH_take (i := 20) (v := undef) rfl (by kernel_rfl) (by kernel_rfl) (by kernel_rfl) (fun _ _ _ h => h) (Or.inr ⟨by rfl, rfl⟩) hHeld ?_
                  simp only [getElem_toArray, getElem_cons_zero, getElem_cons_succ, Act.put, setIfInBounds_toArray, set_cons_zero, set_cons_succ]
                  refine wpAnyH_take (i := 21) (v := undef) rfl (by kernel_rfl) (by kernel_rfl) (by kernel_rfl) (fun _ _ _ h => h) (Or.inr ⟨by rfl, rfl⟩) hHeld ?_
                  simp only [getElem_toArray, getElem_cons_zero, getElem_cons_succ, Act.put, setIfInBounds_toArray, set_cons_zero, set_cons_succ]
                  refine wpAnyH_take (i := 22) (v := undef) rfl (by kernel_rfl) (by kernel_rfl) (by kernel_rfl) (fun _ _ _ h => h) (Or.inr ⟨by rfl, rfl⟩) hHeld ?_
                  simp only [getElem_toArray, getElem_cons_zero, getElem_cons_succ, Act.put, setIfInBounds_toArray, set_cons_zero, set_cons_succ]
                  refine wpAnyH_take (i := 23) (v := undef) rfl (by kernel_rfl) (by kernel_rfl) (by kernel_rfl) (fun _ _ _ h => h) (Or.inr ⟨by rfl, rfl⟩) hHeld ?_
                  simp only [getElem_toArray, getElem_cons_zero, getElem_cons_succ, Act.put, setIfInBounds_toArray, set_cons_zero, set_cons_succ]
                  refine wpAnyH_take (i := 24) (v := undef) rfl (by kernel_rfl) (by kernel_rfl) (by kernel_rfl) (fun _ _ _ h => h) (Or.inr ⟨by rfl, rfl⟩) hHeld ?_
                  simp only [getElem_toArray, getElem_cons_zero, getElem_cons_succ, Act.put, setIfInBounds_toArray, set_cons_zero, set_cons_succ]
                  refine wpAnyH_take (i := 25) (v := undef) rfl (by kernel_rfl) (by kernel_rfl) (by kernel_rfl) (fun _ _ _ h => h) (Or.inr ⟨by rfl, rfl⟩) hHeld ?_
                  simp only [getElem_toArray, getElem_cons_zero, getElem_cons_succ, Act.put, setIfInBounds_toArray, set_cons_zero, set_cons_succ]
                  refine wpAnyH_take (i := 26) (v := .bool false) rfl (by kernel_rfl) (by kernel_rfl) (by kernel_rfl) (fun _ _ _ h => h) (Or.inl ⟨by rfl, ?y26_7⟩) hHeld ?_
                  case y26_7 => (intro w hSw; (try dsimp only at hSw); go_simp; first | done | (with_reducible rfl))
                  simp only [getElem_toArray, getElem_cons_zero, getElem_cons_succ, Act.put, setIfInBounds_toArray, set_cons_zero, set_cons_succ]
                  refine wpAnyH_take (i := 27) (v := .bool false) rfl (by kernel_rfl) (by kernel_rfl) (by kernel_rfl) (fun _ _ _ h => h) (Or.inl ⟨by rfl, ?y27_7⟩) hHeld ?_
                  case y27_7 => (intro w hSw; (try dsimp only at hSw); go_simp; first | done | (with_reducible rfl))
                  simp only [getElem_toArray, getElem_cons_zero, getElem_cons_succ, Act.put, setIfInBounds_toArray, set_cons_zero, set_cons_succ]
                  refine wpAnyH_take (i := 28) (v := ?v28_7) rfl (by kernel_rfl) (by kernel_rfl) (by kernel_rfl) (fun _ _ _ h => h) (Or.inl ⟨by rfl, ?y28_7⟩) hHeld ?_
                  case y28_7 => (intro w hSw; (try dsimp only at hSw); go_simp; first | done | (with_reducible rfl))
                  simp only [getElem_toArray, getElem_cons_zero, getElem_cons_succ, Act.put, setIfInBounds_toArray, set_cons_zero, set_cons_succ]
                  refine wpAnyH_take (i := 29) (v := ?v29_7) rfl (by kernel_rfl) (by kernel_rfl) (by kernel_rfl) (fun _ _ _ h => h) (Or.inl ⟨by rfl, ?y29_7⟩) hHeld ?_
                  case y29_7 => (intro w hSw; (try dsimp only at hSw); go_simp; first | done | (with_reducible rfl))
                  simp only [getElem_toArray, getElem_cons_zero, getElem_cons_succ, Act.put, setIfInBounds_toArray, set_cons_zero, set_cons_succ]
                  refine wpAnyH_take (i := 30) (v := .bool true) rfl (by kernel_rfl) (by kernel_rfl) (by kernel_rfl) (fun _ _ _ h => h) (Or.inl ⟨by rfl, ?y30_7⟩) hHeld ?_
                  case y30_7 => (intro w hSw; (try dsimp only at hSw); go_simp; first | done | (with_reducible rfl))
                  simp only [getElem_toArray, getElem_cons_zero, getElem_cons_succ, Act.put, setIfInBounds_toArray, set_cons_zero, set_cons_succ]
                  refine wpAnyH_take (i := 31) (v := ?v31_7) rfl (by kernel_rfl) (by kernel_rfl) (by kernel_rfl) (fun _ _ _ h => h) (Or.inl ⟨by rfl, ?y31_7⟩) hHeld ?_
                  case y31_7 => (intro w hSw; (try dsimp only at hSw); go_simp; first | done | (with_reducible rfl))
                  simp only [getElem_toArray, getElem_cons_zero, getElem_cons_succ, Act.put, setIfInBounds_toArray, set_cons_zero, set_cons_succ]
                  refine wpAnyH_take (i := 32) (v := ?v32_7) rfl (by kernel_rfl) (by kernel_rfl) (by kernel_rfl) (fun _ _ _ h => h) (Or.inl ⟨by rfl, ?y32_7⟩) hHeld ?_
                  case y32_7 => (intro w hSw; (try dsimp only at hSw); go_simp; first | done | (with_reducible rfl))
                  simp only [getElem_toArray, getElem_cons_zero, getElem_cons_succ, Act.put, setIfInBounds_toArray, set_cons_zero, set_cons_succ]
                  refine wpAnyH_take (i := 33) (v := ?v33_7) rfl (by kernel_rfl) (by kernel_rfl) (by kernel_rfl) (fun _ _ _ h => h) (Or.inl ⟨by rfl, ?y33_7⟩) hHeld ?_
                  case y33_7 => (intro w hSw; (try dsimp only at hSw); go_simp; first | done | (with_reducible rfl))
                  simp only [getElem_toArray, getElem_cons_zero, getElem_cons_succ, Act.put, setIfInBounds_toArray, set_cons_zero, set_cons_succ]
                  refine wpAnyH_take (i := 34) (v := ?v34_7) rfl (by kernel_rfl) (by kernel_rfl) (by kernel_rfl) (fun _ _ _ h => h) (Or.inl ⟨by rfl, ?y34_7⟩) hHeld ?_
                  case y34_7 => (intro w hSw; (try dsimp only at hSw); go_simp; first | done | (with_reducible rfl))
                  simp only [getElem_toArray, getElem_cons_zero, getElem_cons_succ, Act.put, setIfInBounds_toArray, set_cons_zero, set_cons_succ]
                  refine wpAnyH_take (i := 35) (v := ?v35_7) rfl (by kernel_rfl) (by kernel_rfl) (by kernel_rfl) (fun _ _ _ h => h) (Or.inl ⟨by rfl, ?y35_7⟩) hHeld ?_
                  case y35_7 => (intro w hSw; (try dsimp only at hSw); go_simp; first | done | (with_reducible rfl))
                  simp only [getElem_toArray, getElem_cons_zero, getElem_cons_succ, Act.put, setIfInBounds_toArray, set_cons_zero, set_cons_succ]
                  refine wpAnyH_take (i := 36) (v := ?v36_7) rfl (by kernel_rfl) (by kernel_rfl) (by kernel_rfl) (fun _ _ _ h => h) (Or.inl ⟨by rfl, ?y36_7⟩) hHeld ?_
                  case y36_7 => (intro w hSw; (try dsimp only at hSw); go_simp; first | done | (with_reducible rfl))
                  simp only [getElem_toArray, getElem_cons_zero, getElem_cons_succ, Act.put, setIfInBounds_toArray, set_cons_zero, set_cons_succ]
                  refine wpAnyH_take (i := 37) (v := ?v37_7) rfl (by kernel_rfl) (by kernel_rfl) (by kernel_rfl) (fun _ _ _ h => h) (Or.inl ⟨by rfl, ?y37_7⟩) hHeld ?_
                  case y37_7 => (intro w hSw; (try dsimp only at hSw); go_simp; first | done | (with_reducible rfl))
                  simp only [getElem_toArray, getElem_cons_zero, getElem_cons_succ, Act.put, setIfInBounds_toArray, set_cons_zero, set_cons_succ]
                  refine wpAnyH_take (i := 38) (v := ?v38_7) rfl (by kernel_rfl) (by kernel_rfl) (by kernel_rfl) (fun _ _ _ h => h) (Or.inl ⟨by rfl, ?y38_7⟩) hHeld ?_
                  case y38_7 => (intro w hSw; (try dsimp only at hSw); go_simp; first | done | (with_reducible rfl))
                  simp only [getElem_toArray, getElem_cons_zero, getElem_cons_succ, Act.put, setIfInBounds_toArray, set_cons_zero, set_cons_succ]
                  refine wpAnyH_ready (rs := [39]) (by kernel_rfl) (by simp) ?_
                  refine AllReadyH.cons rfl (fun K hK => ?_) AllReadyH.nil
                  go_simp
                  (refine (HI3.out _ (by assumption)).mono ?_; rintro e w2 ⟨rfl, hb2⟩)
                  (try go_wp2_with fail)
                  refine hK.out _ _ ?_ (fun hHeld => ?_)
                  · exact HKB2.out _ hb2
                  clear hK K
                  try simp only [getElem_toArray, getElem_cons_zero, getElem_cons_succ, Act.put, setIfInBounds_toArray, set_cons_zero, set_cons_succ]
                  refine wpAnyH_take (i := 40) (v := ?v40_7) rfl (by kernel_rfl) (by kernel_rfl) (by kernel_rfl) (fun _ _ _ h => h) (Or.inl ⟨by rfl, ?y40_7⟩) hHeld ?_
                  case y40_7 => (intro w hSw; (try dsimp only at hSw); go_simp; first | done | (with_reducible rfl))
                  simp only [getElem_toArray, getElem_cons_zero, getElem_cons_succ, Act.put, setIfInBounds_toArray, set_cons_zero, set_cons_succ]
                  refine wpAnyH_take (i := 41) (v := ?v41_7) rfl (by kernel_rfl) (by kernel_rfl) (by kernel_rfl) (fun _ _ _ h => h) (Or.inl ⟨by rfl, ?y41_7⟩) hHeld ?_
                  case y41_7 => (intro w hSw; (try dsimp only at hSw); go_simp; first | done | (with_reducible rfl))
                  simp only [getElem_toArray, getElem_cons_zero, getElem_cons_succ, Act.put, setIfInBounds_toArray, set_cons_zero, set_cons_succ]
                  refine wpAnyH_take (i := 42) (v := ?v42_7) rfl (by kernel_rfl) (by kernel_rfl) (by kernel_rfl) (fun _ _ _ h => h) (Or.inl ⟨by rfl, ?y42_7⟩) hHeld ?_
                  case y42_7 => (intro w hSw; (try dsimp only at hSw); go_simp; first | done | (with_reducible rfl))
                  simp only [getElem_toArray, getElem_cons_zero, getElem_cons_succ, Act.put, setIfInBounds_toArray, set_cons_zero, set_cons_succ]
                  refine wpAnyH_take (i := 43) (v := ?v43_7) rfl (by kernel_rfl) (by kernel_rfl) (by kernel_rfl) (fun _ _ _ h => h) (Or.inl ⟨by rfl, ?y43_7⟩) hHeld ?_
                  case y43_7 => (intro w hSw; (try dsimp only at hSw); go_simp; first | done | (with_reducible rfl))
                  simp only [getElem_toArray, getElem_cons_zero, getElem_cons_succ, Act.put, setIfInBounds_toArray, set_cons_zero, set_cons_succ]
                  refine wpAnyH_take (i := 44) (v := ?v44_7) rfl (by kernel_rfl) (by kernel_rfl) (by kernel_rfl) (fun _ _ _ h => h) (Or.inl ⟨by rfl, ?y44_7⟩) hHeld ?_
                  case y44_7 => (intro w hSw; (try dsimp only at hSw); go_simp; first | done | (with_reducible rfl))
                  simp only [getElem_toArray, getElem_cons_zero, getElem_cons_succ, Act.put, setIfInBounds_toArray, set_cons_zero, set_cons_succ]
                  refine wpAnyH_take (i := 45) (v := ?v45_7) rfl (by kernel_rfl) (by kernel_rfl) (by kernel_rfl) (fun _ _ _ h => h) (Or.inl ⟨by rfl, ?y45_7⟩) hHeld ?_
                  case y45_7 => (intro w hSw; (try dsimp only at hSw); go_simp; first | done | (with_reducible rfl))
                  simp only [getElem_toArray, getElem_cons_zero, getElem_cons_succ, Act.put, setIfInBounds_toArray, set_cons_zero, set_cons_succ]
                  refine wpAnyH_take (i := 46) (v := ?v46_7) rfl (by kernel_rfl) (by kernel_rfl) (by kernel_rfl) (fun _ _ _ h => h) (Or.inl ⟨by rfl, ?y46_7⟩) hHeld ?_
                  case y46_7 => (intro w hSw; (try dsimp only at hSw); go_simp; first | done | (with_reducible rfl))
                  simp only [getElem_toArray, getElem_cons_zero, getElem_cons_succ, Act.put, setIfInBounds_toArray, set_cons_zero, set_cons_succ]
                  refine wpAnyH_take (i := 47) (v := ?v47_7) rfl (by kernel_rfl) (by kernel_rfl) (by kernel_rfl) (fun _ _ _ h => h) (Or.inl ⟨by rfl, ?y47_7⟩) hHeld ?_
                  case y47_7 => (intro w hSw; (try dsimp only at hSw); go_simp; first | done | (with_reducible rfl))
                  simp only [getElem_toArray, getElem_cons_zero, getElem_cons_succ, Act.put, setIfInBounds_toArray, set_cons_zero, set_cons_succ]
                  refine wpAnyH_take (i := 48) (v := ?v48_7) rfl (by kernel_rfl) (by kernel_rfl) (by kernel_rfl) (fun _ _ _ h => h) (Or.inl ⟨by rfl, ?y48_7⟩) hHeld ?_
                  case y48_7 => (intro w hSw; (try dsimp only at hSw); go_simp; first | done | (with_reducible rfl))
                  simp only [getElem_toArray, getElem_cons_zero, getElem_cons_succ, Act.put, setIfInBounds_toArray, set_cons_zero, set_cons_succ]
                  refine wpAnyH_take (i := 49) (v := ?v49_7) rfl (by kernel_rfl) (by kernel_rfl) (by kernel_rfl) (fun _ _ _ h => h) (Or.inl ⟨by rfl, ?y49_7⟩) hHeld ?_
                  case y49_7 => (intro w hSw; (try dsimp only at hSw); go_simp; first | done | (with_reducible rfl))
                  simp only [getElem_toArray, getElem_cons_zero, getElem_cons_succ, Act.put, setIfInBounds_toArray, set_cons_zero, set_cons_succ]
                  refine wpAnyH_take (i := 50) (v := ?v50_7) rfl (by kernel_rfl) (by kernel_rfl) (by kernel_rfl) (fun _ _ _ h => h) (Or.inl ⟨by rfl, ?y50_7⟩) hHeld ?_
                  case y50_7 => (intro w hSw; (try dsimp only at hSw); go_simp; first | done | (with_reducible rfl))
                  simp only [getElem_toArray, getElem_cons_zero, getElem_cons_succ, Act.put, setIfInBounds_toArray, set_cons_zero, set_cons_succ]
                  refine wpAnyH_ready (rs := [51]) (by kernel_rfl) (by simp) ?_
                  refine AllReadyH.cons rfl (fun K hK => ?_) AllReadyH.nil
                  go_simp
                  (refine (HI4.out _ (by assumption)).mono ?_; rintro e w2 ⟨rfl, hb2⟩)
                  (try go_wp2_with fail)
                  refine hK.out _ _ ?_ (fun hHeld => ?_)
                  · exact HKB2.out _ hb2
                  clear hK K
                  try simp only [getElem_toArray, getElem_cons_zero, getElem_cons_succ, Act.put, setIfInBounds_toArray, set_cons_zero, set_cons_succ]
                  refine wpAnyH_take (i := 52) (v := .bool false) rfl (by kernel_rfl) (by kernel_rfl) (by kernel_rfl) (fun _ _ _ h => h) (Or.inl ⟨by rfl, ?y52_7⟩) hHeld ?_
                  case y52_7 => (intro w hSw; (try dsimp only at hSw); go_simp; first | done | (with_reducible rfl))
                  simp only [getElem_toArray, getElem_cons_zero, getElem_cons_succ, Act.put, setIfInBounds_toArray, set_cons_zero, set_cons_succ]
                  refine wpAnyH_take (i := 53) (v := .bool false) rfl (by kernel_rfl) (by kernel_rfl) (by kernel_rfl) (fun _ _ _ h => h) (Or.inl ⟨by rfl, ?y53_7⟩) hHeld ?_
                  case y53_7 => (intro w hSw; (try dsimp only at hSw); go_simp; first | done | (with_reducible rfl))
                  simp only [getElem_toArray, getElem_cons_zero, getElem_cons_succ, Act.put, setIfInBounds_toArray, set_cons_zero, set_cons_succ]
                  refine wpAnyH_take (i := 54) (v := .bool false) rfl (by kernel_rfl) (by kernel_rfl) (by kernel_rfl) (fun _ _ _ h => h) (Or.inl ⟨by rfl, ?y54_7⟩) hHeld ?_
                  case y54_7 => (intro w hSw; (try dsimp only at hSw); go_simp; first | done | (with_reducible rfl))
                  simp only [getElem_toArray, getElem_cons_zero, getElem_cons_succ, Act.put, setIfInBounds_toArray, set_cons_zero, set_cons_succ]
                  refine wpAnyH_done (by kernel_rfl) ?_ _
                  refine NoPanic.normal ?_
                  go_wp2_with fail
                  go_roundg q2
                  case measure => omega
                  case rel => exact ⟨i + 1, by omega, by go_num, by have := AG2.out; show _ = _; omega, hb2⟩
            · have hikv : ((i : Int) != (k : Int)) = true := bne_iff_ne.2 (by omega)
              cases r1
              · cases r3
                · as_aux_lemma =>
                    go_wp2_with fail
                    have hdr : Below wb.heap.size wb wr.drew := hB.drew
                    refine wp_region_noPanic ?_
                    refine wp_region_held_drew (S := (fun W => W.cell? ⟨g, i, none⟩ = some (.string ⟨li.toArray⟩) ∧ W.cell? ⟨g, k, none⟩ = some (.string ⟨lk.toArray⟩) ∧ W.cell? ⟨ga, 2, none⟩ = some (.string ⟨(s0 :: st).toArray⟩) ∧ Below wb.heap.size wb W)) (by kernel_rfl) ?_ (fun hHeld => ?_)
                    · exact HKB2.out _ hdr
                    refine wpAnyH_take (i := 0) (v := ?v0_8) rfl (by kernel_rfl) (by kernel_rfl) (by kernel_rfl) (fun _ _ _ h => h) (Or.inl ⟨by rfl, ?y0_8⟩) hHeld ?_
                    case y0_8 => (intro w hSw; (try dsimp only at hSw); go_simp; first | done | (with_reducible rfl))
                    simp only [getElem_toArray, getElem_cons_zero, getElem_cons_succ, Act.put, setIfInBounds_toArray, set_cons_zero, set_cons_succ]
                    refine wpAnyH_take (i := 1) (v := ?v1_8) rfl (by kernel_rfl) (by kernel_rfl) (by kernel_rfl) (fun _ _ _ h => h) (Or.inl ⟨by rfl, ?y1_8⟩) hHeld ?_
                    case y1_8 => (intro w hSw; (try dsimp only at hSw); go_simp; first | done | (with_reducible rfl))
                    simp only [getElem_toArray, getElem_cons_zero, getElem_cons_succ, Act.put, setIfInBounds_toArray, set_cons_zero, set_cons_succ]
                    refine wpAnyH_take (i := 2) (v := .bool true) rfl (by kernel_rfl) (by kernel_rfl) (by kernel_rfl) (fun _ _ _ h => h) (Or.inl ⟨by rfl, ?y2_8⟩) hHeld ?_
                    case y2_8 => (intro w hSw; (try dsimp only at hSw); go_simp; first | done | (with_reducible rfl))
                    simp only [getElem_toArray, getElem_cons_zero, getElem_cons_succ, Act.put, setIfInBounds_toArray, set_cons_zero, set_cons_succ]
                    refine wpAnyH_take (i := 3) (v := ?v3_8) rfl (by kernel_rfl) (by kernel_rfl) (by kernel_rfl) (fun _ _ _ h => h) (Or.inl ⟨by rfl, ?y3_8⟩) hHeld ?_
                    case y3_8 => (intro w hSw; (try dsimp only at hSw); go_simp; first | done | (with_reducible rfl))
                    simp only [getElem_toArray, getElem_cons_zero, getElem_cons_succ, Act.put, setIfInBounds_toArray, set_cons_zero, set_cons_succ]
                    refine wpAnyH_take (i := 4) (v := ?v4_8) rfl (by kernel_rfl) (by kernel_rfl) (by kernel_rfl) (fun _ _ _ h => h) (Or.inl ⟨by rfl, ?y4_8⟩) hHeld ?_
                    case y4_8 => (intro w hSw; (try dsimp only at hSw); go_simp; first | done | (with_reducible rfl))
                    simp only [getElem_toArray, getElem_cons_zero, getElem_cons_succ, Act.put, setIfInBounds_toArray, set_cons_zero, set_cons_succ]
                    refine wpAnyH_take (i := 5) (v := ?v5_8) rfl (by kernel_rfl) (by kernel_rfl) (by kernel_rfl) (fun _ _ _ h => h) (Or.inl ⟨by rfl, ?y5_8⟩) hHeld ?_
                    case y5_8 => (intro w hSw; (try dsimp only at hSw); go_simp; first | done | (with_reducible rfl))
                    simp only [getElem_toArray, getElem_cons_zero, getElem_cons_succ, Act.put, setIfInBounds_toArray, set_cons_zero, set_cons_succ]
                    refine wpAnyH_take (i := 6) (v := ?v6_8) rfl (by kernel_rfl) (by kernel_rfl) (by kernel_rfl) (fun _ _ _ h => h) (Or.inl ⟨by rfl, ?y6_8⟩) hHeld ?_
                    case y6_8 => (intro w hSw; (try dsimp only at hSw); go_simp; first | done | (with_reducible rfl))
                    simp only [getElem_toArray, getElem_cons_zero, getElem_cons_succ, Act.put, setIfInBounds_toArray, set_cons_zero, set_cons_succ]
                    refine wpAnyH_take (i := 7) (v := ?v7_8) rfl (by kernel_rfl) (by kernel_rfl) (by kernel_rfl) (fun _ _ _ h => h) (Or.inl ⟨by rfl, ?y7_8⟩) hHeld ?_
                    case y7_8 => (intro w hSw; (try dsimp only at hSw); go_simp; first | done | (with_reducible rfl))
                    simp only [getElem_toArray, getElem_cons_zero, getElem_cons_succ, Act.put, setIfInBounds_toArray, set_cons_zero, set_cons_succ]
                    refine wpAnyH_take (i := 8) (v := ?v8_8) rfl (by kernel_rfl) (by kernel_rfl) (by kernel_rfl) (fun _ _ _ h => h) (Or.inl ⟨by rfl, ?y8_8⟩) hHeld ?_
                    case y8_8 => (intro w hSw; (try dsimp only at hSw); go_simp; first | done | (with_reducible rfl))
                    simp only [getElem_toArray, getElem_cons_zero, getElem_cons_succ, Act.put, setIfInBounds_toArray, set_cons_zero, set_cons_succ]
                    refine wpAnyH_take (i := 9) (v := ?v9_8) rfl (by kernel_rfl) (by kernel_rfl) (by kernel_rfl) (fun _ _ _ h => h) (Or.inl ⟨by rfl, ?y9_8⟩) hHeld ?_
                    case y9_8 => (intro w hSw; (try dsimp only at hSw); go_simp; first | done | (with_reducible rfl))
                    simp only [getElem_toArray, getElem_cons_zero, getElem_cons_succ, Act.put, setIfInBounds_toArray, set_cons_zero, set_cons_succ]
                    refine wpAnyH_take (i := 10) (v := ?v10_8) rfl (by kernel_rfl) (by kernel_rfl) (by kernel_rfl) (fun _ _ _ h => h) (Or.inl ⟨by rfl, ?y10_8⟩) hHeld ?_
                    case y10_8 => (intro w hSw; (try dsimp only at hSw); go_simp; first | done | (with_reducible rfl))
                    simp only [getElem_toArray, getElem_cons_zero, getElem_cons_succ, Act.put, setIfInBounds_toArray, set_cons_zero, set_cons_succ]
                    refine wpAnyH_take (i := 11) (v := ?v11_8) rfl (by kernel_rfl) (by kernel_rfl) (by kernel_rfl) (fun _ _ _ h => h) (Or.inl ⟨by rfl, ?y11_8⟩) hHeld ?_
                    case y11_8 => (intro w hSw; (try dsimp only at hSw); go_simp; first | done | (with_reducible rfl))
                    simp only [getElem_toArray, getElem_cons_zero, getElem_cons_succ, Act.put, setIfInBounds_toArray, set_cons_zero, set_cons_succ]
                    refine wpAnyH_take (i := 12) (v := ?v12_8) rfl (by kernel_rfl) (by kernel_rfl) (by kernel_rfl) (fun _ _ _ h => h) (Or.inl ⟨by rfl, ?y12_8⟩) hHeld ?_
                    case y12_8 => (intro w hSw; (try dsimp only at hSw); go_simp; first | done | (with_reducible rfl))
                    simp only [getElem_toArray, getElem_cons_zero, getElem_cons_succ, Act.put, setIfInBounds_toArray, set_cons_zero, set_cons_succ]
                    refine wpAnyH_ready (rs := [13]) (by kernel_rfl) (by simp) ?_
                    refine AllReadyH.cons rfl (fun K hK => ?_) AllReadyH.nil
                    go_simp
                    (refine (HI1.out _ (by assumption)).mono ?_; rintro e w2 ⟨rfl, hb2⟩)
                    (try go_wp2_with fail)
                    refine hK.out _ _ ?_ (fun hHeld => ?_)
                    · exact HKB2.out _ hb2
                    clear hK K
                    try simp only [getElem_toArray, getElem_cons_zero, getElem_cons_succ, Act.put, setIfInBounds_toArray, set_cons_zero, set_cons_succ]
                    refine wpAnyH_take (i := 14) (v := .bool false) rfl (by kernel_rfl) (by kernel_rfl) (by kernel_rfl) (fun _ _ _ h => h) (Or.inl ⟨by rfl, ?y14_8⟩) hHeld ?_
                    case y14_8 => (intro w hSw; (try dsimp only at hSw); go_simp; first | done | (with_reducible rfl))
                    simp only [getElem_toArray, getElem_cons_zero, getElem_cons_succ, Act.put, setIfInBounds_toArray, set_cons_zero, set_cons_succ]
                    refine wpAnyH_take (i := 15) (v := .bool false) rfl (by kernel_rfl) (by kernel_rfl) (by kernel_rfl) (fun _ _ _ h => h) (Or.inl ⟨by rfl, ?y15_8⟩) hHeld ?_
                    case y15_8 => (intro w hSw; (try dsimp only at hSw); go_simp; first | done | (with_reducible rfl))
                    simp only [getElem_toArray, getElem_cons_zero, getElem_cons_succ, Act.put, setIfInBounds_toArray, set_cons_zero, set_cons_succ]
                    refine wpAnyH_take (i := 16) (v := undef) rfl (by kernel_rfl) (by kernel_rfl) (by kernel_rfl) (fun _ _ _ h => h) (Or.inr ⟨by rfl, rfl⟩) hHeld ?_
                    simp only [getElem_toArray, getElem_cons_zero, getElem_cons_succ, Act.put, setIfInBounds_toArray, set_cons_zero, set_cons_succ]
                    refine wpAnyH_take (i := 17) (v := undef) rfl (by kernel_rfl) (by kernel_rfl) (by kernel_rfl) (fun _ _ _ h => h) (Or.inr ⟨by rfl, rfl⟩) hHeld ?_
                    simp only [getElem_toArray, getElem_cons_zero, getElem_cons_succ, Act.put, setIfInBounds_toArray, set_cons_zero, set_cons_succ]
                    refine wpAnyH_take (i := 18) (v := undef) rfl (by kernel_rfl) (by kernel_rfl) (by kernel_rfl) (fun _ _ _ h => h) (Or.inr ⟨by rfl, rfl⟩) hHeld ?_
                    simp only [getElem_toArray, getElem_cons_zero, getElem_cons_succ, Act.put, setIfInBounds_toArray, set_cons_zero, set_cons_succ]
                    refine wpAnyH_take (i := 19) (v := undef) rfl (by kernel_rfl) (by kernel_rfl) (by kernel_rfl) (fun _ _ _ h => h) (Or.inr ⟨by rfl, rfl⟩) hHeld ?_
                    simp only [getElem_toArray, getElem_cons_zero, getElem_cons_succ, Act.put, setIfInBounds_toArray, set_cons_zero, set_cons_succ]
                    refine wpAnyH_take (i := 20) (v := undef) rfl (by kernel_rfl) (by kernel_rfl) (by kernel_rfl) (fun _ _ _ h => h) (Or.inr ⟨by rfl, rfl⟩) hHeld ?_
                    simp only [getElem_toArray, getElem_cons_zero, getElem_cons_succ, Act.put, setIfInBounds_toArray, set_cons_zero, set_cons_succ]
                    refine wpAnyH_take (i := 21) (v := undef) rfl (by kernel_rfl) (by kernel_rfl) (by kernel_rfl) (fun _ _ _ h => h) (Or.inr ⟨by rfl, rfl⟩) hHeld ?_
                    simp only [getElem_toArray, getElem_cons_zero, getElem_cons_succ, Act.put, setIfInBounds_toArray, set_cons_zero, set_cons_succ]
                    refine wpAnyH_take (i := 22) (v := undef) rfl (by kernel_rfl) (by kernel_rfl) (by kernel_rfl) (fun _ _ _ h => h) (Or.inr ⟨by rfl, rfl⟩) hHeld ?_
                    simp only [getElem_toArray, getElem_cons_zero, getElem_cons_succ, Act.put, setIfInBounds_toArray, set_cons_zero, set_cons_succ]
                    refine wpAnyH_take (i := 23) (v := undef) rfl (by kernel_rfl) (by kernel_rfl) (by kernel_rfl) (fun _ _ _ h => h) (Or.inr ⟨by rfl, rfl⟩) hHeld ?_
                    simp only [getElem_toArray, getElem_cons_zero, getElem_cons_succ, Act.put, setIfInBounds_toArray, set_cons_zero, set_cons_succ]
                    refine wpAnyH_take (i := 24) (v := undef) rfl (by kernel_rfl) (by kernel_rfl) (by kernel_rfl) (fun _ _ _ h => h) (Or.inr ⟨by rfl, rfl⟩) hHeld ?_
                    simp only [getElem_toArray, getElem_cons_zero, getElem_cons_succ, Act.put, setIfInBounds_toArray, set_cons_zero, set_cons_succ]
                    refine wpAnyH_take (i := 25) (v := undef) rfl (by kernel_rfl) (by kernel_rfl) (by kernel_rfl) (fun _ _ _ h => h) (Or.inr ⟨by rfl, rfl⟩) hHeld ?_
                    simp only [getElem_toArray, getElem_cons_zero, getElem_cons_succ, Act.put, setIfInBounds_toArray, set_cons_zero, set_cons_succ]
                    refine wpAnyH_take (i := 26) (v := .bool false) rfl (by kernel_rfl) (by kernel_rfl) (by kernel_rfl) (fun _ _ _ h => h) (Or.inl ⟨by rfl, ?y26_8⟩) hHeld ?_
                    case y26_8 => (intro w hSw; (try dsimp only at hSw); go_simp; first | done | (with_reducible rfl))
                    simp only [getElem_toArray, getElem_cons_zero, getElem_cons_succ, Act.put, setIfInBounds_toArray, set_cons_zero, set_cons_succ]
                    refine wpAnyH_take (i := 27) (v := .bool false) rfl (by kernel_rfl) (by kernel_rfl) (by kernel_rfl) (fun _ _ _ h => h) (Or.inl ⟨by rfl, ?y27_8⟩) hHeld ?_
                    case y27_8 => (intro w hSw; (try dsimp only at hSw); go_simp; first | done | (with_reducible rfl))
                    simp only [getElem_toArray, getElem_cons_zero, getElem_cons_succ, Act.put, setIfInBounds_toArray, set_cons_zero, set_cons_succ]
                    refine wpAnyH_take (i := 28) (v := ?v28_8) rfl (by kernel_rfl) (by kernel_rfl) (by kernel_rfl) (fun _ _ _ h => h) (Or.inl ⟨by rfl, ?y28_8⟩) hHeld ?_
                    case y28_8 => (intro w hSw; (try dsimp only at hSw); go_simp; first | done | (with_reducible rfl))
                    simp only [getElem_toArray, getElem_cons_zero, getElem_cons_succ, Act.put, setIfInBounds_toArray, set_cons_zero, set_cons_succ]
                    refine wpAnyH_take (i := 29) (v := ?v29_8) rfl (by kernel_rfl) (by kernel_rfl) (by kernel_rfl) (fun _ _ _ h => h) (Or.inl ⟨by rfl, ?y29_8⟩) hHeld ?_
                    case y29_8 => (intro w hSw; (try dsimp only at hSw); go_simp; first | done | (with_reducible rfl))
                    simp only [getElem_toArray, getElem_cons_zero, getElem_cons_succ, Act.put, setIfInBounds_toArray, set_cons_zero, set_cons_succ]
                    refine wpAnyH_take (i := 30) (v := .bool true) rfl (by kernel_rfl) (by kernel_rfl) (by kernel_rfl) (fun _ _ _ h => h) (Or.inl ⟨by rfl, ?y30_8⟩) hHeld ?_
                    case y30_8 => (intro w hSw; (try dsimp only at hSw); go_simp; first | done | (with_reducible rfl))
                    simp only [getElem_toArray, getElem_cons_zero, getElem_cons_succ, Act.put, setIfInBounds_toArray, set_cons_zero, set_cons_succ]
                    refine wpAnyH_take (i := 31) (v := ?v31_8) rfl (by kernel_rfl) (by kernel_rfl) (by kernel_rfl) (fun _ _ _ h => h) (Or.inl ⟨by rfl, ?y31_8⟩) hHeld ?_
                    case y31_8 => (intro w hSw; (try dsimp only at hSw); go_simp; first | done | (with_reducible rfl))
                    simp only [getElem_toArray, getElem_cons_zero, getElem_cons_succ, Act.put, setIfInBounds_toArray, set_cons_zero, set_cons_succ]
                    refine wpAnyH_take (i := 32) (v := ?v32_8) rfl (by kernel_rfl) (by kernel_rfl) (by kernel_rfl) (fun _ _ _ h => h) (Or.inl ⟨by rfl, ?y32_8⟩) hHeld ?_
                    case y32_8 => (intro w hSw; (try dsimp only at hSw); go_simp; first | done | (with_reducible rfl))
                    simp only [getElem_toArray, getElem_cons_zero, getElem_cons_succ, Act.put, setIfInBounds_toArray, set_cons_zero, set_cons_succ]
                    refine wpAnyH_take (i := 33) (v := ?v33_8) rfl (by kernel_rfl) (by kernel_rfl) (by kernel_rfl) (fun _ _ _ h => h) (Or.inl ⟨by rfl, ?y33_8⟩) hHeld ?_
                    case y33_8 => (intro w hSw; (try dsimp only at hSw); go_simp; first | done | (with_reducible rfl))
                    simp only [getElem_toArray, getElem_cons_zero, getElem_cons_succ, Act.put, setIfInBounds_toArray, set_cons_zero, set_cons_succ]
                    refine wpAnyH_take (i := 34) (v := ?v34_8) rfl (by kernel_rfl) (by kernel_rfl) (by kernel_rfl) (fun _ _ _ h => h) (Or.inl ⟨by rfl, ?y34_8⟩) hHeld ?_
                    case y34_8 => (intro w hSw; (try dsimp only at hSw); go_simp; first | done | (with_reducible rfl))
                    simp only [getElem_toArray, getElem_cons_zero, getElem_cons_succ, Act.put, setIfInBounds_toArray, set_cons_zero, set_cons_succ]
                    refine wpAnyH_take (i := 35) (v := ?v35_8) rfl (by kernel_rfl) (by kernel_rfl) (by kernel_rfl) (fun _ _ _ h => h) (Or.inl ⟨by rfl, ?y35_8⟩) hHeld ?_
                    case y35_8 => (intro w hSw; (try dsimp only at hSw); go_simp; first | done | (with_reducible rfl))
                    simp only [getElem_toArray, getElem_cons_zero, getElem_cons_succ, Act.put, setIfInBounds_toArray, set_cons_zero, set_cons_succ]
                    refine wpAnyH_take (i := 36) (v := ?v36_8) rfl (by kernel_rfl) (by kernel_rfl) (by kernel_rfl) (fun _ _ _ h => h) (Or.inl ⟨by rfl, ?y36_8⟩) hHeld ?_
                    case y36_8 => (intro w hSw; (try dsimp only at hSw); go_simp; first | done | (with_reducible rfl))
                    simp only [getElem_toArray, getElem_cons_zero, getElem_cons_succ, Act.put, setIfInBounds_toArray, set_cons_zero, set_cons_succ]
                    refine wpAnyH_take (i := 37) (v := ?v37_8) rfl (by kernel_rfl) (by kernel_rfl) (by kernel_rfl) (fun _ _ _ h => h) (Or.inl ⟨by rfl, ?y37_8⟩) hHeld ?_
                    case y37_8 => (intro w hSw; (try dsimp only at hSw); go_simp; first | done | (with_reducible rfl))
                    simp only [getElem_toArray, getElem_cons_zero, getElem_cons_succ, Act.put, setIfInBounds_toArray, set_cons_zero, set_cons_succ]
                    refine wpAnyH_take (i := 38) (v := ?v38_8) rfl (by kernel_rfl) (by kernel_rfl) (by kernel_rfl) (fun _ _ _ h => h) (Or.inl ⟨by rfl, ?y38_8⟩) hHeld ?_
                    case y38_8 => (intro w hSw; (try dsimp only at hSw); go_simp; first | done | (with_reducible rfl))
                    simp only [getElem_toArray, getElem_cons_zero, getElem_cons_succ, Act.put, setIfInBounds_toArray, set_cons_zero, set_cons_succ]
                    refine wpAnyH_ready (rs := [39]) (by kernel_rfl) (by simp) ?_
                    refine AllReadyH.cons rfl (fun K hK => ?_) AllReadyH.nil
                    go_simp
                    (refine (HI3.out _ (by assumption)).mono ?_; rintro e w2 ⟨rfl, hb2⟩)
                    (try go_wp2_with fail)
                    refine hK.out _ _ ?_ (fun hHeld => ?_)
                    · exact HKB2.out _ hb2
                    clear hK K
                    try simp only [getElem_toArray, getElem_cons_zero, getElem_cons_succ, Act.put, setIfInBounds_toArray, set_cons_zero, set_cons_succ]
                    refine wpAnyH_take (i := 40) (v := .bool false) rfl (by kernel_rfl) (by kernel_rfl) (by kernel_rfl) (fun _ _ _ h => h) (Or.inl ⟨by rfl, ?y40_8⟩) hHeld ?_
                    case y40_8 => (intro w hSw; (try dsimp only at hSw); go_simp; first | done | (with_reducible rfl))
                    simp only [getElem_toArray, getElem_cons_zero, getElem_cons_succ, Act.put, setIfInBounds_toArray, set_cons_zero, set_cons_succ]
                    refine wpAnyH_take (i := 41) (v := .bool false) rfl (by kernel_rfl) (by kernel_rfl) (by kernel_rfl) (fun _ _ _ h => h) (Or.inl ⟨by rfl, ?y41_8⟩) hHeld ?_
                    case y41_8 => (intro w hSw; (try dsimp only at hSw); go_simp; first | done | (with_reducible rfl))
                    simp only [getElem_toArray, getElem_cons_zero, getElem_cons_succ, Act.put, setIfInBounds_toArray, set_cons_zero, set_cons_succ]
                    refine wpAnyH_take (i := 42) (v := undef) rfl (by kernel_rfl) (by kernel_rfl) (by kernel_rfl) (fun _ _ _ h => h) (Or.inr ⟨by rfl, rfl⟩) hHeld ?_
                    simp only [getElem_toArray, getElem_cons_zero, getElem_cons_succ, Act.put, setIfInBounds_toArray, set_cons_zero, set_cons_succ]
                    refine wpAnyH_take (i := 43) (v := undef) rfl (by kernel_rfl) (by kernel_rfl) (by kernel_rfl) (fun _ _ _ h => h) (Or.inr ⟨by rfl, rfl⟩) hHeld ?_
                    simp only [getElem_toArray, getElem_cons_zero, getElem_cons_succ, Act.put, setIfInBounds_toArray, set_cons_zero, set_cons_succ]
                    refine wpAnyH_take (i := 44) (v := undef) rfl (by kernel_rfl) (by kernel_rfl) (by kernel_rfl) (fun _ _ _ h => h) (Or.inr ⟨by rfl, rfl⟩) hHeld ?_
                    simp only [getElem_toArray, getElem_cons_zero, getElem_cons_succ, Act.put, setIfInBounds_toArray, set_cons_zero, set_cons_succ]
                    refine wpAnyH_take (i := 45) (v := undef) rfl (by kernel_rfl) (by kernel_rfl) (by kernel_rfl) (fun _ _ _ h => h) (Or.inr ⟨by rfl, rfl⟩) hHeld ?_
                    simp only [getElem_toArray, getElem_cons_zero, getElem_cons_succ, Act.put, setIfInBounds_toArray, set_cons_zero, set_cons_succ]
                    refine wpAnyH_take (i := 46) (v := undef) rfl (by kernel_rfl) (by kernel_rfl) (by kernel_rfl) (fun _ _ _ h => h) (Or.inr ⟨by rfl, rfl⟩) hHeld ?_
                    simp only [getElem_toArray, getElem_cons_zero, getElem_cons_succ, Act.put, setIfInBounds_toArray, set_cons_zero, set_cons_succ]
                    refine wpAnyH_take (i := 47) (v := undef) rfl (by kernel_rfl) (by kernel_rfl) (by kernel_rfl) (fun _ _ _ h => h) (Or.inr ⟨by rfl, rfl⟩) hHeld ?_
                    simp only [getElem_toArray, getElem_cons_zero, getElem_cons_succ, Act.put, setIfInBounds_toArray, set_cons_zero, set_cons_succ]
                    refine wpAnyH_take (i := 48) (v := undef) rfl (by kernel_rfl) (by kernel_rfl) (by kernel_rfl) (fun _ _ _ h => h) (Or.inr ⟨by rfl, rfl⟩) hHeld ?_
                    simp only [getElem_toArray, getElem_cons_zero, getElem_cons_succ, Act.put, setIfInBounds_toArray, set_cons_zero, set_cons_succ]
                    refine wpAnyH_take (i := 49) (v := undef) rfl (by kernel_rfl) (by kernel_rfl) (by kernel_rfl) (fun _ _ _ h => h) (Or.inr ⟨by rfl, rfl⟩) hHeld ?_
                    simp only [getElem_toArray, getElem_cons_zero, getElem_cons_succ, Act.put, setIfInBounds_toArray, set_cons_zero, set_cons_succ]
                    refine wpAnyH_take (i := 50) (v := undef) rfl (by kernel_rfl) (by kernel_rfl) (by kernel_rfl) (fun _ _ _ h => h) (Or.inr ⟨by rfl, rfl⟩) hHeld ?_
                    simp only [getElem_toArray, getElem_cons_zero, getElem_cons_succ, Act.put, setIfInBounds_toArray, set_cons_zero, set_cons_succ]
                    refine wpAnyH_take (i := 51) (v := undef) rfl (by kernel_rfl) (by kernel_rfl) (by kernel_rfl) (fun _ _ _ h => h) (Or.inr ⟨by rfl, rfl⟩) hHeld ?_
                    simp only [getElem_toArray, getElem_cons_zero, getElem_cons_succ, Act.put, setIfInBounds_toArray, set_cons_zero, set_cons_succ]
                    refine wpAnyH_take (i := 52) (v := undef) rfl (by kernel_rfl) (by kernel_rfl) (by kernel_rfl) (fun _ _ _ h => h) (Or.inr ⟨by rfl, rfl⟩) hHeld ?_
                    simp only [getElem_toArray, getElem_cons_zero, getElem_cons_succ, Act.put, setIfInBounds_toArray, set_cons_zero, set_cons_succ]
                    refine wpAnyH_take (i := 53) (v := .bool false) rfl (by kernel_rfl) (by kernel_rfl) (by kernel_rfl) (fun _ _ _ h => h) (Or.inl ⟨by rfl, ?y53_8⟩) hHeld ?_
                    case y53_8 => (intro w hSw; (try dsimp only at hSw); go_simp; first | done | (with_reducible rfl))
                    simp only [getElem_toArray, getElem_cons_zero, getElem_cons_succ, Act.put, setIfInBounds_toArray, set_cons_zero, set_cons_succ]
                    refine wpAnyH_take (i := 54) (v := .bool false) rfl (by kernel_rfl) (by kernel_rfl) (by kernel_rfl) (fun _ _ _ h => h) (Or.inl ⟨by rfl, ?y54_8⟩) hHeld ?_
                    case y54_8 => (intro w hSw; (try dsimp only at hSw); go_simp; first | done | (with_reducible rfl))
                    simp only [getElem_toArray, getElem_cons_zero, getElem_cons_succ, Act.put, setIfInBounds_toArray, set_cons_zero, set_cons_succ]
                    refine wpAnyH_done (by kernel_rfl) ?_ _
                    refine NoPanic.normal ?_
                    go_wp2_with fail
                    go_roundg q2
                    case measure => omega
                    case rel => exact ⟨k + 1, by omega, by go_num, by have := AG2.out; show _ = _; omega, hb2⟩
                · exact absurd (HO.out.2 (by simp) rfl) (by simp)
              · obtain rfl : r2 = false := HO.out.1 hik rfl
                cases r3
                · as_aux_lemma =>
                    go_wp2_with fail
                    have hdr : Below wb.heap.size wb wr.drew := hB.drew
                    refine wp_region_noPanic ?_
                    refine wp_region_held_drew (S := (fun W => W.cell? ⟨g, i, none⟩ = some (.string ⟨li.toArray⟩) ∧ W.cell? ⟨g, k, none⟩ = some (.string ⟨lk.toArray⟩) ∧ W.cell? ⟨ga, 2, none⟩ = some (.string ⟨(s0 :: st).toArray⟩) ∧ Below wb.heap.size wb W)) (by kernel_rfl) ?_ (fun hHeld => ?_)
                    · exact HKB2.out _ hdr
                    refine wpAnyH_take (i := 0) (v := ?v0_10) rfl (by kernel_rfl) (by kernel_rfl) (by kernel_rfl) (fun _ _ _ h => h) (Or.inl ⟨by rfl, ?y0_10⟩) hHeld ?_
                    case y0_10 => (intro w hSw; (try dsimp only at hSw); go_simp; first | done | (with_reducible rfl))
                    simp only [getElem_toArray, getElem_cons_zero, getElem_cons_succ, Act.put, setIfInBounds_toArray, set_cons_zero, set_cons_succ]
                    refine wpAnyH_take (i := 1) (v := ?v1_10) rfl (by kernel_rfl) (by kernel_rfl) (by kernel_rfl) (fun _ _ _ h => h) (Or.inl ⟨by rfl, ?y1_10⟩) hHeld ?_
                    case y1_10 => (intro w hSw; (try dsimp only at hSw); go_simp; first | done | (with_reducible rfl))
                    simp only [getElem_toArray, getElem_cons_zero, getElem_cons_succ, Act.put, setIfInBounds_toArray, set_cons_zero, set_cons_succ]
                    refine wpAnyH_take (i := 2) (v := .bool true) rfl (by kernel_rfl) (by kernel_rfl) (by kernel_rfl) (fun _ _ _ h => h) (Or.inl ⟨by rfl, ?y2_10⟩) hHeld ?_
                    case y2_10 => (intro w hSw; (try dsimp only at hSw); go_simp; first | done | (with_reducible rfl))
                    simp only [getElem_toArray, getElem_cons_zero, getElem_cons_succ, Act.put, setIfInBounds_toArray, set_cons_zero, set_cons_succ]
                    refine wpAnyH_take (i := 3) (v := ?v3_10) rfl (by kernel_rfl) (by kernel_rfl) (by kernel_rfl) (fun _ _ _ h => h) (Or.inl ⟨by rfl, ?y3_10⟩) hHeld ?_
                    case y3_10 => (intro w hSw; (try dsimp only at hSw); go_simp; first | done | (with_reducible rfl))
                    simp only [getElem_toArray, getElem_cons_zero, getElem_cons_succ, Act.put, setIfInBounds_toArray, set_cons_zero, set_cons_succ]
                    refine wpAnyH_take (i := 4) (v := ?v4_10) rfl (by kernel_rfl) (by kernel_rfl) (by kernel_rfl) (fun _ _ _ h => h) (Or.inl ⟨by rfl, ?y4_10⟩) hHeld ?_
                    case y4_10 => (intro w hSw; (try dsimp only at hSw); go_simp; first | done | (with_reducible rfl))
                    simp only [getElem_toArray, getElem_cons_zero, getElem_cons_succ, Act.put, setIfInBounds_toArray, set_cons_zero, set_cons_succ]
                    refine wpAnyH_take (i := 5) (v := ?v5_10) rfl (by kernel_rfl) (by kernel_rfl) (by kernel_rfl) (fun _ _ _ h => h) (Or.inl ⟨by rfl, ?y5_10⟩) hHeld ?_
                    case y5_10 => (intro w hSw; (try dsimp only at hSw); go_simp; first | done | (with_reducible rfl))
                    simp only [getElem_toArray, getElem_cons_zero, getElem_cons_succ, Act.put, setIfInBounds_toArray, set_cons_zero, set_cons_succ]
                    refine wpAnyH_take (i := 6) (v := ?v6_10) rfl (by kernel_rfl) (by kernel_rfl) (by kernel_rfl) (fun _ _ _ h => h) (Or.inl ⟨by rfl, ?y6_10⟩) hHeld ?_
                    case y6_10 => (intro w hSw; (try dsimp only at hSw); go_simp; first | done | (with_reducible rfl))
                    simp only [getElem_toArray, getElem_cons_zero, getElem_cons_succ, Act.put, setIfInBounds_toArray, set_cons_zero, set_cons_succ]
                    refine wpAnyH_take (i := 7) (v := ?v7_10) rfl (by kernel_rfl) (by kernel_rfl) (by kernel_rfl) (fun _ _ _ h => h) (Or.inl ⟨by rfl, ?y7_10⟩) hHeld ?_
                    case y7_10 => (intro w hSw; (try dsimp only at hSw); go_simp; first | done | (with_reducible rfl))
                    simp only [getElem_toArray, getElem_cons_zero, getElem_cons_succ, Act.put, setIfInBounds_toArray, set_cons_zero, set_cons_succ]
                    refine wpAnyH_take (i := 8) (v := ?v8_10) rfl (by kernel_rfl) (by kernel_rfl) (by kernel_rfl) (fun _ _ _ h => h) (Or.inl ⟨by rfl, ?y8_10⟩) hHeld ?_
                    case y8_10 => (intro w hSw; (try dsimp only at hSw); go_simp; first | done | (with_reducible rfl))
                    simp only [getElem_toArray, getElem_cons_zero, getElem_cons_succ, Act.put, setIfInBounds_toArray, set_cons_zero, set_cons_succ]
                    refine wpAnyH_take (i := 9) (v := ?v9_10) rfl (by kernel_rfl) (by kernel_rfl) (by kernel_rfl) (fun _ _ _ h => h) (Or.inl ⟨by rfl, ?y9_10⟩) hHeld ?_
                    case y9_10 => (intro w hSw; (try dsimp only at hSw); go_simp; first | done | (with_reducible rfl))
                    simp only [getElem_toArray, getElem_cons_zero, getElem_cons_succ, Act.put, setIfInBounds_toArray, set_cons_zero, set_cons_succ]
                    refine wpAnyH_take (i := 10) (v := ?v10_10) rfl (by kernel_rfl) (by kernel_rfl) (by kernel_rfl) (fun _ _ _ h => h) (Or.inl ⟨by rfl, ?y10_10⟩) hHeld ?_
                    case y10_10 => (intro w hSw; (try dsimp only at hSw); go_simp; first | done | (with_reducible rfl))
                    simp only [getElem_toArray, getElem_cons_zero, getElem_cons_succ, Act.put, setIfInBounds_toArray, set_cons_zero, set_cons_succ]
                    refine wpAnyH_take (i := 11) (v := ?v11_10) rfl (by kernel_rfl) (by kernel_rfl) (by kernel_rfl) (fun _ _ _ h => h) (Or.inl ⟨by rfl, ?y11_10⟩) hHeld ?_
                    case y11_10 => (intro w hSw; (try dsimp only at hSw); go_simp; first | done | (with_reducible rfl))
                    simp only [getElem_toArray, getElem_cons_zero, getElem_cons_succ, Act.put, setIfInBounds_toArray, set_cons_zero, set_cons_succ]
                    refine wpAnyH_take (i := 12) (v := ?v12_10) rfl (by kernel_rfl) (by kernel_rfl) (by kernel_rfl) (fun _ _ _ h => h) (Or.inl ⟨by rfl, ?y12_10⟩) hHeld ?_
                    case y12_10 => (intro w hSw; (try dsimp only at hSw); go_simp; first | done | (with_reducible rfl))
                    simp only [getElem_toArray, getElem_cons_zero, getElem_cons_succ, Act.put, setIfInBounds_toArray, set_cons_zero, set_cons_succ]
                    refine wpAnyH_ready (rs := [13]) (by kernel_rfl) (by simp) ?_
                    refine AllReadyH.cons rfl (fun K hK => ?_) AllReadyH.nil
                    go_simp
                    (refine (HI1.out _ (by assumption)).mono ?_; rintro e w2 ⟨rfl, hb2⟩)
                    (try go_wp2_with fail)
                    refine hK.out _ _ ?_ (fun hHeld => ?_)
                    · exact HKB2.out _ hb2
                    clear hK K
                    try simp only [getElem_toArray, getElem_cons_zero, getElem_cons_succ, Act.put, setIfInBounds_toArray, set_cons_zero, set_cons_succ]
                    refine wpAnyH_take (i := 14) (v := ?v14_10) rfl (by kernel_rfl) (by kernel_rfl) (by kernel_rfl) (fun _ _ _ h => h) (Or.inl ⟨by rfl, ?y14_10⟩) hHeld ?_
                    case y14_10 => (intro w hSw; (try dsimp only at hSw); go_simp; first | done | (with_reducible rfl))
                    simp only [getElem_toArray, getElem_cons_zero, getElem_cons_succ, Act.put, setIfInBounds_toArray, set_cons_zero, set_cons_succ]
                    refine wpAnyH_take (i := 15) (v := ?v15_10) rfl (by kernel_rfl) (by kernel_rfl) (by kernel_rfl) (fun _ _ _ h => h) (Or.inl ⟨by rfl, ?y15_10⟩) hHeld ?_
                    case y15_10 => (intro w hSw; (try dsimp only at hSw); go_simp; first | done | (with_reducible rfl))
                    simp only [getElem_toArray, getElem_cons_zero, getElem_cons_succ, Act.put, setIfInBounds_toArray, set_cons_zero, set_cons_succ]
                    refine wpAnyH_take (i := 16) (v := ?v16_10) rfl (by kernel_rfl) (by kernel_rfl) (by kernel_rfl) (fun _ _ _ h => h) (Or.inl ⟨by rfl, ?y16_10⟩) hHeld ?_
                    case y16_10 => (intro w hSw; (try dsimp only at hSw); go_simp; first | done | (with_reducible rfl))
                    simp only [getElem_toArray, getElem_cons_zero, getElem_cons_succ, Act.put, setIfInBounds_toArray, set_cons_zero, set_cons_succ]
                    refine wpAnyH_take (i := 17) (v := ?v17_10) rfl (by kernel_rfl) (by kernel_rfl) (by kernel_rfl) (fun _ _ _ h => h) (Or.inl ⟨by rfl, ?y17_10⟩) hHeld ?_
                    case y17_10 => (intro w hSw; (try dsimp only at hSw); go_simp; first | done | (with_reducible rfl))
                    simp only [getElem_toArray, getElem_cons_zero, getElem_cons_succ, Act.put, setIfInBounds_toArray, set_cons_zero, set_cons_succ]
                    refine wpAnyH_take (i := 18) (v := ?v18_10) rfl (by kernel_rfl) (by kernel_rfl) (by kernel_rfl) (fun _ _ _ h => h) (Or.inl ⟨by rfl, ?y18_10⟩) hHeld ?_
                    case y18_10 => (intro w hSw; (try dsimp only at hSw); go_simp; first | done | (with_reducible rfl))
                    simp only [getElem_toArray, getElem_cons_zero, getElem_cons_succ, Act.put, setIfInBounds_toArray, set_cons_zero, set_cons_succ]
                    refine wpAnyH_take (i := 19) (v := ?v19_10) rfl (by kernel_rfl) (by kernel_rfl) (by kernel_rfl) (fun _ _ _ h => h) (Or.inl ⟨by rfl, ?y19_10⟩) hHeld ?_
                    case y19_10 => (intro w hSw; (try dsimp only at hSw); go_simp; first | done | (with_reducible rfl))
                    simp only [getElem_toArray, getElem_cons_zero, getElem_cons_succ, Act.put, setIfInBounds_toArray, set_cons_zero, set_cons_succ]
                    refine wpAnyH_take (i := 20) (v := ?v20_10) rfl (by kernel_rfl) (by kernel_rfl) (by kernel_rfl) (fun _ _ _ h => h) (Or.inl ⟨by rfl, ?y20_10⟩) hHeld ?_
                    case y20_10 => (intro w hSw; (try dsimp only at hSw); go_simp; first | done | (with_reducible rfl))
                    simp only [getElem_toArray, getElem_cons_zero, getElem_cons_succ, Act.put, setIfInBounds_toArray, set_cons_zero, set_cons_succ]
                    refine wpAnyH_take (i := 21) (v := ?v21_10) rfl (by kernel_rfl) (by kernel_rfl) (by kernel_rfl) (fun _ _ _ h => h) (Or.inl ⟨by rfl, ?y21_10⟩) hHeld ?_
                    case y21_10 => (intro w hSw; (try dsimp only at hSw); go_simp; first | done | (with_reducible rfl))
                    simp only [getElem_toArray, getElem_cons_zero, getElem_cons_succ, Act.put, setIfInBounds_toArray, set_cons_zero, set_cons_succ]
                    refine wpAnyH_take (i := 22) (v := ?v22_10) rfl (by kernel_rfl) (by kernel_rfl) (by kernel_rfl) (fun _ _ _ h => h) (Or.inl ⟨by rfl, ?y22_10⟩) hHeld ?_
                    case y22_10 => (intro w hSw; (try dsimp only at hSw); go_simp; first | done | (with_reducible rfl))
                    simp only [getElem_toArray, getElem_cons_zero, getElem_cons_succ, Act.put, setIfInBounds_toArray, set_cons_zero, set_cons_succ]
                    refine wpAnyH_take (i := 23) (v := ?v23_10) rfl (by kernel_rfl) (by kernel_rfl) (by kernel_rfl) (fun _ _ _ h => h) (Or.inl ⟨by rfl, ?y23_10⟩) hHeld ?_
                    case y23_10 => (intro w hSw; (try dsimp only at hSw); go_simp; first | done | (with_reducible rfl))
                    simp only [getElem_toArray, getElem_cons_zero, getElem_cons_succ, Act.put, setIfInBounds_toArray, set_cons_zero, set_cons_succ]
                    refine wpAnyH_take (i := 24) (v := ?v24_10) rfl (by kernel_rfl) (by kernel_rfl) (by kernel_rfl) (fun _ _ _ h => h) (Or.inl ⟨by rfl, ?y24_10⟩) hHeld ?_
                    case y24_10 => (intro w hSw; (try dsimp only at hSw); go_simp; first | done | (with_reducible rfl))
                    simp only [getElem_toArray, getElem_cons_zero, getElem_cons_succ, Act.put, setIfInBounds_toArray, set_cons_zero, set_cons_succ]
                    refine wpAnyH_ready (rs := [25]) (by kernel_rfl) (by simp) ?_
                    refine AllReadyH.cons rfl (fun K hK => ?_) AllReadyH.nil
                    go_simp
                    (refine (HI2.out _ (by assumption)).mono ?_; rintro e w2 ⟨rfl, hb2⟩)
                    (try go_wp2_with fail)
                    refine hK.out _ _ ?_ (fun hHeld => ?_)
                    · exact HKB2.out _ hb2
                    clear hK K
                    try simp only [getElem_toArray, getElem_cons_zero, getElem_cons_succ, Act.put, setIfInBounds_toArray, set_cons_zero, set_cons_succ]
                    refine wpAnyH_take (i := 26) (v := .bool false) rfl (by kernel_rfl) (by kernel_rfl) (by kernel_rfl) (fun _ _ _ h => h) (Or.inl ⟨by rfl, ?y26_10⟩) hHeld ?_
                    case y26_10 => (intro w hSw; (try dsimp only at hSw); go_simp; first | done | (with_reducible rfl))
                    simp only [getElem_toArray, getElem_cons_zero, getElem_cons_succ, Act.put, setIfInBounds_toArray, set_cons_zero, set_cons_succ]
                    refine wpAnyH_take (i := 27) (v := .bool false) rfl (by kernel_rfl) (by kernel_rfl) (by kernel_rfl) (fun _ _ _ h => h) (Or.inl ⟨by rfl, ?y27_10⟩) hHeld ?_
                    case y27_10 => (intro w hSw; (try dsimp only at hSw); go_simp; first | done | (with_reducible rfl))
                    simp only [getElem_toArray, getElem_cons_zero, getElem_cons_succ, Act.put, setIfInBounds_toArray, set_cons_zero, set_cons_succ]
                    refine wpAnyH_take (i := 28) (v := ?v28_10) rfl (by kernel_rfl) (by kernel_rfl) (by kernel_rfl) (fun _ _ _ h => h) (Or.inl ⟨by rfl, ?y28_10⟩) hHeld ?_
                    case y28_10 => (intro w hSw; (try dsimp only at hSw); go_simp; first | done | (with_reducible rfl))
                    simp only [getElem_toArray, getElem_cons_zero, getElem_cons_succ, Act.put, setIfInBounds_toArray, set_cons_zero, set_cons_succ]
                    refine wpAnyH_take (i := 29) (v := ?v29_10) rfl (by kernel_rfl) (by kernel_rfl) (by kernel_rfl) (fun _ _ _ h => h) (Or.inl ⟨by rfl, ?y29_10⟩) hHeld ?_
                    case y29_10 => (intro w hSw; (try dsimp only at hSw); go_simp; first | done | (with_reducible rfl))
                    simp only [getElem_toArray, getElem_cons_zero, getElem_cons_succ, Act.put, setIfInBounds_toArray, set_cons_zero, set_cons_succ]
                    refine wpAnyH_take (i := 30) (v := .bool true) rfl (by kernel_rfl) (by kernel_rfl) (by kernel_rfl) (fun _ _ _ h => h) (Or.inl ⟨by rfl, ?y30_10⟩) hHeld ?_
                    case y30_10 => (intro w hSw; (try dsimp only at hSw); go_simp; first | done | (with_reducible rfl))
                    simp only [getElem_toArray, getElem_cons_zero, getElem_cons_succ, Act.put, setIfInBounds_toArray, set_cons_zero, set_cons_succ]
                    refine wpAnyH_take (i := 31) (v := ?v31_10) rfl (by kernel_rfl) (by kernel_rfl) (by kernel_rfl) (fun _ _ _ h => h) (Or.inl ⟨by rfl, ?y31_10⟩) hHeld ?_
                    case y31_10 => (intro w hSw; (try dsimp only at hSw); go_simp; first | done | (with_reducible rfl))
                    simp only [getElem_toArray, getElem_cons_zero, getElem_cons_succ, Act.put, setIfInBounds_toArray, set_cons_zero, set_cons_succ]
                    refine wpAnyH_take (i := 32) (v := ?v32_10) rfl (by kernel_rfl) (by kernel_rfl) (by kernel_rfl) (fun _ _ _ h => h) (Or.inl ⟨by rfl, ?y32_10⟩) hHeld ?_
                    case y32_10 => (intro w hSw; (try dsimp only at hSw); go_simp; first | done | (with_reducible rfl))
                    simp only [getElem_toArray, getElem_cons_zero, getElem_cons_succ, Act.put, setIfInBounds_toArray, set_cons_zero, set_cons_succ]
                    refine wpAnyH_take (i := 33) (v := ?v33_10) rfl (by kernel_rfl) (by kernel_rfl) (by kernel_rfl) (fun _ _ _ h => h) (Or.inl ⟨by rfl, ?y33_10⟩) hHeld ?_
                    case y33_10 => (intro w hSw; (try dsimp only at hSw); go_simp; first | done | (with_reducible rfl))
                    simp only [getElem_toArray, getElem_cons_zero, getElem_cons_succ, Act.put, setIfInBounds_toArray, set_cons_zero, set_cons_succ]
                    refine wpAnyH_take (i := 34) (v := ?v34_10) rfl (by kernel_rfl) (by kernel_rfl) (by kernel_rfl) (fun _ _ _ h => h) (Or.inl ⟨by rfl, ?y34_10⟩) hHeld ?_
                    case y34_10 => (intro w hSw; (try dsimp only at hSw); go_simp; first | done | (with_reducible rfl))
                    simp only [getElem_toArray, getElem_cons_zero, getElem_cons_succ, Act.put, setIfInBounds_toArray, set_cons_zero, set_cons_succ]
                    refine wpAnyH_take (i := 35) (v := ?v35_10) rfl (by kernel_rfl) (by kernel_rfl) (by kernel_rfl) (fun _ _ _ h => h) (Or.inl ⟨by rfl, ?y35_10⟩) hHeld ?_
                    case y35_10 => (intro w hSw; (try dsimp only at hSw); go_simp; first | done | (with_reducible rfl))
                    simp only [getElem_toArray, getElem_cons_zero, getElem_cons_succ, Act.put, setIfInBounds_toArray, set_cons_zero, set_cons_succ]
                    refine wpAnyH_take (i := 36) (v := ?v36_10) rfl (by kernel_rfl) (by kernel_rfl) (by kernel_rfl) (fun _ _ _ h => h) (Or.inl ⟨by rfl, ?y36_10⟩) hHeld ?_
                    case y36_10 => (intro w hSw; (try dsimp only at hSw); go_simp; first | done | (with_reducible rfl))
                    simp only [getElem_toArray, getElem_cons_zero, getElem_cons_succ, Act.put, setIfInBounds_toArray, set_cons_zero, set_cons_succ]
                    refine wpAnyH_take (i := 37) (v := ?v37_10) rfl (by kernel_rfl) (by kernel_rfl) (by kernel_rfl) (fun _ _ _ h => h) (Or.inl ⟨by rfl, ?y37_10⟩) hHeld ?_
                    case y37_10 => (intro w hSw; (try dsimp only at hSw); go_simp; first | done | (with_reducible rfl))
                    simp only [getElem_toArray, getElem_cons_zero, getElem_cons_succ, Act.put, setIfInBounds_toArray, set_cons_zero, set_cons_succ]
                    refine wpAnyH_take (i := 38) (v := ?v38_10) rfl (by kernel_rfl) (by kernel_rfl) (by kernel_rfl) (fun _ _ _ h => h) (Or.inl ⟨by rfl, ?y38_10⟩) hHeld ?_
                    case y38_10 => (intro w hSw; (try dsimp only at hSw); go_simp; first | done | (with_reducible rfl))
                    simp only [getElem_toArray, getElem_cons_zero, getElem_cons_succ, Act.put, setIfInBounds_toArray, set_cons_zero, set_cons_succ]
                    refine wpAnyH_ready (rs := [39]) (by kernel_rfl) (by simp) ?_
                    refine AllReadyH.cons rfl (fun K hK => ?_) AllReadyH.nil
                    go_simp
                    (refine (HI3.out _ (by assumption)).mono ?_; rintro e w2 ⟨rfl, hb2⟩)
                    (try go_wp2_with fail)
                    refine hK.out _ _ ?_ (fun hHeld => ?_)
                    · exact HKB2.out _ hb2
                    clear hK K
                    try simp only [getElem_toArray, getElem_cons_zero, getElem_cons_succ, Act.put, setIfInBounds_toArray, set_cons_zero, set_cons_succ]
                    refine wpAnyH_take (i := 40) (v := .bool false) rfl (by kernel_rfl) (by kernel_rfl) (by kernel_rfl) (fun _ _ _ h => h) (Or.inl ⟨by rfl, ?y40_10⟩) hHeld ?_
                    case y40_10 => (intro w hSw; (try dsimp only at hSw); go_simp; first | done | (with_reducible rfl))
                    simp only [getElem_toArray, getElem_cons_zero, getElem_cons_succ, Act.put, setIfInBounds_toArray, set_cons_zero, set_cons_succ]
                    refine wpAnyH_take (i := 41) (v := .bool false) rfl (by kernel_rfl) (by kernel_rfl) (by kernel_rfl) (fun _ _ _ h => h) (Or.inl ⟨by rfl, ?y41_10⟩) hHeld ?_
                    case y41_10 => (intro w hSw; (try dsimp only at hSw); go_simp; first | done | (with_reducible rfl))
                    simp only [getElem_toArray, getElem_cons_zero, getElem_cons_succ, Act.put, setIfInBounds_toArray, set_cons_zero, set_cons_succ]
                    refine wpAnyH_take (i := 42) (v := undef) rfl (by kernel_rfl) (by kernel_rfl) (by kernel_rfl) (fun _ _ _ h => h) (Or.inr ⟨by rfl, rfl⟩) hHeld ?_
                    simp only [getElem_toArray, getElem_cons_zero, getElem_cons_succ, Act.put, setIfInBounds_toArray, set_cons_zero, set_cons_succ]
                    refine wpAnyH_take (i := 43) (v := undef) rfl (by kernel_rfl) (by kernel_rfl) (by kernel_rfl) (fun _ _ _ h => h) (Or.inr ⟨by rfl, rfl⟩) hHeld ?_
                    simp only [getElem_toArray, getElem_cons_zero, getElem_cons_succ, Act.put, setIfInBounds_toArray, set_cons_zero, set_cons_succ]
                    refine wpAnyH_take (i := 44) (v := undef) rfl (by kernel_rfl) (by kernel_rfl) (by kernel_rfl) (fun _ _ _ h => h) (Or.inr ⟨by rfl, rfl⟩) hHeld ?_
                    simp only [getElem_toArray, getElem_cons_zero, getElem_cons_succ, Act.put, setIfInBounds_toArray, set_cons_zero, set_cons_succ]
                    refine wpAnyH_take (i := 45) (v := undef) rfl (by kernel_rfl) (by kernel_rfl) (by kernel_rfl) (fun _ _ _ h => h) (Or.inr ⟨by rfl, rfl⟩) hHeld ?_
                    simp only [getElem_toArray, getElem_cons_zero, getElem_cons_succ, Act.put, setIfInBounds_toArray, set_cons_zero, set_cons_succ]
                    refine wpAnyH_take (i := 46) (v := undef) rfl (by kernel_rfl) (by kernel_rfl) (by kernel_rfl) (fun _ _ _ h => h) (Or.inr ⟨by rfl, rfl⟩) hHeld ?_
                    simp only [getElem_toArray, getElem_cons_zero, getElem_cons_succ, Act.put, setIfInBounds_toArray, set_cons_zero, set_cons_succ]
                    refine wpAnyH_take (i := 47) (v := undef) rfl (by kernel_rfl) (by kernel_rfl) (by kernel_rfl) (fun _ _ _ h => h) (Or.inr ⟨by rfl, rfl⟩) hHeld ?_
                    simp only [getElem_toArray, getElem_cons_zero, getElem_cons_succ, Act.put, setIfInBounds_toArray, set_cons_zero, set_cons_succ]
                    refine wpAnyH_take (i := 48) (v := undef) rfl (by kernel_rfl) (by kernel_rfl) (by kernel_rfl) (fun _ _ _ h => h) (Or.inr ⟨by rfl, rfl⟩) hHeld ?_
                    simp only [getElem_toArray, getElem_cons_zero, getElem_cons_succ, Act.put, setIfInBounds_toArray, set_cons_zero, set_cons_succ]
                    refine wpAnyH_take (i := 49) (v := undef) rfl (by kernel_rfl) (by kernel_rfl) (by kernel_rfl) (fun _ _ _ h => h) (Or.inr ⟨by rfl, rfl⟩) hHeld ?_
                    simp only [getElem_toArray, getElem_cons_zero, getElem_cons_succ, Act.put, setIfInBounds_toArray, set_cons_zero, set_cons_succ]
                    refine wpAnyH_take (i := 50) (v := undef) rfl (by kernel_rfl) (by kernel_rfl) (by kernel_rfl) (fun _ _ _ h => h) (Or.inr ⟨by rfl, rfl⟩) hHeld ?_
                    simp only [getElem_toArray, getElem_cons_zero, getElem_cons_succ, Act.put, setIfInBounds_toArray, set_cons_zero, set_cons_succ]
                    refine wpAnyH_take (i := 51) (v := undef) rfl (by kernel_rfl) (by kernel_rfl) (by kernel_rfl) (fun _ _ _ h => h) (Or.inr ⟨by rfl, rfl⟩) hHeld ?_
                    simp only [getElem_toArray, getElem_cons_zero, getElem_cons_succ, Act.put, setIfInBounds_toArray, set_cons_zero, set_cons_succ]
                    refine wpAnyH_take (i := 52) (v := undef) rfl (by kernel_rfl) (by kernel_rfl) (by kernel_rfl) (fun _ _ _ h => h) (Or.inr ⟨by rfl, rfl⟩) hHeld ?_
                    simp only [getElem_toArray, getElem_cons_zero, getElem_cons_succ, Act.put, setIfInBounds_toArray, set_cons_zero, set_cons_succ]
                    refine wpAnyH_take (i := 53) (v := .bool false) rfl (by kernel_rfl) (by kernel_rfl) (by kernel_rfl) (fun _ _ _ h => h) (Or.inl ⟨by rfl, ?y53_10⟩) hHeld ?_
                    case y53_10 => (intro w hSw; (try dsimp only at hSw); go_simp; first | done | (with_reducible rfl))
                    simp only [getElem_toArray, getElem_cons_zero, getElem_cons_succ, Act.put, setIfInBounds_toArray, set_cons_zero, set_cons_succ]
                    refine wpAnyH_take (i := 54) (v := .bool false) rfl (by kernel_rfl) (by kernel_rfl) (by kernel_rfl) (fun _ _ _ h => h) (Or.inl ⟨by rfl, ?y54_10⟩) hHeld ?_
                    case y54_10 => (intro w hSw; (try dsimp only at hSw); go_simp; first | done | (with_reducible rfl))
                    simp only [getElem_toArray, getElem_cons_zero, getElem_cons_succ, Act.put, setIfInBounds_toArray, set_cons_zero, set_cons_succ]
                    refine wpAnyH_done (by kernel_rfl) ?_ _
                    refine NoPanic.normal ?_
                    go_wp2_with fail
                    go_roundg q2
                    case measure => omega
                    case rel => exact ⟨k + 1, by omega, by go_num, by have := AG2.out; show _ = _; omega, hb2⟩
                · as_aux_lemma =>
                    go_wp2_with fail
                    have hdr : Below wb.heap.size wb wr.drew := hB.drew
                    refine wp_region_noPanic ?_
                    refine wp_region_held_drew (S := (fun W => W.cell? ⟨g, i, none⟩ = some (.string ⟨li.toArray⟩) ∧ W.cell? ⟨g, k, none⟩ = some (.string ⟨lk.toArray⟩) ∧ W.cell? ⟨ga, 2, none⟩ = some (.string ⟨(s0 :: st).toArray⟩) ∧ Below wb.heap.size wb W)) (by kernel_rfl) ?_ (fun hHeld => ?_)
                    · exact HKB2.out _ hdr
                    refine wpAnyH_take (i := 0) (v := ?v0_11) rfl (by kernel_rfl) (by kernel_rfl) (by kernel_rfl) (fun _ _ _ h => h) (Or.inl ⟨by rfl, ?y0_11⟩) hHeld ?_
                    case y0_11 => (intro w hSw; (try dsimp only at hSw); go_simp; first | done | (with_reducible rfl))
                    simp only [getElem_toArray, getElem_cons_zero, getElem_cons_succ, Act.put, setIfInBounds_toArray, set_cons_zero, set_cons_succ]
                    refine wpAnyH_take (i := 1) (v := ?v1_11) rfl (by kernel_rfl) (by kernel_rfl) (by kernel_rfl) (fun _ _ _ h => h) (Or.inl ⟨by rfl, ?y1_11⟩) hHeld ?_
                    case y1_11 => (intro w hSw; (try dsimp only at hSw); go_simp; first | done | (with_reducible rfl))
                    simp only [getElem_toArray, getElem_cons_zero, getElem_cons_succ, Act.put, setIfInBounds_toArray, set_cons_zero, set_cons_succ]
                    refine wpAnyH_take (i := 2) (v := .bool true) rfl (by kernel_rfl) (by kernel_rfl) (by kernel_rfl) (fun _ _ _ h => h) (Or.inl ⟨by rfl, ?y2_11⟩) hHeld ?_
                    case y2_11 => (intro w hSw; (try dsimp only at hSw); go_simp; first | done | (with_reducible rfl))
                    simp only [getElem_toArray, getElem_cons_zero, getElem_cons_succ, Act.put, setIfInBounds_toArray, set_cons_zero, set_cons_succ]
                    refine wpAnyH_take (i := 3) (v := ?v3_11) rfl (by kernel_rfl) (by kernel_rfl) (by kernel_rfl) (fun _ _ _ h => h) (Or.inl ⟨by rfl, ?y3_11⟩) hHeld ?_
                    case y3_11 => (intro w hSw; (try dsimp only at hSw); go_simp; first | done | (with_reducible rfl))
                    simp only [getElem_toArray, getElem_cons_zero, getElem_cons_succ, Act.put, setIfInBounds_toArray, set_cons_zero, set_cons_succ]
                    refine wpAnyH_take (i := 4) (v := ?v4_11) rfl (by kernel_rfl) (by kernel_rfl) (by kernel_rfl) (fun _ _ _ h => h) (Or.inl ⟨by rfl, ?y4_11⟩) hHeld ?_
                    case y4_11 => (intro w hSw; (try dsimp only at hSw); go_simp; first | done | (with_reducible rfl))
                    simp only [getElem_toArray, getElem_cons_zero, getElem_cons_succ, Act.put, setIfInBounds_toArray, set_cons_zero, set_cons_succ]
                    refine wpAnyH_take (i := 5) (v := ?v5_11) rfl (by kernel_rfl) (by kernel_rfl) (by kernel_rfl) (fun _ _ _ h => h) (Or.inl ⟨by rfl, ?y5_11⟩) hHeld ?_
                    case y5_11 => (intro w hSw; (try dsimp only at hSw); go_simp; first | done | (with_reducible rfl))
                    simp only [getElem_toArray, getElem_cons_zero, getElem_cons_succ, Act.put, setIfInBounds_toArray, set_cons_zero, set_cons_succ]
                    refine wpAnyH_take (i := 6) (v := ?v6_11) rfl (by kernel_rfl) (by kernel_rfl) (by kernel_rfl) (fun _ _ _ h => h) (Or.inl ⟨by rfl, ?y6_11⟩) hHeld ?_
                    case y6_11 => (intro w hSw; (try dsimp only at hSw); go_simp; first | done | (with_reducible rfl))
                    simp only [getElem_toArray, getElem_cons_zero, getElem_cons_succ, Act.put, setIfInBounds_toArray, set_cons_zero, set_cons_succ]
                    refine wpAnyH_take (i := 7) (v := ?v7_11) rfl (by kernel_rfl) (by kernel_rfl) (by kernel_rfl) (fun _ _ _ h => h) (Or.inl ⟨by rfl, ?y7_11⟩) hHeld ?_
                    case y7_11 => (intro w hSw; (try dsimp only at hSw); go_simp; first | done | (with_reducible rfl))
                    simp only [getElem_toArray, getElem_cons_zero, getElem_cons_succ, Act.put, setIfInBounds_toArray, set_cons_zero, set_cons_succ]
                    refine wpAnyH_take (i := 8) (v := ?v8_11) rfl (by kernel_rfl) (by kernel_rfl) (by kernel_rfl) (fun _ _ _ h => h) (Or.inl ⟨by rfl, ?y8_11⟩) hHeld ?_
                    case y8_11 => (intro w hSw; (try dsimp only at hSw); go_simp; first | done | (with_reducible rfl))
                    simp only [getElem_toArray, getElem_cons_zero, getElem_cons_succ, Act.put, setIfInBounds_toArray, set_cons_zero, set_cons_succ]
                    refine wpAnyH_take (i := 9) (v := ?v9_11) rfl (by kernel_rfl) (by kernel_rfl) (by kernel_rfl) (fun _ _ _ h => h) (Or.inl ⟨by rfl, ?y9_11⟩) hHeld ?_
                    case y9_11 => (intro w hSw; (try dsimp only at hSw); go_simp; first | done | (with_reducible rfl))
                    simp only [getElem_toArray, getElem_cons_zero, getElem_cons_succ, Act.put, setIfInBounds_toArray, set_cons_zero, set_cons_succ]
                    refine wpAnyH_take (i := 10) (v := ?v10_11) rfl (by kernel_rfl) (by kernel_rfl) (by kernel_rfl) (fun _ _ _ h => h) (Or.inl ⟨by rfl, ?y10_11⟩) hHeld ?_
                    case y10_11 => (intro w hSw; (try dsimp only at hSw); go_simp; first | done | (with_reducible rfl))
                    simp only [getElem_toArray, getElem_cons_zero, getElem_cons_succ, Act.put, setIfInBounds_toArray, set_cons_zero, set_cons_succ]
                    refine wpAnyH_take (i := 11) (v := ?v11_11) rfl (by kernel_rfl) (by kernel_rfl) (by kernel_rfl) (fun _ _ _ h => h) (Or.inl ⟨by rfl, ?y11_11⟩) hHeld ?_
                    case y11_11 => (intro w hSw; (try dsimp only at hSw); go_simp; first | done | (with_reducible rfl))
                    simp only [getElem_toArray, getElem_cons_zero, getElem_cons_succ, Act.put, setIfInBounds_toArray, set_cons_zero, set_cons_succ]
                    refine wpAnyH_take (i := 12) (v := ?v12_11) rfl (by kernel_rfl) (by kernel_rfl) (by kernel_rfl) (fun _ _ _ h => h) (Or.inl ⟨by rfl, ?y12_11⟩) hHeld ?_
                    case y12_11 => (intro w hSw; (try dsimp only at hSw); go_simp; first | done | (with_reducible rfl))
                    simp only [getElem_toArray, getElem_cons_zero, getElem_cons_succ, Act.put, setIfInBounds_toArray, set_cons_zero, set_cons_succ]
                    refine wpAnyH_ready (rs := [13]) (by kernel_rfl) (by simp) ?_
                    refine AllReadyH.cons rfl (fun K hK => ?_) AllReadyH.nil
                    go_simp
                    (refine (HI1.out _ (by assumption)).mono ?_; rintro e w2 ⟨rfl, hb2⟩)
                    (try go_wp2_with fail)
                    refine hK.out _ _ ?_ (fun hHeld => ?_)
                    · exact HKB2.out _ hb2
                    clear hK K
                    try simp only [getElem_toArray, getElem_cons_zero, getElem_cons_succ, Act.put, setIfInBounds_toArray, set_cons_zero, set_cons_succ]
                    refine wpAnyH_take (i := 14) (v := ?v14_11) rfl (by kernel_rfl) (by kernel_rfl) (by kernel_rfl) (fun _ _ _ h => h) (Or.inl ⟨by rfl, ?y14_11⟩) hHeld ?_
                    case y14_11 => (intro w hSw; (try dsimp only at hSw); go_simp; first | done | (with_reducible rfl))
                    simp only [getElem_toArray, getElem_cons_zero, getElem_cons_succ, Act.put, setIfInBounds_toArray, set_cons_zero, set_cons_succ]
                    refine wpAnyH_take (i := 15) (v := ?v15_11) rfl (by kernel_rfl) (by kernel_rfl) (by kernel_rfl) (fun _ _ _ h => h) (Or.inl ⟨by rfl, ?y15_11⟩) hHeld ?_
                    case y15_11 => (intro w hSw; (try dsimp only at hSw); go_simp; first | done | (with_reducible rfl))
                    simp only [getElem_toArray, getElem_cons_zero, getElem_cons_succ, Act.put, setIfInBounds_toArray, set_cons_zero, set_cons_succ]
                    refine wpAnyH_take (i := 16) (v := ?v16_11) rfl (by kernel_rfl) (by kernel_rfl) (by kernel_rfl) (fun _ _ _ h => h) (Or.inl ⟨by rfl, ?y16_11⟩) hHeld ?_
                    case y16_11 => (intro w hSw; (try dsimp only at hSw); go_simp; first | done | (with_reducible rfl))
                    simp only [getElem_toArray, getElem_cons_zero, getElem_cons_succ, Act.put, setIfInBounds_toArray, set_cons_zero, set_cons_succ]
                    refine wpAnyH_take (i := 17) (v := ?v17_11) rfl (by kernel_rfl) (by kernel_rfl) (by kernel_rfl) (fun _ _ _ h => h) (Or.inl ⟨by rfl, ?y17_11⟩) hHeld ?_
                    case y17_11 => (intro w hSw; (try dsimp only at hSw); go_simp; first | done | (with_reducible rfl))
                    simp only [getElem_toArray, getElem_cons_zero, getElem_cons_succ, Act.put, setIfInBounds_toArray, set_cons_zero, set_cons_succ]
                    refine wpAnyH_take (i := 18) (v := ?v18_11) rfl (by kernel_rfl) (by kernel_rfl) (by kernel_rfl) (fun _ _ _ h => h) (Or.inl ⟨by rfl, ?y18_11⟩) hHeld ?_
                    case y18_11 => (intro w hSw; (try dsimp only at hSw); go_simp; first | done | (with_reducible rfl))
                    simp only [getElem_toArray, getElem_cons_zero, getElem_cons_succ, Act.put, setIfInBounds_toArray, set_cons_zero, set_cons_succ]
                    refine wpAnyH_take (i := 19) (v := ?v19_11) rfl (by kernel_rfl) (by kernel_rfl) (by kernel_rfl) (fun _ _ _ h => h) (Or.inl ⟨by rfl, ?y19_11⟩) hHeld ?_
                    case y19_11 => (intro w hSw; (try dsimp only at hSw); go_simp; first | done | (with_reducible rfl))
                    simp only [getElem_toArray, getElem_cons_zero, getElem_cons_succ, Act.put, setIfInBounds_toArray, set_cons_zero, set_cons_succ]
                    refine wpAnyH_take (i := 20) (v := ?v20_11) rfl (by kernel_rfl) (by kernel_rfl) (by kernel_rfl) (fun _ _ _ h => h) (Or.inl ⟨by rfl, ?y20_11⟩) hHeld ?_
                    case y20_11 => (intro w hSw; (try dsimp only at hSw); go_simp; first | done | (with_reducible rfl))
                    simp only [getElem_toArray, getElem_cons_zero, getElem_cons_succ, Act.put, setIfInBounds_toArray, set_cons_zero, set_cons_succ]
                    refine wpAnyH_take (i := 21) (v := ?v21_11) rfl (by kernel_rfl) (by kernel_rfl) (by kernel_rfl) (fun _ _ _ h => h) (Or.inl ⟨by rfl, ?y21_11⟩) hHeld ?_
                    case y21_11 => (intro w hSw; (try dsimp only at hSw); go_simp; first | done | (with_reducible rfl))
                    simp only [getElem_toArray, getElem_cons_zero, getElem_cons_succ, Act.put, setIfInBounds_toArray, set_cons_zero, set_cons_succ]
                    refine wpAnyH_take (i := 22) (v := ?v22_11) rfl (by kernel_rfl) (by kernel_rfl) (by kernel_rfl) (fun _ _ _ h => h) (Or.inl ⟨by rfl, ?y22_11⟩) hHeld ?_
                    case y22_11 => (intro w hSw; (try dsimp only at hSw); go_simp; first | done | (with_reducible rfl))
                    simp only [getElem_toArray, getElem_cons_zero, getElem_cons_succ, Act.put, setIfInBounds_toArray, set_cons_zero, set_cons_succ]
                    refine wpAnyH_take (i := 23) (v := ?v23_11) rfl (by kernel_rfl) (by kernel_rfl) (by kernel_rfl) (fun _ _ _ h => h) (Or.inl ⟨by rfl, ?y23_11⟩) hHeld ?_
                    case y23_11 => (intro w hSw; (try dsimp only at hSw); go_simp; first | done | (with_reducible rfl))
                    simp only [getElem_toArray, getElem_cons_zero, getElem_cons_succ, Act.put, setIfInBounds_toArray, set_cons_zero, set_cons_succ]
                    refine wpAnyH_take (i := 24) (v := ?v24_11) rfl (by kernel_rfl) (by kernel_rfl) (by kernel_rfl) (fun _ _ _ h => h) (Or.inl ⟨by rfl, ?y24_11⟩) hHeld ?_
                    case y24_11 => (intro w hSw; (try dsimp only at hSw); go_simp; first | done | (with_reducible rfl))
                    simp only [getElem_toArray, getElem_cons_zero, getElem_cons_succ, Act.put, setIfInBounds_toArray, set_cons_zero, set_cons_succ]
                    refine wpAnyH_ready (rs := [25]) (by kernel_rfl) (by simp) ?_
                    refine AllReadyH.cons rfl (fun K hK => ?_) AllReadyH.nil
                    go_simp
                    (refine (HI2.out _ (by assumption)).mono ?_; rintro e w2 ⟨rfl, hb2⟩)
                    (try go_wp2_with fail)
                    refine hK.out _ _ ?_ (fun hHeld => ?_)
                    · exact HKB2.out _ hb2
                    clear hK K
                    try simp only [getElem_toArray, getElem_cons_zero, getElem_cons_succ, Act.put, setIfInBounds_toArray, set_cons_zero, set_cons_succ]
                    refine wpAnyH_take (i := 26) (v := .bool false) rfl (by kernel_rfl) (by kernel_rfl) (by kernel_rfl) (fun _ _ _ h => h) (Or.inl ⟨by rfl, ?y26_11⟩) hHeld ?_
                    case y26_11 => (intro w hSw; (try dsimp only at hSw); go_simp; first | done | (with_reducible rfl))
                    simp only [getElem_toArray, getElem_cons_zero, getElem_cons_succ, Act.put, setIfInBounds_toArray, set_cons_zero, set_cons_succ]
                    refine wpAnyH_take (i := 27) (v := .bool false) rfl (by kernel_rfl) (by kernel_rfl) (by kernel_rfl) (fun _ _ _ h => h) (Or.inl ⟨by rfl, ?y27_11⟩) hHeld ?_
                    case y27_11 => (intro w hSw; (try dsimp only at hSw); go_simp; first | done | (with_reducible rfl))
                    simp only [getElem_toArray, getElem_cons_zero, getElem_cons_succ, Act.put, setIfInBounds_toArray, set_cons_zero, set_cons_succ]
                    refine wpAnyH_take (i := 28) (v := ?v28_11) rfl (by kernel_rfl) (by kernel_rfl) (by kernel_rfl) (fun _ _ _ h => h) (Or.inl ⟨by rfl, ?y28_11⟩) hHeld ?_
                    case y28_11 => (intro w hSw; (try dsimp only at hSw); go_simp; first | done | (with_reducible rfl))
                    simp only [getElem_toArray, getElem_cons_zero, getElem_cons_succ, Act.put, setIfInBounds_toArray, set_cons_zero, set_cons_succ]
                    refine wpAnyH_take (i := 29) (v := ?v29_11) rfl (by kernel_rfl) (by kernel_rfl) (by kernel_rfl) (fun _ _ _ h => h) (Or.inl ⟨by rfl, ?y29_11⟩) hHeld ?_
                    case y29_11 => (intro w hSw; (try dsimp only at hSw); go_simp; first | done | (with_reducible rfl))
                    simp only [getElem_toArray, getElem_cons_zero, getElem_cons_succ, Act.put, setIfInBounds_toArray, set_cons_zero, set_cons_succ]
                    refine wpAnyH_take (i := 30) (v := .bool true) rfl (by kernel_rfl) (by kernel_rfl) (by kernel_rfl) (fun _ _ _ h => h) (Or.inl ⟨by rfl, ?y30_11⟩) hHeld ?_
                    case y30_11 => (intro w hSw; (try dsimp only at hSw); go_simp; first | done | (with_reducible rfl))
                    simp only [getElem_toArray, getElem_cons_zero, getElem_cons_succ, Act.put, setIfInBounds_toArray, set_cons_zero, set_cons_succ]
                    refine wpAnyH_take (i := 31) (v := ?v31_11) rfl (by kernel_rfl) (by kernel_rfl) (by kernel_rfl) (fun _ _ _ h => h) (Or.inl ⟨by rfl, ?y31_11⟩) hHeld ?_
                    case y31_11 => (intro w hSw; (try dsimp only at hSw); go_simp; first | done | (with_reducible rfl))
                    simp only [getElem_toArray, getElem_cons_zero, getElem_cons_succ, Act.put, setIfInBounds_toArray, set_cons_zero, set_cons_succ]
                    refine wpAnyH_take (i := 32) (v := ?v32_11) rfl (by kernel_rfl) (by kernel_rfl) (by kernel_rfl) (fun _ _ _ h => h) (Or.inl ⟨by rfl, ?y32_11⟩) hHeld ?_
                    case y32_11 => (intro w hSw; (try dsimp only at hSw); go_simp; first | done | (with_reducible rfl))
                    simp only [getElem_toArray, getElem_cons_zero, getElem_cons_succ, Act.put, setIfInBounds_toArray, set_cons_zero, set_cons_succ]
                    refine wpAnyH_take (i := 33) (v := ?v33_11) rfl (by kernel_rfl) (by kernel_rfl) (by kernel_rfl) (fun _ _ _ h => h) (Or.inl ⟨by rfl, ?y33_11⟩) hHeld ?_
                    case y33_11 => (intro w hSw; (try dsimp only at hSw); go_simp; first | done | (with_reducible rfl))
                    simp only [getElem_toArray, getElem_cons_zero, getElem_cons_succ, Act.put, setIfInBounds_toArray, set_cons_zero, set_cons_succ]
                    refine wpAnyH_take (i := 34) (v := ?v34_11) rfl (by kernel_rfl) (by kernel_rfl) (by kernel_rfl) (fun _ _ _ h => h) (Or.inl ⟨by rfl, ?y34_11⟩) hHeld ?_
                    case y34_11 => (intro w hSw; (try dsimp only at hSw); go_simp; first | done | (with_reducible rfl))
                    simp only [getElem_toArray, getElem_cons_zero, getElem_cons_succ, Act.put, setIfInBounds_toArray, set_cons_zero, set_cons_succ]
                    refine wpAnyH_take (i := 35) (v := ?v35_11) rfl (by kernel_rfl) (by kernel_rfl) (by kernel_rfl) (fun _ _ _ h => h) (Or.inl ⟨by rfl, ?y35_11⟩) hHeld ?_
                    case y35_11 => (intro w hSw; (try dsimp only at hSw); go_simp; first | done | (with_reducible rfl))
                    simp only [getElem_toArray, getElem_cons_zero, getElem_cons_succ, Act.put, setIfInBounds_toArray, set_cons_zero, set_cons_succ]
                    refine wpAnyH_take (i := 36) (v := ?v36_11) rfl (by kernel_rfl) (by kernel_rfl) (by kernel_rfl) (fun _ _ _ h => h) (Or.inl ⟨by rfl, ?y36_11⟩) hHeld ?_
                    case y36_11 => (intro w hSw; (try dsimp only at hSw); go_simp; first | done | (with_reducible rfl))
                    simp only [getElem_toArray, getElem_cons_zero, getElem_cons_succ, Act.put, setIfInBounds_toArray, set_cons_zero, set_cons_succ]
                    refine wpAnyH_take (i := 37) (v := ?v37_11) rfl (by kernel_rfl) (by kernel_rfl) (by kernel_rfl) (fun _ _ _ h => h) (Or.inl ⟨by rfl, ?y37_11⟩) hHeld ?_
                    case y37_11 => (intro w hSw; (try dsimp only at hSw); go_simp; first | done | (with_reducible rfl))
                    simp only [getElem_toArray, getElem_cons_zero, getElem_cons_succ, Act.put, setIfInBounds_toArray, set_cons_zero, set_cons_succ]
                    refine wpAnyH_take (i := 38) (v := ?v38_11) rfl (by kernel_rfl) (by kernel_rfl) (by kernel_rfl) (fun _ _ _ h => h) (Or.inl ⟨by rfl, ?y38_11⟩) hHeld ?_
                    case y38_11 => (intro w hSw; (try dsimp only at hSw); go_simp; first | done | (with_reducible rfl))
                    simp only [getElem_toArray, getElem_cons_zero, getElem_cons_succ, Act.put, setIfInBounds_toArray, set_cons_zero, set_cons_succ]
                    refine wpAnyH_ready (rs := [39]) (by kernel_rfl) (by simp) ?_
                    refine AllReadyH.cons rfl (fun K hK => ?_) AllReadyH.nil
                    go_simp
                    (refine (HI3.out _ (by assumption)).mono ?_; rintro e w2 ⟨rfl, hb2⟩)
                    (try go_wp2_with fail)
                    refine hK.out _ _ ?_ (fun hHeld => ?_)
                    · exact HKB2.out _ hb2
                    clear hK K
                    try simp only [getElem_toArray, getElem_cons_zero, getElem_cons_succ, Act.put, setIfInBounds_toArray, set_cons_zero, set_cons_succ]
                    refine wpAnyH_take (i := 40) (v := ?v40_11) rfl (by kernel_rfl) (by kernel_rfl) (by kernel_rfl) (fun _ _ _ h => h) (Or.inl ⟨by rfl, ?y40_11⟩) hHeld ?_
                    case y40_11 => (intro w hSw; (try dsimp only at hSw); go_simp; first | done | (with_reducible rfl))
                    simp only [getElem_toArray, getElem_cons_zero, getElem_cons_succ, Act.put, setIfInBounds_toArray, set_cons_zero, set_cons_succ]
                    refine wpAnyH_take (i := 41) (v := ?v41_11) rfl (by kernel_rfl) (by kernel_rfl) (by kernel_rfl) (fun _ _ _ h => h) (Or.inl ⟨by rfl, ?y41_11⟩) hHeld ?_
                    case y41_11 => (intro w hSw; (try dsimp only at hSw); go_simp; first | done | (with_reducible rfl))
                    simp only [getElem_toArray, getElem_cons_zero, getElem_cons_succ, Act.put, setIfInBounds_toArray, set_cons_zero, set_cons_succ]
                    refine wpAnyH_take (i := 42) (v := ?v42_11) rfl (by kernel_rfl) (by kernel_rfl) (by kernel_rfl) (fun _ _ _ h => h) (Or.inl ⟨by rfl, ?y42_11⟩) hHeld ?_
                    case y42_11 => (intro w hSw; (try dsimp only at hSw); go_simp; first | done | (with_reducible rfl))
                    simp only [getElem_toArray, getElem_cons_zero, getElem_cons_succ, Act.put, setIfInBounds_toArray, set_cons_zero, set_cons_succ]
                    refine wpAnyH_take (i := 43) (v := ?v43_11) rfl (by kernel_rfl) (by kernel_rfl) (by kernel_rfl) (fun _ _ _ h => h) (Or.inl ⟨by rfl, ?y43_11⟩) hHeld ?_
                    case y43_11 => (intro w hSw; (try dsimp only at hSw); go_simp; first | done | (with_reducible rfl))
                    simp only [getElem_toArray, getElem_cons_zero, getElem_cons_succ, Act.put, setIfInBounds_toArray, set_cons_zero, set_cons_succ]
                    refine wpAnyH_take (i := 44) (v := ?v44_11) rfl (by kernel_rfl) (by kernel_rfl) (by kernel_rfl) (fun _ _ _ h => h) (Or.inl ⟨by rfl, ?y44_11⟩) hHeld ?_
                    case y44_11 => (intro w hSw; (try dsimp only at hSw); go_simp; first | done | (with_reducible rfl))
                    simp only [getElem_toArray, getElem_cons_zero, getElem_cons_succ, Act.put, setIfInBounds_toArray, set_cons_zero, set_cons_succ]
                    refine wpAnyH_take (i := 45) (v := ?v45_11) rfl (by kernel_rfl) (by kernel_rfl) (by kernel_rfl) (fun _ _ _ h => h) (Or.inl ⟨by rfl, ?y45_11⟩) hHeld ?_
                    case y45_11 => (intro w hSw; (try dsimp only at hSw); go_simp; first | done | (with_reducible rfl))
                    simp only [getElem_toArray, getElem_cons_zero, getElem_cons_succ, Act.put, setIfInBounds_toArray, set_cons_zero, set_cons_succ]
                    refine wpAnyH_take (i := 46) (v := ?v46_11) rfl (by kernel_rfl) (by kernel_rfl) (by kernel_rfl) (fun _ _ _ h => h) (Or.inl ⟨by rfl, ?y46_11⟩) hHeld ?_
                    case y46_11 => (intro w hSw; (try dsimp only at hSw); go_simp; first | done | (with_reducible rfl))
                    simp only [getElem_toArray, getElem_cons_zero, getElem_cons_succ, Act.put, setIfInBounds_toArray, set_cons_zero, set_cons_succ]
                    refine wpAnyH_take (i := 47) (v := ?v47_11) rfl (by kernel_rfl) (by kernel_rfl) (by kernel_rfl) (fun _ _ _ h => h) (Or.inl ⟨by rfl, ?y47_11⟩) hHeld ?_
                    case y47_11 => (intro w hSw; (try dsimp only at hSw); go_simp; first | done | (with_reducible rfl))
                    simp only [getElem_toArray, getElem_cons_zero, getElem_cons_succ, Act.put, setIfInBounds_toArray, set_cons_zero, set_cons_succ]
                    refine wpAnyH_take (i := 48) (v := ?v48_11) rfl (by kernel_rfl) (by kernel_rfl) (by kernel_rfl) (fun _ _ _ h => h) (Or.inl ⟨by rfl, ?y48_11⟩) hHeld ?_
                    case y48_11 => (intro w hSw; (try dsimp only at hSw); go_simp; first | done | (with_reducible rfl))
                    simp only [getElem_toArray, getElem_cons_zero, getElem_cons_succ, Act.put, setIfInBounds_toArray, set_cons_zero, set_cons_succ]
                    refine wpAnyH_take (i := 49) (v := ?v49_11) rfl (by kernel_rfl) (by kernel_rfl) (by kernel_rfl) (fun _ _ _ h => h) (Or.inl ⟨by rfl, ?y49_11⟩) hHeld ?_
                    case y49_11 => (intro w hSw; (try dsimp only at hSw); go_simp; first | done | (with_reducible rfl))
                    simp only [getElem_toArray, getElem_cons_zero, getElem_cons_succ, Act.put, setIfInBounds_toArray, set_cons_zero, set_cons_succ]
                    refine wpAnyH_take (i := 50) (v := ?v50_11) rfl (by kernel_rfl) (by kernel_rfl) (by kernel_rfl) (fun _ _ _ h => h) (Or.inl ⟨by rfl, ?y50_11⟩) hHeld ?_
                    case y50_11 => (intro w hSw; (try dsimp only at hSw); go_simp; first | done | (with_reducible rfl))
                    simp only [getElem_toArray, getElem_cons_zero, getElem_cons_succ, Act.put, setIfInBounds_toArray, set_cons_zero, set_cons_succ]
                    refine wpAnyH_ready (rs := [51]) (by kernel_rfl) (by simp) ?_
                    refine AllReadyH.cons rfl (fun K hK => ?_) AllReadyH.nil
                    go_simp
                    (refine (HI4.out _ (by assumption)).mono ?_; rintro e w2 ⟨rfl, hb2⟩)
                    (try go_wp2_with fail)
                    refine hK.out _ _ ?_ (fun hHeld => ?_)
                    · exact HKB2.out _ hb2
                    clear hK K
                    try simp only [getElem_toArray, getElem_cons_zero, getElem_cons_succ, Act.put, setIfInBounds_toArray, set_cons_zero, set_cons_succ]
                    refine wpAnyH_take (i := 52) (v := .bool false) rfl (by kernel_rfl) (by kernel_rfl) (by kernel_rfl) (fun _ _ _ h => h) (Or.inl ⟨by rfl, ?y52_11⟩) hHeld ?_
                    case y52_11 => (intro w hSw; (try dsimp only at hSw); go_simp; first | done | (with_reducible rfl))
                    simp only [getElem_toArray, getElem_cons_zero, getElem_cons_succ, Act.put, setIfInBounds_toArray, set_cons_zero, set_cons_succ]
                    refine wpAnyH_take (i := 53) (v := .bool false) rfl (by kernel_rfl) (by kernel_rfl) (by kernel_rfl) (fun _ _ _ h => h) (Or.inl ⟨by rfl, ?y53_11⟩) hHeld ?_
                    case y53_11 => (intro w hSw; (try dsimp only at hSw); go_simp; first | done | (with_reducible rfl))
                    simp only [getElem_toArray, getElem_cons_zero, getElem_cons_succ, Act.put, setIfInBounds_toArray, set_cons_zero, set_cons_succ]
                    refine wpAnyH_take (i := 54) (v := .bool false) rfl (by kernel_rfl) (by kernel_rfl) (by kernel_rfl) (fun _ _ _ h => h) (Or.inl ⟨by rfl, ?y54_11⟩) hHeld ?_
                    case y54_11 => (intro w hSw; (try dsimp only at hSw); go_simp; first | done | (with_reducible rfl))
                    simp only [getElem_toArray, getElem_cons_zero, getElem_cons_succ, Act.put, setIfInBounds_toArray, set_cons_zero, set_cons_succ]
                    refine wpAnyH_done (by kernel_rfl) ?_ _
                    refine NoPanic.normal ?_
                    go_wp2_with fail
                    go_roundg q2
                    case measure => omega
                    case rel => exact ⟨k + 1, by omega, by go_num, by have := AG2.out; show _ = _; omega, hb2⟩
          · obtain rfl : k = ls.length := by omega
            go_wp2_with fail
            go_roundg q
            case measure => omega
            case rel => exact ⟨i + 1, by omega, by go_num, by have := AG.out; show _ = _; omega, HB.out.trans (hB.mono HB.out.size)⟩
    · obtain rfl : i = ls.length := by omega
      have hB5 := hB4.trans (hBo.mono hB4.size)
      go_wp2_with (go_at_call 8; refine (HAl.out _ hB5).mono ?_; rintro e w6 ⟨rfl, hb6⟩)
      all_goals
        go_ret
        exact ⟨rfl, hB5.trans (hb6.mono hB5.size)⟩
theorem orders6_c (xa xc : List (List UInt8)) (va vb : Value) (w : World) (hw : Env w) (hva : TextsA w va xa) (hvb : TextsA w vb xc) (hsz : xa.length + sumL xa + (xc.length + sumL xc) ≤ 1048576) :
    Calls Tryz.prog 4 #[va, vb] w fun e w' => e = .returned (.bool true) ∧ Below w.heap.size w w' := by
  by_cases h : lightL xa xc = false ∨ 30 < xa.length
  · exact order_not xa xc va vb w hw hva hvb hsz h
  · rw [not_or] at h
    have hl : lightL xa xc = true := by simpa using h.1
    cases hx : newL (baseA ++ xa) baseC with
    | inl x => exact order_nil xa xc va vb w hw hva hvb hsz hl (by omega) x hx
    | inr L => exact order_go xa xc va vb w hw hva hvb hsz hl (by omega) L hx
end Go.Proofs.YtcjobpcbppcdnaaGreatDoor
