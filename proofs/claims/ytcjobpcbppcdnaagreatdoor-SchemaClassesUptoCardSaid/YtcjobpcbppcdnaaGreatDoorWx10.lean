/- SchemaClasses: the walk of the law. (Printed by gen_classes.py.) -/
import Derived.Test.YtcjobpcbppcdnaaGreatDoorWx9
set_option linter.all false
set_option linter.unusedSimpArgs false
namespace Go.Proofs.YtcjobpcbppcdnaaGreatDoor
open Go.RowKit

set_option maxRecDepth 100000 in
set_option maxHeartbeats 4000000 in
theorem classes_not (xa xc : List (List UInt8)) (va vb : Value) (w : World) (hw : Env w) (hva : TextsA w va xa) (hvb : TextsA w vb xc) (hsz : xa.length + sumL xa + (xc.length + sumL xc) ≤ 1048576) (hn : lightL xa xc = false ∨ 30 < xc.length) :
    Calls Tryz.prog 6 #[va, vb] w fun e w' => e = .returned (.bool true) ∧ Below w.heap.size w w' := by
  have HL := Lib.hid (light_c xa xc va vb w hva hvb hsz)
  have HAl := Lib.hid (alive_c w hw)
  obtain ⟨Aa, ca, rfl, _⟩ := hva.at
  obtain ⟨Ac, cc, rfl, _⟩ := hvb.at
  clear hw hva hvb hsz
  cases hl : lightL xa xc with
  | false =>
    rw [hl] at HL
    go_enter Tryz.func6, Tryz.ntmps6
    go_wp2_with (first | (go_at_call 10; refine HL.out.mono ?_; rintro e w1 ⟨rfl, rfl⟩) | (go_at_call 8; refine HAl.out.mono ?_; rintro e w2 ⟨rfl, hb2⟩))
    all_goals
      go_ret
      exact ⟨rfl, hb2⟩
  | true =>
    have h30 : 30 < xc.length := by rw [hl] at hn; simpa using hn
    have h30i : (30 : Int) < (xc.length : Int) := by omega
    rw [hl] at HL
    go_enter Tryz.func6, Tryz.ntmps6
    go_wp2_with (first | (go_at_call 10; refine HL.out.mono ?_; rintro e w1 ⟨rfl, rfl⟩) | (go_at_call 8; refine HAl.out.mono ?_; rintro e w2 ⟨rfl, hb2⟩))
    all_goals
      go_ret
      exact ⟨rfl, hb2⟩
set_option maxRecDepth 100000 in
set_option maxHeartbeats 4000000 in
theorem classes_nil (xa xc : List (List UInt8)) (va vb : Value) (w : World) (hw : Env w) (hva : TextsA w va xa) (hvb : TextsA w vb xc) (hsz : xa.length + sumL xa + (xc.length + sumL xc) ≤ 1048576) (hl : lightL xa xc = true) (h30 : xc.length ≤ 30) (x : Int × Nat) (hx : newL (baseA ++ xa) (baseC ++ xc) = .inl x) :
    Calls Tryz.prog 6 #[va, vb] w fun e w' => e = .returned (.bool true) ∧ Below w.heap.size w w' := by
  have HL := Lib.hid (light_c xa xc va vb w hva hvb hsz)
  have HAl := Lib.hid (fun (W : World) (h : Below w.heap.size w W) => alive_c W (hw.keep h))
  have HM0 := made_c xa xc va vb w hw hva hvb (by have := (light_sums hl).2.2; omega) (by
    intro y hy
    rcases List.mem_append.1 hy with hy | hy
    · have := sum_mem hy
      have := (light_sums hl).1
      omega
    · have := sum_mem hy
      have := (light_sums hl).2.1
      omega)
  rw [hx] at HM0
  have HM := Lib.hid HM0
  obtain ⟨Aa, ca, rfl, _⟩ := hva.at
  obtain ⟨Ac, cc, rfl, _⟩ := hvb.at
  have h30i : ¬ (30 : Int) < (xc.length : Int) := by omega
  clear hw hva hvb hsz HM0 hx
  rw [hl] at HL
  go_enter Tryz.func6, Tryz.ntmps6
  go_wp2_with (first | (go_at_call 10; refine HL.out.mono ?_; rintro e w1 ⟨rfl, rfl⟩) | (go_at_call 11; refine HM.out.mono ?_; rintro e w1 ⟨hb1, rfl⟩) | (go_at_call 8; refine (HAl.out _ hb1).mono ?_; rintro e w2 ⟨rfl, hb2⟩))
  all_goals
    go_ret
    exact ⟨rfl, hb1.trans (hb2.mono hb1.size)⟩
set_option maxRecDepth 100000 in
set_option maxHeartbeats 16000000 in
theorem classes_go (xa xc : List (List UInt8)) (va vb : Value) (w : World) (hw : Env w) (hva : TextsA w va xa) (hvb : TextsA w vb xc) (hsz : xa.length + sumL xa + (xc.length + sumL xc) ≤ 1048576) (hl : lightL xa xc = true) (h30 : xc.length ≤ 30) (L : List DefS) (hx : newL (baseA ++ xa) (baseC ++ xc) = .inr L) :
    Calls Tryz.prog 6 #[va, vb] w fun e w' => e = .returned (.bool true) ∧ Below w.heap.size w w' := by
  have HL := Lib.hid (light_c xa xc va vb w hva hvb hsz)
  have HAl := Lib.hid (fun (W : World) (h : Below w.heap.size w W) => alive_c W (hw.keep h))
  have hshort : ∀ y ∈ xa ++ xc, y.length ≤ 1000000 := by
    intro y hy
    rcases List.mem_append.1 hy with hy | hy
    · have := sum_mem hy
      have := (light_sums hl).1
      omega
    · have := sum_mem hy
      have := (light_sums hl).2.1
      omega
  have HM0 := made_c xa xc va vb w hw hva hvb (by have := (light_sums hl).2.2; omega) hshort
  rw [hx] at HM0
  have HM : Hid (Calls Tryz.prog 11 #[va, vb] w fun e w' => ∃ s ps, e = .returned (.pointer (some ⟨s, 0, none⟩)) ∧ Below w.heap.size w w' ∧ SchAt w' s ps L) := Lib.hid (HM0.mono (by
    rintro e w' ⟨h1, s, ps, h2, h3⟩
    exact ⟨s, ps, h2, h1, h3⟩))
  have hL : Sound L := sound_of hx (by
    intro y hy
    rcases List.mem_append.1 hy with h | h
    · rcases List.mem_append.1 h with h | h
      · exact Nat.le_trans (base_short y (List.mem_append_left _ h)) (by decide)
      · exact hshort y (List.mem_append_left _ h)
    · rcases List.mem_append.1 h with h | h
      · exact Nat.le_trans (base_short y (List.mem_append_right _ h)) (by decide)
      · exact hshort y (List.mem_append_right _ h))
  have hN : L.length ≤ 300 := hL.says.len
  have HCS : Hid (∀ (s : Nat) (ps : List Nat) (W : World), SchAt W s ps L → Calls Tryz.prog 18 #[.pointer (some ⟨s, 0, none⟩)] W fun e w' => ∃ v, e = .returned v ∧ Below W.heap.size W w' ∧ Own W.heap.size w' v (listedL L true)) := Lib.hid fun s ps W hS => Classes_c s ps L W hS (by omega)
  have hlen := listed_len L true
  have HSB := Lib.hid (fun (x : Nat) (h : x < L.length) => above_short hL h)
  have HSH := Lib.hid (listed_short hL true)
  have HCL : Hid (∀ (t : List UInt8) (i : Nat) (d : DefS) (s : Nat) (ps : List Nat) (W : World), SchAt W s ps L → t.length ≤ 1000000 → findD L true t = some i → L[i]? = some d → Calls Tryz.prog 19 #[.pointer (some ⟨s, 0, none⟩), .string ⟨t.toArray⟩] W (ClsOut W L i d)) := Lib.hid fun t i d s ps W hS h1 h2 h3 => Class_o hL s ps t i d W hS h1 h2 h3
  have HAB : Hid (∀ (t : List UInt8) (i : Nat) (s : Nat) (ps : List Nat) (W : World), SchAt W s ps L → t.length ≤ 1000000 → findD L true t = some i → Calls Tryz.prog 20 #[.pointer (some ⟨s, 0, none⟩), .string ⟨t.toArray⟩] W fun e w' => ∃ v, e = .returned v ∧ Below W.heap.size W w' ∧ Own W.heap.size w' v (aboveN L i)) := Lib.hid fun t i s ps W hS h1 h2 => Above_c s ps L t i W hS hL.lim (by omega) hL.says.sup_known h1 h2
  obtain ⟨Aa, ca, rfl, _⟩ := hva.at
  obtain ⟨Ac, cc, rfl, _⟩ := hvb.at
  have h30i : ¬ (30 : Int) < (xc.length : Int) := by omega
  rw [hl] at HL
  have HCA : Hid (∀ (i : Nat) (hi : i < (listedL L true).length), ClassAt L (listedL L true)[i]) := Lib.hid fun i hi => class_at hL hi
  obtain ⟨ls, hls⟩ : ∃ ls, listedL L true = ls := ⟨_, rfl⟩
  have HCA2 : Hid (∀ (i : Nat) (hi : i < ls.length), ClassAt L ls[i]) := by subst hls; exact HCA
  rw [hls] at HCS hlen HSH
  clear hw hva hvb hsz HM0 hx hshort hL hls HCA
  go_enter Tryz.func6, Tryz.ntmps6
  go_wp2_with (first | (go_at_call 10; refine HL.out.mono ?_; rintro e w1 ⟨rfl, rfl⟩) | (go_at_call 11; refine HM.out.mono ?_; rintro e w1 ⟨s, ps, rfl, hb1, hS1⟩) | (go_at_call 18; refine (HCS.out s ps _ hS1).mono ?_; rintro e w4 ⟨v4, rfl, hb4, hO4⟩; obtain ⟨A4, c4, rfl, hc4⟩ := hO4.isSlice))
  have hS4 := hS1.below hb4
  have hB4 := hb1.trans (hb4.mono hb1.size)
  have HTX := Lib.hid hO4.texts
  clear HM HL HCS hO4 hS1 hb1 hb4
  go_loopg [7] ls.length (fun gk j wr => ∃ i : Nat, i ≤ ls.length ∧ j = .int .i64 i ∧ Aside (i + gk = ls.length) ∧ Below w4.heap.size w4 wr)
  case atStart => exact ⟨0, Nat.zero_le _, rfl, by show _ = _; omega, Below.refl _ _⟩
  case round =>
    obtain ⟨i, hi, rfl, AG, hBo⟩ := hrel
    obtain ⟨wo, hwo⟩ : ∃ wo, wo = wr := ⟨_, rfl⟩
    subst hwo
    by_cases hil : i < ls.length
    · obtain ⟨q, rfl⟩ : ∃ q, gk = q + 1 := ⟨gk - 1, by have := AG.out; omega⟩
      obtain ⟨x, d, hf, hd, hab, hnd, hcu⟩ := HCA2.out i hil
      have hlis := HSH.out _ (List.getElem_mem hil)
      obtain ⟨g, rfl, ci0⟩ := texts_at HTX.out hil
      have ci : wo.cell? ⟨g, i, none⟩ = some (.string ⟨ls[i].toArray⟩) := (hBo.cell (p := ⟨g, i, none⟩) (cell_lt ci0)).trans ci0
      have HCX := Lib.hid (HCL.out ls[i] x d s ps wo (hS4.below hBo) hlis hf hd)
      have HAX : Hid (∀ W, Below wo.heap.size wo W → Calls Tryz.prog 20 #[.pointer (some ⟨s, 0, none⟩), .string ⟨ls[i].toArray⟩] W fun e w' => ∃ v, e = .returned v ∧ Below W.heap.size W w' ∧ Own W.heap.size w' v (aboveN L x)) := Lib.hid fun W hW => HAB.out ls[i] x s ps W ((hS4.below hBo).below hW) hlis hf
      have HCU := Lib.hid hcu
      have HAH := Lib.hid hab
      have HUS := Lib.hid (HSB.out x (findD_lt hf))
      have hul : (aboveN L x).length ≤ 300 := Nat.le_trans (above_len (findD_lt hf)) hN
      obtain ⟨li, hli⟩ : ∃ li, ls[i] = li := ⟨_, rfl⟩
      obtain ⟨up, hup⟩ : ∃ up, aboveN L x = up := ⟨_, rfl⟩
      obtain ⟨cm0, hcm0⟩ : ∃ m, mustD L x = m := ⟨_, rfl⟩
      obtain ⟨cy0, hcy0⟩ : ∃ m, mayD L x = m := ⟨_, rfl⟩
      have HCU2 : Hid (∀ (k : Nat) (hk : k < up.length), AboveAt L cm0 cy0 up k up[k]) := by
        subst hup hcm0 hcy0
        exact HCU
      unfold ClsOut at HCX
      rw [hli] at HCX HAX hlis ci ci0 HAH
      rw [hup] at HAX HAH hul HUS
      rw [hcm0, hcy0] at HCX
      have HCI0 := Lib.hid ci0
      clear hcu hab hnd hf hd hli hup hcm0 hcy0 HCU ci0
      have ci2 : ∀ W, Below wo.heap.size wo W → W.cell? ⟨g, i, none⟩ = some (.string ⟨li.toArray⟩) := fun W hW => (hW.cell (p := ⟨g, i, none⟩) (cell_lt ci)).trans ci
      have HCI2 := Lib.hid ci2
      clear ci2
      go_upto_region 11 with (go_at_call 19; refine HCX.out.mono ?_; rintro e w5 ⟨A1, n1, c1, A2, n2, c2, Am, nm, cm, Ay, ny, cy, rfl, hb5, hm5, hy5, lm5, ly5⟩)
      have hbk := Bk.new w5 45 #[.string ⟨d.oid.toArray⟩, .string ⟨d.name.toArray⟩, .slice A1 n1 c1, .slice A2 n2 c2, .int .i64 d.kind, .slice Am nm cm, .slice Ay ny cy]
      have hba := (Below.refl w5.heap.size w5).alloc (Nat.le_refl _) (.cells #[.string ⟨d.oid.toArray⟩, .string ⟨d.name.toArray⟩, .slice A1 n1 c1, .slice A2 n2 c2, .int .i64 d.kind, .slice Am nm cm, .slice Ay ny cy] 45)
      have hm6 := hm5.below hba
      have hy6 := hy5.below hba
      have hbn := hb5.trans (hba.mono hb5.size)
      have HBK := Lib.hid hbk
      clear hbk hba hm5 hy5 hb5
      generalize w5.heap.size = gc at *
      generalize (w5.alloc _) = w6 at *
      have H6 := Lib.hid (And.intro HBK.out (And.intro hm6 (And.intro hy6 hbn)))
      have ci6 := HCI2.out w6 hbn
      have HAX6 := Lib.hid (HAX.out w6 hbn)
      clear hm6 hy6 hbn HBK HAX HCX ci
      go_upto_region 12 with (go_at_call 20; refine HAX6.out.mono ?_; rintro e w7 ⟨v7, rfl, hb7, hO7⟩; obtain ⟨A7, c7, rfl, hc7⟩ := hO7.isSlice; have HT7 := Lib.hid hO7.texts; clear hO7)
      have H7 : Hid (Bk w7 gc 45 #[.string ⟨d.oid.toArray⟩, .string ⟨d.name.toArray⟩, .slice A1 n1 c1, .slice A2 n2 c2, .int .i64 d.kind, .slice Am nm cm, .slice Ay ny cy] ∧ Texts w7 (.slice Am nm cm) cm0 ∧ Texts w7 (.slice Ay ny cy) cy0 ∧ Below wo.heap.size wo w7) := Lib.hid ⟨H6.out.1.below hb7, H6.out.2.1.below hb7, H6.out.2.2.1.below hb7, H6.out.2.2.2.trans (hb7.mono H6.out.2.2.2.size)⟩
      have ci7 := HCI2.out w7 H7.out.2.2.2
      obtain ⟨ut, hut⟩ := HAH.out
      have hu0 : 0 < up.length := by rw [hut]; simp
      obtain ⟨g7, rfl, cu0⟩ := texts_at HT7.out hu0
      have hue : up[0] = li := by simp only [hut, List.getElem_cons_zero]
      rw [hue] at cu0
      have hq0 : ((up.length : Int) == 0) = false := by rw [beq_eq_false_iff_ne]; omega
      have hq1 : (0 : Int) < (up.length : Int) := by omega
      have hq2 : (0 : Int) ≤ (i : Int) := by omega
      have hq3 : (i : Int) < (ls.length : Int) := by omega
      have hne : (li != li) = false := by simp
      have HUE := Lib.hid (And.intro hut hue)
      have HS7 := Lib.hid ((hS4.below hBo).below H7.out.2.2.2)
      clear hut hue H6 ci6 HAX6 hb7 HAH HCI0
      go_quiet (fail)
      have hB0 : Below w7.heap.size w7 (w7.drewN nq) := ⟨rfl, rfl, rfl, Nat.le_refl _, fun _ _ => rfl⟩
      go_wp2_with fail
      go_loopg [11] up.length (fun gk j wr => ∃ k : Nat, k ≤ up.length ∧ j = .int .i64 k ∧ Aside (k + gk = up.length) ∧ Below w7.heap.size w7 wr)
      case atStart => exact ⟨0, Nat.zero_le _, rfl, by show _ = _; omega, hB0⟩
      case round =>
        clear hq0 hq1 hq2 hq3 hne ci7 cu0 hB0
        obtain ⟨k, hk, rfl, AG2, hB⟩ := hrel
        obtain ⟨wp, hwp⟩ : ∃ wp, wp = wr := ⟨_, rfl⟩
        subst hwp
        by_cases hkl : k < up.length
        · obtain ⟨q2, rfl⟩ : ∃ q, gk = q + 1 := ⟨gk - 1, by have := AG2.out; omega⟩
          obtain ⟨y, e, hy, he, hfr, hmu, hma⟩ := HCU2.out k hkl
          have hupl := HUS.out _ (List.getElem_mem hkl)
          have ck0 := texts_at2 HT7.out hkl
          have ck : wp.cell? ⟨g7, k, none⟩ = some (.string ⟨up[k].toArray⟩) := (hB.cell (p := ⟨g7, k, none⟩) (cell_lt ck0)).trans ck0
          have HCY := Lib.hid (HCL.out up[k] y e s ps wp (HS7.out.below hB) hupl hy he)
          have hs2 : ∀ W, (Instr.slice 22 (.slice (some ⟨g7, 0, none⟩) up.length c7) none (some (.int .i64 (k : Int))) none).run Tryz.prog W = .ok (.slice (some ⟨g7, 0, none⟩) k c7) W := fun W => slice_uptoS g7 up.length c7 k (by omega) W
          have hk0 : (0 : Int) ≤ (k : Int) := by omega
          have hk1 : (k : Int) < (up.length : Int) := by omega
          have htk : (up.take k).length = k := by rw [List.length_take, Nat.min_eq_left hk]
          have HTK : Hid (∀ W, Below w7.heap.size w7 W → TextsA W (.slice (some ⟨g7, 0, none⟩) k c7) (up.take k)) := Lib.hid fun W hW => by
            refine .inr ⟨⟨g7, 0, none⟩, c7, by rw [htk], by omega, fun j hj => ?_⟩
            have hj' : j < up.length := by omega
            have hc := texts_at2 HT7.out hj'
            rw [add_off, List.getElem_take]
            exact (hW.cell (p := ⟨g7, j, none⟩) (cell_lt hc)).trans hc
          obtain ⟨uk, huk⟩ : ∃ u, up[k] = u := ⟨_, rfl⟩
          have HHF : Hid (∀ W, Below w7.heap.size w7 W → Calls Tryz.prog 21 #[.slice (some ⟨g7, 0, none⟩) k c7, .string ⟨uk.toArray⟩] W fun e w' => e = .returned (.bool false) ∧ W = w') := Lib.hid fun W hW => by
            have := has_c (up.take k) uk _ W (HTK.out W hW) (by omega)
            rw [← huk, hfr] at this
            rw [← huk]
            exact this
          unfold ClsOut at HCY
          rw [huk] at HCY ck ck0 hupl
          obtain ⟨em, hem⟩ : ∃ m, mustD L y = m := ⟨_, rfl⟩
          obtain ⟨ey, hey⟩ : ∃ m, mayD L y = m := ⟨_, rfl⟩
          rw [hem, hey] at HCY
          rw [hem] at hmu
          rw [hey] at hma
          have HMU := Lib.hid hmu
          have HMA := Lib.hid hma
          have HCK := Lib.hid ck0
          clear hmu hma hem hey huk hfr hy he HTK ck0
          go_upto_region 18 with (go_at_call 19; refine HCY.out.mono ?_; rintro e8 w8 ⟨B1, m1, d1, B2, m2, d2, Dm, nd, dm, Dy, ne, dy, rfl, hb8, hm8, hy8, lm8, ly8⟩)
          obtain ⟨rfl, hcd⟩ := texts_len hm8
          obtain ⟨rfl, hce⟩ := texts_len hy8
          have hbk := Bk.new w8 45 #[.string ⟨e.oid.toArray⟩, .string ⟨e.name.toArray⟩, .slice B1 m1 d1, .slice B2 m2 d2, .int .i64 e.kind, .slice Dm em.length dm, .slice Dy ey.length dy]
          have hba := (Below.refl w8.heap.size w8).alloc (Nat.le_refl _) (.cells #[.string ⟨e.oid.toArray⟩, .string ⟨e.name.toArray⟩, .slice B1 m1 d1, .slice B2 m2 d2, .int .i64 e.kind, .slice Dm em.length dm, .slice Dy ey.length dy] 45)
          have hm9 := hm8.below hba
          have hy9 := hy8.below hba
          have hbn := hB.trans ((hb8.trans (hba.mono hb8.size)).mono hB.size)
          have HBK := Lib.hid hbk
          clear hbk hba hm8 hy8 hb8 HCY ck
          generalize w8.heap.size = gd at *
          generalize (w8.alloc _) = w9 at *
          have H9 : Hid (Below w7.heap.size w7 w9) := Lib.hid hbn
          have HM9 := Lib.hid hm9
          have HY9 := Lib.hid hy9
          clear hbn hm9 hy9
          have HM : Hid (∀ (x : List UInt8) (r : Bool), cm0.contains x = r → ∀ W, Below w9.heap.size w9 W → Calls Tryz.prog 21 #[.slice Am nm cm, .string ⟨x.toArray⟩] W fun e w' => e = .returned (.bool r) ∧ W = w') := Lib.hid fun x r hr W hW => by
            have := has_c cm0 x _ W (texts_toA (((H7.out.2.1.below H9.out)).below hW)) lm5
            rw [hr] at this
            exact this
          have HY : Hid (∀ (x : List UInt8) (r : Bool), cy0.contains x = r → ∀ W, Below w9.heap.size w9 W → Calls Tryz.prog 21 #[.slice Ay ny cy, .string ⟨x.toArray⟩] W fun e w' => e = .returned (.bool r) ∧ W = w') := Lib.hid fun x r hr W hW => by
            have := has_c cy0 x _ W (texts_toA (((H7.out.2.2.1.below H9.out)).below hW)) ly5
            rw [hr] at this
            exact this
          have HKB0 : Hid (∀ W, Below w9.heap.size w9 W → W.cell? ⟨gc, 5, none⟩ = some (.slice Am nm cm) ∧ W.cell? ⟨gc, 6, none⟩ = some (.slice Ay ny cy) ∧ W.cell? ⟨gd, 5, none⟩ = some (.slice Dm em.length dm) ∧ W.cell? ⟨gd, 6, none⟩ = some (.slice Dy ey.length dy)) := Lib.hid fun W hW => by
            have k1 := (H7.out.1.below H9.out).below hW
            have k2 := HBK.out.below hW
            exact ⟨k1.cell 5, k1.cell 6, k2.cell 5, k2.cell 6⟩
          have HME : Hid (∀ j (hj : j < em.length), ∃ gs, Dm = some ⟨gs, 0, none⟩ ∧ ∀ W, Below w9.heap.size w9 W → W.cell? ⟨gs, j, none⟩ = some (.string ⟨em[j].toArray⟩)) := Lib.hid fun j hj => by
            obtain ⟨gs, h1, h2⟩ := texts_at HM9.out hj
            exact ⟨gs, h1, fun W hW => (hW.cell (p := ⟨gs, j, none⟩) (cell_lt h2)).trans h2⟩
          have HYE : Hid (∀ j (hj : j < ey.length), ∃ gs, Dy = some ⟨gs, 0, none⟩ ∧ ∀ W, Below w9.heap.size w9 W → W.cell? ⟨gs, j, none⟩ = some (.string ⟨ey[j].toArray⟩)) := Lib.hid fun j hj => by
            obtain ⟨gs, h1, h2⟩ := texts_at HY9.out hj
            exact ⟨gs, h1, fun W hW => (hW.cell (p := ⟨gs, j, none⟩) (cell_lt h2)).trans h2⟩
          have HS18 : Hid (∀ W, Below w9.heap.size w9 W → W.cell? ⟨g7, k, none⟩ = some (.string ⟨uk.toArray⟩)) := Lib.hid fun W hW => by
            have h1 : w9.cell? ⟨g7, k, none⟩ = some (.string ⟨uk.toArray⟩) := (H9.out.cell (p := ⟨g7, k, none⟩) (cell_lt HCK.out)).trans HCK.out
            exact (hW.cell (p := ⟨g7, k, none⟩) (cell_lt h1)).trans h1
          have hd9 : Below w9.heap.size w9 w9.drew := (Below.refl _ _).drew
          have hd7 : Below w7.heap.size w7 w9.drew := H9.out.drew
          clear HCU2 HUS HT7 hB HCL HAB HSB HCA2 HTX HSH hBo HCI2
          go_region_held3 (fun W => W.cell? ⟨g7, k, none⟩ = some (.string ⟨uk.toArray⟩)) (first | exact HS18.out _ hd9 | fail) (first | (go_at_call 21; refine (HHF.out _ hd7).mono ?_; rintro e2 w2 ⟨rfl, rfl⟩) | fail)
          go_wp2_with fail
          clear HHF HS18 hs2 hd7
          go_loopg [14] em.length (fun gk j wr => ∃ i2 : Nat, i2 ≤ em.length ∧ j = .int .i64 i2 ∧ Aside (i2 + gk = em.length) ∧ Below w9.heap.size w9 wr)
          case atStart => exact ⟨0, Nat.zero_le _, rfl, by show _ = _; omega, hd9⟩
          case round =>
            clear hd9
            obtain ⟨j, hj, rfl, AG3, hB3⟩ := hrel
            by_cases hjl : j < em.length
            · obtain ⟨q3, rfl⟩ : ∃ q, gk = q + 1 := ⟨gk - 1, by have := AG3.out; omega⟩
              obtain ⟨gs, rfl, hce0⟩ := HME.out j hjl
              have hp := HMU.out _ (List.getElem_mem hjl)
              obtain ⟨sj, hsj⟩ : ∃ u, em[j] = u := ⟨_, rfl⟩
              rw [hsj] at hp hce0
              have HCE := Lib.hid hce0
              clear hce0 hsj
              have hj0 : (0 : Int) ≤ (j : Int) := by omega
              have hj1 : (j : Int) < (em.length : Int) := by omega
              have HKB : Hid (∀ W, Below w9.heap.size w9 W → (fun W => W.cell? ⟨gc, 5, none⟩ = some (.slice Am nm cm) ∧ W.cell? ⟨gc, 6, none⟩ = some (.slice Ay ny cy) ∧ W.cell? ⟨gd, 5, none⟩ = some (.slice (some ⟨gs, 0, none⟩) em.length dm) ∧ W.cell? ⟨gs, j, none⟩ = some (.string ⟨sj.toArray⟩)) W) := Lib.hid fun W hW => by
                obtain ⟨k1, k2, k3, k4⟩ := HKB0.out W hW
                exact ⟨k1, k2, k3, HCE.out W hW⟩
              obtain ⟨kc1, kc2, kc3, kc4⟩ := HKB0.out wr hB3
              have hdr : Below w9.heap.size w9 wr.drew := hB3.drew
              have HM1 := Lib.hid (HM.out sj true hp.1)
              have HY1 := Lib.hid (HY.out sj false hp.2)
              clear HM HY hp HMA HMU HME HYE HKB0
              go_upto_region 23 with fail
              go_region_held3 (fun W => W.cell? ⟨gc, 5, none⟩ = some (.slice Am nm cm) ∧ W.cell? ⟨gc, 6, none⟩ = some (.slice Ay ny cy) ∧ W.cell? ⟨gd, 5, none⟩ = some (.slice (some ⟨gs, 0, none⟩) em.length dm) ∧ W.cell? ⟨gs, j, none⟩ = some (.string ⟨sj.toArray⟩)) (first | exact HKB.out _ hdr | fail) (first | (go_at_call 21; (with_reducible refine (HM1.out _ hdr).mono ?_); rintro e2 w2 ⟨rfl, rfl⟩) | (go_at_call 21; (with_reducible refine (HY1.out _ hdr).mono ?_); rintro e2 w2 ⟨rfl, rfl⟩) | fail)
              go_wp2_with fail
              go_roundg q3
              case measure => omega
              case rel => exact ⟨j + 1, by omega, by go_num, by have := AG3.out; show _ = _; omega, hdr⟩
            · obtain rfl : j = em.length := by omega
              obtain ⟨kc1, kc2, kc3, kc4⟩ := HKB0.out wr hB3
              clear HMU HME
              go_wp2_with fail
              go_loopg [15] ey.length (fun gk j wr => ∃ i2 : Nat, i2 ≤ ey.length ∧ j = .int .i64 i2 ∧ Aside (i2 + gk = ey.length) ∧ Below w9.heap.size w9 wr)
              case atStart => exact ⟨0, Nat.zero_le _, rfl, by show _ = _; omega, hB3⟩
              case round =>
                clear hB3 AG3 kc1 kc2 kc3 kc4
                obtain ⟨j, hj, rfl, AG3, hB3⟩ := hrel
                by_cases hjl : j < ey.length
                · obtain ⟨q3, rfl⟩ : ∃ q, gk = q + 1 := ⟨gk - 1, by have := AG3.out; omega⟩
                  obtain ⟨gs, rfl, hce0⟩ := HYE.out j hjl
                  have hp := HMA.out _ (List.getElem_mem hjl)
                  obtain ⟨sj, hsj⟩ : ∃ u, ey[j] = u := ⟨_, rfl⟩
                  rw [hsj] at hp hce0
                  have HCE := Lib.hid hce0
                  clear hce0 hsj
                  have hj0 : (0 : Int) ≤ (j : Int) := by omega
                  have hj1 : (j : Int) < (ey.length : Int) := by omega
                  have HKB : Hid (∀ W, Below w9.heap.size w9 W → (fun W => W.cell? ⟨gc, 5, none⟩ = some (.slice Am nm cm) ∧ W.cell? ⟨gc, 6, none⟩ = some (.slice Ay ny cy) ∧ W.cell? ⟨gd, 6, none⟩ = some (.slice (some ⟨gs, 0, none⟩) ey.length dy) ∧ W.cell? ⟨gs, j, none⟩ = some (.string ⟨sj.toArray⟩)) W) := Lib.hid fun W hW => by
                    obtain ⟨k1, k2, k3, k4⟩ := HKB0.out W hW
                    exact ⟨k1, k2, k4, HCE.out W hW⟩
                  obtain ⟨kc1, kc2, kc3, kc4⟩ := HKB0.out wr hB3
                  have hdr : Below w9.heap.size w9 wr.drew := hB3.drew
                  cases hr : cm0.contains sj
                  · have HM1 := Lib.hid (HM.out sj false hr)
                    have HY1 := Lib.hid (HY.out sj true (hp hr))
                    clear HM HY hp HMA HYE HKB0 hr
                    go_upto_region 28 with fail
                    go_region_held3 (fun W => W.cell? ⟨gc, 5, none⟩ = some (.slice Am nm cm) ∧ W.cell? ⟨gc, 6, none⟩ = some (.slice Ay ny cy) ∧ W.cell? ⟨gd, 6, none⟩ = some (.slice (some ⟨gs, 0, none⟩) ey.length dy) ∧ W.cell? ⟨gs, j, none⟩ = some (.string ⟨sj.toArray⟩)) (first | exact HKB.out _ hdr | fail) (first | (go_at_call 21; (with_reducible refine (HM1.out _ hdr).mono ?_); rintro e2 w2 ⟨rfl, rfl⟩) | (go_at_call 21; (with_reducible refine (HY1.out _ hdr).mono ?_); rintro e2 w2 ⟨rfl, rfl⟩) | fail)
                    go_wp2_with fail
                    go_roundg q3
                    case measure => omega
                    case rel => exact ⟨j + 1, by omega, by go_num, by have := AG3.out; show _ = _; omega, hdr⟩
                  · have HM1 := Lib.hid (HM.out sj true hr)
                    clear HM HY hp HMA HYE HKB0 hr
                    go_upto_region 28 with fail
                    refine wp_region_noPanic ?_
                    refine wp_region_held_drew (S := (fun W => W.cell? ⟨gc, 5, none⟩ = some (.slice Am nm cm) ∧ W.cell? ⟨gc, 6, none⟩ = some (.slice Ay ny cy) ∧ W.cell? ⟨gd, 6, none⟩ = some (.slice (some ⟨gs, 0, none⟩) ey.length dy) ∧ W.cell? ⟨gs, j, none⟩ = some (.string ⟨sj.toArray⟩))) (by kernel_rfl) ?_ (fun hHeld => ?_)
                    · exact HKB.out _ hdr
                    refine wpAnyH_take (i := 0) (v := ?v0) rfl (by kernel_rfl) (by kernel_rfl) (by kernel_rfl) (fun _ _ _ h => h) (Or.inl ⟨by rfl, ?y0⟩) hHeld ?_
                    case y0 => (intro w hSw; (try dsimp only at hSw); go_simp; first | done | (with_reducible rfl))
                    simp only [List.getElem_toArray, List.getElem_cons_zero, List.getElem_cons_succ, Act.put, List.setIfInBounds_toArray, List.set_cons_zero, List.set_cons_succ]
                    refine wpAnyH_take (i := 1) (v := ?v1) rfl (by kernel_rfl) (by kernel_rfl) (by kernel_rfl) (fun _ _ _ h => h) (Or.inl ⟨by rfl, ?y1⟩) hHeld ?_
                    case y1 => (intro w hSw; (try dsimp only at hSw); go_simp; first | done | (with_reducible rfl))
                    simp only [List.getElem_toArray, List.getElem_cons_zero, List.getElem_cons_succ, Act.put, List.setIfInBounds_toArray, List.set_cons_zero, List.set_cons_succ]
                    refine wpAnyH_take (i := 2) (v := ?v2) rfl (by kernel_rfl) (by kernel_rfl) (by kernel_rfl) (fun _ _ _ h => h) (Or.inl ⟨by rfl, ?y2⟩) hHeld ?_
                    case y2 => (intro w hSw; (try dsimp only at hSw); go_simp; first | done | (with_reducible rfl))
                    simp only [List.getElem_toArray, List.getElem_cons_zero, List.getElem_cons_succ, Act.put, List.setIfInBounds_toArray, List.set_cons_zero, List.set_cons_succ]
                    refine wpAnyH_take (i := 3) (v := ?v3) rfl (by kernel_rfl) (by kernel_rfl) (by kernel_rfl) (fun _ _ _ h => h) (Or.inl ⟨by rfl, ?y3⟩) hHeld ?_
                    case y3 => (intro w hSw; (try dsimp only at hSw); go_simp; first | done | (with_reducible rfl))
                    simp only [List.getElem_toArray, List.getElem_cons_zero, List.getElem_cons_succ, Act.put, List.setIfInBounds_toArray, List.set_cons_zero, List.set_cons_succ]
                    refine wpAnyH_take (i := 4) (v := ?v4) rfl (by kernel_rfl) (by kernel_rfl) (by kernel_rfl) (fun _ _ _ h => h) (Or.inl ⟨by rfl, ?y4⟩) hHeld ?_
                    case y4 => (intro w hSw; (try dsimp only at hSw); go_simp; first | done | (with_reducible rfl))
                    simp only [List.getElem_toArray, List.getElem_cons_zero, List.getElem_cons_succ, Act.put, List.setIfInBounds_toArray, List.set_cons_zero, List.set_cons_succ]
                    refine wpAnyH_take (i := 5) (v := ?v5) rfl (by kernel_rfl) (by kernel_rfl) (by kernel_rfl) (fun _ _ _ h => h) (Or.inl ⟨by rfl, ?y5⟩) hHeld ?_
                    case y5 => (intro w hSw; (try dsimp only at hSw); go_simp; first | done | (with_reducible rfl))
                    simp only [List.getElem_toArray, List.getElem_cons_zero, List.getElem_cons_succ, Act.put, List.setIfInBounds_toArray, List.set_cons_zero, List.set_cons_succ]
                    refine wpAnyH_take (i := 6) (v := ?v6) rfl (by kernel_rfl) (by kernel_rfl) (by kernel_rfl) (fun _ _ _ h => h) (Or.inl ⟨by rfl, ?y6⟩) hHeld ?_
                    case y6 => (intro w hSw; (try dsimp only at hSw); go_simp; first | done | (with_reducible rfl))
                    simp only [List.getElem_toArray, List.getElem_cons_zero, List.getElem_cons_succ, Act.put, List.setIfInBounds_toArray, List.set_cons_zero, List.set_cons_succ]
                    refine wpAnyH_ready (rs := [7]) (by kernel_rfl) (by simp) ?_
                    refine AllReadyH.cons rfl (fun K hK => ?_) AllReadyH.nil
                    go_simp
                    (with_reducible refine (HM1.out _ (by assumption)).mono ?_; rintro e w2 ⟨rfl, rfl⟩)
                    (try go_wp2_with fail)
                    refine hK.out _ _ ?_ (fun hHeld => ?_)
                    · exact HKB.out _ hdr
                    clear hK K
                    try simp only [List.getElem_toArray, List.getElem_cons_zero, List.getElem_cons_succ, Act.put, List.setIfInBounds_toArray, List.set_cons_zero, List.set_cons_succ]
                    refine wpAnyH_take (i := 8) (v := .bool false) rfl (by kernel_rfl) (by kernel_rfl) (by kernel_rfl) (fun _ _ _ h => h) (Or.inl ⟨by rfl, ?y8⟩) hHeld ?_
                    case y8 => (intro w hSw; (try dsimp only at hSw); go_simp; first | done | (with_reducible rfl))
                    simp only [List.getElem_toArray, List.getElem_cons_zero, List.getElem_cons_succ, Act.put, List.setIfInBounds_toArray, List.set_cons_zero, List.set_cons_succ]
                    refine wpAnyH_take (i := 9) (v := .bool false) rfl (by kernel_rfl) (by kernel_rfl) (by kernel_rfl) (fun _ _ _ h => h) (Or.inl ⟨by rfl, ?y9⟩) hHeld ?_
                    case y9 => (intro w hSw; (try dsimp only at hSw); go_simp; first | done | (with_reducible rfl))
                    simp only [List.getElem_toArray, List.getElem_cons_zero, List.getElem_cons_succ, Act.put, List.setIfInBounds_toArray, List.set_cons_zero, List.set_cons_succ]
                    refine wpAnyH_take (i := 10) (v := undef) rfl (by kernel_rfl) (by kernel_rfl) (by kernel_rfl) (fun _ _ _ h => h) (Or.inr ⟨by rfl, rfl⟩) hHeld ?_
                    simp only [List.getElem_toArray, List.getElem_cons_zero, List.getElem_cons_succ, Act.put, List.setIfInBounds_toArray, List.set_cons_zero, List.set_cons_succ]
                    refine wpAnyH_take (i := 11) (v := undef) rfl (by kernel_rfl) (by kernel_rfl) (by kernel_rfl) (fun _ _ _ h => h) (Or.inr ⟨by rfl, rfl⟩) hHeld ?_
                    simp only [List.getElem_toArray, List.getElem_cons_zero, List.getElem_cons_succ, Act.put, List.setIfInBounds_toArray, List.set_cons_zero, List.set_cons_succ]
                    refine wpAnyH_take (i := 12) (v := undef) rfl (by kernel_rfl) (by kernel_rfl) (by kernel_rfl) (fun _ _ _ h => h) (Or.inr ⟨by rfl, rfl⟩) hHeld ?_
                    simp only [List.getElem_toArray, List.getElem_cons_zero, List.getElem_cons_succ, Act.put, List.setIfInBounds_toArray, List.set_cons_zero, List.set_cons_succ]
                    refine wpAnyH_take (i := 13) (v := undef) rfl (by kernel_rfl) (by kernel_rfl) (by kernel_rfl) (fun _ _ _ h => h) (Or.inr ⟨by rfl, rfl⟩) hHeld ?_
                    simp only [List.getElem_toArray, List.getElem_cons_zero, List.getElem_cons_succ, Act.put, List.setIfInBounds_toArray, List.set_cons_zero, List.set_cons_succ]
                    refine wpAnyH_take (i := 14) (v := undef) rfl (by kernel_rfl) (by kernel_rfl) (by kernel_rfl) (fun _ _ _ h => h) (Or.inr ⟨by rfl, rfl⟩) hHeld ?_
                    simp only [List.getElem_toArray, List.getElem_cons_zero, List.getElem_cons_succ, Act.put, List.setIfInBounds_toArray, List.set_cons_zero, List.set_cons_succ]
                    refine wpAnyH_take (i := 15) (v := undef) rfl (by kernel_rfl) (by kernel_rfl) (by kernel_rfl) (fun _ _ _ h => h) (Or.inr ⟨by rfl, rfl⟩) hHeld ?_
                    simp only [List.getElem_toArray, List.getElem_cons_zero, List.getElem_cons_succ, Act.put, List.setIfInBounds_toArray, List.set_cons_zero, List.set_cons_succ]
                    refine wpAnyH_take (i := 16) (v := undef) rfl (by kernel_rfl) (by kernel_rfl) (by kernel_rfl) (fun _ _ _ h => h) (Or.inr ⟨by rfl, rfl⟩) hHeld ?_
                    simp only [List.getElem_toArray, List.getElem_cons_zero, List.getElem_cons_succ, Act.put, List.setIfInBounds_toArray, List.set_cons_zero, List.set_cons_succ]
                    refine wpAnyH_take (i := 17) (v := undef) rfl (by kernel_rfl) (by kernel_rfl) (by kernel_rfl) (fun _ _ _ h => h) (Or.inr ⟨by rfl, rfl⟩) hHeld ?_
                    simp only [List.getElem_toArray, List.getElem_cons_zero, List.getElem_cons_succ, Act.put, List.setIfInBounds_toArray, List.set_cons_zero, List.set_cons_succ]
                    refine wpAnyH_take (i := 18) (v := undef) rfl (by kernel_rfl) (by kernel_rfl) (by kernel_rfl) (fun _ _ _ h => h) (Or.inr ⟨by rfl, rfl⟩) hHeld ?_
                    simp only [List.getElem_toArray, List.getElem_cons_zero, List.getElem_cons_succ, Act.put, List.setIfInBounds_toArray, List.set_cons_zero, List.set_cons_succ]
                    refine wpAnyH_take (i := 19) (v := .bool false) rfl (by kernel_rfl) (by kernel_rfl) (by kernel_rfl) (fun _ _ _ h => h) (Or.inl ⟨by rfl, ?y19⟩) hHeld ?_
                    case y19 => (intro w hSw; (try dsimp only at hSw); go_simp; first | done | (with_reducible rfl))
                    simp only [List.getElem_toArray, List.getElem_cons_zero, List.getElem_cons_succ, Act.put, List.setIfInBounds_toArray, List.set_cons_zero, List.set_cons_succ]
                    refine wpAnyH_done (by kernel_rfl) ?_ _
                    refine NoPanic.normal ?_
                    go_wp2_with fail
                    go_roundg q3
                    case measure => omega
                    case rel => exact ⟨j + 1, by omega, by go_num, by have := AG3.out; show _ = _; omega, hdr⟩
                · obtain rfl : j = ey.length := by omega
                  obtain ⟨kc1, kc2, kc3, kc4⟩ := HKB0.out wr hB3
                  go_wp2_with fail
                  go_roundg q2
                  case measure => omega
                  case rel => exact ⟨k + 1, by omega, by go_num, by have := AG2.out; show _ = _; omega, H9.out.trans (hB3.mono H9.out.size)⟩
        · obtain rfl : k = up.length := by omega
          go_wp2_with fail
          go_roundg q
          case measure => omega
          case rel => exact ⟨i + 1, by omega, by go_num, by have := AG.out; show _ = _; omega, hBo.trans ((H7.out.2.2.2.trans (hB.mono H7.out.2.2.2.size)).mono hBo.size)⟩
    · obtain rfl : i = ls.length := by omega
      have hB5 := hB4.trans (hBo.mono hB4.size)
      go_wp2_with (go_at_call 8; refine (HAl.out _ hB5).mono ?_; rintro e w6 ⟨rfl, hb6⟩)
      all_goals
        go_ret
        exact ⟨rfl, hB5.trans (hb6.mono hB5.size)⟩
theorem classes6_c (xa xc : List (List UInt8)) (va vb : Value) (w : World) (hw : Env w) (hva : TextsA w va xa) (hvb : TextsA w vb xc) (hsz : xa.length + sumL xa + (xc.length + sumL xc) ≤ 1048576) :
    Calls Tryz.prog 6 #[va, vb] w fun e w' => e = .returned (.bool true) ∧ Below w.heap.size w w' := by
  by_cases h : lightL xa xc = false ∨ 30 < xc.length
  · exact classes_not xa xc va vb w hw hva hvb hsz h
  · rw [not_or] at h
    have hl : lightL xa xc = true := by simpa using h.1
    cases hx : newL (baseA ++ xa) (baseC ++ xc) with
    | inl x => exact classes_nil xa xc va vb w hw hva hvb hsz hl (by omega) x hx
    | inr L => exact classes_go xa xc va vb w hw hva hvb hsz hl (by omega) L hx
end Go.Proofs.YtcjobpcbppcdnaaGreatDoor
