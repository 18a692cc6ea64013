import Derived.Test.YtkkbbhlihilnpaaGreatDoorWrb
set_option linter.all false
set_option maxHeartbeats 8000000
namespace Go.Proofs.YtkkbbhlihilnpaaGreatDoor
open Go.RowKit
theorem light_mem : ∀ (l : List Ent.AttrE) (a : Ent.AttrE), a ∈ l → 1 + a.vals.length ≤ lightN l
 | b :: l, a, h => by
  have e : lightN (b :: l) = 1 + b.vals.length + lightN l := by simp [lightN]
  rcases List.mem_cons.1 h with rfl | h
  ·omega
  ·have := light_mem l a h
   omega
theorem light_lim {l : List Ent.AttrE} (h : lightN l ≤ 600) (ht : ∀ a ∈ l, a.typ.length ≤ 1048576) : ∀ a ∈ l, a.typ.length ≤ 140737488351232 ∧ a.vals.length ≤ 1000000 := by
 intro a ha
 refine ⟨Nat.le_trans (ht a ha) (by decide), ?_⟩
 have := light_mem l a ha
 omega
set_option maxRecDepth 100000 in
theorem right_main (nm : List UInt8) (l : List Ent.AttrE) (A : Option Addr) (n c : Nat) (hn : l.length = n) (w : World) (hw : Env w) (hv : AttrsA w (.slice A n c) l) (hb : lightN l ≤ 1048576) (ht : ∀ a ∈ l, a.typ.length ≤ 1048576) :
  Calls Tryz.prog 4 #[.string ⟨nm.toArray⟩, .slice A n c] w fun e w' => e = .returned (.bool true) ∧ Below w.heap.size w w' := by
 have HAl := Lib.hid (fun (W : World) (h : Below w.heap.size w W) => alive7_c W (hw.keep h))
 have HLi := Lib.hid (light7_c l _ w hv hb)
 have HBa := Lib.hid (base7_c w hw)
 by_cases hlt : lightN l ≤ 600
 ·have hd : decide (lightN l ≤ 600) = true := decide_eq_true hlt
  rw [hd] at HLi
  have hll : l.length ≤ 600 := Nat.le_trans (light_len l) hlt
  obtain ⟨⟨code, en⟩, hR⟩ : ∃ R, Ent.makeE (schE baseL) nm l = R := ⟨_, rfl⟩
  have HM : Hid (∀ (W : World) (s : Nat) (ps : List Nat), Below w.heap.size w W → SchAt W s ps baseL → Calls Tryz.prog 19 #[.pointer (some ⟨s, 0, none⟩), .string ⟨nm.toArray⟩, .slice A n c] W fun e w' => Below W.heap.size W w' ∧ ∃ A' c', e = .returned (.tuple #[.agg #[.string ⟨en.dn.toArray⟩, .slice A' en.attrs.length c'], .int .i64 code]) ∧ AttrsA w' (.slice A' en.attrs.length c') en.attrs) := Lib.hid fun W s ps h hS => by
   have := Make_c s ps baseL base_sound nm l _ W (hw.keep h) hS (hv.below h) (by omega) (light_lim hlt ht)
   rw [hR] at this
   refine this.mono ?_
   rintro e w' ⟨hb, A, c, qs, rfl, hq, hO, hQ⟩
   have hA := hO.attrs hQ.ok
   rw [hq] at hA
   exact ⟨hb, A, c, rfl, hA⟩
  by_cases hc : code = 0
  ·subst hc
   obtain ⟨hAt, hOnce, hFew, hAgain⟩ := right_at hR
   obtain ⟨dn, attrs⟩ := en
   simp only at HM hAt hOnce hFew hAgain
   have HL := Lib.hid hAt
   have HO := Lib.hid hOnce
   have hvn : valsN attrs ≤ 1000000 := by have := valsN_le attrs (fun a ha => (hAt a ha).few); omega
   have hlim : ∀ a ∈ attrs, a.typ.length ≤ 1000000 := fun a ha => (hAt a ha).short
   have HN : Hid (∀ a ∈ attrs, ∀ v ∈ a.vals, ∀ (W : World) (s : Nat) (ps : List Nat), Below w.heap.size w W → SchAt W s ps baseL → Calls Tryz.prog 21 #[.pointer (some ⟨s, 0, none⟩), .string ⟨a.typ.toArray⟩, .string ⟨v.toArray⟩] W fun e w' => e = .returned (.tuple #[.string ⟨(normTy baseL a.typ v).2.toArray⟩, .int .i64 0]) ∧ Below W.heap.size W w') := Lib.hid fun a ha v hv W s ps h hS => by
    have := NormTy_c s ps baseL base_sound.lim base_sound.rul base_sound.counts a.typ v W (hw.keep h) hS (hAt a ha).short
    rw [((hAt a ha).ok v hv).1] at this
    exact this
   have HA : Hid (∀ a ∈ attrs, ∀ (W : World) (s : Nat) (ps : List Nat), SchAt W s ps baseL → Calls Tryz.prog 20 #[.pointer (some ⟨s, 0, none⟩), .string ⟨a.typ.toArray⟩] W fun e w' => Below W.heap.size W w' ∧ ∃ (A : Option Addr) (n c : Nat) (su fo eq od sb : ByteArray) (b1 b2 b3 : Bool), e = .returned (.tuple #[.agg #[.string ⟨(attrO baseL a.typ).oid.toArray⟩, .string ⟨a.typ.toArray⟩, .string su, .slice A n c, .string fo, .string eq, .string od, .string sb, .bool b1, .bool b2, .bool b3], .int .i64 0])) := Lib.hid fun a ha W s ps hS => by
    have := AttrU_c s ps baseL base_sound a.typ W hS (Nat.le_trans (hAt a ha).short (by decide))
    rw [(hAt a ha).known] at this
    refine this.mono ?_
    rintro e w' ⟨hb, A, n, c, rfl⟩
    refine ⟨hb, A, n, c, ⟨(attrO baseL a.typ).sup.toArray⟩, ⟨(attrO baseL a.typ).form.toArray⟩, ⟨(attrO baseL a.typ).eqr.toArray⟩, ⟨(attrO baseL a.typ).ordr.toArray⟩, ⟨(attrO baseL a.typ).subs.toArray⟩, (attrO baseL a.typ).single, (attrO baseL a.typ).fixed, (attrO baseL a.typ).oper, ?_⟩
    unfold attrV attrCells
    rw [(hAt a ha).name]
   have HH : Hid (∀ a ∈ attrs, ∀ v ∈ a.vals, ∀ (W : World) (s : Nat) (ps : List Nat) (va : Value), Below w.heap.size w W → SchAt W s ps baseL → AttrsA W va attrs → Calls Tryz.prog 22 #[.pointer (some ⟨s, 0, none⟩), .agg #[.string ⟨dn.toArray⟩, va], .string ⟨(attrO baseL a.typ).oid.toArray⟩, .string ⟨v.toArray⟩] W fun e w' => e = .returned (.bool true) ∧ Below W.heap.size W w') := Lib.hid fun a ha v hv W s ps va h hS hva => by
    have := Has_c s ps baseL base_sound ⟨dn, attrs⟩ va (attrO baseL a.typ).oid v W (hw.keep h) hS hva (by simp only; omega) hvn hlim (Nat.le_trans (hAt a ha).oid (by decide))
    rw [((hAt a ha).ok v hv).2] at this
    exact this
   have HM2 : Hid (∀ (W : World) (s : Nat) (ps : List Nat) (va : Value), Below w.heap.size w W → SchAt W s ps baseL → AttrsA W va attrs → Calls Tryz.prog 19 #[.pointer (some ⟨s, 0, none⟩), .string ⟨dn.toArray⟩, va] W fun e w' => Below W.heap.size W w' ∧ ∃ A' c', e = .returned (.tuple #[.agg #[.string ⟨dn.toArray⟩, .slice A' attrs.length c'], .int .i64 0]) ∧ AttrsA w' (.slice A' attrs.length c') attrs) := Lib.hid fun W s ps va h hS hva => by
    have := Make_c s ps baseL base_sound dn attrs va W (hw.keep h) hS hva (by omega) (fun a ha => ⟨Nat.le_trans (hAt a ha).short (by decide), Nat.le_trans (hAt a ha).few (by decide)⟩)
    rw [hAgain] at this
    refine this.mono ?_
    rintro e w' ⟨hb, A, c, qs, rfl, hq, hO, hQ⟩
    have hA := hO.attrs hQ.ok
    rw [hq] at hA
    exact ⟨hb, A, c, rfl, hA⟩
   have HS : Hid (∀ (W : World) (v1 v2 : Value), AttrsA W v1 attrs → AttrsA W v2 attrs → Calls Tryz.prog 23 #[.agg #[.string ⟨dn.toArray⟩, v1], .agg #[.string ⟨dn.toArray⟩, v2]] W fun e w' => e = .returned (.bool true) ∧ Below W.heap.size W w') := Lib.hid fun W v1 v2 h1 h2 => Same7_c ⟨dn, attrs⟩ v1 v2 W h1 h2 (by simp only; omega) (fun a ha => Nat.le_trans (hAt a ha).few (by decide))
   clear hR hAgain hOnce hAt hlim hvn hw hv hb ht hlt hd hll
   have hadd := add_at2
   go_enter Tryz.func4, Tryz.ntmps4
   go_wp2_with (first
    | (go_at_call 16; refine HLi.out.mono ?_; rintro e w1 ⟨rfl, rfl⟩)
    | (go_at_call 18; refine HBa.out.mono ?_; rintro e w2 ⟨s, ps, rfl, hb2, hS2⟩)
    | (go_at_call 19; (with_reducible refine (HM.out _ s ps hb2 hS2).mono ?_); rintro e w3 ⟨hb3, A3, c3, rfl, hA3⟩; have hB3 := hb2.trans (hb3.mono hb2.size); have hbx := bel_one w3 (.cells #[.string ⟨dn.toArray⟩, .slice A3 attrs.length c3] 37); have hkE := Bk.new w3 37 #[.string ⟨dn.toArray⟩, .slice A3 attrs.length c3]; have hB4 := hB3.trans (hbx.mono hB3.size); have hS4 := (hS2.below hb3).below hbx; have hA4 := hA3.below hbx))
   generalize w3.alloc (.cells #[.string ⟨dn.toArray⟩, .slice A3 attrs.length c3] 37) = W4 at *
   generalize w3.heap.size = p at *
   obtain ⟨A', c', hsl, hcc, hcell⟩ := hA4.at
   cases hsl
   have HV := Lib.hid hcell
   have HA4 := Lib.hid hA4
   have HS4 := Lib.hid hS4
   have HK : Hid (∀ W, Below W4.heap.size W4 W → W.cell? ⟨p, 0, none⟩ = some (.string ⟨dn.toArray⟩) ∧ W.cell? ⟨p, 1, none⟩ = some (.slice A3 attrs.length c3)) := Lib.hid fun W h => ⟨(hkE.below h).cell 0, (hkE.below h).cell 1⟩
   clear hcell hA4 hS4 hkE hb2 hb3 hB3 hbx hA3 HM HBa HLi hS2
   have hB0 : Below W4.heap.size W4 W4 := Below.refl _ _
   obtain ⟨q0, q1⟩ := HK.out _ hB0
   go_loopg [8] attrs.length (fun gk i wr => ∃ k : Nat, k ≤ attrs.length ∧ i = .int .i64 k ∧ Aside (k + gk = attrs.length) ∧ Aside (Below W4.heap.size W4 wr))
   case atStart => exact ⟨0, by omega, rfl, by show _ = _; omega, hB0⟩
   case round =>
    clear hB0 q0 q1
    obtain ⟨k, hk, rfl, AG, AB⟩ := hrel
    obtain ⟨w5, hw5⟩ : ∃ x, x = wr := ⟨_, rfl⟩
    subst hw5
    obtain ⟨e0, e1⟩ := HK.out _ AB.out
    by_cases hlt : k < attrs.length
    ·obtain ⟨gq, rfl⟩ : ∃ q, gk = q + 1 := ⟨gk - 1, by have := AG.out; omega⟩
     obtain ⟨b, o, va, rfl, c0, c1, hta⟩ := HV.out k hlt
     have HV2 : Hid (∀ j (hj : j < attrs.length), ∃ va, W4.cell? ⟨b, o + j * 2, none⟩ = some (.string ⟨attrs[j].typ.toArray⟩) ∧ W4.cell? ⟨b, o + j * 2 + 1, none⟩ = some va ∧ TextsA W4 va attrs[j].vals) := Lib.hid fun j hj => by
      obtain ⟨b', o', va, hA', h0, h1, h2⟩ := HV.out j hj
      cases hA'
      exact ⟨va, h0, h1, h2⟩
     obtain ⟨Av, cv, rfl, hcv, hvc⟩ := hta.at
     have HM := Lib.hid (List.getElem_mem hlt)
     have HR := Lib.hid (HL.out _ HM.out)
     have HNE : Hid (∀ j (hj : j < attrs.length), j < k → (attrs[j].typ == attrs[k].typ) = false) := Lib.hid fun j hj hjk => beq_eq_false_iff_ne.2 (nodup_ne HO.out hj hlt (by omega))
     obtain ⟨av, hav⟩ : ∃ a, Av = some a := by
      obtain ⟨a, ha, _⟩ := hvc 0 (by have := HR.out.some; omega)
      exact ⟨a, ha⟩
     subst hav
     have HVV : Hid (∀ j (hj : j < attrs[k].vals.length), W4.cell? (av.add j) = some (.string ⟨attrs[k].vals[j].toArray⟩)) := Lib.hid fun j hj => by
      obtain ⟨a', ha', h0⟩ := hvc j hj
      cases ha'
      exact h0
     have HA1 := Lib.hid (HA.out _ HM.out w5 s ps (HS4.out.below AB.out))
     have hsome : attrs[k].vals.length ≠ 0 := HR.out.some
     have hfew : attrs[k].vals.length ≤ 200 := HR.out.few
     have d0 := (AB.out.cell (cell_lt c0)).trans c0
     have d1 := (AB.out.cell (cell_lt c1)).trans c1
     clear hta hvc HV
     generalize attrs[k] = x at *
     obtain ⟨typ, vals⟩ := x
     simp only at d0 d1 HA1 HVV hsome hfew HNE c0 c1
     go_wp2_with (go_at_call 20; (with_reducible refine HA1.out.mono ?_); rintro e w6 ⟨hb6, A6, n6, c6, su, fo, eq, od, sb, b1, b2, b3, rfl⟩)
     have hB6 := AB.out.trans (hb6.mono AB.out.size)
     have hbD := bel_one w6 (.cells #[.string ⟨(attrO baseL typ).oid.toArray⟩, .string ⟨typ.toArray⟩, .string su, .slice A6 n6 c6, .string fo, .string eq, .string od, .string sb, .bool b1, .bool b2, .bool b3] 41)
     have hkD := Bk.new w6 41 #[.string ⟨(attrO baseL typ).oid.toArray⟩, .string ⟨typ.toArray⟩, .string su, .slice A6 n6 c6, .string fo, .string eq, .string od, .string sb, .bool b1, .bool b2, .bool b3]
     have hB7 := hB6.trans (hbD.mono hB6.size)
     generalize w6.alloc (.cells #[.string ⟨(attrO baseL typ).oid.toArray⟩, .string ⟨typ.toArray⟩, .string su, .slice A6 n6 c6, .string fo, .string eq, .string od, .string sb, .bool b1, .bool b2, .bool b3] 41) = W7 at *
     generalize w6.heap.size = dp at *
     have HKD : Hid (∀ W, Below W7.heap.size W7 W → W.cell? ⟨dp, 0, none⟩ = some (.string ⟨(attrO baseL typ).oid.toArray⟩) ∧ W.cell? ⟨dp, 1, none⟩ = some (.string ⟨typ.toArray⟩) ∧ W.cell? ⟨p, 0, none⟩ = some (.string ⟨dn.toArray⟩) ∧ W.cell? ⟨p, 1, none⟩ = some (.slice (some ⟨b, o, none⟩) attrs.length c3) ∧ W.cell? ⟨b, o + k * 2, none⟩ = some (.string ⟨typ.toArray⟩) ∧ W.cell? ⟨b, o + k * 2 + 1, none⟩ = some (.slice (some av) vals.length cv)) := Lib.hid fun W h => ⟨(hkD.below h).cell 0, (hkD.below h).cell 1, (HK.out _ (hB7.trans (h.mono hB7.size))).1, (HK.out _ (hB7.trans (h.mono hB7.size))).2, ((hB7.trans (h.mono hB7.size)).cell (cell_lt c0)).trans c0, ((hB7.trans (h.mono hB7.size)).cell (cell_lt c1)).trans c1⟩
     have HB7 := Lib.hid hB7
     have hB0 : Below W7.heap.size W7 W7 := Below.refl _ _
     obtain ⟨k0, k1, k2, k3, k4, k5⟩ := HKD.out _ hB0
     have hz : ((vals.length : Int) == 0) = false := beq_eq_false_iff_ne.2 (by omega)
     clear d0 d1 e0 e1 hb6 hB6 hbD hkD hB7 c0 c1 HA1
     go_quiet (fail)
     go_wp2_with fail
     clear k0 k1 k2 k3 k4 k5
     go_loopg [11] k (fun gk i wr => ∃ j : Nat, j ≤ k ∧ i = .int .i64 j ∧ Aside (j + gk = k) ∧ Aside (Below W7.heap.size W7 wr))
     case atStart => exact ⟨0, by omega, rfl, by show _ = _; omega, below_drewN hB0 nq⟩
     case round =>
      clear hB0
      obtain ⟨j, hj, rfl, AG2, AB2⟩ := hrel
      obtain ⟨w8, hw8⟩ : ∃ x, x = wr := ⟨_, rfl⟩
      subst hw8
      obtain ⟨k0, k1, k2, k3, k4, k5⟩ := HKD.out _ AB2.out
      by_cases hjk : j < k
      ·obtain ⟨gq2, rfl⟩ : ∃ q, gk = q + 1 := ⟨gk - 1, by have := AG2.out; omega⟩
       obtain ⟨vj, e0, e1, _⟩ := HV2.out j (by omega)
       have hB48 := HB7.out.trans (AB2.out.mono HB7.out.size)
       have x0 := (hB48.cell (cell_lt e0)).trans e0
       have hne := HNE.out j (by omega) hjk
       have hja : (j : Int) < (attrs.length : Int) := by omega
       clear e0 e1 hB48
       generalize attrs[j] = xj at x0 hne
       go_wp2_with fail
       go_quiet (fail)
       go_wp2_with fail
       go_roundg gq2
       case measure => omega
       case rel => exact ⟨j + 1, by omega, by go_num, by have := AG2.out; show _ = _; omega, below_drewN AB2.out nq⟩
      ·obtain rfl : k = j := by omega
       go_wp2_with fail
       go_loopg [12] vals.length (fun gk i wr => ∃ m : Nat, m ≤ vals.length ∧ i = .int .i64 m ∧ Aside (m + gk = vals.length) ∧ Aside (Below W7.heap.size W7 wr))
       case atStart => exact ⟨0, by omega, rfl, by show _ = _; omega, AB2.out⟩
       case round =>
        clear k0 k1 k2 k3 k4 k5 AB2
        obtain ⟨m, hm, rfl, AG3, AB3⟩ := hrel
        obtain ⟨w9, hw9⟩ : ∃ x, x = wr := ⟨_, rfl⟩
        subst hw9
        obtain ⟨k0, k1, k2, k3, k4, k5⟩ := HKD.out _ AB3.out
        by_cases hml : m < vals.length
        ·obtain ⟨gq3, rfl⟩ : ∃ q, gk = q + 1 := ⟨gk - 1, by have := AG3.out; omega⟩
         have hmem := List.getElem_mem hml
         have HN1 := Lib.hid (HN.out _ HM.out _ hmem)
         have HH1 := Lib.hid (HH.out _ HM.out _ hmem)
         have HNN : Hid (∀ j (hj : j < vals.length), j < m → ((normTy baseL typ vals[m]).2 == (normTy baseL typ vals[j]).2) = false) := Lib.hid fun j hj hjm => beq_eq_false_iff_ne.2 (nodup_ne HR.out.once hml hj (by omega))
         have HS1 : Hid (∀ W, Below W7.heap.size W7 W → W.cell? ⟨dp, 0, none⟩ = some (.string ⟨(attrO baseL typ).oid.toArray⟩) ∧ W.cell? ⟨dp, 1, none⟩ = some (.string ⟨typ.toArray⟩) ∧ W.cell? ⟨p, 0, none⟩ = some (.string ⟨dn.toArray⟩) ∧ W.cell? ⟨p, 1, none⟩ = some (.slice (some ⟨b, o, none⟩) attrs.length c3) ∧ W.cell? ⟨b, o + k * 2 + 1, none⟩ = some (.slice (some av) vals.length cv) ∧ W.cell? (av.add m) = some (.string ⟨vals[m].toArray⟩)) := Lib.hid fun W h => by
          obtain ⟨k0, k1, k2, k3, k4, k5⟩ := HKD.out _ h
          exact ⟨k0, k1, k2, k3, k5, ((HB7.out.trans (h.mono HB7.out.size)).cell (cell_lt (HVV.out m hml))).trans (HVV.out m hml)⟩
         clear hmem
         generalize vals[m] = v at *
         generalize (normTy baseL typ v).2 = nv at *
         go_upto_region 21 with fail
         have hd9 := AB3.out.drew
         have hN9 := HN1.out w9.drew s ps (hB4.trans ((HB7.out.trans (hd9.mono HB7.out.size)).mono hB4.size)) (HS4.out.below (HB7.out.trans (hd9.mono HB7.out.size)))
         go_region_held3 (fun W => W.cell? ⟨dp, 0, none⟩ = some (.string ⟨(attrO baseL typ).oid.toArray⟩) ∧ W.cell? ⟨dp, 1, none⟩ = some (.string ⟨typ.toArray⟩) ∧ W.cell? ⟨p, 0, none⟩ = some (.string ⟨dn.toArray⟩) ∧ W.cell? ⟨p, 1, none⟩ = some (.slice (some ⟨b, o, none⟩) attrs.length c3) ∧ W.cell? ⟨b, o + k * 2 + 1, none⟩ = some (.slice (some av) vals.length cv) ∧ W.cell? (av.add m) = some (.string ⟨v.toArray⟩)) (first | exact HS1.out _ hd9 | exact HS1.out _ hb10 | fail) (first
          | (go_at_call 21; (with_reducible refine hN9.mono ?_); rintro e w10 ⟨rfl, hbN⟩; have hb10 := hd9.trans (hbN.mono hd9.size))
          | fail)
         clear hN9 hd9 hbN
         go_wp2_with fail
         go_loopg [15] m (fun gk i wr => ∃ j : Nat, j ≤ m ∧ i = .int .i64 j ∧ Aside (j + gk = m) ∧ Aside (Below W7.heap.size W7 wr))
         case atStart => exact ⟨0, by omega, rfl, by show _ = _; omega, hb10⟩
         case round =>
          clear hb10 k0 k1 k2 k3 k4 k5 AB3
          obtain ⟨j, hj, rfl, AG4, AB4⟩ := hrel
          obtain ⟨w11, hw11⟩ : ∃ x, x = wr := ⟨_, rfl⟩
          subst hw11
          have hd11 := AB4.out.drew
          by_cases hjm : j < m
          ·obtain ⟨gq4, rfl⟩ : ∃ q, gk = q + 1 := ⟨gk - 1, by have := AG4.out; omega⟩
           have hjl : j < vals.length := by omega
           have HS2 : Hid (∀ W, Below W7.heap.size W7 W → W.cell? ⟨dp, 1, none⟩ = some (.string ⟨typ.toArray⟩) ∧ W.cell? ⟨p, 1, none⟩ = some (.slice (some ⟨b, o, none⟩) attrs.length c3) ∧ W.cell? ⟨b, o + k * 2 + 1, none⟩ = some (.slice (some av) vals.length cv) ∧ W.cell? (av.add j) = some (.string ⟨vals[j].toArray⟩)) := Lib.hid fun W h => by
            obtain ⟨k0, k1, k2, k3, k4, k5⟩ := HKD.out _ h
            exact ⟨k1, k3, k5, ((HB7.out.trans (h.mono HB7.out.size)).cell (cell_lt (HVV.out j hjl))).trans (HVV.out j hjl)⟩
           have hN11 := HN.out _ HM.out _ (List.getElem_mem hjl) w11.drew s ps (hB4.trans ((HB7.out.trans (hd11.mono HB7.out.size)).mono hB4.size)) (HS4.out.below (HB7.out.trans (hd11.mono HB7.out.size)))
           have hne := HNN.out j hjl hjm
           try simp only at hN11
           generalize vals[j] = vj at HS2 hN11 hne
           generalize (normTy baseL typ vj).2 = nj at hN11 hne
           go_upto_region 25 with fail
           go_region_held3 (fun W => W.cell? ⟨dp, 1, none⟩ = some (.string ⟨typ.toArray⟩) ∧ W.cell? ⟨p, 1, none⟩ = some (.slice (some ⟨b, o, none⟩) attrs.length c3) ∧ W.cell? ⟨b, o + k * 2 + 1, none⟩ = some (.slice (some av) vals.length cv) ∧ W.cell? (av.add j) = some (.string ⟨vj.toArray⟩)) (first | exact HS2.out _ hd11 | exact HS2.out _ hb12 | fail) (first
            | (go_at_call 21; (with_reducible refine hN11.mono ?_); rintro e w12 ⟨rfl, hbN⟩; have hb12 := hd11.trans (hbN.mono hd11.size))
            | fail)
           clear hN11 hd11 hbN
           go_wp2_with fail
           go_roundg gq4
           case measure => omega
           case rel => exact ⟨j + 1, by omega, by go_num, by have := AG4.out; show _ = _; omega, hb12⟩
          ·obtain rfl : m = j := by omega
           have hH11 := HH1.out w11.drew s ps (.slice (some ⟨b, o, none⟩) attrs.length c3) (hB4.trans ((HB7.out.trans (hd11.mono HB7.out.size)).mono hB4.size)) (HS4.out.below (HB7.out.trans (hd11.mono HB7.out.size))) (HA4.out.below (HB7.out.trans (hd11.mono HB7.out.size)))
           go_upto_region 28 with fail
           go_region_held3 (fun W => W.cell? ⟨dp, 0, none⟩ = some (.string ⟨(attrO baseL typ).oid.toArray⟩) ∧ W.cell? ⟨dp, 1, none⟩ = some (.string ⟨typ.toArray⟩) ∧ W.cell? ⟨p, 0, none⟩ = some (.string ⟨dn.toArray⟩) ∧ W.cell? ⟨p, 1, none⟩ = some (.slice (some ⟨b, o, none⟩) attrs.length c3) ∧ W.cell? ⟨b, o + k * 2 + 1, none⟩ = some (.slice (some av) vals.length cv) ∧ W.cell? (av.add m) = some (.string ⟨v.toArray⟩)) (first | exact HS1.out _ hd11 | exact HS1.out _ hb12 | fail) (first
            | (go_at_call 22; (with_reducible refine hH11.mono ?_); rintro e w12 ⟨rfl, hbN⟩; have hb12 := hd11.trans (hbN.mono hd11.size))
            | fail)
           clear hH11 hd11 hbN
           go_wp2_with fail
           go_roundg gq3
           case measure => omega
           case rel => exact ⟨m + 1, by omega, by go_num, by have := AG3.out; show _ = _; omega, hb12⟩
        ·obtain rfl : m = vals.length := by omega
         have hB49 := HB7.out.trans (AB3.out.mono HB7.out.size)
         go_wp2_with fail
         go_roundg gq
         case measure => omega
         case rel => exact ⟨k + 1, by omega, by go_num, by have := AG.out; show _ = _; omega, hB49⟩
    ·obtain rfl : k = attrs.length := by omega
     have hS5 := HS4.out.below AB.out
     have hB5 := hB4.trans (AB.out.mono hB4.size)
     have hA5 := HA4.out.below AB.out
     go_wp2_with (first
      | (go_at_call 19; (with_reducible refine (HM2.out _ s ps _ hB5 hS5 hA5).mono ?_); rintro e w6 ⟨hb6, A6, c6, rfl, hA6⟩; have hB6 := hB5.trans (hb6.mono hB5.size); have hbx := bel_one w6 (.cells #[.string ⟨dn.toArray⟩, .slice A6 attrs.length c6] 37); have hkx := Bk.new w6 37 #[.string ⟨dn.toArray⟩, .slice A6 attrs.length c6]; have hB7 := hB6.trans (hbx.mono hB6.size); have hb57 := hb6.trans (hbx.mono hb6.size); have hA7 := hA6.below hbx; have hA7b := hA5.below hb57; have hB47 := AB.out.trans (hb57.mono AB.out.size))
      | (go_at_call 17; (with_reducible refine (HAl.out _ hB7).mono ?_); rintro e w8 ⟨rfl, hb8⟩; have hB8 := hB7.trans (hb8.mono hB7.size); have hA8 := hA7.below hb8; have hA8b := hA7b.below hb8; have hkx8 := hkx.below hb8; obtain ⟨q0, q1⟩ := HK.out _ (hB47.trans (hb8.mono hB47.size)); have r0 := hkx8.cell 0; have r1 := hkx8.cell 1; simp only [List.getElem?_toArray, List.getElem?_cons_zero, List.getElem?_cons_succ] at r0 r1)
      | (go_at_call 23; (with_reducible refine (HS.out _ _ _ hA8 hA8b).mono ?_); rintro e w9 ⟨rfl, hb9⟩))
     go_ret
     exact ⟨rfl, hB8.trans (hb9.mono hB8.size)⟩
  ·have hz := Ent.make_code (S := schE baseL) (nm := nm) (l := l) (by rw [hR]; exact hc)
   rw [hR] at hz
   simp only at hz
   subst hz
   have hcb : (code != 0) = true := bne_iff_ne.2 hc
   clear hR hw hv hb ht hlt hd hll
   unfold Ent.zeroE at HM
   simp only at HM
   go_enter Tryz.func4, Tryz.ntmps4
   go_wp2_with (first
    | (go_at_call 16; refine HLi.out.mono ?_; rintro e w1 ⟨rfl, rfl⟩)
    | (go_at_call 18; refine HBa.out.mono ?_; rintro e w2 ⟨s, ps, rfl, hb2, hS2⟩)
    | (go_at_call 19; (with_reducible refine (HM.out _ s ps hb2 hS2).mono ?_); rintro e w3 ⟨hb3, A3, c3, rfl, hA3⟩; have hB3 := hb2.trans (hb3.mono hb2.size); have hbx := bel_one w3 (.cells #[.string ⟨#[]⟩, .slice A3 0 c3] 37); have hkE := Bk.new w3 37 #[.string ⟨#[]⟩, .slice A3 0 c3]; have hB4 := hB3.trans (hbx.mono hB3.size))
    | (go_at_call 17; (with_reducible refine (HAl.out _ hB4).mono ?_); rintro e w5 ⟨rfl, hb5⟩; have hB5 := hB4.trans (hb5.mono hB4.size); have hkE5 := hkE.below hb5; have r0 := hkE5.cell 0; have r1 := hkE5.cell 1; simp only [List.getElem?_toArray, List.getElem?_cons_zero, List.getElem?_cons_succ] at r0 r1))
   go_ret
   exact ⟨rfl, hB5⟩
 ·have hd : decide (lightN l ≤ 600) = false := decide_eq_false hlt
  rw [hd] at HLi
  clear hw hv hb ht hlt hd HBa
  go_enter Tryz.func4, Tryz.ntmps4
  go_wp2_with (first
   | (go_at_call 16; refine HLi.out.mono ?_; rintro e w1 ⟨rfl, rfl⟩)
   | (go_at_call 17; refine (HAl.out _ (Below.refl _ _)).mono ?_; rintro e w2 ⟨rfl, hb2⟩))
  go_ret
  exact ⟨rfl, hb2⟩
open Go.RowKit
theorem sum_mem7 {α : Type} (f : α → Nat) : ∀ (l : List α) (a : α), a ∈ l → f a ≤ (l.map f).sum
 | b :: l, a, h => by
  rw [List.map_cons, List.sum_cons]
  rcases List.mem_cons.1 h with rfl | h
  ·omega
  ·have := sum_mem7 f l a h
   omega
theorem bulk_light (l : List Ent.AttrE) : lightN l ≤ (l.map fun a => 1 + attrW a).sum ∧ ∀ a ∈ l, a.typ.length ≤ (l.map fun a => 1 + attrW a).sum ∧ ∀ v ∈ a.vals, v.length ≤ (l.map fun a => 1 + attrW a).sum := by
 refine ⟨?_, fun a ha => ?_⟩
 ·induction l with
  | nil => simp [lightN]
  | cons b l ih =>
   have e : lightN (b :: l) = 1 + b.vals.length + lightN l := by simp [lightN]
   rw [List.map_cons, List.sum_cons]
   unfold attrW at ih ⊢
   omega
 ·have h := sum_mem7 (fun a => 1 + attrW a) l a ha
  have e : attrW a = a.typ.length + (a.vals.length + (a.vals.map List.length).sum) := rfl
  refine ⟨by omega, fun v hv => ?_⟩
  have h2 := sum_mem7 List.length a.vals v hv
  omega
theorem right_c (nm : List UInt8) (l : List Ent.AttrE) (v : Value) (W : World) (hw : Env W) (hl : AttrsA W v l) (hb : (l.map fun a => 1 + attrW a).sum + nm.length ≤ 1048576) :
  Calls Tryz.prog 4 #[.string ⟨nm.toArray⟩, v] W fun e w' => e = .returned (.bool true) ∧ Below W.heap.size W w' := by
 obtain ⟨h1, h2⟩ := bulk_light l
 obtain ⟨A, c, rfl, hc⟩ := hl.isSlice
 exact right_main nm l A l.length c rfl W hw hl (by omega) (fun a ha => by have := (h2 a ha).1; omega)
end Go.Proofs.YtkkbbhlihilnpaaGreatDoor
