import Derived.Test.YtbjmpmgiigombaaGreatDoorWvd5
import Derived.Test.YtbjmpmgiigombaaGreatDoorWvc0
set_option linter.all false
set_option maxHeartbeats 8000000
namespace Go.Proofs.YtbjmpmgiigombaaGreatDoor
open Go.RowKit Go.Sort
theorem parse_fits {s : List UInt8} {d : List (List (List UInt8 × List UInt8))} (h : parseL s = (0, d)) : tooLongL d = false := by
 unfold parseL at h
 split at h
 ·simp at h
 ·next h1 =>
  split at h
  ·simp at h
  ·next d' hd =>
   split at h
   ·simp at h
   ·next h2 =>
    cases h
    simpa using h2
theorem store_ava (w : World) (g j : Nat) (l : List (List UInt8 × List UInt8)) (h : RowA w g l) (hj : j < l.length) (u : Value) :
  w.cell? ⟨g, j * 2, none⟩ = some (.string ⟨l[j].1.toArray⟩) ∧ w.frozen? ⟨g, j * 2, none⟩ = false ∧ (w.setCell ⟨g, j * 2, none⟩ u).cell? ⟨g, j * 2 + 1, none⟩ = some (.string ⟨l[j].2.toArray⟩) ∧ (w.setCell ⟨g, j * 2, none⟩ u).frozen? ⟨g, j * 2 + 1, none⟩ = false := by
 have a := h.at2 (List.getElem?_eq_getElem hj)
 refine ⟨a.1, a.2.2.1, (set_other _ _ _ _ _ (by omega)).trans a.2.1, ?_⟩
 rw [World.frozen?_setCell]
 exact a.2.2.2
theorem name_bound {L : List DefS} (hlim : ∀ d ∈ L, DefLim d) (t : List UInt8) : (nameTy L t).length ≤ 1000000 := by
 unfold nameTy
 cases hf : findD L false t with
 | none => simp
 | some i =>
  simp only
  unfold nameOf
  cases hd : L[i]? with
  | none => simp
  | some d =>
   simp only
   have h := hlim d (List.mem_of_getElem? hd)
   unfold DefS.name
   cases hn : d.names with
   | nil => exact h.oid
   | cons x t => exact h.names.2 x (by rw [hn]; simp)
set_option maxRecDepth 100000 in
theorem Key_bad (s : Nat) (L : List DefS) (x : List UInt8) (w : World) (hw : Env w) (her : (parseL x).1 ≠ 0) :
  Calls Tryz.prog 183 #[ptrV s, .string ⟨x.toArray⟩] w fun e w' => e = .returned (intStr (keyS L x)) ∧ Below w.heap.size w w' := by
 rw [key_bad her]
 have hP := Parse_c x w hw
 generalize parseL x = ps at *
 obtain ⟨er, d⟩ := ps
 have hbn : ((er : Int) != 0) = true := bne_iff_ne.2 her
 have HP := Lib.hid hP
 clear hP her
 unfold ptrV
 go_enter Tryz.func183, Tryz.ntmps183
 go_wp2_with (go_at_call 233; refine HP.out.mono ?_; rintro e w1 ⟨hb1, v, rfl, hd⟩; obtain ⟨A0, c0, rfl, hc0⟩ := hd.isSlice)
 go_ret2
 exact ⟨rfl, hb1⟩
set_option maxRecDepth 100000 in
theorem Key_ok (s : Nat) (ps : List Nat) (L : List DefS) (hlim : ∀ d ∈ L, DefLim d) (hrl : ∀ d ∈ L, RuleLim d) (hk : ∀ t i, findD L false t = some i → ∃ a, countsD L i = some a) (x : List UInt8) (w : World) (hw : Env w) (hS : SchAt w s ps L) (d : List (List (List UInt8 × List UInt8))) (hp : parseL x = (0, d)) :
  Calls Tryz.prog 183 #[ptrV s, .string ⟨x.toArray⟩] w fun e w' => e = .returned (intStr (keyS L x)) ∧ Below w.heap.size w w' := by
 have htl := parse_fits hp
 have hP := Parse_c x w hw
 have hne := parseL_ne (s := x)
 have hty := parse_type (s := x)
 rw [hp] at hP hne hty
 simp only at hne hty
 have hbn : ((0 : Int) != 0) = false := by decide
 have HP := Lib.hid hP
 have HNE := Lib.hid hne
 have hd20 : d.length ≤ 20 := by unfold tooLongL at htl; simp at htl; omega
 have HSM : Hid (∀ p ∈ d, p.length ≤ 4 ∧ ∀ x ∈ p, x.1.length ≤ 64 ∧ x.2.length ≤ 1024) := by
  refine Lib.hid fun p hp => ?_
  unfold tooLongL at htl
  rw [Bool.or_eq_false_iff] at htl
  have h1 := List.any_eq_false.1 htl.2 p hp
  unfold rdnLongB at h1
  simp only [Bool.or_eq_true, decide_eq_true_eq, not_or] at h1
  refine ⟨by omega, fun x hx => ?_⟩
  have h2 : p.any avaLongB = false := by simpa using h1.2
  have h3 := List.any_eq_false.1 h2 x hx
  unfold avaLongB at h3
  simp at h3
  refine ⟨?_, h3⟩
  have h4 := hty p hp x hx
  unfold isTypeL at h4
  split at h4
  ·simp at h4
  ·next e => rw [e]; simp only [Bool.and_eq_true, decide_eq_true_eq] at h4; exact h4.1
 have HAN : Hid (∀ (t : List UInt8) (W : World), Below w.heap.size w W → t.length ≤ 64 → findD L false t = none → Calls Tryz.prog 186 #[.pointer (some ⟨s, 0, none⟩), .string ⟨t.toArray⟩] W fun e w' => e = .returned (.tuple #[attrV noAttr (.slice none 0 0), .int .i64 52]) ∧ Below W.heap.size W w') := Lib.hid fun t W h hl hf => (Attr_none s ps L t W (hS.below h) (by omega) hf).mono (by
  rintro e w' ⟨h1, h2⟩
  exact ⟨h2, h1⟩)
 have HAS : Hid (∀ (t : List UInt8) (i : Nat) (a : AttrS) (W : World), Below w.heap.size w W → t.length ≤ 64 → findD L false t = some i → countsD L i = some a → Calls Tryz.prog 186 #[.pointer (some ⟨s, 0, none⟩), .string ⟨t.toArray⟩] W fun e w' => ∃ A n c, e = .returned (.tuple #[attrV a (.slice A n c), .int .i64 0]) ∧ Below W.heap.size W w') := Lib.hid fun t i a W h hl hf ha => (Attr_some s ps L hlim t i a W (hS.below h) (by omega) hf ha).mono (by
  rintro e w' ⟨h1, nv, rfl, h2⟩
  obtain ⟨A, c, rfl, _⟩ := h2.isSlice
  exact ⟨A, _, c, rfl, h1⟩)
 have HNT : Hid (∀ (t v : List UInt8) (W : World), Below w.heap.size w W → t.length ≤ 64 → Calls Tryz.prog 234 #[.pointer (some ⟨s, 0, none⟩), .string ⟨t.toArray⟩, .string ⟨v.toArray⟩] W fun e w' => e = .returned (.tuple #[.string ⟨(normTy L t v).2.toArray⟩, .int .i64 (normTy L t v).1]) ∧ Below W.heap.size W w') := Lib.hid fun t v W h hl => NormTy_c s ps L hlim hrl hk t v W (hw.keep h) (hS.below h) (by omega)
 have HNM := Lib.hid (name_bound hlim)
 have HK := Lib.hid hk
 have HKF : Hid (∀ (k : Nat) (hk : k < d.length) (p : List (List UInt8 × List UInt8)) (j : Nat) (hj : j < p.length), d[k] = p → (∀ y ∈ d.take k, ∀ z ∈ y, (avaK L z).1 = 0) → (∀ y ∈ p.take j, (avaK L y).1 = 0) → (avaK L p[j]).1 ≠ 0 → keyS L x = ((avaK L p[j]).1, [])) := Lib.hid fun k hk p j hj he h0 h1 h2 => by
  subst he
  have h3 := partK_fail hj h1 h2
  have h4 := key_fail (L := L) hp hk (fun y hy => by rw [partK_ok (h0 y hy)]) (by rw [h3]; exact h2)
  rw [h4, h3]
 have HKO : Hid ((∀ y ∈ d, ∀ z ∈ y, (avaK L z).1 = 0) → keyS L x = printL (d.map (partF L))) := Lib.hid fun h => key_ok hp h
 clear hP hne hty htl hS hlim hrl hk hp
 unfold ptrV
 unfold attrV attrCells noAttr at HAN
 go_enter Tryz.func183, Tryz.ntmps183
 go_wp2_with fail
 refine HP.out.mono ?_
 rintro e w1 ⟨hb1, v, rfl, hd⟩
 change DnAt w.heap.size w1 v d at hd
 obtain ⟨A0, c0, rfl, hc0⟩ := hd.isSlice
 by_cases hdn : d = []
 ·subst hdn
  have hPr := Print_c [] (.slice A0 0 c0) w1 (hw.keep hb1) hd.reads (by simp) (by simp)
  rw [show printL [] = (0, []) by decide] at hPr
  simp only [intStr] at hPr
  have HPr := Lib.hid hPr
  have hfin : keyS L x = (0, []) := by rw [HKO.out (by simp), List.map_nil]; decide
  have HF := Lib.hid hfin
  clear hPr hfin
  simp only [List.length_nil]
  go_wp2_with fail
  go_loopg [25] 0 (fun gk i wr => i = .int .i64 0 ∧ wr = w1)
  case atStart => exact ⟨rfl, rfl⟩
  case round =>
   obtain ⟨rfl, rfl⟩ := hrel
   go_wp2_with (go_at_call 236; refine HPr.out.mono ?_; rintro e w2 ⟨rfl, hb2⟩)
   go_ret2
   rw [HF.out]
   exact ⟨rfl, hb1.trans (hb2.mono hb1.size)⟩
 ·have hlpos : 0 < d.length := List.length_pos_iff.2 hdn
  obtain ⟨gd, rfl⟩ : ∃ gd, A0 = some ⟨gd, 0, none⟩ := by
   obtain ⟨vs, ⟨h1, h2⟩, _⟩ := hd
   rcases h2 with ⟨hv, hn⟩ | ⟨g, cap, cur, hv, _⟩
   ·have := (Value.slice.inj hv).2.1; omega
   ·have := (Value.slice.inj hv).1; exact ⟨g, this⟩
  have hS0 : NState w.heap.size w1 gd d := hd.nm HNE.out
  clear hd
  go_wp2_with fail
  go_loopg [25] d.length (fun gk i wr => ∃ k : Nat, k ≤ d.length ∧ i = .int .i64 k ∧ Aside (k + gk = d.length) ∧ Below w.heap.size w wr ∧ NState w.heap.size wr gd (uptoF (partF L) d k) ∧ Aside (∀ y ∈ d.take k, ∀ z ∈ y, (avaK L z).1 = 0))
  case atStart => exact ⟨0, by omega, rfl, by show _ = _; omega, hb1, by rw [uptoF_zero]; exact hS0, fun y hy => by simp at hy⟩
  case round =>
   obtain ⟨k, hk, rfl, AG, hB, hS, AD⟩ := hrel
   obtain ⟨wo, hwo⟩ : ∃ wo, wo = wr := ⟨_, rfl⟩
   subst hwo
   by_cases hlt : k < d.length
   ·obtain ⟨q, rfl⟩ : ∃ q, gk = q + 1 := ⟨gk - 1, by have := AG.out; omega⟩
    obtain ⟨LM, hL, hNM⟩ := hS
    have hLlen : LM.length = d.length := by have := congrArg List.length hL; rw [List.length_map, uptoF_len] at this; exact this
    obtain ⟨⟨g, cap, p⟩, hLk⟩ : ∃ x, LM[k]? = some x := ⟨_, List.getElem?_eq_getElem (by omega)⟩
    have hpk : d[k] = p := by
     have h1 : (LM.map (·.2.2))[k]? = some p := by rw [List.getElem?_map, hLk]; rfl
     rw [hL, uptoF_at _ _ _ hlt] at h1
     exact Option.some.inj h1
    have hpm : p ∈ d := hpk ▸ List.getElem_mem hlt
    have hx := hNM.2.2.2 k _ hLk
    simp only at hx
    obtain ⟨x1, x2, x3, x4, x5, x6⟩ := hx
    obtain ⟨hp4, hpx⟩ := HSM.out p hpm
    have HL := Lib.hid hL
    have HLK := Lib.hid hLk
    have HPX := Lib.hid hpx
    have HPK := Lib.hid hpk
    have hgd := hNM.1
    clear hL hLk hpx hpk
    go_wp2_with fail
    go_loopg [32] p.length (fun gk i wi => ∃ j : Nat, j ≤ p.length ∧ i = .int .i64 j ∧ Aside (j + gk = p.length) ∧ wo.grownBy wi (some g) ∧ RowA wi g (uptoF (avaN L) p j) ∧ Aside (∀ y ∈ p.take j, (avaK L y).1 = 0))
    case atStart => exact ⟨0, by omega, rfl, by show _ = _; omega, World.grownBy.refl _ _, by rw [uptoF_zero]; exact x3, fun y hy => by simp at hy⟩
    case round =>
     obtain ⟨j, hj, rfl, AG2, hgi, hR, AP⟩ := hrel
     by_cases hjl : j < p.length
     ·obtain ⟨q2, rfl⟩ : ∃ q2, gk = q2 + 1 := ⟨gk - 1, by have := AG2.out; omega⟩
      have hAt := uptoF_at (avaN L) p j hjl
      have ha := hR.at2 hAt
      obtain ⟨d0, d1, z0, z1⟩ := ha
      obtain ⟨l64, l1024⟩ := HPX.out p[j] (List.getElem_mem hjl)
      have hlen := uptoF_len (avaN L) p j
      have HSU := Lib.hid (uptoF_succ (avaN L) p j hjl)
      have HR := Lib.hid hR
      have HGI := Lib.hid hgi
      have hglt : g < wr.heap.size := cell_lt d0
      have hBr : Below w.heap.size w wr := hB.grown hgi hB.size (fun k hk => by cases hk; exact x5)
      have hBA := hBr.alloc hBr.size (.cells #[.string ⟨p[j].1.toArray⟩, .string ⟨p[j].2.toArray⟩] 215)
      have kA := Bk.new wr 215 #[.string ⟨p[j].1.toArray⟩, .string ⟨p[j].2.toArray⟩]
      have HBA := Lib.hid hBA
      have HKA := Lib.hid kA
      have HFAIL : Hid ((avaK L p[j]).1 ≠ 0 → keyS L x = ((avaK L p[j]).1, [])) := Lib.hid fun h => HKF.out k hlt p j hjl HPK.out AD.out AP.out h
      clear hR hgi hBr hBA kA
      cases hf : findD L false p[j].1 with
      | none =>
       have hfail : keyS L x = (52, []) := by
        have he : (avaK L p[j]).1 = 52 := by rw [avaK_eq, normTy_none hf]
        rw [HFAIL.out (by rw [he]; decide), he]
       have HF := Lib.hid hfail
       have HC := Lib.hid (HAN.out p[j].1 _ HBA.out l64 hf)
       clear hfail hf
       go_wp2_with (go_at_call 186; refine HC.out.mono ?_; rintro e w2 ⟨rfl, hb2⟩)
       go_ret2
       rw [HF.out]
       exact ⟨rfl, HBA.out.trans ((hb2.alloc hb2.size _).mono HBA.out.size)⟩
      | some i =>
       obtain ⟨a, hca⟩ := HK.out _ _ hf
       have hnm : nameTy L p[j].1 = a.name := nameTy_of hf hca
       have hnl : a.name.length ≤ 1000000 := by rw [← hnm]; exact HNM.out _
       have hav : avaK L p[j] = ((normTy L p[j].1 p[j].2).1, (smallL a.name, (normTy L p[j].1 p[j].2).2)) := by rw [avaK_eq, hnm]
       have hNT := fun W h => HNT.out p[j].1 p[j].2 W h l64
       have HC := Lib.hid (HAS.out p[j].1 i a _ HBA.out l64 hf hca)
       unfold attrV attrCells at HC
       generalize normTy L p[j].1 p[j].2 = nr at hav hNT
       obtain ⟨ne, ns⟩ := nr
       simp only at hav hNT
       have HNT2 := Lib.hid hNT
       have HAV := Lib.hid hav
       clear hNT hav hnm hf hca
       by_cases hne : ne = 0
       ·subst hne
        go_wp2_with (first | (go_at_call 186; refine HC.out.mono ?_; rintro e w2 ⟨A, n, c, rfl, hb2⟩; have kA2 := HKA.out.below hb2; have hB2 := HBA.out.trans (hb2.mono HBA.out.size); have f0 := fun z => (kA2.alloc z).cell 0; have f1 := fun z => (kA2.alloc z).cell 1; simp only [List.getElem?_toArray, List.getElem?_cons_zero, List.getElem?_cons_succ] at f0 f1) | (go_at_call 234; refine (HNT2.out _ (hB2.alloc hB2.size _)).mono ?_; rintro e w4 ⟨rfl, hb4⟩; have hB4 := (hB2.alloc hB2.size _).trans (hb4.mono (hB2.alloc hB2.size _).size); have n4 := (hb4.cell (p := ⟨w2.heap.size, 1, none⟩) (by show w2.heap.size < _; rw [World.size_alloc]; omega)).trans ((Bk.new w2 _ _).cell 1); simp only [List.getElem?_toArray, List.getElem?_cons_zero, List.getElem?_cons_succ] at n4; have g4 : wr.grownBy w4 none := World.grownBy.trans (World.grownBy_alloc _ _ _) (World.grownBy.trans (grown_below hb2 none) (World.grownBy.trans (World.grownBy_alloc _ _ _) (grown_below hb4 none)))) | (go_at_call 205; refine (Small_c _ _ (by omega)).mono ?_; rintro e w5 ⟨rfl, hb5⟩; have g5 := World.grownBy.trans g4 (grown_below hb5 none); have hR5 := HR.out.keep g5 (by simp); have ss := store_ava w5 g j _ hR5 (by omega); have s0 := (ss (.string ⟨(smallL a.name).toArray⟩)).1; have s1 := (ss (.string ⟨(smallL a.name).toArray⟩)).2.1; have s2 := (ss (.string ⟨(smallL a.name).toArray⟩)).2.2.1; have s3 := (ss (.string ⟨(smallL a.name).toArray⟩)).2.2.2))
        go_roundg q2
        case measure => omega
        case rel =>
         refine ⟨j + 1, by omega, by go_num, by have := AG2.out; show _ = _; omega, World.grownBy.trans HGI.out (World.grownBy.trans (grown_any g5 _) (World.grownBy.trans (setCell_grown _ _ _ _) (setCell_grown _ _ _ _))), ?_, ?_⟩
         ·have h := hR5.set (j := j) (by omega) (smallL a.name, ns)
          rw [← HSU.out, show avaN L p[j] = (smallL a.name, ns) by unfold avaN; rw [HAV.out]]
          exact h
         ·exact take_all_succ hjl AP.out (by rw [HAV.out])
       ·have hfail : keyS L x = (ne, []) := by
         have he : (avaK L p[j]).1 = ne := by rw [HAV.out]
         rw [HFAIL.out (by rw [he]; exact hne), he]
        have HF := Lib.hid hfail
        have hq : ((ne : Int) != 0) = true := bne_iff_ne.2 hne
        clear hfail hne
        go_wp2_with (first | (go_at_call 186; refine HC.out.mono ?_; rintro e w2 ⟨A, n, c, rfl, hb2⟩; have kA2 := HKA.out.below hb2; have hB2 := HBA.out.trans (hb2.mono HBA.out.size); have f0 := fun z => (kA2.alloc z).cell 0; have f1 := fun z => (kA2.alloc z).cell 1; simp only [List.getElem?_toArray, List.getElem?_cons_zero, List.getElem?_cons_succ] at f0 f1) | (go_at_call 234; refine (HNT2.out _ (hB2.alloc hB2.size _)).mono ?_; rintro e w4 ⟨rfl, hb4⟩))
        go_ret2
        rw [HF.out]
        exact ⟨rfl, (hB2.alloc hB2.size _).trans (hb4.mono (hB2.alloc hB2.size _).size)⟩
     ·obtain rfl : j = p.length := by omega
      have hRp : RowA wr g (p.map (avaN L)) := by rw [uptoF_all] at hR; exact hR
      have hPart := Part_c (p.map (avaN L)) g cap wr hRp (by simp; omega) (by simp; exact x4)
      rw [List.length_map] at hPart
      have hPart' : Calls Tryz.prog 235 #[.slice (some ⟨g, 0, none⟩) p.length cap] wr fun e w' => e = .returned (.slice (some ⟨g, 0, none⟩) (partF L p).length cap) ∧ RowA w' g (partF L p) ∧ wr.grownBy w' (some g) := hPart
      have hnl : (partF L p).length ≤ p.length := by have := partN_len (p.map (avaN L)); rw [List.length_map] at this; exact this
      have HGI := Lib.hid hgi
      have HAP : Hid (∀ z ∈ p, (avaK L z).1 = 0) := Lib.hid (by have := AP.out; rw [List.take_length] at this; exact this)
      clear hRp hPart hR hgi AP
      go_wp2_with fail
      refine hPart'.mono ?_
      rintro e w7 ⟨rfl, hR7, hg7⟩
      have g7 := World.grownBy.trans HGI.out hg7
      have c7 : w7.cell? ⟨gd, k, none⟩ = some (.slice (some ⟨g, 0, none⟩) p.length cap) := g7.cell x1 (by intro e; exact x6 (Option.some.inj e).symm)
      have z7 : w7.frozen? ⟨gd, k, none⟩ = false := (World.frozen?_of_block (a := ⟨gd, k, none⟩) (g7.block gd hgd (by intro e; exact x6 (Option.some.inj e).symm))).trans x2
      have hNM7 := hNM.part HLK.out g7 hR7 (Nat.le_trans hnl x4)
      have hB7 : Below w.heap.size w w7 := hB.grown g7 hB.size (fun k hk => by cases hk; exact x5)
      have hgdB := hNM.2.1
      have HNM7 := Lib.hid hNM7
      have HB7 := Lib.hid hB7
      clear hNM7 hB7
      go_wp2_with fail
      go_roundg q
      case measure => omega
      case rel =>
       refine ⟨k + 1, by omega, by go_num, by have := AG.out; show _ = _; omega, HB7.out.setCell hgdB _, ⟨_, ?_, HNM7.out⟩, ?_⟩
       ·rw [List.map_set, HL.out]
        show (uptoF (partF L) d k).set k (partF L p) = _
        rw [← HPK.out]
        exact uptoF_succ (partF L) d k hlt
       ·exact take_all_succ (P := fun y => ∀ z ∈ y, (avaK L z).1 = 0) hlt AD.out (by rw [HPK.out]; exact HAP.out)
   ·obtain rfl : k = d.length := by omega
    obtain ⟨LM, hL, hNM⟩ := hS
    rw [uptoF_all] at hL
    have hLlen : LM.length = d.length := by have := congrArg List.length hL; simpa using this
    have hall : ∀ y ∈ d, ∀ z ∈ y, (avaK L z).1 = 0 := by have := AD.out; rw [List.take_length] at this; exact this
    have hfin := HKO.out hall
    have hdr := hNM.dnR (c := c0) (by omega)
    rw [hL, hLlen] at hdr
    have hPr := Print_c (d.map (partF L)) (.slice (some ⟨gd, 0, none⟩) d.length c0) wo (hw.keep hB) hdr (by simp; omega) (fun p hp => by
     obtain ⟨p0, hp0, rfl⟩ := List.mem_map.1 hp
     obtain ⟨h4, hx⟩ := HSM.out p0 hp0
     have := partN_len (p0.map (avaN L))
     rw [List.length_map] at this
     refine ⟨by unfold partF; omega, fun x hx' => ?_⟩
     have := partN_mem _ x hx'
     obtain ⟨y, hy, rfl⟩ := List.mem_map.1 this
     show (smallL (nameTy L y.1)).length ≤ _
     rw [smallL_len]
     exact HNM.out _)
    rw [← hfin] at hPr
    obtain ⟨pr, hpr⟩ : ∃ pr, keyS L x = pr := ⟨_, rfl⟩
    rw [hpr] at hPr
    have HF := Lib.hid hpr
    clear hpr
    obtain ⟨pe, ps⟩ := pr
    simp only [intStr] at hPr
    have HPr := Lib.hid hPr
    clear hPr hdr hL hNM hfin hall AD
    go_wp2_with (go_at_call 236; refine HPr.out.mono ?_; rintro e w2 ⟨rfl, hb2⟩)
    go_ret2
    rw [HF.out]
    exact ⟨rfl, hB.trans (hb2.mono hB.size)⟩
open Go.RowKit
open Go.RowKit
theorem own_new {B : Nat} (w : World) (hB : B ≤ w.heap.size) (xs : List (List UInt8)) (hx : xs.length ≤ 1000000) : Own B (w.alloc (.cells (xs.map strV).toArray 9)) (.slice (some ⟨w.heap.size, 0, none⟩) xs.length xs.length) xs := by
 refine ⟨⟨by simp, .inr ⟨w.heap.size, xs.length, (xs.map strV).toArray, rfl, hB, heap_alloc_new w _, Nat.le_refl _, by unfold maxLen; omega, by simp, ?_⟩⟩, by rw [World.size_alloc]; omega⟩
 show (List.take (xs.length * 1) _) = _
 rw [List.take_of_length_le (by simp)]
set_option maxRecDepth 1000000 in
theorem Base_w (w : World) : Calls Tryz.prog 15 #[] w fun e w' => e = .returned (.tuple #[.slice (some ⟨w.heap.size, 0, none⟩) 18 18, .slice (some ⟨w.heap.size + 1, 0, none⟩) 10 10]) ∧ (w.alloc (.cells (baseA.map strV).toArray 9)).alloc (.cells (baseC.map strV).toArray 9) = w' := by
 go_enter Tryz.func15, Tryz.ntmps15
 go_wp2_with fail
 go_ret2
 exact ⟨rfl, rfl⟩
theorem Base_c (w : World) : Calls Tryz.prog 15 #[] w fun e w' => e = .returned (.tuple #[.slice (some ⟨w.heap.size, 0, none⟩) 18 18, .slice (some ⟨w.heap.size + 1, 0, none⟩) 10 10]) ∧ Below w.heap.size w w' ∧ Own w.heap.size w' (.slice (some ⟨w.heap.size, 0, none⟩) 18 18) baseA ∧ Own (w.heap.size + 1) w' (.slice (some ⟨w.heap.size + 1, 0, none⟩) 10 10) baseC := by
 refine (Base_w w).mono ?_
 rintro e w' ⟨rfl, rfl⟩
 have h1 := own_new (B := w.heap.size) w (Nat.le_refl _) baseA (by decide)
 have h2 := own_new (B := w.heap.size + 1) (w.alloc (.cells (baseA.map strV).toArray 9)) (by rw [World.size_alloc]; omega) baseC (by decide)
 rw [World.size_alloc] at h2
 exact ⟨rfl, ((Below.refl _ _).alloc (Nat.le_refl _) _).alloc (by simp) _, h1.below ((Below.refl _ _).alloc (Nat.le_refl _) _), h2⟩
open Go.RowKit
structure Sound (L : List DefS) : Prop where
 says : NewSays L
 lim : ∀ d ∈ L, DefLim d
 rul : ∀ d ∈ L, RuleLim d
theorem Sound.counts {L : List DefS} (h : Sound L) (t : List UInt8) (i : Nat) (hf : findD L false t = some i) : ∃ a, countsD L i = some a := by
 obtain ⟨d, hd, hc, _⟩ := findD_at hf
 exact h.says.counts hd hc
theorem newL_read {a c : List (List UInt8)} {L : List DefS} (h : newL a c = .inr L) : readAll a.length 0 (a ++ c) [] = .inr L := by
 unfold newL at h
 split at h
 ·cases h
 ·split at h
  ·cases h
  ·next L' hr =>
   split at h
   ·cases h
   ·split at h
    ·cases h
    ·split at h
     ·cases h
     ·cases h
      exact hr
theorem sound_of {a c : List (List UInt8)} {L : List DefS} (h : newL a c = .inr L) (hs : ∀ x ∈ a ++ c, x.length ≤ 1000000) : Sound L := by
 have hl := readAll_lim _ _ _ _ _ hs (fun d hd => by simp at hd) (newL_read h)
 exact ⟨newL_says h, fun d hd => (hl.1 d hd).1, fun d hd => (hl.1 d hd).2⟩
theorem texts_at2 {w : World} {b n c : Nat} {xs : List (List UInt8)} (h : Texts w (.slice (some ⟨b, 0, none⟩) n c) xs) {j : Nat} (hj : j < xs.length) : w.cell? ⟨b, j, none⟩ = some (.string ⟨xs[j].toArray⟩) := by
 obtain ⟨g, e, h2⟩ := texts_at h hj
 cases e
 exact h2
theorem base_short : ∀ x ∈ baseA ++ baseC, x.length ≤ 1000 := by decide +kernel
theorem baseA_len : baseA.length = 18 := rfl
theorem baseC_len : baseC.length = 10 := rfl
theorem base_sound : Sound baseL := sound_of base_new (fun x hx => Nat.le_trans (base_short x hx) (by decide))
set_option maxRecDepth 100000 in
theorem Key_c (s : Nat) (ps : List Nat) (L : List DefS) (hL : Sound L) (x : List UInt8) (w : World) (hw : Env w) (hS : SchAt w s ps L) :
  Calls Tryz.prog 183 #[ptrV s, .string ⟨x.toArray⟩] w fun e w' => e = .returned (intStr (keyS L x)) ∧ Below w.heap.size w w' := by
 by_cases h : (parseL x).1 = 0
 ·exact Key_ok s ps L hL.lim hL.rul hL.counts x w hw hS (parseL x).2 (by rw [← h])
 ·exact Key_bad s L x w hw h
theorem IsSub_s (s : Nat) (ps : List Nat) (L : List DefS) (hL : Sound L) (a b : List UInt8) (w : World) (hS : SchAt w s ps L) (ha : a.length ≤ 1000000) (hb : b.length ≤ 1000000) :
  Calls Tryz.prog 191 #[ptrV s, .string ⟨a.toArray⟩, .string ⟨b.toArray⟩] w fun e w' => e = .returned (.bool (isSubD L a b)) ∧ Below w.heap.size w w' :=
 IsSub_c s ps L a b w hS hL.lim (by have := hL.says.len; omega) (fun d hd n hn => knownD_sup (hL.says.known d hd) n hn) ha hb
open Go.RowKit
def TextsA (w : World) (v : Value) (xs : List (List UInt8)) : Prop :=
 (xs = [] ∧ v = .slice none 0 0) ∨ ∃ (a : Addr) (c : Nat), v = .slice (some a) xs.length c ∧ xs.length ≤ c ∧ ∀ j (hj : j < xs.length), w.cell? (a.add j) = some (.string ⟨xs[j].toArray⟩)
theorem TextsA.below {w w' : World} {v : Value} {xs : List (List UInt8)} (h : TextsA w v xs) (hb : Below w.heap.size w w') : TextsA w' v xs := by
 rcases h with h | ⟨a, c, rfl, hc, hx⟩
 ·exact .inl h
 ·exact .inr ⟨a, c, rfl, hc, fun j hj => (hb.cell (cell_lt (hx j hj))).trans (hx j hj)⟩
theorem texts_toA {w : World} {v : Value} {xs : List (List UInt8)} (h : Texts w v xs) : TextsA w v xs := by
 rcases h with ⟨rfl, rfl⟩ | ⟨b, c, rfl, hc, hlt, hx⟩
 ·exact .inl ⟨rfl, rfl⟩
 ·exact .inr ⟨⟨b, 0, none⟩, c, rfl, hc, fun j hj => by rw [add_off]; exact hx j hj⟩
theorem TextsA.at {w : World} {v : Value} {xs : List (List UInt8)} (h : TextsA w v xs) : ∃ A c, v = .slice A xs.length c ∧ xs.length ≤ c ∧ (∀ j (hj : j < xs.length), ∃ a, A = some a ∧ w.cell? (a.add j) = some (.string ⟨xs[j].toArray⟩)) := by
 rcases h with ⟨rfl, rfl⟩ | ⟨a, c, rfl, hc, hcell⟩
 ·exact ⟨_, _, rfl, Nat.zero_le _, fun j hj => by simp at hj⟩
 ·exact ⟨_, _, rfl, hc, fun j hj => ⟨a, rfl, hcell j hj⟩⟩
open Go.RowKit
set_option maxRecDepth 10000 in
theorem IndexFuncSA_c (f : FuncId) (cap : Array Value) (xs : List (List UInt8)) (v : Value) (w : World) (hv : TextsA w v xs) (hl : xs.length ≤ 4611686018427387904) (P : List UInt8 → Bool) (hF : AskS w f cap xs P) :
  Calls Tryz.prog 126 #[v, .func (.func f) #[] cap] w fun e w' => (∃ i : Int, e = .returned (.int .i64 i) ∧ decide (0 ≤ i) = xs.any P) ∧ Below w.heap.size w w' := by
 have HF := Lib.hid hF.call
 have hent := hF.enter
 clear hF
 obtain ⟨A, c, rfl, hc, hcell⟩ := hv.at
 have HV := Lib.hid hcell
 clear hv hcell
 go_enter Tryz.func126, Tryz.ntmps126
 go_wp2_with fail
 go_loopg [8] xs.length (fun gk i wr => ∃ k : Nat, k ≤ xs.length ∧ i = .int .i64 k ∧ Aside (k + gk = xs.length) ∧ Below w.heap.size w wr ∧ Aside (xs.any P = (xs.drop k).any P))
 case atStart => exact ⟨0, by omega, rfl, by show _ = _; omega, Below.refl _ _, rfl⟩
 case round =>
  obtain ⟨k, hk, rfl, AG, hB, AS⟩ := hrel
  by_cases hlt : k < xs.length
  ·obtain ⟨q, rfl⟩ : ∃ q, gk = q + 1 := ⟨gk - 1, by have := AG.out; omega⟩
   obtain ⟨a, rfl, c0⟩ := HV.out k hlt
   have AS' : Aside (xs.any P = (P xs[k] || (xs.drop (k + 1)).any P)) := by have := AS.out; rw [List.drop_eq_getElem_cons hlt] at this; exact this
   have d0 := (hB.cell (cell_lt c0)).trans c0
   have hC := HF.out xs[k] (List.getElem_mem hlt) wr hB
   clear AS c0
   generalize xs[k] = x at hC AS' d0
   cases hP : P x
   all_goals
    have HP := Lib.hid hP
    rw [hP] at hC
    have HC := Lib.hid hC
    clear hP hC
   ·go_wp2_with ((with_reducible refine HC.out.mono ?_); rintro e w2 ⟨rfl, hb2⟩)
    go_roundg q
    case measure => omega
    case rel => exact ⟨k + 1, by omega, by go_num, by have := AG.out; show _ = _; omega, hB.trans (hb2.mono hB.size), by have := AS'.out; rw [HP.out] at this; exact this⟩
   ·go_wp2_with ((with_reducible refine HC.out.mono ?_); rintro e w2 ⟨rfl, hb2⟩)
    go_ret
    exact ⟨⟨k, rfl, by rw [AS'.out, HP.out]; simp⟩, hB.trans (hb2.mono hB.size)⟩
  ·obtain rfl : k = xs.length := by omega
   have hs : xs.any P = false := by have := AS.out; rw [List.drop_length] at this; exact this
   have Hs := Lib.hid hs
   clear hs AS
   go_wp2_with fail
   go_ret
   exact ⟨⟨-1, rfl, by rw [Hs.out]; rfl⟩, hB⟩
theorem ContainsFuncSA_c (f : FuncId) (cap : Array Value) (xs : List (List UInt8)) (v : Value) (w : World) (hv : TextsA w v xs) (hl : xs.length ≤ 4611686018427387904) (P : List UInt8 → Bool) (hF : AskS w f cap xs P) :
  Calls Tryz.prog 25 #[v, .func (.func f) #[] cap] w fun e w' => e = .returned (.bool (xs.any P)) ∧ Below w.heap.size w w' := by
 have hI := IndexFuncSA_c f cap xs v w hv hl P hF
 obtain ⟨A, c, rfl, hc, _⟩ := hv.at
 clear hF hv
 go_enter Tryz.func25, Tryz.ntmps25
 go_wp2_with (go_at_call 126; refine hI.mono ?_; rintro e w1 ⟨⟨i, rfl, hi⟩, hb1⟩; have Hi := Lib.hid hi; clear hi)
 all_goals
  go_ret
  exact ⟨retb (by rw [← Hi.out]), hb1⟩
theorem IndexS_i (x : List UInt8) (xs : List (List UInt8)) (v : Value) (w : World) (hv : Texts w v xs) (hl : xs.length ≤ 1000000) :
  Calls Tryz.prog 30 #[v, .string ⟨x.toArray⟩] w fun e w' => e = .returned (.int .i64 (match idxOf xs x with | none => -1 | some k => (k : Int))) ∧ w = w' := by
 obtain ⟨R, hR⟩ : ∃ R : Int, (match idxOf xs x with | none => -1 | some k => (k : Int)) = R := ⟨_, rfl⟩
 rw [hR]
 have HV := Lib.hid hv
 obtain ⟨A, n, c, rfl⟩ := hv.isSlice
 obtain ⟨rfl, hc⟩ := texts_len hv
 have HR := Lib.hid hR
 clear hv hR
 go_enter Tryz.func30, Tryz.ntmps30
 go_wp2_with fail
 go_loopg [8] xs.length (fun gk i wr => ∃ k : Nat, k ≤ xs.length ∧ i = .int .i64 k ∧ Aside (k + gk = xs.length) ∧ w = wr ∧ Aside (∀ y ∈ xs.take k, y ≠ x))
 case atStart => exact ⟨0, by omega, rfl, by show _ = _; omega, rfl, by show ∀ y ∈ _, _; simp⟩
 case round =>
  obtain ⟨k, hk, rfl, AG, rfl, AS⟩ := hrel
  by_cases hlt : k < xs.length
  ·obtain ⟨q, rfl⟩ : ∃ q, gk = q + 1 := ⟨gk - 1, by have := AG.out; omega⟩
   obtain ⟨g, hg, hcell⟩ := texts_at HV.out hlt
   subst hg
   have HRk : Hid (xs[k] = x → R = k) := Lib.hid fun he => by
    have : idxOf xs x = some k := by
     unfold idxOf
     rw [List.findIdx?_eq_some_iff_getElem]
     refine ⟨hlt, by simpa using he, fun j hj => ?_⟩
     have := AS.out xs[j] (by rw [List.mem_take_iff_getElem]; exact ⟨j, by omega, rfl⟩)
     simpa using this
    rw [← HR.out, this]
   have HAS : Hid (xs[k] ≠ x → ∀ y ∈ xs.take (k + 1), y ≠ x) := Lib.hid fun he y hy => by
    rw [List.take_succ_eq_append_getElem hlt] at hy
    rcases List.mem_append.1 hy with hy | hy
    ·exact AS.out y hy
    ·rw [List.mem_singleton.1 hy]; exact he
   clear AS
   generalize xs[k] = y at hcell HRk HAS
   by_cases hyx : x = y
   ·subst hyx
    have Hf := Lib.hid (HRk.out rfl)
    clear HRk HAS
    go_wp2_with fail
    all_goals
     go_ret
     exact ⟨by rw [Hf.out]; try rfl, rfl⟩
   ·have hb1 : (x == y) = false := beq_eq_false_iff_ne.2 hyx
    have hb2 : (y == x) = false := beq_eq_false_iff_ne.2 (Ne.symm hyx)
    have Hf := Lib.hid (HAS.out (Ne.symm hyx))
    clear HRk HAS hyx
    go_wp2_with fail
    go_roundg q
    case measure => omega
    case rel => exact ⟨k + 1, by omega, by go_num, by have := AG.out; show _ = _; omega, rfl, Hf.out⟩
  ·obtain rfl : k = xs.length := by omega
   have hs : R = -1 := by
    have : idxOf xs x = none := by
     unfold idxOf
     rw [List.findIdx?_eq_none_iff]
     intro y hy
     have := AS.out y (by rw [List.take_length]; exact hy)
     simpa using this
    rw [← HR.out, this]
   have Hs := Lib.hid hs
   clear hs AS
   go_wp2_with fail
   go_ret
   exact ⟨by rw [Hs.out]; try rfl, rfl⟩
open Go.RowKit
def GrantsA (w : World) (v : Value) (gs : List GrantS) : Prop := ∃ A c, v = .slice A gs.length c ∧ gs.length ≤ c ∧ ∀ j (hj : j < gs.length), ∃ b o, A = some ⟨b, o, none⟩ ∧ w.cell? ⟨b, o + j * 3, none⟩ = some (.int .i64 gs[j].who) ∧ w.cell? ⟨b, o + j * 3 + 1, none⟩ = some (.string ⟨gs[j].name.toArray⟩) ∧ w.cell? ⟨b, o + j * 3 + 2, none⟩ = some (.int .i64 gs[j].level)
theorem GrantsA.below {w w' : World} {v : Value} {gs : List GrantS} (h : GrantsA w v gs) (hb : Below w.heap.size w w') : GrantsA w' v gs := by
 obtain ⟨A, c, rfl, hc, hx⟩ := h
 refine ⟨A, c, rfl, hc, fun j hj => ?_⟩
 obtain ⟨b, o, hA, h0, h1, h2⟩ := hx j hj
 exact ⟨b, o, hA, (hb.cell (cell_lt h0)).trans h0, (hb.cell (cell_lt h1)).trans h1, (hb.cell (cell_lt h2)).trans h2⟩
theorem add_at3 (b o j : Nat) : (⟨b, o, none⟩ : Addr).add j = ⟨b, o + j, none⟩ := by unfold Addr.add; split <;> simp_all
structure AskGr (w : World) (f : FuncId) (cap : Array Value) (gs : List GrantS) (P : GrantS → Bool) : Prop where
 call : ∀ x ∈ gs, ∀ W, Below w.heap.size w W → Calls Tryz.prog f (#[.agg #[.int .i64 x.who, .string ⟨x.name.toArray⟩, .int .i64 x.level]] ++ cap) W fun e W' => e = .returned (.bool (P x)) ∧ Below W.heap.size W W'
 enter : ∀ (args : Array Value) (W : World), (callFunc f args).run Tryz.prog W = .ok (.enter f args) W
set_option maxRecDepth 10000 in
theorem IndexFuncGr_c (f : FuncId) (cap : Array Value) (gs : List GrantS) (v : Value) (w : World) (hv : GrantsA w v gs) (hl : gs.length ≤ 4611686018427387904) (P : GrantS → Bool) (hF : AskGr w f cap gs P) :
  Calls Tryz.prog 229 #[v, .func (.func f) #[] cap] w fun e w' => (∃ i : Int, e = .returned (.int .i64 i) ∧ decide (0 ≤ i) = gs.any P) ∧ Below w.heap.size w w' := by
 have HF := Lib.hid hF.call
 have hent := hF.enter
 clear hF
 obtain ⟨A, c, rfl, hc, hcell⟩ := hv
 have HV := Lib.hid hcell
 clear hcell
 have hadd := add_at3
 go_enter Tryz.func229, Tryz.ntmps229
 go_wp2_with fail
 go_loopg [8] gs.length (fun gk i wr => ∃ k : Nat, k ≤ gs.length ∧ i = .int .i64 k ∧ Aside (k + gk = gs.length) ∧ Below w.heap.size w wr ∧ Aside (gs.any P = (gs.drop k).any P))
 case atStart => exact ⟨0, by omega, rfl, by show _ = _; omega, Below.refl _ _, rfl⟩
 case round =>
  obtain ⟨k, hk, rfl, AG, hB, AS⟩ := hrel
  by_cases hlt : k < gs.length
  ·obtain ⟨q, rfl⟩ : ∃ q, gk = q + 1 := ⟨gk - 1, by have := AG.out; omega⟩
   obtain ⟨b, o, rfl, c0, c1, c2⟩ := HV.out k hlt
   have AS' : Aside (gs.any P = (P gs[k] || (gs.drop (k + 1)).any P)) := by have := AS.out; rw [List.drop_eq_getElem_cons hlt] at this; exact this
   have d0 := (hB.cell (cell_lt c0)).trans c0
   have d1 := (hB.cell (cell_lt c1)).trans c1
   have d2 := (hB.cell (cell_lt c2)).trans c2
   have hC := HF.out gs[k] (List.getElem_mem hlt) wr hB
   clear AS c0 c1 c2
   generalize gs[k] = x at hC AS' d0 d1 d2
   cases hP : P x
   all_goals
    have HP := Lib.hid hP
    rw [hP] at hC
    have HC := Lib.hid hC
    clear hP hC
   ·go_wp2_with ((with_reducible refine HC.out.mono ?_); rintro e w2 ⟨rfl, hb2⟩)
    go_roundg q
    case measure => omega
    case rel => exact ⟨k + 1, by omega, by go_num, by have := AG.out; show _ = _; omega, hB.trans (hb2.mono hB.size), by have := AS'.out; rw [HP.out] at this; exact this⟩
   ·go_wp2_with ((with_reducible refine HC.out.mono ?_); rintro e w2 ⟨rfl, hb2⟩)
    go_ret
    exact ⟨⟨k, rfl, by rw [AS'.out, HP.out]; simp⟩, hB.trans (hb2.mono hB.size)⟩
  ·obtain rfl : k = gs.length := by omega
   have hs : gs.any P = false := by have := AS.out; rw [List.drop_length] at this; exact this
   have Hs := Lib.hid hs
   clear hs AS
   go_wp2_with fail
   go_ret
   exact ⟨⟨-1, rfl, by rw [Hs.out]; rfl⟩, hB⟩
theorem ContainsFuncGr_c (f : FuncId) (cap : Array Value) (gs : List GrantS) (v : Value) (w : World) (hv : GrantsA w v gs) (hl : gs.length ≤ 4611686018427387904) (P : GrantS → Bool) (hF : AskGr w f cap gs P) :
  Calls Tryz.prog 176 #[v, .func (.func f) #[] cap] w fun e w' => e = .returned (.bool (gs.any P)) ∧ Below w.heap.size w w' := by
 have hI := IndexFuncGr_c f cap gs v w hv hl P hF
 obtain ⟨A, c, rfl, hc, _⟩ := id hv
 clear hF hv
 go_enter Tryz.func176, Tryz.ntmps176
 go_wp2_with (go_at_call 229; refine hI.mono ?_; rintro e w1 ⟨⟨i, rfl, hi⟩, hb1⟩; have Hi := Lib.hid hi; clear hi)
 all_goals
  go_ret
  exact ⟨retb (by rw [← Hi.out]), hb1⟩
open Go.RowKit
def RowRet (w : World) (ws : List (List UInt8)) (e : Ending) (w' : World) : Prop := e = .returned (.slice (some ⟨w.heap.size, 0, none⟩) ws.length ws.length) ∧ Below w.heap.size w w' ∧ Own w.heap.size w' (.slice (some ⟨w.heap.size, 0, none⟩) ws.length ws.length) ws
theorem row_ret {w w' : World} {e : Ending} {ws : List (List UInt8)} (hl : ws.length ≤ 1000000) (h : e = .returned (.slice (some ⟨w.heap.size, 0, none⟩) ws.length ws.length) ∧ w.alloc (.cells (ws.map strV).toArray 9) = w') : RowRet w ws e w' := by
 obtain ⟨rfl, rfl⟩ := h
 exact ⟨rfl, (Below.refl _ _).alloc (Nat.le_refl _) _, own_new w (Nat.le_refl _) ws hl⟩
set_option maxRecDepth 1000000 in
theorem levels_c (w : World) : Calls Tryz.prog 31 #[] w (RowRet w levelWs) := by
 have h : Calls Tryz.prog 31 #[] w fun e w' => e = .returned (.slice (some ⟨w.heap.size, 0, none⟩) 7 7) ∧ w.alloc (.cells (levelWs.map strV).toArray 9) = w' := by
  go_enter Tryz.func31, Tryz.ntmps31
  go_wp2_with fail
  go_ret
  exact ⟨rfl, rfl⟩
 exact h.mono fun e w' h => row_ret (by decide) h
set_option maxRecDepth 1000000 in
theorem whats_c (w : World) : Calls Tryz.prog 20 #[] w (RowRet w whatWs) := by
 have h : Calls Tryz.prog 20 #[] w fun e w' => e = .returned (.slice (some ⟨w.heap.size, 0, none⟩) 5 5) ∧ w.alloc (.cells (whatWs.map strV).toArray 9) = w' := by
  go_enter Tryz.func20, Tryz.ntmps20
  go_wp2_with fail
  go_ret
  exact ⟨rfl, rfl⟩
 exact h.mono fun e w' h => row_ret (by decide) h
set_option maxRecDepth 1000000 in
theorem whos_c (w : World) : Calls Tryz.prog 28 #[] w (RowRet w whoWs) := by
 have h : Calls Tryz.prog 28 #[] w fun e w' => e = .returned (.slice (some ⟨w.heap.size, 0, none⟩) 7 7) ∧ w.alloc (.cells (whoWs.map strV).toArray 9) = w' := by
  go_enter Tryz.func28, Tryz.ntmps28
  go_wp2_with fail
  go_ret
  exact ⟨rfl, rfl⟩
 exact h.mono fun e w' h => row_ret (by decide) h
theorem named_c (k : Int) (w : World) : Calls Tryz.prog 29 #[.int .i64 k] w fun e w' => e = .returned (.bool (namedB k)) ∧ w = w' := by
 go_enter Tryz.func29, Tryz.ntmps29
 go_wp2_with fail
 go_ret
 exact ⟨rfl, rfl⟩
theorem in_c (k : Int) (A : Option Addr) (n c : Nat) (w : World) : Calls Tryz.prog 120 #[.int .i64 k, .slice A n c] w fun e w' => e = .returned (.bool (decide (0 ≤ k) && decide (k < n))) ∧ w = w' := by
 by_cases h0 : 0 ≤ k
 ·by_cases h1 : k < n
  ·have e : (decide (0 ≤ k) && decide (k < n)) = true := by rw [decide_eq_true h0, decide_eq_true h1]; rfl
   rw [e]
   clear e
   go_enter Tryz.func120, Tryz.ntmps120
   go_wp2_with fail
   all_goals
    go_ret
    exact ⟨rfl, rfl⟩
  ·have e : (decide (0 ≤ k) && decide (k < n)) = false := by rw [decide_eq_true h0, decide_eq_false h1]; rfl
   rw [e]
   clear e
   go_enter Tryz.func120, Tryz.ntmps120
   go_wp2_with fail
   all_goals
    go_ret
    exact ⟨rfl, rfl⟩
 ·have e : (decide (0 ≤ k) && decide (k < n)) = false := by rw [decide_eq_false h0]; rfl
  rw [e]
  clear e
  go_enter Tryz.func120, Tryz.ntmps120
  go_wp2_with fail
  all_goals
   go_ret
   exact ⟨rfl, rfl⟩
theorem isWord_c (t : List UInt8) (w : World) : Calls Tryz.prog 187 #[.string ⟨t.toArray⟩] w fun e w' => e = .returned (.bool (isWordA t)) ∧ w = w' := by
 obtain ⟨b1, h1⟩ : ∃ b, (t == [101, 110, 116, 114, 121]) = b := ⟨_, rfl⟩
 obtain ⟨b2, h2⟩ : ∃ b, (t == [99, 104, 105, 108, 100, 114, 101, 110]) = b := ⟨_, rfl⟩
 have e : isWordA t = (b1 || b2) := by unfold isWordA wEntry wChildren; rw [h1, h2]
 rw [e]
 clear e
 cases b1
 ·cases b2
  ·go_enter Tryz.func187, Tryz.ntmps187
   go_wp2_with fail
   all_goals
    go_ret
    exact ⟨rfl, rfl⟩
  ·go_enter Tryz.func187, Tryz.ntmps187
   go_wp2_with fail
   all_goals
    go_ret
    exact ⟨rfl, rfl⟩
 ·go_enter Tryz.func187, Tryz.ntmps187
  go_wp2_with fail
  all_goals
   go_ret
   exact ⟨rfl, rfl⟩
end Go.Proofs.YtbjmpmgiigombaaGreatDoor
