import Derived.Test.YtkkbbhlihilnpaaGreatDoorWvd5
set_option linter.all false
set_option maxHeartbeats 8000000
set_option maxRecDepth 100000
namespace Go.Proofs.YtkkbbhlihilnpaaGreatDoor
open Go.RowKit Go.Sort
theorem parse_fits {s : LU} {d : List (List (LU × LU))} (h : parseL s = (0, d)) : tooLongL d = false := by
 unfold parseL at h
 split at h
 ·simp at h
 ·next h1 =>
  split at h
  ·simp at h
  ·next d' hd =>
   split at h
   ·simp at h
   ·next h2 =>
    cases h
    simpa using h2
theorem store_ava (w : World) (g j : Nat) (l : List (LU × LU)) (h : RowA w g l) (hj : j < l.length) (u : Value) :
  w.cell? ⟨g, j * 2, none⟩ = some (.string ⟨l[j].1.toArray⟩) ∧ w.frozen? ⟨g, j * 2, none⟩ = false ∧ (w.setCell ⟨g, j * 2, none⟩ u).cell? ⟨g, j * 2 + 1, none⟩ = some (.string ⟨l[j].2.toArray⟩) ∧ (w.setCell ⟨g, j * 2, none⟩ u).frozen? ⟨g, j * 2 + 1, none⟩ = false := by
 have a := h.at2 (List.getElem?_eq_getElem hj)
 refine ⟨a.1, a.2.2.1, (set_other _ _ _ _ _ (by omega)).trans a.2.1, ?_⟩
 rw [World.frozen?_setCell]
 exact a.2.2.2
theorem name_bound {L : List DefS} (hlim : ∀ d ∈ L, DefLim d) (t : LU) : (nameTy L t).length ≤ 1000000 := by
 unfold nameTy
 cases hf : findD L false t with
 | none => simp
 | some i =>
  simp only
  unfold nameOf
  cases hd : L[i]? with
  | none => simp
  | some d =>
   simp only
   have h := hlim d (List.mem_of_getElem? hd)
   unfold DefS.name
   cases hn : d.names with
   | nil => exact h.oid
   | cons x t => exact h.names.2 x (by rw [hn]; simp)
theorem Key_bad (s : Nat) (L : List DefS) (x : LU) (w : World) (hw : Env w) (her : (parseL x).1 ≠ 0) :
  Calls Tryz.prog 35 #[ptrV s, .string ⟨x.toArray⟩] w fun e w' => e = .returned (intStr (keyS L x)) ∧ Below w.heap.size w w' := by
 rw [key_bad her]
 have hP := Parse_c x w hw
 generalize parseL x = ps at *
 obtain ⟨er, d⟩ := ps
 have hbn : ((er : Int) != 0) = true := bne_iff_ne.2 her
 have HP := hiD hP
 clear hP her
 unfold ptrV
 go_enter Tryz.func35, Tryz.ntmps35
 go_wp2_with (go_at_call 70; refine HP.out.mono ?_; rintro e w1 ⟨hb1, v, rfl, hd⟩; obtain ⟨A0, c0, rfl, hc0⟩ := hd.isSlice)
 go_ret2
 exact ⟨rfl, hb1⟩
theorem Key_ok (s : Nat) (ps : List Nat) (L : List DefS) (hlim : ∀ d ∈ L, DefLim d) (hrl : ∀ d ∈ L, RuleLim d) (hk : ∀ t i, findD L false t = some i → ∃ a, countsD L i = some a) (x : LU) (w : World) (hw : Env w) (hS : SchAt w s ps L) (d : List (List (LU × LU))) (hp : parseL x = (0, d)) :
  Calls Tryz.prog 35 #[ptrV s, .string ⟨x.toArray⟩] w fun e w' => e = .returned (intStr (keyS L x)) ∧ Below w.heap.size w w' := by
 have htl := parse_fits hp
 have hP := Parse_c x w hw
 have hne := parseL_ne (s := x)
 have hty := parse_type (s := x)
 rw [hp] at hP hne hty
 simp only at hne hty
 have hbn : ((0 : Int) != 0) = false := by decide
 have HP := hiD hP
 have HNE := hiD hne
 have hd20 : d.length ≤ 20 := by unfold tooLongL at htl; simp at htl; omega
 have HSM : Hid (∀ p ∈ d, p.length ≤ 4 ∧ ∀ x ∈ p, x.1.length ≤ 64 ∧ x.2.length ≤ 1024) := by
  refine hiD fun p hp => ?_
  unfold tooLongL at htl
  rw [Bool.or_eq_false_iff] at htl
  have h1 := List.any_eq_false.1 htl.2 p hp
  unfold rdnLongB at h1
  simp only [Bool.or_eq_true, decide_eq_true_eq, not_or] at h1
  refine ⟨by omega, fun x hx => ?_⟩
  have h2 : p.any avaLongB = false := by simpa using h1.2
  have h3 := List.any_eq_false.1 h2 x hx
  unfold avaLongB at h3
  simp at h3
  refine ⟨?_, h3⟩
  have h4 := hty p hp x hx
  unfold isTypeL at h4
  split at h4
  ·simp at h4
  ·next e => rw [e]; simp only [Bool.and_eq_true, decide_eq_true_eq] at h4; exact h4.1
 have HAN : Hid (∀ (t : LU) (W : World), Below w.heap.size w W → t.length ≤ 64 → findD L false t = none → Calls Tryz.prog 20 #[.pointer (some ⟨s, 0, none⟩), .string ⟨t.toArray⟩] W fun e w' => e = .returned (.tuple #[attrV noAttr (.slice none 0 0), .int .i64 52]) ∧ Below W.heap.size W w') := hiD fun t W h hl hf => (Attr_none s ps L t W (hS.below h) (by omega) hf).mono (by
  rintro e w' ⟨h1, h2⟩
  exact ⟨h2, h1⟩)
 have HAS : Hid (∀ (t : LU) (i : Nat) (a : AttrS) (W : World), Below w.heap.size w W → t.length ≤ 64 → findD L false t = some i → countsD L i = some a → Calls Tryz.prog 20 #[.pointer (some ⟨s, 0, none⟩), .string ⟨t.toArray⟩] W fun e w' => ∃ A n c, e = .returned (.tuple #[attrV a (.slice A n c), .int .i64 0]) ∧ Below W.heap.size W w') := hiD fun t i a W h hl hf ha => (Attr_some s ps L hlim t i a W (hS.below h) (by omega) hf ha).mono (by
  rintro e w' ⟨h1, nv, rfl, h2⟩
  obtain ⟨A, c, rfl, _⟩ := h2.isSlice
  exact ⟨A, _, c, rfl, h1⟩)
 have HNT : Hid (∀ (t v : LU) (W : World), Below w.heap.size w W → t.length ≤ 64 → Calls Tryz.prog 21 #[.pointer (some ⟨s, 0, none⟩), .string ⟨t.toArray⟩, .string ⟨v.toArray⟩] W fun e w' => e = .returned (.tuple #[.string ⟨(normTy L t v).2.toArray⟩, .int .i64 (normTy L t v).1]) ∧ Below W.heap.size W w') := hiD fun t v W h hl => NormTy_c s ps L hlim hrl hk t v W (hw.keep h) (hS.below h) (by omega)
 have HNM := hiD (name_bound hlim)
 have HK := hiD hk
 have HKF : Hid (∀ (k : Nat) (hk : k < d.length) (p : List (LU × LU)) (j : Nat) (hj : j < p.length), d[k] = p → (∀ y ∈ d.take k, ∀ z ∈ y, (avaK L z).1 = 0) → (∀ y ∈ p.take j, (avaK L y).1 = 0) → (avaK L p[j]).1 ≠ 0 → keyS L x = ((avaK L p[j]).1, [])) := hiD fun k hk p j hj he h0 h1 h2 => by
  subst he
  have h3 := partK_fail hj h1 h2
  have h4 := key_fail (L := L) hp hk (fun y hy => by rw [partK_ok (h0 y hy)]) (by rw [h3]; exact h2)
  rw [h4, h3]
 have HKO : Hid ((∀ y ∈ d, ∀ z ∈ y, (avaK L z).1 = 0) → keyS L x = printL (d.map (partF L))) := hiD fun h => key_ok hp h
 clear hP hne hty htl hS hlim hrl hk hp
 unfold ptrV
 unfold attrV attrCells noAttr at HAN
 go_enter Tryz.func35, Tryz.ntmps35
 go_wp2_with fail
 refine HP.out.mono ?_
 rintro e w1 ⟨hb1, v, rfl, hd⟩
 change DnAt w.heap.size w1 v d at hd
 obtain ⟨A0, c0, rfl, hc0⟩ := hd.isSlice
 by_cases hdn : d = []
 ·subst hdn
  have hPr := Print_c [] (.slice A0 0 c0) w1 (hw.keep hb1) hd.reads (by simp) (by simp)
  rw [show printL [] = (0, []) by decide] at hPr
  simp only [intStr] at hPr
  have HPr := hiD hPr
  have hfin : keyS L x = (0, []) := by rw [HKO.out (by simp), List.map_nil]; decide
  have HF := hiD hfin
  clear hPr hfin
  simp only [List.length_nil]
  go_wp2_with fail
  go_loopg [25] 0 (fun gk i wr => i = .int .i64 0 ∧ wr = w1)
  case atStart => exact ⟨rfl, rfl⟩
  case round =>
   obtain ⟨rfl, rfl⟩ := hrel
   go_wp2_with (go_at_call 72; refine HPr.out.mono ?_; rintro e w2 ⟨rfl, hb2⟩)
   go_ret2
   rw [HF.out]
   exact ⟨rfl, hb1.trans (hb2.mono hb1.size)⟩
 ·have hlpos : 0 < d.length := List.length_pos_iff.2 hdn
  obtain ⟨gd, rfl⟩ : ∃ gd, A0 = some ⟨gd, 0, none⟩ := by
   obtain ⟨vs, ⟨h1, h2⟩, _⟩ := hd
   rcases h2 with ⟨hv, hn⟩ | ⟨g, cap, cur, hv, _⟩
   ·have := (Value.slice.inj hv).2.1; omega
   ·have := (Value.slice.inj hv).1; exact ⟨g, this⟩
  have hS0 : NState w.heap.size w1 gd d := hd.nm HNE.out
  clear hd
  go_wp2_with fail
  go_loopg [25] d.length (fun gk i wr => ∃ k : Nat, k ≤ d.length ∧ i = .int .i64 k ∧ Aside (k + gk = d.length) ∧ Below w.heap.size w wr ∧ NState w.heap.size wr gd (uptoF (partF L) d k) ∧ Aside (∀ y ∈ d.take k, ∀ z ∈ y, (avaK L z).1 = 0))
  case atStart => exact ⟨0, by omega, rfl, by show _ = _; omega, hb1, by rw [uptoF_zero]; exact hS0, fun y hy => by simp at hy⟩
  case round =>
   obtain ⟨k, hk, rfl, AG, hB, hS, AD⟩ := hrel
   obtain ⟨wo, hwo⟩ : ∃ wo, wo = wr := ⟨_, rfl⟩
   subst hwo
   by_cases hlt : k < d.length
   ·obtain ⟨q, rfl⟩ : ∃ q, gk = q + 1 := ⟨gk - 1, by have := AG.out; omega⟩
    obtain ⟨LM, hL, hNM⟩ := hS
    have hLlen : LM.length = d.length := by have := congrArg List.length hL; rw [List.length_map, uptoF_len] at this; exact this
    obtain ⟨⟨g, cap, p⟩, hLk⟩ : ∃ x, LM[k]? = some x := ⟨_, List.getElem?_eq_getElem (by omega)⟩
    have hpk : d[k] = p := by
     have h1 : (LM.map (·.2.2))[k]? = some p := by rw [List.getElem?_map, hLk]; rfl
     rw [hL, uptoF_at _ _ _ hlt] at h1
     exact Option.some.inj h1
    have hpm : p ∈ d := hpk ▸ List.getElem_mem hlt
    have hx := hNM.2.2.2 k _ hLk
    simp only at hx
    obtain ⟨x1, x2, x3, x4, x5, x6⟩ := hx
    obtain ⟨hp4, hpx⟩ := HSM.out p hpm
    have HL := hiD hL
    have HLK := hiD hLk
    have HPX := hiD hpx
    have HPK := hiD hpk
    have hgd := hNM.1
    clear hL hLk hpx hpk
    go_wp2_with fail
    go_loopg [32] p.length (fun gk i wi => ∃ j : Nat, j ≤ p.length ∧ i = .int .i64 j ∧ Aside (j + gk = p.length) ∧ wo.grownBy wi (some g) ∧ RowA wi g (uptoF (avaN L) p j) ∧ Aside (∀ y ∈ p.take j, (avaK L y).1 = 0))
    case atStart => exact ⟨0, by omega, rfl, by show _ = _; omega, World.grownBy.refl _ _, by rw [uptoF_zero]; exact x3, fun y hy => by simp at hy⟩
    case round =>
     obtain ⟨j, hj, rfl, AG2, hgi, hR, AP⟩ := hrel
     by_cases hjl : j < p.length
     ·obtain ⟨q2, rfl⟩ : ∃ q2, gk = q2 + 1 := ⟨gk - 1, by have := AG2.out; omega⟩
      have hAt := uptoF_at (avaN L) p j hjl
      have ha := hR.at2 hAt
      obtain ⟨d0, d1, z0, z1⟩ := ha
      obtain ⟨l64, l1024⟩ := HPX.out p[j] (List.getElem_mem hjl)
      have hlen := uptoF_len (avaN L) p j
      have HSU := hiD (uptoF_succ (avaN L) p j hjl)
      have HR := hiD hR
      have HGI := hiD hgi
      have hglt : g < wr.heap.size := cell_lt d0
      have hBr : Below w.heap.size w wr := hB.grown hgi hB.size (fun k hk => by cases hk; exact x5)
      have hBA := hBr.alloc hBr.size (.cells #[.string ⟨p[j].1.toArray⟩, .string ⟨p[j].2.toArray⟩] 123)
      have kA := Bk.new wr 123 #[.string ⟨p[j].1.toArray⟩, .string ⟨p[j].2.toArray⟩]
      have HBA := hiD hBA
      have HKA := hiD kA
      have HFAIL : Hid ((avaK L p[j]).1 ≠ 0 → keyS L x = ((avaK L p[j]).1, [])) := hiD fun h => HKF.out k hlt p j hjl HPK.out AD.out AP.out h
      clear hR hgi hBr hBA kA
      cases hf : findD L false p[j].1 with
      | none =>
       have hfail : keyS L x = (52, []) := by
        have he : (avaK L p[j]).1 = 52 := by rw [avaK_eq, normTy_none hf]
        rw [HFAIL.out (by rw [he]; decide), he]
       have HF := hiD hfail
       have HC := hiD (HAN.out p[j].1 _ HBA.out l64 hf)
       clear hfail hf
       go_wp2_with (go_at_call 20; refine HC.out.mono ?_; rintro e w2 ⟨rfl, hb2⟩)
       go_ret2
       rw [HF.out]
       exact ⟨rfl, HBA.out.trans ((hb2.alloc hb2.size _).mono HBA.out.size)⟩
      | some i =>
       obtain ⟨a, hca⟩ := HK.out _ _ hf
       have hnm : nameTy L p[j].1 = a.name := nameTy_of hf hca
       have hnl : a.name.length ≤ 1000000 := by rw [← hnm]; exact HNM.out _
       have hav : avaK L p[j] = ((normTy L p[j].1 p[j].2).1, (smallL a.name, (normTy L p[j].1 p[j].2).2)) := by rw [avaK_eq, hnm]
       have hNT := fun W h => HNT.out p[j].1 p[j].2 W h l64
       have HC := hiD (HAS.out p[j].1 i a _ HBA.out l64 hf hca)
       unfold attrV attrCells at HC
       generalize normTy L p[j].1 p[j].2 = nr at hav hNT
       obtain ⟨ne, ns⟩ := nr
       simp only at hav hNT
       have HNT2 := hiD hNT
       have HAV := hiD hav
       clear hNT hav hnm hf hca
       by_cases hne : ne = 0
       ·subst hne
        go_wp2_with (first | (go_at_call 20; refine HC.out.mono ?_; rintro e w2 ⟨A, n, c, rfl, hb2⟩; have kA2 := HKA.out.below hb2; have hB2 := HBA.out.trans (hb2.mono HBA.out.size); have f0 := fun z => (kA2.alloc z).cell 0; have f1 := fun z => (kA2.alloc z).cell 1; simp only [gs3] at f0 f1) | (go_at_call 21; refine (HNT2.out _ (hB2.alloc hB2.size _)).mono ?_; rintro e w4 ⟨rfl, hb4⟩; have hB4 := (hB2.alloc hB2.size _).trans (hb4.mono (hB2.alloc hB2.size _).size); have n4 := (hb4.cell (p := ⟨w2.heap.size, 1, none⟩) (by show w2.heap.size < _; rw [World.size_alloc]; omega)).trans ((Bk.new w2 _ _).cell 1); simp only [gs3] at n4; have g4 : wr.grownBy w4 none := World.grownBy.trans (World.grownBy_alloc _ _ _) (World.grownBy.trans (grown_below hb2 none) (World.grownBy.trans (World.grownBy_alloc _ _ _) (grown_below hb4 none)))) | (go_at_call 61; refine (Small_c _ _ (by omega)).mono ?_; rintro e w5 ⟨rfl, hb5⟩; have g5 := World.grownBy.trans g4 (grown_below hb5 none); have hR5 := HR.out.keep g5 (by simp); have ss := store_ava w5 g j _ hR5 (by omega); have s0 := (ss (.string ⟨(smallL a.name).toArray⟩)).1; have s1 := (ss (.string ⟨(smallL a.name).toArray⟩)).2.1; have s2 := (ss (.string ⟨(smallL a.name).toArray⟩)).2.2.1; have s3 := (ss (.string ⟨(smallL a.name).toArray⟩)).2.2.2))
        go_roundg q2
        case measure => omega
        case rel =>
         refine ⟨j + 1, by omega, by go_num, by have := AG2.out; show _ = _; omega, World.grownBy.trans HGI.out (World.grownBy.trans (grown_any g5 _) (World.grownBy.trans (setCell_grown _ _ _ _) (setCell_grown _ _ _ _))), ?_, ?_⟩
         ·have h := hR5.set (j := j) (by omega) (smallL a.name, ns)
          rw [← HSU.out, show avaN L p[j] = (smallL a.name, ns) by unfold avaN; rw [HAV.out]]
          exact h
         ·exact take_all_succ hjl AP.out (by rw [HAV.out])
       ·have hfail : keyS L x = (ne, []) := by
         have he : (avaK L p[j]).1 = ne := by rw [HAV.out]
         rw [HFAIL.out (by rw [he]; exact hne), he]
        have HF := hiD hfail
        have hq : ((ne : Int) != 0) = true := bne_iff_ne.2 hne
        clear hfail hne
        go_wp2_with (first | (go_at_call 20; refine HC.out.mono ?_; rintro e w2 ⟨A, n, c, rfl, hb2⟩; have kA2 := HKA.out.below hb2; have hB2 := HBA.out.trans (hb2.mono HBA.out.size); have f0 := fun z => (kA2.alloc z).cell 0; have f1 := fun z => (kA2.alloc z).cell 1; simp only [gs3] at f0 f1) | (go_at_call 21; refine (HNT2.out _ (hB2.alloc hB2.size _)).mono ?_; rintro e w4 ⟨rfl, hb4⟩))
        go_ret2
        rw [HF.out]
        exact ⟨rfl, (hB2.alloc hB2.size _).trans (hb4.mono (hB2.alloc hB2.size _).size)⟩
     ·obtain rfl : j = p.length := by omega
      have hRp : RowA wr g (p.map (avaN L)) := by rw [uptoF_all] at hR; exact hR
      have hPart := Part_c (p.map (avaN L)) g cap wr hRp (by simp; omega) (by simp; exact x4)
      rw [List.length_map] at hPart
      have hPart' : Calls Tryz.prog 71 #[.slice (some ⟨g, 0, none⟩) p.length cap] wr fun e w' => e = .returned (.slice (some ⟨g, 0, none⟩) (partF L p).length cap) ∧ RowA w' g (partF L p) ∧ wr.grownBy w' (some g) := hPart
      have hnl : (partF L p).length ≤ p.length := by have := partN_len (p.map (avaN L)); rw [List.length_map] at this; exact this
      have HGI := hiD hgi
      have HAP : Hid (∀ z ∈ p, (avaK L z).1 = 0) := hiD (by have := AP.out; rw [List.take_length] at this; exact this)
      clear hRp hPart hR hgi AP
      go_wp2_with fail
      refine hPart'.mono ?_
      rintro e w7 ⟨rfl, hR7, hg7⟩
      have g7 := World.grownBy.trans HGI.out hg7
      have c7 : w7.cell? ⟨gd, k, none⟩ = some (.slice (some ⟨g, 0, none⟩) p.length cap) := g7.cell x1 (by intro e; exact x6 (Option.some.inj e).symm)
      have z7 : w7.frozen? ⟨gd, k, none⟩ = false := (World.frozen?_of_block (a := ⟨gd, k, none⟩) (g7.block gd hgd (by intro e; exact x6 (Option.some.inj e).symm))).trans x2
      have hNM7 := hNM.part HLK.out g7 hR7 (Nat.le_trans hnl x4)
      have hB7 : Below w.heap.size w w7 := hB.grown g7 hB.size (fun k hk => by cases hk; exact x5)
      have hgdB := hNM.2.1
      have HNM7 := hiD hNM7
      have HB7 := hiD hB7
      clear hNM7 hB7
      go_wp2_with fail
      go_roundg q
      case measure => omega
      case rel =>
       refine ⟨k + 1, by omega, by go_num, by have := AG.out; show _ = _; omega, HB7.out.setCell hgdB _, ⟨_, ?_, HNM7.out⟩, ?_⟩
       ·rw [List.map_set, HL.out]
        show (uptoF (partF L) d k).set k (partF L p) = _
        rw [← HPK.out]
        exact uptoF_succ (partF L) d k hlt
       ·exact take_all_succ (P := fun y => ∀ z ∈ y, (avaK L z).1 = 0) hlt AD.out (by rw [HPK.out]; exact HAP.out)
   ·obtain rfl : k = d.length := by omega
    obtain ⟨LM, hL, hNM⟩ := hS
    rw [uptoF_all] at hL
    have hLlen : LM.length = d.length := by have := congrArg List.length hL; simpa using this
    have hall : ∀ y ∈ d, ∀ z ∈ y, (avaK L z).1 = 0 := by have := AD.out; rw [List.take_length] at this; exact this
    have hfin := HKO.out hall
    have hdr := hNM.dnR (c := c0) (by omega)
    rw [hL, hLlen] at hdr
    have hPr := Print_c (d.map (partF L)) (.slice (some ⟨gd, 0, none⟩) d.length c0) wo (hw.keep hB) hdr (by simp; omega) (fun p hp => by
     obtain ⟨p0, hp0, rfl⟩ := List.mem_map.1 hp
     obtain ⟨h4, hx⟩ := HSM.out p0 hp0
     have := partN_len (p0.map (avaN L))
     rw [List.length_map] at this
     refine ⟨by unfold partF; omega, fun x hx' => ?_⟩
     have := partN_mem _ x hx'
     obtain ⟨y, hy, rfl⟩ := List.mem_map.1 this
     show (smallL (nameTy L y.1)).length ≤ _
     rw [smallL_len]
     exact HNM.out _)
    rw [← hfin] at hPr
    obtain ⟨pr, hpr⟩ : ∃ pr, keyS L x = pr := ⟨_, rfl⟩
    rw [hpr] at hPr
    have HF := hiD hpr
    clear hpr
    obtain ⟨pe, ps⟩ := pr
    simp only [intStr] at hPr
    have HPr := hiD hPr
    clear hPr hdr hL hNM hfin hall AD
    go_wp2_with (go_at_call 72; refine HPr.out.mono ?_; rintro e w2 ⟨rfl, hb2⟩)
    go_ret2
    rw [HF.out]
    exact ⟨rfl, hB.trans (hb2.mono hB.size)⟩
open Go.RowKit
open Go.RowKit
theorem own_new {B : Nat} (w : World) (hB : B ≤ w.heap.size) (xs : LL) (hx : xs.length ≤ 1000000) : Own B (w.alloc (.cells (xs.map strV).toArray 9)) (.slice (some ⟨w.heap.size, 0, none⟩) xs.length xs.length) xs := by
 refine ⟨⟨by simp, .inr ⟨w.heap.size, xs.length, (xs.map strV).toArray, rfl, hB, heap_alloc_new w _, Nat.le_refl _, by unfold maxLen; omega, by simp, ?_⟩⟩, by rw [World.size_alloc]; omega⟩
 show (List.take (xs.length * 1) _) = _
 rw [List.take_of_length_le (by simp)]
theorem Base_w (w : World) : Calls Tryz.prog 27 #[] w fun e w' => e = .returned (.tuple #[.slice (some ⟨w.heap.size, 0, none⟩) 18 18, .slice (some ⟨w.heap.size + 1, 0, none⟩) 10 10]) ∧ (w.alloc (.cells (baseA.map strV).toArray 9)).alloc (.cells (baseC.map strV).toArray 9) = w' := by
 go_enter Tryz.func27, Tryz.ntmps27
 go_wp2_with fail
 go_ret2
 exact ⟨rfl, rfl⟩
theorem Base_c (w : World) : Calls Tryz.prog 27 #[] w fun e w' => e = .returned (.tuple #[.slice (some ⟨w.heap.size, 0, none⟩) 18 18, .slice (some ⟨w.heap.size + 1, 0, none⟩) 10 10]) ∧ Below w.heap.size w w' ∧ Own w.heap.size w' (.slice (some ⟨w.heap.size, 0, none⟩) 18 18) baseA ∧ Own (w.heap.size + 1) w' (.slice (some ⟨w.heap.size + 1, 0, none⟩) 10 10) baseC := by
 refine (Base_w w).mono ?_
 rintro e w' ⟨rfl, rfl⟩
 have h1 := own_new (B := w.heap.size) w (Nat.le_refl _) baseA (by decide)
 have h2 := own_new (B := w.heap.size + 1) (w.alloc (.cells (baseA.map strV).toArray 9)) (by rw [World.size_alloc]; omega) baseC (by decide)
 rw [World.size_alloc] at h2
 exact ⟨rfl, ((Below.refl _ _).alloc (Nat.le_refl _) _).alloc (by simp) _, h1.below ((Below.refl _ _).alloc (Nat.le_refl _) _), h2⟩
open Go.RowKit
structure Sound (L : List DefS) : Prop where
 says : NewSays L
 lim : ∀ d ∈ L, DefLim d
 rul : ∀ d ∈ L, RuleLim d
theorem Sound.counts {L : List DefS} (h : Sound L) (t : LU) (i : Nat) (hf : findD L false t = some i) : ∃ a, countsD L i = some a := by
 obtain ⟨d, hd, hc, _⟩ := findD_at hf
 exact h.says.counts hd hc
theorem newL_read {a c : LL} {L : List DefS} (h : newL a c = .inr L) : readAll a.length 0 (a ++ c) [] = .inr L := by
 unfold newL at h
 split at h
 ·cases h
 ·split at h
  ·cases h
  ·next L' hr =>
   split at h
   ·cases h
   ·split at h
    ·cases h
    ·split at h
     ·cases h
     ·cases h
      exact hr
theorem sound_of {a c : LL} {L : List DefS} (h : newL a c = .inr L) (hs : ∀ x ∈ a ++ c, x.length ≤ 1000000) : Sound L := by
 have hl := readAll_lim _ _ _ _ _ hs (fun d hd => by simp at hd) (newL_read h)
 exact ⟨newL_says h, fun d hd => (hl.1 d hd).1, fun d hd => (hl.1 d hd).2⟩
theorem base_short : ∀ x ∈ baseA ++ baseC, x.length ≤ 1000 := by decide +kernel
theorem baseA_len : baseA.length = 18 := rfl
theorem baseC_len : baseC.length = 10 := rfl
theorem base_sound : Sound baseL := sound_of base_new (fun x hx => Nat.le_trans (base_short x hx) (by decide))
theorem Key_c (s : Nat) (ps : List Nat) (L : List DefS) (hL : Sound L) (x : LU) (w : World) (hw : Env w) (hS : SchAt w s ps L) :
  Calls Tryz.prog 35 #[ptrV s, .string ⟨x.toArray⟩] w fun e w' => e = .returned (intStr (keyS L x)) ∧ Below w.heap.size w w' := by
 by_cases h : (parseL x).1 = 0
 ·exact Key_ok s ps L hL.lim hL.rul hL.counts x w hw hS (parseL x).2 (by rw [← h])
 ·exact Key_bad s L x w hw h
open Go.RowKit
def TextsA (w : World) (v : Value) (xs : LL) : Prop :=
 (xs = [] ∧ v = .slice none 0 0) ∨ ∃ (a : Addr) (c : Nat), v = .slice (some a) xs.length c ∧ xs.length ≤ c ∧ ∀ j (hj : j < xs.length), w.cell? (a.add j) = some (.string ⟨xs[j].toArray⟩)
theorem TextsA.below {w w' : World} {v : Value} {xs : LL} (h : TextsA w v xs) (hb : Below w.heap.size w w') : TextsA w' v xs := by
 rcases h with h | ⟨a, c, rfl, hc, hx⟩
 ·exact .inl h
 ·exact .inr ⟨a, c, rfl, hc, fun j hj => (hb.cell (cell_lt (hx j hj))).trans (hx j hj)⟩
theorem TextsA.at {w : World} {v : Value} {xs : LL} (h : TextsA w v xs) : ∃ A c, v = .slice A xs.length c ∧ xs.length ≤ c ∧ (∀ j (hj : j < xs.length), ∃ a, A = some a ∧ w.cell? (a.add j) = some (.string ⟨xs[j].toArray⟩)) := by
 rcases h with ⟨rfl, rfl⟩ | ⟨a, c, rfl, hc, hcell⟩
 ·exact ⟨_, _, rfl, Nat.zero_le _, fun j hj => by simp at hj⟩
 ·exact ⟨_, _, rfl, hc, fun j hj => ⟨a, rfl, hcell j hj⟩⟩
theorem own_moreA {ops : Array Oper} {rest : List Oper} {o : Oper} {a : Act} {Q : Exit → Act → World → Prop} {w : World} (hgd : o.guard = none) (s x : Operand) (ho : o.op = .call { callee := .builtin .append, args := #[s, x], argTypes := #[23, 23] })
  {v xv : Value} {xs ys : LL} {B : Nat} (hs : a.eval s = v) (hb : Own B w v xs)
  (hx : a.eval x = xv) (hy : TextsA w xv ys) (hlen : xs.length + ys.length < 4398046511104)
  (h : ∀ v' w', Own B w' v' (xs ++ ys) → w.grownBy w' v.ownBlock → wpList Tryz.prog ops Q rest (a.put o.dst v') w') : wpList Tryz.prog ops Q (o :: rest) a w := by
 obtain ⟨i, h1, h2, h3, h4⟩ := infoStr
 rcases hy with ⟨rfl, rfl⟩ | ⟨b, c, rfl, hc, hcell⟩
 ·refine wpList_append_own_none hgd s x 23 ho B 9 i 1 Tryz.underlying23 h1 v _ _ hs hb.1 hx ?_
  exact h v w (by simpa using hb) (World.grownBy.refl _ _)
 ·refine wpList_append_own _ hgd s x 23 ho B 9 i (.string ⟨#[]⟩) 1 16 Tryz.underlying23 h1 h2 h3 h4 rfl (by decide) v _ _ hs hb.1 b ys.length c (ys.map strV) hx (by simp) ?_ ?_ (by unfold maxLen; omega) (by omega) hb.2 ?_
  ·intro j u hj
   have hjl : j < ys.length := by simpa using (List.getElem?_eq_some_iff.1 hj).1
   rw [hcell j hjl]
   simp [hjl] at hj
   rw [← hj]; rfl
  ·intro u hu
   simp at hu
   obtain ⟨q, _, rfl⟩ := hu
   rfl
  ·intro v' w' ho' hg _
   exact h v' w' ⟨by simpa using ho', Nat.le_trans hb.2 hg.size⟩ hg
end Go.Proofs.YtkkbbhlihilnpaaGreatDoor
