/- Contracts: syntax.name: a part's pairs in their normal forms. -/
import Derived.Test.YtgpecklibcgifaaGreatDoorW6
import Derived.Outline
import Derived.Deep.RegionHeld3
set_option linter.all false
namespace Go.Proofs.YtgpecklibcgifaaGreatDoor
open Go.RowKit Go.Sort

def NormRet (w : World) (o : Option (List UInt8)) (e : Ending) (w' : World) : Prop :=
  Below w.heap.size w w' ∧ ∃ r, e = .returned (.tuple #[.string ⟨r.toArray⟩, .bool o.isSome]) ∧ ∀ m, o = some m → r = m
/-- A type written. -/
theorem RowA.setT {w : World} {g : Nat} {l : List (List UInt8 × List UInt8)} (h : RowA w g l) {j : Nat} (hj : j < l.length) (t : List UInt8) :
    RowA (w.setCell ⟨g, j * 2, none⟩ (.string ⟨t.toArray⟩)) g (l.set j (t, l[j].2)) := by
  have hc := h.at2 (List.getElem?_eq_getElem hj)
  refine ⟨by simp [World.setCell]; exact h.1, fun i y hi => ?_⟩
  rw [World.frozen?_setCell, World.frozen?_setCell]
  rw [List.getElem?_set] at hi
  by_cases hij : j = i
  · subst hij
    rw [if_pos rfl, if_pos hj] at hi
    cases hi
    rw [Nat.mul_comm 2 j]
    exact ⟨⟨set_same _ _ _ _ _ hc.1, hc.2.2.1⟩, (set_other _ _ _ _ _ (by omega)).trans hc.2.1, hc.2.2.2⟩
  · rw [if_neg hij] at hi
    have hx := h.2 i y hi
    exact ⟨⟨(set_other _ _ _ _ _ (by omega)).trans hx.1.1, hx.1.2⟩, (set_other _ _ _ _ _ (by omega)).trans hx.2.1, hx.2.2⟩
/-- A value written. -/
theorem RowA.setV {w : World} {g : Nat} {l : List (List UInt8 × List UInt8)} (h : RowA w g l) {j : Nat} (hj : j < l.length) (t : List UInt8) :
    RowA (w.setCell ⟨g, j * 2 + 1, none⟩ (.string ⟨t.toArray⟩)) g (l.set j (l[j].1, t)) := by
  have hc := h.at2 (List.getElem?_eq_getElem hj)
  refine ⟨by simp [World.setCell]; exact h.1, fun i y hi => ?_⟩
  rw [World.frozen?_setCell, World.frozen?_setCell]
  rw [List.getElem?_set] at hi
  by_cases hij : j = i
  · subst hij
    rw [if_pos rfl, if_pos hj] at hi
    cases hi
    rw [Nat.mul_comm 2 j]
    exact ⟨⟨(set_other _ _ _ _ _ (by omega)).trans hc.1, hc.2.2.1⟩, set_same _ _ _ _ _ hc.2.1, hc.2.2.2⟩
  · rw [if_neg hij] at hi
    have hx := h.2 i y hi
    exact ⟨⟨(set_other _ _ _ _ _ (by omega)).trans hx.1.1, hx.1.2⟩, (set_other _ _ _ _ _ (by omega)).trans hx.2.1, hx.2.2⟩
/-- The pairs under way: the first j are normal. -/
def upto (p : List (List UInt8 × List UInt8)) (j : Nat) : List (List UInt8 × List UInt8) := (p.take j).map normA ++ p.drop j
theorem upto_len (p : List (List UInt8 × List UInt8)) (j : Nat) : (upto p j).length = p.length := by simp [upto]; omega
theorem upto_at (p : List (List UInt8 × List UInt8)) (j : Nat) (h : j < p.length) : (upto p j)[j]? = some p[j] := by
  unfold upto
  rw [List.getElem?_append_right (by simp; omega)]
  simp [Nat.min_eq_left (Nat.le_of_lt h)]
theorem upto_succ (p : List (List UInt8 × List UInt8)) (j : Nat) (h : j < p.length) : (upto p j).set j (normA p[j]) = upto p (j + 1) := by
  have hl : ((p.take j).map normA).length = j := by simp; omega
  unfold upto
  rw [List.set_append_right _ _ (by omega), hl, Nat.sub_self, List.drop_eq_getElem_cons h, List.set_cons_zero, List.take_succ_eq_append_getElem h, List.map_append, List.append_assoc]
  rfl
theorem grown_any {w w' : World} (h : w.grownBy w' none) (r : Option Nat) : w.grownBy w' r := ⟨h.os, h.tape, h.output, h.size, fun k hk _ => h.block k hk (by simp)⟩
def NState (B : Nat) (w : World) (gd : Nat) (M : List (List (List UInt8 × List UInt8))) : Prop := ∃ L : List PartM, L.map (·.2.2) = M ∧ NM B w gd L

set_option maxRecDepth 100000 in
set_option maxHeartbeats 4000000 in
theorem name_no (s : List UInt8) (w : World) (hw : Env w) (her : (parseL s).1 ≠ 0) :
    Calls Tryz.prog 133 #[.string ⟨s.toArray⟩] w (NormRet w (nameN s)) := by
  have hP := Parse_c s w hw
  have hno : nameN s = none := by unfold nameN; rw [if_neg her]
  rw [hno]
  clear hno
  generalize parseL s = ps at *
  obtain ⟨er, d⟩ := ps
  have hbn : ((er : Int) != 0) = true := bne_iff_ne.2 her
  have HP := Lib.hid hP
  clear hP her
  go_enter Tryz.func133, Tryz.ntmps133
  go_wp2_with (go_at_call 37; refine HP.out.mono ?_; rintro e w1 ⟨hb1, v, rfl, hd⟩; obtain ⟨A0, c0, rfl, hc0⟩ := hd.isSlice)
  go_ret2
  exact ⟨hb1, _, rfl, by simp⟩

set_option maxRecDepth 100000 in
set_option maxHeartbeats 4000000 in
theorem name_ok (s : List UInt8) (w : World) (hw : Env w) (her : (parseL s).1 = 0) (htl : tooLongL (parseL s).2 = false) :
    Calls Tryz.prog 133 #[.string ⟨s.toArray⟩] w (NormRet w (nameN s)) := by
  have hP := Parse_c s w hw
  have hne := parseL_ne (s := s)
  have hty := parse_type (s := s)
  have hN : nameN s = (if (printL ((parseL s).2.map normP)).1 = 0 then some (printL ((parseL s).2.map normP)).2 else none) := by unfold nameN; rw [if_pos her]
  generalize parseL s = ps at *
  obtain ⟨er, d⟩ := ps
  simp only at hne hty hN her htl
  subst her
  have hbn : ((0 : Int) != 0) = false := by decide
  have HN := Lib.hid hN
  have HP := Lib.hid hP
  have HNE := Lib.hid hne
  have hd20 : d.length ≤ 20 := by unfold tooLongL at htl; simp at htl; omega
  have HSM : Hid (∀ p ∈ d, p.length ≤ 4 ∧ ∀ x ∈ p, x.1.length ≤ 64 ∧ x.2.length ≤ 1024) := by
    refine Lib.hid fun p hp => ?_
    unfold tooLongL at htl
    rw [Bool.or_eq_false_iff] at htl
    have h1 := List.any_eq_false.1 htl.2 p hp
    unfold rdnLongB at h1
    simp only [Bool.or_eq_true, decide_eq_true_eq, not_or] at h1
    refine ⟨by omega, fun x hx => ?_⟩
    have h2 : p.any avaLongB = false := by simpa using h1.2
    have h3 := List.any_eq_false.1 h2 x hx
    unfold avaLongB at h3
    simp at h3
    refine ⟨?_, h3⟩
    have h4 := hty p hp x hx
    unfold isTypeL at h4
    split at h4
    · simp at h4
    · next e => rw [e]; simp only [Bool.and_eq_true, decide_eq_true_eq] at h4; exact h4.1
  clear hN hP hne hty htl
  go_enter Tryz.func133, Tryz.ntmps133
  go_wp2_with fail
  refine HP.out.mono ?_
  rintro e w1 ⟨hb1, v, rfl, hd⟩
  change DnAt w.heap.size w1 v d at hd
  obtain ⟨A0, c0, rfl, hc0⟩ := hd.isSlice
  by_cases hdn : d = []
  · subst hdn
    have hPr := Print_c [] (.slice A0 0 c0) w1 (hw.keep hb1) hd.reads (by simp) (by simp)
    rw [show printL [] = (0, []) by decide] at hPr
    simp only [intStr] at hPr
    have HPr := Lib.hid hPr
    clear hPr
    simp only [List.length_nil]
    go_wp2_with fail
    go_loopg [22] 0 (fun gk i wr => i = .int .i64 0 ∧ wr = w1)
    case atStart => exact ⟨rfl, rfl⟩
    case round =>
      obtain ⟨rfl, rfl⟩ := hrel
      go_wp2_with (go_at_call 162; refine HPr.out.mono ?_; rintro e w2 ⟨rfl, hb2⟩)
      go_ret2
      rw [HN.out]
      exact ⟨hb1.trans (hb2.mono hb1.size), [], rfl, fun m h => by cases h; decide⟩
  · have hlpos : 0 < d.length := List.length_pos_iff.2 hdn
    obtain ⟨gd, rfl⟩ : ∃ gd, A0 = some ⟨gd, 0, none⟩ := by
      obtain ⟨vs, ⟨h1, h2⟩, _⟩ := hd
      rcases h2 with ⟨hv, hn⟩ | ⟨g, cap, cur, hv, _⟩
      · have := (Value.slice.inj hv).2.1; omega
      · have := (Value.slice.inj hv).1; exact ⟨g, this⟩
    have hS0 : NState w.heap.size w1 gd d := hd.nm HNE.out
    clear hd
    go_wp2_with fail
    go_loopg [22] d.length (fun gk i wr => ∃ k : Nat, k ≤ d.length ∧ i = .int .i64 k ∧ Aside (k + gk = d.length) ∧ Below w.heap.size w wr ∧ NState w.heap.size wr gd ((d.take k).map normP ++ d.drop k))
    case atStart => exact ⟨0, by omega, rfl, by show _ = _; omega, hb1, by simpa using hS0⟩
    case round =>
      obtain ⟨k, hk, rfl, AG, hB, hS⟩ := hrel
      obtain ⟨wo, hwo⟩ : ∃ wo, wo = wr := ⟨_, rfl⟩
      subst hwo
      by_cases hlt : k < d.length
      · obtain ⟨q, rfl⟩ : ∃ q, gk = q + 1 := ⟨gk - 1, by have := AG.out; omega⟩
        obtain ⟨L, hL, hNM⟩ := hS
        have hLlen : L.length = d.length := by have := congrArg List.length hL; simp at this; omega
        obtain ⟨⟨g, cap, p⟩, hLk⟩ : ∃ x, L[k]? = some x := ⟨_, List.getElem?_eq_getElem (by omega)⟩
        have hpk : d[k] = p := by
          have h1 : (L.map (·.2.2))[k]? = some p := by rw [List.getElem?_map, hLk]; rfl
          rw [hL, List.getElem?_append_right (by simp; omega)] at h1
          simp [Nat.min_eq_left hk, List.getElem?_eq_getElem hlt] at h1
          exact h1
        have hpm : p ∈ d := hpk ▸ List.getElem_mem hlt
        have hx := hNM.2.2.2 k _ hLk
        simp only at hx
        obtain ⟨x1, x2, x3, x4, x5, x6⟩ := hx
        obtain ⟨hp4, hpx⟩ := HSM.out p hpm
        have HL := Lib.hid hL
        have HLK := Lib.hid hLk
        have HPX := Lib.hid hpx
        have HPK := Lib.hid hpk
        have hgd := hNM.1
        clear hL hLk hpx hpk
        go_wp2_with fail
        go_loopg [29] p.length (fun gk i wi => ∃ j : Nat, j ≤ p.length ∧ i = .int .i64 j ∧ Aside (j + gk = p.length) ∧ wo.grownBy wi (some g) ∧ RowA wi g (upto p j))
        case atStart => exact ⟨0, by omega, rfl, by show _ = _; omega, World.grownBy.refl _ _, by simpa [upto] using x3⟩
        case round =>
          obtain ⟨j, hj, rfl, AG2, hgi, hR⟩ := hrel
          by_cases hjl : j < p.length
          · obtain ⟨q2, rfl⟩ : ∃ q2, gk = q2 + 1 := ⟨gk - 1, by have := AG2.out; omega⟩
            have ha := hR.at2 (upto_at p j hjl)
            obtain ⟨d0, d1, z0, z1⟩ := ha
            obtain ⟨l64, l1024⟩ := HPX.out p[j] (List.getElem_mem hjl)
            have hlen := upto_len p j
            have hsetT := fun t => RowA.setT (w := wr) hR (j := j) (by omega) t
            have hAt := upto_at p j hjl
            have HSU := Lib.hid (upto_succ p j hjl)
            have HAT := Lib.hid hAt
            have HR := Lib.hid hR
            have HGI := Lib.hid hgi
            have hnA : normA p[j] = (smallL p[j].1, (prepL p[j].2 true).getD p[j].2) := rfl
            have HNA := Lib.hid hnA
            clear hAt hsetT hnA hR hgi
            have hglt : g < wr.heap.size := cell_lt d0
            go_wp2_with fail
            have kA := Bk.new wr 85 #[.string ⟨p[j].1.toArray⟩, .string ⟨p[j].2.toArray⟩]
            have hgA := World.grownBy_alloc wr (.cells #[.string ⟨p[j].1.toArray⟩, .string ⟨p[j].2.toArray⟩] 85) none
            refine (Small_c _ _ (by omega)).mono ?_
            rintro e w4 ⟨rfl, hb4⟩
            have kA4 := kA.below hb4
            have g4 : wr.grownBy w4 none := World.grownBy.trans hgA ⟨hb4.os, hb4.tape, hb4.output, hb4.size, fun k hk _ => hb4.block k hk⟩
            have hR4 := HR.out.keep g4 (by simp)
            have ha4 := hR4.at2 HAT.out
            have c4 := ha4.1
            have z4 := ha4.2.2.1
            have f4 : (w4.setCell ⟨g, j * 2, none⟩ (.string ⟨(smallL p[j].1).toArray⟩)).cell? ⟨wr.heap.size, 1, none⟩ = some (.string ⟨p[j].2.toArray⟩) := (kA4.far (by omega) _).cell 1
            have hR5 := hR4.setT (j := j) (by omega) (smallL p[j].1)
            have g5 := World.grownBy.trans (grown_any g4 (some g)) (setCell_grown w4 g (j * 2) (.string ⟨(smallL p[j].1).toArray⟩))
            go_wp2_with fail
            generalize w4.setCell ⟨g, j * 2, none⟩ (.string ⟨(smallL p[j].1).toArray⟩) = w5 at *
            have hgj : (upto p j)[j]'(by omega) = p[j] := (List.getElem?_eq_some_iff.1 HAT.out).2
            rw [hgj] at hR5
            have hB5 : Below w.heap.size w w5 := (hB.grown HGI.out hB.size (fun k hk => by cases hk; exact x5)).grown g5 (Nat.le_trans hB.size HGI.out.size) (fun k hk => by cases hk; exact x5)
            have hPr := Prepare_c p[j].2 true w5 (hw.keep hB5) (by omega)
            have AG3 : Aside (j + 1 + q2 = p.length) := by have := AG2.out; show _ = _; omega
            have hj5 : j < ((upto p j).set j (smallL p[j].1, p[j].2)).length := by simp; omega
            have hg5 : g < w5.heap.size := hR5.1
            clear hgj c4 z4 hR4 ha4 g4 kA4 kA hgA hb4 f4 hB5
            cases hpp : prepL p[j].2 true with
            | none =>
              rw [hpp] at hPr
              have hfinA : normA p[j] = (smallL p[j].1, p[j].2) := by rw [HNA.out, hpp]; rfl
              have hsu := HSU.out
              rw [hfinA] at hsu
              have HSU2 := Lib.hid hsu
              simp only [strOr] at hPr
              clear hpp hfinA hsu
              refine hPr.mono ?_
              rintro e w6 ⟨rfl, hb6⟩
              have g6 : w5.grownBy w6 none := ⟨hb6.os, hb6.tape, hb6.output, hb6.size, fun k hk _ => hb6.block k hk⟩
              have hR6 := hR5.keep g6 (by simp)
              go_wp2_with fail
              go_roundg q2
              case measure => omega
              case rel => exact ⟨j + 1, by omega, by go_num, AG3.out, World.grownBy.trans HGI.out (World.grownBy.trans g5 (grown_any g6 _)), by rw [← HSU2.out]; exact hR6⟩
            | some t =>
              rw [hpp] at hPr
              have hfinA : normA p[j] = (smallL p[j].1, t) := by rw [HNA.out, hpp]; rfl
              have hsu := HSU.out
              rw [hfinA] at hsu
              have HSU2 := Lib.hid hsu
              simp only [strOr] at hPr
              clear hpp hfinA hsu
              refine hPr.mono ?_
              rintro e w6 ⟨rfl, hb6⟩
              have g6 : w5.grownBy w6 none := ⟨hb6.os, hb6.tape, hb6.output, hb6.size, fun k hk _ => hb6.block k hk⟩
              have hR6 := hR5.keep g6 (by simp)
              have ha6 := hR6.at2 (j := j) (List.getElem?_eq_getElem hj5)
              have c6 := ha6.2.1
              have z6 := ha6.2.2.2
              have hR7 := hR6.setV hj5 t
              simp only [List.getElem_set_self, List.set_set] at hR7
              have HR7 := Lib.hid hR7
              clear ha6 hR7 hR6 hR5
              go_wp2_with fail
              go_roundg q2
              case measure => omega
              case rel => exact ⟨j + 1, by omega, by go_num, AG3.out, World.grownBy.trans HGI.out (World.grownBy.trans g5 (World.grownBy.trans (grown_any g6 _) (setCell_grown _ _ _ _))), by rw [← HSU2.out]; exact HR7.out⟩
          · obtain rfl : j = p.length := by omega
            have hRp : RowA wr g (p.map normA) := by have := hR; unfold upto at this; simpa using this
            have hPart := Part_c (p.map normA) g cap wr hRp (by simp; omega) (by simp; exact x4)
            rw [List.length_map] at hPart
            have hPart' : Calls Tryz.prog 161 #[.slice (some ⟨g, 0, none⟩) p.length cap] wr fun e w' => e = .returned (.slice (some ⟨g, 0, none⟩) (normP p).length cap) ∧ RowA w' g (normP p) ∧ wr.grownBy w' (some g) := hPart
            have hnl : (normP p).length ≤ p.length := by have := partN_len (p.map normA); rw [List.length_map] at this; exact this
            have HGI := Lib.hid hgi
            clear hRp hPart hR hgi
            go_wp2_with fail
            refine hPart'.mono ?_
            rintro e w7 ⟨rfl, hR7, hg7⟩
            have g7 := World.grownBy.trans HGI.out hg7
            have c7 : w7.cell? ⟨gd, k, none⟩ = some (.slice (some ⟨g, 0, none⟩) p.length cap) := g7.cell x1 (by intro e; exact x6 (Option.some.inj e).symm)
            have z7 : w7.frozen? ⟨gd, k, none⟩ = false := (World.frozen?_of_block (a := ⟨gd, k, none⟩) (g7.block gd hgd (by intro e; exact x6 (Option.some.inj e).symm))).trans x2
            have hNM7 := hNM.part HLK.out g7 hR7 (Nat.le_trans hnl x4)
            have hB7 : Below w.heap.size w w7 := hB.grown g7 hB.size (fun k hk => by cases hk; exact x5)
            have hgdB := hNM.2.1
            have HNM7 := Lib.hid hNM7
            have HB7 := Lib.hid hB7
            clear hNM7 hB7
            go_wp2_with fail
            go_roundg q
            case measure => omega
            case rel =>
              refine ⟨k + 1, by omega, by go_num, by have := AG.out; show _ = _; omega, HB7.out.setCell hgdB _, _, ?_, HNM7.out⟩
              rw [List.map_set, HL.out]
              have hl1 : ((d.take k).map normP).length = k := by simp; omega
              rw [List.set_append_right _ _ (by omega), hl1, Nat.sub_self, List.drop_eq_getElem_cons hlt, List.set_cons_zero, List.take_succ_eq_append_getElem hlt, List.map_append, List.append_assoc, HPK.out]
              rfl
      · obtain rfl : k = d.length := by omega
        obtain ⟨L, hL, hNM⟩ := hS
        simp only [List.take_length, List.drop_length, List.append_nil] at hL
        have hLlen : L.length = d.length := by have := congrArg List.length hL; simpa using this
        have hdr := hNM.dnR (c := c0) (by omega)
        rw [hL, hLlen] at hdr
        have hPr := Print_c (d.map normP) (.slice (some ⟨gd, 0, none⟩) d.length c0) wo (hw.keep hB) hdr (by simp; omega) (fun p hp => by
          obtain ⟨p0, hp0, rfl⟩ := List.mem_map.1 hp
          obtain ⟨h4, hx⟩ := HSM.out p0 hp0
          have := partN_len (p0.map normA)
          rw [List.length_map] at this
          refine ⟨by unfold normP; omega, fun x hx' => ?_⟩
          have := partN_mem _ x hx'
          obtain ⟨y, hy, rfl⟩ := List.mem_map.1 this
          have := (hx y hy).1
          show (smallL y.1).length ≤ _
          rw [smallL_len]; omega)
        generalize printL (d.map normP) = pr at *
        obtain ⟨pe, ps⟩ := pr
        simp only [intStr] at hPr
        have HPr := Lib.hid hPr
        clear hPr hdr hL hNM
        by_cases hpe : pe = 0
        · subst hpe
          go_wp2_with (go_at_call 162; refine HPr.out.mono ?_; rintro e w2 ⟨rfl, hb2⟩)
          go_ret2
          rw [HN.out]
          exact ⟨hB.trans (hb2.mono hB.size), ps, rfl, fun m h => by simp at h; exact h⟩
        · have hq : ((pe : Int) == 0) = false := beq_eq_false_iff_ne.2 hpe
          go_wp2_with (go_at_call 162; refine HPr.out.mono ?_; rintro e w2 ⟨rfl, hb2⟩)
          go_ret2
          rw [HN.out]
          exact ⟨hB.trans (hb2.mono hB.size), ps, by simp [hpe], fun m h => by simp [hpe] at h⟩
end Go.Proofs.YtgpecklibcgifaaGreatDoor
/- Contracts: syntax.Valid. -/
namespace Go.Proofs.YtgpecklibcgifaaGreatDoor
open Go.RowKit Go.Sort

def kTrue : List UInt8 := [84, 82, 85, 69]
def kFalse : List UInt8 := [70, 65, 76, 83, 69]
def boolL (v : List UInt8) : Bool := v == kTrue || v == kFalse
def textL (v : List UInt8) : Bool := !v.isEmpty && (prepL v false).isSome
/-- syntax.Valid behind its test of the length. -/
def formOk (f v : List UInt8) : Bool :=
  if f = fOctets then true
  else if f = fText then textL v
  else if f = fAscii then asciiL v
  else if f = fInteger then intL v
  else if f = fBoolean then boolL v
  else if f = fName then (parseL v).1 == 0
  else if f = fOid then isTypeL v
  else if f = fTime then timeL v
  else false
/-- syntax.Valid -/
def validL (f v : List UInt8) : Bool := decide (v.length ≤ 1024) && formOk f v
section
variable (f v : List UInt8) (w : World) (hw : Env w) (hv : v.length ≤ 1024)
def ValidSays (f v : List UInt8) (w : World) (b : Bool) : Prop :=
  Calls Tryz.prog 13 #[.string ⟨f.toArray⟩, .string ⟨v.toArray⟩] w fun e w' => e = .returned (.bool b) ∧ Below w.heap.size w w'
set_option maxRecDepth 100000
set_option maxHeartbeats 1000000
theorem Valid_long (hv : ¬ v.length ≤ 1024) : ValidSays f v w false := by
  unfold ValidSays
  have hv' : 1024 < v.length := by omega
  go_enter Tryz.func13, Tryz.ntmps13
  go_wp2
  go_ret
  exact ⟨rfl, Below.refl _ _⟩
include hv
theorem Valid_1 (e1 : (f == [111, 99, 116, 101, 116, 115]) = true) : ValidSays f v w true := by
  unfold ValidSays
  go_enter Tryz.func13, Tryz.ntmps13
  go_wp2
  go_ret
  exact ⟨rfl, Below.refl _ _⟩
theorem Valid_3 (e1 : (f == [111, 99, 116, 101, 116, 115]) = false) (e2 : (f == [116, 101, 120, 116]) = false) (e3 : (f == [97, 115, 99, 105, 105]) = true) : ValidSays f v w (asciiL v) := by
  unfold ValidSays
  go_enter Tryz.func13, Tryz.ntmps13
  go_wp2_with (go_at_call 35; refine (isASCII_c v _ hv).mono ?_; rintro e w' ⟨rfl, rfl⟩)
  go_ret
  exact ⟨rfl, Below.refl _ _⟩
theorem Valid_4 (e1 : (f == [111, 99, 116, 101, 116, 115]) = false) (e2 : (f == [116, 101, 120, 116]) = false) (e3 : (f == [97, 115, 99, 105, 105]) = false) (e4 : (f == [105, 110, 116, 101, 103, 101, 114]) = true) : ValidSays f v w (intL v) := by
  unfold ValidSays
  go_enter Tryz.func13, Tryz.ntmps13
  go_wp2_with (go_at_call 36; refine (isInteger_c v _ (by omega)).mono ?_; rintro e w' ⟨rfl, hb⟩)
  go_ret
  exact ⟨rfl, hb⟩
theorem Valid_5 (e1 : (f == [111, 99, 116, 101, 116, 115]) = false) (e2 : (f == [116, 101, 120, 116]) = false) (e3 : (f == [97, 115, 99, 105, 105]) = false) (e4 : (f == [105, 110, 116, 101, 103, 101, 114]) = false) (e5 : (f == [98, 111, 111, 108, 101, 97, 110]) = true) : ValidSays f v w (boolL v) := by
  unfold ValidSays boolL
  cases h1 : v == [84, 82, 85, 69] <;> cases h2 : v == [70, 65, 76, 83, 69]
  all_goals
    have h1' : (v == kTrue) = _ := h1
    have h2' : (v == kFalse) = _ := h2
    rw [h1', h2']
    clear h1' h2'
    go_enter Tryz.func13, Tryz.ntmps13
    go_wp2
    go_ret
    exact ⟨rfl, Below.refl _ _⟩
theorem Valid_8 (e1 : (f == [111, 99, 116, 101, 116, 115]) = false) (e2 : (f == [116, 101, 120, 116]) = false) (e3 : (f == [97, 115, 99, 105, 105]) = false) (e4 : (f == [105, 110, 116, 101, 103, 101, 114]) = false) (e5 : (f == [98, 111, 111, 108, 101, 97, 110]) = false) (e6 : (f == [110, 97, 109, 101]) = false) (e7 : (f == [111, 105, 100]) = false) (e8 : (f == [116, 105, 109, 101]) = true) : ValidSays f v w (timeL v) := by
  unfold ValidSays
  go_enter Tryz.func13, Tryz.ntmps13
  go_wp2_with (go_at_call 39; refine (isTime_c v _ (by omega)).mono ?_; rintro e w' ⟨rfl, hb⟩)
  go_ret
  exact ⟨rfl, hb⟩
theorem Valid_9 (e1 : (f == [111, 99, 116, 101, 116, 115]) = false) (e2 : (f == [116, 101, 120, 116]) = false) (e3 : (f == [97, 115, 99, 105, 105]) = false) (e4 : (f == [105, 110, 116, 101, 103, 101, 114]) = false) (e5 : (f == [98, 111, 111, 108, 101, 97, 110]) = false) (e6 : (f == [110, 97, 109, 101]) = false) (e7 : (f == [111, 105, 100]) = false) (e8 : (f == [116, 105, 109, 101]) = false) : ValidSays f v w false := by
  unfold ValidSays
  go_enter Tryz.func13, Tryz.ntmps13
  go_wp2
  go_ret
  exact ⟨rfl, Below.refl _ _⟩
include hw
theorem Valid_2 (e1 : (f == [111, 99, 116, 101, 116, 115]) = false) (e2 : (f == [116, 101, 120, 116]) = true) : ValidSays f v w (textL v) := by
  unfold ValidSays textL
  have hP := Prepare_c v false w hw (by omega)
  cases hp : prepL v false <;> cases hn : v.isEmpty
  all_goals
    rw [hp] at hP
    simp only [strOr] at hP
    go_enter Tryz.func13, Tryz.ntmps13
    go_wp2_with (go_at_call 34; refine hP.mono ?_; rintro e w' ⟨rfl, hb⟩)
    go_ret
    exact ⟨rfl, hb⟩
theorem Valid_6 (e1 : (f == [111, 99, 116, 101, 116, 115]) = false) (e2 : (f == [116, 101, 120, 116]) = false) (e3 : (f == [97, 115, 99, 105, 105]) = false) (e4 : (f == [105, 110, 116, 101, 103, 101, 114]) = false) (e5 : (f == [98, 111, 111, 108, 101, 97, 110]) = false) (e6 : (f == [110, 97, 109, 101]) = true) : ValidSays f v w ((parseL v).1 == 0) := by
  unfold ValidSays
  have hP := Parse_c v w hw
  generalize parseL v = ps at *
  obtain ⟨er, d⟩ := ps
  have HP := Lib.hid hP
  clear hP
  go_enter Tryz.func13, Tryz.ntmps13
  go_wp2_with (go_at_call 37; refine HP.out.mono ?_; rintro e w1 ⟨hb1, v, rfl, hd⟩; obtain ⟨A0, c0, rfl, hc0⟩ := hd.isSlice)
  go_ret
  exact ⟨rfl, hb1⟩
theorem Valid_7 (e1 : (f == [111, 99, 116, 101, 116, 115]) = false) (e2 : (f == [116, 101, 120, 116]) = false) (e3 : (f == [97, 115, 99, 105, 105]) = false) (e4 : (f == [105, 110, 116, 101, 103, 101, 114]) = false) (e5 : (f == [98, 111, 111, 108, 101, 97, 110]) = false) (e6 : (f == [110, 97, 109, 101]) = false) (e7 : (f == [111, 105, 100]) = true) : ValidSays f v w (isTypeL v) := by
  unfold ValidSays
  go_enter Tryz.func13, Tryz.ntmps13
  go_wp2_with (go_at_call 38; refine (IsType_c v _ hw (by omega)).mono ?_; rintro e w' ⟨rfl, hb⟩)
  go_ret
  exact ⟨rfl, hb⟩
end
theorem Valid_c (f v : List UInt8) (w : World) (hw : Env w) :
    Calls Tryz.prog 13 #[.string ⟨f.toArray⟩, .string ⟨v.toArray⟩] w fun e w' => e = .returned (.bool (validL f v)) ∧ Below w.heap.size w w' := by
  change ValidSays f v w (validL f v)
  unfold validL
  by_cases hv : v.length ≤ 1024
  · rw [decide_eq_true hv, Bool.true_and]
    have no : ∀ l : List UInt8, f ≠ l → (f == l) = false := fun l h => beq_eq_false_iff_ne.2 h
    have ye : ∀ l : List UInt8, f = l → (f == l) = true := fun l h => beq_iff_eq.2 h
    unfold formOk
    by_cases h1 : f = fOctets
    · rw [if_pos h1]; exact Valid_1 f v w hv (ye _ h1)
    rw [if_neg h1]
    by_cases h2 : f = fText
    · rw [if_pos h2]; exact Valid_2 f v w hw hv (no _ h1) (ye _ h2)
    rw [if_neg h2]
    by_cases h3 : f = fAscii
    · rw [if_pos h3]; exact Valid_3 f v w hv (no _ h1) (no _ h2) (ye _ h3)
    rw [if_neg h3]
    by_cases h4 : f = fInteger
    · rw [if_pos h4]; exact Valid_4 f v w hv (no _ h1) (no _ h2) (no _ h3) (ye _ h4)
    rw [if_neg h4]
    by_cases h5 : f = fBoolean
    · rw [if_pos h5]; exact Valid_5 f v w hv (no _ h1) (no _ h2) (no _ h3) (no _ h4) (ye _ h5)
    rw [if_neg h5]
    by_cases h6 : f = fName
    · rw [if_pos h6]; exact Valid_6 f v w hw hv (no _ h1) (no _ h2) (no _ h3) (no _ h4) (no _ h5) (ye _ h6)
    rw [if_neg h6]
    by_cases h7 : f = fOid
    · rw [if_pos h7]; exact Valid_7 f v w hw hv (no _ h1) (no _ h2) (no _ h3) (no _ h4) (no _ h5) (no _ h6) (ye _ h7)
    rw [if_neg h7]
    by_cases h8 : f = fTime
    · rw [if_pos h8]; exact Valid_8 f v w hv (no _ h1) (no _ h2) (no _ h3) (no _ h4) (no _ h5) (no _ h6) (no _ h7) (ye _ h8)
    rw [if_neg h8]
    exact Valid_9 f v w hv (no _ h1) (no _ h2) (no _ h3) (no _ h4) (no _ h5) (no _ h6) (no _ h7) (no _ h8)
  · rw [decide_eq_false hv, Bool.false_and]
    exact Valid_long f v w hv
end Go.Proofs.YtgpecklibcgifaaGreatDoor
/- Contracts: the functions of normal forms; normal$1 over a row's forms. -/
namespace Go.Proofs.YtgpecklibcgifaaGreatDoor
open Go.RowKit Go.Sort

theorem self_c (v : List UInt8) (w : World) : Calls Tryz.prog 131 #[.string ⟨v.toArray⟩] w (NormRet w (some v)) := by
  go_enter Tryz.func131, Tryz.ntmps131
  go_wp2
  go_ret2
  exact ⟨Below.refl _ _, v, rfl, fun m h => by cases h; rfl⟩
theorem oid_c (v : List UInt8) (w : World) (hv : v.length ≤ 1024) : Calls Tryz.prog 134 #[.string ⟨v.toArray⟩] w (NormRet w (some (smallL v))) := by
  go_enter Tryz.func134, Tryz.ntmps134
  go_wp2_with (go_at_call 91; refine (Small_c v _ (by omega)).mono ?_; rintro e w' ⟨rfl, hb⟩)
  go_ret2
  exact ⟨hb, _, rfl, fun m h => by cases h; rfl⟩
theorem text1_c (v : List UInt8) (fold : Bool) (a : Nat) (w : World) (hw : Env w) (hc : w.cell? ⟨a, 0, none⟩ = some (.bool fold)) (hv : v.length ≤ 1024) :
    Calls Tryz.prog 160 #[.string ⟨v.toArray⟩, .pointer (some ⟨a, 0, none⟩)] w (NormRet w (prepL v fold)) := by
  have hP := Prepare_c v fold w hw (by omega)
  cases hp : prepL v fold
  · rw [hp] at hP
    clear hp
    simp only [strOr] at hP
    go_enter Tryz.func160, Tryz.ntmps160
    go_wp2_with (go_at_call 34; refine hP.mono ?_; rintro e w' ⟨rfl, hb⟩)
    go_ret2
    exact ⟨hb, [], rfl, fun m h => by cases h⟩
  · rw [hp] at hP
    clear hp
    simp only [strOr] at hP
    go_enter Tryz.func160, Tryz.ntmps160
    go_wp2_with (go_at_call 34; refine hP.mono ?_; rintro e w' ⟨rfl, hb⟩)
    go_ret2
    exact ⟨hb, _, rfl, fun m h => by cases h; rfl⟩
theorem name_c (s : List UInt8) (w : World) (hw : Env w) : Calls Tryz.prog 133 #[.string ⟨s.toArray⟩] w (NormRet w (nameN s)) := by
  by_cases her : (parseL s).1 = 0
  · refine name_ok s w hw her ?_
    unfold parseL at her ⊢
    split at her
    · simp at her
    · next h1 =>
      rw [if_neg h1]
      split at her
      · simp at her
      · next d hd =>
        split at her
        · simp at her
        · next h2 => simp only [hd, if_neg h2]; simpa using h2
  · exact name_no s w hw her
theorem normal1_c (f v : List UInt8) (a : Nat) (w : World) (hw : Env w) (hc : w.cell? ⟨a, 0, none⟩ = some (.string ⟨v.toArray⟩)) :
    Calls Tryz.prog 73 #[.string ⟨f.toArray⟩, .pointer (some ⟨a, 0, none⟩)] w fun e w' => e = .returned (.bool (validL f v)) ∧ Below w.heap.size w w' := by
  have hV := Valid_c f v w hw
  generalize validL f v = b at *
  go_enter Tryz.func73, Tryz.ntmps73
  go_wp2_with (go_at_call 13; refine hV.mono ?_; rintro e w' ⟨rfl, hb⟩)
  go_ret
  exact ⟨rfl, hb⟩
set_option maxRecDepth 10000 in
set_option maxHeartbeats 1000000 in
theorem forms_idx (p : List (List UInt8)) (v : Value) (w : World) (hv : Texts w v p) (hl : p.length ≤ 1000000) (a : Nat) (P : List UInt8 → Bool)
    (hF : ∀ x ∈ p, ∀ W, Below w.heap.size w W → Calls Tryz.prog 73 #[.string ⟨x.toArray⟩, .pointer (some ⟨a, 0, none⟩)] W fun e W' => e = .returned (.bool (P x)) ∧ Below W.heap.size W W') :
    Calls Tryz.prog 119 #[v, .func (.func 73) #[] #[.pointer (some ⟨a, 0, none⟩)]] w fun e w' => (∃ i : Int, e = .returned (.int .i64 i) ∧ decide (0 ≤ i) = p.any P) ∧ Below w.heap.size w w' := by
  have HF := Lib.hid hF
  clear hF
  obtain ⟨A, c, rfl, hc, hx⟩ : ∃ A c, v = .slice A p.length c ∧ p.length ≤ c ∧ (p = [] ∨ ∃ g, A = some ⟨g, 0, none⟩ ∧ g < w.heap.size ∧ ∀ j (hj : j < p.length), w.cell? ⟨g, j, none⟩ = some (.string ⟨p[j].toArray⟩)) := by
    rcases hv with ⟨rfl, rfl⟩ | ⟨b, c, rfl, h1, h2, h3⟩
    · exact ⟨none, 0, rfl, Nat.le_refl _, .inl rfl⟩
    · exact ⟨_, c, rfl, h1, .inr ⟨b, rfl, h2, h3⟩⟩
  have HX := Lib.hid hx
  clear hx
  go_enter Tryz.func119, Tryz.ntmps119
  go_wp2_with fail
  go_loopg [8] p.length (fun gk i wr => ∃ k : Nat, k ≤ p.length ∧ i = .int .i64 k ∧ Aside (k + gk = p.length) ∧ Below w.heap.size w wr ∧ Aside (p.any P = (p.drop k).any P))
  case atStart => exact ⟨0, by omega, rfl, by show _ = _; omega, Below.refl _ _, rfl⟩
  case round =>
    obtain ⟨k, hk, rfl, AG, hB, AS⟩ := hrel
    by_cases hlt : k < p.length
    · obtain ⟨q, rfl⟩ : ∃ q, gk = q + 1 := ⟨gk - 1, by have := AG.out; omega⟩
      obtain ⟨g, rfl, hg, hcells⟩ := HX.out.resolve_left (by intro h; rw [h] at hlt; simp at hlt)
      have AS' : Aside (p.any P = (P p[k] || (p.drop (k + 1)).any P)) := by have := AS.out; rw [List.drop_eq_getElem_cons hlt] at this; exact this
      have c0 : wr.cell? ⟨g, k, none⟩ = some (.string ⟨p[k].toArray⟩) := (hB.cell (p := ⟨g, k, none⟩) hg).trans (hcells k hlt)
      have HC : Hid (∀ W, Below w.heap.size w W → Calls Tryz.prog 73 #[.string ⟨p[k].toArray⟩, .pointer (some ⟨a, 0, none⟩)] W fun e W' => e = .returned (.bool (P p[k])) ∧ Below W.heap.size W W') := fun W hW => HF.out p[k] (List.getElem_mem hlt) W hW
      clear hcells AS
      cases hP : P p[k]
      · have HP := Lib.hid hP
        have HC' := HC.out
        rw [hP] at HC'
        have HC2 := Lib.hid HC'
        clear hP HC HC'
        go_wp2_with (go_at_call 73; refine (HC2.out _ hB).mono ?_; rintro e w2 ⟨rfl, hb2⟩)
        go_roundg q
        case measure => omega
        case rel => exact ⟨k + 1, by omega, by go_num, by have := AG.out; show _ = _; omega, hB.trans (hb2.mono hB.size), by have := AS'.out; rw [HP.out] at this; exact this⟩
      · have HP := Lib.hid hP
        have HC' := HC.out
        rw [hP] at HC'
        have HC2 := Lib.hid HC'
        clear hP HC HC'
        go_wp2_with (go_at_call 73; refine (HC2.out _ hB).mono ?_; rintro e w2 ⟨rfl, hb2⟩)
        go_ret
        exact ⟨⟨k, rfl, by rw [AS'.out, HP.out]; simp⟩, hB.trans (hb2.mono hB.size)⟩
    · obtain rfl : k = p.length := by omega
      have hs : p.any P = false := by have := AS.out; rw [List.drop_length] at this; exact this
      have Hs := Lib.hid hs
      clear hs AS
      go_wp2_with fail
      go_ret
      exact ⟨⟨-1, rfl, by rw [Hs.out]; rfl⟩, hB⟩
set_option maxHeartbeats 400000 in
theorem forms_any (p : List (List UInt8)) (v : Value) (w : World) (hv : Texts w v p) (hl : p.length ≤ 1000000) (a : Nat) (P : List UInt8 → Bool)
    (hF : ∀ x ∈ p, ∀ W, Below w.heap.size w W → Calls Tryz.prog 73 #[.string ⟨x.toArray⟩, .pointer (some ⟨a, 0, none⟩)] W fun e W' => e = .returned (.bool (P x)) ∧ Below W.heap.size W W') :
    Calls Tryz.prog 72 #[v, .func (.func 73) #[] #[.pointer (some ⟨a, 0, none⟩)]] w fun e w' => e = .returned (.bool (p.any P)) ∧ Below w.heap.size w w' := by
  have hI := forms_idx p v w hv hl a P hF
  obtain ⟨A0, n0, c0, rfl⟩ := hv.isSlice
  clear hF hv
  go_enter Tryz.func72, Tryz.ntmps72
  go_wp2_with (go_at_call 119; refine hI.mono ?_; rintro e w1 ⟨⟨i, rfl, hi⟩, hb1⟩; have Hi := Lib.hid hi; clear hi)
  all_goals
    go_ret
    exact ⟨retb (by rw [← Hi.out]), hb1⟩
end Go.Proofs.YtgpecklibcgifaaGreatDoor
/- Contracts: a value's normal form by a rule. (Printed by gen_norm.py.) -/
namespace Go.Proofs.YtgpecklibcgifaaGreatDoor
open Go.RowKit Go.Sort

abbrev RowT := List UInt8 × Int × List (List UInt8) × NormFn
def applyN : NormFn → List UInt8 → Option (List UInt8)
  | .self, v => some v
  | .text fold, v => prepL v fold
  | .name, v => nameN v
  | .oid, v => some (smallL v)
/-- (*row).normal -/
def normS (x : RowT) (v : List UInt8) : Option (List UInt8) := if decide (v.length ≤ 1024) && x.2.2.1.any (fun f => validL f v) then applyN x.2.2.2 v else none
def NormalRet (w : World) (o : Option (List UInt8)) (e : Ending) (w' : World) : Prop := e = .returned (strOr 40 o) ∧ Below w.heap.size w w'

set_option maxRecDepth 100000 in
set_option maxHeartbeats 1000000 in
theorem normal_long (x : RowT) (b : Nat) (v : List UInt8) (w : World) (h : RowAt w b x) (hv : ¬ v.length ≤ 1024) :
    Calls Tryz.prog 40 #[.pointer (some ⟨b, 0, none⟩), .string ⟨v.toArray⟩] w (NormalRet w none) := by
  have hv' : 1024 < v.length := by omega
  clear h
  go_enter Tryz.func40, Tryz.ntmps40
  go_wp2
  go_ret2
  exact ⟨rfl, (Below.refl _ _).alloc (Nat.le_refl _) _⟩
theorem RowAt.any {w W : World} {b : Nat} {x : RowT} {v : List UInt8} (h : RowAt w b x) (hfl : x.2.2.1.length ≤ 2) (hw : Env w) (hW : W = w.alloc (.cells #[.string ⟨v.toArray⟩] 9)) {fA : Option Addr} {fN fC : Nat} (hT : Texts w (.slice fA fN fC) x.2.2.1) :
    Calls Tryz.prog 72 #[.slice fA fN fC, .func (.func 73) #[] #[.pointer (some ⟨w.heap.size, 0, none⟩)]] W fun e w' => e = .returned (.bool (x.2.2.1.any (fun f => validL f v))) ∧ Below W.heap.size W w' := by
  subst hW
  have hb := (Below.refl w.heap.size w).alloc (Nat.le_refl _) (.cells #[.string ⟨v.toArray⟩] 9)
  have hc := Bk.new w 9 #[.string ⟨v.toArray⟩]
  exact forms_any x.2.2.1 _ _ (hT.below hb) (by omega) w.heap.size (fun f => validL f v) (fun f _ W' hB => normal1_c f v w.heap.size W' ((hw.keep hb).keep hB) ((hc.below hB).cell 0))
set_option maxRecDepth 100000 in
set_option maxHeartbeats 1000000 in
theorem normal_none (x : RowT) (b : Nat) (v : List UInt8) (w : World) (hw : Env w) (h : RowAt w b x) (hfl : x.2.2.1.length ≤ 2) (hv : v.length ≤ 1024) (ha : x.2.2.1.any (fun f => validL f v) = false) :
    Calls Tryz.prog 40 #[.pointer (some ⟨b, 0, none⟩), .string ⟨v.toArray⟩] w (NormalRet w none) := by
  have hlt := h.lt
  have h0 := h
  obtain ⟨fA, fN, fC, nF, n1, n2, h1, h2, h3⟩ := h
  have hA := h0.any (v := v) hfl hw rfl h2
  rw [ha] at hA
  have hcell : (w.alloc (.cells #[.string ⟨v.toArray⟩] 9)).cell? ⟨b, 2, none⟩ = some (.slice fA fN fC) := (World.cell?_alloc_lt _ _ _ hlt).trans (by simp [World.cell?, h1])
  have hmf := mkFunc
  clear h0 h1 h2 h3 ha
  go_enter Tryz.func40, Tryz.ntmps40
  go_wp2_with (go_at_call 72; refine hA.mono ?_; rintro e w2 ⟨rfl, hb2⟩)
  go_ret2
  exact ⟨rfl, ((Below.refl _ _).alloc (Nat.le_refl _) _).trans (hb2.mono (by simp))⟩

set_option maxRecDepth 100000 in
set_option maxHeartbeats 2000000 in
theorem normal_self (x : RowT) (b : Nat) (v : List UInt8) (w : World) (hw : Env w) (h : RowAt w b x) (hfl : x.2.2.1.length ≤ 2) (hv : v.length ≤ 1024) (ha : x.2.2.1.any (fun f => validL f v) = true) (hn : x.2.2.2 = NormFn.self) (o : Option (List UInt8)) (ho : o = some v) :
    Calls Tryz.prog 40 #[.pointer (some ⟨b, 0, none⟩), .string ⟨v.toArray⟩] w (NormalRet w o) := by
  have hlt := h.lt
  have h0 := h
  obtain ⟨fA, fN, fC, nF, n1, n2, h1, h2, h3⟩ := h
  have hA := h0.any (v := v) hfl hw rfl h2
  rw [ha] at hA
  rw [hn] at h3
  obtain ⟨rfl, rfl, rfl⟩ : nF = .func 131 ∧ n1 = #[] ∧ n2 = #[] := by have h3' : Value.func nF n1 n2 = .func (.func 131) #[] #[] := h3; cases h3'; exact ⟨rfl, rfl, rfl⟩
  have hbw := (Below.refl w.heap.size w).alloc (Nat.le_refl _) (.cells #[.string ⟨v.toArray⟩] 9)
  have kV := Bk.new w 9 #[.string ⟨v.toArray⟩]
  have HC : Hid (∀ W, Below w.heap.size w W → Calls Tryz.prog 131 #[.string ⟨v.toArray⟩] W (NormRet W o)) := Lib.hid fun W hW => by rw [ho]; exact self_c v W
  have hcell : (w.alloc (.cells #[.string ⟨v.toArray⟩] 9)).cell? ⟨b, 2, none⟩ = some (.slice fA fN fC) := (World.cell?_alloc_lt _ _ _ hlt).trans (by simp [World.cell?, h1])
  have hcell3 : (w.alloc (.cells #[.string ⟨v.toArray⟩] 9)).cell? ⟨b, 3, none⟩ = some (.func (.func 131) #[] #[]) := (World.cell?_alloc_lt _ _ _ hlt).trans (by simp [World.cell?, h1])
  have hsz : (w.alloc (.cells #[.string ⟨v.toArray⟩] 9)).heap.size = w.heap.size + 1 := by simp
  have HSZ := Lib.hid hsz
  have HC3 := Lib.hid hcell3
  have HKV := Lib.hid kV
  have hmf := mkFunc
  have HO := Lib.hid ho
  clear h0 h1 h2 h3 ha hn ho hsz hcell3 kV
  go_enter Tryz.func40, Tryz.ntmps40
  go_wp2_with (go_at_call 72; refine hA.mono ?_; rintro e w2 ⟨rfl, hb2⟩)
  have f1 : w2.cell? ⟨b, 3, none⟩ = some (.func (.func 131) #[] #[]) := (hb2.cell (p := ⟨b, 3, none⟩) (by have := HSZ.out; simp; omega)).trans HC3.out
  have f2 : w2.cell? ⟨w.heap.size, 0, none⟩ = some (.string ⟨v.toArray⟩) := (HKV.out.below hb2).cell 0
  have hB2 : Below w.heap.size w w2 := hbw.trans (hb2.mono (by have := HSZ.out; omega))
  have HB2 := Lib.hid hB2
  clear hA hcell hb2 hB2 hmf
  go_region_held3 (fun w' => w'.cell? ⟨b, 3, none⟩ = some (.func (.func 131) #[] #[]) ∧ w'.cell? ⟨w.heap.size, 0, none⟩ = some (.string ⟨v.toArray⟩)) (first | exact ⟨f1, f2⟩ | exact ⟨f1', f2'⟩) (first | (go_at_call 131; refine (HC.out _ (HB2.out.trans ((Below.refl _ _).drew.mono HB2.out.size))).mono ?_; rintro e w4 ⟨hb4, r, rfl, hr⟩; have Hr := Lib.hid hr; clear hr; have f1' : w4.cell? ⟨b, 3, none⟩ = some (.func (.func 131) #[] #[]) := (hb4.cell (p := ⟨b, 3, none⟩) (by have := HB2.out.size; simp; omega)).trans f1; have f2' : w4.cell? ⟨w.heap.size, 0, none⟩ = some (.string ⟨v.toArray⟩) := (hb4.cell (p := ⟨w.heap.size, 0, none⟩) (by simp; exact cell_lt f2)).trans f2))
  all_goals
    have hfin : Below w.heap.size w w4 := HB2.out.trans ((show Below w2.heap.size w2 w4 from ((Below.refl _ _).drew.trans hb4)).mono HB2.out.size)
    cases o with
    | none =>
      go_wp2_with fail
      go_ret2
      exact ⟨rfl, hfin⟩
    | some m =>
      obtain rfl := Hr.out m rfl
      go_wp2_with fail
      go_ret2
      exact ⟨rfl, hfin⟩

set_option maxRecDepth 100000 in
set_option maxHeartbeats 2000000 in
theorem normal_oid (x : RowT) (b : Nat) (v : List UInt8) (w : World) (hw : Env w) (h : RowAt w b x) (hfl : x.2.2.1.length ≤ 2) (hv : v.length ≤ 1024) (ha : x.2.2.1.any (fun f => validL f v) = true) (hn : x.2.2.2 = NormFn.oid) (o : Option (List UInt8)) (ho : o = some (smallL v)) :
    Calls Tryz.prog 40 #[.pointer (some ⟨b, 0, none⟩), .string ⟨v.toArray⟩] w (NormalRet w o) := by
  have hlt := h.lt
  have h0 := h
  obtain ⟨fA, fN, fC, nF, n1, n2, h1, h2, h3⟩ := h
  have hA := h0.any (v := v) hfl hw rfl h2
  rw [ha] at hA
  rw [hn] at h3
  obtain ⟨rfl, rfl, rfl⟩ : nF = .func 134 ∧ n1 = #[] ∧ n2 = #[] := by have h3' : Value.func nF n1 n2 = .func (.func 134) #[] #[] := h3; cases h3'; exact ⟨rfl, rfl, rfl⟩
  have hbw := (Below.refl w.heap.size w).alloc (Nat.le_refl _) (.cells #[.string ⟨v.toArray⟩] 9)
  have kV := Bk.new w 9 #[.string ⟨v.toArray⟩]
  have HC : Hid (∀ W, Below w.heap.size w W → Calls Tryz.prog 134 #[.string ⟨v.toArray⟩] W (NormRet W o)) := Lib.hid fun W hW => by rw [ho]; exact oid_c v W hv
  have hcell : (w.alloc (.cells #[.string ⟨v.toArray⟩] 9)).cell? ⟨b, 2, none⟩ = some (.slice fA fN fC) := (World.cell?_alloc_lt _ _ _ hlt).trans (by simp [World.cell?, h1])
  have hcell3 : (w.alloc (.cells #[.string ⟨v.toArray⟩] 9)).cell? ⟨b, 3, none⟩ = some (.func (.func 134) #[] #[]) := (World.cell?_alloc_lt _ _ _ hlt).trans (by simp [World.cell?, h1])
  have hsz : (w.alloc (.cells #[.string ⟨v.toArray⟩] 9)).heap.size = w.heap.size + 1 := by simp
  have HSZ := Lib.hid hsz
  have HC3 := Lib.hid hcell3
  have HKV := Lib.hid kV
  have hmf := mkFunc
  have HO := Lib.hid ho
  clear h0 h1 h2 h3 ha hn ho hsz hcell3 kV
  go_enter Tryz.func40, Tryz.ntmps40
  go_wp2_with (go_at_call 72; refine hA.mono ?_; rintro e w2 ⟨rfl, hb2⟩)
  have f1 : w2.cell? ⟨b, 3, none⟩ = some (.func (.func 134) #[] #[]) := (hb2.cell (p := ⟨b, 3, none⟩) (by have := HSZ.out; simp; omega)).trans HC3.out
  have f2 : w2.cell? ⟨w.heap.size, 0, none⟩ = some (.string ⟨v.toArray⟩) := (HKV.out.below hb2).cell 0
  have hB2 : Below w.heap.size w w2 := hbw.trans (hb2.mono (by have := HSZ.out; omega))
  have HB2 := Lib.hid hB2
  clear hA hcell hb2 hB2 hmf
  go_region_held3 (fun w' => w'.cell? ⟨b, 3, none⟩ = some (.func (.func 134) #[] #[]) ∧ w'.cell? ⟨w.heap.size, 0, none⟩ = some (.string ⟨v.toArray⟩)) (first | exact ⟨f1, f2⟩ | exact ⟨f1', f2'⟩) (first | (go_at_call 134; refine (HC.out _ (HB2.out.trans ((Below.refl _ _).drew.mono HB2.out.size))).mono ?_; rintro e w4 ⟨hb4, r, rfl, hr⟩; have Hr := Lib.hid hr; clear hr; have f1' : w4.cell? ⟨b, 3, none⟩ = some (.func (.func 134) #[] #[]) := (hb4.cell (p := ⟨b, 3, none⟩) (by have := HB2.out.size; simp; omega)).trans f1; have f2' : w4.cell? ⟨w.heap.size, 0, none⟩ = some (.string ⟨v.toArray⟩) := (hb4.cell (p := ⟨w.heap.size, 0, none⟩) (by simp; exact cell_lt f2)).trans f2))
  all_goals
    have hfin : Below w.heap.size w w4 := HB2.out.trans ((show Below w2.heap.size w2 w4 from ((Below.refl _ _).drew.trans hb4)).mono HB2.out.size)
    cases o with
    | none =>
      go_wp2_with fail
      go_ret2
      exact ⟨rfl, hfin⟩
    | some m =>
      obtain rfl := Hr.out m rfl
      go_wp2_with fail
      go_ret2
      exact ⟨rfl, hfin⟩

set_option maxRecDepth 100000 in
set_option maxHeartbeats 2000000 in
theorem normal_name (x : RowT) (b : Nat) (v : List UInt8) (w : World) (hw : Env w) (h : RowAt w b x) (hfl : x.2.2.1.length ≤ 2) (hv : v.length ≤ 1024) (ha : x.2.2.1.any (fun f => validL f v) = true) (hn : x.2.2.2 = NormFn.name) (o : Option (List UInt8)) (ho : o = nameN v) :
    Calls Tryz.prog 40 #[.pointer (some ⟨b, 0, none⟩), .string ⟨v.toArray⟩] w (NormalRet w o) := by
  have hlt := h.lt
  have h0 := h
  obtain ⟨fA, fN, fC, nF, n1, n2, h1, h2, h3⟩ := h
  have hA := h0.any (v := v) hfl hw rfl h2
  rw [ha] at hA
  rw [hn] at h3
  obtain ⟨rfl, rfl, rfl⟩ : nF = .func 133 ∧ n1 = #[] ∧ n2 = #[] := by have h3' : Value.func nF n1 n2 = .func (.func 133) #[] #[] := h3; cases h3'; exact ⟨rfl, rfl, rfl⟩
  have hbw := (Below.refl w.heap.size w).alloc (Nat.le_refl _) (.cells #[.string ⟨v.toArray⟩] 9)
  have kV := Bk.new w 9 #[.string ⟨v.toArray⟩]
  have HC : Hid (∀ W, Below w.heap.size w W → Calls Tryz.prog 133 #[.string ⟨v.toArray⟩] W (NormRet W o)) := Lib.hid fun W hW => by rw [ho]; exact name_c v W (hw.keep hW)
  have hcell : (w.alloc (.cells #[.string ⟨v.toArray⟩] 9)).cell? ⟨b, 2, none⟩ = some (.slice fA fN fC) := (World.cell?_alloc_lt _ _ _ hlt).trans (by simp [World.cell?, h1])
  have hcell3 : (w.alloc (.cells #[.string ⟨v.toArray⟩] 9)).cell? ⟨b, 3, none⟩ = some (.func (.func 133) #[] #[]) := (World.cell?_alloc_lt _ _ _ hlt).trans (by simp [World.cell?, h1])
  have hsz : (w.alloc (.cells #[.string ⟨v.toArray⟩] 9)).heap.size = w.heap.size + 1 := by simp
  have HSZ := Lib.hid hsz
  have HC3 := Lib.hid hcell3
  have HKV := Lib.hid kV
  have hmf := mkFunc
  have HO := Lib.hid ho
  clear h0 h1 h2 h3 ha hn ho hsz hcell3 kV
  go_enter Tryz.func40, Tryz.ntmps40
  go_wp2_with (go_at_call 72; refine hA.mono ?_; rintro e w2 ⟨rfl, hb2⟩)
  have f1 : w2.cell? ⟨b, 3, none⟩ = some (.func (.func 133) #[] #[]) := (hb2.cell (p := ⟨b, 3, none⟩) (by have := HSZ.out; simp; omega)).trans HC3.out
  have f2 : w2.cell? ⟨w.heap.size, 0, none⟩ = some (.string ⟨v.toArray⟩) := (HKV.out.below hb2).cell 0
  have hB2 : Below w.heap.size w w2 := hbw.trans (hb2.mono (by have := HSZ.out; omega))
  have HB2 := Lib.hid hB2
  clear hA hcell hb2 hB2 hmf
  go_region_held3 (fun w' => w'.cell? ⟨b, 3, none⟩ = some (.func (.func 133) #[] #[]) ∧ w'.cell? ⟨w.heap.size, 0, none⟩ = some (.string ⟨v.toArray⟩)) (first | exact ⟨f1, f2⟩ | exact ⟨f1', f2'⟩) (first | (go_at_call 133; refine (HC.out _ (HB2.out.trans ((Below.refl _ _).drew.mono HB2.out.size))).mono ?_; rintro e w4 ⟨hb4, r, rfl, hr⟩; have Hr := Lib.hid hr; clear hr; have f1' : w4.cell? ⟨b, 3, none⟩ = some (.func (.func 133) #[] #[]) := (hb4.cell (p := ⟨b, 3, none⟩) (by have := HB2.out.size; simp; omega)).trans f1; have f2' : w4.cell? ⟨w.heap.size, 0, none⟩ = some (.string ⟨v.toArray⟩) := (hb4.cell (p := ⟨w.heap.size, 0, none⟩) (by simp; exact cell_lt f2)).trans f2))
  all_goals
    have hfin : Below w.heap.size w w4 := HB2.out.trans ((show Below w2.heap.size w2 w4 from ((Below.refl _ _).drew.trans hb4)).mono HB2.out.size)
    cases o with
    | none =>
      go_wp2_with fail
      go_ret2
      exact ⟨rfl, hfin⟩
    | some m =>
      obtain rfl := Hr.out m rfl
      go_wp2_with fail
      go_ret2
      exact ⟨rfl, hfin⟩

set_option maxRecDepth 100000 in
set_option maxHeartbeats 2000000 in
theorem normal_text (x : RowT) (b : Nat) (v : List UInt8) (w : World) (hw : Env w) (h : RowAt w b x) (hfl : x.2.2.1.length ≤ 2) (hv : v.length ≤ 1024) (ha : x.2.2.1.any (fun f => validL f v) = true) (fold : Bool) (hn : x.2.2.2 = NormFn.text fold) (o : Option (List UInt8)) (ho : o = prepL v fold) :
    Calls Tryz.prog 40 #[.pointer (some ⟨b, 0, none⟩), .string ⟨v.toArray⟩] w (NormalRet w o) := by
  have hlt := h.lt
  have h0 := h
  obtain ⟨fA, fN, fC, nF, n1, n2, h1, h2, h3⟩ := h
  have hA := h0.any (v := v) hfl hw rfl h2
  rw [ha] at hA
  rw [hn] at h3
  obtain ⟨a, hfa, hca⟩ := h3
  obtain ⟨rfl, rfl, rfl⟩ : nF = .func 160 ∧ n1 = #[] ∧ n2 = #[.pointer (some ⟨a, 0, none⟩)] := by cases hfa; exact ⟨rfl, rfl, rfl⟩
  have HCA := Lib.hid hca
  clear hca hfa
  have h3 := trivial
  have hbw := (Below.refl w.heap.size w).alloc (Nat.le_refl _) (.cells #[.string ⟨v.toArray⟩] 9)
  have kV := Bk.new w 9 #[.string ⟨v.toArray⟩]
  have HC : Hid (∀ W, Below w.heap.size w W → Calls Tryz.prog 160 #[.string ⟨v.toArray⟩, .pointer (some ⟨a, 0, none⟩)] W (NormRet W o)) := Lib.hid fun W hW => by rw [ho]; exact text1_c v fold a W (hw.keep hW) ((hW.cell (p := ⟨a, 0, none⟩) (cell_lt HCA.out)).trans HCA.out) hv
  have hcell : (w.alloc (.cells #[.string ⟨v.toArray⟩] 9)).cell? ⟨b, 2, none⟩ = some (.slice fA fN fC) := (World.cell?_alloc_lt _ _ _ hlt).trans (by simp [World.cell?, h1])
  have hcell3 : (w.alloc (.cells #[.string ⟨v.toArray⟩] 9)).cell? ⟨b, 3, none⟩ = some (.func (.func 160) #[] #[.pointer (some ⟨a, 0, none⟩)]) := (World.cell?_alloc_lt _ _ _ hlt).trans (by simp [World.cell?, h1])
  have hsz : (w.alloc (.cells #[.string ⟨v.toArray⟩] 9)).heap.size = w.heap.size + 1 := by simp
  have HSZ := Lib.hid hsz
  have HC3 := Lib.hid hcell3
  have HKV := Lib.hid kV
  have hmf := mkFunc
  have HO := Lib.hid ho
  clear h0 h1 h2 h3 ha hn ho hsz hcell3 kV
  go_enter Tryz.func40, Tryz.ntmps40
  go_wp2_with (go_at_call 72; refine hA.mono ?_; rintro e w2 ⟨rfl, hb2⟩)
  have f1 : w2.cell? ⟨b, 3, none⟩ = some (.func (.func 160) #[] #[.pointer (some ⟨a, 0, none⟩)]) := (hb2.cell (p := ⟨b, 3, none⟩) (by have := HSZ.out; simp; omega)).trans HC3.out
  have f2 : w2.cell? ⟨w.heap.size, 0, none⟩ = some (.string ⟨v.toArray⟩) := (HKV.out.below hb2).cell 0
  have hB2 : Below w.heap.size w w2 := hbw.trans (hb2.mono (by have := HSZ.out; omega))
  have HB2 := Lib.hid hB2
  clear hA hcell hb2 hB2 hmf
  go_region_held3 (fun w' => w'.cell? ⟨b, 3, none⟩ = some (.func (.func 160) #[] #[.pointer (some ⟨a, 0, none⟩)]) ∧ w'.cell? ⟨w.heap.size, 0, none⟩ = some (.string ⟨v.toArray⟩)) (first | exact ⟨f1, f2⟩ | exact ⟨f1', f2'⟩) (first | (go_at_call 160; refine (HC.out _ (HB2.out.trans ((Below.refl _ _).drew.mono HB2.out.size))).mono ?_; rintro e w4 ⟨hb4, r, rfl, hr⟩; have Hr := Lib.hid hr; clear hr; have f1' : w4.cell? ⟨b, 3, none⟩ = some (.func (.func 160) #[] #[.pointer (some ⟨a, 0, none⟩)]) := (hb4.cell (p := ⟨b, 3, none⟩) (by have := HB2.out.size; simp; omega)).trans f1; have f2' : w4.cell? ⟨w.heap.size, 0, none⟩ = some (.string ⟨v.toArray⟩) := (hb4.cell (p := ⟨w.heap.size, 0, none⟩) (by simp; exact cell_lt f2)).trans f2))
  all_goals
    have hfin : Below w.heap.size w w4 := HB2.out.trans ((show Below w2.heap.size w2 w4 from ((Below.refl _ _).drew.trans hb4)).mono HB2.out.size)
    cases o with
    | none =>
      go_wp2_with fail
      go_ret2
      exact ⟨rfl, hfin⟩
    | some m =>
      obtain rfl := Hr.out m rfl
      go_wp2_with fail
      go_ret2
      exact ⟨rfl, hfin⟩

theorem normal_c (x : RowT) (b : Nat) (v : List UInt8) (w : World) (hw : Env w) (h : RowAt w b x) (hfl : x.2.2.1.length ≤ 2) :
    Calls Tryz.prog 40 #[.pointer (some ⟨b, 0, none⟩), .string ⟨v.toArray⟩] w (NormalRet w (normS x v)) := by
  unfold normS
  by_cases hv : v.length ≤ 1024
  · cases ha : x.2.2.1.any (fun f => validL f v)
    · simp only [Bool.and_false, Bool.false_eq_true, if_false]
      exact normal_none x b v w hw h hfl hv ha
    · simp only [decide_eq_true hv, Bool.and_true, if_true]
      cases hn : x.2.2.2 with
      | self => exact normal_self x b v w hw h hfl hv ha hn _ rfl
      | text fold => exact normal_text x b v w hw h hfl hv ha fold hn _ rfl
      | name => exact normal_name x b v w hw h hfl hv ha hn _ rfl
      | oid => exact normal_oid x b v w hw h hfl hv ha hn _ rfl
  · simp only [decide_eq_false hv, Bool.false_and, Bool.false_eq_true, if_false]
    exact normal_long x b v w h hv
end Go.Proofs.YtgpecklibcgifaaGreatDoor
/- Contracts: Norm, both, Same, Order. -/
namespace Go.Proofs.YtgpecklibcgifaaGreatDoor
open Go.RowKit Go.Sort

theorem findT_mem {n : List UInt8} {k : Int} {x : RowT} : ∀ {T : List RowT}, findT n k T = some x → x ∈ T
  | [], h => by cases h
  | y :: T, h => by
    rw [findT] at h
    split at h
    · cases h; simp
    · simp [findT_mem h]
theorem ruleT_mem {n : List UInt8} {x : RowT} (h : ruleT n = some x) : x ∈ tab := by
  unfold ruleT at h
  rw [Option.or_eq_some_iff] at h
  rcases h with h | ⟨_, h⟩
  · exact findT_mem h
  · rw [Option.or_eq_some_iff] at h
    rcases h with h | ⟨_, h⟩
    · exact findT_mem h
    · exact findT_mem h
theorem askT_mem {n : List UInt8} {k : Int} {x : RowT} (h : askT n k = some x) : x ∈ tab := ruleT_mem (Option.filter_eq_some_iff.1 h).1
theorem tab_forms : ∀ x ∈ tab, x.2.2.1.length ≤ 2 := by decide
theorem askT_forms {n : List UInt8} {k : Int} {x : RowT} (h : askT n k = some x) : x.2.2.1.length ≤ 2 := tab_forms x (askT_mem h)

/-- syntax.Norm -/
def normV (rule v : List UInt8) : Value := match askT (smallL rule) 0 with
  | none => .tuple #[.string ⟨#[]⟩, .int .i64 41]
  | some x => strOr 40 (normS x v)
set_option maxRecDepth 100000 in
set_option maxHeartbeats 1000000 in
theorem Norm_c (rule v : List UInt8) (w : World) (hw : Env w) (hl : rule.length ≤ 140737488351232) :
    Calls Tryz.prog 15 #[.string ⟨rule.toArray⟩, .string ⟨v.toArray⟩] w fun e w' => e = .returned (normV rule v) ∧ Below w.heap.size w w' := by
  have hc := asked_c rule 0 w hl
  cases ha : askT (smallL rule) 0 with
  | none =>
    rw [ha] at hc
    rw [show normV rule v = .tuple #[.string ⟨#[]⟩, .int .i64 41] by unfold normV; rw [ha]]
    clear ha
    go_enter Tryz.func15, Tryz.ntmps15
    go_wp2_with (go_at_call 30; refine hc.mono ?_; rintro e w1 ⟨hb, rfl⟩)
    go_ret2
    exact ⟨rfl, hb⟩
  | some x =>
    have hfl := askT_forms ha
    rw [ha] at hc
    have HN := Lib.hid (fun b W (hW : Env W) hR => normal_c x b v W hW hR hfl)
    rw [show normV rule v = strOr 40 (normS x v) by unfold normV; rw [ha]]
    clear ha
    generalize normS x v = o at *
    cases o
    · simp only [strOr]
      go_enter Tryz.func15, Tryz.ntmps15
      go_wp2_with (first | (go_at_call 30; refine hc.mono ?_; rintro e w1 ⟨hb, b, rfl, hbb, hrow⟩) | (go_at_call 40; refine (HN.out _ _ (hw.keep hb) hrow).mono ?_; rintro e w2 ⟨rfl, hb2⟩; simp only [strOr]))
      go_ret2
      exact ⟨rfl, hb.trans (hb2.mono hb.size)⟩
    · simp only [strOr]
      go_enter Tryz.func15, Tryz.ntmps15
      go_wp2_with (first | (go_at_call 30; refine hc.mono ?_; rintro e w1 ⟨hb, b, rfl, hbb, hrow⟩) | (go_at_call 40; refine (HN.out _ _ (hw.keep hb) hrow).mono ?_; rintro e w2 ⟨rfl, hb2⟩; simp only [strOr]))
      go_ret2
      exact ⟨rfl, hb.trans (hb2.mono hb.size)⟩
/-- Both normal forms. -/
def bothS (x : RowT) (a b : List UInt8) : Option (List UInt8 × List UInt8) := match normS x a, normS x b with
  | some p, some q => some (p, q)
  | _, _ => none
def bothV : Option (List UInt8 × List UInt8) → Value
  | none => .tuple #[.string ⟨#[]⟩, .string ⟨#[]⟩, .int .i64 40]
  | some (p, q) => .tuple #[.string ⟨p.toArray⟩, .string ⟨q.toArray⟩, .int .i64 0]
set_option maxRecDepth 100000 in
set_option maxHeartbeats 1000000 in
theorem both_c (x : RowT) (r : Nat) (a b : List UInt8) (w : World) (hw : Env w) (h : RowAt w r x) (hfl : x.2.2.1.length ≤ 2) :
    Calls Tryz.prog 31 #[.pointer (some ⟨r, 0, none⟩), .string ⟨a.toArray⟩, .string ⟨b.toArray⟩] w fun e w' => e = .returned (bothV (bothS x a b)) ∧ Below w.heap.size w w' := by
  have hA := normal_c x r a w hw h hfl
  have HB := Lib.hid (fun W (hW : Below w.heap.size w W) => normal_c x r b W (hw.keep hW) (h.below hW) hfl)
  unfold bothS
  generalize normS x a = oa at *
  generalize normS x b = ob at *
  clear h
  cases oa with
  | none =>
    simp only [bothV]
    go_enter Tryz.func31, Tryz.ntmps31
    go_wp2_with fail
    refine hA.mono ?_
    rintro e w1 ⟨rfl, hb1⟩
    simp only [strOr]
    go_wp2_with fail
    go_ret3
    exact ⟨rfl, hb1⟩
  | some p =>
    cases ob with
    | none =>
      simp only [bothV]
      go_enter Tryz.func31, Tryz.ntmps31
      go_wp2_with fail
      refine hA.mono ?_
      rintro e w1 ⟨rfl, hb1⟩
      simp only [strOr]
      go_wp2_with fail
      refine (HB.out _ hb1).mono ?_
      rintro e w2 ⟨rfl, hb2⟩
      simp only [strOr]
      go_wp2_with fail
      go_ret3
      exact ⟨rfl, hb1.trans (hb2.mono hb1.size)⟩
    | some q =>
      simp only [bothV]
      go_enter Tryz.func31, Tryz.ntmps31
      go_wp2_with fail
      refine hA.mono ?_
      rintro e w1 ⟨rfl, hb1⟩
      simp only [strOr]
      go_wp2_with fail
      refine (HB.out _ hb1).mono ?_
      rintro e w2 ⟨rfl, hb2⟩
      simp only [strOr]
      go_wp2_with fail
      go_ret3
      exact ⟨rfl, hb1.trans (hb2.mono hb1.size)⟩
def sameQ : Option (List UInt8 × List UInt8) → Bool × Int
  | none => (false, 40)
  | some (p, q) => (p == q, 0)
/-- syntax.Same -/
def sameP (rule a b : List UInt8) : Bool × Int := match askT (smallL rule) 0 with
  | none => (false, 41)
  | some x => sameQ (bothS x a b)
def boolInt (r : Bool × Int) : Value := .tuple #[.bool r.1, .int .i64 r.2]
set_option maxRecDepth 100000 in
set_option maxHeartbeats 1000000 in
theorem Same_c (rule a b : List UInt8) (w : World) (hw : Env w) (hl : rule.length ≤ 140737488351232) :
    Calls Tryz.prog 17 #[.string ⟨rule.toArray⟩, .string ⟨a.toArray⟩, .string ⟨b.toArray⟩] w fun e w' => e = .returned (boolInt (sameP rule a b)) ∧ Below w.heap.size w w' := by
  have hc := asked_c rule 0 w hl
  cases ha : askT (smallL rule) 0 with
  | none =>
    rw [ha] at hc
    rw [show sameP rule a b = (false, 41) by unfold sameP; rw [ha]]
    clear ha
    simp only [boolInt]
    go_enter Tryz.func17, Tryz.ntmps17
    go_wp2_with (go_at_call 30; refine hc.mono ?_; rintro e w1 ⟨hb, rfl⟩)
    go_ret2
    exact ⟨rfl, hb⟩
  | some x =>
    have hfl := askT_forms ha
    rw [ha] at hc
    have HN := Lib.hid (fun r W (hW : Env W) hR => both_c x r a b W hW hR hfl)
    rw [show sameP rule a b = sameQ (bothS x a b) by unfold sameP; rw [ha]]
    clear ha
    generalize bothS x a b = o at *
    rcases o with _ | ⟨p, q⟩
    · simp only [bothV] at HN
      simp only [boolInt, sameQ]
      go_enter Tryz.func17, Tryz.ntmps17
      go_wp2_with (first | (go_at_call 30; refine hc.mono ?_; rintro e w1 ⟨hb, b, rfl, hbb, hrow⟩) | (go_at_call 31; refine (HN.out _ _ (hw.keep hb) hrow).mono ?_; rintro e w2 ⟨rfl, hb2⟩))
      go_ret2
      exact ⟨rfl, hb.trans (hb2.mono hb.size)⟩
    · simp only [bothV] at HN
      simp only [boolInt, sameQ]
      cases hpq : p == q
      all_goals
        go_enter Tryz.func17, Tryz.ntmps17
        go_wp2_with (first | (go_at_call 30; refine hc.mono ?_; rintro e w1 ⟨hb, b, rfl, hbb, hrow⟩) | (go_at_call 31; refine (HN.out _ _ (hw.keep hb) hrow).mono ?_; rintro e w2 ⟨rfl, hb2⟩))
        go_ret2
        exact ⟨rfl, hb.trans (hb2.mono hb.size)⟩
def nIntOrd : List UInt8 := [105, 110, 116, 101, 103, 101, 114, 79, 114, 100, 101, 114, 105, 110, 103, 77, 97, 116, 99, 104]
def orderQ (n : List UInt8) : Option (List UInt8 × List UInt8) → Int × Int
  | none => (0, 40)
  | some (p, q) => (if n = nIntOrd then intsL p q else cmpB p q, 0)
/-- syntax.Order -/
def orderP (rule a b : List UInt8) : Int × Int := match askT (smallL rule) 1 with
  | none => (0, 41)
  | some x => orderQ x.1 (bothS x a b)
def intInt (r : Int × Int) : Value := .tuple #[.int .i64 r.1, .int .i64 r.2]
set_option maxRecDepth 100000 in
set_option maxHeartbeats 2000000 in
theorem Order_c (rule a b : List UInt8) (w : World) (hw : Env w) (hl : rule.length ≤ 140737488351232) :
    Calls Tryz.prog 11 #[.string ⟨rule.toArray⟩, .string ⟨a.toArray⟩, .string ⟨b.toArray⟩] w fun e w' => e = .returned (intInt (orderP rule a b)) ∧ Below w.heap.size w w' := by
  have hc := asked_c rule 1 w hl
  cases ha : askT (smallL rule) 1 with
  | none =>
    rw [ha] at hc
    rw [show orderP rule a b = (0, 41) by unfold orderP; rw [ha]]
    clear ha
    simp only [intInt]
    go_enter Tryz.func11, Tryz.ntmps11
    go_wp2_with (go_at_call 30; refine hc.mono ?_; rintro e w1 ⟨hb, rfl⟩)
    go_ret2
    exact ⟨rfl, hb⟩
  | some x =>
    have hfl := askT_forms ha
    rw [ha] at hc
    have HN := Lib.hid (fun r W (hW : Env W) hR => both_c x r a b W hW hR hfl)
    rw [show orderP rule a b = orderQ x.1 (bothS x a b) by unfold orderP; rw [ha]]
    clear ha
    generalize bothS x a b = o at *
    rcases o with _ | ⟨p, q⟩
    · simp only [bothV] at HN
      simp only [intInt, orderQ]
      go_enter Tryz.func11, Tryz.ntmps11
      go_wp2_with (first | (go_at_call 30; refine hc.mono ?_; rintro e w1 ⟨hb, b, rfl, hbb, hrow⟩) | (go_at_call 31; refine (HN.out _ _ (hw.keep hb) hrow).mono ?_; rintro e w2 ⟨rfl, hb2⟩))
      go_ret2
      exact ⟨rfl, hb.trans (hb2.mono hb.size)⟩
    · simp only [bothV] at HN
      simp only [intInt, orderQ]
      by_cases hx : x.1 = nIntOrd
      · have e1 : (x.1 == [105, 110, 116, 101, 103, 101, 114, 79, 114, 100, 101, 114, 105, 110, 103, 77, 97, 116, 99, 104]) = true := beq_iff_eq.2 hx
        rw [if_pos hx]
        clear hx
        go_enter Tryz.func11, Tryz.ntmps11
        go_wp2_with (first | (go_at_call 30; refine hc.mono ?_; rintro e w1 ⟨hb, b, rfl, hbb, hrow⟩) | (go_at_call 31; refine (HN.out _ _ (hw.keep hb) hrow).mono ?_; rintro e w2 ⟨rfl, hb2⟩; obtain ⟨fA, fN, fC, nF, n1, n2, h1, h2, h3⟩ := hrow.below hb2; have hcell : w2.cell? ⟨b, 0, none⟩ = some (.string ⟨x.1.toArray⟩) := (by simp [World.cell?, h1])) | (go_at_call 32; refine (integers_c p q _).mono ?_; rintro e w3 ⟨rfl, hb3⟩))
        go_ret2
        exact ⟨rfl, (hb.trans (hb2.mono hb.size)).trans (hb3.mono (Nat.le_trans hb.size hb2.size))⟩
      · have e1 : (x.1 == [105, 110, 116, 101, 103, 101, 114, 79, 114, 100, 101, 114, 105, 110, 103, 77, 97, 116, 99, 104]) = false := beq_eq_false_iff_ne.2 hx
        rw [if_neg hx]
        clear hx
        go_enter Tryz.func11, Tryz.ntmps11
        go_wp2_with (first | (go_at_call 30; refine hc.mono ?_; rintro e w1 ⟨hb, b, rfl, hbb, hrow⟩) | (go_at_call 31; refine (HN.out _ _ (hw.keep hb) hrow).mono ?_; rintro e w2 ⟨rfl, hb2⟩; obtain ⟨fA, fN, fC, nF, n1, n2, h1, h2, h3⟩ := hrow.below hb2; have hcell : w2.cell? ⟨b, 0, none⟩ = some (.string ⟨x.1.toArray⟩) := (by simp [World.cell?, h1])) | (go_at_call 33; refine (Compare_c p q _).mono ?_; rintro e w3 ⟨rfl, rfl⟩))
        go_ret2
        exact ⟨rfl, hb.trans (hb2.mono hb.size)⟩
end Go.Proofs.YtgpecklibcgifaaGreatDoor
