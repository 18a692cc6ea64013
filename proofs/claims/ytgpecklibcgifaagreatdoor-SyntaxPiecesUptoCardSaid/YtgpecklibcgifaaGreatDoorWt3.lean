/- Contracts: prep.Pieces. -/
import Derived.Test.YtgpecklibcgifaaGreatDoorWt2
set_option linter.all false
namespace Go.Proofs.YtgpecklibcgifaaGreatDoor
open Go.RowKit Go.Sort

set_option maxRecDepth 100000 in
set_option maxHeartbeats 2000000 in
/-- Pieces where a middle piece is empty. -/
theorem pPieces_empty (fold : Bool) (i f : List UInt8) (xs : List (List UInt8)) (v : Value) (w : World) (hx : TxA w v xs) (hN : xs.length ≤ 1000000) (hany : xs.any (fun x => x == []) = true) :
    Calls Tryz.prog 54 #[.string ⟨i.toArray⟩, v, .string ⟨f.toArray⟩, .bool fold] w (PiecesRet w (1, [])) := by
  rcases hx with ⟨rfl, rfl⟩ | ⟨a, c, rfl, hc, hcell⟩
  · cases hany
  have HC := Lib.hid hcell
  clear hcell
  go_enter Tryz.func54, Tryz.ntmps54
  go_wp2_with fail
  go_loopg [19] xs.length (fun gk t wr => ∃ k : Nat, k ≤ xs.length ∧ t = .int .i64 k ∧ Aside (k + gk = xs.length) ∧ w = wr ∧ Aside ((xs.drop k).any (fun x => x == []) = true))
  case atStart => exact ⟨0, by omega, rfl, by show _ = _; omega, rfl, hany⟩
  case round =>
    obtain ⟨k, hk, rfl, AG, rfl, AT⟩ := hrel
    have hlt : k < xs.length := by
      apply Classical.byContradiction
      intro h
      have := AT.out
      rw [List.drop_eq_nil_of_le (by omega)] at this
      cases this
    obtain ⟨q, rfl⟩ : ∃ q, gk = q + 1 := ⟨gk - 1, by have := AG.out; omega⟩
    have fc := HC.out k hlt
    have AT2 : (xs[k] == [] || (xs.drop (k + 1)).any (fun x => x == [])) = true := by
      have := AT.out
      rw [List.drop_eq_getElem_cons hlt, List.any_cons] at this
      exact this
    have HA2 := Lib.hid AT2
    clear AT AT2
    generalize xs[k] = x at *
    cases hb : (x == [])
    · go_wp2_with fail
      go_roundg q
      case measure => omega
      case rel => exact ⟨k + 1, by omega, by go_num, by have := AG.out; show _ = _; omega, rfl, by have := HA2.out; rw [hb] at this; exact this⟩
    · go_wp2_with fail
      go_ret2
      exact ⟨Below.refl _ _, _, rfl, .inl ⟨rfl, rfl⟩⟩
/-- The mapped pieces, one by one. -/
def mapAll (fold : Bool) : List (List UInt8) → List (List UInt8) → Option (List (List UInt8))
  | [], acc => some acc
  | x :: xs, acc => (mappedL x fold).bind fun y => mapAll fold xs (acc ++ [y])
def kBlank : List UInt8 := [32]
/-- The first without a leading blank, then the last without a trailing one. -/
def trimEnds (l : List (List UInt8)) : List (List UInt8) :=
  let l1 := l.set 0 (Lib.trimPrefix (l.headD []) kBlank)
  l1.set (l.length - 1) (Lib.trimSuffix (l1.getLastD []) kBlank)
theorem Strs.opened {W0 w : World} {v : Value} {xs : List (List UInt8)} (h : Strs W0 w v xs) (hn : 0 < xs.length) : ∃ g cap, v = .slice (some ⟨g, 0, none⟩) xs.length cap ∧ xs.length ≤ cap ∧ W0.heap.size ≤ g ∧ g < w.heap.size ∧ (∀ j (hj : j < xs.length), w.cell? ⟨g, j, none⟩ = some (.string ⟨xs[j].toArray⟩)) ∧ (∀ j, j < xs.length → w.frozen? ⟨g, j, none⟩ = false) := by
  have ht := h.texts
  obtain ⟨⟨h1, h2⟩, _, _⟩ := h
  rcases h2 with ⟨rfl, hz⟩ | ⟨g, cap, cur, rfl, r2, r3, r4, r5, r6, r7⟩
  · omega
  · rcases ht with ⟨rfl, _⟩ | ⟨b, c, e, hc, hlt, hcell⟩
    · simp at hn
    · cases e
      refine ⟨g, cap, rfl, hc, r2, hlt, hcell, fun j hj => ?_⟩
      simp only [World.frozen?, r3]
      simp
end Go.Proofs.YtgpecklibcgifaaGreatDoor
/- Contracts: prep.Pieces where no middle piece is empty. -/
namespace Go.Proofs.YtgpecklibcgifaaGreatDoor
open Go.RowKit Go.Sort

def resP : Option (List (List UInt8)) → Int × List (List UInt8)
  | none => (10, [])
  | some l => (0, trimEnds l)
theorem mapped_len {x y : List UInt8} {fold : Bool} (h : mappedL x fold = some y) (hx : x.length ≤ 1000000000000) : y.length ≤ 4000000000000 := by
  cases hv : Lib.validD x
  · unfold mappedL at h; rw [hv] at h; cases h
  · rw [mapped_eq x fold hv, map_sing] at h
    cases hm : mapG fold (runes x) [] with
    | none => rw [hm] at h; cases h
    | some L =>
      rw [hm] at h
      simp only [Option.map_some, Option.some.injEq] at h
      have h1 := (nice_piece hv hm hx).2.1
      have h2 := cat_len4 (singL L [])
      rw [← h]
      omega
theorem trimEnds_eq {l : List (List UInt8)} (h2 : 2 ≤ l.length) : trimEnds l = (l.set 0 (Lib.trimPrefix (l[0]'(by omega)) [32])).set (l.length - 1) (Lib.trimSuffix (l[l.length - 1]'(by omega)) [32]) := by
  unfold trimEnds
  have e1 : l.headD [] = l[0]'(by omega) := by
    cases l with
    | nil => simp at h2
    | cons x xs => rfl
  have e2 : ∀ y, (l.set 0 y).getLastD [] = l[l.length - 1]'(by omega) := by
    intro y
    rw [List.getLastD_eq_getLast?, List.getLast?_eq_getElem?, List.length_set, List.getElem?_set_ne (by omega), List.getElem?_eq_getElem (by omega)]
    rfl
  simp only [e1, e2]
  rfl
theorem texts_two {w : World} {g n cap : Nat} {l : List (List UInt8)} (p q : List UInt8) (h2 : 2 ≤ l.length) (hn : n = l.length) (hc : n ≤ cap) (hg : g < w.heap.size) (hcell : ∀ j (hj : j < l.length), w.cell? ⟨g, j, none⟩ = some (.string ⟨l[j].toArray⟩)) :
    Texts ((w.setCell ⟨g, 0, none⟩ (.string ⟨p.toArray⟩)).setCell ⟨g, l.length - 1, none⟩ (.string ⟨q.toArray⟩)) (.slice (some ⟨g, 0, none⟩) n cap) ((l.set 0 p).set (l.length - 1) q) := by
  subst hn
  refine .inr ⟨g, cap, by simp, by simpa using hc, by simpa [World.setCell] using hg, fun j hj => ?_⟩
  have hj' : j < l.length := by simpa using hj
  by_cases h1 : j = l.length - 1
  · subst h1
    rw [World.cell?_setCell_same _ _ _ (by rw [World.cell?_setCell_other _ _ _ _ (by intro h; injection h with _ h; omega)]; exact hcell _ hj')]
    simp
  · rw [World.cell?_setCell_other _ _ _ _ (by intro h; injection h with _ h; omega)]
    by_cases h0 : j = 0
    · subst h0
      rw [World.cell?_setCell_same _ _ _ (hcell 0 hj')]
      rw [List.getElem_set_ne (by omega)]
      simp
    · rw [World.cell?_setCell_other _ _ _ _ (by intro h; injection h with _ h; omega), hcell j hj']
      rw [List.getElem_set_ne (by omega), List.getElem_set_ne (by omega)]
set_option maxRecDepth 100000 in
set_option maxHeartbeats 4000000 in
theorem pPieces_go (fold : Bool) (i f : List UInt8) (xs : List (List UInt8)) (v : Value) (w : World) (hw : Env w) (hx : TxA w v xs) (hN : xs.length ≤ 1000000) (hany : xs.any (fun x => x == []) = false)
    (hlen : ∀ x ∈ [i] ++ xs ++ [f], x.length ≤ 1000000000000) :
    Calls Tryz.prog 54 #[.string ⟨i.toArray⟩, v, .string ⟨f.toArray⟩, .bool fold] w (PiecesRet w (resP (mapAll fold ([i] ++ xs ++ [f]) []))) := by
  obtain ⟨R, hR⟩ : ∃ R, mapAll fold ([i] ++ xs ++ [f]) [] = R := ⟨_, rfl⟩
  rw [hR]
  have HR := Lib.hid hR
  clear hR
  obtain ⟨A, c, rfl, hcell⟩ : ∃ A c, v = .slice A xs.length c ∧ (∀ j (hj : j < xs.length), ∃ a, A = some a ∧ w.cell? (a.add j) = some (.string ⟨xs[j].toArray⟩)) := by
    rcases hx with ⟨rfl, rfl⟩ | ⟨a, c, rfl, hc, hcell⟩
    · exact ⟨_, _, rfl, fun j hj => by simp at hj⟩
    · exact ⟨_, _, rfl, fun j hj => ⟨a, rfl, hcell j hj⟩⟩
  have hne : ∀ j (hj : j < xs.length), (xs[j] == []) = false := by
    intro j hj
    rw [List.any_eq_false] at hany
    have := hany xs[j] (List.getElem_mem _)
    simpa using this
  have HC := Lib.hid hcell
  have HX := Lib.hid hx
  have HNE := Lib.hid hne
  have HLEN := Lib.hid hlen
  have HW := Lib.hid hw
  clear hcell hx hany hne hlen hw
  go_enter Tryz.func54, Tryz.ntmps54
  go_wp2_with fail
  go_loopg [19] xs.length (fun gk t wr => ∃ k : Nat, k ≤ xs.length ∧ t = .int .i64 k ∧ Aside (k + gk = xs.length) ∧ w = wr)
  case atStart => exact ⟨0, by omega, rfl, by show _ = _; omega, rfl⟩
  case round =>
    obtain ⟨k, hk, rfl, AG, rfl⟩ := hrel
    by_cases hlt : k < xs.length
    · obtain ⟨q, rfl⟩ : ∃ q, gk = q + 1 := ⟨gk - 1, by have := AG.out; omega⟩
      obtain ⟨a, rfl, fc⟩ := HC.out k hlt
      have hb := HNE.out k hlt
      generalize xs[k] = x at *
      go_wp2_with fail
      go_roundg q
      case measure => omega
      case rel => exact ⟨k + 1, by omega, by go_num, by have := AG.out; show _ = _; omega, rfl⟩
    · clear HC HNE AG
      go_wp2_with (first
        | (at_builtin; refine strs_moreA rfl _ _ rfl rfl (Strs.made1 w i) rfl (HX.out.below ((Below.refl _ _).alloc (Nat.le_refl _) _)) (by simp; omega) ?_; intro v1 w1 hs1 hg1; obtain ⟨g1, cp1, rfl, hcp1, hglt1, hcells1⟩ := hs1.texts.cons; have HS1 := Lib.hid hs1; clear hs1 hg1 hcells1)
        | (at_builtin; refine strs_one rfl _ _ rfl rfl HS1.out rfl (by simp; omega) ?_; intro v2 w2 hs2 hg2; obtain ⟨g2, cp2, rfl, hcp2, hglt2, hcells2⟩ := hs2.texts.cons; have HS2 := Lib.hid hs2; clear hs2 hg2))
      have HR2 : Hid (mapAll fold (i :: ([].append xs).append [f]) [] = R) := HR
      have HLEN2 : Hid (∀ x ∈ (i :: ([].append xs).append [f]), x.length ≤ 1000000000000) := HLEN
      have HB2 := Lib.hid HS2.out.below
      have hnl : (i :: ([].append xs).append [f]).length = xs.length + 2 := by simp
      clear HR HLEN HS1 HS2 HX hcp1 hglt1
      generalize i :: ([].append xs).append [f] = l at *
      have hl2 : 2 ≤ l.length := by omega
      have hlN : l.length ≤ 1000002 := by omega
      have hnl2 : xs.length + 1 + 1 = l.length := by omega
      try rw [hnl2]
      have hnl3 : ((xs.length : Int) + 1 + 1) = (l.length : Int) := by omega
      try rw [hnl3]
      clear hnl hnl2 hnl3 hN hlt hk
      go_loopg [12, 34] l.length (fun gk out t wr => ∃ (k : Nat) (acc : List (List UInt8)), k ≤ l.length ∧ t = .int .i64 k ∧ Aside (k + gk = l.length) ∧ Strs w2 wr out acc ∧ acc.length = k ∧ Aside (∀ y ∈ acc, y.length ≤ 4000000000000) ∧ Aside (R = mapAll fold (l.drop k) acc))
      case atStart => exact ⟨0, [], by omega, rfl, by show _ = _; omega, Strs.nil _, rfl, (by intro y hy; cases hy), HR2.out.symm⟩
      case round =>
        obtain ⟨k2, acc, hk2, rfl, AG2, hO, hacc, AY, AT2⟩ := hrel
        have HO := Lib.hid hO
        have hB := hO.below
        have hle := hO.le
        clear hO
        by_cases hlt2 : k2 < l.length
        · obtain ⟨q, rfl⟩ : ∃ q, gk = q + 1 := ⟨gk - 1, by have := AG2.out; omega⟩
          have fc : wr.cell? ⟨g2, k2, none⟩ = some (.string ⟨l[k2].toArray⟩) := (hB.cell (p := ⟨g2, k2, none⟩) hglt2).trans (hcells2.out k2 hlt2)
          have hxl : l[k2].length ≤ 1000000000000 := HLEN2.out _ (List.getElem_mem _)
          have AT3 : Aside (R = (mappedL l[k2] fold).bind fun y => mapAll fold (l.drop (k2 + 1)) (acc ++ [y])) := by
            show _ = _
            rw [AT2.out, List.drop_eq_getElem_cons hlt2, mapAll]
          have HEW : Hid (Env wr) := Lib.hid ((HW.out.keep HB2.out).keep hB)
          have HM := Lib.hid (mapped_c l[k2] fold wr HEW.out (by omega))
          clear AT2
          have HML := Lib.hid (fun (y : List UInt8) (hh : mappedL l[k2] fold = some y) => mapped_len hh hxl)
          generalize l[k2] = x at *
          generalize mappedL x fold = o at *
          cases o with
          | none =>
            have hRn : R = none := AT3.out
            have HRn := Lib.hid hRn
            clear hRn AT3
            go_wp2_with (go_at_call 61; refine HM.out.mono ?_; rintro e wA ⟨rfl, hbA⟩; unfold strOr)
            go_ret2
            rw [HRn.out]
            exact ⟨HB2.out.trans ((hB.trans (hbA.mono hle)).mono HB2.out.size), _, rfl, .inl ⟨rfl, rfl⟩⟩
          | some y =>
            have AT4 : Aside (R = mapAll fold (l.drop (k2 + 1)) (acc ++ [y])) := AT3.out
            clear AT3
            go_wp2_with (first
              | (go_at_call 61; refine HM.out.mono ?_; rintro e wA ⟨rfl, hbA⟩; unfold strOr; have HO' := Lib.hid (HO.out.grow hbA))
              | (at_builtin; refine strs_one rfl _ _ rfl rfl HO'.out rfl (by omega) ?_; intro v2 w3 hs3 hg3))
            go_roundg q
            case measure => omega
            case rel => exact ⟨k2 + 1, acc ++ [y], by omega, by go_num, by have := AG2.out; show _ = _; omega, hs3, by rw [List.length_append, hacc]; rfl, (by intro z hz; rcases List.mem_append.1 hz with hz | hz; exact AY.out z hz; rw [List.mem_singleton.1 hz]; exact HML.out y rfl), AT4.out⟩
        · have hRn : R = some acc := by rw [AT2.out, List.drop_eq_nil_of_le (by omega), mapAll]
          have HRn := Lib.hid hRn
          clear hRn AT2
          obtain ⟨g3, cp3, rfl, hcp3, hg3, hg3l, hcell3, hfr3⟩ := HO.out.opened (by omega)
          have f0 := hcell3 0 (by omega)
          have r0 := hfr3 0 (by omega)
          have f1 := hcell3 (acc.length - 1) (by omega)
          have r1 := hfr3 (acc.length - 1) (by omega)
          have hTP := Tryz.strings_TrimPrefix ⟨(acc[0]'(by omega)).toArray⟩ ⟨#[32]⟩ wr
          have hTS := fun W => Tryz.strings_TrimSuffix ⟨(acc[acc.length - 1]'(by omega)).toArray⟩ ⟨#[32]⟩ W (by have := AY.out _ (List.getElem_mem (l := acc) (n := acc.length - 1) (by omega)); simp [ByteArray.size]; omega)
          have HTT := Lib.hid (fun p q => texts_two (n := acc.length) (cap := cp3) (l := acc) p q (by omega) rfl hcp3 hg3l hcell3)
          have HTE := Lib.hid (trimEnds_eq (l := acc) (by omega))
          simp only at hTP hTS
          have HTP := Lib.hid hTP
          have HTS := Lib.hid hTS
          clear hTP hTS AY
          have ha2 : 2 ≤ acc.length := by omega
          have hab : acc.length ≤ 1000002 := by omega
          have hab2 : ((acc.length - 1 : Nat) : Int) ≤ 1000002 := by omega
          generalize acc[0]'(by omega) = a0 at *
          generalize acc[acc.length - 1]'(by omega) = a1 at *
          generalize Lib.trimPrefix a0 [32] = p0 at *
          generalize Lib.trimSuffix a1 [32] = p1 at *
          have hi1 : IntKind.i64.wrap ((acc.length : Int) - 1) = ((acc.length - 1 : Nat) : Int) := by
            rw [IntWalk.i64_in _ (by omega)]; omega
          have hi2 : ((acc.length : Int) - 1) = ((acc.length - 1 : Nat) : Int) := by omega
          have f2 : (wr.setCell ⟨g3, 0, none⟩ (.string ⟨p0.toArray⟩)).cell? ⟨g3, acc.length - 1, none⟩ = some (.string ⟨a1.toArray⟩) := by
            rw [World.cell?_setCell_other _ _ _ _ (by intro h; injection h with _ h; omega)]; exact f1
          have r2 : (wr.setCell ⟨g3, 0, none⟩ (.string ⟨p0.toArray⟩)).frozen? ⟨g3, acc.length - 1, none⟩ = false := by
            rw [World.frozen?_setCell]; exact r1
          clear hcell3 hfr3 hacc
          go_wp2_with (first | (go_at_call 92; refine HTP.out.mono ?_; rintro e wA ⟨rfl, hwA⟩; obtain rfl := hwA) | (go_at_call 93; refine (HTS.out _).mono ?_; rintro e wB ⟨rfl, hwB⟩; obtain rfl := hwB))
          go_ret2
          rw [HRn.out]
          have hB9 := HB2.out.trans (hB.mono HB2.out.size)
          refine ⟨?_, _, rfl, ?_⟩
          · have hgw : w.heap.size ≤ g3 := Nat.le_trans HB2.out.size hg3
            exact (hB9.setCell (by simpa using hgw) _).setCell (by simpa using hgw) _
          · show Texts _ _ (trimEnds acc)
            rw [HTE.out]
            exact HTT.out _ _
end Go.Proofs.YtgpecklibcgifaaGreatDoor
/- Contracts: syntax.Holds. -/
namespace Go.Proofs.YtgpecklibcgifaaGreatDoor
open Go.RowKit Go.Sort

/-- What prep.Pieces answers. -/
def pPcs (fold : Bool) (i : List UInt8) (xs : List (List UInt8)) (f : List UInt8) : Int × List (List UInt8) :=
  bif xs.any (fun x => x == []) then (1, []) else resP (mapAll fold ([i] ++ xs ++ [f]) [])
theorem pPieces_c (fold : Bool) (i f : List UInt8) (xs : List (List UInt8)) (v : Value) (w : World) (hw : Env w) (hx : TxA w v xs) (hN : xs.length ≤ 1000000)
    (hlen : ∀ x ∈ [i] ++ xs ++ [f], x.length ≤ 1000000000000) :
    Calls Tryz.prog 54 #[.string ⟨i.toArray⟩, v, .string ⟨f.toArray⟩, .bool fold] w (PiecesRet w (pPcs fold i xs f)) := by
  unfold pPcs
  cases h : xs.any (fun x => x == [])
  · exact pPieces_go fold i f xs v w hw hx hN h hlen
  · exact pPieces_empty fold i f xs v w hx hN h
theorem pHolds_t (s : List UInt8) (xs : List (List UInt8)) (v : Value) (w : World) (hw : Env w) (hs : s.length ≤ 1000000) (hn : 2 ≤ xs.length) (hN : xs.length ≤ 1000000)
    (hv : Texts w v xs) (hxl : ∀ x ∈ xs, x.length ≤ 4000000000000) :
    Calls Tryz.prog 55 #[.string ⟨s.toArray⟩, v] w fun e w' => e = .returned (.bool (holdsP s xs (headL xs) (lastL xs))) ∧ w = w' := by
  rcases hv with ⟨rfl, _⟩ | ⟨b, c, rfl, hc, hb, hcell⟩
  · simp at hn
  · rw [headL_eq (by omega), lastL_eq (by omega)]
    exact pHolds_c s xs b c w hw hs hn hc hN hcell hxl
def nIgnSubs : List UInt8 := [99, 97, 115, 101, 73, 103, 110, 111, 114, 101, 83, 117, 98, 115, 116, 114, 105, 110, 103, 115, 77, 97, 116, 99, 104]
/-- What syntax.Holds answers by a rule. -/
def holdsX (x : RowT) (v i : List UInt8) (xs : List (List UInt8)) (f : List UInt8) : Bool × Int := match normS x v with
  | none => (false, 40)
  | some m => ((pPcs (x.1 == nIgnSubs) i xs f).1 == 0 && holdsP m (pPcs (x.1 == nIgnSubs) i xs f).2 (headL (pPcs (x.1 == nIgnSubs) i xs f).2) (lastL (pPcs (x.1 == nIgnSubs) i xs f).2), (pPcs (x.1 == nIgnSubs) i xs f).1)
set_option maxRecDepth 100000 in
set_option maxHeartbeats 2000000 in
theorem sHolds_no (n v i f : List UInt8) (any : Value) (w : World) (hn : n.length ≤ 140737488351232) (h : askT (smallL n) 2 = none) :
    Calls Tryz.prog 28 #[.string ⟨n.toArray⟩, .string ⟨v.toArray⟩, .string ⟨i.toArray⟩, any, .string ⟨f.toArray⟩] w fun e w' => e = .returned (boolInt (false, 41)) ∧ Below w.heap.size w w' := by
  have hc := asked_c n 2 w hn
  rw [h] at hc
  clear h
  go_enter Tryz.func28, Tryz.ntmps28
  go_wp2_with (go_at_call 30; refine hc.mono ?_; rintro e w1 ⟨hb, rfl⟩)
  go_ret2
  exact ⟨rfl, hb⟩
set_option maxRecDepth 100000 in
set_option maxHeartbeats 2000000 in
theorem sHolds_yes (x : RowT) (n v i f : List UInt8) (xs : List (List UInt8)) (any : Value) (w : World) (hw : Env w) (hn : n.length ≤ 140737488351232) (h : askT (smallL n) 2 = some x)
    (hx : TxA w any xs) (hN : xs.length ≤ 1000) (hlen : ∀ x ∈ [i] ++ xs ++ [f], x.length ≤ 1000000000000)
    (hml : ∀ m, normS x v = some m → m.length ≤ 1000000)
    (hpl : ∀ fold, (pPcs fold i xs f).1 = 0 → (pPcs fold i xs f).2.length = xs.length + 2 ∧ ∀ y ∈ (pPcs fold i xs f).2, y.length ≤ 4000000000000) :
    Calls Tryz.prog 28 #[.string ⟨n.toArray⟩, .string ⟨v.toArray⟩, .string ⟨i.toArray⟩, any, .string ⟨f.toArray⟩] w fun e w' => e = .returned (boolInt (holdsX x v i xs f)) ∧ Below w.heap.size w w' := by
  have hc := asked_c n 2 w hn
  have hfl := askT_forms h
  rw [h] at hc
  clear h
  have HN := Lib.hid (fun b W (hW : Env W) hR => normal_c x b v W hW hR hfl)
  have hA : ∃ A len c, any = .slice A len c := by
    rcases hx with ⟨rfl, rfl⟩ | ⟨a, c, rfl, _, _⟩
    · exact ⟨_, _, _, rfl⟩
    · exact ⟨_, _, _, rfl⟩
  obtain ⟨A, len, c, rfl⟩ := hA
  obtain ⟨R, hR⟩ : ∃ R, holdsX x v i xs f = R := ⟨_, rfl⟩
  rw [hR]
  unfold holdsX at hR
  have HML := Lib.hid hml
  clear hml
  generalize normS x v = o at *
  cases o with
  | none =>
    have hR2 : R = (false, 40) := hR.symm
    have HR2 := Lib.hid hR2
    clear hR hR2 hpl
    go_enter Tryz.func28, Tryz.ntmps28
    go_wp2_with (first | (go_at_call 30; refine hc.mono ?_; rintro e w1 ⟨hb, b, rfl, hbb, hrow⟩) | (go_at_call 40; refine (HN.out _ _ (hw.keep hb) hrow).mono ?_; rintro e w2 ⟨rfl, hb2⟩; simp only [strOr]))
    go_ret2
    exact ⟨by rw [HR2.out]; rfl, hb.trans (hb2.mono hb.size)⟩
  | some m =>
    have hm := HML.out m rfl
    have hpf := hpl (x.1 == nIgnSubs)
    have HPi := Lib.hid (fun W (hb : Below w.heap.size w W) => pPieces_c (x.1 == nIgnSubs) i f xs (.slice A len c) W (hw.keep hb) (hx.below hb) (by omega) hlen)
    have hsw : (x.1 == [99, 97, 115, 101, 73, 103, 110, 111, 114, 101, 83, 117, 98, 115, 116, 114, 105, 110, 103, 115, 77, 97, 116, 99, 104]) = (x.1 == nIgnSubs) := rfl
    clear hpl HML hlen
    generalize pPcs (x.1 == nIgnSubs) i xs f = pc at *
    generalize (x.1 == nIgnSubs) = fold at *
    obtain ⟨ep, ps⟩ := pc
    have HR := Lib.hid hR
    have HPF := Lib.hid hpf
    have HX := Lib.hid hx
    clear hR hpf hx
    simp only at HPF HR
    by_cases hp : ep = 0
    · subst hp
      have hpf := HPF.out rfl
      have HHo := Lib.hid (fun v W (hW : Env W) (hv : Texts W v ps) => pHolds_t m ps v W hW (by omega) (by omega) (by omega) hv hpf.2)
      have hRR : R = (holdsP m ps (headL ps) (lastL ps), 0) := by rw [← HR.out]; rfl
      have HRR := Lib.hid hRR
      clear hRR HR hpf HPF
      go_enter Tryz.func28, Tryz.ntmps28
      go_wp2_with (first
        | (go_at_call 30; refine hc.mono ?_; rintro e w1 ⟨hb, b, rfl, hbb, hrow⟩)
        | (go_at_call 40; refine (HN.out _ _ (hw.keep hb) hrow).mono ?_; rintro e w2 ⟨rfl, hb2⟩; simp only [strOr]; obtain ⟨fA, fN, fC, nF, n1, n2, hblk, _, _⟩ := hrow.below hb2; have fc : w2.cell? ⟨b, 0, none⟩ = some (.string ⟨x.1.toArray⟩) := by simp [World.cell?, hblk])
        | (go_at_call 54; refine (HPi.out _ (hb.trans (hb2.mono hb.size))).mono ?_; rintro e w4 ⟨h4, v4, rfl, hv4⟩; have HV4 := Lib.hid hv4; obtain ⟨A4, n4, c4, rfl⟩ := hv4.isSlice; clear hv4)
        | (go_at_call 55; refine (HHo.out _ _ ((hw.keep (hb.trans (hb2.mono hb.size))).keep h4) HV4.out).mono ?_; rintro e w5 ⟨rfl, rfl⟩))
      go_ret2
      have h14 := (hb.trans (hb2.mono hb.size)).trans (h4.mono (hb.trans (hb2.mono hb.size)).size)
      exact ⟨by rw [HRR.out]; rfl, h14⟩
    · have hp2 : (ep == 0) = false := beq_eq_false_iff_ne.2 hp
      have hRR : R = (false, ep) := by rw [← HR.out]; simp only [hp2, Bool.false_and]
      have HRR := Lib.hid hRR
      clear hRR HR HPF
      go_enter Tryz.func28, Tryz.ntmps28
      go_wp2_with (first
        | (go_at_call 30; refine hc.mono ?_; rintro e w1 ⟨hb, b, rfl, hbb, hrow⟩)
        | (go_at_call 40; refine (HN.out _ _ (hw.keep hb) hrow).mono ?_; rintro e w2 ⟨rfl, hb2⟩; simp only [strOr]; obtain ⟨fA, fN, fC, nF, n1, n2, hblk, _, _⟩ := hrow.below hb2; have fc : w2.cell? ⟨b, 0, none⟩ = some (.string ⟨x.1.toArray⟩) := by simp [World.cell?, hblk])
        | (go_at_call 54; refine (HPi.out _ (hb.trans (hb2.mono hb.size))).mono ?_; rintro e w4 ⟨h4, v4, rfl, hv4⟩; obtain ⟨A4, n4, c4, rfl⟩ := hv4.isSlice; clear hv4))
      go_ret2
      have h14 := (hb.trans (hb2.mono hb.size)).trans (h4.mono (hb.trans (hb2.mono hb.size)).size)
      exact ⟨by rw [HRR.out]; rfl, h14⟩
end Go.Proofs.YtgpecklibcgifaaGreatDoor
