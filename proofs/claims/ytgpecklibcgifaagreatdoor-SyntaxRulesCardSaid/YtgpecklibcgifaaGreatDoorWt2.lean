/- A slice of texts that came in; contracts of the document's answer: chapter 3: Pieces. -/
import Derived.Test.YtgpecklibcgifaaGreatDoorWt1
import Derived.Test.YtgpecklibcgifaaGreatDoorW5
set_option linter.all false
namespace Go.Proofs.YtgpecklibcgifaaGreatDoor
open Go.RowKit Go.Sort

/-- A slice of texts, wherever it lies. -/
def TxA (w : World) (v : Value) (xs : List (List UInt8)) : Prop :=
  (xs = [] ∧ v = .slice none 0 0) ∨ ∃ (a : Addr) (c : Nat), v = .slice (some a) xs.length c ∧ xs.length ≤ c ∧ ∀ j (hj : j < xs.length), w.cell? (a.add j) = some (.string ⟨xs[j].toArray⟩)
theorem add_block (a : Addr) (j : Nat) : (a.add j).block = a.block := by unfold Addr.add; split <;> rfl
theorem TxA.below {w w' : World} {v : Value} {xs : List (List UInt8)} (h : TxA w v xs) (hb : Below w.heap.size w w') : TxA w' v xs := by
  rcases h with h | ⟨a, c, rfl, hc, hx⟩
  · exact .inl h
  · exact .inr ⟨a, c, rfl, hc, fun j hj => (hb.cell (cell_lt (hx j hj))).trans (hx j hj)⟩
section
variable {ops : Array Oper} {rest : List Oper} {o : Oper} {a : Act} {Q : Exit → Act → World → Prop}
/-- 'l = append(l, m...)', m from outside. -/
theorem strs_moreA {w : World} (hgd : o.guard = none) (s x : Operand) (ho : o.op = .call { callee := .builtin .append, args := #[s, x], argTypes := #[29, 29] })
    {v xv : Value} {xs ys : List (List UInt8)} {W0 : World} (hs : a.eval s = v) (hb : Strs W0 w v xs)
    (hx : a.eval x = xv) (hy : TxA w xv ys) (hlen : xs.length + ys.length < 4398046511104)
    (h : ∀ v' w', Strs W0 w' v' (xs ++ ys) → w.grownBy w' v.ownBlock → wpList Tryz.prog ops Q rest (a.put o.dst v') w') : wpList Tryz.prog ops Q (o :: rest) a w := by
  obtain ⟨i, h1, h2, h3, h4⟩ := infoStr
  rcases hy with ⟨rfl, rfl⟩ | ⟨b, c, rfl, hc, hcell⟩
  · refine wpList_append_own_none hgd s x 29 ho W0.heap.size 9 i 1 Tryz.underlying29 h1 v _ _ hs hb.1 hx ?_
    exact h v w (by simpa using hb) (World.grownBy.refl _ _)
  · refine wpList_append_own _ hgd s x 29 ho W0.heap.size 9 i (.string ⟨#[]⟩) 1 16 Tryz.underlying29 h1 h2 h3 h4 rfl (by decide) v _ _ hs hb.1 b ys.length c (ys.map strV) hx (by simp) ?_ ?_ (by unfold maxLen; omega) (by omega) hb.2.2 ?_
    · intro j u hj
      have hjl : j < ys.length := by simpa using (List.getElem?_eq_some_iff.1 hj).1
      rw [hcell j hjl]
      simp [hjl] at hj
      rw [← hj]; rfl
    · intro u hu
      simp at hu
      obtain ⟨q, _, rfl⟩ := hu
      rfl
    · intro v' w' ho' hg _
      refine h v' w' ?_ hg
      exact hb.grown (by simpa using ho') hg
end
/-- The document's piece at a place. -/
def ends (n k : Nat) (M : List Int) : List Int :=
  let M2 := bif decide (k = 0) then leftL M else M
  bif decide (k = n - 1) then rightL M2 else M2
def pieceR (fold : Bool) (n k : Nat) (x : List UInt8) : Option (List UInt8) :=
  if Lib.validD x then (mapG fold (runes x) []).map (fun L => cat (ends n k (singL L []))) else none
def piecesGo (fold : Bool) (n : Nat) : Nat → List (List UInt8) → List (List UInt8) → Option (List (List UInt8))
  | _, [], acc => some acc
  | k, x :: xs, acc => match pieceR fold n k x with
    | none => none
    | some y => piecesGo fold n (k + 1) xs (acc ++ [y])
/-- What Pieces hands back: an error, or texts that lie in new memory. -/
def PiecesRet (w : World) (r : Int × List (List UInt8)) (e : Ending) (w' : World) : Prop :=
  Below w.heap.size w w' ∧ ∃ v, e = .returned (.tuple #[v, .int .i64 r.1]) ∧ Texts w' v r.2
def refPieces (fold : Bool) (i : List UInt8) (xs : List (List UInt8)) (f : List UInt8) : Int × List (List UInt8) :=
  bif xs.any (fun x => x == []) then (1, []) else match piecesGo fold (xs.length + 2) 0 (i :: xs ++ [f]) [] with
    | none => (10, [])
    | some l => (0, l)
theorem nice_piece {fold : Bool} {x : List UInt8} {L : List Int} (hv : Lib.validD x = true) (hm : mapG fold (runes x) [] = some L) (hx : x.length ≤ 1000000000000) : L.length ≤ 1000000000000 ∧ (singL L []).length ≤ 1000000000000 ∧ ∀ r ∈ singL L [], VR r := by
  have hm2 : mapRR fold (runes x) [] = some (singL L []) := by rw [map_sing, hm]; rfl
  have hn := map_nice fold (runes x) [] _ (cat_runes _ x (Nat.le_refl _) hv).2 (by simp) (by intro i hi; simp at hi) hm2
  have hLl := mapG_len fold _ _ _ hm
  have hrl := runesF_len x.length x
  have hLl' : L.length ≤ 1000000000000 := by unfold runes at hLl; simp at hLl; omega
  have hSl := singL_len L []
  simp only [List.length_nil, Nat.zero_add] at hSl
  exact ⟨hLl', by omega, fun r hr => (hn.1 r hr).2.2⟩
theorem leftL_mem {L : List Int} {r : Int} (h : r ∈ leftL L) : r ∈ L := by
  unfold leftL at h
  split at h
  · exact List.mem_of_mem_tail h
  · exact h
theorem rightL_mem {L : List Int} {r : Int} (h : r ∈ rightL L) : r ∈ L := by
  unfold rightL at h
  split at h
  · exact (List.dropLast_sublist _).subset h
  · exact h
set_option maxRecDepth 100000 in
set_option maxHeartbeats 2000000 in
/-- Pieces where a middle piece is empty. -/
theorem rPieces_empty (fold : Bool) (i f : List UInt8) (xs : List (List UInt8)) (v : Value) (w : World) (hx : TxA w v xs) (hN : xs.length ≤ 1000000) (hany : xs.any (fun x => x == []) = true) :
    Calls Tryz.prog 56 #[.string ⟨i.toArray⟩, v, .string ⟨f.toArray⟩, .bool fold] w (PiecesRet w (1, [])) := by
  rcases hx with ⟨rfl, rfl⟩ | ⟨a, c, rfl, hc, hcell⟩
  · cases hany
  have HC := Lib.hid hcell
  clear hcell
  go_enter Tryz.func56, Tryz.ntmps56
  go_wp2_with fail
  go_loopg [10] xs.length (fun gk t wr => ∃ k : Nat, k ≤ xs.length ∧ t = .int .i64 k ∧ Aside (k + gk = xs.length) ∧ w = wr ∧ Aside ((xs.drop k).any (fun x => x == []) = true))
  case atStart => exact ⟨0, by omega, rfl, by show _ = _; omega, rfl, hany⟩
  case round =>
    obtain ⟨k, hk, rfl, AG, rfl, AT⟩ := hrel
    have hlt : k < xs.length := by
      apply Classical.byContradiction
      intro h
      have := AT.out
      rw [List.drop_eq_nil_of_le (by omega)] at this
      cases this
    obtain ⟨q, rfl⟩ : ∃ q, gk = q + 1 := ⟨gk - 1, by have := AG.out; omega⟩
    have fc := HC.out k hlt
    have AT2 : (xs[k] == [] || (xs.drop (k + 1)).any (fun x => x == [])) = true := by
      have := AT.out
      rw [List.drop_eq_getElem_cons hlt, List.any_cons] at this
      exact this
    have HA2 := Lib.hid AT2
    clear AT AT2
    generalize xs[k] = x at *
    cases hb : (x == [])
    · go_wp2_with fail
      go_roundg q
      case measure => omega
      case rel => exact ⟨k + 1, by omega, by go_num, by have := AG.out; show _ = _; omega, rfl, by have := HA2.out; rw [hb] at this; exact this⟩
    · go_wp2_with fail
      go_ret2
      exact ⟨Below.refl _ _, _, rfl, .inl ⟨rfl, rfl⟩⟩
end Go.Proofs.YtgpecklibcgifaaGreatDoor
/- Contracts of the document's answer: chapter 3: Pieces. -/
namespace Go.Proofs.YtgpecklibcgifaaGreatDoor
open Go.RowKit Go.Sort

def resOf : Option (List (List UInt8)) → Int × List (List UInt8)
  | none => (10, [])
  | some l => (0, l)
theorem piecesGo_cons (fold : Bool) (n k : Nat) (x : List UInt8) (xs acc : List (List UInt8)) : piecesGo fold n k (x :: xs) acc = (pieceR fold n k x).bind fun y => piecesGo fold n (k + 1) xs (acc ++ [y]) := by
  rw [piecesGo]
  cases pieceR fold n k x <;> rfl
set_option maxRecDepth 100000 in
set_option maxHeartbeats 4000000 in
theorem rPieces_go (fold : Bool) (i f : List UInt8) (xs : List (List UInt8)) (v : Value) (w : World) (hx : TxA w v xs) (hN : xs.length ≤ 1000000) (hany : xs.any (fun x => x == []) = false)
    (hlen : ∀ x ∈ [i] ++ xs ++ [f], x.length ≤ 1000000000000) :
    Calls Tryz.prog 56 #[.string ⟨i.toArray⟩, v, .string ⟨f.toArray⟩, .bool fold] w (PiecesRet w (resOf (piecesGo fold (xs.length + 2) 0 ([i] ++ xs ++ [f]) []))) := by
  obtain ⟨R, hR⟩ : ∃ R, piecesGo fold (xs.length + 2) 0 ([i] ++ xs ++ [f]) [] = R := ⟨_, rfl⟩
  rw [hR]
  have HR := Lib.hid hR
  clear hR
  obtain ⟨A, c, rfl, hcell⟩ : ∃ A c, v = .slice A xs.length c ∧ (∀ j (hj : j < xs.length), ∃ a, A = some a ∧ w.cell? (a.add j) = some (.string ⟨xs[j].toArray⟩)) := by
    rcases hx with ⟨rfl, rfl⟩ | ⟨a, c, rfl, hc, hcell⟩
    · exact ⟨_, _, rfl, fun j hj => by simp at hj⟩
    · exact ⟨_, _, rfl, fun j hj => ⟨a, rfl, hcell j hj⟩⟩
  have hne : ∀ j (hj : j < xs.length), (xs[j] == []) = false := by
    intro j hj
    rw [List.any_eq_false] at hany
    have := hany xs[j] (List.getElem_mem _)
    simpa using this
  have HC := Lib.hid hcell
  have HX := Lib.hid hx
  have HNE := Lib.hid hne
  have HLEN := Lib.hid hlen
  clear hcell hx hany hne hlen
  go_enter Tryz.func56, Tryz.ntmps56
  go_wp2_with fail
  go_loopg [10] xs.length (fun gk t wr => ∃ k : Nat, k ≤ xs.length ∧ t = .int .i64 k ∧ Aside (k + gk = xs.length) ∧ w = wr)
  case atStart => exact ⟨0, by omega, rfl, by show _ = _; omega, rfl⟩
  case round =>
    obtain ⟨k, hk, rfl, AG, rfl⟩ := hrel
    by_cases hlt : k < xs.length
    · obtain ⟨q, rfl⟩ : ∃ q, gk = q + 1 := ⟨gk - 1, by have := AG.out; omega⟩
      obtain ⟨a, rfl, fc⟩ := HC.out k hlt
      have hb := HNE.out k hlt
      generalize xs[k] = x at *
      go_wp2_with fail
      go_roundg q
      case measure => omega
      case rel => exact ⟨k + 1, by omega, by go_num, by have := AG.out; show _ = _; omega, rfl⟩
    · have hHN := Lib.hid hN
      clear HC HNE AG
      go_wp2_with (first
        | (at_builtin; refine strs_moreA rfl _ _ rfl rfl (Strs.made1 w i) rfl (HX.out.below ((Below.refl _ _).alloc (Nat.le_refl _) _)) (by simp; omega) ?_; intro v1 w1 hs1 hg1; obtain ⟨g1, cp1, rfl, hcp1, hglt1, hcells1⟩ := hs1.texts.cons; have HS1 := Lib.hid hs1; clear hs1 hg1 hcells1)
        | (at_builtin; refine strs_one rfl _ _ rfl rfl HS1.out rfl (by simp; omega) ?_; intro v2 w2 hs2 hg2; obtain ⟨g2, cp2, rfl, hcp2, hglt2, hcells2⟩ := hs2.texts.cons; have HS2 := Lib.hid hs2; clear hs2 hg2))
      have HR2 : Hid (piecesGo fold (xs.length + 2) 0 (i :: ([].append xs).append [f]) [] = R) := HR
      have HLEN2 : Hid (∀ x ∈ (i :: ([].append xs).append [f]), x.length ≤ 1000000000000) := HLEN
      have HB2 := Lib.hid HS2.out.below
      have hnl : (i :: ([].append xs).append [f]).length = xs.length + 2 := by simp
      clear HR HLEN HS1 HS2 HX hcp1 hglt1
      generalize i :: ([].append xs).append [f] = l at *
      rw [← hnl] at HR2
      have hl2 : 2 ≤ l.length := by omega
      have hlN : l.length ≤ 1000002 := by omega
      have hnl2 : xs.length + 1 + 1 = l.length := by omega
      rw [hnl2]
      clear hnl hnl2 hN hlt hk
      go_loopg [12, 13] l.length (fun gk out t wr => ∃ (k : Nat) (acc : List (List UInt8)), k ≤ l.length ∧ t = .int .i64 k ∧ Aside (k + gk = l.length) ∧ Strs w2 wr out acc ∧ acc.length = k ∧ Aside (R = piecesGo fold l.length k (l.drop k) acc))
      case atStart => exact ⟨0, [], by omega, rfl, by show _ = _; omega, Strs.nil _, rfl, HR2.out.symm⟩
      case round =>
        obtain ⟨k2, acc, hk2, rfl, AG2, hO, hacc, AT2⟩ := hrel
        have HO := Lib.hid hO
        have hB := hO.below
        have hle := hO.le
        clear hO
        by_cases hlt2 : k2 < l.length
        · obtain ⟨q, rfl⟩ : ∃ q, gk = q + 1 := ⟨gk - 1, by have := AG2.out; omega⟩
          have fc : wr.cell? ⟨g2, k2, none⟩ = some (.string ⟨l[k2].toArray⟩) := (hB.cell (p := ⟨g2, k2, none⟩) hglt2).trans (hcells2.out k2 hlt2)
          have hxl : l[k2].length ≤ 1000000000000 := HLEN2.out _ (List.getElem_mem _)
          have AT3 : Aside (R = (pieceR fold l.length k2 l[k2]).bind fun y => piecesGo fold l.length (k2 + 1) (l.drop (k2 + 1)) (acc ++ [y])) := by
            show _ = _
            rw [AT2.out, List.drop_eq_getElem_cons hlt2, piecesGo_cons]
          have HM := Lib.hid (fun W => Mapped_r l[k2] fold W (by omega))
          clear AT2
          generalize l[k2] = x at *
          unfold pieceR at AT3
          cases hv : Lib.validD x
          · have hRn : R = none := by rw [AT3.out, hv]; rfl
            have HRn := Lib.hid hRn
            rw [hv] at HM
            simp only [Bool.false_eq_true, if_false] at HM
            clear hRn AT3 hv
            go_wp2_with fail
            refine (HM.out _).mono ?_
            rintro e wA ⟨hbA, vA, rfl, hM1⟩
            obtain ⟨A0, c0, rfl, _, _⟩ := hM1
            simp only [Option.isSome_none]
            go_wp2_with fail
            go_ret2
            rw [HRn.out]
            exact ⟨HB2.out.trans ((hB.trans (hbA.mono hle)).mono HB2.out.size), _, rfl, .inl ⟨rfl, rfl⟩⟩
          · rw [hv] at HM
            simp only [if_true] at HM
            cases hm : mapG fold (runes x) [] with
            | none =>
              have hRn : R = none := by rw [AT3.out, hv, hm]; rfl
              have HRn := Lib.hid hRn
              rw [hm] at HM
              clear hRn AT3 hv hm
              go_wp2_with fail
              refine (HM.out _).mono ?_
              rintro e wA ⟨hbA, vA, rfl, hM1⟩
              obtain ⟨A0, c0, rfl, _, _⟩ := hM1
              simp only [Option.isSome_none]
              go_wp2_with fail
              go_ret2
              rw [HRn.out]
              exact ⟨HB2.out.trans ((hB.trans (hbA.mono hle)).mono HB2.out.size), _, rfl, .inl ⟨rfl, rfl⟩⟩
            | some L =>
              have hnp := nice_piece hv hm hxl
              obtain ⟨hL1, hL2, hVR⟩ := hnp
              have AT4 : Aside (R = piecesGo fold l.length (k2 + 1) (l.drop (k2 + 1)) (acc ++ [cat (ends l.length k2 (singL L []))])) := by
                show _ = _
                rw [AT3.out, hv, hm]; rfl
              rw [hm] at HM
              clear AT3 hv hm
              have HSI := Lib.hid (fun v W (h : RunesAt W v L) => Single_r L v W h (by omega))
              have HVR := Lib.hid hVR
              clear hVR
              generalize singL L [] = M at *
              have AT3 : Aside (R = piecesGo fold l.length (k2 + 1) (l.drop (k2 + 1)) (acc ++ [cat (ends l.length k2 M)])) := AT4.out
              clear AT4
              obtain ⟨y, hy⟩ : ∃ y, cat (ends l.length k2 M) = y := ⟨_, rfl⟩
              rw [hy] at AT3
              have hll := leftL_len M
              have hrr := rightL_len (leftL M)
              have hr2 := rightL_len M
              have hi1 : IntKind.i64.wrap ((l.length : Int) - 1) = (l.length : Int) - 1 := IntWalk.i64_in _ (by omega)
              by_cases hk0 : k2 = 0
              · subst hk0
                have hk1 : ¬ ((0 : Int) = (l.length : Int) - 1) := by omega
                have hk1' : ((((0 : Nat) : Int)) == (l.length : Int) - 1) = false := beq_eq_false_iff_ne.2 (by omega)
                have hy2 : cat (leftL M) = y := by rw [← hy, ends, decide_eq_true rfl, decide_eq_false (by omega)]; rfl
                have HTX := Lib.hid (fun v W (h : RunesAt W v (leftL M)) => text_r _ v W h (by omega) (fun r hr => HVR.out r (leftL_mem hr)))
                rw [hy2] at HTX
                clear hy hy2
                go_wp2_with fail
                refine (HM.out _).mono ?_
                rintro e wA ⟨hbA, vA, rfl, hM1⟩
                change RunesAt wA vA L at hM1
                simp only [Option.isSome_some]
                go_wp2_with fail
                refine (HSI.out vA _ hM1).mono ?_
                rintro e wB ⟨hbB, vB, rfl, hM2⟩
                go_wp2_with fail
                refine (left_r _ vB _ hM2 (by omega)).mono ?_
                rintro e wC ⟨rfl, vC, rfl, hM3⟩
                have hM4 := hM3
                go_wp2_with fail
                refine (HTX.out vC _ hM4).mono ?_
                rintro e wE ⟨rfl, hbE⟩
                have hO' := HO.out.grow (hbA.trans ((hbB.trans (hbE.mono hbB.size)).mono hbA.size))
                have HO' := Lib.hid hO'
                clear hO' hM1 hM2 hM3 hM4
                go_wp2_with (at_builtin; refine strs_one rfl _ _ rfl rfl HO'.out rfl (by omega) ?_; intro v2 w3 hs3 hg3)
                go_roundg q
                case measure => omega
                case rel => exact ⟨0 + 1, acc ++ [y], by omega, by go_num, by have := AG2.out; show _ = _; omega, hs3, by rw [List.length_append, hacc]; rfl, AT3.out⟩
              · by_cases hk1 : k2 = l.length - 1
                · have hk1' : ((k2 : Int) == (l.length : Int) - 1) = true := beq_iff_eq.2 (by omega)
                  have hk0' : ((k2 : Int) == 0) = false := beq_eq_false_iff_ne.2 (by omega)
                  have hy2 : cat (rightL M) = y := by rw [← hy, ends, decide_eq_false hk0, decide_eq_true hk1]; rfl
                  clear hk1
                  have HTX := Lib.hid (fun v W (h : RunesAt W v (rightL M)) => text_r _ v W h (by omega) (fun r hr => HVR.out r (rightL_mem hr)))
                  rw [hy2] at HTX
                  clear hy hy2
                  go_wp2_with fail
                  refine (HM.out _).mono ?_
                  rintro e wA ⟨hbA, vA, rfl, hM1⟩
                  change RunesAt wA vA L at hM1
                  simp only [Option.isSome_some]
                  go_wp2_with fail
                  refine (HSI.out vA _ hM1).mono ?_
                  rintro e wB ⟨hbB, vB, rfl, hM2⟩
                  have hM3 := hM2
                  go_wp2_with fail
                  refine (right_r _ vB _ hM3 (by omega)).mono ?_
                  rintro e wD ⟨rfl, vD, rfl, hM4⟩
                  go_wp2_with fail
                  refine (HTX.out vD _ hM4).mono ?_
                  rintro e wE ⟨rfl, hbE⟩
                  have hO' := HO.out.grow (hbA.trans ((hbB.trans (hbE.mono hbB.size)).mono hbA.size))
                  have HO' := Lib.hid hO'
                  clear hO' hM1 hM2 hM3 hM4
                  go_wp2_with (at_builtin; refine strs_one rfl _ _ rfl rfl HO'.out rfl (by omega) ?_; intro v2 w3 hs3 hg3)
                  go_roundg q
                  case measure => omega
                  case rel => exact ⟨k2 + 1, acc ++ [y], by omega, by go_num, by have := AG2.out; show _ = _; omega, hs3, by rw [List.length_append, hacc]; rfl, AT3.out⟩
                · have hk1' : ((k2 : Int) == (l.length : Int) - 1) = false := beq_eq_false_iff_ne.2 (by omega)
                  have hk0' : ((k2 : Int) == 0) = false := beq_eq_false_iff_ne.2 (by omega)
                  have hy2 : cat M = y := by rw [← hy, ends, decide_eq_false hk0, decide_eq_false hk1]; rfl
                  have HTX := Lib.hid (fun v W (h : RunesAt W v M) => text_r _ v W h (by omega) HVR.out)
                  rw [hy2] at HTX
                  clear hy hy2
                  go_wp2_with fail
                  refine (HM.out _).mono ?_
                  rintro e wA ⟨hbA, vA, rfl, hM1⟩
                  change RunesAt wA vA L at hM1
                  simp only [Option.isSome_some]
                  go_wp2_with fail
                  refine (HSI.out vA _ hM1).mono ?_
                  rintro e wB ⟨hbB, vB, rfl, hM2⟩
                  have hM3 := hM2
                  have hM4 := hM3
                  go_wp2_with fail
                  refine (HTX.out vB _ hM4).mono ?_
                  rintro e wE ⟨rfl, hbE⟩
                  have hO' := HO.out.grow (hbA.trans ((hbB.trans (hbE.mono hbB.size)).mono hbA.size))
                  have HO' := Lib.hid hO'
                  clear hO' hM1 hM2 hM3 hM4
                  go_wp2_with (at_builtin; refine strs_one rfl _ _ rfl rfl HO'.out rfl (by omega) ?_; intro v2 w3 hs3 hg3)
                  go_roundg q
                  case measure => omega
                  case rel => exact ⟨k2 + 1, acc ++ [y], by omega, by go_num, by have := AG2.out; show _ = _; omega, hs3, by rw [List.length_append, hacc]; rfl, AT3.out⟩
        · have hRn : R = some acc := by rw [AT2.out, List.drop_eq_nil_of_le (by omega), piecesGo]
          have HRn := Lib.hid hRn
          clear hRn AT2
          go_wp2_with fail
          go_ret2
          rw [HRn.out]
          exact ⟨HB2.out.trans (hB.mono HB2.out.size), _, rfl, HO.out.texts⟩
end Go.Proofs.YtgpecklibcgifaaGreatDoor
/- Contracts of the document's answer: chapter 5: Holds. -/
namespace Go.Proofs.YtgpecklibcgifaaGreatDoor
open Go.RowKit Go.Sort

/-- What the document's Pieces answers. -/
def refPcs (fold : Bool) (i : List UInt8) (xs : List (List UInt8)) (f : List UInt8) : Int × List (List UInt8) :=
  bif xs.any (fun x => x == []) then (1, []) else resOf (piecesGo fold (xs.length + 2) 0 ([i] ++ xs ++ [f]) [])
theorem rPieces_r (fold : Bool) (i f : List UInt8) (xs : List (List UInt8)) (v : Value) (w : World) (hx : TxA w v xs) (hN : xs.length ≤ 1000000)
    (hlen : ∀ x ∈ [i] ++ xs ++ [f], x.length ≤ 1000000000000) :
    Calls Tryz.prog 56 #[.string ⟨i.toArray⟩, v, .string ⟨f.toArray⟩, .bool fold] w (PiecesRet w (refPcs fold i xs f)) := by
  unfold refPcs
  cases h : xs.any (fun x => x == [])
  · exact rPieces_go fold i f xs v w hx hN h hlen
  · exact rPieces_empty fold i f xs v w hx hN h
def nSubs (fold : Bool) : List UInt8 := bif fold then [99, 97, 115, 101, 73, 103, 110, 111, 114, 101, 83, 117, 98, 115, 116, 114, 105, 110, 103, 115, 77, 97, 116, 99, 104] else [99, 97, 115, 101, 69, 120, 97, 99, 116, 83, 117, 98, 115, 116, 114, 105, 110, 103, 115, 77, 97, 116, 99, 104]
theorem baseSubs (fold : Bool) : refBase (nSubs fold) = nTextRule fold := by cases fold <;> decide +kernel
theorem nSubs_len (fold : Bool) : (nSubs fold).length ≤ 140737488351232 := by cases fold <;> decide
theorem rgo_cases (n : List UInt8) : ∀ k, k ≤ 15 → rgo n k (rnames.drop k) = ([], 0) ∨ ∃ j, ∃ hj : j < rnames.length, rgo n k (rnames.drop k) = (rnames[j], rkind j) := by
  intro k
  induction hm : 15 - k generalizing k with
  | zero => intro hk; obtain rfl : k = 15 := by omega
            exact .inl rfl
  | succ m ih =>
    intro hk
    have hkl : k < rnames.length := by rw [rnames_len]; omega
    by_cases h : smallL rnames[k] = n
    · exact .inr ⟨k, hkl, rgo_hit hkl h⟩
    · rw [rgo_miss hkl h]; exact ih (k + 1) (by omega) (by omega)
theorem rnames_kind : ∀ j (hj : j < rnames.length), rnames[j] ≠ [] ∧ (rkind j ≠ 2 ∨ ∃ fold, rnames[j] = nSubs fold ∧ rkind j = 2) := by
  intro j hj
  have : ∀ j (hj : j < rnames.length), rnames[j] ≠ [] ∧ (rkind j ≠ 2 ∨ (rnames[j] = nSubs false ∧ rkind j = 2) ∨ (rnames[j] = nSubs true ∧ rkind j = 2)) := by decide +kernel
  obtain ⟨h1, h2⟩ := this j hj
  exact ⟨h1, h2.imp id (fun h => h.elim (fun h => ⟨false, h⟩) (fun h => ⟨true, h⟩))⟩
theorem refRule_cases (n : List UInt8) : refRule n = ([], 0) ∨ ∃ x k, refRule n = (x, k) ∧ x ≠ [] ∧ (k ≠ 2 ∨ ∃ fold, x = nSubs fold ∧ k = 2) := by
  rcases rgo_cases n 0 (by omega) with h | ⟨j, hj, h⟩
  · exact .inl h
  · exact .inr ⟨_, _, h, rnames_kind j hj⟩
/-- What the document's Norm answers by a rule of text. -/
def normT (fold : Bool) (v : List UInt8) : Int × List UInt8 :=
  bif okForms (fun f => ofB (nTextRule fold) f && validL f v) 8 then (match prepL v fold with | none => (10, []) | some m => (0, m)) else (40, [])
theorem refNormT_eq (fold : Bool) (v : List UInt8) : refNormT fold v = .tuple #[.string ⟨(normT fold v).2.toArray⟩, .int .i64 (normT fold v).1] := by
  unfold refNormT normT
  cases okForms (fun f => ofB (nTextRule fold) f && validL f v) 8
  · rfl
  · cases prepL v fold <;> rfl
def headL (xs : List (List UInt8)) : List UInt8 := xs.headD []
def lastL (xs : List (List UInt8)) : List UInt8 := xs.getLastD []
/-- What the document's Holds answers by a rule of pieces. -/
def holdsT (fold : Bool) (v i : List UInt8) (xs : List (List UInt8)) (f : List UInt8) : Bool × Int :=
  if (normT fold v).1 = 0 then (if (refPcs fold i xs f).1 = 0 then (holdsRef (normT fold v).2 (refPcs fold i xs f).2 (headL (refPcs fold i xs f).2) (lastL (refPcs fold i xs f).2), 0) else (false, (refPcs fold i xs f).1)) else (false, (normT fold v).1)
set_option maxRecDepth 100000 in
set_option maxHeartbeats 2000000 in
theorem rHolds_no (n v i f : List UInt8) (any : Value) (w : World) (hn : n.length ≤ 140737488351232) (h : refRule (smallL n) = ([], 0) ∨ ∃ x k, refRule (smallL n) = (x, k) ∧ x ≠ [] ∧ k ≠ 2) :
    Calls Tryz.prog 29 #[.string ⟨n.toArray⟩, .string ⟨v.toArray⟩, .string ⟨i.toArray⟩, any, .string ⟨f.toArray⟩] w fun e w' => e = .returned (boolInt (false, 41)) ∧ Below w.heap.size w w' := by
  have HC := Lib.hid (rRule_r n w hn)
  rcases h with h | ⟨x, k, h, hx, hk⟩
  · rw [h] at HC
    clear h
    go_enter Tryz.func29, Tryz.ntmps29
    go_wp2_with (go_at_call 27; refine HC.out.mono ?_; rintro e w1 ⟨rfl, h1⟩; unfold strInt)
    go_ret2
    exact ⟨rfl, h1⟩
  · rw [h] at HC
    have hx' : (x == []) = false := beq_eq_false_iff_ne.2 hx
    have hk' : (k != 2) = true := by simpa using hk
    have hk'' : (k == 2) = false := beq_eq_false_iff_ne.2 hk
    clear h hx
    go_enter Tryz.func29, Tryz.ntmps29
    go_wp2_with (go_at_call 27; refine HC.out.mono ?_; rintro e w1 ⟨rfl, h1⟩; unfold strInt)
    go_ret2
    exact ⟨rfl, h1⟩
end Go.Proofs.YtgpecklibcgifaaGreatDoor
/- Contracts of the document's answer: chapter 5: Holds by a rule of pieces. -/
namespace Go.Proofs.YtgpecklibcgifaaGreatDoor
open Go.RowKit Go.Sort

theorem cat_len4 : ∀ L : List Int, (cat L).length ≤ 4 * L.length := by
  intro L
  induction L with
  | nil => simp [cat]
  | cons r L ih =>
    have := (encR_len r).2
    simp only [cat, List.flatMap_cons, List.length_append, List.length_cons] at ih ⊢
    omega
theorem ends_len (n k : Nat) (M : List Int) : (ends n k M).length ≤ M.length := by
  unfold ends
  have h1 := leftL_len M
  have h2 := rightL_len (leftL M)
  have h3 := rightL_len M
  cases decide (k = 0) <;> cases decide (k = n - 1) <;> simp only [cond_true, cond_false] <;> omega
theorem pieceR_len {fold : Bool} {n k : Nat} {x y : List UInt8} (h : pieceR fold n k x = some y) (hx : x.length ≤ 1000000000000) : y.length ≤ 4000000000000 := by
  unfold pieceR at h
  cases hv : Lib.validD x
  · rw [hv] at h; cases h
  · rw [hv] at h
    simp only [if_true] at h
    cases hm : mapG fold (runes x) [] with
    | none => rw [hm] at h; cases h
    | some L =>
      rw [hm] at h
      simp only [Option.map_some, Option.some.injEq] at h
      have h1 := (nice_piece hv hm hx).2.1
      have h2 := ends_len n k (singL L [])
      have h3 := cat_len4 (ends n k (singL L []))
      rw [← h]
      omega
theorem pieces_facts {fold : Bool} {n : Nat} : ∀ (xs acc L : List (List UInt8)) (k : Nat), piecesGo fold n k xs acc = some L → (∀ x ∈ xs, x.length ≤ 1000000000000) → (∀ y ∈ acc, y.length ≤ 4000000000000) → L.length = acc.length + xs.length ∧ ∀ y ∈ L, y.length ≤ 4000000000000
  | [], acc, L, k, h, _, ha => by
    rw [piecesGo] at h
    cases h
    exact ⟨by simp, ha⟩
  | x :: xs, acc, L, k, h, hx, ha => by
    rw [piecesGo_cons] at h
    cases hp : pieceR fold n k x with
    | none => rw [hp] at h; cases h
    | some y =>
      rw [hp] at h
      have := pieces_facts xs (acc ++ [y]) L (k + 1) h (fun z hz => hx z (List.mem_cons_of_mem _ hz)) (fun z hz => by
        rcases List.mem_append.1 hz with hz | hz
        · exact ha z hz
        · rw [List.mem_singleton.1 hz]; exact pieceR_len hp (hx x (List.mem_cons_self ..)))
      refine ⟨?_, this.2⟩
      rw [this.1]
      simp
      omega
theorem refPcs_facts {fold : Bool} {i f : List UInt8} {xs : List (List UInt8)} (hlen : ∀ x ∈ [i] ++ xs ++ [f], x.length ≤ 1000000000000) (h : (refPcs fold i xs f).1 = 0) :
    (refPcs fold i xs f).2.length = xs.length + 2 ∧ ∀ y ∈ (refPcs fold i xs f).2, y.length ≤ 4000000000000 := by
  unfold refPcs at h ⊢
  cases ha : xs.any (fun x => x == [])
  · rw [ha] at h
    simp only [cond_false] at h ⊢
    cases hp : piecesGo fold (xs.length + 2) 0 ([i] ++ xs ++ [f]) [] with
    | none => rw [hp] at h; cases h
    | some L =>
      have := pieces_facts _ _ _ _ hp hlen (by simp)
      refine ⟨?_, this.2⟩
      have h1 := this.1
      simp at h1
      show L.length = _
      omega
  · rw [ha] at h; cases h
theorem normT_len {fold : Bool} {v : List UInt8} (h : (normT fold v).1 = 0) : (normT fold v).2.length ≤ 1000000 := by
  unfold normT at h ⊢
  cases ho : okForms (fun f => ofB (nTextRule fold) f && validL f v) 8
  · rw [ho] at h; cases h
  · have hv : v.length ≤ 1024 := by
      unfold okForms at ho
      rw [List.any_eq_true] at ho
      obtain ⟨f, _, hf⟩ := ho
      simp only [validL, Bool.and_eq_true, decide_eq_true_eq] at hf
      exact hf.2.1
    rw [ho] at h
    simp only [cond_true] at h ⊢
    rw [prep_G] at h ⊢
    unfold prepG at h ⊢
    cases hd : Lib.validD v
    · rw [hd] at h; cases h
    · simp only [if_true]
      cases hm : mapG fold (runes v) [] with
      | none => rw [hd, hm] at h; cases h
      | some L =>
        have hLl := mapG_len fold _ _ _ hm
        have hrl := runesF_len v.length v
        have hSl := singL_len L []
        have h2 := leftL_len (singL L [])
        have h3 := rightL_len (leftL (singL L []))
        have h4 := cat_len4 (rightL (leftL (singL L [])))
        unfold runes at hLl
        simp at hLl hSl
        simp only [Option.map_some]
        split
        · simp
        · omega
theorem headL_eq {xs : List (List UInt8)} (h : 0 < xs.length) : headL xs = xs[0] := by
  cases xs with
  | nil => cases h
  | cons x xs => rfl
theorem lastL_eq {xs : List (List UInt8)} (h : xs.length - 1 < xs.length) : lastL xs = xs[xs.length - 1] := by
  unfold lastL
  rw [List.getLastD_eq_getLast?, List.getLast?_eq_getElem?, List.getElem?_eq_getElem h]
  rfl
set_option maxRecDepth 100000 in
set_option maxHeartbeats 2000000 in
/-- The document's Holds of pieces that lie in memory. -/
theorem rHolds3_t (s : List UInt8) (xs : List (List UInt8)) (v : Value) (w : World) (hs : s.length ≤ 1099511627776) (hn : 2 ≤ xs.length) (hN : xs.length ≤ 1000000)
    (hv : Texts w v xs) (hxl : ∀ x ∈ xs, x.length ≤ 4000000000000) :
    Calls Tryz.prog 57 #[.string ⟨s.toArray⟩, v] w fun e w' => e = .returned (.bool (holdsRef s xs (headL xs) (lastL xs))) ∧ Below w.heap.size w w' := by
  rcases hv with ⟨rfl, _⟩ | ⟨b, c, rfl, hc, hb, hcell⟩
  · simp at hn
  · rw [headL_eq (by omega), lastL_eq (by omega)]
    refine (rHolds3_r s xs b c w hs hn hc hN hcell (fun x hx => Nat.le_trans (hxl x hx) (by decide))).mono ?_
    rintro e w' ⟨he, n, rfl⟩
    exact ⟨he, ⟨rfl, rfl, rfl, Nat.le_refl _, fun _ _ => rfl⟩⟩
set_option maxRecDepth 100000 in
set_option maxHeartbeats 2000000 in
theorem rHolds_yes (fold : Bool) (n v i f : List UInt8) (xs : List (List UInt8)) (any : Value) (w : World) (hn : n.length ≤ 140737488351232) (h : refRule (smallL n) = (nSubs fold, 2))
    (hx : TxA w any xs) (hN : xs.length ≤ 1000) (hlen : ∀ x ∈ [i] ++ xs ++ [f], x.length ≤ 1000000000000) :
    Calls Tryz.prog 29 #[.string ⟨n.toArray⟩, .string ⟨v.toArray⟩, .string ⟨i.toArray⟩, any, .string ⟨f.toArray⟩] w fun e w' => e = .returned (boolInt (holdsT fold v i xs f)) ∧ Below w.heap.size w w' := by
  have HC := Lib.hid (rRule_r n w hn)
  rw [h] at HC
  clear h
  have hx' : (nSubs fold == []) = false := by cases fold <;> rfl
  have hsw : (nSubs fold == [99, 97, 115, 101, 73, 103, 110, 111, 114, 101, 83, 117, 98, 115, 116, 114, 105, 110, 103, 115, 77, 97, 116, 99, 104]) = fold := by cases fold <;> rfl
  have HBa := Lib.hid (fun W => Base_r (nSubs fold) W (nSubs_len fold))
  rw [baseSubs] at HBa
  have HNo := Lib.hid (fun W => rNormT_r fold v W)
  rw [refNormT_eq] at HNo
  have HPi := Lib.hid (fun W (hb : Below w.heap.size w W) => rPieces_r fold i f xs any W (hx.below hb) (by omega) hlen)
  have hA : ∃ A len c, any = .slice A len c := by
    rcases hx with ⟨rfl, rfl⟩ | ⟨a, c, rfl, _, _⟩
    · exact ⟨_, _, _, rfl⟩
    · exact ⟨_, _, _, rfl⟩
  obtain ⟨A, len, c, rfl⟩ := hA
  obtain ⟨R, hR⟩ : ∃ R, holdsT fold v i xs f = R := ⟨_, rfl⟩
  rw [hR]
  unfold holdsT at hR
  have HPF := Lib.hid (fun h => refPcs_facts (fold := fold) hlen h)
  have HNL := Lib.hid (fun h => normT_len (fold := fold) (v := v) h)
  generalize normT fold v = nt at *
  generalize refPcs fold i xs f = pc at *
  obtain ⟨en, m⟩ := nt
  obtain ⟨ep, ps⟩ := pc
  have HR := Lib.hid hR
  clear hR hx hlen
  generalize nSubs fold = own at *
  generalize nTextRule fold = bas at *
  simp only at HNo HNL HPF HR
  by_cases he : en = 0
  · subst he
    by_cases hp : ep = 0
    · subst hp
      have hpf := HPF.out rfl
      have hnl := HNL.out rfl
      have HHo := Lib.hid (fun v W (hv : Texts W v ps) => rHolds3_t m ps v W (by omega) (by omega) (by omega) hv hpf.2)
      have hRR : R = (holdsRef m ps (headL ps) (lastL ps), 0) := by rw [← HR.out, if_pos rfl, if_pos rfl]
      have HRR := Lib.hid hRR
      clear hRR HR hpf hnl HPF HNL
      go_enter Tryz.func29, Tryz.ntmps29
      go_wp2_with (first
        | (go_at_call 27; refine HC.out.mono ?_; rintro e w1 ⟨rfl, h1⟩; unfold strInt)
        | (go_at_call 45; refine (HBa.out _).mono ?_; rintro e w2 ⟨rfl, h2⟩)
        | (go_at_call 16; refine (HNo.out _).mono ?_; rintro e w3 ⟨rfl, h3⟩)
        | (go_at_call 56; refine (HPi.out _ (h1.trans ((h2.trans (h3.mono h2.size)).mono h1.size))).mono ?_; rintro e w4 ⟨h4, v4, rfl, hv4⟩; have HV4 := Lib.hid hv4; obtain ⟨A4, n4, c4, rfl⟩ := hv4.isSlice; clear hv4)
        | (go_at_call 57; refine (HHo.out _ _ HV4.out).mono ?_; rintro e w5 ⟨rfl, h5⟩))
      go_ret2
      have h14 := (h1.trans ((h2.trans (h3.mono h2.size)).mono h1.size)).trans (h4.mono (h1.trans ((h2.trans (h3.mono h2.size)).mono h1.size)).size)
      exact ⟨by rw [HRR.out]; rfl, h14.trans (h5.mono h14.size)⟩
    · have hp1 : (ep != 0) = true := by simpa using hp
      have hp2 : (ep == 0) = false := beq_eq_false_iff_ne.2 hp
      have hRR : R = (false, ep) := by rw [← HR.out, if_pos rfl, if_neg hp]
      have HRR := Lib.hid hRR
      clear hRR HR hp
      go_enter Tryz.func29, Tryz.ntmps29
      go_wp2_with (first
        | (go_at_call 27; refine HC.out.mono ?_; rintro e w1 ⟨rfl, h1⟩; unfold strInt)
        | (go_at_call 45; refine (HBa.out _).mono ?_; rintro e w2 ⟨rfl, h2⟩)
        | (go_at_call 16; refine (HNo.out _).mono ?_; rintro e w3 ⟨rfl, h3⟩)
        | (go_at_call 56; refine (HPi.out _ (h1.trans ((h2.trans (h3.mono h2.size)).mono h1.size))).mono ?_; rintro e w4 ⟨h4, v4, rfl, hv4⟩; obtain ⟨A4, n4, c4, rfl⟩ := hv4.isSlice))
      go_ret2
      exact ⟨by rw [HRR.out]; rfl, (h1.trans ((h2.trans (h3.mono h2.size)).mono h1.size)).trans (h4.mono (h1.trans ((h2.trans (h3.mono h2.size)).mono h1.size)).size)⟩
  · have hp1 : (en != 0) = true := by simpa using he
    have hp2 : (en == 0) = false := beq_eq_false_iff_ne.2 he
    have hRR : R = (false, en) := by rw [← HR.out, if_neg he]
    have HRR := Lib.hid hRR
    clear hRR HR he
    go_enter Tryz.func29, Tryz.ntmps29
    go_wp2_with (first
      | (go_at_call 27; refine HC.out.mono ?_; rintro e w1 ⟨rfl, h1⟩; unfold strInt)
      | (go_at_call 45; refine (HBa.out _).mono ?_; rintro e w2 ⟨rfl, h2⟩)
      | (go_at_call 16; refine (HNo.out _).mono ?_; rintro e w3 ⟨rfl, h3⟩))
    go_ret2
    exact ⟨by rw [HRR.out]; rfl, h1.trans ((h2.trans (h3.mono h2.size)).mono h1.size)⟩
end Go.Proofs.YtgpecklibcgifaaGreatDoor
/- Contracts: prep.Holds. -/
namespace Go.Proofs.YtgpecklibcgifaaGreatDoor
open Go.RowKit Go.Sort

/-- The program's search for the middle pieces. -/
def goP : List UInt8 → List (List UInt8) → Bool
  | _, [] => true
  | s, p :: ps => if Lib.index s p < 0 then false else goP (s.drop ((Lib.index s p).toNat + p.length)) ps
def holdsP (s : List UInt8) (xs : List (List UInt8)) (a z : List UInt8) : Bool :=
  if Lib.hasPrefix s a = true then (if Lib.hasSuffix (s.drop a.length) z = true then goP ((s.drop a.length).take ((s.drop a.length).length - z.length)) (midsFrom xs 1) else false) else false
theorem index_le (s p : List UInt8) : Lib.index s p = -1 ∨ (0 ≤ Lib.index s p ∧ Lib.index s p + p.length ≤ s.length) := by
  induction s with
  | nil =>
    unfold Lib.index
    cases p with
    | nil => right; simp
    | cons _ _ => left; rfl
  | cons b l ih =>
    unfold Lib.index
    by_cases h : p.isPrefixOf (b :: l) = true
    · rw [if_pos h]
      right
      have := (List.isPrefixOf_iff_prefix.1 h).length_le
      exact ⟨Int.le_refl _, by omega⟩
    · rw [if_neg h]
      rcases ih with e | ⟨e1, e2⟩
      · rw [e]; left; rfl
      · have hn : (Lib.index l p == -1) = false := beq_eq_false_iff_ne.2 (by omega)
        rw [hn]
        right
        simp only [Bool.false_eq_true, if_false, List.length_cons]
        omega
set_option maxRecDepth 100000 in
set_option maxHeartbeats 2000000 in
theorem pHolds_c (s : List UInt8) (xs : List (List UInt8)) (b c : Nat) (w : World) (hw : Env w) (hs : s.length ≤ 1000000) (hn : 2 ≤ xs.length) (hc : xs.length ≤ c) (hN : xs.length ≤ 1000000)
    (hcell : ∀ j (hj : j < xs.length), w.cell? ⟨b, j, none⟩ = some (.string ⟨xs[j].toArray⟩)) (hxl : ∀ x ∈ xs, x.length ≤ 4000000000000) :
    Calls Tryz.prog 55 #[.string ⟨s.toArray⟩, .slice (some ⟨b, 0, none⟩) xs.length c] w fun e w' => e = .returned (.bool (holdsP s xs (xs[0]'(by omega)) (xs[xs.length - 1]'(by omega)))) ∧ w = w' := by
  have f0 := hcell 0 (by omega)
  have f1 := hcell (xs.length - 1) (by omega)
  have HC := Lib.hid hcell
  have HXL := Lib.hid hxl
  clear hcell hxl
  obtain ⟨R, hR⟩ : ∃ R, holdsP s xs (xs[0]'(by omega)) (xs[xs.length - 1]'(by omega)) = R := ⟨_, rfl⟩
  rw [hR]
  unfold holdsP at hR
  generalize xs[0]'(by omega) = a at *
  generalize xs[xs.length - 1]'(by omega) = z at *
  have HR := Lib.hid hR
  clear hR
  have hi1 : IntKind.i64.wrap ((xs.length : Int) - 1) = ((xs.length - 1 : Nat) : Int) := by
    rw [IntWalk.i64_in _ (by omega)]; omega
  have hi2 : ((xs.length : Int) - 1) = ((xs.length - 1 : Nat) : Int) := by omega
  have hmx := hw.mx
  obtain ⟨mx, hmx⟩ := hmx
  have HP := Lib.hid (fun W => Tryz.strings_CutPrefix ⟨s.toArray⟩ ⟨a.toArray⟩ W)
  simp only [Lib.trimPrefix] at HP
  cases hp : Lib.hasPrefix s a
  · have hRR : R = false := by rw [← HR.out, hp]; rfl
    have HRR := Lib.hid hRR
    rw [hp] at HP
    clear hRR HR hp
    go_enter Tryz.func55, Tryz.ntmps55
    go_wp2_with (go_at_call 52; refine (HP.out _).mono ?_; rintro e w1 ⟨rfl, rfl⟩)
    go_ret
    exact ⟨retb HRR.out.symm, rfl⟩
  · rw [hp] at HP
    simp only [if_true] at HP
    have HS := Lib.hid (fun W => Tryz.strings_CutSuffix ⟨(s.drop a.length).toArray⟩ ⟨z.toArray⟩ W (by simp [ByteArray.size]; omega))
    simp only [Lib.trimSuffix] at HS
    have hs1 : (s.drop a.length).length ≤ 1000000 := by simp; omega
    generalize s.drop a.length = s1 at *
    cases hq : Lib.hasSuffix s1 z
    · have hRR : R = false := by rw [← HR.out, hp, hq]; rfl
      have HRR := Lib.hid hRR
      rw [hq] at HS
      clear hRR HR hp hq
      go_enter Tryz.func55, Tryz.ntmps55
      go_wp2_with (first | (go_at_call 52; refine (HP.out _).mono ?_; rintro e w1 ⟨rfl, rfl⟩) | (go_at_call 94; refine (HS.out _).mono ?_; rintro e w1 ⟨rfl, rfl⟩))
      go_ret
      exact ⟨retb HRR.out.symm, rfl⟩
    · rw [hq] at HS
      simp only [if_true] at HS
      have hs2 : (s1.take (s1.length - z.length)).length ≤ 1000000 := by simp; omega
      have hRR : R = goP (s1.take (s1.length - z.length)) (midsFrom xs 1) := by rw [← HR.out, hp, hq]; rfl
      have HRR := Lib.hid hRR
      clear hRR HR hp hq
      generalize s1.take (s1.length - z.length) = S at *
      have hc2 : ¬ (c = 1) := by omega
      go_enter Tryz.func55, Tryz.ntmps55
      go_wp2_with (first | (go_at_call 52; refine (HP.out _).mono ?_; rintro e w1 ⟨rfl, rfl⟩) | (go_at_call 94; refine (HS.out _).mono ?_; rintro e w1 ⟨rfl, rfl⟩))
      clear f0 f1 hs hs1 HP HS hc2
      have HK := Lib.hid (fun k (hk : k < xs.length - 1 - 1) => HC.out (1 + k) (by omega))
      have HMS := Lib.hid (fun k (hk : k < xs.length - 1 - 1) => midsFrom_step (xs := xs) (i := 1 + k) (by omega))
      have HME := Lib.hid (fun k (hk : xs.length - 1 - 1 ≤ k) => midsFrom_end (xs := xs) (i := 1 + k) (by omega))
      have HXK := Lib.hid (fun k (hk : k < xs.length - 1 - 1) => HXL.out (xs[1 + k]'(by omega)) (List.getElem_mem _))
      have hNb : xs.length - 1 - 1 ≤ 1000000 := by omega
      have hLast := Lib.hid (show xs.length - 1 - 1 < xs.length from by omega)
      go_loopg [6, 42] (xs.length - 1 - 1) (fun gk t i wr => ∃ (k : Nat) (T : List UInt8), k ≤ xs.length - 1 - 1 ∧ i = .int .i64 k ∧ t = .string ⟨T.toArray⟩ ∧ T.length ≤ 1000000 ∧ Aside (k + gk = xs.length - 1 - 1) ∧ w1 = wr ∧ Aside (R = goP T (midsFrom xs (1 + k))))
      case atStart => exact ⟨0, S, by omega, rfl, rfl, hs2, by show _ = _; omega, rfl, HRR.out⟩
      case round =>
        obtain ⟨k, T, hk, rfl, rfl, hT, AG, rfl, AT⟩ := hrel
        have hext := ba_ext
        by_cases hlt : k < xs.length - 1 - 1
        · obtain ⟨q, rfl⟩ : ∃ q, gk = q + 1 := ⟨gk - 1, by have := AG.out; omega⟩
          have fc := HK.out k hlt
          have hxk := HXK.out k hlt
          have AT2 : Aside (R = if Lib.index T (xs[1 + k]'(by omega)) < 0 then false else goP (T.drop ((Lib.index T (xs[1 + k]'(by omega))).toNat + (xs[1 + k]'(by omega)).length)) (midsFrom xs (1 + k + 1))) := by
            show _ = _
            rw [AT.out, HMS.out k hlt, goP]
          have HI := Lib.hid (Tryz.strings_Index ⟨T.toArray⟩ ⟨(xs[1 + k]'(by omega)).toArray⟩ mx w1 (by simp [ByteArray.size]; omega) hmx)
          have hil := index_le T (xs[1 + k]'(by omega))
          simp only at HI
          clear AT
          generalize xs[1 + k]'(by omega) = x at *
          generalize Lib.index T x = F at *
          rcases hil with rfl | ⟨hF0, hFl⟩
          · have hR2 : R = false := by rw [AT2.out]; rfl
            have HR2 := Lib.hid hR2
            clear hR2 AT2 HRR
            go_wp2_with (go_at_call 95; refine HI.out.mono ?_; rintro e wA ⟨rfl, rfl⟩)
            go_ret
            exact ⟨retb HR2.out.symm, rfl⟩
          · obtain ⟨f, rfl⟩ : ∃ f : Nat, F = f := ⟨F.toNat, by omega⟩
            have AT3 : Aside (R = goP (T.drop (f + x.length)) (midsFrom xs (1 + k + 1))) := by
              show _ = _
              rw [AT2.out, if_neg (by omega)]; rfl
            have hfb : (f : Int) + (x.length : Int) ≤ (T.length : Int) := hFl
            have hsub : sub T (f + x.length) T.length = T.drop (f + x.length) := by
              unfold sub
              rw [List.take_of_length_le (by simp)]
            clear AT2 hFl
            go_wp2_with (go_at_call 95; refine HI.out.mono ?_; rintro e wA ⟨rfl, rfl⟩)
            go_roundg q
            case measure => omega
            case rel => exact ⟨k + 1, T.drop (f + x.length), by omega, by go_num, by rw [hsub], by simp; omega, by have := AG.out; show _ = _; omega, rfl, by rw [show 1 + (k + 1) = 1 + k + 1 by omega]; exact AT3.out⟩
        · have hR2 : R = true := by rw [AT.out, HME.out k (by omega), goP]
          have HR2 := Lib.hid hR2
          clear hR2 AT HRR
          go_wp2_with fail
          go_ret
          exact ⟨retb HR2.out.symm, rfl⟩
end Go.Proofs.YtgpecklibcgifaaGreatDoor
/- Contracts: prep.Pieces. -/
namespace Go.Proofs.YtgpecklibcgifaaGreatDoor
open Go.RowKit Go.Sort

set_option maxRecDepth 100000 in
set_option maxHeartbeats 2000000 in
/-- Pieces where a middle piece is empty. -/
theorem pPieces_empty (fold : Bool) (i f : List UInt8) (xs : List (List UInt8)) (v : Value) (w : World) (hx : TxA w v xs) (hN : xs.length ≤ 1000000) (hany : xs.any (fun x => x == []) = true) :
    Calls Tryz.prog 54 #[.string ⟨i.toArray⟩, v, .string ⟨f.toArray⟩, .bool fold] w (PiecesRet w (1, [])) := by
  rcases hx with ⟨rfl, rfl⟩ | ⟨a, c, rfl, hc, hcell⟩
  · cases hany
  have HC := Lib.hid hcell
  clear hcell
  go_enter Tryz.func54, Tryz.ntmps54
  go_wp2_with fail
  go_loopg [19] xs.length (fun gk t wr => ∃ k : Nat, k ≤ xs.length ∧ t = .int .i64 k ∧ Aside (k + gk = xs.length) ∧ w = wr ∧ Aside ((xs.drop k).any (fun x => x == []) = true))
  case atStart => exact ⟨0, by omega, rfl, by show _ = _; omega, rfl, hany⟩
  case round =>
    obtain ⟨k, hk, rfl, AG, rfl, AT⟩ := hrel
    have hlt : k < xs.length := by
      apply Classical.byContradiction
      intro h
      have := AT.out
      rw [List.drop_eq_nil_of_le (by omega)] at this
      cases this
    obtain ⟨q, rfl⟩ : ∃ q, gk = q + 1 := ⟨gk - 1, by have := AG.out; omega⟩
    have fc := HC.out k hlt
    have AT2 : (xs[k] == [] || (xs.drop (k + 1)).any (fun x => x == [])) = true := by
      have := AT.out
      rw [List.drop_eq_getElem_cons hlt, List.any_cons] at this
      exact this
    have HA2 := Lib.hid AT2
    clear AT AT2
    generalize xs[k] = x at *
    cases hb : (x == [])
    · go_wp2_with fail
      go_roundg q
      case measure => omega
      case rel => exact ⟨k + 1, by omega, by go_num, by have := AG.out; show _ = _; omega, rfl, by have := HA2.out; rw [hb] at this; exact this⟩
    · go_wp2_with fail
      go_ret2
      exact ⟨Below.refl _ _, _, rfl, .inl ⟨rfl, rfl⟩⟩
/-- The mapped pieces, one by one. -/
def mapAll (fold : Bool) : List (List UInt8) → List (List UInt8) → Option (List (List UInt8))
  | [], acc => some acc
  | x :: xs, acc => (mappedL x fold).bind fun y => mapAll fold xs (acc ++ [y])
def kBlank : List UInt8 := [32]
/-- The first without a leading blank, then the last without a trailing one. -/
def trimEnds (l : List (List UInt8)) : List (List UInt8) :=
  let l1 := l.set 0 (Lib.trimPrefix (l.headD []) kBlank)
  l1.set (l.length - 1) (Lib.trimSuffix (l1.getLastD []) kBlank)
theorem Strs.opened {W0 w : World} {v : Value} {xs : List (List UInt8)} (h : Strs W0 w v xs) (hn : 0 < xs.length) : ∃ g cap, v = .slice (some ⟨g, 0, none⟩) xs.length cap ∧ xs.length ≤ cap ∧ W0.heap.size ≤ g ∧ g < w.heap.size ∧ (∀ j (hj : j < xs.length), w.cell? ⟨g, j, none⟩ = some (.string ⟨xs[j].toArray⟩)) ∧ (∀ j, j < xs.length → w.frozen? ⟨g, j, none⟩ = false) := by
  have ht := h.texts
  obtain ⟨⟨h1, h2⟩, _, _⟩ := h
  rcases h2 with ⟨rfl, hz⟩ | ⟨g, cap, cur, rfl, r2, r3, r4, r5, r6, r7⟩
  · omega
  · rcases ht with ⟨rfl, _⟩ | ⟨b, c, e, hc, hlt, hcell⟩
    · simp at hn
    · cases e
      refine ⟨g, cap, rfl, hc, r2, hlt, hcell, fun j hj => ?_⟩
      simp only [World.frozen?, r3]
      simp
end Go.Proofs.YtgpecklibcgifaaGreatDoor
/- Contracts: prep.Pieces where no middle piece is empty. -/
namespace Go.Proofs.YtgpecklibcgifaaGreatDoor
open Go.RowKit Go.Sort

def resP : Option (List (List UInt8)) → Int × List (List UInt8)
  | none => (10, [])
  | some l => (0, trimEnds l)
theorem mapped_len {x y : List UInt8} {fold : Bool} (h : mappedL x fold = some y) (hx : x.length ≤ 1000000000000) : y.length ≤ 4000000000000 := by
  cases hv : Lib.validD x
  · unfold mappedL at h; rw [hv] at h; cases h
  · rw [mapped_eq x fold hv, map_sing] at h
    cases hm : mapG fold (runes x) [] with
    | none => rw [hm] at h; cases h
    | some L =>
      rw [hm] at h
      simp only [Option.map_some, Option.some.injEq] at h
      have h1 := (nice_piece hv hm hx).2.1
      have h2 := cat_len4 (singL L [])
      rw [← h]
      omega
theorem trimEnds_eq {l : List (List UInt8)} (h2 : 2 ≤ l.length) : trimEnds l = (l.set 0 (Lib.trimPrefix (l[0]'(by omega)) [32])).set (l.length - 1) (Lib.trimSuffix (l[l.length - 1]'(by omega)) [32]) := by
  unfold trimEnds
  have e1 : l.headD [] = l[0]'(by omega) := by
    cases l with
    | nil => simp at h2
    | cons x xs => rfl
  have e2 : ∀ y, (l.set 0 y).getLastD [] = l[l.length - 1]'(by omega) := by
    intro y
    rw [List.getLastD_eq_getLast?, List.getLast?_eq_getElem?, List.length_set, List.getElem?_set_ne (by omega), List.getElem?_eq_getElem (by omega)]
    rfl
  simp only [e1, e2]
  rfl
theorem texts_two {w : World} {g n cap : Nat} {l : List (List UInt8)} (p q : List UInt8) (h2 : 2 ≤ l.length) (hn : n = l.length) (hc : n ≤ cap) (hg : g < w.heap.size) (hcell : ∀ j (hj : j < l.length), w.cell? ⟨g, j, none⟩ = some (.string ⟨l[j].toArray⟩)) :
    Texts ((w.setCell ⟨g, 0, none⟩ (.string ⟨p.toArray⟩)).setCell ⟨g, l.length - 1, none⟩ (.string ⟨q.toArray⟩)) (.slice (some ⟨g, 0, none⟩) n cap) ((l.set 0 p).set (l.length - 1) q) := by
  subst hn
  refine .inr ⟨g, cap, by simp, by simpa using hc, by simpa [World.setCell] using hg, fun j hj => ?_⟩
  have hj' : j < l.length := by simpa using hj
  by_cases h1 : j = l.length - 1
  · subst h1
    rw [World.cell?_setCell_same _ _ _ (by rw [World.cell?_setCell_other _ _ _ _ (by intro h; injection h with _ h; omega)]; exact hcell _ hj')]
    simp
  · rw [World.cell?_setCell_other _ _ _ _ (by intro h; injection h with _ h; omega)]
    by_cases h0 : j = 0
    · subst h0
      rw [World.cell?_setCell_same _ _ _ (hcell 0 hj')]
      rw [List.getElem_set_ne (by omega)]
      simp
    · rw [World.cell?_setCell_other _ _ _ _ (by intro h; injection h with _ h; omega), hcell j hj']
      rw [List.getElem_set_ne (by omega), List.getElem_set_ne (by omega)]
set_option maxRecDepth 100000 in
set_option maxHeartbeats 4000000 in
theorem pPieces_go (fold : Bool) (i f : List UInt8) (xs : List (List UInt8)) (v : Value) (w : World) (hw : Env w) (hx : TxA w v xs) (hN : xs.length ≤ 1000000) (hany : xs.any (fun x => x == []) = false)
    (hlen : ∀ x ∈ [i] ++ xs ++ [f], x.length ≤ 1000000000000) :
    Calls Tryz.prog 54 #[.string ⟨i.toArray⟩, v, .string ⟨f.toArray⟩, .bool fold] w (PiecesRet w (resP (mapAll fold ([i] ++ xs ++ [f]) []))) := by
  obtain ⟨R, hR⟩ : ∃ R, mapAll fold ([i] ++ xs ++ [f]) [] = R := ⟨_, rfl⟩
  rw [hR]
  have HR := Lib.hid hR
  clear hR
  obtain ⟨A, c, rfl, hcell⟩ : ∃ A c, v = .slice A xs.length c ∧ (∀ j (hj : j < xs.length), ∃ a, A = some a ∧ w.cell? (a.add j) = some (.string ⟨xs[j].toArray⟩)) := by
    rcases hx with ⟨rfl, rfl⟩ | ⟨a, c, rfl, hc, hcell⟩
    · exact ⟨_, _, rfl, fun j hj => by simp at hj⟩
    · exact ⟨_, _, rfl, fun j hj => ⟨a, rfl, hcell j hj⟩⟩
  have hne : ∀ j (hj : j < xs.length), (xs[j] == []) = false := by
    intro j hj
    rw [List.any_eq_false] at hany
    have := hany xs[j] (List.getElem_mem _)
    simpa using this
  have HC := Lib.hid hcell
  have HX := Lib.hid hx
  have HNE := Lib.hid hne
  have HLEN := Lib.hid hlen
  have HW := Lib.hid hw
  clear hcell hx hany hne hlen hw
  go_enter Tryz.func54, Tryz.ntmps54
  go_wp2_with fail
  go_loopg [19] xs.length (fun gk t wr => ∃ k : Nat, k ≤ xs.length ∧ t = .int .i64 k ∧ Aside (k + gk = xs.length) ∧ w = wr)
  case atStart => exact ⟨0, by omega, rfl, by show _ = _; omega, rfl⟩
  case round =>
    obtain ⟨k, hk, rfl, AG, rfl⟩ := hrel
    by_cases hlt : k < xs.length
    · obtain ⟨q, rfl⟩ : ∃ q, gk = q + 1 := ⟨gk - 1, by have := AG.out; omega⟩
      obtain ⟨a, rfl, fc⟩ := HC.out k hlt
      have hb := HNE.out k hlt
      generalize xs[k] = x at *
      go_wp2_with fail
      go_roundg q
      case measure => omega
      case rel => exact ⟨k + 1, by omega, by go_num, by have := AG.out; show _ = _; omega, rfl⟩
    · clear HC HNE AG
      go_wp2_with (first
        | (at_builtin; refine strs_moreA rfl _ _ rfl rfl (Strs.made1 w i) rfl (HX.out.below ((Below.refl _ _).alloc (Nat.le_refl _) _)) (by simp; omega) ?_; intro v1 w1 hs1 hg1; obtain ⟨g1, cp1, rfl, hcp1, hglt1, hcells1⟩ := hs1.texts.cons; have HS1 := Lib.hid hs1; clear hs1 hg1 hcells1)
        | (at_builtin; refine strs_one rfl _ _ rfl rfl HS1.out rfl (by simp; omega) ?_; intro v2 w2 hs2 hg2; obtain ⟨g2, cp2, rfl, hcp2, hglt2, hcells2⟩ := hs2.texts.cons; have HS2 := Lib.hid hs2; clear hs2 hg2))
      have HR2 : Hid (mapAll fold (i :: ([].append xs).append [f]) [] = R) := HR
      have HLEN2 : Hid (∀ x ∈ (i :: ([].append xs).append [f]), x.length ≤ 1000000000000) := HLEN
      have HB2 := Lib.hid HS2.out.below
      have hnl : (i :: ([].append xs).append [f]).length = xs.length + 2 := by simp
      clear HR HLEN HS1 HS2 HX hcp1 hglt1
      generalize i :: ([].append xs).append [f] = l at *
      have hl2 : 2 ≤ l.length := by omega
      have hlN : l.length ≤ 1000002 := by omega
      have hnl2 : xs.length + 1 + 1 = l.length := by omega
      try rw [hnl2]
      have hnl3 : ((xs.length : Int) + 1 + 1) = (l.length : Int) := by omega
      try rw [hnl3]
      clear hnl hnl2 hnl3 hN hlt hk
      go_loopg [12, 34] l.length (fun gk out t wr => ∃ (k : Nat) (acc : List (List UInt8)), k ≤ l.length ∧ t = .int .i64 k ∧ Aside (k + gk = l.length) ∧ Strs w2 wr out acc ∧ acc.length = k ∧ Aside (∀ y ∈ acc, y.length ≤ 4000000000000) ∧ Aside (R = mapAll fold (l.drop k) acc))
      case atStart => exact ⟨0, [], by omega, rfl, by show _ = _; omega, Strs.nil _, rfl, (by intro y hy; cases hy), HR2.out.symm⟩
      case round =>
        obtain ⟨k2, acc, hk2, rfl, AG2, hO, hacc, AY, AT2⟩ := hrel
        have HO := Lib.hid hO
        have hB := hO.below
        have hle := hO.le
        clear hO
        by_cases hlt2 : k2 < l.length
        · obtain ⟨q, rfl⟩ : ∃ q, gk = q + 1 := ⟨gk - 1, by have := AG2.out; omega⟩
          have fc : wr.cell? ⟨g2, k2, none⟩ = some (.string ⟨l[k2].toArray⟩) := (hB.cell (p := ⟨g2, k2, none⟩) hglt2).trans (hcells2.out k2 hlt2)
          have hxl : l[k2].length ≤ 1000000000000 := HLEN2.out _ (List.getElem_mem _)
          have AT3 : Aside (R = (mappedL l[k2] fold).bind fun y => mapAll fold (l.drop (k2 + 1)) (acc ++ [y])) := by
            show _ = _
            rw [AT2.out, List.drop_eq_getElem_cons hlt2, mapAll]
          have HEW : Hid (Env wr) := Lib.hid ((HW.out.keep HB2.out).keep hB)
          have HM := Lib.hid (mapped_c l[k2] fold wr HEW.out (by omega))
          clear AT2
          have HML := Lib.hid (fun (y : List UInt8) (hh : mappedL l[k2] fold = some y) => mapped_len hh hxl)
          generalize l[k2] = x at *
          generalize mappedL x fold = o at *
          cases o with
          | none =>
            have hRn : R = none := AT3.out
            have HRn := Lib.hid hRn
            clear hRn AT3
            go_wp2_with (go_at_call 61; refine HM.out.mono ?_; rintro e wA ⟨rfl, hbA⟩; unfold strOr)
            go_ret2
            rw [HRn.out]
            exact ⟨HB2.out.trans ((hB.trans (hbA.mono hle)).mono HB2.out.size), _, rfl, .inl ⟨rfl, rfl⟩⟩
          | some y =>
            have AT4 : Aside (R = mapAll fold (l.drop (k2 + 1)) (acc ++ [y])) := AT3.out
            clear AT3
            go_wp2_with (first
              | (go_at_call 61; refine HM.out.mono ?_; rintro e wA ⟨rfl, hbA⟩; unfold strOr; have HO' := Lib.hid (HO.out.grow hbA))
              | (at_builtin; refine strs_one rfl _ _ rfl rfl HO'.out rfl (by omega) ?_; intro v2 w3 hs3 hg3))
            go_roundg q
            case measure => omega
            case rel => exact ⟨k2 + 1, acc ++ [y], by omega, by go_num, by have := AG2.out; show _ = _; omega, hs3, by rw [List.length_append, hacc]; rfl, (by intro z hz; rcases List.mem_append.1 hz with hz | hz; exact AY.out z hz; rw [List.mem_singleton.1 hz]; exact HML.out y rfl), AT4.out⟩
        · have hRn : R = some acc := by rw [AT2.out, List.drop_eq_nil_of_le (by omega), mapAll]
          have HRn := Lib.hid hRn
          clear hRn AT2
          obtain ⟨g3, cp3, rfl, hcp3, hg3, hg3l, hcell3, hfr3⟩ := HO.out.opened (by omega)
          have f0 := hcell3 0 (by omega)
          have r0 := hfr3 0 (by omega)
          have f1 := hcell3 (acc.length - 1) (by omega)
          have r1 := hfr3 (acc.length - 1) (by omega)
          have hTP := Tryz.strings_TrimPrefix ⟨(acc[0]'(by omega)).toArray⟩ ⟨#[32]⟩ wr
          have hTS := fun W => Tryz.strings_TrimSuffix ⟨(acc[acc.length - 1]'(by omega)).toArray⟩ ⟨#[32]⟩ W (by have := AY.out _ (List.getElem_mem (l := acc) (n := acc.length - 1) (by omega)); simp [ByteArray.size]; omega)
          have HTT := Lib.hid (fun p q => texts_two (n := acc.length) (cap := cp3) (l := acc) p q (by omega) rfl hcp3 hg3l hcell3)
          have HTE := Lib.hid (trimEnds_eq (l := acc) (by omega))
          simp only at hTP hTS
          have HTP := Lib.hid hTP
          have HTS := Lib.hid hTS
          clear hTP hTS AY
          have ha2 : 2 ≤ acc.length := by omega
          have hab : acc.length ≤ 1000002 := by omega
          have hab2 : ((acc.length - 1 : Nat) : Int) ≤ 1000002 := by omega
          generalize acc[0]'(by omega) = a0 at *
          generalize acc[acc.length - 1]'(by omega) = a1 at *
          generalize Lib.trimPrefix a0 [32] = p0 at *
          generalize Lib.trimSuffix a1 [32] = p1 at *
          have hi1 : IntKind.i64.wrap ((acc.length : Int) - 1) = ((acc.length - 1 : Nat) : Int) := by
            rw [IntWalk.i64_in _ (by omega)]; omega
          have hi2 : ((acc.length : Int) - 1) = ((acc.length - 1 : Nat) : Int) := by omega
          have f2 : (wr.setCell ⟨g3, 0, none⟩ (.string ⟨p0.toArray⟩)).cell? ⟨g3, acc.length - 1, none⟩ = some (.string ⟨a1.toArray⟩) := by
            rw [World.cell?_setCell_other _ _ _ _ (by intro h; injection h with _ h; omega)]; exact f1
          have r2 : (wr.setCell ⟨g3, 0, none⟩ (.string ⟨p0.toArray⟩)).frozen? ⟨g3, acc.length - 1, none⟩ = false := by
            rw [World.frozen?_setCell]; exact r1
          clear hcell3 hfr3 hacc
          go_wp2_with (first | (go_at_call 92; refine HTP.out.mono ?_; rintro e wA ⟨rfl, hwA⟩; obtain rfl := hwA) | (go_at_call 93; refine (HTS.out _).mono ?_; rintro e wB ⟨rfl, hwB⟩; obtain rfl := hwB))
          go_ret2
          rw [HRn.out]
          have hB9 := HB2.out.trans (hB.mono HB2.out.size)
          refine ⟨?_, _, rfl, ?_⟩
          · have hgw : w.heap.size ≤ g3 := Nat.le_trans HB2.out.size hg3
            exact (hB9.setCell (by simpa using hgw) _).setCell (by simpa using hgw) _
          · show Texts _ _ (trimEnds acc)
            rw [HTE.out]
            exact HTT.out _ _
end Go.Proofs.YtgpecklibcgifaaGreatDoor
/- Contracts: syntax.Holds. -/
namespace Go.Proofs.YtgpecklibcgifaaGreatDoor
open Go.RowKit Go.Sort

/-- What prep.Pieces answers. -/
def pPcs (fold : Bool) (i : List UInt8) (xs : List (List UInt8)) (f : List UInt8) : Int × List (List UInt8) :=
  bif xs.any (fun x => x == []) then (1, []) else resP (mapAll fold ([i] ++ xs ++ [f]) [])
theorem pPieces_c (fold : Bool) (i f : List UInt8) (xs : List (List UInt8)) (v : Value) (w : World) (hw : Env w) (hx : TxA w v xs) (hN : xs.length ≤ 1000000)
    (hlen : ∀ x ∈ [i] ++ xs ++ [f], x.length ≤ 1000000000000) :
    Calls Tryz.prog 54 #[.string ⟨i.toArray⟩, v, .string ⟨f.toArray⟩, .bool fold] w (PiecesRet w (pPcs fold i xs f)) := by
  unfold pPcs
  cases h : xs.any (fun x => x == [])
  · exact pPieces_go fold i f xs v w hw hx hN h hlen
  · exact pPieces_empty fold i f xs v w hx hN h
theorem pHolds_t (s : List UInt8) (xs : List (List UInt8)) (v : Value) (w : World) (hw : Env w) (hs : s.length ≤ 1000000) (hn : 2 ≤ xs.length) (hN : xs.length ≤ 1000000)
    (hv : Texts w v xs) (hxl : ∀ x ∈ xs, x.length ≤ 4000000000000) :
    Calls Tryz.prog 55 #[.string ⟨s.toArray⟩, v] w fun e w' => e = .returned (.bool (holdsP s xs (headL xs) (lastL xs))) ∧ w = w' := by
  rcases hv with ⟨rfl, _⟩ | ⟨b, c, rfl, hc, hb, hcell⟩
  · simp at hn
  · rw [headL_eq (by omega), lastL_eq (by omega)]
    exact pHolds_c s xs b c w hw hs hn hc hN hcell hxl
def nIgnSubs : List UInt8 := [99, 97, 115, 101, 73, 103, 110, 111, 114, 101, 83, 117, 98, 115, 116, 114, 105, 110, 103, 115, 77, 97, 116, 99, 104]
/-- What syntax.Holds answers by a rule. -/
def holdsX (x : RowT) (v i : List UInt8) (xs : List (List UInt8)) (f : List UInt8) : Bool × Int := match normS x v with
  | none => (false, 40)
  | some m => ((pPcs (x.1 == nIgnSubs) i xs f).1 == 0 && holdsP m (pPcs (x.1 == nIgnSubs) i xs f).2 (headL (pPcs (x.1 == nIgnSubs) i xs f).2) (lastL (pPcs (x.1 == nIgnSubs) i xs f).2), (pPcs (x.1 == nIgnSubs) i xs f).1)
set_option maxRecDepth 100000 in
set_option maxHeartbeats 2000000 in
theorem sHolds_no (n v i f : List UInt8) (any : Value) (w : World) (hn : n.length ≤ 140737488351232) (h : askT (smallL n) 2 = none) :
    Calls Tryz.prog 28 #[.string ⟨n.toArray⟩, .string ⟨v.toArray⟩, .string ⟨i.toArray⟩, any, .string ⟨f.toArray⟩] w fun e w' => e = .returned (boolInt (false, 41)) ∧ Below w.heap.size w w' := by
  have hc := asked_c n 2 w hn
  rw [h] at hc
  clear h
  go_enter Tryz.func28, Tryz.ntmps28
  go_wp2_with (go_at_call 30; refine hc.mono ?_; rintro e w1 ⟨hb, rfl⟩)
  go_ret2
  exact ⟨rfl, hb⟩
set_option maxRecDepth 100000 in
set_option maxHeartbeats 2000000 in
theorem sHolds_yes (x : RowT) (n v i f : List UInt8) (xs : List (List UInt8)) (any : Value) (w : World) (hw : Env w) (hn : n.length ≤ 140737488351232) (h : askT (smallL n) 2 = some x)
    (hx : TxA w any xs) (hN : xs.length ≤ 1000) (hlen : ∀ x ∈ [i] ++ xs ++ [f], x.length ≤ 1000000000000)
    (hml : ∀ m, normS x v = some m → m.length ≤ 1000000)
    (hpl : ∀ fold, (pPcs fold i xs f).1 = 0 → (pPcs fold i xs f).2.length = xs.length + 2 ∧ ∀ y ∈ (pPcs fold i xs f).2, y.length ≤ 4000000000000) :
    Calls Tryz.prog 28 #[.string ⟨n.toArray⟩, .string ⟨v.toArray⟩, .string ⟨i.toArray⟩, any, .string ⟨f.toArray⟩] w fun e w' => e = .returned (boolInt (holdsX x v i xs f)) ∧ Below w.heap.size w w' := by
  have hc := asked_c n 2 w hn
  have hfl := askT_forms h
  rw [h] at hc
  clear h
  have HN := Lib.hid (fun b W (hW : Env W) hR => normal_c x b v W hW hR hfl)
  have hA : ∃ A len c, any = .slice A len c := by
    rcases hx with ⟨rfl, rfl⟩ | ⟨a, c, rfl, _, _⟩
    · exact ⟨_, _, _, rfl⟩
    · exact ⟨_, _, _, rfl⟩
  obtain ⟨A, len, c, rfl⟩ := hA
  obtain ⟨R, hR⟩ : ∃ R, holdsX x v i xs f = R := ⟨_, rfl⟩
  rw [hR]
  unfold holdsX at hR
  have HML := Lib.hid hml
  clear hml
  generalize normS x v = o at *
  cases o with
  | none =>
    have hR2 : R = (false, 40) := hR.symm
    have HR2 := Lib.hid hR2
    clear hR hR2 hpl
    go_enter Tryz.func28, Tryz.ntmps28
    go_wp2_with (first | (go_at_call 30; refine hc.mono ?_; rintro e w1 ⟨hb, b, rfl, hbb, hrow⟩) | (go_at_call 40; refine (HN.out _ _ (hw.keep hb) hrow).mono ?_; rintro e w2 ⟨rfl, hb2⟩; simp only [strOr]))
    go_ret2
    exact ⟨by rw [HR2.out]; rfl, hb.trans (hb2.mono hb.size)⟩
  | some m =>
    have hm := HML.out m rfl
    have hpf := hpl (x.1 == nIgnSubs)
    have HPi := Lib.hid (fun W (hb : Below w.heap.size w W) => pPieces_c (x.1 == nIgnSubs) i f xs (.slice A len c) W (hw.keep hb) (hx.below hb) (by omega) hlen)
    have hsw : (x.1 == [99, 97, 115, 101, 73, 103, 110, 111, 114, 101, 83, 117, 98, 115, 116, 114, 105, 110, 103, 115, 77, 97, 116, 99, 104]) = (x.1 == nIgnSubs) := rfl
    clear hpl HML hlen
    generalize pPcs (x.1 == nIgnSubs) i xs f = pc at *
    generalize (x.1 == nIgnSubs) = fold at *
    obtain ⟨ep, ps⟩ := pc
    have HR := Lib.hid hR
    have HPF := Lib.hid hpf
    have HX := Lib.hid hx
    clear hR hpf hx
    simp only at HPF HR
    by_cases hp : ep = 0
    · subst hp
      have hpf := HPF.out rfl
      have HHo := Lib.hid (fun v W (hW : Env W) (hv : Texts W v ps) => pHolds_t m ps v W hW (by omega) (by omega) (by omega) hv hpf.2)
      have hRR : R = (holdsP m ps (headL ps) (lastL ps), 0) := by rw [← HR.out]; rfl
      have HRR := Lib.hid hRR
      clear hRR HR hpf HPF
      go_enter Tryz.func28, Tryz.ntmps28
      go_wp2_with (first
        | (go_at_call 30; refine hc.mono ?_; rintro e w1 ⟨hb, b, rfl, hbb, hrow⟩)
        | (go_at_call 40; refine (HN.out _ _ (hw.keep hb) hrow).mono ?_; rintro e w2 ⟨rfl, hb2⟩; simp only [strOr]; obtain ⟨fA, fN, fC, nF, n1, n2, hblk, _, _⟩ := hrow.below hb2; have fc : w2.cell? ⟨b, 0, none⟩ = some (.string ⟨x.1.toArray⟩) := by simp [World.cell?, hblk])
        | (go_at_call 54; refine (HPi.out _ (hb.trans (hb2.mono hb.size))).mono ?_; rintro e w4 ⟨h4, v4, rfl, hv4⟩; have HV4 := Lib.hid hv4; obtain ⟨A4, n4, c4, rfl⟩ := hv4.isSlice; clear hv4)
        | (go_at_call 55; refine (HHo.out _ _ ((hw.keep (hb.trans (hb2.mono hb.size))).keep h4) HV4.out).mono ?_; rintro e w5 ⟨rfl, rfl⟩))
      go_ret2
      have h14 := (hb.trans (hb2.mono hb.size)).trans (h4.mono (hb.trans (hb2.mono hb.size)).size)
      exact ⟨by rw [HRR.out]; rfl, h14⟩
    · have hp2 : (ep == 0) = false := beq_eq_false_iff_ne.2 hp
      have hRR : R = (false, ep) := by rw [← HR.out]; simp only [hp2, Bool.false_and]
      have HRR := Lib.hid hRR
      clear hRR HR HPF
      go_enter Tryz.func28, Tryz.ntmps28
      go_wp2_with (first
        | (go_at_call 30; refine hc.mono ?_; rintro e w1 ⟨hb, b, rfl, hbb, hrow⟩)
        | (go_at_call 40; refine (HN.out _ _ (hw.keep hb) hrow).mono ?_; rintro e w2 ⟨rfl, hb2⟩; simp only [strOr]; obtain ⟨fA, fN, fC, nF, n1, n2, hblk, _, _⟩ := hrow.below hb2; have fc : w2.cell? ⟨b, 0, none⟩ = some (.string ⟨x.1.toArray⟩) := by simp [World.cell?, hblk])
        | (go_at_call 54; refine (HPi.out _ (hb.trans (hb2.mono hb.size))).mono ?_; rintro e w4 ⟨h4, v4, rfl, hv4⟩; obtain ⟨A4, n4, c4, rfl⟩ := hv4.isSlice; clear hv4))
      go_ret2
      have h14 := (hb.trans (hb2.mono hb.size)).trans (h4.mono (hb.trans (hb2.mono hb.size)).size)
      exact ⟨by rw [HRR.out]; rfl, h14⟩
end Go.Proofs.YtgpecklibcgifaaGreatDoor
