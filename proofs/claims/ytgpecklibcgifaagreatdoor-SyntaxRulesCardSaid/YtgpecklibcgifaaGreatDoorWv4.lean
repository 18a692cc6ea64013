/- Plain: the rules of equality on both sides. -/
import Derived.Test.YtgpecklibcgifaaGreatDoorWv2
import Derived.Test.YtgpecklibcgifaaGreatDoorWv3
import Derived.Test.YtgpecklibcgifaaGreatDoorWu1
import Derived.Test.YtgpecklibcgifaaGreatDoorWr2
set_option linter.all false
namespace Go.Proofs.YtgpecklibcgifaaGreatDoor

def nOidR : List UInt8 := [111, 98, 106, 101, 99, 116, 73, 100, 101, 110, 116, 105, 102, 105, 101, 114, 77, 97, 116, 99, 104]
def nDnR : List UInt8 := [100, 105, 115, 116, 105, 110, 103, 117, 105, 115, 104, 101, 100, 78, 97, 109, 101, 77, 97, 116, 99, 104]
theorem eq_rows : ∀ x ∈ tab, x.2.1 = 0 → refBase x.1 = x.1 ∧ refRule (smallL x.1) = (x.1, 0) ∧ (x.1 == []) = false ∧ x.1.length ≤ 100 := by decide +kernel
theorem eq_forms : ∀ x ∈ tab, x.2.1 = 0 → (∀ f ∈ fforms, ofB x.1 f = true → f ∈ x.2.2.1) ∧ (∀ f ∈ x.2.2.1, f ∈ fforms ∧ ofB x.1 f = true) := by decide +kernel
theorem eq_self : ∀ x ∈ tab, x.2.1 = 0 → x.2.2.2 = .self → (x.1 == nTextRule false) = false ∧ (x.1 == nTextRule true) = false ∧ (x.1 == nDnR) = false ∧ (x.1 == nOidR) = false := by decide +kernel
theorem eq_text : ∀ x ∈ tab, x.2.1 = 0 → (x.2.2.2 = .text false → x.1 = nTextRule false ∧ x.2.2.1 = [fText, fAscii]) ∧ (x.2.2.2 = .text true → x.1 = nTextRule true ∧ x.2.2.1 = [fText, fAscii]) ∧ (x.2.2.2 = .name → x.1 = nDnR ∧ x.2.2.1 = [fName]) ∧ (x.2.2.2 = .oid → x.1 = nOidR ∧ x.2.2.1 = [fOid]) := by decide +kernel
theorem okForms_row {x : RowT} (hx : x ∈ tab) (h0 : x.2.1 = 0) (v : List UInt8) : okForms (fun f => ofB x.1 f && validL f v) 8 = x.2.2.1.any (fun f => validL f v) := by
  obtain ⟨h1, h2⟩ := eq_forms x hx h0
  unfold okForms
  rw [show fforms.take 8 = fforms from rfl, Bool.eq_iff_iff, List.any_eq_true, List.any_eq_true]
  constructor
  · rintro ⟨f, hf, hv⟩
    rw [Bool.and_eq_true] at hv
    exact ⟨f, h1 f hf hv.1, hv.2⟩
  · rintro ⟨f, hf, hv⟩
    obtain ⟨a, b⟩ := h2 f hf
    exact ⟨f, a, by rw [Bool.and_eq_true]; exact ⟨b, hv⟩⟩
theorem normS_no {x : RowT} {v : List UInt8} (h : x.2.2.1.any (fun f => validL f v) = false) : normS x v = none := by
  unfold normS
  rw [h, Bool.and_false]
  rfl
theorem normS_yes {x : RowT} {v : List UInt8} (h : x.2.2.1.any (fun f => validL f v) = true) : normS x v = applyN x.2.2.2 v ∧ v.length ≤ 1024 := by
  have hl : v.length ≤ 1024 := by
    rw [List.any_eq_true] at h
    obtain ⟨f, _, hf⟩ := h
    simp only [validL, Bool.and_eq_true, decide_eq_true_eq] at hf
    exact hf.1
  unfold normS
  rw [h, decide_eq_true hl]
  exact ⟨rfl, hl⟩
theorem text_some {v : List UInt8} (h : [fText, fAscii].any (fun f => validL f v) = true) (fold : Bool) : ∃ m, prepL v fold = some m := by
  simp only [List.any_cons, List.any_nil, Bool.or_false] at h
  apply Option.isSome_iff_exists.1
  rcases Bool.or_eq_true_iff.1 h with h | h
  · have h2 : textL v = true := by
      simp only [validL, Bool.and_eq_true] at h; exact h.2
    unfold textL at h2
    rw [Bool.and_eq_true] at h2
    rw [prep_fold]; exact h2.2
  · have h2 : asciiL v = true := by
      simp only [validL, Bool.and_eq_true] at h; exact h.2
    exact ascii_prep v fold h2
theorem name_zero {v : List UInt8} (h : [fName].any (fun f => validL f v) = true) : (parseL v).1 = 0 := by
  simp only [List.any_cons, List.any_nil, Bool.or_false] at h
  have h2 : ((parseL v).1 == 0) = true := by
    simp only [validL, Bool.and_eq_true] at h; exact h.2
  exact beq_iff_eq.1 h2
/-- What the document's Norm does where the value is of the rule's form. -/
inductive NormCase (x : RowT) (v : List UInt8) : Prop
  | self (h1 : (x.1 == nTextRule false) = false) (h2 : (x.1 == nTextRule true) = false) (h3 : (x.1 == nDnR) = false) (h4 : (x.1 == nOidR) = false) (hn : normS x v = some v)
  | text (fold : Bool) (m : List UInt8) (h1 : x.1 = nTextRule fold) (hp : prepL v fold = some m) (hn : normS x v = some m)
  | name (h1 : x.1 = nDnR) (hp : (parseL v).1 = 0) (hn : normS x v = some (printL ((parseL v).2.map normP)).2)
  | oid (h1 : x.1 = nOidR) (hn : normS x v = some (smallL v))
theorem norm_case {x : RowT} (hx : x ∈ tab) (h0 : x.2.1 = 0) {v : List UInt8} (h : x.2.2.1.any (fun f => validL f v) = true) : NormCase x v := by
  obtain ⟨hy, hl⟩ := normS_yes h
  obtain ⟨t1, t2, t3, t4⟩ := eq_text x hx h0
  cases hf : x.2.2.2 with
  | self =>
    obtain ⟨a, b, c, d⟩ := eq_self x hx h0 hf
    exact .self a b c d (by rw [hy, hf]; rfl)
  | text fold =>
    cases fold with
    | false =>
      obtain ⟨a, b⟩ := t1 hf
      rw [b] at h
      obtain ⟨m, hm⟩ := text_some h false
      exact .text false m a hm (by rw [hy, hf]; exact hm)
    | true =>
      obtain ⟨a, b⟩ := t2 hf
      rw [b] at h
      obtain ⟨m, hm⟩ := text_some h true
      exact .text true m a hm (by rw [hy, hf]; exact hm)
  | name =>
    obtain ⟨a, b⟩ := t3 hf
    rw [b] at h
    have hz := name_zero h
    exact .name a hz (by rw [hy, hf]; exact nameN_ok hz hl)
  | oid =>
    obtain ⟨a, b⟩ := t4 hf
    exact .oid a (by rw [hy, hf]; rfl)
end Go.Proofs.YtgpecklibcgifaaGreatDoor
/- Contracts of the document's answer: chapter 5: name. -/
namespace Go.Proofs.YtgpecklibcgifaaGreatDoor
open Go.RowKit Go.Sort

theorem parse_fit {s : List UInt8} (h : (parseL s).1 = 0) : Fit (parseL s).2 := by
  refine fit_of ?_ (parse_wt h).2.1
  rw [List.any_eq_false]
  intro p hp
  unfold partBad
  rw [Bool.or_eq_true, not_or]
  constructor
  · intro he
    exact parseL_ne p hp (by simpa using he)
  · intro he
    rw [List.any_eq_true] at he
    obtain ⟨x, hx, hbad⟩ := he
    unfold avaBadB at hbad
    rw [parse_type p hp x hx] at hbad
    cases hbad
theorem fit_of_print {d : List (List (List UInt8 × List UInt8))} (h : (printL d).1 = 0) : Fit d := by
  unfold printL at h
  split at h
  · simp at h
  · next hb =>
    split at h
    · simp at h
    · next hl => exact fit_of (by simpa using hb) (by simpa using hl)
theorem normA_lenA {x : List UInt8 × List UInt8} (h1 : x.1.length ≤ 64) (h2 : x.2.length ≤ 1024) : LenA (normA x) := by
  have := (normA_wt x).2
  refine ⟨?_, by omega⟩
  unfold normA
  simp only [smallL_len]
  omega
theorem below_of_dn {B : Nat} {w0 w w' : World} {v : Value} {d : List (List (List UInt8 × List UInt8))} {vs : List Value} (h : DnV B w v d vs) (hb : Below B w0 w) (hg : w.grownBy w' v.ownBlock) : Below B w0 w' :=
  ⟨hg.os.trans hb.os, hg.tape.trans hb.tape, hg.output.trans hb.output, Nat.le_trans hb.size hg.size, fun k hk => by
    rw [hg.block k (Nat.lt_of_lt_of_le hk h.2.1) (fun e => by have := (h.own k e.symm).1; omega)]
    exact hb.block k hk⟩
theorem cell_al {w : World} {p o : Nat} {v : Value} (X : Obj) (h : w.cell? ⟨p, o, none⟩ = some v) : (w.alloc X).cell? ⟨p, o, none⟩ = some v :=
  (((Below.refl w.heap.size w).alloc (Nat.le_refl _) X).cell (p := ⟨p, o, none⟩) (World.block_lt_of_cell? _ _ h)).trans h
theorem cell_st {w : World} {p o g i : Nat} {v : Value} (u : Value) (hne : p ≠ g) (h : w.cell? ⟨p, o, none⟩ = some v) : (w.setCell ⟨g, i, none⟩ u).cell? ⟨p, o, none⟩ = some v :=
  (World.cell?_of_block (Below.heap_setCell _ _ _ _ hne)).trans h
theorem cell_set_same {w : World} {g i : Nat} {v : Value} (h : w.cell? ⟨g, i, none⟩ = some v) (u : Value) : (w.setCell ⟨g, i, none⟩ u).cell? ⟨g, i, none⟩ = some u := World.cell?_setCell_same _ _ _ h
theorem lt_al {w : World} {p : Nat} (X : Obj) (h : p < w.heap.size) : p < (w.alloc X).heap.size := by simp; omega
theorem new_al (w : World) (X : Obj) : w.heap.size < (w.alloc X).heap.size := by simp
theorem new_cell0 (w : World) (u v : Value) (T : TypeId) : (w.alloc (.cells #[u, v] T)).cell? ⟨w.heap.size, 0, none⟩ = some u := by simp
theorem new_cell1 (w : World) (u v : Value) (T : TypeId) : (w.alloc (.cells #[u, v] T)).cell? ⟨w.heap.size, 1, none⟩ = some v := by simp
theorem new_froz (w : World) (l : Array Value) (T : TypeId) (o : Nat) : (w.alloc (.cells l T)).frozen? ⟨w.heap.size, o, none⟩ = false := by simp
set_option maxRecDepth 100000 in
set_option maxHeartbeats 4000000 in
theorem rnm_r (s : List UInt8) (w : World) (her : (parseL s).1 = 0) (hs : s.length ≤ 1024) :
    Calls Tryz.prog 43 #[.string ⟨s.toArray⟩] w fun e w' => e = .returned (.string ⟨(printL ((parseL s).2.map normP)).2.toArray⟩) ∧ Below w.heap.size w w' := by
  have hFit := parse_fit her
  have hpr := norm_prints her hs
  have HPar := Lib.hid (rParse_r s w)
  generalize parseL s = ps at *
  obtain ⟨er, d⟩ := ps
  simp only at her hFit hpr HPar ⊢
  subst her
  have hFit2 := fit_of_print hpr
  have HPr := Lib.hid (fun v W (hv : DnR W v (d.map normP)) => rPrint_r (d.map normP) v W hv (by have := hFit2.1; omega) (fun p hp => ⟨by have := (hFit2.2 p hp).1; omega, fun x hx => by have := ((hFit2.2 p hp).2 x hx).1; omega⟩))
  generalize printL (d.map normP) = pr at *
  obtain ⟨er2, M⟩ := pr
  simp only at hpr HPr ⊢
  subst hpr
  have HFit := Lib.hid hFit.2
  have hdl := hFit.1
  clear hFit hFit2 hs
  go_enter Tryz.func43, Tryz.ntmps43
  go_wp2_with (go_at_call 49; refine HPar.out.mono ?_; rintro e w1 ⟨hb1, v, rfl, hd⟩; obtain ⟨A0, c0, rfl, hc0⟩ := hd.isSlice)
  have HDR := Lib.hid hd.reads
  have HB1 := Lib.hid hb1
  clear hd HPar hb1
  go_loopg [5, 6] d.length (fun gk out t wr => ∃ (k : Nat) (vs : List Value), k ≤ d.length ∧ t = .int .i64 k ∧ Aside (k + gk = d.length) ∧ DnV w1.heap.size wr out ((d.take k).map normP) vs ∧ Below w1.heap.size w1 wr)
  case atStart => exact ⟨0, [], by omega, rfl, by show _ = _; omega, ⟨World.ownsRow_nil _ _ _ _, Nat.le_refl _, .nil, by simp⟩, Below.refl _ _⟩
  case round =>
    obtain ⟨k, vs, hk, rfl, AG, hD, hB⟩ := hrel
    have HD := Lib.hid hD
    obtain ⟨Ao, co, rfl, hco⟩ := hD.isSlice
    have hol : ((d.take k).map normP).length = k := by simp; omega
    rw [hol] at hco HD ⊢
    clear hD
    by_cases hlt : k < d.length
    · obtain ⟨q, rfl⟩ : ∃ q, gk = q + 1 := ⟨gk - 1, by have := AG.out; omega⟩
      obtain ⟨gd, od, rfl, hgd, pv, hpc, hpr⟩ : ∃ g o, A0 = some ⟨g, o, none⟩ ∧ g < w1.heap.size ∧ ∃ pv, w1.cell? ⟨g, o + k, none⟩ = some pv ∧ RdnR w1 pv d[k] := by
        obtain ⟨A', c', e, _, hx⟩ := HDR.out
        cases e
        rcases hx with rfl | ⟨g, o, rfl, hg, h⟩
        · simp at hlt
        · exact ⟨g, o, rfl, hg, h k d[k] (List.getElem?_eq_getElem hlt)⟩
      have hpf := HFit.out d[k] (List.getElem_mem _)
      have HPf := Lib.hid hpf.2
      have hpl := hpf.1
      have hnx : (d.take (k + 1)).map normP = (d.take k).map normP ++ [normP d[k]] := by
        rw [List.take_succ_eq_append_getElem hlt, List.map_append]
        rfl
      have HNx := Lib.hid hnx
      have HRd := Lib.hid hpr
      obtain ⟨Ap, cp, rfl, hcp, _⟩ := hpr
      have hkk : (k : Int) < (d.length : Int) := by omega
      clear hnx hpf
      generalize d[k] = p at *
      obtain ⟨wo, hwo⟩ : ∃ wo, wo = wr := ⟨_, rfl⟩
      subst hwo
      have hgo : gd < wo.heap.size := Nat.lt_of_lt_of_le hgd hB.size
      have co0 := (hB.cell (p := ⟨gd, od + k, none⟩) hgd).trans hpc
      have HRo := Lib.hid (HRd.out.below hB)
      clear hpc HRd
      go_wp2_with fail
      go_loopg [7, 8] p.length (fun gk2 r t wr => ∃ k2 : Nat, k2 ≤ p.length ∧ t = .int .i64 k2 ∧ Aside (k2 + gk2 = p.length) ∧ Avas wo.heap.size wr r ((p.take k2).map normA) ∧ Below wo.heap.size wo wr)
      case atStart => exact ⟨0, by omega, rfl, by show _ = _; omega, Avas.empt _ (Nat.le_refl _), Below.refl _ _⟩
      case round =>
        obtain ⟨k2, hk2, rfl, AG2, hA, hB2⟩ := hrel
        have HA := Lib.hid hA
        obtain ⟨Ar, cr, rfl, hcr⟩ := hA.isSlice
        have hrl : ((p.take k2).map normA).length = k2 := by simp; omega
        rw [hrl] at hcr HA ⊢
        clear hA
        have hgr : gd < wr.heap.size := Nat.lt_of_lt_of_le hgo hB2.size
        have e0 := (hB2.cell (p := ⟨gd, od + k, none⟩) hgo).trans co0
        by_cases hlt2 : k2 < p.length
        · obtain ⟨q2, rfl⟩ : ∃ q2, gk = q2 + 1 := ⟨gk - 1, by have := AG2.out; omega⟩
          obtain ⟨gp, op, rfl, hgp, y0, y1⟩ := (HRo.out.below hB2).at hlt2
          have hnx2 : (p.take (k2 + 1)).map normA = (p.take k2).map normA ++ [normA p[k2]] := by
            rw [List.take_succ_eq_append_getElem hlt2, List.map_append]
            rfl
          have HNx2 := Lib.hid hnx2
          have hxl := HPf.out p[k2] (List.getElem_mem _)
          have hkk2 : (k2 : Int) < (p.length : Int) := by omega
          have hsk : op + k2 * 2 = op + 2 * k2 := by omega
          clear hnx2
          generalize p[k2] = x at *
          obtain ⟨x1, x2⟩ := x
          simp only [normA] at y0 y1 hxl HNx2
          have HLo := Lib.hid (fun W => Lower_r x1 W (by omega))
          have HPp := Lib.hid (fun W => Prepare_r x2 true W (by omega))
          generalize smallL x1 = t1 at *
          generalize prepL x2 true = o2 at *
          go_wp2_with fail
          go_region_held3 (fun w' => w'.cell? ⟨gd, od + k, none⟩ = some (.slice (some ⟨gp, op, none⟩) p.length cp) ∧ w'.cell? ⟨gp, op + 2 * k2, none⟩ = some (.string ⟨x1.toArray⟩) ∧ w'.cell? ⟨gp, op + 2 * k2 + 1, none⟩ = some (.string ⟨x2.toArray⟩)) (first | exact ⟨e0, y0, y1⟩ | exact ⟨f0, f1, f2⟩ | exact ⟨cell_al _ e0, cell_al _ y0, cell_al _ y1⟩ | exact ⟨cell_al _ f0, cell_al _ f1, cell_al _ f2⟩ | exact ⟨cell_st _ (Nat.ne_of_lt hgr) (cell_st _ (Nat.ne_of_lt hgr) f0), cell_st _ (Nat.ne_of_lt hgp) (cell_st _ (Nat.ne_of_lt hgp) f1), cell_st _ (Nat.ne_of_lt hgp) (cell_st _ (Nat.ne_of_lt hgp) f2)⟩) (first | (go_at_call 44; refine (HLo.out wr.drew).mono ?_; rintro e w2 ⟨rfl, hb2⟩; have f0 := (hb2.cell (p := ⟨gd, od + k, none⟩) hgr).trans e0; have f1 := (hb2.cell (p := ⟨gp, op + 2 * k2, none⟩) hgp).trans y0; have f2 := (hb2.cell (p := ⟨gp, op + 2 * k2 + 1, none⟩) hgp).trans y1) | (go_at_call 44; refine (HLo.out _).mono ?_; rintro e w2 ⟨rfl, hb2⟩; have f0 := (hb2.cell (p := ⟨gd, od + k, none⟩) (lt_al _ hgr)).trans (cell_al _ e0); have f1 := (hb2.cell (p := ⟨gp, op + 2 * k2, none⟩) (lt_al _ hgp)).trans (cell_al _ y0); have f2 := (hb2.cell (p := ⟨gp, op + 2 * k2 + 1, none⟩) (lt_al _ hgp)).trans (cell_al _ y1); have f3 := (hb2.cell (p := ⟨wr.heap.size, 0, none⟩) (new_al _ _)).trans (new_cell0 _ _ _ _); have f4 := (hb2.cell (p := ⟨wr.heap.size, 1, none⟩) (new_al _ _)).trans (new_cell1 _ _ _ _); have f5 := (hb2.frozen (p := ⟨wr.heap.size, 0, none⟩) (new_al _ _)).trans (new_froz _ _ _ _); have f6 := (hb2.frozen (p := ⟨wr.heap.size, 1, none⟩) (new_al _ _)).trans (new_froz _ _ _ _)))
          · have hB3 : Below wr.heap.size wr (w2.alloc (.cells #[.string ⟨t1.toArray⟩, .string ⟨x2.toArray⟩] 85)) := (((Below.refl wr.heap.size wr).drew.trans hb2).alloc hb2.size _)
            have hNl : wr.heap.size ≤ w2.heap.size := hb2.size
            have hNs := new_al w2 (.cells #[.string ⟨t1.toArray⟩, .string ⟨x2.toArray⟩] 85)
            have p0 := new_cell0 w2 (.string ⟨t1.toArray⟩) (.string ⟨x2.toArray⟩) 85
            have p1 := new_cell1 w2 (.string ⟨t1.toArray⟩) (.string ⟨x2.toArray⟩) 85
            have q1 := new_froz w2 #[.string ⟨t1.toArray⟩, .string ⟨x2.toArray⟩] 85 1
            clear f0 f1 f2 hb2
            generalize w2.alloc (.cells #[.string ⟨t1.toArray⟩, .string ⟨x2.toArray⟩] 85) = w3 at *
            generalize w2.heap.size = N at *
            cases o2 with
            | none =>
              simp only [strOr] at HPp
              simp only [Option.getD] at HNx2
              go_wp2_with (first | (go_at_call 42; refine (HPp.out _).mono ?_; rintro e w4 ⟨rfl, hb4⟩; have r0 := (hb4.cell (p := ⟨N, 0, none⟩) hNs).trans p0; have r1 := (hb4.cell (p := ⟨N, 1, none⟩) hNs).trans p1; have hB4 := hB3.trans (hb4.mono hB3.size); have HA4 := Lib.hid (avas_below HA.out hB4)) | (at_builtin; refine avas_one rfl _ _ rfl rfl HA4.out rfl (by first | rfl | simp) (by rw [hrl]; omega) ?_; intro v' w5 hA5 hg5; have hA5' := Lib.hid hA5; obtain ⟨A5, c5, rfl, hc5⟩ := hA5.isSlice))
              have hb5 := below_of_own HA4.out (hB2.trans (hB4.mono hB2.size)) hg5
              clear hA5 hg5 HA4
              go_roundg q2
              case measure => omega
              case rel => exact ⟨k2 + 1, by omega, by go_num, by have := AG2.out; show _ = _; omega, by rw [HNx2.out]; have h6 := hA5'.out; rw [List.length_append, hrl] at h6; exact h6, hb5⟩
            | some m =>
              simp only [strOr] at HPp
              simp only [Option.getD] at HNx2
              go_wp2_with (first | (go_at_call 42; refine (HPp.out _).mono ?_; rintro e w4 ⟨rfl, hb4⟩; have r0 := (hb4.cell (p := ⟨N, 0, none⟩) hNs).trans p0; have r1 := (hb4.cell (p := ⟨N, 1, none⟩) hNs).trans p1; have r2 := (hb4.frozen (p := ⟨N, 1, none⟩) hNs).trans q1; have r3 := (set_other w4 N 1 0 (.string ⟨m.toArray⟩) (by decide)).trans r0; have r4 := cell_set_same r1 (.string ⟨m.toArray⟩); have hB4 := (hB3.trans (hb4.mono hB3.size)).setCell (p := ⟨N, 1, none⟩) hNl (.string ⟨m.toArray⟩); have HA4 := Lib.hid (avas_below HA.out hB4)) | (at_builtin; refine avas_one rfl _ _ rfl rfl HA4.out rfl (by first | rfl | simp) (by rw [hrl]; omega) ?_; intro v' w5 hA5 hg5; have hA5' := Lib.hid hA5; obtain ⟨A5, c5, rfl, hc5⟩ := hA5.isSlice))
              have hb5 := below_of_own HA4.out (hB2.trans (hB4.mono hB2.size)) hg5
              clear hA5 hg5 HA4
              go_roundg q2
              case measure => omega
              case rel => exact ⟨k2 + 1, by omega, by go_num, by have := AG2.out; show _ = _; omega, by rw [HNx2.out]; have h6 := hA5'.out; rw [List.length_append, hrl] at h6; exact h6, hb5⟩
          · have hB3 : Below wr.heap.size wr ((w2.setCell ⟨wr.heap.size, 0, none⟩ (.string ⟨t1.toArray⟩)).setCell ⟨wr.heap.size, 1, none⟩ (.string ⟨x2.toArray⟩)) := ((((Below.refl wr.heap.size wr).alloc (Nat.le_refl _) _).drew.trans (hb2.mono (show wr.heap.size ≤ _ by simp))).setCell (Nat.le_refl _) _).setCell (by simp) _
            have hNs : wr.heap.size < ((w2.setCell ⟨wr.heap.size, 0, none⟩ (.string ⟨t1.toArray⟩)).setCell ⟨wr.heap.size, 1, none⟩ (.string ⟨x2.toArray⟩)).heap.size := by have := hb2.size; simp at this ⊢; omega
            have p0 : ((w2.setCell ⟨wr.heap.size, 0, none⟩ (.string ⟨t1.toArray⟩)).setCell ⟨wr.heap.size, 1, none⟩ (.string ⟨x2.toArray⟩)).cell? ⟨wr.heap.size, 0, none⟩ = some (.string ⟨t1.toArray⟩) := (set_other _ _ _ _ _ (by decide)).trans (cell_set_same f3 _)
            have p1 : ((w2.setCell ⟨wr.heap.size, 0, none⟩ (.string ⟨t1.toArray⟩)).setCell ⟨wr.heap.size, 1, none⟩ (.string ⟨x2.toArray⟩)).cell? ⟨wr.heap.size, 1, none⟩ = some (.string ⟨x2.toArray⟩) := cell_set_same ((set_other _ _ _ _ _ (by decide)).trans f4) _
            have q1 : ((w2.setCell ⟨wr.heap.size, 0, none⟩ (.string ⟨t1.toArray⟩)).setCell ⟨wr.heap.size, 1, none⟩ (.string ⟨x2.toArray⟩)).frozen? ⟨wr.heap.size, 1, none⟩ = false := ((World.frozen?_setCell _ _ _ _).trans (World.frozen?_setCell _ _ _ _)).trans f6
            clear f0 f1 f2 f3 f4 f5 f6 hb2
            generalize (w2.setCell ⟨wr.heap.size, 0, none⟩ (.string ⟨t1.toArray⟩)).setCell ⟨wr.heap.size, 1, none⟩ (.string ⟨x2.toArray⟩) = w3 at *
            obtain ⟨N, hN⟩ : ∃ N, wr.heap.size = N := ⟨_, rfl⟩
            have hNl : wr.heap.size ≤ N := by omega
            rw [hN] at hNs p0 p1 q1 ⊢
            clear hN
            cases o2 with
            | none =>
              simp only [strOr] at HPp
              simp only [Option.getD] at HNx2
              go_wp2_with (first | (go_at_call 42; refine (HPp.out _).mono ?_; rintro e w4 ⟨rfl, hb4⟩; have r0 := (hb4.cell (p := ⟨N, 0, none⟩) hNs).trans p0; have r1 := (hb4.cell (p := ⟨N, 1, none⟩) hNs).trans p1; have hB4 := hB3.trans (hb4.mono hB3.size); have HA4 := Lib.hid (avas_below HA.out hB4)) | (at_builtin; refine avas_one rfl _ _ rfl rfl HA4.out rfl (by first | rfl | simp) (by rw [hrl]; omega) ?_; intro v' w5 hA5 hg5; have hA5' := Lib.hid hA5; obtain ⟨A5, c5, rfl, hc5⟩ := hA5.isSlice))
              have hb5 := below_of_own HA4.out (hB2.trans (hB4.mono hB2.size)) hg5
              clear hA5 hg5 HA4
              go_roundg q2
              case measure => omega
              case rel => exact ⟨k2 + 1, by omega, by go_num, by have := AG2.out; show _ = _; omega, by rw [HNx2.out]; have h6 := hA5'.out; rw [List.length_append, hrl] at h6; exact h6, hb5⟩
            | some m =>
              simp only [strOr] at HPp
              simp only [Option.getD] at HNx2
              go_wp2_with (first | (go_at_call 42; refine (HPp.out _).mono ?_; rintro e w4 ⟨rfl, hb4⟩; have r0 := (hb4.cell (p := ⟨N, 0, none⟩) hNs).trans p0; have r1 := (hb4.cell (p := ⟨N, 1, none⟩) hNs).trans p1; have r2 := (hb4.frozen (p := ⟨N, 1, none⟩) hNs).trans q1; have r3 := (set_other w4 N 1 0 (.string ⟨m.toArray⟩) (by decide)).trans r0; have r4 := cell_set_same r1 (.string ⟨m.toArray⟩); have hB4 := (hB3.trans (hb4.mono hB3.size)).setCell (p := ⟨N, 1, none⟩) hNl (.string ⟨m.toArray⟩); have HA4 := Lib.hid (avas_below HA.out hB4)) | (at_builtin; refine avas_one rfl _ _ rfl rfl HA4.out rfl (by first | rfl | simp) (by rw [hrl]; omega) ?_; intro v' w5 hA5 hg5; have hA5' := Lib.hid hA5; obtain ⟨A5, c5, rfl, hc5⟩ := hA5.isSlice))
              have hb5 := below_of_own HA4.out (hB2.trans (hB4.mono hB2.size)) hg5
              clear hA5 hg5 HA4
              go_roundg q2
              case measure => omega
              case rel => exact ⟨k2 + 1, by omega, by go_num, by have := AG2.out; show _ = _; omega, by rw [HNx2.out]; have h6 := hA5'.out; rw [List.length_append, hrl] at h6; exact h6, hb5⟩
        · obtain rfl : k2 = p.length := by omega
          have hp' : (p.take p.length).map normA = p.map normA := by rw [List.take_length]
          rw [hp'] at HA
          have HOrd := Lib.hid (Ordered_r (p.map normA) _ wr HA.out.reads (by simp; omega) (fun x hx => by
            obtain ⟨y, hy, rfl⟩ := List.mem_map.1 hx
            exact normA_lenA (HPf.out y hy).1 (HPf.out y hy).2))
          rw [ordL_partN] at HOrd
          clear HRo hp'
          have hBo := hB.trans (hB2.mono hB.size)
          have HDo := Lib.hid (HD.out.keep (grown_below hB2 none) (fun k hk => by cases hk))
          have hold := HDo.out.lt
          have HHo := Lib.hid hold
          clear hold
          go_wp2_with (first | (go_at_call 79; refine HOrd.out.mono ?_; rintro e w2 ⟨v2, rfl, hA2, hb2⟩; obtain ⟨A2, c2, rfl, hc2⟩ := hA2.isSlice; have HD2 := Lib.hid (HDo.out.keep (grown_below hb2 none) (fun k hk => by cases hk))) | (at_builtin; refine dn_one rfl _ _ rfl rfl HD2.out hA2 (by have := hBo.size; omega) HHo.out rfl rfl (by rw [hol]; omega) ?_; intro v' w6 hD6 hg6; have hD6' := Lib.hid hD6; obtain ⟨A6, c6, rfl, hc6⟩ := hD6.isSlice))
          clear hD6
          go_roundg q
          case measure => omega
          case rel => exact ⟨k + 1, _, by omega, by go_num, by have := AG.out; show _ = _; omega, by rw [HNx.out]; have h6 := hD6'.out; rw [List.length_append, hol] at h6; exact h6, below_of_dn HD2.out (hBo.trans (hb2.mono hBo.size)) hg6⟩
    · obtain rfl : k = d.length := by omega
      have hd' : (d.take d.length).map normP = d.map normP := by rw [List.take_length]
      rw [hd'] at HD
      have HPP := Lib.hid (HPr.out _ wr (DnAt.reads ⟨_, HD.out⟩))
      have hb1 := HB1.out
      go_wp2_with (go_at_call 80; refine HPP.out.mono ?_; rintro e w2 ⟨rfl, hb2⟩)
      go_ret
      have hb3 := hb1.trans (hB.mono hb1.size)
      exact ⟨rfl, hb3.trans (hb2.mono hb3.size)⟩
end Go.Proofs.YtgpecklibcgifaaGreatDoor
/- Contracts of the document's answer: chapter 5: Norm by every rule. -/
namespace Go.Proofs.YtgpecklibcgifaaGreatDoor
open Go.RowKit Go.Sort

theorem rValid_says (f v : List UInt8) (W : World) : RValidSays f v W (validL f v) := rValid_r f v W
set_option maxRecDepth 100000 in
set_option maxHeartbeats 2000000 in
theorem rNorm_no (n v : List UInt8) (w : World) (hn : n.length ≤ 140737488351232) (h : (refRule (smallL n)).1 = [] ∨ (refRule (smallL n)).2 ≠ 0) :
    Calls Tryz.prog 16 #[.string ⟨n.toArray⟩, .string ⟨v.toArray⟩] w fun e w' => e = .returned (strOr 41 none) ∧ Below w.heap.size w w' := by
  have HC := Lib.hid (rRule_r n w hn)
  obtain ⟨o, k, hk⟩ : ∃ o k, refRule (smallL n) = (o, k) := ⟨_, _, rfl⟩
  rw [hk] at HC h
  simp only at h
  clear hk
  by_cases ho : o = []
  · subst ho
    clear h
    go_enter Tryz.func16, Tryz.ntmps16
    go_wp2_with (go_at_call 27; refine HC.out.mono ?_; rintro e w1 ⟨rfl, h1⟩; unfold strInt)
    go_ret2
    exact ⟨rfl, h1⟩
  · have ho' : (o == []) = false := beq_eq_false_iff_ne.2 ho
    have hk' : (k != 0) = true := by
      rw [bne_iff_ne]
      rcases h with h | h
      · exact absurd h ho
      · exact h
    clear h ho
    go_enter Tryz.func16, Tryz.ntmps16
    go_wp2_with (go_at_call 27; refine HC.out.mono ?_; rintro e w1 ⟨rfl, h1⟩; unfold strInt)
    go_ret2
    exact ⟨rfl, h1⟩
set_option maxRecDepth 100000 in
set_option maxHeartbeats 2000000 in
theorem rNorm_r (x : RowT) (hx : x ∈ tab) (h0 : x.2.1 = 0) (n v : List UInt8) (w : World) (hn : n.length ≤ 140737488351232) (hr : refRule (smallL n) = (x.1, 0)) :
    Calls Tryz.prog 16 #[.string ⟨n.toArray⟩, .string ⟨v.toArray⟩] w fun e w' => e = .returned (strOr 40 (normS x v)) ∧ Below w.heap.size w w' := by
  have HC := Lib.hid (rRule_r n w hn)
  rw [hr] at HC
  obtain ⟨b1, b2, ne1, b3⟩ := eq_rows x hx h0
  have HOf := Lib.hid (fun f W => Of_r x.1 f W (by omega))
  rw [b1] at HOf
  have HV := Lib.hid (fun W k (hk : k < fforms.length) => rValid_says fforms[k] v W)
  have HPre := Lib.hid (fun W fold => fun (hv : v.length ≤ 1024) => Prepare_r v fold W (by omega))
  have HNo := Lib.hid (fun (h : x.2.2.1.any (fun f => validL f v) = false) => normS_no h)
  have HYe := Lib.hid (fun (h : x.2.2.1.any (fun f => validL f v) = true) => norm_case hx h0 h)
  have HLe := Lib.hid (fun (h : x.2.2.1.any (fun f => validL f v) = true) => (normS_yes h).2)
  have HEq := Lib.hid (okForms_row hx h0 v)
  generalize hQ : (fun f => ofB x.1 f && validL f v) = Q at HEq
  have HST := Lib.hid (fun k (hk : k < fforms.length) => okForms_step Q hk)
  have HQ := Lib.hid (fun f => (show (ofB x.1 f && validL f v) = Q f from congrFun hQ f))
  generalize x.2.2.1.any (fun f => validL f v) = an at *
  clear hQ b1 b2 b3 hr hn
  obtain ⟨own, hown⟩ : ∃ own, x.1 = own := ⟨_, rfl⟩
  have HOwn := Lib.hid hown
  rw [hown] at HC HOf HQ ne1
  clear hown
  go_enter Tryz.func16, Tryz.ntmps16
  go_wp2_with (go_at_call 27; refine HC.out.mono ?_; rintro e w1 ⟨rfl, h1⟩; unfold strInt)
  have hc0 : ∀ W, w1.alloc (.cells #[.string ⟨#[111, 99, 116, 101, 116, 115]⟩, .string ⟨#[116, 101, 120, 116]⟩, .string ⟨#[97, 115, 99, 105, 105]⟩, .string ⟨#[105, 110, 116, 101, 103, 101, 114]⟩, .string ⟨#[98, 111, 111, 108, 101, 97, 110]⟩, .string ⟨#[110, 97, 109, 101]⟩, .string ⟨#[111, 105, 100]⟩, .string ⟨#[116, 105, 109, 101]⟩] 9) = W → Hid (∀ k (hk : k < fforms.length), W.cell? ⟨w1.heap.size, k, none⟩ = some (.string ⟨fforms[k].toArray⟩)) := fun W hW => Lib.hid fun k hk => hW ▸ forms_cell w1 k hk
  have hB1 : Below w.heap.size w (w1.alloc (.cells #[.string ⟨#[111, 99, 116, 101, 116, 115]⟩, .string ⟨#[116, 101, 120, 116]⟩, .string ⟨#[97, 115, 99, 105, 105]⟩, .string ⟨#[105, 110, 116, 101, 103, 101, 114]⟩, .string ⟨#[98, 111, 111, 108, 101, 97, 110]⟩, .string ⟨#[110, 97, 109, 101]⟩, .string ⟨#[111, 105, 100]⟩, .string ⟨#[116, 105, 109, 101]⟩] 9)) := h1.alloc h1.size _
  have hsz1 : (w1.alloc (.cells #[.string ⟨#[111, 99, 116, 101, 116, 115]⟩, .string ⟨#[116, 101, 120, 116]⟩, .string ⟨#[97, 115, 99, 105, 105]⟩, .string ⟨#[105, 110, 116, 101, 103, 101, 114]⟩, .string ⟨#[98, 111, 111, 108, 101, 97, 110]⟩, .string ⟨#[110, 97, 109, 101]⟩, .string ⟨#[111, 105, 100]⟩, .string ⟨#[116, 105, 109, 101]⟩] 9)).heap.size = w1.heap.size + 1 := by simp
  generalize hW2 : w1.alloc (.cells #[.string ⟨#[111, 99, 116, 101, 116, 115]⟩, .string ⟨#[116, 101, 120, 116]⟩, .string ⟨#[97, 115, 99, 105, 105]⟩, .string ⟨#[105, 110, 116, 101, 103, 101, 114]⟩, .string ⟨#[98, 111, 111, 108, 101, 97, 110]⟩, .string ⟨#[110, 97, 109, 101]⟩, .string ⟨#[111, 105, 100]⟩, .string ⟨#[116, 105, 109, 101]⟩] 9) = w2 at *
  have HCell := hc0 w2 rfl
  clear hc0 hW2 HC
  go_loopg [9, 10] 8 (fun gk b i wr => ∃ (k : Nat) (ok : Bool), k ≤ 8 ∧ i = .int .i64 k ∧ b = .bool ok ∧ Aside (k + gk = 8) ∧ Below w2.heap.size w2 wr ∧ Aside (ok = okForms Q k))
  case atStart => exact ⟨0, false, by omega, rfl, rfl, by show _ = _; omega, Below.refl _ _, rfl⟩
  case round =>
    obtain ⟨k, ok, hk, rfl, rfl, AG, hB, AT⟩ := hrel
    by_cases hlt : k < 8
    · obtain ⟨q, rfl⟩ : ∃ q, gk = q + 1 := ⟨gk - 1, by have := AG.out; omega⟩
      have hkl : k < fforms.length := hlt
      have fc : wr.cell? ⟨w1.heap.size, k, none⟩ = some (.string ⟨fforms[k].toArray⟩) := (hB.cell (p := ⟨w1.heap.size, k, none⟩) (by simp; omega)).trans (HCell.out k hkl)
      have hw0 : w1.heap.size < wr.heap.size := by have := hB.size; omega
      have HS := Lib.hid (HST.out k hkl)
      have HVk := Lib.hid (fun W => HV.out W k hkl)
      have HQk := HQ.out fforms[k]
      have HOk := Lib.hid (fun W => HOf.out fforms[k] W)
      generalize fforms[k] = f at *
      generalize hbo : ofB own f = bo at *
      generalize hbp : validL f v = bp at *
      generalize Q f = qx at *
      clear hbo hbp
      have HOB : Hid (∀ (W : World), Below wr.heap.size wr W → Calls Tryz.prog 41 #[.string ⟨own.toArray⟩, .string ⟨f.toArray⟩] W fun e w' => e = .returned (.bool bo) ∧ Below wr.heap.size wr w') :=
        fun W hW => (HOk.out W).mono fun e w' ⟨he, hb⟩ => ⟨he, hW.trans (hb.mono hW.size)⟩
      have HVB : Hid (∀ (W : World), Below wr.heap.size wr W → bo = true → Calls Tryz.prog 23 #[.string ⟨f.toArray⟩, .string ⟨v.toArray⟩] W fun e w' => e = .returned (.bool bp) ∧ Below wr.heap.size wr w') :=
        fun W hW hbo => (HVk.out W).mono fun e w' ⟨he, hb⟩ => ⟨he, hW.trans (hb.mono hW.size)⟩
      subst HQk
      clear HOk HVk HPre HST HQ HOf HV
      cases ok
      · cases bo
        · have hok' : okForms Q (k + 1) = false := by rw [HS.out, ← AT.out]; rfl
          have HOK := Lib.hid hok'
          clear hok' AT HS
          go_wp2_with (first | (go_at_call 41; refine (HOB.out _ (by first | exact hA | exact (Below.refl _ _))).mono ?_; rintro e wA ⟨rfl, hA⟩; have fA : wA.cell? ⟨w1.heap.size, k, none⟩ = some (.string ⟨f.toArray⟩) := (hA.cell (p := ⟨w1.heap.size, k, none⟩) hw0).trans fc) | (go_at_call 23; refine (HVB.out _ hA (by simp)).mono ?_; rintro e wB ⟨rfl, hA⟩))
          go_roundg q
          case measure => omega
          case rel => exact ⟨k + 1, false, by omega, by go_num, rfl, by have := AG.out; show _ = _; omega, hB.trans (hA.mono hB.size), HOK.out.symm⟩
        · have hok' : okForms Q (k + 1) = bp := by rw [HS.out, ← AT.out]; simp
          have HOK := Lib.hid hok'
          clear hok' AT HS
          go_wp2_with (first | (go_at_call 41; refine (HOB.out _ (by first | exact hA | exact (Below.refl _ _))).mono ?_; rintro e wA ⟨rfl, hA⟩; have fA : wA.cell? ⟨w1.heap.size, k, none⟩ = some (.string ⟨f.toArray⟩) := (hA.cell (p := ⟨w1.heap.size, k, none⟩) hw0).trans fc) | (go_at_call 23; refine (HVB.out _ hA (by simp)).mono ?_; rintro e wB ⟨rfl, hA⟩))
          go_roundg q
          case measure => omega
          case rel => exact ⟨k + 1, bp, by omega, by go_num, rfl, by have := AG.out; show _ = _; omega, hB.trans (hA.mono hB.size), HOK.out.symm⟩
      · have hok' : okForms Q (k + 1) = true := by rw [HS.out, ← AT.out]; rfl
        have HOK := Lib.hid hok'
        clear hok' AT HS
        go_wp2_with fail
        go_roundg q
        case measure => omega
        case rel => exact ⟨k + 1, true, by omega, by go_num, rfl, by have := AG.out; show _ = _; omega, hB, HOK.out.symm⟩
    · obtain rfl : k = 8 := by omega
      cases ok
      · have hRR : normS x v = none := HNo.out (by rw [← HEq.out, ← AT.out])
        have HRR := Lib.hid hRR
        clear hRR AT HNo HYe HEq HLe
        go_wp2_with fail
        go_ret2
        exact ⟨by rw [HRR.out]; rfl, hB1.trans (hB.mono hB1.size)⟩
      · have han : an = true := by rw [← HEq.out, ← AT.out]
        have hv := HLe.out han
        have hcs := HYe.out han
        clear AT HNo HYe HEq HLe HST HQ HOf HV HCell
        rcases hcs with ⟨c1, c2, c3, c4, hn⟩ | ⟨fold, m, c1, hp, hn⟩ | ⟨c1, hp, hn⟩ | ⟨c1, hn⟩
        · rw [HOwn.out] at c1 c2 c3 c4
          unfold nTextRule at c1 c2
          simp only [cond_true, cond_false] at c1 c2
          unfold nDnR at c3
          unfold nOidR at c4
          have HN := Lib.hid hn
          clear hn HPre
          go_wp2_with fail
          go_ret2
          exact ⟨by rw [HN.out]; rfl, hB1.trans (hB.mono hB1.size)⟩
        · have HPv := Lib.hid (fun W => HPre.out W fold hv)
          rw [hp] at HPv
          have HN := Lib.hid hn
          rw [HOwn.out] at c1
          unfold nTextRule at c1
          clear hn HPre hp
          cases fold
          all_goals
            simp only [cond_true, cond_false] at c1
            subst c1
            go_wp2_with (go_at_call 42; refine (HPv.out _).mono ?_; rintro e wA ⟨rfl, hA⟩; unfold strOr)
            go_ret2
            refine ⟨by rw [HN.out]; rfl, hB1.trans ((hB.trans (hA.mono hB.size)).mono hB1.size)⟩
        · have HNm := Lib.hid (fun W => rnm_r v W hp hv)
          have HN := Lib.hid hn
          rw [HOwn.out] at c1
          unfold nDnR at c1
          generalize (printL (List.map normP (parseL v).snd)).snd = m at *
          clear hn HPre hp
          subst c1
          go_wp2_with (go_at_call 43; refine (HNm.out _).mono ?_; rintro e wA ⟨rfl, hA⟩)
          go_ret2
          refine ⟨by rw [HN.out]; rfl, hB1.trans ((hB.trans (hA.mono hB.size)).mono hB1.size)⟩
        · have HNm := Lib.hid (fun W => Lower_r v W (by omega))
          have HN := Lib.hid hn
          rw [HOwn.out] at c1
          unfold nOidR at c1
          generalize smallL v = m at *
          clear hn HPre
          subst c1
          go_wp2_with (go_at_call 44; refine (HNm.out _).mono ?_; rintro e wA ⟨rfl, hA⟩)
          go_ret2
          refine ⟨by rw [HN.out]; rfl, hB1.trans ((hB.trans (hA.mono hB.size)).mono hB1.size)⟩
end Go.Proofs.YtgpecklibcgifaaGreatDoor
/- Contracts of the document's answer: chapter 5: Norm, Same, Order: what the program answers. -/
namespace Go.Proofs.YtgpecklibcgifaaGreatDoor
open Go.RowKit Go.Sort

/-- A rule, by its name, on both sides. -/
theorem rule_two (n : List UInt8) : (∃ x ∈ tab, ruleT n = some x ∧ refRule n = (x.1, x.2.1)) ∨ (ruleT n = none ∧ refRule n = ([], 0)) := by
  cases hr : ruleT n with
  | some x =>
    left
    have hm := tab_ref x (ruleT_mem hr)
    rw [ruleT_small hr] at hm
    exact ⟨x, ruleT_mem hr, rfl, hm.1⟩
  | none =>
    right
    refine ⟨rfl, ?_⟩
    rcases rgo_hits n 0 (by omega) with h | ⟨j, hj, h⟩
    · exact h
    · have := names_ask j hj
      rw [h, hr] at this
      cases this
/-- Whether a rule is of a kind, on both sides. -/
theorem ask_two (n : List UInt8) (k : Int) : (∃ x ∈ tab, x.2.1 = k ∧ askT n k = some x ∧ refRule n = (x.1, k)) ∨ (askT n k = none ∧ ((refRule n).1 = [] ∨ (refRule n).2 ≠ k)) := by
  unfold askT
  rcases rule_two n with ⟨x, hx, h1, h2⟩ | ⟨h1, h2⟩
  · rw [h1, h2]
    by_cases hk : x.2.1 = k
    · left
      exact ⟨x, hx, hk, by simp [hk], by rw [hk]⟩
    · right
      exact ⟨by simp [hk], .inr hk⟩
  · right
    rw [h1, h2]
    exact ⟨rfl, .inl rfl⟩
theorem rNormV_r (n v : List UInt8) (w : World) (hn : n.length ≤ 140737488351232) :
    Calls Tryz.prog 16 #[.string ⟨n.toArray⟩, .string ⟨v.toArray⟩] w fun e w' => e = .returned (normV n v) ∧ Below w.heap.size w w' := by
  unfold normV
  rcases ask_two (smallL n) 0 with ⟨x, hx, h0, h1, h2⟩ | ⟨h1, h2⟩
  · rw [h1]
    exact rNorm_r x hx h0 n v w hn h2
  · rw [h1]
    exact rNorm_no n v w hn h2
set_option maxRecDepth 100000 in
set_option maxHeartbeats 2000000 in
theorem rSame_r (n a b : List UInt8) (w : World) (hn : n.length ≤ 140737488351232) :
    Calls Tryz.prog 18 #[.string ⟨n.toArray⟩, .string ⟨a.toArray⟩, .string ⟨b.toArray⟩] w fun e w' => e = .returned (boolInt (sameP n a b)) ∧ Below w.heap.size w w' := by
  have HN := Lib.hid (fun v W => rNormV_r n v W hn)
  unfold sameP
  unfold normV at HN
  generalize askT (smallL n) 0 = o at *
  cases o with
  | none =>
    have HA := Lib.hid (HN.out a)
    clear HN
    simp only [boolInt]
    go_enter Tryz.func18, Tryz.ntmps18
    go_wp2_with (go_at_call 16; refine (HA.out _).mono ?_; rintro e w1 ⟨rfl, hb1⟩)
    go_ret2
    exact ⟨rfl, hb1⟩
  | some x =>
    have HA := Lib.hid (HN.out a)
    have HB := Lib.hid (HN.out b)
    clear HN
    unfold bothS
    obtain ⟨na, hna⟩ : ∃ na, normS x a = na := ⟨_, rfl⟩
    obtain ⟨nb, hnb⟩ : ∃ nb, normS x b = nb := ⟨_, rfl⟩
    simp only [hna] at HA ⊢
    simp only [hnb] at HB ⊢
    clear hna hnb
    cases na with
    | none =>
      simp only [boolInt, sameQ, strOr] at HA ⊢
      go_enter Tryz.func18, Tryz.ntmps18
      go_wp2_with (go_at_call 16; refine (HA.out _).mono ?_; rintro e w1 ⟨rfl, hb1⟩)
      go_ret2
      exact ⟨rfl, hb1⟩
    | some p =>
      cases nb with
      | none =>
        simp only [boolInt, sameQ, strOr] at HA HB ⊢
        go_enter Tryz.func18, Tryz.ntmps18
        go_wp2_with fail
        refine (HA.out _).mono ?_
        rintro e w1 ⟨rfl, hb1⟩
        clear HA
        go_wp2_with fail
        refine (HB.out _).mono ?_
        rintro e w2 ⟨rfl, hb2⟩
        go_wp2_with fail
        go_ret2
        exact ⟨rfl, hb1.trans (hb2.mono hb1.size)⟩
      | some q =>
        simp only [boolInt, sameQ, strOr] at HA HB ⊢
        cases hpq : p == q
        all_goals
          go_enter Tryz.func18, Tryz.ntmps18
          go_wp2_with fail
          refine (HA.out _).mono ?_
          rintro e w1 ⟨rfl, hb1⟩
          clear HA
          go_wp2_with fail
          refine (HB.out _).mono ?_
          rintro e w2 ⟨rfl, hb2⟩
          go_wp2_with fail
          go_ret2
          exact ⟨rfl, hb1.trans (hb2.mono hb1.size)⟩
theorem ord_rows : ∀ x ∈ tab, x.2.1 = 1 → ∃ y ∈ tab, y.2.1 = 0 ∧ y.2.2 = x.2.2 ∧ refBase x.1 = y.1 ∧ refRule (smallL y.1) = (y.1, 0) ∧ (x.1 == []) = false ∧ x.1.length ≤ 100 ∧ y.1.length ≤ 100 := by decide +kernel
theorem ord_norms : ∀ x ∈ tab, x.2.1 = 1 → x.2.2.2 = .self ∨ x.2.2.2 = .text false ∨ x.2.2.2 = .text true := by decide +kernel
theorem ord_ints : ∀ x ∈ tab, x.2.1 = 1 → x.1 = nIntOrd → x.2.2 = ([fInteger], .self) := by decide +kernel
theorem norm_len {x : RowT} (hx : x ∈ tab) (h1 : x.2.1 = 1) {v p : List UInt8} (h : normS x v = some p) : p.length ≤ 1024 := by
  obtain ⟨hl, _, ha⟩ := norm_parts h
  rcases ord_norms x hx h1 with e | e | e
  · rw [e] at ha; cases ha; exact hl
  · rw [e] at ha; have := prep_wt (show prepL v false = some p from ha); omega
  · rw [e] at ha; have := prep_wt (show prepL v true = some p from ha); omega
theorem norm_int {x : RowT} (hx : x ∈ tab) (h1 : x.2.1 = 1) (hi : x.1 = nIntOrd) {v p : List UInt8} (h : normS x v = some p) : intL p = true := by
  obtain ⟨_, ⟨f, hf, hv⟩, ha⟩ := norm_parts h
  have e := ord_ints x hx h1 hi
  rw [e] at hf ha
  cases ha
  have : f = fInteger := by simpa using hf
  subst this
  simp only [validL, Bool.and_eq_true] at hv
  exact hv.2
theorem normS_same {x y : RowT} (h : y.2.2 = x.2.2) (v : List UInt8) : normS y v = normS x v := by
  unfold normS
  rw [h]
set_option maxRecDepth 100000 in
set_option maxHeartbeats 2000000 in
theorem rOrder_no (n a b : List UInt8) (w : World) (hn : n.length ≤ 140737488351232) (h : (refRule (smallL n)).1 = [] ∨ (refRule (smallL n)).2 ≠ 1) :
    Calls Tryz.prog 19 #[.string ⟨n.toArray⟩, .string ⟨a.toArray⟩, .string ⟨b.toArray⟩] w fun e w' => e = .returned (intInt (0, 41)) ∧ Below w.heap.size w w' := by
  have HC := Lib.hid (rRule_r n w hn)
  obtain ⟨o, k, hk⟩ : ∃ o k, refRule (smallL n) = (o, k) := ⟨_, _, rfl⟩
  rw [hk] at HC h
  simp only at h
  clear hk
  simp only [intInt]
  by_cases ho : o = []
  · subst ho
    clear h
    go_enter Tryz.func19, Tryz.ntmps19
    go_wp2_with (go_at_call 27; refine HC.out.mono ?_; rintro e w1 ⟨rfl, h1⟩; unfold strInt)
    go_ret2
    exact ⟨rfl, h1⟩
  · have ho' : (o == []) = false := beq_eq_false_iff_ne.2 ho
    have hk' : (k != 1) = true := by
      rw [bne_iff_ne]
      rcases h with h | h
      · exact absurd h ho
      · exact h
    clear h ho
    go_enter Tryz.func19, Tryz.ntmps19
    go_wp2_with (go_at_call 27; refine HC.out.mono ?_; rintro e w1 ⟨rfl, h1⟩; unfold strInt)
    go_ret2
    exact ⟨rfl, h1⟩
set_option maxRecDepth 100000 in
set_option maxHeartbeats 2000000 in
theorem rOrder_yes (x : RowT) (hx : x ∈ tab) (h1 : x.2.1 = 1) (n a b : List UInt8) (w : World) (hn : n.length ≤ 140737488351232) (hr : refRule (smallL n) = (x.1, 1)) :
    Calls Tryz.prog 19 #[.string ⟨n.toArray⟩, .string ⟨a.toArray⟩, .string ⟨b.toArray⟩] w fun e w' => e = .returned (intInt (orderQ x.1 (bothS x a b))) ∧ Below w.heap.size w w' := by
  obtain ⟨y, hy, hy0, hyx, hb, hry, hne, hl1, hl2⟩ := ord_rows x hx h1
  have HC := Lib.hid (rRule_r n w hn)
  rw [hr] at HC
  have HBa := Lib.hid (fun W => Base_r x.1 W (by omega))
  rw [hb] at HBa
  have HNa := Lib.hid (fun W => rNorm_r y hy hy0 y.1 a W (by omega) hry)
  have HNb := Lib.hid (fun W => rNorm_r y hy hy0 y.1 b W (by omega) hry)
  rw [normS_same hyx a] at HNa
  rw [normS_same hyx b] at HNb
  have HLa := Lib.hid (fun p (h : normS x a = some p) => norm_len hx h1 h)
  have HLb := Lib.hid (fun p (h : normS x b = some p) => norm_len hx h1 h)
  have HIa := Lib.hid (fun (hi : x.1 = nIntOrd) p (h : normS x a = some p) => norm_int hx h1 hi h)
  have HIb := Lib.hid (fun (hi : x.1 = nIntOrd) p (h : normS x b = some p) => norm_int hx h1 hi h)
  unfold bothS
  generalize normS x a = na at *
  generalize normS x b = nb at *
  generalize x.1 = own at *
  generalize y.1 = bas at *
  clear hb hry hyx hy0 hy hr hx h1 hl1 hl2
  cases na with
  | none =>
    simp only [intInt, orderQ, strOr] at HNa ⊢
    clear HLa HLb HIa HIb HNb
    go_enter Tryz.func19, Tryz.ntmps19
    go_wp2_with (first | (go_at_call 27; refine HC.out.mono ?_; rintro e w1 ⟨rfl, h1⟩; unfold strInt) | (go_at_call 45; refine (HBa.out _).mono ?_; rintro e w2 ⟨rfl, h2⟩) | (go_at_call 16; refine (HNa.out _).mono ?_; rintro e w3 ⟨rfl, h3⟩))
    go_ret2
    exact ⟨rfl, (h1.trans (h2.mono h1.size)).trans (h3.mono (Nat.le_trans h1.size h2.size))⟩
  | some p =>
    cases nb with
    | none =>
      simp only [intInt, orderQ, strOr] at HNa HNb ⊢
      clear HLa HLb HIa HIb
      go_enter Tryz.func19, Tryz.ntmps19
      go_wp2_with (first | (go_at_call 27; refine HC.out.mono ?_; rintro e w1 ⟨rfl, h1⟩; unfold strInt) | (go_at_call 45; refine (HBa.out _).mono ?_; first | (rintro e w4 ⟨rfl, h4⟩; have u4 := h3) | (rintro e w2 ⟨rfl, h2⟩)) | (go_at_call 16; refine (HNa.out _).mono ?_; rintro e w3 ⟨rfl, h3⟩; clear HNa) | (go_at_call 16; refine (HNb.out _).mono ?_; rintro e w5 ⟨rfl, h5⟩))
      go_ret2
      have g3 := (h1.trans (h2.mono h1.size)).trans (h3.mono (Nat.le_trans h1.size h2.size))
      have g4 := g3.trans (h4.mono g3.size)
      exact ⟨rfl, g4.trans (h5.mono g4.size)⟩
    | some q =>
      have la := HLa.out p rfl
      have lb := HLb.out q rfl
      by_cases hi : own = nIntOrd
      · have HNum := Lib.hid (fun W => numbers_r p q W (HIa.out hi p rfl) (HIb.out hi q rfl) (by omega) (by omega))
        have hi' : (own == [105, 110, 116, 101, 103, 101, 114, 79, 114, 100, 101, 114, 105, 110, 103, 77, 97, 116, 99, 104]) = true := beq_iff_eq.2 hi
        simp only [intInt, orderQ, strOr, if_pos hi] at HNa HNb ⊢
        clear HLa HLb HIa HIb hi
        generalize intsL p q = R at *
        go_enter Tryz.func19, Tryz.ntmps19
        go_wp2_with (first | (go_at_call 27; refine HC.out.mono ?_; rintro e w1 ⟨rfl, h1⟩; unfold strInt) | (go_at_call 45; refine (HBa.out _).mono ?_; first | (rintro e w4 ⟨rfl, h4⟩; have u4 := h3) | (rintro e w2 ⟨rfl, h2⟩)) | (go_at_call 16; refine (HNa.out _).mono ?_; rintro e w3 ⟨rfl, h3⟩; clear HNa) | (go_at_call 16; refine (HNb.out _).mono ?_; rintro e w5 ⟨rfl, h5⟩) | (go_at_call 46; refine (HNum.out _).mono ?_; rintro e w6 ⟨rfl, h6⟩))
        go_ret2
        have g3 := (h1.trans (h2.mono h1.size)).trans (h3.mono (Nat.le_trans h1.size h2.size))
        have g4 := g3.trans (h4.mono g3.size)
        have g5 := g4.trans (h5.mono g4.size)
        exact ⟨rfl, g5.trans (h6.mono g5.size)⟩
      · have HCm := Lib.hid (fun W => Compare_r p q W (by omega) (by omega))
        have hi' : (own == [105, 110, 116, 101, 103, 101, 114, 79, 114, 100, 101, 114, 105, 110, 103, 77, 97, 116, 99, 104]) = false := beq_eq_false_iff_ne.2 hi
        simp only [intInt, orderQ, strOr, if_neg hi] at HNa HNb ⊢
        clear HLa HLb HIa HIb hi
        generalize cmpB p q = R at *
        go_enter Tryz.func19, Tryz.ntmps19
        go_wp2_with (first | (go_at_call 27; refine HC.out.mono ?_; rintro e w1 ⟨rfl, h1⟩; unfold strInt) | (go_at_call 45; refine (HBa.out _).mono ?_; first | (rintro e w4 ⟨rfl, h4⟩; have u4 := h3) | (rintro e w2 ⟨rfl, h2⟩)) | (go_at_call 16; refine (HNa.out _).mono ?_; rintro e w3 ⟨rfl, h3⟩; clear HNa) | (go_at_call 16; refine (HNb.out _).mono ?_; rintro e w5 ⟨rfl, h5⟩) | (go_at_call 47; refine (HCm.out _).mono ?_; rintro e w6 ⟨rfl, h6⟩))
        go_ret2
        have g3 := (h1.trans (h2.mono h1.size)).trans (h3.mono (Nat.le_trans h1.size h2.size))
        have g4 := g3.trans (h4.mono g3.size)
        have g5 := g4.trans (h5.mono g4.size)
        exact ⟨rfl, g5.trans (h6.mono g5.size)⟩
theorem rOrder_r (n a b : List UInt8) (w : World) (hn : n.length ≤ 140737488351232) :
    Calls Tryz.prog 19 #[.string ⟨n.toArray⟩, .string ⟨a.toArray⟩, .string ⟨b.toArray⟩] w fun e w' => e = .returned (intInt (orderP n a b)) ∧ Below w.heap.size w w' := by
  unfold orderP
  rcases ask_two (smallL n) 1 with ⟨x, hx, h0, h1, h2⟩ | ⟨h1, h2⟩
  · rw [h1]
    exact rOrder_yes x hx h0 n a b w hn h2
  · rw [h1]
    exact rOrder_no n a b w hn h2
end Go.Proofs.YtgpecklibcgifaaGreatDoor
/- The law SyntaxRules. -/
namespace Go.Proofs.YtgpecklibcgifaaGreatDoor
open Go.RowKit Go.Sort

theorem Strs.madeL (w : World) (xs : List (List UInt8)) (h0 : xs.length ≤ 1000000) : Strs w (w.alloc (.cells (xs.map strV).toArray 9)) (.slice (some ⟨w.heap.size, 0, none⟩) xs.length xs.length) xs := by
  refine ⟨?_, (Below.refl _ _).alloc (Nat.le_refl _) _, by simp⟩
  refine ⟨by simp, .inr ⟨w.heap.size, xs.length, (xs.map strV).toArray, rfl, Nat.le_refl _, by show (w.heap.push _)[w.heap.size]? = _; simp, Nat.le_refl _, by unfold maxLen; omega, by simp, ?_⟩⟩
  rw [List.toList_toArray, List.take_of_length_le (by simp)]
theorem texts_open {w : World} {v : Value} {xs : List (List UInt8)} (h : Texts w v xs) (hn : 0 < xs.length) : ∃ g c, v = .slice (some ⟨g, 0, none⟩) xs.length c ∧ xs.length ≤ c ∧ g < w.heap.size ∧ Hid (∀ j (hj : j < xs.length), w.cell? ⟨g, j, none⟩ = some (.string ⟨xs[j].toArray⟩)) := by
  rcases h with ⟨rfl, _⟩ | ⟨g, c, h1, h2, h3, h4⟩
  · simp at hn
  · exact ⟨g, c, h1, h2, h3, Lib.hid h4⟩
theorem normV_form (n v : List UInt8) : ∃ (m : List UInt8) (e : Int), normV n v = .tuple #[.string ⟨m.toArray⟩, .int .i64 e] := by
  unfold normV
  split
  · exact ⟨[], 41, rfl⟩
  · next x _ =>
    cases normS x v with
    | none => exact ⟨[], 40, rfl⟩
    | some m => exact ⟨m, 0, rfl⟩
theorem rnames_len2 : ∀ x ∈ rnames, x.length ≤ 100 := by decide +kernel
set_option maxRecDepth 100000 in
set_option maxHeartbeats 4000000 in
theorem lawRules_c (a b other : List UInt8) (w : World) (hw : Env w) (hol : other.length ≤ 140737488351232) : Calls Tryz.prog 4 #[.string ⟨a.toArray⟩, .string ⟨b.toArray⟩, .string ⟨other.toArray⟩] w fun e w' => e = .returned (.bool true) ∧ Below w.heap.size w w' := by
  have hll : ∀ x ∈ rnames ++ [other], x.length ≤ 140737488351232 := by
    intro x hx
    rcases List.mem_append.1 hx with h | h
    · have := rnames_len2 x h; omega
    · obtain rfl : x = other := by simpa using h
      exact hol
  have HLL := Lib.hid hll
  clear hll hol
  go_enter Tryz.func4, Tryz.ntmps4
  go_wp2_with (first
    | (go_at_call 14; refine (Rules_r w).mono ?_; rintro e w1 ⟨rfl, h1⟩; have HS0 : Hid (Strs w w1 (.slice (some ⟨w.heap.size, 0, none⟩) 15 15) rnames) := Lib.hid (h1 ▸ Strs.madeL w rnames (by decide)); clear h1)
    | (at_builtin; refine strs_one (c := other) rfl _ _ rfl rfl HS0.out rfl (by decide) ?_; intro v2 w2 hs2 hg2; obtain ⟨g2, cp2, rfl, hcp2, hglt2, hcells2⟩ := texts_open hs2.texts (by simp); have hb2 := hs2.below; clear hs2 hg2))
  have hl16 : (rnames ++ [other]).length = 16 := by rw [List.length_append, rnames_len]; rfl
  clear HS0
  rw [show rnames.length + 1 = 16 by rw [rnames_len]]
  generalize rnames ++ [other] = l at *
  rw [hl16] at hcp2
  go_loopg [8] 16 (fun gk i wr => ∃ k : Nat, k ≤ 16 ∧ i = .int .i64 k ∧ Aside (k + gk = 16) ∧ Below w2.heap.size w2 wr)
  case atStart => exact ⟨0, by omega, rfl, by show _ = _; omega, Below.refl _ _⟩
  case round =>
    obtain ⟨k, hk, rfl, AG, hB⟩ := hrel
    have hBw : Below w.heap.size w wr := hb2.trans (hB.mono hb2.size)
    have HEnv : Hid (∀ W, Below wr.heap.size wr W → Env W) := Lib.hid fun W hW => hw.below (Nat.le_refl _) (hBw.trans (hW.mono hBw.size))
    by_cases hlt : k < 16
    · obtain ⟨q, rfl⟩ : ∃ q, gk = q + 1 := ⟨gk - 1, by have := AG.out; omega⟩
      have hkl : k < l.length := by omega
      have hw0 : g2 < wr.heap.size := Nat.lt_of_lt_of_le hglt2 hB.size
      have fc : wr.cell? ⟨g2, k, none⟩ = some (.string ⟨l[k].toArray⟩) := (hB.cell (p := ⟨g2, k, none⟩) hglt2).trans (hcells2.out k hkl)
      have hrl : l[k].length ≤ 140737488351232 := HLL.out _ (List.getElem_mem _)
      generalize l[k] = r at *
      obtain ⟨m, er, hV⟩ := normV_form r a
      obtain ⟨is, g, hS⟩ : ∃ is g, sameP r a b = (is, g) := ⟨_, _, rfl⟩
      obtain ⟨c, j, hO⟩ : ∃ c j, orderP r a b = (c, j) := ⟨_, _, rfl⟩
      have HN1 : Hid (∀ W, Below wr.heap.size wr W → Calls Tryz.prog 15 #[.string ⟨r.toArray⟩, .string ⟨a.toArray⟩] W fun e w' => e = .returned (.tuple #[.string ⟨m.toArray⟩, .int .i64 er]) ∧ Below wr.heap.size wr w') :=
        Lib.hid fun W hW => (Norm_c r a W (HEnv.out W hW) hrl).mono fun e w' ⟨he, hb⟩ => ⟨hV ▸ he, hW.trans (hb.mono hW.size)⟩
      have HN2 : Hid (∀ W, Below wr.heap.size wr W → Calls Tryz.prog 16 #[.string ⟨r.toArray⟩, .string ⟨a.toArray⟩] W fun e w' => e = .returned (.tuple #[.string ⟨m.toArray⟩, .int .i64 er]) ∧ Below wr.heap.size wr w') :=
        Lib.hid fun W hW => (rNormV_r r a W hrl).mono fun e w' ⟨he, hb⟩ => ⟨hV ▸ he, hW.trans (hb.mono hW.size)⟩
      have HN3 : Hid (∀ W, Below wr.heap.size wr W → Calls Tryz.prog 17 #[.string ⟨r.toArray⟩, .string ⟨a.toArray⟩, .string ⟨b.toArray⟩] W fun e w' => e = .returned (.tuple #[.bool is, .int .i64 g]) ∧ Below wr.heap.size wr w') :=
        Lib.hid fun W hW => (Same_c r a b W (HEnv.out W hW) hrl).mono fun e w' ⟨he, hb⟩ => ⟨by rw [he, hS]; rfl, hW.trans (hb.mono hW.size)⟩
      have HN4 : Hid (∀ W, Below wr.heap.size wr W → Calls Tryz.prog 18 #[.string ⟨r.toArray⟩, .string ⟨a.toArray⟩, .string ⟨b.toArray⟩] W fun e w' => e = .returned (.tuple #[.bool is, .int .i64 g]) ∧ Below wr.heap.size wr w') :=
        Lib.hid fun W hW => (rSame_r r a b W hrl).mono fun e w' ⟨he, hb⟩ => ⟨by rw [he, hS]; rfl, hW.trans (hb.mono hW.size)⟩
      have HN5 : Hid (∀ W, Below wr.heap.size wr W → Calls Tryz.prog 11 #[.string ⟨r.toArray⟩, .string ⟨a.toArray⟩, .string ⟨b.toArray⟩] W fun e w' => e = .returned (.tuple #[.int .i64 c, .int .i64 j]) ∧ Below wr.heap.size wr w') :=
        Lib.hid fun W hW => (Order_c r a b W (HEnv.out W hW) hrl).mono fun e w' ⟨he, hb⟩ => ⟨by rw [he, hO]; rfl, hW.trans (hb.mono hW.size)⟩
      have HN6 : Hid (∀ W, Below wr.heap.size wr W → Calls Tryz.prog 19 #[.string ⟨r.toArray⟩, .string ⟨a.toArray⟩, .string ⟨b.toArray⟩] W fun e w' => e = .returned (.tuple #[.int .i64 c, .int .i64 j]) ∧ Below wr.heap.size wr w') :=
        Lib.hid fun W hW => (rOrder_r r a b W hrl).mono fun e w' ⟨he, hb⟩ => ⟨by rw [he, hO]; rfl, hW.trans (hb.mono hW.size)⟩
      clear hV hS hO
      have hm1 : (m != m) = false := by simp
      have hm2 : (er != er) = false := by simp
      have hm3 : (is != is) = false := by simp
      have hm4 : (g != g) = false := by simp
      have hm5 : (c != c) = false := by simp
      have hm6 : (j != j) = false := by simp
      go_wp2_with (first
        | (go_at_call 15; refine (HN1.out _ (Below.refl _ _)).mono ?_; rintro e wA1 ⟨rfl, hA1⟩; have f1 := (hA1.cell (p := ⟨g2, k, none⟩) hw0).trans fc)
        | (go_at_call 16; refine (HN2.out _ hA1).mono ?_; rintro e wA2 ⟨rfl, hA2⟩; have f2 := (hA2.cell (p := ⟨g2, k, none⟩) hw0).trans fc)
        | (go_at_call 17; refine (HN3.out _ hA2).mono ?_; rintro e wA3 ⟨rfl, hA3⟩; have f3 := (hA3.cell (p := ⟨g2, k, none⟩) hw0).trans fc)
        | (go_at_call 18; refine (HN4.out _ hA3).mono ?_; rintro e wA4 ⟨rfl, hA4⟩; have f4 := (hA4.cell (p := ⟨g2, k, none⟩) hw0).trans fc)
        | (go_at_call 11; refine (HN5.out _ hA4).mono ?_; rintro e wA5 ⟨rfl, hA5⟩; have f5 := (hA5.cell (p := ⟨g2, k, none⟩) hw0).trans fc)
        | (go_at_call 19; refine (HN6.out _ hA5).mono ?_; rintro e wA6 ⟨rfl, hA6⟩))
      go_roundg q
      case measure => omega
      case rel => exact ⟨k + 1, by omega, by go_num, by have := AG.out; show _ = _; omega, hB.trans (hA6.mono hB.size)⟩
    · obtain rfl : k = 16 := by omega
      have HA := Lib.hid (alive_c wr (HEnv.out wr (Below.refl _ _)))
      clear HEnv HLL hcells2
      go_wp2_with (go_at_call 10; refine HA.out.mono ?_; rintro e w5 ⟨rfl, hb5⟩)
      go_ret
      exact ⟨rfl, hBw.trans (hb5.mono hBw.size)⟩
theorem lawRules_c2 (a b other : List UInt8) (w : World) (hw : Env w) (_ : a.length ≤ 140737488351232) (_ : b.length ≤ 140737488351232) (hol : other.length ≤ 140737488351232) : Calls Tryz.prog 4 #[.string ⟨a.toArray⟩, .string ⟨b.toArray⟩, .string ⟨other.toArray⟩] w fun e w' => e = .returned (.bool true) ∧ Below w.heap.size w w'   := lawRules_c a b other w hw hol
end Go.Proofs.YtgpecklibcgifaaGreatDoor
