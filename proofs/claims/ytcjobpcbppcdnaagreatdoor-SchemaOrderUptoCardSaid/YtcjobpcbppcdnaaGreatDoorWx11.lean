/- Contracts: light, made, has (chapter 6's law); rows of texts at any place. -/
import Derived.Test.YtcjobpcbppcdnaaGreatDoorWx13
set_option linter.all false
namespace Go.Proofs.YtcjobpcbppcdnaaGreatDoor
open Go.RowKit

/-- Texts as they read, at any place. -/
def TextsA (w : World) (v : Value) (xs : List (List UInt8)) : Prop :=
  (xs = [] ∧ v = .slice none 0 0) ∨ ∃ (a : Addr) (c : Nat), v = .slice (some a) xs.length c ∧ xs.length ≤ c ∧ ∀ j (hj : j < xs.length), w.cell? (a.add j) = some (.string ⟨xs[j].toArray⟩)
theorem addr_block (a : Addr) (j : Nat) : (a.add j).block = a.block := by unfold Addr.add; split <;> rfl
theorem TextsA.below {w w' : World} {v : Value} {xs : List (List UInt8)} (h : TextsA w v xs) (hb : Below w.heap.size w w') : TextsA w' v xs := by
  rcases h with h | ⟨a, c, rfl, hc, hx⟩
  · exact .inl h
  · exact .inr ⟨a, c, rfl, hc, fun j hj => (hb.cell (cell_lt (hx j hj))).trans (hx j hj)⟩
theorem texts_toA {w : World} {v : Value} {xs : List (List UInt8)} (h : Texts w v xs) : TextsA w v xs := by
  rcases h with ⟨rfl, rfl⟩ | ⟨b, c, rfl, hc, hlt, hx⟩
  · exact .inl ⟨rfl, rfl⟩
  · exact .inr ⟨⟨b, 0, none⟩, c, rfl, hc, fun j hj => by rw [add_off]; exact hx j hj⟩
theorem TextsA.at {w : World} {v : Value} {xs : List (List UInt8)} (h : TextsA w v xs) : ∃ A c, v = .slice A xs.length c ∧ xs.length ≤ c ∧ (∀ j (hj : j < xs.length), ∃ a, A = some a ∧ w.cell? (a.add j) = some (.string ⟨xs[j].toArray⟩)) := by
  rcases h with ⟨rfl, rfl⟩ | ⟨a, c, rfl, hc, hcell⟩
  · exact ⟨_, _, rfl, Nat.zero_le _, fun j hj => by simp at hj⟩
  · exact ⟨_, _, rfl, hc, fun j hj => ⟨a, rfl, hcell j hj⟩⟩
theorem own_moreA {ops : Array Oper} {rest : List Oper} {o : Oper} {a : Act} {Q : Exit → Act → World → Prop} {w : World} (hgd : o.guard = none) (s x : Operand) (ho : o.op = .call { callee := .builtin .append, args := #[s, x], argTypes := #[22, 22] })
    {v xv : Value} {xs ys : List (List UInt8)} {B : Nat} (hs : a.eval s = v) (hb : Own B w v xs)
    (hx : a.eval x = xv) (hy : TextsA w xv ys) (hlen : xs.length + ys.length < 4398046511104)
    (h : ∀ v' w', Own B w' v' (xs ++ ys) → w.grownBy w' v.ownBlock → wpList Tryz.prog ops Q rest (a.put o.dst v') w') : wpList Tryz.prog ops Q (o :: rest) a w := by
  obtain ⟨i, h1, h2, h3, h4⟩ := infoStr
  rcases hy with ⟨rfl, rfl⟩ | ⟨b, c, rfl, hc, hcell⟩
  · refine wpList_append_own_none hgd s x 22 ho B 9 i 1 Tryz.underlying22 h1 v _ _ hs hb.1 hx ?_
    exact h v w (by simpa using hb) (World.grownBy.refl _ _)
  · refine wpList_append_own _ hgd s x 22 ho B 9 i (.string ⟨#[]⟩) 1 16 Tryz.underlying22 h1 h2 h3 h4 rfl (by decide) v _ _ hs hb.1 b ys.length c (ys.map strV) hx (by simp) ?_ ?_ (by unfold maxLen; omega) (by omega) hb.2 ?_
    · intro j u hj
      have hjl : j < ys.length := by simpa using (List.getElem?_eq_some_iff.1 hj).1
      rw [hcell j hjl]
      simp [hjl] at hj
      rw [← hj]; rfl
    · intro u hu
      simp at hu
      obtain ⟨q, _, rfl⟩ := hu
      rfl
    · intro v' w' ho' hg _
      exact h v' w' ⟨by simpa using ho', Nat.le_trans hb.2 hg.size⟩ hg
theorem texts_apart {w w' : World} {v : Value} {x y : List UInt8} {xs : List (List UInt8)} {k : Nat} (h : Texts w v (x :: xs)) (hk : w.cell? ⟨k, 0, none⟩ = some (.string ⟨y.toArray⟩)) (hne : x ≠ y) (hg : w.grownBy w' (some k)) : Texts w' v (x :: xs) := by
  rcases h with ⟨h, _⟩ | ⟨b, c, rfl, hc, hlt, hx⟩
  · cases h
  · have h0 := hx 0 (by simp)
    have hbk : b ≠ k := by
      rintro rfl
      rw [hk] at h0
      simp at h0
      exact hne h0.symm
    refine .inr ⟨b, c, rfl, hc, Nat.lt_of_lt_of_le hlt hg.size, fun j hj => ?_⟩
    rw [World.cell?_of_block (w := w) (w' := w') (a := ⟨b, j, none⟩) (hg.block b hlt (by intro e; exact hbk (Option.some.inj e)))]
    exact hx j hj
theorem bases_differ : bA0 ≠ bC0 := by decide
/-- How many bytes some texts have together. -/
def sumL (xs : List (List UInt8)) : Nat := (xs.map List.length).sum
def lightL (xa xc : List (List UInt8)) : Bool := decide (xa.length + xc.length ≤ 320) && decide (sumL xa + sumL xc ≤ 40000)
theorem sum_succ {xs : List (List UInt8)} {k : Nat} (h : k < xs.length) : sumL (xs.take (k + 1)) = sumL (xs.take k) + xs[k].length := by
  unfold sumL
  rw [List.take_succ_eq_append_getElem h, List.map_append, List.sum_append]
  simp
theorem sum_take (xs : List (List UInt8)) : ∀ k, sumL (xs.take k) ≤ sumL xs := by
  intro k
  have : xs = xs.take k ++ xs.drop k := (List.take_append_drop k xs).symm
  unfold sumL
  conv => rhs; rw [this]
  rw [List.map_append, List.sum_append]
  omega
theorem sum_mem {xs : List (List UInt8)} {x : List UInt8} (h : x ∈ xs) : x.length ≤ sumL xs := by
  unfold sumL
  induction xs with
  | nil => simp at h
  | cons y t ih =>
    rw [List.map_cons, List.sum_cons]
    rcases List.mem_cons.1 h with rfl | h
    · omega
    · have := ih h; omega
set_option maxRecDepth 100000 in
set_option maxHeartbeats 4000000 in
theorem light_c (xa xc : List (List UInt8)) (va vb : Value) (w : World) (hva : TextsA w va xa) (hvb : TextsA w vb xc) (hsz : xa.length + sumL xa + (xc.length + sumL xc) ≤ 1048576) :
    Calls Tryz.prog 10 #[va, vb] w fun e w' => e = .returned (.bool (lightL xa xc)) ∧ w = w' := by
  obtain ⟨Aa, ca, rfl, hca, hcellA⟩ := hva.at
  obtain ⟨Ac, cc, rfl, hcc, hcellC⟩ := hvb.at
  have HCA := Lib.hid hcellA
  have HCC := Lib.hid hcellC
  obtain ⟨R, hR⟩ : ∃ R, lightL xa xc = R := ⟨_, rfl⟩
  rw [hR]
  have HR0 := Lib.hid hR
  clear hva hvb hcellA hcellC hR
  go_enter Tryz.func10, Tryz.ntmps10
  go_wp2_with fail
  go_loopg [5, 6] xa.length (fun gk n i wr => ∃ k : Nat, k ≤ xa.length ∧ n = .int .i64 (sumL (xa.take k) : Nat) ∧ i = .int .i64 k ∧ Aside (k + gk = xa.length) ∧ w = wr)
  case atStart => exact ⟨0, Nat.zero_le _, rfl, rfl, by show _ = _; omega, rfl⟩
  case round =>
    obtain ⟨k, hk, rfl, rfl, AG, rfl⟩ := hrel
    by_cases hlt : k < xa.length
    · obtain ⟨q, rfl⟩ : ∃ q, gk = q + 1 := ⟨gk - 1, by have := AG.out; omega⟩
      obtain ⟨a, rfl, ck⟩ := HCA.out k hlt
      have h1 := sum_succ hlt
      have h2 := sum_take xa (k + 1)
      have HS := Lib.hid h1
      obtain ⟨m, hm⟩ : ∃ m, sumL (xa.take k) = m := ⟨_, rfl⟩
      obtain ⟨y, hy⟩ : ∃ y, xa[k] = y := ⟨_, rfl⟩
      rw [hm, hy] at h1
      rw [hy] at ck
      rw [hm]
      have hml : m + y.length ≤ 1048576 := by omega
      have HE := Lib.hid h1
      clear h1 h2 hm hy
      go_wp2_with fail
      go_roundg q
      case measure => omega
      case rel => exact ⟨k + 1, by omega, by rw [HE.out]; go_num, by go_num, by have := AG.out; show _ = _; omega, rfl⟩
    · obtain rfl : k = xa.length := by omega
      rw [List.take_length]
      have hm0 : sumL xa ≤ 1048576 := by omega
      clear HCA AG
      go_wp2_with fail
      go_loopg [5, 7] xc.length (fun gk n i wr => ∃ k : Nat, k ≤ xc.length ∧ n = .int .i64 (sumL xa + sumL (xc.take k) : Nat) ∧ i = .int .i64 k ∧ Aside (k + gk = xc.length) ∧ w = wr)
      case atStart => exact ⟨0, Nat.zero_le _, rfl, rfl, by show _ = _; omega, rfl⟩
      case round =>
        obtain ⟨k2, hk2, rfl, rfl, AG, rfl⟩ := hrel
        by_cases hlt : k2 < xc.length
        · obtain ⟨q, rfl⟩ : ∃ q, gk = q + 1 := ⟨gk - 1, by have := AG.out; omega⟩
          obtain ⟨a, rfl, ck⟩ := HCC.out k2 hlt
          have h1 := sum_succ hlt
          have h2 := sum_take xc (k2 + 1)
          obtain ⟨m, hm⟩ : ∃ m, sumL xa + sumL (xc.take k2) = m := ⟨_, rfl⟩
          obtain ⟨y, hy⟩ : ∃ y, xc[k2] = y := ⟨_, rfl⟩
          rw [hy] at h1 ck
          have h3 : sumL xa + sumL (xc.take (k2 + 1)) = m + y.length := by omega
          have hml : m + y.length ≤ 1048576 := by omega
          rw [hm]
          have HE := Lib.hid h3
          clear h1 h2 h3 hm hy
          go_wp2_with fail
          go_roundg q
          case measure => omega
          case rel => exact ⟨k2 + 1, by omega, by rw [HE.out]; go_num, by go_num, by have := AG.out; show _ = _; omega, rfl⟩
        · obtain rfl : k2 = xc.length := by omega
          rw [List.take_length]
          clear HCC AG
          have hl : R = (decide (xa.length + xc.length ≤ 320) && decide (sumL xa + sumL xc ≤ 40000)) := HR0.out.symm
          obtain ⟨n2, hn2⟩ : ∃ n, sumL xa + sumL xc = n := ⟨_, rfl⟩
          rw [hn2] at hl ⊢
          have hb2 : n2 ≤ 1048576 := by omega
          clear hn2 HR0
          by_cases h320 : xa.length + xc.length ≤ 320
          · have g1 : (xa.length : Int) + (xc.length : Int) ≤ 320 := by omega
            rw [decide_eq_true h320] at hl
            by_cases h4 : n2 ≤ 40000
            · rw [decide_eq_true h4] at hl
              have g2 : (n2 : Int) ≤ 40000 := by omega
              have HL := Lib.hid hl
              clear hl
              go_wp2_with fail
              all_goals
                go_ret
                exact ⟨by rw [HL.out]; rfl, rfl⟩
            · rw [decide_eq_false h4] at hl
              have g2 : ¬ (n2 : Int) ≤ 40000 := by omega
              have HL := Lib.hid hl
              clear hl
              go_wp2_with fail
              all_goals
                go_ret
                exact ⟨by rw [HL.out]; rfl, rfl⟩
          · have g1 : ¬ (xa.length : Int) + (xc.length : Int) ≤ 320 := by omega
            rw [decide_eq_false h320] at hl
            have HL := Lib.hid hl
            clear hl
            go_wp2_with fail
            all_goals
              go_ret
              exact ⟨by rw [HL.out]; rfl, rfl⟩
/-- What made hands back. -/
def MadeRet (w : World) (o : (Int × Nat) ⊕ List DefS) (e : Ending) (w' : World) : Prop := Below w.heap.size w w' ∧ match o with
  | .inl _ => e = .returned (.pointer none)
  | .inr L => ∃ s ps, e = .returned (ptrV s) ∧ SchAt w' s ps L
theorem readAll_err {na i : Nat} {xs : List (List UInt8)} {L : List DefS} {x : Int × Nat} (h : readAll na i xs L = .inl x) : x.1 ≠ 0 := by
  induction xs generalizing i L with
  | nil => rw [readAll] at h; cases h
  | cons s xs ih =>
    rw [readAll] at h
    split at h
    · cases h; simp
    · split at h
      · exact ih h
      · cases h; simp
theorem newL_err {a c : List (List UInt8)} {x : Int × Nat} (h : newL a c = .inl x) : x.1 ≠ 0 := by
  unfold newL at h
  split at h
  · cases h; simp
  · split at h
    · next y hr => cases h; exact readAll_err hr
    · split at h
      · cases h; simp
      · split at h
        · cases h; simp
        · split at h
          · cases h; simp
          · cases h
set_option maxRecDepth 100000 in
set_option maxHeartbeats 4000000 in
theorem made_c (xa xc : List (List UInt8)) (va vb : Value) (w : World) (hw : Env w) (hva : TextsA w va xa) (hvb : TextsA w vb xc) (hl : xa.length + xc.length ≤ 1000) (hs : ∀ x ∈ xa ++ xc, x.length ≤ 1000000) :
    Calls Tryz.prog 11 #[va, vb] w (MadeRet w (newL (baseA ++ xa) (baseC ++ xc))) := by
  have HBs := Lib.hid (Base_c w)
  have hsA : ∀ x ∈ (baseA ++ xa) ++ (baseC ++ xc), x.length ≤ 1000000 := by
    intro x hx
    have hb : ∀ x ∈ baseA ++ baseC, x.length ≤ 1000000 := fun x hx => Nat.le_trans (base_short x hx) (by decide)
    simp only [List.mem_append] at hx hb hs
    rcases hx with (h | h) | (h | h)
    · exact hb x (.inl h)
    · exact hs x (.inl h)
    · exact hb x (.inr h)
    · exact hs x (.inr h)
  have HNw : Hid (∀ (u1 u2 : Value) (W : World), Below w.heap.size w W → Texts W u1 (baseA ++ xa) → Texts W u2 (baseC ++ xc) → Calls Tryz.prog 9 #[u1, u2] W (NewRet W (newL (baseA ++ xa) (baseC ++ xc)))) := Lib.hid fun u1 u2 W h h1 h2 => New_c u1 u2 _ _ W (hw.keep h) h1 h2 (by simp [baseA_len, baseC_len]; omega) hsA
  have HA := Lib.hid hva
  have HC := Lib.hid hvb
  have HER := Lib.hid (fun x => newL_err (a := baseA ++ xa) (c := baseC ++ xc) (x := x))
  clear hva hvb hsA hs hw
  generalize newL (baseA ++ xa) (baseC ++ xc) = R at HNw HER ⊢
  obtain ⟨Aa, na, ca, rfl⟩ : ∃ A n c, va = .slice A n c := by obtain ⟨A, c, h, _⟩ := HA.out.at; exact ⟨A, _, c, h⟩
  obtain ⟨Ac, nc, cc, rfl⟩ : ∃ A n c, vb = .slice A n c := by obtain ⟨A, c, h, _⟩ := HC.out.at; exact ⟨A, _, c, h⟩
  cases R with
  | inl x =>
    obtain ⟨er, i⟩ := x
    have hne := HER.out _ rfl
    simp only at hne
    have hq : ((er : Int) != 0) = true := bne_iff_ne.2 hne
    clear HER hne
    go_enter Tryz.func11, Tryz.ntmps11
    go_wp2_with (first | (go_at_call 7; refine HBs.out.mono ?_; rintro e w1 ⟨rfl, hb1, hA1, hC1⟩; have ha1 := HA.out.below hb1) | (at_builtin; refine own_moreA rfl _ _ rfl rfl hA1 rfl ha1 (by rw [baseA_len]; omega) ?_; intro v2 w2 hO2 hg2; have hB2 := hb1.grown hg2 hb1.size (fun k hk => (hA1.lt k hk).1); have hC2 := hC1.keep hg2 (fun k hk => by have : w.heap.size = k := Option.some.inj hk; omega); have hc2 := HC.out.below hB2) | (at_builtin; refine own_moreA rfl _ _ rfl rfl hC2 rfl hc2 (by rw [baseC_len]; omega) ?_; intro v3 w3 hO3 hg3; have hB3 := hB2.grown hg3 hB2.size (fun k hk => by have := (hC2.lt k hk).1; omega); have ht3 := texts_apart (x := bA0) (y := bC0) hO2.texts (texts_at2 hC2.texts (j := 0) (by decide)) bases_differ hg3) | (go_at_call 9; refine (HNw.out _ _ _ hB3 ht3 hO3.texts).mono ?_; rintro e w4 ⟨hb4, rfl⟩))
    all_goals
      go_ret
      exact ⟨hB3.trans (hb4.mono hB3.size), rfl⟩
  | inr L =>
    clear HER
    go_enter Tryz.func11, Tryz.ntmps11
    go_wp2_with (first | (go_at_call 7; refine HBs.out.mono ?_; rintro e w1 ⟨rfl, hb1, hA1, hC1⟩; have ha1 := HA.out.below hb1) | (at_builtin; refine own_moreA rfl _ _ rfl rfl hA1 rfl ha1 (by rw [baseA_len]; omega) ?_; intro v2 w2 hO2 hg2; have hB2 := hb1.grown hg2 hb1.size (fun k hk => (hA1.lt k hk).1); have hC2 := hC1.keep hg2 (fun k hk => by have : w.heap.size = k := Option.some.inj hk; omega); have hc2 := HC.out.below hB2) | (at_builtin; refine own_moreA rfl _ _ rfl rfl hC2 rfl hc2 (by rw [baseC_len]; omega) ?_; intro v3 w3 hO3 hg3; have hB3 := hB2.grown hg3 hB2.size (fun k hk => by have := (hC2.lt k hk).1; omega); have ht3 := texts_apart (x := bA0) (y := bC0) hO2.texts (texts_at2 hC2.texts (j := 0) (by decide)) bases_differ hg3) | (go_at_call 9; refine (HNw.out _ _ _ hB3 ht3 hO3.texts).mono ?_; rintro e w4 ⟨hb4, s, ps, rfl, hS4⟩))
    all_goals
      go_ret
      exact ⟨hB3.trans (hb4.mono hB3.size), s, ps, rfl, hS4⟩
set_option maxRecDepth 100000 in
set_option maxHeartbeats 4000000 in
theorem has_c (xs : List (List UInt8)) (x : List UInt8) (v : Value) (w : World) (hv : TextsA w v xs) (hl : xs.length ≤ 1000000) :
    Calls Tryz.prog 21 #[v, .string ⟨x.toArray⟩] w fun e w' => e = .returned (.bool (xs.contains x)) ∧ w = w' := by
  obtain ⟨A, c, rfl, hc, hcell⟩ := hv.at
  have HC := Lib.hid hcell
  clear hv hcell
  obtain ⟨R, hR⟩ : ∃ R, xs.contains x = R := ⟨_, rfl⟩
  rw [hR]
  go_enter Tryz.func21, Tryz.ntmps21
  go_wp2_with fail
  go_loopg [5] xs.length (fun gk i wr => ∃ k : Nat, k ≤ xs.length ∧ i = .int .i64 k ∧ Aside (k + gk = xs.length) ∧ w = wr ∧ Aside (R = (xs.drop k).contains x))
  case atStart => exact ⟨0, Nat.zero_le _, rfl, by show _ = _; omega, rfl, hR.symm⟩
  case round =>
    clear hR
    obtain ⟨k, hk, rfl, AG, rfl, AR⟩ := hrel
    by_cases hlt : k < xs.length
    · obtain ⟨q, rfl⟩ : ∃ q, gk = q + 1 := ⟨gk - 1, by have := AG.out; omega⟩
      obtain ⟨a, rfl, ck⟩ := HC.out k hlt
      have hr := AR.out
      rw [List.drop_eq_getElem_cons hlt, List.contains_cons] at hr
      have HR := Lib.hid hr
      clear hr AR
      obtain ⟨y, hy⟩ : ∃ y, xs[k] = y := ⟨_, rfl⟩
      rw [hy] at ck HR
      clear hy
      by_cases hxy : y = x
      · subst hxy
        have hfin : R = true := by rw [HR.out]; simp
        have HF := Lib.hid hfin
        clear hfin HR
        go_wp2_with fail
        all_goals
          go_ret
          exact ⟨by rw [HF.out]; try rfl, rfl⟩
      · have hb1 : (y == x) = false := beq_eq_false_iff_ne.2 hxy
        have hfin : R = (xs.drop (k + 1)).contains x := by rw [HR.out, beq_eq_false_iff_ne.2 (Ne.symm hxy)]; rfl
        have HF := Lib.hid hfin
        clear hfin HR
        go_wp2_with fail
        go_roundg q
        case measure => omega
        case rel => exact ⟨k + 1, by omega, by go_num, by have := AG.out; show _ = _; omega, rfl, HF.out⟩
    · obtain rfl : k = xs.length := by omega
      have hfin : R = false := by rw [AR.out, List.drop_length]; rfl
      have HF := Lib.hid hfin
      clear hfin AR HC
      go_wp2_with fail
      go_ret
      exact ⟨by rw [HF.out]; try rfl, rfl⟩
end Go.Proofs.YtcjobpcbppcdnaaGreatDoor
/- Plain: the Names of all definitions of a kind, and whose they are; SchemaOrder's tests. -/
namespace Go.Proofs.YtcjobpcbppcdnaaGreatDoor

/-- Where the definitions of a kind stand. -/
def idxs (L : List DefS) (c : Bool) : List Nat := (List.range L.length).filter fun i => match L[i]? with
  | none => false
  | some d => d.cls == c
theorem idxs_app (L : List DefS) (d : DefS) (c : Bool) : idxs (L ++ [d]) c = idxs L c ++ (if d.cls == c then [L.length] else []) := by
  unfold idxs
  rw [List.length_append, List.length_singleton, List.range_succ, List.filter_append]
  congr 1
  · apply List.filter_congr
    intro i hi
    have hi' : i < L.length := List.mem_range.1 hi
    rw [List.getElem?_append_left hi']
  · simp only [List.filter_cons, List.filter_nil, List.getElem?_concat_length]
theorem nameOf_app {L : List DefS} (d : DefS) {i : Nat} (h : i < L.length) : nameOf (L ++ [d]) i = nameOf L i := by
  unfold nameOf
  rw [List.getElem?_append_left h]
theorem idxs_lt {L : List DefS} {c : Bool} {i : Nat} (h : i ∈ idxs L c) : ∃ d, L[i]? = some d ∧ d.cls = c := by
  unfold idxs at h
  rw [List.mem_filter] at h
  cases hd : L[i]? with
  | none => rw [hd] at h; simp at h
  | some d => rw [hd] at h; exact ⟨d, rfl, by simpa using h.2⟩
theorem snoc_cases {α : Type} (P : List α → Prop) (h0 : P []) (h1 : ∀ l x, P l → P (l ++ [x])) (l : List α) : P l := by
  have : ∀ n (l : List α), l.length = n → P l := by
    intro n
    induction n with
    | zero => intro l h; rw [List.eq_nil_of_length_eq_zero h]; exact h0
    | succ n ih =>
      intro l h
      have hne : l ≠ [] := by rintro rfl; simp at h
      rw [← List.dropLast_concat_getLast hne]
      exact h1 _ _ (ih _ (by simp [h]))
  exact this _ l rfl
theorem listed_idxs (c : Bool) (L : List DefS) : listedL L c = (idxs L c).map (nameOf L) := by
  refine snoc_cases (fun L => listedL L c = (idxs L c).map (nameOf L)) rfl ?_ L
  intro L d ih
  have e1 : listedL (L ++ [d]) c = listedL L c ++ (if d.cls == c then [d.name] else []) := by
    unfold listedL
    rw [List.filter_append, List.map_append]
    congr 1
    by_cases hc : (d.cls == c) = true
    · rw [if_pos hc]; simp [hc]
    · rw [if_neg hc]; simp [hc]
  rw [e1, idxs_app, List.map_append, ih]
  congr 1
  · apply List.map_congr_left
    intro i hi
    obtain ⟨e, he, _⟩ := idxs_lt hi
    exact (nameOf_app d (List.getElem?_eq_some_iff.1 he).1).symm
  · by_cases hc : (d.cls == c) = true
    · rw [if_pos hc, if_pos hc]
      simp [nameOf]
    · rw [if_neg hc, if_neg hc]; rfl
theorem idxs_nodup (L : List DefS) (c : Bool) : (idxs L c).Nodup := (List.nodup_range (n := L.length)).sublist List.filter_sublist
theorem nodup_inj {l : List Nat} (h : l.Nodup) {i k : Nat} (hi : i < l.length) (hk : k < l.length) (he : l[i] = l[k]) : i = k := by
  rw [List.nodup_iff_pairwise_ne, List.pairwise_iff_getElem] at h
  rcases Nat.lt_trichotomy i k with h1 | h1 | h1
  · exact absurd he (h i k hi hk h1)
  · exact h1
  · exact absurd he.symm (h k i hk hi h1)
/-- Who has the i-th Name. -/
theorem listed_at {L : List DefS} {c : Bool} {i : Nat} (h : i < (listedL L c).length) : ∃ x d, (idxs L c)[i]? = some x ∧ L[x]? = some d ∧ d.cls = c ∧ (listedL L c)[i] = d.name := by
  have hl : (listedL L c).length = (idxs L c).length := by rw [listed_idxs, List.length_map]
  have hi : i < (idxs L c).length := by omega
  obtain ⟨d, hd, hc⟩ := idxs_lt (List.getElem_mem hi)
  refine ⟨(idxs L c)[i], d, List.getElem?_eq_getElem hi, hd, hc, ?_⟩
  have e : (listedL L c)[i]? = ((idxs L c).map (nameOf L))[i]? := by rw [listed_idxs]
  rw [List.getElem?_eq_getElem h, List.getElem?_map, List.getElem?_eq_getElem hi] at e
  have e2 := Option.some.inj e
  rw [e2]
  unfold nameOf
  rw [hd]
/-- What SchemaOrder asks of the i-th and the k-th Name. -/
theorem order_at {L : List DefS} (h : NewSays L) {i : Nat} (hi : i < (listedL L false).length) : ∃ x a, findD L false (listedL L false)[i] = some x ∧ countsD L x = some a ∧
    isSubD L (listedL L false)[i] (listedL L false)[i] = true ∧ (a.sup ≠ [] → isSubD L (listedL L false)[i] a.sup = true) ∧ isSubD L a.oid (listedL L false)[i] = true ∧
    ∀ k (hk : k < (listedL L false).length), (i ≠ k → isSubD L (listedL L false)[i] (listedL L false)[k] = true → isSubD L (listedL L false)[k] (listedL L false)[i] = false) ∧
      (a.sup ≠ [] → isSubD L a.sup (listedL L false)[k] = true → isSubD L (listedL L false)[i] (listedL L false)[k] = true) := by
  obtain ⟨x, d, hx, hd, hc, hn⟩ := listed_at hi
  obtain ⟨a, ha⟩ := h.counts hd hc
  have hf := h.named hd
  rw [hc] at hf
  obtain ⟨o1, o2, o3, o4⟩ := order_law h hd hc ha
  rw [hn]
  refine ⟨x, a, hf, ha, o1, o2, o3, fun k hk => ?_⟩
  obtain ⟨y, e, hy, he, hce, hm⟩ := listed_at hk
  rw [hm]
  obtain ⟨q1, q2⟩ := o4 y e he hce
  refine ⟨fun hik h1 => ?_, q2⟩
  have hxy : x ≠ y := by
    rintro rfl
    obtain ⟨l1, e1⟩ := List.getElem?_eq_some_iff.1 hx
    obtain ⟨l2, e2⟩ := List.getElem?_eq_some_iff.1 hy
    exact hik (nodup_inj (idxs_nodup L false) l1 l2 (e1.trans e2.symm))
  have := q1 hxy
  rw [← Bool.not_eq_true]
  exact fun h2 => this ⟨h1, h2⟩
end Go.Proofs.YtcjobpcbppcdnaaGreatDoor
/- Plain: how long what SchemaOrder and SchemaClasses ask about is. -/
namespace Go.Proofs.YtcjobpcbppcdnaaGreatDoor
open Go.RowKit

theorem light_sums {xa xc : List (List UInt8)} (h : lightL xa xc = true) : sumL xa ≤ 40000 ∧ sumL xc ≤ 40000 ∧ xa.length + xc.length ≤ 320 := by
  unfold lightL at h
  rw [Bool.and_eq_true, decide_eq_true_eq, decide_eq_true_eq] at h
  omega
theorem listed_short {L : List DefS} (hL : Sound L) (c : Bool) : ∀ x ∈ listedL L c, x.length ≤ 1000000 := by
  intro x hx
  unfold listedL at hx
  obtain ⟨d, hd, rfl⟩ := List.mem_map.1 hx
  have h := hL.lim d (List.mem_filter.1 hd).1
  unfold DefS.name
  cases hn : d.names with
  | nil => exact h.oid
  | cons x t => exact h.names.2 x (by rw [hn]; simp)
theorem attr_short {L : List DefS} (hL : Sound L) {x : Nat} {a : AttrS} (ha : countsD L x = some a) : a.oid.length ≤ 1000000 ∧ a.sup.length ≤ 1000000 := by
  have hname : ∀ d ∈ L, d.name.length ≤ 1000000 := by
    intro d hd
    have h := hL.lim d hd
    unfold DefS.name
    cases hn : d.names with
    | nil => exact h.oid
    | cons x t => exact h.names.2 x (by rw [hn]; simp)
  cases hd : L[x]? with
  | none => unfold countsD at ha; rw [countsF, hd] at ha; cases ha
  | some d =>
    obtain ⟨e1, _, e3⟩ := countsF_sup _ hd ha
    refine ⟨by rw [e1]; exact (hL.lim d (List.mem_of_getElem? hd)).oid, ?_⟩
    rcases e3 with ⟨_, e⟩ | ⟨_, _, _, u, _, _, hu, e⟩
    · rw [e]; simp
    · rw [e]; exact hname u (List.mem_of_getElem? hu)
end Go.Proofs.YtcjobpcbppcdnaaGreatDoor
