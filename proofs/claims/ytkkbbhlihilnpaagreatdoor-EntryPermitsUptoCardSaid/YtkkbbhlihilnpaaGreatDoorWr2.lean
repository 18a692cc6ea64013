import Derived.Test.YtkkbbhlihilnpaaGreatDoorWvd8
import Derived.Test.YtkkbbhlihilnpaaGreatDoorWr1
set_option linter.all false
set_option maxHeartbeats 8000000
set_option maxRecDepth 100000
namespace Go.Proofs.YtkkbbhlihilnpaaGreatDoor
open Go.RowKit
theorem all_c (w0 : World) (s m : Nat) (ps : List Nat) (L : List DefS) (of : DefS → LL) (f : FuncId) (hS : SchAt w0 s ps L) (hlim : ∀ d ∈ L, DefLim d) (hN : L.length ≤ 1000) (hm0 : w0.heap.size ≤ m) (hk : ∀ d ∈ L, ∀ n ∈ d.sup, (findD L d.cls n).isSome = true) (hkf : ∀ d ∈ L, ∀ n ∈ of d, (findD L false n).isSome = true) (hof : OfOK w0 ps L of f) :
  ∀ (n i : Nat) (st : List Nat × LL) (v : Value) (w : World), Below w0.heap.size w0 w → st.1.Nodup → (∀ x ∈ st.1, x < L.length) → i < L.length → (∀ d, L[i]? = some d → d.cls = true) → L.length + 1 ≤ n + st.1.length → Own w0.heap.size w v st.2 → SeenP w m ps st.1 → NmOK L st.2 →
  Calls Tryz.prog 87 #[ptrV s, ptrV (pAt ps i), v, .map (some m), .func (.func f) #[] #[]] w (AllRet w0.heap.size w m ps L (allF L of n i st)) := by
 intro n
 induction n with
 | zero =>
  intro i st v w hb hn hl hi hcl hf ho hse hnm
  have := nodup_bound _ st.1 hn hl
  omega
 | succ n ih =>
  intro i st v w hb hn hl hi hcl hf ho hse hnm
  have hask := seenP_ask hS hb hl hi hse
  have hB0 : Below w.heap.size w (w.alloc (.cells #[] 72)) := (Below.refl _ _).alloc (Nat.le_refl _) _
  have hB1 : Below w0.heap.size w0 (w.alloc (.cells #[] 72)) := hb.trans (hB0.mono hb.size)
  have HO := hiD ho
  have HSE := hiD hse
  obtain ⟨A, c, rfl, hc⟩ := ho.isSlice
  have IH := hiD ih
  have HB := hiD hb
  have hdL : L[i]? = some L[i] := List.getElem?_eq_getElem hi
  obtain ⟨d, hd⟩ : ∃ d, L[i]? = some d := ⟨_, hdL⟩
  have hdc := hcl d hd
  rw [allF_up n st hd]
  cases hcon : st.1.contains i
  ·have hcn := hcon
   rw [hcon] at hask
   have hmem : d ∈ L := List.mem_of_getElem? hd
   simp only [Bool.false_eq_true, if_false]
   obtain ⟨W1, hup, hse1, hg1⟩ := seenP_put hS hB1 hl hi (hse.below hB0) hcon
   have hbW : Below w0.heap.size w0 W1 := hB1.grown hg1 hB1.size (fun k hk => by cases hk; exact hm0)
   have hbw1 : Below w0.heap.size w W1 := (hB0.mono hb.size).grown hg1 hB1.size (fun k hk => by cases hk; exact hm0)
   have hoW : Own w0.heap.size W1 (.slice A st.2.length c) st.2 := by
    refine (ho.below hB0).keep2 hg1 ?_
    intro k hk e
    have e' : m = k := Option.some.inj e
    subst e'
    obtain ⟨⟨_, h2⟩, _⟩ := ho
    obtain ⟨es, cl, h1, _⟩ := hse
    rcases h2 with ⟨h2, hn'⟩ | ⟨g, cap, cur, h2, r2, r3, _⟩
    ·rw [h2] at hk; simp [Value.ownBlock] at hk
    ·rw [h2] at hk
     have : g = m := by simpa [Value.ownBlock] using hk
     subst this
     rw [h1] at r3
     cases r3
   obtain ⟨vn, vs, vm, vy, hBK, _, ht, _⟩ := hS.defAt hd
   obtain ⟨As, ns, cs, rfl⟩ := ht.isSlice
   obtain ⟨rfl, hcs⟩ := texts_len ht
   have hsl := (hlim d hmem).sup
   have hBW := hBK.below hbW
   have c3 : W1.cell? ⟨pAt ps i, 3, none⟩ = some (.slice As d.sup.length cs) := hBW.cell 3
   obtain ⟨R1, hR1⟩ : ∃ R1, d.sup.foldl (upA L of n) (st.1 ++ [i], st.2) = R1 := ⟨_, rfl⟩
   rw [hR1]
   obtain ⟨vo, hvo, hOF⟩ := hof.call i d hd
   have hofs := hof.short d hmem
   have hent := hof.enter
   have HT := hiD ht
   have HVO := hiD hvo
   have HOF := hiD hOF
   have hni : i ∉ st.1 := by
    intro h
    rw [List.contains_iff_mem.2 h] at hcn
    cases hcn
   have HJ0 : Hid (AJ6 L of n d w0 m ps (st.1.length + 1) R1 0 (.slice A st.2.length c) W1 (st.1 ++ [i], st.2) ∧ Below w0.heap.size w W1) := hiD (by
    refine ⟨⟨hoW, hse1, hbW, ?_, ?_, by simp, hnm, hR1⟩, hbw1⟩
    ·rw [List.nodup_append]
     refine ⟨hn, by simp, fun a ha b hb => ?_⟩
     have : b = i := by simpa using hb
     subst this
     rintro rfl
     exact hni ha
    ·intro x hx
     rcases List.mem_append.1 hx with h | h
     ·exact hl x h
     ·have : x = i := by simpa using h
      omega)
   have hkd : ∀ k (h : k < d.sup.length), (findD L true d.sup[k]).isSome = true := fun k h => by
    have := hk d hmem _ (List.getElem_mem h)
    rw [hdc] at this
    exact this
   have hko : ∀ k (h : k < (of d).length), (findD L false (of d)[k]).isSome = true := fun k h => hkf d hmem _ (List.getElem_mem h)
   have HKD := hiD hkd
   have HKO := hiD hko
   obtain ⟨xs, hxs⟩ : ∃ xs, of d = xs := ⟨_, rfl⟩
   rw [hxs] at HVO HKO hofs
   have HXS := hiD hxs
   have HS := hiD hS
   have HLIM := hiD hlim
   have HDC := hiD hdc
   have HD := hiD hd
   clear hR1 hdL hBK ht hni hcn hcon hBW hoW hbW hbw1 hg1 hse1 hse hnm ho hb ih hvo hOF hkd hko hk hkf hof hxs hS hlim hB0 hB1 hdc hd hcl
   unfold ptrV
   go_enter Tryz.func87, Tryz.ntmps87
   go_wp2_with fail
   go_loopg [2, 34] d.sup.length (fun gk v i2 wr => ∃ (k : Nat) (st' : List Nat × LL), k ≤ d.sup.length ∧ i2 = .int .i64 k ∧ Aside (k + gk = d.sup.length) ∧ Aside (AJ6 L of n d w0 m ps (st.1.length + 1) R1 k v wr st') ∧ Aside (Below w0.heap.size w wr))
   case atStart => exact ⟨0, (st.1 ++ [i], st.2), Nat.zero_le _, rfl, by show _ = _; omega, HJ0.out.1, HJ0.out.2⟩
   case round =>
    clear HJ0
    obtain ⟨k, st', hk2, rfl, AG, AJ, AB⟩ := hrel
    by_cases hlt : k < d.sup.length
    ·obtain ⟨q, rfl⟩ : ∃ q, gk = q + 1 := ⟨gk - 1, by have := AG.out; omega⟩
     obtain ⟨g, rfl, ck⟩ := texts_at (HT.out.below AJ.out.bel) hlt
     have hkn := HKD.out k hlt
     obtain ⟨j, hj⟩ := Option.isSome_iff_exists.1 hkn
     have hF := find_c s ps L true d.sup[k] wr (HS.out.below AJ.out.bel) (hsl.2 _ (List.getElem_mem hlt))
     rw [hj] at hF
     have HF : Hid (Calls Tryz.prog 38 #[.pointer (some ⟨s, 0, none⟩), .bool true, .string ⟨d.sup[k].toArray⟩] wr fun e w' => e = .returned (.pointer (some ⟨pAt ps j, 0, none⟩)) ∧ Below wr.heap.size wr w') := hiD hF
     have hj2 := findD_lt hj
     have hjc : ∀ d', L[j]? = some d' → d'.cls = true := by
      intro d' hd'
      obtain ⟨d2, g1, g2, _⟩ := findD_at hj
      rw [g1] at hd'
      cases hd'
      exact g2
     have hfuel : L.length + 1 ≤ n + st'.1.length := by have := AJ.out.more; omega
     have hA := allF_says L of n j st' hjc AJ.out.nodup AJ.out.lt hj2 hfuel
     have HA := hiD hA
     have hrest := AJ.out.rest
     rw [List.drop_eq_getElem_cons hlt, List.foldl_cons, show upA L of n st' d.sup[k] = allF L of n j st' by unfold upA; rw [hj]] at hrest
     have HRS := hiD hrest
     have HIJ : Hid (∀ w3, Below wr.heap.size wr w3 → Calls Tryz.prog 87 #[.pointer (some ⟨s, 0, none⟩), .pointer (some ⟨pAt ps j, 0, none⟩), u2, .map (some m), .func (.func f) #[] #[]] w3 (AllRet w0.heap.size w3 m ps L (allF L of n j st'))) := hiD fun w3 hb3 =>
      IH.out j st' u2 w3 (AJ.out.bel.trans (hb3.mono AJ.out.bel.size)) AJ.out.nodup AJ.out.lt hj2 hjc hfuel (AJ.out.own.below hb3) (AJ.out.seen.below hb3) AJ.out.nm
     clear hA hrest hF hkn hj IH
     go_wp2_with (first | (go_at_call 38; refine HF.out.mono ?_; rintro e w3 ⟨rfl, hb3⟩) | (go_at_call 87; refine (HIJ.out _ hb3).mono ?_; rintro e w4 ⟨hb4, hn4, hse4, v4, rfl, hO4⟩))
     go_roundg q
     case measure => omega
     case rel =>
      refine ⟨k + 1, allF L of n j st', by omega, by go_num, by have := AG.out; show _ = _; omega, ?_, ?_⟩
      ·obtain ⟨t1, ht1⟩ := HA.out.grown
       exact (⟨hO4, hse4, (AJ.out.bel.trans (hb3.mono AJ.out.bel.size)).trans hb4, HA.out.nodup, HA.out.lt, by have := AJ.out.more; rw [ht1]; simp; omega, hn4, HRS.out⟩ : AJ6 L of n d w0 m ps (st.1.length + 1) R1 (k + 1) v4 w4 (allF L of n j st'))
      ·exact (AB.out.trans (hb3.mono AJ.out.bel.size)).trans hb4
    ·obtain rfl : k = d.sup.length := by omega
     have hR2 : st' = R1 := by rw [← AJ.out.rest, List.drop_length]; rfl
     subst hR2
     clear IH HKD HT
     have HC : Hid (Calls Tryz.prog f #[.pointer (some ⟨pAt ps i, 0, none⟩)] wr fun e w' => e = .returned vo ∧ wr = w') := hiD (HOF.out wr AJ.out.bel)
     obtain ⟨Ao, no, co, rfl⟩ := HVO.out.isSlice
     obtain ⟨hno, hco⟩ := texts_len HVO.out
     subst hno
     go_wp2_with ((with_reducible refine HC.out.mono ?_); rintro e w2 ⟨rfl, rfl⟩)
     obtain ⟨we, hwe⟩ : ∃ x, x = wr := ⟨_, rfl⟩
     subst hwe
     go_loopg [2, 51] xs.length (fun gk v i2 wr => ∃ (k : Nat) (acc : LL), k ≤ xs.length ∧ i2 = .int .i64 k ∧ Aside (k + gk = xs.length) ∧ Aside (BJ6 L xs w0 m ps (st'.1, xs.foldl (addN L) st'.2) k v wr acc) ∧ Aside (Below w0.heap.size w wr))
     case atStart => exact ⟨0, st'.2, Nat.zero_le _, rfl, by show _ = _; omega, ⟨AJ.out.own, AJ.out.seen, AJ.out.bel, AJ.out.nm, rfl⟩, AB.out⟩
     case round =>
      clear AJ AB HC HOF AG
      obtain ⟨k, acc, hk2, rfl, AG, BJ, AB⟩ := hrel
      by_cases hlt : k < xs.length
      ·obtain ⟨q, rfl⟩ : ∃ q, gk = q + 1 := ⟨gk - 1, by have := AG.out; omega⟩
       obtain ⟨g, hgA, ck⟩ := texts_at (HVO.out.below BJ.out.bel) hlt
       subst hgA
       obtain ⟨j, hj⟩ := Option.isSome_iff_exists.1 (HKO.out k hlt)
       have hF := find_c s ps L false xs[k] wr (HS.out.below BJ.out.bel) (hofs.2 _ (List.getElem_mem hlt))
       rw [hj] at hF
       have HF : Hid (Calls Tryz.prog 38 #[.pointer (some ⟨s, 0, none⟩), .bool false, .string ⟨xs[k].toArray⟩] wr fun e w' => e = .returned (.pointer (some ⟨pAt ps j, 0, none⟩)) ∧ Below wr.heap.size wr w') := hiD hF
       obtain ⟨e6, he6, hadd⟩ := addN_cases (l := acc) hj
       have hem := List.mem_of_getElem? he6
       have hnl := name_short HLIM.out hem
       have HNM : Hid (∀ w3, Below wr.heap.size wr w3 → Calls Tryz.prog 77 #[.pointer (some ⟨pAt ps j, 0, none⟩)] w3 fun e w' => e = .returned (.string ⟨e6.name.toArray⟩) ∧ w3 = w') := hiD fun w3 hb3 =>
        dname_c (pAt ps j) e6 w3 ((HS.out.below (BJ.out.bel.trans (hb3.mono BJ.out.bel.size))).defAt he6)
       have hacl : acc.length ≤ 1000 := Nat.le_trans BJ.out.nm.len hN
       have hrest := BJ.out.rest
       rw [List.drop_eq_getElem_cons hlt, List.foldl_cons, hadd] at hrest
       obtain ⟨Ak, ck2, hu, hck2⟩ := BJ.out.own.isSlice
       subst hu
       have HCN : Hid (∀ w3, Below wr.heap.size wr w3 → Calls Tryz.prog 51 #[.slice Ak acc.length ck2, .string ⟨e6.name.toArray⟩] w3 fun e w' => e = .returned (.bool (acc.contains e6.name)) ∧ w3 = w') := hiD fun w3 hb3 =>
        ContainsS_c e6.name acc _ w3 (BJ.out.own.below hb3).texts (by omega)
       have HO3 : Hid (∀ w3, Below wr.heap.size wr w3 → Own w0.heap.size w3 (.slice Ak acc.length ck2) acc) := hiD fun w3 hb3 => BJ.out.own.below hb3
       have HEM := hiD hem
       clear hF hj he6 hadd hem
       obtain ⟨nm6, hnm6⟩ : ∃ x, e6.name = x := ⟨_, rfl⟩
       cases hct : acc.contains e6.name
       ·rw [hct] at HCN hrest
        simp only [Bool.false_eq_true, if_false] at hrest
        have HRS := hiD hrest
        have HCT := hiD hct
        rw [hnm6] at HNM HCN HRS HCT hnl
        have HNE := hiD hnm6
        clear hrest hct hnm6
        go_wp2_with (first | (go_at_call 38; refine HF.out.mono ?_; rintro e w3 ⟨rfl, hb3⟩; have hO3 := HO3.out _ hb3) | (go_at_call 77; refine (HNM.out _ hb3).mono ?_; rintro e w4 ⟨rfl, rfl⟩) | (go_at_call 51; refine (HCN.out _ hb3).mono ?_; rintro e w4 ⟨rfl, rfl⟩) | (at_builtin; refine own_one (c := nm6) rfl _ _ rfl rfl hO3 rfl rfl (by omega) ?_; intro v' w5 hO5 hg5))
        go_roundg q
        case measure => omega
        case rel =>
         have hb5 := (BJ.out.bel.trans (hb3.mono BJ.out.bel.size)).grown hg5 hO3.2 (fun k hk => (hO3.lt k hk).1)
         refine ⟨k + 1, acc ++ [nm6], by omega, by go_num, by have := AG.out; show _ = _; omega, ?_, ?_⟩
         ·exact (⟨hO5, (BJ.out.seen.below hb3).noown hO3 hg5, hb5, by have := BJ.out.nm.add HEM.out (by rw [HNE.out]; exact HCT.out); rw [HNE.out] at this; exact this, HRS.out⟩ : BJ6 L xs w0 m ps _ (k + 1) v' w5 (acc ++ [nm6]))
         ·exact (AB.out.trans (hb3.mono BJ.out.bel.size)).grown hg5 hO3.2 (fun k hk => (hO3.lt k hk).1)
       ·rw [hct] at HCN hrest
        simp only [if_true] at hrest
        have HRS := hiD hrest
        rw [hnm6] at HNM HCN hnl
        clear hrest hct hnm6
        go_wp2_with (first | (go_at_call 38; refine HF.out.mono ?_; rintro e w3 ⟨rfl, hb3⟩; have hO3 := HO3.out _ hb3) | (go_at_call 77; refine (HNM.out _ hb3).mono ?_; rintro e w4 ⟨rfl, rfl⟩) | (go_at_call 51; refine (HCN.out _ hb3).mono ?_; rintro e w4 ⟨rfl, rfl⟩))
        go_roundg q
        case measure => omega
        case rel =>
         refine ⟨k + 1, acc, by omega, by go_num, by have := AG.out; show _ = _; omega, ?_, ?_⟩
         ·exact (⟨hO3, BJ.out.seen.below hb3, BJ.out.bel.trans (hb3.mono BJ.out.bel.size), BJ.out.nm, HRS.out⟩ : BJ6 L xs w0 m ps _ (k + 1) _ _ acc)
         ·exact AB.out.trans (hb3.mono BJ.out.bel.size)
      ·obtain rfl : k = xs.length := by omega
       have hR2 : acc = xs.foldl (addN L) st'.2 := by have := BJ.out.rest; rw [List.drop_length] at this; exact this
       have HR2 := hiD hR2
       clear hR2
       go_wp2_with fail
       go_ret
       rw [HXS.out, ← HR2.out]
       exact ⟨AB.out, BJ.out.nm, BJ.out.seen, _, rfl, BJ.out.own⟩
  ·rw [hcon] at hask
   simp only [if_true]
   have hb2 : Below w0.heap.size w (w.alloc (.cells #[] 72)) := hB0.mono hb.size
   have HR : Hid (NmOK L st.2 ∧ SeenP (w.alloc (.cells #[] 72)) m ps st.1 ∧ Own w0.heap.size (w.alloc (.cells #[] 72)) (.slice A st.2.length c) st.2) := hiD ⟨hnm, hse.below hB0, ho.below hB0⟩
   clear hnm hse ho ih hof hkf hk hlim hS hcon hb hB0 hB1
   unfold ptrV
   go_enter Tryz.func87, Tryz.ntmps87
   go_wp2_with fail
   go_ret
   exact ⟨hb2, HR.out.1, HR.out.2.1, _, rfl, HR.out.2.2⟩
open Go.RowKit
theorem CloneA_c (xs : LL) (v : Value) (w : World) (hv : TextsA w v xs) (hl : xs.length ≤ 4000000) :
  Calls Tryz.prog 55 #[v] w fun e w' => ∃ v', e = .returned v' ∧ Own w.heap.size w' v' xs ∧ Below w.heap.size w w' := by
 have hb0 : Below w.heap.size w (w.alloc (.cells #[] 9)) := (Below.refl _ _).alloc (Nat.le_refl _) _
 have hv1 := hv.below hb0
 have ho := own_empty w
 have hq := fun (a : Option Addr) (n c : Nat) => Lib.run_eql_slice_nil (P := Tryz.prog) w 23 9 a n c 0 0 Tryz.underlying23
 rcases id hv with ⟨rfl, rfl⟩ | ⟨b, c, rfl, hc, hx⟩
 ·go_enter Tryz.func55, Tryz.ntmps55
  go_wp2_with fail
  go_ret
  exact ⟨_, rfl, Own.nil (Nat.le_refl _), Below.refl _ _⟩
 ·clear hx hv
  go_enter Tryz.func55, Tryz.ntmps55
  go_wp2_with (at_builtin; refine own_moreA rfl _ _ rfl rfl ho rfl hv1 (by simp; omega) ?_; intro v' w1 hO1 hg1)
  go_ret
  exact ⟨_, rfl, by simpa using hO1, Own.bel hb0 ho hg1⟩
def formsF (f : LU → Int × LU) : LL → LL → Option (LL)
 | [], acc => some acc
 | v :: vs, acc => if (f v).1 == 0 then formsF f vs (acc ++ [(f v).2]) else none
theorem formsF_eq (S : Ent.SchE) (t : LU) : ∀ (vs acc : LL), formsF (S.norm t) vs acc = (Ent.formsE S t vs).map (acc ++ ·)
 | [], acc => by simp [formsF, Ent.formsE]
 | v :: vs, acc => by
  have ih := formsF_eq S t vs (acc ++ [(S.norm t v).2])
  rw [formsF, ih]
  unfold Ent.formsE
  rw [List.all_cons, List.map_cons]
  unfold Ent.okF Ent.normF
  cases h1 : ((S.norm t v).1 == 0)
  ·simp
  ·simp only [if_true, Bool.true_and]
   split
   ·simp
   ·simp
def FormsRet (w : World) (o : Option (LL)) (e : Ending) (w' : World) : Prop := Below w.heap.size w w' ∧ match o with
 | none => e = .returned (.tuple #[.slice none 0 0, .bool false])
 | some l => ∃ v, e = .returned (.tuple #[v, .bool true]) ∧ Own w.heap.size w' v l
theorem forms_c (s : Nat) (ps : List Nat) (L : List DefS) (hL : Sound L) (t : LU) (vs : LL) (v : Value) (w : World) (hw : Env w) (hS : SchAt w s ps L) (ht : t.length ≤ 1000000) (hv : TextsA w v vs) (hl : vs.length ≤ 4000000) :
  Calls Tryz.prog 73 #[.pointer (some ⟨s, 0, none⟩), .string ⟨t.toArray⟩, v] w (FormsRet w (Ent.formsE (schE L) t vs)) := by
 obtain ⟨R, hR⟩ : ∃ R, Ent.formsE (schE L) t vs = R := ⟨_, rfl⟩
 have hR0 : formsF (normTy L t) vs [] = R := by
  have := formsF_eq (schE L) t vs []
  rw [hR] at this
  have h2 : formsF ((schE L).norm t) vs [] = R := by simpa using this
  exact h2
 rw [hR]
 have HN : Hid (∀ (x : LU) (W : World), Below w.heap.size w W → Calls Tryz.prog 21 #[.pointer (some ⟨s, 0, none⟩), .string ⟨t.toArray⟩, .string ⟨x.toArray⟩] W fun e w' => e = .returned (.tuple #[.string ⟨(normTy L t x).2.toArray⟩, .int .i64 (normTy L t x).1]) ∧ Below W.heap.size W w') := hiD fun x W h => NormTy_c s ps L hL.lim hL.rul hL.counts t x W (hw.keep h) (hS.below h) ht
 obtain ⟨A, c, rfl, hc, hcell⟩ := hv.at
 have HV := hiD hcell
 have HR := hiD hR0
 clear hv hcell hS hw hL hR hR0
 go_enter Tryz.func73, Tryz.ntmps73
 go_wp2_with fail
 go_loopg [8, 15] vs.length (fun gk out i wr => ∃ (k : Nat) (acc : LL), k ≤ vs.length ∧ i = .int .i64 k ∧ Aside (k + gk = vs.length) ∧ Aside (acc.length = k) ∧ Aside (Below w.heap.size w wr ∧ Own w.heap.size wr out acc) ∧ Aside (formsF (normTy L t) (vs.drop k) acc = R))
 case atStart => exact ⟨0, [], by omega, rfl, by show _ = _; omega, rfl, ⟨Below.refl _ _, Own.nil (Nat.le_refl _)⟩, HR.out⟩
 case round =>
  clear HR
  obtain ⟨k, acc, hk, rfl, AG, AC, AB, AS⟩ := hrel
  obtain ⟨Ao, co, rfl, hco⟩ := AB.out.2.isSlice
  by_cases hlt : k < vs.length
  ·obtain ⟨q, rfl⟩ : ∃ q, gk = q + 1 := ⟨gk - 1, by have := AG.out; omega⟩
   obtain ⟨a, rfl, c0⟩ := HV.out k hlt
   have AS' : Aside ((if (normTy L t vs[k]).1 == 0 then formsF (normTy L t) (vs.drop (k + 1)) (acc ++ [(normTy L t vs[k]).2]) else none) = R) := by have := AS.out; rw [List.drop_eq_getElem_cons hlt] at this; exact this
   have d0 := (AB.out.1.cell (cell_lt c0)).trans c0
   have HN1 := hiD (HN.out vs[k] wr AB.out.1)
   have hacl : acc.length < 4000001 := by have := AC.out; omega
   clear AS c0
   generalize vs[k] = x at *
   generalize normTy L t x = p at *
   obtain ⟨code, nx⟩ := p
   simp only at HN1 AS'
   by_cases hcd : code = 0
   ·subst hcd
    have AS2 : Aside (formsF (normTy L t) (vs.drop (k + 1)) (acc ++ [nx]) = R) := (by have := AS'.out; simpa using this : formsF (normTy L t) (vs.drop (k + 1)) (acc ++ [nx]) = R)
    clear AS'
    go_wp2_with (first | (go_at_call 21; (with_reducible refine HN1.out.mono ?_); rintro e w2 ⟨rfl, hb2⟩; have hO2 := AB.out.2.below hb2; have hB2 := AB.out.1.trans (hb2.mono AB.out.1.size)) | (at_builtin; refine own_one (c := nx) rfl _ _ rfl rfl hO2 rfl rfl (by omega) ?_; intro v' w4 hO4 hg4))
    go_roundg q
    case measure => omega
    case rel => exact ⟨k + 1, acc ++ [nx], by omega, by go_num, by have := AG.out; show _ = _; omega, by have := AC.out; show _ = _; rw [List.length_append, List.length_singleton]; omega, ⟨Own.bel hB2 hO2 hg4, hO4⟩, AS2.out⟩
   ·have hcb : (code != 0) = true := bne_iff_ne.2 hcd
    have hcb2 : (code == 0) = false := beq_eq_false_iff_ne.2 hcd
    have AS2 : Aside (R = none) := by have := AS'.out; rw [hcb2] at this; exact this.symm
    clear AS'
    go_wp2_with (go_at_call 21; (with_reducible refine HN1.out.mono ?_); rintro e w2 ⟨rfl, hb2⟩)
    go_ret2
    rw [AS2.out]
    exact ⟨AB.out.1.trans (hb2.mono AB.out.1.size), rfl⟩
  ·obtain rfl : k = vs.length := by omega
   have AS2 : Aside (R = some acc) := by have := AS.out; rw [List.drop_length] at this; exact this.symm
   clear AS
   go_wp2_with fail
   go_ret2
   rw [AS2.out]
   exact ⟨AB.out.1, _, rfl, AB.out.2⟩
def SetT (w : World) (m : Nat) (xs : LL) : Prop := ∃ es c, MapS w m es c (xs.map fun x => (x, .agg #[]))
theorem SetT.lt {w : World} {m : Nat} {xs : LL} (h : SetT w m xs) : m < w.heap.size := by
 obtain ⟨es, c, h1⟩ := h
 exact h1.lt
theorem SetT.below {w w' : World} {m : Nat} {xs : LL} (h : SetT w m xs) (hb : Below w.heap.size w w') : SetT w' m xs := by
 obtain ⟨es, c, h1⟩ := h
 exact ⟨es, c, h1.keep (hb.block m h1.lt)⟩
theorem SetT.made (w : World) : SetT (w.alloc (.map #[] 0)) w.heap.size [] := ⟨_, _, MapS.made w⟩
theorem setT_ask {w : World} {m : Nat} {xs : LL} (h : SetT w m xs) (x : LU) :
  (Instr.lookup 71 (.map (some m)) (.string ⟨x.toArray⟩) true).run Tryz.prog w = .ok (.tuple #[.agg #[], .bool (xs.contains x)]) w := by
 obtain ⟨es, c, h1⟩ := h
 have hz : ∀ w, (zeroValue 72).run Tryz.prog w = .ok (.agg #[]) w := fun w => by kernel_rfl
 have := h1.ask (k := x) Tryz.underlying71 hz
 rw [look_map] at this
 unfold strV at this
 rw [this]
 by_cases hx : x ∈ xs
 ·rw [if_pos hx, List.contains_iff_mem.2 hx]; rfl
 ·have : xs.contains x = false := by
   cases hc : xs.contains x with
   | false => rfl
   | true => exact absurd (List.contains_iff_mem.1 hc) hx
  rw [if_neg hx, this]; rfl
theorem setT_put {w : World} {m : Nat} {xs : LL} (h : SetT w m xs) (x : LU) (hn : xs.contains x = false) :
  ∃ W, (Instr.mapUpdate 71 (.map (some m)) (.string ⟨x.toArray⟩) (.agg #[])).run Tryz.prog w = .ok () W ∧ SetT W m (xs ++ [x]) ∧ w.grownBy W (some m) := by
 obtain ⟨es, c, h1⟩ := h
 have hl : look (xs.map fun x => (x, Value.agg #[])) x = none := by
  rw [look_map]
  by_cases hx : x ∈ xs
  ·rw [List.contains_iff_mem.2 hx] at hn; cases hn
  ·rw [if_neg hx]
 have hp := h1.put x (.agg #[])
 rw [show (xs.map fun x => (x, Value.agg #[])) ++ [(x, Value.agg #[])] = (xs ++ [x]).map fun x => (x, Value.agg #[]) by rw [List.map_append]; rfl] at hp
 exact ⟨_, h1.update Tryz.underlying71 (.agg #[]) hl, ⟨_, _, hp⟩, setMap_grown _ _ _ _⟩
def twiceG : LL → LL → Bool
 | _, [] => false
 | seen, x :: l => seen.contains x || twiceG (seen ++ [x]) l
theorem twiceG_eq : ∀ (l seen : LL), twiceG seen l = (l.any seen.contains || Ent.twiceE l)
 | [], seen => by simp [twiceG, Ent.twiceE]
 | x :: l, seen => by
  rw [twiceG, twiceG_eq l (seen ++ [x]), Ent.twiceE, List.any_cons]
  have h : (l.any fun y => (seen ++ [x]).contains y) = (l.any seen.contains || l.contains x) := by
   rw [Bool.eq_iff_iff]
   simp only [List.any_eq_true, Bool.or_eq_true, List.contains_iff_mem, List.mem_append, List.mem_singleton]
   constructor
   ·rintro ⟨y, hy, h | rfl⟩
    ·exact .inl ⟨y, hy, h⟩
    ·exact .inr hy
   ·rintro (⟨y, hy, h⟩ | h)
    ·exact ⟨y, hy, .inl h⟩
    ·exact ⟨x, h, .inr rfl⟩
  show (seen.contains x || ((l.any fun y => (seen ++ [x]).contains y) || Ent.twiceE l)) = _
  rw [h]
  cases seen.contains x <;> cases l.any seen.contains <;> cases l.contains x <;> cases Ent.twiceE l <;> rfl
theorem twice_c (xs : LL) (v : Value) (w : World) (hv : TextsA w v xs) (hl : xs.length ≤ 1000000) :
  Calls Tryz.prog 76 #[v] w fun e w' => e = .returned (.bool (Ent.twiceE xs)) ∧ Below w.heap.size w w' := by
 obtain ⟨R, hR⟩ : ∃ R, Ent.twiceE xs = R := ⟨_, rfl⟩
 have hR0 : twiceG [] xs = R := by rw [twiceG_eq, ← hR]; simp
 rw [hR]
 obtain ⟨A, c, rfl, hc, hcell⟩ := hv.at
 have HV := hiD hcell
 have HR := hiD hR0
 clear hv hcell hR hR0
 have hb0 : Below w.heap.size w (w.alloc (.map #[] 0)) := (Below.refl _ _).alloc (Nat.le_refl _) _
 have hs0 := SetT.made w
 have hmm := @run_makeMap Tryz.prog
 go_enter Tryz.func76, Tryz.ntmps76
 go_wp2_with fail
 go_loopg [11] xs.length (fun gk i wr => ∃ k : Nat, k ≤ xs.length ∧ i = .int .i64 k ∧ Aside (k + gk = xs.length) ∧ Aside (Below w.heap.size w wr ∧ SetT wr w.heap.size (xs.take k)) ∧ Aside (twiceG (xs.take k) (xs.drop k) = R))
 case atStart => exact ⟨0, by omega, rfl, by show _ = _; omega, ⟨hb0, hs0⟩, HR.out⟩
 case round =>
  clear HR hb0 hs0
  obtain ⟨k, hk, rfl, AG, AB, AS⟩ := hrel
  by_cases hlt : k < xs.length
  ·obtain ⟨q, rfl⟩ : ∃ q, gk = q + 1 := ⟨gk - 1, by have := AG.out; omega⟩
   obtain ⟨a, rfl, c0⟩ := HV.out k hlt
   have AS' : Aside (((xs.take k).contains xs[k] || twiceG (xs.take k ++ [xs[k]]) (xs.drop (k + 1))) = R) := by have := AS.out; rw [List.drop_eq_getElem_cons hlt] at this; exact this
   have htk : xs.take k ++ [xs[k]] = xs.take (k + 1) := (List.take_succ_eq_append_getElem hlt).symm
   have d0 := (AB.out.1.cell (cell_lt c0)).trans c0
   have hask := setT_ask AB.out.2 xs[k]
   have hbx : Below wr.heap.size wr (wr.alloc (.cells #[] 72)) := (Below.refl _ _).alloc (Nat.le_refl _) _
   have hBx := AB.out.1.trans (hbx.mono AB.out.1.size)
   clear AS c0
   cases hcn : (xs.take k).contains xs[k]
   ·obtain ⟨W1, hup, hs1, hg1⟩ := setT_put (AB.out.2.below hbx) xs[k] hcn
    rw [hcn] at hask AS'
    rw [htk] at hs1 AS'
    have AS2 : Aside (twiceG (xs.take (k + 1)) (xs.drop (k + 1)) = R) := (by have := AS'.out; simpa using this : twiceG (xs.take (k + 1)) (xs.drop (k + 1)) = R)
    have hB1 := hBx.grown hg1 hBx.size (fun k hk => by cases hk; exact Nat.le_refl _)
    have HS1 := hiD hs1
    clear AS' hcn htk hs1 hg1
    generalize xs[k] = x at *
    go_wp2_with fail
    go_roundg q
    case measure => omega
    case rel => exact ⟨k + 1, by omega, by go_num, by have := AG.out; show _ = _; omega, ⟨hB1, HS1.out⟩, AS2.out⟩
   ·rw [hcn] at hask AS'
    have AS2 : Aside (R = true) := (by have := AS'.out; simpa using this.symm : R = true)
    clear AS' hcn htk
    generalize xs[k] = x at *
    go_wp2_with fail
    go_ret
    exact ⟨retb AS2.out.symm, hBx⟩
  ·obtain rfl : k = xs.length := by omega
   have AS2 : Aside (R = false) := by have := AS.out; rw [List.drop_length] at this; exact this.symm
   clear AS
   go_wp2_with fail
   go_ret
   exact ⟨retb AS2.out.symm, AB.out.1⟩
def entryArg (e : Ent.EntryE) (va : Value) : Value := .agg #[.string ⟨e.dn.toArray⟩, va]
def findF (f : LU → Bool) : List Ent.AttrE → LL → LL
 | [], acc => acc
 | a :: l, acc => if f a.typ then findF f l (acc ++ a.vals) else findF f l acc
theorem findF_eq (S : Ent.SchE) (dn t : LU) : ∀ (l : List Ent.AttrE) (acc : LL), findF (fun x => S.sub x t) l acc = acc ++ Ent.findE S ⟨dn, l⟩ t
 | [], acc => by simp [findF, Ent.findE]
 | a :: l, acc => by
  have e : Ent.findE S ⟨dn, a :: l⟩ t = (if S.sub a.typ t then a.vals else []) ++ Ent.findE S ⟨dn, l⟩ t := by
   unfold Ent.findE
   rw [List.flatMap_cons]
  rw [findF, findF_eq S dn t l, findF_eq S dn t l, e]
  split <;> simp
def valsN (l : List Ent.AttrE) : Nat := (l.map fun a => a.vals.length).sum
theorem valsN_cons (a : Ent.AttrE) (l : List Ent.AttrE) : valsN (a :: l) = a.vals.length + valsN l := by simp [valsN]
theorem Find_c (s : Nat) (ps : List Nat) (L : List DefS) (hL : Sound L) (en : Ent.EntryE) (va : Value) (t : LU) (w : World) (hS : SchAt w s ps L) (hv : AttrsA w va en.attrs) (hl : en.attrs.length ≤ 1000) (hvn : valsN en.attrs ≤ 1000000) (hlt : ∀ a ∈ en.attrs, a.typ.length ≤ 1000000) (ht : t.length ≤ 1000000) :
  Calls Tryz.prog 43 #[.pointer (some ⟨s, 0, none⟩), entryArg en va, .string ⟨t.toArray⟩] w fun e w' => ∃ v, e = .returned v ∧ Own w.heap.size w' v (Ent.findE (schE L) en t) ∧ Below w.heap.size w w' := by
 obtain ⟨R, hR⟩ : ∃ R, Ent.findE (schE L) en t = R := ⟨_, rfl⟩
 obtain ⟨dn, attrs⟩ := en
 have hR0 : findF (fun x => isSubD L x t) attrs [] = R := by
  have := findF_eq (schE L) dn t attrs []
  rw [hR] at this
  have h2 : findF (fun x => (schE L).sub x t) attrs [] = R := by simpa using this
  exact h2
 rw [hR]
 unfold entryArg
 simp only at hv hl hvn hlt ⊢
 have HI : Hid (∀ a ∈ attrs, ∀ W : World, Below w.heap.size w W → Calls Tryz.prog 86 #[.pointer (some ⟨s, 0, none⟩), .string ⟨a.typ.toArray⟩, .string ⟨t.toArray⟩] W fun e w' => e = .returned (.bool (isSubD L a.typ t)) ∧ Below W.heap.size W w') := hiD fun a ha W h => IsSub_c s ps L a.typ t W (hS.below h) hL.lim (by have := hL.says.len; omega) hL.says.sup_known (hlt a ha) ht
 obtain ⟨A, c, rfl, hc, hcell⟩ := hv.at
 have HV := hiD hcell
 have HR := hiD hR0
 clear hv hcell hS hL hR hR0 hlt ht
 obtain ⟨na, hna⟩ : ∃ n, n = attrs.length := ⟨_, rfl⟩
 have hb0 : Below w.heap.size w (w.alloc (.cells #[.string ⟨dn.toArray⟩, .slice A attrs.length c] 37)) := (Below.refl _ _).alloc (Nat.le_refl _) _
 go_enter Tryz.func43, Tryz.ntmps43
 go_wp2_with fail
 go_loopg [7, 13] attrs.length (fun gk out i wr => ∃ (k : Nat) (acc : LL), k ≤ attrs.length ∧ i = .int .i64 k ∧ Aside (k + gk = attrs.length) ∧ Aside (acc.length + valsN (attrs.drop k) ≤ 1000000) ∧ Aside (Below w.heap.size w wr ∧ Own w.heap.size wr out acc) ∧ Aside (findF (fun x => isSubD L x t) (attrs.drop k) acc = R))
 case atStart => exact ⟨0, [], by omega, rfl, by show _ = _; omega, by show _ ≤ _; simpa using hvn, ⟨hb0, Own.nil hb0.size⟩, HR.out⟩
 case round =>
  clear HR hb0
  obtain ⟨k, acc, hk, rfl, AG, AC, AB, AS⟩ := hrel
  obtain ⟨Ao, co, rfl, hco⟩ := AB.out.2.isSlice
  by_cases hlt : k < attrs.length
  ·obtain ⟨q, rfl⟩ : ∃ q, gk = q + 1 := ⟨gk - 1, by have := AG.out; omega⟩
   obtain ⟨b, o, va, rfl, c0, c1, hta⟩ := HV.out k hlt
   have HMEM := hiD (List.getElem_mem hlt)
   have AS' : Aside ((if isSubD L attrs[k].typ t then findF (fun x => isSubD L x t) (attrs.drop (k + 1)) (acc ++ attrs[k].vals) else findF (fun x => isSubD L x t) (attrs.drop (k + 1)) acc) = R) := by have := AS.out; rw [List.drop_eq_getElem_cons hlt] at this; exact this
   have hcnt : acc.length + (attrs[k].vals.length + valsN (attrs.drop (k + 1))) ≤ 1000000 := by have := AC.out; rw [List.drop_eq_getElem_cons hlt, valsN_cons] at this; exact this
   have d0 := (AB.out.1.cell (cell_lt c0)).trans c0
   have d1 := (AB.out.1.cell (cell_lt c1)).trans c1
   have hadd := add_at2
   clear AS c0 c1 AC
   generalize attrs[k] = x at *
   obtain ⟨typ, vals⟩ := x
   simp only at AS' hcnt d0 hta
   obtain ⟨Av, nv, cv, rfl⟩ : ∃ A n c, va = .slice A n c := by
    obtain ⟨A, c, h, _⟩ := hta.at
    exact ⟨A, _, c, h⟩
   have hbx : Below wr.heap.size wr (wr.alloc (.cells #[.string ⟨typ.toArray⟩, .slice Av nv cv] 46)) := (Below.refl _ _).alloc (Nat.le_refl _) _
   have hBx := AB.out.1.trans (hbx.mono AB.out.1.size)
   have hkx : Bk (wr.alloc (.cells #[.string ⟨typ.toArray⟩, .slice Av nv cv] 46)) wr.heap.size 46 #[.string ⟨typ.toArray⟩, .slice Av nv cv] := Bk.new wr _ _
   have hO1 := AB.out.2.below hbx
   have HI1 := hiD (HI.out ⟨typ, vals⟩ HMEM.out _ hBx)
   have HTA := hiD (hta.below hBx)
   clear hta HMEM
   simp only at HI1
   cases hsub : isSubD L typ t
   ·rw [hsub] at HI1 AS'
    simp only [Bool.false_eq_true, if_false] at AS'
    clear hsub
    go_wp2_with (go_at_call 86; (with_reducible refine HI1.out.mono ?_); rintro e w2 ⟨rfl, hb2⟩)
    go_roundg q
    case measure => omega
    case rel => exact ⟨k + 1, acc, by omega, by go_num, by have := AG.out; show _ = _; omega, by show _ ≤ _; omega, ⟨hBx.trans (hb2.mono hBx.size), hO1.below hb2⟩, AS'.out⟩
   ·rw [hsub] at HI1 AS'
    simp only [if_true] at AS'
    clear hsub
    go_wp2_with (first | (go_at_call 86; (with_reducible refine HI1.out.mono ?_); rintro e w2 ⟨rfl, hb2⟩; have hO2 := hO1.below hb2; have hB2 := hBx.trans (hb2.mono hBx.size); have hT2 := HTA.out.below hb2; have e1 : w2.cell? ⟨wr.heap.size, 1, none⟩ = some (.slice Av nv cv) := (hkx.below hb2).cell 1) | (at_builtin; refine own_moreA rfl _ _ rfl rfl hO2 rfl hT2 (by omega) ?_; intro v' w4 hO4 hg4))
    go_roundg q
    case measure => omega
    case rel => exact ⟨k + 1, acc ++ vals, by omega, by go_num, by have := AG.out; show _ = _; omega, by show _ ≤ _; rw [List.length_append]; omega, ⟨Own.bel hB2 hO2 hg4, hO4⟩, AS'.out⟩
  ·obtain rfl : k = attrs.length := by omega
   have AS2 : Aside (R = acc) := by have := AS.out; rw [List.drop_length] at this; exact this.symm
   clear AS
   go_wp2_with fail
   go_ret
   rw [AS2.out]
   exact ⟨_, rfl, AB.out.2, AB.out.1⟩
end Go.Proofs.YtkkbbhlihilnpaaGreatDoor
