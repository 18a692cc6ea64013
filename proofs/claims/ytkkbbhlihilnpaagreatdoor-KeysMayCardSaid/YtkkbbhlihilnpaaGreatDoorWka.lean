import Derived.Test.YtkkbbhlihilnpaaGreatDoorWk9
set_option linter.all false
set_option maxHeartbeats 8000000
set_option maxRecDepth 100000
namespace Go.Proofs.YtkkbbhlihilnpaaGreatDoor
open Go.RowKit
set_option maxRecDepth 100000 in
theorem CompactT_c (p : List (List UInt8)) (B : Nat) (v : Value) (w : World) (h : Own B w v p) (hn : ∀ i (hi : i + 1 < p.length), p[i + 1] ≠ p[i]) (hl : p.length ≤ 1000000) :
  Calls Tryz.prog 69 #[v] w fun e w' => e = .returned v ∧ Below w.heap.size w w' := by
 have HN := Lib.hid hn
 obtain ⟨A, c, rfl, hc, hcell⟩ : ∃ A c, v = .slice A p.length c ∧ p.length ≤ c ∧ ∀ j (hj : j < p.length), ∃ g, A = some ⟨g, 0, none⟩ ∧ w.cell? ⟨g, j, none⟩ = some (.string ⟨p[j].toArray⟩) := by
  rcases h.row with ⟨rfl, rfl⟩ | ⟨g, c, rfl, hc, _⟩
  ·exact ⟨none, 0, rfl, Nat.le_refl _, fun j hj => by simp at hj⟩
  ·refine ⟨_, c, rfl, hc, fun j hj => ⟨g, rfl, ?_⟩⟩
   rcases h.textsA with ⟨h0, _⟩ | ⟨a, c', he, _, hx⟩
   ·cases h0
    exact absurd hj (by simp)
   ·cases he
    have := hx j hj
    rw [add_at2, Nat.zero_add] at this
    exact this
 have HX := Lib.hid hcell
 clear hcell h hn
 by_cases h2 : p.length < 2
 ·go_enter Tryz.func69, Tryz.ntmps69
  go_wp2_with fail
  go_ret
  exact ⟨rfl, Below.refl _ _⟩
 ·go_enter Tryz.func69, Tryz.ntmps69
  go_wp2_with fail
  go_loopg [3] p.length (fun gk i wr => ∃ m : Nat, m + 1 ≤ p.length ∧ i = .int .i64 ((m : Int) + 1) ∧ Aside (m + 1 + gk = p.length + 1) ∧ Below w.heap.size w wr)
  case atStart => exact ⟨0, by omega, rfl, by show _ = _; omega, Below.refl _ _⟩
  case round =>
   obtain ⟨m, hk, rfl, AG, hB⟩ := hrel
   by_cases hlt : m + 1 < p.length
   ·obtain ⟨q, rfl⟩ : ∃ q, gk = q + 1 := ⟨gk - 1, by have := AG.out; omega⟩
    obtain ⟨a, rfl, c0⟩ := HX.out (m + 1) hlt
    obtain ⟨a', ha, c1⟩ := HX.out m (by omega)
    cases ha
    have hne := HN.out m hlt
    have x0 := (hB.cell (cell_lt c0)).trans c0
    have x1 := (hB.cell (cell_lt c1)).trans c1
    have hk0 : (0 : Int) ≤ (m : Int) + 1 := by omega
    have hk1 : (m : Int) + 1 < (p.length : Int) := by omega
    have hk2 : (0 : Int) ≤ (m : Int) := by omega
    have hk3 : (m : Int) < (p.length : Int) := by omega
    have hk4 : ((m : Int) + 1).toNat = m + 1 := by omega
    have hk5 : IntKind.i64.wrap ((m : Int) + 1 - 1) = (m : Int) := by rw [IntWalk.i64_in _ (by omega)]; omega
    clear c0 c1
    generalize p[m + 1] = s1 at *
    generalize p[m] = s2 at *
    go_wp2_with fail
    go_quiet (fail)
    have hbe : (s1 == s2) = false := beq_eq_false_iff_ne.2 hne
    clear hk5
    rw [hbe]
    go_wp2_with fail
    go_roundg q
    case measure => omega
    case rel => exact ⟨m + 1, by omega, by go_num, by have := AG.out; show _ = _; omega, below_drewN hB nq⟩
   ·have hm : m + 1 = p.length := by omega
    have hkk : ¬ ((m : Int) + 1 < (p.length : Int)) := by omega
    go_wp2_with fail
    go_ret
    exact ⟨rfl, hB⟩
structure OfJ (w wr : World) (p9 p10 : Nat) (dn : List UInt8) (va : Value) (t : List UInt8) (C : Array Value) : Prop where
 bel : Below w.heap.size w wr
 b5 : Bk wr w.heap.size 37 #[.string ⟨dn.toArray⟩, va]
 b9 : Bk wr p9 66 #[.string ⟨t.toArray⟩, .bool true, .bool true, .bool true]
 b10 : Bk wr p10 41 C
theorem OfJ.below {w wr W : World} {p9 p10 : Nat} {dn : List UInt8} {va : Value} {t : List UInt8} {C : Array Value} (h : OfJ w wr p9 p10 dn va t C) (hb : Below wr.heap.size wr W) : OfJ w W p9 p10 dn va t C := ⟨h.bel.trans (hb.mono h.bel.size), h.b5.below hb, h.b9.below hb, h.b10.below hb⟩
theorem OfJ.owned {w wr W : World} {p9 p10 : Nat} {dn : List UInt8} {va : Value} {t : List UInt8} {C : Array Value} {v : Value} {xs : List (List UInt8)} (h : OfJ w wr p9 p10 dn va t C) (hO : Own w.heap.size wr v xs) (hg : wr.grownBy W v.ownBlock) : OfJ w W p9 p10 dn va t C := by
 have ne : ∀ {k : Nat} {T : TypeId} {cs : Array Value}, Bk wr k T cs → T ≠ 9 → some k ≠ v.ownBlock := fun hk hT e => hO.apart hk hT _ e.symm rfl
 exact ⟨h.bel.grown hg hO.2 (fun k hk => (hO.lt k hk).1), h.b5.grown hg (ne h.b5 (by decide)), h.b9.grown hg (ne h.b9 (by decide)), h.b10.grown hg (ne h.b10 (by decide))⟩
open Go.RowKit
def rawK (T X : List UInt8) (gs : List Gram) : List (List UInt8) := keyP T :: keyE T X :: gs.map (keyG T)
theorem rawK_take (T X : List UInt8) (gs : List Gram) (j : Nat) (h : j < gs.length) : rawK T X (gs.take (j + 1)) = rawK T X (gs.take j) ++ [keyG T gs[j]] := by
 unfold rawK
 rw [List.take_succ_eq_append_getElem h, List.map_append]
 rfl
theorem nodup_next6 {α : Type} {l : List α} (h : l.Nodup) {i : Nat} (hi : i + 1 < l.length) : l[i + 1] ≠ l[i] := by
 rw [List.nodup_iff_pairwise_ne, List.pairwise_iff_getElem] at h
 exact fun e => h i (i + 1) (by omega) hi (by omega) e.symm
theorem texts_one6 {W : World} {g : Nat} {x : List UInt8} (h : Bk W g 9 #[.string ⟨x.toArray⟩]) : TextsA W (.slice (some ⟨g, 0, none⟩) 1 1) [x] := by
 refine .inr ⟨⟨g, 0, none⟩, 1, rfl, Nat.le_refl _, fun j hj => ?_⟩
 have hj0 : j = 0 := by simpa using hj
 subst hj0
 exact h.cell 0
theorem OwnG.past {B B' : Nat} {w w' : World} {v u : Value} {l : List Gram} {xs : List (List UInt8)} (h : OwnG B w v l) (hO : Own B' w u xs) (hg : w.grownBy w' u.ownBlock) : OwnG B w' v l := by
 refine h.keep2 hg fun k hk e => ?_
 obtain ⟨⟨_, h2⟩, _⟩ := h
 rcases h2 with ⟨rfl, _⟩ | ⟨g, cap, cur, rfl, r2, r3, r4⟩
 ·cases hk
 ·cases hk
  exact hO.apart (show Bk w g 111 cur from r3) (by decide) g e rfl
set_option maxRecDepth 100000 in
theorem of1_c (s : Nat) (ps : List Nat) (L : List DefS) (hL : Sound L) (d : AttrS) (t x : List UInt8) (en : Ent.EntryE) (va : Value) (bi : Nat) (w : World) (hw : Env w) (hS : SchAt w s ps L) (hv : AttrsA w va en.attrs)
  (hI : Bk w bi 66 #[.string ⟨t.toArray⟩, .bool true, .bool true, .bool true]) (hd : attrO L t = d) (hc : attrC L t = 0) (hf : Ent.findE (schE L) en t = [x]) (n1 n2 T : List UInt8) (gs : List Gram)
  (he : normE d.eqr x = (0, n1)) (hp : normE (baseR d.subs) x = (0, n2)) (hs : d.subs ≠ []) (hT : smallL d.name = T) (hg : gramsT [] [94 :: (n2 ++ [36])] = gs)
  (hl : en.attrs.length ≤ 1000) (hvn : valsN en.attrs ≤ 1000000) (hlt : ∀ a ∈ en.attrs, a.typ.length ≤ 1000000) (ht : t.length ≤ 1000000) (hdn : d.name.length ≤ 1000000) (hde : d.eqr.length ≤ 1000000) (hds : d.subs.length ≤ 1000000) (hn1 : n1.length ≤ 1000000) (hn2 : n2.length ≤ 1000000) (hgl : gs.length ≤ 10) (hnd : ∀ X, (rawK T X gs).Nodup) :
  Calls Tryz.prog 29 #[.pointer (some ⟨s, 0, none⟩), .slice (some ⟨bi, 0, none⟩) 1 1, .agg #[.string ⟨en.dn.toArray⟩, va]] w fun e w' => ∃ X v, e = .returned v ∧ Own w.heap.size w' v (sortT (rawK T X gs)).toList ∧ Below w.heap.size w w' := by
 have hTl : T.length ≤ 1000000 := by rw [← hT]; unfold smallL; simpa using hdn
 have HA : Hid (∀ W, Below w.heap.size w W → Calls Tryz.prog 20 #[.pointer (some ⟨s, 0, none⟩), .string ⟨t.toArray⟩] W fun e w' => Below W.heap.size W w' ∧ ∃ A n c, e = .returned (.tuple #[.agg (adC d A n c), .int .i64 0])) := Lib.hid fun W h => by
  have := AttrU_c s ps L hL t W (hS.below h) (by omega)
  rw [hd, hc] at this
  exact this
 have HSm : Hid (∀ W, Calls Tryz.prog 61 #[.string ⟨d.name.toArray⟩] W fun e w' => e = .returned (.string ⟨T.toArray⟩) ∧ Below W.heap.size W w') := Lib.hid fun W => by
  have := Small_c d.name W (by omega)
  rw [hT] at this
  exact this
 have HF : Hid (∀ W, Below w.heap.size w W → Calls Tryz.prog 43 #[.pointer (some ⟨s, 0, none⟩), .agg #[.string ⟨en.dn.toArray⟩, va], .string ⟨t.toArray⟩] W fun e w' => ∃ g c, e = .returned (.slice (some ⟨g, 0, none⟩) 1 c) ∧ w'.cell? ⟨g, 0, none⟩ = some (.string ⟨x.toArray⟩) ∧ Below W.heap.size W w') := Lib.hid fun W h => by
  have := Find_c s ps L hL en va t W (hS.below h) (hv.below h) hl hvn hlt ht
  rw [hf] at this
  refine this.mono ?_
  rintro e w' ⟨v, rfl, hO, hb⟩
  rcases hO.row with ⟨_, h0⟩ | ⟨g, c, rfl, _, _, _, hr⟩
  ·cases h0
  ·rcases hO.textsA with ⟨_, h0⟩ | ⟨a, c', he', _, hx⟩
   ·cases h0
   ·have h0 := hx 0 (by simp)
    cases he'
    exact ⟨g, _, rfl, by simpa [Addr.add] using h0, hb⟩
 have HP := Lib.hid (fun W => presentKey_c T W (by omega))
 have HE1 : Hid (∀ W, Below w.heap.size w W → Calls Tryz.prog 41 #[.string ⟨d.eqr.toArray⟩, .string ⟨x.toArray⟩] W fun e w' => e = .returned (.tuple #[.string ⟨n1.toArray⟩, .int .i64 0]) ∧ Below W.heap.size W w') := Lib.hid fun W h => by
  have := Norm_c d.eqr x W (hw.keep h) (by omega)
  rw [normV_eq, he] at this
  exact this
 have HE2 : Hid (∀ W, Below w.heap.size w W → Calls Tryz.prog 41 #[.string ⟨(baseR d.subs).toArray⟩, .string ⟨x.toArray⟩] W fun e w' => e = .returned (.tuple #[.string ⟨n2.toArray⟩, .int .i64 0]) ∧ Below W.heap.size W w') := Lib.hid fun W h => by
  have hbl : (baseR d.subs).length ≤ 1000005 := by
   unfold baseR Lib.trimSuffix
   split
   ·simp only [List.length_append, List.length_take, List.length_cons, List.length_nil]; omega
   ·simp only [List.length_append, List.length_cons, List.length_nil]; omega
  have := Norm_c (baseR d.subs) x W (hw.keep h) (by omega)
  rw [normV_eq, hp] at this
  exact this
 have HEK := Lib.hid (fun W => equalKey_c T n1 W (by omega) (by omega))
 have HB := Lib.hid (fun W => baseR_c d.subs W (by omega))
 have HG : Hid (∀ W (v : Value), TextsA W v [94 :: (n2 ++ [36])] → Calls Tryz.prog 65 #[v] W fun e w' => ∃ v', e = .returned v' ∧ OwnG W.heap.size w' v' gs ∧ Below W.heap.size W w') := Lib.hid fun W v h => by
  have := grams_c [94 :: (n2 ++ [36])] v W h (by simp) (by simp; omega)
  rw [hg] at this
  exact this
 have HPK := Lib.hid (fun (g : Gram) W => pieceKey_c T g W (by omega))
 have hcat1 : ∀ W, (Op.stringOp .add ⟨#[94]⟩ ⟨n2.toArray⟩).run Tryz.prog W = .ok (.string ⟨(94 :: n2).toArray⟩) W := fun W => run_string_add_lists (P := Tryz.prog) W [94] n2 (by simp) (by omega)
 have hcat2 : ∀ W, (Op.stringOp .add ⟨(94 :: n2).toArray⟩ ⟨#[36]⟩).run Tryz.prog W = .ok (.string ⟨(94 :: (n2 ++ [36])).toArray⟩) W := fun W => run_string_add_lists (P := Tryz.prog) W (94 :: n2) [36] (by simp; omega) (by simp)
 have hse : (!d.subs.isEmpty) = true := by
  cases h : d.subs with
  | nil => exact absurd h hs
  | cons a b => rfl
 obtain ⟨dn, attrs⟩ := en
 simp only at *
 clear hL hS hv hw hf hd hc he hp hT hg hlt hs
 have hb0 := bel_one w (.cells #[.string ⟨dn.toArray⟩, va] 37)
 have hk0 := Bk.new w 37 #[.string ⟨dn.toArray⟩, va]
 have hI0 := hI.below hb0
 go_enter Tryz.func29, Tryz.ntmps29
 go_wp2_with fail
 generalize w.alloc (.cells #[.string ⟨dn.toArray⟩, va] 37) = W0 at *
 go_loopg [7, 23] 1 (fun gk out i wr => ∃ k : Nat, k ≤ 1 ∧ i = .int .i64 (k : Int) ∧ Aside (k + gk = 1) ∧ (k = 0 → wr = W0 ∧ out = .slice none 0 0) ∧ (k = 1 → ∃ X, Own w.heap.size wr out (rawK T X gs) ∧ Below w.heap.size w wr))
 case atStart => exact ⟨0, by omega, rfl, by show _ = _; omega, fun _ => ⟨rfl, rfl⟩, fun h => by cases h⟩
 case round =>
  obtain ⟨k, hk, rfl, AG, h0, h1⟩ := hrel
  by_cases hlt : k < 1
  ·obtain rfl : k = 0 := by omega
   obtain ⟨rfl, rfl⟩ := h0 rfl
   clear h0 h1
   obtain ⟨q, rfl⟩ : ∃ q, gk = q + 1 := ⟨gk - 1, by have := AG.out; omega⟩
   have i0 := hI0.cell 0
   have i1 := hI0.cell 1
   have i2 := hI0.cell 2
   have i3 := hI0.cell 3
   simp only [List.getElem?_toArray, List.getElem?_cons_zero, List.getElem?_cons_succ] at i0 i1 i2 i3
   have hB0 := hb0
   have hK0 := hk0
   have hbi := bel_one wr (.cells #[.string ⟨t.toArray⟩, .bool true, .bool true, .bool true] 66)
   have hki := Bk.new wr 66 #[.string ⟨t.toArray⟩, .bool true, .bool true, .bool true]
   have hBi := hb0.trans (hbi.mono hb0.size)
   have hK1 := hk0.below hbi
   have y0 := hki.cell 0
   simp only [List.getElem?_toArray, List.getElem?_cons_zero, List.getElem?_cons_succ] at y0
   go_wp2_with (first
    | (go_at_call 20; (with_reducible refine (HA.out _ hBi).mono ?_); rintro e w2 ⟨hb2, Ad, nd, cd, rfl⟩; have hb3 := bel_one w2 (.cells (adC d Ad nd cd) 41); have hk3 := Bk.new w2 41 (adC d Ad nd cd); have hB3 := hBi.trans ((hb2.trans (hb3.mono hb2.size)).mono hBi.size); have J3 : OfJ w (w2.alloc (.cells (adC d Ad nd cd) 41)) wr.heap.size w2.heap.size dn va t (adC d Ad nd cd) := ⟨hB3, (hK1.below hb2).below hb3, (hki.below hb2).below hb3, hk3⟩; have z1 := hk3.cell 1; simp only [List.getElem?_toArray, List.getElem?_cons_zero, List.getElem?_cons_succ] at z1)
    | (go_at_call 61; (with_reducible refine (HSm.out _).mono ?_); rintro e w4 ⟨rfl, hb4⟩; have J4 := J3.below hb4; have e0 := J4.b5.cell 0; have e1 := J4.b5.cell 1; have e2 := J4.b9.cell 0; simp only [List.getElem?_toArray, List.getElem?_cons_zero, List.getElem?_cons_succ] at e0 e1 e2)
    | (go_at_call 43; (with_reducible refine (HF.out _ J4.bel).mono ?_); rintro e wf ⟨gf, cf, rfl, hxf, hb5⟩; have JF := J4.below hb5))
   clear hb0 hk0 hI0 hI i0 i1 i2 i3 hB0 hK0 hbi hki hBi hK1 y0 hb2 hb3 hk3 hB3 J3 z1 hb4 J4 e0 e1 e2 HA HSm HF hb5
   go_loopg [7, 45] 1 (fun gk out i wr2 => ∃ k : Nat, k ≤ 1 ∧ i = .int .i64 (k : Int) ∧ Aside (k + gk = 1) ∧ (k = 0 → wr2 = wf ∧ out = .slice none 0 0) ∧ (k = 1 → ∃ X, Own w.heap.size wr2 out (rawK T X gs) ∧ Below w.heap.size w wr2))
   case atStart => exact ⟨0, by omega, rfl, by show _ = _; omega, fun _ => ⟨rfl, rfl⟩, fun h => by cases h⟩
   case round =>
    obtain ⟨k2, hk2, rfl, AG2, h0, h1⟩ := hrel
    by_cases hlt2 : k2 < 1
    ·obtain rfl : k2 = 0 := by omega
     obtain ⟨rfl, rfl⟩ := h0 rfl
     clear h0 h1
     obtain ⟨q2, rfl⟩ : ∃ q, gk = q + 1 := ⟨gk - 1, by have := AG2.out; omega⟩
     have f2 := JF.b9.cell 2
     simp only [List.getElem?_toArray, List.getElem?_cons_zero, List.getElem?_cons_succ] at f2
     have hO0 := Own.nil (B := w.heap.size) (w := wr) JF.bel.size
     go_wp2_with (first
      | (go_at_call 62; (with_reducible refine (HP.out _).mono ?_); rintro e w5 ⟨rfl, rfl⟩)
      | (at_builtin; refine own_one (c := keyP T) rfl _ _ rfl rfl hO0 rfl rfl (by simp) ?_; intro v6 w6 hO6 hg6; have J6 := JF.owned hO0 hg6; have d5 := J6.b10.cell 5; simp only [List.getElem?_toArray, List.getElem?_cons_zero, List.getElem?_cons_succ] at d5)
      | (go_at_call 41; (with_reducible refine (HE1.out _ J6.bel).mono ?_); rintro e w7 ⟨rfl, hb7⟩; have J7 := J6.below hb7; have hO7 := hO6.below hb7; have f1 := J7.b9.cell 1; simp only [List.getElem?_toArray, List.getElem?_cons_zero, List.getElem?_cons_succ] at f1)
      | (go_at_call 63; (with_reducible refine (HEK.out _).mono ?_); rintro e w8 ⟨X, hX, rfl, hb8⟩; have J8 := J7.below hb8; have hO8 := hO7.below hb8)
      | (at_builtin; refine own_one (c := keyE T X) rfl _ _ rfl rfl hO8 rfl rfl (by simp) ?_; intro v9 w9 hO9 hg9; have J9 := J8.owned hO8 hg9; have d7 := J9.b10.cell 7; simp only [List.getElem?_toArray, List.getElem?_cons_zero, List.getElem?_cons_succ] at d7)
      | (go_at_call 64; (with_reducible refine (HB.out _).mono ?_); rintro e w5 ⟨rfl, rfl⟩)
      | (go_at_call 41; (with_reducible refine (HE2.out _ J9.bel).mono ?_); rintro e w10 ⟨rfl, hb10⟩; have J10 := J9.below hb10; have hO10 := hO9.below hb10; have f3 := J10.b9.cell 3; have d7' := J10.b10.cell 7; simp only [List.getElem?_toArray, List.getElem?_cons_zero, List.getElem?_cons_succ] at f3 d7')
      | (go_at_call 65; (with_reducible refine (HG.out _ _ (texts_one6 (Bk.new w10 9 #[.string ⟨(94 :: (n2 ++ [36])).toArray⟩]))).mono ?_); rintro e w12 ⟨v12, rfl, hG12, hb12⟩; obtain ⟨A12, c12, rfl, hc12⟩ := hG12.isSlice; have hbs := bel_one w10 (.cells #[.string ⟨(94 :: (n2 ++ [36])).toArray⟩] 9); have hB12 := J10.bel.trans ((hbs.trans (hb12.mono hbs.size)).mono J10.bel.size); have hO12 := (hO10.below hbs).below hb12))
     have HO12 : Hid (Own w.heap.size w12 v9 (rawK T X (gs.take 0))) := Lib.hid hO12
     have HG12 := Lib.hid hG12
     have HB12 := Lib.hid hB12
     generalize hBg : (w10.alloc (.cells #[.string ⟨(94 :: (n2 ++ [36])).toArray⟩] 9)).heap.size = Bg at *
     clear hBg JF f2 hO0 J6 d5 J7 hO7 f1 J8 hO8 J9 d7 J10 hO10 f3 d7' hbs hB12 hO12 hO6 hO9 hxf hb7 hb8 hb10 hb12 hG12 HP HE1 HE2 HEK HB HG hcat1 hcat2 hse hg6 hg9 hX
     go_loopg [7, 100] gs.length (fun gk out i wr3 => ∃ j : Nat, j ≤ gs.length ∧ i = .int .i64 (j : Int) ∧ Aside (j + gk = gs.length) ∧ Aside (Own w.heap.size wr3 out (rawK T X (gs.take j))) ∧ Aside (Below w.heap.size w wr3) ∧ Aside (OwnG Bg wr3 (.slice A12 gs.length c12) gs))
     case atStart => exact ⟨0, by omega, rfl, by show _ = _; omega, HO12.out, HB12.out, HG12.out⟩
     case round =>
      clear HO12 HB12 HG12
      obtain ⟨j, hj, rfl, AG3, AO3, AB3, AGr⟩ := hrel
      by_cases hlt3 : j < gs.length
      ·obtain ⟨q3, rfl⟩ : ∃ q, gk = q + 1 := ⟨gk - 1, by have := AG3.out; omega⟩
       obtain ⟨gb, cb, he, x0, x1, x2⟩ := AGr.out.cells hlt3
       cases he
       have hst := rawK_take T X gs j hlt3
       have hln : (rawK T X (gs.take j)).length < 4398046511104 := by simp [rawK]; omega
       have HST := Lib.hid hst
       clear hst
       generalize gs[j] = gj at *
       have hbg := bel_one wr (.cells #[.int .u8 gj.1.toNat, .int .u8 gj.2.1.toNat, .int .u8 gj.2.2.toNat] 111)
       have HBG := Lib.hid hbg
       go_wp2_with (first
        | (go_at_call 66; (with_reducible refine (HPK.out gj _).mono ?_); rintro e w15 ⟨rfl, hb15⟩; have hO15 := (AO3.out.below HBG.out).below hb15)
        | (at_builtin; refine own_one (c := keyG T gj) rfl _ _ rfl rfl hO15 rfl rfl hln ?_; intro v16 w16 hO16 hg16))
       go_roundg q3
       case measure => omega
       case rel => exact ⟨j + 1, by omega, by go_num, by have := AG3.out; show _ = _; omega, by show Own _ _ _ _; rw [HST.out]; exact hO16, Own.bel (AB3.out.trans ((HBG.out.trans (hb15.mono HBG.out.size)).mono AB3.out.size)) hO15 hg16, ((AGr.out.below HBG.out).below hb15).past hO15 hg16⟩
      ·obtain rfl : j = gs.length := by omega
       have hO := AO3.out
       rw [List.take_length] at hO
       go_wp2_with fail
       go_roundg q2
       case measure => omega
       case rel => exact ⟨1, by omega, rfl, by have := AG2.out; show _ = _; omega, fun h => (by cases h), fun _ => ⟨X, hO, AB3.out⟩⟩
    ·obtain rfl : k2 = 1 := by omega
     have h1' := h1 rfl
     clear h0 h1
     go_wp2_with fail
     go_roundg q
     case measure => omega
     case rel => exact ⟨1, by omega, rfl, by have := AG.out; show _ = _; omega, fun h => (by cases h), fun _ => h1'⟩
  ·obtain rfl : k = 1 := by omega
   obtain ⟨X, hO, hB⟩ := h1 rfl
   clear h0 h1
   have HS := Lib.hid (SortText_c (rawK T X gs) w.heap.size _ wr hO (by simp [rawK]) (by simp [rawK]; omega))
   have hnod : (sortT (rawK T X gs)).toList.Nodup := (sortT_perm _).nodup_iff.2 (hnd X)
   have HNE := Lib.hid (fun i (hi : i + 1 < (sortT (rawK T X gs)).toList.length) => nodup_next6 hnod hi)
   have hsl : (sortT (rawK T X gs)).toList.length ≤ 1000000 := by rw [sortT_len]; simp [rawK]; omega
   clear hnod
   go_wp2_with (first
    | (go_at_call 67; (with_reducible refine HS.out.mono ?_); rintro e w2 ⟨rfl, hO2, hg2⟩; have hB2 := Own.bel hB hO hg2)
    | (go_at_call 69; (with_reducible refine (CompactT_c _ _ _ _ hO2 HNE.out hsl).mono ?_); rintro e w3 ⟨rfl, hb3⟩))
   go_ret
   exact ⟨X, _, rfl, hO2.below hb3, hB2.trans (hb3.mono hB2.size)⟩
end Go.Proofs.YtkkbbhlihilnpaaGreatDoor
