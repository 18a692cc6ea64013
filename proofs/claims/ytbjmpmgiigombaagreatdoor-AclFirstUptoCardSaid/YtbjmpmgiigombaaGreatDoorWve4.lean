import Derived.Test.YtbjmpmgiigombaaGreatDoorWve3
set_option linter.all false
set_option maxHeartbeats 8000000
namespace Go.Proofs.YtbjmpmgiigombaaGreatDoor
open Go.RowKit
theorem kind_any {w : World} {o : Option (Nat × List UInt8)} {e : Ending} {w' : World} (h : KindRet w o e w') : Below w.heap.size w w' ∧ ∃ (k : Int) (n : List UInt8), e = .returned (.tuple #[.int .i64 k, .string ⟨n.toArray⟩, .bool o.isSome]) ∧ ∀ k' n', o = some (k', n') → k = (k' : Int) ∧ n = n' := by
 obtain ⟨hb, h⟩ := h
 cases o with
 | none =>
  obtain ⟨k, n, rfl⟩ := h
  exact ⟨hb, k, n, rfl, fun _ _ h => by cases h⟩
 | some x =>
  obtain ⟨k, n⟩ := x
  cases h
  exact ⟨hb, k, n, rfl, fun _ _ h => by cases h; exact ⟨rfl, rfl⟩⟩
def WordsAt (w : World) (g : Nat) (ws : List (List UInt8)) : Prop := ∀ j (hj : j < ws.length), w.cell? ⟨g, j, none⟩ = some (.string ⟨ws[j].toArray⟩)
theorem WordsAt.below {w w' : World} {g : Nat} {ws : List (List UInt8)} (h : WordsAt w g ws) (hb : Below w.heap.size w w') : WordsAt w' g ws := fun j hj => (hb.cell (cell_lt (h j hj))).trans (h j hj)
theorem own_wordsAt {B : Nat} {w : World} {v : Value} {t : List UInt8} {l : List (List UInt8)} (h : Own B w v (t :: l)) : ∃ g c, v = .slice (some ⟨g, 0, none⟩) (l.length + 1) c ∧ l.length + 1 ≤ c ∧ WordsAt w g (t :: l) ∧ B ≤ g := by
 obtain ⟨A, c, rfl, hc⟩ := h.isSlice
 obtain ⟨g, e, hx⟩ := texts_at h.texts (k := 0) (by simp)
 subst e
 refine ⟨g, c, rfl, by simpa using hc, fun j hj => ?_, (h.lt g rfl).1⟩
 obtain ⟨g', e', hx'⟩ := texts_at h.texts hj
 cases e'
 exact hx'
structure PaJ (w1 wx : World) (cells : Array Value) : Prop where
 bel : Below w1.heap.size w1 wx
 rule : Bk wx w1.heap.size 47 cells
theorem ruleP_to (k : List UInt8) (l : List (List UInt8)) : ruleP (wTo :: k :: l) = match kindA k whatWs (fun k => k != 0) with
  | none => none
  | some (what, name) => (restP l).map fun x => ⟨what, name, x.1, x.2⟩ := by
 unfold ruleP
 simp only [beq_self_eq_true, if_true]
 rfl
theorem Own.textsA {B : Nat} {w : World} {v : Value} {xs : List (List UInt8)} (h : Own B w v xs) : TextsA w v xs := by
 rcases h.texts with ⟨rfl, rfl⟩ | ⟨b, c, rfl, hc, hlt, hcell⟩
 ·exact .inl ⟨rfl, rfl⟩
 ·exact .inr ⟨⟨b, 0, none⟩, c, rfl, hc, fun j hj => by rw [add_off]; exact hcell j hj⟩
theorem OwnGr.ty {B : Nat} {w : World} {v : Value} {gs : List GrantS} (h : OwnGr B w v gs) {k : Nat} (hk : v.ownBlock = some k) : ∃ cs, Bk w k 61 cs := by
 obtain ⟨⟨h1, h2⟩, _⟩ := h
 rcases h2 with ⟨rfl, hn⟩ | ⟨g, cap, cur, rfl, r2, r3, r4, r5, r6, r7⟩
 ·simp [Value.ownBlock] at hk
 ·have hgk : g = k := by simpa [Value.ownBlock] using hk
  subst hgk
  exact ⟨cur, r3⟩
theorem OwnGr.ne {B g : Nat} {w : World} {v : Value} {gs : List GrantS} {t : TypeId} {cs : Array Value} (h : OwnGr B w v gs) (hg : Bk w g t cs) (ht : t ≠ 61) : some g ≠ v.ownBlock := by
 intro e
 obtain ⟨cs', h'⟩ := h.ty e.symm
 exact bk_ne hg h' ht rfl
theorem OwnGr.far {B g i : Nat} {w : World} {v : Value} {gs : List GrantS} {t : TypeId} {cs : Array Value} (h : OwnGr B w v gs) (hg : Bk w g t cs) (ht : t ≠ 61) (u : Value) : OwnGr B (w.setCell ⟨g, i, none⟩ u) v gs := by
 refine ⟨h.1.kept (setCell_grown w g i u) ?_, by simpa [World.setCell] using h.2⟩
 rcases hv : v.ownBlock with _ | k
 ·exact .inl rfl
 ·refine .inr ?_
  intro e
  exact h.ne hg ht (by rw [hv]; exact e.symm)
theorem OwnGr.lower {B B' : Nat} {w : World} {v : Value} {gs : List GrantS} (h : OwnGr B w v gs) (hB : B' ≤ B) : OwnGr B' w v gs := by
 obtain ⟨⟨h1, h2⟩, h3⟩ := h
 refine ⟨⟨h1, h2.imp id ?_⟩, by omega⟩
 rintro ⟨g, cap, cur, r1, r2, r3⟩
 exact ⟨g, cap, cur, r1, by omega, r3⟩
theorem Own.beside {B B' : Nat} {w w' : World} {v v' : Value} {xs : List (List UInt8)} {gs : List GrantS} (h : Own B w v xs) (hO : OwnGr B' w v' gs) (hg : w.grownBy w' v'.ownBlock) : Own B w' v xs := by
 refine ⟨h.1.kept hg ?_, Nat.le_trans h.2 hg.size⟩
 rcases hv : v.ownBlock with _ | k
 ·exact .inl rfl
 ·refine .inr ?_
  intro e
  obtain ⟨cs, hk⟩ := h.ty hv
  exact hO.ne hk (by decide) e
structure GJ (w1 wr : World) (g : Nat) (ws : List (List UInt8)) (what : Int) (n0 : List UInt8) (va : Value) (ats : List (List UInt8)) (T : Option (List GrantS)) (gk : Nat) (A : Option Addr) (c : Nat) (ok : Bool) (L : List (List UInt8)) (o : Nat) (gs : List GrantS) (vg : Value) : Prop where
 cap : L.length ≤ c
 at' : L ≠ [] → A = some ⟨g, o, none⟩
 drop : ws.drop o = L
 fuel : L.length < gk
 pa : PaJ w1 wr #[.int .i64 what, .string ⟨n0.toArray⟩, va, vg]
 txt : Own w1.heap.size wr va ats
 own : OwnGr w1.heap.size wr vg gs
 num : gs.length + L.length ≤ 70000
 good : ok = true → T = grantsOk (grantsP L gs)
 bad : ok = false → T = none
theorem WordsAt.drop {w : World} {g o : Nat} {ws L : List (List UInt8)} (h : WordsAt w g ws) (hL : ws.drop o = L) (j : Nat) (hj : j < L.length) : w.cell? ⟨g, o + j, none⟩ = some (.string ⟨L[j].toArray⟩) := by
 subst hL
 rw [List.length_drop] at hj
 rw [h (o + j) (by omega)]
 simp
set_option maxRecDepth 100000 in
theorem Parse_main (s : List UInt8) (w : World) (hw : Env w) (hs : s.length ≤ 65536) (k : List UInt8) (l : List (List UInt8)) (ha : aclWords s = some (wTo :: k :: l)) : Calls Tryz.prog 7 #[.string ⟨s.toArray⟩] w (AParseRet w (match ruleP (wTo :: k :: l) with
  | none => ((100 : Int), noRule)
  | some r => ((0 : Int), r))) := by
 obtain ⟨X, hX⟩ : ∃ X, (match ruleP (wTo :: k :: l) with
  | none => ((100 : Int), noRule)
  | some r => ((0 : Int), r)) = X := ⟨_, rfl⟩
 rw [hX]
 obtain ⟨hsm1, hsm2⟩ := aclWords_small ha
 have hkl : k.length ≤ 65536 := by have := hsm2 k (by simp); omega
 have hb0 : Below w.heap.size w (w.alloc (.cells rule0 47)) := (Below.refl _ _).alloc (Nat.le_refl _) _
 have hk : Bk (w.alloc (.cells rule0 47)) w.heap.size 47 #[.int .i64 0, .string ⟨#[]⟩, .slice none 0 0, .slice none 0 0] := Bk.new w _ _
 have hW := aclWords_c s (w.alloc (.cells rule0 47)) (by omega)
 rw [ha] at hW
 have HW : Hid (Calls Tryz.prog 18 #[.string ⟨s.toArray⟩] (w.alloc (.cells rule0 47)) fun e w' => Below (w.alloc (.cells rule0 47)).heap.size (w.alloc (.cells rule0 47)) w' ∧ ∃ v, e = .returned (.tuple #[v, .bool true]) ∧ Own (w.alloc (.cells rule0 47)).heap.size w' v (wTo :: k :: l)) := Lib.hid hW
 have HK1 := Lib.hid (fun (W : World) (v : Value) (h : Below w.heap.size w W) (hv : Texts W v whatWs) => (kind_c 21 (fun k => k != 0) k whatWs v W (hw.keep h) (by omega) hv (by decide) (fun _ _ => rfl) (fun k W _ => parse1_c k W)).mono fun e w' h => kind_any h)
 obtain ⟨K, hK⟩ : ∃ K, kindA k whatWs (fun k => k != 0) = K := ⟨_, rfl⟩
 rw [hK] at HK1
 have HKe := Lib.hid hK
 have hget := ba_get
 have hext := ba_ext
 unfold rule0 at hb0 hk HW
 clear hW hK
 have hl2 : ∀ n : Nat, ¬ (((n + 2 : Nat) : Int) < 2) := fun n => by omega
 go_enter Tryz.func7, Tryz.ntmps7
 go_upto_region 7 with (go_at_call 18; refine HW.out.mono ?_; rintro e w1 ⟨hb1, v, rfl, hO⟩; obtain ⟨g, c, rfl, hc, hWA, hgB⟩ := own_wordsAt hO; have c0 : w1.cell? ⟨g, 0, none⟩ = some (.string ⟨#[116, 111]⟩) := hWA 0 (by simp); have c1 : w1.cell? ⟨g, 1, none⟩ = some (.string ⟨k.toArray⟩) := hWA 1 (by simp); have hk1 := hk.below hb1; have oc0 := hk1.cell 0; have oc1 := hk1.cell 1; have oc2 := hk1.cell 2; have oc3 := hk1.cell 3; have of0 := hk1.frozen 0; have of1 := hk1.frozen 1; have of2 := hk1.frozen 2; have of3 := hk1.frozen 3; simp only [List.getElem?_toArray, List.getElem?_cons_zero, List.getElem?_cons_succ] at oc0 oc1 oc2 oc3; have hB1 := hb0.trans (hb1.mono hb0.size))
 have HWA := Lib.hid hWA
 have hbR : Below w1.heap.size w1 (w1.alloc (.cells #[.int .i64 0, .string ⟨#[]⟩, .slice none 0 0, .slice none 0 0] 47)) := (Below.refl _ _).alloc (Nat.le_refl _) _
 have hkR : Bk (w1.alloc (.cells #[.int .i64 0, .string ⟨#[]⟩, .slice none 0 0, .slice none 0 0] 47)) w1.heap.size 47 #[.int .i64 0, .string ⟨#[]⟩, .slice none 0 0, .slice none 0 0] := Bk.new w1 _ _
 have r1 : (w1.alloc (.cells #[.int .i64 0, .string ⟨#[]⟩, .slice none 0 0, .slice none 0 0] 47)).cell? ⟨g, 1, none⟩ = some (.string ⟨k.toArray⟩) := (hbR.cell (cell_lt c1)).trans c1
 clear hWA
 go_cut [5] (fun s5 wx => ∃ ok : Bool, s5 = .bool ok ∧ Aside (ok = K.isSome) ∧ ∃ (k0 : Int) (n0 : List UInt8), Aside (PaJ w1 wx #[.int .i64 k0, .string ⟨n0.toArray⟩, .slice none 0 0, .slice none 0 0]) ∧ Aside (∀ k' n', K = some (k', n') → k0 = (k' : Int) ∧ n0 = n'))
 case first =>
  clear oc0 oc1 oc2 oc3 of0 of1 of2 of3 HW
  have hi1 : (1 : Int) < ((l.length + 1 + 1 : Nat) : Int) := by omega
  have hi2 : (1 : Int) < (l.length : Int) + 1 + 1 := by omega
  have hi3 : (0 : Int) < (l.length : Int) + 1 := by omega
  go_region_law (first
   | (go_simp; go_at_call 20; refine (whats_c _).mono ?_; rintro e w3 ⟨rfl, hb3x, hO3⟩; have hb3 := below_undrew hb3x; clear hb3x; have q3 : w3.cell? ⟨g, 1, none⟩ = some (.string ⟨k.toArray⟩) := (hb3.cell (cell_lt r1)).trans r1; have hk3 := hkR.below hb3; have hB3 := hbR.trans (hb3.mono hbR.size); have hT3 : Texts w3 (.slice (some ⟨(w1.alloc (.cells #[.int .i64 0, .string ⟨#[]⟩, .slice none 0 0, .slice none 0 0] 47)).heap.size, 0, none⟩) whatWs.length whatWs.length) whatWs := hO3.texts; rw [World.size_alloc] at hT3; have hBw3 := hB1.trans (hB3.mono hB1.size))
   | (go_simp; go_at_call 19; (with_reducible refine (HK1.out _ _ hBw3 hT3).mono ?_); rintro e w4 ⟨hb4, k0, n0, rfl, hkn⟩; have hk4 := hk3.below hb4; have z0 := hk4.cell 0; have z1 := hk4.cell 1; have z2 := hk4.cell 2; have z3 := hk4.cell 3; have y0 := hk4.frozen 0; have y1 := hk4.frozen 1; have y2 := hk4.frozen 2; have y3 := hk4.frozen 3; simp only [List.getElem?_toArray, List.getElem?_cons_zero, List.getElem?_cons_succ] at z0 z1 z2 z3; have hB4 := hB3.trans (hb4.mono hB3.size)))
  all_goals
   go_wp2_with fail
   go_meet
   refine ⟨_, rfl, rfl, k0, n0, ?_, hkn⟩
   exact ⟨(hB4.setCell (Nat.le_refl _) _).setCell (Nat.le_refl _) _, by simpa using (hk4.set 0 (.int .i64 k0)).set 1 (.string ⟨n0.toArray⟩)⟩
 case rest =>
  obtain ⟨ok, rfl, AO, k0, n0, AP, AK⟩ := hcut
  obtain ⟨wo, hwo⟩ : ∃ x, x = wc := ⟨_, rfl⟩
  subst hwo
  clear HK1 r1 c0 c1 hbR hkR oc0 oc1 oc2 oc3 of0 of1 of2 of3 HW hb0 hk hb1
  have hkz := hk1.below AP.out.bel
  have oc0 := hkz.cell 0
  have oc1 := hkz.cell 1
  have oc2 := hkz.cell 2
  have oc3 := hkz.cell 3
  have of0 := hkz.frozen 0
  have of1 := hkz.frozen 1
  have of2 := hkz.frozen 2
  have of3 := hkz.frozen 3
  simp only [List.getElem?_toArray, List.getElem?_cons_zero, List.getElem?_cons_succ] at oc0 oc1 oc2 oc3
  have hBo := hB1.trans (AP.out.bel.mono hB1.size)
  have hc2 : l.length + 1 + 1 ≤ c := by simpa using hc
  go_upto_region 8 with fail
  go_cut [4] (fun s4 wx => wx = wo ∧ ∃ A c', s4 = .slice A l.length c' ∧ l.length ≤ c' ∧ (l ≠ [] → A = some ⟨g, 2, none⟩))
  case first =>
   go_wp2_with fail
   all_goals
    go_meet
    refine ⟨rfl, _, _, rfl, by omega, fun h => ?_⟩
    first
     | rfl
     | (exfalso; have := List.length_pos_iff.2 h; omega)
  case rest =>
   obtain ⟨rfl, A, c', rfl, hc', hA⟩ := hcut
   cases K with
   | none =>
    obtain rfl : ok = false := AO.out
    have hXe : X = ((100 : Int), noRule) := by
     rw [← hX, ruleP_to, HKe.out]
    subst hXe
    go_wp2_with fail
    go_loopg [4, 5] 0 (fun gk s4 s5 wr => s5 = .bool false ∧ wr = wc)
    case atStart => exact ⟨rfl, rfl⟩
    case round =>
     obtain ⟨rfl, rfl⟩ := hrel
     go_wp2_with fail
     have hz := bk_set4 _ _ _ _ (.int .i64 0) (.string ⟨#[]⟩) (.slice none 0 0) (.slice none 0 0) hkz
     exact aparse_out (er := 100) hz rfl rfl (parse_zero (below_set4 hBo (Nat.le_refl _) _ _ _ _))
   | some x =>
    obtain rfl : ok = true := AO.out
    obtain ⟨what, name⟩ := x
    obtain ⟨rfl, rfl⟩ : k0 = (what : Int) ∧ n0 = name := AK.out _ _ rfl
    have HX : Hid ((match (restP l).map fun x => (⟨(what : Int), n0, x.1, x.2⟩ : RuleS) with
     | none => ((100 : Int), noRule)
     | some r => ((0 : Int), r)) = X) := Lib.hid (by rw [← hX, ruleP_to, HKe.out])
    have HWc : Hid (WordsAt wc g (wTo :: k :: l)) := Lib.hid (HWA.out.below AP.out.bel)
    have hll : l.length ≤ 65536 := by simp at hsm1; omega
    have hlx : ∀ x ∈ l, x.length ≤ 65536 := fun x hx => by have := hsm2 x (by simp [hx]); omega
    have hwc : Env wc := hw.keep hBo
    have hw1 : Env w1 := hw.keep hB1
    clear hX HKe AK AO hkz
    obtain ⟨pb, hpb⟩ : ∃ b : Bool, (match l with | [] => false | a :: _ => wAttrsEq.isPrefixOf a) = b := ⟨_, rfl⟩
    go_upto_region 9 with fail
    go_cut [55] (fun s55 wx => wx = wc ∧ s55 = .bool pb)
    case first =>
     cases l with
     | nil =>
      subst hpb
      go_wp2_with fail
      go_meet
      exact ⟨rfl, rfl⟩
     | cons a l' =>
      obtain rfl := hA (by simp)
      have ca : wc.cell? ⟨g, 2, none⟩ = some (.string ⟨a.toArray⟩) := HWc.out 2 (by simp)
      have hp0 : (0 : Int) < (l'.length : Int) + 1 := by omega
      have hpb2 : wAttrsEq.isPrefixOf a = pb := hpb
      have HHP : Hid (∀ W, Calls Tryz.prog 22 #[.string ⟨a.toArray⟩, .string ⟨#[97, 116, 116, 114, 115, 61]⟩] W fun e w' => e = .returned (.bool pb) ∧ W = w') := Lib.hid fun W => (Tryz.strings_HasPrefix ⟨a.toArray⟩ ⟨#[97, 116, 116, 114, 115, 61]⟩ W).mono fun e w' h => ⟨h.1.trans (by rw [← hpb2]; rfl), h.2.symm⟩
      clear hpb hpb2
      go_wp2_with (go_at_call 22; (with_reducible refine (HHP.out _).mono ?_); rintro e w5 ⟨rfl, rfl⟩)
      all_goals
       go_meet
       exact ⟨rfl, rfl⟩
    case rest =>
    obtain ⟨rfl, rfl⟩ := hcut
    go_upto_if 55 with fail
    go_cut [4, 5] (fun s4 s5 wx => ∃ (A2 : Option Addr) (c2 o : Nat) (ok2 : Bool) (va : Value), s4 = .slice A2 (attrsP l).2.length c2 ∧ s5 = .bool ok2 ∧ (attrsP l).2.length ≤ c2 ∧ ((attrsP l).2 ≠ [] → A2 = some ⟨g, o, none⟩) ∧ Aside ((wTo :: k :: l).drop o = (attrsP l).2) ∧ Aside (ok2 = !(attrsP l).1.any (fun t => !isTypeL t)) ∧ Aside (PaJ w1 wx #[.int .i64 what, .string ⟨n0.toArray⟩, va, .slice none 0 0]) ∧ Aside (Own w1.heap.size wx va (attrsP l).1))
    case first =>
     cases pb with
     | false =>
      have hat : attrsP l = ([], l) := by
       cases l with
       | nil => rfl
       | cons a l' => unfold attrsP; simp only; rw [show wAttrsEq.isPrefixOf a = false from hpb]; rfl
      clear hpb
      go_wp2_with fail
      go_meet
      rw [hat]
      exact ⟨_, _, 2, true, .slice none 0 0, rfl, rfl, hc', hA, rfl, rfl, AP.out, Own.nil AP.out.bel.size⟩
     | true =>
      cases l with
      | nil => cases hpb
      | cons a l' =>
       have hat : attrsP (a :: l') = (splitC (a.drop 6), l') := by unfold attrsP; simp only; rw [show wAttrsEq.isPrefixOf a = true from hpb]; rfl
       obtain rfl := hA (by simp)
       have ca : wc.cell? ⟨g, 2, none⟩ = some (.string ⟨a.toArray⟩) := HWc.out 2 (by simp)
       have hp0 : (0 : Int) < (l'.length : Int) + 1 := by omega
       have hp1 : (1 : Int) ≤ (l'.length : Int) + 1 := by omega
       have hal : a.length ≤ 65536 := hlx a (by simp)
       have HTP : Hid (∀ W, Calls Tryz.prog 24 #[.string ⟨a.toArray⟩, .string ⟨#[97, 116, 116, 114, 115, 61]⟩] W fun e w' => e = .returned (.string ⟨(a.drop 6).toArray⟩) ∧ W = w') := Lib.hid fun W => (Tryz.strings_TrimPrefix ⟨a.toArray⟩ ⟨#[97, 116, 116, 114, 115, 61]⟩ W).mono fun e w' h => ⟨h.1.trans (by
        have : Lib.trimPrefix a [97, 116, 116, 114, 115, 61] = a.drop 6 := by unfold Lib.trimPrefix Lib.hasPrefix; exact if_pos hpb
        show Ending.returned (.string ⟨(Lib.trimPrefix a [97, 116, 116, 114, 115, 61]).toArray⟩) = _
        rw [this]), h.2.symm⟩
       have hdl : (a.drop 6).length ≤ 65536 := by simp; omega
       have HSp := Lib.hid (SplitC_c (a.drop 6) wc hwc hdl)
       have hsl := splitC_len (a.drop 6)
       have hsx : ∀ x ∈ splitC (a.drop 6), x.length ≤ 65536 := fun x hx => Nat.le_trans (splitC_sub _ x hx) hdl
       generalize splitC (a.drop 6) = S at *
       have HCF : Hid (∀ (W : World) (va : Value), Below w1.heap.size w1 W → TextsA W va S → Calls Tryz.prog 25 #[va, .func (.func 26) #[] #[]] W fun e w' => e = .returned (.bool (S.any (fun t => !isTypeL t))) ∧ Below W.heap.size W w') := Lib.hid fun W va hW hT => ContainsFuncSA_c _ _ S va W hT (by omega) _ ⟨fun x hx W' hW' => parse2_c x W' ((hw1.keep hW).keep hW') (by have := hsx x hx; omega), fun _ _ => rfl⟩
       have hc3 : l'.length + 1 ≤ c' := by simpa using hc'
       have hk5 := AP.out.rule
       have hbw := AP.out.bel
       clear hpb hsl hsx hlx
       go_wp2_with (first
        | (go_at_call 24; (with_reducible refine (HTP.out _).mono ?_); rintro e w5 ⟨rfl, rfl⟩)
        | (go_at_call 23; ((with_reducible refine HSp.out.mono ?_); rintro e w6 ⟨rfl, hb6, hO6⟩; have hk6 := hk5.below hb6; have z2 := hk6.cell 2; have y2 := hk6.frozen 2; simp only [List.getElem?_toArray, List.getElem?_cons_zero, List.getElem?_cons_succ] at z2; have hk7 : Bk (w6.setCell ⟨w1.heap.size, 2, none⟩ (.slice (some ⟨wc.heap.size, 0, none⟩) S.length S.length)) w1.heap.size 47 #[.int .i64 what, .string ⟨n0.toArray⟩, .slice (some ⟨wc.heap.size, 0, none⟩) S.length S.length, .slice none 0 0] := (by simpa using hk6.set 2 (.slice (some ⟨wc.heap.size, 0, none⟩) S.length S.length)); have q7 := hk7.cell 2; simp only [List.getElem?_toArray, List.getElem?_cons_zero, List.getElem?_cons_succ] at q7; have hB6 := hbw.trans (hb6.mono hbw.size); have hB7 : Below w1.heap.size w1 (w6.setCell ⟨w1.heap.size, 2, none⟩ (.slice (some ⟨wc.heap.size, 0, none⟩) S.length S.length)) := hB6.setCell (Nat.le_refl _) _; have hO7 : Own wc.heap.size (w6.setCell ⟨w1.heap.size, 2, none⟩ (.slice (some ⟨wc.heap.size, 0, none⟩) S.length S.length)) (.slice (some ⟨wc.heap.size, 0, none⟩) S.length S.length) S := hO6.far hk6 (by decide) _))
        | (go_at_call 25; (with_reducible refine (HCF.out _ _ hB7 hO7.textsA).mono ?_); rintro e w8 ⟨rfl, hb8⟩))
       all_goals
        go_meet
        rw [hat]
        dsimp only
        refine ⟨_, _, 3, _, _, rfl, rfl, by omega, fun h => ?_, rfl, rfl, ⟨hB7.trans (hb8.mono hB7.size), hk7.below hb8⟩, (hO7.below hb8).lower hbw.size⟩
        first
         | rfl
         | (exfalso; have := List.length_pos_iff.2 h; omega)
    case rest =>
     obtain ⟨A2, c2, o0, ok2, va, rfl, rfl, hc2', hA2, AD, AOK, AP2, AV⟩ := hcut
     obtain ⟨wd, hwd⟩ : ∃ x, x = wc := ⟨_, rfl⟩
     subst hwd
     obtain ⟨T, hT⟩ : ∃ T : Option (List GrantS), (if (attrsP l).1.any (fun t => !isTypeL t) then none else grantsOk (grantsP (attrsP l).2 [])) = T := ⟨_, rfl⟩
     have hrest : restP l = T.map fun gs => ((attrsP l).1, gs) := by
      rw [← hT]
      unfold restP
      split <;> rfl
     have hL2l : (attrsP l).2.length ≤ 65538 := by
      have h1 := congrArg List.length AD.out
      rw [List.length_drop] at h1
      simp only [List.length_cons] at h1
      omega
     have hok1 : ok2 = true → T = grantsOk (grantsP (attrsP l).2 []) := by
      intro h
      have h2 := AOK.out
      rw [h] at h2
      rw [← hT, if_neg]
      intro h3
      rw [h3] at h2
      cases h2
     have hok2 : ok2 = false → T = none := by
      intro h
      have h2 := AOK.out
      rw [h] at h2
      rw [← hT, if_pos]
      cases h3 : (attrsP l).1.any (fun t => !isTypeL t)
      ·rw [h3] at h2; cases h2
      ·rfl
     have HX2 : Hid ((match T.map fun gs => (⟨(what : Int), n0, (attrsP l).1, gs⟩ : RuleS) with
      | none => ((100 : Int), noRule)
      | some r => ((0 : Int), r)) = X) := Lib.hid (by
       have h := HX.out
       rw [hrest, Option.map_map] at h
       exact h)
     clear hT hrest HX hpb HWc hlx AP hA hc'
     obtain ⟨L2, hL2⟩ : ∃ q, (attrsP l).2 = q := ⟨_, rfl⟩
     obtain ⟨ats, hats⟩ : ∃ q, (attrsP l).1 = q := ⟨_, rfl⟩
     rw [hL2] at hok1 hc2' hA2 AD hL2l ⊢
     rw [hats] at HX2 AV
     clear AOK hL2 hats
     obtain ⟨Av, nv, cv, rfl⟩ : ∃ A n c, va = .slice A n c := (by obtain ⟨A, c, h, _⟩ := AV.out.isSlice; exact ⟨A, _, c, h⟩)
     have HG0 : Aside (GJ w1 wd g (wTo :: k :: l) what n0 (.slice Av nv cv) ats T (L2.length + 1) A2 c2 ok2 L2 o0 [] (.slice none 0 0)) := ⟨hc2', hA2, AD.out, by omega, AP2.out, AV.out, OwnGr.nil AP2.out.bel.size, by simp; omega, hok1, hok2⟩
     clear hc2' hA2 AD AP2 AV hok1 hok2 hL2l
     go_wp2_with fail
     go_loopg [4, 5] (L2.length + 1) (fun gk s4 s5 wr => ∃ (A : Option Addr) (c o : Nat) (ok : Bool) (L : List (List UInt8)) (gs : List GrantS) (vg : Value), s4 = .slice A L.length c ∧ s5 = .bool ok ∧ Aside (GJ w1 wr g (wTo :: k :: l) what n0 (.slice Av nv cv) ats T gk A c ok L o gs vg))
     case atStart => exact ⟨A2, c2, o0, ok2, L2, [], _, rfl, rfl, HG0⟩
     case round =>
      obtain ⟨A, c, o, ok, L, gs, vg, rfl, rfl, AJ⟩ := hrel
      obtain ⟨wo, hwo⟩ : ∃ x, x = wr := ⟨_, rfl⟩
      subst hwo
      have hkz := hk1.below AJ.out.pa.bel
      have hBo := hB1.trans (AJ.out.pa.bel.mono hB1.size)
      obtain ⟨Ag, cg, rfl, hcg⟩ := AJ.out.own.isSlice
      have hk5 := AJ.out.pa.rule
      have q0 := hk5.cell 0
      have q1 := hk5.cell 1
      have q2 := hk5.cell 2
      have q3 := hk5.cell 3
      have oc0 := hkz.cell 0
      have oc1 := hkz.cell 1
      have oc2 := hkz.cell 2
      have oc3 := hkz.cell 3
      have of0 := hkz.frozen 0
      have of1 := hkz.frozen 1
      have of2 := hkz.frozen 2
      have of3 := hkz.frozen 3
      simp only [List.getElem?_toArray, List.getElem?_cons_zero, List.getElem?_cons_succ] at q0 q1 q2 q3 oc0 oc1 oc2 oc3
      have hz := bk_set4 _ _ _ _ (.int .i64 0) (.string ⟨#[]⟩) (.slice none 0 0) (.slice none 0 0) hkz
      have HBAD : Hid (T = none → X = ((100 : Int), noRule)) := Lib.hid (fun h => by rw [← HX2.out, h]; rfl)
      clear HG0
      cases ok with
      | false =>
       obtain rfl := HBAD.out (AJ.out.bad rfl)
       clear q0 q1 q2 q3
       go_wp2_with fail
       exact aparse_out (er := 100) hz rfl rfl (parse_zero (below_set4 hBo (Nat.le_refl _) _ _ _ _))
      | true =>
       have hgood := AJ.out.good rfl
       cases L with
       | nil =>
        cases gs with
        | nil =>
         obtain rfl := HBAD.out hgood
         clear hgood
         go_wp2_with fail
         exact aparse_out (er := 100) hz rfl rfl (parse_zero (below_set4 hBo (Nat.le_refl _) _ _ _ _))
        | cons g0 gs =>
         have hXe : X = ((0 : Int), (⟨(what : Int), n0, ats, g0 :: gs⟩ : RuleS)) := by
          rw [← HX2.out, hgood]
          rfl
         subst hXe
         clear hgood HBAD
         have hgn : ((gs.length : Int) + 1 == 0) = false := by rw [beq_eq_false_iff_ne]; omega
         go_wp2_with fail
         have hz2 := bk_set4 _ _ _ _ (.int .i64 (what : Int)) (.string ⟨n0.toArray⟩) (.slice Av nv cv) (.slice Ag (g0 :: gs).length cg) hkz
         have hsz := hB1.size
         refine aparse_out (er := 0) hz2 rfl rfl ⟨below_set4 hBo (Nat.le_refl _) _ _ _ _, _, _, rfl, ?_, ?_⟩
         ·exact ((((AJ.out.txt.lower hsz).far hkz (by decide) _).far (hkz.set 0 _) (by decide) _).far ((hkz.set 0 _).set 1 _) (by decide) _).far (((hkz.set 0 _).set 1 _).set 2 _) (by decide) _
         ·exact ((((AJ.out.own.lower hsz).far hkz (by decide) _).far (hkz.set 0 _) (by decide) _).far ((hkz.set 0 _).set 1 _) (by decide) _).far (((hkz.set 0 _).set 1 _).set 2 _) (by decide) _
       | cons b L1 =>
        obtain rfl := AJ.out.at' (by simp)
        have HWo := Lib.hid ((HWA.out.below AJ.out.pa.bel).drop AJ.out.drop)
        cases L1 with
        | nil =>
         obtain rfl := HBAD.out hgood
         clear hgood
         go_wp2_with fail
         exact aparse_out (er := 100) hz rfl rfl (parse_zero (below_set4 hBo (Nat.le_refl _) _ _ _ _))
        | cons k2 L1 =>
         cases L1 with
         | nil =>
          obtain rfl := HBAD.out hgood
          clear hgood
          go_wp2_with fail
          exact aparse_out (er := 100) hz rfl rfl (parse_zero (below_set4 hBo (Nat.le_refl _) _ _ _ _))
         | cons v2 L3 =>
          have d0 : wo.cell? ⟨g, o, none⟩ = some (.string ⟨b.toArray⟩) := HWo.out 0 (by simp)
          have d1 : wo.cell? ⟨g, o + 1, none⟩ = some (.string ⟨k2.toArray⟩) := HWo.out 1 (by simp)
          have d2 : wo.cell? ⟨g, o + 2, none⟩ = some (.string ⟨v2.toArray⟩) := HWo.out 2 (by simp)
          have h30 : (3 : Int) ≤ (L3.length : Int) + 1 + 1 + 1 := by omega
          have h31 : (0 : Int) < (L3.length : Int) + 1 + 1 + 1 := by omega
          have h32 : (1 : Int) < (L3.length : Int) + 1 + 1 + 1 := by omega
          have h33 : (2 : Int) < (L3.length : Int) + 1 + 1 + 1 := by omega
          cases hb : (b == [98, 121]) with
          | false =>
           have hT0 : T = none := by
            rw [hgood, grantsP]
            have : (b == wBy) = false := hb
            rw [this]
            rfl
           obtain rfl := HBAD.out hT0
           clear hgood hT0
           go_wp2_with fail
           exact aparse_out (er := 100) hz rfl rfl (parse_zero (below_set4 hBo (Nat.le_refl _) _ _ _ _))
          | true =>
           have hb2 : (b == wBy) = true := hb
           have hT2 : T = (match kindA k2 whoWs (fun k => namedB k) with
            | none => none
            | some (who, name) => match idxOf levelWs v2 with
             | none => none
             | some lev => grantsOk (grantsP L3 (gs ++ [⟨who, name, lev⟩]))) := by
            rw [hgood, grantsP, hb2, if_pos rfl]
            cases kindA k2 whoWs (fun k => namedB k) with
            | none => rfl
            | some x => cases idxOf levelWs v2 with
             | none => rfl
             | some lev => rfl
           clear hgood hb2
           have hk2l : k2.length ≤ 65536 := by
            have : k2 ∈ wTo :: k :: l := List.mem_of_mem_drop (i := o) (by rw [AJ.out.drop]; simp)
            have := hsm2 k2 this
            omega
           have hwo : Env wo := hw.keep hBo
           have HK2 := Lib.hid (fun (W : World) (v : Value) (h : Below wo.heap.size wo W) (hv : Texts W v whoWs) => (kind_c 29 (fun k => namedB k) k2 whoWs v W (hwo.keep h) (by omega) hv (by decide) (fun _ _ => rfl) (fun k W _ => named_c k W)).mono fun e w' h => kind_any h)
           obtain ⟨K2, hK2⟩ : ∃ K, kindA k2 whoWs (fun k => namedB k) = K := ⟨_, rfl⟩
           rw [hK2] at HK2 hT2
           clear hK2
           have HT2 := Lib.hid hT2
           clear hT2
           go_upto_region 16 with fail
           have hbG : Below wo.heap.size wo (wo.alloc (.cells #[.int .i64 0, .string ⟨#[]⟩, .int .i64 0] 61)) := (Below.refl _ _).alloc (Nat.le_refl _) _
           have hkG : Bk (wo.alloc (.cells #[.int .i64 0, .string ⟨#[]⟩, .int .i64 0] 61)) wo.heap.size 61 #[.int .i64 0, .string ⟨#[]⟩, .int .i64 0] := Bk.new wo _ _
           have g1 := (hbG.cell (cell_lt d1)).trans d1
           go_cut [5] (fun s5 wx => ∃ ok' : Bool, s5 = .bool ok' ∧ Aside (ok' = K2.isSome) ∧ ∃ (k0' : Int) (n0' : List UInt8), Aside (Below wo.heap.size wo wx ∧ Bk wx wo.heap.size 61 #[.int .i64 k0', .string ⟨n0'.toArray⟩, .int .i64 0]) ∧ Aside (∀ k' n', K2 = some (k', n') → k0' = (k' : Int) ∧ n0' = n'))
           case first =>
            go_region_law (first
             | (go_simp; go_at_call 28; refine (whos_c _).mono ?_; rintro e w3 ⟨rfl, hb3x, hO3⟩; have hb3 := below_undrew hb3x; clear hb3x; have e3 : w3.cell? ⟨g, o + 1, none⟩ = some (.string ⟨k2.toArray⟩) := (hb3.cell (cell_lt g1)).trans g1; have hk3 := hkG.below hb3; have hB3 := hbG.trans (hb3.mono hbG.size); have hT3 : Texts w3 (.slice (some ⟨(wo.alloc (.cells #[.int .i64 0, .string ⟨#[]⟩, .int .i64 0] 61)).heap.size, 0, none⟩) whoWs.length whoWs.length) whoWs := hO3.texts; rw [World.size_alloc] at hT3)
             | (go_simp; go_at_call 19; (with_reducible refine (HK2.out _ _ hB3 hT3).mono ?_); rintro e w4 ⟨hb4, k0', n0', rfl, hkn⟩; have hk4 := hk3.below hb4; have z0 := hk4.cell 0; have z1 := hk4.cell 1; have z2 := hk4.cell 2; have y0 := hk4.frozen 0; have y1 := hk4.frozen 1; have y2 := hk4.frozen 2; simp only [List.getElem?_toArray, List.getElem?_cons_zero, List.getElem?_cons_succ] at z0 z1 z2; have hB4 := hB3.trans (hb4.mono hB3.size)))
            all_goals
             go_wp2_with fail
             go_meet
             refine ⟨_, rfl, rfl, k0', n0', ?_, hkn⟩
             exact ⟨(hB4.setCell (Nat.le_refl _) _).setCell (Nat.le_refl _) _, by simpa using (hk4.set 0 (.int .i64 k0')).set 1 (.string ⟨n0'.toArray⟩)⟩
           case rest =>
            obtain ⟨ok', rfl, AO2, k0', n0', AB, AK2⟩ := hcut
            obtain ⟨we, hwe⟩ : ∃ x, x = wc := ⟨_, rfl⟩
            subst hwe
            have e2 := (AB.out.1.cell (cell_lt d2)).trans d2
            obtain ⟨lv, hlv⟩ : ∃ v : Int, (match idxOf levelWs v2 with | none => -1 | some k => (k : Int)) = v := ⟨_, rfl⟩
            have HI : Hid (∀ (W : World) (v : Value), Texts W v levelWs → Calls Tryz.prog 30 #[v, .string ⟨v2.toArray⟩] W fun e w' => e = .returned (.int .i64 lv) ∧ W = w') := Lib.hid (fun (W : World) (v : Value) (hv : Texts W v levelWs) => (IndexS_i v2 levelWs v W hv (by decide)).mono fun e w' h => ⟨h.1.trans (congrArg (fun z => Ending.returned (.int .i64 z)) hlv), h.2⟩)
            have HLV := Lib.hid hlv
            clear hlv HK2 hbG hkG g1
            go_upto_region 17 with fail
            go_cut [] (fun wx => Aside (Below wo.heap.size wo wx ∧ Bk wx wo.heap.size 61 #[.int .i64 k0', .string ⟨n0'.toArray⟩, .int .i64 lv]))
            case first =>
             go_region_law (first
              | (go_simp; go_at_call 31; refine (levels_c _).mono ?_; rintro e w5 ⟨rfl, hb5x, hO5⟩; have hb5 := below_undrew hb5x; clear hb5x; have e5 : w5.cell? ⟨g, o + 2, none⟩ = some (.string ⟨v2.toArray⟩) := (hb5.cell (cell_lt e2)).trans e2; have hk5 := AB.out.2.below hb5; have hB5 := AB.out.1.trans (hb5.mono AB.out.1.size); have hT5 : Texts w5 (.slice (some ⟨we.heap.size, 0, none⟩) levelWs.length levelWs.length) levelWs := hO5.texts; have z0 := hk5.cell 0; have z1 := hk5.cell 1; have z2 := hk5.cell 2; have y0 := hk5.frozen 0; have y1 := hk5.frozen 1; have y2 := hk5.frozen 2; simp only [List.getElem?_toArray, List.getElem?_cons_zero, List.getElem?_cons_succ] at z0 z1 z2)
              | (go_simp; go_at_call 30; (with_reducible refine (HI.out _ _ hT5).mono ?_); rintro e w6 ⟨rfl, rfl⟩))
             all_goals
              go_wp2_with fail
              go_meet
              exact ⟨hB5.setCell (Nat.le_refl _) _, by simpa using hk5.set 2 (.int .i64 lv)⟩
            case rest =>
             have AB3 := hcut
             obtain ⟨wf, hwf⟩ : ∃ x, x = wc := ⟨_, rfl⟩
             subst hwf
             clear HI hcut
             have hkg := AB3.out.2
             have f0 := hkg.cell 0
             have f1 := hkg.cell 1
             have f2 := hkg.cell 2
             simp only [List.getElem?_toArray, List.getElem?_cons_zero, List.getElem?_cons_succ] at f0 f1 f2
             have hbf := AJ.out.pa.bel.trans (AB3.out.1.mono AJ.out.pa.bel.size)
             have hkR := AJ.out.pa.rule.below AB3.out.1
             have hVf := AJ.out.txt.below AB3.out.1
             have hOf := AJ.out.own.below AB3.out.1
             have r3 := hkR.cell 3
             simp only [List.getElem?_toArray, List.getElem?_cons_zero, List.getElem?_cons_succ] at r3
             have hgl : gs.length < 1000000 := by have := AJ.out.num; omega
             have hcap : L3.length + 1 + 1 + 1 ≤ c := by have := AJ.out.cap; simpa using this
             obtain ⟨q, rfl⟩ : ∃ q, gk = q + 1 := ⟨gk - 1, by have := AJ.out.fuel; omega⟩
             have hokd : ∀ bb : Bool, bb = (ok' && decide (0 ≤ lv)) → (bb = true → T = grantsOk (grantsP L3 (gs ++ [⟨k0', n0', lv⟩]))) ∧ (bb = false → T = none) := by
              intro bb hbb
              have ht := HT2.out
              have hl := HLV.out
              have ho := AO2.out
              cases hK : K2 with
              | none =>
               rw [hK] at ht ho
               obtain rfl : ok' = false := ho
               refine ⟨fun h => ?_, fun _ => ht⟩
               rw [h] at hbb
               cases hbb
              | some y =>
               obtain ⟨who, nm⟩ := y
               rw [hK] at ht ho
               obtain rfl : ok' = true := ho
               obtain ⟨rfl, rfl⟩ := AK2.out who nm hK
               simp only [Bool.true_and] at hbb
               cases hi : idxOf levelWs v2 with
               | none =>
                rw [hi] at ht hl
                simp only at ht hl
                refine ⟨fun h => ?_, fun _ => ht⟩
                rw [h] at hbb
                have := of_decide_eq_true hbb.symm
                omega
               | some lev =>
                rw [hi] at ht hl
                simp only at ht hl
                subst hl
                refine ⟨fun _ => ht, fun h => ?_⟩
                rw [h] at hbb
                have := of_decide_eq_false hbb.symm
                omega
             have HOKD := Lib.hid hokd
             clear hokd HT2 HLV AO2 AK2 AB
             go_upto_region 18 with fail
             go_cut [5] (fun s5 wx => wx = wf ∧ s5 = .bool (ok' && decide (0 ≤ lv)))
             case first =>
              cases ok' with
              | false =>
               go_wp2_with fail
               go_meet
               exact ⟨rfl, rfl⟩
              | true =>
               go_wp2_with fail
               all_goals
                go_meet
                refine ⟨rfl, ?_⟩
                simp
             case rest =>
              obtain ⟨rfl, rfl⟩ := hcut
              have hgd := HOKD.out _ rfl
              have HGD := Lib.hid hgd
              obtain ⟨bb, hbb⟩ : ∃ b, (ok' && decide (0 ≤ lv)) = b := ⟨_, rfl⟩
              rw [hbb] at HGD ⊢
              clear hgd hbb HOKD
              go_wp2_with (at_builtin; refine grant_one (g := ⟨k0', n0', lv⟩) rfl _ _ rfl rfl hOf rfl rfl hgl ?_; intro v' w7 hO7 hg7; obtain ⟨A7, n7, c7, rfl⟩ : ∃ A n c, v' = .slice A n c := (by obtain ⟨A, c, h, _⟩ := hO7.isSlice; exact ⟨A, _, c, h⟩); have hB7 := OwnGr.bel hbf hOf hg7; have hk7 := hkR.grown hg7 (hOf.ne hkR (by decide)); have hV7 := hVf.beside hOf hg7; have z0 := hk7.cell 3; have y0 := hk7.frozen 3; simp only [List.getElem?_toArray, List.getElem?_cons_zero, List.getElem?_cons_succ] at z0)
              all_goals
               go_roundg q
               case measure => omega
               case rel =>
                refine ⟨_, _, o + 3, _, L3, gs ++ [⟨k0', n0', lv⟩], .slice A7 n7 c7, rfl, rfl, ⟨by omega, fun h => ?_, ?_, ?_, ⟨hB7.setCell (Nat.le_refl _) _, by simpa using hk7.set 3 (.slice A7 n7 c7)⟩, hV7.far hk7 (by decide) _, hO7.far hk7 (by decide) _, ?_, HGD.out.1, HGD.out.2⟩⟩
                ·first
                  | rfl
                  | (exfalso; have := List.length_pos_iff.2 h; omega)
                ·have := AJ.out.drop
                 rw [← List.drop_drop, this]
                 rfl
                ·have := AJ.out.fuel
                 simp only [List.length_cons] at this
                 omega
                ·have := AJ.out.num
                 simp only [List.length_cons, List.length_append, List.length_nil] at this ⊢
                 omega
theorem aclParse_c (s : List UInt8) (w : World) (hw : Env w) (hs : s.length ≤ 4611686018427387904) : Calls Tryz.prog 7 #[.string ⟨s.toArray⟩] w (AParseRet w (parseA s)) := by
 rw [parseA_rule]
 by_cases hl : 65536 < s.length
 ·rw [if_pos hl]
  exact Parse_long s w hl hs
 ·rw [if_neg hl]
  cases ha : aclWords s with
  | none => exact Parse_nowords s w (by omega) ha
  | some l =>
   simp only [Option.bind_some]
   match l, ha with
   | [], ha => exact Parse_few s w (by omega) [] ha (by decide)
   | [t], ha => exact Parse_few s w (by omega) [t] ha (by simp)
   | t :: k :: l, ha =>
    cases ht : (t == wTo) with
    | false =>
     have hr : ruleP (t :: k :: l) = none := by
      unfold ruleP
      simp only
      rw [ht]
      rfl
     rw [hr]
     exact Parse_noto s w (by omega) t k l ha ht
    | true =>
     obtain rfl : t = wTo := by simpa using ht
     exact Parse_main s w hw (by omega) k l ha
end Go.Proofs.YtbjmpmgiigombaaGreatDoor
