import Derived.Test.YtkkbbhlihilnpaaGreatDoorWs1
set_option linter.all false
set_option maxHeartbeats 8000000
set_option maxRecDepth 100000
namespace Go.Proofs.YtkkbbhlihilnpaaGreatDoor
open Go.RowKit
theorem own_one_at {ops : Array Oper} {rest : List Oper} {o : Oper} {a : Act} {Q : Exit → Act → World → Prop} (hgd : o.guard = none) (s x : Operand) (ho : o.op = .call { callee := .builtin .append, args := #[s, x], argTypes := #[23, 23] })
  {v : Value} {xs : LL} {B N : Nat} {w0 : World} {c : LU} (hs : a.eval s = v) (hb : Own B w0 v xs)
  (hx : a.eval x = .slice (some ⟨N, 0, none⟩) 1 1) (hN : N = w0.heap.size) (hlen : xs.length < 4398046511104)
  (h : ∀ v' w', Own B w' v' (xs ++ [c]) → (w0.alloc (.cells #[.string ⟨c.toArray⟩] 9)).grownBy w' v.ownBlock → (v'.ownBlock = v.ownBlock ∨ v'.ownBlock = some (w0.alloc (.cells #[.string ⟨c.toArray⟩] 9)).heap.size) → wpList Tryz.prog ops Q rest (a.put o.dst v') w') : wpList Tryz.prog ops Q (o :: rest) a (w0.alloc (.cells #[.string ⟨c.toArray⟩] 9)) := by
 subst hN
 obtain ⟨i, h1, h2, h3, h4⟩ := infoStr
 have hb' := hb.keep (World.grownBy_alloc w0 (.cells #[.string ⟨c.toArray⟩] 9) none) (fun k hk => by cases hk)
 refine wpList_append_own_at _ hgd s x 23 ho B 9 i (.string ⟨#[]⟩) 1 16 Tryz.underlying23 h1 h2 h3 h4 rfl (by decide) v _ _ hs hb'.1 ⟨w0.heap.size, 0, none⟩ 1 1 [.string ⟨c.toArray⟩] hx rfl ?_ ?_ (by unfold maxLen; omega) (by omega) hb'.2 ?_
 ·intro j u hj
  match j, hj with
  | 0, hj => simp at hj; subst hj; simp [Addr.add]
  | (j + 1), hj => simp at hj
 ·intro u hu; simp at hu; subst hu; rfl
 ·intro v' w' ho' hg _ hpl
  refine h v' w' ⟨?_, Nat.le_trans hb'.2 hg.size⟩ hg hpl
  simpa [strV] using ho'
theorem Two.later {B : Nat} {w w' : World} {v u : Value} {xs ys : BLs} (h1 : Own B w v xs) (hb : Below w.heap.size w w') (h2 : Own w.heap.size w' u ys) : Two B w' v u xs ys :=
 ⟨h1.below hb, h2.lower h1.2, fun k hk hu => by have a := (h1.lt k hk).2; have b := (h2.lt k hu).1; omega⟩
theorem Two.lower {B B' : Nat} {w : World} {v u : Value} {xs ys : BLs} (h : Two B w v u xs ys) (hB : B' ≤ B) : Two B' w v u xs ys := ⟨h.1.lower hB, h.2.1.lower hB, h.2.2⟩
def setR (e : Ent.EntryE) (t : LU) : Int ⊕ LL → Int ⊕ Ent.EntryE
 | .inl c => .inl c
 | .inr l => .inr (Ent.setE e t l)
def ChgRet (B p : Nat) (w : World) (R : Int ⊕ Ent.EntryE) (r : Ending) (w' : World) : Prop := ChgB B p w w' ∧ match R with
 | .inl k => r = .returned (.int .i64 k)
 | .inr e' => r = .returned (.int .i64 0) ∧ EntAt B w' p e'
theorem bel_next {N : Nat} {W0 a b : World} (h0 : W0.heap.size = N) (h : Below N W0 a) (hb : Below a.heap.size a b) : Below N W0 b := h.trans (hb.mono (by have := h.size; omega))
theorem chg_box {w : World} {s p : Nat} {t : LU} {perm : Bool} : Hid (∀ W, Below (w.heap.size + 1) (w.alloc (.cells #[.pointer (some ⟨s, 0, none⟩), .pointer (some ⟨p, 0, none⟩), .string ⟨t.toArray⟩, .bool perm] 97)) W → W.cell? ⟨w.heap.size, 0, none⟩ = some (.pointer (some ⟨s, 0, none⟩)) ∧ W.cell? ⟨w.heap.size, 1, none⟩ = some (.pointer (some ⟨p, 0, none⟩)) ∧ W.cell? ⟨w.heap.size, 2, none⟩ = some (.string ⟨t.toArray⟩) ∧ W.cell? ⟨w.heap.size, 3, none⟩ = some (.bool perm)) := hiD fun W h => by
 have hkx := Bk.new w 97 #[.pointer (some ⟨s, 0, none⟩), .pointer (some ⟨p, 0, none⟩), .string ⟨t.toArray⟩, .bool perm]
 have h' := hkx.below (by rw [World.size_alloc]; exact h)
 exact ⟨h'.cell 0, h'.cell 1, h'.cell 2, h'.cell 3⟩
theorem sized_box {w : World} {s p : Nat} {t : LU} {perm : Bool} : Hid ((w.alloc (.cells #[.pointer (some ⟨s, 0, none⟩), .pointer (some ⟨p, 0, none⟩), .string ⟨t.toArray⟩, .bool perm] 97)).heap.size = w.heap.size + 1) := hiD (by simp)
theorem add_c (B s p : Nat) (ps : List Nat) (L : List DefS) (hL : Sound L) (t : LU) (perm : Bool) (e : Ent.EntryE) (us : LL) (vu : Value) (w : World) (hw : Env w) (hS : SchAt w s ps L) (ht : t.length ≤ 1000000) (hE : EntAt B w p e) (hl : e.attrs.length ≤ 1000) (hvl : (Ent.valuesE e t).length ≤ 1000) (hu : TextsA w vu us) (hul : us.length ≤ 2000000) :
  Calls Tryz.prog 96 #[chgV s p t perm, vu] w (ChgRet B p w (Ent.addE (schE L) perm e t us)) := by
 have hbx := bel_one w (.cells #[.pointer (some ⟨s, 0, none⟩), .pointer (some ⟨p, 0, none⟩), .string ⟨t.toArray⟩, .bool perm] 97)
 have HK := chg_box (w := w) (s := s) (p := p) (t := t) (perm := perm)
 have HZ := sized_box (w := w) (s := s) (p := p) (t := t) (perm := perm)
 have HVal := hiD (values_c B s p t perm e _ (hE.below hbx) hl)
 have HE := hiD hE
 have HN : Hid (∀ (xs : LL) (v : Value) (W : World), Below w.heap.size w W → TextsA W v xs → xs.length ≤ 4000000 → Calls Tryz.prog 144 #[chgV s p t perm, v] W fun r w' => Below W.heap.size W w' ∧ ∃ A c, r = .returned (.slice A (xs.map (Ent.normF (schE L) t)).length c) ∧ Own W.heap.size w' (.slice A (xs.map (Ent.normF (schE L) t)).length c) (xs.map (Ent.normF (schE L) t))) := hiD fun xs v W h hT hl => (norms_c s p ps L hL t perm xs v W (hw.keep h) (hS.below h) ht hT hl).mono (by
  rintro r w' ⟨hb, v', rfl, hO⟩
  obtain ⟨A, c, rfl, _⟩ := hO.isSlice
  exact ⟨hb, A, c, rfl, hO⟩)
 have HSet : Hid (∀ (l : LL) (v : Value) (W : World), Below w.heap.size w W → Own 0 W v l → Calls Tryz.prog 145 #[chgV s p t perm, v] W fun r w' => r = .returned (.tuple #[]) ∧ ChgB B p W w' ∧ EntAt B w' p (Ent.setE e t l)) := hiD fun l v W h hO => set_c B s p t perm e l v W (hE.below h) hl hO
 have hBw : B ≤ w.heap.size := by
  obtain ⟨_, _, _, _, _, _, hO, _⟩ := hE
  exact hO.2
 have HU := hiD hu
 obtain ⟨Au, cu, rfl, hcu, hucell⟩ := hu.at
 have HUC := hiD hucell
 obtain ⟨F, hF⟩ : ∃ F, Ent.addF (schE L) perm ((Ent.valuesE e t).map (Ent.normF (schE L) t)) t us (Ent.valuesE e t) = F := ⟨_, rfl⟩
 have hR : Ent.addE (schE L) perm e t us = setR e t F := by
  rw [← hF]
  rfl
 rw [hR]
 have HF := hiD hF
 clear hE hu hF hR hw hS hucell ht
 generalize Ent.valuesE e t = vals at *
 unfold chgV at *
 have hx0 : Below (w.heap.size + 1) (w.alloc (.cells #[.pointer (some ⟨s, 0, none⟩), .pointer (some ⟨p, 0, none⟩), .string ⟨t.toArray⟩, .bool perm] 97)) (w.alloc (.cells #[.pointer (some ⟨s, 0, none⟩), .pointer (some ⟨p, 0, none⟩), .string ⟨t.toArray⟩, .bool perm] 97)) := Below.refl _ _
 have HBX := hiD hbx
 clear hbx
 have HLen : Hid ((vals.map (Ent.normF (schE L) t)).length = vals.length) := hiD (by simp)
 have HLen2 : Hid ((us.map (Ent.normF (schE L) t)).length = us.length) := hiD (by simp)
 obtain ⟨hv, hhv⟩ : ∃ l, l = vals.map (Ent.normF (schE L) t) := ⟨_, rfl⟩
 have HN1 := hiD (fun v W h1 h2 => HN.out vals v W h1 h2 (by omega))
 have HN2 := hiD (fun v W h1 h2 => HN.out us v W h1 h2 (by omega))
 rw [← hhv] at HN1 HF HLen
 obtain ⟨nv, hnv⟩ : ∃ l, l = us.map (Ent.normF (schE L) t) := ⟨_, rfl⟩
 rw [← hnv] at HN2 HLen2
 have HNV := hiD hnv
 clear HN hhv hnv
 go_enter Tryz.func96, Tryz.ntmps96
 go_wp2_with (first
  | (go_at_call 100; (with_reducible refine HVal.out.mono ?_); rintro r w2 ⟨hb2, A2, c2, rfl, hT2⟩; have hB2 := bel_next HZ.out hx0 hb2; have hW2 := HBX.out.trans (hb2.mono HBX.out.size))
  | (go_at_call 55; (with_reducible refine (CloneA_c _ _ _ hT2 (by omega)).mono ?_); rintro r w3 ⟨v3, rfl, hO3, hb3⟩; obtain ⟨A3, c3, rfl, _⟩ := hO3.isSlice; have hB3 := bel_next HZ.out hB2 hb3; have hW3 := hW2.trans (hb3.mono hW2.size); obtain ⟨k0, k1, k2, k3⟩ := HK.out _ hB3)
  | (go_at_call 144; (with_reducible refine (HN1.out _ _ hW3 hO3.textsA).mono ?_); rintro r w4 ⟨hb4, A4, c4, rfl, hO4⟩; have hB4 := bel_next HZ.out hB3 hb4; have hW4 := hW3.trans (hb4.mono hW3.size); obtain ⟨k0, k1, k2, k3⟩ := HK.out _ hB4)
  | (go_at_call 144; (with_reducible refine (HN2.out _ _ hW4 (HU.out.below hW4)).mono ?_); rintro r w5 ⟨hb5, A5, c5, rfl, hO5⟩; have hB5 := bel_next HZ.out hB4 hb5; have hW5 := hW4.trans (hb5.mono hW4.size)))
 generalize w.alloc (.cells #[.pointer (some ⟨s, 0, none⟩), .pointer (some ⟨p, 0, none⟩), .string ⟨t.toArray⟩, .bool perm] 97) = W0 at *
 have hN0 : w.heap.size + 1 ≤ w2.heap.size := by have h := hB2.size; rw [HZ.out] at h; exact h
 have hT0 : Two (w.heap.size + 1) w5 (.slice A3 vals.length c3) (.slice A4 hv.length c4) vals hv := (Two.later hO3 (hb4.trans (hb5.mono hb4.size)) (hO4.below hb5)).lower hN0
 have hT1 : Two (w.heap.size + 1) w5 (.slice A3 vals.length c3) (.slice A5 nv.length c5) vals nv := (Two.later hO3 (hb4.trans (hb5.mono hb4.size)) (hO5.lower hb4.size)).lower hN0
 have HUT := hiD (HU.out)
 clear hO3 hO4 hO5 hb2 hb3 hb4 hb5 hB2 hB3 hB4 hW2 hW3 hW4 k0 k1 k2 k3 hT2 HVal HN1 HN2 hx0 hN0
 go_loopg [5, 19] us.length (fun gk l i wr => ∃ (k : Nat) (acc : LL), k ≤ us.length ∧ i = .int .i64 k ∧ Aside (k + gk = us.length) ∧ Aside (acc.length ≤ vals.length + k) ∧ Aside (Below (w.heap.size + 1) W0 wr) ∧ Aside (Two (w.heap.size + 1) wr l (.slice A4 hv.length c4) acc hv ∧ Two (w.heap.size + 1) wr l (.slice A5 nv.length c5) acc nv) ∧ Aside (Ent.addF (schE L) perm hv t (us.drop k) acc = F))
 case atStart => exact ⟨0, vals, by omega, rfl, by show _ = _; omega, Nat.le_refl _, hB5, ⟨hT0, hT1⟩, HF.out⟩
 case round =>
  clear hT0 hT1 HF hB5 hW5
  obtain ⟨k, acc, hk, rfl, AG, AC, AB, AT, AS⟩ := hrel
  obtain ⟨Al, cl, rfl, hcl⟩ := AT.out.1.1.isSlice
  obtain ⟨k0, k1, k2, k3⟩ := HK.out _ AB.out
  have hWr := HBX.out.trans (AB.out.mono (Nat.le_succ _))
  have hBr : ChgB B p w wr := ChgB.below hBw hWr
  have hOw := AT.out.1.1
  by_cases hlt : k < us.length
  ·obtain ⟨q, rfl⟩ : ∃ q, gk = q + 1 := ⟨gk - 1, by have := AG.out; omega⟩
   obtain ⟨au, rfl, c0⟩ := HUC.out k hlt
   have d0 := (hWr.cell (cell_lt c0)).trans c0
   have hkn : k < nv.length := by rw [HLen2.out]; exact hlt
   obtain ⟨A5', c5', hsl5, _, hnc⟩ := AT.out.2.2.1.textsA.at
   cases hsl5
   obtain ⟨an, rfl, n0⟩ := hnc k hkn
   have hnk : nv[k] = Ent.normF (schE L) t us[k] := by
    have h := HNV.out
    subst h
    rw [List.getElem_map]
   have AS' : Aside ((if !hv.contains nv[k] then Ent.addF (schE L) perm hv t (us.drop (k + 1)) (acc ++ [us[k]]) else if !perm then .inl 20 else Ent.addF (schE L) perm hv t (us.drop (k + 1)) acc) = F) := by have := AS.out; rw [List.drop_eq_getElem_cons hlt, Ent.addF, ← hnk] at this; exact this
   have hct := ContainsSA_c nv[k] hv _ wr AT.out.1.2.1.textsA (by rw [HLen.out]; omega)
   have hacl : acc.length < 4398046511104 := by have := AC.out; omega
   have hll : ((k : Int) < (nv.length : Int)) := by omega
   clear c0 hnc hnk AS
   generalize nv[k] = y at *
   generalize us[k] = x at *
   cases hcn : hv.contains y
   ·rw [hcn] at hct AS'
    have AS2 : Aside (Ent.addF (schE L) perm hv t (us.drop (k + 1)) (acc ++ [x]) = F) := (by have := AS'.out; simpa using this : Ent.addF (schE L) perm hv t (us.drop (k + 1)) (acc ++ [x]) = F)
    have HCt := hiD hct
    have hbz := bel_one wr (.cells #[.string ⟨x.toArray⟩] 9)
    have hT0 := AT.out.1.below hbz
    have hT1 := AT.out.2.below hbz
    have hBz := bel_next HZ.out AB.out hbz
    clear AS' hcn hct hWr hBr
    go_wp2_with (first
     | (go_at_call 51; (with_reducible refine HCt.out.mono ?_); rintro r w6 ⟨rfl, rfl⟩)
     | (at_builtin; refine own_one_at (c := x) rfl _ _ rfl rfl hOw rfl rfl hacl ?_; intro v' w7 hO7 hg7 hp7))
    go_roundg q
    case measure => omega
    case rel => exact ⟨k + 1, acc ++ [x], by omega, by go_num, by have := AG.out; show _ = _; omega, by have := AC.out; show _ ≤ _; rw [List.length_append, List.length_singleton]; omega, Own.bel hBz hT0.1 hg7, ⟨hT0.fst hO7 hg7 hp7, hT1.fst hO7 hg7 hp7⟩, AS2.out⟩
   ·rw [hcn] at hct AS'
    have HCt := hiD hct
    clear hcn hct
    cases perm
    ·have AS2 : Aside (F = .inl 20) := (by have := AS'.out; simpa using this.symm : F = .inl 20)
     clear AS'
     go_wp2_with (go_at_call 51; (with_reducible refine HCt.out.mono ?_); rintro r w6 ⟨rfl, rfl⟩)
     go_ret
     rw [AS2.out]
     exact ⟨hBr, rfl⟩
    ·have AS2 : Aside (Ent.addF (schE L) true hv t (us.drop (k + 1)) acc = F) := (by have := AS'.out; simpa using this : Ent.addF (schE L) true hv t (us.drop (k + 1)) acc = F)
     clear AS'
     go_wp2_with (go_at_call 51; (with_reducible refine HCt.out.mono ?_); rintro r w6 ⟨rfl, rfl⟩)
     go_roundg q
     case measure => omega
     case rel => exact ⟨k + 1, acc, by omega, by go_num, by have := AG.out; show _ = _; omega, by have := AC.out; show _ ≤ _; omega, AB.out, AT.out, AS2.out⟩
  ·obtain rfl : k = us.length := by omega
   have AS2 : Aside (F = .inr acc) := by have := AS.out; rw [List.drop_length] at this; exact this.symm
   have HS2 := hiD (HSet.out acc _ wr hWr (hOw.lower (Nat.zero_le _)))
   have hll : ¬ ((us.length : Int) < (nv.length : Int)) := by have := HLen2.out; omega
   clear AS
   go_wp2_with (go_at_call 145; (with_reducible refine HS2.out.mono ?_); rintro r w6 ⟨rfl, hb6, hE6⟩)
   go_ret
   rw [AS2.out]
   exact ⟨hBr.trans hb6, rfl, hE6⟩
open Go.RowKit
theorem replace_c (B s p : Nat) (S : Ent.SchE) (t : LU) (perm : Bool) (e : Ent.EntryE) (us : LL) (vu : Value) (w : World) (hE : EntAt B w p e) (hl : e.attrs.length ≤ 1000) (hu : Own 0 w vu us) :
  Calls Tryz.prog 98 #[chgV s p t perm, vu] w (ChgRet B p w (.inr (Ent.setE e t us))) := by
 have hbx := bel_one w (.cells #[.pointer (some ⟨s, 0, none⟩), .pointer (some ⟨p, 0, none⟩), .string ⟨t.toArray⟩, .bool perm] 97)
 have HS := hiD (set_c B s p t perm e us vu _ (hE.below hbx) hl (hu.below hbx))
 have hBw : B ≤ w.heap.size := by
  obtain ⟨_, _, _, _, _, _, hO, _⟩ := hE
  exact hO.2
 obtain ⟨Au, cu, rfl, hcu⟩ := hu.isSlice
 unfold chgV at *
 clear hE hu
 go_enter Tryz.func98, Tryz.ntmps98
 go_wp2_with (go_at_call 145; (with_reducible refine HS.out.mono ?_); rintro r w2 ⟨rfl, hb2, hE2⟩)
 go_ret
 exact ⟨(ChgB.below hBw hbx).trans hb2, rfl, hE2⟩
theorem remove_c (B s p : Nat) (ps : List Nat) (L : List DefS) (hL : Sound L) (t : LU) (perm : Bool) (e : Ent.EntryE) (us : LL) (vu : Value) (w : World) (hw : Env w) (hS : SchAt w s ps L) (ht : t.length ≤ 1000000) (hE : EntAt B w p e) (hl : e.attrs.length ≤ 1000) (hvl : (Ent.valuesE e t).length ≤ 1000) (hu : TextsA w vu us) (hul : us.length ≤ 2000000) :
  Calls Tryz.prog 97 #[chgV s p t perm, vu] w (ChgRet B p w (Ent.removeE (schE L) perm e t us)) := by
 have hbx := bel_one w (.cells #[.pointer (some ⟨s, 0, none⟩), .pointer (some ⟨p, 0, none⟩), .string ⟨t.toArray⟩, .bool perm] 97)
 have HK := chg_box (w := w) (s := s) (p := p) (t := t) (perm := perm)
 have HZ := sized_box (w := w) (s := s) (p := p) (t := t) (perm := perm)
 have HVal := hiD (values_c B s p t perm e _ (hE.below hbx) hl)
 have HAt := hiD (at_c B s p t perm e _ (hE.below hbx) hl)
 have HN : Hid (∀ (xs : LL) (v : Value) (W : World), Below w.heap.size w W → TextsA W v xs → xs.length ≤ 4000000 → Calls Tryz.prog 144 #[chgV s p t perm, v] W fun r w' => Below W.heap.size W w' ∧ ∃ A c, r = .returned (.slice A (xs.map (Ent.normF (schE L) t)).length c) ∧ Own W.heap.size w' (.slice A (xs.map (Ent.normF (schE L) t)).length c) (xs.map (Ent.normF (schE L) t))) := hiD fun xs v W h hT hl => (norms_c s p ps L hL t perm xs v W (hw.keep h) (hS.below h) ht hT hl).mono (by
  rintro r w' ⟨hb, v', rfl, hO⟩
  obtain ⟨A, c, rfl, _⟩ := hO.isSlice
  exact ⟨hb, A, c, rfl, hO⟩)
 have HSet : Hid (∀ (l : LL) (v : Value) (W : World), Below w.heap.size w W → Own 0 W v l → Calls Tryz.prog 145 #[chgV s p t perm, v] W fun r w' => r = .returned (.tuple #[]) ∧ ChgB B p W w' ∧ EntAt B w' p (Ent.setE e t l)) := hiD fun l v W h hO => set_c B s p t perm e l v W (hE.below h) hl hO
 have hBw : B ≤ w.heap.size := by
  obtain ⟨_, _, _, _, _, _, hO, _⟩ := hE
  exact hO.2
 have HU := hiD hu
 have HBX := hiD hbx
 have hx0 : Below (w.heap.size + 1) (w.alloc (.cells #[.pointer (some ⟨s, 0, none⟩), .pointer (some ⟨p, 0, none⟩), .string ⟨t.toArray⟩, .bool perm] 97)) (w.alloc (.cells #[.pointer (some ⟨s, 0, none⟩), .pointer (some ⟨p, 0, none⟩), .string ⟨t.toArray⟩, .bool perm] 97)) := Below.refl _ _
 obtain ⟨Au, cu, rfl, hcu, hucell⟩ := hu.at
 by_cases hus : us = []
 ·subst hus
  have hR : Ent.removeE (schE L) perm e t [] = if (Ent.atE e t).isNone && !perm then .inl 16 else .inr (Ent.setE e t []) := by
   unfold Ent.removeE
   rw [if_pos (by rfl)]
  rw [hR]
  unfold chgV at *
  clear hE hu hR hw hS hucell ht hvl HN HVal hbx
  cases hat : Ent.atE e t with
  | none =>
   rw [hat] at HAt
   unfold atI at HAt
   simp only at HAt
   cases perm
   ·go_enter Tryz.func97, Tryz.ntmps97
    go_wp2_with (go_at_call 146; (with_reducible refine HAt.out.mono ?_); rintro r w2 ⟨rfl, hb2⟩; obtain ⟨k0, k1, k2, k3⟩ := HK.out _ (bel_next HZ.out hx0 hb2))
    go_ret
    exact ⟨ChgB.below hBw (HBX.out.trans (hb2.mono HBX.out.size)), rfl⟩
   ·go_enter Tryz.func97, Tryz.ntmps97
    go_wp2_with (first
     | (go_at_call 146; (with_reducible refine HAt.out.mono ?_); rintro r w2 ⟨rfl, hb2⟩; obtain ⟨k0, k1, k2, k3⟩ := HK.out _ (bel_next HZ.out hx0 hb2); have hB2 := HBX.out.trans (hb2.mono HBX.out.size))
     | (go_at_call 145; (with_reducible refine (HSet.out [] _ _ hB2 (Own.nil (Nat.zero_le _))).mono ?_); rintro r w3 ⟨rfl, hb3, hE3⟩))
    go_ret
    exact ⟨(ChgB.below hBw hB2).trans hb3, rfl, hE3⟩
  | some i =>
   rw [hat] at HAt
   unfold atI at HAt
   simp only at HAt
   have hi0 : ¬ ((i : Int) < 0) := by omega
   go_enter Tryz.func97, Tryz.ntmps97
   go_wp2_with (first
    | (go_at_call 146; (with_reducible refine HAt.out.mono ?_); rintro r w2 ⟨rfl, hb2⟩; obtain ⟨k0, k1, k2, k3⟩ := HK.out _ (bel_next HZ.out hx0 hb2); have hB2 := HBX.out.trans (hb2.mono HBX.out.size))
    | (go_at_call 145; (with_reducible refine (HSet.out [] _ _ hB2 (Own.nil (Nat.zero_le _))).mono ?_); rintro r w3 ⟨rfl, hb3, hE3⟩))
   go_ret
   exact ⟨(ChgB.below hBw hB2).trans hb3, rfl, hE3⟩
 have hun : us.length ≠ 0 := fun h => hus (List.eq_nil_of_length_eq_zero h)
 have hz : ((us.length : Int) == 0) = false := beq_eq_false_iff_ne.2 (by omega)
 obtain ⟨F, hF⟩ : ∃ F, Ent.removeF perm (us.map (Ent.normF (schE L) t)) (Ent.valuesE e t) ((Ent.valuesE e t).map (Ent.normF (schE L) t)) = F := ⟨_, rfl⟩
 have hR : Ent.removeE (schE L) perm e t us = setR e t F := by
  rw [← hF]
  unfold Ent.removeE
  rw [if_neg (fun h => hus (List.isEmpty_iff.1 h))]
  rfl
 rw [hR]
 have HF := hiD hF
 clear hE hu hF hR hw hS hucell ht HAt hus hbx
 generalize Ent.valuesE e t = vals at *
 unfold chgV at *
 have HLen : Hid ((vals.map (Ent.normF (schE L) t)).length = vals.length) := hiD (by simp)
 have HLen2 : Hid ((us.map (Ent.normF (schE L) t)).length = us.length) := hiD (by simp)
 obtain ⟨hv, hhv⟩ : ∃ l, l = vals.map (Ent.normF (schE L) t) := ⟨_, rfl⟩
 have HN1 := hiD (fun v W h1 h2 => HN.out vals v W h1 h2 (by omega))
 have HN2 := hiD (fun v W h1 h2 => HN.out us v W h1 h2 (by omega))
 rw [← hhv] at HN1 HF HLen
 obtain ⟨nv, hnv⟩ : ∃ l, l = us.map (Ent.normF (schE L) t) := ⟨_, rfl⟩
 rw [← hnv] at HN2 HLen2 HF
 clear HN hhv hnv
 go_enter Tryz.func97, Tryz.ntmps97
 go_wp2_with (first
  | (go_at_call 100; (with_reducible refine HVal.out.mono ?_); rintro r w2 ⟨hb2, A2, c2, rfl, hT2⟩; have hB2 := bel_next HZ.out hx0 hb2; have hW2 := HBX.out.trans (hb2.mono HBX.out.size))
  | (go_at_call 55; (with_reducible refine (CloneA_c _ _ _ hT2 (by omega)).mono ?_); rintro r w3 ⟨v3, rfl, hO3, hb3⟩; obtain ⟨A3, c3, rfl, _⟩ := hO3.isSlice; have hB3 := bel_next HZ.out hB2 hb3; have hW3 := hW2.trans (hb3.mono hW2.size); obtain ⟨k0, k1, k2, k3⟩ := HK.out _ hB3)
  | (go_at_call 144; (with_reducible refine (HN1.out _ _ hW3 hO3.textsA).mono ?_); rintro r w4 ⟨hb4, A4, c4, rfl, hO4⟩; have hB4 := bel_next HZ.out hB3 hb4; have hW4 := hW3.trans (hb4.mono hW3.size); obtain ⟨k0, k1, k2, k3⟩ := HK.out _ hB4)
  | (go_at_call 144; (with_reducible refine (HN2.out _ _ hW4 (HU.out.below hW4)).mono ?_); rintro r w5 ⟨hb5, A5, c5, rfl, hO5⟩; have hB5 := bel_next HZ.out hB4 hb5; have hW5 := hW4.trans (hb5.mono hW4.size)))
 generalize w.alloc (.cells #[.pointer (some ⟨s, 0, none⟩), .pointer (some ⟨p, 0, none⟩), .string ⟨t.toArray⟩, .bool perm] 97) = W0 at *
 have hN0 : w.heap.size + 1 ≤ w2.heap.size := by have h := hB2.size; rw [HZ.out] at h; exact h
 have hN3 : w.heap.size + 1 ≤ w3.heap.size := by have h := hB3.size; rw [HZ.out] at h; exact h
 have hT0 : Two (w.heap.size + 1) w5 (.slice A3 vals.length c3) (.slice A4 hv.length c4) vals hv := (Two.later hO3 (hb4.trans (hb5.mono hb4.size)) (hO4.below hb5)).lower hN0
 have hT1 : Two (w.heap.size + 1) w5 (.slice A3 vals.length c3) (.slice A5 nv.length c5) vals nv := (Two.later hO3 (hb4.trans (hb5.mono hb4.size)) (hO5.lower hb4.size)).lower hN0
 have hT2' : Two (w.heap.size + 1) w5 (.slice A4 hv.length c4) (.slice A5 nv.length c5) hv nv := (Two.later hO4 hb5 hO5).lower hN3
 clear hO3 hO4 hO5 hb2 hb3 hb4 hb5 hB2 hB3 hB4 hW2 hW3 hW4 k0 k1 k2 k3 hT2 HVal HN1 HN2 hx0 hN0 hN3
 go_loopg [5, 6, 33] us.length (fun gk l h i wr => ∃ (k : Nat) (acc hac : LL), k ≤ us.length ∧ i = .int .i64 k ∧ Aside (k + gk = us.length) ∧ Aside (acc.length = hac.length ∧ acc.length ≤ 1000) ∧ Aside (Below (w.heap.size + 1) W0 wr) ∧ Aside (Two (w.heap.size + 1) wr l h acc hac ∧ Two (w.heap.size + 1) wr l (.slice A5 nv.length c5) acc nv ∧ Two (w.heap.size + 1) wr h (.slice A5 nv.length c5) hac nv) ∧ Aside (Ent.removeF perm (nv.drop k) acc hac = F))
 case atStart => exact ⟨0, vals, hv, by omega, rfl, by show _ = _; omega, ⟨HLen.out.symm, hvl⟩, hB5, ⟨hT0, hT1, hT2'⟩, HF.out⟩
 case round =>
  clear hT0 hT1 hT2' HF hB5 hW5
  obtain ⟨k, acc, hac, hk, rfl, AG, AC, AB, AT, AS⟩ := hrel
  obtain ⟨Al, cl, rfl, hcl⟩ := AT.out.1.1.isSlice
  obtain ⟨Ah, ch, rfl, hch⟩ := AT.out.1.2.1.isSlice
  obtain ⟨k0, k1, k2, k3⟩ := HK.out _ AB.out
  have hWr := HBX.out.trans (AB.out.mono (Nat.le_succ _))
  have hBr : ChgB B p w wr := ChgB.below hBw hWr
  have hOl := AT.out.1.1
  have hOh := AT.out.1.2.1
  by_cases hlt : k < us.length
  ·obtain ⟨q, rfl⟩ : ∃ q, gk = q + 1 := ⟨gk - 1, by have := AG.out; omega⟩
   have hkn : k < nv.length := by rw [HLen2.out]; exact hlt
   obtain ⟨A5', c5', hsl5, _, hnc⟩ := AT.out.2.1.2.1.textsA.at
   cases hsl5
   obtain ⟨an, rfl, n0⟩ := hnc k hkn
   have AS' : Aside ((match hac.findIdx? (· == nv[k]) with
    | some i => Ent.removeF perm (nv.drop (k + 1)) (acc.eraseIdx i) (hac.eraseIdx i)
    | none => if !perm then .inl 16 else Ent.removeF perm (nv.drop (k + 1)) acc hac) = F) := by have := AS.out; rw [List.drop_eq_getElem_cons hkn, Ent.removeF] at this; exact this
   have hix := IndexSA_c nv[k] hac _ wr hOh.textsA (by have := AC.out; omega)
   have hll : ((k : Int) < (nv.length : Int)) := by omega
   have hst : ∀ i, hac.findIdx? (· == nv[k]) = some i → i < hac.length := fun i h => (List.findIdx?_eq_some_iff_getElem.1 h).1
   clear hnc AS
   generalize nv[k] = y at *
   cases hfi : hac.findIdx? (· == y) with
   | none =>
    rw [hfi] at hix AS'
    unfold atI at hix
    simp only at hix AS'
    have HIx := hiD hix
    clear hfi hix hst
    cases perm
    ·have AS2 : Aside (F = .inl 16) := (by have := AS'.out; simpa using this.symm : F = .inl 16)
     clear AS'
     go_wp2_with (go_at_call 94; (with_reducible refine HIx.out.mono ?_); rintro r w6 ⟨rfl, rfl⟩)
     go_ret
     rw [AS2.out]
     exact ⟨hBr, rfl⟩
    ·have AS2 : Aside (Ent.removeF true (nv.drop (k + 1)) acc hac = F) := (by have := AS'.out; simpa using this : Ent.removeF true (nv.drop (k + 1)) acc hac = F)
     clear AS'
     go_wp2_with (go_at_call 94; (with_reducible refine HIx.out.mono ?_); rintro r w6 ⟨rfl, rfl⟩)
     go_roundg q
     case measure => omega
     case rel => exact ⟨k + 1, acc, hac, by omega, by go_num, by have := AG.out; show _ = _; omega, AC.out, AB.out, AT.out, AS2.out⟩
   | some i =>
    rw [hfi] at hix AS'
    unfold atI at hix
    simp only at hix AS'
    have hi := hst i hfi
    have hil : i < acc.length := by have := AC.out.1; omega
    have hi0 : (0 : Int) ≤ (i : Int) := by omega
    have HIx := hiD hix
    have HD1 := hiD (DelS_c hOl hil)
    have AS2 : Aside (Ent.removeF perm (nv.drop (k + 1)) (acc.eraseIdx i) (hac.eraseIdx i) = F) := AS'
    clear hfi hix hst AS'
    have hi6 : i < 1000 := by have := AC.out.2; omega
    go_wp2_with (first
     | (go_at_call 94; (with_reducible refine HIx.out.mono ?_); rintro r w6 ⟨rfl, rfl⟩)
     | (go_at_call 147; (with_reducible refine HD1.out.mono ?_); rintro r w7 ⟨v7, rfl, hO7, hg7, hp7⟩; have hT1 := AT.out.1.fst hO7 hg7 (.inl hp7); have hT2 := AT.out.2.1.fst hO7 hg7 (.inl hp7); have hT3 : Two (w.heap.size + 1) w7 (.slice Ah hac.length ch) (.slice (some an) nv.length c5) hac nv := ⟨hT1.2.1, hT2.2.1, AT.out.2.2.2.2⟩; have hB7 := Own.bel AB.out hOl hg7; have HD2 := hiD (DelS_c hT1.2.1 hi))
     | (go_at_call 147; (with_reducible refine HD2.out.mono ?_); rintro r w8 ⟨v8, rfl, hO8, hg8, hp8⟩; have hT4 := hT1.snd hO8 hg8 (.inl hp8); have hT5 := hT3.fst hO8 hg8 (.inl hp8); have hT6 : Two (w.heap.size + 1) w8 v7 (.slice (some an) nv.length c5) (acc.eraseIdx i) nv := ⟨hT4.1, hT5.2.1, hT2.2.2⟩; have hB8 := Own.bel hB7 hT1.2.1 hg8))
    go_roundg q
    case measure => omega
    case rel => exact ⟨k + 1, acc.eraseIdx i, hac.eraseIdx i, by omega, by go_num, by have := AG.out; show _ = _; omega, ⟨by have := AC.out.1; rw [List.length_eraseIdx_of_lt hil, List.length_eraseIdx_of_lt hi]; omega, by have := AC.out.2; rw [List.length_eraseIdx_of_lt hil]; omega⟩, hB8, ⟨hT4, hT6, hT5⟩, AS2.out⟩
  ·obtain rfl : k = us.length := by omega
   have AS2 : Aside (F = .inr acc) := by have := AS.out; rw [← HLen2.out, List.drop_length] at this; exact this.symm
   have HS2 := hiD (HSet.out acc _ wr hWr (hOl.lower (Nat.zero_le _)))
   have hll : ¬ ((us.length : Int) < (nv.length : Int)) := by have := HLen2.out; omega
   clear AS
   go_wp2_with (go_at_call 145; (with_reducible refine HS2.out.mono ?_); rintro r w6 ⟨rfl, hb6, hE6⟩)
   go_ret
   rw [AS2.out]
   exact ⟨hBr.trans hb6, rfl, hE6⟩
open Go.RowKit
theorem ba_self (a : ByteArray) : (a == a) = true := by
 cases a with
 | mk d => exact beq_self_eq_true d
theorem asking_at7 {K : TypeId} {κ : Type} [DecidableEq κ] {kv : κ → Value} (hEq : ∀ w a b, (Op.equal K (kv a) (kv b)).run Tryz.prog w = .ok (decide (a = b)) w) (w : World) (k : κ) (v : Value) : ∀ (es : List MapEntry) (R : List (κ × Value)) (i : Nat), es.map (fun e => (e.key, e.val)) = R.map (fun x => (kv x.1, x.2)) → look R k = some v →
  ∃ j e, (Instr.findAsking K (kv k) es i).run Tryz.prog w = .ok (some (i + j, v)) w ∧ es[j]? = some e ∧ e.key = kv k ∧ e.val = v
 | [], [], i, _, hl => by cases hl
 | [], _ :: _, i, h, _ => by simp at h
 | _ :: _, [], i, h, _ => by simp at h
 | e :: es, x :: R, i, h, hl => by
  simp only [List.map_cons, List.cons.injEq, Prod.mk.injEq] at h
  rw [look] at hl
  by_cases hx : k = x.1
  ·rw [if_pos hx] at hl
   cases hl
   refine ⟨0, e, ?_, rfl, by rw [h.1.1, hx], h.1.2⟩
   simp only [Instr.findAsking, Sem.run_bind, h.1.1, hEq, Result.andThen_ok]
   simp only [hx, decide_true, if_true]
   rw [← h.1.2]
   rfl
  ·rw [if_neg hx] at hl
   obtain ⟨j, e', hr, h1, h2, h3⟩ := asking_at7 hEq w k v es R (i + 1) h.2 hl
   refine ⟨j + 1, e', ?_, by simpa using h1, h2, h3⟩
   simp only [Instr.findAsking, Sem.run_bind, h.1.1, hEq, Result.andThen_ok]
   simp only [hx, decide_false, Bool.false_eq_true, if_false]
   rw [hr, show i + 1 + j = i + (j + 1) by omega]
theorem modify_same {β : Type} {es : Array MapEntry} {i : Nat} {f : MapEntry → MapEntry} {g : MapEntry → β} (h : ∀ e, es.toList[i]? = some e → g (f e) = g e) : (es.modify i f).toList.map g = es.toList.map g := by
 rw [Array.toList_modify]
 apply List.ext_getElem?
 intro j
 rw [List.getElem?_map, List.getElem?_map, List.getElem?_modify]
 cases hj : es.toList[j]? with
 | none => rfl
 | some e =>
  by_cases hij : i = j
  ·subst hij
   simp [h e hj]
  ·simp [hij]
theorem setN_again {w : World} {m : Nat} {xs : List (LU × LU)} (h : SetN w m xs) (a b : LU) (hn : (a, b) ∈ xs) :
  ∃ W, (Instr.mapUpdate 131 (.map (some m)) (.agg #[.string ⟨a.toArray⟩, .string ⟨b.toArray⟩]) (.agg #[])).run Tryz.prog w = .ok () W ∧ SetN W m xs ∧ w.grownBy W (some m) := by
 obtain ⟨es, c, h1, h2⟩ := h
 have hl : look (xs.map fun x => (x, Value.agg #[])) (a, b) = some (.agg #[]) := by
  rw [look_map, if_pos hn]
 obtain ⟨es⟩ := es
 unfold MapR at h2
 dsimp only at h2
 have hf : ∃ j e, (Instr.findKey 133 (nmV (a, b)) es).run Tryz.prog w = .ok (some (j, .agg #[])) w ∧ es[j]? = some e ∧ e.key = nmV (a, b) ∧ e.val = .agg #[] := by
  obtain ⟨j, e, hr, g1, g2, g3⟩ := asking_at7 eq_nmV w (a, b) (.agg #[]) es _ 0 h2 hl
  rw [Nat.zero_add] at hr
  refine ⟨j, e, ?_, g1, g2, g3⟩
  unfold Instr.findKey
  simp only [Sem.run_bind, run_underlying Tryz.underlying133, Result.andThen_ok]
  cases es with
  | nil => simp at g1
  | cons e0 es =>
   obtain ⟨x0, X0, hX⟩ : ∃ x X, (xs.map fun x => (x, Value.agg #[])) = x :: X := by
    cases hxs : (xs.map fun x => (x, Value.agg #[])) with
    | nil => rw [hxs] at h2; simp at h2
    | cons x X => exact ⟨x, X, rfl⟩
   have hk : e0.key = nmV x0.1 := by
    rw [hX] at h2
    simp only [List.map_cons, List.cons.injEq, Prod.mk.injEq] at h2
    exact h2.1.1
   have hnow : ∀ D, Instr.findNow D (nmV (a, b)) (e0 :: es) 0 = none := fun D => by
    simp only [Instr.findNow, hk, nmV, Instr.sameNow]
   rw [hnow]
   exact hr
 obtain ⟨j, e, hr, g1, g2, g3⟩ := hf
 have hkeep : Instr.sameBits 10000 (nmV (a, b)) (nmV (a, b)) = true := by
  unfold nmV
  simp [Instr.sameBits]
  exact ⟨ba_self _, ba_self _⟩
 refine ⟨World.setMap w m (Array.modify ⟨es⟩ j fun e => { e with key := nmV (a, b), val := .agg #[] }) c, ?_, ⟨_, c, setMap_heap (Array.getElem?_eq_some_iff.1 h1).1, ?_⟩, setMap_grown _ _ _ _⟩
 ·show (Instr.mapUpdate 131 (.map (some m)) (nmV (a, b)) (.agg #[])).run Tryz.prog w = _
  unfold Instr.mapUpdate
  simp only [Sem.run_bind, run_underlying Tryz.underlying131, Result.andThen_ok]
  have hes : ((⟨es⟩ : Array MapEntry)[j]?).map (·.key) = some (nmV (a, b)) := by
   rw [List.getElem?_toArray, g1, Option.map_some, g2]
  simp only [getObj, Sem.run, Sem.run_bind, h1, Result.andThen_ok, check_nmV, hr, setObj, World.setMap, hes, Option.getD_some, Instr.keyThatStays, hkeep, if_true, pure, Sem.run_pure]
  try rfl
 ·unfold MapR
  rw [modify_same (fun e' he' => ?_)]
  ·exact h2
  ·have he : e' = e := by
    have : es[j]? = some e' := he'
    rw [g1] at this
    exact (Option.some.inj this).symm
   subst he
   simp [g2, g3]
theorem SetN.mid {w w' : World} {m : Nat} {xs : List (LU × LU)} {r : Option Nat} (h : SetN w m xs) (hg : w.grownBy w' r) (hr : r ≠ some m) : SetN w' m xs := by
 obtain ⟨es, c, h1, h2⟩ := h
 exact ⟨es, c, (hg.block m (Array.getElem?_eq_some_iff.1 h1).1 (fun e => hr e.symm)).trans h1, h2⟩
theorem Own.past {B m : Nat} {w : World} {v : Value} {xs : LL} (h : Own B w v xs) (hm : m < B) : v.ownBlock ≠ some m := fun e => by
 have := (h.lt m e).1
 omega
def TakenRet (w : World) (R : Int ⊕ LL) (r : Ending) (w' : World) : Prop := Below w.heap.size w w' ∧ match R with
 | .inl k => r = .returned (.tuple #[.slice none 0 0, .int .i64 k])
 | .inr l => ∃ A c, r = .returned (.tuple #[.slice A l.length c, .int .i64 0]) ∧ Own w.heap.size w' (.slice A l.length c) l
theorem taken_c (s p : Nat) (ps : List Nat) (L : List DefS) (hL : Sound L) (t : LU) (perm : Bool) (us : LL) (vu : Value) (w : World) (hw : Env w) (hS : SchAt w s ps L) (ht : t.length ≤ 1000000) (hu : TextsA w vu us) (hul : us.length ≤ 2000000) :
  Calls Tryz.prog 99 #[chgV s p t perm, vu] w (TakenRet w (Ent.takenE (schE L) perm t us)) := by
 have hbx := bel_one w (.cells #[.pointer (some ⟨s, 0, none⟩), .pointer (some ⟨p, 0, none⟩), .string ⟨t.toArray⟩, .bool perm] 97)
 have HK := chg_box (w := w) (s := s) (p := p) (t := t) (perm := perm)
 have HZ := sized_box (w := w) (s := s) (p := p) (t := t) (perm := perm)
 have HFo := hiD (forms_c s ps L hL t us vu _ (hw.keep hbx) (hS.below hbx) ht (hu.below hbx) (by omega))
 have HU := hiD hu
 have HBX := hiD hbx
 have hx0 : Below (w.heap.size + 1) (w.alloc (.cells #[.pointer (some ⟨s, 0, none⟩), .pointer (some ⟨p, 0, none⟩), .string ⟨t.toArray⟩, .bool perm] 97)) (w.alloc (.cells #[.pointer (some ⟨s, 0, none⟩), .pointer (some ⟨p, 0, none⟩), .string ⟨t.toArray⟩, .bool perm] 97)) := Below.refl _ _
 obtain ⟨k0, k1, k2, k3⟩ := HK.out _ hx0
 obtain ⟨Au, cu, rfl, hcu, hucell⟩ := hu.at
 have HUC := hiD hucell
 unfold chgV at *
 clear hu hw hS ht hucell
 by_cases hall : us.all (Ent.okF (schE L) t) = true
 ·have hR : Ent.takenE (schE L) perm t us = Ent.takenF (schE L) perm t us [] [] := by
   unfold Ent.takenE
   rw [if_pos hall]
  have hfm : Ent.formsE (schE L) t us = some (us.map (Ent.normF (schE L) t)) := Ent.forms_mk (List.all_eq_true.1 hall)
  rw [hR]
  rw [hfm] at HFo
  obtain ⟨F, hF⟩ : ∃ F, Ent.takenF (schE L) perm t us [] [] = F := ⟨_, rfl⟩
  rw [hF]
  have HF := hiD hF
  have HLen2 : Hid ((us.map (Ent.normF (schE L) t)).length = us.length) := hiD (by simp)
  obtain ⟨nv, hnv⟩ : ∃ l, l = us.map (Ent.normF (schE L) t) := ⟨_, rfl⟩
  rw [← hnv] at HFo HLen2
  have HNV := hiD hnv
  unfold FormsRet at HFo
  simp only at HFo
  have hmm := @run_makeMap Tryz.prog
  clear hall hR hfm hF hnv
  go_enter Tryz.func99, Tryz.ntmps99
  go_wp2_with (go_at_call 73; (with_reducible refine HFo.out.mono ?_); rintro r w2 ⟨hb2, v2, rfl, hO2⟩; obtain ⟨A2, c2, rfl, hc2⟩ := hO2.isSlice)
  have hB2 := bel_next HZ.out hx0 hb2
  have hN2 : w.heap.size + 1 ≤ w2.heap.size := by have h := hB2.size; rw [HZ.out] at h; exact h
  have hbm : Below w2.heap.size w2 (w2.alloc (.map #[] 0)) := (Below.refl _ _).alloc (Nat.le_refl _) _
  have hsm := SetN.made w2
  have hT2 := hO2.textsA
  obtain ⟨A2', c2', hsl2, _, hnc⟩ := hT2.at
  cases hsl2
  have HNC := hiD hnc
  have hW2 := HBX.out.trans (hb2.mono HBX.out.size)
  have hWm := hW2.trans (hbm.mono hW2.size)
  generalize w.alloc (.cells #[.pointer (some ⟨s, 0, none⟩), .pointer (some ⟨p, 0, none⟩), .string ⟨t.toArray⟩, .bool perm] 97) = W0 at *
  have HW2 := hiD hW2
  have HB2 := hiD hB2
  have HN2 := hiD hN2
  clear hT2 hnc hO2 hb2 hB2 hW2 hWm hN2 k0 k1 k2 k3 HFo hx0
  go_loopg [8, 28] us.length (fun gk l i wr => ∃ (k : Nat) (seen acc : LL), k ≤ us.length ∧ i = .int .i64 k ∧ Aside (k + gk = us.length) ∧ Aside (acc.length ≤ k) ∧ Aside (Below w2.heap.size w2 wr) ∧ Aside (SetN wr w2.heap.size (seen.map fun n => (t, n))) ∧ Aside (Own (w2.heap.size + 1) wr l acc) ∧ Aside (Ent.takenF (schE L) perm t (us.drop k) seen acc = F))
  case atStart => exact ⟨0, [], [], by omega, rfl, by show _ = _; omega, Nat.zero_le _, hbm, hsm, Own.nil (by simp), HF.out⟩
  case round =>
   clear hbm hsm HF
   obtain ⟨k, seen, acc, hk, rfl, AG, AC, AB, AM, AO, AS⟩ := hrel
   obtain ⟨Al, cl, rfl, hcl⟩ := AO.out.isSlice
   have hW1 := HB2.out.trans (AB.out.mono HN2.out)
   obtain ⟨k0, k1, k2, k3⟩ := HK.out _ hW1
   have hWr := HW2.out.trans (AB.out.mono HW2.out.size)
   by_cases hlt : k < us.length
   ·obtain ⟨q, rfl⟩ : ∃ q, gk = q + 1 := ⟨gk - 1, by have := AG.out; omega⟩
    obtain ⟨au, rfl, c0⟩ := HUC.out k hlt
    have d0 := (hWr.cell (cell_lt c0)).trans c0
    have hkn : k < nv.length := by rw [HLen2.out]; exact hlt
    obtain ⟨an, rfl, m0⟩ := HNC.out k hkn
    have n0 := (AB.out.cell (cell_lt m0)).trans m0
    have hnk : nv[k] = Ent.normF (schE L) t us[k] := by
     have h := HNV.out
     subst h
     rw [List.getElem_map]
    have AS' : Aside ((if !seen.contains nv[k] then Ent.takenF (schE L) perm t (us.drop (k + 1)) (seen ++ [nv[k]]) (acc ++ [us[k]]) else if !perm then .inl 20 else Ent.takenF (schE L) perm t (us.drop (k + 1)) seen acc) = F) := by have := AS.out; rw [List.drop_eq_getElem_cons hlt, Ent.takenF, ← hnk] at this; exact this
    have hacl : acc.length < 4398046511104 := by have := AC.out; omega
    have hll : ((k : Int) < (nv.length : Int)) := by omega
    have hbs : Below wr.heap.size wr (wr.alloc (.cells #[] 72)) := (Below.refl _ _).alloc (Nat.le_refl _) _
    clear c0 m0 hnk AS
    have hask := setN_ask AM.out t nv[k]
    generalize nv[k] = y at *
    generalize us[k] = x at *
    have hcm : (seen.map fun n => (t, n)).contains (t, y) = seen.contains y := by
     rw [Bool.eq_iff_iff, List.contains_iff_mem, List.contains_iff_mem, List.mem_map]
     constructor
     ·rintro ⟨z, hz, he⟩
      cases he
      exact hz
     ·intro h
      exact ⟨y, h, rfl⟩
    rw [hcm] at hask
    have hMs := AM.out.below hbs
    have HSZ : Hid (wr.heap.size + 1 = (wr.alloc (.cells #[] 72)).heap.size) := hiD (by simp)
    have hBs := AB.out.trans (hbs.mono AB.out.size)
    have hOs := AO.out.below hbs
    have hW1s := bel_next HZ.out hW1 hbs
    obtain ⟨j0, j1, j2, j3⟩ := HK.out _ hW1s
    have e0 := (hbs.cell (cell_lt d0)).trans d0
    cases hcn : seen.contains y
    ·rw [hcn] at hask AS' hcm
     have AS2 : Aside (Ent.takenF (schE L) perm t (us.drop (k + 1)) (seen ++ [y]) (acc ++ [x]) = F) := (by have := AS'.out; simpa using this : Ent.takenF (schE L) perm t (us.drop (k + 1)) (seen ++ [y]) (acc ++ [x]) = F)
     have hnm : (t, y) ∉ (seen.map fun n => (t, n)) := fun h => by
      rw [List.contains_iff_mem.2 h] at hcm
      cases hcm
     have HPut : Hid (∀ W, SetN W w2.heap.size (seen.map fun n => (t, n)) → ∃ W', (Instr.mapUpdate 131 (.map (some w2.heap.size)) (.agg #[.string ⟨t.toArray⟩, .string ⟨y.toArray⟩]) (.agg #[])).run Tryz.prog W = .ok () W' ∧ SetN W' w2.heap.size ((seen ++ [y]).map fun n => (t, n)) ∧ W.grownBy W' (some w2.heap.size)) := hiD fun W h => by
      obtain ⟨W', h1, h2, h3⟩ := setN_put h t y hnm
      exact ⟨W', h1, by rw [List.map_append]; exact h2, h3⟩
     clear AS' hcn hcm hnm
     go_wp2_with (at_builtin; (refine own_one (N := wr.heap.size + 1) (c := x) rfl _ _ rfl rfl hOs rfl HSZ.out hacl ?_; intro v' w7 hO7 hg7; obtain ⟨A7, c7, rfl, _⟩ := hO7.isSlice; have hM7 := hMs.mid hg7 (hOs.past (Nat.lt_succ_self _)); obtain ⟨W8, hup, hs8, hg8⟩ := HPut.out w7 hM7; have hB7 := Own.bel hBs (hOs.lower (Nat.le_succ _)) hg7; have hB8 := hB7.grown hg8 hB7.size (fun k hk => by cases hk; exact Nat.le_refl _); have hO8 := hO7.keep hg8 (fun k hk => by cases hk; exact Nat.lt_succ_self _); have hW7 := HB2.out.trans (hB7.mono HN2.out); obtain ⟨i0, i1, i2, i3⟩ := HK.out _ hW7))
     go_roundg q
     case measure => omega
     case rel => exact ⟨k + 1, seen ++ [y], acc ++ [x], by omega, by go_num, by have := AG.out; show _ = _; omega, by have := AC.out; show _ ≤ _; rw [List.length_append, List.length_singleton]; omega, hB8, hs8, (by have h := hO8; rw [List.length_append, List.length_singleton] at h; exact h), AS2.out⟩
    ·rw [hcn] at hask AS' hcm
     have hnm : (t, y) ∈ (seen.map fun n => (t, n)) := List.contains_iff_mem.1 hcm
     obtain ⟨W8, hup, hs8, hg8⟩ := setN_again hMs t y hnm
     clear hcn hcm hnm
     cases perm
     ·have AS2 : Aside (F = .inl 20) := (by have := AS'.out; simpa using this.symm : F = .inl 20)
      clear AS'
      go_wp2_with fail
      go_ret2
      rw [AS2.out]
      exact ⟨HW2.out.trans (hBs.mono HW2.out.size), rfl⟩
     ·have AS2 : Aside (Ent.takenF (schE L) true t (us.drop (k + 1)) seen acc = F) := (by have := AS'.out; simpa using this : Ent.takenF (schE L) true t (us.drop (k + 1)) seen acc = F)
      have hB8 := hBs.grown hg8 hBs.size (fun k hk => by cases hk; exact Nat.le_refl _)
      have hO8 := hOs.keep hg8 (fun k hk => by cases hk; exact Nat.lt_succ_self _)
      clear AS'
      go_wp2_with fail
      go_roundg q
      case measure => omega
      case rel => exact ⟨k + 1, seen, acc, by omega, by go_num, by have := AG.out; show _ = _; omega, by have := AC.out; show _ ≤ _; omega, hB8, hs8, hO8, AS2.out⟩
   ·obtain rfl : k = us.length := by omega
    have AS2 : Aside (F = .inr acc) := by have := AS.out; rw [List.drop_length] at this; exact this.symm
    have hll : ¬ ((us.length : Int) < (nv.length : Int)) := by have := HLen2.out; omega
    clear AS
    go_wp2_with fail
    go_ret2
    rw [AS2.out]
    exact ⟨hWr, _, _, rfl, AO.out.lower (by have := HN2.out; omega)⟩
 ·have hR : Ent.takenE (schE L) perm t us = .inl 21 := by
   unfold Ent.takenE
   rw [if_neg hall]
  have hfm : Ent.formsE (schE L) t us = none := by
   unfold Ent.formsE
   rw [if_neg hall]
  rw [hR]
  rw [hfm] at HFo
  unfold FormsRet at HFo
  simp only at HFo
  clear hall hR hfm
  go_enter Tryz.func99, Tryz.ntmps99
  go_wp2_with (go_at_call 73; (with_reducible refine HFo.out.mono ?_); rintro r w2 ⟨hb2, rfl⟩)
  go_ret2
  exact ⟨HBX.out.trans (hb2.mono HBX.out.size), rfl⟩
end Go.Proofs.YtkkbbhlihilnpaaGreatDoor
