import Derived.Test.YtconnibnpckadaaGreatDoorW86
set_option linter.all false
set_option maxHeartbeats 8000000
set_option maxRecDepth 100000
namespace Go.Proofs.YtconnibnpckadaaGreatDoor
open Go.RowKit
def headE (o : Int) (n : Nat) : Fil.FilE := ⟨o, n, [], [], [], [], []⟩
def kidsR (g : Nat → List UInt8 → Option (List Fil.FilE × List UInt8)) (o : Int) (f k n : Nat) (l : List Fil.FilE) (r : List UInt8) : Option (List Fil.FilE × List UInt8) := match Fil.kidsF g f k r with
 | some (m, l', r') => closeF (some (headE o (n + m) :: (l ++ l'), r'))
 | none => none
theorem kidsR_end (g : Nat → List UInt8 → Option (List Fil.FilE × List UInt8)) (o : Int) (f k n : Nat) (l : List Fil.FilE) (r : List UInt8) (h : r.head? ≠ some 40) : kidsR g o f k n l r = closeF (some (headE o n :: l, r)) := by
 have h1 : Fil.kidsF g f k r = some (0, [], r) := by
  cases f with
  | zero => rfl
  | succ f => unfold Fil.kidsF; rw [if_neg h]
 unfold kidsR
 rw [h1]
 simp
theorem kidsR_none (g : Nat → List UInt8 → Option (List Fil.FilE × List UInt8)) (o : Int) (f k n : Nat) (l : List Fil.FilE) (r : List UInt8) (h : r.head? = some 40) (hg : g k r = none) : kidsR g o (f + 1) k n l r = none := by
 unfold kidsR Fil.kidsF
 rw [if_pos h, hg]
theorem kidsR_some (g : Nat → List UInt8 → Option (List Fil.FilE × List UInt8)) (o : Int) (f k n : Nat) (l l1 : List Fil.FilE) (r r1 : List UInt8) (h : r.head? = some 40) (hg : g k r = some (l1, r1)) : kidsR g o (f + 1) k n l r = kidsR g o f (k + l1.length) (n + 1) (l ++ l1) r1 := by
 unfold kidsR
 cases hk : Fil.kidsF g f (k + l1.length) r1 with
 | none =>
  have e : Fil.kidsF g (f + 1) k r = none := by
   rw [Fil.kidsF, if_pos h, hg]
   simp only [hk]
  rw [e]
 | some x =>
  obtain ⟨m, l2, r2⟩ := x
  have e : Fil.kidsF g (f + 1) k r = some (m + 1, l1 ++ l2, r2) := by
   rw [Fil.kidsF, if_pos h, hg]
   simp only [hk]
  rw [e]
  simp only [List.append_assoc]
  rw [show n + (m + 1) = n + 1 + m by omega]
theorem mid_lt (qs ys : List FilQ) (q : FilQ) : qs.length < (qs ++ q :: ys).length := by rw [List.length_append, List.length_cons]; omega
theorem mid_ltI (qs ys : List FilQ) (q : FilQ) : (qs.length : Int) < ((qs ++ q :: ys).length : Int) := by have := mid_lt qs ys q; omega
theorem bump_mid (o : Int) (n : Nat) (qs ys : List FilQ) (h : qs.length < (qs ++ (headE o n, Value.slice none 0 0) :: ys).length) : (qs ++ (headE o n, Value.slice none 0 0) :: ys)[qs.length] = (headE o n, Value.slice none 0 0) ∧ (qs ++ (headE o n, Value.slice none 0 0) :: ys).set qs.length (bumpQ (headE o n, Value.slice none 0 0) ((n : Int) + 1)) = qs ++ (headE o (n + 1), Value.slice none 0 0) :: ys := by
 refine ⟨by simp, ?_⟩
 rw [List.set_append_right (h := Nat.le_refl _)]
 simp [bumpQ, headE]
set_option maxRecDepth 100000 in
theorem fFilter_kids (d N p : Nat) (s s1 : List UInt8) (v : Value) (qs : List FilQ) (w : World) (x o : Int) (hx1 : x < 20) (hx0 : 0 ≤ x) (h : RdF N p w s v qs) (hs : s.length ≤ 1000000) (h100 : ¬ 100 ≤ qs.length) (htk : takeF 40 s = some s1) (hop : Fil.opF s1 = some o)
  (ih : ∀ (N : Nat) (s : List UInt8) (v : Value) (qs : List FilQ) (w : World), RdF N p w s v qs → s.length ≤ 1000000 → Calls Tryz.prog 15 #[.pointer (some ⟨p, 0, none⟩), .int .i64 (x + 1)] w (FRet p w qs (Fil.filF d qs.length s))) :
  Calls Tryz.prog 15 #[.pointer (some ⟨p, 0, none⟩), .int .i64 x] w (FRet p w qs (Fil.filF (d + 1) qs.length s)) := by
 rw [filF_step h100 htk]
 obtain ⟨R, hR⟩ : ∃ R, closeF (Fil.bodyF (Fil.filF d) qs.length s1) = R := ⟨_, rfl⟩
 rw [hR]
 obtain ⟨y, u, rfl⟩ : ∃ y u, s1 = y :: u := by
  cases s1 with
  | nil => cases hop
  | cons y u => exact ⟨y, u, rfl⟩
 have hix : Lib.indexByte [38, 124, 33] y = o ∧ 0 ≤ o := by
  have := op_idx y u
  rw [hop] at this
  by_cases h : Lib.indexByte [38, 124, 33] y < 0
  ·rw [if_pos h] at this; cases this
  ·rw [if_neg h] at this; cases this; omega
 have hK : kidsR (Fil.filF d) o (u.length + 1) (qs.length + 1) 0 [] u = R := by
  rw [← hR]
  unfold kidsR Fil.bodyF
  rw [hop]
  simp only [List.length_cons, List.drop_succ_cons, List.drop_zero]
  cases Fil.kidsF (Fil.filF d) (u.length + 1) (qs.length + 1) u with
  | none => rfl
  | some z => obtain ⟨m, l, r⟩ := z; simp [headE]
 have hIB := fun W => IndexByte_c [38, 124, 33] y W
 rw [hix.1] at hIB
 have HIB := Lib.hid hIB
 have ho0 := hix.2
 obtain ⟨A, c, rfl, hc⟩ := h.own.isSlice
 obtain ⟨c0, c1, f0, f1⟩ := h.cells
 have hl1 := takeF_len htk
 simp only [List.length_cons] at hl1
 have hget := ba_get
 have hlt : (qs.length : Int) < 100 := by omega
 have hql : qs.length < 1000000 := by omega
 have HT40 : Hid (Calls Tryz.prog 27 #[.pointer (some ⟨p, 0, none⟩), .int .u8 40] w fun e w' => w.grownBy w' (some p) ∧ e = .returned (.tuple #[]) ∧ RdF N p w' (y :: u) (.slice A qs.length c) qs) := Lib.hid ((take_c N p 40 s _ qs w h).mono (by intro e w' hr; rw [htk] at hr; exact hr))
 have HGP := Lib.hid (fun (w' : World) (hg : w.grownBy w' (some p)) => h.grownP hg)
 have HKK := Lib.hid hK
 have HIH := Lib.hid ih
 have hsl : ∀ W : World, (Instr.slice 9 (.string ⟨(y :: u).toArray⟩) (some (.int .i64 1)) none none).run Tryz.prog W = .ok (.string ⟨u.toArray⟩) W := fun W => sl_from (y :: u) 1 (by simp) W
 clear h htk hR hK ih hIB hix hop
 go_enter Tryz.func15, Tryz.ntmps15
 go_wp2_with (first | (go_at_call 27; (with_reducible refine HT40.out.mono ?_); rintro e w2 ⟨hg2, rfl, hR2⟩; have HR2 := Lib.hid hR2; obtain ⟨d0, d1, g0, g1⟩ := hR2.cells; clear hR2; have HR3 := Lib.hid (HR2.out.setS u).1; have HB3 := Lib.hid (HR2.out.setS u).2; have HN := Lib.hid (show w2.heap.size = (w2.setCell ⟨p, 0, none⟩ (.string ⟨u.toArray⟩)).heap.size by simp [World.setCell])) | (go_at_call 28; (with_reducible refine (HIB.out _).mono ?_); rintro e w5 ⟨rfl, rfl⟩) | (at_builtin; refine fil_one (p := ⟨o, 0, [], [], [], [], []⟩) (va := .slice none 0 0) (v := .slice A qs.length c) (qs := qs) (B := p + 1) (N := w2.heap.size) rfl (.tmp 62) (.tmp 65) rfl rfl rfl HR3.out.own rfl HN.out hql ?_; intro v' w6 hO6 hg6; obtain ⟨A6, c6, rfl, hc6⟩ := hO6.isSlice1; have HM := Lib.hid (HR3.out.more hO6 hg6 (TxT.nil _)); have k6 := HR3.out.at_.grown hg6 (fun e => HR3.out.ne p e.symm rfl); have z1 := k6.cell 1; have zf := k6.frozen 1; simp only [List.getElem?_toArray, List.getElem?_cons_zero, List.getElem?_cons_succ] at z1))
 go_loopg [] (u.length + 1) (fun gk wr => ∃ (r : List UInt8) (v' : Value) (n : Nat) (ys : List FilQ), Aside (r.length + n ≤ u.length) ∧ Aside (r.length ≤ gk) ∧ Aside (kidsR (Fil.filF d) o gk (qs.length + 1 + ys.length) n (ys.map (·.1)) r = R) ∧ Aside (RdF wr.heap.size p wr r v' (qs ++ (headE o n, Value.slice none 0 0) :: ys)) ∧ Aside (Below p w wr))
 case atStart => exact ⟨u, _, 0, [], Nat.le_refl _, by show _ ≤ _; omega, HKK.out, HM.out.1.fit, ((HGP.out _ hg2).trans HB3.out).trans HM.out.2⟩
 case round =>
  clear HKK HT40 HR2 HR3 HB3 HN HM HGP hg2 hO6 hg6 k6 z1 zf
  obtain ⟨r, v', n, ys, AN, AG, AK, AR, AB⟩ := hrel
  obtain ⟨b0, b1, bf0, bf1⟩ := AR.out.cells
  have hrl : r.length ≤ 1000000 := by have := AN.out; omega
  have hP : ∀ W : World, Calls Tryz.prog 30 #[.string ⟨r.toArray⟩, .string ⟨#[40]⟩] W fun e w' => e = .returned (.bool (Lib.hasPrefix r [40])) ∧ W = w' :=
   fun W => (Tryz.strings_HasPrefix ⟨r.toArray⟩ ⟨#[40]⟩ W).mono fun _ _ h => ⟨h.1, h.2.symm⟩
  rw [fil_pre] at hP
  by_cases hh : r.head? = some 40
  ·rw [decide_eq_true hh] at hP
   have HP := Lib.hid hP
   clear hP
   have hr1 : 1 ≤ r.length := by cases r with
    | nil => cases hh
    | cons a b => simp
   obtain ⟨q, rfl⟩ : ∃ q, gk = q + 1 := ⟨gk - 1, by have := AG.out; omega⟩
   have hlen : (qs ++ (headE o n, Value.slice none 0 0) :: ys).length = qs.length + 1 + ys.length := by simp; omega
   have HI := Lib.hid (fun (W : World) (hW : RdF wr.heap.size p W r v' (qs ++ (headE o n, Value.slice none 0 0) :: ys)) => HIH.out _ r v' _ W hW hrl)
   rw [hlen] at HI
   have hwx : IntKind.i64.wrap (x + 1) = x + 1 := IntWalk.i64_in _ (by omega)
   cases hf : Fil.filF d (qs.length + 1 + ys.length) r with
   | none =>
    have hfin : R = none := AK.out.symm.trans (kidsR_none _ _ _ _ _ _ _ hh hf)
    subst hfin
    rw [hf] at HI
    clear hf
    go_wp2_with (first
     | (go_at_call 30; (with_reducible refine (HP.out _).mono ?_); rintro e w5 ⟨rfl, rfl⟩)
     | (go_at_call 15; (refine (HI.out _ (by exact AR.out)).mono ?_); rintro e w5 ⟨hb5, rfl⟩))
    refine ⟨rfl, ?_⟩
    exact ⟨AB.out.trans hb5, rfl⟩
   | some lr =>
    obtain ⟨l, r2⟩ := lr
    have hr2 := filF_len _ _ _ _ _ hf
    have AK2 : Aside (kidsR (Fil.filF d) o q (qs.length + 1 + ys.length + l.length) (n + 1) (ys.map (·.1) ++ l) r2 = R) := (kidsR_some _ _ _ _ _ _ _ _ _ hh hf).symm.trans AK.out
    rw [hf] at HI
    clear hf AK
    have hn1 : (n : Int) ≤ 1000000 := by have := AN.out; omega
    have hwn : IntKind.i64.wrap ((n : Int) + 1) = (n : Int) + 1 := IntWalk.i64_in _ (by omega)
    go_wp2_with (first
     | (go_at_call 30; (with_reducible refine (HP.out _).mono ?_); rintro e w5 ⟨rfl, rfl⟩)
     | (go_at_call 15; (refine (HI.out _ (by exact AR.out)).mono ?_); rintro e w5 ⟨hb5, rfl, v5, zs, rfl, hR5⟩; rw [List.append_assoc, List.cons_append] at hR5; have hj5 := mid_lt qs (ys ++ zs) (headE o n, Value.slice none 0 0); obtain ⟨g, c5, rfl, hc5, hpg, q1, qf, hset⟩ := hR5.bump hj5; have HR5 := Lib.hid hR5; obtain ⟨k0, k1, kf0, kf1⟩ := hR5.cells; clear hR5; have HST := Lib.hid (hset ((n : Int) + 1)); rw [(bump_mid o n qs (ys ++ zs) hj5).1, (bump_mid o n qs (ys ++ zs) hj5).2] at HST; rw [(bump_mid o n qs (ys ++ zs) hj5).1] at q1; simp only [headE] at q1; clear hset; have hji := mid_ltI qs (ys ++ zs) (headE o n, Value.slice none 0 0); generalize (qs ++ (headE o n, Value.slice none 0 0) :: (ys ++ zs)).length = L5 at *))
    go_roundg q
    case measure => omega
    case rel => exact ⟨r2, _, n + 1, ys ++ zs, by have := AN.out; show _ ≤ _; omega, by have := AG.out; show _ ≤ _; omega, by show _ = _; rw [List.length_append, List.map_append, ← Nat.add_assoc]; simpa using AK2.out, HST.out.1.fit, (AB.out.trans hb5).trans HST.out.2⟩
  ·rw [decide_eq_false hh] at hP
   have HP := Lib.hid hP
   have hfin : R = closeF (some (headE o n :: ys.map (·.1), r)) := AK.out.symm.trans (kidsR_end _ _ _ _ _ _ _ hh)
   clear hP AK
   simp only [closeF] at hfin
   have HT41 := Lib.hid (fun (W : World) (hW : RdF wr.heap.size p W r v' (qs ++ (headE o n, Value.slice none 0 0) :: ys)) => take_c wr.heap.size p 41 r v' _ W hW)
   cases h41 : takeF 41 r with
   | none =>
    rw [h41] at HT41 hfin
    subst hfin
    go_wp2_with (first
     | (go_at_call 30; (with_reducible refine (HP.out _).mono ?_); rintro e w5 ⟨rfl, rfl⟩)
     | (go_at_call 27; (refine (HT41.out _ (by exact AR.out)).mono ?_); rintro e w7 ⟨hg7, rfl⟩))
    refine ⟨rfl, ?_⟩
    exact ⟨AB.out.trans (AR.out.grownP hg7), rfl⟩
   | some r' =>
    rw [h41] at HT41 hfin
    simp only at hfin
    subst hfin
    go_wp2_with (first
     | (go_at_call 30; (with_reducible refine (HP.out _).mono ?_); rintro e w5 ⟨rfl, rfl⟩)
     | (go_at_call 27; (refine (HT41.out _ (by exact AR.out)).mono ?_); rintro e w7 ⟨hg7, rfl, hR7⟩))
    go_end0
    exact ⟨AB.out.trans (AR.out.grownP hg7), rfl, _, (headE o n, Value.slice none 0 0) :: ys, rfl, hR7.fit⟩
open Go.RowKit
set_option maxRecDepth 100000 in
theorem fFilter_bad (N p : Nat) (s : List UInt8) (v : Value) (qs : List FilQ) (w : World) (x : Int) (R : Option (List Fil.FilE × List UInt8)) (hR : R = none) (hb : 20 ≤ x ∨ x < 20 ∧ 100 ≤ qs.length ∨ x < 20 ∧ qs.length < 100 ∧ takeF 40 s = none) (h : RdF N p w s v qs) : Calls Tryz.prog 15 #[.pointer (some ⟨p, 0, none⟩), .int .i64 x] w (FRet p w qs R) := by
 subst hR
 obtain ⟨A, c, rfl, hc⟩ := h.own.isSlice
 obtain ⟨c0, c1, f0, f1⟩ := h.cells
 have HR := Lib.hid h
 rcases hb with hb | ⟨hx, hb⟩ | ⟨hx, hl, hb⟩
 ·clear h
  go_enter Tryz.func15, Tryz.ntmps15
  go_wp2_with fail
  refine ⟨rfl, ?_⟩
  exact ⟨Below.refl _ _, rfl⟩
 ·have hi : (100 : Int) ≤ (qs.length : Int) := by omega
  clear h
  go_enter Tryz.func15, Tryz.ntmps15
  go_wp2_with fail
  refine ⟨rfl, ?_⟩
  exact ⟨Below.refl _ _, rfl⟩
 ·have hi : (qs.length : Int) < 100 := by omega
  have HT : Hid (Calls Tryz.prog 27 #[.pointer (some ⟨p, 0, none⟩), .int .u8 40] w fun e w' => w.grownBy w' (some p) ∧ e = .panicked filPanic) := Lib.hid ((take_c N p 40 s _ qs w h).mono (by intro e w' hr; rw [hb] at hr; exact hr))
  clear h hb
  go_enter Tryz.func15, Tryz.ntmps15
  go_wp2_with (go_at_call 27; (with_reducible refine HT.out.mono ?_); rintro e w2 ⟨hg2, rfl⟩)
  refine ⟨rfl, ?_⟩
  exact ⟨HR.out.grownP hg2, rfl⟩
theorem fFilter_c (p : Nat) : ∀ (d : Nat), d ≤ 20 → ∀ (N : Nat) (s : List UInt8) (v : Value) (qs : List FilQ) (w : World), RdF N p w s v qs → s.length ≤ 1000000 →
  Calls Tryz.prog 15 #[.pointer (some ⟨p, 0, none⟩), .int .i64 (20 - (d : Int))] w (FRet p w qs (Fil.filF d qs.length s))
 | 0, _, N, s, v, qs, w, h, _ => fFilter_bad N p s v qs w _ _ rfl (.inl (by omega)) h
 | d + 1, hd, N, s, v, qs, w, h, hs => by
  have hx : (20 : Int) - ((d + 1 : Nat) : Int) < 20 := by omega
  have hx0 : (0 : Int) ≤ 20 - ((d + 1 : Nat) : Int) := by omega
  have ih := fFilter_c p d (by omega)
  by_cases h100 : 100 ≤ qs.length
  ·exact fFilter_bad N p s v qs w _ _ (by unfold Fil.filF; rw [if_pos h100]) (.inr (.inl ⟨hx, h100⟩)) h
  ·cases htk : takeF 40 s with
   | none => exact fFilter_bad N p s v qs w _ _ (filF_none htk) (.inr (.inr ⟨hx, by omega, htk⟩)) h
   | some s1 =>
    cases hop : Fil.opF s1 with
    | none => exact fFilter_item d N p s s1 v qs w _ hx h hs h100 htk hop
    | some o =>
     refine fFilter_kids d N p s s1 v qs w _ o hx hx0 h hs h100 htk hop ?_
     rw [show (20 : Int) - ((d + 1 : Nat) : Int) + 1 = 20 - (d : Int) by omega]
     exact ih
end Go.Proofs.YtconnibnpckadaaGreatDoor
