import Derived.Test.YtconnibnpckadaaGreatDoorWva6
set_option linter.all false
set_option maxHeartbeats 8000000
set_option maxRecDepth 100000
namespace Go.Proofs.YtconnibnpckadaaGreatDoor
open Go.RowKit
def dnPanic : List PanicEntry := [{ v := .iface 24 (.int .i64 30), recovered := false }]
def RdRet (w : World) (b : Nat) (s : List UInt8) (o : Option (Value × List UInt8)) (e : Ending) (w' : World) : Prop :=
 w.grownBy w' (some b) ∧ match o with
  | none => e = .panicked dnPanic
  | some (v, r) => e = .returned v ∧ RdAt w' b s r
theorem Clone_c (l : List UInt8) (w : World) (hl : l.length ≤ 1099511627776) :
  Calls Tryz.prog 68 #[.string ⟨l.toArray⟩] w fun e w' => e = .returned (.string ⟨l.toArray⟩) ∧ Below w.heap.size w w' := by
 have hc := Tryz.stringslite_Clone ⟨l.toArray⟩ w (by simp [ByteArray.size]; omega)
 go_enter Tryz.func68, Tryz.ntmps68
 go_wp2_with (go_at_call 113; refine hc.mono ?_; rintro e w1 ⟨rfl, hb⟩)
 go_ret
 exact ⟨rfl, hb⟩
def inTy (c : UInt8) : Bool := inTypeB c.toNat
def typR (r : List UInt8) : Option (List UInt8 × List UInt8) := if isTypeL (r.takeWhile inTy) then some (r.takeWhile inTy, r.dropWhile inTy) else none
theorem quiet_of' {P : Program} {f : FuncId} {args : Array Value} {w : World} {n : Nat} {v : Value}
  (h : Calls P f args (w.drewN n) fun e w' => e = .returned v ∧ ∃ m, w' = (w.drewN n).drewN m) : Calls P f args (w.drewN n) fun e w'' => e = .returned v ∧ ∃ m, w'' = w.drewN m := Calls.quiet_of h
theorem takeWhile_cut {p : UInt8 → Bool} : ∀ (r r' : List UInt8), (∃ k, r' = r.drop k ∧ (r.take k).all p = true) → r'.takeWhile p = [] → r.takeWhile p = r.take (r.length - r'.length) ∧ r.dropWhile p = r'
 | r, r', ⟨k, h1, h2⟩, h3 => by
  subst h1
  have hsplit : r = r.take k ++ r.drop k := (List.take_append_drop k r).symm
  have hdw : (r.drop k).dropWhile p = r.drop k := by
   cases hd : r.drop k with
   | nil => rfl
   | cons x t =>
    rw [hd] at h3
    have : p x = false := by
     cases hx : p x
     ·rfl
     ·simp [List.takeWhile_cons, hx] at h3
    simp [List.dropWhile_cons, this]
  have ht : ∀ (a c : List UInt8), a.all p = true → (a ++ c).takeWhile p = a ++ c.takeWhile p ∧ (a ++ c).dropWhile p = c.dropWhile p := by
   intro a c ha
   induction a with
   | nil => simp
   | cons y a ih =>
    simp only [List.all_cons, Bool.and_eq_true] at ha
    have := ih ha.2
    simp [List.takeWhile_cons, List.dropWhile_cons, ha.1, this]
  have := ht (r.take k) (r.drop k) h2
  rw [← hsplit, h3, hdw] at this
  refine ⟨?_, this.2⟩
  rw [this.1, List.append_nil, List.length_drop]
  by_cases hk : k ≤ r.length
  ·congr 1; omega
  ·rw [List.take_of_length_le (by omega), List.take_of_length_le (by omega)]
set_option maxRecDepth 10000 in
theorem typ_c (b : Nat) (s r : List UInt8) (w : World) (hw : Env w) (h : RdAt w b s r) (hs : s.length ≤ 65536) (hE : ∀ W, w.grownBy W (some b) → Env W) :
  Calls Tryz.prog 234 #[.pointer (some ⟨b, 0, none⟩)] w (RdRet w b s ((typR r).map fun x => (.string ⟨x.1.toArray⟩, x.2))) := by
 have hget := ba_get
 have hext := ba_ext
 obtain ⟨i, hi, rfl, hRd⟩ := h
 have hc1 := hRd.c1
 have HR := Lib.hid hRd
 have HE := Lib.hid hE
 clear hRd hE
 go_enter Tryz.func234, Tryz.ntmps234
 go_wp2_with fail
 clear hc1
 go_loopg [] (s.length - i) (fun gk wr => ∃ j, i ≤ j ∧ j ≤ s.length ∧ s.length - j ≤ gk ∧ Rd wr b s j ∧ Aside ((sub s i j).all inTy = true) ∧ w.grownBy wr (some b))
 case atStart => exact ⟨i, Nat.le_refl _, hi, Nat.le_refl _, HR.out, by show _ = _; simp [sub], World.grownBy.refl _ _⟩
 case round =>
  obtain ⟨j, hij, hj, hgk, hRd, AT, hg⟩ := hrel
  have h0 := hRd.c0
  have h1 := hRd.c1
  have hf1 := hRd.f1
  have hEn := fun w' (hR : Rd w' b s j) => ended_c b s j w' hR
  have HRj := Lib.hid hRd
  clear hRd
  have hsl : (sub s i j).length ≤ 1099511627776 := by rw [sub_len]; omega
  have hi0 : (0 : Int) ≤ (i : Int) := by omega
  have hij' : (i : Int) ≤ (j : Int) := by omega
  have hjl' : (j : Int) ≤ (s.length : Int) := by omega
  by_cases hc : ∃ hlt : j < s.length, inTypeB s[j].toNat = true
  ·obtain ⟨hlt, hty⟩ := hc
   have hb : ((j : Int) == (s.length : Int)) = false := by rw [beq_eq_false_iff_ne]; omega
   rw [hb] at hEn
   have hj1 : (j : Int) < (s.length : Int) := by omega
   have hIT := fun w => inType_c (s[j].toNat) w
   rw [hty] at hIT
   have AT' : Aside ((sub s i (j + 1)).all inTy = true) := by
    have := AT.out
    show _ = _
    rw [show sub s i (j + 1) = sub s i j ++ [s[j]] by
     unfold sub
     rw [show j + 1 - i = (j - i) + 1 by omega, List.take_add_one, List.getElem?_drop, show i + (j - i) = j by omega, List.getElem?_eq_getElem hlt]; rfl]
    simp only [List.all_append, this, Bool.true_and, List.all_cons, List.all_nil, Bool.and_true]
    exact hty
   have HEn := Lib.hid hEn
   clear hEn hb hty AT
   go_wp2_with fail
   go_quiet (first | (go_at_call 210; exact quiet_of' (HEn.out _ (HRj.out.drewN _))) | (go_at_call 74; exact quiet_l (hIT _)))
   go_wp2_with fail
   go_roundg (s.length - (j + 1))
   case measure => omega
   case rel => exact ⟨j + 1, by omega, by omega, Nat.le_refl _, (HRj.out.drewN nq).set (j + 1), AT'.out, World.grownBy.trans hg (World.grownBy.trans (grown_drewN _ _ _) (grown_set _))⟩
  ·have hstop : (s.drop j).takeWhile inTy = [] := by
    cases hd' : s.drop j with
    | nil => rfl
    | cons x t =>
     have ⟨hlt, _⟩ := drop_succ hd'
     have hx : s[j] = x := by rw [List.drop_eq_getElem_cons hlt] at hd'; exact (List.cons.inj hd').1
     have : inTy x = false := by
      cases h : inTy x
      ·rfl
      ·exact absurd ⟨hlt, by rw [hx]; exact h⟩ hc
     simp [this]
   have hcut := takeWhile_cut (p := inTy) (s.drop i) (s.drop j) ⟨j - i, by rw [List.drop_drop]; congr 1; omega, by have := AT.out; unfold sub at this; exact this⟩ hstop
   have htyp : typR (s.drop i) = if isTypeL (sub s i j) then some (sub s i j, s.drop j) else none := by
    unfold typR
    rw [hcut.1, hcut.2]
    have : (s.drop i).take ((s.drop i).length - (s.drop j).length) = sub s i j := by unfold sub; congr 1; simp; omega
    rw [this]
   have HT := Lib.hid htyp
   clear htyp hcut hstop AT
   have hEW : ∀ n w2, Below wr.heap.size (wr.drewN n) w2 → w.grownBy w2 (some b) := fun n w2 hb => World.grownBy.trans hg (World.grownBy.trans (grown_drewN _ n _) (grown_below hb _))
   have HEW := Lib.hid hEW
   have hE0 := fun n => HE.out (wr.drewN n) (World.grownBy.trans hg (grown_drewN _ n _))
   have HE0 := Lib.hid hE0
   clear hEW hE0
   by_cases hlt : j < s.length
   ·have hb : ((j : Int) == (s.length : Int)) = false := by rw [beq_eq_false_iff_ne]; omega
    rw [hb] at hEn
    have hj1 : (j : Int) < (s.length : Int) := by omega
    have hIT := fun w => inType_c (s[j].toNat) w
    have hty : inTypeB s[j].toNat = false := by
     cases h : inTypeB s[j].toNat
     ·rfl
     ·exact absurd ⟨hlt, h⟩ hc
    rw [hty] at hIT
    have HEn := Lib.hid hEn
    clear hEn hb hty hc
    go_wp2_with fail
    go_quiet (first | (go_at_call 210; exact quiet_of' (HEn.out _ (HRj.out.drewN _))) | (go_at_call 74; exact quiet_l (hIT _)))
    go_wp2_with fail
    cases hT : isTypeL (sub s i j)
    ·have hty : typR (s.drop i) = none := by rw [HT.out, hT]; rfl
     have Hty := Lib.hid hty
     clear hty
     go_region_held3 (fun w' => w'.cell? ⟨b, 0, none⟩ = some (.string ⟨s.toArray⟩) ∧ w'.cell? ⟨b, 1, none⟩ = some (.int .i64 j)) (first | exact ⟨h0, h1⟩ | exact ⟨hc0', hc1'⟩) (first | (go_at_call 36; refine (IsType_c _ _ (HE0.out (nq + 1)) hsl).mono ?_; rintro e w2 ⟨rfl, hb2⟩; rw [hT]; have hR2 := (HRj.out.drewN (nq + 1)).below hb2; have hc0' := hR2.c0; have hc1' := hR2.c1))
     clear HRj
     go_wp2_with fail
     refine ⟨rfl, ?_⟩
     rw [Hty.out]
     exact ⟨HEW.out _ _ hb2, rfl⟩
    ·have hty : typR (s.drop i) = some (sub s i j, s.drop j) := by rw [HT.out, hT]; rfl
     have Hty := Lib.hid hty
     clear hty
     go_region_held3 (fun w' => w'.cell? ⟨b, 0, none⟩ = some (.string ⟨s.toArray⟩) ∧ w'.cell? ⟨b, 1, none⟩ = some (.int .i64 j)) (first | exact ⟨h0, h1⟩ | exact ⟨hc0', hc1'⟩) (first | (go_at_call 36; refine (IsType_c _ _ (HE0.out (nq + 1)) hsl).mono ?_; rintro e w2 ⟨rfl, hb2⟩; rw [hT]; have hR2 := (HRj.out.drewN (nq + 1)).below hb2; have hc0' := hR2.c0; have hc1' := hR2.c1))
     have HR2 := Lib.hid hR2
     have HB2 := Lib.hid hb2
     clear HRj h0 h1 hR2 hb2
     go_wp2_with fail
     go_region_held3 (fun w' => w'.cell? ⟨b, 0, none⟩ = some (.string ⟨s.toArray⟩) ∧ w'.cell? ⟨b, 1, none⟩ = some (.int .i64 j)) (first | exact ⟨hc0', hc1'⟩ | exact ⟨hc0'', hc1''⟩) (first | (go_at_call 68; refine (Clone_c _ _ hsl).mono ?_; rintro e w3 ⟨rfl, hb3⟩; have hR3 := (HR2.out.drewN 1).below hb3; have hc0'' := hR3.c0; have hc1'' := hR3.c1))
     go_wp2_with fail
     go_ret
     rw [Hty.out]
     exact ⟨World.grownBy.trans (HEW.out _ _ HB2.out) (World.grownBy.trans (grown_drewN _ 1 _) (grown_below hb3 _)), rfl, j, hj, rfl, hR3⟩
   ·obtain rfl : j = s.length := by omega
    have hb : ((s.length : Int) == (s.length : Int)) = true := by simp
    rw [hb] at hEn
    have HEn := Lib.hid hEn
    clear hEn hb hc
    go_wp2_with fail
    go_quiet (first | (go_at_call 210; exact quiet_of' (HEn.out _ (HRj.out.drewN _))))
    go_wp2_with fail
    cases hT : isTypeL (sub s i s.length)
    ·have hty : typR (s.drop i) = none := by rw [HT.out, hT]; rfl
     have Hty := Lib.hid hty
     clear hty
     go_region_held3 (fun w' => w'.cell? ⟨b, 0, none⟩ = some (.string ⟨s.toArray⟩) ∧ w'.cell? ⟨b, 1, none⟩ = some (.int .i64 s.length)) (first | exact ⟨h0, h1⟩ | exact ⟨hc0', hc1'⟩) (first | (go_at_call 36; refine (IsType_c _ _ (HE0.out (nq + 1)) hsl).mono ?_; rintro e w2 ⟨rfl, hb2⟩; rw [hT]; have hR2 := (HRj.out.drewN (nq + 1)).below hb2; have hc0' := hR2.c0; have hc1' := hR2.c1))
     clear HRj
     go_wp2_with fail
     refine ⟨rfl, ?_⟩
     rw [Hty.out]
     exact ⟨HEW.out _ _ hb2, rfl⟩
    ·have hty : typR (s.drop i) = some (sub s i s.length, s.drop s.length) := by rw [HT.out, hT]; rfl
     have Hty := Lib.hid hty
     clear hty
     go_region_held3 (fun w' => w'.cell? ⟨b, 0, none⟩ = some (.string ⟨s.toArray⟩) ∧ w'.cell? ⟨b, 1, none⟩ = some (.int .i64 s.length)) (first | exact ⟨h0, h1⟩ | exact ⟨hc0', hc1'⟩) (first | (go_at_call 36; refine (IsType_c _ _ (HE0.out (nq + 1)) hsl).mono ?_; rintro e w2 ⟨rfl, hb2⟩; rw [hT]; have hR2 := (HRj.out.drewN (nq + 1)).below hb2; have hc0' := hR2.c0; have hc1' := hR2.c1))
     have HR2 := Lib.hid hR2
     have HB2 := Lib.hid hb2
     clear HRj h0 h1 hR2 hb2
     go_wp2_with fail
     go_region_held3 (fun w' => w'.cell? ⟨b, 0, none⟩ = some (.string ⟨s.toArray⟩) ∧ w'.cell? ⟨b, 1, none⟩ = some (.int .i64 s.length)) (first | exact ⟨hc0', hc1'⟩ | exact ⟨hc0'', hc1''⟩) (first | (go_at_call 68; refine (Clone_c _ _ hsl).mono ?_; rintro e w3 ⟨rfl, hb3⟩; have hR3 := (HR2.out.drewN 1).below hb3; have hc0'' := hR3.c0; have hc1'' := hR3.c1))
     go_wp2_with fail
     go_ret
     rw [Hty.out]
     exact ⟨World.grownBy.trans (HEW.out _ _ HB2.out) (World.grownBy.trans (grown_drewN _ 1 _) (grown_below hb3 _)), rfl, s.length, hj, rfl, hR3⟩
open Go.RowKit
def hexByte (a b : Int) : UInt8 := UInt8.ofNat (16 * a + b).toNat
def unhexL : List UInt8 → Option (List UInt8)
 | [] => some []
 | [_] => none
 | a :: b :: t => if digitV a.toNat < 0 ∨ digitV b.toNat < 0 then none else (unhexL t).map (hexByte (digitV a.toNat) (digitV b.toNat) :: ·)
theorem digitV_rng (c : Int) : -1 ≤ digitV c ∧ digitV c ≤ 15 := by
 unfold digitV
 repeat' split
 all_goals omega
theorem hexByte_fin : ∀ x y : Fin 16, (bits BinOp.or IntKind.i64 ((x.val : Int) * 16) (y.val : Int)) % 256 = ((hexByte (x.val : Int) (y.val : Int)).toNat : Int) := by decide +kernel
theorem hexByte_bits (x y : Int) (h1 : 0 ≤ x) (h2 : x ≤ 15) (h3 : 0 ≤ y) (h4 : y ≤ 15) : bits BinOp.or IntKind.i64 (x * 16) y % 256 = ((hexByte x y).toNat : Int) := by
 obtain ⟨a, rfl⟩ := Int.eq_ofNat_of_zero_le h1
 obtain ⟨b, rfl⟩ := Int.eq_ofNat_of_zero_le h3
 exact hexByte_fin ⟨a, by omega⟩ ⟨b, by omega⟩
set_option maxRecDepth 10000 in
theorem Unhex_c (l : List UInt8) (w : World) (hl : l.length ≤ 1099511627776) :
  Calls Tryz.prog 110 #[.string ⟨l.toArray⟩] w fun e w' => e = .returned (strOr 11 (unhexL l)) ∧ Below w.heap.size w w' := by
 have hget := ba_get
 by_cases hodd : l.length % 2 = 0
 ·have h1 : (((l.length : Int) % 2) != 0) = false := by simp; omega
  go_enter Tryz.func110, Tryz.ntmps110
  go_wp2_with (at_make; refine buf_make rfl _ _ rfl (l.length / 2) _ rfl rfl (by simp) (by omega) ?_; intro w1 hb1)
  go_loopg [4, 5] l.length (fun gk v i wr => ∃ (p : Nat) (acc : List UInt8), p ≤ l.length ∧ i = .int .i64 p ∧ l.length - p ≤ gk ∧ Aside (p % 2 = 0) ∧ Buf w wr v acc ∧ acc.length ≤ p ∧ Aside (unhexL l = (unhexL (l.drop p)).map (acc ++ ·)))
  case atStart => exact ⟨0, [], by omega, rfl, by omega, rfl, hb1, by simp, by show _ = _; simp⟩
  case round =>
   obtain ⟨p, acc, hp, rfl, hgk, AP, hbuf, hacc, AU⟩ := hrel
   by_cases hlt : p < l.length
   ·have hlt1 : p + 1 < l.length := by have := AP.out; omega
    have hdr : l.drop p = l[p] :: l[p + 1] :: l.drop (p + 2) := by
     rw [List.drop_eq_getElem_cons hlt, List.drop_eq_getElem_cons hlt1]
    have hra := digitV_rng l[p].toNat
    have hrb := digitV_rng l[p + 1].toNat
    have HDD := Lib.hid (fun (c : Int) (w : World) (h0 : 0 ≤ c) (h1 : c < 256) => Digit_c c w h0 h1)
    have ha8 : (l[p].toNat : Int) < 256 := by have := UInt8.toNat_lt l[p]; omega
    have hb8 : (l[p + 1].toNat : Int) < 256 := by have := UInt8.toNat_lt l[p + 1]; omega
    have hk0 : (0 : Int) ≤ (p : Int) := by omega
    have hk1 : (p : Int) < (l.length : Int) := by omega
    have hk2 : (p : Int) + 1 < (l.length : Int) := by omega
    have hk3 : ((p : Int) + 1).toNat = p + 1 := by omega
    have hk4 : (0 : Int) ≤ (p : Int) + 1 := by omega
    have hk5 : IntKind.i64.wrap ((p : Int) + 1) = (p : Int) + 1 := IntWalk.i64_in _ (by omega)
    have AU' : Aside (unhexL l = (if digitV l[p].toNat < 0 ∨ digitV l[p + 1].toNat < 0 then none else (unhexL (l.drop (p + 2))).map (hexByte (digitV l[p].toNat) (digitV l[p + 1].toNat) :: ·)).map (acc ++ ·)) := by
     have := AU.out
     rw [hdr, unhexL] at this
     exact this
    clear hdr AU
    go_wp2_with fail
    go_quiet ((go_at_call 140; exact quiet_l (HDD.out _ _ (by omega) (by omega))))
    clear hk5
    generalize digitV l[p].toNat = x at hra AU' ⊢
    generalize digitV l[p + 1].toNat = y at hrb AU' ⊢
    by_cases hneg : x < 0 ∨ y < 0
    ·have hno : unhexL l = none := by have := AU'.out; rw [if_pos hneg] at this; exact this
     have Hno := Lib.hid hno
     clear hno
     have hB := hbuf.below
     rcases hneg with h | h
     ·go_wp2_with fail
      go_ret2
      exact ⟨by rw [Hno.out]; rfl, below_drewN hB _⟩
     ·go_wp2_with fail
      all_goals
       go_ret2
       exact ⟨by rw [Hno.out]; rfl, below_drewN hB _⟩
    ·have hx0 : 0 ≤ x := by omega
     have hy0 : 0 ≤ y := by omega
     have AU2 : Aside (unhexL l = (unhexL (l.drop (p + 2))).map ((acc ++ [hexByte x y]) ++ ·)) := by
      have := AU'.out
      rw [if_neg hneg, Option.map_map] at this
      show _ = _
      rw [this]
      congr 1
      funext z
      simp
     have hx15 : x ≤ 15 := hra.2
     have hy15 : y ≤ 15 := hrb.2
     clear hneg hra hrb AU'
     have hbits := hexByte_bits x y hx0 hx15 hy0 hy15
     have hbufN := hbuf.drewN nq
     go_wp2_with (at_builtin; refine buf_byte rfl _ _ rfl rfl hbufN rfl (by omega) ?_; intro v' w2 hb2 hg2)
     go_roundg (l.length - (p + 2))
     case measure => omega
     case rel => exact ⟨p + 2, _, by omega, by go_num, Nat.le_refl _, by have := AP.out; show _ = _; omega, hb2, by simp; omega, AU2.out⟩
   ·have hfin : unhexL l = some acc := by
     have := AU.out
     rw [List.drop_eq_nil_of_le (by omega), unhexL] at this
     simpa using this
    have Hf := Lib.hid hfin
    have hst := buf_string hbuf
    have hB := hbuf.below
    clear AU hfin
    go_wp2
    go_ret2
    exact ⟨by rw [Hf.out]; rfl, hB⟩
 ·have h1 : (((l.length : Int) % 2) != 0) = true := by simp; omega
  have hno : ∀ (n : Nat) (l : List UInt8), l.length ≤ n → l.length % 2 ≠ 0 → unhexL l = none := by
   intro n
   induction n with
   | zero => intro l h1 h2; omega
   | succ n ih =>
    intro l h1 h2
    match l, h1, h2 with
    | [], _, h2 => simp at h2
    | [_], _, _ => rfl
    | a :: b :: t, h1, h2 =>
     rw [unhexL, ih t (by simp at h1; omega) (by simp at h2; omega)]
     split <;> rfl
  rw [hno l.length l (Nat.le_refl _) hodd]
  clear hno
  go_enter Tryz.func110, Tryz.ntmps110
  go_wp2
  go_ret2
  exact ⟨rfl, Below.refl _ _⟩
open Go.RowKit
def isHex (c : UInt8) : Bool := decide (0 ≤ digitV c.toNat)
def hexR (t : List UInt8) : Option (List UInt8 × List UInt8) := match unhexL (t.takeWhile isHex) with
 | none => none
 | some v => if v = [] then none else some (v, t.dropWhile isHex)
set_option maxRecDepth 10000 in
theorem hex_c (b : Nat) (s t : List UInt8) (x : UInt8) (w : World) (h : RdAt w b s (x :: t)) (hs : s.length ≤ 65536) :
  Calls Tryz.prog 242 #[.pointer (some ⟨b, 0, none⟩)] w (RdRet w b s ((hexR t).map fun x => (.string ⟨x.1.toArray⟩, x.2))) := by
 have hget := ba_get
 have hext := ba_ext
 obtain ⟨i0, hi0, hd0, hRd0⟩ := h
 have ⟨hlt0, hdt⟩ := drop_succ hd0
 subst hdt
 clear hd0
 have hc1 := hRd0.c1
 have hf1 := hRd0.f1
 have HR0 := Lib.hid hRd0
 clear hRd0
 go_enter Tryz.func242, Tryz.ntmps242
 go_wp2_with fail
 have hRd1 : Rd (w.setCell ⟨b, 1, none⟩ (.int .i64 ((i0 : Int) + 1))) b s (i0 + 1) := HR0.out.set (i0 + 1)
 have hg1 : w.grownBy (w.setCell ⟨b, 1, none⟩ (.int .i64 ((i0 : Int) + 1))) (some b) := grown_set _
 generalize w.setCell ⟨b, 1, none⟩ (.int .i64 ((i0 : Int) + 1)) = w0 at *
 clear hc1 hf1
 have hc1 := hRd1.c1
 have ec : ((i0 + 1 : Nat) : Int) = (i0 : Int) + 1 := by omega
 rw [ec] at hc1
 clear ec
 go_wp2_with fail
 clear hc1
 rw [show ((i0 : Int) + 1) = ((i0 + 1 : Nat) : Int) from by omega]
 obtain ⟨i, rfl⟩ : ∃ i, i = i0 + 1 := ⟨_, rfl⟩
 generalize hie : i0 + 1 = i at *
 have hi : i ≤ s.length := by omega
 have HRi := Lib.hid hRd1
 have HIE := Lib.hid hie
 clear hRd1 hie
 go_loopg [] (s.length - i) (fun gk wr => ∃ j, i ≤ j ∧ j ≤ s.length ∧ s.length - j ≤ gk ∧ Rd wr b s j ∧ Aside ((sub s i j).all isHex = true) ∧ w.grownBy wr (some b))
 case atStart => exact ⟨i, Nat.le_refl _, hi, Nat.le_refl _, HRi.out, by show _ = _; simp [sub], hg1⟩
 case round =>
  obtain ⟨j, hij, hj, hgk, hRd, AT, hg⟩ := hrel
  have h0 := hRd.c0
  have h1 := hRd.c1
  have hf1 := hRd.f1
  have hEn := fun w' (hR : Rd w' b s j) => ended_c b s j w' hR
  have HRj := Lib.hid hRd
  clear hRd
  have hsl : (sub s i j).length ≤ 1099511627776 := by rw [sub_len]; omega
  have hi0 : (0 : Int) ≤ (i : Int) := by omega
  have hij' : (i : Int) ≤ (j : Int) := by omega
  have hjl' : (j : Int) ≤ (s.length : Int) := by omega
  by_cases hc : ∃ hlt : j < s.length, 0 ≤ digitV s[j].toNat
  ·obtain ⟨hlt, hty⟩ := hc
   have hb : ((j : Int) == (s.length : Int)) = false := by rw [beq_eq_false_iff_ne]; omega
   rw [hb] at hEn
   have hj1 : (j : Int) < (s.length : Int) := by omega
   have hIT := fun w => Digit_c (s[j].toNat) w (by omega) (by have := UInt8.toNat_lt s[j]; omega)
   have AT' : Aside ((sub s i (j + 1)).all isHex = true) := by
    have := AT.out
    show _ = _
    rw [show sub s i (j + 1) = sub s i j ++ [s[j]] by
     unfold sub
     rw [show j + 1 - i = (j - i) + 1 by omega, List.take_add_one, List.getElem?_drop, show i + (j - i) = j by omega, List.getElem?_eq_getElem hlt]; rfl]
    simp only [List.all_append, this, Bool.true_and, List.all_cons, List.all_nil, Bool.and_true]
    exact decide_eq_true hty
   have HEn := Lib.hid hEn
   clear hEn hb AT
   go_wp2_with fail
   go_quiet (first | (go_at_call 210; exact quiet_of' (HEn.out _ (HRj.out.drewN _))) | (go_at_call 140; exact quiet_l (hIT _)))
   go_wp2_with fail
   go_roundg (s.length - (j + 1))
   case measure => omega
   case rel => exact ⟨j + 1, by omega, by omega, Nat.le_refl _, (HRj.out.drewN nq).set (j + 1), AT'.out, World.grownBy.trans hg (World.grownBy.trans (grown_drewN _ _ _) (grown_set _))⟩
  ·have hstop : (s.drop j).takeWhile isHex = [] := by
    cases hd' : s.drop j with
    | nil => rfl
    | cons x t =>
     have ⟨hlt, _⟩ := drop_succ hd'
     have hx : s[j] = x := by rw [List.drop_eq_getElem_cons hlt] at hd'; exact (List.cons.inj hd').1
     have : isHex x = false := by
      cases h : isHex x
      ·rfl
      ·exact absurd ⟨hlt, by rw [hx]; exact of_decide_eq_true h⟩ hc
     simp [this]
   have hcut := takeWhile_cut (p := isHex) (s.drop i) (s.drop j) ⟨j - i, by rw [List.drop_drop]; congr 1; omega, by have := AT.out; unfold sub at this; exact this⟩ hstop
   have htyp : hexR (s.drop i) = match unhexL (sub s i j) with | none => none | some v => if v = [] then none else some (v, s.drop j) := by
    unfold hexR
    rw [hcut.1, hcut.2]
    have : (s.drop i).take ((s.drop i).length - (s.drop j).length) = sub s i j := by unfold sub; congr 1; simp; omega
    rw [this]
   have HT := Lib.hid htyp
   clear htyp hcut hstop AT
   have hEW : ∀ n w2, Below wr.heap.size (wr.drewN n) w2 → w.grownBy w2 (some b) := fun n w2 hb => World.grownBy.trans hg (World.grownBy.trans (grown_drewN _ n _) (grown_below hb _))
   have HEW := Lib.hid hEW
   clear hEW
   by_cases hlt : j < s.length
   ·have hb : ((j : Int) == (s.length : Int)) = false := by rw [beq_eq_false_iff_ne]; omega
    rw [hb] at hEn
    have hj1 : (j : Int) < (s.length : Int) := by omega
    have hIT := fun w => Digit_c (s[j].toNat) w (by omega) (by have := UInt8.toNat_lt s[j]; omega)
    have hty : ¬ 0 ≤ digitV s[j].toNat := fun h => hc ⟨hlt, h⟩
    have hty' : digitV s[j].toNat < 0 := by omega
    have HEn := Lib.hid hEn
    clear hEn hb hty hc
    go_wp2_with fail
    go_quiet (first | (go_at_call 210; exact quiet_of' (HEn.out _ (HRj.out.drewN _))) | (go_at_call 140; exact quiet_l (hIT _)))
    go_wp2_with fail
    rcases hT : unhexL (sub s i j) with _ | v
    ·have hty : hexR (s.drop i) = none := by rw [HT.out, hT]
     have Hty := Lib.hid hty
     clear hty
     go_region_held3 (fun w' => w'.cell? ⟨b, 0, none⟩ = some (.string ⟨s.toArray⟩) ∧ w'.cell? ⟨b, 1, none⟩ = some (.int .i64 j)) (first | exact ⟨h0, h1⟩ | exact ⟨hc0', hc1'⟩) (first | (go_at_call 110; refine (Unhex_c _ _ hsl).mono ?_; rintro e w2 ⟨rfl, hb2⟩; rw [hT]; simp only [strOr]; have hR2 := (HRj.out.drewN (nq + 1)).below hb2; have hc0' := hR2.c0; have hc1' := hR2.c1))
     have HR2 := Lib.hid hR2
     clear HRj h0 h1 hR2
     go_wp2_with fail
     refine ⟨rfl, ?_⟩
     rw [HIE.out, Hty.out]
     exact ⟨HEW.out _ _ hb2, rfl⟩
    ·by_cases hv : v = []
     ·have hty : hexR (s.drop i) = none := by rw [HT.out, hT]; dsimp only; rw [if_pos hv]
      have Hty := Lib.hid hty
      subst hv
      clear hty
      go_region_held3 (fun w' => w'.cell? ⟨b, 0, none⟩ = some (.string ⟨s.toArray⟩) ∧ w'.cell? ⟨b, 1, none⟩ = some (.int .i64 j)) (first | exact ⟨h0, h1⟩ | exact ⟨hc0', hc1'⟩) (first | (go_at_call 110; refine (Unhex_c _ _ hsl).mono ?_; rintro e w2 ⟨rfl, hb2⟩; rw [hT]; simp only [strOr]; have hR2 := (HRj.out.drewN (nq + 1)).below hb2; have hc0' := hR2.c0; have hc1' := hR2.c1))
      have HR2 := Lib.hid hR2
      clear HRj h0 h1 hR2
      go_wp2_with fail
      refine ⟨rfl, ?_⟩
      rw [HIE.out, Hty.out]
      exact ⟨HEW.out _ _ hb2, rfl⟩
     ·have hty : hexR (s.drop i) = some (v, s.drop j) := by rw [HT.out, hT]; dsimp only; rw [if_neg hv]
      have Hty := Lib.hid hty
      have hve : v.isEmpty = false := by cases v <;> simp_all
      clear hty
      go_region_held3 (fun w' => w'.cell? ⟨b, 0, none⟩ = some (.string ⟨s.toArray⟩) ∧ w'.cell? ⟨b, 1, none⟩ = some (.int .i64 j)) (first | exact ⟨h0, h1⟩ | exact ⟨hc0', hc1'⟩) (first | (go_at_call 110; refine (Unhex_c _ _ hsl).mono ?_; rintro e w2 ⟨rfl, hb2⟩; rw [hT]; simp only [strOr]; have hR2 := (HRj.out.drewN (nq + 1)).below hb2; have hc0' := hR2.c0; have hc1' := hR2.c1))
      have HR2 := Lib.hid hR2
      clear HRj h0 h1 hR2
      go_wp2_with fail
      go_ret
      rw [HIE.out, Hty.out]
      exact ⟨HEW.out _ _ hb2, rfl, j, hj, rfl, HR2.out⟩
   ·obtain rfl : j = s.length := by omega
    have hb : ((s.length : Int) == (s.length : Int)) = true := by simp
    rw [hb] at hEn
    have HEn := Lib.hid hEn
    clear hEn hb hc
    go_wp2_with fail
    go_quiet (first | (go_at_call 210; exact quiet_of' (HEn.out _ (HRj.out.drewN _))))
    go_wp2_with fail
    rcases hT : unhexL (sub s i s.length) with _ | v
    ·have hty : hexR (s.drop i) = none := by rw [HT.out, hT]
     have Hty := Lib.hid hty
     clear hty
     go_region_held3 (fun w' => w'.cell? ⟨b, 0, none⟩ = some (.string ⟨s.toArray⟩) ∧ w'.cell? ⟨b, 1, none⟩ = some (.int .i64 s.length)) (first | exact ⟨h0, h1⟩ | exact ⟨hc0', hc1'⟩) (first | (go_at_call 110; refine (Unhex_c _ _ hsl).mono ?_; rintro e w2 ⟨rfl, hb2⟩; rw [hT]; simp only [strOr]; have hR2 := (HRj.out.drewN (nq + 1)).below hb2; have hc0' := hR2.c0; have hc1' := hR2.c1))
     have HR2 := Lib.hid hR2
     clear HRj h0 h1 hR2
     go_wp2_with fail
     refine ⟨rfl, ?_⟩
     rw [HIE.out, Hty.out]
     exact ⟨HEW.out _ _ hb2, rfl⟩
    ·by_cases hv : v = []
     ·have hty : hexR (s.drop i) = none := by rw [HT.out, hT]; dsimp only; rw [if_pos hv]
      have Hty := Lib.hid hty
      subst hv
      clear hty
      go_region_held3 (fun w' => w'.cell? ⟨b, 0, none⟩ = some (.string ⟨s.toArray⟩) ∧ w'.cell? ⟨b, 1, none⟩ = some (.int .i64 s.length)) (first | exact ⟨h0, h1⟩ | exact ⟨hc0', hc1'⟩) (first | (go_at_call 110; refine (Unhex_c _ _ hsl).mono ?_; rintro e w2 ⟨rfl, hb2⟩; rw [hT]; simp only [strOr]; have hR2 := (HRj.out.drewN (nq + 1)).below hb2; have hc0' := hR2.c0; have hc1' := hR2.c1))
      have HR2 := Lib.hid hR2
      clear HRj h0 h1 hR2
      go_wp2_with fail
      refine ⟨rfl, ?_⟩
      rw [HIE.out, Hty.out]
      exact ⟨HEW.out _ _ hb2, rfl⟩
     ·have hty : hexR (s.drop i) = some (v, s.drop s.length) := by rw [HT.out, hT]; dsimp only; rw [if_neg hv]
      have Hty := Lib.hid hty
      have hve : v.isEmpty = false := by cases v <;> simp_all
      clear hty
      go_region_held3 (fun w' => w'.cell? ⟨b, 0, none⟩ = some (.string ⟨s.toArray⟩) ∧ w'.cell? ⟨b, 1, none⟩ = some (.int .i64 s.length)) (first | exact ⟨h0, h1⟩ | exact ⟨hc0', hc1'⟩) (first | (go_at_call 110; refine (Unhex_c _ _ hsl).mono ?_; rintro e w2 ⟨rfl, hb2⟩; rw [hT]; simp only [strOr]; have hR2 := (HRj.out.drewN (nq + 1)).below hb2; have hc0' := hR2.c0; have hc1' := hR2.c1))
      have HR2 := Lib.hid hR2
      clear HRj h0 h1 hR2
      go_wp2_with fail
      go_ret
      rw [HIE.out, Hty.out]
      exact ⟨HEW.out _ _ hb2, rfl, s.length, hj, rfl, HR2.out⟩
end Go.Proofs.YtconnibnpckadaaGreatDoor
