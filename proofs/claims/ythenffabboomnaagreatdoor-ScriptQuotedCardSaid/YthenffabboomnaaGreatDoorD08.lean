import Derived.Test.YthenffabboomnaaGreatDoorD07
import Derived.Lib.SmallJoins
import Derived.RegionTactic
import Derived.ChangeAlike
import Derived.BigRegion
set_option linter.all false
set_option maxHeartbeats 8000000
set_option maxRecDepth 100000
set_option linter.all false
namespace Go.Proofs.YthenffabboomnaaGreatDoor
open Go.RowKit
set_option maxRecDepth 100000 in
theorem Number_c (s : List UInt8) (w : World) (hs : s.length ≤ 4000000) :
  Calls Tryz.prog 103 #[.string ⟨s.toArray⟩] w fun e w' => e = .returned (.tuple #[.int .i64 (Cfg.numS s).1, .bool (Cfg.numS s).2]) ∧ Below w.heap.size w w' := by
 have hget := ba_get
 cases hsc : s with
 | nil =>
  go_enter Tryz.func103, Tryz.ntmps103
  go_wp2_with fail
  go_ret2
  exact ⟨rfl, Below.refl _ _⟩
 | cons c t =>
  rw [← hsc]
  have hne : (s == []) = false := by rw [hsc]; rfl
  have hlen : s.length = t.length + 1 := by rw [hsc]; rfl
  have hc0 : ∀ h : 0 < s.length, s[0] = c := by intro h; simp [hsc]
  by_cases h10 : 10 < s.length
  ·have hv : Cfg.numS s = (0, false) := by unfold Cfg.numS; rw [if_pos (.inr (.inl h10))]
   rw [hv]
   have hi : (10 : Int) < (s.length : Int) := by omega
   clear hv hsc hc0
   go_enter Tryz.func103, Tryz.ntmps103
   go_wp2_with fail
   go_ret2
   exact ⟨rfl, Below.refl _ _⟩
  have hi : ¬ (10 : Int) < (s.length : Int) := by omega
  have HT : Hid (∀ W : World, Calls Tryz.prog 12 #[.string ⟨s.toArray⟩, .string ⟨#[48, 49, 50, 51, 52, 53, 54, 55, 56, 57]⟩] W fun e w' => e = .returned (.string ⟨(Lib.trimS s [48, 49, 50, 51, 52, 53, 54, 55, 56, 57]).toArray⟩) ∧ Below W.heap.size W w') := Lib.hid fun W => Tryz.strings_Trim_set ⟨s.toArray⟩ ⟨#[48, 49, 50, 51, 52, 53, 54, 55, 56, 57]⟩ W (by show s.length ≤ _; omega) (by decide) (by
   intro j b hb
   have hm : b ∈ [48, 49, 50, 51, 52, 53, 54, 55, 56, 57] := List.mem_of_getElem? hb
   simp only [List.mem_cons, List.not_mem_nil, or_false] at hm
   rcases hm with rfl | rfl | rfl | rfl | rfl | rfl | rfl | rfl | rfl | rfl <;> decide)
  have HA : Hid (s.all Cfg.digB = true → ∀ W : World, Calls Tryz.prog 126 #[.string ⟨s.toArray⟩] W fun e w' => e = .returned (.tuple #[.int .i64 (Cfg.valN s : Int), .nilIface]) ∧ Below W.heap.size W w') := Lib.hid fun h W => (Tryz.strconv_Atoi ⟨s.toArray⟩ _ (by show s.length ≤ _; omega) (Cfg.atoi_val s (by rw [hsc]; simp) h) W).mono (by
   rintro e w' ⟨rfl, x, rfl⟩
   exact ⟨rfl, Go.Joins.below_bytesWorld _ _ _ _ (Nat.le_refl _)⟩)
  have htn := Cfg.trim_nil s
  by_cases h48 : 1 < s.length ∧ s.headD 0 = 48
  ·have hv : Cfg.numS s = (0, false) := by unfold Cfg.numS; rw [if_pos (.inr (.inr (.inl h48)))]
   rw [hv]
   have hl1 : (1 : Int) < (s.length : Int) := by omega
   have hl0 : (0 : Int) < (s.length : Int) := by omega
   have hcc : s[0]'(by omega) = 48 := by
    have := h48.2
    rw [hsc] at this
    rw [hc0]; exact this
   have hcb : ((s[0]'(by omega)).toNat : Int) = 48 := by rw [hcc]; rfl
   clear hv hsc hc0 HT HA htn
   go_enter Tryz.func103, Tryz.ntmps103
   go_wp2_with fail
   go_ret2
   exact ⟨rfl, Below.refl _ _⟩
  ·have hl0 : (0 : Int) < (s.length : Int) := by omega
   have hcb : 1 < s.length → (((s[0]'(by omega)).toNat : Int) == 48) = false := fun h => by
    rw [beq_eq_false_iff_ne]
    intro e
    refine h48 ⟨h, ?_⟩
    rw [hsc]
    show c = 48
    have : s[0]'(by omega) = c := hc0 (by omega)
    rw [this] at e
    have e2 : c.toNat = 48 := by omega
    have := UInt8.ofNat_toNat (x := c)
    rw [e2] at this
    rw [← this]; rfl
   have hnv : Cfg.numS s = if s.all Cfg.digB = true then ((Cfg.valN s : Int), decide (Cfg.valN s ≤ 2147483647)) else (0, false) := by
    unfold Cfg.numS
    by_cases ha : s.all Cfg.digB = true
    ·rw [if_pos ha, if_neg]
     rintro (h | h | h | h)
     ·rw [hsc] at h; cases h
     ·exact h10 h
     ·exact h48 h
     ·rw [ha] at h; cases h
    ·rw [if_neg ha, if_pos (.inr (.inr (.inr (by simpa using ha))))]
   rw [hnv]
   have hd : decide (Cfg.valN s ≤ 2147483647) = decide ((Cfg.valN s : Int) ≤ 2147483647) := by rw [Bool.eq_iff_iff, decide_eq_true_iff, decide_eq_true_iff]; omega
   rw [hd]
   clear hnv hsc hc0 hd
   generalize Lib.trimS s [48, 49, 50, 51, 52, 53, 54, 55, 56, 57] = tr at *
   generalize Cfg.valN s = vn at *
   by_cases ha : s.all Cfg.digB = true
   ·rw [if_pos ha]
    obtain rfl : tr = [] := htn.2 ha
    have HA := Lib.hid (HA.out ha)
    clear htn ha
    by_cases h1 : 1 < s.length
    ·have hcb := hcb h1
     have hl1 : (1 : Int) < (s.length : Int) := by omega
     go_enter Tryz.func103, Tryz.ntmps103
     go_wp2_with (first
      | (go_at_call 12; (with_reducible refine (HT.out _).mono ?_); rintro e w1 ⟨rfl, hb1⟩)
      | (go_at_call 126; (with_reducible refine (HA.out _).mono ?_); rintro e w2 ⟨rfl, hb2⟩))
     go_ret2
     exact ⟨rfl, hb1.trans (hb2.mono hb1.size)⟩
    ·have hl1 : ¬ (1 : Int) < (s.length : Int) := by omega
     clear hcb
     go_enter Tryz.func103, Tryz.ntmps103
     go_wp2_with (first
      | (go_at_call 12; (with_reducible refine (HT.out _).mono ?_); rintro e w1 ⟨rfl, hb1⟩)
      | (go_at_call 126; (with_reducible refine (HA.out _).mono ?_); rintro e w2 ⟨rfl, hb2⟩))
     go_ret2
     exact ⟨rfl, hb1.trans (hb2.mono hb1.size)⟩
   ·rw [if_neg ha]
    have htr : (tr == []) = false := beq_eq_false_iff_ne.2 (fun e => ha (htn.1 e))
    clear htn ha HA
    by_cases h1 : 1 < s.length
    ·have hcb := hcb h1
     have hl1 : (1 : Int) < (s.length : Int) := by omega
     go_enter Tryz.func103, Tryz.ntmps103
     go_wp2_with (go_at_call 12; (with_reducible refine (HT.out _).mono ?_); rintro e w1 ⟨rfl, hb1⟩)
     go_ret2
     exact ⟨rfl, hb1⟩
    ·have hl1 : ¬ (1 : Int) < (s.length : Int) := by omega
     clear hcb
     go_enter Tryz.func103, Tryz.ntmps103
     go_wp2_with (go_at_call 12; (with_reducible refine (HT.out _).mono ?_); rintro e w1 ⟨rfl, hb1⟩)
     go_ret2
     exact ⟨rfl, hb1⟩
section
variable {B p : Nat} {w : World} {c : Cfg.ConfE} {va vc vl vi vr vu : Value}
end
open Go.RowKit
theorem size_fil : ∀ w, (sizeOf 144).run Tryz.prog w = .ok 7 w := fun w => by kernel_rfl
theorem fslice_off {t e : TypeId} {sz : Nat} (ht : Tryz.prog.underlying t = some (.slice e)) (hs : ∀ w, (sizeOf e).run Tryz.prog w = .ok sz w) (b o n c j : Nat) (hj : j ≤ n) (hc : n ≤ c) :
  ∃ B : Addr, (j < c → B = ⟨b, o + j * sz, none⟩) ∧ ∀ w, (Instr.slice t (.slice (some ⟨b, o, none⟩) n c) (some (.int .i64 (j : Int))) none none).run Tryz.prog w = .ok (.slice (some B) (n - j) (c - j)) w := by
 have h1 : ∀ w, (Instr.sliceBounds true n c (some (.int .i64 j)) none none).run Tryz.prog w = .ok (j, n, c) w := fun w => by
  simp [Instr.sliceBounds, run_sliceBound, hj]
 have ha : (⟨b, o, none⟩ : Addr).add (j * sz) = ⟨b, o + j * sz, none⟩ := add_at2 _ _ _
 by_cases hjc : j < c
 ·refine ⟨⟨b, o + j * sz, none⟩, fun _ => rfl, fun w => ?_⟩
  unfold Instr.slice
  simp only [Sem.run_bind, run_underlying ht, Result.andThen_ok, h1, hs, Sem.run_pure]
  simp [ha]
  intro e
  omega
 ·refine ⟨⟨b, o, none⟩, fun h => absurd h hjc, fun w => ?_⟩
  unfold Instr.slice
  simp only [Sem.run_bind, run_underlying ht, Result.andThen_ok, h1, hs, Sem.run_pure]
  simp [ha]
  intro e
  omega
theorem fil_slice1 (b o n c : Nat) (hn : 1 ≤ n) (hc : n ≤ c) :
  ∃ B : Addr, (1 < c → B = ⟨b, o + 7, none⟩) ∧ ∀ w, (Instr.slice 31 (.slice (some ⟨b, o, none⟩) n c) (some (.int .i64 1)) none none).run Tryz.prog w = .ok (.slice (some B) (n - 1) (c - 1)) w :=
 fslice_off Tryz.underlying31 size_fil b o n c 1 hn hc
theorem FilsA.tail {w : World} {v : Value} {x : Fil.FilE} {t : List Fil.FilE} (h : FilsA w v (x :: t)) : ∃ b o c va vt, v = .slice (some ⟨b, o, none⟩) (t.length + 1) c ∧ t.length + 1 ≤ c ∧
  (w.cell? ⟨b, o, none⟩ = some (.int .i64 x.op) ∧ w.cell? ⟨b, o + 1, none⟩ = some (.int .i64 x.n) ∧ w.cell? ⟨b, o + 2, none⟩ = some (.string ⟨x.typ.toArray⟩) ∧ w.cell? ⟨b, o + 3, none⟩ = some (.string ⟨x.val.toArray⟩) ∧ w.cell? ⟨b, o + 4, none⟩ = some (.string ⟨x.ini.toArray⟩) ∧ w.cell? ⟨b, o + 5, none⟩ = some (.string ⟨x.fin.toArray⟩) ∧ w.cell? ⟨b, o + 6, none⟩ = some va) ∧ TextsA w va x.any ∧
  (∀ W, (Instr.slice 31 (.slice (some ⟨b, o, none⟩) (t.length + 1) c) (some (.int .i64 1)) none none).run Tryz.prog W = .ok vt W) ∧ FilsA w vt t := by
 obtain ⟨qs, hq, ⟨A, c, rfl, hc, hx⟩, hok⟩ := h
 obtain ⟨q, ys, rfl⟩ : ∃ q ys, qs = q :: ys := by
  cases qs with
  | nil => simp at hq
  | cons q ys => exact ⟨q, ys, rfl⟩
 rw [List.map_cons, List.cons.injEq] at hq
 obtain ⟨rfl, rfl⟩ := hq
 rw [List.length_map]
 obtain ⟨b, o, rfl, hk⟩ := hx 0 (by simp)
 simp only [List.getElem_cons_zero, Nat.zero_mul, Nat.add_zero] at hk
 simp only [List.length_cons] at hc ⊢
 obtain ⟨B, hB, hs⟩ := fil_slice1 b o (ys.length + 1) c (by omega) hc
 rw [show ys.length + 1 - 1 = ys.length by omega] at hs
 refine ⟨b, o, c, q.2, _, rfl, hc, ⟨hk 0 _ rfl, hk 1 _ rfl, hk 2 _ rfl, hk 3 _ rfl, hk 4 _ rfl, hk 5 _ rfl, hk 6 _ rfl⟩, hok q (List.mem_cons_self ..), hs, ⟨ys, rfl, ⟨some B, c - 1, rfl, by omega, fun j hj => ?_⟩, fun y hy => hok y (List.mem_cons_of_mem _ hy)⟩⟩
 obtain ⟨b', o', he, hk'⟩ := hx (j + 1) (by simp; omega)
 cases he
 rw [hB (by omega)]
 refine ⟨b, o + 7, rfl, fun k u hu => ?_⟩
 have := hk' k u (by simpa using hu)
 rw [show o + 7 + j * 7 + k = o + (j + 1) * 7 + k by omega]
 exact this
end Go.Proofs.YthenffabboomnaaGreatDoor
set_option linter.all false
namespace Go.Proofs.YthenffabboomnaaGreatDoor
open Go.RowKit
namespace Scr
def nextR (q : Bool) : List WordP → Option (List UInt8 × List WordP)
 | [] => none
 | (s, b) :: t => if b = q then some (s, t) else none
def numR (l : List WordP) : Option (Int × List WordP) := match nextR false l with
 | none => none
 | some (s, t) => if (Cfg.numS s).2 then some ((Cfg.numS s).1, t) else none
def upToR (m : Int) (l : List WordP) : Option (Int × List WordP) := match numR l with
 | none => none
 | some (n, t) => if n ≤ m then some (n, t) else none
def typR (l : List WordP) : Option (List UInt8 × List WordP) := match nextR false l with
 | none => none
 | some (s, t) => if isTypeL s then some (s, t) else none
def WLim (l : List WordP) : Prop := l.length ≤ 900000 ∧ ∀ x ∈ l, x.1.length ≤ 900000
theorem WLim.tail {x : WordP} {l : List WordP} (h : WLim (x :: l)) : WLim l := ⟨by have := h.1; simp only [List.length_cons] at this; omega, fun y hy => h.2 y (List.mem_cons_of_mem _ hy)⟩
theorem WLim.head {x : WordP} {l : List WordP} (h : WLim (x :: l)) : x.1.length ≤ 900000 := h.2 x (List.mem_cons_self ..)
theorem next_some {q : Bool} {l t : List WordP} {s : List UInt8} (h : nextR q l = some (s, t)) : l = (s, q) :: t := by
 unfold nextR at h
 split at h
 ·cases h
 ·split at h
  ·next hb => cases h; rw [hb]
  ·cases h
theorem num_some {l t : List WordP} {n : Int} (h : numR l = some (n, t)) : ∃ s, l = (s, false) :: t ∧ Cfg.numS s = (n, true) := by
 unfold numR at h
 split at h
 ·cases h
 ·next s t' hn =>
  split at h
  ·next hb => cases h; exact ⟨s, next_some hn, by rw [← hb]⟩
  ·cases h
end Scr
def scrPanic : List PanicEntry := [{ v := .iface 24 (.int .i64 120), recovered := false }]
def RetW27 {α : Type} (enc : α → Value) (p : Nat) (w : World) (o : Option (α × List Scr.WordP)) (e : Ending) (w' : World) : Prop := Mods [p] w w' ∧ match o with
 | some (a, t) => e = .returned (enc a) ∧ RdS w' p t
 | none => e = .panicked scrPanic
def encS (s : List UInt8) : Value := .string ⟨s.toArray⟩
def encN (n : Int) : Value := .int .i64 n
theorem want_yes (w : World) : Calls Tryz.prog 37 #[.bool true] w fun e w' => e = .returned (.tuple #[]) ∧ w' = w := by
 go_enter Tryz.func37, Tryz.ntmps37
 go_wp2_with fail
 go_end0
 exact ⟨rfl, rfl⟩
theorem want_no (w : World) : Calls Tryz.prog 37 #[.bool false] w fun e w' => e = .panicked scrPanic ∧ w' = w := by
 go_enter Tryz.func37, Tryz.ntmps37
 go_wp2_with fail
 refine ⟨rfl, ?_⟩
 exact ⟨rfl, rfl⟩
theorem size_word27 : ∀ w, (sizeOf 78).run Tryz.prog w = .ok 2 w := fun w => by kernel_rfl
theorem slice_words1 (g o n c : Nat) (hn : 1 ≤ n) (hc : n ≤ c) :
  ∃ B : Addr, (1 < c → B = ⟨g, o + 2, none⟩) ∧ ∀ w, (Instr.slice 48 (.slice (some ⟨g, o, none⟩) n c) (some (.int .i64 1)) none none).run Tryz.prog w = .ok (.slice (some B) (n - 1) (c - 1)) w :=
 fslice_off Tryz.underlying48 size_word27 g o n c 1 hn hc
theorem mods_setS (w : World) (p i : Nat) (u : Value) : Mods [p] w (w.setCell ⟨p, i, none⟩ u) := (Mods.refl [p] w).setCell (by simp) u
set_option maxRecDepth 100000 in
theorem next27_c (p : Nat) (q : Bool) (l : List Scr.WordP) (w : World) (h : RdS w p l) (hl : Scr.WLim l) :
  Calls Tryz.prog 59 #[.pointer (some ⟨p, 0, none⟩), .bool q] w (RetW27 encS p w (Scr.nextR q l)) := by
 have HN := Lib.hid (fun W => want_no W)
 have HY := Lib.hid (fun W => want_yes W)
 have hll := hl.1
 obtain ⟨v, hb, hW⟩ := h
 cases l with
 | nil =>
  obtain ⟨A, c, rfl, hc, _⟩ := hW
  have c0 := hb.cell 0
  have hA := trivial
  clear hb
  go_enter Tryz.func59, Tryz.ntmps59
  go_wp2_with (go_at_call 37; (with_reducible refine (HN.out _).mono ?_); rintro e w1 ⟨rfl, rfl⟩)
  refine ⟨rfl, ?_⟩
  exact ⟨Mods.refl _ _, rfl⟩
 | cons x t =>
  obtain ⟨s, b⟩ := x
  obtain ⟨A0, c0, rfl, hc0, _⟩ := id hW
  obtain ⟨g, o, rfl, hn, hc, k0, k1, hT⟩ := hW.uncons
  obtain ⟨B, hB, hs⟩ := slice_words1 g o (t.length + 1) c0 (by omega) hc
  rw [show t.length + 1 - 1 = t.length by omega] at hs
  have hW' := hT (some B) (c0 - 1) (by omega) (fun h1 => by rw [hB h1])
  have hbp := hb.cell 0
  have hfp := hb.frozen 0
  have hnw : NoWordS w [p] := NoWordS.of_bk hb (by decide)
  have HE : Hid (RdS (w.setCell ⟨p, 0, none⟩ (.slice (some B) t.length (c0 - 1))) p t) := Lib.hid ⟨_, hb.set 0 _, hW'.mods (mods_setS w p 0 _) hnw⟩
  simp only [List.length_cons] at hll
  have hlen : ((s, b) :: t).length = t.length + 1 := rfl
  clear hb hW hT hW' hB hnw hc0
  rw [hlen] at hbp
  by_cases hq : b = q
  ·subst hq
   have hR : Scr.nextR b ((s, b) :: t) = some (s, t) := if_pos rfl
   rw [hR]
   have hbb : (b == b) = true := by cases b <;> rfl
   clear hR
   go_enter Tryz.func59, Tryz.ntmps59
   go_wp2_with (go_at_call 37; (with_reducible refine (HY.out _).mono ?_); rintro e w1 ⟨rfl, rfl⟩)
   go_ret
   exact ⟨mods_setS _ p 0 _, rfl, HE.out⟩
  ·have hR : Scr.nextR q ((s, b) :: t) = none := if_neg hq
   rw [hR]
   have hbb : (b == q) = false := beq_eq_false_iff_ne.2 hq
   clear hR hq
   go_enter Tryz.func59, Tryz.ntmps59
   go_wp2_with (go_at_call 37; (with_reducible refine (HN.out _).mono ?_); rintro e w1 ⟨rfl, rfl⟩)
   refine ⟨rfl, ?_⟩
   exact ⟨Mods.refl _ _, rfl⟩
theorem plain27_c (p : Nat) (l : List Scr.WordP) (w : World) (h : RdS w p l) (hl : Scr.WLim l) :
  Calls Tryz.prog 35 #[.pointer (some ⟨p, 0, none⟩)] w (RetW27 encS p w (Scr.nextR false l)) := by
 have HN := Lib.hid (next27_c p false l w h hl)
 obtain ⟨R, hR⟩ : ∃ R, Scr.nextR false l = R := ⟨_, rfl⟩
 rw [hR] at HN ⊢
 clear hR h
 cases R with
 | none =>
  go_enter Tryz.func35, Tryz.ntmps35
  go_wp2_with (go_at_call 59; (with_reducible refine HN.out.mono ?_); rintro e w1 ⟨hm, rfl⟩)
  refine ⟨rfl, ?_⟩
  exact ⟨hm, rfl⟩
 | some st =>
  obtain ⟨s, t⟩ := st
  go_enter Tryz.func35, Tryz.ntmps35
  go_wp2_with (go_at_call 59; (with_reducible refine HN.out.mono ?_); rintro e w1 ⟨hm, rfl, hd⟩; have HM := Lib.hid hm; have HD := Lib.hid hd; clear hm hd; unfold encS)
  go_ret
  exact ⟨HM.out, rfl, HD.out⟩
end Go.Proofs.YthenffabboomnaaGreatDoor
set_option linter.all false
namespace Go.Proofs.YthenffabboomnaaGreatDoor
open Go.RowKit
theorem RdS.drewN {w : World} {p : Nat} {l : List Scr.WordP} (h : RdS w p l) (n : Nat) : RdS (w.drewN n) p l := h.below (below_drewN (Below.refl _ _) n)
theorem text27_c (p : Nat) (l : List Scr.WordP) (w : World) (h : RdS w p l) (hl : Scr.WLim l) :
  Calls Tryz.prog 68 #[.pointer (some ⟨p, 0, none⟩)] w (RetW27 encS p w (Scr.nextR true l)) := by
 have HN := Lib.hid (next27_c p true l w h hl)
 obtain ⟨R, hR⟩ : ∃ R, Scr.nextR true l = R := ⟨_, rfl⟩
 rw [hR] at HN ⊢
 clear hR h
 cases R with
 | none =>
  go_enter Tryz.func68, Tryz.ntmps68
  go_wp2_with (go_at_call 59; (with_reducible refine HN.out.mono ?_); rintro e w1 ⟨hm, rfl⟩)
  refine ⟨rfl, ?_⟩
  exact ⟨hm, rfl⟩
 | some st =>
  obtain ⟨s, t⟩ := st
  go_enter Tryz.func68, Tryz.ntmps68
  go_wp2_with (go_at_call 59; (with_reducible refine HN.out.mono ?_); rintro e w1 ⟨hm, rfl, hd⟩; have HM := Lib.hid hm; have HD := Lib.hid hd; clear hm hd; unfold encS)
  go_ret
  exact ⟨HM.out, rfl, HD.out⟩
theorem num27_c (p : Nat) (l : List Scr.WordP) (w : World) (h : RdS w p l) (hl : Scr.WLim l) :
  Calls Tryz.prog 64 #[.pointer (some ⟨p, 0, none⟩)] w (RetW27 encN p w (Scr.numR l)) := by
 have HP := Lib.hid (plain27_c p l w h hl)
 have HN := Lib.hid (fun W => want_no W)
 have HY := Lib.hid (fun W => want_yes W)
 clear h
 cases hn : Scr.nextR false l with
 | none =>
  have hR : Scr.numR l = none := by unfold Scr.numR; rw [hn]
  rw [hn] at HP
  rw [hR]
  clear hR hn
  go_enter Tryz.func64, Tryz.ntmps64
  go_wp2_with (go_at_call 35; (with_reducible refine HP.out.mono ?_); rintro e w1 ⟨hm, rfl⟩)
  refine ⟨rfl, ?_⟩
  exact ⟨hm, rfl⟩
 | some st =>
  obtain ⟨s, t⟩ := st
  have hs : s.length ≤ 4000000 := by
   have := Scr.next_some hn
   subst this
   have := hl.head
   simp only at this
   omega
  have hR : Scr.numR l = if (Cfg.numS s).2 then some ((Cfg.numS s).1, t) else none := by unfold Scr.numR; rw [hn]
  rw [hn] at HP
  rw [hR]
  have HNum := Lib.hid (fun W => Number_c s W hs)
  clear hR hn hl hs
  generalize Cfg.numS s = x at *
  obtain ⟨n, ok⟩ := x
  simp only at *
  cases ok with
  | false =>
   rw [if_neg (by decide)]
   go_enter Tryz.func64, Tryz.ntmps64
   go_wp2_with (first
    | (go_at_call 35; (with_reducible refine HP.out.mono ?_); rintro e w1 ⟨hm, rfl, hd⟩; have HM := Lib.hid hm; have HD := Lib.hid hd; clear hm hd; unfold encS)
    | (go_at_call 103; (with_reducible refine (HNum.out _).mono ?_); rintro e w2 ⟨rfl, hb2⟩)
    | (go_at_call 37; (with_reducible refine (HN.out _).mono ?_); rintro e w3 ⟨rfl, rfl⟩))
   refine ⟨rfl, ?_⟩
   exact ⟨HM.out.trans (Mods.of_below hb2 _), rfl⟩
  | true =>
   rw [if_pos rfl]
   go_enter Tryz.func64, Tryz.ntmps64
   go_wp2_with (first
    | (go_at_call 35; (with_reducible refine HP.out.mono ?_); rintro e w1 ⟨hm, rfl, hd⟩; have HM := Lib.hid hm; have HD := Lib.hid hd; clear hm hd; unfold encS)
    | (go_at_call 103; (with_reducible refine (HNum.out _).mono ?_); rintro e w2 ⟨rfl, hb2⟩)
    | (go_at_call 37; (with_reducible refine (HY.out _).mono ?_); rintro e w3 ⟨rfl, rfl⟩))
   go_ret
   exact ⟨HM.out.trans (Mods.of_below hb2 _), rfl, HD.out.below hb2⟩
theorem upTo27_c (p : Nat) (m : Int) (l : List Scr.WordP) (w : World) (h : RdS w p l) (hl : Scr.WLim l) :
  Calls Tryz.prog 61 #[.pointer (some ⟨p, 0, none⟩), .int .i64 m] w (RetW27 encN p w (Scr.upToR m l)) := by
 have HP := Lib.hid (num27_c p l w h hl)
 have HN := Lib.hid (fun W => want_no W)
 have HY := Lib.hid (fun W => want_yes W)
 clear h hl
 have hR : Scr.upToR m l = match Scr.numR l with
  | none => none
  | some (n, t) => if n ≤ m then some (n, t) else none := rfl
 rw [hR]
 clear hR
 generalize Scr.numR l = R at *
 cases R with
 | none =>
  go_enter Tryz.func61, Tryz.ntmps61
  go_wp2_with (go_at_call 64; (with_reducible refine HP.out.mono ?_); rintro e w1 ⟨hm, rfl⟩)
  refine ⟨rfl, ?_⟩
  exact ⟨hm, rfl⟩
 | some nt =>
  obtain ⟨n, t⟩ := nt
  simp only
  by_cases hn : n ≤ m
  ·rw [if_pos hn]
   have hd : decide (n ≤ m) = true := decide_eq_true hn
   go_enter Tryz.func61, Tryz.ntmps61
   go_wp2_with (first
    | (go_at_call 64; (with_reducible refine HP.out.mono ?_); rintro e w1 ⟨hm, rfl, hd⟩; have HM := Lib.hid hm; have HD := Lib.hid hd; clear hm hd; unfold encN)
    | (go_at_call 37; (with_reducible refine (HY.out _).mono ?_); rintro e w3 ⟨rfl, rfl⟩))
   go_ret
   exact ⟨HM.out, rfl, HD.out⟩
  ·rw [if_neg hn]
   have hd : decide (n ≤ m) = false := decide_eq_false hn
   go_enter Tryz.func61, Tryz.ntmps61
   go_wp2_with (first
    | (go_at_call 64; (with_reducible refine HP.out.mono ?_); rintro e w1 ⟨hm, rfl, hd⟩; have HM := Lib.hid hm; have HD := Lib.hid hd; clear hm hd; unfold encN)
    | (go_at_call 37; (with_reducible refine (HN.out _).mono ?_); rintro e w3 ⟨rfl, rfl⟩))
   refine ⟨rfl, ?_⟩
   exact ⟨HM.out, rfl⟩
theorem more27_c (p : Nat) (l : List Scr.WordP) (w : World) (h : RdS w p l) : Calls Tryz.prog 38 #[.pointer (some ⟨p, 0, none⟩)] w fun e w' => e = .returned (.bool (!l.isEmpty)) ∧ w' = w := by
 obtain ⟨v, hb, A, c, rfl, hc, _⟩ := h
 have c0 := hb.cell 0
 clear hb
 cases l with
 | nil =>
  go_enter Tryz.func38, Tryz.ntmps38
  go_wp2_with fail
  go_ret
  exact ⟨rfl, rfl⟩
 | cons x t =>
  have hn : (0 : Int) < ((t.length + 1 : Nat) : Int) := by omega
  simp only [List.length_cons] at c0
  go_enter Tryz.func38, Tryz.ntmps38
  go_wp2_with fail
  go_ret
  exact ⟨by simp, rfl⟩
open Go.RowKit
open Go.RowKit
theorem RdF.above {N M p g : Nat} {w w' : World} {s : List UInt8} {v : Value} {qs : List FilQ} (h : RdF N p w s v qs) (hg : w.grownBy w' (some g)) (hp : p < M) (hv : ∀ k, v.ownBlock = some k → k < M) (hN : N ≤ M) (hgM : M ≤ g) : RdF N p w' s v qs := by
 refine ⟨h.at_.grown hg (fun e => ?_), h.own.keep2 hg (fun k hk e => ?_), fun q hq => (h.any q hq).keep hg (fun k hk e => ?_), h.lim⟩
 ·cases e; omega
 ·have := hv k hk
  cases e; omega
 ·have := h.lim q hq k hk
  cases e; omega
structure ItL (w : World) (p : Nat) (wr : World) (r : List UInt8) (v : Value) (qs : List FilQ) : Prop where
 plt : p < w.heap.size
 vlt : ∀ k, v.ownBlock = some k → k < w.heap.size
 rd : RdF w.heap.size p wr r v qs
 bel : w.grownBy wr (some p)
theorem ItL.begin {N p : Nat} {w : World} {s : List UInt8} {v : Value} {qs : List FilQ} (h : RdF N p w s v qs) : ItL w p w s v qs := ⟨h.lt, fun k hk => (h.own.lt k hk).2, h.fit, World.grownBy.refl _ _⟩
theorem ItL.below {w : World} {p : Nat} {wr wn : World} {r : List UInt8} {v : Value} {qs : List FilQ} (h : ItL w p wr r v qs) (hb : Below wr.heap.size wr wn) : ItL w p wn r v qs := ⟨h.plt, h.vlt, h.rd.below hb, World.grownBy.trans h.bel (grown_below hb _)⟩
theorem ItL.set {w : World} {p g : Nat} {wr : World} {r : List UInt8} {v : Value} {qs : List FilQ} (h : ItL w p wr r v qs) (hg : w.heap.size ≤ g) (i : Nat) (u : Value) : ItL w p (wr.setCell ⟨g, i, none⟩ u) r v qs :=
 ⟨h.plt, h.vlt, h.rd.above (setCell_grown _ _ _ _) h.plt h.vlt (Nat.le_refl _) hg, grown_free h.bel (setCell_grown _ _ _ _) (fun k e => by cases e; exact hg)⟩
theorem ItL.next {w : World} {p : Nat} {wr : World} {r : List UInt8} {v : Value} {qs : List FilQ} (h : ItL w p wr r v qs) (r' : List UInt8) : ItL w p (wr.setCell ⟨p, 0, none⟩ (.string ⟨r'.toArray⟩)) r' v qs :=
 ⟨h.plt, h.vlt, (h.rd.setS r').1, World.grownBy.trans h.bel (setCell_grown _ _ _ _)⟩
theorem ItL.call {N : Nat} {w : World} {p : Nat} {wr wn : World} {r r' : List UInt8} {v : Value} {qs : List FilQ} (h : ItL w p wr r v qs) (hg : wr.grownBy wn (some p)) (hR : RdF N p wn r' v qs) : ItL w p wn r' v qs :=
 ⟨h.plt, h.vlt, ⟨hR.at_, hR.own, hR.any, h.rd.lim⟩, World.grownBy.trans h.bel hg⟩
theorem bk_far {w : World} {g g' i : Nat} {t : TypeId} {cs : Array Value} {u : Value} (h : Bk w g t cs) (hne : g ≠ g') : Bk (w.setCell ⟨g', i, none⟩ u) g t cs := h.grown (setCell_grown _ _ _ _) (fun e => hne (Option.some.inj e))
open Go.RowKit
structure ItJ (w : World) (p b : Nat) (wr : World) (r t : List UInt8) (v : Value) (qs : List FilQ) : Prop where
 l : ItL w p wr r v qs
 k2 : Bk wr w.heap.size 144 #[.int .i64 0, .int .i64 0, .string ⟨#[]⟩, .string ⟨#[]⟩, .string ⟨#[]⟩, .string ⟨#[]⟩, .slice none 0 0]
 k3 : Bk wr b 144 #[.int .i64 3, .int .i64 0, .string ⟨t.toArray⟩, .string ⟨#[]⟩, .string ⟨#[]⟩, .string ⟨#[]⟩, .slice none 0 0]
 lt : w.heap.size < b
theorem ItJ.below {w : World} {p b : Nat} {wr wn : World} {r t : List UInt8} {v : Value} {qs : List FilQ} (h : ItJ w p b wr r t v qs) (hb : Below wr.heap.size wr wn) : ItJ w p b wn r t v qs := ⟨h.l.below hb, h.k2.below hb, h.k3.below hb, h.lt⟩
theorem ItJ.next {w : World} {p b : Nat} {wr : World} {r t : List UInt8} {v : Value} {qs : List FilQ} (h : ItJ w p b wr r t v qs) (r' : List UInt8) : ItJ w p b (wr.setCell ⟨p, 0, none⟩ (.string ⟨r'.toArray⟩)) r' t v qs :=
 ⟨h.l.next r', bk_far h.k2 (by have := h.l.plt; omega), bk_far h.k3 (by have := h.l.plt; have := h.lt; omega), h.lt⟩
theorem ItJ.call {N : Nat} {w : World} {p b : Nat} {wr wn : World} {r r' t : List UInt8} {v : Value} {qs : List FilQ} (h : ItJ w p b wr r t v qs) (hg : wr.grownBy wn (some p)) (hR : RdF N p wn r' v qs) : ItJ w p b wn r' t v qs :=
 ⟨h.l.call hg hR, h.k2.grown hg (fun e => by have := h.l.plt; cases e; omega), h.k3.grown hg (fun e => by have := h.l.plt; have := h.lt; cases e; omega), h.lt⟩
end Go.Proofs.YthenffabboomnaaGreatDoor
