import Derived.Test.YtconnibnpckadaaGreatDoorWvb0
import Derived.Recover
set_option linter.all false
set_option maxHeartbeats 8000000
set_option maxRecDepth 100000
namespace Go.Proofs.YtconnibnpckadaaGreatDoor
open Go.RowKit
def RdnR (w : World) (v : Value) (p : List (List UInt8 × List UInt8)) : Prop :=
 ∃ A c, v = .slice A p.length c ∧ p.length ≤ c ∧ (p = [] ∨ ∃ g o, A = some ⟨g, o, none⟩ ∧ g < w.heap.size ∧ ∀ j x, p[j]? = some x → w.cell? ⟨g, o + 2 * j, none⟩ = some (.string ⟨x.1.toArray⟩) ∧ w.cell? ⟨g, o + 2 * j + 1, none⟩ = some (.string ⟨x.2.toArray⟩))
def DnR (w : World) (v : Value) (d : List (List (List UInt8 × List UInt8))) : Prop :=
 ∃ A c, v = .slice A d.length c ∧ d.length ≤ c ∧ (d = [] ∨ ∃ g o, A = some ⟨g, o, none⟩ ∧ g < w.heap.size ∧ ∀ j p, d[j]? = some p → ∃ pv, w.cell? ⟨g, o + j, none⟩ = some pv ∧ RdnR w pv p)
theorem RdnR.below {w w' : World} {v : Value} {p : List (List UInt8 × List UInt8)} (h : RdnR w v p) (hb : Below w.heap.size w w') : RdnR w' v p := by
 obtain ⟨A, c, rfl, hc, h⟩ := h
 refine ⟨A, c, rfl, hc, h.imp id ?_⟩
 rintro ⟨g, o, rfl, hg, hx⟩
 refine ⟨g, o, rfl, Nat.lt_of_lt_of_le hg hb.size, fun j x hj => ?_⟩
 rw [hb.cell (p := ⟨g, o + 2 * j, none⟩) hg, hb.cell (p := ⟨g, o + 2 * j + 1, none⟩) hg]
 exact hx j x hj
theorem DnR.below {w w' : World} {v : Value} {d : List (List (List UInt8 × List UInt8))} (h : DnR w v d) (hb : Below w.heap.size w w') : DnR w' v d := by
 obtain ⟨A, c, rfl, hc, h⟩ := h
 refine ⟨A, c, rfl, hc, h.imp id ?_⟩
 rintro ⟨g, o, rfl, hg, hx⟩
 refine ⟨g, o, rfl, Nat.lt_of_lt_of_le hg hb.size, fun j p hj => ?_⟩
 obtain ⟨pv, h1, h2⟩ := hx j p hj
 exact ⟨pv, (hb.cell (p := ⟨g, o + j, none⟩) hg).trans h1, h2.below hb⟩
theorem flat_get : ∀ (l : List (List UInt8 × List UInt8)) (j : Nat) (x : List UInt8 × List UInt8), l[j]? = some x → (l.flatMap avaCells)[2 * j]? = some (.string ⟨x.1.toArray⟩) ∧ (l.flatMap avaCells)[2 * j + 1]? = some (.string ⟨x.2.toArray⟩)
 | [], j, x, h => by simp at h
 | y :: l, 0, x, h => by
  simp at h; subst h
  simp [avaCells]
 | y :: l, j + 1, x, h => by
  have := flat_get l j x (by simpa using h)
  simp only [List.flatMap_cons, avaCells, List.cons_append, List.nil_append]
  rw [show 2 * (j + 1) = 2 * j + 1 + 1 by omega]
  simpa using this
theorem Avas.reads {B : Nat} {w : World} {v : Value} {p : List (List UInt8 × List UInt8)} (h : Avas B w v p) : RdnR w v p := by
 obtain ⟨⟨h1, h2⟩, h3⟩ := h
 rcases h2 with ⟨rfl, hn⟩ | ⟨g, cap, cur, rfl, r2, r3, r4, r5, r6, r7⟩
 ·exact ⟨none, 0, by rw [hn], by omega, .inl (List.eq_nil_of_length_eq_zero hn)⟩
 ·refine ⟨_, cap, rfl, r4, .inr ⟨g, 0, rfl, (Array.getElem?_eq_some_iff.1 r3).1, fun j x hj => ?_⟩⟩
  have hf := flat_get p j x hj
  have hjl : j < p.length := (List.getElem?_eq_some_iff.1 hj).1
  rw [← r7, List.getElem?_take, List.getElem?_take, if_pos (by omega), if_pos (by omega)] at hf
  simp only [World.cell?, r3, Nat.zero_add]
  simpa using hf
theorem DnAt.reads {B : Nat} {w : World} {v : Value} {d : List (List (List UInt8 × List UInt8))} (h : DnAt B w v d) : DnR w v d := by
 obtain ⟨vs, ⟨h1, h2⟩, h3, h4, h5⟩ := h
 rcases h2 with ⟨rfl, hn⟩ | ⟨g, cap, cur, rfl, r2, r3, r4, r5, r6, r7⟩
 ·exact ⟨none, 0, by rw [hn], by omega, .inl (List.eq_nil_of_length_eq_zero hn)⟩
 ·refine ⟨_, cap, rfl, r4, .inr ⟨g, 0, rfl, (Array.getElem?_eq_some_iff.1 r3).1, fun j p hj => ?_⟩⟩
  obtain ⟨pv, hv, hA⟩ := h4.get j p hj
  have hjl : j < d.length := (List.getElem?_eq_some_iff.1 hj).1
  rw [← r7, List.getElem?_take, if_pos (by omega)] at hv
  refine ⟨pv, ?_, hA.reads⟩
  simp only [World.cell?, r3, Nat.zero_add]
  simpa using hv
def AvaE (_W : World) (ev : Value) (x : List UInt8 × List UInt8) : Prop := ev = avaV x
set_option maxRecDepth 10000 in
theorem avaLong_idx (p : List (List UInt8 × List UInt8)) (v : Value) (w : World) (hv : RdnR w v p) (hl : p.length ≤ 1000000) (P : (List UInt8 × List UInt8) → Bool)
  (hF : ∀ x ∈ p, ∀ W ev, Below w.heap.size w W → AvaE W ev x → Calls Tryz.prog 213 #[ev] W fun e W' => e = .returned (.bool (P x)) ∧ Below W.heap.size W W') :
  Calls Tryz.prog 218 #[v, .func (.func 213) #[] #[]] w fun e w' => (∃ i : Int, e = .returned (.int .i64 i) ∧ decide (0 ≤ i) = p.any P) ∧ Below w.heap.size w w' := by
 have HF := Lib.hid hF
 clear hF
 obtain ⟨A, c, rfl, hc, hx⟩ := hv
 go_enter Tryz.func218, Tryz.ntmps218
 go_wp2_with fail
 go_loopg [8] p.length (fun gk i wr => ∃ k : Nat, k ≤ p.length ∧ i = .int .i64 k ∧ Aside (k + gk = p.length) ∧ Below w.heap.size w wr ∧ Aside (p.any P = (p.drop k).any P))
 case atStart => exact ⟨0, by omega, rfl, by show _ = _; omega, Below.refl _ _, rfl⟩
 case round =>
  obtain ⟨k, hk, rfl, AG, hB, AS⟩ := hrel
  by_cases hlt : k < p.length
  ·obtain ⟨q, rfl⟩ : ∃ q, gk = q + 1 := ⟨gk - 1, by have := AG.out; omega⟩
   obtain ⟨g, o, rfl, hg, hcells⟩ := hx.resolve_left (by intro h; rw [h] at hlt; simp at hlt)
   have hel := List.getElem?_eq_getElem hlt
   have AS' : Aside (p.any P = (P p[k] || (p.drop (k + 1)).any P)) := by have := AS.out; rw [List.drop_eq_getElem_cons hlt] at this; exact this
   have hc2 := hcells k p[k] hel
   have c0 : wr.cell? ⟨g, o + 2 * k, none⟩ = some (.string ⟨p[k].1.toArray⟩) := (hB.cell (p := ⟨g, o + 2 * k, none⟩) hg).trans hc2.1
   have c1 : wr.cell? ⟨g, o + 2 * k + 1, none⟩ = some (.string ⟨p[k].2.toArray⟩) := (hB.cell (p := ⟨g, o + 2 * k + 1, none⟩) hg).trans hc2.2
   have c0' : wr.cell? ⟨g, o + k * 2, none⟩ = some (.string ⟨p[k].1.toArray⟩) := by rw [Nat.mul_comm]; exact c0
   have c1' : wr.cell? ⟨g, o + k * 2 + 1, none⟩ = some (.string ⟨p[k].2.toArray⟩) := by rw [Nat.mul_comm]; exact c1
   have HC : Hid (∀ W, Below w.heap.size w W → Calls Tryz.prog 213 #[.agg #[.string ⟨p[k].1.toArray⟩, .string ⟨p[k].2.toArray⟩]] W fun e W' => e = .returned (.bool (P p[k])) ∧ Below W.heap.size W W') := fun W hW => HF.out p[k] (List.getElem_mem hlt) W _ hW rfl
   clear hcells hel AS
   cases hP : P p[k]
   ·have HP := Lib.hid hP
    have HC' := HC.out
    rw [hP] at HC'
    have HC2 := Lib.hid HC'
    clear hP HC HC'
    go_wp2_with (go_at_call 213; refine (HC2.out _ hB).mono ?_; rintro e w2 ⟨rfl, hb2⟩)
    go_roundg q
    case measure => omega
    case rel => exact ⟨k + 1, by omega, by go_num, by have := AG.out; show _ = _; omega, hB.trans (hb2.mono hB.size), by have := AS'.out; rw [HP.out] at this; exact this⟩
   ·have HP := Lib.hid hP
    have HC' := HC.out
    rw [hP] at HC'
    have HC2 := Lib.hid HC'
    clear hP HC HC'
    go_wp2_with (go_at_call 213; refine (HC2.out _ hB).mono ?_; rintro e w2 ⟨rfl, hb2⟩)
    go_ret
    exact ⟨⟨k, rfl, by rw [AS'.out, HP.out]; simp⟩, hB.trans (hb2.mono hB.size)⟩
  ·obtain rfl : k = p.length := by omega
   have hs : p.any P = false := by have := AS.out; rw [List.drop_length] at this; exact this
   have Hs := Lib.hid hs
   clear hs AS
   go_wp2_with fail
   go_ret
   exact ⟨⟨-1, rfl, by rw [Hs.out]; rfl⟩, hB⟩
theorem avaLong_any (p : List (List UInt8 × List UInt8)) (v : Value) (w : World) (hv : RdnR w v p) (hl : p.length ≤ 1000000) (P : (List UInt8 × List UInt8) → Bool)
  (hF : ∀ x ∈ p, ∀ W ev, Below w.heap.size w W → AvaE W ev x → Calls Tryz.prog 213 #[ev] W fun e W' => e = .returned (.bool (P x)) ∧ Below W.heap.size W W') :
  Calls Tryz.prog 204 #[v, .func (.func 213) #[] #[]] w fun e w' => e = .returned (.bool (p.any P)) ∧ Below w.heap.size w w' := by
 have hI := avaLong_idx p v w hv hl P hF
 obtain ⟨A, c, rfl, hc, hx⟩ := hv
 clear hF hx
 go_enter Tryz.func204, Tryz.ntmps204
 go_wp2_with (go_at_call 218; refine hI.mono ?_; rintro e w1 ⟨⟨i, rfl, hi⟩, hb1⟩; have Hi := Lib.hid hi; clear hi)
 all_goals
  go_ret
  exact ⟨retb (by rw [← Hi.out]), hb1⟩
set_option maxRecDepth 10000 in
theorem rdnLong_idx (p : List (List (List UInt8 × List UInt8))) (v : Value) (w : World) (hv : DnR w v p) (hl : p.length ≤ 1000000) (P : (List (List UInt8 × List UInt8)) → Bool)
  (hF : ∀ x ∈ p, ∀ W ev, Below w.heap.size w W → RdnR W ev x → Calls Tryz.prog 212 #[ev] W fun e W' => e = .returned (.bool (P x)) ∧ Below W.heap.size W W') :
  Calls Tryz.prog 221 #[v, .func (.func 212) #[] #[]] w fun e w' => (∃ i : Int, e = .returned (.int .i64 i) ∧ decide (0 ≤ i) = p.any P) ∧ Below w.heap.size w w' := by
 have HF := Lib.hid hF
 clear hF
 obtain ⟨A, c, rfl, hc, hx⟩ := hv
 go_enter Tryz.func221, Tryz.ntmps221
 go_wp2_with fail
 go_loopg [8] p.length (fun gk i wr => ∃ k : Nat, k ≤ p.length ∧ i = .int .i64 k ∧ Aside (k + gk = p.length) ∧ Below w.heap.size w wr ∧ Aside (p.any P = (p.drop k).any P))
 case atStart => exact ⟨0, by omega, rfl, by show _ = _; omega, Below.refl _ _, rfl⟩
 case round =>
  obtain ⟨k, hk, rfl, AG, hB, AS⟩ := hrel
  by_cases hlt : k < p.length
  ·obtain ⟨q, rfl⟩ : ∃ q, gk = q + 1 := ⟨gk - 1, by have := AG.out; omega⟩
   obtain ⟨g, o, rfl, hg, hcells⟩ := hx.resolve_left (by intro h; rw [h] at hlt; simp at hlt)
   have hel := List.getElem?_eq_getElem hlt
   have AS' : Aside (p.any P = (P p[k] || (p.drop (k + 1)).any P)) := by have := AS.out; rw [List.drop_eq_getElem_cons hlt] at this; exact this
   obtain ⟨pv, hp1, hp2⟩ := hcells k p[k] hel
   have c0 : wr.cell? ⟨g, o + k, none⟩ = some pv := (hB.cell (p := ⟨g, o + k, none⟩) hg).trans hp1
   have HC : Hid (∀ W, Below w.heap.size w W → Calls Tryz.prog 212 #[pv] W fun e W' => e = .returned (.bool (P p[k])) ∧ Below W.heap.size W W') := fun W hW => HF.out p[k] (List.getElem_mem hlt) W _ hW (hp2.below hW)
   clear hcells hel AS
   cases hP : P p[k]
   ·have HP := Lib.hid hP
    have HC' := HC.out
    rw [hP] at HC'
    have HC2 := Lib.hid HC'
    clear hP HC HC'
    go_wp2_with (go_at_call 212; refine (HC2.out _ hB).mono ?_; rintro e w2 ⟨rfl, hb2⟩)
    go_roundg q
    case measure => omega
    case rel => exact ⟨k + 1, by omega, by go_num, by have := AG.out; show _ = _; omega, hB.trans (hb2.mono hB.size), by have := AS'.out; rw [HP.out] at this; exact this⟩
   ·have HP := Lib.hid hP
    have HC' := HC.out
    rw [hP] at HC'
    have HC2 := Lib.hid HC'
    clear hP HC HC'
    go_wp2_with (go_at_call 212; refine (HC2.out _ hB).mono ?_; rintro e w2 ⟨rfl, hb2⟩)
    go_ret
    exact ⟨⟨k, rfl, by rw [AS'.out, HP.out]; simp⟩, hB.trans (hb2.mono hB.size)⟩
  ·obtain rfl : k = p.length := by omega
   have hs : p.any P = false := by have := AS.out; rw [List.drop_length] at this; exact this
   have Hs := Lib.hid hs
   clear hs AS
   go_wp2_with fail
   go_ret
   exact ⟨⟨-1, rfl, by rw [Hs.out]; rfl⟩, hB⟩
theorem rdnLong_any (p : List (List (List UInt8 × List UInt8))) (v : Value) (w : World) (hv : DnR w v p) (hl : p.length ≤ 1000000) (P : (List (List UInt8 × List UInt8)) → Bool)
  (hF : ∀ x ∈ p, ∀ W ev, Below w.heap.size w W → RdnR W ev x → Calls Tryz.prog 212 #[ev] W fun e W' => e = .returned (.bool (P x)) ∧ Below W.heap.size W W') :
  Calls Tryz.prog 211 #[v, .func (.func 212) #[] #[]] w fun e w' => e = .returned (.bool (p.any P)) ∧ Below w.heap.size w w' := by
 have hI := rdnLong_idx p v w hv hl P hF
 obtain ⟨A, c, rfl, hc, hx⟩ := hv
 clear hF hx
 go_enter Tryz.func211, Tryz.ntmps211
 go_wp2_with (go_at_call 221; refine hI.mono ?_; rintro e w1 ⟨⟨i, rfl, hi⟩, hb1⟩; have Hi := Lib.hid hi; clear hi)
 all_goals
  go_ret
  exact ⟨retb (by rw [← Hi.out]), hb1⟩
open Go.RowKit
def avaLongB (x : List UInt8 × List UInt8) : Bool := decide (1024 < x.2.length)
def rdnLongB (p : List (List UInt8 × List UInt8)) : Bool := decide (4 < p.length) || p.any avaLongB
def tooLongL (d : List (List (List UInt8 × List UInt8))) : Bool := decide (20 < d.length) || d.any rdnLongB
set_option maxRecDepth 10000 in
theorem tooLong11_c (x : List UInt8 × List UInt8) (w : World) :
  Calls Tryz.prog 213 #[avaV x] w fun e w' => e = .returned (.bool (avaLongB x)) ∧ Below w.heap.size w w' := by
 obtain ⟨x1, x2⟩ := x
 show Calls Tryz.prog 213 #[.agg #[.string ⟨x1.toArray⟩, .string ⟨x2.toArray⟩]] w _
 go_enter Tryz.func213, Tryz.ntmps213
 go_wp2_with fail
 go_ret
 exact ⟨retb (by simp only [avaLongB]; exact decide_eq_decide.2 (by omega)), (Below.refl _ _).alloc (Nat.le_refl _) _⟩
set_option maxRecDepth 10000 in
theorem tooLong1_c (p : List (List UInt8 × List UInt8)) (v : Value) (w : World) (hv : RdnR w v p) (hl : p.length ≤ 1000000) :
  Calls Tryz.prog 212 #[v] w fun e w' => e = .returned (.bool (rdnLongB p)) ∧ Below w.heap.size w w' := by
 have hC := fun (W : World) (hB : Below w.heap.size w W) => avaLong_any p v W (hv.below hB) hl avaLongB (fun x _ W' ev _ (he : AvaE W' ev x) => by rw [he]; exact tooLong11_c x W')
 obtain ⟨A, c, rfl, hc, hx⟩ := hv
 clear hx
 by_cases h4 : 4 < p.length
 ·have hR : rdnLongB p = true := by simp [rdnLongB, h4]
  rw [hR]
  clear hR hC
  generalize p.length = n at *
  go_enter Tryz.func212, Tryz.ntmps212
  go_wp2_with fail
  go_ret
  exact ⟨rfl, Below.refl _ _⟩
 ·have hR : rdnLongB p = p.any avaLongB := by simp [rdnLongB, h4]
  rw [hR]
  clear hR
  generalize p.length = n at *
  generalize p.any avaLongB = R at *
  have hz : decide ((4 : Int) < (n : Int)) = false := decide_eq_false (by omega)
  go_enter Tryz.func212, Tryz.ntmps212
  go_wp2_with (go_at_call 204; refine (hC _ (Below.refl _ _)).mono ?_; rintro e w2 ⟨rfl, hb2⟩)
  go_ret
  exact ⟨retb (by simp [hz]), hb2⟩
set_option maxRecDepth 10000 in
theorem tooLong_c (d : List (List (List UInt8 × List UInt8))) (v : Value) (w : World) (hv : DnR w v d) (hl : d.length ≤ 1000000) (hl2 : ∀ p ∈ d, p.length ≤ 1000000) :
  Calls Tryz.prog 186 #[v] w fun e w' => e = .returned (.bool (tooLongL d)) ∧ Below w.heap.size w w' := by
 have hC := fun (W : World) (hB : Below w.heap.size w W) => rdnLong_any d v W (hv.below hB) hl rdnLongB (fun x hx W' ev _ (he : RdnR W' ev x) => tooLong1_c x ev W' he (hl2 x hx))
 obtain ⟨A, c, rfl, hc, hx⟩ := hv
 clear hx hl2
 by_cases h4 : 20 < d.length
 ·have hR : tooLongL d = true := by simp [tooLongL, h4]
  rw [hR]
  clear hR hC
  generalize d.length = n at *
  go_enter Tryz.func186, Tryz.ntmps186
  go_wp2_with fail
  go_ret
  exact ⟨rfl, Below.refl _ _⟩
 ·have hR : tooLongL d = d.any rdnLongB := by simp [tooLongL, h4]
  rw [hR]
  clear hR
  generalize d.length = n at *
  generalize d.any rdnLongB = R at *
  have hz : decide ((20 : Int) < (n : Int)) = false := decide_eq_false (by omega)
  go_enter Tryz.func186, Tryz.ntmps186
  go_wp2_with (go_at_call 211; refine (hC _ (Below.refl _ _)).mono ?_; rintro e w2 ⟨rfl, hb2⟩)
  go_ret
  exact ⟨retb (by simp [hz]), hb2⟩
open Go.RowKit
def caught : List PanicEntry := [{ v := .iface 24 (.int .i64 30), recovered := true }]
set_option maxRecDepth 10000 in
theorem parse1_panicking (g h : Nat) (w : World) (v1 v2 : Value) (hc1 : w.cell? ⟨g, 0, none⟩ = some v1) (hc2 : w.cell? ⟨h, 0, none⟩ = some v2) (hz1 : w.frozen? ⟨g, 0, none⟩ = false) (hz2 : w.frozen? ⟨h, 0, none⟩ = false) (hne : g ≠ h) :
  CallsD Tryz.prog 184 #[.pointer (some ⟨g, 0, none⟩), .pointer (some ⟨h, 0, none⟩)] (.panicking dnPanic) w fun e u' w' =>
   e = .returned (.tuple #[]) ∧ u' = .panicking caught ∧ w' = (w.setCell ⟨g, 0, none⟩ (.slice none 0 0)).setCell ⟨h, 0, none⟩ (.int .i64 30) := by
 refine callsD_of_wpS Tryz.func184 rfl fun c₀ cs hu => ?_
 apply wpS_seq
 apply wpS_region
 simp [wpOpsS, go_sem, recoverD, hu, dnPanic, Tryz.ntmps184, Exit.thenS]
 refine wpS_of_wp ?_
 have hrep : (Array.replicate 15 undef : Array Value) = #[undef, undef, undef, undef, undef, undef, undef, undef, undef, undef, undef, undef, undef, undef, undef] := rfl
 simp only [hrep, List.setIfInBounds_toArray, List.append_toArray, List.cons_append, List.nil_append, List.set_cons_zero, List.set_cons_succ]
 have hta : ∀ W : World, (Instr.typeAssert (.iface 24 (.int .i64 30)) 20 24 true).run Tryz.prog W = .ok (.tuple #[.int .i64 30, .bool true]) W := fun W => by kernel_rfl
 have hc3 : (w.setCell ⟨g, 0, none⟩ (.slice none 0 0)).cell? ⟨h, 0, none⟩ = some v2 := by rw [show (w.setCell ⟨g, 0, none⟩ (.slice none 0 0)).cell? ⟨h, 0, none⟩ = w.cell? ⟨h, 0, none⟩ from World.cell?_of_block (Below.heap_setCell _ _ _ _ (Ne.symm hne))]; exact hc2
 have hz3 : (w.setCell ⟨g, 0, none⟩ (.slice none 0 0)).frozen? ⟨h, 0, none⟩ = false := (World.frozen?_setCell _ _ _ _).trans hz2
 go_wp2_with fail
 simp [bodyPostS, results, Tryz.results184, caught]
set_option maxRecDepth 10000 in
theorem parse1_idle (g h : Nat) (w : World) :
  CallsD Tryz.prog 184 #[.pointer (some ⟨g, 0, none⟩), .pointer (some ⟨h, 0, none⟩)] .returning w fun e u' w' => e = .returned (.tuple #[]) ∧ u' = .returning ∧ w' = w := by
 refine callsD_of_wpS Tryz.func184 rfl fun c₀ cs hu => ?_
 apply wpS_seq
 apply wpS_region
 simp [wpOpsS, go_sem, recoverD, hu, Tryz.ntmps184, Exit.thenS]
 refine wpS_of_wp ?_
 have hrep : (Array.replicate 15 undef : Array Value) = #[undef, undef, undef, undef, undef, undef, undef, undef, undef, undef, undef, undef, undef, undef, undef] := rfl
 simp only [hrep, List.setIfInBounds_toArray, List.append_toArray, List.cons_append, List.nil_append, List.set_cons_zero, List.set_cons_succ]
 go_wp2_with fail
 cases c₀
 simp_all [bodyPostS, results, Tryz.results184]
def parseL (s : List UInt8) : Int × List (List (List UInt8 × List UInt8)) :=
 if 65536 < s.length then (2, []) else match nameR s with
  | none => (30, [])
  | some d => if tooLongL d then (2, []) else (0, d)
def ParseRet (w : World) (r : Int × List (List (List UInt8 × List UInt8))) (e : Ending) (w' : World) : Prop :=
 Below w.heap.size w w' ∧ ∃ v, e = .returned (.tuple #[v, .int .i64 r.1]) ∧ DnAt w.heap.size w' v r.2
theorem off_new {w : World} (hw : Env w) {b : Nat} (hb : w.heap.size ≤ b) : Off b := by
 obtain ⟨⟨h1, h2⟩, m, hm⟩ := hw
 have l1 := World.block_lt_of_cell? _ _ (h1 0 (by decide))
 have l2 := World.block_lt_of_cell? _ _ (h2 0 (by decide)).1
 have l3 := World.block_lt_of_cell? _ _ hm
 refine ⟨?_, ?_, ?_⟩
 all_goals (intro e; subst e; simp at l1 l2 l3; omega)
theorem setCell_grown (w : World) (g i : Nat) (u : Value) : w.grownBy (w.setCell ⟨g, i, none⟩ u) (some g) :=
 ⟨rfl, rfl, rfl, by simp [World.setCell], fun k _ hne => Below.heap_setCell _ _ _ _ (by intro e; apply hne; rw [e])⟩
theorem DnAt.keep {B : Nat} {w w' : World} {v : Value} {d : List (List (List UInt8 × List UInt8))} (h : DnAt B w v d) {r : Option Nat} (hg : w.grownBy w' r) (hr : ∀ k, r = some k → k < B) : DnAt B w' v d := by
 obtain ⟨vs, h⟩ := h
 exact ⟨vs, h.keep hg hr⟩
theorem DnAt.lower {B B' : Nat} {w : World} {v : Value} {d : List (List (List UInt8 × List UInt8))} (h : DnAt B w v d) (hB : B' ≤ B) : DnAt B' w v d := by
 obtain ⟨vs, ⟨h0, h1⟩, h2, h3, h4⟩ := h
 refine ⟨vs, ⟨h0, h1.imp id ?_⟩, by omega, h3.imp fun _ _ _ hu => hu.lower hB, h4⟩
 rintro ⟨g, cap, cur, r1, r2, r3⟩
 exact ⟨g, cap, cur, r1, by omega, r3⟩
theorem DnAt.nil {w : World} : DnAt w.heap.size w (.slice none 0 0) [] := ⟨[], World.ownsRow_nil _ _ _ _, Nat.le_refl _, .nil, by simp⟩
theorem DnAt.isSlice {B : Nat} {w : World} {v : Value} {d : List (List (List UInt8 × List UInt8))} (h : DnAt B w v d) : ∃ A c, v = .slice A d.length c ∧ d.length ≤ c := by
 obtain ⟨A, c, rfl, hc, _⟩ := h.reads
 exact ⟨A, c, rfl, hc⟩
theorem partL_num : ∀ (n : Nat) (r r' : List UInt8) (acc l : List (List UInt8 × List UInt8)), partL n r acc = some (l, r') → l.length + r'.length ≤ acc.length + r.length
 | 0, r, r', acc, l, h => by
  rw [partL] at h
  split at h
  ·cases h
  ·cases h; exact Nat.le_refl _
 | n + 1, r, r', acc, l, h => by
  rw [partL] at h
  split at h
  ·split at h
   ·cases h
   ·next x r2 hp =>
    have h1 := pairR_len hp
    have h2 := partL_num n r2 r' _ l h
    have h3 : r.tail.length ≤ r.length := by simp
    simp at h2
    omega
  ·cases h; exact Nat.le_refl _
theorem partR_num {r r' : List UInt8} {l : List (List UInt8 × List UInt8)} (h : partR r = some (l, r')) : l.length ≤ r.length := by
 unfold partR at h
 split at h
 ·cases h
 ·next x r2 hp =>
  have h1 := pairR_len hp
  have h2 := partL_num _ _ _ _ _ h
  simp at h2
  omega
theorem nameL_num (m : Nat) : ∀ (n : Nat) (r r' : List UInt8) (acc l : List (List (List UInt8 × List UInt8))), r.length ≤ m → (∀ p ∈ acc, p.length ≤ m) → nameL n r acc = some (l, r') → l.length ≤ acc.length + r.length ∧ ∀ p ∈ l, p.length ≤ m
 | 0, r, r', acc, l, hr, ha, h => by
  rw [nameL] at h
  split at h
  ·cases h
  ·cases h; exact ⟨Nat.le_add_right _ _, ha⟩
 | n + 1, r, r', acc, l, hr, ha, h => by
  rw [nameL] at h
  split at h
  ·split at h
   ·cases h
   ·next x r2 hp =>
    have h1 := partR_len hp
    have h0 := partR_num hp
    have h3 : r.tail.length ≤ r.length := by simp
    have h2 := nameL_num m n r2 r' _ l (by omega) (by intro p hp; simp at hp; rcases hp with hp | rfl; exact ha p hp; omega) h
    simp at h2
    exact ⟨by omega, h2.2⟩
  ·cases h; exact ⟨Nat.le_add_right _ _, ha⟩
theorem nameR_len {s : List UInt8} {d : List (List (List UInt8 × List UInt8))} (h : nameR s = some d) : d.length ≤ s.length + 1 ∧ ∀ p ∈ d, p.length ≤ s.length := by
 unfold nameR at h
 split at h
 ·cases h; simp
 ·rcases hp : partR s with _ | ⟨p, r⟩
  ·rw [hp] at h; cases h
  ·rw [hp] at h
   have h1 := partR_len hp
   have h0 := partR_num hp
   simp only [nameGo] at h
   rcases hn : nameL r.length r [p] with _ | ⟨d', r'⟩
   ·rw [hn] at h; cases h
   ·rw [hn] at h
    simp only [nameFin] at h
    split at h
    ·cases h
     have := nameL_num s.length _ _ _ _ _ (by omega) (by simpa using h0) hn
     simp at this
     exact ⟨by omega, this.2⟩
    ·cases h
theorem parse_out {w W : World} {tmps : Array Value} {g h : Nat} {v : Value} {x : Int} {d : List (List (List UInt8 × List UInt8))} (hb : Below w.heap.size w W)
  (c1 : W.cell? ⟨g, 0, none⟩ = some v) (c2 : W.cell? ⟨h, 0, none⟩ = some (.int .i64 x)) (t2 : tmps[2]? = some (.pointer (some ⟨g, 0, none⟩))) (t3 : tmps[3]? = some (.pointer (some ⟨h, 0, none⟩)))
  (hd : DnAt w.heap.size W v d) : Leaves Tryz.prog Tryz.f160 tmps (ParseRet w (x, d)) [] .returning W := by
 have e2 : tmps[2]?.getD undef = .pointer (some ⟨g, 0, none⟩) := by rw [t2]; rfl
 have e3 : tmps[3]?.getD undef = .pointer (some ⟨h, 0, none⟩) := by rw [t3]; rfl
 refine ⟨.tuple #[v, .int .i64 x], ?_, hb, v, rfl, hd⟩
 simp [results, Tryz.results160, go_sem, e2, e3, c1, c2]
set_option maxRecDepth 100000 in
theorem Parse_c (s : List UInt8) (w : World) (hw : Env w) :
  Calls Tryz.prog 160 #[.string ⟨s.toArray⟩] w (ParseRet w (parseL s)) := by
 have hmf : ∀ (fn : Fn) (first cap : Array Value) (w : World), (Instr.makeFunc fn first cap).run Tryz.prog w = .ok (.func fn first cap) w := fun _ _ _ _ => rfl
 by_cases hlen : 65536 < s.length
 ·have hR : parseL s = (2, []) := by unfold parseL; rw [if_pos hlen]
  rw [hR]
  clear hR
  go_enter_defers Tryz.func160, Tryz.ntmps160
  go_wp2_with fail
  have hb : Below w.heap.size w ((w.alloc (.cells #[.slice none 0 0] 196)).alloc (.cells #[.int .i64 2] 24)) :=
   ((Below.refl _ _).alloc (Nat.le_refl _) _).alloc (by simp) _
  refine parse_out (g := w.heap.size) (h := w.heap.size + 1) (v := .slice none 0 0) hb ?_ ?_ rfl rfl ?_
  ·simp [go_sem]
  ·simp [go_sem]
  ·exact (DnAt.nil (w := w)).keep (grown_below hb none) (by simp)
 ·have hb : Below w.heap.size w (((w.alloc (.cells #[.slice none 0 0] 196)).alloc (.cells #[.int .i64 0] 24)).alloc (.cells #[.string ⟨s.toArray⟩, .int .i64 0] 217)) :=
   (((Below.refl _ _).alloc (Nat.le_refl _) _).alloc (by simp) _).alloc (by simp; omega) _
  have hz : (zeroValue 217).run Tryz.prog ((w.alloc (.cells #[.slice none 0 0] 196)).alloc (.cells #[.int .i64 0] 24)) = .ok (.agg #[.string ⟨#[]⟩, .int .i64 0]) ((w.alloc (.cells #[.slice none 0 0] 196)).alloc (.cells #[.int .i64 0] 24)) := by kernel_rfl
  have k1 : Bk (((w.alloc (.cells #[.slice none 0 0] 196)).alloc (.cells #[.int .i64 0] 24)).alloc (.cells #[.string ⟨s.toArray⟩, .int .i64 0] 217)) w.heap.size 196 #[.slice none 0 0] := ((Bk.new w _ _).alloc _).alloc _
  have k2 : Bk (((w.alloc (.cells #[.slice none 0 0] 196)).alloc (.cells #[.int .i64 0] 24)).alloc (.cells #[.string ⟨s.toArray⟩, .int .i64 0] 217)) (w.heap.size + 1) 24 #[.int .i64 0] := by
   have := Bk.new (w.alloc (.cells #[.slice none 0 0] 196)) 24 #[.int .i64 0]
   rw [show (w.alloc (.cells #[.slice none 0 0] 196)).heap.size = w.heap.size + 1 by simp] at this
   exact this.alloc _
  have k3 : RdAt (((w.alloc (.cells #[.slice none 0 0] 196)).alloc (.cells #[.int .i64 0] 24)).alloc (.cells #[.string ⟨s.toArray⟩, .int .i64 0] 217)) (w.heap.size + 1 + 1) s s := by
   refine ⟨0, Nat.zero_le _, rfl, ?_⟩
   have := Bk.new ((w.alloc (.cells #[.slice none 0 0] 196)).alloc (.cells #[.int .i64 0] 24)) 217 #[.string ⟨s.toArray⟩, .int .i64 0]
   rw [show ((w.alloc (.cells #[.slice none 0 0] 196)).alloc (.cells #[.int .i64 0] 24)).heap.size = w.heap.size + 1 + 1 by simp] at this
   exact this
  have hsz : (((w.alloc (.cells #[.slice none 0 0] 196)).alloc (.cells #[.int .i64 0] 24)).alloc (.cells #[.string ⟨s.toArray⟩, .int .i64 0] 217)).heap.size = w.heap.size + 3 := by simp
  have hN := rdname_c (w.heap.size + 1 + 1) s _ (hw.keep hb) (off_new hw (by omega)) k3 (by omega)
  go_enter_defers Tryz.func160, Tryz.ntmps160
  generalize hW : (((w.alloc (.cells #[.slice none 0 0] 196)).alloc (.cells #[.int .i64 0] 24)).alloc (.cells #[.string ⟨s.toArray⟩, .int .i64 0] 217)) = W at hb k1 k2 k3 hsz hN
  rcases hn : nameR s with _ | d
  ·have hR : parseL s = (30, []) := by unfold parseL; rw [if_neg hlen, hn]
   rw [hn] at hN
   rw [hR]
   clear hR hn
   go_wp2_with (go_at_call 185; rw [hW])
   refine hN.mono ?_
   rintro e w1 ⟨h1, rfl⟩
   show Leaves _ _ _ _ _ _ _
   refine leaves_cons (u := .panicking dnPanic) (fv := .func 184) (cap := #[.pointer (some ⟨w.heap.size, 0, none⟩), .pointer (some ⟨w.heap.size + 1, 0, none⟩)]) (dargs := #[]) (f := 184) (args := #[.pointer (some ⟨w.heap.size, 0, none⟩), .pointer (some ⟨w.heap.size + 1, 0, none⟩)]) (by simp) (by simp [go_sem]) ?_
   have j1 := k1.grown h1 (by simp <;> omega)
   have j2 := k2.grown h1 (by simp)
   refine (parse1_panicking w.heap.size (w.heap.size + 1) w1 _ _ (j1.cell 0) (j2.cell 0) (j1.frozen 0) (j2.frozen 0) (by omega)).mono ?_
   rintro e u' w'' ⟨rfl, rfl, rfl⟩
   have b1 : Below w.heap.size w w1 := hb.grown h1 (by omega) (by simp <;> omega)
   have b2 : Below w.heap.size w ((w1.setCell ⟨w.heap.size, 0, none⟩ (.slice none 0 0)).setCell ⟨w.heap.size + 1, 0, none⟩ (.int .i64 30)) := (b1.setCell (Nat.le_refl _) _).setCell (by simp) _
   have l1 := (j1.set 0 (.slice none 0 0)).far (g' := w.heap.size + 1) (i := 0) (by omega) (.int .i64 30)
   have l2 := (j2.far (g' := w.heap.size) (i := 0) (by omega) (.slice none 0 0)).set 0 (.int .i64 30)
   exact parse_out b2 (l1.cell 0) (l2.cell 0) rfl rfl ((DnAt.nil (w := w)).keep (grown_below b2 none) (by simp))
  ·have hdl := nameR_len hn
   rw [hn] at hN
   cases hT : tooLongL d
   ·have hR : parseL s = (0, d) := by unfold parseL; rw [if_neg hlen, hn]; simp [hT]
    rw [hR]
    clear hR hn
    go_wp2_with (go_at_call 185; rw [hW])
    refine hN.mono ?_
    rintro e w1 ⟨h1, v, rfl, hd⟩
    obtain ⟨A, c, rfl, hc⟩ := hd.isSlice
    have hT2 := tooLong_c d _ w1 hd.reads (by omega) (fun p hp => by have := hdl.2 p hp; omega)
    rw [hT] at hT2
    have j1 := k1.grown h1 (by simp <;> omega)
    have j2 := k2.grown h1 (by simp)
    have b1 : Below w.heap.size w w1 := hb.grown h1 (by omega) (by simp <;> omega)
    go_wp2_with (go_at_call 186; refine hT2.mono ?_; rintro e w2 ⟨rfl, hb2⟩; have i1 := j1.below hb2; have i2 := j2.below hb2; have f1 := i1.frozen 0; have f2 := i2.frozen 0; have f3 := (i2.far (g' := w.heap.size) (i := 0) (by omega) (.slice A d.length c)).frozen 0; have d1 := i1.cell 0; have d2 := i2.cell 0; have d3 := (i2.far (g' := w.heap.size) (i := 0) (by omega) (.slice A d.length c)).cell 0)
    refine leaves_cons (u := .returning) (fv := .func 184) (cap := #[.pointer (some ⟨w.heap.size, 0, none⟩), .pointer (some ⟨w.heap.size + 1, 0, none⟩)]) (dargs := #[]) (f := 184) (args := #[.pointer (some ⟨w.heap.size, 0, none⟩), .pointer (some ⟨w.heap.size + 1, 0, none⟩)]) (by simp) (by simp [go_sem]) ?_
    refine (parse1_idle w.heap.size (w.heap.size + 1) _).mono ?_
    rintro e u' w'' ⟨rfl, rfl, rfl⟩
    have b2 : Below w.heap.size w w2 := b1.trans (hb2.mono b1.size)
    have b3 : Below w.heap.size w ((w2.setCell ⟨w.heap.size, 0, none⟩ (.slice A d.length c)).setCell ⟨w.heap.size + 1, 0, none⟩ (.int .i64 0)) := (b2.setCell (Nat.le_refl _) _).setCell (by simp) _
    have l1 := (i1.set 0 (.slice A d.length c)).far (g' := w.heap.size + 1) (i := 0) (by omega) (.int .i64 0)
    have l2 := (i2.far (g' := w.heap.size) (i := 0) (by omega) (.slice A d.length c)).set 0 (.int .i64 0)
    exact parse_out b3 (l1.cell 0) (l2.cell 0) rfl rfl ((((hd.keep (grown_below hb2 none) (by simp)).keep (setCell_grown w2 w.heap.size 0 _) (by simp; omega)).keep (setCell_grown _ (w.heap.size + 1) 0 _) (by simp; omega)).lower (by omega))
   ·have hR : parseL s = (2, []) := by unfold parseL; rw [if_neg hlen, hn]; simp [hT]
    rw [hR]
    clear hR hn
    go_wp2_with (go_at_call 185; rw [hW])
    refine hN.mono ?_
    rintro e w1 ⟨h1, v, rfl, hd⟩
    obtain ⟨A, c, rfl, hc⟩ := hd.isSlice
    have hT2 := tooLong_c d _ w1 hd.reads (by omega) (fun p hp => by have := hdl.2 p hp; omega)
    rw [hT] at hT2
    have j1 := k1.grown h1 (by simp <;> omega)
    have j2 := k2.grown h1 (by simp)
    have b1 : Below w.heap.size w w1 := hb.grown h1 (by omega) (by simp <;> omega)
    go_wp2_with (go_at_call 186; refine hT2.mono ?_; rintro e w2 ⟨rfl, hb2⟩; have i1 := j1.below hb2; have i2 := j2.below hb2; have f1 := i1.frozen 0; have f2 := i2.frozen 0; have f3 := (i2.far (g' := w.heap.size) (i := 0) (by omega) (.slice none 0 0)).frozen 0; have d1 := i1.cell 0; have d2 := i2.cell 0; have d3 := (i2.far (g' := w.heap.size) (i := 0) (by omega) (.slice none 0 0)).cell 0)
    refine leaves_cons (u := .returning) (fv := .func 184) (cap := #[.pointer (some ⟨w.heap.size, 0, none⟩), .pointer (some ⟨w.heap.size + 1, 0, none⟩)]) (dargs := #[]) (f := 184) (args := #[.pointer (some ⟨w.heap.size, 0, none⟩), .pointer (some ⟨w.heap.size + 1, 0, none⟩)]) (by simp) (by simp [go_sem]) ?_
    refine (parse1_idle w.heap.size (w.heap.size + 1) _).mono ?_
    rintro e u' w'' ⟨rfl, rfl, rfl⟩
    have b2 : Below w.heap.size w w2 := b1.trans (hb2.mono b1.size)
    have b3 : Below w.heap.size w ((w2.setCell ⟨w.heap.size, 0, none⟩ (.slice none 0 0)).setCell ⟨w.heap.size + 1, 0, none⟩ (.int .i64 2)) := (b2.setCell (Nat.le_refl _) _).setCell (by simp) _
    have l1 := (i1.set 0 (.slice none 0 0)).far (g' := w.heap.size + 1) (i := 0) (by omega) (.int .i64 2)
    have l2 := (i2.far (g' := w.heap.size) (i := 0) (by omega) (.slice none 0 0)).set 0 (.int .i64 2)
    exact parse_out b3 (l1.cell 0) (l2.cell 0) rfl rfl ((DnAt.nil (w := w)).keep (grown_below b3 none) (by simp))
open Go.RowKit
def hexCs : List UInt8 := [48, 49, 50, 51, 52, 53, 54, 55, 56, 57, 97, 98, 99, 100, 101, 102]
def hexD (n : Nat) : UInt8 := hexCs.getD n 0
def hexL (l : List UInt8) : List UInt8 := l.flatMap fun c => [hexD (c.toNat / 16), hexD (c.toNat % 16)]
section
variable {ops : Array Oper} {o : Oper} {a : Act} {K : Act → World → Prop} {Q : Exit → Act → World → Prop} {E : Prop}
theorem step_append_ownF {P : Program} {w : World} (hgd : o.guard = none) (s x : Operand) (t : TypeId)
  (ho : o.op = .call { callee := .builtin .append, args := #[s, x], argTypes := #[t, t] })
  (base : Nat) (e : TypeId) (i : TypeInfo) (z : Value) (size bytes : Nat) (ht : P.underlying t = some (.slice e)) (hi : P.info? e = some i) (hz : i.zero = some z)
  (hsize : i.size = size) (hby : i.bytes = bytes) (hzs : z.cells.size = size) (hsz : 0 < size)
  (v : Value) (n : Nat) (xs : List Value) (hs : a.eval s = v) (hown : w.ownsRowF base e size v n xs)
  (ad : Addr) (m c : Nat) (news : List Value) (hx : a.eval x = .slice (some ad) m c) (hl : news.length = m * size) (hnews : ∀ j u, news[j]? = some u → w.cell? (ad.add j) = some u) (h1 : ∀ u ∈ news, u.oneCell' = true)
  (h63 : n + m ≤ maxLen) (hbytes : (n + m) * bytes ≤ 140737488355328) (hbase : base ≤ w.heap.size)
  (h : ∀ v' w', w'.ownsRowF base e size v' (n + m) (xs ++ news) → w.grownBy w' v.ownBlock → K (a.put o.dst v') w') :
  if Region.wanted o (yielded ops a.tmps) = true then Oper.wp P o a w K Q else E := by
 have hw : Region.wanted o (yielded ops a.tmps) = true := by simp [Region.wanted, hgd]
 rw [if_pos hw]
 obtain ⟨v', w', hr, h2, h3, h4⟩ := run_append_ownF (P := P) w base t o.type e i z size bytes ht hi hz hsize hby hzs hsz v n xs hown ad m c news hl hnews h1 h63 hbytes hbase
 unfold Oper.wp execOp
 simp only [ho, resolve, invoke, builtin, Sem.run_bind, Sem.run_pure, Result.andThen_ok, List.map_toArray, List.map_cons, List.map_nil, hs, hx, hr]
 exact h v' w' h2 h3
theorem step_two (hgd : o.guard = none) (s x : Operand) (ho : o.op = .call { callee := .builtin .append, args := #[s, x], argTypes := #[66, 66] })
  {v : Value} {l : List UInt8} {W0 w0 : World} {c d : UInt8} (hs : a.eval s = v) (hb : Buf W0 w0 v l)
  (hx : a.eval x = .slice (some ⟨w0.heap.size, 0, none⟩) 2 2) (hlen : l.length + 2 ≤ 140737488355328)
  (h : ∀ v' w', Buf W0 w' v' (l ++ [c, d]) → w0.grownBy w' v.ownBlock → K (a.put o.dst v') w') :
  if Region.wanted o (yielded ops a.tmps) = true then Oper.wp Tryz.prog o a (w0.alloc (.cells #[.int .u8 c.toNat, .int .u8 d.toNat] 5)).drew K Q else E := by
 obtain ⟨i, h1, h2, h3, h4⟩ := infoByte
 have hb0 := (Buf.alloc hb (.cells #[.int .u8 c.toNat, .int .u8 d.toNat] 5)).drewN 1
 have hb' : Lib.OwnBuf W0.heap.size 5 v l.length (Lib.byteCells l) W0 (w0.alloc (.cells #[.int .u8 c.toNat, .int .u8 d.toNat] 5)).drew := hb0
 refine step_append_ownF hgd s x 66 ho W0.heap.size 5 i (.int .u8 0) 1 1 Tryz.underlying66 h1 h2 h3 h4 rfl (by decide) v _ _ hs hb'.1 ⟨w0.heap.size, 0, none⟩ 2 2 [.int .u8 c.toNat, .int .u8 d.toNat] hx rfl ?_ ?_ (by unfold maxLen; omega) (by omega) hb'.2.2 ?_
 ·intro j u hj
  match j, hj with
  | 0, hj => simp at hj; subst hj; simp [Addr.add]
  | 1, hj => simp at hj; subst hj; simp [Addr.add]
  | (j + 2), hj => simp at hj
 ·intro u hu; simp at hu; rcases hu with rfl | rfl <;> rfl
 ·intro v' w' ho' hg
  refine h v' w' ?_ (World.grownBy.trans (World.grownBy_alloc _ _ _) ⟨hg.os, hg.tape, hg.output, hg.size, hg.block⟩)
  have hv := hb'.grown ho' hg
  unfold Buf
  simpa [Lib.byteCells] using hv
end
theorem and15_fin : ∀ c : Fin 256, bits BinOp.and IntKind.u8 (c.val : Int) 15 = ((c.val % 16 : Nat) : Int) := by decide +kernel
theorem and15 (c : UInt8) : bits BinOp.and IntKind.u8 (c.toNat : Int) 15 = ((c.toNat % 16 : Nat) : Int) := and15_fin ⟨c.toNat, UInt8.toNat_lt c⟩
theorem hexD_at (m : Int) (n : Nat) (h : m.toNat < hexCs.length) (e : m = (n : Int)) : hexCs[m.toNat] = hexD n := by
 subst e
 unfold hexD
 rw [List.getD_eq_getElem?_getD, List.getElem?_eq_getElem (by simpa using h)]
 simp
theorem hexL_snoc (l : List UInt8) (p : Nat) (h : p < l.length) : hexL (l.take (p + 1)) = hexL (l.take p) ++ [hexD (l[p].toNat / 16), hexD (l[p].toNat % 16)] := by
 rw [List.take_succ_eq_append_getElem h]
 unfold hexL
 rw [List.flatMap_append]
 rfl
set_option maxRecDepth 10000 in
theorem Hex_c (l : List UInt8) (w : World) (hl : l.length ≤ 1048576) :
  Calls Tryz.prog 107 #[.string ⟨l.toArray⟩] w fun e w' => e = .returned (.string ⟨(hexL l).toArray⟩) ∧ Below w.heap.size w w' := by
 have hget := ba_get
 go_enter Tryz.func107, Tryz.ntmps107
 go_wp2_with (at_make; refine buf_make rfl _ _ rfl (2 * l.length) _ rfl rfl (by simp) (by omega) ?_; intro w1 hb1)
 go_loopg [3, 11] l.length (fun gk v i wr => ∃ (p : Nat) (acc : List UInt8), p ≤ l.length ∧ i = .int .i64 p ∧ Aside (p + gk = l.length) ∧ Buf w wr v acc ∧ acc.length ≤ 2 * p ∧ Aside (acc = hexL (l.take p)))
 case atStart => exact ⟨0, [], by omega, rfl, by show _ = _; omega, hb1, by simp, rfl⟩
 case round =>
  obtain ⟨p, acc, hp, rfl, AG, hbuf, hacc, AU⟩ := hrel
  by_cases hlt : p < l.length
  ·obtain ⟨q, rfl⟩ : ∃ q, gk = q + 1 := ⟨gk - 1, by have := AG.out; omega⟩
   have h8 := UInt8.toNat_lt l[p]
   have hk0 : (0 : Int) ≤ (p : Int) := by omega
   have hk1 : (p : Int) < (l.length : Int) := by omega
   have ha := and15 l[p]
   have ha2 : ((l[p].toNat % 16 : Nat) : Int) < 16 := by omega
   have ha3 : (0 : Int) ≤ ((l[p].toNat % 16 : Nat) : Int) := by omega
   have hd1 : (l[p].toNat : Int) / 16 < 16 := by omega
   have hd0 : (0 : Int) ≤ (l[p].toNat : Int) / 16 := by omega
   go_wp2_with fail
   go_region_held3 (fun _ => True) (trivial) ((refine step_two (by rfl) _ _ (by rfl) rfl hbuf rfl (by omega) ?_; intro v' w2 hb2 hg2))
   all_goals
    have e1 := hexD_at ((l[p].toNat : Int) / 16) (l[p].toNat / 16) (by show _ < 16; omega) (by omega)
    have e2 := hexD_at ((l[p].toNat : Int) % 16) (l[p].toNat % 16) (by show _ < 16; omega) (by omega)
    have hb3 : Buf w w2 v' (hexL (l.take (p + 1))) := by
     rw [hexL_snoc l p hlt, ← AU.out, ← e1, ← e2]
     exact hb2
    clear hb2 hg2 e1 e2
    go_wp2_with fail
    go_roundg q
    case measure => omega
    case rel =>
     exact ⟨p + 1, _, by omega, by go_num, by have := AG.out; show _ = _; omega, hb3, by rw [hexL_snoc l p hlt, ← AU.out]; simp; omega, rfl⟩
  ·obtain rfl : p = l.length := by omega
   have hfin : acc = hexL l := by have := AU.out; rw [List.take_length] at this; exact this
   have Hf := Lib.hid hfin
   have hst := buf_string hbuf
   have hB := hbuf.below
   clear AU hfin
   go_wp2
   go_ret
   exact ⟨by rw [← Hf.out]; rfl, hB⟩
end Go.Proofs.YtconnibnpckadaaGreatDoor
