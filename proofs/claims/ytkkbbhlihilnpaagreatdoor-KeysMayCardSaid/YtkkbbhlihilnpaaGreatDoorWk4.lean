import Derived.Test.YtkkbbhlihilnpaaGreatDoorWk2
set_option linter.all false
set_option maxHeartbeats 8000000
set_option maxRecDepth 100000
namespace Go.Proofs.YtkkbbhlihilnpaaGreatDoor.Key
structure PlanE where
 op : Int
 n : Int
 key : List UInt8
deriving DecidableEq
instance : Inhabited PlanE := ⟨⟨0, 0, []⟩⟩
def okP (x : PlanE) : Prop := 0 ≤ x.op ∧ x.op ≤ 4 ∧ 0 ≤ x.n ∧ (x.op ≠ 3 → x.op ≠ 4 → x.n = 0) ∧ (x.op ≠ 2 → x.key = [])
instance (x : PlanE) : Decidable (okP x) := by unfold okP; exact inferInstance
def times {α : Type} (g : α → Option α) : Nat → α → Option α
 | 0, a => some a
 | n + 1, a => (times g n a).bind g
def rest : Nat → List PlanE → Option (List PlanE)
 | 0, _ => none
 | _ + 1, [] => none
 | f + 1, x :: t => if okP x then times (rest f) x.n.toNat t else none
theorem times_len {g : List PlanE → Option (List PlanE)} (hg : ∀ a b, g a = some b → b.length < a.length) : ∀ n a b, times g n a = some b → b.length + n ≤ a.length
 | 0, a, b, h => by cases h; simp
 | n + 1, a, b, h => by
  rw [times] at h
  cases hc : times g n a with
  | none => rw [hc] at h; cases h
  | some c =>
   rw [hc] at h
   have h1 := times_len hg n a c hc
   have h2 := hg c b h
   omega
theorem rest_len : ∀ f p r, rest f p = some r → r.length < p.length
 | 0, p, r, h => by cases h
 | f + 1, [], r, h => by cases h
 | f + 1, x :: t, r, h => by
  rw [rest] at h
  split at h
  ·have := times_len (rest_len f) _ _ _ h
   simp only [List.length_cons]; omega
  ·cases h
theorem times_none {α : Type} {g : α → Option α} {a : α} {j : Nat} (h : times g j a = none) : ∀ {n}, j ≤ n → times g n a = none
 | 0, hn => by
  have : j = 0 := by omega
  subst this
  exact h
 | n + 1, hn => by
  by_cases e : j = n + 1
  ·subst e; exact h
  ·rw [times, times_none h (by omega)]; rfl
theorem times_step {α : Type} {g : α → Option α} {a b c : α} {j : Nat} (h : times g j a = some b) (hb : g b = some c) : times g (j + 1) a = some c := by
 rw [times, h]; exact hb
theorem times_stop {α : Type} {g : α → Option α} {a b : α} {j n : Nat} (h : times g j a = some b) (hb : g b = none) (hn : j < n) : times g n a = none :=
 times_none (j := j + 1) (by rw [times, h]; exact hb) hn
theorem times_at {α : Type} {g : α → Option α} {a r : α} {n j : Nat} (h : times g n a = some r) (hj : j < n) : ∃ b c, times g j a = some b ∧ g b = some c := by
 cases hb : times g j a with
 | none => rw [times_none hb (by omega)] at h; cases h
 | some b =>
  cases hc : g b with
  | none => rw [times_stop hb hc hj] at h; cases h
  | some c => exact ⟨b, c, rfl, hc⟩
def step (g : List PlanE → Bool × List PlanE) (a : Bool) (s : Bool × List PlanE) : Bool × List PlanE :=
 ((if a then s.1 && (g s.2).1 else s.1 || (g s.2).1), (g s.2).2)
def steps (g : List PlanE → Bool × List PlanE) (a : Bool) : Nat → Bool × List PlanE → Bool × List PlanE
 | 0, s => s
 | n + 1, s => step g a (steps g a n s)
def eval (l : List (List UInt8)) : Nat → List PlanE → Bool × List PlanE
 | 0, p => (false, p)
 | _ + 1, [] => (false, [])
 | f + 1, x :: t => if x.op = 0 then (true, t) else if x.op = 2 then (decide (x.key ∈ l), t) else if x.op = 3 then steps (eval l f) true x.n.toNat (true, t) else if x.op = 4 then steps (eval l f) false x.n.toNat (false, t) else (false, t)
def Cut (f : Nat) (l : List (List UInt8)) (p r : List PlanE) : Prop := ∃ c, p = c ++ r ∧ ∀ r', rest f (c ++ r') = some r' ∧ eval l f (c ++ r') = ((eval l f p).1, r')
theorem steps_cut {f : Nat} {l : List (List UInt8)} (hf : ∀ p r, rest f p = some r → Cut f l p r) : ∀ n t r, times (rest f) n t = some r → ∃ c, t = c ++ r ∧ ∀ r', times (rest f) n (c ++ r') = some r' ∧ ∀ a b, steps (eval l f) a n (b, c ++ r') = ((steps (eval l f) a n (b, t)).1, r')
 | 0, t, r, h => by
  cases h
  exact ⟨[], rfl, fun r' => ⟨rfl, fun a b => rfl⟩⟩
 | n + 1, t, r, h => by
  rw [times] at h
  cases hb : times (rest f) n t with
  | none => rw [hb] at h; cases h
  | some b =>
   rw [hb] at h
   obtain ⟨c1, e1, h1⟩ := steps_cut hf n t b hb
   obtain ⟨c2, e2, h2⟩ := hf b r h
   refine ⟨c1 ++ c2, by rw [e1, e2, List.append_assoc], fun r' => ⟨?_, fun a x => ?_⟩⟩
   ·rw [List.append_assoc, times, (h1 (c2 ++ r')).1]
    exact (h2 r').1
   ·have k1 := (h1 (c2 ++ r')).2 a x
    have k0 := (h1 b).2 a x
    rw [← e1] at k0
    rw [List.append_assoc, steps, k1, steps, k0]
    simp only [step, (h2 r').2]
theorem rest_cut (l : List (List UInt8)) : ∀ f p r, rest f p = some r → Cut f l p r
 | 0, p, r, h => by cases h
 | f + 1, [], r, h => by cases h
 | f + 1, x :: t, r, h => by
  rw [rest] at h
  split at h
  case isFalse => cases h
  case isTrue ho =>
   obtain ⟨c, e, hc⟩ := steps_cut (rest_cut l f) _ _ _ h
   refine ⟨x :: c, by rw [e]; rfl, fun r' => ⟨?_, ?_⟩⟩
   ·rw [List.cons_append, rest, if_pos ho]
    exact (hc r').1
   ·have ho' := ho
    obtain ⟨o1, o2, o3, o4, o5⟩ := ho'
    rw [List.cons_append, eval, eval]
    have hz : x.op ≠ 3 → x.op ≠ 4 → c = [] := by
     intro a3 a4
     have h0 := o4 a3 a4
     rw [h0] at hc
     have := (hc []).1
     simp only [Int.toNat_zero, times] at this
     simpa using this
    by_cases a0 : x.op = 0
    ·rw [if_pos a0, if_pos a0, hz (by omega) (by omega)]; rfl
    rw [if_neg a0, if_neg a0]
    by_cases a2 : x.op = 2
    ·rw [if_pos a2, if_pos a2, hz (by omega) (by omega)]; rfl
    rw [if_neg a2, if_neg a2]
    by_cases a3 : x.op = 3
    ·rw [if_pos a3, if_pos a3]
     exact (hc r').2 true true
    rw [if_neg a3, if_neg a3]
    by_cases a4 : x.op = 4
    ·rw [if_pos a4, if_pos a4]
     exact (hc r').2 false false
    rw [if_neg a4, if_neg a4, hz a3 a4]; rfl
theorem rest_own {l : List (List UInt8)} {f : Nat} {p r : List PlanE} (h : rest f p = some r) : rest f (p.take (p.length - r.length)) = some [] ∧ eval l f (p.take (p.length - r.length)) = ((eval l f p).1, []) ∧ p.drop (p.length - r.length) = r := by
 obtain ⟨c, e, hc⟩ := rest_cut l f p r h
 have h1 : p.length - r.length = c.length := by rw [e]; simp
 rw [h1]
 have h2 : p.take c.length = c := by rw [e]; simp
 have h3 : p.drop c.length = r := by rw [e]; simp
 rw [h2, h3]
 have := hc []
 rw [List.append_nil] at this
 exact ⟨this.1, this.2, rfl⟩
theorem times_drop {f n : Nat} {t r : List PlanE} (h : times (rest f) n t = some r) : t.drop (t.length - r.length) = r := by
 obtain ⟨c, e, _⟩ := steps_cut (l := []) (rest_cut [] f) n t r h
 have h1 : t.length - r.length = c.length := by rw [e]; simp
 rw [h1, e]; simp
theorem steps_rest {l : List (List UInt8)} {f n : Nat} {t r : List PlanE} (h : times (rest f) n t = some r) (a b : Bool) : (steps (eval l f) a n (b, t)).2 = r := by
 obtain ⟨c, e, hc⟩ := steps_cut (rest_cut l f) n t r h
 have := (hc r).2 a b
 rw [← e] at this
 rw [this]
def validB (p : List PlanE) : Bool := rest p.length p == some []
def mayP (p : List PlanE) (l : List (List UInt8)) : Bool := validB p && (eval l p.length p).1
theorem validB_eq {p : List PlanE} (h : validB p = true) : rest p.length p = some [] := eq_of_beq h
end Go.Proofs.YtkkbbhlihilnpaaGreatDoor.Key
namespace Go.Proofs.YtkkbbhlihilnpaaGreatDoor
open Go.RowKit
def PlanS (w : World) (v : Value) (l : List Key.PlanE) : Prop := ∃ A c, v = .slice A l.length c ∧ l.length ≤ c ∧ ∀ j (hj : j < l.length), ∃ b o, A = some ⟨b, o, none⟩ ∧ w.cell? ⟨b, o + j * 3, none⟩ = some (.int .i64 l[j].op) ∧ w.cell? ⟨b, o + j * 3 + 1, none⟩ = some (.int .i64 l[j].n) ∧ w.cell? ⟨b, o + j * 3 + 2, none⟩ = some (.string ⟨l[j].key.toArray⟩)
theorem PlanS.below {w w' : World} {v : Value} {l : List Key.PlanE} (h : PlanS w v l) (hb : Below w.heap.size w w') : PlanS w' v l := by
 obtain ⟨A, c, rfl, hc, hx⟩ := h
 refine ⟨A, c, rfl, hc, fun j hj => ?_⟩
 obtain ⟨b, o, hA, c0, c1, c2⟩ := hx j hj
 exact ⟨b, o, hA, (hb.cell (cell_lt c0)).trans c0, (hb.cell (cell_lt c1)).trans c1, (hb.cell (cell_lt c2)).trans c2⟩
theorem PlanS.isSlice {w : World} {v : Value} {l : List Key.PlanE} (h : PlanS w v l) : ∃ A c, v = .slice A l.length c ∧ l.length ≤ c := by
 obtain ⟨A, c, h1, h2, _⟩ := h
 exact ⟨A, c, h1, h2⟩
theorem size_plan : ∀ w, (sizeOf 26).run Tryz.prog w = .ok 3 w := fun w => by kernel_rfl
theorem slice_off {t e : TypeId} {sz : Nat} (ht : Tryz.prog.underlying t = some (.slice e)) (hs : ∀ w, (sizeOf e).run Tryz.prog w = .ok sz w) (b o n c j : Nat) (hj : j ≤ n) (hc : n ≤ c) :
  ∃ B : Addr, (j < c → B = ⟨b, o + j * sz, none⟩) ∧ ∀ w, (Instr.slice t (.slice (some ⟨b, o, none⟩) n c) (some (.int .i64 (j : Int))) none none).run Tryz.prog w = .ok (.slice (some B) (n - j) (c - j)) w := by
 have h1 : ∀ w, (Instr.sliceBounds true n c (some (.int .i64 j)) none none).run Tryz.prog w = .ok (j, n, c) w := fun w => by
  simp [Instr.sliceBounds, run_sliceBound, hj]
 have ha : (⟨b, o, none⟩ : Addr).add (j * sz) = ⟨b, o + j * sz, none⟩ := add_at2 _ _ _
 by_cases hjc : j < c
 ·refine ⟨⟨b, o + j * sz, none⟩, fun _ => rfl, fun w => ?_⟩
  unfold Instr.slice
  simp only [Sem.run_bind, run_underlying ht, Result.andThen_ok, h1, hs, Sem.run_pure]
  simp [ha]
  intro e
  omega
 ·refine ⟨⟨b, o, none⟩, fun h => absurd h hjc, fun w => ?_⟩
  unfold Instr.slice
  simp only [Sem.run_bind, run_underlying ht, Result.andThen_ok, h1, hs, Sem.run_pure]
  simp [ha]
  intro e
  omega
theorem slice_mid {t e : TypeId} {sz : Nat} (ht : Tryz.prog.underlying t = some (.slice e)) (hs : ∀ w, (sizeOf e).run Tryz.prog w = .ok sz w) (b o n c lo hi : Nat) (hl : lo ≤ hi) (hn : hi ≤ c) :
  ∃ B : Addr, (lo < c → B = ⟨b, o + lo * sz, none⟩) ∧ ∀ w, (Instr.slice t (.slice (some ⟨b, o, none⟩) n c) (some (.int .i64 (lo : Int))) (some (.int .i64 (hi : Int))) none).run Tryz.prog w = .ok (.slice (some B) (hi - lo) (c - lo)) w := by
 have h1 : ∀ w, (Instr.sliceBounds true n c (some (.int .i64 lo)) (some (.int .i64 hi)) none).run Tryz.prog w = .ok (lo, hi, c) w := fun w => by
  simp [Instr.sliceBounds, run_sliceBound, hn, hl]
 have ha : (⟨b, o, none⟩ : Addr).add (lo * sz) = ⟨b, o + lo * sz, none⟩ := add_at2 _ _ _
 by_cases hjc : lo < c
 ·refine ⟨⟨b, o + lo * sz, none⟩, fun _ => rfl, fun w => ?_⟩
  unfold Instr.slice
  simp only [Sem.run_bind, run_underlying ht, Result.andThen_ok, h1, hs, Sem.run_pure]
  simp [ha]
  intro e
  omega
 ·refine ⟨⟨b, o, none⟩, fun h => absurd h hjc, fun w => ?_⟩
  unfold Instr.slice
  simp only [Sem.run_bind, run_underlying ht, Result.andThen_ok, h1, hs, Sem.run_pure]
  simp [ha]
  intro e
  omega
theorem PlanS.drop {w : World} {l : List Key.PlanE} {b o c k : Nat} {B : Addr} (h : PlanS w (.slice (some ⟨b, o, none⟩) l.length c) l) (hk : k ≤ l.length) (hB : k < c → B = ⟨b, o + k * 3, none⟩) : PlanS w (.slice (some B) (l.length - k) (c - k)) (l.drop k) := by
 obtain ⟨A, c', e, hc, hx⟩ := h
 cases e
 refine ⟨_, _, by rw [List.length_drop], by rw [List.length_drop]; omega, fun j hj => ?_⟩
 rw [List.length_drop] at hj
 obtain ⟨b', o', e, d0, d1, d2⟩ := hx (k + j) (by omega)
 cases e
 simp only [List.getElem_drop]
 refine ⟨b, o + k * 3, by rw [hB (by omega)], ?_, ?_, ?_⟩
 ·rw [show o + k * 3 + j * 3 = o + (k + j) * 3 by omega]; exact d0
 ·rw [show o + k * 3 + j * 3 + 1 = o + (k + j) * 3 + 1 by omega]; exact d1
 ·rw [show o + k * 3 + j * 3 + 2 = o + (k + j) * 3 + 2 by omega]; exact d2
theorem PlanS.take {w : World} {A : Option Addr} {l : List Key.PlanE} {n c k : Nat} (h : PlanS w (.slice A n c) l) (hk : k ≤ l.length) : PlanS w (.slice A k c) (l.take k) := by
 obtain ⟨A', c', e, hc, hx⟩ := h
 cases e
 refine ⟨_, _, by rw [List.length_take, Nat.min_eq_left hk], by rw [List.length_take]; omega, fun j hj => ?_⟩
 rw [List.length_take] at hj
 simp only [List.getElem_take]
 exact hx j (by omega)
theorem PlanS.tail {w : World} {v : Value} {x : Key.PlanE} {t : List Key.PlanE} (h : PlanS w v (x :: t)) : ∃ b o c v', v = .slice (some ⟨b, o, none⟩) (t.length + 1) c ∧ (w.cell? ⟨b, o, none⟩ = some (.int .i64 x.op) ∧ w.cell? ⟨b, o + 1, none⟩ = some (.int .i64 x.n) ∧ w.cell? ⟨b, o + 2, none⟩ = some (.string ⟨x.key.toArray⟩)) ∧
  (∀ W, (Instr.slice 22 (.slice (some ⟨b, o, none⟩) (t.length + 1) c) (some (.int .i64 1)) none none).run Tryz.prog W = .ok v' W) ∧ PlanS w v' t := by
 have hp := h
 obtain ⟨A, c, rfl, hc, hx⟩ := h
 simp only [List.length_cons] at hc hx
 obtain ⟨b, o, rfl, c0, c1, c2⟩ := hx 0 (by omega)
 obtain ⟨B, hB, hs⟩ := slice_off Tryz.underlying22 size_plan b o (t.length + 1) c 1 (by omega) hc
 have := hp.drop (k := 1) (B := B) (by simp) hB
 exact ⟨b, o, c, _, rfl, ⟨by simpa using c0, by simpa using c1, by simpa using c2⟩, fun W => hs W, by simpa using this⟩
def WholeRet (w0 w : World) (o : Option (List Key.PlanE)) (e : Ending) (w' : World) : Prop := Below w.heap.size w w' ∧ match o with
 | none => ∃ v, e = .returned (.tuple #[v, .bool false])
 | some r => ∃ v, e = .returned (.tuple #[v, .bool true]) ∧ PlanS w0 v r
theorem Key.rest_01 {f : Nat} {x : Key.PlanE} {t : List Key.PlanE} (h : x.op = 0 ∨ x.op = 1) : Key.rest (f + 1) (x :: t) = if x.n = 0 ∧ x.key = [] then some t else none := by
 rw [Key.rest]
 by_cases hc : x.n = 0 ∧ x.key = []
 ·rw [if_pos hc, if_pos (by unfold Key.okP; exact ⟨by omega, by omega, by omega, fun _ _ => hc.1, fun _ => hc.2⟩), hc.1]; rfl
 ·rw [if_neg hc, if_neg (fun ho => hc ⟨ho.2.2.2.1 (by omega) (by omega), ho.2.2.2.2 (by omega)⟩)]
theorem Key.rest_2 {f : Nat} {x : Key.PlanE} {t : List Key.PlanE} (h : x.op = 2) : Key.rest (f + 1) (x :: t) = if x.n = 0 then some t else none := by
 rw [Key.rest]
 by_cases hc : x.n = 0
 ·rw [if_pos hc, if_pos (by unfold Key.okP; exact ⟨by omega, by omega, by omega, fun _ _ => hc, fun h2 => absurd h h2⟩), hc]; rfl
 ·rw [if_neg hc, if_neg (fun ho => hc (ho.2.2.2.1 (by omega) (by omega)))]
theorem Key.rest_34 {f : Nat} {x : Key.PlanE} {t : List Key.PlanE} (h : x.op = 3 ∨ x.op = 4) : Key.rest (f + 1) (x :: t) = if 0 ≤ x.n ∧ x.key = [] then Key.times (Key.rest f) x.n.toNat t else none := by
 rw [Key.rest]
 by_cases hc : 0 ≤ x.n ∧ x.key = []
 ·rw [if_pos hc, if_pos (by unfold Key.okP; exact ⟨by omega, by omega, hc.1, fun _ _ => by omega, fun _ => hc.2⟩)]
 ·rw [if_neg hc, if_neg (fun ho => hc ⟨ho.2.2.1, ho.2.2.2.2 (by omega)⟩)]
theorem Key.rest_no {f : Nat} {x : Key.PlanE} {t : List Key.PlanE} (h : x.op < 0 ∨ 4 < x.op) : Key.rest (f + 1) (x :: t) = none := by
 rw [Key.rest, if_neg]
 intro ho
 have := ho.1
 have := ho.2.1
 omega
theorem Key.rest_nil (f : Nat) : Key.rest f [] = none := by cases f <;> rfl
set_option maxRecDepth 100000 in
theorem whole_c (w0 : World) : ∀ (f : Nat) (p : List Key.PlanE) (v : Value) (w : World), p.length ≤ f → p.length ≤ 1000 → Below w0.heap.size w0 w → PlanS w0 v p →
  Calls Tryz.prog 30 #[v] w (WholeRet w0 w (Key.rest f p)) := by
 intro f
 induction f with
 | zero =>
  intro p v w hf hl hb hp
  obtain rfl : p = [] := List.length_eq_zero_iff.1 (by omega)
  obtain ⟨A, c, rfl, hc⟩ := hp.isSlice
  clear hp
  go_enter Tryz.func30, Tryz.ntmps30
  go_wp2_with fail
  go_ret2
  exact ⟨Below.refl _ _, _, rfl⟩
 | succ f ih =>
  intro p v w hf hl hb hp
  cases p with
  | nil =>
   obtain ⟨A, c, rfl, hc⟩ := hp.isSlice
   clear hp ih
   go_enter Tryz.func30, Tryz.ntmps30
   go_wp2_with fail
   go_ret2
   exact ⟨Below.refl _ _, _, rfl⟩
  | cons x t =>
   simp only [List.length_cons] at hf hl
   obtain ⟨b, o, c, vt, rfl, ⟨c0, c1, c2⟩, hsl, ht⟩ := hp.tail
   clear hp
   have d0 := (hb.cell (cell_lt c0)).trans c0
   have d1 := (hb.cell (cell_lt c1)).trans c1
   have d2 := (hb.cell (cell_lt c2)).trans c2
   obtain ⟨R, hR⟩ : ∃ R, Key.rest (f + 1) (x :: t) = R := ⟨_, rfl⟩
   rw [hR]
   have HR := Lib.hid hR
   have IH := Lib.hid ih
   clear c0 c1 c2 hR ih
   obtain ⟨At, ct, rfl, hct⟩ := ht.isSlice
   have HT := Lib.hid ht
   obtain ⟨op, n, key⟩ := x
   simp only at d0 d1 d2 HR
   have hba := bel_one w (.cells #[.int .i64 op, .int .i64 n, .string ⟨key.toArray⟩] 26)
   have hk := Bk.new w 26 #[.int .i64 op, .int .i64 n, .string ⟨key.toArray⟩]
   have m0 := hk.cell 0
   have m1 := hk.cell 1
   have m2 := hk.cell 2
   simp only [List.getElem?_toArray, List.getElem?_cons_zero, List.getElem?_cons_succ] at m0 m1 m2
   have hcs : op = 0 ∨ op = 1 ∨ op = 2 ∨ op = 3 ∨ op = 4 ∨ (op ≠ 0 ∧ op ≠ 1 ∧ op ≠ 2 ∧ op ≠ 3 ∧ op ≠ 4 ∧ (op < 0 ∨ 4 < op)) := by omega
   clear ht
   rcases hcs with rfl | rfl | rfl | rfl | rfl | ⟨n0, n1, n2, n3, n4, hno⟩
   ·have hR2 := Key.rest_01 (f := f) (x := ⟨0, n, key⟩) (t := t) (.inl rfl)
    rw [HR.out] at hR2
    simp only at hR2
    clear HR IH
    by_cases hn : n = 0
    ·subst hn
     cases key with
     | nil =>
      rw [if_pos ⟨rfl, rfl⟩] at hR2
      subst hR2
      go_enter Tryz.func30, Tryz.ntmps30
      go_wp2_with fail
      go_quiet (fail)
      go_wp2_with fail
      go_ret2
      exact ⟨below_drewN hba nq, _, rfl, HT.out⟩
     | cons ch kt =>
      rw [if_neg (fun h => by cases h.2)] at hR2
      subst hR2
      go_enter Tryz.func30, Tryz.ntmps30
      go_wp2_with fail
      go_quiet (fail)
      go_wp2_with fail
      go_ret2
      exact ⟨below_drewN hba nq, _, rfl⟩
    ·have hnb : (n == 0) = false := beq_eq_false_iff_ne.2 hn
     rw [if_neg (fun h => hn h.1)] at hR2
     subst hR2
     go_enter Tryz.func30, Tryz.ntmps30
     go_wp2_with fail
     go_quiet (fail)
     go_wp2_with fail
     go_ret2
     exact ⟨below_drewN hba nq, _, rfl⟩
   ·have hR2 := Key.rest_01 (f := f) (x := ⟨1, n, key⟩) (t := t) (.inr rfl)
    rw [HR.out] at hR2
    simp only at hR2
    clear HR IH
    by_cases hn : n = 0
    ·subst hn
     cases key with
     | nil =>
      rw [if_pos ⟨rfl, rfl⟩] at hR2
      subst hR2
      go_enter Tryz.func30, Tryz.ntmps30
      go_wp2_with fail
      go_quiet (fail)
      go_wp2_with fail
      go_ret2
      exact ⟨below_drewN hba nq, _, rfl, HT.out⟩
     | cons ch kt =>
      rw [if_neg (fun h => by cases h.2)] at hR2
      subst hR2
      go_enter Tryz.func30, Tryz.ntmps30
      go_wp2_with fail
      go_quiet (fail)
      go_wp2_with fail
      go_ret2
      exact ⟨below_drewN hba nq, _, rfl⟩
    ·have hnb : (n == 0) = false := beq_eq_false_iff_ne.2 hn
     rw [if_neg (fun h => hn h.1)] at hR2
     subst hR2
     go_enter Tryz.func30, Tryz.ntmps30
     go_wp2_with fail
     go_quiet (fail)
     go_wp2_with fail
     go_ret2
     exact ⟨below_drewN hba nq, _, rfl⟩
   ·have hR2 := Key.rest_2 (f := f) (x := ⟨2, n, key⟩) (t := t) rfl
    rw [HR.out] at hR2
    simp only at hR2
    clear HR IH
    by_cases hn : n = 0
    ·subst hn
     rw [if_pos rfl] at hR2
     subst hR2
     go_enter Tryz.func30, Tryz.ntmps30
     go_wp2_with fail
     go_quiet (fail)
     go_wp2_with fail
     go_ret2
     exact ⟨below_drewN hba nq, _, rfl, HT.out⟩
    ·have hnb : (n == 0) = false := beq_eq_false_iff_ne.2 hn
     rw [if_neg hn] at hR2
     subst hR2
     go_enter Tryz.func30, Tryz.ntmps30
     go_wp2_with fail
     go_quiet (fail)
     go_wp2_with fail
     go_ret2
     exact ⟨below_drewN hba nq, _, rfl⟩
   ·have hR2 := Key.rest_34 (f := f) (x := ⟨3, n, key⟩) (t := t) (.inl rfl)
    rw [HR.out] at hR2
    simp only at hR2
    clear HR
    by_cases hn : n < 0
    ·rw [if_neg (fun h => by omega)] at hR2
     subst hR2
     go_enter Tryz.func30, Tryz.ntmps30
     go_wp2_with fail
     go_ret2
     exact ⟨hba, _, rfl⟩
    by_cases hn2 : (t.length : Int) < n
    ·have hRn : R = none := by
      rw [hR2]
      split
      ·cases ht : Key.times (Key.rest f) n.toNat t with
       | none => rfl
       | some r => have := Key.times_len (Key.rest_len f) _ _ _ ht; omega
      ·rfl
     subst hRn
     clear hR2
     go_enter Tryz.func30, Tryz.ntmps30
     go_wp2_with fail
     go_ret2
     exact ⟨hba, _, rfl⟩
    cases key with
    | cons ch kt =>
     rw [if_neg (fun h => by cases h.2)] at hR2
     subst hR2
     go_enter Tryz.func30, Tryz.ntmps30
     go_wp2_with fail
     go_ret2
     exact ⟨hba, _, rfl⟩
    | nil =>
     rw [if_pos ⟨by omega, rfl⟩] at hR2
     have HR3 := Lib.hid hR2
     have hn3 : n ≤ (t.length : Int) := by omega
     have hnk : n.toNat ≤ 1000 := by omega
     have hz : n = ((n.toNat : Nat) : Int) := by omega
     generalize n.toNat = N at *
     subst hz
     clear hR2
     go_enter Tryz.func30, Tryz.ntmps30
     go_wp2_with fail
     generalize hW : w.alloc (.cells #[.int .i64 3, .int .i64 (N : Int), .string ⟨#[]⟩] 26) = W1 at *
     clear hW hsl m0 m1 m2 d0 d1 d2
     go_loopg [0, 5] N (fun gk v ok wr => ∃ (k : Nat) (tk : List Key.PlanE), k ≤ N ∧ ok = .bool true ∧ Aside (k + gk = N) ∧ Aside (PlanS w0 v tk) ∧ Aside (Key.times (Key.rest f) k t = some tk) ∧ Aside (Below w.heap.size w wr ∧ Bk wr w.heap.size 26 #[.int .i64 3, .int .i64 ((N : Int) - k), .string ⟨#[]⟩]))
     case atStart => exact ⟨0, t, by omega, rfl, by show _ = _; omega, HT.out, rfl, hba, by simpa using hk⟩
     case round =>
      clear hba hk
      obtain ⟨k, tk, hkN, rfl, AG, AP, AT, AB⟩ := hrel
      have m0 := AB.out.2.cell 0
      have m1 := AB.out.2.cell 1
      have m2 := AB.out.2.cell 2
      simp only [List.getElem?_toArray, List.getElem?_cons_zero, List.getElem?_cons_succ] at m0 m1 m2
      obtain ⟨Ak, ck, rfl, hck⟩ := AP.out.isSlice
      by_cases hlt : k < N
      ·obtain ⟨q, rfl⟩ : ∃ q, gk = q + 1 := ⟨gk - 1, by have := AG.out; omega⟩
       have htl := Key.times_len (Key.rest_len f) _ _ _ AT.out
       have hpos : (0 : Int) < (N : Int) - (k : Int) := by omega
       have HC := Lib.hid (IH.out tk (.slice Ak tk.length ck) wr (by omega) (by omega) (hb.trans (AB.out.1.mono hb.size)) AP.out)
       cases hrk : Key.rest f tk with
       | none =>
        have hRn : R = none := HR3.out.trans (Key.times_stop AT.out hrk hlt)
        subst hRn
        rw [hrk] at HC
        go_wp2_with (go_at_call 30; (with_reducible refine HC.out.mono ?_); rintro e w2 ⟨hb2, v2, rfl⟩)
        go_ret2
        exact ⟨AB.out.1.trans (hb2.mono AB.out.1.size), _, rfl⟩
       | some r =>
        have AT2 := Lib.hid (Key.times_step AT.out hrk)
        rw [hrk] at HC
        go_wp2_with (go_at_call 30; (with_reducible refine HC.out.mono ?_); rintro e w2 ⟨hb2, v2, rfl, hp2⟩; have hk2 := AB.out.2.below hb2; have x1 := hk2.cell 1; have xf := hk2.frozen 1; simp only [List.getElem?_toArray, List.getElem?_cons_zero, List.getElem?_cons_succ] at x1)
        go_roundg q
        case measure => omega
        case rel =>
         have hB2 := AB.out.1.trans (hb2.mono AB.out.1.size)
         refine ⟨k + 1, r, by omega, rfl, by have := AG.out; show _ = _; omega, hp2, AT2.out, hB2.setCell (Nat.le_refl _) _, ?_⟩
         rw [show (N : Int) - (k : Int) - 1 = (N : Int) - ((k + 1 : Nat) : Int) by omega]
         exact hk2.set 1 _
      ·obtain rfl : k = N := by omega
       have hRs : R = some tk := HR3.out.trans AT.out
       subst hRs
       go_wp2_with fail
       go_ret2
       exact ⟨AB.out.1, _, rfl, AP.out⟩
   ·have hR2 := Key.rest_34 (f := f) (x := ⟨4, n, key⟩) (t := t) (.inr rfl)
    rw [HR.out] at hR2
    simp only at hR2
    clear HR
    by_cases hn : n < 0
    ·rw [if_neg (fun h => by omega)] at hR2
     subst hR2
     go_enter Tryz.func30, Tryz.ntmps30
     go_wp2_with fail
     go_ret2
     exact ⟨hba, _, rfl⟩
    by_cases hn2 : (t.length : Int) < n
    ·have hRn : R = none := by
      rw [hR2]
      split
      ·cases ht : Key.times (Key.rest f) n.toNat t with
       | none => rfl
       | some r => have := Key.times_len (Key.rest_len f) _ _ _ ht; omega
      ·rfl
     subst hRn
     clear hR2
     go_enter Tryz.func30, Tryz.ntmps30
     go_wp2_with fail
     go_ret2
     exact ⟨hba, _, rfl⟩
    cases key with
    | cons ch kt =>
     rw [if_neg (fun h => by cases h.2)] at hR2
     subst hR2
     go_enter Tryz.func30, Tryz.ntmps30
     go_wp2_with fail
     go_ret2
     exact ⟨hba, _, rfl⟩
    | nil =>
     rw [if_pos ⟨by omega, rfl⟩] at hR2
     have HR3 := Lib.hid hR2
     have hn3 : n ≤ (t.length : Int) := by omega
     have hnk : n.toNat ≤ 1000 := by omega
     have hz : n = ((n.toNat : Nat) : Int) := by omega
     generalize n.toNat = N at *
     subst hz
     clear hR2
     go_enter Tryz.func30, Tryz.ntmps30
     go_wp2_with fail
     generalize hW : w.alloc (.cells #[.int .i64 4, .int .i64 (N : Int), .string ⟨#[]⟩] 26) = W1 at *
     clear hW hsl m0 m1 m2 d0 d1 d2
     go_loopg [0, 5] N (fun gk v ok wr => ∃ (k : Nat) (tk : List Key.PlanE), k ≤ N ∧ ok = .bool true ∧ Aside (k + gk = N) ∧ Aside (PlanS w0 v tk) ∧ Aside (Key.times (Key.rest f) k t = some tk) ∧ Aside (Below w.heap.size w wr ∧ Bk wr w.heap.size 26 #[.int .i64 4, .int .i64 ((N : Int) - k), .string ⟨#[]⟩]))
     case atStart => exact ⟨0, t, by omega, rfl, by show _ = _; omega, HT.out, rfl, hba, by simpa using hk⟩
     case round =>
      clear hba hk
      obtain ⟨k, tk, hkN, rfl, AG, AP, AT, AB⟩ := hrel
      have m0 := AB.out.2.cell 0
      have m1 := AB.out.2.cell 1
      have m2 := AB.out.2.cell 2
      simp only [List.getElem?_toArray, List.getElem?_cons_zero, List.getElem?_cons_succ] at m0 m1 m2
      obtain ⟨Ak, ck, rfl, hck⟩ := AP.out.isSlice
      by_cases hlt : k < N
      ·obtain ⟨q, rfl⟩ : ∃ q, gk = q + 1 := ⟨gk - 1, by have := AG.out; omega⟩
       have htl := Key.times_len (Key.rest_len f) _ _ _ AT.out
       have hpos : (0 : Int) < (N : Int) - (k : Int) := by omega
       have HC := Lib.hid (IH.out tk (.slice Ak tk.length ck) wr (by omega) (by omega) (hb.trans (AB.out.1.mono hb.size)) AP.out)
       cases hrk : Key.rest f tk with
       | none =>
        have hRn : R = none := HR3.out.trans (Key.times_stop AT.out hrk hlt)
        subst hRn
        rw [hrk] at HC
        go_wp2_with (go_at_call 30; (with_reducible refine HC.out.mono ?_); rintro e w2 ⟨hb2, v2, rfl⟩)
        go_ret2
        exact ⟨AB.out.1.trans (hb2.mono AB.out.1.size), _, rfl⟩
       | some r =>
        have AT2 := Lib.hid (Key.times_step AT.out hrk)
        rw [hrk] at HC
        go_wp2_with (go_at_call 30; (with_reducible refine HC.out.mono ?_); rintro e w2 ⟨hb2, v2, rfl, hp2⟩; have hk2 := AB.out.2.below hb2; have x1 := hk2.cell 1; have xf := hk2.frozen 1; simp only [List.getElem?_toArray, List.getElem?_cons_zero, List.getElem?_cons_succ] at x1)
        go_roundg q
        case measure => omega
        case rel =>
         have hB2 := AB.out.1.trans (hb2.mono AB.out.1.size)
         refine ⟨k + 1, r, by omega, rfl, by have := AG.out; show _ = _; omega, hp2, AT2.out, hB2.setCell (Nat.le_refl _) _, ?_⟩
         rw [show (N : Int) - (k : Int) - 1 = (N : Int) - ((k + 1 : Nat) : Int) by omega]
         exact hk2.set 1 _
      ·obtain rfl : k = N := by omega
       have hRs : R = some tk := HR3.out.trans AT.out
       subst hRs
       go_wp2_with fail
       go_ret2
       exact ⟨AB.out.1, _, rfl, AP.out⟩
   ·have hR2 := Key.rest_no (f := f) (x := ⟨op, n, key⟩) (t := t) hno
    rw [HR.out] at hR2
    subst hR2
    clear HR IH
    have b0 : (op == 0) = false := beq_eq_false_iff_ne.2 n0
    have b1 : (op == 1) = false := beq_eq_false_iff_ne.2 n1
    have b2 : (op == 2) = false := beq_eq_false_iff_ne.2 n2
    have b3 : (op == 3) = false := beq_eq_false_iff_ne.2 n3
    have b4 : (op == 4) = false := beq_eq_false_iff_ne.2 n4
    go_enter Tryz.func30, Tryz.ntmps30
    go_wp2_with fail
    go_ret2
    exact ⟨hba, _, rfl⟩
set_option maxRecDepth 100000 in
theorem valid14_c (p : List Key.PlanE) (v : Value) (w : World) (hl : p.length ≤ 1000) (hp : PlanS w v p) : Calls Tryz.prog 10 #[v] w fun e w' => e = .returned (.bool (Key.validB p)) ∧ Below w.heap.size w w' := by
 have HC := Lib.hid (whole_c w p.length p v w (Nat.le_refl _) hl (Below.refl _ _) hp)
 unfold Key.validB
 obtain ⟨A, c, rfl, hc⟩ := hp.isSlice
 clear hp
 generalize Key.rest p.length p = R at *
 cases R with
 | none =>
  go_enter Tryz.func10, Tryz.ntmps10
  go_wp2_with (go_at_call 30; (with_reducible refine HC.out.mono ?_); rintro e w2 ⟨hb2, v2, rfl⟩)
  go_ret
  exact ⟨rfl, hb2⟩
 | some r =>
  cases r with
  | nil =>
   go_enter Tryz.func10, Tryz.ntmps10
   go_wp2_with (go_at_call 30; (with_reducible refine HC.out.mono ?_); rintro e w2 ⟨hb2, v2, rfl, hp2⟩; obtain ⟨A2, c2, rfl, hc2⟩ := hp2.isSlice)
   go_ret
   exact ⟨rfl, hb2⟩
  | cons x t =>
   go_enter Tryz.func10, Tryz.ntmps10
   go_wp2_with (go_at_call 30; (with_reducible refine HC.out.mono ?_); rintro e w2 ⟨hb2, v2, rfl, hp2⟩; obtain ⟨A2, c2, rfl, hc2⟩ := hp2.isSlice; have hz : ((t.length : Int) + 1 == 0) = false := beq_eq_false_iff_ne.2 (by omega))
   go_ret
   exact ⟨retb (by simp), hb2⟩
open Go.ChangeShapes Go.WideShapes Go.ChangeAt Go.RowKit Go.Lib Go.Shelf Go.Deep Go.Joins
section
variable {H : Type} {enc : TypeId × Value → H} {W : World} {base : Nat} {fuel : Nat} {cs : List Value} {x : DataW H × List MemPlace}
theorem plans_open (h : DataW.trod enc Tryz.prog W base (fun _ => true) true fuel 22 cs = some x) : ∃ v l, cs = [v] ∧ PlanS W v l ∧ ∀ c, v = .slice none 0 c → c = 0 := by
 rcases open_slice Tryz.underlying22 h with ⟨rfl, rfl⟩ | ⟨a, len, cap, m, n, D, Pl, rfl, hb, hl, hm, hmm, rfl, hx⟩
 ·exact ⟨_, [], rfl, ⟨none, 0, rfl, Nat.le_refl _, fun j hj => absurd hj (by simp)⟩, fun c h => by cases h; rfl⟩
 simp only [if_true] at hmm
 subst hmm
 rw [show Tryz.prog.cellsOf 26 = 3 by kernel_rfl] at hx
 have each : ∀ i, i < m → ∃ r : Key.PlanE, W.cell? (a.add (i * 3)) = some (.int .i64 r.op) ∧ W.cell? ((a.add (i * 3)).add 1) = some (.int .i64 r.n) ∧ W.cell? ((a.add (i * 3)).add 2) = some (.string ⟨r.key.toArray⟩) := by
  intro i hi
  obtain ⟨cs', h1, h2⟩ := hx i hi
  obtain ⟨_, hlen, hcell⟩ := World.cells?_some h1
  obtain ⟨y0, y1, y2, k, hxy, _, u0, u1, u2⟩ := trod_struct3 Tryz.underlying26 h2
  obtain ⟨v0, v1, v2, rfl⟩ := list3 hlen
  simp only [show Tryz.prog.cellsOf 3 = 1 by kernel_rfl, show Tryz.prog.cellsOf 9 = 1 by kernel_rfl, List.drop, List.take] at u0 u1 u2
  obtain ⟨q, e0, d0, _⟩ := DataW.trod_int Tryz.underlying3 u0
  obtain ⟨q1, e1, d1, _⟩ := DataW.trod_int Tryz.underlying3 u1
  obtain ⟨⟨⟨s⟩⟩, e2, d2, _⟩ := DataW.trod_string Tryz.underlying9 u2
  simp only [List.cons.injEq, and_true] at e0 e1 e2
  subst e0; subst e1; subst e2
  have c0 := hcell 0 (by omega)
  have c1 := hcell 1 (by omega)
  have c2 := hcell 2 (by omega)
  exact ⟨⟨q, q1, s⟩, by simpa [Addr.add] using c0, by simpa using c1, by simpa using c2⟩
 obtain ⟨q, hq⟩ := choose_lt each
 refine ⟨_, (List.range len).map q, rfl, ⟨some a, m, by simp, by simp; omega, fun j hj => ?_⟩, fun c h => by cases h⟩
 have hj' : j < len := by simpa using hj
 obtain ⟨c0, c1, c2⟩ := hq j (by omega)
 have hsp : a.spot = none := by
  cases hs : a.spot with
  | none => rfl
  | some k =>
   have h1 := (hq 0 (by omega)).1
   unfold World.cell? Addr.add at h1
   simp [hs] at h1
   split at h1 <;> cases h1
 obtain ⟨b, o, sp⟩ := a
 subst hsp
 refine ⟨b, o, rfl, ?_, ?_, ?_⟩
 ·rw [add_at2] at c0; simpa using c0
 ·rw [add_at2, add_at2] at c1; simpa using c1
 ·rw [add_at2, add_at2] at c2; simpa using c2
end
theorem plans_arg {H : Type} {enc : TypeId × Value → H} {W : World} {base : Nat} {a0 : Option Addr} {len0 cap0 : Nat} {d : DataW H} {p : List MemPlace} (h : DataW.Trod enc Tryz.prog W base (fun _ => true) true 22 (.slice a0 len0 cap0) d p) :
  ∃ l, PlanS W (.slice a0 len0 cap0) l ∧ ∀ c, (Value.slice a0 len0 cap0) = .slice none 0 c → c = 0 := by
 obtain ⟨fuel, hf⟩ := h
 obtain ⟨v, l, hcs, h1, h2⟩ := plans_open hf
 have he : Value.slice a0 len0 cap0 = v := by simpa [Value.cells] using hcs
 rw [he]
 exact ⟨l, h1, h2⟩
theorem texts_arg {H : Type} {enc : TypeId × Value → H} {W : World} {base : Nat} {a0 : Option Addr} {len0 cap0 : Nat} {d : DataW H} {p : List MemPlace} (h : DataW.Trod enc Tryz.prog W base (fun _ => true) true 23 (.slice a0 len0 cap0) d p) :
  ∃ l, TextsA W (.slice a0 len0 cap0) l := by
 obtain ⟨fuel, hf⟩ := h
 obtain ⟨v, l, hcs, h1, h2⟩ := texts_opened hf
 have he : Value.slice a0 len0 cap0 = v := by simpa [Value.cells] using hcs
 rw [he]
 exact ⟨l, h1⟩
end Go.Proofs.YtkkbbhlihilnpaaGreatDoor
