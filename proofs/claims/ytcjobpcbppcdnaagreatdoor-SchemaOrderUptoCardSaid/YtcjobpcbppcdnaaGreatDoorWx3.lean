/- Contracts: names that are read; slices.IndexFunc, slices.ContainsFunc at the program's own functions. (Printed by gen_idx.py.) -/
import Derived.Test.YtcjobpcbppcdnaaGreatDoorWx2
import Derived.Recover
import Derived.Test.YtcjobpcbppcdnaaGreatDoorSort
import Derived.Sort.LotA
set_option linter.all false
namespace Go.Proofs.YtcjobpcbppcdnaaGreatDoor
open Go.RowKit

/-- A part as it reads. -/
def RdnR (w : World) (v : Value) (p : List (List UInt8 × List UInt8)) : Prop :=
  ∃ A c, v = .slice A p.length c ∧ p.length ≤ c ∧ (p = [] ∨ ∃ g o, A = some ⟨g, o, none⟩ ∧ g < w.heap.size ∧ ∀ j x, p[j]? = some x → w.cell? ⟨g, o + 2 * j, none⟩ = some (.string ⟨x.1.toArray⟩) ∧ w.cell? ⟨g, o + 2 * j + 1, none⟩ = some (.string ⟨x.2.toArray⟩))
/-- A name as it reads. -/
def DnR (w : World) (v : Value) (d : List (List (List UInt8 × List UInt8))) : Prop :=
  ∃ A c, v = .slice A d.length c ∧ d.length ≤ c ∧ (d = [] ∨ ∃ g o, A = some ⟨g, o, none⟩ ∧ g < w.heap.size ∧ ∀ j p, d[j]? = some p → ∃ pv, w.cell? ⟨g, o + j, none⟩ = some pv ∧ RdnR w pv p)
theorem RdnR.below {w w' : World} {v : Value} {p : List (List UInt8 × List UInt8)} (h : RdnR w v p) (hb : Below w.heap.size w w') : RdnR w' v p := by
  obtain ⟨A, c, rfl, hc, h⟩ := h
  refine ⟨A, c, rfl, hc, h.imp id ?_⟩
  rintro ⟨g, o, rfl, hg, hx⟩
  refine ⟨g, o, rfl, Nat.lt_of_lt_of_le hg hb.size, fun j x hj => ?_⟩
  rw [hb.cell (p := ⟨g, o + 2 * j, none⟩) hg, hb.cell (p := ⟨g, o + 2 * j + 1, none⟩) hg]
  exact hx j x hj
theorem DnR.below {w w' : World} {v : Value} {d : List (List (List UInt8 × List UInt8))} (h : DnR w v d) (hb : Below w.heap.size w w') : DnR w' v d := by
  obtain ⟨A, c, rfl, hc, h⟩ := h
  refine ⟨A, c, rfl, hc, h.imp id ?_⟩
  rintro ⟨g, o, rfl, hg, hx⟩
  refine ⟨g, o, rfl, Nat.lt_of_lt_of_le hg hb.size, fun j p hj => ?_⟩
  obtain ⟨pv, h1, h2⟩ := hx j p hj
  exact ⟨pv, (hb.cell (p := ⟨g, o + j, none⟩) hg).trans h1, h2.below hb⟩
theorem flat_get : ∀ (l : List (List UInt8 × List UInt8)) (j : Nat) (x : List UInt8 × List UInt8), l[j]? = some x → (l.flatMap avaCells)[2 * j]? = some (.string ⟨x.1.toArray⟩) ∧ (l.flatMap avaCells)[2 * j + 1]? = some (.string ⟨x.2.toArray⟩)
  | [], j, x, h => by simp at h
  | y :: l, 0, x, h => by
    simp at h; subst h
    simp [avaCells]
  | y :: l, j + 1, x, h => by
    have := flat_get l j x (by simpa using h)
    simp only [List.flatMap_cons, avaCells, List.cons_append, List.nil_append]
    rw [show 2 * (j + 1) = 2 * j + 1 + 1 by omega]
    simpa using this
theorem Avas.reads {B : Nat} {w : World} {v : Value} {p : List (List UInt8 × List UInt8)} (h : Avas B w v p) : RdnR w v p := by
  obtain ⟨⟨h1, h2⟩, h3⟩ := h
  rcases h2 with ⟨rfl, hn⟩ | ⟨g, cap, cur, rfl, r2, r3, r4, r5, r6, r7⟩
  · exact ⟨none, 0, by rw [hn], by omega, .inl (List.eq_nil_of_length_eq_zero hn)⟩
  · refine ⟨_, cap, rfl, r4, .inr ⟨g, 0, rfl, (Array.getElem?_eq_some_iff.1 r3).1, fun j x hj => ?_⟩⟩
    have hf := flat_get p j x hj
    have hjl : j < p.length := (List.getElem?_eq_some_iff.1 hj).1
    rw [← r7, List.getElem?_take, List.getElem?_take, if_pos (by omega), if_pos (by omega)] at hf
    simp only [World.cell?, r3, Nat.zero_add]
    simpa using hf
theorem DnAt.reads {B : Nat} {w : World} {v : Value} {d : List (List (List UInt8 × List UInt8))} (h : DnAt B w v d) : DnR w v d := by
  obtain ⟨vs, ⟨h1, h2⟩, h3, h4, h5⟩ := h
  rcases h2 with ⟨rfl, hn⟩ | ⟨g, cap, cur, rfl, r2, r3, r4, r5, r6, r7⟩
  · exact ⟨none, 0, by rw [hn], by omega, .inl (List.eq_nil_of_length_eq_zero hn)⟩
  · refine ⟨_, cap, rfl, r4, .inr ⟨g, 0, rfl, (Array.getElem?_eq_some_iff.1 r3).1, fun j p hj => ?_⟩⟩
    obtain ⟨pv, hv, hA⟩ := h4.get j p hj
    have hjl : j < d.length := (List.getElem?_eq_some_iff.1 hj).1
    rw [← r7, List.getElem?_take, if_pos (by omega)] at hv
    refine ⟨pv, ?_, hA.reads⟩
    simp only [World.cell?, r3, Nat.zero_add]
    simpa using hv

/-- A pair as a value. -/
def AvaE (_W : World) (ev : Value) (x : List UInt8 × List UInt8) : Prop := ev = avaV x

set_option maxRecDepth 10000 in
set_option maxHeartbeats 1000000 in
theorem avaLong_idx (p : List (List UInt8 × List UInt8)) (v : Value) (w : World) (hv : RdnR w v p) (hl : p.length ≤ 1000000) (P : (List UInt8 × List UInt8) → Bool)
    (hF : ∀ x ∈ p, ∀ W ev, Below w.heap.size w W → AvaE W ev x → Calls Tryz.prog 107 #[ev] W fun e W' => e = .returned (.bool (P x)) ∧ Below W.heap.size W W') :
    Calls Tryz.prog 117 #[v, .func (.func 107) #[] #[]] w fun e w' => (∃ i : Int, e = .returned (.int .i64 i) ∧ decide (0 ≤ i) = p.any P) ∧ Below w.heap.size w w' := by
  have HF := Lib.hid hF
  clear hF
  obtain ⟨A, c, rfl, hc, hx⟩ := hv
  go_enter Tryz.func117, Tryz.ntmps117
  go_wp2_with fail
  go_loopg [8] p.length (fun gk i wr => ∃ k : Nat, k ≤ p.length ∧ i = .int .i64 k ∧ Aside (k + gk = p.length) ∧ Below w.heap.size w wr ∧ Aside (p.any P = (p.drop k).any P))
  case atStart => exact ⟨0, by omega, rfl, by show _ = _; omega, Below.refl _ _, rfl⟩
  case round =>
    obtain ⟨k, hk, rfl, AG, hB, AS⟩ := hrel
    by_cases hlt : k < p.length
    · obtain ⟨q, rfl⟩ : ∃ q, gk = q + 1 := ⟨gk - 1, by have := AG.out; omega⟩
      obtain ⟨g, o, rfl, hg, hcells⟩ := hx.resolve_left (by intro h; rw [h] at hlt; simp at hlt)
      have hel := List.getElem?_eq_getElem hlt
      have AS' : Aside (p.any P = (P p[k] || (p.drop (k + 1)).any P)) := by have := AS.out; rw [List.drop_eq_getElem_cons hlt] at this; exact this
      have hc2 := hcells k p[k] hel
      have c0 : wr.cell? ⟨g, o + 2 * k, none⟩ = some (.string ⟨p[k].1.toArray⟩) := (hB.cell (p := ⟨g, o + 2 * k, none⟩) hg).trans hc2.1
      have c1 : wr.cell? ⟨g, o + 2 * k + 1, none⟩ = some (.string ⟨p[k].2.toArray⟩) := (hB.cell (p := ⟨g, o + 2 * k + 1, none⟩) hg).trans hc2.2
      have c0' : wr.cell? ⟨g, o + k * 2, none⟩ = some (.string ⟨p[k].1.toArray⟩) := by rw [Nat.mul_comm]; exact c0
      have c1' : wr.cell? ⟨g, o + k * 2 + 1, none⟩ = some (.string ⟨p[k].2.toArray⟩) := by rw [Nat.mul_comm]; exact c1
      have HC : Hid (∀ W, Below w.heap.size w W → Calls Tryz.prog 107 #[.agg #[.string ⟨p[k].1.toArray⟩, .string ⟨p[k].2.toArray⟩]] W fun e W' => e = .returned (.bool (P p[k])) ∧ Below W.heap.size W W') := fun W hW => HF.out p[k] (List.getElem_mem hlt) W _ hW rfl
      clear hcells hel AS
      cases hP : P p[k]
      · have HP := Lib.hid hP
        have HC' := HC.out
        rw [hP] at HC'
        have HC2 := Lib.hid HC'
        clear hP HC HC'
        go_wp2_with (go_at_call 107; refine (HC2.out _ hB).mono ?_; rintro e w2 ⟨rfl, hb2⟩)
        go_roundg q
        case measure => omega
        case rel => exact ⟨k + 1, by omega, by go_num, by have := AG.out; show _ = _; omega, hB.trans (hb2.mono hB.size), by have := AS'.out; rw [HP.out] at this; exact this⟩
      · have HP := Lib.hid hP
        have HC' := HC.out
        rw [hP] at HC'
        have HC2 := Lib.hid HC'
        clear hP HC HC'
        go_wp2_with (go_at_call 107; refine (HC2.out _ hB).mono ?_; rintro e w2 ⟨rfl, hb2⟩)
        go_ret
        exact ⟨⟨k, rfl, by rw [AS'.out, HP.out]; simp⟩, hB.trans (hb2.mono hB.size)⟩
    · obtain rfl : k = p.length := by omega
      have hs : p.any P = false := by have := AS.out; rw [List.drop_length] at this; exact this
      have Hs := Lib.hid hs
      clear hs AS
      go_wp2_with fail
      go_ret
      exact ⟨⟨-1, rfl, by rw [Hs.out]; rfl⟩, hB⟩
set_option maxHeartbeats 400000 in
theorem avaLong_any (p : List (List UInt8 × List UInt8)) (v : Value) (w : World) (hv : RdnR w v p) (hl : p.length ≤ 1000000) (P : (List UInt8 × List UInt8) → Bool)
    (hF : ∀ x ∈ p, ∀ W ev, Below w.heap.size w W → AvaE W ev x → Calls Tryz.prog 107 #[ev] W fun e W' => e = .returned (.bool (P x)) ∧ Below W.heap.size W W') :
    Calls Tryz.prog 73 #[v, .func (.func 107) #[] #[]] w fun e w' => e = .returned (.bool (p.any P)) ∧ Below w.heap.size w w' := by
  have hI := avaLong_idx p v w hv hl P hF
  obtain ⟨A, c, rfl, hc, hx⟩ := hv
  clear hF hx
  go_enter Tryz.func73, Tryz.ntmps73
  go_wp2_with (go_at_call 117; refine hI.mono ?_; rintro e w1 ⟨⟨i, rfl, hi⟩, hb1⟩; have Hi := Lib.hid hi; clear hi)
  all_goals
    go_ret
    exact ⟨retb (by rw [← Hi.out]), hb1⟩

set_option maxRecDepth 10000 in
set_option maxHeartbeats 1000000 in
theorem avaBad_idx (p : List (List UInt8 × List UInt8)) (v : Value) (w : World) (hv : RdnR w v p) (hl : p.length ≤ 1000000) (P : (List UInt8 × List UInt8) → Bool)
    (hF : ∀ x ∈ p, ∀ W ev, Below w.heap.size w W → AvaE W ev x → Calls Tryz.prog 74 #[ev] W fun e W' => e = .returned (.bool (P x)) ∧ Below W.heap.size W W') :
    Calls Tryz.prog 117 #[v, .func (.func 74) #[] #[]] w fun e w' => (∃ i : Int, e = .returned (.int .i64 i) ∧ decide (0 ≤ i) = p.any P) ∧ Below w.heap.size w w' := by
  have HF := Lib.hid hF
  clear hF
  obtain ⟨A, c, rfl, hc, hx⟩ := hv
  go_enter Tryz.func117, Tryz.ntmps117
  go_wp2_with fail
  go_loopg [8] p.length (fun gk i wr => ∃ k : Nat, k ≤ p.length ∧ i = .int .i64 k ∧ Aside (k + gk = p.length) ∧ Below w.heap.size w wr ∧ Aside (p.any P = (p.drop k).any P))
  case atStart => exact ⟨0, by omega, rfl, by show _ = _; omega, Below.refl _ _, rfl⟩
  case round =>
    obtain ⟨k, hk, rfl, AG, hB, AS⟩ := hrel
    by_cases hlt : k < p.length
    · obtain ⟨q, rfl⟩ : ∃ q, gk = q + 1 := ⟨gk - 1, by have := AG.out; omega⟩
      obtain ⟨g, o, rfl, hg, hcells⟩ := hx.resolve_left (by intro h; rw [h] at hlt; simp at hlt)
      have hel := List.getElem?_eq_getElem hlt
      have AS' : Aside (p.any P = (P p[k] || (p.drop (k + 1)).any P)) := by have := AS.out; rw [List.drop_eq_getElem_cons hlt] at this; exact this
      have hc2 := hcells k p[k] hel
      have c0 : wr.cell? ⟨g, o + 2 * k, none⟩ = some (.string ⟨p[k].1.toArray⟩) := (hB.cell (p := ⟨g, o + 2 * k, none⟩) hg).trans hc2.1
      have c1 : wr.cell? ⟨g, o + 2 * k + 1, none⟩ = some (.string ⟨p[k].2.toArray⟩) := (hB.cell (p := ⟨g, o + 2 * k + 1, none⟩) hg).trans hc2.2
      have c0' : wr.cell? ⟨g, o + k * 2, none⟩ = some (.string ⟨p[k].1.toArray⟩) := by rw [Nat.mul_comm]; exact c0
      have c1' : wr.cell? ⟨g, o + k * 2 + 1, none⟩ = some (.string ⟨p[k].2.toArray⟩) := by rw [Nat.mul_comm]; exact c1
      have HC : Hid (∀ W, Below w.heap.size w W → Calls Tryz.prog 74 #[.agg #[.string ⟨p[k].1.toArray⟩, .string ⟨p[k].2.toArray⟩]] W fun e W' => e = .returned (.bool (P p[k])) ∧ Below W.heap.size W W') := fun W hW => HF.out p[k] (List.getElem_mem hlt) W _ hW rfl
      clear hcells hel AS
      cases hP : P p[k]
      · have HP := Lib.hid hP
        have HC' := HC.out
        rw [hP] at HC'
        have HC2 := Lib.hid HC'
        clear hP HC HC'
        go_wp2_with (go_at_call 74; refine (HC2.out _ hB).mono ?_; rintro e w2 ⟨rfl, hb2⟩)
        go_roundg q
        case measure => omega
        case rel => exact ⟨k + 1, by omega, by go_num, by have := AG.out; show _ = _; omega, hB.trans (hb2.mono hB.size), by have := AS'.out; rw [HP.out] at this; exact this⟩
      · have HP := Lib.hid hP
        have HC' := HC.out
        rw [hP] at HC'
        have HC2 := Lib.hid HC'
        clear hP HC HC'
        go_wp2_with (go_at_call 74; refine (HC2.out _ hB).mono ?_; rintro e w2 ⟨rfl, hb2⟩)
        go_ret
        exact ⟨⟨k, rfl, by rw [AS'.out, HP.out]; simp⟩, hB.trans (hb2.mono hB.size)⟩
    · obtain rfl : k = p.length := by omega
      have hs : p.any P = false := by have := AS.out; rw [List.drop_length] at this; exact this
      have Hs := Lib.hid hs
      clear hs AS
      go_wp2_with fail
      go_ret
      exact ⟨⟨-1, rfl, by rw [Hs.out]; rfl⟩, hB⟩
set_option maxHeartbeats 400000 in
theorem avaBad_any (p : List (List UInt8 × List UInt8)) (v : Value) (w : World) (hv : RdnR w v p) (hl : p.length ≤ 1000000) (P : (List UInt8 × List UInt8) → Bool)
    (hF : ∀ x ∈ p, ∀ W ev, Below w.heap.size w W → AvaE W ev x → Calls Tryz.prog 74 #[ev] W fun e W' => e = .returned (.bool (P x)) ∧ Below W.heap.size W W') :
    Calls Tryz.prog 73 #[v, .func (.func 74) #[] #[]] w fun e w' => e = .returned (.bool (p.any P)) ∧ Below w.heap.size w w' := by
  have hI := avaBad_idx p v w hv hl P hF
  obtain ⟨A, c, rfl, hc, hx⟩ := hv
  clear hF hx
  go_enter Tryz.func73, Tryz.ntmps73
  go_wp2_with (go_at_call 117; refine hI.mono ?_; rintro e w1 ⟨⟨i, rfl, hi⟩, hb1⟩; have Hi := Lib.hid hi; clear hi)
  all_goals
    go_ret
    exact ⟨retb (by rw [← Hi.out]), hb1⟩

set_option maxRecDepth 10000 in
set_option maxHeartbeats 1000000 in
theorem rdnLong_idx (p : List (List (List UInt8 × List UInt8))) (v : Value) (w : World) (hv : DnR w v p) (hl : p.length ≤ 1000000) (P : (List (List UInt8 × List UInt8)) → Bool)
    (hF : ∀ x ∈ p, ∀ W ev, Below w.heap.size w W → RdnR W ev x → Calls Tryz.prog 106 #[ev] W fun e W' => e = .returned (.bool (P x)) ∧ Below W.heap.size W W') :
    Calls Tryz.prog 139 #[v, .func (.func 106) #[] #[]] w fun e w' => (∃ i : Int, e = .returned (.int .i64 i) ∧ decide (0 ≤ i) = p.any P) ∧ Below w.heap.size w w' := by
  have HF := Lib.hid hF
  clear hF
  obtain ⟨A, c, rfl, hc, hx⟩ := hv
  go_enter Tryz.func139, Tryz.ntmps139
  go_wp2_with fail
  go_loopg [8] p.length (fun gk i wr => ∃ k : Nat, k ≤ p.length ∧ i = .int .i64 k ∧ Aside (k + gk = p.length) ∧ Below w.heap.size w wr ∧ Aside (p.any P = (p.drop k).any P))
  case atStart => exact ⟨0, by omega, rfl, by show _ = _; omega, Below.refl _ _, rfl⟩
  case round =>
    obtain ⟨k, hk, rfl, AG, hB, AS⟩ := hrel
    by_cases hlt : k < p.length
    · obtain ⟨q, rfl⟩ : ∃ q, gk = q + 1 := ⟨gk - 1, by have := AG.out; omega⟩
      obtain ⟨g, o, rfl, hg, hcells⟩ := hx.resolve_left (by intro h; rw [h] at hlt; simp at hlt)
      have hel := List.getElem?_eq_getElem hlt
      have AS' : Aside (p.any P = (P p[k] || (p.drop (k + 1)).any P)) := by have := AS.out; rw [List.drop_eq_getElem_cons hlt] at this; exact this
      obtain ⟨pv, hp1, hp2⟩ := hcells k p[k] hel
      have c0 : wr.cell? ⟨g, o + k, none⟩ = some pv := (hB.cell (p := ⟨g, o + k, none⟩) hg).trans hp1
      have HC : Hid (∀ W, Below w.heap.size w W → Calls Tryz.prog 106 #[pv] W fun e W' => e = .returned (.bool (P p[k])) ∧ Below W.heap.size W W') := fun W hW => HF.out p[k] (List.getElem_mem hlt) W _ hW (hp2.below hW)
      clear hcells hel AS
      cases hP : P p[k]
      · have HP := Lib.hid hP
        have HC' := HC.out
        rw [hP] at HC'
        have HC2 := Lib.hid HC'
        clear hP HC HC'
        go_wp2_with (go_at_call 106; refine (HC2.out _ hB).mono ?_; rintro e w2 ⟨rfl, hb2⟩)
        go_roundg q
        case measure => omega
        case rel => exact ⟨k + 1, by omega, by go_num, by have := AG.out; show _ = _; omega, hB.trans (hb2.mono hB.size), by have := AS'.out; rw [HP.out] at this; exact this⟩
      · have HP := Lib.hid hP
        have HC' := HC.out
        rw [hP] at HC'
        have HC2 := Lib.hid HC'
        clear hP HC HC'
        go_wp2_with (go_at_call 106; refine (HC2.out _ hB).mono ?_; rintro e w2 ⟨rfl, hb2⟩)
        go_ret
        exact ⟨⟨k, rfl, by rw [AS'.out, HP.out]; simp⟩, hB.trans (hb2.mono hB.size)⟩
    · obtain rfl : k = p.length := by omega
      have hs : p.any P = false := by have := AS.out; rw [List.drop_length] at this; exact this
      have Hs := Lib.hid hs
      clear hs AS
      go_wp2_with fail
      go_ret
      exact ⟨⟨-1, rfl, by rw [Hs.out]; rfl⟩, hB⟩
set_option maxHeartbeats 400000 in
theorem rdnLong_any (p : List (List (List UInt8 × List UInt8))) (v : Value) (w : World) (hv : DnR w v p) (hl : p.length ≤ 1000000) (P : (List (List UInt8 × List UInt8)) → Bool)
    (hF : ∀ x ∈ p, ∀ W ev, Below w.heap.size w W → RdnR W ev x → Calls Tryz.prog 106 #[ev] W fun e W' => e = .returned (.bool (P x)) ∧ Below W.heap.size W W') :
    Calls Tryz.prog 105 #[v, .func (.func 106) #[] #[]] w fun e w' => e = .returned (.bool (p.any P)) ∧ Below w.heap.size w w' := by
  have hI := rdnLong_idx p v w hv hl P hF
  obtain ⟨A, c, rfl, hc, hx⟩ := hv
  clear hF hx
  go_enter Tryz.func105, Tryz.ntmps105
  go_wp2_with (go_at_call 139; refine hI.mono ?_; rintro e w1 ⟨⟨i, rfl, hi⟩, hb1⟩; have Hi := Lib.hid hi; clear hi)
  all_goals
    go_ret
    exact ⟨retb (by rw [← Hi.out]), hb1⟩
end Go.Proofs.YtcjobpcbppcdnaaGreatDoor
/- Contracts: dn.tooLong. -/
namespace Go.Proofs.YtcjobpcbppcdnaaGreatDoor
open Go.RowKit

def avaLongB (x : List UInt8 × List UInt8) : Bool := decide (1024 < x.2.length)
def rdnLongB (p : List (List UInt8 × List UInt8)) : Bool := decide (4 < p.length) || p.any avaLongB
def tooLongL (d : List (List (List UInt8 × List UInt8))) : Bool := decide (20 < d.length) || d.any rdnLongB

set_option maxRecDepth 10000 in
theorem tooLong11_c (x : List UInt8 × List UInt8) (w : World) :
    Calls Tryz.prog 107 #[avaV x] w fun e w' => e = .returned (.bool (avaLongB x)) ∧ Below w.heap.size w w' := by
  obtain ⟨x1, x2⟩ := x
  show Calls Tryz.prog 107 #[.agg #[.string ⟨x1.toArray⟩, .string ⟨x2.toArray⟩]] w _
  go_enter Tryz.func107, Tryz.ntmps107
  go_wp2_with fail
  go_ret
  exact ⟨retb (by simp only [avaLongB]; exact decide_eq_decide.2 (by omega)), (Below.refl _ _).alloc (Nat.le_refl _) _⟩

set_option maxRecDepth 10000 in
theorem tooLong1_c (p : List (List UInt8 × List UInt8)) (v : Value) (w : World) (hv : RdnR w v p) (hl : p.length ≤ 1000000) :
    Calls Tryz.prog 106 #[v] w fun e w' => e = .returned (.bool (rdnLongB p)) ∧ Below w.heap.size w w' := by
  have hC := fun (W : World) (hB : Below w.heap.size w W) => avaLong_any p v W (hv.below hB) hl avaLongB (fun x _ W' ev _ (he : AvaE W' ev x) => by rw [he]; exact tooLong11_c x W')
  obtain ⟨A, c, rfl, hc, hx⟩ := hv
  clear hx
  by_cases h4 : 4 < p.length
  · have hR : rdnLongB p = true := by simp [rdnLongB, h4]
    rw [hR]
    clear hR hC
    generalize p.length = n at *
    go_enter Tryz.func106, Tryz.ntmps106
    go_wp2_with fail
    go_ret
    exact ⟨rfl, Below.refl _ _⟩
  · have hR : rdnLongB p = p.any avaLongB := by simp [rdnLongB, h4]
    rw [hR]
    clear hR
    generalize p.length = n at *
    generalize p.any avaLongB = R at *
    have hz : decide ((4 : Int) < (n : Int)) = false := decide_eq_false (by omega)
    go_enter Tryz.func106, Tryz.ntmps106
    go_wp2_with (go_at_call 73; refine (hC _ (Below.refl _ _)).mono ?_; rintro e w2 ⟨rfl, hb2⟩)
    go_ret
    exact ⟨retb (by simp [hz]), hb2⟩

set_option maxRecDepth 10000 in
theorem tooLong_c (d : List (List (List UInt8 × List UInt8))) (v : Value) (w : World) (hv : DnR w v d) (hl : d.length ≤ 1000000) (hl2 : ∀ p ∈ d, p.length ≤ 1000000) :
    Calls Tryz.prog 65 #[v] w fun e w' => e = .returned (.bool (tooLongL d)) ∧ Below w.heap.size w w' := by
  have hC := fun (W : World) (hB : Below w.heap.size w W) => rdnLong_any d v W (hv.below hB) hl rdnLongB (fun x hx W' ev _ (he : RdnR W' ev x) => tooLong1_c x ev W' he (hl2 x hx))
  obtain ⟨A, c, rfl, hc, hx⟩ := hv
  clear hx hl2
  by_cases h4 : 20 < d.length
  · have hR : tooLongL d = true := by simp [tooLongL, h4]
    rw [hR]
    clear hR hC
    generalize d.length = n at *
    go_enter Tryz.func65, Tryz.ntmps65
    go_wp2_with fail
    go_ret
    exact ⟨rfl, Below.refl _ _⟩
  · have hR : tooLongL d = d.any rdnLongB := by simp [tooLongL, h4]
    rw [hR]
    clear hR
    generalize d.length = n at *
    generalize d.any rdnLongB = R at *
    have hz : decide ((20 : Int) < (n : Int)) = false := decide_eq_false (by omega)
    go_enter Tryz.func65, Tryz.ntmps65
    go_wp2_with (go_at_call 105; refine (hC _ (Below.refl _ _)).mono ?_; rintro e w2 ⟨rfl, hb2⟩)
    go_ret
    exact ⟨retb (by simp [hz]), hb2⟩
end Go.Proofs.YtcjobpcbppcdnaaGreatDoor
/- Contracts: dn.Parse. -/
namespace Go.Proofs.YtcjobpcbppcdnaaGreatDoor
open Go.RowKit

def caught : List PanicEntry := [{ v := .iface 28 (.int .i64 30), recovered := true }]

set_option maxRecDepth 10000 in
theorem parse1_panicking (g h : Nat) (w : World) (v1 v2 : Value) (hc1 : w.cell? ⟨g, 0, none⟩ = some v1) (hc2 : w.cell? ⟨h, 0, none⟩ = some v2) (hz1 : w.frozen? ⟨g, 0, none⟩ = false) (hz2 : w.frozen? ⟨h, 0, none⟩ = false) (hne : g ≠ h) :
    CallsD Tryz.prog 63 #[.pointer (some ⟨g, 0, none⟩), .pointer (some ⟨h, 0, none⟩)] (.panicking dnPanic) w fun e u' w' =>
      e = .returned (.tuple #[]) ∧ u' = .panicking caught ∧ w' = (w.setCell ⟨g, 0, none⟩ (.slice none 0 0)).setCell ⟨h, 0, none⟩ (.int .i64 30) := by
  refine callsD_of_wpS Tryz.func63 rfl fun c₀ cs hu => ?_
  apply wpS_seq
  apply wpS_region
  simp [wpOpsS, go_sem, recoverD, hu, dnPanic, Tryz.ntmps63, Exit.thenS]
  refine wpS_of_wp ?_
  have hrep : (Array.replicate 15 undef : Array Value) = #[undef, undef, undef, undef, undef, undef, undef, undef, undef, undef, undef, undef, undef, undef, undef] := rfl
  simp only [hrep, List.setIfInBounds_toArray, List.append_toArray, List.cons_append, List.nil_append, List.set_cons_zero, List.set_cons_succ]
  have hta : ∀ W : World, (Instr.typeAssert (.iface 28 (.int .i64 30)) 20 28 true).run Tryz.prog W = .ok (.tuple #[.int .i64 30, .bool true]) W := fun W => by kernel_rfl
  have hc3 : (w.setCell ⟨g, 0, none⟩ (.slice none 0 0)).cell? ⟨h, 0, none⟩ = some v2 := by rw [show (w.setCell ⟨g, 0, none⟩ (.slice none 0 0)).cell? ⟨h, 0, none⟩ = w.cell? ⟨h, 0, none⟩ from World.cell?_of_block (Below.heap_setCell _ _ _ _ (Ne.symm hne))]; exact hc2
  have hz3 : (w.setCell ⟨g, 0, none⟩ (.slice none 0 0)).frozen? ⟨h, 0, none⟩ = false := (World.frozen?_setCell _ _ _ _).trans hz2
  go_wp2_with fail
  simp [bodyPostS, results, Tryz.results63, caught]

set_option maxRecDepth 10000 in
theorem parse1_idle (g h : Nat) (w : World) :
    CallsD Tryz.prog 63 #[.pointer (some ⟨g, 0, none⟩), .pointer (some ⟨h, 0, none⟩)] .returning w fun e u' w' => e = .returned (.tuple #[]) ∧ u' = .returning ∧ w' = w := by
  refine callsD_of_wpS Tryz.func63 rfl fun c₀ cs hu => ?_
  apply wpS_seq
  apply wpS_region
  simp [wpOpsS, go_sem, recoverD, hu, Tryz.ntmps63, Exit.thenS]
  refine wpS_of_wp ?_
  have hrep : (Array.replicate 15 undef : Array Value) = #[undef, undef, undef, undef, undef, undef, undef, undef, undef, undef, undef, undef, undef, undef, undef] := rfl
  simp only [hrep, List.setIfInBounds_toArray, List.append_toArray, List.cons_append, List.nil_append, List.set_cons_zero, List.set_cons_succ]
  go_wp2_with fail
  cases c₀
  simp_all [bodyPostS, results, Tryz.results63]

def parseL (s : List UInt8) : Int × List (List (List UInt8 × List UInt8)) :=
  if 65536 < s.length then (2, []) else match nameR s with
    | none => (30, [])
    | some d => if tooLongL d then (2, []) else (0, d)
def ParseRet (w : World) (r : Int × List (List (List UInt8 × List UInt8))) (e : Ending) (w' : World) : Prop :=
  Below w.heap.size w w' ∧ ∃ v, e = .returned (.tuple #[v, .int .i64 r.1]) ∧ DnAt w.heap.size w' v r.2

theorem off_new {w : World} (hw : Env w) {b : Nat} (hb : w.heap.size ≤ b) : Off b := by
  obtain ⟨⟨h1, h2⟩, m, hm⟩ := hw
  have l1 := World.block_lt_of_cell? _ _ (h1 0 (by decide))
  have l2 := World.block_lt_of_cell? _ _ (h2 0 (by decide)).1
  have l3 := World.block_lt_of_cell? _ _ hm
  refine ⟨?_, ?_, ?_⟩
  all_goals (intro e; subst e; simp at l1 l2 l3; omega)
theorem setCell_grown (w : World) (g i : Nat) (u : Value) : w.grownBy (w.setCell ⟨g, i, none⟩ u) (some g) :=
  ⟨rfl, rfl, rfl, by simp [World.setCell], fun k _ hne => Below.heap_setCell _ _ _ _ (by intro e; apply hne; rw [e])⟩
theorem DnAt.keep {B : Nat} {w w' : World} {v : Value} {d : List (List (List UInt8 × List UInt8))} (h : DnAt B w v d) {r : Option Nat} (hg : w.grownBy w' r) (hr : ∀ k, r = some k → k < B) : DnAt B w' v d := by
  obtain ⟨vs, h⟩ := h
  exact ⟨vs, h.keep hg hr⟩
theorem DnAt.lower {B B' : Nat} {w : World} {v : Value} {d : List (List (List UInt8 × List UInt8))} (h : DnAt B w v d) (hB : B' ≤ B) : DnAt B' w v d := by
  obtain ⟨vs, ⟨h0, h1⟩, h2, h3, h4⟩ := h
  refine ⟨vs, ⟨h0, h1.imp id ?_⟩, by omega, h3.imp fun _ _ _ hu => hu.lower hB, h4⟩
  rintro ⟨g, cap, cur, r1, r2, r3⟩
  exact ⟨g, cap, cur, r1, by omega, r3⟩
theorem DnAt.nil {w : World} : DnAt w.heap.size w (.slice none 0 0) [] := ⟨[], World.ownsRow_nil _ _ _ _, Nat.le_refl _, .nil, by simp⟩
theorem DnAt.isSlice {B : Nat} {w : World} {v : Value} {d : List (List (List UInt8 × List UInt8))} (h : DnAt B w v d) : ∃ A c, v = .slice A d.length c ∧ d.length ≤ c := by
  obtain ⟨A, c, rfl, hc, _⟩ := h.reads
  exact ⟨A, c, rfl, hc⟩

theorem partL_num : ∀ (n : Nat) (r r' : List UInt8) (acc l : List (List UInt8 × List UInt8)), partL n r acc = some (l, r') → l.length + r'.length ≤ acc.length + r.length
  | 0, r, r', acc, l, h => by
    rw [partL] at h
    split at h
    · cases h
    · cases h; exact Nat.le_refl _
  | n + 1, r, r', acc, l, h => by
    rw [partL] at h
    split at h
    · split at h
      · cases h
      · next x r2 hp =>
        have h1 := pairR_len hp
        have h2 := partL_num n r2 r' _ l h
        have h3 : r.tail.length ≤ r.length := by simp
        simp at h2
        omega
    · cases h; exact Nat.le_refl _
theorem partR_num {r r' : List UInt8} {l : List (List UInt8 × List UInt8)} (h : partR r = some (l, r')) : l.length ≤ r.length := by
  unfold partR at h
  split at h
  · cases h
  · next x r2 hp =>
    have h1 := pairR_len hp
    have h2 := partL_num _ _ _ _ _ h
    simp at h2
    omega
theorem nameL_num (m : Nat) : ∀ (n : Nat) (r r' : List UInt8) (acc l : List (List (List UInt8 × List UInt8))), r.length ≤ m → (∀ p ∈ acc, p.length ≤ m) → nameL n r acc = some (l, r') → l.length ≤ acc.length + r.length ∧ ∀ p ∈ l, p.length ≤ m
  | 0, r, r', acc, l, hr, ha, h => by
    rw [nameL] at h
    split at h
    · cases h
    · cases h; exact ⟨Nat.le_add_right _ _, ha⟩
  | n + 1, r, r', acc, l, hr, ha, h => by
    rw [nameL] at h
    split at h
    · split at h
      · cases h
      · next x r2 hp =>
        have h1 := partR_len hp
        have h0 := partR_num hp
        have h3 : r.tail.length ≤ r.length := by simp
        have h2 := nameL_num m n r2 r' _ l (by omega) (by intro p hp; simp at hp; rcases hp with hp | rfl; exact ha p hp; omega) h
        simp at h2
        exact ⟨by omega, h2.2⟩
    · cases h; exact ⟨Nat.le_add_right _ _, ha⟩
theorem nameR_len {s : List UInt8} {d : List (List (List UInt8 × List UInt8))} (h : nameR s = some d) : d.length ≤ s.length + 1 ∧ ∀ p ∈ d, p.length ≤ s.length := by
  unfold nameR at h
  split at h
  · cases h; simp
  · rcases hp : partR s with _ | ⟨p, r⟩
    · rw [hp] at h; cases h
    · rw [hp] at h
      have h1 := partR_len hp
      have h0 := partR_num hp
      simp only [nameGo] at h
      rcases hn : nameL r.length r [p] with _ | ⟨d', r'⟩
      · rw [hn] at h; cases h
      · rw [hn] at h
        simp only [nameFin] at h
        split at h
        · cases h
          have := nameL_num s.length _ _ _ _ _ (by omega) (by simpa using h0) hn
          simp at this
          exact ⟨by omega, this.2⟩
        · cases h
/-- The two results in their variables. -/
theorem parse_out {w W : World} {tmps : Array Value} {g h : Nat} {v : Value} {x : Int} {d : List (List (List UInt8 × List UInt8))} (hb : Below w.heap.size w W)
    (c1 : W.cell? ⟨g, 0, none⟩ = some v) (c2 : W.cell? ⟨h, 0, none⟩ = some (.int .i64 x)) (t2 : tmps[2]? = some (.pointer (some ⟨g, 0, none⟩))) (t3 : tmps[3]? = some (.pointer (some ⟨h, 0, none⟩)))
    (hd : DnAt w.heap.size W v d) : Leaves Tryz.prog Tryz.f33 tmps (ParseRet w (x, d)) [] .returning W := by
  have e2 : tmps[2]?.getD undef = .pointer (some ⟨g, 0, none⟩) := by rw [t2]; rfl
  have e3 : tmps[3]?.getD undef = .pointer (some ⟨h, 0, none⟩) := by rw [t3]; rfl
  refine ⟨.tuple #[v, .int .i64 x], ?_, hb, v, rfl, hd⟩
  simp [results, Tryz.results33, go_sem, e2, e3, c1, c2]

set_option maxRecDepth 100000 in
set_option maxHeartbeats 1000000 in
theorem Parse_c (s : List UInt8) (w : World) (hw : Env w) :
    Calls Tryz.prog 33 #[.string ⟨s.toArray⟩] w (ParseRet w (parseL s)) := by
  have hmf : ∀ (fn : Fn) (first cap : Array Value) (w : World), (Instr.makeFunc fn first cap).run Tryz.prog w = .ok (.func fn first cap) w := fun _ _ _ _ => rfl
  by_cases hlen : 65536 < s.length
  · have hR : parseL s = (2, []) := by unfold parseL; rw [if_pos hlen]
    rw [hR]
    clear hR
    go_enter_defers Tryz.func33, Tryz.ntmps33
    go_wp2_with fail
    have hb : Below w.heap.size w ((w.alloc (.cells #[.slice none 0 0] 64)).alloc (.cells #[.int .i64 2] 28)) :=
      ((Below.refl _ _).alloc (Nat.le_refl _) _).alloc (by simp) _
    refine parse_out (g := w.heap.size) (h := w.heap.size + 1) (v := .slice none 0 0) hb ?_ ?_ rfl rfl ?_
    · simp [go_sem]
    · simp [go_sem]
    · exact (DnAt.nil (w := w)).keep (grown_below hb none) (by simp)
  · have hb : Below w.heap.size w (((w.alloc (.cells #[.slice none 0 0] 64)).alloc (.cells #[.int .i64 0] 28)).alloc (.cells #[.string ⟨s.toArray⟩, .int .i64 0] 111)) :=
      (((Below.refl _ _).alloc (Nat.le_refl _) _).alloc (by simp) _).alloc (by simp; omega) _
    have hz : (zeroValue 111).run Tryz.prog ((w.alloc (.cells #[.slice none 0 0] 64)).alloc (.cells #[.int .i64 0] 28)) = .ok (.agg #[.string ⟨#[]⟩, .int .i64 0]) ((w.alloc (.cells #[.slice none 0 0] 64)).alloc (.cells #[.int .i64 0] 28)) := by kernel_rfl
    have k1 : Bk (((w.alloc (.cells #[.slice none 0 0] 64)).alloc (.cells #[.int .i64 0] 28)).alloc (.cells #[.string ⟨s.toArray⟩, .int .i64 0] 111)) w.heap.size 64 #[.slice none 0 0] := ((Bk.new w _ _).alloc _).alloc _
    have k2 : Bk (((w.alloc (.cells #[.slice none 0 0] 64)).alloc (.cells #[.int .i64 0] 28)).alloc (.cells #[.string ⟨s.toArray⟩, .int .i64 0] 111)) (w.heap.size + 1) 28 #[.int .i64 0] := by
      have := Bk.new (w.alloc (.cells #[.slice none 0 0] 64)) 28 #[.int .i64 0]
      rw [show (w.alloc (.cells #[.slice none 0 0] 64)).heap.size = w.heap.size + 1 by simp] at this
      exact this.alloc _
    have k3 : RdAt (((w.alloc (.cells #[.slice none 0 0] 64)).alloc (.cells #[.int .i64 0] 28)).alloc (.cells #[.string ⟨s.toArray⟩, .int .i64 0] 111)) (w.heap.size + 1 + 1) s s := by
      refine ⟨0, Nat.zero_le _, rfl, ?_⟩
      have := Bk.new ((w.alloc (.cells #[.slice none 0 0] 64)).alloc (.cells #[.int .i64 0] 28)) 111 #[.string ⟨s.toArray⟩, .int .i64 0]
      rw [show ((w.alloc (.cells #[.slice none 0 0] 64)).alloc (.cells #[.int .i64 0] 28)).heap.size = w.heap.size + 1 + 1 by simp] at this
      exact this
    have hsz : (((w.alloc (.cells #[.slice none 0 0] 64)).alloc (.cells #[.int .i64 0] 28)).alloc (.cells #[.string ⟨s.toArray⟩, .int .i64 0] 111)).heap.size = w.heap.size + 3 := by simp
    have hN := rdname_c (w.heap.size + 1 + 1) s _ (hw.keep hb) (off_new hw (by omega)) k3 (by omega)
    go_enter_defers Tryz.func33, Tryz.ntmps33
    generalize hW : (((w.alloc (.cells #[.slice none 0 0] 64)).alloc (.cells #[.int .i64 0] 28)).alloc (.cells #[.string ⟨s.toArray⟩, .int .i64 0] 111)) = W at hb k1 k2 k3 hsz hN
    rcases hn : nameR s with _ | d
    · have hR : parseL s = (30, []) := by unfold parseL; rw [if_neg hlen, hn]
      rw [hn] at hN
      rw [hR]
      clear hR hn
      go_wp2_with (go_at_call 64; rw [hW])
      refine hN.mono ?_
      rintro e w1 ⟨h1, rfl⟩
      show Leaves _ _ _ _ _ _ _
      refine leaves_cons (u := .panicking dnPanic) (fv := .func 63) (cap := #[.pointer (some ⟨w.heap.size, 0, none⟩), .pointer (some ⟨w.heap.size + 1, 0, none⟩)]) (dargs := #[]) (f := 63) (args := #[.pointer (some ⟨w.heap.size, 0, none⟩), .pointer (some ⟨w.heap.size + 1, 0, none⟩)]) (by simp) (by simp [go_sem]) ?_
      have j1 := k1.grown h1 (by simp <;> omega)
      have j2 := k2.grown h1 (by simp)
      refine (parse1_panicking w.heap.size (w.heap.size + 1) w1 _ _ (j1.cell 0) (j2.cell 0) (j1.frozen 0) (j2.frozen 0) (by omega)).mono ?_
      rintro e u' w'' ⟨rfl, rfl, rfl⟩
      have b1 : Below w.heap.size w w1 := hb.grown h1 (by omega) (by simp <;> omega)
      have b2 : Below w.heap.size w ((w1.setCell ⟨w.heap.size, 0, none⟩ (.slice none 0 0)).setCell ⟨w.heap.size + 1, 0, none⟩ (.int .i64 30)) := (b1.setCell (Nat.le_refl _) _).setCell (by simp) _
      have l1 := (j1.set 0 (.slice none 0 0)).far (g' := w.heap.size + 1) (i := 0) (by omega) (.int .i64 30)
      have l2 := (j2.far (g' := w.heap.size) (i := 0) (by omega) (.slice none 0 0)).set 0 (.int .i64 30)
      exact parse_out b2 (l1.cell 0) (l2.cell 0) rfl rfl ((DnAt.nil (w := w)).keep (grown_below b2 none) (by simp))
    · have hdl := nameR_len hn
      rw [hn] at hN
      cases hT : tooLongL d
      · have hR : parseL s = (0, d) := by unfold parseL; rw [if_neg hlen, hn]; simp [hT]
        rw [hR]
        clear hR hn
        go_wp2_with (go_at_call 64; rw [hW])
        refine hN.mono ?_
        rintro e w1 ⟨h1, v, rfl, hd⟩
        obtain ⟨A, c, rfl, hc⟩ := hd.isSlice
        have hT2 := tooLong_c d _ w1 hd.reads (by omega) (fun p hp => by have := hdl.2 p hp; omega)
        rw [hT] at hT2
        have j1 := k1.grown h1 (by simp <;> omega)
        have j2 := k2.grown h1 (by simp)
        have b1 : Below w.heap.size w w1 := hb.grown h1 (by omega) (by simp <;> omega)
        go_wp2_with (go_at_call 65; refine hT2.mono ?_; rintro e w2 ⟨rfl, hb2⟩; have i1 := j1.below hb2; have i2 := j2.below hb2; have f1 := i1.frozen 0; have f2 := i2.frozen 0; have f3 := (i2.far (g' := w.heap.size) (i := 0) (by omega) (.slice A d.length c)).frozen 0; have d1 := i1.cell 0; have d2 := i2.cell 0; have d3 := (i2.far (g' := w.heap.size) (i := 0) (by omega) (.slice A d.length c)).cell 0)
        refine leaves_cons (u := .returning) (fv := .func 63) (cap := #[.pointer (some ⟨w.heap.size, 0, none⟩), .pointer (some ⟨w.heap.size + 1, 0, none⟩)]) (dargs := #[]) (f := 63) (args := #[.pointer (some ⟨w.heap.size, 0, none⟩), .pointer (some ⟨w.heap.size + 1, 0, none⟩)]) (by simp) (by simp [go_sem]) ?_
        refine (parse1_idle w.heap.size (w.heap.size + 1) _).mono ?_
        rintro e u' w'' ⟨rfl, rfl, rfl⟩
        have b2 : Below w.heap.size w w2 := b1.trans (hb2.mono b1.size)
        have b3 : Below w.heap.size w ((w2.setCell ⟨w.heap.size, 0, none⟩ (.slice A d.length c)).setCell ⟨w.heap.size + 1, 0, none⟩ (.int .i64 0)) := (b2.setCell (Nat.le_refl _) _).setCell (by simp) _
        have l1 := (i1.set 0 (.slice A d.length c)).far (g' := w.heap.size + 1) (i := 0) (by omega) (.int .i64 0)
        have l2 := (i2.far (g' := w.heap.size) (i := 0) (by omega) (.slice A d.length c)).set 0 (.int .i64 0)
        exact parse_out b3 (l1.cell 0) (l2.cell 0) rfl rfl ((((hd.keep (grown_below hb2 none) (by simp)).keep (setCell_grown w2 w.heap.size 0 _) (by simp; omega)).keep (setCell_grown _ (w.heap.size + 1) 0 _) (by simp; omega)).lower (by omega))
      · have hR : parseL s = (2, []) := by unfold parseL; rw [if_neg hlen, hn]; simp [hT]
        rw [hR]
        clear hR hn
        go_wp2_with (go_at_call 64; rw [hW])
        refine hN.mono ?_
        rintro e w1 ⟨h1, v, rfl, hd⟩
        obtain ⟨A, c, rfl, hc⟩ := hd.isSlice
        have hT2 := tooLong_c d _ w1 hd.reads (by omega) (fun p hp => by have := hdl.2 p hp; omega)
        rw [hT] at hT2
        have j1 := k1.grown h1 (by simp <;> omega)
        have j2 := k2.grown h1 (by simp)
        have b1 : Below w.heap.size w w1 := hb.grown h1 (by omega) (by simp <;> omega)
        go_wp2_with (go_at_call 65; refine hT2.mono ?_; rintro e w2 ⟨rfl, hb2⟩; have i1 := j1.below hb2; have i2 := j2.below hb2; have f1 := i1.frozen 0; have f2 := i2.frozen 0; have f3 := (i2.far (g' := w.heap.size) (i := 0) (by omega) (.slice none 0 0)).frozen 0; have d1 := i1.cell 0; have d2 := i2.cell 0; have d3 := (i2.far (g' := w.heap.size) (i := 0) (by omega) (.slice none 0 0)).cell 0)
        refine leaves_cons (u := .returning) (fv := .func 63) (cap := #[.pointer (some ⟨w.heap.size, 0, none⟩), .pointer (some ⟨w.heap.size + 1, 0, none⟩)]) (dargs := #[]) (f := 63) (args := #[.pointer (some ⟨w.heap.size, 0, none⟩), .pointer (some ⟨w.heap.size + 1, 0, none⟩)]) (by simp) (by simp [go_sem]) ?_
        refine (parse1_idle w.heap.size (w.heap.size + 1) _).mono ?_
        rintro e u' w'' ⟨rfl, rfl, rfl⟩
        have b2 : Below w.heap.size w w2 := b1.trans (hb2.mono b1.size)
        have b3 : Below w.heap.size w ((w2.setCell ⟨w.heap.size, 0, none⟩ (.slice none 0 0)).setCell ⟨w.heap.size + 1, 0, none⟩ (.int .i64 2)) := (b2.setCell (Nat.le_refl _) _).setCell (by simp) _
        have l1 := (i1.set 0 (.slice none 0 0)).far (g' := w.heap.size + 1) (i := 0) (by omega) (.int .i64 2)
        have l2 := (i2.far (g' := w.heap.size) (i := 0) (by omega) (.slice none 0 0)).set 0 (.int .i64 2)
        exact parse_out b3 (l1.cell 0) (l2.cell 0) rfl rfl ((DnAt.nil (w := w)).keep (grown_below b3 none) (by simp))
end Go.Proofs.YtcjobpcbppcdnaaGreatDoor
/- Contracts: octet.Hex. -/
namespace Go.Proofs.YtcjobpcbppcdnaaGreatDoor
open Go.RowKit

def hexCs : List UInt8 := [48, 49, 50, 51, 52, 53, 54, 55, 56, 57, 97, 98, 99, 100, 101, 102]
def hexD (n : Nat) : UInt8 := hexCs.getD n 0
def hexL (l : List UInt8) : List UInt8 := l.flatMap fun c => [hexD (c.toNat / 16), hexD (c.toNat % 16)]
section
variable {ops : Array Oper} {o : Oper} {a : Act} {K : Act → World → Prop} {Q : Exit → Act → World → Prop} {E : Prop}
/-- At a step of a region that draws: an append to a row of the call's own (its head may be frozen). -/
theorem step_append_ownF {P : Program} {w : World} (hgd : o.guard = none) (s x : Operand) (t : TypeId)
    (ho : o.op = .call { callee := .builtin .append, args := #[s, x], argTypes := #[t, t] })
    (base : Nat) (e : TypeId) (i : TypeInfo) (z : Value) (size bytes : Nat) (ht : P.underlying t = some (.slice e)) (hi : P.info? e = some i) (hz : i.zero = some z)
    (hsize : i.size = size) (hby : i.bytes = bytes) (hzs : z.cells.size = size) (hsz : 0 < size)
    (v : Value) (n : Nat) (xs : List Value) (hs : a.eval s = v) (hown : w.ownsRowF base e size v n xs)
    (ad : Addr) (m c : Nat) (news : List Value) (hx : a.eval x = .slice (some ad) m c) (hl : news.length = m * size) (hnews : ∀ j u, news[j]? = some u → w.cell? (ad.add j) = some u) (h1 : ∀ u ∈ news, u.oneCell' = true)
    (h63 : n + m ≤ maxLen) (hbytes : (n + m) * bytes ≤ 140737488355328) (hbase : base ≤ w.heap.size)
    (h : ∀ v' w', w'.ownsRowF base e size v' (n + m) (xs ++ news) → w.grownBy w' v.ownBlock → K (a.put o.dst v') w') :
    if Region.wanted o (yielded ops a.tmps) = true then Oper.wp P o a w K Q else E := by
  have hw : Region.wanted o (yielded ops a.tmps) = true := by simp [Region.wanted, hgd]
  rw [if_pos hw]
  obtain ⟨v', w', hr, h2, h3, h4⟩ := run_append_ownF (P := P) w base t o.type e i z size bytes ht hi hz hsize hby hzs hsz v n xs hown ad m c news hl hnews h1 h63 hbytes hbase
  unfold Oper.wp execOp
  simp only [ho, resolve, invoke, builtin, Sem.run_bind, Sem.run_pure, Result.andThen_ok, List.map_toArray, List.map_cons, List.map_nil, hs, hx, hr]
  exact h v' w' h2 h3
/-- 'buf = append(buf, c, d)'. -/
theorem step_two (hgd : o.guard = none) (s x : Operand) (ho : o.op = .call { callee := .builtin .append, args := #[s, x], argTypes := #[26, 26] })
    {v : Value} {l : List UInt8} {W0 w0 : World} {c d : UInt8} (hs : a.eval s = v) (hb : Buf W0 w0 v l)
    (hx : a.eval x = .slice (some ⟨w0.heap.size, 0, none⟩) 2 2) (hlen : l.length + 2 ≤ 140737488355328)
    (h : ∀ v' w', Buf W0 w' v' (l ++ [c, d]) → w0.grownBy w' v.ownBlock → K (a.put o.dst v') w') :
    if Region.wanted o (yielded ops a.tmps) = true then Oper.wp Tryz.prog o a (w0.alloc (.cells #[.int .u8 c.toNat, .int .u8 d.toNat] 5)).drew K Q else E := by
  obtain ⟨i, h1, h2, h3, h4⟩ := infoByte
  have hb0 := (Buf.alloc hb (.cells #[.int .u8 c.toNat, .int .u8 d.toNat] 5)).drewN 1
  have hb' : Lib.OwnBuf W0.heap.size 5 v l.length (Lib.byteCells l) W0 (w0.alloc (.cells #[.int .u8 c.toNat, .int .u8 d.toNat] 5)).drew := hb0
  refine step_append_ownF hgd s x 26 ho W0.heap.size 5 i (.int .u8 0) 1 1 Tryz.underlying26 h1 h2 h3 h4 rfl (by decide) v _ _ hs hb'.1 ⟨w0.heap.size, 0, none⟩ 2 2 [.int .u8 c.toNat, .int .u8 d.toNat] hx rfl ?_ ?_ (by unfold maxLen; omega) (by omega) hb'.2.2 ?_
  · intro j u hj
    match j, hj with
    | 0, hj => simp at hj; subst hj; simp [Addr.add]
    | 1, hj => simp at hj; subst hj; simp [Addr.add]
    | (j + 2), hj => simp at hj
  · intro u hu; simp at hu; rcases hu with rfl | rfl <;> rfl
  · intro v' w' ho' hg
    refine h v' w' ?_ (World.grownBy.trans (World.grownBy_alloc _ _ _) ⟨hg.os, hg.tape, hg.output, hg.size, hg.block⟩)
    have hv := hb'.grown ho' hg
    unfold Buf
    simpa [Lib.byteCells] using hv
end
theorem and15_fin : ∀ c : Fin 256, bits BinOp.and IntKind.u8 (c.val : Int) 15 = ((c.val % 16 : Nat) : Int) := by decide +kernel
theorem and15 (c : UInt8) : bits BinOp.and IntKind.u8 (c.toNat : Int) 15 = ((c.toNat % 16 : Nat) : Int) := and15_fin ⟨c.toNat, UInt8.toNat_lt c⟩
theorem hexD_at (m : Int) (n : Nat) (h : m.toNat < hexCs.length) (e : m = (n : Int)) : hexCs[m.toNat] = hexD n := by
  subst e
  unfold hexD
  rw [List.getD_eq_getElem?_getD, List.getElem?_eq_getElem (by simpa using h)]
  simp
theorem hexL_snoc (l : List UInt8) (p : Nat) (h : p < l.length) : hexL (l.take (p + 1)) = hexL (l.take p) ++ [hexD (l[p].toNat / 16), hexD (l[p].toNat % 16)] := by
  rw [List.take_succ_eq_append_getElem h]
  unfold hexL
  rw [List.flatMap_append]
  rfl
set_option maxRecDepth 10000 in
set_option maxHeartbeats 1000000 in
theorem Hex_c (l : List UInt8) (w : World) (hl : l.length ≤ 1048576) :
    Calls Tryz.prog 119 #[.string ⟨l.toArray⟩] w fun e w' => e = .returned (.string ⟨(hexL l).toArray⟩) ∧ Below w.heap.size w w' := by
  have hget := ba_get
  go_enter Tryz.func119, Tryz.ntmps119
  go_wp2_with (at_make; refine buf_make rfl _ _ rfl (2 * l.length) _ rfl rfl (by simp) (by omega) ?_; intro w1 hb1)
  go_loopg [3, 11] l.length (fun gk v i wr => ∃ (p : Nat) (acc : List UInt8), p ≤ l.length ∧ i = .int .i64 p ∧ Aside (p + gk = l.length) ∧ Buf w wr v acc ∧ acc.length ≤ 2 * p ∧ Aside (acc = hexL (l.take p)))
  case atStart => exact ⟨0, [], by omega, rfl, by show _ = _; omega, hb1, by simp, rfl⟩
  case round =>
    obtain ⟨p, acc, hp, rfl, AG, hbuf, hacc, AU⟩ := hrel
    by_cases hlt : p < l.length
    · obtain ⟨q, rfl⟩ : ∃ q, gk = q + 1 := ⟨gk - 1, by have := AG.out; omega⟩
      have h8 := UInt8.toNat_lt l[p]
      have hk0 : (0 : Int) ≤ (p : Int) := by omega
      have hk1 : (p : Int) < (l.length : Int) := by omega
      have ha := and15 l[p]
      have ha2 : ((l[p].toNat % 16 : Nat) : Int) < 16 := by omega
      have ha3 : (0 : Int) ≤ ((l[p].toNat % 16 : Nat) : Int) := by omega
      have hd1 : (l[p].toNat : Int) / 16 < 16 := by omega
      have hd0 : (0 : Int) ≤ (l[p].toNat : Int) / 16 := by omega
      go_wp2_with fail
      go_region_held3 (fun _ => True) (trivial) ((refine step_two (by rfl) _ _ (by rfl) rfl hbuf rfl (by omega) ?_; intro v' w2 hb2 hg2))
      all_goals
        have e1 := hexD_at ((l[p].toNat : Int) / 16) (l[p].toNat / 16) (by show _ < 16; omega) (by omega)
        have e2 := hexD_at ((l[p].toNat : Int) % 16) (l[p].toNat % 16) (by show _ < 16; omega) (by omega)
        have hb3 : Buf w w2 v' (hexL (l.take (p + 1))) := by
          rw [hexL_snoc l p hlt, ← AU.out, ← e1, ← e2]
          exact hb2
        clear hb2 hg2 e1 e2
        go_wp2_with fail
        go_roundg q
        case measure => omega
        case rel =>
          exact ⟨p + 1, _, by omega, by go_num, by have := AG.out; show _ = _; omega, hb3, by rw [hexL_snoc l p hlt, ← AU.out]; simp; omega, rfl⟩
    · obtain rfl : p = l.length := by omega
      have hfin : acc = hexL l := by have := AU.out; rw [List.take_length] at this; exact this
      have Hf := Lib.hid hfin
      have hst := buf_string hbuf
      have hB := hbuf.below
      clear AU hfin
      go_wp2
      go_ret
      exact ⟨by rw [← Hf.out]; rfl, hB⟩
end Go.Proofs.YtcjobpcbppcdnaaGreatDoor
/- Contracts: dn.written. -/
namespace Go.Proofs.YtcjobpcbppcdnaaGreatDoor
open Go.RowKit

def escB (n p : Nat) (c : UInt8) : Bool := decide (0 ≤ Lib.indexByte specCs c) || ((p : Int) == 0 && ((c.toNat : Int) == 35 || (c.toNat : Int) == 32)) || ((p : Int) == (n : Int) - 1 && (c.toNat : Int) == 32)
/-- A byte of a value as it is written. -/
def wrB (n p : Nat) (c : UInt8) : List UInt8 := if (c.toNat : Int) == 0 then [92, 48, 48] else if escB n p c then [92, c] else [c]
def wrL (v : List UInt8) : Nat → List UInt8
  | 0 => []
  | p + 1 => wrL v p ++ wrB v.length p (v.getD p 0)
def writtenL (v : List UInt8) : List UInt8 := if Lib.validD v then wrL v v.length else 35 :: hexL v
theorem hexL_len (l : List UInt8) : (hexL l).length = 2 * l.length := by
  unfold hexL
  induction l with
  | nil => rfl
  | cons a t ih => simp only [List.flatMap_cons, List.length_append, ih, List.length_cons, List.length_nil]; omega
theorem wrB_len (n p : Nat) (c : UInt8) : (wrB n p c).length ≤ 3 := by unfold wrB; split; decide; split <;> simp
theorem wrL_len (v : List UInt8) : ∀ p, (wrL v p).length ≤ 3 * p
  | 0 => by simp [wrL]
  | p + 1 => by have := wrL_len v p; have := wrB_len v.length p (v.getD p 0); simp only [wrL, List.length_append]; omega
theorem wrL_at (v : List UInt8) (p : Nat) (h : p < v.length) (x : List UInt8) (hx : wrB v.length p v[p] = x) : wrL v (p + 1) = wrL v p ++ x := by
  rw [wrL, List.getD_eq_getElem?_getD, List.getElem?_eq_getElem h]
  exact congrArg _ hx

set_option maxRecDepth 10000 in
set_option maxHeartbeats 4000000 in
theorem written_c (l : List UInt8) (w : World) (hw : Env w) (hl : l.length ≤ 65536) :
    Calls Tryz.prog 75 #[.string ⟨l.toArray⟩] w fun e w' => e = .returned (.string ⟨(writtenL l).toArray⟩) ∧ Below w.heap.size w w' := by
  have hT := Text_c l w hw (by omega)
  have hxl : (hexL l).length = 2 * l.length := hexL_len l
  have hcat := fun w => run_string_add_lists (P := Tryz.prog) w [35] (hexL l) (by simp) (by omega)
  cases hV : Lib.validD l
  · have hR : writtenL l = 35 :: hexL l := by unfold writtenL; rw [hV]; rfl
    rw [hR]
    rw [hV] at hT
    clear hR hV
    go_enter Tryz.func75, Tryz.ntmps75
    go_wp2_with (first | (go_at_call 118; refine hT.mono ?_; rintro e w1 ⟨rfl, hb1⟩) | (go_at_call 119; refine (Hex_c l _ (by omega)).mono ?_; rintro e w2 ⟨rfl, hb2⟩))
    go_ret
    exact ⟨rfl, hb1.trans (hb2.mono hb1.size)⟩
  · have hR : writtenL l = wrL l l.length := by unfold writtenL; rw [hV]; rfl
    rw [hR]
    rw [hV] at hT
    clear hR hV hcat hxl
    have hget := ba_get
    go_enter Tryz.func75, Tryz.ntmps75
    go_wp2_with (go_at_call 118; refine hT.mono ?_; rintro e w1 ⟨rfl, hb1⟩)
    clear hT
    go_loopg [3, 14] l.length (fun gk v i wr => ∃ p : Nat, p ≤ l.length ∧ i = .int .i64 p ∧ Aside (p + gk = l.length) ∧ Buf w1 wr v (wrL l p))
    case atStart => exact ⟨0, by omega, rfl, by show _ = _; omega, Buf.nil w1⟩
    case round =>
      obtain ⟨p, hp, rfl, AG, hbuf⟩ := hrel
      have hacc := wrL_len l p
      by_cases hlt : p < l.length
      · obtain ⟨q, rfl⟩ : ∃ q, gk = q + 1 := ⟨gk - 1, by have := AG.out; omega⟩
        have hk0 : (0 : Int) ≤ (p : Int) := by omega
        have hk1 : (p : Int) < (l.length : Int) := by omega
        have HAT := Lib.hid (wrL_at l p hlt)
        have HIB := Lib.hid (fun w => IndexByte_c specCs l[p] w)
        cases hz : ((l[p].toNat : Int) == 0)
        · have hgen : ∀ e : Bool, escB l.length p l[p] = e → wrB l.length p l[p] = if e then [92, l[p]] else [l[p]] := by
            intro e he; unfold wrB; rw [hz, he]; rfl
          have HG := Lib.hid hgen
          clear hgen
          have HE := Lib.hid (show escB l.length p l[p] = (decide (0 ≤ Lib.indexByte specCs l[p]) || ((p : Int) == 0 && ((l[p].toNat : Int) == 35 || (l[p].toNat : Int) == 32)) || ((p : Int) == (l.length : Int) - 1 && (l[p].toNat : Int) == 32)) from rfl)
          generalize wrL l p = acc at hbuf hacc HAT
          generalize Lib.indexByte specCs l[p] = ib at HIB HE
          have hwr : IntKind.i64.wrap ((l.length : Int) - 1) = (l.length : Int) - 1 := IntWalk.i64_in _ (by omega)
          have hbN : ∀ n, Buf w1 (wr.drewN n) _ acc := fun n => hbuf.drewN n
          cases hib : decide (0 ≤ ib)
          · cases hp0 : ((p : Int) == 0)
            · cases hpl : ((p : Int) == (l.length : Int) - 1)
              · have hE := HE.out
                simp only [hib, hp0, hpl, Bool.false_and, Bool.and_false, Bool.true_and, Bool.or_false, Bool.false_or, Bool.true_or, Bool.or_true, Bool.and_true] at hE
                have hB := HG.out false hE
                have HB := Lib.hid hB
                clear hB hE
                go_wp2_with (first | (go_at_call 79; refine (HIB.out _).mono ?_; rintro e w3 ⟨rfl, rfl⟩) | (at_builtin; refine buf_byte (c := 92) rfl _ _ rfl rfl hbuf rfl (by omega) ?_; intro v2 w2 hb2 hg2) | (at_builtin; refine buf_byte (c := l[p]) rfl _ _ rfl rfl hbuf rfl (by omega) ?_; intro v3 w3 hb3 hg3))
                go_roundg q
                case measure => omega
                case rel => exact ⟨p + 1, by omega, by go_num, by have := AG.out; show _ = _; omega, by rw [HAT.out _ HB.out]; simpa using hb3⟩
              · cases h32 : ((l[p].toNat : Int) == 32)
                · have hE := HE.out
                  simp only [hib, hp0, hpl, h32, Bool.false_and, Bool.and_false, Bool.true_and, Bool.or_false, Bool.false_or, Bool.true_or, Bool.or_true, Bool.and_true] at hE
                  have hB := HG.out false hE
                  have HB := Lib.hid hB
                  clear hB hE
                  go_wp2_with (first | (go_at_call 79; refine (HIB.out _).mono ?_; rintro e w3 ⟨rfl, rfl⟩) | (at_builtin; refine buf_byte (c := 92) rfl _ _ rfl rfl hbuf rfl (by omega) ?_; intro v2 w2 hb2 hg2) | (at_builtin; refine buf_byte (c := l[p]) rfl _ _ rfl rfl hbuf rfl (by omega) ?_; intro v3 w3 hb3 hg3))
                  go_roundg q
                  case measure => omega
                  case rel => exact ⟨p + 1, by omega, by go_num, by have := AG.out; show _ = _; omega, by rw [HAT.out _ HB.out]; simpa using hb3⟩
                · have hE := HE.out
                  simp only [hib, hp0, hpl, h32, Bool.false_and, Bool.and_false, Bool.true_and, Bool.or_false, Bool.false_or, Bool.true_or, Bool.or_true, Bool.and_true] at hE
                  have hB := HG.out true hE
                  have HB := Lib.hid hB
                  clear hB hE
                  go_wp2_with (first | (go_at_call 79; refine (HIB.out _).mono ?_; rintro e w3 ⟨rfl, rfl⟩) | (at_builtin; refine buf_byte (c := 92) rfl _ _ rfl rfl hbuf rfl (by omega) ?_; intro v2 w2 hb2 hg2) | (at_builtin; refine buf_byte (c := l[p]) rfl _ _ rfl rfl hb2 rfl (by simp; omega) ?_; intro v3 w3 hb3 hg3))
                  go_roundg q
                  case measure => omega
                  case rel => exact ⟨p + 1, by omega, by go_num, by have := AG.out; show _ = _; omega, by rw [HAT.out _ HB.out]; simpa using hb3⟩
            · cases h32 : ((l[p].toNat : Int) == 32)
              · cases h35 : ((l[p].toNat : Int) == 35)
                · cases hpl : ((p : Int) == (l.length : Int) - 1)
                  · have hE := HE.out
                    simp only [hib, hp0, h35, h32, hpl, Bool.false_and, Bool.and_false, Bool.true_and, Bool.or_false, Bool.false_or, Bool.true_or, Bool.or_true, Bool.and_true] at hE
                    have hB := HG.out false hE
                    have HB := Lib.hid hB
                    clear hB hE
                    go_wp2_with (first | (go_at_call 79; refine (HIB.out _).mono ?_; rintro e w3 ⟨rfl, rfl⟩) | (at_builtin; refine buf_byte (c := 92) rfl _ _ rfl rfl hbuf rfl (by omega) ?_; intro v2 w2 hb2 hg2) | (at_builtin; refine buf_byte (c := l[p]) rfl _ _ rfl rfl hbuf rfl (by omega) ?_; intro v3 w3 hb3 hg3))
                    go_roundg q
                    case measure => omega
                    case rel => exact ⟨p + 1, by omega, by go_num, by have := AG.out; show _ = _; omega, by rw [HAT.out _ HB.out]; simpa using hb3⟩
                  · have hE := HE.out
                    simp only [hib, hp0, h35, h32, hpl, Bool.false_and, Bool.and_false, Bool.true_and, Bool.or_false, Bool.false_or, Bool.true_or, Bool.or_true, Bool.and_true] at hE
                    have hB := HG.out false hE
                    have HB := Lib.hid hB
                    clear hB hE
                    go_wp2_with (first | (go_at_call 79; refine (HIB.out _).mono ?_; rintro e w3 ⟨rfl, rfl⟩) | (at_builtin; refine buf_byte (c := 92) rfl _ _ rfl rfl hbuf rfl (by omega) ?_; intro v2 w2 hb2 hg2) | (at_builtin; refine buf_byte (c := l[p]) rfl _ _ rfl rfl hbuf rfl (by omega) ?_; intro v3 w3 hb3 hg3))
                    go_roundg q
                    case measure => omega
                    case rel => exact ⟨p + 1, by omega, by go_num, by have := AG.out; show _ = _; omega, by rw [HAT.out _ HB.out]; simpa using hb3⟩
                · have hE := HE.out
                  simp only [hib, hp0, h35, h32, Bool.false_and, Bool.and_false, Bool.true_and, Bool.or_false, Bool.false_or, Bool.true_or, Bool.or_true, Bool.and_true] at hE
                  have hB := HG.out true hE
                  have HB := Lib.hid hB
                  clear hB hE
                  go_wp2_with (first | (go_at_call 79; refine (HIB.out _).mono ?_; rintro e w3 ⟨rfl, rfl⟩) | (at_builtin; refine buf_byte (c := 92) rfl _ _ rfl rfl hbuf rfl (by omega) ?_; intro v2 w2 hb2 hg2) | (at_builtin; refine buf_byte (c := l[p]) rfl _ _ rfl rfl hb2 rfl (by simp; omega) ?_; intro v3 w3 hb3 hg3))
                  go_roundg q
                  case measure => omega
                  case rel => exact ⟨p + 1, by omega, by go_num, by have := AG.out; show _ = _; omega, by rw [HAT.out _ HB.out]; simpa using hb3⟩
              · cases h35 : ((l[p].toNat : Int) == 35)
                · have hE := HE.out
                  simp only [hib, hp0, h35, h32, Bool.false_and, Bool.and_false, Bool.true_and, Bool.or_false, Bool.false_or, Bool.true_or, Bool.or_true, Bool.and_true] at hE
                  have hB := HG.out true hE
                  have HB := Lib.hid hB
                  clear hB hE
                  go_wp2_with (first | (go_at_call 79; refine (HIB.out _).mono ?_; rintro e w3 ⟨rfl, rfl⟩) | (at_builtin; refine buf_byte (c := 92) rfl _ _ rfl rfl hbuf rfl (by omega) ?_; intro v2 w2 hb2 hg2) | (at_builtin; refine buf_byte (c := l[p]) rfl _ _ rfl rfl hb2 rfl (by simp; omega) ?_; intro v3 w3 hb3 hg3))
                  go_roundg q
                  case measure => omega
                  case rel => exact ⟨p + 1, by omega, by go_num, by have := AG.out; show _ = _; omega, by rw [HAT.out _ HB.out]; simpa using hb3⟩
                · have hE := HE.out
                  simp only [hib, hp0, h35, h32, Bool.false_and, Bool.and_false, Bool.true_and, Bool.or_false, Bool.false_or, Bool.true_or, Bool.or_true, Bool.and_true] at hE
                  have hB := HG.out true hE
                  have HB := Lib.hid hB
                  clear hB hE
                  go_wp2_with (first | (go_at_call 79; refine (HIB.out _).mono ?_; rintro e w3 ⟨rfl, rfl⟩) | (at_builtin; refine buf_byte (c := 92) rfl _ _ rfl rfl hbuf rfl (by omega) ?_; intro v2 w2 hb2 hg2) | (at_builtin; refine buf_byte (c := l[p]) rfl _ _ rfl rfl hb2 rfl (by simp; omega) ?_; intro v3 w3 hb3 hg3))
                  go_roundg q
                  case measure => omega
                  case rel => exact ⟨p + 1, by omega, by go_num, by have := AG.out; show _ = _; omega, by rw [HAT.out _ HB.out]; simpa using hb3⟩
          · have hE := HE.out
            simp only [hib, Bool.false_and, Bool.and_false, Bool.true_and, Bool.or_false, Bool.false_or, Bool.true_or, Bool.or_true, Bool.and_true] at hE
            have hB := HG.out true hE
            have HB := Lib.hid hB
            clear hB hE
            go_wp2_with (first | (go_at_call 79; refine (HIB.out _).mono ?_; rintro e w3 ⟨rfl, rfl⟩) | (at_builtin; refine buf_byte (c := 92) rfl _ _ rfl rfl hbuf rfl (by omega) ?_; intro v2 w2 hb2 hg2) | (at_builtin; refine buf_byte (c := l[p]) rfl _ _ rfl rfl hb2 rfl (by simp; omega) ?_; intro v3 w3 hb3 hg3))
            go_roundg q
            case measure => omega
            case rel => exact ⟨p + 1, by omega, by go_num, by have := AG.out; show _ = _; omega, by rw [HAT.out _ HB.out]; simpa using hb3⟩
        · have hB : wrB l.length p l[p] = [92, 48, 48] := by unfold wrB; rw [hz]; rfl
          have HB := Lib.hid hB
          clear hB
          generalize wrL l p = acc at hbuf hacc HAT
          go_wp2_with (at_builtin; refine buf_text (m := [92, 48, 48]) rfl _ _ rfl rfl hbuf rfl (by simp; omega) ?_; intro v2 w2 hb2 hg2)
          go_roundg q
          case measure => omega
          case rel => exact ⟨p + 1, by omega, by go_num, by have := AG.out; show _ = _; omega, by rw [HAT.out _ HB.out]; exact hb2⟩
      · obtain rfl : p = l.length := by omega
        have hst := buf_string hbuf
        have hB := hbuf.below
        go_wp2
        go_ret
        exact ⟨rfl, hb1.trans (hB.mono hb1.size)⟩
end Go.Proofs.YtcjobpcbppcdnaaGreatDoor
/- Contracts: strings.Join; dn.Print$1; what Print writes. -/
namespace Go.Proofs.YtcjobpcbppcdnaaGreatDoor
open Go.RowKit

theorem join_len (M : Nat) (sep : List UInt8) (hs : sep.length ≤ 1) : ∀ xs : List (List UInt8), (∀ x ∈ xs, x.length ≤ M) → (Lib.join xs sep).length ≤ xs.length * (M + 1)
  | [], _ => by simp [Lib.join_nil]
  | [x], h => by rw [Lib.join_one]; have := h x (by simp); simp; omega
  | x :: y :: t, h => by
    have ih := join_len M sep hs (y :: t) (fun z hz => h z (by simp [List.mem_cons.1 hz]))
    have hx := h x (by simp)
    have e : Lib.join (x :: y :: t) sep = x ++ sep ++ Lib.join (y :: t) sep := by simp [Lib.join, List.intercalate, List.intersperse]
    rw [e]
    simp only [List.length_append, List.length_cons] at ih ⊢
    rw [Nat.add_mul _ 1 (M + 1)]
    omega
theorem Join_c (xs : List (List UInt8)) (sep : List UInt8) (v : Value) (w : World) (hT : Texts w v xs) (hn : xs.length ≤ 1000000) (hl : (Lib.join xs sep).length ≤ 140737488355328) :
    Calls Tryz.prog 76 #[v, .string ⟨sep.toArray⟩] w fun e w' => e = .returned (.string ⟨(Lib.join xs sep).toArray⟩) ∧ Below w.heap.size w w' := by
  rcases hT with ⟨rfl, rfl⟩ | ⟨b, c, rfl, hc, hlt, hcell⟩
  · refine (Tryz.strings_Join_none none 0 ⟨sep.toArray⟩ w).mono ?_
    rintro e w' ⟨rfl, rfl⟩
    exact ⟨rfl, Below.refl _ _⟩
  · have e1 : (xs.map fun x => (⟨x.toArray⟩ : ByteArray)).map (·.data.toList) = xs := by rw [List.map_map]; exact (List.map_congr_left fun x _ => rfl).trans (List.map_id _)
    have h := Tryz.strings_Join b 0 c (xs.map fun x => ⟨x.toArray⟩) ⟨sep.toArray⟩ w (fun j x hj => by
      have hjl : j < xs.length := by simpa using (List.getElem?_eq_some_iff.1 hj).1
      rw [Nat.zero_add, hcell j hjl]
      simp [hjl] at hj
      rw [← hj]) hlt (by simp; omega) (by simpa using hc) (by rw [e1]; exact hl)
    rw [e1, List.length_map] at h
    exact h
def avaBadB (x : List UInt8 × List UInt8) : Bool := !isTypeL x.1
set_option maxRecDepth 10000 in
theorem Print1_c (x : List UInt8 × List UInt8) (w : World) (hw : Env w) (hl : x.1.length ≤ 1099511627776) :
    Calls Tryz.prog 74 #[avaV x] w fun e w' => e = .returned (.bool (avaBadB x)) ∧ Below w.heap.size w w' := by
  obtain ⟨x1, x2⟩ := x
  show Calls Tryz.prog 74 #[.agg #[.string ⟨x1.toArray⟩, .string ⟨x2.toArray⟩]] w _
  have hb : Below w.heap.size w (w.alloc (.cells #[.string ⟨x1.toArray⟩, .string ⟨x2.toArray⟩] 70)) := (Below.refl _ _).alloc (Nat.le_refl _) _
  have hI := IsType_c x1 _ (hw.keep hb) hl
  go_enter Tryz.func74, Tryz.ntmps74
  go_wp2_with (go_at_call 51; refine hI.mono ?_; rintro e w2 ⟨rfl, hb2⟩)
  go_ret
  exact ⟨rfl, hb.trans (hb2.mono hb.size)⟩
def partBad (p : List (List UInt8 × List UInt8)) : Bool := p.isEmpty || p.any avaBadB
def pairW (x : List UInt8 × List UInt8) : List UInt8 := x.1 ++ [61] ++ writtenL x.2
def partW (p : List (List UInt8 × List UInt8)) : List UInt8 := Lib.join (p.map pairW) [43]
def nameW (d : List (List (List UInt8 × List UInt8))) : List UInt8 := Lib.join (d.map partW) [44]
def printFin (s : List UInt8) : Int × List UInt8 := if 65536 < s.length then (2, []) else (0, s)
def printL (d : List (List (List UInt8 × List UInt8))) : Int × List UInt8 := if d.any partBad then (30, []) else if tooLongL d then (2, []) else printFin (nameW d)
theorem isTypeL_len {l : List UInt8} (h : isTypeL l = true) : l.length ≤ 64 := by
  unfold isTypeL at h
  split at h
  · cases h
  · simp_all
theorem writtenL_len (l : List UInt8) : (writtenL l).length ≤ 3 * l.length + 1 := by
  unfold writtenL
  split
  · have := wrL_len l l.length; omega
  · simp only [List.length_cons, hexL_len]; omega
/-- What is written stays small. -/
theorem good_len {d : List (List (List UInt8 × List UInt8))} (h1 : d.any partBad = false) (h2 : tooLongL d = false) :
    d.length ≤ 20 ∧ ∀ p ∈ d, p ≠ [] ∧ p.length ≤ 4 ∧ ∀ x ∈ p, x.1.length ≤ 64 ∧ x.2.length ≤ 1024 := by
  unfold tooLongL at h2
  simp only [Bool.or_eq_false_iff, decide_eq_false_iff_not, List.any_eq_false] at h1 h2
  refine ⟨by omega, fun p hp => ?_⟩
  have a1 := h1 p hp
  have a2 := h2.2 p hp
  simp only [partBad, rdnLongB, Bool.or_eq_true, decide_eq_true_eq, not_or, List.any_eq_true, not_exists, not_and] at a1 a2
  refine ⟨by intro e; subst e; exact a1.1 rfl, by omega, fun x hx => ?_⟩
  have b1 := a1.2 x hx
  have b2 := a2.2 x hx
  simp only [avaBadB, avaLongB, Bool.not_eq_true', decide_eq_true_eq] at b1 b2
  exact ⟨isTypeL_len (by simpa using b1), by omega⟩
theorem pairW_len {x : List UInt8 × List UInt8} (h1 : x.1.length ≤ 64) (h2 : x.2.length ≤ 1024) : (pairW x).length ≤ 3138 := by
  have := writtenL_len x.2
  simp only [pairW, List.length_append, List.length_cons, List.length_nil]
  omega
theorem partW_len {p : List (List UInt8 × List UInt8)} (hp : p.length ≤ 4) (h : ∀ x ∈ p, x.1.length ≤ 64 ∧ x.2.length ≤ 1024) : (partW p).length ≤ 12556 := by
  have := join_len 3138 [43] (by decide) (p.map pairW) (fun z hz => by obtain ⟨x, hx, rfl⟩ := List.mem_map.1 hz; exact pairW_len (h x hx).1 (h x hx).2)
  rw [List.length_map] at this
  unfold partW
  omega
end Go.Proofs.YtcjobpcbppcdnaaGreatDoor
/- Contracts: dn.Print. -/
namespace Go.Proofs.YtcjobpcbppcdnaaGreatDoor
open Go.RowKit

section
variable {ops : Array Oper} {o : Oper} {a : Act} {K : Act → World → Prop} {Q : Exit → Act → World → Prop} {E : Prop}
theorem step_append_own {P : Program} {w : World} (hgd : o.guard = none) (s x : Operand) (t : TypeId)
    (ho : o.op = .call { callee := .builtin .append, args := #[s, x], argTypes := #[t, t] })
    (base : Nat) (e : TypeId) (i : TypeInfo) (z : Value) (size bytes : Nat) (ht : P.underlying t = some (.slice e)) (hi : P.info? e = some i) (hz : i.zero = some z)
    (hsize : i.size = size) (hby : i.bytes = bytes) (hzs : z.cells.size = size) (hsz : 0 < size)
    (v : Value) (n : Nat) (xs : List Value) (hs : a.eval s = v) (hown : w.ownsRow base e size v n xs)
    (ad : Addr) (m c : Nat) (news : List Value) (hx : a.eval x = .slice (some ad) m c) (hl : news.length = m * size) (hnews : ∀ j u, news[j]? = some u → w.cell? (ad.add j) = some u) (h1 : ∀ u ∈ news, u.oneCell' = true)
    (h63 : n + m ≤ maxLen) (hbytes : (n + m) * bytes ≤ 140737488355328) (hbase : base ≤ w.heap.size)
    (h : ∀ v' w', w'.ownsRow base e size v' (n + m) (xs ++ news) → w.grownBy w' v.ownBlock → K (a.put o.dst v') w') :
    if Region.wanted o (yielded ops a.tmps) = true then Oper.wp P o a w K Q else E := by
  have hw : Region.wanted o (yielded ops a.tmps) = true := by simp [Region.wanted, hgd]
  rw [if_pos hw]
  obtain ⟨v', w', hr, h2, h3, h4⟩ := run_append_own (P := P) w base t o.type e i z size bytes ht hi hz hsize hby hzs hsz v n xs hown ad m c news hl hnews h1 h63 hbytes hbase
  unfold Oper.wp execOp
  simp only [ho, resolve, invoke, builtin, Sem.run_bind, Sem.run_pure, Result.andThen_ok, List.map_toArray, List.map_cons, List.map_nil, hs, hx, hr]
  exact h v' w' h2 h3
/-- 'l = append(l, s)' in a region that draws. -/
theorem step_strs_one (hgd : o.guard = none) (s x : Operand) (ho : o.op = .call { callee := .builtin .append, args := #[s, x], argTypes := #[22, 22] })
    {v : Value} {xs : List (List UInt8)} {W0 w0 : World} {c : List UInt8} (hs : a.eval s = v) (hb : Strs W0 w0 v xs)
    (hx : a.eval x = .slice (some ⟨w0.heap.size, 0, none⟩) 1 1) (hlen : xs.length < 4398046511104)
    (h : ∀ v' w', Strs W0 w' v' (xs ++ [c]) → w0.grownBy w' v.ownBlock → K (a.put o.dst v') w') :
    if Region.wanted o (yielded ops a.tmps) = true then Oper.wp Tryz.prog o a (w0.alloc (.cells #[.string ⟨c.toArray⟩] 9)).drew K Q else E := by
  obtain ⟨i, h1, h2, h3, h4⟩ := infoStr
  have hb0 := hb.alloc (.cells #[.string ⟨c.toArray⟩] 9)
  have hb' : Strs W0 (w0.alloc (.cells #[.string ⟨c.toArray⟩] 9)).drew v xs := ⟨hb0.1, hb0.2.1.drew, hb0.2.2⟩
  refine step_append_own hgd s x 22 ho W0.heap.size 9 i (.string ⟨#[]⟩) 1 16 Tryz.underlying22 h1 h2 h3 h4 rfl (by decide) v _ _ hs hb'.1 ⟨w0.heap.size, 0, none⟩ 1 1 [.string ⟨c.toArray⟩] hx rfl ?_ ?_ (by unfold maxLen; omega) (by omega) hb'.2.2 ?_
  · intro j u hj
    match j, hj with
    | 0, hj => simp at hj; subst hj; simp [Addr.add]
    | (j + 1), hj => simp at hj
  · intro u hu; simp at hu; subst hu; rfl
  · intro v' w' ho' hg
    refine h v' w' ?_ (World.grownBy.trans (World.grownBy_alloc _ _ _) ⟨hg.os, hg.tape, hg.output, hg.size, hg.block⟩)
    exact hb'.grown (by simpa [strV] using ho') hg
/-- 'l = append(l, s)' in a region that draws, at its end. -/
theorem step_strs_one0 (hgd : o.guard = none) (s x : Operand) (ho : o.op = .call { callee := .builtin .append, args := #[s, x], argTypes := #[22, 22] })
    {v : Value} {xs : List (List UInt8)} {W0 w0 : World} {c : List UInt8} (hs : a.eval s = v) (hb : Strs W0 w0 v xs)
    (hx : a.eval x = .slice (some ⟨w0.heap.size, 0, none⟩) 1 1) (hlen : xs.length < 4398046511104)
    (h : ∀ v' w', Strs W0 w' v' (xs ++ [c]) → w0.grownBy w' v.ownBlock → K (a.put o.dst v') w') :
    if Region.wanted o (yielded ops a.tmps) = true then Oper.wp Tryz.prog o a (w0.alloc (.cells #[.string ⟨c.toArray⟩] 9)) K Q else E := by
  obtain ⟨i, h1, h2, h3, h4⟩ := infoStr
  have hb0 := hb.alloc (.cells #[.string ⟨c.toArray⟩] 9)
  have hb' : Strs W0 (w0.alloc (.cells #[.string ⟨c.toArray⟩] 9)) v xs := hb0
  refine step_append_own hgd s x 22 ho W0.heap.size 9 i (.string ⟨#[]⟩) 1 16 Tryz.underlying22 h1 h2 h3 h4 rfl (by decide) v _ _ hs hb'.1 ⟨w0.heap.size, 0, none⟩ 1 1 [.string ⟨c.toArray⟩] hx rfl ?_ ?_ (by unfold maxLen; omega) (by omega) hb'.2.2 ?_
  · intro j u hj
    match j, hj with
    | 0, hj => simp at hj; subst hj; simp [Addr.add]
    | (j + 1), hj => simp at hj
  · intro u hu; simp at hu; subst hu; rfl
  · intro v' w' ho' hg
    refine h v' w' ?_ (World.grownBy.trans (World.grownBy_alloc _ _ _) ⟨hg.os, hg.tape, hg.output, hg.size, hg.block⟩)
    exact hb'.grown (by simpa [strV] using ho') hg
end

def intStr (r : Int × List UInt8) : Value := .tuple #[.string ⟨r.2.toArray⟩, .int .i64 r.1]
set_option maxRecDepth 100000 in
set_option maxHeartbeats 4000000 in
theorem Print_c (d : List (List (List UInt8 × List UInt8))) (v : Value) (w : World) (hw : Env w) (hv : DnR w v d) (hl : d.length ≤ 1000000) (hl2 : ∀ p ∈ d, p.length ≤ 1000000 ∧ ∀ x ∈ p, x.1.length ≤ 1000000) :
    Calls Tryz.prog 37 #[v] w fun e w' => e = .returned (intStr (printL d)) ∧ Below w.heap.size w w' := by
  have HV := Lib.hid hv
  have HC := Lib.hid (fun (p : List (List UInt8 × List UInt8)) (hp : p ∈ d) (pv : Value) (W : World) (hB : Below w.heap.size w W) (hr : RdnR W pv p) => avaBad_any p pv W hr (hl2 p hp).1 avaBadB (fun x hx W' ev hB' (he : AvaE W' ev x) => by rw [he]; exact Print1_c x W' ((hw.keep hB).keep hB') (by have := (hl2 p hp).2 x hx; omega)))
  have HT := Lib.hid (fun (W : World) (hB : Below w.heap.size w W) => tooLong_c d v W (hv.below hB) hl (fun p hp => (hl2 p hp).1))
  obtain ⟨A, c, rfl, hc, hx⟩ := hv
  have HX := Lib.hid hx
  clear hx hl2
  go_enter Tryz.func37, Tryz.ntmps37
  go_wp2_with fail
  go_loopg [15] d.length (fun gk i wr => ∃ k : Nat, k ≤ d.length ∧ i = .int .i64 k ∧ Aside (k + gk = d.length) ∧ Below w.heap.size w wr ∧ Aside (d.any partBad = (d.drop k).any partBad))
  case atStart => exact ⟨0, by omega, rfl, by show _ = _; omega, Below.refl _ _, rfl⟩
  case round =>
    obtain ⟨k, hk, rfl, AG, hB, AS⟩ := hrel
    by_cases hlt : k < d.length
    · obtain ⟨q, rfl⟩ : ∃ q, gk = q + 1 := ⟨gk - 1, by have := AG.out; omega⟩
      obtain ⟨g, o, rfl, hg, hcells⟩ := HX.out.resolve_left (by intro h; rw [h] at hlt; simp at hlt)
      obtain ⟨pv, hp1, hp2⟩ := hcells k d[k] (List.getElem?_eq_getElem hlt)
      have c0 : wr.cell? ⟨g, o + k, none⟩ = some pv := (hB.cell (p := ⟨g, o + k, none⟩) hg).trans hp1
      have AS' : Aside (d.any partBad = (partBad d[k] || (d.drop (k + 1)).any partBad)) := by have := AS.out; rw [List.drop_eq_getElem_cons hlt] at this; exact this
      have hC := HC.out d[k] (List.getElem_mem hlt) pv wr hB (hp2.below hB)
      obtain ⟨A2, c2, rfl, hc2, hx2⟩ := hp2
      clear hcells AS hx2 hp1
      by_cases he : d[k] = []
      · have hfin : printL d = (30, []) := by unfold printL; rw [AS'.out, he]; rfl
        have Hf := Lib.hid hfin
        have hlen0 : (d[k].length : Int) = 0 := by rw [he]; rfl
        clear hfin hC
        go_wp2_with fail
        all_goals
          go_ret2
          exact ⟨by rw [Hf.out]; rfl, hB⟩
      · have hne : ((d[k].length : Int) == 0) = false := by
          apply beq_eq_false_iff_ne.2
          intro h
          exact he (List.eq_nil_of_length_eq_zero (by omega))
        have hpb : partBad d[k] = d[k].any avaBadB := by
          unfold partBad
          cases hdk : d[k] with
          | nil => exact absurd hdk he
          | cons a t => rfl
        rw [hpb] at AS'
        clear hpb he
        cases hA : d[k].any avaBadB
        · rw [hA] at hC AS'
          clear hA
          generalize d[k].length = nk at hC hne c0 hc2
          go_wp2_with (go_at_call 73; refine hC.mono ?_; rintro e w2 ⟨rfl, hb2⟩)
          go_roundg q
          case measure => omega
          case rel => exact ⟨k + 1, by omega, by go_num, by have := AG.out; show _ = _; omega, hB.trans (hb2.mono hB.size), AS'.out⟩
        · rw [hA] at hC AS'
          have hfin : printL d = (30, []) := by unfold printL; rw [AS'.out]; rfl
          have Hf := Lib.hid hfin
          clear hfin hA
          generalize d[k].length = nk at hC hne c0 hc2
          go_wp2_with (go_at_call 73; refine hC.mono ?_; rintro e w2 ⟨rfl, hb2⟩)
          all_goals
            go_ret2
            exact ⟨by rw [Hf.out]; rfl, hB.trans (hb2.mono hB.size)⟩
    · obtain rfl : k = d.length := by omega
      have hs : d.any partBad = false := by have := AS.out; rw [List.drop_length] at this; exact this
      have hT := HT.out wr hB
      cases hTL : tooLongL d
      · obtain ⟨n20, hgood⟩ := good_len hs hTL
        have hfin : printL d = printFin (nameW d) := by unfold printL; rw [hs, hTL]; rfl
        have Hf := Lib.hid hfin
        have HG := Lib.hid hgood
        rw [hTL] at hT
        clear hfin hTL hs AS HC HT hgood
        go_wp2_with (go_at_call 65; refine hT.mono ?_; rintro e w1 ⟨rfl, hb1⟩)
        clear hT
        have hB1 : Below w.heap.size w w1 := hB.trans (hb1.mono hB.size)
        go_loopg [6, 31] d.length (fun gk ps i wr => ∃ k : Nat, k ≤ d.length ∧ i = .int .i64 k ∧ Aside (k + gk = d.length) ∧ Strs w1 wr ps ((d.take k).map partW))
        case atStart => exact ⟨0, by omega, rfl, by show _ = _; omega, by simpa using Strs.nil w1⟩
        case round =>
          obtain ⟨k, hk, rfl, AG2, hS⟩ := hrel
          have hSB := hS.below
          have hBr : Below w.heap.size w wr := hB1.trans (hSB.mono hB1.size)
          by_cases hlt : k < d.length
          · obtain ⟨q, rfl⟩ : ∃ q, gk = q + 1 := ⟨gk - 1, by have := AG2.out; omega⟩
            obtain ⟨g, o, rfl, hg, hcells⟩ := HX.out.resolve_left (by intro h; rw [h] at hlt; simp at hlt)
            obtain ⟨pv, hp1, hp2⟩ := hcells k d[k] (List.getElem?_eq_getElem hlt)
            have c0 : wr.cell? ⟨g, o + k, none⟩ = some pv := (hBr.cell (p := ⟨g, o + k, none⟩) hg).trans hp1
            obtain ⟨hpne, hp4, hpx⟩ := HG.out d[k] (List.getElem_mem hlt)
            have HSN := Lib.hid (show (d.take (k + 1)).map partW = (d.take k).map partW ++ [partW d[k]] by rw [List.take_succ_eq_append_getElem hlt, List.map_append]; rfl)
            have hpl := partW_len hp4 hpx
            generalize hP : d[k] = p at *
            generalize (d.take k).map partW = acc at hS HSN
            obtain ⟨A2, c2, rfl, hc2, hx2⟩ := hp2
            obtain ⟨g2, o2, rfl, hg2, hx3⟩ := hx2.resolve_left hpne
            have HX3 := Lib.hid hx3
            have HPX := Lib.hid hpx
            clear hcells hp1 hx3 hpx hP
            go_wp2_with fail
            obtain ⟨wo, hwo⟩ : ∃ wo, wo = wr := ⟨_, rfl⟩
            subst hwo
            go_loopg [9, 37] p.length (fun gk qs i wi => ∃ j : Nat, j ≤ p.length ∧ i = .int .i64 j ∧ Aside (j + gk = p.length) ∧ Strs wo wi qs ((p.take j).map pairW))
            case atStart => exact ⟨0, by omega, rfl, by show _ = _; omega, by simpa using Strs.nil wo⟩
            case round =>
              obtain ⟨j, hj, rfl, AG3, hQ⟩ := hrel
              have hQB := hQ.below
              have hBi : Below w.heap.size w wr := hBr.trans (hQB.mono hBr.size)
              by_cases hjl : j < p.length
              · obtain ⟨q2, rfl⟩ : ∃ q2, gk = q2 + 1 := ⟨gk - 1, by have := AG3.out; omega⟩
                have hx4 := HX3.out j p[j] (List.getElem?_eq_getElem hjl)
                have d0 : wr.cell? ⟨g2, o2 + j * 2, none⟩ = some (.string ⟨p[j].1.toArray⟩) := by rw [Nat.mul_comm]; exact (hBi.cell (p := ⟨g2, o2 + 2 * j, none⟩) hg2).trans hx4.1
                have d1 : wr.cell? ⟨g2, o2 + j * 2 + 1, none⟩ = some (.string ⟨p[j].2.toArray⟩) := by rw [Nat.mul_comm]; exact (hBi.cell (p := ⟨g2, o2 + 2 * j + 1, none⟩) hg2).trans hx4.2
                obtain ⟨x64, x1024⟩ := HPX.out p[j] (List.getElem_mem hjl)
                have HSN2 := Lib.hid (show (p.take (j + 1)).map pairW = (p.take j).map pairW ++ [p[j].1 ++ 61 :: writtenL p[j].2] by rw [List.take_succ_eq_append_getElem hjl, List.map_append]; simp [pairW])
                have hql : ((p.take j).map pairW).length ≤ 4 := by simp; omega
                generalize (p.take j).map pairW = acc2 at hQ HSN2 hql
                generalize p[j].1 = x1 at *
                generalize p[j].2 = x2 at *
                clear hx4
                have hcat1 := fun w => run_string_add_lists (P := Tryz.prog) w x1 [61] (by omega) (by simp)
                have hwl := writtenL_len x2
                have hcat2 := fun w => run_string_add_lists (P := Tryz.prog) w (x1 ++ [61]) (writtenL x2) (by simp; omega) (by omega)
                go_wp2_with fail
                have e3 : Env (wr.alloc (.cells #[.string ⟨x1.toArray⟩, .string ⟨x2.toArray⟩] 70)) := (hw.keep hBi).keep ((Below.refl _ _).alloc (Nat.le_refl _) _)
                have kA := Bk.new wr 70 #[.string ⟨x1.toArray⟩, .string ⟨x2.toArray⟩]
                have hQ3 := hQ.alloc (.cells #[.string ⟨x1.toArray⟩, .string ⟨x2.toArray⟩] 70)
                have hown := fun k hk => (hQ.1.lt k hk).2
                generalize (wr.alloc (.cells #[.string ⟨x1.toArray⟩, .string ⟨x2.toArray⟩] 70)) = W3 at *
                generalize wr.heap.size = gx at kA hown ⊢
                have f0 : W3.cell? ⟨gx, 0, none⟩ = some (.string ⟨x1.toArray⟩) := kA.cell 0
                have f1 : W3.cell? ⟨gx, 1, none⟩ = some (.string ⟨x2.toArray⟩) := kA.cell 1
                have hgx := kA.lt
                have HOWN := Lib.hid hown
                clear hown
                have HE3 := Lib.hid e3
                have HQ3 := Lib.hid hQ3
                clear e3 kA hQ3 hQB hBi d0 d1 hQ
                go_region_held3 (fun w' => w'.cell? ⟨gx, 0, none⟩ = some (.string ⟨x1.toArray⟩) ∧ w'.cell? ⟨gx, 1, none⟩ = some (.string ⟨x2.toArray⟩)) (first | exact ⟨f0, f1⟩ | exact ⟨f0', f1'⟩ | exact ⟨f0'', f1''⟩ | exact ⟨(World.cell?_alloc_lt _ _ _ hgx4).trans f0', (World.cell?_alloc_lt _ _ _ hgx4).trans f1'⟩) (first | (go_at_call 75; refine (written_c x2 _ (HE3.out.keep (Below.refl _ _).drew) (by omega)).mono ?_; rintro e w4 ⟨rfl, hb4⟩; have f0' : w4.cell? ⟨gx, 0, none⟩ = some (.string ⟨x1.toArray⟩) := (hb4.cell (p := ⟨gx, 0, none⟩) hgx).trans f0; have f1' : w4.cell? ⟨gx, 1, none⟩ = some (.string ⟨x2.toArray⟩) := (hb4.cell (p := ⟨gx, 1, none⟩) hgx).trans f1; have hgx4 : gx < w4.heap.size := Nat.lt_of_lt_of_le hgx hb4.size; have HQ4 : Hid (Strs wo w4 _ acc2) := HQ3.out.grow ⟨hb4.os, hb4.tape, hb4.output, hb4.size, hb4.block⟩) | (refine step_strs_one0 (by rfl) _ _ (by rfl) rfl HQ4.out rfl (by omega) ?_; intro v5 w5 hQ5 hg5; have f0'' : w5.cell? ⟨gx, 0, none⟩ = some (.string ⟨x1.toArray⟩) := hg5.cell f0' (fun e => by have := HOWN.out gx e.symm; omega); have f1'' : w5.cell? ⟨gx, 1, none⟩ = some (.string ⟨x2.toArray⟩) := hg5.cell f1' (fun e => by have := HOWN.out gx e.symm; omega)))
                all_goals
                  go_wp2_with fail
                  go_roundg q2
                  case measure => omega
                  case rel => exact ⟨j + 1, by omega, by go_num, by have := AG3.out; show _ = _; omega, by rw [HSN2.out]; exact hQ5⟩
              · obtain rfl : j = p.length := by omega
                rw [List.take_length] at hQ
                have hQT := hQ.texts
                have hJ := fun W (hT : Texts W u9 (p.map pairW)) => Join_c (p.map pairW) [43] u9 W hT (by simp; omega) (by show (partW p).length ≤ _; omega)
                have hacc : acc.length ≤ 20 := by have := congrArg List.length HSN.out; simp at this; omega
                go_wp2_with (first | (go_at_call 76; refine (hJ _ hQT).mono ?_; rintro e w6 ⟨rfl, hb6⟩; have hS6 := (hS.grow hQB).grow hb6) | (at_builtin; refine strs_one (c := partW p) rfl _ _ rfl rfl hS6 rfl (by omega) ?_; intro v7 w7 hS7 hg7))
                go_roundg q
                case measure => omega
                case rel => exact ⟨k + 1, by omega, by go_num, by have := AG2.out; show _ = _; omega, by rw [HSN.out]; exact hS7⟩
          · obtain rfl : k = d.length := by omega
            rw [List.take_length] at hS
            have hST := hS.texts
            have hnl : (nameW d).length ≤ 20 * 12557 := by
              have := join_len 12556 [44] (by decide) (d.map partW) (fun z hz => by obtain ⟨x, hx, rfl⟩ := List.mem_map.1 hz; exact partW_len (HG.out x hx).2.1 (HG.out x hx).2.2)
              rw [List.length_map] at this
              have h2 : d.length * (12556 + 1) ≤ 20 * 12557 := Nat.mul_le_mul n20 (Nat.le_refl _)
              unfold nameW
              omega
            have hJ := fun W (hT : Texts W u6 (d.map partW)) => Join_c (d.map partW) [44] u6 W hT (by simp; omega) (by show (nameW d).length ≤ _; omega)
            have HJ := Lib.hid hJ
            have HST := Lib.hid hST
            clear hJ hST
            by_cases hbig : 65536 < (nameW d).length
            · have hpf : printFin (nameW d) = (2, []) := by unfold printFin; rw [if_pos hbig]
              rw [hpf] at Hf
              clear hpf
              go_wp2_with (go_at_call 76; refine (HJ.out _ HST.out).mono ?_; change ∀ e w', e = Ending.returned (.string ⟨(nameW d).toArray⟩) ∧ _ → _; rintro e w6 ⟨rfl, hb6⟩)
              go_ret2
              exact ⟨by rw [Hf.out]; rfl, hBr.trans (hb6.mono hBr.size)⟩
            · have hpf : printFin (nameW d) = (0, nameW d) := by unfold printFin; rw [if_neg hbig]
              rw [hpf] at Hf
              clear hpf
              go_wp2_with (go_at_call 76; refine (HJ.out _ HST.out).mono ?_; change ∀ e w', e = Ending.returned (.string ⟨(nameW d).toArray⟩) ∧ _ → _; rintro e w6 ⟨rfl, hb6⟩)
              go_ret2
              exact ⟨by rw [Hf.out]; rfl, hBr.trans (hb6.mono hBr.size)⟩
      · have hfin : printL d = (2, []) := by unfold printL; rw [hs, hTL]; rfl
        have Hf := Lib.hid hfin
        rw [hTL] at hT
        clear hfin hTL hs AS HC HT
        go_wp2_with (go_at_call 65; refine hT.mono ?_; rintro e w1 ⟨rfl, hb1⟩)
        go_ret2
        exact ⟨by rw [Hf.out]; rfl, hB.trans (hb1.mono hB.size)⟩
end Go.Proofs.YtcjobpcbppcdnaaGreatDoor
/- Contracts: syntax.Part$1, the order of pairs. -/
namespace Go.Proofs.YtcjobpcbppcdnaaGreatDoor
open Go.RowKit Go.Sort

/-- The order of pairs. -/
def avaCmp (a b : List UInt8 × List UInt8) : Int := orV (cmpB a.1 b.1) (cmpB a.2 b.2)
set_option maxRecDepth 10000 in
set_option maxHeartbeats 1000000 in
theorem Part1_c (a b : List UInt8 × List UInt8) (w : World) :
    Calls Tryz.prog 69 #[avaV a, avaV b] w fun e w' => e = .returned (.int .i64 (avaCmp a b)) ∧ ∃ q os', w' = grow (w.drewN q) os' := by
  obtain ⟨a1, a2⟩ := a
  obtain ⟨b1, b2⟩ := b
  show Calls Tryz.prog 69 #[.agg #[.string ⟨a1.toArray⟩, .string ⟨a2.toArray⟩], .agg #[.string ⟨b1.toArray⟩, .string ⟨b2.toArray⟩]] w _
  have hb : Below w.heap.size w ((w.alloc (.cells #[.string ⟨a1.toArray⟩, .string ⟨a2.toArray⟩] 70)).alloc (.cells #[.string ⟨b1.toArray⟩, .string ⟨b2.toArray⟩] 70)) := ((Below.refl _ _).alloc (Nat.le_refl _) _).alloc (by simp) _
  have k1 := (Bk.new w 70 #[.string ⟨a1.toArray⟩, .string ⟨a2.toArray⟩]).alloc (.cells #[.string ⟨b1.toArray⟩, .string ⟨b2.toArray⟩] 70)
  have k2 := Bk.new (w.alloc (.cells #[.string ⟨a1.toArray⟩, .string ⟨a2.toArray⟩] 70)) 70 #[.string ⟨b1.toArray⟩, .string ⟨b2.toArray⟩]
  rw [show (w.alloc (.cells #[.string ⟨a1.toArray⟩, .string ⟨a2.toArray⟩] 70)).heap.size = w.heap.size + 1 by simp] at k2
  have HC := Lib.hid (fun (x y : List UInt8) (W : World) => Compare_c x y W)
  have HO := Lib.hid (fun (b : Nat) (x y : Int) (W : World) h0 h1 => Or_c b x y W h0 h1)
  have hR : avaCmp (a1, a2) (b1, b2) = orV (cmpB a1 b1) (cmpB a2 b2) := rfl
  rw [hR]
  clear hR
  go_enter Tryz.func69, Tryz.ntmps69
  go_wp2_with fail
  have hW : ((w.alloc (.cells #[.string ⟨a1.toArray⟩, .string ⟨a2.toArray⟩] 70)).alloc (.cells #[.string ⟨b1.toArray⟩, .string ⟨b2.toArray⟩] 70)) = grow w #[.cells #[.string ⟨a1.toArray⟩, .string ⟨a2.toArray⟩] 70, .cells #[.string ⟨b1.toArray⟩, .string ⟨b2.toArray⟩] 70] := by rw [alloc_eq_grow, alloc_eq_grow, grow_grow]; rfl
  have HW := Lib.hid hW
  clear hW
  generalize ((w.alloc (.cells #[.string ⟨a1.toArray⟩, .string ⟨a2.toArray⟩] 70)).alloc (.cells #[.string ⟨b1.toArray⟩, .string ⟨b2.toArray⟩] 70)) = W at *
  have f0 : W.cell? ⟨w.heap.size, 0, none⟩ = some (.string ⟨a1.toArray⟩) := k1.cell 0
  have f1 : W.cell? ⟨w.heap.size, 1, none⟩ = some (.string ⟨a2.toArray⟩) := k1.cell 1
  have f2 : W.cell? ⟨w.heap.size + 1, 0, none⟩ = some (.string ⟨b1.toArray⟩) := k2.cell 0
  have f3 : W.cell? ⟨w.heap.size + 1, 1, none⟩ = some (.string ⟨b2.toArray⟩) := k2.cell 1
  have hl1 := k1.lt
  have hl2 := k2.lt
  clear k1 k2
  go_region_held3 (fun w' => w'.cell? ⟨w.heap.size, 0, none⟩ = some (.string ⟨a1.toArray⟩) ∧ w'.cell? ⟨w.heap.size, 1, none⟩ = some (.string ⟨a2.toArray⟩) ∧ w'.cell? ⟨w.heap.size + 1, 0, none⟩ = some (.string ⟨b1.toArray⟩) ∧ w'.cell? ⟨w.heap.size + 1, 1, none⟩ = some (.string ⟨b2.toArray⟩)) (first | exact ⟨f0, f1, f2, f3⟩ | exact ⟨(World.cell?_alloc_lt _ _ _ hl1).trans f0, (World.cell?_alloc_lt _ _ _ hl1).trans f1, (World.cell?_alloc_lt _ _ _ hl2).trans f2, (World.cell?_alloc_lt _ _ _ hl2).trans f3⟩) (first | (go_at_call 71; refine (HC.out _ _ _).mono ?_; rintro e w1 ⟨rfl, rfl⟩) | (go_at_call 70; refine (HO.out _ (cmpB a1 b1) (cmpB a2 b2) _ (by simp [go_sem]) (by simp [go_sem])).mono ?_; rintro e w1 ⟨rfl, rfl⟩))
  all_goals
    go_wp2_with fail
    go_ret
    refine ⟨rfl, ?_⟩
    rw [HW.out]
    exact ⟨1, _, by rw [alloc_eq_grow, grow_grow]; rfl⟩

def encA (x : List UInt8 × List UInt8) : List Value := [.string ⟨x.1.toArray⟩, .string ⟨x.2.toArray⟩]
theorem cmpLays_ava (blk off size : Nat) (w : World) : CmpLays Tryz.prog 69 #[] encA 2 avaCmp blk off size w :=
  fun _ _ _ _ x y => Part1_c x y _
/-- The pairs of a part in their order. -/
def sortA (p : List (List UInt8 × List UInt8)) : Array (List UInt8 × List UInt8) := Sort.insertionSort (ltOf avaCmp) p.toArray 0 p.length
set_option maxRecDepth 10000 in
set_option maxHeartbeats 1000000 in
theorem SortFunc_c (p : List (List UInt8 × List UInt8)) (blk cap : Nat) (w : World) (hH : HoldsK encA 2 w blk 0 p.toArray) (hblk : blk < w.heap.size) (h12 : p.length ≤ 12) :
    Calls Tryz.prog 68 #[.slice (some ⟨blk, 0, none⟩) p.length cap, .func (.func 69) #[] #[]] w fun e w' => e = .returned (.tuple #[]) ∧ ∃ n os, w' = sortWorldK encA 2 w blk 0 n (sortA p) os := by
  have eg : ∀ args w, (callFunc 69 args).run Tryz.prog w = .ok (.enter 69 args) w := enters_of Tryz.func69 (by kernel_rfl) rfl
  have hcon := fun lim => AnyQ.pdqsortCmpFunc_small Tryz.sortAva 2 Tryz.isAgg70 Tryz.sizeOf70 encA (fun _ => rfl) (fun x v hv => by simp [encA] at hv; rcases hv with rfl | rfl <;> rfl) avaCmp 69 #[] blk 0 cap 0 p.length lim p.toArray w eg (cmpLays_ava blk 0 p.toArray.size w) hH hblk (Nat.zero_le _) (by simp) (by simp; omega) (by omega)
  change ∀ lim, Calls Tryz.prog 114 _ _ _ at hcon
  simp only [List.size_toArray] at hcon
  have HL := Lib.hid (Tryz.bits_Len (p.length : Int) w (by omega) (by omega))
  unfold sortA
  generalize Sort.insertionSort (ltOf avaCmp) p.toArray 0 p.length = R at hcon ⊢
  have HC := Lib.hid hcon
  have hcv : IntKind.u64.wrap (p.length : Int) = (p.length : Int) := by first | exact IntWalk.u64_in _ (by omega) | (unfold IntKind.wrap; simp; omega)
  clear hcon hH
  go_enter Tryz.func68, Tryz.ntmps68
  go_wp2_with (first | (go_at_call 115; refine HL.out.mono ?_; rintro e w1 ⟨rfl, rfl⟩) | (go_at_call 114; refine (HC.out _).mono ?_; rintro e w' ⟨rfl, n, os, rfl⟩))
  go_end0
  exact ⟨rfl, n, os, rfl⟩
end Go.Proofs.YtcjobpcbppcdnaaGreatDoor
/- Plain law: orders by numbers; bytes; pairs. -/
namespace Go.Proofs.YtcjobpcbppcdnaaGreatDoor
open Go.RowKit Go.Sort

/-- An order told by a number. -/
structure Ord {α : Type} (f : α → α → Int) : Prop where
  swap : ∀ a b, f b a = -f a b
  zero : ∀ a b, f a b = 0 ↔ a = b
  trans : ∀ a b c, f a b ≤ 0 → f b c ≤ 0 → f a c ≤ 0
theorem Ord.lt_trans {α : Type} {f : α → α → Int} (h : Ord f) (a b c : α) (h1 : f a b < 0) (h2 : f b c < 0) : f a c < 0 := by
  have h3 := h.trans a b c (by omega) (by omega)
  rcases Int.lt_or_eq_of_le h3 with h4 | h4
  · exact h4
  · have := (h.zero a c).1 h4
    subst this
    have := h.swap a b
    omega
theorem Ord.swo {α : Type} {f : α → α → Int} (h : Ord f) : SWO (ltOf f) where
  irrefl x := by have := (h.zero x x).2 rfl; simp [ltOf, this]
  trans x y z h1 h2 := by
    simp only [ltOf, decide_eq_true_eq] at *
    exact h.lt_trans x y z h1 h2
  ntrans x y z h1 h2 := by
    simp only [ltOf, decide_eq_false_iff_not] at *
    have a := h.swap x y
    have b := h.swap y z
    have c := h.swap x z
    have := h.trans z y x (by omega) (by omega)
    omega
theorem cmpB_swap : ∀ a b : List UInt8, cmpB b a = -cmpB a b
  | [], [] => rfl
  | [], _ :: _ => rfl
  | _ :: _, [] => rfl
  | x :: a, y :: b => by
    have ih := cmpB_swap a b
    unfold cmpB at *
    simp only [Lib.compareBytes, UInt8.lt_iff_toNat_lt]
    rcases Nat.lt_trichotomy x.toNat y.toNat with h | h | h
    · rw [if_neg (by omega), if_pos h, if_pos h]; rfl
    · rw [if_neg (by omega), if_neg (by omega), if_neg (by omega), if_neg (by omega)]; exact ih
    · rw [if_pos h, if_neg (by omega), if_pos h]
theorem cmpB_zero : ∀ a b : List UInt8, cmpB a b = 0 ↔ a = b
  | [], [] => by simp [cmpB, Lib.compareBytes]
  | [], _ :: _ => by simp [cmpB, Lib.compareBytes]
  | _ :: _, [] => by simp [cmpB, Lib.compareBytes]
  | x :: a, y :: b => by
    have ih := cmpB_zero a b
    unfold cmpB at *
    simp only [Lib.compareBytes, UInt8.lt_iff_toNat_lt]
    rcases Nat.lt_trichotomy x.toNat y.toNat with h | h | h
    · rw [if_pos h]; simp; intro e; subst e; omega
    · rw [if_neg (by omega), if_neg (by omega), ih]
      have := UInt8.toNat_inj.1 h
      simp [this]
    · rw [if_neg (by omega), if_pos h]; simp; intro e; subst e; omega
theorem cmpB_trans : ∀ a b c : List UInt8, cmpB a b ≤ 0 → cmpB b c ≤ 0 → cmpB a c ≤ 0
  | [], _, [], _, _ => by decide
  | [], _, _ :: _, _, _ => by simp [cmpB, Lib.compareBytes]
  | _ :: _, [], _, h, _ => by simp [cmpB, Lib.compareBytes] at h
  | _ :: _, _ :: _, [], _, h => by simp [cmpB, Lib.compareBytes] at h
  | x :: a, y :: b, z :: c, h1, h2 => by
    have ih := cmpB_trans a b c
    unfold cmpB at *
    simp only [Lib.compareBytes, UInt8.lt_iff_toNat_lt] at *
    rcases Nat.lt_trichotomy x.toNat y.toNat with h | h | h
    · rcases Nat.lt_trichotomy y.toNat z.toNat with k | k | k
      · rw [if_pos (by omega)]; decide
      · rw [if_pos (by omega)]; decide
      · rw [if_neg (by omega), if_pos k] at h2; omega
    · rw [if_neg (by omega), if_neg (by omega)] at h1
      rcases Nat.lt_trichotomy y.toNat z.toNat with k | k | k
      · rw [if_pos (by omega)]; decide
      · rw [if_neg (by omega), if_neg (by omega)] at h2
        rw [if_neg (by omega), if_neg (by omega)]
        exact ih h1 h2
      · rw [if_neg (by omega), if_pos k] at h2; omega
    · rw [if_neg (by omega), if_pos h] at h1; omega
theorem cmpB_ord : Ord cmpB := ⟨cmpB_swap, cmpB_zero, cmpB_trans⟩
theorem orV_neg (x y : Int) : orV (-x) (-y) = -orV x y := by unfold orV; split <;> split <;> omega
theorem orV_zero (x y : Int) : orV x y = 0 ↔ x = 0 ∧ y = 0 := by unfold orV; split <;> omega
theorem Ord.lex {α β : Type} {f : α → α → Int} {g : β → β → Int} (hf : Ord f) (hg : Ord g) : Ord (fun a b : α × β => orV (f a.1 b.1) (g a.2 b.2)) where
  swap a b := by show orV (f b.1 a.1) (g b.2 a.2) = -orV (f a.1 b.1) (g a.2 b.2); rw [hf.swap, hg.swap, orV_neg]
  zero a b := by
    rw [orV_zero, hf.zero, hg.zero]
    constructor
    · rintro ⟨h1, h2⟩; exact Prod.ext h1 h2
    · rintro rfl; exact ⟨rfl, rfl⟩
  trans a b c h1 h2 := by
    have t := hf.trans a.1 b.1 c.1
    have l := hf.lt_trans a.1 b.1 c.1
    have u := hg.trans a.2 b.2 c.2
    have e1 := hf.zero a.1 b.1
    have e2 := hf.zero b.1 c.1
    unfold orV at *
    split at h1
    · next h =>
      have h' := e1.1 h
      rw [h'] at *
      split at h2
      · next k => rw [if_pos k]; exact u h1 h2
      · next k => rw [if_neg k]; exact h2
    · next h =>
      split at h2
      · next k =>
        have k' := e2.1 k
        rw [← k', if_neg h]; exact h1
      · next k =>
        have := l (by omega) (by omega)
        rw [if_neg (by omega)]; omega
theorem avaCmp_ord : Ord avaCmp := cmpB_ord.lex cmpB_ord
end Go.Proofs.YtcjobpcbppcdnaaGreatDoor
/- Rows of pairs in memory; slices.SortFunc over them. -/
namespace Go.Proofs.YtcjobpcbppcdnaaGreatDoor
open Go.RowKit Go.Sort

/-- Block g holds these pairs, and may be written there. -/
def RowA (w : World) (g : Nat) (l : List (List UInt8 × List UInt8)) : Prop :=
  g < w.heap.size ∧ ∀ j x, l[j]? = some x → (w.cell? ⟨g, 2 * j, none⟩ = some (.string ⟨x.1.toArray⟩) ∧ w.frozen? ⟨g, 2 * j, none⟩ = false) ∧ (w.cell? ⟨g, 2 * j + 1, none⟩ = some (.string ⟨x.2.toArray⟩) ∧ w.frozen? ⟨g, 2 * j + 1, none⟩ = false)
theorem Avas.row {B g n c : Nat} {w : World} {l : List (List UInt8 × List UInt8)} (h : Avas B w (.slice (some ⟨g, 0, none⟩) n c) l) : RowA w g l := by
  obtain ⟨⟨h1, h2⟩, h3⟩ := h
  rcases h2 with ⟨hn, _⟩ | ⟨g', cap, cur, e, r2, r3, r4, r5, r6, r7⟩
  · cases hn
  · cases e
    refine ⟨(Array.getElem?_eq_some_iff.1 r3).1, fun j x hj => ?_⟩
    have hf := flat_get l j x hj
    have hjl : j < l.length := (List.getElem?_eq_some_iff.1 hj).1
    rw [← r7, List.getElem?_take, List.getElem?_take, if_pos (by omega), if_pos (by omega)] at hf
    simp only [World.cell?, World.frozen?, r3]
    simp only [Array.getElem?_toList] at hf
    simp [hf.1, hf.2]
theorem RowA.holds {w : World} {g : Nat} {l : List (List UInt8 × List UInt8)} (h : RowA w g l) : HoldsK encA 2 w g 0 l.toArray := by
  intro j hj
  have hj2 : j < l.length * 2 := by simpa using hj
  have hd : j / 2 < l.length := by omega
  have hx := h.2 (j / 2) l[j / 2] (List.getElem?_eq_getElem hd)
  rw [get_flatK encA 2 l.toArray j (by simpa using hj2)]
  have e : l.toArray[j / 2]! = l[j / 2] := by simp [hd]
  rw [e, Nat.zero_add]
  rcases Nat.mod_two_eq_zero_or_one j with h0 | h0
  · have e2 : 2 * (j / 2) = j := by omega
    rw [e2] at hx
    rw [h0]
    exact hx.1
  · have e2 : 2 * (j / 2) + 1 = j := by omega
    rw [e2] at hx
    rw [h0]
    exact hx.2
theorem RowA.of_holds {w : World} {g : Nat} {l : List (List UInt8 × List UInt8)} (hg : g < w.heap.size) (h : HoldsK encA 2 w g 0 l.toArray) : RowA w g l := by
  refine ⟨hg, fun j x hj => ?_⟩
  have hjl : j < l.length := (List.getElem?_eq_some_iff.1 hj).1
  have hxe : l[j] = x := (List.getElem?_eq_some_iff.1 hj).2
  have a := h (2 * j) (by simp; omega)
  have b := h (2 * j + 1) (by simp; omega)
  rw [get_flatK encA 2 l.toArray _ (by simp; omega), Nat.zero_add] at a b
  have e1 : (2 * j) / 2 = j := by omega
  have e2 : (2 * j + 1) / 2 = j := by omega
  have e3 : (2 * j) % 2 = 0 := by omega
  have e4 : (2 * j + 1) % 2 = 1 := by omega
  rw [e1, e3, show l.toArray[j]! = x by simp [hjl, hxe]] at a
  rw [e2, e4, show l.toArray[j]! = x by simp [hjl, hxe]] at b
  exact ⟨a, b⟩
theorem sortWorld_row {w : World} {g n : Nat} {l m : List (List UInt8 × List UInt8)} {os : Array Obj} (h : RowA w g l) (hs : m.length = l.length) :
    RowA (sortWorldK encA 2 w g 0 n m.toArray os) g m ∧ w.grownBy (sortWorldK encA 2 w g 0 n m.toArray os) (some g) := by
  have h1 := holdsK_putRowK encA 2 (Go.Sort.ahead w n) g 0 l.toArray m.toArray (holdsK_ahead encA 2 w n g 0 _ h.holds) (by simp [hs])
  have hg1 : g < (putRowK encA 2 (Go.Sort.ahead w n) g 0 m.toArray).heap.size := by
    show g < (putRow id (Go.Sort.ahead w n) g 0 _).heap.size
    rw [size_putRow]; exact h.1
  have hsz : (sortWorldK encA 2 w g 0 n m.toArray os).heap.size = w.heap.size + os.size := by
    show (grow (putRow id (Go.Sort.ahead w n) g 0 _) os).heap.size = _
    rw [size_grow, size_putRow]; rfl
  refine ⟨RowA.of_holds (by have := h.1; omega) (holdsK_grow encA 2 _ os g 0 _ hg1 h1), rfl, rfl, rfl, by omega, fun k hk hne => ?_⟩
  show (grow (putRow id (Go.Sort.ahead w n) g 0 _) os).heap[k]? = _
  rw [heap_grow_old _ _ (by rw [size_putRow]; exact hk)]
  show (mapBlock (Go.Sort.ahead w n) g _).heap[k]? = _
  simp only [mapBlock, Array.getElem?_modify]
  rw [if_neg (by intro e; exact hne (by rw [e]))]
  rfl
theorem Sort_c (p : List (List UInt8 × List UInt8)) (g cap : Nat) (w : World) (h : RowA w g p) (h12 : p.length ≤ 12) :
    Calls Tryz.prog 68 #[.slice (some ⟨g, 0, none⟩) p.length cap, .func (.func 69) #[] #[]] w fun e w' => e = .returned (.tuple #[]) ∧ RowA w' g (sortA p).toList ∧ w.grownBy w' (some g) := by
  refine (SortFunc_c p g cap w h.holds h.1 h12).mono ?_
  rintro e w' ⟨rfl, n, os, rfl⟩
  have hlen : (sortA p).toList.length = p.length := by
    have := (insertionSort_holds (lt := ltOf avaCmp) avaCmp_ord.swo p.toArray 0 p.length (Nat.zero_le _) (by simp)).1.1
    simpa [sortA] using this
  have := sortWorld_row (n := n) (os := os) h hlen
  simp only [Array.toArray_toList] at this
  exact ⟨rfl, this⟩
end Go.Proofs.YtcjobpcbppcdnaaGreatDoor
/- Contracts: slices.Compact over pairs. -/
namespace Go.Proofs.YtcjobpcbppcdnaaGreatDoor
open Go.RowKit Go.Sort

/-- Equal neighbours once: the first j. -/
def ddL {α : Type} [DecidableEq α] (p : List α) : Nat → List α
  | 0 => []
  | j + 1 => match p[j]? with
    | none => ddL p j
    | some x => if j ≠ 0 ∧ p[j - 1]? = some x then ddL p j else ddL p j ++ [x]
theorem ddL_one {α : Type} [DecidableEq α] (p : List α) (h : 0 < p.length) : ddL p 1 = p.take 1 := by
  cases p with
  | nil => simp at h
  | cons x t => simp [ddL]
theorem ddL_same {α : Type} [DecidableEq α] (p : List α) (m : Nat) (h : m + 1 < p.length) (e : p[m + 1] = p[m]) : ddL p (m + 2) = ddL p (m + 1) := by
  rw [ddL, List.getElem?_eq_getElem h]
  simp only
  rw [if_pos ⟨by omega, by rw [show m + 1 - 1 = m by omega, List.getElem?_eq_getElem (by omega), e]⟩]
theorem ddL_other {α : Type} [DecidableEq α] (p : List α) (m : Nat) (h : m + 1 < p.length) (e : p[m + 1] ≠ p[m]) : ddL p (m + 2) = ddL p (m + 1) ++ [p[m + 1]] := by
  rw [ddL, List.getElem?_eq_getElem h]
  simp only
  rw [if_neg (by rintro ⟨_, h2⟩; rw [show m + 1 - 1 = m by omega, List.getElem?_eq_getElem (by omega)] at h2; exact e (Option.some.inj h2).symm)]
theorem ba_list (l : List UInt8) : (⟨l.toArray⟩ : ByteArray).toList = l := by
  first | rfl | (simp [ByteArray.toList]; done) | exact ByteArray.toList_eq _ 
theorem in_ava (W : World) (x1 x2 y1 y2 : List UInt8) : (Op.equalIn 10000 70 (.agg #[.string ⟨x1.toArray⟩, .string ⟨x2.toArray⟩]) (.agg #[.string ⟨y1.toArray⟩, .string ⟨y2.toArray⟩])).run Tryz.prog W = .ok (decide ((x1, x2) = (y1, y2))) W := by
  have u9 := Tryz.underlying9
  have a9 := Tryz.isAgg9
  have z9 := Tryz.sizeOf9
  have hS : Tryz.prog.underlying 70 = some (.struct (Tryz.prog.fieldsOf 70)) := by kernel_rfl
  have hp : Tryz.prog.stoodInHeld 70 = false := by kernel_rfl
  rw [show (10000 : Nat) = 9999 + 1 from rfl, run_equalIn_agg W 9999 70 _ _ hS hp]
  simp only [Program.fieldsOf, Tryz.underlying70]
  go_simp
  by_cases h1 : x1 = y1 <;> by_cases h2 : x2 = y2 <;> simp [h1, h2]
theorem eql_ava (W : World) (x1 x2 y1 y2 : List UInt8) : (binOp .eql 70 (.agg #[.string ⟨x1.toArray⟩, .string ⟨x2.toArray⟩]) (.agg #[.string ⟨y1.toArray⟩, .string ⟨y2.toArray⟩])).run Tryz.prog W = .ok (.bool (decide ((x1, x2) = (y1, y2)))) W := by
  rw [run_eql_struct, in_ava]; rfl
theorem neq_ava (W : World) (x1 x2 y1 y2 : List UInt8) : (binOp .neq 70 (.agg #[.string ⟨x1.toArray⟩, .string ⟨x2.toArray⟩]) (.agg #[.string ⟨y1.toArray⟩, .string ⟨y2.toArray⟩])).run Tryz.prog W = .ok (.bool (!decide ((x1, x2) = (y1, y2)))) W := by
  rw [run_neq_struct, in_ava]; rfl
theorem RowA.drewN {w : World} {g : Nat} {l : List (List UInt8 × List UInt8)} (h : RowA w g l) (n : Nat) : RowA (w.drewN n) g l := h
theorem slice_from (g n c k : Nat) (hk' : k < n) (hc : n ≤ c) (w : World) : (Instr.slice 68 (.slice (some ⟨g, 0, none⟩) n c) (some (.int .i64 (k : Int))) none none).run Tryz.prog w = .ok (.slice (some ⟨g, k * 2, none⟩) (n - k) (c - k)) w := by
  have hk : k ≤ n := Nat.le_of_lt hk'
  have h1 : (Instr.sliceBounds true n c (some (.int .i64 k)) none none).run Tryz.prog w = .ok (k, n, c) w := by
    simp [Instr.sliceBounds, run_sliceBound, hk, hc]
  have h2 : (sizeOf 70).run Tryz.prog w = .ok 2 w := by kernel_rfl
  unfold Instr.slice
  simp only [Sem.run_bind, run_underlying Tryz.underlying68, Result.andThen_ok, h1, h2, Sem.run_pure]
  have ha : (⟨g, 0, none⟩ : Addr).add (k * 2) = ⟨g, k * 2, none⟩ := add_off g _
  simp [ha]
  intro e
  omega
/-- A row read at a place. -/
theorem RowA.at2 {w : World} {g : Nat} {l : List (List UInt8 × List UInt8)} (h : RowA w g l) {j : Nat} {x : List UInt8 × List UInt8} (hj : l[j]? = some x) :
    w.cell? ⟨g, j * 2, none⟩ = some (.string ⟨x.1.toArray⟩) ∧ w.cell? ⟨g, j * 2 + 1, none⟩ = some (.string ⟨x.2.toArray⟩) ∧ w.frozen? ⟨g, j * 2, none⟩ = false ∧ w.frozen? ⟨g, j * 2 + 1, none⟩ = false := by
  have := h.2 j x hj
  rw [Nat.mul_comm 2 j] at this
  exact ⟨this.1.1, this.2.1, this.1.2, this.2.2⟩
theorem set_other (w : World) (g o o' : Nat) (v : Value) (h : o ≠ o') : (w.setCell ⟨g, o, none⟩ v).cell? ⟨g, o', none⟩ = w.cell? ⟨g, o', none⟩ := by
  apply World.cell?_setCell_other
  intro e
  injection e
  omega
theorem set_same (w : World) (g o : Nat) (u v : Value) (h : w.cell? ⟨g, o, none⟩ = some u) : (w.setCell ⟨g, o, none⟩ v).cell? ⟨g, o, none⟩ = some v := World.cell?_setCell_same' w _ v (by rw [h]; rfl)
/-- A pair written. -/
theorem RowA.set {w : World} {g : Nat} {l : List (List UInt8 × List UInt8)} (h : RowA w g l) {j : Nat} (hj : j < l.length) (x : List UInt8 × List UInt8) :
    RowA ((w.setCell ⟨g, j * 2, none⟩ (.string ⟨x.1.toArray⟩)).setCell ⟨g, j * 2 + 1, none⟩ (.string ⟨x.2.toArray⟩)) g (l.set j x) := by
  have hc0 := (h.at2 (List.getElem?_eq_getElem hj)).1
  have hc1 := (h.at2 (List.getElem?_eq_getElem hj)).2.1
  refine ⟨by simp [World.setCell]; exact h.1, fun i y hi => ?_⟩
  have e0 : ∀ o, ((w.setCell ⟨g, j * 2, none⟩ (.string ⟨x.1.toArray⟩)).setCell ⟨g, j * 2 + 1, none⟩ (.string ⟨x.2.toArray⟩)).frozen? ⟨g, o, none⟩ = w.frozen? ⟨g, o, none⟩ := fun o => (World.frozen?_setCell _ _ _ _).trans (World.frozen?_setCell _ _ _ _)
  rw [e0, e0]
  rw [List.getElem?_set] at hi
  by_cases hij : j = i
  · subst hij
    rw [if_pos rfl, if_pos hj] at hi
    cases hi
    have hf := h.at2 (List.getElem?_eq_getElem hj)
    rw [Nat.mul_comm 2 j]
    refine ⟨⟨?_, hf.2.2.1⟩, ?_, hf.2.2.2⟩
    · rw [set_other _ _ _ _ _ (by omega)]
      exact set_same _ _ _ _ _ hc0
    · exact set_same _ _ _ _ _ ((set_other _ _ _ _ _ (by omega)).trans hc1)
  · rw [if_neg hij] at hi
    have hx := h.2 i y hi
    refine ⟨⟨?_, hx.1.2⟩, ?_, hx.2.2⟩
    · rw [set_other _ _ _ _ _ (by omega), set_other _ _ _ _ _ (by omega)]
      exact hx.1.1
    · rw [set_other _ _ _ _ _ (by omega), set_other _ _ _ _ _ (by omega)]
      exact hx.2.1
theorem set_mid {α : Type} (c p : List α) (x : α) (h : c.length < p.length) : (c ++ p.drop c.length).set c.length x = (c ++ [x]) ++ p.drop (c ++ [x]).length := by
  rw [List.drop_eq_getElem_cons h, List.set_append_right _ _ (Nat.le_refl _), Nat.sub_self, List.set_cons_zero, List.length_append, List.append_assoc]
  rfl
theorem slice_upto (g n c k : Nat) (hk : k ≤ c) (w : World) : (Instr.slice 68 (.slice (some ⟨g, 0, none⟩) n c) none (some (.int .i64 (k : Int))) none).run Tryz.prog w = .ok (.slice (some ⟨g, 0, none⟩) k c) w := by
  have h1 : (Instr.sliceBounds true n c none (some (.int .i64 k)) none).run Tryz.prog w = .ok (0, k, c) w := by
    simp [Instr.sliceBounds, run_sliceBound, hk]
  have h2 : (sizeOf 70).run Tryz.prog w = .ok 2 w := by kernel_rfl
  unfold Instr.slice
  simp only [Sem.run_bind, run_underlying Tryz.underlying68, Result.andThen_ok, h1, h2, Sem.run_pure]
  have ha : (⟨g, 0, none⟩ : Addr).add 0 = ⟨g, 0, none⟩ := add_off g _
  simp [ha]
theorem setCells_grown (g : Nat) : ∀ (vs : List Value) (o : Nat) (w : World), w.grownBy (w.setCells g o vs) (some g)
  | [], _, w => World.grownBy.refl _ _
  | v :: r, o, w => World.grownBy.trans (setCell_grown w g o v) (setCells_grown g r (o + 1) _)
/-- 'clear(s[k:])'. -/
theorem clear_ava {w : World} {g : Nat} {c p : List (List UInt8 × List UInt8)} (h : RowA w g (c ++ p.drop c.length)) (hc : c.length < p.length) (cap : Nat) :
    ∃ W, (∀ ty, (Builtin.clear_ #[68] ty #[.slice (some ⟨g, c.length * 2, none⟩) (p.length - c.length) cap]).run Tryz.prog w = .ok (.tuple #[]) W) ∧ RowA W g c ∧ w.grownBy W (some g) := by
  have hz : ∀ w, (zeroValue 70).run Tryz.prog w = .ok (.agg #[.string ⟨#[]⟩, .string ⟨#[]⟩]) w := fun w => by kernel_rfl
  obtain ⟨n, hn⟩ : ∃ n, p.length - c.length = n + 1 := ⟨p.length - c.length - 1, by omega⟩
  rw [hn]
  generalize hV : (Builtin.zeroCells #[(.string ⟨#[]⟩ : Value), .string ⟨#[]⟩] (n + 1)).toList = V
  have hVl : V.length = (n + 1) * 2 := by rw [← hV]; simp [Builtin.zeroCells]
  have hV1 : ∀ v ∈ V, v.oneCell' = true := by
    intro v hv
    rw [← hV] at hv
    simp [Builtin.zeroCells] at hv
    obtain ⟨i, _, rfl⟩ := hv
    have : i % 2 = 0 ∨ i % 2 = 1 := by omega
    rcases this with e | e <;> simp [e, Value.oneCell']
  have hst := run_storeCells_cells (P := Tryz.prog) g (c.length * 2) V 0 w
    (by
      intro j hj
      have hd : (c ++ p.drop c.length)[c.length + j / 2]? = some (p[c.length + j / 2]'(by omega)) := by
        rw [List.getElem?_append_right (by omega), List.getElem?_drop, show c.length + (c.length + j / 2 - c.length) = c.length + j / 2 by omega]; exact List.getElem?_eq_getElem (by omega)
      have hx := h.at2 hd
      rcases Nat.mod_two_eq_zero_or_one j with e | e
      · rw [show c.length * 2 + 0 + j = (c.length + j / 2) * 2 by omega, hx.1]; rfl
      · rw [show c.length * 2 + 0 + j = (c.length + j / 2) * 2 + 1 by omega, hx.2.1]; rfl)
    (by
      intro j hj
      have hd : (c ++ p.drop c.length)[c.length + j / 2]? = some (p[c.length + j / 2]'(by omega)) := by
        rw [List.getElem?_append_right (by omega), List.getElem?_drop, show c.length + (c.length + j / 2 - c.length) = c.length + j / 2 by omega]; exact List.getElem?_eq_getElem (by omega)
      have hx := h.at2 hd
      rcases Nat.mod_two_eq_zero_or_one j with e | e
      · rw [show c.length * 2 + 0 + j = (c.length + j / 2) * 2 by omega]; exact hx.2.2.1
      · rw [show c.length * 2 + 0 + j = (c.length + j / 2) * 2 + 1 by omega]; exact hx.2.2.2) hV1
  simp only [Nat.add_zero] at hst
  have hg := setCells_grown g V (c.length * 2) w
  refine ⟨w.setCells g (c.length * 2) V, fun ty => ?_, ⟨Nat.lt_of_lt_of_le h.1 hg.size, fun j x hj => ?_⟩, hg⟩
  · simp [Builtin.clear_, run_underlying Tryz.underlying68, hz, Value.cells, hV, hst]
  · have hjl : j < c.length := (List.getElem?_eq_some_iff.1 hj).1
    have hx := h.2 j x (by rw [List.getElem?_append_left hjl]; exact hj)
    rw [World.cell?_setCells_out g V _ w _ (fun _ _ => .inl (by show 2 * j < _; omega)), World.cell?_setCells_out g V _ w _ (fun _ _ => .inl (by show 2 * j + 1 < _; omega)), World.frozen?_setCells, World.frozen?_setCells]
    exact hx
set_option maxRecDepth 10000 in
set_option maxHeartbeats 1000000 in
theorem Compact_c (p : List (List UInt8 × List UInt8)) (g cap : Nat) (w : World) (h : RowA w g p) (hl : p.length ≤ 1000) (hc : p.length ≤ cap) :
    Calls Tryz.prog 72 #[.slice (some ⟨g, 0, none⟩) p.length cap] w fun e w' => e = .returned (.slice (some ⟨g, 0, none⟩) (ddL p p.length).length cap) ∧ RowA w' g (ddL p p.length) ∧ w.grownBy w' (some g) := by
  by_cases h2 : p.length < 2
  · have hdd : ddL p p.length = p := by
      match p, h2 with
      | [], _ => rfl
      | [x], _ => simp [ddL]
    rw [hdd]
    go_enter Tryz.func72, Tryz.ntmps72
    go_wp2_with fail
    go_ret
    exact ⟨rfl, h, World.grownBy.refl _ _⟩
  · have HH := Lib.hid h
    clear h
    have heq := eql_ava
    have hmg : Tryz.prog.eqGuardType Tryz.prog.depth 70 = false := by kernel_rfl
    go_enter Tryz.func72, Tryz.ntmps72
    go_wp2_with fail
    go_loopg [3] p.length (fun gk i wr => ∃ m : Nat, m + 1 ≤ p.length ∧ i = .int .i64 ((m : Int) + 1) ∧ Aside (m + 1 + gk = p.length + 1) ∧ Hid (RowA wr g p) ∧ Aside (w.grownBy wr (some g)) ∧ Aside (ddL p (m + 1) = p.take (m + 1)))
    case atStart => exact ⟨0, by omega, rfl, by show _ = _; omega, HH, World.grownBy.refl _ _, by show _ = _; rw [ddL_one p (by omega)]⟩
    case round =>
      obtain ⟨m, hk, rfl, AG, HR, AW, AD⟩ := hrel
      by_cases hlt : m + 1 < p.length
      · obtain ⟨q, rfl⟩ : ∃ q, gk = q + 1 := ⟨gk - 1, by have := AG.out; omega⟩
        have hx := HR.out.2 (m + 1) p[m + 1] (List.getElem?_eq_getElem hlt)
        have hy := HR.out.2 m p[m] (List.getElem?_eq_getElem (by omega))
        have x0 : wr.cell? ⟨g, (m + 1) * 2, none⟩ = some (.string ⟨p[m + 1].1.toArray⟩) := by rw [Nat.mul_comm]; exact hx.1.1
        have x1 : wr.cell? ⟨g, (m + 1) * 2 + 1, none⟩ = some (.string ⟨p[m + 1].2.toArray⟩) := by rw [Nat.mul_comm]; exact hx.2.1
        have y0 : wr.cell? ⟨g, m * 2, none⟩ = some (.string ⟨p[m].1.toArray⟩) := by rw [Nat.mul_comm]; exact hy.1.1
        have y1 : wr.cell? ⟨g, m * 2 + 1, none⟩ = some (.string ⟨p[m].2.toArray⟩) := by rw [Nat.mul_comm]; exact hy.2.1
        have hk0 : (0 : Int) ≤ (m : Int) + 1 := by omega
        have hk1 : (m : Int) + 1 < (p.length : Int) := by omega
        have hk2 : (0 : Int) ≤ (m : Int) := by omega
        have hk3 : (m : Int) < (p.length : Int) := by omega
        have hk4 : ((m : Int) + 1).toNat = m + 1 := by omega
        have hk5 : IntKind.i64.wrap ((m : Int) + 1 - 1) = (m : Int) := by rw [IntWalk.i64_in _ (by omega)]; omega
        clear hx hy
        go_wp2_with fail
        go_quiet (fail)
        clear hk5
        by_cases he : p[m + 1] = p[m]
        · have ht : (decide (p[m + 1].1 = p[m].1) && decide (p[m + 1].2 = p[m].2)) = true := by simp [he]
          have HE := Lib.hid he
          have HRN : Hid (RowA (wr.drewN nq) g p) := HR.out.drewN nq
          have AWN : Aside (w.grownBy (wr.drewN nq) (some g)) := ⟨AW.out.os, AW.out.tape, AW.out.output, AW.out.size, AW.out.block⟩
          have hsl : ∀ W, (Instr.slice 68 (.slice (some ⟨g, 0, none⟩) p.length cap) (some (.int .i64 ((m : Int) + 1))) none none).run Tryz.prog W = .ok (.slice (some ⟨g, (m + 1) * 2, none⟩) (p.length - (m + 1)) (cap - (m + 1))) W := fun W => slice_from g p.length cap (m + 1) (by omega) hc W
          generalize (decide (p[m + 1].1 = p[m].1) && decide (p[m + 1].2 = p[m].2)) = T at ht ⊢
          subst ht
          generalize wr.drewN nq = W1 at HRN AWN ⊢
          go_wp2_with fail
          have hd2 : ddL p (m + 1 + 1) = p.take (m + 1) := by rw [ddL_same p m hlt HE.out, AD.out]
          have hst : RowA W1 g (ddL p (m + 1 + 1) ++ p.drop (ddL p (m + 1 + 1)).length) := by
            rw [hd2, List.length_take, Nat.min_eq_left (by omega), List.take_append_drop]; exact HRN.out
          have hst2 : (ddL p (m + 1 + 1)).length = m + 1 := by rw [hd2, List.length_take, Nat.min_eq_left (by omega)]
          have HST := Lib.hid hst
          clear hst hd2 x0 x1 y0 y1
          go_loopg [3, 5] (p.length - (m + 1)) (fun gk i i2 wr => ∃ (j : Nat) (c : List (List UInt8 × List UInt8)), m + 1 + (j + 1) ≤ p.length ∧ i = .int .i64 c.length ∧ i2 = .int .i64 ((j : Int) + 1) ∧ Aside (m + 1 + (j + 1) + gk = p.length + 1) ∧ c.length ≤ m + 1 + j ∧ Aside (c = ddL p (m + 1 + (j + 1))) ∧ Hid (RowA wr g (c ++ p.drop c.length)) ∧ Aside (w.grownBy wr (some g)))
          case atStart => exact ⟨0, ddL p (m + 1 + 1), by omega, by rw [hst2]; rfl, rfl, by show _ = _; omega, by omega, rfl, HST, AWN⟩
          case round =>
            obtain ⟨j, c, hj, rfl, rfl, AG2, hcl, AC, HR2, AW2⟩ := hrel
            by_cases hlt2 : m + 1 + (j + 1) < p.length
            · obtain ⟨q2, rfl⟩ : ∃ q2, gk = q2 + 1 := ⟨gk - 1, by have := AG2.out; omega⟩
              have gX : (c ++ p.drop c.length)[m + 1 + (j + 1)]? = some p[m + 1 + (j + 1)] := by
                rw [List.getElem?_append_right (by omega), List.getElem?_drop, show c.length + (m + 1 + (j + 1) - c.length) = m + 1 + (j + 1) by omega]; exact List.getElem?_eq_getElem hlt2
              have gY : (c ++ p.drop c.length)[m + 1 + j]? = some p[m + 1 + j] := by
                rw [List.getElem?_append_right (by omega), List.getElem?_drop, show c.length + (m + 1 + j - c.length) = m + 1 + j by omega]; exact List.getElem?_eq_getElem (by omega)
              have rX := HR2.out.at2 gX
              have rY := HR2.out.at2 gY
              have kX : (m + 1 + (j + 1)) * 2 = (m + 1) * 2 + (j + 1) * 2 := by omega
              have kY : (m + 1 + j) * 2 = (m + 1) * 2 + j * 2 := by omega
              rw [kX] at rX
              rw [kY] at rY
              obtain ⟨x0, x1, _, _⟩ := rX
              obtain ⟨y0, y1, _, _⟩ := rY
              clear kX kY
              have hk0 : (0 : Int) ≤ (j : Int) + 1 := by omega
              have hk1 : (j : Int) + 1 < ((p.length - (m + 1) : Nat) : Int) := by omega
              have hk2 : (0 : Int) ≤ (j : Int) := by omega
              have hk3 : (j : Int) < ((p.length - (m + 1) : Nat) : Int) := by omega
              have hk4 : ((j : Int) + 1).toNat = j + 1 := by omega
              have hk5 : IntKind.i64.wrap ((j : Int) + 1 - 1) = (j : Int) := by rw [IntWalk.i64_in _ (by omega)]; omega
              have hneq := neq_ava
              generalize hN : p.length - (m + 1) = n2 at *
              go_wp2_with fail
              go_quiet (fail)
              clear hk5
              have HRN2 : Hid (RowA (wr.drewN nq) g (c ++ p.drop c.length)) := HR2.out.drewN nq
              have AWN2 : Aside (w.grownBy (wr.drewN nq) (some g)) := ⟨AW2.out.os, AW2.out.tape, AW2.out.output, AW2.out.size, AW2.out.block⟩
              have x0' : (wr.drewN nq).cell? ⟨g, (m + 1) * 2 + (j + 1) * 2, none⟩ = some (.string ⟨p[m + 1 + (j + 1)].1.toArray⟩) := x0
              have x1' : (wr.drewN nq).cell? ⟨g, (m + 1) * 2 + (j + 1) * 2 + 1, none⟩ = some (.string ⟨p[m + 1 + (j + 1)].2.toArray⟩) := x1
              by_cases he2 : p[m + 1 + (j + 1)] = p[m + 1 + j]
              · have ht : (!decide (p[m + 1 + (j + 1)].1 = p[m + 1 + j].1) || !decide (p[m + 1 + (j + 1)].2 = p[m + 1 + j].2)) = false := by simp [he2]
                have HC2 := Lib.hid (show c = ddL p (m + 1 + (j + 1 + 1)) by rw [AC.out]; exact (ddL_same p (m + 1 + j) hlt2 he2).symm)
                generalize (!decide (p[m + 1 + (j + 1)].1 = p[m + 1 + j].1) || !decide (p[m + 1 + (j + 1)].2 = p[m + 1 + j].2)) = T at ht ⊢
                subst ht
                clear he2 x0 x1 y0 y1 x0' x1' gX gY
                generalize wr.drewN nq = W2 at HRN2 AWN2 ⊢
                go_wp2_with fail
                go_roundg q2
                case measure => omega
                case rel => exact ⟨j + 1, c, by omega, rfl, by go_num, by have := AG2.out; show _ = _; omega, by omega, HC2.out, HRN2, AWN2⟩
              · have ht : (!decide (p[m + 1 + (j + 1)].1 = p[m + 1 + j].1) || !decide (p[m + 1 + (j + 1)].2 = p[m + 1 + j].2)) = true := by
                  rw [Bool.or_eq_true]
                  by_cases h1 : p[m + 1 + (j + 1)].1 = p[m + 1 + j].1
                  · exact .inr (by rw [decide_eq_false fun h2 => he2 (Prod.ext h1 h2)]; rfl)
                  · exact .inl (by rw [decide_eq_false h1]; rfl)
                have HC2 := Lib.hid (show c ++ [p[m + 1 + (j + 1)]] = ddL p (m + 1 + (j + 1 + 1)) by rw [AC.out]; exact (ddL_other p (m + 1 + j) hlt2 he2).symm)
                generalize (!decide (p[m + 1 + (j + 1)].1 = p[m + 1 + j].1) || !decide (p[m + 1 + (j + 1)].2 = p[m + 1 + j].2)) = T at ht ⊢
                subst ht
                have hcn : c.length < p.length := by omega
                have gZ : (c ++ p.drop c.length)[c.length]? = some p[c.length] := by
                  rw [List.getElem?_append_right (Nat.le_refl _), List.getElem?_drop, Nat.sub_self, Nat.add_zero]; exact List.getElem?_eq_getElem hcn
                have hll : c.length < (c ++ p.drop c.length).length := by simp; omega
                have rZ := HRN2.out.at2 gZ
                have HS := Lib.hid (HRN2.out.set hll p[m + 1 + (j + 1)])
                have HLS := Lib.hid (set_mid c p p[m + 1 + (j + 1)] hcn)
                clear he2 x0 x1 y0 y1 gX gY gZ
                obtain ⟨z0, z1, z2, z3⟩ := rZ
                generalize p[m + 1 + (j + 1)] = X at *
                generalize p[c.length] = Z at z0 z1
                generalize wr.drewN nq = W2 at *
                have hci : (c.length : Int) < (p.length : Int) := by omega
                have z1' : (W2.setCell ⟨g, c.length * 2, none⟩ (.string ⟨X.1.toArray⟩)).cell? ⟨g, c.length * 2 + 1, none⟩ = some (.string ⟨Z.2.toArray⟩) := (set_other _ _ _ _ _ (by omega)).trans z1
                have z3' : (W2.setCell ⟨g, c.length * 2, none⟩ (.string ⟨X.1.toArray⟩)).frozen? ⟨g, c.length * 2 + 1, none⟩ = false := (World.frozen?_setCell _ _ _ _).trans z3
                go_wp2_with fail
                go_roundg q2
                case measure => omega
                case rel => exact ⟨j + 1, c ++ [X], by omega, by simp, by go_num, by have := AG2.out; show _ = _; omega, by simp; omega, HC2.out, by rw [← HLS.out]; exact HS, World.grownBy.trans (World.grownBy.trans AWN2.out (setCell_grown _ _ _ _)) (setCell_grown _ _ _ _)⟩
            · have hjn : m + 1 + (j + 1) = p.length := by omega
              have hfin : ddL p p.length = c := by rw [← hjn]; exact AC.out.symm
              have Hf := Lib.hid hfin
              have hcn : c.length < p.length := by omega
              have hs1 : ∀ W, (Instr.slice 68 (.slice (some ⟨g, 0, none⟩) p.length cap) (some (.int .i64 (c.length : Int))) none none).run Tryz.prog W = .ok (.slice (some ⟨g, c.length * 2, none⟩) (p.length - c.length) (cap - c.length)) W := fun W => slice_from g p.length cap c.length hcn hc W
              have hs2 : ∀ W, (Instr.slice 68 (.slice (some ⟨g, 0, none⟩) p.length cap) none (some (.int .i64 (c.length : Int))) none).run Tryz.prog W = .ok (.slice (some ⟨g, 0, none⟩) c.length cap) W := fun W => slice_upto g p.length cap c.length (by omega) W
              obtain ⟨W3, hcl, hW3, hg3⟩ := clear_ava HR2.out hcn (cap - c.length)
              clear hfin
              go_wp2_with fail
              go_ret
              exact ⟨by rw [Hf.out]; rfl, by rw [Hf.out]; exact hW3, World.grownBy.trans AW2.out hg3⟩
        · have ht : (decide (p[m + 1].1 = p[m].1) && decide (p[m + 1].2 = p[m].2)) = false := by
            rw [Bool.and_eq_false_iff]
            by_cases h1 : p[m + 1].1 = p[m].1
            · exact .inr (decide_eq_false fun h2 => he (Prod.ext h1 h2))
            · exact .inl (decide_eq_false h1)
          have hdd : ddL p (m + 1 + 1) = p.take (m + 1 + 1) := by rw [ddL_other p m hlt he, AD.out, List.take_succ_eq_append_getElem hlt]
          have HDD := Lib.hid hdd
          have HRN : Hid (RowA (wr.drewN nq) g p) := HR.out.drewN nq
          have AWN : Aside (w.grownBy (wr.drewN nq) (some g)) := ⟨AW.out.os, AW.out.tape, AW.out.output, AW.out.size, AW.out.block⟩
          clear he hdd
          generalize (decide (p[m + 1].1 = p[m].1) && decide (p[m + 1].2 = p[m].2)) = T at ht ⊢
          subst ht
          go_wp2_with fail
          go_roundg q
          case measure => omega
          case rel => exact ⟨m + 1, by omega, by go_num, by have := AG.out; show _ = _; omega, HRN, AWN, HDD.out⟩
      · obtain hm : m + 1 = p.length := by omega
        have hfin : ddL p p.length = p := by have := AD.out; rw [hm, List.take_length] at this; exact this
        have Hf := Lib.hid hfin
        clear hfin
        have hkk : ¬ ((m : Int) + 1 < (p.length : Int)) := by omega
        go_wp2_with fail
        go_ret
        exact ⟨by rw [Hf.out]; rfl, by rw [Hf.out]; exact HR.out, AW.out⟩
end Go.Proofs.YtcjobpcbppcdnaaGreatDoor
/- Contracts: syntax.Part. -/
namespace Go.Proofs.YtcjobpcbppcdnaaGreatDoor
open Go.RowKit Go.Sort

theorem sortA_len (p : List (List UInt8 × List UInt8)) : (sortA p).toList.length = p.length := by
  have := (insertionSort_holds (lt := ltOf avaCmp) avaCmp_ord.swo p.toArray 0 p.length (Nat.zero_le _) (by simp)).1.1
  simpa [sortA] using this
/-- A part's pairs in their order, each once. -/
def partN (p : List (List UInt8 × List UInt8)) : List (List UInt8 × List UInt8) := ddL (sortA p).toList p.length
theorem Part_c (p : List (List UInt8 × List UInt8)) (g cap : Nat) (w : World) (h : RowA w g p) (h12 : p.length ≤ 12) (hc : p.length ≤ cap) :
    Calls Tryz.prog 36 #[.slice (some ⟨g, 0, none⟩) p.length cap] w fun e w' => e = .returned (.slice (some ⟨g, 0, none⟩) (partN p).length cap) ∧ RowA w' g (partN p) ∧ w.grownBy w' (some g) := by
  have hS := Sort_c p g cap w h h12
  have HC := Lib.hid (fun (W : World) (hR : RowA W g (sortA p).toList) => Compact_c (sortA p).toList g cap W hR (by rw [sortA_len]; omega) (by rw [sortA_len]; exact hc))
  rw [sortA_len] at HC
  clear h
  unfold partN
  generalize ddL (sortA p).toList p.length = R at *
  generalize p.length = n at *
  go_enter Tryz.func36, Tryz.ntmps36
  go_wp2_with (first | (go_at_call 68; refine hS.mono ?_; rintro e w1 ⟨rfl, hR1, hg1⟩) | (go_at_call 72; refine (HC.out _ hR1).mono ?_; rintro e w2 ⟨rfl, hR2, hg2⟩))
  go_ret
  exact ⟨rfl, hR2, World.grownBy.trans hg1 hg2⟩
end Go.Proofs.YtcjobpcbppcdnaaGreatDoor
/- A name in memory whose parts are written in place. -/
namespace Go.Proofs.YtcjobpcbppcdnaaGreatDoor
open Go.RowKit Go.Sort

/-- A part in memory: its block, its capacity, its pairs. -/
abbrev PartM := Nat × Nat × List (List UInt8 × List UInt8)
/-- Block gd holds the parts' slices; each part has a block of its own. -/
def NM (B : Nat) (w : World) (gd : Nat) (L : List PartM) : Prop :=
  gd < w.heap.size ∧ B ≤ gd ∧ L.Pairwise (fun x y => x.1 ≠ y.1) ∧ ∀ (i : Nat) (x : PartM), L[i]? = some x →
    w.cell? ⟨gd, i, none⟩ = some (.slice (some ⟨x.1, 0, none⟩) x.2.2.length x.2.1) ∧ w.frozen? ⟨gd, i, none⟩ = false ∧ RowA w x.1 x.2.2 ∧ x.2.2.length ≤ x.2.1 ∧ B ≤ x.1 ∧ x.1 ≠ gd
theorem RowA.keep {w w' : World} {g : Nat} {l : List (List UInt8 × List UInt8)} (h : RowA w g l) {r : Option Nat} (hg : w.grownBy w' r) (hne : some g ≠ r) : RowA w' g l := by
  have hb := hg.block g h.1 hne
  refine ⟨Nat.lt_of_lt_of_le h.1 hg.size, fun j x hj => ?_⟩
  have := h.2 j x hj
  rw [World.cell?_of_block (w := w) (w' := w') (a := ⟨g, 2 * j, none⟩) hb, World.cell?_of_block (w := w) (w' := w') (a := ⟨g, 2 * j + 1, none⟩) hb, World.frozen?_of_block (w := w) (w' := w') (a := ⟨g, 2 * j, none⟩) hb, World.frozen?_of_block (w := w) (w' := w') (a := ⟨g, 2 * j + 1, none⟩) hb]
  exact this
/-- One part is written anew, and its slice. -/
theorem NM.part {B : Nat} {w w1 : World} {gd i : Nat} {L : List PartM} {x : PartM} {p : List (List UInt8 × List UInt8)} (h : NM B w gd L) (hi : L[i]? = some x)
    (hg : w.grownBy w1 (some x.1)) (hr : RowA w1 x.1 p) (hc : p.length ≤ x.2.1) :
    NM B (w1.setCell ⟨gd, i, none⟩ (.slice (some ⟨x.1, 0, none⟩) p.length x.2.1)) gd (L.set i (x.1, x.2.1, p)) := by
  obtain ⟨h1, h2, h3, h4⟩ := h
  have hx := h4 i x hi
  have hil : i < L.length := (List.getElem?_eq_some_iff.1 hi).1
  have hbd : w1.heap[gd]? = w.heap[gd]? := hg.block gd h1 (by intro e; exact hx.2.2.2.2.2 (Option.some.inj e).symm)
  have hs := setCell_grown w1 gd i (.slice (some ⟨x.1, 0, none⟩) p.length x.2.1)
  refine ⟨Nat.lt_of_lt_of_le h1 (Nat.le_trans hg.size hs.size), h2, ?_, fun k y hk => ?_⟩
  · rw [List.pairwise_iff_getElem] at h3 ⊢
    intro a b ha hb hab
    have hxe : L[i] = x := (List.getElem?_eq_some_iff.1 hi).2
    simp only [List.length_set] at ha hb
    have := h3 a b ha hb hab
    simp only [List.getElem_set]
    split <;> split
    · omega
    · next e _ => subst e; rw [hxe] at this; exact this
    · next _ e => subst e; rw [hxe] at this; exact this
    · exact this
  · rw [List.getElem?_set] at hk
    rw [World.frozen?_setCell]
    by_cases hik : i = k
    · subst hik
      rw [if_pos rfl, if_pos hil] at hk
      cases hk
      refine ⟨set_same _ _ _ _ _ ((World.cell?_of_block (a := ⟨gd, i, none⟩) hbd).trans hx.1), (World.frozen?_of_block (a := ⟨gd, i, none⟩) hbd).trans hx.2.1, hr.keep hs (by intro e; exact hx.2.2.2.2.2 (Option.some.inj e)), hc, hx.2.2.2.2.1, hx.2.2.2.2.2⟩
    · rw [if_neg hik] at hk
      have hy := h4 k y hk
      have hne : y.1 ≠ x.1 := by
        rw [List.pairwise_iff_getElem] at h3
        have hkl : k < L.length := (List.getElem?_eq_some_iff.1 hk).1
        have e1 : L[i] = x := (List.getElem?_eq_some_iff.1 hi).2
        have e2 : L[k] = y := (List.getElem?_eq_some_iff.1 hk).2
        rcases Nat.lt_or_gt_of_ne hik with hlt | hlt
        · have := h3 i k hil hkl hlt; rw [e1, e2] at this; exact Ne.symm this
        · have := h3 k i hkl hil hlt; rw [e1, e2] at this; exact this
      refine ⟨(set_other _ _ _ _ _ (by omega)).trans ((World.cell?_of_block (a := ⟨gd, k, none⟩) hbd).trans hy.1), (World.frozen?_of_block (a := ⟨gd, k, none⟩) hbd).trans hy.2.1, (hy.2.2.1.keep hg (by intro e; exact hne (Option.some.inj e))).keep hs (by intro e; exact hy.2.2.2.2.2 (Option.some.inj e)), hy.2.2.2.1, hy.2.2.2.2.1, hy.2.2.2.2.2⟩
end Go.Proofs.YtcjobpcbppcdnaaGreatDoor
/- From a name that is read to a name that is written in place. -/
namespace Go.Proofs.YtcjobpcbppcdnaaGreatDoor
open Go.RowKit Go.Sort

def partM (v : Value) (p : List (List UInt8 × List UInt8)) : PartM := match v with
  | .slice (some a) _ c => (a.block, c, p)
  | _ => (0, 0, p)
theorem Avas.some {B : Nat} {w : World} {v : Value} {p : List (List UInt8 × List UInt8)} (h : Avas B w v p) (hp : p ≠ []) : ∃ g c, v = .slice (some ⟨g, 0, none⟩) p.length c ∧ p.length ≤ c ∧ B ≤ g := by
  obtain ⟨⟨h1, h2⟩, h3⟩ := h
  rcases h2 with ⟨rfl, hn⟩ | ⟨g, cap, cur, rfl, r2, r3, r4, _⟩
  · exact absurd (List.eq_nil_of_length_eq_zero hn) hp
  · exact ⟨g, cap, rfl, r4, r2⟩
theorem DnAt.nm {B gd n c : Nat} {w : World} {d : List (List (List UInt8 × List UInt8))} (h : DnAt B w (.slice (some ⟨gd, 0, none⟩) n c) d) (hne : ∀ p ∈ d, p ≠ []) :
    ∃ L : List PartM, L.map (·.2.2) = d ∧ NM B w gd L := by
  obtain ⟨vs, hrow, hB, hP, hpw⟩ := h
  have hlen := hP.len
  refine ⟨List.zipWith partM vs d, ?_, ?_⟩
  · apply List.ext_getElem
    · simp [hlen]
    · intro i h1 h2
      simp only [List.getElem_map, List.getElem_zipWith]
      unfold partM
      split <;> rfl
  · have hgd := (hrow.lt gd rfl)
    have hget : ∀ (i : Nat) (x : PartM), (List.zipWith partM vs d)[i]? = some x → ∃ p v, d[i]? = some p ∧ vs[i]? = some v ∧ Avas B w v p ∧ ∃ g c, v = .slice (some ⟨g, 0, none⟩) p.length c ∧ p.length ≤ c ∧ B ≤ g ∧ x = (g, c, p) := by
      intro i x hx
      obtain ⟨hil, hxe⟩ := List.getElem?_eq_some_iff.1 hx
      have hid : i < d.length := by simp at hil; omega
      obtain ⟨v, hv, hA⟩ := hP.get i d[i] (List.getElem?_eq_getElem hid)
      obtain ⟨g, c, rfl, hc, hg⟩ := hA.some (hne _ (List.getElem_mem hid))
      refine ⟨d[i], _, List.getElem?_eq_getElem hid, hv, hA, g, c, rfl, hc, hg, ?_⟩
      rw [← hxe, List.getElem_zipWith]
      have : vs[i]'(by omega) = .slice (some ⟨g, 0, none⟩) d[i].length c := by
        rw [List.getElem?_eq_getElem (by omega)] at hv; exact Option.some.inj hv
      rw [this]; rfl
    refine ⟨hgd.2, hgd.1, ?_, ?_⟩
    · rw [List.pairwise_iff_getElem] at hpw ⊢
      intro i j hi hj hij
      obtain ⟨p, v, hp, hv, hA, g, c, rfl, hc, hg, hx⟩ := hget i _ (List.getElem?_eq_getElem hi)
      obtain ⟨p', v', hp', hv', hA', g', c', rfl, hc', hg', hx'⟩ := hget j _ (List.getElem?_eq_getElem hj)
      obtain ⟨hil, hiv⟩ := List.getElem?_eq_some_iff.1 hv
      obtain ⟨hjl, hjv⟩ := List.getElem?_eq_some_iff.1 hv'
      have := hpw i j hil hjl hij
      rw [hiv, hjv] at this
      rw [hx, hx']
      rcases this with e | e
      · cases e
      · intro e2; apply e; simp only [Value.ownBlock]; exact congrArg Option.some e2
    · intro i x hx
      obtain ⟨p, v, hp, hv, hA, g, cc, rfl, hc, hg, rfl⟩ := hget i x hx
      have hid : i < d.length := (List.getElem?_eq_some_iff.1 hp).1
      obtain ⟨h1, h2⟩ := hrow
      rcases h2 with ⟨hn, _⟩ | ⟨g', cap, cur, e, r2, r3, r4, r5, r6, r7⟩
      · cases hn
      · cases e
        have hcell : w.cell? ⟨gd, i, none⟩ = some (.slice (some ⟨g, 0, none⟩) p.length cc) := by
          rw [← r7, List.getElem?_take] at hv
          rw [if_pos (by omega)] at hv
          simp only [World.cell?, r3]
          simpa using hv
        refine ⟨hcell, by simp [World.frozen?, r3], hA.row, hc, hg, ?_⟩
        intro e
        have hA2 := hA.1.2
        rcases hA2 with ⟨hn, _⟩ | ⟨g2, cap2, cur2, e2, _, r3', _⟩
        · cases hn
        · cases e2
          simp only at e
          subst e
          rw [r3] at r3'
          cases r3'
theorem partL_ne : ∀ (n : Nat) (r r' : List UInt8) (acc l : List (List UInt8 × List UInt8)), acc ≠ [] → partL n r acc = some (l, r') → l ≠ []
  | 0, r, r', acc, l, ha, h => by
    rw [partL] at h
    split at h
    · cases h
    · cases h; exact ha
  | n + 1, r, r', acc, l, ha, h => by
    rw [partL] at h
    split at h
    · split at h
      · cases h
      · exact partL_ne n _ r' _ l (by simp) h
    · cases h; exact ha
theorem partR_ne {r r' : List UInt8} {l : List (List UInt8 × List UInt8)} (h : partR r = some (l, r')) : l ≠ [] := by
  unfold partR at h
  split at h
  · cases h
  · exact partL_ne _ _ _ _ _ (by simp) h
theorem nameL_ne : ∀ (n : Nat) (r r' : List UInt8) (acc l : List (List (List UInt8 × List UInt8))), (∀ p ∈ acc, p ≠ []) → nameL n r acc = some (l, r') → ∀ p ∈ l, p ≠ []
  | 0, r, r', acc, l, ha, h => by
    rw [nameL] at h
    split at h
    · cases h
    · cases h; exact ha
  | n + 1, r, r', acc, l, ha, h => by
    rw [nameL] at h
    split at h
    · split at h
      · cases h
      · next x r2 hp => exact nameL_ne n r2 r' _ l (by intro p hp'; simp at hp'; rcases hp' with hp' | rfl; exact ha p hp'; exact partR_ne hp) h
    · cases h; exact ha
theorem parseL_ne {s : List UInt8} : ∀ p ∈ (parseL s).2, p ≠ [] := by
  unfold parseL
  split
  · simp
  · split
    · simp
    · next d hd =>
      split
      · simp
      · intro p hp
        unfold nameR at hd
        split at hd
        · cases hd; simp at hp
        · rcases hq : partR s with _ | ⟨q, r⟩
          · rw [hq] at hd; cases hd
          · rw [hq] at hd
            simp only [nameGo] at hd
            rcases hn : nameL r.length r [q] with _ | ⟨d', r'⟩
            · rw [hn] at hd; cases hd
            · rw [hn] at hd
              simp only [nameFin] at hd
              split at hd
              · cases hd
                exact nameL_ne _ _ _ _ _ (by simpa using partR_ne hq) hn p hp
              · cases hd
end Go.Proofs.YtcjobpcbppcdnaaGreatDoor
/- Contracts: syntax.name. -/
namespace Go.Proofs.YtcjobpcbppcdnaaGreatDoor
open Go.RowKit Go.Sort

/-- A pair's normal form. -/
def normA (x : List UInt8 × List UInt8) : List UInt8 × List UInt8 := (smallL x.1, (prepL x.2 true).getD x.2)
def normP (p : List (List UInt8 × List UInt8)) : List (List UInt8 × List UInt8) := partN (p.map normA)
/-- A name's normal form. -/
def nameN (s : List UInt8) : Option (List UInt8) := if (parseL s).1 = 0 then (if (printL ((parseL s).2.map normP)).1 = 0 then some (printL ((parseL s).2.map normP)).2 else none) else none
theorem NM.dnR {B : Nat} {w : World} {gd c : Nat} {L : List PartM} (h : NM B w gd L) (hc : L.length ≤ c) : DnR w (.slice (some ⟨gd, 0, none⟩) L.length c) (L.map (·.2.2)) := by
  refine ⟨some ⟨gd, 0, none⟩, c, by rw [List.length_map], by rw [List.length_map]; exact hc, .inr ⟨gd, 0, rfl, h.1, fun j p hj => ?_⟩⟩
  rw [List.getElem?_map] at hj
  cases hx : L[j]? with
  | none => rw [hx] at hj; cases hj
  | some x =>
    rw [hx] at hj
    cases hj
    have hy := h.2.2.2 j x hx
    refine ⟨_, by rw [Nat.zero_add]; exact hy.1, some ⟨x.1, 0, none⟩, x.2.1, rfl, hy.2.2.2.1, .inr ⟨x.1, 0, rfl, hy.2.2.1.1, fun i y hi => ?_⟩⟩
    have := hy.2.2.1.2 i y hi
    rw [Nat.zero_add]
    exact ⟨this.1.1, this.2.1⟩
theorem ddL_mem {α : Type} [DecidableEq α] (p : List α) : ∀ n, ∀ x ∈ ddL p n, x ∈ p
  | 0, x, h => by simp [ddL] at h
  | n + 1, x, h => by
    rw [ddL] at h
    split at h
    · exact ddL_mem p n x h
    · next y hy =>
      split at h
      · exact ddL_mem p n x h
      · rw [List.mem_append] at h
        rcases h with h | h
        · exact ddL_mem p n x h
        · rw [List.mem_singleton] at h; subst h; exact List.mem_of_getElem? hy
theorem ddL_len {α : Type} [DecidableEq α] (p : List α) : ∀ n, (ddL p n).length ≤ n
  | 0 => by simp [ddL]
  | n + 1 => by
    have := ddL_len p n
    rw [ddL]
    split
    · omega
    · split
      · omega
      · simp; omega
theorem sortA_perm (p : List (List UInt8 × List UInt8)) : (sortA p).toList.Perm p := by
  have h := (insertionSort_holds (lt := ltOf avaCmp) avaCmp_ord.swo p.toArray 0 p.length (Nat.zero_le _) (by simp)).1
  have h2 := h.2.2
  have e1 : ((Sort.insertionSort (ltOf avaCmp) p.toArray 0 p.length).extract 0 p.length) = Sort.insertionSort (ltOf avaCmp) p.toArray 0 p.length := by
    have : (Sort.insertionSort (ltOf avaCmp) p.toArray 0 p.length).size = p.length := by simpa using h.1
    generalize Sort.insertionSort (ltOf avaCmp) p.toArray 0 p.length = R at this ⊢
    rw [← this]; simp
  have e2 : (p.toArray.extract 0 p.length) = p.toArray := by simp
  rw [e1, e2] at h2
  exact h2
theorem partN_mem (p : List (List UInt8 × List UInt8)) : ∀ x ∈ partN p, x ∈ p := fun x h => (sortA_perm p).mem_iff.1 (ddL_mem _ _ x h)
theorem partN_len (p : List (List UInt8 × List UInt8)) : (partN p).length ≤ p.length := ddL_len _ _
section
variable (Q : List UInt8 × List UInt8 → Prop) (hQ : ∀ r x r', pairR r = some (x, r') → Q x)
include hQ
theorem partL_all : ∀ (n : Nat) (r r' : List UInt8) (acc l : List (List UInt8 × List UInt8)), (∀ x ∈ acc, Q x) → partL n r acc = some (l, r') → ∀ x ∈ l, Q x
  | 0, r, r', acc, l, ha, h => by
    rw [partL] at h
    split at h
    · cases h
    · cases h; exact ha
  | n + 1, r, r', acc, l, ha, h => by
    rw [partL] at h
    split at h
    · split at h
      · cases h
      · next x r2 hp => exact partL_all n r2 r' _ l (by intro y hy; simp at hy; rcases hy with hy | rfl; exact ha y hy; exact hQ _ _ _ hp) h
    · cases h; exact ha
theorem partR_all {r r' : List UInt8} {l : List (List UInt8 × List UInt8)} (h : partR r = some (l, r')) : ∀ x ∈ l, Q x := by
  unfold partR at h
  split at h
  · cases h
  · next x r2 hp => exact partL_all Q hQ _ _ _ _ _ (by simpa using hQ _ _ _ hp) h
theorem nameL_all : ∀ (n : Nat) (r r' : List UInt8) (acc l : List (List (List UInt8 × List UInt8))), (∀ p ∈ acc, ∀ x ∈ p, Q x) → nameL n r acc = some (l, r') → ∀ p ∈ l, ∀ x ∈ p, Q x
  | 0, r, r', acc, l, ha, h => by
    rw [nameL] at h
    split at h
    · cases h
    · cases h; exact ha
  | n + 1, r, r', acc, l, ha, h => by
    rw [nameL] at h
    split at h
    · split at h
      · cases h
      · next x r2 hp => exact nameL_all n r2 r' _ l (by intro p hp'; simp at hp'; rcases hp' with hp' | rfl; exact ha p hp'; exact partR_all Q hQ hp) h
    · cases h; exact ha
theorem parseL_all {s : List UInt8} : ∀ p ∈ (parseL s).2, ∀ x ∈ p, Q x := by
  unfold parseL
  split
  · simp
  · split
    · simp
    · next d hd =>
      split
      · simp
      · intro p hp
        unfold nameR at hd
        split at hd
        · cases hd; simp at hp
        · rcases hq : partR s with _ | ⟨q, r⟩
          · rw [hq] at hd; cases hd
          · rw [hq] at hd
            simp only [nameGo] at hd
            rcases hn : nameL r.length r [q] with _ | ⟨d', r'⟩
            · rw [hn] at hd; cases hd
            · rw [hn] at hd
              simp only [nameFin] at hd
              split at hd
              · cases hd
                exact nameL_all Q hQ _ _ _ _ _ (by simpa using partR_all Q hQ hq) hn p hp
              · cases hd
end
theorem pairR_type {r r' : List UInt8} {x : List UInt8 × List UInt8} (h : pairR r = some (x, r')) : isTypeL x.1 = true := by
  unfold pairR at h
  split at h
  · cases h
  · next t r2 ht =>
    split at h
    · split at h
      · cases h
      · cases h
        unfold typR at ht
        split at ht
        · next hi => cases ht; exact hi
        · cases ht
    · cases h
theorem parse_type {s : List UInt8} : ∀ p ∈ (parseL s).2, ∀ x ∈ p, isTypeL x.1 = true := parseL_all (fun x => isTypeL x.1 = true) (fun _ _ _ h => pairR_type h)
theorem smallL_len (l : List UInt8) : (smallL l).length = l.length := by simp [smallL]
end Go.Proofs.YtcjobpcbppcdnaaGreatDoor
