import Derived.Test.YtkkbbhlihilnpaaGreatDoorWk4
set_option linter.all false
set_option maxHeartbeats 8000000
set_option maxRecDepth 100000
namespace Go.Proofs.YtkkbbhlihilnpaaGreatDoor
open Go.RowKit
def endI (p : List Key.PlanE) : Option (List Key.PlanE) → Int
 | none => -1
 | some r => (p.length : Int) - r.length
def EndRet (w : World) (x : Int) (e : Ending) (w' : World) : Prop := e = .returned (.int .i64 x) ∧ Below w.heap.size w w'
theorem drop_step {p t tk : List Key.PlanE} {k i : Nat} (h : p.drop k = t) (hi : t.drop i = tk) : p.drop (k + i) = tk := by
 rw [← hi, ← h, List.drop_drop]
theorem of_bne_false {a : Int} (h : (a != 0) = false) : a = 0 := by simpa using h
theorem PlanS.at {w : World} {A : Option Addr} {n c : Nat} {l : List Key.PlanE} (h : PlanS w (.slice A n c) l) (hn : n = l.length) {k : Nat} {x : Key.PlanE} {t : List Key.PlanE} (hk : l.drop k = x :: t) : ∃ b o, A = some ⟨b, o, none⟩ ∧ k < n ∧ w.cell? ⟨b, o + k * 3, none⟩ = some (.int .i64 x.op) ∧ w.cell? ⟨b, o + k * 3 + 1, none⟩ = some (.int .i64 x.n) ∧ w.cell? ⟨b, o + k * 3 + 2, none⟩ = some (.string ⟨x.key.toArray⟩) := by
 obtain ⟨A', c', e, hc, hx⟩ := h
 cases e
 have hl : k < l.length := by
  have : (l.drop k).length = t.length + 1 := by rw [hk]; rfl
  rw [List.length_drop] at this
  omega
 obtain ⟨b, o, rfl, d0, d1, d2⟩ := hx k hl
 have he : l[k] = x := by
  have := List.drop_eq_getElem_cons hl
  rw [hk] at this
  exact (List.cons.inj this).1.symm
 rw [he] at d0 d1 d2
 exact ⟨b, o, rfl, hl, d0, d1, d2⟩
set_option maxRecDepth 100000 in
theorem end14_c (w0 : World) (p : List Key.PlanE) (v : Value) (hp : PlanS w0 v p) (hl : p.length ≤ 1000) : ∀ (f k : Nat) (w : World), (p.drop k).length ≤ f → k ≤ p.length → Below w0.heap.size w0 w →
  Calls Tryz.prog 31 #[v, .int .i64 k] w (EndRet w (endI p (Key.rest f (p.drop k)))) := by
 intro f
 obtain ⟨A, c, rfl, hc⟩ := hp.isSlice
 have HP := Lib.hid hp
 clear hp
 induction f with
 | zero =>
  intro k w hf hk hb
  have hk2 : p.length ≤ k := by rw [List.length_drop] at hf; omega
  have hkk : k = p.length := by omega
  rw [List.drop_eq_nil_of_le hk2, Key.rest_nil]
  subst hkk
  go_enter Tryz.func31, Tryz.ntmps31
  go_wp2_with fail
  go_ret
  exact ⟨rfl, Below.refl _ _⟩
 | succ f ih =>
  intro k w hf hk hb
  cases ht : p.drop k with
  | nil =>
   have hk2 : k = p.length := by
    have : (p.drop k).length = 0 := by rw [ht]; rfl
    rw [List.length_drop] at this
    omega
   rw [Key.rest_nil]
   subst hk2
   clear ih ht
   go_enter Tryz.func31, Tryz.ntmps31
   go_wp2_with fail
   go_ret
   exact ⟨rfl, Below.refl _ _⟩
  | cons x t =>
   rw [ht] at hf
   simp only [List.length_cons] at hf
   obtain ⟨b, o, rfl, hkl, c0, c1, c2⟩ := HP.out.at rfl ht
   have htk : p.drop (k + 1) = t := by rw [← List.drop_drop, ht]; rfl
   have htl : t.length = p.length - (k + 1) := by rw [← htk, List.length_drop]
   have HTK := Lib.hid htk
   have IH := Lib.hid ih
   have d0 := (hb.cell (cell_lt c0)).trans c0
   have d1 := (hb.cell (cell_lt c1)).trans c1
   have d2 := (hb.cell (cell_lt c2)).trans c2
   obtain ⟨R, hR⟩ : ∃ R, Key.rest (f + 1) (x :: t) = R := ⟨_, rfl⟩
   rw [hR]
   have HR := Lib.hid hR
   have hki : (k : Int) < (p.length : Int) := by omega
   clear c0 c1 c2 hR ih ht htk
   obtain ⟨op, n, key⟩ := x
   simp only at d0 d1 d2
   have hba := bel_one w (.cells #[.int .i64 op, .int .i64 n, .string ⟨key.toArray⟩] 26)
   have hkk := Bk.new w 26 #[.int .i64 op, .int .i64 n, .string ⟨key.toArray⟩]
   have m0 := hkk.cell 0
   have m1 := hkk.cell 1
   have m2 := hkk.cell 2
   simp only [List.getElem?_toArray, List.getElem?_cons_zero, List.getElem?_cons_succ] at m0 m1 m2
   have hadd := add_at2
   clear hkk
   by_cases ho : Key.okP ⟨op, n, key⟩
   ·have hR2 : R = Key.times (Key.rest f) n.toNat t := by rw [← HR.out, Key.rest, if_pos ho]
    obtain ⟨o1, o2, o3, o4, o5⟩ := ho
    simp only at o1 o2 o3 o4 o5
    have HR2 := Lib.hid hR2
    have hcs : (op = 0 ∧ (n != 0) = false ∧ key = []) ∨ (op = 1 ∧ (n != 0) = false ∧ key = []) ∨ (op = 2 ∧ (n != 0) = false) ∨ (op = 3 ∧ key = []) ∨ (op = 4 ∧ key = []) := by
     have hb0 : n = 0 → (n != 0) = false := fun h => by rw [h]; rfl
     have : op = 0 ∨ op = 1 ∨ op = 2 ∨ op = 3 ∨ op = 4 := by omega
     rcases this with h | h | h | h | h
     ·exact .inl ⟨h, hb0 (o4 (by omega) (by omega)), o5 (by omega)⟩
     ·exact .inr (.inl ⟨h, hb0 (o4 (by omega) (by omega)), o5 (by omega)⟩)
     ·exact .inr (.inr (.inl ⟨h, hb0 (o4 (by omega) (by omega))⟩))
     ·exact .inr (.inr (.inr (.inl ⟨h, o5 (by omega)⟩)))
     ·exact .inr (.inr (.inr (.inr ⟨h, o5 (by omega)⟩)))
    obtain ⟨N, hN⟩ : ∃ N : Nat, n.toNat = N := ⟨_, rfl⟩
    have hnN : n = (N : Int) := by omega
    rw [hN] at HR2
    subst hnN
    clear HR hR2 o4 o5
    rcases hcs with ⟨rfl, hnz, rfl⟩ | ⟨rfl, hnz, rfl⟩ | ⟨rfl, hnz⟩ | ⟨rfl, rfl⟩ | ⟨rfl, rfl⟩
    all_goals
     go_enter Tryz.func31, Tryz.ntmps31
     go_wp2_with fail
     go_loopg [1, 7] N (fun gk a i wr => ∃ (j : Nat) (tk : List Key.PlanE), j ≤ N ∧ tk.length + j ≤ t.length ∧ a = .int .i64 ((p.length - tk.length : Nat) : Int) ∧ i = .int .i64 (j : Int) ∧ Aside (j + gk = N) ∧ Aside (Key.times (Key.rest f) j t = some tk) ∧ Aside (Below w.heap.size w wr ∧ wr.cell? ⟨w.heap.size, 1, none⟩ = some (.int .i64 (N : Int))))
     case atStart => exact ⟨0, t, by omega, by omega, by rw [show p.length - t.length = k + 1 by omega]; rfl, rfl, by show _ = _; omega, rfl, hba, m1⟩
     case round =>
      clear hba m0 m1 m2
      obtain ⟨j, tk, hjN, hjt, rfl, rfl, AG, AT, AB⟩ := hrel
      have x1 := AB.out.2
      by_cases hlt : j < N
      ·obtain ⟨q, rfl⟩ : ∃ q, gk = q + 1 := ⟨gk - 1, by have := AG.out; omega⟩
       have hdr : p.drop (p.length - tk.length) = tk := by
        have := drop_step HTK.out (Key.times_drop AT.out)
        rwa [show k + 1 + (t.length - tk.length) = p.length - tk.length by omega] at this
       have HC := IH.out (p.length - tk.length) wr (by rw [hdr]; omega) (by omega) (hb.trans (AB.out.1.mono hb.size))
       rw [hdr] at HC
       have HC2 := Lib.hid HC
       clear HC
       cases hrk : Key.rest f tk with
       | none =>
        have hRn : R = none := HR2.out.trans (Key.times_stop AT.out hrk hlt)
        subst hRn
        rw [hrk] at HC2
        unfold endI at HC2
        go_wp2_with (go_at_call 31; (with_reducible refine HC2.out.mono ?_); rintro e w2 ⟨rfl, hb2⟩)
        go_ret
        exact ⟨rfl, AB.out.1.trans (hb2.mono AB.out.1.size)⟩
       | some r =>
        have AT2 := Lib.hid (Key.times_step AT.out hrk)
        have hrl := Key.rest_len _ _ _ hrk
        rw [hrk] at HC2
        unfold endI at HC2
        have hnn : ((p.length : Int) - r.length) = ((p.length - r.length : Nat) : Int) := by omega
        simp only [hnn] at HC2
        go_wp2_with (go_at_call 31; (with_reducible refine HC2.out.mono ?_); rintro e w2 ⟨rfl, hb2⟩; have x2 := (hb2.cell (cell_lt x1)).trans x1)
        go_roundg q
        case measure => omega
        case rel => exact ⟨j + 1, r, by omega, by omega, rfl, by go_num, by have := AG.out; show _ = _; omega, AT2.out, AB.out.1.trans (hb2.mono AB.out.1.size), x2⟩
      ·obtain rfl : j = N := by omega
       have hRs : R = some tk := HR2.out.trans AT.out
       subst hRs
       go_wp2_with fail
       go_ret
       exact ⟨reti (by show ((p.length - tk.length : Nat) : Int) = (p.length : Int) - (tk.length : Int); omega), AB.out.1⟩
   ·have hRn : R = none := by rw [← HR.out, Key.rest, if_neg ho]
    subst hRn
    clear HR IH HTK
    by_cases h5 : op < 0 ∨ 4 < op
    ·have b3 : (op == 3) = false := beq_eq_false_iff_ne.2 (by omega)
     have b4 : (op == 4) = false := beq_eq_false_iff_ne.2 (by omega)
     rcases h5 with h5 | h5
     ·go_enter Tryz.func31, Tryz.ntmps31
      go_wp2_with fail
      go_ret
      exact ⟨rfl, hba⟩
     ·have h0 : ¬ op < 0 := by omega
      go_enter Tryz.func31, Tryz.ntmps31
      go_wp2_with fail
      go_ret
      exact ⟨rfl, hba⟩
    by_cases hn0 : n < 0
    ·have : op = 0 ∨ op = 1 ∨ op = 2 ∨ op = 3 ∨ op = 4 := by omega
     rcases this with rfl | rfl | rfl | rfl | rfl
     all_goals
      go_enter Tryz.func31, Tryz.ntmps31
      go_wp2_with fail
      go_ret
      exact ⟨rfl, hba⟩
    obtain ⟨N, rfl⟩ : ∃ N : Nat, n = N := ⟨n.toNat, by omega⟩
    by_cases hn : N ≠ 0 ∧ (op = 0 ∨ op = 1 ∨ op = 2)
    ·obtain ⟨hN, hop⟩ := hn
     have hnb : ((N : Int) != 0) = true := bne_iff_ne.2 (by omega)
     rcases hop with rfl | rfl | rfl
     all_goals
      go_enter Tryz.func31, Tryz.ntmps31
      go_wp2_with fail
      go_ret
      exact ⟨rfl, hba⟩
    have hcs : (op = 0 ∧ ((N : Int) != 0) = false) ∨ (op = 1 ∧ ((N : Int) != 0) = false) ∨ op = 3 ∨ op = 4 := by
     have hb0 : N = 0 → ((N : Int) != 0) = false := fun h => by rw [h]; rfl
     have h5' : op = 0 ∨ op = 1 ∨ op = 2 ∨ op = 3 ∨ op = 4 := by omega
     rcases h5' with h | h | h | h | h
     ·exact .inl ⟨h, hb0 (by omega)⟩
     ·exact .inr (.inl ⟨h, hb0 (by omega)⟩)
     ·exact absurd ⟨by show (0 : Int) ≤ op; omega, by show op ≤ 4; omega, by show (0 : Int) ≤ (N : Int); omega, fun _ _ => by show (N : Int) = 0; omega, fun h2 => absurd h h2⟩ ho
     ·exact .inr (.inr (.inl h))
     ·exact .inr (.inr (.inr h))
    cases key with
    | nil =>
     refine absurd ⟨by show (0 : Int) ≤ op; omega, by show op ≤ 4; omega, by show (0 : Int) ≤ (N : Int); omega, fun h3 h4 => ?_, fun _ => rfl⟩ ho
     show (N : Int) = 0
     rcases hcs with ⟨_, h⟩ | ⟨_, h⟩ | h | h
     ·exact of_bne_false h
     ·exact of_bne_false h
     ·exact absurd h h3
     ·exact absurd h h4
    | cons ch kt =>
     rcases hcs with ⟨rfl, hnz⟩ | ⟨rfl, hnz⟩ | rfl | rfl
     all_goals
      go_enter Tryz.func31, Tryz.ntmps31
      go_wp2_with fail
      go_ret
      exact ⟨rfl, hba⟩
set_option maxRecDepth 100000 in
theorem rValid14_c (p : List Key.PlanE) (v : Value) (w : World) (hl : p.length ≤ 1000) (hp : PlanS w v p) : Calls Tryz.prog 11 #[v] w fun e w' => e = .returned (.bool (Key.validB p)) ∧ Below w.heap.size w w' := by
 have h0 : Calls Tryz.prog 31 #[v, .int .i64 0] w (EndRet w (endI p (Key.rest p.length p))) := end14_c w p v hp hl p.length 0 w (Nat.le_refl _) (Nat.zero_le _) (Below.refl _ _)
 have HC := Lib.hid h0
 unfold Key.validB
 obtain ⟨A, c, rfl, hc⟩ := hp.isSlice
 clear hp h0
 generalize Key.rest p.length p = R at *
 cases R with
 | none =>
  have hz : ((-1 : Int) == (p.length : Int)) = false := beq_eq_false_iff_ne.2 (by omega)
  unfold endI at HC
  go_enter Tryz.func11, Tryz.ntmps11
  go_wp2_with (go_at_call 31; (with_reducible refine HC.out.mono ?_); rintro e w2 ⟨rfl, hb2⟩)
  go_ret
  exact ⟨rfl, hb2⟩
 | some r =>
  cases r with
  | nil =>
   have hz : ((p.length : Int) - ([] : List Key.PlanE).length) = (p.length : Int) := by simp
   unfold endI at HC
   simp only [hz] at HC
   clear hz
   have hz : ((p.length : Int) == (p.length : Int)) = true := beq_self_eq_true _
   go_enter Tryz.func11, Tryz.ntmps11
   go_wp2_with (go_at_call 31; (with_reducible refine HC.out.mono ?_); rintro e w2 ⟨rfl, hb2⟩)
   go_ret
   exact ⟨rfl, hb2⟩
  | cons x t =>
   have hz : ((p.length : Int) - ((x :: t).length : Int) == (p.length : Int)) = false := beq_eq_false_iff_ne.2 (by simp only [List.length_cons]; omega)
   unfold endI at HC
   go_enter Tryz.func11, Tryz.ntmps11
   go_wp2_with (go_at_call 31; (with_reducible refine HC.out.mono ?_); rintro e w2 ⟨rfl, hb2⟩)
   go_ret
   exact ⟨retb (by simp; omega), hb2⟩
end Go.Proofs.YtkkbbhlihilnpaaGreatDoor
