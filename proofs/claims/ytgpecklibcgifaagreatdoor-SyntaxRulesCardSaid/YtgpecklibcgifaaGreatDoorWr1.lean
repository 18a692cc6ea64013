/- Contracts of the document's answer: chapter 1: Lower, Compare, Digit, Rune, Good, Text. -/
import Derived.Test.YtgpecklibcgifaaGreatDoorW8
import Derived.Test.YtgpecklibcgifaaGreatDoorW2
import Derived.Test.YtgpecklibcgifaaGreatDoorW4
set_option linter.all false
namespace Go.Proofs.YtgpecklibcgifaaGreatDoor
open Go.RowKit

set_option maxRecDepth 10000 in
set_option maxHeartbeats 1000000 in
theorem Lower_r (l : List UInt8) (w : World) (hl : l.length ≤ 140737488351232) :
    Calls Tryz.prog 44 #[.string ⟨l.toArray⟩] w fun e w' => e = .returned (.string ⟨(smallL l).toArray⟩) ∧ Below w.heap.size w w' := by
  have hcv := Lib.run_convert_string_bytes (P := Tryz.prog) w 9 88 5 ⟨l.toArray⟩ Tryz.underlying9 Tryz.underlying88 Tryz.underlying5
  go_enter Tryz.func44, Tryz.ntmps44
  go_wp2
  clear hcv
  go_loopg [4] l.length (fun gk i wr => ∃ k : Nat, k ≤ l.length ∧ i = .int .i64 k ∧ Aside (k + gk = l.length) ∧ Below w.heap.size w wr ∧ w.heap.size < wr.heap.size ∧ Aside (∀ j (hj : j < l.length), wr.cell? ⟨w.heap.size, j, none⟩ = some (.int .u8 ((if j < k then lowB l[j] else l[j]).toNat))) ∧ Aside (∀ j, j < l.length → wr.frozen? ⟨w.heap.size, j, none⟩ = false))
  case atStart =>
    refine ⟨0, by omega, rfl, by show _ = _; omega, ⟨rfl, rfl, rfl, by rw [Lib.bytesWorld_size]; omega, fun k hk => Lib.bytesWorld_at_old _ _ _ _ hk⟩, by rw [Lib.bytesWorld_size]; omega, ?_, ?_⟩
    · intro j hj
      rw [Lib.bytesWorld_cell _ _ _ _ hj]
      simp [List.getD, hj]
    · intro j hj
      simp only [World.frozen?, Lib.bytesWorld_at_new]
      have : j < (Lib.bytesCells w 5 ⟨l.toArray⟩).size := by simp [Lib.bytesCells]; omega
      simp; omega
  case round =>
    obtain ⟨k, hk, rfl, AG, hB, hsz, AC, AF⟩ := hrel
    by_cases hlt : k < l.length
    · have hck := AC.out k hlt
      rw [if_neg (by omega)] at hck
      have hfk := AF.out k hlt
      have hcap := grownCap_ge w l.length 0 5
      obtain ⟨q, rfl⟩ : ∃ q, gk = q + 1 := ⟨gk - 1, by have := AG.out; omega⟩
      by_cases hc : 65 ≤ l[k].toNat ∧ l[k].toNat ≤ 90
      · have hc1 : (65 : Int) ≤ (l[k].toNat : Int) := by omega
        have hc2 : (l[k].toNat : Int) ≤ 90 := by omega
        go_wp2
        go_roundg q
        case measure => omega
        case rel =>
          refine ⟨k + 1, by omega, by go_num, by have := AG.out; show _ = _; omega, hB.setCell (Nat.le_refl _) _, by simpa [World.setCell] using hsz, ?_, ?_⟩
          · intro j hj
            by_cases hjk : j = k
            · subst hjk
              rw [World.cell?_setCell_same _ _ _ hck, if_pos (by omega)]
              simp only [lowB, if_pos hc, UInt8.toNat_add]
              have : (l[j].toNat + (32 : UInt8).toNat) % 2 ^ 8 = l[j].toNat + 32 := by show (l[j].toNat + 32) % 256 = _; omega
              rw [this]; rfl
            · rw [World.cell?_setCell_other _ _ _ _ (by intro h; injection h with _ h; exact hjk h.symm), AC.out j hj]
              by_cases h : j < k
              · rw [if_pos h, if_pos (by omega)]
              · rw [if_neg h, if_neg (by omega)]
          · intro j hj
            rw [World.frozen?_setCell]; exact AF.out j hj
      · go_wp2
        all_goals
          go_roundg q
          case measure => omega
          case rel =>
            refine ⟨k + 1, by omega, by go_num, by have := AG.out; show _ = _; omega, hB, hsz, ?_, AF.out⟩
            intro j hj
            rw [AC.out j hj]
            by_cases h : j < k
            · rw [if_pos h, if_pos (by omega)]
            · by_cases hjk : j = k
              · subst hjk
                rw [if_neg h, if_pos (by omega)]
                simp only [lowB, if_neg hc]
              · rw [if_neg h, if_neg (by omega)]
    · obtain rfl : k = l.length := by omega
      have hcap := grownCap_ge w l.length 0 5
      have hst := run_convert_bytes_back (P := Tryz.prog) wr 88 9 5 ⟨w.heap.size, 0, none⟩ (grownCap w l.length 0 5) (smallL l) Tryz.underlying88 Tryz.underlying5 Tryz.underlying9 (by
        intro j hj
        have hj' : j < l.length := by simpa [smallL] using hj
        have hadd : (⟨w.heap.size, 0, none⟩ : Addr).add j = ⟨w.heap.size, j, none⟩ := by unfold Addr.add; split <;> simp_all
        rw [hadd, AC.out j hj', if_pos hj']
        simp [smallL])
      rw [show (smallL l).length = l.length by simp [smallL]] at hst
      go_wp2
      go_ret
      exact ⟨rfl, hB⟩
theorem cmp_drop {a b : List UInt8} {k : Nat} (ha : k < a.length) (hb : k < b.length) : cmpB (a.drop k) (b.drop k) = if a[k].toNat < b[k].toNat then -1 else if b[k].toNat < a[k].toNat then 1 else cmpB (a.drop (k + 1)) (b.drop (k + 1)) := by
  rw [List.drop_eq_getElem_cons ha, List.drop_eq_getElem_cons hb]
  unfold cmpB
  simp only [Lib.compareBytes, UInt8.lt_iff_toNat_lt]
set_option maxRecDepth 10000 in
set_option maxHeartbeats 1000000 in
theorem Compare_r (a b : List UInt8) (w : World) (la : a.length ≤ 1099511627776) (lb : b.length ≤ 1099511627776) :
    Calls Tryz.prog 47 #[.string ⟨a.toArray⟩, .string ⟨b.toArray⟩] w fun e w' => e = .returned (.int .i64 (cmpB a b)) ∧ Below w.heap.size w w' := by
  have hget := ba_get
  go_enter Tryz.func47, Tryz.ntmps47
  go_wp2
  go_loopg [5] a.length (fun gk i wr => ∃ k : Nat, k ≤ a.length ∧ k ≤ b.length ∧ i = .int .i64 k ∧ Aside (k + gk = a.length) ∧ Below w.heap.size w wr ∧ Aside (cmpB a b = cmpB (a.drop k) (b.drop k)))
  case atStart => exact ⟨0, by omega, by omega, rfl, by show _ = _; omega, Below.refl _ _, rfl⟩
  case round =>
    obtain ⟨k, hk, hk2, rfl, AG, hB, AS⟩ := hrel
    by_cases ha : k < a.length
    · by_cases hb : k < b.length
      · obtain ⟨q, rfl⟩ : ∃ q, gk = q + 1 := ⟨gk - 1, by have := AG.out; omega⟩
        have AS' : Aside (cmpB a b = if a[k].toNat < b[k].toNat then -1 else if b[k].toNat < a[k].toNat then 1 else cmpB (a.drop (k + 1)) (b.drop (k + 1))) := by show _ = _; rw [AS.out, cmp_drop ha hb]
        have k0 : (0 : Int) ≤ (k : Int) := by omega
        clear AS
        rcases Nat.lt_trichotomy a[k].toNat b[k].toNat with h | h | h
        · have hfin : cmpB a b = -1 := by rw [AS'.out, if_pos h]
          have Hf := Lib.hid hfin
          have h1 : (a[k].toNat : Int) < (b[k].toNat : Int) := by omega
          clear hfin AS'
          go_wp2_with fail
          go_quiet (fail)
          go_wp2_with fail
          go_ret
          exact ⟨reti (by rw [Hf.out]), below_drewN hB _⟩
        · have hfin : cmpB a b = cmpB (a.drop (k + 1)) (b.drop (k + 1)) := by rw [AS'.out, if_neg (by omega), if_neg (by omega)]
          have Hf := Lib.hid hfin
          have h1 : ¬ (a[k].toNat : Int) < (b[k].toNat : Int) := by omega
          have h2 : ¬ (b[k].toNat : Int) < (a[k].toNat : Int) := by omega
          clear hfin AS' h
          go_wp2_with fail
          go_quiet (fail)
          go_wp2_with fail
          go_quiet (fail)
          go_wp2_with fail
          go_roundg q
          case measure => omega
          case rel => exact ⟨k + 1, by omega, by omega, by go_num, by have := AG.out; show _ = _; omega, below_drewN hB _, Hf.out⟩
        · have hfin : cmpB a b = 1 := by rw [AS'.out, if_neg (by omega), if_pos h]
          have Hf := Lib.hid hfin
          have h1 : ¬ (a[k].toNat : Int) < (b[k].toNat : Int) := by omega
          have h2 : (b[k].toNat : Int) < (a[k].toNat : Int) := by omega
          clear hfin AS' h
          go_wp2_with fail
          go_quiet (fail)
          go_wp2_with fail
          go_quiet (fail)
          go_wp2_with fail
          go_ret
          exact ⟨reti (by rw [Hf.out]), below_drewN (below_drewN hB _) _⟩
      · have hfin : cmpB a b = 1 := by
          rw [AS.out, List.drop_eq_getElem_cons ha, show b.drop k = [] from List.drop_eq_nil_of_le (by omega)]; rfl
        have Hf := Lib.hid hfin
        clear hfin AS
        go_wp2_with fail
        go_ret
        exact ⟨reti (by rw [Hf.out]), hB⟩
    · obtain rfl : k = a.length := by omega
      by_cases hb : a.length < b.length
      · have hfin : cmpB a b = -1 := by
          rw [AS.out, List.drop_eq_nil_of_le (Nat.le_refl _), List.drop_eq_getElem_cons hb]; rfl
        have Hf := Lib.hid hfin
        clear hfin AS
        go_wp2_with fail
        go_ret
        exact ⟨reti (by rw [Hf.out]), hB⟩
      · have hfin : cmpB a b = 0 := by
          rw [AS.out, List.drop_eq_nil_of_le (Nat.le_refl _), List.drop_eq_nil_of_le (by omega)]; rfl
        have Hf := Lib.hid hfin
        clear hfin AS
        go_wp2_with fail
        go_ret
        exact ⟨reti (by rw [Hf.out]), hB⟩
set_option maxHeartbeats 400000 in
theorem Digit_r (c : Int) (w : World) (h0 : 0 ≤ c) (h1 : c < 256) :
    Calls Tryz.prog 157 #[.int .u8 c] w fun e w' => e = .returned (.int .i64 (digitV c)) ∧ w = w' := by
  go_enter Tryz.func157, Tryz.ntmps157
  go_wp2
  all_goals (go_ret; refine ⟨reti ?_, rfl⟩; unfold digitV; repeat' split)
  all_goals (first | omega | (simp; omega))
end Go.Proofs.YtgpecklibcgifaaGreatDoor
/- Contracts of the document's answer: chapter 1: Rune, Good, Text. -/
namespace Go.Proofs.YtgpecklibcgifaaGreatDoor
open Go.RowKit

/-- The four bytes at a place; what is beyond the end: 0. -/
def bt (l : List UInt8) (i j : Nat) : Nat := ((l.drop i).getD j 0).toNat
theorem bt_get {l : List UInt8} {i j : Nat} (h : i + j < l.length) : l[i + j].toNat = bt l i j := by
  unfold bt
  rw [List.getD_eq_getElem?_getD, List.getElem?_drop, List.getElem?_eq_getElem h]; rfl
theorem bt_lt (l : List UInt8) (i j : Nat) : bt l i j < 256 := UInt8.toNat_lt _
theorem dec_bt (l : List UInt8) (i : Nat) : Lib.decodeL (l.drop i) = Lib.decodeN (l.length - i) (bt l i 0) (bt l i 1) (bt l i 2) (bt l i 3) := by
  rw [Lib.decodeL_N, List.length_drop]; rfl
def runeV (d : Nat × Nat) : Value := .tuple #[.int .i32 d.1, .int .i64 d.2]
def RuneRet (w : World) (d : Nat × Nat) (e : Ending) (w' : World) : Prop := e = .returned (runeV d) ∧ w = w'
theorem dec_ascii {n b0 b1 b2 b3 : Nat} (h : b0 < 128) : Lib.decodeN n b0 b1 b2 b3 = (b0, 1) := by unfold Lib.decodeN; rw [if_pos h]
theorem dec_two {n b0 b1 b2 b3 : Nat} (h1 : 194 ≤ b0) (h2 : b0 ≤ 223) : Lib.decodeN n b0 b1 b2 b3 = if 1 < n ∧ 128 ≤ b1 ∧ b1 ≤ 191 then ((b0 - 192) * 64 + b1 - 128, 2) else (65533, 1) := by
  unfold Lib.decodeN
  by_cases h : 1 < n ∧ 128 ≤ b1 ∧ b1 ≤ 191
  · rw [if_pos h, if_neg (by omega), if_pos (by omega), if_pos (by omega)]
    apply Prod.ext <;> simp only <;> omega
  · rw [if_neg h, if_neg (by omega), if_neg (by omega), if_neg (by omega), if_neg (by omega)]
def ok3 (n b1 b2 : Nat) : Prop := 2 < n ∧ (128 ≤ b1 ∧ b1 ≤ 191) ∧ 128 ≤ b2 ∧ b2 ≤ 191
instance (n b1 b2 : Nat) : Decidable (ok3 n b1 b2) := by unfold ok3; infer_instance
def v3 (b0 b1 b2 : Nat) : Nat := ((b0 - 224) * 64 + b1 - 128) * 64 + b2 - 128
theorem dec_three {n b0 b1 b2 b3 : Nat} (h1 : 224 ≤ b0) (h2 : b0 ≤ 239) : Lib.decodeN n b0 b1 b2 b3 = if ok3 n b1 b2 ∧ 2048 ≤ v3 b0 b1 b2 ∧ ¬ (55296 ≤ v3 b0 b1 b2 ∧ v3 b0 b1 b2 ≤ 57343) then (v3 b0 b1 b2, 3) else (65533, 1) := by
  unfold Lib.decodeN
  by_cases h : ok3 n b1 b2
  · unfold ok3 at h
    have e : b0 % 16 * 4096 + b1 % 64 * 64 + b2 % 64 = v3 b0 b1 b2 := by unfold v3; omega
    rw [if_neg (by omega), if_neg (by omega), if_pos (by omega), e]
    have hv : v3 b0 b1 b2 < 65536 := by unfold v3; omega
    generalize v3 b0 b1 b2 = V at *
    by_cases hc : 2048 ≤ V ∧ ¬ (55296 ≤ V ∧ V ≤ 57343)
    · rw [if_pos (by omega), if_pos ⟨h, hc⟩]
    · rw [if_neg (by omega), if_neg (fun x => hc x.2)]
  · have hr : ¬ (ok3 n b1 b2 ∧ 2048 ≤ v3 b0 b1 b2 ∧ ¬ (55296 ≤ v3 b0 b1 b2 ∧ v3 b0 b1 b2 ≤ 57343)) := fun x => h x.1
    unfold ok3 at h
    rw [if_neg (by omega), if_neg (by omega), if_neg (by omega), if_neg (by omega), if_neg hr]
def ok4 (n b1 b2 b3 : Nat) : Prop := 3 < n ∧ (128 ≤ b1 ∧ b1 ≤ 191) ∧ (128 ≤ b2 ∧ b2 ≤ 191) ∧ 128 ≤ b3 ∧ b3 ≤ 191
instance (n b1 b2 b3 : Nat) : Decidable (ok4 n b1 b2 b3) := by unfold ok4; infer_instance
def v4 (b0 b1 b2 b3 : Nat) : Nat := (((b0 - 240) * 64 + b1 - 128) * 64 + b2 - 128) * 64 + b3 - 128
theorem dec_four {n b0 b1 b2 b3 : Nat} (h1 : 240 ≤ b0) (h2 : b0 ≤ 244) : Lib.decodeN n b0 b1 b2 b3 = if ok4 n b1 b2 b3 ∧ 65536 ≤ v4 b0 b1 b2 b3 ∧ v4 b0 b1 b2 b3 ≤ 1114111 then (v4 b0 b1 b2 b3, 4) else (65533, 1) := by
  unfold Lib.decodeN
  by_cases h : ok4 n b1 b2 b3
  · unfold ok4 at h
    have e : b0 % 8 * 262144 + b1 % 64 * 4096 + b2 % 64 * 64 + b3 % 64 = v4 b0 b1 b2 b3 := by unfold v4; omega
    rw [if_neg (by omega), if_neg (by omega), if_neg (by omega), if_pos (by omega), e]
    generalize v4 b0 b1 b2 b3 = V at *
    by_cases hc : 65536 ≤ V ∧ V ≤ 1114111
    · rw [if_pos (by omega), if_pos ⟨h, hc⟩]
    · rw [if_neg (by omega), if_neg (fun x => hc x.2)]
  · have hr : ¬ (ok4 n b1 b2 b3 ∧ 65536 ≤ v4 b0 b1 b2 b3 ∧ v4 b0 b1 b2 b3 ≤ 1114111) := fun x => h x.1
    unfold ok4 at h
    rw [if_neg (by omega), if_neg (by omega), if_neg (by omega), if_neg (by omega), if_neg hr]
section
variable (l : List UInt8) (i : Nat) (w : World) (hi : i < l.length) (hl : l.length ≤ 1099511627776)
include hi hl
set_option maxRecDepth 100000
set_option maxHeartbeats 2000000
theorem rune_one (h : bt l i 0 < 128) : Calls Tryz.prog 121 #[.string ⟨l.toArray⟩, .int .i64 i] w (RuneRet w (Lib.decodeL (l.drop i))) := by
  have hget := ba_get
  rw [dec_bt, dec_ascii h]
  have e0 : l[i].toNat = bt l i 0 := bt_get (l := l) (i := i) (j := 0) hi
  generalize bt l i 0 = b0 at *
  have e0' : (l[i].toNat : Int) = (b0 : Int) := by omega
  have hb : (b0 : Int) < 128 := by omega
  clear e0
  go_enter Tryz.func121, Tryz.ntmps121
  go_wp2
  go_ret2
  exact ⟨rfl, rfl⟩
theorem rune_bad (h : (128 ≤ bt l i 0 ∧ bt l i 0 < 194) ∨ 244 < bt l i 0) : Calls Tryz.prog 121 #[.string ⟨l.toArray⟩, .int .i64 i] w (RuneRet w (Lib.decodeL (l.drop i))) := by
  have hget := ba_get
  have hlt := bt_lt l i 0
  rw [dec_bt, Lib.decodeN_bad _ _ _ _ _ (by omega)]
  have e0 : l[i].toNat = bt l i 0 := bt_get (l := l) (i := i) (j := 0) hi
  generalize bt l i 0 = b0 at *
  have e0' : (l[i].toNat : Int) = (b0 : Int) := by omega
  have h1 : ¬ (b0 : Int) < 128 := by omega
  clear e0
  rcases h with h | h
  · have h2 : ¬ (194 : Int) ≤ (b0 : Int) := by omega
    have h3 : ¬ (224 : Int) ≤ (b0 : Int) := by omega
    have h4 : ¬ (240 : Int) ≤ (b0 : Int) := by omega
    go_enter Tryz.func121, Tryz.ntmps121
    go_wp2
    go_ret2
    exact ⟨rfl, rfl⟩
  · have h2 : ¬ (b0 : Int) ≤ 223 := by omega
    have h3 : ¬ (b0 : Int) ≤ 239 := by omega
    have h4 : ¬ (b0 : Int) ≤ 244 := by omega
    go_enter Tryz.func121, Tryz.ntmps121
    go_wp2
    go_ret2
    exact ⟨rfl, rfl⟩
theorem rune_two (h1 : 194 ≤ bt l i 0) (h2 : bt l i 0 ≤ 223) : Calls Tryz.prog 121 #[.string ⟨l.toArray⟩, .int .i64 i] w (RuneRet w (Lib.decodeL (l.drop i))) := by
  have hget := ba_get
  have hD := dec_two (n := l.length - i) (b1 := bt l i 1) (b2 := bt l i 2) (b3 := bt l i 3) h1 h2
  rw [← dec_bt] at hD
  generalize Lib.decodeL (l.drop i) = D at *
  have HD := Lib.hid hD
  clear hD
  have e0 : l[i].toNat = bt l i 0 := bt_get (l := l) (i := i) (j := 0) hi
  have e1 := fun h => bt_get (l := l) (i := i) (j := 1) h
  have lt1 := bt_lt l i 1
  generalize bt l i 0 = b0 at *
  generalize bt l i 1 = b1 at *
  have e0' : (l[i].toNat : Int) = (b0 : Int) := by omega
  have q0 : ¬ (b0 : Int) < 128 := by omega
  have q1 : (194 : Int) ≤ (b0 : Int) := by omega
  have q2 : (b0 : Int) ≤ 223 := by omega
  clear e0
  by_cases hn : 1 < l.length - i
  · have e1' : (l[i + 1].toNat : Int) = (b1 : Int) := by have := e1 (by omega); omega
    clear e1
    have hn1 : ¬ (l.length : Int) < (i : Int) + 2 := by omega
    have HN := Lib.hid hn
    go_enter Tryz.func121, Tryz.ntmps121
    go_wp2_with fail
    go_loop [8, 10, 11] (fun v k _ => (k = .int .i64 1 ∧ v = .int .i64 ((b0 : Int) - 192)) ∨ (k = .int .i64 2 ∧ v = .int .i64 (((b0 : Int) - 192) * 64 + (b1 : Int) - 128) ∧ (128 : Int) ≤ (b1 : Int) ∧ (b1 : Int) ≤ 191)) (fun _ k _ => (10 - intOf k).toNat)
    case atStart => exact .inl ⟨rfl, rfl⟩
    case round =>
      rcases hrel with ⟨rfl, rfl⟩ | ⟨rfl, rfl, c1a, c1b⟩
      · by_cases ca : (b1 : Int) < 128
        · go_wp2_with fail
          go_ret2
          refine ⟨?_, rfl⟩
          rw [HD.out, if_neg (by have := HN.out; omega)]; rfl
        · by_cases cb : (191 : Int) < (b1 : Int)
          · go_wp2_with fail
            go_ret2
            refine ⟨?_, rfl⟩
            rw [HD.out, if_neg (by have := HN.out; omega)]; rfl
          · go_wp2_with fail
            go_round
            case rel => exact Or.inr (⟨rfl, rfl, by omega, by omega⟩)
            case measure => simp [intOf]
      · have hok : 1 < l.length - i ∧ 128 ≤ b1 ∧ b1 ≤ 191 := by have := HN.out; omega
        have hV : (((b0 : Int) - 192) * 64 + (b1 : Int) - 128) = (((b0 - 192) * 64 + b1 - 128 : Nat) : Int) := by omega
        rw [hV]
        have hmax : (b0 - 192) * 64 + b1 - 128 < 2048 := by omega
        have hmin : 128 ≤ (b0 - 192) * 64 + b1 - 128 := by omega
        have hd : D = ((b0 - 192) * 64 + b1 - 128, 2) := by rw [HD.out, if_pos hok]
        clear hok hV HD HN
        generalize (b0 - 192) * 64 + b1 - 128 = V at *
        have Hd := Lib.hid hd
        clear hd
        clear c1a c1b lt1
        have r1 : ¬ ((V : Int) < 128) := by omega
        have r2 : ¬ ((1114111 : Int) < (V : Int)) := by omega
        have r3 : ¬ ((55296 : Int) ≤ (V : Int)) := by omega
        go_wp2_with fail
        go_ret2
        exact ⟨by rw [Hd.out]; rfl, rfl⟩
  · have hn1 : (l.length : Int) < (i : Int) + 2 := by omega
    have hd : D = (65533, 1) := by rw [HD.out, if_neg (by omega)]
    subst hd
    clear HD e1 hn
    go_enter Tryz.func121, Tryz.ntmps121
    go_wp2_with fail
    go_ret2
    exact ⟨rfl, rfl⟩
theorem rune_three (h1 : 224 ≤ bt l i 0) (h2 : bt l i 0 ≤ 239) : Calls Tryz.prog 121 #[.string ⟨l.toArray⟩, .int .i64 i] w (RuneRet w (Lib.decodeL (l.drop i))) := by
  have hget := ba_get
  have hD := dec_three (n := l.length - i) (b1 := bt l i 1) (b2 := bt l i 2) (b3 := bt l i 3) h1 h2
  rw [← dec_bt] at hD
  generalize Lib.decodeL (l.drop i) = D at *
  have HD := Lib.hid hD
  clear hD
  have e0 : l[i].toNat = bt l i 0 := bt_get (l := l) (i := i) (j := 0) hi
  have e1 := fun h => bt_get (l := l) (i := i) (j := 1) h
  have lt1 := bt_lt l i 1
  have e2 := fun h => bt_get (l := l) (i := i) (j := 2) h
  have lt2 := bt_lt l i 2
  generalize bt l i 0 = b0 at *
  generalize bt l i 1 = b1 at *
  generalize bt l i 2 = b2 at *
  have e0' : (l[i].toNat : Int) = (b0 : Int) := by omega
  have q0 : ¬ (b0 : Int) < 128 := by omega
  have p194 : ¬ (b0 : Int) ≤ 223 := by omega
  have q1 : (224 : Int) ≤ (b0 : Int) := by omega
  have q2 : (b0 : Int) ≤ 239 := by omega
  clear e0
  by_cases hn : 2 < l.length - i
  · have e1' : (l[i + 1].toNat : Int) = (b1 : Int) := by have := e1 (by omega); omega
    have e2' : (l[i + 2].toNat : Int) = (b2 : Int) := by have := e2 (by omega); omega
    clear e1 e2
    have hn1 : ¬ (l.length : Int) < (i : Int) + 3 := by omega
    have HN := Lib.hid hn
    go_enter Tryz.func121, Tryz.ntmps121
    go_wp2_with fail
    go_loop [8, 10, 11] (fun v k _ => (k = .int .i64 1 ∧ v = .int .i64 ((b0 : Int) - 224)) ∨ (k = .int .i64 2 ∧ v = .int .i64 (((b0 : Int) - 224) * 64 + (b1 : Int) - 128) ∧ (128 : Int) ≤ (b1 : Int) ∧ (b1 : Int) ≤ 191) ∨ (k = .int .i64 3 ∧ v = .int .i64 ((((b0 : Int) - 224) * 64 + (b1 : Int) - 128) * 64 + (b2 : Int) - 128) ∧ (128 : Int) ≤ (b1 : Int) ∧ (b1 : Int) ≤ 191 ∧ (128 : Int) ≤ (b2 : Int) ∧ (b2 : Int) ≤ 191)) (fun _ k _ => (10 - intOf k).toNat)
    case atStart => exact .inl ⟨rfl, rfl⟩
    case round =>
      rcases hrel with ⟨rfl, rfl⟩ | ⟨rfl, rfl, c1a, c1b⟩ | ⟨rfl, rfl, c1a, c1b, c2a, c2b⟩
      · by_cases ca : (b1 : Int) < 128
        · go_wp2_with fail
          go_ret2
          refine ⟨?_, rfl⟩
          rw [HD.out, if_neg (by unfold ok3; have := HN.out; omega)]; rfl
        · by_cases cb : (191 : Int) < (b1 : Int)
          · go_wp2_with fail
            go_ret2
            refine ⟨?_, rfl⟩
            rw [HD.out, if_neg (by unfold ok3; have := HN.out; omega)]; rfl
          · go_wp2_with fail
            go_round
            case rel => exact Or.inr (Or.inl ⟨rfl, rfl, by omega, by omega⟩)
            case measure => simp [intOf]
      · by_cases ca : (b2 : Int) < 128
        · go_wp2_with fail
          go_ret2
          refine ⟨?_, rfl⟩
          rw [HD.out, if_neg (by unfold ok3; have := HN.out; omega)]; rfl
        · by_cases cb : (191 : Int) < (b2 : Int)
          · go_wp2_with fail
            go_ret2
            refine ⟨?_, rfl⟩
            rw [HD.out, if_neg (by unfold ok3; have := HN.out; omega)]; rfl
          · go_wp2_with fail
            go_round
            case rel => exact Or.inr (Or.inr (⟨rfl, rfl, by omega, by omega, by omega, by omega⟩))
            case measure => simp [intOf]
      · have hok : ok3 (l.length - i) b1 b2 := by unfold ok3; have := HN.out; omega
        have hV : ((((b0 : Int) - 224) * 64 + (b1 : Int) - 128) * 64 + (b2 : Int) - 128) = ((v3 b0 b1 b2 : Nat) : Int) := by unfold v3; omega
        rw [hV]
        have hmax : v3 b0 b1 b2 < 65536 := by unfold v3; omega
        have hd : D = if 2048 ≤ v3 b0 b1 b2 ∧ ¬ (55296 ≤ v3 b0 b1 b2 ∧ v3 b0 b1 b2 ≤ 57343) then (v3 b0 b1 b2, 3) else (65533, 1) := by
          rw [HD.out]
          by_cases hc : 2048 ≤ v3 b0 b1 b2 ∧ ¬ (55296 ≤ v3 b0 b1 b2 ∧ v3 b0 b1 b2 ≤ 57343)
          · rw [if_pos ⟨hok, hc⟩, if_pos hc]
          · rw [if_neg (fun x => hc x.2), if_neg hc]
        clear hok hV HD HN
        generalize v3 b0 b1 b2 = V at *
        have Hd := Lib.hid hd
        clear hd
        clear c1a c1b lt1 c2a c2b lt2
        by_cases r1 : (V : Int) < 2048
        · go_wp2_with fail
          go_ret2
          exact ⟨by rw [Hd.out, if_neg (by omega)]; rfl, rfl⟩
        · by_cases r2 : (1114111 : Int) < (V : Int)
          · exfalso; omega
          · by_cases r3 : (55296 : Int) ≤ (V : Int)
            · by_cases r4 : (V : Int) ≤ 57343
              · go_wp2_with fail
                go_ret2
                exact ⟨by rw [Hd.out, if_neg (by omega)]; rfl, rfl⟩
              · go_wp2_with fail
                go_ret2
                exact ⟨by rw [Hd.out, if_pos (by omega)]; rfl, rfl⟩
            · go_wp2_with fail
              go_ret2
              exact ⟨by rw [Hd.out, if_pos (by omega)]; rfl, rfl⟩
  · have hn1 : (l.length : Int) < (i : Int) + 3 := by omega
    have hd : D = (65533, 1) := by rw [HD.out, if_neg (by unfold ok3; omega)]
    subst hd
    clear HD e1 e2 hn
    go_enter Tryz.func121, Tryz.ntmps121
    go_wp2_with fail
    go_ret2
    exact ⟨rfl, rfl⟩
theorem rune_four (h1 : 240 ≤ bt l i 0) (h2 : bt l i 0 ≤ 244) : Calls Tryz.prog 121 #[.string ⟨l.toArray⟩, .int .i64 i] w (RuneRet w (Lib.decodeL (l.drop i))) := by
  have hget := ba_get
  have hD := dec_four (n := l.length - i) (b1 := bt l i 1) (b2 := bt l i 2) (b3 := bt l i 3) h1 h2
  rw [← dec_bt] at hD
  generalize Lib.decodeL (l.drop i) = D at *
  have HD := Lib.hid hD
  clear hD
  have e0 : l[i].toNat = bt l i 0 := bt_get (l := l) (i := i) (j := 0) hi
  have e1 := fun h => bt_get (l := l) (i := i) (j := 1) h
  have lt1 := bt_lt l i 1
  have e2 := fun h => bt_get (l := l) (i := i) (j := 2) h
  have lt2 := bt_lt l i 2
  have e3 := fun h => bt_get (l := l) (i := i) (j := 3) h
  have lt3 := bt_lt l i 3
  generalize bt l i 0 = b0 at *
  generalize bt l i 1 = b1 at *
  generalize bt l i 2 = b2 at *
  generalize bt l i 3 = b3 at *
  have e0' : (l[i].toNat : Int) = (b0 : Int) := by omega
  have q0 : ¬ (b0 : Int) < 128 := by omega
  have p194 : ¬ (b0 : Int) ≤ 223 := by omega
  have p224 : ¬ (b0 : Int) ≤ 239 := by omega
  have q1 : (240 : Int) ≤ (b0 : Int) := by omega
  have q2 : (b0 : Int) ≤ 244 := by omega
  clear e0
  by_cases hn : 3 < l.length - i
  · have e1' : (l[i + 1].toNat : Int) = (b1 : Int) := by have := e1 (by omega); omega
    have e2' : (l[i + 2].toNat : Int) = (b2 : Int) := by have := e2 (by omega); omega
    have e3' : (l[i + 3].toNat : Int) = (b3 : Int) := by have := e3 (by omega); omega
    clear e1 e2 e3
    have hn1 : ¬ (l.length : Int) < (i : Int) + 4 := by omega
    have HN := Lib.hid hn
    go_enter Tryz.func121, Tryz.ntmps121
    go_wp2_with fail
    go_loop [8, 10, 11] (fun v k _ => (k = .int .i64 1 ∧ v = .int .i64 ((b0 : Int) - 240)) ∨ (k = .int .i64 2 ∧ v = .int .i64 (((b0 : Int) - 240) * 64 + (b1 : Int) - 128) ∧ (128 : Int) ≤ (b1 : Int) ∧ (b1 : Int) ≤ 191) ∨ (k = .int .i64 3 ∧ v = .int .i64 ((((b0 : Int) - 240) * 64 + (b1 : Int) - 128) * 64 + (b2 : Int) - 128) ∧ (128 : Int) ≤ (b1 : Int) ∧ (b1 : Int) ≤ 191 ∧ (128 : Int) ≤ (b2 : Int) ∧ (b2 : Int) ≤ 191) ∨ (k = .int .i64 4 ∧ v = .int .i64 (((((b0 : Int) - 240) * 64 + (b1 : Int) - 128) * 64 + (b2 : Int) - 128) * 64 + (b3 : Int) - 128) ∧ (128 : Int) ≤ (b1 : Int) ∧ (b1 : Int) ≤ 191 ∧ (128 : Int) ≤ (b2 : Int) ∧ (b2 : Int) ≤ 191 ∧ (128 : Int) ≤ (b3 : Int) ∧ (b3 : Int) ≤ 191)) (fun _ k _ => (10 - intOf k).toNat)
    case atStart => exact .inl ⟨rfl, rfl⟩
    case round =>
      rcases hrel with ⟨rfl, rfl⟩ | ⟨rfl, rfl, c1a, c1b⟩ | ⟨rfl, rfl, c1a, c1b, c2a, c2b⟩ | ⟨rfl, rfl, c1a, c1b, c2a, c2b, c3a, c3b⟩
      · by_cases ca : (b1 : Int) < 128
        · go_wp2_with fail
          go_ret2
          refine ⟨?_, rfl⟩
          rw [HD.out, if_neg (by unfold ok4; have := HN.out; omega)]; rfl
        · by_cases cb : (191 : Int) < (b1 : Int)
          · go_wp2_with fail
            go_ret2
            refine ⟨?_, rfl⟩
            rw [HD.out, if_neg (by unfold ok4; have := HN.out; omega)]; rfl
          · go_wp2_with fail
            go_round
            case rel => exact Or.inr (Or.inl ⟨rfl, rfl, by omega, by omega⟩)
            case measure => simp [intOf]
      · by_cases ca : (b2 : Int) < 128
        · go_wp2_with fail
          go_ret2
          refine ⟨?_, rfl⟩
          rw [HD.out, if_neg (by unfold ok4; have := HN.out; omega)]; rfl
        · by_cases cb : (191 : Int) < (b2 : Int)
          · go_wp2_with fail
            go_ret2
            refine ⟨?_, rfl⟩
            rw [HD.out, if_neg (by unfold ok4; have := HN.out; omega)]; rfl
          · go_wp2_with fail
            go_round
            case rel => exact Or.inr (Or.inr (Or.inl ⟨rfl, rfl, by omega, by omega, by omega, by omega⟩))
            case measure => simp [intOf]
      · by_cases ca : (b3 : Int) < 128
        · go_wp2_with fail
          go_ret2
          refine ⟨?_, rfl⟩
          rw [HD.out, if_neg (by unfold ok4; have := HN.out; omega)]; rfl
        · by_cases cb : (191 : Int) < (b3 : Int)
          · go_wp2_with fail
            go_ret2
            refine ⟨?_, rfl⟩
            rw [HD.out, if_neg (by unfold ok4; have := HN.out; omega)]; rfl
          · go_wp2_with fail
            go_round
            case rel => exact Or.inr (Or.inr (Or.inr (⟨rfl, rfl, by omega, by omega, by omega, by omega, by omega, by omega⟩)))
            case measure => simp [intOf]
      · have hok : ok4 (l.length - i) b1 b2 b3 := by unfold ok4; have := HN.out; omega
        have hV : (((((b0 : Int) - 240) * 64 + (b1 : Int) - 128) * 64 + (b2 : Int) - 128) * 64 + (b3 : Int) - 128) = ((v4 b0 b1 b2 b3 : Nat) : Int) := by unfold v4; omega
        rw [hV]
        have hmax : v4 b0 b1 b2 b3 < 2097152 := by unfold v4; omega
        have hd : D = if 65536 ≤ v4 b0 b1 b2 b3 ∧ v4 b0 b1 b2 b3 ≤ 1114111 then (v4 b0 b1 b2 b3, 4) else (65533, 1) := by
          rw [HD.out]
          by_cases hc : 65536 ≤ v4 b0 b1 b2 b3 ∧ v4 b0 b1 b2 b3 ≤ 1114111
          · rw [if_pos ⟨hok, hc⟩, if_pos hc]
          · rw [if_neg (fun x => hc x.2), if_neg hc]
        clear hok hV HD HN
        generalize v4 b0 b1 b2 b3 = V at *
        have Hd := Lib.hid hd
        clear hd
        clear c1a c1b lt1 c2a c2b lt2 c3a c3b lt3
        by_cases r1 : (V : Int) < 65536
        · go_wp2_with fail
          go_ret2
          exact ⟨by rw [Hd.out, if_neg (by omega)]; rfl, rfl⟩
        · by_cases r2 : (1114111 : Int) < (V : Int)
          · go_wp2_with fail
            go_ret2
            exact ⟨by rw [Hd.out, if_neg (by omega)]; rfl, rfl⟩
          · by_cases r3 : (55296 : Int) ≤ (V : Int)
            · by_cases r4 : (V : Int) ≤ 57343
              · exfalso; omega
              · go_wp2_with fail
                go_ret2
                exact ⟨by rw [Hd.out, if_pos (by omega)]; rfl, rfl⟩
            · exfalso; omega
  · have hn1 : (l.length : Int) < (i : Int) + 4 := by omega
    have hd : D = (65533, 1) := by rw [HD.out, if_neg (by unfold ok4; omega)]
    subst hd
    clear HD e1 e2 e3 hn
    go_enter Tryz.func121, Tryz.ntmps121
    go_wp2_with fail
    go_ret2
    exact ⟨rfl, rfl⟩
theorem Rune_r : Calls Tryz.prog 121 #[.string ⟨l.toArray⟩, .int .i64 i] w (RuneRet w (Lib.decodeL (l.drop i))) := by
  by_cases h1 : bt l i 0 < 128
  · exact rune_one l i w hi hl h1
  by_cases h2 : bt l i 0 < 194
  · exact rune_bad l i w hi hl (by omega)
  by_cases h3 : bt l i 0 ≤ 223
  · exact rune_two l i w hi hl (by omega) h3
  by_cases h4 : bt l i 0 ≤ 239
  · exact rune_three l i w hi hl (by omega) h4
  by_cases h5 : bt l i 0 ≤ 244
  · exact rune_four l i w hi hl (by omega) h5
  exact rune_bad l i w hi hl (by omega)
end
end Go.Proofs.YtgpecklibcgifaaGreatDoor
/- Contracts of the document's answer: Good, Text, PutRune; within, Map, Fold. -/
namespace Go.Proofs.YtgpecklibcgifaaGreatDoor
open Go.RowKit

def goodB (d : Nat × Nat) : Bool := decide (1 < d.2) || (d.2 == 1 && d.1 != 65533)
set_option maxRecDepth 100000 in
set_option maxHeartbeats 1000000 in
theorem Good_r (l : List UInt8) (i : Nat) (w : World) (hi : i < l.length) (hl : l.length ≤ 1099511627776) :
    Calls Tryz.prog 153 #[.string ⟨l.toArray⟩, .int .i64 i] w fun e w' => e = .returned (.bool (goodB (Lib.decodeL (l.drop i)))) ∧ w = w' := by
  have hR := Rune_r l i w hi hl
  generalize Lib.decodeL (l.drop i) = d at *
  obtain ⟨r, n⟩ := d
  by_cases h1 : (1 : Int) < (n : Int)
  · have hg : goodB (r, n) = true := by unfold goodB; simp; omega
    rw [hg]
    go_enter Tryz.func153, Tryz.ntmps153
    go_wp2_with (go_at_call 121; refine hR.mono ?_; rintro e w' ⟨rfl, rfl⟩; simp only [runeV])
    go_ret
    exact ⟨rfl, rfl⟩
  · by_cases h2 : ((n : Int) == 1) = true
    · by_cases h3 : ((r : Int) != 65533) = true
      · have hg : goodB (r, n) = true := by
          unfold goodB; simp at h2 h3 ⊢
          right; omega
        rw [hg]
        go_enter Tryz.func153, Tryz.ntmps153
        go_wp2_with (go_at_call 121; refine hR.mono ?_; rintro e w' ⟨rfl, rfl⟩; simp only [runeV])
        go_ret
        exact ⟨rfl, rfl⟩
      · have h3' : ((r : Int) != 65533) = false := by simpa using h3
        have hg : goodB (r, n) = false := by
          unfold goodB; simp at h2 h3' ⊢
          omega
        rw [hg]
        clear h3
        go_enter Tryz.func153, Tryz.ntmps153
        go_wp2_with (go_at_call 121; refine hR.mono ?_; rintro e w' ⟨rfl, rfl⟩; simp only [runeV])
        go_ret
        exact ⟨rfl, rfl⟩
    · have h2' : ((n : Int) == 1) = false := by simpa using h2
      have hg : goodB (r, n) = false := by
        unfold goodB; simp at h2' ⊢
        omega
      rw [hg]
      clear h2
      go_enter Tryz.func153, Tryz.ntmps153
      go_wp2_with (go_at_call 121; refine hR.mono ?_; rintro e w' ⟨rfl, rfl⟩; simp only [runeV])
      go_ret
      exact ⟨rfl, rfl⟩
theorem good_valid {l : List UInt8} (hl : l ≠ []) : goodB (Lib.decodeL l) = !decide ((Lib.decodeL l).1 = 65533 ∧ (Lib.decodeL l).2 = 1) := by
  have := (decodeL_ok l hl).1
  unfold goodB
  generalize Lib.decodeL l = d at *
  rw [Bool.eq_iff_iff]
  simp
  omega
set_option maxRecDepth 100000 in
set_option maxHeartbeats 1000000 in
theorem Text_r (l : List UInt8) (w : World) (hl : l.length ≤ 1099511627776) :
    Calls Tryz.prog 120 #[.string ⟨l.toArray⟩] w fun e w' => e = .returned (.bool (Lib.validD l)) ∧ w = w' := by
  go_enter Tryz.func120, Tryz.ntmps120
  go_wp2
  go_loop [3] (fun i => ∃ k : Nat, k ≤ l.length ∧ i = .int .i64 k ∧ Aside (Lib.validD l = Lib.validD (l.drop k))) (fun i => l.length - (intOf i).toNat)
  case atStart => exact ⟨0, Nat.zero_le _, rfl, rfl⟩
  case round =>
    obtain ⟨k, hk, rfl, AS⟩ := hrel
    by_cases hlt : k < l.length
    · have hne : l.drop k ≠ [] := by simp; omega
      have hG := Good_r l k w hlt hl
      have hR := Rune_r l k w hlt hl
      rw [good_valid hne] at hG
      have hok := decodeL_ok (l.drop k) hne
      have hst := Lib.validD_step (l.drop k) hne
      rw [List.length_drop] at hok
      rw [List.drop_drop] at hst
      have AS' : Aside (Lib.validD l = if (Lib.decodeL (l.drop k)).1 = 65533 ∧ (Lib.decodeL (l.drop k)).2 = 1 then false else Lib.validD (l.drop (k + (Lib.decodeL (l.drop k)).2))) := by show _ = _; rw [AS.out, hst]
      clear AS hst hne
      generalize Lib.decodeL (l.drop k) = d at *
      obtain ⟨r, n⟩ := d
      simp only at hok hG AS'
      obtain ⟨n1, n2, _, _⟩ := hok
      by_cases hb : r = 65533 ∧ n = 1
      · have hfin : Lib.validD l = false := by rw [AS'.out, if_pos hb]
        have Hf := Lib.hid hfin
        rw [decide_eq_true hb] at hG
        clear hfin AS' hb
        go_wp2_with (go_at_call 153; refine hG.mono ?_; rintro e w' ⟨rfl, rfl⟩)
        go_ret
        exact ⟨retb (by rw [Hf.out]), rfl⟩
      · have hfin : Lib.validD l = Lib.validD (l.drop (k + n)) := by rw [AS'.out, if_neg hb]
        have Hf := Lib.hid hfin
        rw [decide_eq_false hb] at hG
        clear hfin AS' hb
        go_wp2_with (first | (go_at_call 153; refine hG.mono ?_; rintro e w' ⟨rfl, rfl⟩) | (go_at_call 121; refine hR.mono ?_; rintro e w' ⟨rfl, rfl⟩; simp only [runeV]))
        go_round
        case rel => exact ⟨k + n, by omega, by go_num, Hf.out⟩
        case measure => simp [intOf]; omega
    · obtain rfl : k = l.length := by omega
      have hfin : Lib.validD l = true := by rw [AS.out, List.drop_length]; rfl
      have Hf := Lib.hid hfin
      clear hfin AS
      go_wp2_with fail
      go_ret
      exact ⟨retb (by rw [Hf.out]), rfl⟩
theorem conv_new (w : World) (L : List UInt8) : (convert 88 9 (.slice (some ⟨w.heap.size, 0, none⟩) L.length L.length)).run Tryz.prog (w.alloc (.cells (L.map fun c => Value.int .u8 c.toNat).toArray 5)) = .ok (.string ⟨L.toArray⟩) (w.alloc (.cells (L.map fun c => Value.int .u8 c.toNat).toArray 5)) := by
  refine run_convert_bytes_back _ 88 9 5 ⟨w.heap.size, 0, none⟩ L.length L Tryz.underlying88 Tryz.underlying5 Tryz.underlying9 ?_
  intro j hj
  rw [add_off, (Bk.new w 5 _).cell j]
  simp [hj]
set_option maxRecDepth 100000 in
set_option maxHeartbeats 1000000 in
theorem PutRune_r (r : Int) (w : World) (hv : VR r) :
    Calls Tryz.prog 124 #[.int .i32 r] w fun e w' => e = .returned (.tuple #[.string ⟨(encR r).toArray⟩, .int .i64 0]) ∧ Below w.heap.size w w' := by
  have hv' := hv
  unfold VR at hv'
  have b0 : ¬ r < 0 := by omega
  have b1 : ¬ (1114111 : Int) < r := by omega
  have hr0 : 0 ≤ r := by omega
  have b2 : r ≤ 1114111 := by omega
  rcases enc_cases hv with ⟨a, b, e⟩ | ⟨a, b, e⟩ | ⟨a, b, e⟩ | ⟨a, b, e⟩
  · have hc := conv_new w (encR r)
    rw [e] at hc ⊢
    have k0 : ((UInt8.ofNat r.toNat).toNat : Int) = r := by rw [ofN (by omega)]; omega
    simp only [List.map_cons, List.map_nil, k0, List.length_cons, List.length_nil] at hc
    have b3 : ¬ (55296 : Int) ≤ r := by omega
    clear e hv hv'
    go_enter Tryz.func124, Tryz.ntmps124
    go_wp2_with fail
    go_ret2
    exact ⟨rfl, (Below.refl _ _).alloc (Nat.le_refl _) _⟩
  · have hc := conv_new w (encR r)
    rw [e] at hc ⊢
    have k0 : ((UInt8.ofNat (192 + r.toNat / 64)).toNat : Int) = 192 + r / 64 := by rw [ofN (by omega)]; omega
    have k1 : ((UInt8.ofNat (128 + r.toNat % 64)).toNat : Int) = 128 + r % 64 := by rw [ofN (by omega)]; omega
    simp only [List.map_cons, List.map_nil, k0, k1, List.length_cons, List.length_nil] at hc
    have b3 : ¬ (55296 : Int) ≤ r := by omega
    have b4 : ¬ r < 128 := by omega
    have d1 : r / 64 ≤ 31 := by omega
    have d2 : 0 ≤ r / 64 := by omega
    clear e hv hv' k0 k1
    go_enter Tryz.func124, Tryz.ntmps124
    go_wp2_with fail
    go_ret2
    exact ⟨rfl, (Below.refl _ _).alloc (Nat.le_refl _) _⟩
  · have hc := conv_new w (encR r)
    rw [e] at hc ⊢
    have k0 : ((UInt8.ofNat (224 + r.toNat / 4096)).toNat : Int) = 224 + r / 4096 := by rw [ofN (by omega)]; omega
    have k1 : ((UInt8.ofNat (128 + r.toNat / 64 % 64)).toNat : Int) = 128 + r / 64 % 64 := by rw [ofN (by omega)]; omega
    have k2 : ((UInt8.ofNat (128 + r.toNat % 64)).toNat : Int) = 128 + r % 64 := by rw [ofN (by omega)]; omega
    simp only [List.map_cons, List.map_nil, k0, k1, k2, List.length_cons, List.length_nil] at hc
    have b4 : ¬ r < 128 := by omega
    have b5 : ¬ r < 2048 := by omega
    have d1 : r / 4096 ≤ 15 := by omega
    have d2 : 0 ≤ r / 4096 := by omega
    have d3 : r / 64 ≤ 1023 := by omega
    have d4 : 0 ≤ r / 64 := by omega
    clear e hv k0 k1 k2
    by_cases b3 : (55296 : Int) ≤ r
    · have b6 : ¬ r ≤ 57343 := by omega
      clear hv'
      go_enter Tryz.func124, Tryz.ntmps124
      go_wp2_with fail
      go_ret2
      exact ⟨rfl, (Below.refl _ _).alloc (Nat.le_refl _) _⟩
    · clear hv'
      go_enter Tryz.func124, Tryz.ntmps124
      go_wp2_with fail
      go_ret2
      exact ⟨rfl, (Below.refl _ _).alloc (Nat.le_refl _) _⟩
  · have hc := conv_new w (encR r)
    rw [e] at hc ⊢
    have k0 : ((UInt8.ofNat (240 + r.toNat / 262144)).toNat : Int) = 240 + r / 262144 := by rw [ofN (by omega)]; omega
    have k1 : ((UInt8.ofNat (128 + r.toNat / 4096 % 64)).toNat : Int) = 128 + r / 4096 % 64 := by rw [ofN (by omega)]; omega
    have k2 : ((UInt8.ofNat (128 + r.toNat / 64 % 64)).toNat : Int) = 128 + r / 64 % 64 := by rw [ofN (by omega)]; omega
    have k3 : ((UInt8.ofNat (128 + r.toNat % 64)).toNat : Int) = 128 + r % 64 := by rw [ofN (by omega)]; omega
    simp only [List.map_cons, List.map_nil, k0, k1, k2, k3, List.length_cons, List.length_nil] at hc
    have b4 : ¬ r < 128 := by omega
    have b5 : ¬ r < 2048 := by omega
    have b7 : ¬ r < 65536 := by omega
    have b3 : (55296 : Int) ≤ r := by omega
    have b6 : ¬ r ≤ 57343 := by omega
    have d1 : r / 262144 ≤ 4 := by omega
    have d2 : 0 ≤ r / 262144 := by omega
    have d3 : r / 64 ≤ 17408 := by omega
    have d4 : 0 ≤ r / 64 := by omega
    have d5 : r / 4096 ≤ 272 := by omega
    have d6 : 0 ≤ r / 4096 := by omega
    clear e hv k0 k1 k2 k3 hv'
    go_enter Tryz.func124, Tryz.ntmps124
    go_wp2_with fail
    go_ret2
    exact ⟨rfl, (Below.refl _ _).alloc (Nat.le_refl _) _⟩
/-- Is a character in one of the ranges? -/
def inR (r : Int) : List Int → Bool
  | a :: b :: t => (decide (a ≤ r) && decide (r ≤ b)) || inR r t
  | _ => false
theorem inR_step (r : Int) (R : List Int) (k : Nat) (h : k + 1 < R.length) : inR r (R.drop k) = ((decide (R[k] ≤ r) && decide (r ≤ R[k + 1])) || inR r (R.drop (k + 2))) := by
  rw [List.drop_eq_getElem_cons (by omega), List.drop_eq_getElem_cons h, inR]
theorem inR_end (r : Int) (R : List Int) (k : Nat) (h : ¬ k + 1 < R.length) : inR r (R.drop k) = false := by
  cases hd : R.drop k with
  | nil => rfl
  | cons a t =>
    cases t with
    | nil => rfl
    | cons b t => have := congrArg List.length hd; simp at this; omega
set_option maxRecDepth 100000 in
set_option maxHeartbeats 1000000 in
theorem within_r (r : Int) (R : List Int) (b : Nat) (w : World) (hR : R.length ≤ 100) (hc : ∀ j (hj : j < R.length), w.cell? ⟨b, j, none⟩ = some (.int .i32 R[j])) :
    Calls Tryz.prog 154 #[.int .i32 r, .slice (some ⟨b, 0, none⟩) R.length R.length] w fun e w' => e = .returned (.bool (inR r R)) ∧ w = w' := by
  have HC := Lib.hid hc
  clear hc
  go_enter Tryz.func154, Tryz.ntmps154
  go_wp2
  go_loop [5] (fun i => ∃ k : Nat, k ≤ R.length + 1 ∧ i = .int .i64 k ∧ Aside (inR r R = inR r (R.drop k))) (fun i => R.length + 2 - (intOf i).toNat)
  case atStart => exact ⟨0, Nat.zero_le _, rfl, rfl⟩
  case round =>
    obtain ⟨k, hk, rfl, AS⟩ := hrel
    by_cases hlt : k + 1 < R.length
    · have c0 := HC.out k (by omega)
      have c1 := HC.out (k + 1) hlt
      have hlt' : (k : Int) + 1 < (R.length : Int) := by omega
      have AS' : Aside (inR r R = ((decide (R[k] ≤ r) && decide (r ≤ R[k + 1])) || inR r (R.drop (k + 2)))) := by show _ = _; rw [AS.out, inR_step r R k hlt]
      clear AS
      generalize R[k] = x at *
      generalize R[k + 1] = y at *
      by_cases h1 : x ≤ r
      · by_cases h2 : r ≤ y
        · have hfin : inR r R = true := by rw [AS'.out, decide_eq_true h1, decide_eq_true h2]; rfl
          have Hf := Lib.hid hfin
          clear hfin AS'
          go_wp2_with fail
          go_ret
          exact ⟨retb (by rw [Hf.out]), rfl⟩
        · have hfin : inR r R = inR r (R.drop (k + 2)) := by rw [AS'.out, decide_eq_false h2, Bool.and_false, Bool.false_or]
          have Hf := Lib.hid hfin
          clear hfin AS'
          go_wp2_with fail
          go_round
          case rel => exact ⟨k + 2, by omega, by go_num, Hf.out⟩
          case measure => simp [intOf]; omega
      · have hfin : inR r R = inR r (R.drop (k + 2)) := by rw [AS'.out, decide_eq_false h1, Bool.false_and, Bool.false_or]
        have Hf := Lib.hid hfin
        clear hfin AS'
        go_wp2_with fail
        go_round
        case rel => exact ⟨k + 2, by omega, by go_num, Hf.out⟩
        case measure => simp [intOf]; omega
    · have hfin : inR r R = false := by rw [AS.out, inR_end r R k hlt]
      have Hf := Lib.hid hfin
      have hlt' : ¬ (k : Int) + 1 < (R.length : Int) := by omega
      clear hfin AS hlt
      go_wp2_with fail
      go_ret
      exact ⟨retb (by rw [Hf.out]), rfl⟩
end Go.Proofs.YtgpecklibcgifaaGreatDoor
/- Contracts of the document's answer: Map, Fold. -/
namespace Go.Proofs.YtgpecklibcgifaaGreatDoor
open Go.RowKit

theorem cellsI (w : World) (R : List Int) (j : Nat) (hj : j < R.length) : (w.alloc (.cells (R.map (Value.int .i32)).toArray 21)).cell? ⟨w.heap.size, j, none⟩ = some (.int .i32 R[j]) := by
  rw [(Bk.new w 21 _).cell j]; simp [hj]
theorem within_new (r : Int) (R : List Int) (W : World) (hR : R.length ≤ 100) :
    Calls Tryz.prog 154 #[.int .i32 r, .slice (some ⟨W.heap.size, 0, none⟩) R.length R.length] (W.alloc (.cells (R.map (Value.int .i32)).toArray 21)) fun e w' => e = .returned (.bool (inR r R)) ∧ Below W.heap.size W w' :=
  (within_r r R W.heap.size _ hR (cellsI W R)).mono fun _ _ ⟨h1, h2⟩ => ⟨h1, h2 ▸ (Below.refl _ _).alloc (Nat.le_refl _) _⟩
/-- chanceryref3.Map -/
def mapV (r : Int) : Int × Int := if blankR r then (32, 0) else if goesR r then (0, 1) else if refR r then (0, 2) else (r, 0)
def mapVV (x : Int × Int) : Value := .tuple #[.int .i32 x.1, .int .i64 x.2]
theorem in1 (r : Int) : inR r [9, 13, 133, 133, 160, 160, 5760, 5760, 8192, 8202, 8232, 8233, 8239, 8239, 8287, 8287, 12288, 12288] = blankB r := by
  unfold blankB; rw [Bool.eq_iff_iff]; simp only [inR, Bool.or_eq_true, Bool.and_eq_true, decide_eq_true_eq, Bool.or_false]; unfold blankR; omega
theorem in2 (r : Int) : inR r [0, 31, 127, 159, 173, 173, 847, 847, 6150, 6150, 6155, 6158, 8203, 8207, 8234, 8238, 8288, 8303, 65024, 65039, 65279, 65279, 65529, 65532] = goesB r := by
  unfold goesB; rw [Bool.eq_iff_iff]; simp only [inR, Bool.or_eq_true, Bool.and_eq_true, decide_eq_true_eq, Bool.or_false]; unfold goesR; omega
set_option maxRecDepth 100000 in
set_option maxHeartbeats 1000000 in
theorem Map_r (r : Int) (w : World) :
    Calls Tryz.prog 122 #[.int .i32 r] w fun e w' => e = .returned (mapVV (mapV r)) ∧ Below w.heap.size w w' := by
  have H1 : Hid (∀ W : World, Calls Tryz.prog 154 #[.int .i32 r, .slice (some ⟨W.heap.size, 0, none⟩) 18 18] (W.alloc (.cells #[.int .i32 9, .int .i32 13, .int .i32 133, .int .i32 133, .int .i32 160, .int .i32 160, .int .i32 5760, .int .i32 5760, .int .i32 8192, .int .i32 8202, .int .i32 8232, .int .i32 8233, .int .i32 8239, .int .i32 8239, .int .i32 8287, .int .i32 8287, .int .i32 12288, .int .i32 12288] 21)) fun e w' => e = .returned (.bool (inR r [9, 13, 133, 133, 160, 160, 5760, 5760, 8192, 8202, 8232, 8233, 8239, 8239, 8287, 8287, 12288, 12288])) ∧ Below W.heap.size W w') := Lib.hid fun W => within_new r [9, 13, 133, 133, 160, 160, 5760, 5760, 8192, 8202, 8232, 8233, 8239, 8239, 8287, 8287, 12288, 12288] W (by decide)
  have H2 : Hid (∀ W : World, Calls Tryz.prog 154 #[.int .i32 r, .slice (some ⟨W.heap.size, 0, none⟩) 24 24] (W.alloc (.cells #[.int .i32 0, .int .i32 31, .int .i32 127, .int .i32 159, .int .i32 173, .int .i32 173, .int .i32 847, .int .i32 847, .int .i32 6150, .int .i32 6150, .int .i32 6155, .int .i32 6158, .int .i32 8203, .int .i32 8207, .int .i32 8234, .int .i32 8238, .int .i32 8288, .int .i32 8303, .int .i32 65024, .int .i32 65039, .int .i32 65279, .int .i32 65279, .int .i32 65529, .int .i32 65532] 21)) fun e w' => e = .returned (.bool (inR r [0, 31, 127, 159, 173, 173, 847, 847, 6150, 6150, 6155, 6158, 8203, 8207, 8234, 8238, 8288, 8303, 65024, 65039, 65279, 65279, 65529, 65532])) ∧ Below W.heap.size W w') := Lib.hid fun W => within_new r [0, 31, 127, 159, 173, 173, 847, 847, 6150, 6150, 6155, 6158, 8203, 8207, 8234, 8238, 8288, 8303, 65024, 65039, 65279, 65279, 65529, 65532] W (by decide)
  have H3 : Hid (∀ W : World, Calls Tryz.prog 154 #[.int .i32 r, .slice (some ⟨W.heap.size, 0, none⟩) 4 4] (W.alloc (.cells #[.int .i32 55296, .int .i32 63743, .int .i32 65533, .int .i32 65535] 21)) fun e w' => e = .returned (.bool (inR r [55296, 63743, 65533, 65535])) ∧ Below W.heap.size W w') := Lib.hid fun W => within_new r [55296, 63743, 65533, 65535] W (by decide)
  rw [in1] at H1
  rw [in2] at H2
  unfold mapV
  by_cases h1 : blankR r
  · have b1 : blankB r = true := decide_eq_true h1
    rw [b1] at H1
    rw [if_pos h1]
    clear b1 h1 H2 H3
    go_enter Tryz.func122, Tryz.ntmps122
    go_wp2_with (go_at_call 154; refine (H1.out _).mono ?_; rintro e w1 ⟨rfl, hb1⟩)
    go_ret2
    exact ⟨rfl, hb1⟩
  · have b1 : blankB r = false := decide_eq_false h1
    rw [b1] at H1
    rw [if_neg h1]
    by_cases h2 : goesR r
    · have b2 : goesB r = true := decide_eq_true h2
      rw [b2] at H2
      rw [if_pos h2]
      clear b1 b2 h1 h2 H3
      go_enter Tryz.func122, Tryz.ntmps122
      go_wp2_with fail
      refine (H1.out _).mono ?_
      rintro e w1 ⟨rfl, hb1⟩
      go_wp2_with fail
      refine (H2.out _).mono ?_
      rintro e w2 ⟨rfl, hb2⟩
      go_wp2_with fail
      go_ret2
      exact ⟨rfl, hb1.trans (hb2.mono hb1.size)⟩
    · have b2 : goesB r = false := decide_eq_false h2
      rw [b2] at H2
      rw [if_neg h2]
      clear b1 b2 h1 h2
      by_cases h3 : r < 0
      · rw [if_pos (by unfold refR; omega)]
        go_enter Tryz.func122, Tryz.ntmps122
        go_wp2_with fail
        refine (H1.out _).mono ?_
        rintro e w1 ⟨rfl, hb1⟩
        go_wp2_with fail
        refine (H2.out _).mono ?_
        rintro e w2 ⟨rfl, hb2⟩
        go_wp2_with fail
        go_ret2
        exact ⟨rfl, hb1.trans (hb2.mono hb1.size)⟩
      · by_cases h4 : (983040 : Int) ≤ r
        · rw [if_pos (by unfold refR; omega)]
          go_enter Tryz.func122, Tryz.ntmps122
          go_wp2_with fail
          refine (H1.out _).mono ?_
          rintro e w1 ⟨rfl, hb1⟩
          go_wp2_with fail
          refine (H2.out _).mono ?_
          rintro e w2 ⟨rfl, hb2⟩
          go_wp2_with fail
          go_ret2
          exact ⟨rfl, hb1.trans (hb2.mono hb1.size)⟩
        · by_cases h5 : refR r
          · have b3 : inR r [55296, 63743, 65533, 65535] = true := by simp only [inR]; simp; unfold refR at h5; omega
            rw [b3] at H3
            rw [if_pos h5]
            clear b3 h5
            go_enter Tryz.func122, Tryz.ntmps122
            go_wp2_with fail
            refine (H1.out _).mono ?_
            rintro e w1 ⟨rfl, hb1⟩
            go_wp2_with fail
            refine (H2.out _).mono ?_
            rintro e w2 ⟨rfl, hb2⟩
            have hB2 := hb1.trans (hb2.mono hb1.size)
            go_wp2_with fail
            refine (H3.out _).mono ?_
            rintro e w3 ⟨rfl, hb3⟩
            go_wp2_with fail
            go_ret2
            exact ⟨rfl, hB2.trans (hb3.mono hB2.size)⟩
          · have b3 : inR r [55296, 63743, 65533, 65535] = false := by simp only [inR]; simp; unfold refR at h5; omega
            rw [b3] at H3
            rw [if_neg h5]
            clear b3 h5
            go_enter Tryz.func122, Tryz.ntmps122
            go_wp2_with fail
            refine (H1.out _).mono ?_
            rintro e w1 ⟨rfl, hb1⟩
            go_wp2_with fail
            refine (H2.out _).mono ?_
            rintro e w2 ⟨rfl, hb2⟩
            have hB2 := hb1.trans (hb2.mono hb1.size)
            go_wp2_with fail
            refine (H3.out _).mono ?_
            rintro e w3 ⟨rfl, hb3⟩
            go_wp2_with fail
            go_ret2
            exact ⟨rfl, hB2.trans (hb3.mono hB2.size)⟩
set_option maxRecDepth 100000 in
set_option maxHeartbeats 1000000 in
theorem Fold_r (r : Int) (w : World) (h0 : 0 ≤ r) (h1 : r ≤ 1114111) :
    Calls Tryz.prog 123 #[.int .i32 r] w fun e w' => e = .returned (.int .i32 (foldR r)) ∧ Below w.heap.size w w' := by
  have H1 : Hid (∀ W : World, Calls Tryz.prog 154 #[.int .i32 r, .slice (some ⟨W.heap.size, 0, none⟩) 12 12] (W.alloc (.cells #[.int .i32 65, .int .i32 90, .int .i32 192, .int .i32 214, .int .i32 216, .int .i32 222, .int .i32 913, .int .i32 929, .int .i32 931, .int .i32 937, .int .i32 1040, .int .i32 1071] 21)) fun e w' => e = .returned (.bool (inR r [65, 90, 192, 214, 216, 222, 913, 929, 931, 937, 1040, 1071])) ∧ Below W.heap.size W w') := Lib.hid fun W => within_new r [65, 90, 192, 214, 216, 222, 913, 929, 931, 937, 1040, 1071] W (by decide)
  have H2 : Hid (∀ W : World, Calls Tryz.prog 154 #[.int .i32 r, .slice (some ⟨W.heap.size, 0, none⟩) 2 2] (W.alloc (.cells #[.int .i32 1024, .int .i32 1039] 21)) fun e w' => e = .returned (.bool (inR r [1024, 1039])) ∧ Below W.heap.size W w') := Lib.hid fun W => within_new r [1024, 1039] W (by decide)
  have H3 : Hid (∀ W : World, Calls Tryz.prog 154 #[.int .i32 r, .slice (some ⟨W.heap.size, 0, none⟩) 4 4] (W.alloc (.cells #[.int .i32 256, .int .i32 311, .int .i32 330, .int .i32 375] 21)) fun e w' => e = .returned (.bool (inR r [256, 311, 330, 375])) ∧ Below W.heap.size W w') := Lib.hid fun W => within_new r [256, 311, 330, 375] W (by decide)
  cases c1 : inR r [65, 90, 192, 214, 216, 222, 913, 929, 931, 937, 1040, 1071] with
  | true =>
    have hf : foldR r = r + 32 := by
      simp only [inR] at c1; simp at c1; unfold foldR; repeat' split
      all_goals omega
    rw [c1] at H1
    rw [hf]
    clear c1 hf H2 H3
    go_enter Tryz.func123, Tryz.ntmps123
    go_wp2_with (go_at_call 154; refine (H1.out _).mono ?_; rintro e w1 ⟨rfl, hb1⟩)
    go_ret
    exact ⟨rfl, hb1⟩
  | false =>
    rw [c1] at H1
    cases c2 : inR r [1024, 1039] with
    | true =>
      have hf : foldR r = r + 80 := by
        simp only [inR] at c1 c2; simp at c1 c2; unfold foldR; repeat' split
        all_goals omega
      rw [c2] at H2
      rw [hf]
      clear c1 c2 hf H3
      go_enter Tryz.func123, Tryz.ntmps123
      go_wp2_with fail
      refine (H1.out _).mono ?_
      rintro e w1 ⟨rfl, hb1⟩
      go_wp2_with fail
      refine (H2.out _).mono ?_
      rintro e w2 ⟨rfl, hb2⟩
      go_wp2_with fail
      go_ret
      exact ⟨rfl, hb1.trans (hb2.mono hb1.size)⟩
    | false =>
      rw [c2] at H2
      by_cases h7 : r = 7838
      · have hf : foldR r = 223 := by subst h7; decide
        have h7' : ((r : Int) == 7838) = true := beq_iff_eq.2 h7
        rw [hf]
        clear c1 c2 hf H3 h7
        go_enter Tryz.func123, Tryz.ntmps123
        go_wp2_with fail
        refine (H1.out _).mono ?_
        rintro e w1 ⟨rfl, hb1⟩
        go_wp2_with fail
        refine (H2.out _).mono ?_
        rintro e w2 ⟨rfl, hb2⟩
        go_wp2_with fail
        go_ret
        exact ⟨rfl, hb1.trans (hb2.mono hb1.size)⟩
      · have h7' : ((r : Int) == 7838) = false := beq_eq_false_iff_ne.2 h7
        cases c3 : inR r [256, 311, 330, 375] with
        | true =>
          rw [c3] at H3
          by_cases h2 : r % 2 = 0
          · have hf : foldR r = r + 1 := by
              simp only [inR] at c1 c2 c3; simp at c1 c2 c3; unfold foldR; repeat' split
              all_goals omega
            have h2' : ((r % 2 : Int) == 0) = true := beq_iff_eq.2 h2
            rw [hf]
            clear c1 c2 c3 hf h7 h2
            go_enter Tryz.func123, Tryz.ntmps123
            go_wp2_with fail
            refine (H1.out _).mono ?_
            rintro e w1 ⟨rfl, hb1⟩
            go_wp2_with fail
            refine (H2.out _).mono ?_
            rintro e w2 ⟨rfl, hb2⟩
            have hB2 := hb1.trans (hb2.mono hb1.size)
            go_wp2_with fail
            refine (H3.out _).mono ?_
            rintro e w3 ⟨rfl, hb3⟩
            go_wp2_with fail
            go_ret
            exact ⟨rfl, hB2.trans (hb3.mono hB2.size)⟩
          · have hf : foldR r = r := by
              simp only [inR] at c1 c2 c3; simp at c1 c2 c3; unfold foldR; repeat' split
              all_goals omega
            have h2' : ((r % 2 : Int) == 0) = false := beq_eq_false_iff_ne.2 h2
            rw [hf]
            clear c1 c2 c3 hf h7 h2
            go_enter Tryz.func123, Tryz.ntmps123
            go_wp2_with fail
            refine (H1.out _).mono ?_
            rintro e w1 ⟨rfl, hb1⟩
            go_wp2_with fail
            refine (H2.out _).mono ?_
            rintro e w2 ⟨rfl, hb2⟩
            have hB2 := hb1.trans (hb2.mono hb1.size)
            go_wp2_with fail
            refine (H3.out _).mono ?_
            rintro e w3 ⟨rfl, hb3⟩
            go_wp2_with fail
            go_ret
            exact ⟨rfl, hB2.trans (hb3.mono hB2.size)⟩
        | false =>
          rw [c3] at H3
          have hf : foldR r = r := by
            simp only [inR] at c1 c2 c3; simp at c1 c2 c3; unfold foldR; repeat' split
            all_goals omega
          rw [hf]
          clear c1 c2 c3 hf h7
          go_enter Tryz.func123, Tryz.ntmps123
          go_wp2_with fail
          refine (H1.out _).mono ?_
          rintro e w1 ⟨rfl, hb1⟩
          go_wp2_with fail
          refine (H2.out _).mono ?_
          rintro e w2 ⟨rfl, hb2⟩
          have hB2 := hb1.trans (hb2.mono hb1.size)
          go_wp2_with fail
          refine (H3.out _).mono ?_
          rintro e w3 ⟨rfl, hb3⟩
          go_wp2_with fail
          go_ret
          exact ⟨rfl, hB2.trans (hb3.mono hB2.size)⟩
end Go.Proofs.YtgpecklibcgifaaGreatDoor
