/- Contracts: dn.isOid, dn.IsType. -/
import Derived.Test.YtgpecklibcgifaaGreatDoorW2
import Derived.Lib.SplitLaws
import Derived.StillTailTactics
set_option linter.all false
namespace Go.Proofs.YtgpecklibcgifaaGreatDoor
open Go.RowKit

theorem ba_eta (x : ByteArray) : (⟨x.data.toList.toArray⟩ : ByteArray) = x := by cases x; simp
theorem splitB_le (sep : ByteArray) : ∀ (k : Nat) (s : ByteArray), ∀ x ∈ Lib.splitB sep 0 k s, x.size ≤ s.size
  | 0, s, x, hx => by simp [Lib.splitB] at hx; subst hx; exact Nat.le_refl _
  | k + 1, s, x, hx => by
    rw [Lib.splitB] at hx
    split at hx
    · simp at hx; subst hx; exact Nat.le_refl _
    · rcases List.mem_cons.1 hx with h | h
      · subst h; simp [ByteArray.size_extract]; omega
      · have := splitB_le sep k _ x h
        simp [ByteArray.size_extract] at this
        omega
/-- What stands between the dots. -/
def segs (l : List UInt8) : List (List UInt8) := (Lib.splitB ⟨#[46]⟩ 0 (Lib.countB ⟨l.toArray⟩ ⟨#[46]⟩) ⟨l.toArray⟩).map (·.data.toList)
theorem segs_le {l x : List UInt8} (h : x ∈ segs l) : x.length ≤ l.length := by
  unfold segs at h
  obtain ⟨y, hy, rfl⟩ := List.mem_map.1 h
  have := splitB_le _ _ _ y hy
  show y.data.size ≤ l.length
  exact this
theorem segs_cnt (l : List UInt8) : (segs l).length = Lib.countB ⟨l.toArray⟩ ⟨#[46]⟩ + 1 ∧ (segs l).length ≤ l.length + 1 := by
  have h1 : (segs l).length = Lib.countB ⟨l.toArray⟩ ⟨#[46]⟩ + 1 := by
    unfold segs
    rw [List.length_map]
    exact Lib.splitB_all ⟨#[46]⟩ (by decide) 0 _ _ rfl
  have h2 : Lib.countB ⟨l.toArray⟩ ⟨#[46]⟩ ≤ (⟨l.toArray⟩ : ByteArray).size := Lib.countB_le ⟨#[46]⟩ (by decide) _ _ (Nat.le_refl _)
  exact ⟨h1, by simp [ByteArray.size] at h2; omega⟩
theorem Split_c (l : List UInt8) (w : World) (hw : Env w) (hl : l.length ≤ 65536) :
    Calls Tryz.prog 117 #[.string ⟨l.toArray⟩, .string ⟨#[46]⟩] w fun e w' => e = .returned (.slice (some ⟨w.heap.size, 0, none⟩) (segs l).length (segs l).length) ∧ w' = w.alloc (.cells ((segs l).map strV).toArray 9) := by
  obtain ⟨m, hm⟩ := hw.mx
  refine (Tryz.strings_Split ⟨l.toArray⟩ ⟨#[46]⟩ m w (by simp [ByteArray.size]; omega) hm (by decide)).mono ?_
  rintro e w' ⟨rfl, rfl⟩
  rw [← (segs_cnt l).1]
  refine ⟨rfl, ?_⟩
  congr 3
  unfold segs
  rw [List.map_map]
  refine List.map_congr_left fun x _ => ?_
  simp [strV]

def segOk (n : List UInt8) : Bool := !n.isEmpty && !(decide (1 < n.length) && n.head? == some 48) && n.all isDig
def isOidL (l : List UInt8) : Bool := (segs l).all segOk && decide (1 < (segs l).length)

set_option maxRecDepth 10000 in
set_option maxHeartbeats 1000000 in
theorem isOid_c (l : List UInt8) (w : World) (hw : Env w) (hl : l.length ≤ 64) :
    Calls Tryz.prog 68 #[.string ⟨l.toArray⟩] w fun e w' => e = .returned (.bool (isOidL l)) ∧ Below w.heap.size w w' := by
  have hget := ba_get
  have hS := Split_c l w hw (by omega)
  unfold isOidL
  have hle : ∀ x ∈ segs l, x.length ≤ l.length := fun x hx => segs_le hx
  have hcnt := (segs_cnt l).2
  generalize segs l = S at *
  have HL := Lib.hid hle
  clear hle
  go_enter Tryz.func68, Tryz.ntmps68
  go_wp2_with (go_at_call 117; refine hS.mono ?_; rintro e w1 ⟨rfl, rfl⟩)
  have hca : ∀ k (hk : k < S.length), (w.alloc (.cells (S.map strV).toArray 9)).cell? ⟨w.heap.size, k, none⟩ = some (.string ⟨S[k].toArray⟩) := by
    intro k hk
    rw [World.cell?_alloc_mark]
    simp [strV, hk]
  have HC := Lib.hid hca
  clear hca hS
  have hsz : w.heap.size < (w.alloc (.cells (S.map strV).toArray 9)).heap.size := by simp
  have hbw : Below w.heap.size w (w.alloc (.cells (S.map strV).toArray 9)) := (Below.refl _ _).alloc (Nat.le_refl _) _
  generalize w.alloc (.cells (S.map strV).toArray 9) = W at *
  go_loopg [10] S.length (fun gk i wr => ∃ k : Nat, k ≤ S.length ∧ i = .int .i64 k ∧ Aside (k + gk = S.length) ∧ Below W.heap.size W wr ∧ Aside (S.all segOk = (S.drop k).all segOk))
  case atStart => exact ⟨0, by omega, rfl, by show _ = _; omega, Below.refl _ _, rfl⟩
  case round =>
    obtain ⟨k, hk, rfl, AG, hB, AS⟩ := hrel
    have hBB : Below w.heap.size w wr := hbw.trans (hB.mono (by omega))
    by_cases hlt : k < S.length
    · have hcell : wr.cell? ⟨w.heap.size, k, none⟩ = some (.string ⟨S[k].toArray⟩) := (hB.cell (p := ⟨w.heap.size, k, none⟩) hsz).trans (HC.out k hlt)
      have hsl : S[k].length ≤ 64 := by have := HL.out _ (List.getElem_mem hlt); omega
      have AS' : Aside (S.all segOk = (segOk S[k] && (S.drop (k + 1)).all segOk)) := by have := AS.out; rw [List.drop_eq_getElem_cons hlt] at this; exact this
      obtain ⟨q, rfl⟩ : ∃ q, gk = q + 1 := ⟨gk - 1, by have := AG.out; omega⟩
      generalize S[k] = n at *
      have hT := fun w => Tryz.strings_Trim_set ⟨n.toArray⟩ ⟨#[48, 49, 50, 51, 52, 53, 54, 55, 56, 57]⟩ w (by simp [ByteArray.size]; omega) (by decide) (asc_of_all (by decide))
      simp only at hT
      have hiff := trimS_nil_iff n [48, 49, 50, 51, 52, 53, 54, 55, 56, 57]
      rw [digits_contains] at hiff
      generalize Lib.trimS n [48, 49, 50, 51, 52, 53, 54, 55, 56, 57] = t at *
      have Hiff := Lib.hid hiff
      clear hiff AS
      cases n with
      | nil =>
        clear hT
        go_wp2
        go_ret
        exact ⟨retb (by rw [AS'.out]; rfl), hBB⟩
      | cons c m =>
        simp only [List.length_cons] at hsl
        by_cases h48 : m ≠ [] ∧ c = 48
        · obtain ⟨hm, rfl⟩ := h48
          have hml : 0 < m.length := List.length_pos_iff.2 hm
          have hso : segOk (48 :: m) = false := by
            have h1 : decide (1 < (48 :: m).length) = true := by rw [decide_eq_true_eq, List.length_cons]; omega
            unfold segOk; rw [h1]; rfl
          have Hso := Lib.hid hso
          clear hT hso hm
          go_wp2
          go_ret
          exact ⟨retb (by rw [AS'.out, Hso.out]; rfl), hBB⟩
        · have hno : segOk (c :: m) = (c :: m).all isDig := by
            unfold segOk
            have : (!(decide (1 < (c :: m).length) && (c :: m).head? == some 48)) = true := by
              rw [Bool.not_eq_true', Bool.and_eq_false_iff]
              by_cases hm : m = []
              · left; subst hm; rfl
              · right
                have hc : c ≠ 48 := fun h => h48 ⟨hm, h⟩
                simp [hc]
            rw [this]; simp
          have Hno := Lib.hid hno
          clear hno
          have h48' : (m.length = 0) ∨ ((c.toNat : Int) == 48) = false := by
            by_cases hm : m = []
            · left; simp [hm]
            · right; rw [beq_eq_false_iff_ne]; intro h; exact h48 ⟨hm, UInt8.toNat_inj.1 (show _ = 48 by omega)⟩
          clear h48
          by_cases ht : t = []
          · have hall : (c :: m).all isDig = true := Hiff.out.1 ht
            have Hall := Lib.hid hall
            subst ht
            clear hall
            rcases h48' with h | h
            · obtain rfl : m = [] := List.eq_nil_of_length_eq_zero h
              go_wp2_with (go_at_call 62; refine (hT _).mono ?_; rintro e w2 ⟨rfl, hb2⟩)
              go_roundg q
              case measure => omega
              case rel => exact ⟨k + 1, by omega, by go_num, by have := AG.out; show _ = _; omega, hB.trans (hb2.mono hB.size), by have := AS'.out; rw [Hno.out, Hall.out] at this; exact this⟩
            · go_wp2_with (go_at_call 62; refine (hT _).mono ?_; rintro e w2 ⟨rfl, hb2⟩)
              all_goals
                go_roundg q
                case measure => omega
                case rel => exact ⟨k + 1, by omega, by go_num, by have := AG.out; show _ = _; omega, hB.trans (hb2.mono hB.size), by have := AS'.out; rw [Hno.out, Hall.out] at this; exact this⟩
          · have hall : (c :: m).all isDig = false := by
              cases h : (c :: m).all isDig
              · rfl
              · exact absurd (Hiff.out.2 h) ht
            have hte : t.isEmpty = false := by cases t <;> simp_all
            have Hall := Lib.hid hall
            clear hall ht
            rcases h48' with h | h
            · obtain rfl : m = [] := List.eq_nil_of_length_eq_zero h
              go_wp2_with (go_at_call 62; refine (hT _).mono ?_; rintro e w2 ⟨rfl, hb2⟩)
              go_ret
              exact ⟨retb (by rw [AS'.out, Hno.out, Hall.out]; rfl), hBB.trans (hb2.mono hBB.size)⟩
            · go_wp2_with (go_at_call 62; refine (hT _).mono ?_; rintro e w2 ⟨rfl, hb2⟩)
              all_goals
                go_ret
                exact ⟨retb (by rw [AS'.out, Hno.out, Hall.out]; rfl), hBB.trans (hb2.mono hBB.size)⟩
    · obtain rfl : k = S.length := by omega
      have hs : S.all segOk = true := by have := AS.out; rw [List.drop_length] at this; exact this
      have Hs := Lib.hid hs
      clear hs AS
      go_wp2
      all_goals
        go_ret
        refine ⟨retb ?_, hBB⟩
        rw [Hs.out, Bool.true_and]
        show decide ((1 : Int) < (S.length : Int)) = _
        exact decide_eq_decide.2 (by omega)

/-- dn.IsType -/
def typeCh (c : UInt8) : Bool := inTypeB c.toNat && !(c == 46)
def isTypeL (l : List UInt8) : Bool := match l with
  | [] => false
  | c :: m => decide ((c :: m).length ≤ 64) && (if letB c.toNat then (c :: m).all typeCh else isOidL (c :: m))

set_option maxRecDepth 10000 in
set_option maxHeartbeats 1000000 in
theorem IsType_let (l : List UInt8) (w : World) (h0 : 0 < l.length) (h64 : l.length ≤ 64) (hlet : letB (l[0].toNat) = true) :
    Calls Tryz.prog 38 #[.string ⟨l.toArray⟩] w fun e w' => e = .returned (.bool (l.all typeCh)) ∧ w = w' := by
  have hget := ba_get
  have hne : l.isEmpty = false := by cases l with | nil => exact absurd h0 (by simp) | cons _ _ => rfl
  have h0' : (0 : Int) < (l.length : Int) := by omega
  have hlc := isLetter_c (l[0].toNat) w
  rw [hlet] at hlc
  clear hlet
  go_enter Tryz.func38, Tryz.ntmps38
  go_wp2_with (first | (go_at_call 67; refine hlc.mono ?_; rintro e w1 ⟨rfl, rfl⟩))
  clear hlc
  go_loopg [21] l.length (fun gk i wr => ∃ k : Nat, k ≤ l.length ∧ i = .int .i64 k ∧ Aside (k + gk = l.length) ∧ Aside (wr = w) ∧ Aside (l.all typeCh = (l.drop k).all typeCh))
  case atStart => exact ⟨0, by omega, rfl, by show _ = _; omega, rfl, rfl⟩
  case round =>
    obtain ⟨k, hk, rfl, AG, AW, AS⟩ := hrel
    obtain rfl : wr = w := AW.out
    by_cases hlt : k < l.length
    · have AS' : Aside (l.all typeCh = (typeCh l[k] && (l.drop (k + 1)).all typeCh)) := by have := AS.out; rw [List.drop_eq_getElem_cons hlt] at this; exact this
      obtain ⟨q, rfl⟩ : ∃ q, gk = q + 1 := ⟨gk - 1, by have := AG.out; omega⟩
      clear AS
      have hit := inType_c (l[k].toNat) wr
      have hpt : typeCh l[k] = (inTypeB l[k].toNat && !(l[k] == 46)) := rfl
      have Hpt := Lib.hid hpt
      clear hpt
      cases h1 : inTypeB l[k].toNat
      · rw [h1] at hit
        have H1 := Lib.hid h1
        clear h1
        go_wp2_with (first | (go_at_call 69; refine hit.mono ?_; rintro e w1 ⟨rfl, rfl⟩))
        go_ret
        exact ⟨retb (by rw [AS'.out, Hpt.out, H1.out]; rfl), rfl⟩
      · rw [h1] at hit
        have H1 := Lib.hid h1
        clear h1
        by_cases h46 : l[k] = 46
        · have h46' : ((l[k].toNat : Int) == 46) = true := by rw [h46]; rfl
          have hb : (l[k] == 46) = true := by simp [h46]
          have Hb := Lib.hid hb
          clear h46 hb
          go_wp2_with (first | (go_at_call 69; refine hit.mono ?_; rintro e w1 ⟨rfl, rfl⟩))
          go_ret
          exact ⟨retb (by rw [AS'.out, Hpt.out, H1.out, Hb.out]; rfl), rfl⟩
        · have h46' : ((l[k].toNat : Int) == 46) = false := by rw [beq_eq_false_iff_ne]; intro h; exact h46 (UInt8.toNat_inj.1 (show _ = 46 by omega))
          have hb : (l[k] == 46) = false := by simp [h46]
          have Hb := Lib.hid hb
          clear h46 hb
          go_wp2_with (first | (go_at_call 69; refine hit.mono ?_; rintro e w1 ⟨rfl, rfl⟩))
          go_roundg q
          case measure => omega
          case rel => exact ⟨k + 1, by omega, by go_num, by have := AG.out; show _ = _; omega, rfl, by have := AS'.out; rw [Hpt.out, H1.out, Hb.out] at this; exact this⟩
    · obtain rfl : k = l.length := by omega
      have hs : l.all typeCh = true := by have := AS.out; rw [List.drop_length] at this; exact this
      have Hs := Lib.hid hs
      clear hs AS
      go_wp2
      go_ret
      exact ⟨retb (by rw [Hs.out]), rfl⟩

set_option maxRecDepth 10000 in
set_option maxHeartbeats 1000000 in
theorem IsType_c (l : List UInt8) (w : World) (hw : Env w) (hl : l.length ≤ 1099511627776) :
    Calls Tryz.prog 38 #[.string ⟨l.toArray⟩] w fun e w' => e = .returned (.bool (isTypeL l)) ∧ Below w.heap.size w w' := by
  cases hl' : l with
  | nil =>
    go_enter Tryz.func38, Tryz.ntmps38
    go_wp2
    go_ret
    exact ⟨rfl, Below.refl _ _⟩
  | cons c m =>
    rw [← hl']
    have h0 : 0 < l.length := by rw [hl']; simp
    have hc0 : l[0] = c := by simp [hl']
    have hne : l.isEmpty = false := by rw [hl']; rfl
    have hty : isTypeL l = (decide (l.length ≤ 64) && (if letB (l[0].toNat) then l.all typeCh else isOidL l)) := by rw [hc0]; rw [hl']; rfl
    rw [hty]
    clear hl' hty hc0
    have hget := ba_get
    have h0' : (0 : Int) < (l.length : Int) := by omega
    by_cases h64 : l.length ≤ 64
    · rw [decide_eq_true h64, Bool.true_and]
      cases hlet : letB l[0].toNat
      · have hO := isOid_c l w hw h64
        have hlc := isLetter_c (l[0].toNat) w
        rw [hlet] at hlc
        clear hlet
        go_enter Tryz.func38, Tryz.ntmps38
        go_wp2_with (first | (go_at_call 67; refine hlc.mono ?_; rintro e w1 ⟨rfl, rfl⟩) | (go_at_call 68; refine hO.mono ?_; rintro e w1 ⟨rfl, hb1⟩))
        go_ret
        exact ⟨rfl, hb1⟩
      · refine (IsType_let l w h0 h64 hlet).mono ?_
        rintro e w' ⟨rfl, rfl⟩
        exact ⟨rfl, Below.refl _ _⟩
    · have h64' : (64 : Int) < (l.length : Int) := by omega
      rw [decide_eq_false h64, Bool.false_and]
      clear h64
      go_enter Tryz.func38, Tryz.ntmps38
      go_wp2_with fail
      go_ret
      exact ⟨rfl, Below.refl _ _⟩
end Go.Proofs.YtgpecklibcgifaaGreatDoor
/- Contracts: the reader of names: ended, is, blanks. -/
namespace Go.Proofs.YtgpecklibcgifaaGreatDoor
open Go.RowKit

/-- The reader in block b stands at byte i of s. -/
def Rd (w : World) (b : Nat) (s : List UInt8) (i : Nat) : Prop := w.heap[b]? = some (.cells #[.string ⟨s.toArray⟩, .int .i64 i] 71 (0, 0))
theorem Rd.lt {w : World} {b i : Nat} {s : List UInt8} (h : Rd w b s i) : b < w.heap.size := (Array.getElem?_eq_some_iff.1 h).1
theorem Rd.c0 {w : World} {b i : Nat} {s : List UInt8} (h : Rd w b s i) : w.cell? ⟨b, 0, none⟩ = some (.string ⟨s.toArray⟩) := by unfold Rd at h; simp [World.cell?, h]
theorem Rd.c1 {w : World} {b i : Nat} {s : List UInt8} (h : Rd w b s i) : w.cell? ⟨b, 1, none⟩ = some (.int .i64 i) := by unfold Rd at h; simp [World.cell?, h]
theorem Rd.f1 {w : World} {b i : Nat} {s : List UInt8} (h : Rd w b s i) : w.frozen? ⟨b, 1, none⟩ = false := by unfold Rd at h; simp [World.frozen?, h]
theorem Rd.set {w : World} {b i : Nat} {s : List UInt8} (h : Rd w b s i) (j : Nat) : Rd (w.setCell ⟨b, 1, none⟩ (.int .i64 j)) b s j := by
  unfold Rd at h ⊢
  simp [World.setCell, Array.getElem?_modify, h]
theorem Rd.below {w w' : World} {b i : Nat} {s : List UInt8} (h : Rd w b s i) (hb : Below w.heap.size w w') : Rd w' b s i := (hb.block b h.lt).trans h
theorem Rd.drewN {w : World} {b i : Nat} {s : List UInt8} (h : Rd w b s i) (n : Nat) : Rd (w.drewN n) b s i := h
theorem grown_set {w : World} {b o : Nat} (v : Value) : w.grownBy (w.setCell ⟨b, o, none⟩ v) (some b) :=
  ⟨rfl, rfl, rfl, by simp [World.setCell], fun k _ hne => Below.heap_setCell _ _ _ _ (by simpa using hne)⟩
theorem grown_below {w w' : World} (hb : Below w.heap.size w w') (r : Option Nat) : w.grownBy w' r := ⟨hb.os, hb.tape, hb.output, hb.size, fun k hk _ => hb.block k hk⟩
theorem grown_drewN (w : World) (n : Nat) (r : Option Nat) : w.grownBy (w.drewN n) r := ⟨rfl, rfl, rfl, Nat.le_refl _, fun _ _ _ => rfl⟩

set_option maxHeartbeats 400000 in
theorem ended_c (b : Nat) (s : List UInt8) (i : Nat) (w : World) (h : Rd w b s i) :
    Calls Tryz.prog 112 #[.pointer (some ⟨b, 0, none⟩)] w fun e w' => e = .returned (.bool ((i : Int) == (s.length : Int))) ∧ ∃ n, w' = w.drewN n := by
  have h0 := h.c0
  have h1 := h.c1
  go_enter Tryz.func112, Tryz.ntmps112
  go_wp2
  go_quiet (fail)
  go_wp2
  go_ret
  exact ⟨rfl, nq, rfl⟩

def isC (s : List UInt8) (i : Nat) (c : Int) : Bool := match s[i]? with
  | some x => (x.toNat : Int) == c
  | none => false

set_option maxRecDepth 10000 in
set_option maxHeartbeats 1000000 in
theorem is_c (b : Nat) (s : List UInt8) (i : Nat) (c : Int) (w : World) (h : Rd w b s i) (hi : i ≤ s.length) :
    Calls Tryz.prog 111 #[.pointer (some ⟨b, 0, none⟩), .int .u8 c] w fun e w' => e = .returned (.bool (isC s i c)) ∧ ∃ n, w' = w.drewN n := by
  have hget := ba_get
  have h0 := h.c0
  have h1 := h.c1
  have hE := fun w' (hR : Rd w' b s i) => ended_c b s i w' hR
  unfold isC
  by_cases hlt : i < s.length
  · have hb : ((i : Int) == (s.length : Int)) = false := by rw [beq_eq_false_iff_ne]; omega
    rw [hb] at hE
    rw [List.getElem?_eq_getElem hlt]
    clear hb
    dsimp only
    have HR := Lib.hid h
    clear h
    have hi0 : (0 : Int) ≤ (i : Int) := by omega
    have hi1 : (i : Int) < (s.length : Int) := by omega
    go_enter Tryz.func111, Tryz.ntmps111
    go_wp2
    go_quiet ((go_at_call 112; exact Calls.quiet_of (hE _ (HR.out.drewN _))))
    go_wp2
    go_ret
    exact ⟨rfl, nq, rfl⟩
  · obtain rfl : i = s.length := by omega
    rw [List.getElem?_eq_none (Nat.le_refl _)]
    dsimp only
    have hb : ((s.length : Int) == (s.length : Int)) = true := by simp
    rw [hb] at hE
    have HR := Lib.hid h
    clear h hb
    go_enter Tryz.func111, Tryz.ntmps111
    go_wp2
    go_quiet ((go_at_call 112; exact Calls.quiet_of (hE _ (HR.out.drewN _))))
    go_wp2
    go_ret
    exact ⟨rfl, nq, rfl⟩
end Go.Proofs.YtgpecklibcgifaaGreatDoor
/- Contracts: the reader of names: blanks, typ. -/
namespace Go.Proofs.YtgpecklibcgifaaGreatDoor
open Go.RowKit

/-- The reader stands ahead of r. -/
def RdAt (w : World) (b : Nat) (s r : List UInt8) : Prop := ∃ i, i ≤ s.length ∧ s.drop i = r ∧ Rd w b s i
theorem RdAt.lt {w : World} {b : Nat} {s r : List UInt8} (h : RdAt w b s r) : b < w.heap.size := by obtain ⟨i, _, _, h⟩ := h; exact h.lt
theorem RdAt.below {w w' : World} {b : Nat} {s r : List UInt8} (h : RdAt w b s r) (hb : Below w.heap.size w w') : RdAt w' b s r := by
  obtain ⟨i, h1, h2, h3⟩ := h; exact ⟨i, h1, h2, h3.below hb⟩
theorem RdAt.drewN {w : World} {b : Nat} {s r : List UInt8} (h : RdAt w b s r) (n : Nat) : RdAt (w.drewN n) b s r := h

theorem isC_drop {s : List UInt8} {i : Nat} (c : Int) : isC s i c = match s.drop i with | [] => false | x :: _ => (x.toNat : Int) == c := by
  unfold isC
  rw [← List.head?_drop]
  cases s.drop i <;> rfl
/-- Does r begin with c? -/
def hd (r : List UInt8) (c : Int) : Bool := match r with | [] => false | x :: _ => (x.toNat : Int) == c
theorem is_at (b : Nat) (s r : List UInt8) (c : Int) (w : World) (h : RdAt w b s r) :
    Calls Tryz.prog 111 #[.pointer (some ⟨b, 0, none⟩), .int .u8 c] w fun e w' => e = .returned (.bool (hd r c)) ∧ ∃ n, w' = w.drewN n := by
  obtain ⟨i, h1, rfl, h3⟩ := h
  refine (is_c b s i c w h3 h1).mono ?_
  rintro e w' ⟨rfl, h⟩
  exact ⟨retb ((isC_drop c).trans rfl), h⟩
theorem drop_succ {s r : List UInt8} {x : UInt8} {i : Nat} (h : s.drop i = x :: r) : i < s.length ∧ s.drop (i + 1) = r := by
  have hi : i < s.length := by
    rcases Nat.lt_or_ge i s.length with h' | h'
    · exact h'
    · rw [List.drop_eq_nil_of_le h'] at h; cases h
  rw [List.drop_eq_getElem_cons hi] at h
  exact ⟨hi, (List.cons.inj h).2⟩

set_option maxRecDepth 10000 in
set_option maxHeartbeats 1000000 in
theorem blanks_c (b : Nat) (s r : List UInt8) (w : World) (h : RdAt w b s r) (hs : s.length ≤ 1099511627776) :
    Calls Tryz.prog 172 #[.pointer (some ⟨b, 0, none⟩)] w fun e w' => e = .returned (.tuple #[]) ∧ RdAt w' b s (r.dropWhile (· == 32)) ∧ w.grownBy w' (some b) := by
  have H := Lib.hid h
  clear h
  go_enter Tryz.func172, Tryz.ntmps172
  go_wp2_with fail
  go_loopg [] r.length (fun gk wr => ∃ r', r'.length ≤ gk ∧ RdAt wr b s r' ∧ Aside (r.dropWhile (· == 32) = r'.dropWhile (· == 32)) ∧ w.grownBy wr (some b))
  case atStart => exact ⟨r, Nat.le_refl _, H.out, rfl, World.grownBy.refl _ _⟩
  case round =>
    obtain ⟨r', hlen, hR, AD, hg⟩ := hrel
    have hI := is_at b s r' 32 wr hR
    obtain ⟨i, hi, hd', hRd⟩ := hR
    cases hh : hd r' 32
    · rw [hh] at hI
      have hfin : r'.dropWhile (· == 32) = r' := by
        cases r' with
        | nil => rfl
        | cons x t =>
          have : (x == 32) = false := by
            rw [beq_eq_false_iff_ne]; intro h; subst h; simp [hd] at hh
          simp [List.dropWhile_cons, this]
      have Hf := Lib.hid hfin
      have Hd := Lib.hid hd'
      clear hh hfin hd'
      go_wp2_with (go_at_call 111; refine hI.mono ?_; rintro e w1 ⟨rfl, n, rfl⟩)
      go_end0
      exact ⟨rfl, by rw [AD.out, Hf.out]; exact ⟨i, hi, Hd.out, hRd⟩, World.grownBy.trans hg (grown_drewN _ _ _)⟩
    · rw [hh] at hI
      obtain ⟨t, rfl⟩ : ∃ t, r' = 32 :: t := by
        cases r' with
        | nil => cases hh
        | cons x t =>
          refine ⟨t, ?_⟩
          simp [hd] at hh
          rw [UInt8.toNat_inj.1 (show x.toNat = (32 : UInt8).toNat from by show _ = 32; omega)]
      have ⟨hlt, hdt⟩ := drop_succ hd'
      have hc1 := hRd.c1
      have hf1 := hRd.f1
      have HR := Lib.hid hRd
      have Hd := Lib.hid hdt
      simp only [List.length_cons] at hlen
      clear hh hd' hdt hRd
      go_wp2_with (go_at_call 111; refine hI.mono ?_; rintro e w1 ⟨rfl, n, rfl⟩)
      go_roundg t.length
      case measure => omega
      case rel =>
        refine ⟨t, Nat.le_refl _, ⟨i + 1, by omega, Hd.out, ?_⟩, by have := AD.out; show _ = _; rw [this]; rfl, ?_⟩
        · exact (HR.out.drewN n).set (i + 1)
        · exact World.grownBy.trans hg (World.grownBy.trans (grown_drewN _ _ _) (grown_set _))
end Go.Proofs.YtgpecklibcgifaaGreatDoor
/- Contracts: the reader of names: typ. -/
namespace Go.Proofs.YtgpecklibcgifaaGreatDoor
open Go.RowKit

/-- How the reader gives up. -/
def dnPanic : List PanicEntry := [{ v := .iface 23 (.int .i64 30), recovered := false }]
/-- What a method of the reader does: it gives up, or hands back a value and stands further on. -/
def RdRet (w : World) (b : Nat) (s : List UInt8) (o : Option (Value × List UInt8)) (e : Ending) (w' : World) : Prop :=
  w.grownBy w' (some b) ∧ match o with
    | none => e = .panicked dnPanic
    | some (v, r) => e = .returned v ∧ RdAt w' b s r

theorem Clone_c (l : List UInt8) (w : World) (hl : l.length ≤ 1099511627776) :
    Calls Tryz.prog 187 #[.string ⟨l.toArray⟩] w fun e w' => e = .returned (.string ⟨l.toArray⟩) ∧ Below w.heap.size w w' := by
  have hc := Tryz.stringslite_Clone ⟨l.toArray⟩ w (by simp [ByteArray.size]; omega)
  go_enter Tryz.func187, Tryz.ntmps187
  go_wp2_with (go_at_call 198; refine hc.mono ?_; rintro e w1 ⟨rfl, hb⟩)
  go_ret
  exact ⟨rfl, hb⟩

def inTy (c : UInt8) : Bool := inTypeB c.toNat
def typR (r : List UInt8) : Option (List UInt8 × List UInt8) := if isTypeL (r.takeWhile inTy) then some (r.takeWhile inTy, r.dropWhile inTy) else none
theorem quiet_of' {P : Program} {f : FuncId} {args : Array Value} {w : World} {n : Nat} {v : Value}
    (h : Calls P f args (w.drewN n) fun e w' => e = .returned v ∧ ∃ m, w' = (w.drewN n).drewN m) : Calls P f args (w.drewN n) fun e w'' => e = .returned v ∧ ∃ m, w'' = w.drewN m := Calls.quiet_of h
theorem takeWhile_cut {p : UInt8 → Bool} : ∀ (r r' : List UInt8), (∃ k, r' = r.drop k ∧ (r.take k).all p = true) → r'.takeWhile p = [] → r.takeWhile p = r.take (r.length - r'.length) ∧ r.dropWhile p = r'
  | r, r', ⟨k, h1, h2⟩, h3 => by
    subst h1
    have hsplit : r = r.take k ++ r.drop k := (List.take_append_drop k r).symm
    have hdw : (r.drop k).dropWhile p = r.drop k := by
      cases hd : r.drop k with
      | nil => rfl
      | cons x t =>
        rw [hd] at h3
        have : p x = false := by
          cases hx : p x
          · rfl
          · simp [List.takeWhile_cons, hx] at h3
        simp [List.dropWhile_cons, this]
    have ht : ∀ (a c : List UInt8), a.all p = true → (a ++ c).takeWhile p = a ++ c.takeWhile p ∧ (a ++ c).dropWhile p = c.dropWhile p := by
      intro a c ha
      induction a with
      | nil => simp
      | cons y a ih =>
        simp only [List.all_cons, Bool.and_eq_true] at ha
        have := ih ha.2
        simp [List.takeWhile_cons, List.dropWhile_cons, ha.1, this]
    have := ht (r.take k) (r.drop k) h2
    rw [← hsplit, h3, hdw] at this
    refine ⟨?_, this.2⟩
    rw [this.1, List.append_nil, List.length_drop]
    by_cases hk : k ≤ r.length
    · congr 1; omega
    · rw [List.take_of_length_le (by omega), List.take_of_length_le (by omega)]

set_option maxRecDepth 10000 in
set_option maxHeartbeats 1000000 in
theorem typ_c (b : Nat) (s r : List UInt8) (w : World) (hw : Env w) (h : RdAt w b s r) (hs : s.length ≤ 65536) (hE : ∀ W, w.grownBy W (some b) → Env W) :
    Calls Tryz.prog 173 #[.pointer (some ⟨b, 0, none⟩)] w (RdRet w b s ((typR r).map fun x => (.string ⟨x.1.toArray⟩, x.2))) := by
  have hget := ba_get
  have hext := ba_ext
  obtain ⟨i, hi, rfl, hRd⟩ := h
  have hc1 := hRd.c1
  have HR := Lib.hid hRd
  have HE := Lib.hid hE
  clear hRd hE
  go_enter Tryz.func173, Tryz.ntmps173
  go_wp2_with fail
  clear hc1
  go_loopg [] (s.length - i) (fun gk wr => ∃ j, i ≤ j ∧ j ≤ s.length ∧ s.length - j ≤ gk ∧ Rd wr b s j ∧ Aside ((sub s i j).all inTy = true) ∧ w.grownBy wr (some b))
  case atStart => exact ⟨i, Nat.le_refl _, hi, Nat.le_refl _, HR.out, by show _ = _; simp [sub], World.grownBy.refl _ _⟩
  case round =>
    obtain ⟨j, hij, hj, hgk, hRd, AT, hg⟩ := hrel
    have h0 := hRd.c0
    have h1 := hRd.c1
    have hf1 := hRd.f1
    have hEn := fun w' (hR : Rd w' b s j) => ended_c b s j w' hR
    have HRj := Lib.hid hRd
    clear hRd
    have hsl : (sub s i j).length ≤ 1099511627776 := by rw [sub_len]; omega
    have hi0 : (0 : Int) ≤ (i : Int) := by omega
    have hij' : (i : Int) ≤ (j : Int) := by omega
    have hjl' : (j : Int) ≤ (s.length : Int) := by omega
    by_cases hc : ∃ hlt : j < s.length, inTypeB s[j].toNat = true
    · obtain ⟨hlt, hty⟩ := hc
      have hb : ((j : Int) == (s.length : Int)) = false := by rw [beq_eq_false_iff_ne]; omega
      rw [hb] at hEn
      have hj1 : (j : Int) < (s.length : Int) := by omega
      have hIT := fun w => inType_c (s[j].toNat) w
      rw [hty] at hIT
      have AT' : Aside ((sub s i (j + 1)).all inTy = true) := by
        have := AT.out
        show _ = _
        rw [show sub s i (j + 1) = sub s i j ++ [s[j]] by
          unfold sub
          rw [show j + 1 - i = (j - i) + 1 by omega, List.take_add_one, List.getElem?_drop, show i + (j - i) = j by omega, List.getElem?_eq_getElem hlt]; rfl]
        simp only [List.all_append, this, Bool.true_and, List.all_cons, List.all_nil, Bool.and_true]
        exact hty
      have HEn := Lib.hid hEn
      clear hEn hb hty AT
      go_wp2_with fail
      go_quiet (first | (go_at_call 112; exact quiet_of' (HEn.out _ (HRj.out.drewN _))) | (go_at_call 69; exact quiet_l (hIT _)))
      go_wp2_with fail
      go_roundg (s.length - (j + 1))
      case measure => omega
      case rel => exact ⟨j + 1, by omega, by omega, Nat.le_refl _, (HRj.out.drewN nq).set (j + 1), AT'.out, World.grownBy.trans hg (World.grownBy.trans (grown_drewN _ _ _) (grown_set _))⟩
    · have hstop : (s.drop j).takeWhile inTy = [] := by
        cases hd' : s.drop j with
        | nil => rfl
        | cons x t =>
          have ⟨hlt, _⟩ := drop_succ hd'
          have hx : s[j] = x := by rw [List.drop_eq_getElem_cons hlt] at hd'; exact (List.cons.inj hd').1
          have : inTy x = false := by
            cases h : inTy x
            · rfl
            · exact absurd ⟨hlt, by rw [hx]; exact h⟩ hc
          simp [this]
      have hcut := takeWhile_cut (p := inTy) (s.drop i) (s.drop j) ⟨j - i, by rw [List.drop_drop]; congr 1; omega, by have := AT.out; unfold sub at this; exact this⟩ hstop
      have htyp : typR (s.drop i) = if isTypeL (sub s i j) then some (sub s i j, s.drop j) else none := by
        unfold typR
        rw [hcut.1, hcut.2]
        have : (s.drop i).take ((s.drop i).length - (s.drop j).length) = sub s i j := by unfold sub; congr 1; simp; omega
        rw [this]
      have HT := Lib.hid htyp
      clear htyp hcut hstop AT
      have hEW : ∀ n w2, Below wr.heap.size (wr.drewN n) w2 → w.grownBy w2 (some b) := fun n w2 hb => World.grownBy.trans hg (World.grownBy.trans (grown_drewN _ n _) (grown_below hb _))
      have HEW := Lib.hid hEW
      have hE0 := fun n => HE.out (wr.drewN n) (World.grownBy.trans hg (grown_drewN _ n _))
      have HE0 := Lib.hid hE0
      clear hEW hE0
      by_cases hlt : j < s.length
      · have hb : ((j : Int) == (s.length : Int)) = false := by rw [beq_eq_false_iff_ne]; omega
        rw [hb] at hEn
        have hj1 : (j : Int) < (s.length : Int) := by omega
        have hIT := fun w => inType_c (s[j].toNat) w
        have hty : inTypeB s[j].toNat = false := by
          cases h : inTypeB s[j].toNat
          · rfl
          · exact absurd ⟨hlt, h⟩ hc
        rw [hty] at hIT
        have HEn := Lib.hid hEn
        clear hEn hb hty hc
        go_wp2_with fail
        go_quiet (first | (go_at_call 112; exact quiet_of' (HEn.out _ (HRj.out.drewN _))) | (go_at_call 69; exact quiet_l (hIT _)))
        go_wp2_with fail
        cases hT : isTypeL (sub s i j)
        · have hty : typR (s.drop i) = none := by rw [HT.out, hT]; rfl
          have Hty := Lib.hid hty
          clear hty
          go_region_held3 (fun w' => w'.cell? ⟨b, 0, none⟩ = some (.string ⟨s.toArray⟩) ∧ w'.cell? ⟨b, 1, none⟩ = some (.int .i64 j)) (first | exact ⟨h0, h1⟩ | exact ⟨hc0', hc1'⟩) (first | (go_at_call 38; refine (IsType_c _ _ (HE0.out (nq + 1)) hsl).mono ?_; rintro e w2 ⟨rfl, hb2⟩; rw [hT]; have hR2 := (HRj.out.drewN (nq + 1)).below hb2; have hc0' := hR2.c0; have hc1' := hR2.c1))
          clear HRj
          go_wp2_with fail
          refine ⟨rfl, ?_⟩
          rw [Hty.out]
          exact ⟨HEW.out _ _ hb2, rfl⟩
        · have hty : typR (s.drop i) = some (sub s i j, s.drop j) := by rw [HT.out, hT]; rfl
          have Hty := Lib.hid hty
          clear hty
          go_region_held3 (fun w' => w'.cell? ⟨b, 0, none⟩ = some (.string ⟨s.toArray⟩) ∧ w'.cell? ⟨b, 1, none⟩ = some (.int .i64 j)) (first | exact ⟨h0, h1⟩ | exact ⟨hc0', hc1'⟩) (first | (go_at_call 38; refine (IsType_c _ _ (HE0.out (nq + 1)) hsl).mono ?_; rintro e w2 ⟨rfl, hb2⟩; rw [hT]; have hR2 := (HRj.out.drewN (nq + 1)).below hb2; have hc0' := hR2.c0; have hc1' := hR2.c1))
          have HR2 := Lib.hid hR2
          have HB2 := Lib.hid hb2
          clear HRj h0 h1 hR2 hb2
          go_wp2_with fail
          go_region_held3 (fun w' => w'.cell? ⟨b, 0, none⟩ = some (.string ⟨s.toArray⟩) ∧ w'.cell? ⟨b, 1, none⟩ = some (.int .i64 j)) (first | exact ⟨hc0', hc1'⟩ | exact ⟨hc0'', hc1''⟩) (first | (go_at_call 187; refine (Clone_c _ _ hsl).mono ?_; rintro e w3 ⟨rfl, hb3⟩; have hR3 := (HR2.out.drewN 1).below hb3; have hc0'' := hR3.c0; have hc1'' := hR3.c1))
          go_wp2_with fail
          go_ret
          rw [Hty.out]
          exact ⟨World.grownBy.trans (HEW.out _ _ HB2.out) (World.grownBy.trans (grown_drewN _ 1 _) (grown_below hb3 _)), rfl, j, hj, rfl, hR3⟩
      · obtain rfl : j = s.length := by omega
        have hb : ((s.length : Int) == (s.length : Int)) = true := by simp
        rw [hb] at hEn
        have HEn := Lib.hid hEn
        clear hEn hb hc
        go_wp2_with fail
        go_quiet (first | (go_at_call 112; exact quiet_of' (HEn.out _ (HRj.out.drewN _))))
        go_wp2_with fail
        cases hT : isTypeL (sub s i s.length)
        · have hty : typR (s.drop i) = none := by rw [HT.out, hT]; rfl
          have Hty := Lib.hid hty
          clear hty
          go_region_held3 (fun w' => w'.cell? ⟨b, 0, none⟩ = some (.string ⟨s.toArray⟩) ∧ w'.cell? ⟨b, 1, none⟩ = some (.int .i64 s.length)) (first | exact ⟨h0, h1⟩ | exact ⟨hc0', hc1'⟩) (first | (go_at_call 38; refine (IsType_c _ _ (HE0.out (nq + 1)) hsl).mono ?_; rintro e w2 ⟨rfl, hb2⟩; rw [hT]; have hR2 := (HRj.out.drewN (nq + 1)).below hb2; have hc0' := hR2.c0; have hc1' := hR2.c1))
          clear HRj
          go_wp2_with fail
          refine ⟨rfl, ?_⟩
          rw [Hty.out]
          exact ⟨HEW.out _ _ hb2, rfl⟩
        · have hty : typR (s.drop i) = some (sub s i s.length, s.drop s.length) := by rw [HT.out, hT]; rfl
          have Hty := Lib.hid hty
          clear hty
          go_region_held3 (fun w' => w'.cell? ⟨b, 0, none⟩ = some (.string ⟨s.toArray⟩) ∧ w'.cell? ⟨b, 1, none⟩ = some (.int .i64 s.length)) (first | exact ⟨h0, h1⟩ | exact ⟨hc0', hc1'⟩) (first | (go_at_call 38; refine (IsType_c _ _ (HE0.out (nq + 1)) hsl).mono ?_; rintro e w2 ⟨rfl, hb2⟩; rw [hT]; have hR2 := (HRj.out.drewN (nq + 1)).below hb2; have hc0' := hR2.c0; have hc1' := hR2.c1))
          have HR2 := Lib.hid hR2
          have HB2 := Lib.hid hb2
          clear HRj h0 h1 hR2 hb2
          go_wp2_with fail
          go_region_held3 (fun w' => w'.cell? ⟨b, 0, none⟩ = some (.string ⟨s.toArray⟩) ∧ w'.cell? ⟨b, 1, none⟩ = some (.int .i64 s.length)) (first | exact ⟨hc0', hc1'⟩ | exact ⟨hc0'', hc1''⟩) (first | (go_at_call 187; refine (Clone_c _ _ hsl).mono ?_; rintro e w3 ⟨rfl, hb3⟩; have hR3 := (HR2.out.drewN 1).below hb3; have hc0'' := hR3.c0; have hc1'' := hR3.c1))
          go_wp2_with fail
          go_ret
          rw [Hty.out]
          exact ⟨World.grownBy.trans (HEW.out _ _ HB2.out) (World.grownBy.trans (grown_drewN _ 1 _) (grown_below hb3 _)), rfl, s.length, hj, rfl, hR3⟩
end Go.Proofs.YtgpecklibcgifaaGreatDoor
/- Contracts: octet.Unhex. -/
namespace Go.Proofs.YtgpecklibcgifaaGreatDoor
open Go.RowKit

def hexByte (a b : Int) : UInt8 := UInt8.ofNat (16 * a + b).toNat
def unhexL : List UInt8 → Option (List UInt8)
  | [] => some []
  | [_] => none
  | a :: b :: t => if digitV a.toNat < 0 ∨ digitV b.toNat < 0 then none else (unhexL t).map (hexByte (digitV a.toNat) (digitV b.toNat) :: ·)
theorem digitV_rng (c : Int) : -1 ≤ digitV c ∧ digitV c ≤ 15 := by
  unfold digitV
  repeat' split
  all_goals omega

theorem hexByte_fin : ∀ x y : Fin 16, (bits BinOp.or IntKind.i64 ((x.val : Int) * 16) (y.val : Int)) % 256 = ((hexByte (x.val : Int) (y.val : Int)).toNat : Int) := by decide +kernel
theorem hexByte_bits (x y : Int) (h1 : 0 ≤ x) (h2 : x ≤ 15) (h3 : 0 ≤ y) (h4 : y ≤ 15) : bits BinOp.or IntKind.i64 (x * 16) y % 256 = ((hexByte x y).toNat : Int) := by
  obtain ⟨a, rfl⟩ := Int.eq_ofNat_of_zero_le h1
  obtain ⟨b, rfl⟩ := Int.eq_ofNat_of_zero_le h3
  exact hexByte_fin ⟨a, by omega⟩ ⟨b, by omega⟩
set_option maxRecDepth 10000 in
set_option maxHeartbeats 1000000 in
theorem Unhex_c (l : List UInt8) (w : World) (hl : l.length ≤ 1099511627776) :
    Calls Tryz.prog 200 #[.string ⟨l.toArray⟩] w fun e w' => e = .returned (strOr 11 (unhexL l)) ∧ Below w.heap.size w w' := by
  have hget := ba_get
  by_cases hodd : l.length % 2 = 0
  · have h1 : (((l.length : Int) % 2) != 0) = false := by simp; omega
    go_enter Tryz.func200, Tryz.ntmps200
    go_wp2_with (at_make; refine buf_make rfl _ _ rfl (l.length / 2) _ rfl rfl (by simp) (by omega) ?_; intro w1 hb1)
    go_loopg [4, 5] l.length (fun gk v i wr => ∃ (p : Nat) (acc : List UInt8), p ≤ l.length ∧ i = .int .i64 p ∧ l.length - p ≤ gk ∧ Aside (p % 2 = 0) ∧ Buf w wr v acc ∧ acc.length ≤ p ∧ Aside (unhexL l = (unhexL (l.drop p)).map (acc ++ ·)))
    case atStart => exact ⟨0, [], by omega, rfl, by omega, rfl, hb1, by simp, by show _ = _; simp⟩
    case round =>
      obtain ⟨p, acc, hp, rfl, hgk, AP, hbuf, hacc, AU⟩ := hrel
      by_cases hlt : p < l.length
      · have hlt1 : p + 1 < l.length := by have := AP.out; omega
        have hdr : l.drop p = l[p] :: l[p + 1] :: l.drop (p + 2) := by
          rw [List.drop_eq_getElem_cons hlt, List.drop_eq_getElem_cons hlt1]
        have hra := digitV_rng l[p].toNat
        have hrb := digitV_rng l[p + 1].toNat
        have HDD := Lib.hid (fun (c : Int) (w : World) (h0 : 0 ≤ c) (h1 : c < 256) => Digit_c c w h0 h1)
        have ha8 : (l[p].toNat : Int) < 256 := by have := UInt8.toNat_lt l[p]; omega
        have hb8 : (l[p + 1].toNat : Int) < 256 := by have := UInt8.toNat_lt l[p + 1]; omega
        have hk0 : (0 : Int) ≤ (p : Int) := by omega
        have hk1 : (p : Int) < (l.length : Int) := by omega
        have hk2 : (p : Int) + 1 < (l.length : Int) := by omega
        have hk3 : ((p : Int) + 1).toNat = p + 1 := by omega
        have hk4 : (0 : Int) ≤ (p : Int) + 1 := by omega
        have hk5 : IntKind.i64.wrap ((p : Int) + 1) = (p : Int) + 1 := IntWalk.i64_in _ (by omega)
        have AU' : Aside (unhexL l = (if digitV l[p].toNat < 0 ∨ digitV l[p + 1].toNat < 0 then none else (unhexL (l.drop (p + 2))).map (hexByte (digitV l[p].toNat) (digitV l[p + 1].toNat) :: ·)).map (acc ++ ·)) := by
          have := AU.out
          rw [hdr, unhexL] at this
          exact this
        clear hdr AU
        go_wp2_with fail
        go_quiet ((go_at_call 199; exact quiet_l (HDD.out _ _ (by omega) (by omega))))
        clear hk5
        generalize digitV l[p].toNat = x at hra AU' ⊢
        generalize digitV l[p + 1].toNat = y at hrb AU' ⊢
        by_cases hneg : x < 0 ∨ y < 0
        · have hno : unhexL l = none := by have := AU'.out; rw [if_pos hneg] at this; exact this
          have Hno := Lib.hid hno
          clear hno
          have hB := hbuf.below
          rcases hneg with h | h
          · go_wp2_with fail
            go_ret2
            exact ⟨by rw [Hno.out]; rfl, below_drewN hB _⟩
          · go_wp2_with fail
            all_goals
              go_ret2
              exact ⟨by rw [Hno.out]; rfl, below_drewN hB _⟩
        · have hx0 : 0 ≤ x := by omega
          have hy0 : 0 ≤ y := by omega
          have AU2 : Aside (unhexL l = (unhexL (l.drop (p + 2))).map ((acc ++ [hexByte x y]) ++ ·)) := by
            have := AU'.out
            rw [if_neg hneg, Option.map_map] at this
            show _ = _
            rw [this]
            congr 1
            funext z
            simp
          have hx15 : x ≤ 15 := hra.2
          have hy15 : y ≤ 15 := hrb.2
          clear hneg hra hrb AU'
          have hbits := hexByte_bits x y hx0 hx15 hy0 hy15
          have hbufN := hbuf.drewN nq
          go_wp2_with (at_builtin; refine buf_byte rfl _ _ rfl rfl hbufN rfl (by omega) ?_; intro v' w2 hb2 hg2)
          go_roundg (l.length - (p + 2))
          case measure => omega
          case rel => exact ⟨p + 2, _, by omega, by go_num, Nat.le_refl _, by have := AP.out; show _ = _; omega, hb2, by simp; omega, AU2.out⟩
      · have hfin : unhexL l = some acc := by
          have := AU.out
          rw [List.drop_eq_nil_of_le (by omega), unhexL] at this
          simpa using this
        have Hf := Lib.hid hfin
        have hst := buf_string hbuf
        have hB := hbuf.below
        clear AU hfin
        go_wp2
        go_ret2
        exact ⟨by rw [Hf.out]; rfl, hB⟩
  · have h1 : (((l.length : Int) % 2) != 0) = true := by simp; omega
    have hno : ∀ (n : Nat) (l : List UInt8), l.length ≤ n → l.length % 2 ≠ 0 → unhexL l = none := by
      intro n
      induction n with
      | zero => intro l h1 h2; omega
      | succ n ih =>
        intro l h1 h2
        match l, h1, h2 with
        | [], _, h2 => simp at h2
        | [_], _, _ => rfl
        | a :: b :: t, h1, h2 =>
          rw [unhexL, ih t (by simp at h1; omega) (by simp at h2; omega)]
          split <;> rfl
    rw [hno l.length l (Nat.le_refl _) hodd]
    clear hno
    go_enter Tryz.func200, Tryz.ntmps200
    go_wp2
    go_ret2
    exact ⟨rfl, Below.refl _ _⟩
end Go.Proofs.YtgpecklibcgifaaGreatDoor
/- Contracts: the reader of names: hex. (Printed by gen_hex.py.) -/
namespace Go.Proofs.YtgpecklibcgifaaGreatDoor
open Go.RowKit

def isHex (c : UInt8) : Bool := decide (0 ≤ digitV c.toNat)
/-- What stands behind '#'. -/
def hexR (t : List UInt8) : Option (List UInt8 × List UInt8) := match unhexL (t.takeWhile isHex) with
  | none => none
  | some v => if v = [] then none else some (v, t.dropWhile isHex)

set_option maxRecDepth 10000 in
set_option maxHeartbeats 1000000 in
theorem hex_c (b : Nat) (s t : List UInt8) (x : UInt8) (w : World) (h : RdAt w b s (x :: t)) (hs : s.length ≤ 65536) :
    Calls Tryz.prog 188 #[.pointer (some ⟨b, 0, none⟩)] w (RdRet w b s ((hexR t).map fun x => (.string ⟨x.1.toArray⟩, x.2))) := by
  have hget := ba_get
  have hext := ba_ext
  obtain ⟨i0, hi0, hd0, hRd0⟩ := h
  have ⟨hlt0, hdt⟩ := drop_succ hd0
  subst hdt
  clear hd0
  have hc1 := hRd0.c1
  have hf1 := hRd0.f1
  have HR0 := Lib.hid hRd0
  clear hRd0
  go_enter Tryz.func188, Tryz.ntmps188
  go_wp2_with fail
  have hRd1 : Rd (w.setCell ⟨b, 1, none⟩ (.int .i64 ((i0 : Int) + 1))) b s (i0 + 1) := HR0.out.set (i0 + 1)
  have hg1 : w.grownBy (w.setCell ⟨b, 1, none⟩ (.int .i64 ((i0 : Int) + 1))) (some b) := grown_set _
  generalize w.setCell ⟨b, 1, none⟩ (.int .i64 ((i0 : Int) + 1)) = w0 at *
  clear hc1 hf1
  have hc1 := hRd1.c1
  have ec : ((i0 + 1 : Nat) : Int) = (i0 : Int) + 1 := by omega
  rw [ec] at hc1
  clear ec
  go_wp2_with fail
  clear hc1
  rw [show ((i0 : Int) + 1) = ((i0 + 1 : Nat) : Int) from by omega]
  obtain ⟨i, rfl⟩ : ∃ i, i = i0 + 1 := ⟨_, rfl⟩
  generalize hie : i0 + 1 = i at *
  have hi : i ≤ s.length := by omega
  have HRi := Lib.hid hRd1
  have HIE := Lib.hid hie
  clear hRd1 hie
  go_loopg [] (s.length - i) (fun gk wr => ∃ j, i ≤ j ∧ j ≤ s.length ∧ s.length - j ≤ gk ∧ Rd wr b s j ∧ Aside ((sub s i j).all isHex = true) ∧ w.grownBy wr (some b))
  case atStart => exact ⟨i, Nat.le_refl _, hi, Nat.le_refl _, HRi.out, by show _ = _; simp [sub], hg1⟩
  case round =>
    obtain ⟨j, hij, hj, hgk, hRd, AT, hg⟩ := hrel
    have h0 := hRd.c0
    have h1 := hRd.c1
    have hf1 := hRd.f1
    have hEn := fun w' (hR : Rd w' b s j) => ended_c b s j w' hR
    have HRj := Lib.hid hRd
    clear hRd
    have hsl : (sub s i j).length ≤ 1099511627776 := by rw [sub_len]; omega
    have hi0 : (0 : Int) ≤ (i : Int) := by omega
    have hij' : (i : Int) ≤ (j : Int) := by omega
    have hjl' : (j : Int) ≤ (s.length : Int) := by omega
    by_cases hc : ∃ hlt : j < s.length, 0 ≤ digitV s[j].toNat
    · obtain ⟨hlt, hty⟩ := hc
      have hb : ((j : Int) == (s.length : Int)) = false := by rw [beq_eq_false_iff_ne]; omega
      rw [hb] at hEn
      have hj1 : (j : Int) < (s.length : Int) := by omega
      have hIT := fun w => Digit_c (s[j].toNat) w (by omega) (by have := UInt8.toNat_lt s[j]; omega)
      have AT' : Aside ((sub s i (j + 1)).all isHex = true) := by
        have := AT.out
        show _ = _
        rw [show sub s i (j + 1) = sub s i j ++ [s[j]] by
          unfold sub
          rw [show j + 1 - i = (j - i) + 1 by omega, List.take_add_one, List.getElem?_drop, show i + (j - i) = j by omega, List.getElem?_eq_getElem hlt]; rfl]
        simp only [List.all_append, this, Bool.true_and, List.all_cons, List.all_nil, Bool.and_true]
        exact decide_eq_true hty
      have HEn := Lib.hid hEn
      clear hEn hb AT
      go_wp2_with fail
      go_quiet (first | (go_at_call 112; exact quiet_of' (HEn.out _ (HRj.out.drewN _))) | (go_at_call 199; exact quiet_l (hIT _)))
      go_wp2_with fail
      go_roundg (s.length - (j + 1))
      case measure => omega
      case rel => exact ⟨j + 1, by omega, by omega, Nat.le_refl _, (HRj.out.drewN nq).set (j + 1), AT'.out, World.grownBy.trans hg (World.grownBy.trans (grown_drewN _ _ _) (grown_set _))⟩
    · have hstop : (s.drop j).takeWhile isHex = [] := by
        cases hd' : s.drop j with
        | nil => rfl
        | cons x t =>
          have ⟨hlt, _⟩ := drop_succ hd'
          have hx : s[j] = x := by rw [List.drop_eq_getElem_cons hlt] at hd'; exact (List.cons.inj hd').1
          have : isHex x = false := by
            cases h : isHex x
            · rfl
            · exact absurd ⟨hlt, by rw [hx]; exact of_decide_eq_true h⟩ hc
          simp [this]
      have hcut := takeWhile_cut (p := isHex) (s.drop i) (s.drop j) ⟨j - i, by rw [List.drop_drop]; congr 1; omega, by have := AT.out; unfold sub at this; exact this⟩ hstop
      have htyp : hexR (s.drop i) = match unhexL (sub s i j) with | none => none | some v => if v = [] then none else some (v, s.drop j) := by
        unfold hexR
        rw [hcut.1, hcut.2]
        have : (s.drop i).take ((s.drop i).length - (s.drop j).length) = sub s i j := by unfold sub; congr 1; simp; omega
        rw [this]
      have HT := Lib.hid htyp
      clear htyp hcut hstop AT
      have hEW : ∀ n w2, Below wr.heap.size (wr.drewN n) w2 → w.grownBy w2 (some b) := fun n w2 hb => World.grownBy.trans hg (World.grownBy.trans (grown_drewN _ n _) (grown_below hb _))
      have HEW := Lib.hid hEW
      clear hEW
      by_cases hlt : j < s.length
      · have hb : ((j : Int) == (s.length : Int)) = false := by rw [beq_eq_false_iff_ne]; omega
        rw [hb] at hEn
        have hj1 : (j : Int) < (s.length : Int) := by omega
        have hIT := fun w => Digit_c (s[j].toNat) w (by omega) (by have := UInt8.toNat_lt s[j]; omega)
        have hty : ¬ 0 ≤ digitV s[j].toNat := fun h => hc ⟨hlt, h⟩
        have hty' : digitV s[j].toNat < 0 := by omega
        have HEn := Lib.hid hEn
        clear hEn hb hty hc
        go_wp2_with fail
        go_quiet (first | (go_at_call 112; exact quiet_of' (HEn.out _ (HRj.out.drewN _))) | (go_at_call 199; exact quiet_l (hIT _)))
        go_wp2_with fail
        rcases hT : unhexL (sub s i j) with _ | v
        · have hty : hexR (s.drop i) = none := by rw [HT.out, hT]
          have Hty := Lib.hid hty
          clear hty
          go_region_held3 (fun w' => w'.cell? ⟨b, 0, none⟩ = some (.string ⟨s.toArray⟩) ∧ w'.cell? ⟨b, 1, none⟩ = some (.int .i64 j)) (first | exact ⟨h0, h1⟩ | exact ⟨hc0', hc1'⟩) (first | (go_at_call 200; refine (Unhex_c _ _ hsl).mono ?_; rintro e w2 ⟨rfl, hb2⟩; rw [hT]; simp only [strOr]; have hR2 := (HRj.out.drewN (nq + 1)).below hb2; have hc0' := hR2.c0; have hc1' := hR2.c1))
          have HR2 := Lib.hid hR2
          clear HRj h0 h1 hR2
          go_wp2_with fail
          refine ⟨rfl, ?_⟩
          rw [HIE.out, Hty.out]
          exact ⟨HEW.out _ _ hb2, rfl⟩
        · by_cases hv : v = []
          · have hty : hexR (s.drop i) = none := by rw [HT.out, hT]; dsimp only; rw [if_pos hv]
            have Hty := Lib.hid hty
            subst hv
            clear hty
            go_region_held3 (fun w' => w'.cell? ⟨b, 0, none⟩ = some (.string ⟨s.toArray⟩) ∧ w'.cell? ⟨b, 1, none⟩ = some (.int .i64 j)) (first | exact ⟨h0, h1⟩ | exact ⟨hc0', hc1'⟩) (first | (go_at_call 200; refine (Unhex_c _ _ hsl).mono ?_; rintro e w2 ⟨rfl, hb2⟩; rw [hT]; simp only [strOr]; have hR2 := (HRj.out.drewN (nq + 1)).below hb2; have hc0' := hR2.c0; have hc1' := hR2.c1))
            have HR2 := Lib.hid hR2
            clear HRj h0 h1 hR2
            go_wp2_with fail
            refine ⟨rfl, ?_⟩
            rw [HIE.out, Hty.out]
            exact ⟨HEW.out _ _ hb2, rfl⟩
          · have hty : hexR (s.drop i) = some (v, s.drop j) := by rw [HT.out, hT]; dsimp only; rw [if_neg hv]
            have Hty := Lib.hid hty
            have hve : v.isEmpty = false := by cases v <;> simp_all
            clear hty
            go_region_held3 (fun w' => w'.cell? ⟨b, 0, none⟩ = some (.string ⟨s.toArray⟩) ∧ w'.cell? ⟨b, 1, none⟩ = some (.int .i64 j)) (first | exact ⟨h0, h1⟩ | exact ⟨hc0', hc1'⟩) (first | (go_at_call 200; refine (Unhex_c _ _ hsl).mono ?_; rintro e w2 ⟨rfl, hb2⟩; rw [hT]; simp only [strOr]; have hR2 := (HRj.out.drewN (nq + 1)).below hb2; have hc0' := hR2.c0; have hc1' := hR2.c1))
            have HR2 := Lib.hid hR2
            clear HRj h0 h1 hR2
            go_wp2_with fail
            go_ret
            rw [HIE.out, Hty.out]
            exact ⟨HEW.out _ _ hb2, rfl, j, hj, rfl, HR2.out⟩
      · obtain rfl : j = s.length := by omega
        have hb : ((s.length : Int) == (s.length : Int)) = true := by simp
        rw [hb] at hEn
        have HEn := Lib.hid hEn
        clear hEn hb hc
        go_wp2_with fail
        go_quiet (first | (go_at_call 112; exact quiet_of' (HEn.out _ (HRj.out.drewN _))))
        go_wp2_with fail
        rcases hT : unhexL (sub s i s.length) with _ | v
        · have hty : hexR (s.drop i) = none := by rw [HT.out, hT]
          have Hty := Lib.hid hty
          clear hty
          go_region_held3 (fun w' => w'.cell? ⟨b, 0, none⟩ = some (.string ⟨s.toArray⟩) ∧ w'.cell? ⟨b, 1, none⟩ = some (.int .i64 s.length)) (first | exact ⟨h0, h1⟩ | exact ⟨hc0', hc1'⟩) (first | (go_at_call 200; refine (Unhex_c _ _ hsl).mono ?_; rintro e w2 ⟨rfl, hb2⟩; rw [hT]; simp only [strOr]; have hR2 := (HRj.out.drewN (nq + 1)).below hb2; have hc0' := hR2.c0; have hc1' := hR2.c1))
          have HR2 := Lib.hid hR2
          clear HRj h0 h1 hR2
          go_wp2_with fail
          refine ⟨rfl, ?_⟩
          rw [HIE.out, Hty.out]
          exact ⟨HEW.out _ _ hb2, rfl⟩
        · by_cases hv : v = []
          · have hty : hexR (s.drop i) = none := by rw [HT.out, hT]; dsimp only; rw [if_pos hv]
            have Hty := Lib.hid hty
            subst hv
            clear hty
            go_region_held3 (fun w' => w'.cell? ⟨b, 0, none⟩ = some (.string ⟨s.toArray⟩) ∧ w'.cell? ⟨b, 1, none⟩ = some (.int .i64 s.length)) (first | exact ⟨h0, h1⟩ | exact ⟨hc0', hc1'⟩) (first | (go_at_call 200; refine (Unhex_c _ _ hsl).mono ?_; rintro e w2 ⟨rfl, hb2⟩; rw [hT]; simp only [strOr]; have hR2 := (HRj.out.drewN (nq + 1)).below hb2; have hc0' := hR2.c0; have hc1' := hR2.c1))
            have HR2 := Lib.hid hR2
            clear HRj h0 h1 hR2
            go_wp2_with fail
            refine ⟨rfl, ?_⟩
            rw [HIE.out, Hty.out]
            exact ⟨HEW.out _ _ hb2, rfl⟩
          · have hty : hexR (s.drop i) = some (v, s.drop s.length) := by rw [HT.out, hT]; dsimp only; rw [if_neg hv]
            have Hty := Lib.hid hty
            have hve : v.isEmpty = false := by cases v <;> simp_all
            clear hty
            go_region_held3 (fun w' => w'.cell? ⟨b, 0, none⟩ = some (.string ⟨s.toArray⟩) ∧ w'.cell? ⟨b, 1, none⟩ = some (.int .i64 s.length)) (first | exact ⟨h0, h1⟩ | exact ⟨hc0', hc1'⟩) (first | (go_at_call 200; refine (Unhex_c _ _ hsl).mono ?_; rintro e w2 ⟨rfl, hb2⟩; rw [hT]; simp only [strOr]; have hR2 := (HRj.out.drewN (nq + 1)).below hb2; have hc0' := hR2.c0; have hc1' := hR2.c1))
            have HR2 := Lib.hid hR2
            clear HRj h0 h1 hR2
            go_wp2_with fail
            go_ret
            rw [HIE.out, Hty.out]
            exact ⟨HEW.out _ _ hb2, rfl, s.length, hj, rfl, HR2.out⟩
end Go.Proofs.YtgpecklibcgifaaGreatDoor
/- Contracts: the reader of names: escape. -/
namespace Go.Proofs.YtgpecklibcgifaaGreatDoor
open Go.RowKit

theorem IndexByte_c (cs : List UInt8) (x : UInt8) (w : World) :
    Calls Tryz.prog 186 #[.string ⟨cs.toArray⟩, .int .u8 x.toNat] w fun e w' => e = .returned (.int .i64 (Lib.indexByte cs x)) ∧ w = w' := by
  refine (Tryz.strings_IndexByte ⟨cs.toArray⟩ x.toNat w).mono ?_
  rintro e w' ⟨rfl, rfl⟩
  exact ⟨by simp, rfl⟩
def escCs : List UInt8 := [34, 43, 44, 59, 60, 62, 92, 61, 35, 32]
def specCs : List UInt8 := [34, 43, 44, 59, 60, 62, 92]
def esc2 (c : UInt8) : List UInt8 → Option (UInt8 × List UInt8)
  | [] => none
  | d :: t => if digitV c.toNat < 0 ∨ digitV d.toNat < 0 then none else some (hexByte (digitV c.toNat) (digitV d.toNat), t)
/-- What stands behind a backslash. -/
def escR : List UInt8 → Option (UInt8 × List UInt8)
  | [] => none
  | c :: t => if 0 ≤ Lib.indexByte escCs c then some (c, t) else esc2 c t
theorem quiet_al {P : Program} {f : FuncId} {args : Array Value} {w : World} {a n : Nat} {v : Value}
    (h : Calls P f args (w.drewN (a + n)) fun e w' => e = .returned v ∧ w.drewN (a + n) = w') :
    Calls P f args (w.drewN (a + n)) fun e w'' => e = .returned v ∧ ∃ m, w'' = w.drewN (a + m) :=
  h.mono fun _ _ ⟨he, hm⟩ => ⟨he, n, hm.symm⟩

set_option maxRecDepth 100000 in
set_option maxHeartbeats 1000000 in
theorem escape_c (b : Nat) (s t : List UInt8) (x : UInt8) (w : World) (h : RdAt w b s (x :: t)) (hs : s.length ≤ 65536) :
    Calls Tryz.prog 189 #[.pointer (some ⟨b, 0, none⟩)] w (RdRet w b s ((escR t).map fun x => (.int .u8 x.1.toNat, x.2))) := by
  have hget := ba_get
  obtain ⟨i, hi, hd0, hRd⟩ := h
  have ⟨hlt, hdt⟩ := drop_succ hd0
  clear hd0 hi
  have h0 := hRd.c0
  have h1 := hRd.c1
  have hf1 := hRd.f1
  have HR := Lib.hid hRd
  clear hRd
  have hi0 : (0 : Int) ≤ (i : Int) := by omega
  have hk3 : ((i : Int) + 1).toNat = i + 1 := by omega
  have hk4 : (0 : Int) ≤ (i : Int) + 1 := by omega
  have hk5 : IntKind.i64.wrap ((i : Int) + 1) = (i : Int) + 1 := IntWalk.i64_in _ (by omega)
  cases t with
  | nil =>
    have hl : i + 1 = s.length := by
      have := congrArg List.length hdt
      simp at this; omega
    have hd1 : decide ((i : Int) + 1 < (s.length : Int)) = false := by rw [decide_eq_false_iff_not]; omega
    have HL := Lib.hid hl
    clear hl hdt
    go_enter Tryz.func189, Tryz.ntmps189
    go_wp2_with fail
    go_quiet (fail)
    have hw2 : IntKind.i64.wrap ((i : Int) + 2) = (i : Int) + 2 := IntWalk.i64_in _ (by omega)
    have hge : (s.length : Int) ≤ (i : Int) + 2 := by have := HL.out; omega
    clear hk5
    go_wp2_with fail
    go_quiet (fail)
    clear hw2
    go_wp2_with fail
    exact ⟨rfl, grown_drewN _ _ _, rfl⟩
  | cons c t =>
    have hl : i + 1 < s.length := by
      have := congrArg List.length hdt
      simp at this; omega
    have hsc : s[i + 1] = c := by rw [List.drop_eq_getElem_cons hl] at hdt; exact (List.cons.inj hdt).1
    have hdt2 : s.drop (i + 2) = t := by rw [List.drop_eq_getElem_cons hl] at hdt; exact (List.cons.inj hdt).2
    have hd1 : (i : Int) + 1 < (s.length : Int) := by omega
    have hIB := fun w => IndexByte_c escCs s[i + 1] w
    have HE : Hid (escR (c :: t) = if 0 ≤ Lib.indexByte escCs c then some (c, t) else esc2 c t) := Lib.hid rfl
    have HIB := Lib.hid hIB
    clear hdt hIB
    have HSC := Lib.hid hsc
    have HD2 := Lib.hid hdt2
    clear hsc hdt2
    by_cases hix : 0 ≤ Lib.indexByte escCs s[i + 1]
    · have hes : escR (c :: t) = some (c, t) := by rw [HE.out, if_pos (by rw [← HSC.out]; exact hix)]
      have Hes := Lib.hid hes
      clear hes
      go_enter Tryz.func189, Tryz.ntmps189
      go_wp2_with fail
      go_quiet ((go_at_call 186; exact quiet_l (HIB.out _)))
      clear hk5
      go_wp2_with fail
      have hR2 : Rd ((w.drewN nq).setCell ⟨b, 1, none⟩ (.int .i64 ((i : Int) + 2))) b s (i + 2) := (HR.out.drewN nq).set (i + 2)
      have hg2 : w.grownBy ((w.drewN nq).setCell ⟨b, 1, none⟩ (.int .i64 ((i : Int) + 2))) (some b) := World.grownBy.trans (grown_drewN _ _ _) (grown_set _)
      generalize (w.drewN nq).setCell ⟨b, 1, none⟩ (.int .i64 ((i : Int) + 2)) = W at *
      have c0 := hR2.c0
      have c1 : W.cell? ⟨b, 1, none⟩ = some (.int .i64 ((i : Int) + 2)) := hR2.c1
      have hm1 : IntKind.i64.wrap ((i : Int) + 2 - 1) = (i : Int) + 1 := by rw [show (i : Int) + 2 - 1 = (i : Int) + 1 by omega]; exact IntWalk.i64_in _ (by omega)
      have HR2 := Lib.hid hR2
      clear h0 h1 hf1 hR2
      go_quiet (fail)
      clear hm1
      go_wp2_with fail
      go_ret
      rw [Hes.out]
      refine ⟨World.grownBy.trans hg2 (grown_drewN _ _ _), ?_, i + 2, by omega, HD2.out, HR2.out⟩
      show Ending.returned (.int .u8 s[i + 1].toNat) = _
      rw [HSC.out]
    · have hes : escR (c :: t) = esc2 c t := by rw [HE.out, if_neg (by rw [← HSC.out]; exact hix)]
      have Hes := Lib.hid hes
      clear hes
      have hix' : Lib.indexByte escCs s[i + 1] < 0 := by omega
      have hq3 : ((i : Int) + 2).toNat = i + 2 := by omega
      have hq4 : (0 : Int) ≤ (i : Int) + 2 := by omega
      clear hix
      cases t with
      | nil =>
        have hl2 : s.length ≤ i + 2 := by have := congrArg List.length HD2.out; simp at this; omega
        have hge : (s.length : Int) ≤ (i : Int) + 2 := by omega
        go_enter Tryz.func189, Tryz.ntmps189
        go_wp2_with fail
        go_quiet ((go_at_call 186; exact quiet_l (HIB.out _)))
        have hw2 : IntKind.i64.wrap ((i : Int) + 2) = (i : Int) + 2 := IntWalk.i64_in _ (by omega)
        clear hk5
        go_wp2_with fail
        go_quiet (fail)
        clear hw2
        go_wp2_with fail
        refine ⟨rfl, ?_⟩
        rw [Hes.out]
        exact ⟨grown_drewN _ _ _, rfl⟩
      | cons d t =>
        have hl2 : i + 2 < s.length := by have := congrArg List.length HD2.out; simp at this; omega
        have hlt2 : (i : Int) + 2 < (s.length : Int) := by omega
        have hsd : s[i + 2] = d := by have := HD2.out; rw [List.drop_eq_getElem_cons hl2] at this; exact (List.cons.inj this).1
        have hdt3 : s.drop (i + 3) = t := by have := HD2.out; rw [List.drop_eq_getElem_cons hl2] at this; exact (List.cons.inj this).2
        have HSD := Lib.hid hsd
        have HD3 := Lib.hid hdt3
        have HDD := Lib.hid (fun (c : Int) (w : World) (h0 : 0 ≤ c) (h1 : c < 256) => Digit_c c w h0 h1)
        have ha8 : (s[i + 1].toNat : Int) < 256 := by have := UInt8.toNat_lt s[i + 1]; omega
        have hb8 : (s[i + 2].toNat : Int) < 256 := by have := UInt8.toNat_lt s[i + 2]; omega
        clear hsd hdt3
        go_enter Tryz.func189, Tryz.ntmps189
        go_wp2_with fail
        go_quiet ((go_at_call 186; exact quiet_l (HIB.out _)))
        have hw2 : IntKind.i64.wrap ((i : Int) + 2) = (i : Int) + 2 := IntWalk.i64_in _ (by omega)
        go_wp2_with fail
        go_quiet (fail)
        go_wp2_with fail
        go_quiet ((go_at_call 199; exact quiet_al (HDD.out _ _ (by omega) (by omega))))
        have hra := digitV_rng s[i + 1].toNat
        have hrb := digitV_rng s[i + 2].toNat
        have h2 : esc2 c (d :: t) = if digitV s[i + 1].toNat < 0 ∨ digitV s[i + 2].toNat < 0 then none else some (hexByte (digitV s[i + 1].toNat) (digitV s[i + 2].toNat), t) := by rw [HSC.out, HSD.out]; rfl
        have H2 := Lib.hid h2
        clear h2 hw2 hk5
        generalize digitV s[i + 1].toNat = p at hra H2 ⊢
        generalize digitV s[i + 2].toNat = q at hrb H2 ⊢
        by_cases hneg : p < 0 ∨ q < 0
        · have hno : esc2 c (d :: t) = none := by rw [H2.out, if_pos hneg]
          have Hno := Lib.hid hno
          clear hno
          rcases hneg with h | h
          · go_wp2_with fail
            refine ⟨rfl, ?_⟩
            rw [Hes.out, Hno.out]
            exact ⟨grown_drewN _ _ _, rfl⟩
          · go_wp2_with fail
            all_goals
              refine ⟨rfl, ?_⟩
              rw [Hes.out, Hno.out]
              exact ⟨grown_drewN _ _ _, rfl⟩
        · have hyes : esc2 c (d :: t) = some (hexByte p q, t) := by rw [H2.out, if_neg hneg]
          have Hyes := Lib.hid hyes
          have hx0 : 0 ≤ p := by omega
          have hy0 : 0 ≤ q := by omega
          have hx15 : p ≤ 15 := hra.2
          have hy15 : q ≤ 15 := hrb.2
          have hbits := hexByte_bits p q hx0 hx15 hy0 hy15
          clear hneg hyes hra hrb
          go_wp2_with fail
          go_ret
          rw [Hes.out, Hyes.out]
          exact ⟨World.grownBy.trans (grown_drewN _ _ _) (grown_set _), reti hbits, i + 3, by omega, HD3.out, (HR.out.drewN _).set (i + 3)⟩
end Go.Proofs.YtgpecklibcgifaaGreatDoor
/- Buffers beside a block that is written. -/
namespace Go.Proofs.YtgpecklibcgifaaGreatDoor
open Go.RowKit

/-- A buffer of bytes in a block from B on. -/
def BufO (B : Nat) (w : World) (v : Value) (l : List UInt8) : Prop := w.ownsRowF B 5 1 v l.length (Lib.byteCells l) ∧ B ≤ w.heap.size
theorem BufO.nil (w : World) : BufO w.heap.size w (.slice none 0 0) [] := ⟨World.ownsRowF_nil _ _ _ _, Nat.le_refl _⟩
theorem BufO.lt {B : Nat} {w : World} {v : Value} {l : List UInt8} (h : BufO B w v l) : ∀ k, v.ownBlock = some k → B ≤ k ∧ k < w.heap.size := fun k hk => h.1.lt k hk
theorem BufO.keep {B : Nat} {w w' : World} {v : Value} {l : List UInt8} (h : BufO B w v l) {r : Option Nat} (hg : w.grownBy w' r) (hr : ∀ k, r = some k → k < B) : BufO B w' v l := by
  refine ⟨h.1.kept hg ?_, Nat.le_trans h.2 hg.size⟩
  rcases hv : v.ownBlock with _ | g
  · exact .inl rfl
  · refine .inr ?_
    intro he
    have h1 := hr g he.symm
    have h2 := (h.lt g hv).1
    omega
theorem BufO.string {B : Nat} {w : World} {v : Value} {l : List UInt8} (h : BufO B w v l) : (convert 88 9 v).run Tryz.prog w = .ok (.string ⟨l.toArray⟩) w := row_string h.1
theorem BufO.alloc {B : Nat} {w : World} {v : Value} {l : List UInt8} (h : BufO B w v l) (o : Obj) : BufO B (w.alloc o) v l := h.keep (World.grownBy_alloc w o none) (fun k hk => by cases hk)
theorem BufO.drewN {B : Nat} {w : World} {v : Value} {l : List UInt8} (h : BufO B w v l) (n : Nat) : BufO B (w.drewN n) v l := h
theorem BufO.stringTake {B : Nat} {w : World} {v : Value} {l : List UInt8} (h : BufO B w v l) {k : Nat} (hk : k ≤ l.length) : ∃ A c, v = .slice A l.length c ∧ l.length ≤ c ∧ (convert 88 9 (.slice A k c)).run Tryz.prog w = .ok (.string ⟨(l.take k).toArray⟩) w := by
  by_cases hl : l = []
  · subst hl
    obtain ⟨⟨h1, h2⟩, h3⟩ := h
    obtain rfl : k = 0 := by simpa using hk
    rcases h2 with ⟨rfl, hn⟩ | ⟨g, cap, cur, fz, rfl, r2, r3, r4, r5, r6, r7, r8⟩
    · refine ⟨none, 0, rfl, by simp, ?_⟩
      rw [run_convert_bytes_nil (w := w) (P := Tryz.prog) 88 5 Tryz.underlying88 Tryz.underlying5 0 0 9 Tryz.underlying9]
      rfl
    · exact ⟨some ⟨g, 0, none⟩, cap, rfl, r5, run_convert_bytes_back w 88 9 5 ⟨g, 0, none⟩ cap [] Tryz.underlying88 Tryz.underlying5 Tryz.underlying9 (fun j hj => absurd hj (by simp))⟩
  · obtain ⟨g, cap, rfl, hc, _, _, hcell⟩ := row_cell h.1 hl
    refine ⟨some ⟨g, 0, none⟩, cap, rfl, hc, ?_⟩
    have hkl : (l.take k).length = k := by simp; omega
    have := run_convert_bytes_back (P := Tryz.prog) w 88 9 5 ⟨g, 0, none⟩ cap (l.take k) Tryz.underlying88 Tryz.underlying5 Tryz.underlying9 (fun j hj => by
      rw [hkl] at hj
      rw [add_off, hcell j (by omega)]
      simp)
    rwa [hkl] at this
section
variable {ops : Array Oper} {rest : List Oper} {o : Oper} {a : Act} {Q : Exit → Act → World → Prop}
theorem bufo_byte (hgd : o.guard = none) (s x : Operand) (ho : o.op = .call { callee := .builtin .append, args := #[s, x], argTypes := #[88, 88] })
    {v : Value} {l : List UInt8} {B : Nat} {w0 : World} {c : UInt8} (hs : a.eval s = v) (hb : BufO B w0 v l)
    (hx : a.eval x = .slice (some ⟨w0.heap.size, 0, none⟩) 1 1) (hlen : l.length < 140737488355328)
    (h : ∀ v' w', BufO B w' v' (l ++ [c]) → w0.grownBy w' v.ownBlock → wpList Tryz.prog ops Q rest (a.put o.dst v') w') : wpList Tryz.prog ops Q (o :: rest) a (w0.alloc (.cells #[.int .u8 c.toNat] 5)) := by
  obtain ⟨i, h1, h2, h3, h4⟩ := infoByte
  have hb' := hb.alloc (.cells #[.int .u8 c.toNat] 5)
  refine wpList_append_ownF _ hgd s x 88 ho B 5 i (.int .u8 0) 1 1 Tryz.underlying88 h1 h2 h3 h4 rfl (by decide) v _ _ hs hb'.1 ⟨w0.heap.size, 0, none⟩ 1 1 [.int .u8 c.toNat] hx rfl ?_ ?_ (by unfold maxLen; omega) (by omega) hb'.2 ?_
  · intro j u hj
    match j, hj with
    | 0, hj => simp at hj; subst hj; simp [Addr.add]
    | (j + 1), hj => simp at hj
  · intro u hu; simp at hu; subst hu; rfl
  · intro v' w' ho' hg _
    refine h v' w' ⟨?_, Nat.le_trans hb'.2 hg.size⟩ (World.grownBy.trans (World.grownBy_alloc _ _ _) hg)
    simpa [Lib.byteCells] using ho'
end
/-- Behind an append the reader stands where it stood, and nothing else that was there has turned. -/
theorem BufO.rd {w0 w w' : World} {v : Value} {l s : List UInt8} {b i : Nat} (h : BufO w0.heap.size w v l) (hg : w.grownBy w' v.ownBlock) (hb : b < w0.heap.size) (hR : Rd w b s i) : Rd w' b s i := by
  unfold Rd at hR ⊢
  rw [hg.block b (Array.getElem?_eq_some_iff.1 hR).1]
  · exact hR
  · intro e
    have := (h.lt b e.symm).1
    omega
theorem BufO.grown {w0 w w' : World} {v : Value} {l : List UInt8} {r : Option Nat} (h : BufO w0.heap.size w v l) (hg0 : w0.grownBy w r) (hg : w.grownBy w' v.ownBlock) : w0.grownBy w' r :=
  ⟨hg.os.trans hg0.os, hg.tape.trans hg0.tape, hg.output.trans hg0.output, Nat.le_trans hg0.size hg.size, fun k hk hne => by
    rw [hg.block k (Nat.lt_of_lt_of_le hk hg0.size)]
    · exact hg0.block k hk hne
    · intro e
      have := (h.lt k e.symm).1
      omega⟩
end Go.Proofs.YtgpecklibcgifaaGreatDoor
/- Contracts: the reader of names: value. -/
namespace Go.Proofs.YtgpecklibcgifaaGreatDoor
open Go.RowKit

theorem ended_at (b : Nat) (s r : List UInt8) (w : World) (h : RdAt w b s r) :
    Calls Tryz.prog 112 #[.pointer (some ⟨b, 0, none⟩)] w fun e w' => e = .returned (.bool r.isEmpty) ∧ ∃ n, w' = w.drewN n := by
  obtain ⟨i, h1, rfl, h3⟩ := h
  refine (ended_c b s i w h3).mono ?_
  rintro e w' ⟨rfl, h⟩
  refine ⟨retb ?_, h⟩
  rw [Bool.eq_iff_iff]
  simp
  omega

theorem slice_to (A : Option Addr) (n c k : Nat) (hk : k ≤ c) (w : World) : (Instr.slice 88 (.slice A n c) none (some (.int .i64 k)) none).run Tryz.prog w = .ok (.slice A k c) w := by
  have h1 : (Instr.sliceBounds true n c none (some (.int .i64 k)) none).run Tryz.prog w = .ok (0, k, c) w := by
    simp [Instr.sliceBounds, run_sliceBound, hk]
  have h2 : (sizeOf 5).run Tryz.prog w = .ok 1 w := by kernel_rfl
  unfold Instr.slice
  simp only [Sem.run_bind, run_underlying Tryz.underlying88, Result.andThen_ok, h1, h2, Sem.run_pure]
  have ha : ∀ x : Addr, x.add 0 = x := fun x => by simp [Addr.add]
  cases A with
  | none => simp
  | some x => simp; intro _; exact ha x
theorem BufO.stringTakeN {B : Nat} {w : World} {v : Value} {l : List UInt8} (h : BufO B w v l) {k : Nat} (hk : k ≤ l.length) : ∃ A c, v = .slice A l.length c ∧ l.length ≤ c ∧ ∀ q, (convert 88 9 (.slice A k c)).run Tryz.prog (w.drewN q) = .ok (.string ⟨(l.take k).toArray⟩) (w.drewN q) := by
  obtain ⟨A, c, rfl, hc, _⟩ := h.stringTake hk
  refine ⟨A, c, rfl, hc, fun q => ?_⟩
  obtain ⟨A', c', hv, _, hr⟩ := (h.drewN q).stringTake hk
  cases hv
  exact hr
theorem bufo_byteN {ops : Array Oper} {rest : List Oper} {o : Oper} {a : Act} {Q : Exit → Act → World → Prop} (hgd : o.guard = none) (s x : Operand) (ho : o.op = .call { callee := .builtin .append, args := #[s, x], argTypes := #[88, 88] })
    {v : Value} {l : List UInt8} {B N : Nat} {w0 : World} {c : UInt8} (hs : a.eval s = v) (hb : BufO B w0 v l)
    (hx : a.eval x = .slice (some ⟨N, 0, none⟩) 1 1) (hN : N = w0.heap.size) (hlen : l.length < 140737488355328)
    (h : ∀ v' w', BufO B w' v' (l ++ [c]) → w0.grownBy w' v.ownBlock → wpList Tryz.prog ops Q rest (a.put o.dst v') w') : wpList Tryz.prog ops Q (o :: rest) a (w0.alloc (.cells #[.int .u8 c.toNat] 5)) := by
  subst hN
  exact bufo_byte hgd s x ho hs hb hx hlen h
def valL : Nat → List UInt8 → List UInt8 → Nat → Option (List UInt8 × List UInt8)
  | _, [], acc, long => some (acc.take long, [])
  | 0, _ :: _, _, _ => none
  | n + 1, c :: t, acc, long =>
    if (c.toNat : Int) = 44 ∨ (c.toNat : Int) = 43 then some (acc.take long, c :: t)
    else if (c.toNat : Int) = 92 then match escR t with
      | none => none
      | some (x, t') => valL n t' (acc ++ [x]) (acc.length + 1)
    else if (c.toNat : Int) = 0 ∨ 0 ≤ Lib.indexByte specCs c then none
    else valL n t (acc ++ [c]) (if (c.toNat : Int) = 32 then long else acc.length + 1)
/-- What a value says. -/
def valueR (r : List UInt8) : Option (List UInt8 × List UInt8) := if hd r 35 then hexR r.tail else valL r.length r [] 0
theorem escR_len {t t' : List UInt8} {x : UInt8} (h : escR t = some (x, t')) : t'.length < t.length := by
  cases t with
  | nil => cases h
  | cons c t =>
    rw [escR] at h
    split at h
    · cases h; simp
    · cases t with
      | nil => cases h
      | cons d t =>
        rw [esc2] at h
        split at h
        · cases h
        · cases h; simp; omega
theorem valL_fuel : ∀ (n m : Nat) (r acc : List UInt8) (long : Nat), r.length ≤ n → r.length ≤ m → valL n r acc long = valL m r acc long
  | _, _, [], _, _, _, _ => by simp [valL]
  | 0, _, _ :: _, _, _, h, _ => absurd h (by simp)
  | _, 0, _ :: _, _, _, _, h => absurd h (by simp)
  | n + 1, m + 1, c :: t, acc, long, h1, h2 => by
    simp only [List.length_cons] at h1 h2
    simp only [valL]
    split
    · rfl
    · split
      · cases he : escR t with
        | none => rfl
        | some y =>
          obtain ⟨x, t'⟩ := y
          have := escR_len he
          exact valL_fuel n m t' _ _ (by omega) (by omega)
      · split
        · rfl
        · exact valL_fuel n m t _ _ (by omega) (by omega)

theorem RdAt.cellsX {w : World} {b : Nat} {s t : List UInt8} {c : UInt8} (h : RdAt w b s (c :: t)) : ∃ i, ∃ hlt : i < s.length, s[i] = c ∧ s.drop (i + 1) = t ∧ Rd w b s i := by
  obtain ⟨i, h1, h2, h3⟩ := h
  have ⟨hlt, hdt⟩ := drop_succ h2
  refine ⟨i, hlt, ?_, hdt, h3⟩
  rw [List.drop_eq_getElem_cons hlt] at h2
  exact (List.cons.inj h2).1

set_option maxRecDepth 100000 in
set_option maxHeartbeats 1000000 in
theorem value_c (b : Nat) (s r : List UInt8) (w : World) (h : RdAt w b s r) (hs : s.length ≤ 65536) :
    Calls Tryz.prog 174 #[.pointer (some ⟨b, 0, none⟩)] w (RdRet w b s ((valueR r).map fun x => (.string ⟨x.1.toArray⟩, x.2))) := by
  have hI := is_at b s r 35 w h
  have hbw := h.lt
  have HR := Lib.hid h
  clear h
  cases h35 : hd r 35
  · have hv : valueR r = valL r.length r [] 0 := by unfold valueR; rw [h35]; rfl
    rw [hv]
    rw [h35] at hI
    clear hv h35
    generalize hV : valL r.length r [] 0 = V
    have HV := Lib.hid hV
    clear hV
    go_enter Tryz.func174, Tryz.ntmps174
    go_wp2_with (go_at_call 111; refine hI.mono ?_; rintro e w1 ⟨rfl, n1, rfl⟩)
    go_loopg [3, 4] r.length (fun gk v lg wr => ∃ (r' acc : List UInt8) (long : Nat), r'.length ≤ gk ∧ lg = .int .i64 long ∧ long ≤ acc.length ∧ acc.length + r'.length ≤ s.length ∧ RdAt wr b s r' ∧ BufO w.heap.size wr v acc ∧ Aside (valL r'.length r' acc long = V) ∧ w.grownBy wr (some b))
    case atStart =>
      refine ⟨r, [], 0, Nat.le_refl _, rfl, Nat.le_refl _, ?_, HR.out, BufO.nil w, HV.out, grown_drewN _ _ _⟩
      obtain ⟨i, hi, hd', _⟩ := HR.out
      rw [← hd']; simp
    case round =>
      obtain ⟨r', acc, long, hlen, rfl, hlong, hacc, hRr, hbuf, AV, hg⟩ := hrel
      have hEn := fun w' (hR : RdAt w' b s r') => ended_at b s r' w' hR
      have hIs := fun c w' (hR : RdAt w' b s r') => is_at b s r' c w' hR
      cases r' with
      | nil =>
        obtain ⟨A, cp, rfl, hcp, hst⟩ := hbuf.stringTakeN hlong
        have hfin : some (acc.take long, []) = V := by have := AV.out; simpa [valL] using this
        have Hf := Lib.hid hfin
        have HRr := Lib.hid hRr
        have HEn := Lib.hid hEn
        have hsl := slice_to A acc.length cp long (by omega)
        clear hfin AV hRr hEn
        go_wp2_with (go_at_call 112; refine (HEn.out _ (by exact HRr.out)).mono ?_; rintro e w1 ⟨rfl, n2, rfl⟩)
        go_ret
        rw [← Hf.out]
        exact ⟨World.grownBy.trans hg (grown_drewN _ _ _), rfl, HRr.out⟩
      | cons c t =>
        simp only [List.length_cons] at hlen hacc
        obtain ⟨i, hlt, hsc, hdt, hRd⟩ := hRr.cellsX
        have hAV : valL (t.length + 1) (c :: t) acc long = V := AV.out
        rw [valL] at hAV
        have HAV := Lib.hid hAV
        have HRr := Lib.hid hRr
        have HEn := Lib.hid hEn
        have HIs := Lib.hid hIs
        have HRd := Lib.hid hRd
        clear AV hAV hRr hEn hIs
        have h44d : hd (c :: t) 44 = decide ((c.toNat : Int) = 44) := by
          show ((c.toNat : Int) == 44) = _
          rw [Bool.eq_iff_iff]; simp
        have h43d : hd (c :: t) 43 = decide ((c.toNat : Int) = 43) := by
          show ((c.toNat : Int) == 43) = _
          rw [Bool.eq_iff_iff]; simp
        by_cases h44 : (c.toNat : Int) = 44
        · obtain ⟨A, cp, rfl, hcp, hst⟩ := hbuf.stringTakeN hlong
          have hfin : some (acc.take long, c :: t) = V := by rw [← HAV.out, if_pos (.inl h44)]
          have Hf := Lib.hid hfin
          rw [decide_eq_true h44] at h44d
          have H44 := Lib.hid h44d
          have hsl := slice_to A acc.length cp long (by omega)
          clear hfin h44d h43d h44 hRd hdt hsc
          go_wp2_with (first | (go_at_call 112; refine (HEn.out _ (by exact HRr.out)).mono ?_; rintro e w1 ⟨rfl, n2, rfl⟩) | (go_at_call 111; refine (HIs.out _ _ (by exact HRr.out)).mono ?_; rintro e w1 ⟨rfl, n2, rfl⟩; rw [H44.out]))
          go_ret
          rw [← Hf.out]
          exact ⟨World.grownBy.trans hg (grown_drewN _ _ _), rfl, HRr.out⟩
        · rw [decide_eq_false h44] at h44d
          have H44 := Lib.hid h44d
          clear h44d
          by_cases h43 : (c.toNat : Int) = 43
          · obtain ⟨A, cp, rfl, hcp, hst⟩ := hbuf.stringTakeN hlong
            have hfin : some (acc.take long, c :: t) = V := by rw [← HAV.out, if_pos (.inr h43)]
            have Hf := Lib.hid hfin
            rw [decide_eq_true h43] at h43d
            have H43 := Lib.hid h43d
            have hsl := slice_to A acc.length cp long (by omega)
            clear hfin h43d h44 h43 hRd hdt hsc
            go_wp2_with (first | (go_at_call 112; refine (HEn.out _ (by exact HRr.out)).mono ?_; rintro e w1 ⟨rfl, n2, rfl⟩) | (go_at_call 111; refine (HIs.out _ _ (by exact HRr.out)).mono ?_; rintro e w1 ⟨rfl, n2, rfl⟩; first | rw [H44.out] | rw [H43.out]))
            go_ret
            rw [← Hf.out]
            exact ⟨World.grownBy.trans hg (grown_drewN _ _ _), rfl, HRr.out⟩
          · rw [decide_eq_false h43] at h43d
            have H43 := Lib.hid h43d
            have hAV2 := HAV.out
            rw [if_neg (fun h => h.elim h44 h43)] at hAV2
            have HAV2 := Lib.hid hAV2
            subst hsc
            have c0 := hRd.c0
            have c1 := hRd.c1
            have f1 := hRd.f1
            have hget := ba_get
            have hi0 : (0 : Int) ≤ (i : Int) := by omega
            have hi1 : (i : Int) < (s.length : Int) := by omega
            have HDT := Lib.hid hdt
            clear h43d hAV2 h44 h43 hRd hdt HAV
            by_cases h92 : (s[i].toNat : Int) = 92
            · have h92' : ((s[i].toNat : Int) == 92) = true := by simp [h92]
              have hE := fun w' (hR : RdAt w' b s (s[i] :: t)) => escape_c b s t s[i] w' hR hs
              have hAV3 := HAV2.out
              rw [if_pos h92] at hAV3
              rcases hesc : escR t with _ | ⟨x, t'⟩
              · rw [hesc] at hE hAV3
                have HE := Lib.hid hE
                have Hf := Lib.hid hAV3
                clear hE hAV3 HAV2 h92
                go_wp2_with (first | (go_at_call 112; refine (HEn.out _ (by exact HRr.out)).mono ?_; rintro e w1 ⟨rfl, n2, rfl⟩) | (go_at_call 111; refine (HIs.out _ _ (by exact HRr.out)).mono ?_; rintro e w1 ⟨rfl, n2, rfl⟩; first | rw [H44.out] | rw [H43.out]))
                go_quiet (fail)
                go_wp2_with (go_at_call 189; refine (HE.out _ (by exact HRr.out)).mono ?_; rintro e w3 ⟨hg3, rfl⟩)
                refine ⟨rfl, ?_⟩
                rw [← Hf.out]
                exact ⟨World.grownBy.trans hg (World.grownBy.trans (grown_drewN _ _ _) hg3), rfl⟩
              · have hel := escR_len hesc
                rw [hesc] at hE hAV3
                have hAV4 : valL t'.length t' (acc ++ [x]) (acc.length + 1) = V := by
                  rw [← hAV3]
                  exact valL_fuel _ _ _ _ _ (Nat.le_refl _) (by omega)
                have HE := Lib.hid hE
                have Hf := Lib.hid hAV4
                clear hE hAV3 hAV4 HAV2 h92 hesc
                go_wp2_with (first | (go_at_call 112; refine (HEn.out _ (by exact HRr.out)).mono ?_; rintro e w1 ⟨rfl, n2, rfl⟩) | (go_at_call 111; refine (HIs.out _ _ (by exact HRr.out)).mono ?_; rintro e w1 ⟨rfl, n2, rfl⟩; first | rw [H44.out] | rw [H43.out]))
                go_quiet (fail)
                go_wp2_with (first | (go_at_call 189; refine (HE.out _ (by exact HRr.out)).mono ?_; rintro e w3 ⟨hg3, rfl, hR3⟩; have hb3 := (hbuf.drewN _).keep hg3 (fun k hk => by cases hk; exact hbw)) | (at_builtin; refine bufo_byte rfl _ _ rfl rfl hb3 rfl (by omega) ?_; intro v' w4 hb4 hg4; obtain ⟨A4, cp4, rfl, hcp4⟩ := row_len hb4.1))
                go_roundg t'.length
                case measure => omega
                case rel =>
                  obtain ⟨j, hj1, hj2, hj3⟩ := hR3
                  exact ⟨t', acc ++ [x], acc.length + 1, Nat.le_refl _, by simp, by simp, by simp; omega, ⟨j, hj1, hj2, hb3.rd hg4 hbw hj3⟩, by simpa using hb4, Hf.out, hb3.grown (World.grownBy.trans hg (World.grownBy.trans (grown_drewN _ _ _) hg3)) hg4⟩
            · have h92' : ((s[i].toNat : Int) == 92) = false := by simp [h92]
              have hAV3 := HAV2.out
              rw [if_neg h92] at hAV3
              have hIB := fun w => IndexByte_c specCs s[i] w
              have HIB := Lib.hid hIB
              clear h92 HAV2 hIB
              by_cases hz : (s[i].toNat : Int) = 0
              · have hz' : ((s[i].toNat : Int) == 0) = true := beq_iff_eq.2 hz
                rw [if_pos (.inl hz)] at hAV3
                have Hf := Lib.hid hAV3
                clear hAV3 hz
                go_wp2_with (first | (go_at_call 112; refine (HEn.out _ (by exact HRr.out)).mono ?_; rintro e w1 ⟨rfl, n2, rfl⟩) | (go_at_call 111; refine (HIs.out _ _ (by exact HRr.out)).mono ?_; rintro e w1 ⟨rfl, n2, rfl⟩; first | rw [H44.out] | rw [H43.out]))
                go_quiet (fail)
                go_wp2_with fail
                refine ⟨rfl, ?_⟩
                rw [← Hf.out]
                exact ⟨World.grownBy.trans hg (grown_drewN _ _ _), rfl⟩
              · have hz' : ((s[i].toNat : Int) == 0) = false := beq_eq_false_iff_ne.2 hz
                by_cases hsp : 0 ≤ Lib.indexByte specCs s[i]
                · rw [if_pos (.inr hsp)] at hAV3
                  have Hf := Lib.hid hAV3
                  clear hAV3 hz
                  go_wp2_with (first | (go_at_call 112; refine (HEn.out _ (by exact HRr.out)).mono ?_; rintro e w1 ⟨rfl, n2, rfl⟩) | (go_at_call 111; refine (HIs.out _ _ (by exact HRr.out)).mono ?_; rintro e w1 ⟨rfl, n2, rfl⟩; first | rw [H44.out] | rw [H43.out]))
                  go_quiet (fail)
                  go_wp2_with (go_at_call 186; refine (HIB.out _).mono ?_; rintro e w3 ⟨rfl, rfl⟩)
                  refine ⟨rfl, ?_⟩
                  rw [← Hf.out]
                  exact ⟨World.grownBy.trans hg (grown_drewN _ _ _), rfl⟩
                · rw [if_neg (fun h => h.elim hz hsp)] at hAV3
                  have hsp' : Lib.indexByte specCs s[i] < 0 := by omega
                  clear hz hsp
                  by_cases h32 : (s[i].toNat : Int) = 32
                  · have h32' : ((s[i].toNat : Int) != 32) = false := bne_eq_false_iff_eq.2 h32
                    rw [if_pos h32] at hAV3
                    have Hf := Lib.hid hAV3
                    clear hAV3 h32
                    go_wp2_with (first | (go_at_call 112; refine (HEn.out _ (by exact HRr.out)).mono ?_; rintro e w1 ⟨rfl, n2, rfl⟩) | (go_at_call 111; refine (HIs.out _ _ (by exact HRr.out)).mono ?_; rintro e w1 ⟨rfl, n2, rfl⟩; first | rw [H44.out] | rw [H43.out]))
                    go_quiet (fail)
                    go_wp2_with (first | (go_at_call 186; refine (HIB.out _).mono ?_; rintro e w3 ⟨rfl, rfl⟩) | (at_builtin; refine bufo_byteN rfl _ _ rfl rfl (hbuf.keep (World.grownBy.trans (grown_drewN _ _ _) (grown_set _)) (fun k hk => by cases hk; exact hbw)) rfl (by simp [World.setCell]) (by omega) ?_; intro v' w4 hb4 hg4; obtain ⟨A4, cp4, rfl, hcp4⟩ := row_len hb4.1))
                    go_roundg t.length
                    case measure => omega
                    case rel =>
                      refine ⟨t, acc ++ [s[i]], long, Nat.le_refl _, by simp, by simp; try omega, by simp; omega, ⟨i + 1, by omega, HDT.out, ?_⟩, by simpa using hb4, Hf.out, ?_⟩
                      · exact (hbuf.keep (World.grownBy.trans (grown_drewN _ _ _) (grown_set _)) (fun k hk => by cases hk; exact hbw)).rd hg4 hbw ((HRd.out.drewN _).set (i + 1))
                      · exact (hbuf.keep (World.grownBy.trans (grown_drewN _ _ _) (grown_set _)) (fun k hk => by cases hk; exact hbw)).grown (World.grownBy.trans hg (World.grownBy.trans (grown_drewN _ _ _) (grown_set _))) hg4
                  · have h32' : ((s[i].toNat : Int) != 32) = true := bne_iff_ne.2 h32
                    rw [if_neg h32] at hAV3
                    have Hf := Lib.hid hAV3
                    clear hAV3 h32
                    go_wp2_with (first | (go_at_call 112; refine (HEn.out _ (by exact HRr.out)).mono ?_; rintro e w1 ⟨rfl, n2, rfl⟩) | (go_at_call 111; refine (HIs.out _ _ (by exact HRr.out)).mono ?_; rintro e w1 ⟨rfl, n2, rfl⟩; first | rw [H44.out] | rw [H43.out]))
                    go_quiet (fail)
                    go_wp2_with (first | (go_at_call 186; refine (HIB.out _).mono ?_; rintro e w3 ⟨rfl, rfl⟩) | (at_builtin; refine bufo_byteN rfl _ _ rfl rfl (hbuf.keep (World.grownBy.trans (grown_drewN _ _ _) (grown_set _)) (fun k hk => by cases hk; exact hbw)) rfl (by simp [World.setCell]) (by omega) ?_; intro v' w4 hb4 hg4; obtain ⟨A4, cp4, rfl, hcp4⟩ := row_len hb4.1))
                    go_roundg t.length
                    case measure => omega
                    case rel =>
                      refine ⟨t, acc ++ [s[i]], acc.length + 1, Nat.le_refl _, by simp, by simp; try omega, by simp; omega, ⟨i + 1, by omega, HDT.out, ?_⟩, by simpa using hb4, Hf.out, ?_⟩
                      · exact (hbuf.keep (World.grownBy.trans (grown_drewN _ _ _) (grown_set _)) (fun k hk => by cases hk; exact hbw)).rd hg4 hbw ((HRd.out.drewN _).set (i + 1))
                      · exact (hbuf.keep (World.grownBy.trans (grown_drewN _ _ _) (grown_set _)) (fun k hk => by cases hk; exact hbw)).grown (World.grownBy.trans hg (World.grownBy.trans (grown_drewN _ _ _) (grown_set _))) hg4
  · have hv : valueR r = hexR r.tail := by unfold valueR; rw [h35]; rfl
    rw [hv]
    rw [h35] at hI
    obtain ⟨c, t, rfl⟩ : ∃ c t, r = c :: t := by
      cases r with
      | nil => cases h35
      | cons c t => exact ⟨c, t, rfl⟩
    have hH := fun w' (hR : RdAt w' b s (c :: t)) => hex_c b s t c w' hR hs
    simp only [List.tail_cons]
    rcases hhx : hexR t with _ | y
    · rw [hhx] at hH
      have HH := Lib.hid hH
      clear hH hv h35 hhx
      go_enter Tryz.func174, Tryz.ntmps174
      go_wp2_with (first | (go_at_call 111; refine hI.mono ?_; rintro e w1 ⟨rfl, n1, rfl⟩) | (go_at_call 188; refine (HH.out _ (by exact HR.out)).mono ?_; rintro e w3 ⟨hg3, rfl⟩))
      exact ⟨rfl, World.grownBy.trans (grown_drewN _ _ _) hg3, rfl⟩
    · rw [hhx] at hH
      have HH := Lib.hid hH
      clear hH hv h35 hhx
      go_enter Tryz.func174, Tryz.ntmps174
      go_wp2_with (first | (go_at_call 111; refine hI.mono ?_; rintro e w1 ⟨rfl, n1, rfl⟩) | (go_at_call 188; refine (HH.out _ (by exact HR.out)).mono ?_; rintro e w3 ⟨hg3, rfl, hR3⟩))
      go_ret
      exact ⟨World.grownBy.trans (grown_drewN _ _ _) hg3, rfl, hR3⟩
end Go.Proofs.YtgpecklibcgifaaGreatDoor
