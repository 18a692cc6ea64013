import Derived.Test.YtconnibnpckadaaGreatDoorWva4
import Derived.Lib.SplitLaws
import Init
set_option linter.all false
set_option maxHeartbeats 8000000
set_option maxRecDepth 100000
namespace Go.Proofs.YtconnibnpckadaaGreatDoor
open Go.RowKit
def ruleT (n : List UInt8) : Option (List UInt8 × Int × List (List UInt8) × NormFn) := (findT n 0 tab).or ((findT n 1 tab).or (findT n 2 tab))
def RowAt (w : World) (b : Nat) (x : List UInt8 × Int × List (List UInt8) × NormFn) : Prop :=
 ∃ fA fN fC nF n1 n2, w.heap[b]? = some (.cells #[.string ⟨x.1.toArray⟩, .int .i64 x.2.1, .slice fA fN fC, .func nF n1 n2] 144 (0, 0)) ∧ Texts w (.slice fA fN fC) x.2.2.1 ∧ normIs w (.func nF n1 n2) x.2.2.2
theorem RowAt.below {w w' : World} {b : Nat} {x : List UInt8 × Int × List (List UInt8) × NormFn} (h : RowAt w b x) (hb : Below w.heap.size w w') : RowAt w' b x := by
 obtain ⟨fA, fN, fC, nF, n1, n2, h1, h2, h3⟩ := h
 exact ⟨fA, fN, fC, nF, n1, n2, (hb.block b (Array.getElem?_eq_some_iff.1 h1).1).trans h1, h2.below hb, h3.below hb⟩
theorem RowAt.lt {w : World} {b : Nat} {x : List UInt8 × Int × List (List UInt8) × NormFn} (h : RowAt w b x) : b < w.heap.size := by
 obtain ⟨fA, fN, fC, nF, n1, n2, h1, h2, h3⟩ := h
 exact (Array.getElem?_eq_some_iff.1 h1).1
theorem Texts.isSlice {w : World} {v : Value} {xs : List (List UInt8)} (h : Texts w v xs) : ∃ A n c, v = .slice A n c := by
 rcases h with ⟨_, rfl⟩ | ⟨b, c, rfl, _⟩
 ·exact ⟨_, _, _, rfl⟩
 ·exact ⟨_, _, _, rfl⟩
theorem normIs.isFunc {w : World} {v : Value} {n : NormFn} (h : normIs w v n) : ∃ F a b, v = .func F a b := by
 cases n with
 | text fold => obtain ⟨a, rfl, _⟩ := h; exact ⟨_, _, _, rfl⟩
 | _ => exact ⟨_, _, _, h⟩
def RuleRet (w : World) (o : Option (List UInt8 × Int × List (List UInt8) × NormFn)) (e : Ending) (w' : World) : Prop :=
 Below w.heap.size w w' ∧ match o with
  | none => e = .returned (.pointer none)
  | some x => ∃ b, e = .returned (.pointer (some ⟨b, 0, none⟩)) ∧ w.heap.size ≤ b ∧ RowAt w' b x
set_option maxRecDepth 10000 in
theorem rule_c (l : List UInt8) (w : World) (hl : l.length ≤ 140737488351232) :
  Calls Tryz.prog 92 #[.string ⟨l.toArray⟩] w (RuleRet w (ruleT (smallL l))) := by
 go_enter Tryz.func92, Tryz.ntmps92
 go_wp2_with (go_at_call 125; refine (rules_c w).mono ?_; rintro e w1 ⟨r, es, c, R, rfl, h1, h2, h3, h4⟩)
 have hr1 : r < w1.heap.size := (Array.getElem?_eq_some_iff.1 h1).1
 have H1 := Lib.hid h1
 clear h1
 go_loopg [4] 3 (fun gk i wr => ∃ k : Nat, k ≤ 3 ∧ i = .int .i64 k ∧ Aside (k + gk = 3) ∧ Below w1.heap.size w1 wr ∧ Aside (ruleT (smallL l) = if k = 0 then ruleT (smallL l) else if k = 1 then (findT (smallL l) 1 tab).or (findT (smallL l) 2 tab) else if k = 2 then findT (smallL l) 2 tab else none))
 case atStart => exact ⟨0, by omega, rfl, by show _ = _; omega, Below.refl _ _, by show _ = _; simp⟩
 case round =>
  obtain ⟨k, hk, rfl, AG, hB, AT⟩ := hrel
  by_cases hk3 : k = 3
  ·subst hk3
   have hnone : ruleT (smallL l) = none := by have := AT.out; simpa using this
   have Hnone := Lib.hid hnone
   clear AG hnone
   go_wp2
   go_ret
   rw [Hnone.out]
   exact ⟨h4.trans (hB.mono h4.size), rfl⟩
  ·obtain ⟨q, rfl⟩ : ∃ q, gk = q + 1 := ⟨gk - 1, by have := AG.out; omega⟩
   have hlk : ∀ W, Below w1.heap.size w1 W → (Instr.lookup 169 (.map (some r)) (.agg #[.string ⟨(smallL l).toArray⟩, .int .i64 k]) true).run Tryz.prog W = .ok (match findR (smallL l) k R with | some v => .tuple #[v, .bool true] | none => .tuple #[.agg #[.string ⟨#[]⟩, .int .i64 0, .slice none 0 0, .nilFunc], .bool false]) W :=
    fun W hW => lookup_run W r c es R ((hW.block r hr1).trans H1.out) h2 (smallL l) k
   rcases find_stand h3 (smallL l) k with ⟨hT, hR⟩ | ⟨x, fo, nv, hT, hR, hf, hn⟩
   ·rw [hR] at hlk
    have AT' : Aside (ruleT (smallL l) = if k + 1 = 0 then ruleT (smallL l) else if k + 1 = 1 then (findT (smallL l) 1 tab).or (findT (smallL l) 2 tab) else if k + 1 = 2 then findT (smallL l) 2 tab else none) := by
     have := AT.out
     show _ = _
     rcases (show k = 0 ∨ k = 1 ∨ k = 2 by omega) with rfl | rfl | rfl
     ·have hT0 : findT (smallL l) 0 tab = none := hT
      simp [ruleT, hT0]
     ·have hT0 : findT (smallL l) 1 tab = none := hT
      simp at this; simp [this, hT0]
     ·have hT0 : findT (smallL l) 2 tab = none := hT
      simp at this; simp [this, hT0]
    have Hlk := Lib.hid hlk
    clear hlk hR hT AT h3 h2
    go_wp2_with (go_at_call 39; refine (Small_c _ _ hl).mono ?_; rintro e w2 ⟨rfl, hb2⟩; have hlk2 := Hlk.out w2 (hB.trans (hb2.mono hB.size)))
    go_roundg q
    case measure => omega
    case rel => exact ⟨k + 1, by omega, by go_num, by have := AG.out; show _ = _; omega, (hB.trans (hb2.mono hB.size)).alloc (Nat.le_trans hB.size hb2.size) _, AT'.out⟩
   ·rw [hR] at hlk
    have hsome : ruleT (smallL l) = some x := by
     have := AT.out
     rcases (show k = 0 ∨ k = 1 ∨ k = 2 by omega) with rfl | rfl | rfl
     ·have hT0 : findT (smallL l) 0 tab = some x := hT
      simp [ruleT, hT0]
     ·have hT0 : findT (smallL l) 1 tab = some x := hT
      simp at this; simp [this, hT0]
     ·have hT0 : findT (smallL l) 2 tab = some x := hT
      simp at this; simp [this, hT0]
    obtain ⟨fA, fN, fC, rfl⟩ := hf.isSlice
    obtain ⟨nF, n1, n2, rfl⟩ := hn.isFunc
    have Hsome := Lib.hid hsome
    have Hlk := Lib.hid hlk
    clear hlk hR hT AT h3 h2 hsome
    go_wp2_with (go_at_call 39; refine (Small_c _ _ hl).mono ?_; rintro e w2 ⟨rfl, hb2⟩; have hlk2 := Hlk.out w2 (hB.trans (hb2.mono hB.size)))
    go_ret
    rw [Hsome.out]
    have hb12 : Below w1.heap.size w1 w2 := hB.trans (hb2.mono hB.size)
    have hba := (Below.refl w2.heap.size w2).alloc (Nat.le_refl _) (.cells #[.string ⟨x.1.toArray⟩, .int .i64 x.2.1, .slice fA fN fC, .func nF n1 n2] 144)
    refine ⟨(h4.trans (hb12.mono h4.size)).alloc (Nat.le_trans h4.size hb12.size) _, w2.heap.size, rfl, Nat.le_trans h4.size hb12.size, fA, fN, fC, nF, n1, n2, heap_alloc_new w2 _, (hf.below hb12).below hba, (hn.below hb12).below hba⟩
open Go.RowKit
def askT (n : List UInt8) (k : Int) : Option (List UInt8 × Int × List (List UInt8) × NormFn) := (ruleT n).filter (fun x => x.2.1 == k)
def AskRet (w : World) (o : Option (List UInt8 × Int × List (List UInt8) × NormFn)) (e : Ending) (w' : World) : Prop :=
 Below w.heap.size w w' ∧ match o with
  | none => e = .returned (.tuple #[.pointer none, .int .i64 41])
  | some x => ∃ b, e = .returned (.tuple #[.pointer (some ⟨b, 0, none⟩), .int .i64 0]) ∧ w.heap.size ≤ b ∧ RowAt w' b x
def ruleV (n : List UInt8) : Value := match ruleT n with
 | none => .tuple #[.string ⟨#[]⟩, .int .i64 0, .int .i64 41]
 | some x => .tuple #[.string ⟨x.1.toArray⟩, .int .i64 x.2.1, .int .i64 0]
set_option maxRecDepth 10000 in
theorem Rule_c (l : List UInt8) (w : World) (hl : l.length ≤ 140737488351232) :
  Calls Tryz.prog 101 #[.string ⟨l.toArray⟩] w fun e w' => e = .returned (ruleV (smallL l)) ∧ Below w.heap.size w w' := by
 have hc := rule_c l w hl
 unfold ruleV
 cases hr : ruleT (smallL l) with
 | none =>
  rw [hr] at hc
  go_enter Tryz.func101, Tryz.ntmps101
  go_wp2_with (go_at_call 92; refine hc.mono ?_; rintro e w1 ⟨hb, rfl⟩)
  go_ret3
  exact ⟨rfl, hb⟩
 | some x =>
  rw [hr] at hc
  clear hr
  go_enter Tryz.func101, Tryz.ntmps101
  go_wp2_with (go_at_call 92; refine hc.mono ?_; rintro e w1 ⟨hb, b, rfl, hbb, hrow⟩; obtain ⟨fA, fN, fC, nF, n1, n2, h1, h2, h3⟩ := id hrow; have hcell : w1.cell? ⟨b, 1, none⟩ = some (.int .i64 x.2.1) := (by simp [World.cell?, h1]); have hcell0 : w1.cell? ⟨b, 0, none⟩ = some (.string ⟨x.1.toArray⟩) := (by simp [World.cell?, h1]))
  go_quiet (fail)
  go_wp2
  go_ret3
  exact ⟨rfl, below_drewN hb _⟩
open Go.RowKit
theorem splitB_le (sep : ByteArray) : ∀ (k : Nat) (s : ByteArray), ∀ x ∈ Lib.splitB sep 0 k s, x.size ≤ s.size
 | 0, s, x, hx => by simp [Lib.splitB] at hx; subst hx; exact Nat.le_refl _
 | k + 1, s, x, hx => by
  rw [Lib.splitB] at hx
  split at hx
  ·simp at hx; subst hx; exact Nat.le_refl _
  ·rcases List.mem_cons.1 hx with h | h
   ·subst h; simp [ByteArray.size_extract]; omega
   ·have := splitB_le sep k _ x h
    simp [ByteArray.size_extract] at this
    omega
def segs (l : List UInt8) : List (List UInt8) := (Lib.splitB ⟨#[46]⟩ 0 (Lib.countB ⟨l.toArray⟩ ⟨#[46]⟩) ⟨l.toArray⟩).map (·.data.toList)
theorem segs_le {l x : List UInt8} (h : x ∈ segs l) : x.length ≤ l.length := by
 unfold segs at h
 obtain ⟨y, hy, rfl⟩ := List.mem_map.1 h
 have := splitB_le _ _ _ y hy
 show y.data.size ≤ l.length
 exact this
theorem segs_cnt (l : List UInt8) : (segs l).length = Lib.countB ⟨l.toArray⟩ ⟨#[46]⟩ + 1 ∧ (segs l).length ≤ l.length + 1 := by
 have h1 : (segs l).length = Lib.countB ⟨l.toArray⟩ ⟨#[46]⟩ + 1 := by
  unfold segs
  rw [List.length_map]
  exact Lib.splitB_all ⟨#[46]⟩ (by decide) 0 _ _ rfl
 have h2 : Lib.countB ⟨l.toArray⟩ ⟨#[46]⟩ ≤ (⟨l.toArray⟩ : ByteArray).size := Lib.countB_le ⟨#[46]⟩ (by decide) _ _ (Nat.le_refl _)
 exact ⟨h1, by simp [ByteArray.size] at h2; omega⟩
theorem Split_c (l : List UInt8) (w : World) (hw : Env w) (hl : l.length ≤ 65536) :
  Calls Tryz.prog 119 #[.string ⟨l.toArray⟩, .string ⟨#[46]⟩] w fun e w' => e = .returned (.slice (some ⟨w.heap.size, 0, none⟩) (segs l).length (segs l).length) ∧ w' = w.alloc (.cells ((segs l).map strV).toArray 9) := by
 obtain ⟨m, hm⟩ := hw.mx
 refine (Tryz.strings_Split ⟨l.toArray⟩ ⟨#[46]⟩ m w (by simp [ByteArray.size]; omega) hm (by decide)).mono ?_
 rintro e w' ⟨rfl, rfl⟩
 rw [← (segs_cnt l).1]
 refine ⟨rfl, ?_⟩
 congr 3
 unfold segs
 rw [List.map_map]
 refine List.map_congr_left fun x _ => ?_
 simp [strV]
def segOk (n : List UInt8) : Bool := !n.isEmpty && !(decide (1 < n.length) && n.head? == some 48) && n.all isDig
def isOidL (l : List UInt8) : Bool := (segs l).all segOk && decide (1 < (segs l).length)
set_option maxRecDepth 10000 in
theorem isOid_c (l : List UInt8) (w : World) (hw : Env w) (hl : l.length ≤ 64) :
  Calls Tryz.prog 73 #[.string ⟨l.toArray⟩] w fun e w' => e = .returned (.bool (isOidL l)) ∧ Below w.heap.size w w' := by
 have hget := ba_get
 have hS := Split_c l w hw (by omega)
 unfold isOidL
 have hle : ∀ x ∈ segs l, x.length ≤ l.length := fun x hx => segs_le hx
 have hcnt := (segs_cnt l).2
 generalize segs l = S at *
 have HL := Lib.hid hle
 clear hle
 go_enter Tryz.func73, Tryz.ntmps73
 go_wp2_with (go_at_call 119; refine hS.mono ?_; rintro e w1 ⟨rfl, rfl⟩)
 have hca : ∀ k (hk : k < S.length), (w.alloc (.cells (S.map strV).toArray 9)).cell? ⟨w.heap.size, k, none⟩ = some (.string ⟨S[k].toArray⟩) := by
  intro k hk
  rw [World.cell?_alloc_mark]
  simp [strV, hk]
 have HC := Lib.hid hca
 clear hca hS
 have hsz : w.heap.size < (w.alloc (.cells (S.map strV).toArray 9)).heap.size := by simp
 have hbw : Below w.heap.size w (w.alloc (.cells (S.map strV).toArray 9)) := (Below.refl _ _).alloc (Nat.le_refl _) _
 generalize w.alloc (.cells (S.map strV).toArray 9) = W at *
 go_loopg [10] S.length (fun gk i wr => ∃ k : Nat, k ≤ S.length ∧ i = .int .i64 k ∧ Aside (k + gk = S.length) ∧ Below W.heap.size W wr ∧ Aside (S.all segOk = (S.drop k).all segOk))
 case atStart => exact ⟨0, by omega, rfl, by show _ = _; omega, Below.refl _ _, rfl⟩
 case round =>
  obtain ⟨k, hk, rfl, AG, hB, AS⟩ := hrel
  have hBB : Below w.heap.size w wr := hbw.trans (hB.mono (by omega))
  by_cases hlt : k < S.length
  ·have hcell : wr.cell? ⟨w.heap.size, k, none⟩ = some (.string ⟨S[k].toArray⟩) := (hB.cell (p := ⟨w.heap.size, k, none⟩) hsz).trans (HC.out k hlt)
   have hsl : S[k].length ≤ 64 := by have := HL.out _ (List.getElem_mem hlt); omega
   have AS' : Aside (S.all segOk = (segOk S[k] && (S.drop (k + 1)).all segOk)) := by have := AS.out; rw [List.drop_eq_getElem_cons hlt] at this; exact this
   obtain ⟨q, rfl⟩ : ∃ q, gk = q + 1 := ⟨gk - 1, by have := AG.out; omega⟩
   generalize S[k] = n at *
   have hT := fun w => Tryz.strings_Trim_set ⟨n.toArray⟩ ⟨#[48, 49, 50, 51, 52, 53, 54, 55, 56, 57]⟩ w (by simp [ByteArray.size]; omega) (by decide) (asc_of_all (by decide))
   simp only at hT
   have hiff := trimS_nil_iff n [48, 49, 50, 51, 52, 53, 54, 55, 56, 57]
   rw [digits_contains] at hiff
   generalize Lib.trimS n [48, 49, 50, 51, 52, 53, 54, 55, 56, 57] = t at *
   have Hiff := Lib.hid hiff
   clear hiff AS
   cases n with
   | nil =>
    clear hT
    go_wp2
    go_ret
    exact ⟨retb (by rw [AS'.out]; rfl), hBB⟩
   | cons c m =>
    simp only [List.length_cons] at hsl
    by_cases h48 : m ≠ [] ∧ c = 48
    ·obtain ⟨hm, rfl⟩ := h48
     have hml : 0 < m.length := List.length_pos_iff.2 hm
     have hso : segOk (48 :: m) = false := by
      have h1 : decide (1 < (48 :: m).length) = true := by rw [decide_eq_true_eq, List.length_cons]; omega
      unfold segOk; rw [h1]; rfl
     have Hso := Lib.hid hso
     clear hT hso hm
     go_wp2
     go_ret
     exact ⟨retb (by rw [AS'.out, Hso.out]; rfl), hBB⟩
    ·have hno : segOk (c :: m) = (c :: m).all isDig := by
      unfold segOk
      have : (!(decide (1 < (c :: m).length) && (c :: m).head? == some 48)) = true := by
       rw [Bool.not_eq_true', Bool.and_eq_false_iff]
       by_cases hm : m = []
       ·left; subst hm; rfl
       ·right
        have hc : c ≠ 48 := fun h => h48 ⟨hm, h⟩
        simp [hc]
      rw [this]; simp
     have Hno := Lib.hid hno
     clear hno
     have h48' : (m.length = 0) ∨ ((c.toNat : Int) == 48) = false := by
      by_cases hm : m = []
      ·left; simp [hm]
      ·right; rw [beq_eq_false_iff_ne]; intro h; exact h48 ⟨hm, UInt8.toNat_inj.1 (show _ = 48 by omega)⟩
     clear h48
     by_cases ht : t = []
     ·have hall : (c :: m).all isDig = true := Hiff.out.1 ht
      have Hall := Lib.hid hall
      subst ht
      clear hall
      rcases h48' with h | h
      ·obtain rfl : m = [] := List.eq_nil_of_length_eq_zero h
       go_wp2_with (go_at_call 120; refine (hT _).mono ?_; rintro e w2 ⟨rfl, hb2⟩)
       go_roundg q
       case measure => omega
       case rel => exact ⟨k + 1, by omega, by go_num, by have := AG.out; show _ = _; omega, hB.trans (hb2.mono hB.size), by have := AS'.out; rw [Hno.out, Hall.out] at this; exact this⟩
      ·go_wp2_with (go_at_call 120; refine (hT _).mono ?_; rintro e w2 ⟨rfl, hb2⟩)
       all_goals
        go_roundg q
        case measure => omega
        case rel => exact ⟨k + 1, by omega, by go_num, by have := AG.out; show _ = _; omega, hB.trans (hb2.mono hB.size), by have := AS'.out; rw [Hno.out, Hall.out] at this; exact this⟩
     ·have hall : (c :: m).all isDig = false := by
       cases h : (c :: m).all isDig
       ·rfl
       ·exact absurd (Hiff.out.2 h) ht
      have hte : t.isEmpty = false := by cases t <;> simp_all
      have Hall := Lib.hid hall
      clear hall ht
      rcases h48' with h | h
      ·obtain rfl : m = [] := List.eq_nil_of_length_eq_zero h
       go_wp2_with (go_at_call 120; refine (hT _).mono ?_; rintro e w2 ⟨rfl, hb2⟩)
       go_ret
       exact ⟨retb (by rw [AS'.out, Hno.out, Hall.out]; rfl), hBB.trans (hb2.mono hBB.size)⟩
      ·go_wp2_with (go_at_call 120; refine (hT _).mono ?_; rintro e w2 ⟨rfl, hb2⟩)
       all_goals
        go_ret
        exact ⟨retb (by rw [AS'.out, Hno.out, Hall.out]; rfl), hBB.trans (hb2.mono hBB.size)⟩
  ·obtain rfl : k = S.length := by omega
   have hs : S.all segOk = true := by have := AS.out; rw [List.drop_length] at this; exact this
   have Hs := Lib.hid hs
   clear hs AS
   go_wp2
   all_goals
    go_ret
    refine ⟨retb ?_, hBB⟩
    rw [Hs.out, Bool.true_and]
    show decide ((1 : Int) < (S.length : Int)) = _
    exact decide_eq_decide.2 (by omega)
def typeCh (c : UInt8) : Bool := inTypeB c.toNat && !(c == 46)
def isTypeL (l : List UInt8) : Bool := match l with
 | [] => false
 | c :: m => decide ((c :: m).length ≤ 64) && (if letB c.toNat then (c :: m).all typeCh else isOidL (c :: m))
set_option maxRecDepth 10000 in
theorem IsType_let (l : List UInt8) (w : World) (h0 : 0 < l.length) (h64 : l.length ≤ 64) (hlet : letB (l[0].toNat) = true) :
  Calls Tryz.prog 36 #[.string ⟨l.toArray⟩] w fun e w' => e = .returned (.bool (l.all typeCh)) ∧ w = w' := by
 have hget := ba_get
 have hne : l.isEmpty = false := by cases l with | nil => exact absurd h0 (by simp) | cons _ _ => rfl
 have h0' : (0 : Int) < (l.length : Int) := by omega
 have hlc := isLetter_c (l[0].toNat) w
 rw [hlet] at hlc
 clear hlet
 go_enter Tryz.func36, Tryz.ntmps36
 go_wp2_with (first | (go_at_call 72; refine hlc.mono ?_; rintro e w1 ⟨rfl, rfl⟩))
 clear hlc
 go_loopg [21] l.length (fun gk i wr => ∃ k : Nat, k ≤ l.length ∧ i = .int .i64 k ∧ Aside (k + gk = l.length) ∧ Aside (wr = w) ∧ Aside (l.all typeCh = (l.drop k).all typeCh))
 case atStart => exact ⟨0, by omega, rfl, by show _ = _; omega, rfl, rfl⟩
 case round =>
  obtain ⟨k, hk, rfl, AG, AW, AS⟩ := hrel
  obtain rfl : wr = w := AW.out
  by_cases hlt : k < l.length
  ·have AS' : Aside (l.all typeCh = (typeCh l[k] && (l.drop (k + 1)).all typeCh)) := by have := AS.out; rw [List.drop_eq_getElem_cons hlt] at this; exact this
   obtain ⟨q, rfl⟩ : ∃ q, gk = q + 1 := ⟨gk - 1, by have := AG.out; omega⟩
   clear AS
   have hit := inType_c (l[k].toNat) wr
   have hpt : typeCh l[k] = (inTypeB l[k].toNat && !(l[k] == 46)) := rfl
   have Hpt := Lib.hid hpt
   clear hpt
   cases h1 : inTypeB l[k].toNat
   ·rw [h1] at hit
    have H1 := Lib.hid h1
    clear h1
    go_wp2_with (first | (go_at_call 74; refine hit.mono ?_; rintro e w1 ⟨rfl, rfl⟩))
    go_ret
    exact ⟨retb (by rw [AS'.out, Hpt.out, H1.out]; rfl), rfl⟩
   ·rw [h1] at hit
    have H1 := Lib.hid h1
    clear h1
    by_cases h46 : l[k] = 46
    ·have h46' : ((l[k].toNat : Int) == 46) = true := by rw [h46]; rfl
     have hb : (l[k] == 46) = true := by simp [h46]
     have Hb := Lib.hid hb
     clear h46 hb
     go_wp2_with (first | (go_at_call 74; refine hit.mono ?_; rintro e w1 ⟨rfl, rfl⟩))
     go_ret
     exact ⟨retb (by rw [AS'.out, Hpt.out, H1.out, Hb.out]; rfl), rfl⟩
    ·have h46' : ((l[k].toNat : Int) == 46) = false := by rw [beq_eq_false_iff_ne]; intro h; exact h46 (UInt8.toNat_inj.1 (show _ = 46 by omega))
     have hb : (l[k] == 46) = false := by simp [h46]
     have Hb := Lib.hid hb
     clear h46 hb
     go_wp2_with (first | (go_at_call 74; refine hit.mono ?_; rintro e w1 ⟨rfl, rfl⟩))
     go_roundg q
     case measure => omega
     case rel => exact ⟨k + 1, by omega, by go_num, by have := AG.out; show _ = _; omega, rfl, by have := AS'.out; rw [Hpt.out, H1.out, Hb.out] at this; exact this⟩
  ·obtain rfl : k = l.length := by omega
   have hs : l.all typeCh = true := by have := AS.out; rw [List.drop_length] at this; exact this
   have Hs := Lib.hid hs
   clear hs AS
   go_wp2
   go_ret
   exact ⟨retb (by rw [Hs.out]), rfl⟩
set_option maxRecDepth 10000 in
theorem IsType_c (l : List UInt8) (w : World) (hw : Env w) (hl : l.length ≤ 1099511627776) :
  Calls Tryz.prog 36 #[.string ⟨l.toArray⟩] w fun e w' => e = .returned (.bool (isTypeL l)) ∧ Below w.heap.size w w' := by
 cases hl' : l with
 | nil =>
  go_enter Tryz.func36, Tryz.ntmps36
  go_wp2
  go_ret
  exact ⟨rfl, Below.refl _ _⟩
 | cons c m =>
  rw [← hl']
  have h0 : 0 < l.length := by rw [hl']; simp
  have hc0 : l[0] = c := by simp [hl']
  have hne : l.isEmpty = false := by rw [hl']; rfl
  have hty : isTypeL l = (decide (l.length ≤ 64) && (if letB (l[0].toNat) then l.all typeCh else isOidL l)) := by rw [hc0]; rw [hl']; rfl
  rw [hty]
  clear hl' hty hc0
  have hget := ba_get
  have h0' : (0 : Int) < (l.length : Int) := by omega
  by_cases h64 : l.length ≤ 64
  ·rw [decide_eq_true h64, Bool.true_and]
   cases hlet : letB l[0].toNat
   ·have hO := isOid_c l w hw h64
    have hlc := isLetter_c (l[0].toNat) w
    rw [hlet] at hlc
    clear hlet
    go_enter Tryz.func36, Tryz.ntmps36
    go_wp2_with (first | (go_at_call 72; refine hlc.mono ?_; rintro e w1 ⟨rfl, rfl⟩) | (go_at_call 73; refine hO.mono ?_; rintro e w1 ⟨rfl, hb1⟩))
    go_ret
    exact ⟨rfl, hb1⟩
   ·refine (IsType_let l w h0 h64 hlet).mono ?_
    rintro e w' ⟨rfl, rfl⟩
    exact ⟨rfl, Below.refl _ _⟩
  ·have h64' : (64 : Int) < (l.length : Int) := by omega
   rw [decide_eq_false h64, Bool.false_and]
   clear h64
   go_enter Tryz.func36, Tryz.ntmps36
   go_wp2_with fail
   go_ret
   exact ⟨rfl, Below.refl _ _⟩
open Go.RowKit
def headF : List UInt8 := [49, 46, 51, 46, 54, 46, 49, 46, 52, 46, 49, 46, 49, 52, 54, 54, 46, 49, 49, 53, 46, 49, 50, 49, 46, 49, 46]
def formS (n : List UInt8) : List UInt8 :=
 if n = [52, 48] then [111, 99, 116, 101, 116, 115] else
 if n = [49, 53] then [116, 101, 120, 116] else
 if n = [50, 54] then [97, 115, 99, 105, 105] else
 if n = [50, 55] then [105, 110, 116, 101, 103, 101, 114] else
 if n = [55] then [98, 111, 111, 108, 101, 97, 110] else
 if n = [49, 50] then [110, 97, 109, 101] else
 if n = [51, 56] then [111, 105, 100] else
 if n = [50, 52] then [116, 105, 109, 101] else
 []
def formF (l : List UInt8) : List UInt8 := if Lib.hasPrefix l headF then formS (l.drop 27) else []
def formE (l : List UInt8) : Int := if formF l = [] then 52 else 0
theorem formCases (n : List UInt8) : n = [52, 48] ∨ n = [49, 53] ∨ n = [50, 54] ∨ n = [50, 55] ∨ n = [55] ∨ n = [49, 50] ∨ n = [51, 56] ∨ n = [50, 52] ∨ ((n == [52, 48]) = false ∧ (n == [49, 53]) = false ∧ (n == [50, 54]) = false ∧ (n == [50, 55]) = false ∧ (n == [55]) = false ∧ (n == [49, 50]) = false ∧ (n == [51, 56]) = false ∧ (n == [50, 52]) = false ∧ formS n = []) := by
 by_cases h0 : n = [52, 48]
 ·exact .inl h0
 by_cases h1 : n = [49, 53]
 ·exact .inr (.inl h1)
 by_cases h2 : n = [50, 54]
 ·exact .inr (.inr (.inl h2))
 by_cases h3 : n = [50, 55]
 ·exact .inr (.inr (.inr (.inl h3)))
 by_cases h4 : n = [55]
 ·exact .inr (.inr (.inr (.inr (.inl h4))))
 by_cases h5 : n = [49, 50]
 ·exact .inr (.inr (.inr (.inr (.inr (.inl h5)))))
 by_cases h6 : n = [51, 56]
 ·exact .inr (.inr (.inr (.inr (.inr (.inr (.inl h6))))))
 by_cases h7 : n = [50, 52]
 ·exact .inr (.inr (.inr (.inr (.inr (.inr (.inr (.inl h7)))))))
 refine .inr (.inr (.inr (.inr (.inr (.inr (.inr (.inr ?_)))))))
 exact ⟨beq_eq_false_iff_ne.2 h0, beq_eq_false_iff_ne.2 h1, beq_eq_false_iff_ne.2 h2, beq_eq_false_iff_ne.2 h3, beq_eq_false_iff_ne.2 h4, beq_eq_false_iff_ne.2 h5, beq_eq_false_iff_ne.2 h6, beq_eq_false_iff_ne.2 h7, by unfold formS; rw [if_neg h0, if_neg h1, if_neg h2, if_neg h3, if_neg h4, if_neg h5, if_neg h6, if_neg h7]⟩
def strE (s : List UInt8) (e : Int) : Value := .tuple #[.string ⟨s.toArray⟩, .int .i64 e]
set_option maxRecDepth 10000 in
theorem sForm_go (l n : List UInt8) (w : World) (hC : Calls Tryz.prog 63 #[.string ⟨l.toArray⟩, .string ⟨#[49, 46, 51, 46, 54, 46, 49, 46, 52, 46, 49, 46, 49, 52, 54, 54, 46, 49, 49, 53, 46, 49, 50, 49, 46, 49, 46]⟩] w fun e w' => e = .returned (.tuple #[.string ⟨n.toArray⟩, .bool true]) ∧ w = w') :
  Calls Tryz.prog 85 #[.string ⟨l.toArray⟩] w fun e w' => e = .returned (strE (formS n) (if formS n = [] then 52 else 0)) ∧ w = w' := by
 rcases formCases n with rfl | rfl | rfl | rfl | rfl | rfl | rfl | rfl | ⟨h0, h1, h2, h3, h4, h5, h6, h7, h8⟩
 all_goals try rw [h8]
 all_goals
  go_enter Tryz.func85, Tryz.ntmps85
  go_wp2_with (go_at_call 63; refine hC.mono ?_; rintro e w1 ⟨rfl, rfl⟩)
  go_ret2
  exact ⟨rfl, rfl⟩
set_option maxRecDepth 10000 in
theorem sForm_no (l n : List UInt8) (w : World) (hC : Calls Tryz.prog 63 #[.string ⟨l.toArray⟩, .string ⟨#[49, 46, 51, 46, 54, 46, 49, 46, 52, 46, 49, 46, 49, 52, 54, 54, 46, 49, 49, 53, 46, 49, 50, 49, 46, 49, 46]⟩] w fun e w' => e = .returned (.tuple #[.string ⟨n.toArray⟩, .bool false]) ∧ w = w') :
  Calls Tryz.prog 85 #[.string ⟨l.toArray⟩] w fun e w' => e = .returned (strE [] 52) ∧ w = w' := by
 go_enter Tryz.func85, Tryz.ntmps85
 go_wp2_with (go_at_call 63; refine hC.mono ?_; rintro e w1 ⟨rfl, rfl⟩)
 go_ret2
 exact ⟨rfl, rfl⟩
theorem sForm_c (l : List UInt8) (w : World) : Calls Tryz.prog 85 #[.string ⟨l.toArray⟩] w fun e w' => e = .returned (strE (formF l) (formE l)) ∧ w = w' := by
 have hC : Calls Tryz.prog 63 #[.string ⟨l.toArray⟩, .string ⟨#[49, 46, 51, 46, 54, 46, 49, 46, 52, 46, 49, 46, 49, 52, 54, 54, 46, 49, 49, 53, 46, 49, 50, 49, 46, 49, 46]⟩] w fun e w' => e = .returned (.tuple #[.string ⟨(Lib.trimPrefix l headF).toArray⟩, .bool (Lib.hasPrefix l headF)]) ∧ w = w' :=
  (Tryz.strings_CutPrefix ⟨l.toArray⟩ ⟨#[49, 46, 51, 46, 54, 46, 49, 46, 52, 46, 49, 46, 49, 52, 54, 54, 46, 49, 49, 53, 46, 49, 50, 49, 46, 49, 46]⟩ w).mono fun _ _ h => ⟨h.1, h.2.symm⟩
 unfold formE formF
 cases hp : Lib.hasPrefix l headF
 ·rw [hp] at hC; exact sForm_no l _ w hC
 ·rw [hp] at hC
  have ht : Lib.trimPrefix l headF = l.drop 27 := by unfold Lib.trimPrefix; rw [hp]; rfl
  rw [ht] at hC
  exact sForm_go l _ w hC
def wName : List UInt8 := [78, 65, 77, 69]
def wDesc : List UInt8 := [68, 69, 83, 67]
def wSup : List UInt8 := [83, 85, 80]
def wMust : List UInt8 := [77, 85, 83, 84]
def wMay : List UInt8 := [77, 65, 89]
def wEquality : List UInt8 := [69, 81, 85, 65, 76, 73, 84, 89]
def wOrdering : List UInt8 := [79, 82, 68, 69, 82, 73, 78, 71]
def wSubstr : List UInt8 := [83, 85, 66, 83, 84, 82]
def wSyntax : List UInt8 := [83, 89, 78, 84, 65, 88]
def wSingleValue : List UInt8 := [83, 73, 78, 71, 76, 69, 45, 86, 65, 76, 85, 69]
def wNoUserModification : List UInt8 := [78, 79, 45, 85, 83, 69, 82, 45, 77, 79, 68, 73, 70, 73, 67, 65, 84, 73, 79, 78]
def wUsage : List UInt8 := [85, 83, 65, 71, 69]
def wAbstract : List UInt8 := [65, 66, 83, 84, 82, 65, 67, 84]
def wStructural : List UInt8 := [83, 84, 82, 85, 67, 84, 85, 82, 65, 76]
def wAuxiliary : List UInt8 := [65, 85, 88, 73, 76, 73, 65, 82, 89]
def wDirectoryoperation : List UInt8 := [100, 105, 114, 101, 99, 116, 111, 114, 121, 79, 112, 101, 114, 97, 116, 105, 111, 110]
def wUserapplications : List UInt8 := [117, 115, 101, 114, 65, 112, 112, 108, 105, 99, 97, 116, 105, 111, 110, 115]
def wAKind : List UInt8 := [97, 32, 107, 105, 110, 100]
abbrev Wd := List UInt8 × Bool
def sBlank (c : UInt8) : Bool := c == 32 || c == 9 || c == 10 || c == 13
def sAlone (c : UInt8) : Bool := c == 40 || c == 41 || c == 36
def sStop (c : UInt8) : Bool := sBlank c || sAlone c || c == 39
def wordsF : Nat → List UInt8 → List Wd → Option (List Wd)
 | 0, _, acc => some acc
 | n + 1, r, acc => match r.dropWhile sBlank with
  | [] => some acc
  | c :: t =>
   if c == 39 then (if t.contains 39 then wordsF n (t.dropWhile (· != 39)).tail (acc ++ [(t.takeWhile (· != 39), true)]) else none)
   else if sAlone c then wordsF n t (acc ++ [([c], false)])
   else wordsF n (t.dropWhile (fun c => !sStop c)) (acc ++ [(c :: t.takeWhile (fun c => !sStop c), false)])
def wordsL (s : List UInt8) : Option (List Wd) := wordsF (s.length + 1) s []
def rIs (l : List Wd) (s : List UInt8) : Bool := match l with
 | [] => false
 | (x, q) :: _ => x == s && !q
def rPlain (l : List Wd) : Option (List UInt8 × List Wd) := match l with
 | [] => none
 | (x, q) :: t => if q || Lib.contains [40, 41, 36] x then none else some (x, t)
def rQuoted (l : List Wd) : Option (List UInt8 × List Wd) := match l with
 | [] => none
 | (x, q) :: t => if q then some (x, t) else none
def rName (l : List Wd) : Option (List UInt8 × List Wd) := match rPlain l with
 | none => none
 | some (s, t) => if isTypeL s then some (s, t) else none
def listF (sign : List UInt8) (one : List Wd → Option (List UInt8 × List Wd)) (many : Bool) : Nat → List Wd → List (List UInt8) → Option (List (List UInt8) × List Wd)
 | 0, _, _ => none
 | n + 1, l, acc => match one l with
  | none => none
  | some (s, t) =>
   if isTypeL s then
    (if !many then some (acc ++ [s], t)
     else if rIs t [41] then some (acc ++ [s], t.tail)
     else if sign == [] then listF sign one many n t (acc ++ [s])
     else if rIs t sign then listF sign one many n t.tail (acc ++ [s]) else none)
   else none
def rList (sign : List UInt8) (one : List Wd → Option (List UInt8 × List Wd)) (l : List Wd) : Option (List (List UInt8) × List Wd) :=
 listF sign one (rIs l [40]) (l.length + 1) (if rIs l [40] then l.tail else l) []
structure DefS where
 cls : Bool
 oid : List UInt8
 names : List (List UInt8)
 sup : List (List UInt8)
 must : List (List UInt8)
 may : List (List UInt8)
 form : List UInt8
 eqr : List UInt8
 ordr : List UInt8
 subs : List UInt8
 single : Bool
 fixed : Bool
 oper : Bool
 kind : Int
 deriving DecidableEq
def DefS.new (cls : Bool) (oid : List UInt8) : DefS := ⟨cls, oid, [], [], [], [], [], [], [], [], false, false, false, 1⟩
def rRule (k : Int) (l : List Wd) : Option (List UInt8 × List Wd) := match rPlain l with
 | none => none
 | some (s, t) => match ruleT (smallL s) with
  | none => none
  | some x => if x.2.1 == k then some (x.1, t) else none
def fieldC (d : DefS) (f : List UInt8) (l : List Wd) : Option (DefS × List Wd) :=
 if f = wName then (rList [] rQuoted l).map fun x => ({ d with names := x.1 }, x.2)
 else if f = wDesc then (rQuoted l).map fun x => (d, x.2)
 else if f = wSup then (rList [36] rName l).map fun x => ({ d with sup := x.1 }, x.2)
 else if f = wMust then (rList [36] rName l).map fun x => ({ d with must := x.1 }, x.2)
 else if f = wMay then (rList [36] rName l).map fun x => ({ d with may := x.1 }, x.2)
 else none
def fieldA (d : DefS) (f : List UInt8) (l : List Wd) : Option (DefS × List Wd) :=
 if f = wName then (rList [] rQuoted l).map fun x => ({ d with names := x.1 }, x.2)
 else if f = wDesc then (rQuoted l).map fun x => (d, x.2)
 else if f = wSup then (rName l).map fun x => ({ d with sup := [x.1] }, x.2)
 else if f = wEquality then (rRule 0 l).map fun x => ({ d with eqr := x.1 }, x.2)
 else if f = wOrdering then (rRule 1 l).map fun x => ({ d with ordr := x.1 }, x.2)
 else if f = wSubstr then (rRule 2 l).map fun x => ({ d with subs := x.1 }, x.2)
 else if f = wSyntax then (match rPlain l with
  | none => none
  | some (s, t) => if formE s == 0 then some ({ d with form := formF s }, t) else none)
 else if f = wSingleValue then some ({ d with single := true }, l)
 else if f = wNoUserModification then some ({ d with fixed := true }, l)
 else if f = wUsage then (match rPlain l with
  | none => none
  | some (s, t) => if s == wDirectoryoperation || s == wUserapplications then some ({ d with oper := s == wDirectoryoperation }, t) else none)
 else none
def fieldL (d : DefS) (f : List UInt8) (l : List Wd) : Option (DefS × List Wd) := if d.cls then fieldC d f l else fieldA d f l
def kindL (s : List UInt8) : Int := if s = wAbstract then 0 else if s = wStructural then 1 else if s = wAuxiliary then 2 else -1
def readF : Nat → DefS → List (List UInt8) → List Wd → Option DefS
 | 0, _, _, _ => none
 | n + 1, d, seen, l =>
  if rIs l [41] then (if l.tail = [] then some d else none)
  else match rPlain l with
   | none => none
   | some (f, t) =>
    if d.cls && decide (0 ≤ kindL f) then (if seen.contains wAKind then none else readF n { d with kind := kindL f } (wAKind :: seen) t)
    else if seen.contains f then none
    else match fieldL d f t with
     | none => none
     | some (d', t') => readF n d' (f :: seen) t'
def digit0 (s : List UInt8) : Bool := match s with
 | [] => false
 | c :: _ => 48 ≤ c && c ≤ 57
def readL (s : List UInt8) (cls : Bool) : Option DefS := match wordsL s with
 | none => none
 | some l => if rIs l [40] then (match rPlain l.tail with
  | none => none
  | some (oid, t) => if isTypeL oid && digit0 oid then readF (t.length + 1) (DefS.new cls oid) [] t else none) else none
def DefS.keys (d : DefS) : List (Bool × List UInt8) := (d.oid :: d.names).map fun n => (d.cls, smallL n)
def okPut : List (Bool × List UInt8) → List (Bool × List UInt8) → Bool
 | _, [] => true
 | M, k :: ks => !M.contains k && okPut (M ++ [k]) ks
def findD (L : List DefS) (cls : Bool) (n : List UInt8) : Option Nat := L.findIdx? fun d => d.keys.contains (cls, smallL n)
def readAll : Nat → Nat → List (List UInt8) → List DefS → (Int × Nat) ⊕ List DefS
 | _, _, [], L => .inr L
 | na, i, s :: rest, L => match readL s (decide (na ≤ i)) with
  | none => .inl (50, i)
  | some d => if okPut (L.flatMap DefS.keys) d.keys then readAll na (i + 1) rest (L ++ [d]) else .inl (51, i)
def knownD (L : List DefS) (d : DefS) : Bool := d.sup.all (fun n => (findD L d.cls n).isSome) && d.must.all (fun n => (findD L false n).isSome) && d.may.all (fun n => (findD L false n).isSome)
def aboveF (L : List DefS) : Nat → Nat → List Nat → List Nat
 | 0, _, l => l
 | n + 1, i, l => if l.contains i then l else match L[i]? with
  | none => l ++ [i]
  | some d => d.sup.foldl (fun l nm => match findD L d.cls nm with
   | none => l
   | some j => aboveF L n j l) (l ++ [i])
def aboveD (L : List DefS) (i : Nat) (l : List Nat) : List Nat := aboveF L (L.length + 1) i l
def loopsD (L : List DefS) (i : Nat) : Bool := (aboveD L i []).any fun a => match L[a]? with
 | none => false
 | some d => d.sup.any fun n => findD L d.cls n == some i
def DefS.name (d : DefS) : List UInt8 := match d.names with
 | [] => d.oid
 | n :: _ => n
structure AttrS where
 oid : List UInt8
 name : List UInt8
 sup : List UInt8
 names : List (List UInt8)
 form : List UInt8
 eqr : List UInt8
 ordr : List UInt8
 subs : List UInt8
 single : Bool
 fixed : Bool
 oper : Bool
 deriving DecidableEq
def DefS.attr (d : DefS) : AttrS := ⟨d.oid, d.name, [], d.names, d.form, d.eqr, d.ordr, d.subs, d.single, d.fixed, d.oper⟩
def orL (a b : List UInt8) : List UInt8 := if a = [] then b else a
def AttrS.under (a up : AttrS) : AttrS := { a with sup := up.name, form := orL a.form up.form, eqr := orL a.eqr up.eqr, ordr := orL a.ordr up.ordr, subs := orL a.subs up.subs }
def countsF (L : List DefS) : Nat → Nat → Option AttrS
 | 0, _ => none
 | n + 1, i => match L[i]? with
  | none => none
  | some d => match d.sup with
   | [] => some d.attr
   | s :: _ => match findD L false s with
    | none => none
    | some j => (countsF L n j).map d.attr.under
def countsD (L : List DefS) (i : Nat) : Option AttrS := countsF L (L.length + 1) i
def fitsRule (r form : List UInt8) : Bool := match ruleT (smallL r) with
 | none => false
 | some x => x.2.2.1.contains form
def fitsD (L : List DefS) (d : DefS) (i : Nat) : Bool :=
 if d.cls then !d.sup.any (fun n => match findD L true n with
  | none => false
  | some j => match L[j]? with
   | none => false
   | some u => u.kind != 0 && u.kind != d.kind)
 else match countsD L i with
  | none => false
  | some a => [a.eqr, a.ordr, a.subs].all (fun r => r == [] || fitsRule r a.form) && !(a.form == [])
def newL (attrs classes : List (List UInt8)) : (Int × Nat) ⊕ List DefS :=
 if 300 < attrs.length + classes.length then .inl (2, 0)
 else match readAll attrs.length 0 (attrs ++ classes) [] with
  | .inl x => .inl x
  | .inr L => match L.findIdx? (fun d => !knownD L d) with
   | some i => .inl (52, i)
   | none => match (List.range L.length).find? (fun i => loopsD L i) with
    | some i => .inl (53, i)
    | none => match (List.range L.length).find? (fun i => !((L[i]?).map (fun d => fitsD L d i)).getD false) with
     | some i => .inl (50, i)
     | none => .inr L
end Go.Proofs.YtconnibnpckadaaGreatDoor
namespace Go.Proofs.YtconnibnpckadaaGreatDoor.Ent
abbrev BL := List UInt8
structure InfoE where
 name : BL
 oid : BL
 eqr : BL
 single : Bool
 fixed : Bool
 oper : Bool
structure AttrE where
 typ : BL
 vals : List BL
 deriving DecidableEq
structure EntryE where
 dn : BL
 attrs : List AttrE
 deriving DecidableEq
structure ClassE where
 name : BL
 kind : Int
 must : List BL
 may : List BL
structure ModE where
 op : Int
 typ : BL
 vals : List BL
structure SchE where
 attr : BL → Option InfoE
 norm : BL → BL → Int × BL
 sub : BL → BL → Bool
 eqn : BL → BL → Int × BL
 first : BL → Option (List (BL × BL))
 named : BL → Bool
 cls : BL → Option ClassE
 above : BL → List BL
section
variable (S : SchE)
def normF (t v : BL) : BL := (S.norm t v).2
def okF (t v : BL) : Bool := (S.norm t v).1 == 0
def findE (e : EntryE) (t : BL) : List BL := e.attrs.flatMap fun a => if S.sub a.typ t then a.vals else []
structure RightA (a : AttrE) : Prop where
 known : ∃ d, S.attr a.typ = some d ∧ d.name = a.typ
 some : a.vals ≠ []
 ok : ∀ v ∈ a.vals, okF S a.typ v = true
 once : (a.vals.map (normF S a.typ)).Nodup
 few : a.vals.length ≤ 200
structure RightE (e : EntryE) : Prop where
 all : ∀ a ∈ e.attrs, RightA S a
 once : (e.attrs.map AttrE.typ).Nodup
 few : e.attrs.length ≤ 100
variable {S}
structure Right0 (S : SchE) (e : EntryE) : Prop where
 all : ∀ a ∈ e.attrs, RightA S a
 once : (e.attrs.map AttrE.typ).Nodup
theorem RightE.r0 {e : EntryE} (h : RightE S e) : Right0 S e := ⟨h.all, h.once⟩
end
end Go.Proofs.YtconnibnpckadaaGreatDoor.Ent
