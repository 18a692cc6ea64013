import Derived.Test.YthenffabboomnaaGreatDoorD03
import Init
import Derived.Outline
import Derived.Lib.TrimAscii
set_option linter.all false
set_option maxHeartbeats 8000000
set_option maxRecDepth 100000
namespace Go.Proofs.YthenffabboomnaaGreatDoor
open Go.RowKit
def cutCs : List UInt8 := [32, 34]
set_option maxRecDepth 100000 in
theorem IndexRune_errQ (w : World) :
  Calls Tryz.prog 56 #[.string ⟨cutCs.toArray⟩, .int .i32 65533] w fun e w' => e = .returned (.int .i64 (-1)) ∧ Below w.heap.size w w' := by
 unfold cutCs
 go_enter Tryz.func56, Tryz.ntmps56
 go_wp2_with fail
 go_loopg [5, 6] 2 (fun gk _ _ wx => ∃ i : Nat, i ≤ 2 ∧ Aside (i + gk = 2) ∧ Aside (wx = w.iter ⟨#[32, 34]⟩ i))
 case atStart => exact ⟨0, by omega, by show _ = _; omega, rfl⟩
 case round =>
  obtain ⟨i, hi8, AG, AW⟩ := hrel
  obtain rfl : wr = w.iter ⟨#[32, 34]⟩ i := AW.out
  by_cases hlt : i < 2
  ·obtain ⟨q, rfl⟩ : ∃ q, gk = q + 1 := ⟨gk - 1, by have := AG.out; omega⟩
   have hi : i < (⟨#[32, 34]⟩ : ByteArray).size := hlt
   have hx128 : ((⟨#[32, 34]⟩ : ByteArray)[i]'hi).toNat < 128 := by
    have : ∀ j : Fin 2, ((⟨#[32, 34]⟩ : ByteArray)[j.val]'j.isLt).toNat < 128 := by decide
    exact this ⟨i, hlt⟩
   have hnx := fun ty => run_next_ascii (P := Tryz.prog) w ⟨#[32, 34]⟩ i ty hi hx128
   generalize ((⟨#[32, 34]⟩ : ByteArray)[i]'hi).toNat = x at *
   have hz : ((x : Int) == 65533) = false := by rw [beq_eq_false_iff_ne]; omega
   go_wp2_with fail
   go_roundg q
   case measure => omega
   case rel => exact ⟨i + 1, by omega, by have := AG.out; show _ = _; omega, rfl⟩
  ·obtain rfl : i = 2 := by omega
   have hnx := fun ty => run_next_end (P := Tryz.prog) w ⟨#[32, 34]⟩ 2 ty (by decide)
   go_wp2_with fail
   go_ret
   exact ⟨rfl, (Below.refl _ _).alloc (Nat.le_refl _) _⟩
set_option maxRecDepth 100000 in
theorem IndexRune_moreQ (r : Int) (w : World) (hr : VR r) (h1 : 128 ≤ r) (h2 : r ≠ 65533) :
  Calls Tryz.prog 56 #[.string ⟨cutCs.toArray⟩, .int .i32 r] w fun e w' => e = .returned (.int .i64 (-1)) ∧ Below w.heap.size w w' := by
 have hv : Lib.validRune r = true := by unfold Lib.validRune; unfold VR at hr; simp; omega
 have hz : (r == 65533) = false := beq_eq_false_iff_ne.2 h2
 have h0 : 0 ≤ r := by omega
 have h128 : ¬ r < 128 := by omega
 unfold cutCs
 clear h2
 go_enter Tryz.func56, Tryz.ntmps56
 go_wp2_with (go_at_call 100; refine (Tryz.utf8_ValidRune _ _).mono ?_; rintro e w' ⟨rfl, rfl⟩; rw [hv])
 go_step3
 go_wp2_with fail
 obtain ⟨b, hb, hE⟩ := enc_more hr h1
 have HI : ∀ (l : List UInt8) W, l.all (fun c => decide (c.toNat < 128)) = true → Calls Tryz.prog 99 #[.string ⟨l.toArray⟩, .int .u8 b.toNat] W fun e w' => e = .returned (.int .i64 (-1)) ∧ w' = W := fun l W hl => (IndexByte_c l b W).mono fun e w' ⟨he, hw⟩ => ⟨by rw [he, idx_high hb hl], hw.symm⟩
 have HH := Lib.hid HI
 have n34 : ((34 : Int) != (b.toNat : Int)) = true := by rw [bne_iff_ne]; omega
 have hext := ba_ext
 have hget := ba_get
 clear HI hr h1 hz h0 h128 hv hb
 rcases hE with ⟨x, e⟩ | ⟨x, y, e⟩ | ⟨x, y, z, e⟩
 ·rw [e]
  clear e
  rw [show wrap64 (((⟨#[x, b]⟩ : ByteArray).size : Int) - 1) = 1 from (show wrap64 ((2 : Int) - 1) = 1 by simp [wrap64])]
  go_loopg [9, 10] 1 (fun gk t f wx => t = .int .i64 1 ∧ f = .int .i64 0 ∧ Aside (wx = w'))
  case atStart => exact ⟨rfl, rfl, rfl⟩
  case round =>
   obtain ⟨rfl, rfl, AW⟩ := hrel
   obtain rfl : wr = w' := AW.out
   go_wp2_with fail
   go_step3
   go_wp2_with fail
   go_quiet (fail)
   have hB2 : Below wr.heap.size wr (wr.drewN nq) := below_drewN (Below.refl _ _) nq
   generalize wr.drewN nq = w2 at *
   go_wp2_with fail
   go_quiet ((go_at_call 99; exact Calls.quiet_of_same (HH.out _ _ (by decide))))
   have hB3 := below_drewN hB2 nq
   go_wp2_with fail
   rw [Exit.noGoto_ret]
   simp only [Exit.inBlock, Exit.then]
   rw [Exit.noGoto_ret]
   try simp only [Exit.inBlock, Exit.then]
   go_ret
   exact ⟨rfl, hB3⟩
 ·rw [e]
  clear e
  rw [show wrap64 (((⟨#[x, y, b]⟩ : ByteArray).size : Int) - 1) = 2 from (show wrap64 ((3 : Int) - 1) = 2 by simp [wrap64])]
  go_loopg [9, 10] 1 (fun gk t f wx => t = .int .i64 2 ∧ f = .int .i64 0 ∧ Aside (wx = w'))
  case atStart => exact ⟨rfl, rfl, rfl⟩
  case round =>
   obtain ⟨rfl, rfl, AW⟩ := hrel
   obtain rfl : wr = w' := AW.out
   go_wp2_with fail
   go_ret
   exact ⟨rfl, Below.refl _ _⟩
 ·rw [e]
  clear e
  rw [show wrap64 (((⟨#[x, y, z, b]⟩ : ByteArray).size : Int) - 1) = 3 from (show wrap64 ((4 : Int) - 1) = 3 by simp [wrap64])]
  go_loopg [9, 10] 1 (fun gk t f wx => t = .int .i64 3 ∧ f = .int .i64 0 ∧ Aside (wx = w'))
  case atStart => exact ⟨rfl, rfl, rfl⟩
  case round =>
   obtain ⟨rfl, rfl, AW⟩ := hrel
   obtain rfl : wr = w' := AW.out
   go_wp2_with fail
   go_ret
   exact ⟨rfl, Below.refl _ _⟩
def IdxFromQ (l : List UInt8) (k : Nat) : Prop := Lib.indexAny l cutCs = if Lib.indexAny (l.drop k) cutCs = -1 then -1 else (k : Int) + Lib.indexAny (l.drop k) cutCs
theorem IdxFromQ.zero (l : List UInt8) : IdxFromQ l 0 := by
 unfold IdxFromQ
 rw [List.drop_zero]
 split
 ·next h => exact h
 ·simp
theorem idx_consQ (b : UInt8) (l : List UInt8) : Lib.indexAny (b :: l) cutCs = if cutCs.contains b then 0 else if Lib.indexAny l cutCs = -1 then -1 else Lib.indexAny l cutCs + 1 := by
 rw [Lib.indexAny]
 split
 ·rfl
 ·simp only [beq_iff_eq]
theorem IdxFromQ.one {l : List UInt8} {k : Nat} (h : IdxFromQ l k) (hk : k < l.length) (hn : cutCs.contains l[k] = false) : IdxFromQ l (k + 1) := by
 unfold IdxFromQ at h ⊢
 rw [List.drop_eq_getElem_cons hk, idx_consQ, hn] at h
 have hg := Lib.indexAny_ge cutCs (l.drop (k + 1))
 simp only [Bool.false_eq_true, if_false] at h
 generalize Lib.indexAny (l.drop (k + 1)) cutCs = z at *
 by_cases h1 : z = -1
 ·simp only [h1, if_true] at h ⊢
  exact h
 ·rw [if_neg h1, if_neg (by omega)] at h
  rw [if_neg h1, h]
  push_cast
  omega
theorem IdxFromQ.more {l : List UInt8} {k : Nat} (h : IdxFromQ l k) : ∀ n, k + n ≤ l.length → (∀ j (hj : j < l.length), k ≤ j → j < k + n → cutCs.contains l[j] = false) → IdxFromQ l (k + n)
 | 0, _, _ => h
 | n + 1, hn, hs => (IdxFromQ.more h n (by omega) (fun j hj h1 h2 => hs j hj h1 (by omega))).one (by omega) (hs (k + n) (by omega) (by omega) (by omega))
theorem IdxFromQ.hit {l : List UInt8} {k : Nat} (h : IdxFromQ l k) (hk : k < l.length) (hn : cutCs.contains l[k] = true) : Lib.indexAny l cutCs = k := by
 unfold IdxFromQ at h
 rw [List.drop_eq_getElem_cons hk, idx_consQ, hn] at h
 simpa using h
theorem IdxFromQ.none {l : List UInt8} (h : IdxFromQ l l.length) : Lib.indexAny l cutCs = -1 := by
 unfold IdxFromQ at h
 rw [List.drop_length] at h
 exact h
theorem high_stopQ (b : UInt8) (h : 128 ≤ b.toNat) : cutCs.contains b = false := by
 rw [← Bool.not_eq_true, List.contains_iff_mem]
 intro hm
 have : ∀ c ∈ cutCs, c.toNat < 128 := by decide
 have := this b hm
 omega
theorem rune_stepQ (l : List UInt8) (k : Nat) (hk : k < l.length) (h : IdxFromQ l k) : ∃ z : Int, (∀ W, Calls Tryz.prog 56 #[.string ⟨#[32, 34]⟩, .int .i32 ((Lib.decodeL (l.drop k)).1 : Int)] W fun e w' => e = .returned (.int .i64 z) ∧ Below W.heap.size W w') ∧
  ((0 ≤ z ∧ Lib.indexAny l cutCs = k) ∨ (z < 0 ∧ IdxFromQ l (k + (Lib.decodeL (l.drop k)).2))) := by
 have hd : l.drop k = l[k] :: l.drop (k + 1) := List.drop_eq_getElem_cons hk
 by_cases hb : l[k].toNat < 128
 ·rw [hd, Lib.decodeL_ascii _ _ hb]
  simp only
  refine ⟨Lib.indexByte cutCs l[k], fun W => ?_, ?_⟩
  ·refine (Tryz.strings_IndexRune_ascii ⟨#[32, 34]⟩ (l[k].toNat : Int) W (by omega) (by omega)).mono ?_
   rintro e w' ⟨rfl, rfl⟩
   exact ⟨by simp [cutCs], Below.refl _ _⟩
  ·have hm := idx_mem cutCs l[k]
   cases hc : cutCs.contains l[k]
   ·right
    refine ⟨?_, h.one hk hc⟩
    have : ¬ 0 ≤ Lib.indexByte cutCs l[k] := by rw [hm]; simpa using hc
    omega
   ·left
    exact ⟨hm.2 (by simpa using hc), h.hit hk hc⟩
 ·have hg0 : (l.drop k).getD 0 0 = l[k] := by rw [hd]; rfl
  have hne : l.drop k ≠ [] := by rw [hd]; exact List.cons_ne_nil _ _
  obtain ⟨d1, d2⟩ := decode_high (l.drop k) (by rw [hg0]; omega)
  obtain ⟨n1, n2, n3, n4⟩ := decodeL_ok (l.drop k) hne
  have hV := VR_of n4
  rw [List.length_drop] at n2
  refine ⟨-1, fun W => ?_, .inr ⟨by omega, h.more _ (by omega) ?_⟩⟩
  ·by_cases he : ((Lib.decodeL (l.drop k)).1 : Int) = 65533
   ·rw [he]; exact IndexRune_errQ W
   ·exact IndexRune_moreQ _ W hV (by omega) he
  ·intro j hj h1 h2
   apply high_stopQ
   have := d2 (j - k) (by omega)
   have e : (l.drop k).getD (j - k) 0 = l[j] := by
    rw [List.getD_eq_getElem?_getD, List.getElem?_drop, show k + (j - k) = j by omega, List.getElem?_eq_getElem hj]
    rfl
   rw [e] at this
   exact this
set_option maxRecDepth 100000 in
theorem IndexAny_shortQ (l : List UInt8) (w : World) (h8 : l.length ≤ 8) :
  Calls Tryz.prog 32 #[.string ⟨l.toArray⟩, .string ⟨#[32, 34]⟩] w fun e w' => e = .returned (.int .i64 (Lib.indexAny l cutCs)) ∧ Below w.heap.size w w' := by
 obtain ⟨R, hR⟩ : ∃ R, Lib.indexAny l cutCs = R := ⟨_, rfl⟩
 rw [hR]
 have HR := Lib.hid hR
 clear hR
 have h8z : decide ((8 : Int) < (l.length : Int)) = false := decide_eq_false (by omega)
 go_enter Tryz.func32, Tryz.ntmps32
 go_wp2_with (go_at_call 57; refine (Tryz.strings_shouldUseASCIISet _ _).mono ?_; rintro e w' ⟨rfl, rfl⟩; rw [h8z])
 go_loopg [9, 10] l.length (fun gk _ _ wr => ∃ k : Nat, k ≤ l.length ∧ Aside (k + gk = l.length) ∧ Aside (wr.heap[w'.heap.size]? = some (.stringIter ⟨l.toArray⟩ k)) ∧ Below w'.heap.size w' wr ∧ Aside (IdxFromQ l k))
 case atStart => exact ⟨0, Nat.zero_le _, Nat.zero_add _, World.iter_heap _ _ _, (Below.refl _ _).alloc (Nat.le_refl _) _, IdxFromQ.zero l⟩
 case round =>
  obtain ⟨k, hk, AG, AI, hB, AX⟩ := hrel
  by_cases hlt : k < l.length
  ·have hne : l.drop k ≠ [] := by intro h; have := congrArg List.length h; simp at this; omega
   obtain ⟨hn1, hn2, _, _⟩ := decodeL_ok _ hne
   have hd := decode_pos l k hlt
   have hnx := fun ty => Lib.run_next_any_at (P := Tryz.prog) wr w'.heap.size ⟨l.toArray⟩ k ty AI.out hlt
   rw [hd] at hnx
   obtain ⟨z, hI, hz⟩ := rune_stepQ l k hlt AX.out
   have HI := Lib.hid hI
   have AI' : Aside ((wr.iterAt w'.heap.size ⟨l.toArray⟩ (k + (Lib.decodeL (l.drop k)).2)).heap[w'.heap.size]? = some (.stringIter ⟨l.toArray⟩ (k + (Lib.decodeL (l.drop k)).2))) := Lib.iterAt_heap _ _ _ _ _ AI.out
   have hB' : Below w'.heap.size w' (wr.iterAt w'.heap.size ⟨l.toArray⟩ (k + (Lib.decodeL (l.drop k)).2)) := Lib.below_iterAt hB (Nat.le_refl _) _ _
   rw [List.length_drop] at hn2
   clear hd hne AX AI hI
   generalize (Lib.decodeL (l.drop k)).2 = n at *
   generalize (((Lib.decodeL (l.drop k)).1 : Nat) : Int) = r at *
   generalize wr.iterAt w'.heap.size ⟨l.toArray⟩ (k + n) = W at *
   rcases hz with ⟨hz, hR⟩ | ⟨hz, hX⟩
   ·have hzb : decide (0 ≤ z) = true := decide_eq_true hz
    rw [HR.out] at hR
    subst hR
    go_wp2_with (go_at_call 56; refine (HI.out _).mono ?_; rintro e w2 ⟨rfl, hb2⟩)
    go_ret
    exact ⟨rfl, hB'.trans (hb2.mono hB'.size)⟩
   ·have hz' : ¬ 0 ≤ z := by omega
    have hzb : decide (0 ≤ z) = false := decide_eq_false hz'
    have HX := Lib.hid hX
    have hlW : w'.heap.size < W.heap.size := (Array.getElem?_eq_some_iff.1 AI'.out).1
    clear hX
    go_wp2_with (go_at_call 56; refine (HI.out _).mono ?_; rintro e w2 ⟨rfl, hb2⟩)
    go_roundg (gk - n)
    case measure => have := AG.out; omega
    case rel => exact ⟨k + n, by omega, by have := AG.out; show _ = _; omega, (hb2.block _ hlW).trans AI'.out, hB'.trans (hb2.mono hB'.size), HX.out⟩
  ·obtain rfl : k = l.length := by omega
   have hnx := fun ty => Lib.run_next_end_at (P := Tryz.prog) wr w'.heap.size ⟨l.toArray⟩ l.length ty AI.out (by simp [ByteArray.size])
   have hx := IdxFromQ.none AX.out
   rw [HR.out] at hx
   subst hx
   go_wp2_with fail
   go_ret
   exact ⟨rfl, hB⟩
theorem IndexAny_cQ (l : List UInt8) (w : World) (hl : l.length < 4294967281) :
  Calls Tryz.prog 32 #[.string ⟨l.toArray⟩, .string ⟨#[32, 34]⟩] w fun e w' => e = .returned (.int .i64 (Lib.indexAny l cutCs)) ∧ Below w.heap.size w w' := by
 by_cases h8 : l.length ≤ 8
 ·exact IndexAny_shortQ l w h8
 ·refine (Tryz.strings_IndexAny_long (zero_of_info (n := 256) (by kernel_rfl)).1 ⟨l.toArray⟩ ⟨#[32, 34]⟩ w (by decide) (by show 8 < l.toArray.size; simp; omega) (by show l.toArray.size < _; simpa using hl) (by decide) ?_).mono ?_
  ·intro j b hj
   have hb : b ∈ cutCs := List.mem_of_getElem? hj
   have : ∀ c ∈ cutCs, c.toNat < 128 := by decide
   exact this b hb
  ·rintro e w' ⟨rfl, rfl⟩
   exact ⟨rfl, ((Below.refl _ _).alloc (Nat.le_refl _) _).alloc (by simp) _⟩
end Go.Proofs.YthenffabboomnaaGreatDoor
namespace Go.Proofs.YthenffabboomnaaGreatDoor.Fil
open Go.RowKit
structure FilE where
 op : Int
 n : Int
 typ : List UInt8
 val : List UInt8
 ini : List UInt8
 fin : List UInt8
 any : List (List UInt8)
deriving DecidableEq
instance : Inhabited FilE := ⟨⟨0, 0, [], [], [], [], []⟩⟩
def mk (op : Int) : FilE := ⟨op, 0, [], [], [], [], []⟩
def isCut (c : UInt8) : Bool := c == 61 || c == 62 || c == 60 || c == 126 || c == 40 || c == 41
def times {α : Type} (g : α → Option α) : Nat → α → Option α
 | 0, a => some a
 | n + 1, a => (g a).bind (times g n)
/-! What is written is read. -/
end Go.Proofs.YthenffabboomnaaGreatDoor.Fil
namespace Go.Proofs.YthenffabboomnaaGreatDoor.Fil
open Go.RowKit
end Go.Proofs.YthenffabboomnaaGreatDoor.Fil
namespace Go.Proofs.YthenffabboomnaaGreatDoor.Ent
abbrev BL := List UInt8
structure InfoE where
 name : BL
 oid : BL
 eqr : BL
 single : Bool
 fixed : Bool
 oper : Bool
structure AttrE where
 typ : BL
 vals : List BL
 deriving DecidableEq
structure EntryE where
 dn : BL
 attrs : List AttrE
 deriving DecidableEq
structure ClassE where
 name : BL
 kind : Int
 must : List BL
 may : List BL
structure SchE where
 attr : BL → Option InfoE
 norm : BL → BL → Int × BL
 sub : BL → BL → Bool
 eqn : BL → BL → Int × BL
 first : BL → Option (List (BL × BL))
 named : BL → Bool
 cls : BL → Option ClassE
 above : BL → List BL
section
variable (S : SchE)
def normF (t v : BL) : BL := (S.norm t v).2
def okF (t v : BL) : Bool := (S.norm t v).1 == 0
structure RightA (a : AttrE) : Prop where
 known : ∃ d, S.attr a.typ = some d ∧ d.name = a.typ
 some : a.vals ≠ []
 ok : ∀ v ∈ a.vals, okF S a.typ v = true
 once : (a.vals.map (normF S a.typ)).Nodup
 few : a.vals.length ≤ 200
structure RightE (e : EntryE) : Prop where
 all : ∀ a ∈ e.attrs, RightA S a
 once : (e.attrs.map AttrE.typ).Nodup
 few : e.attrs.length ≤ 100
variable {S}
structure Right0 (S : SchE) (e : EntryE) : Prop where
 all : ∀ a ∈ e.attrs, RightA S a
 once : (e.attrs.map AttrE.typ).Nodup
theorem RightE.r0 {e : EntryE} (h : RightE S e) : Right0 S e := ⟨h.all, h.once⟩
end
end Go.Proofs.YthenffabboomnaaGreatDoor.Ent
namespace Go.Proofs.YthenffabboomnaaGreatDoor
theorem nodup_bound : ∀ (N : Nat) (l : List Nat), l.Nodup → (∀ x ∈ l, x < N) → l.length ≤ N
 | 0, l, _, h => by
  cases l with
  | nil => simp
  | cons x t => exact absurd (h x (by simp)) (by omega)
 | N + 1, l, hn, h => by
  by_cases hm : N ∈ l
  ·have h1 := nodup_bound N (l.erase N) (hn.erase N) (fun x hx => by
    have h2 := h x (List.mem_of_mem_erase hx)
    have h3 : x ≠ N := by
     intro e
     subst e
     exact (hn.not_mem_erase) hx
    omega)
   have h4 := List.length_erase_of_mem hm
   omega
  ·have h1 := nodup_bound N l hn (fun x hx => by
    have h2 := h x hx
    have h3 : x ≠ N := by rintro rfl; exact hm hx
    omega)
   omega
def succs (L : List DefS) (i : Nat) : List Nat := match L[i]? with
 | none => []
 | some d => d.sup.filterMap fun nm => findD L d.cls nm
theorem findD_lt {L : List DefS} {c : Bool} {n : List UInt8} {j : Nat} (h : findD L c n = some j) : j < L.length := by
 unfold findD at h
 exact (List.findIdx?_eq_some_iff_getElem.1 h).1
theorem succs_lt {L : List DefS} {i j : Nat} (h : j ∈ succs L i) : j < L.length := by
 unfold succs at h
 split at h
 ·simp at h
 ·obtain ⟨n, _, hf⟩ := List.mem_filterMap.1 h
  exact findD_lt hf
inductive Reach (L : List DefS) : Nat → Nat → Prop
 | refl (i : Nat) : Reach L i i
 | step {i u j : Nat} (h : u ∈ succs L i) (t : Reach L u j) : Reach L i j
theorem Reach.trans {L : List DefS} {i j k : Nat} (h : Reach L i j) (t : Reach L j k) : Reach L i k := by
 induction h with
 | refl => exact t
 | step h _ ih => exact .step h (ih t)
theorem Reach.lt {L : List DefS} {i j : Nat} (h : Reach L i j) (hi : i < L.length) : j < L.length := by
 induction h with
 | refl => exact hi
 | step h _ ih => exact ih (succs_lt h)
def Acyc (L : List DefS) : Prop := ∀ i j, i < L.length → Reach L i j → i ∉ succs L j
theorem findD_at {L : List DefS} {c : Bool} {n : List UInt8} {j : Nat} (h : findD L c n = some j) : ∃ d, L[j]? = some d ∧ d.cls = c ∧ (c, smallL n) ∈ d.keys := by
 unfold findD at h
 obtain ⟨h1, h2, _⟩ := List.findIdx?_eq_some_iff_getElem.1 h
 refine ⟨L[j], List.getElem?_eq_getElem h1, ?_, by simpa using h2⟩
 have h3 : (c, smallL n) ∈ L[j].keys := by simpa using h2
 unfold DefS.keys at h3
 obtain ⟨_, _, e⟩ := List.mem_map.1 h3
 exact congrArg Prod.fst e
theorem countsF_some {L : List DefS} (hA : Acyc L) (hk : ∀ d ∈ L, d.cls = false → ∀ s ∈ d.sup, (findD L false s).isSome = true) : ∀ (n i : Nat) (l : List Nat), (∀ d, L[i]? = some d → d.cls = false) → l.Nodup → (∀ v ∈ l, v < L.length ∧ ∃ u, Reach L v u ∧ i ∈ succs L u) → i < L.length → L.length + 1 ≤ n + l.length → (countsF L n i).isSome = true
 | 0, i, l, _, hn, hl, hi, hf => by
  have := nodup_bound _ l hn (fun v hv => (hl v hv).1)
  omega
 | n + 1, i, l, hcl, hn, hl, hi, hf => by
  rw [countsF]
  have hLi : L[i]? = some L[i] := List.getElem?_eq_getElem hi
  rw [hLi]
  simp only
  have hcf : L[i].cls = false := hcl _ hLi
  split
  ·rfl
  ·next s rest hs =>
   have hk1 := hk L[i] (List.getElem_mem _) hcf s (by rw [hs]; simp)
   cases hfd : findD L false s with
   | none => rw [hfd] at hk1; cases hk1
   | some j =>
    simp only [Option.isSome_map]
    have hji : j ∈ succs L i := by
     unfold succs
     rw [hLi]
     exact List.mem_filterMap.2 ⟨s, by rw [hs]; simp, by rw [hcf]; exact hfd⟩
    have hil : i ∉ l := by
     intro hil
     obtain ⟨_, u, hr, hu⟩ := hl i hil
     exact hA i u hi hr hu
    refine countsF_some hA hk n j (l ++ [i]) ?_ ?_ ?_ (findD_lt hfd) (by simp only [List.length_append, List.length_cons, List.length_nil]; omega)
    ·intro d hd
     obtain ⟨d', h1, h2, _⟩ := findD_at hfd
     rw [h1] at hd
     cases hd
     exact h2
    ·rw [List.nodup_append]
     refine ⟨hn, by simp, ?_⟩
     intro a ha b hb
     have hb' : b = i := by simpa using hb
     subst hb'
     rintro rfl
     exact hil ha
    ·intro v hv
     rcases List.mem_append.1 hv with hv | hv
     ·obtain ⟨h1, u, hr, hu⟩ := hl v hv
      exact ⟨h1, i, hr.trans (.step hu (.refl _)), hji⟩
     ·have : v = i := by simpa using hv
      subst this
      exact ⟨hi, v, .refl _, hji⟩
theorem countsD_some {L : List DefS} (hA : Acyc L) (hk : ∀ d ∈ L, d.cls = false → ∀ s ∈ d.sup, (findD L false s).isSome = true) {i : Nat} {d : DefS} (hd : L[i]? = some d) (hc : d.cls = false) : ∃ a, countsD L i = some a := by
 have hi : i < L.length := (List.getElem?_eq_some_iff.1 hd).1
 exact Option.isSome_iff_exists.1 (countsF_some hA hk (L.length + 1) i [] (fun d' h => by rw [hd] at h; cases h; exact hc) (by simp) (by simp) hi (by simp))
theorem findD_of {L : List DefS} (hN : (L.flatMap DefS.keys).Nodup) {x : Nat} {d : DefS} (hd : L[x]? = some d) {c : Bool} {n : List UInt8} (hk : (c, smallL n) ∈ d.keys) : findD L c n = some x := by
 have hx : x < L.length := (List.getElem?_eq_some_iff.1 hd).1
 have hdx : L[x] = d := (List.getElem?_eq_some_iff.1 hd).2
 unfold findD
 rw [List.findIdx?_eq_some_iff_getElem]
 refine ⟨hx, by rw [hdx]; simpa using hk, ?_⟩
 intro j hj
 have hjl : j < L.length := by omega
 rw [Bool.not_eq_true, ← Bool.not_eq_true']
 simp only [Bool.not_eq_true', List.contains_eq_mem, decide_eq_false_iff_not]
 intro hm
 have hsplit : L = L.take x ++ d :: L.drop (x + 1) := by
  rw [← hdx]
  simp
 rw [hsplit, List.flatMap_append, List.nodup_append] at hN
 have h1 : (c, smallL n) ∈ (L.take x).flatMap DefS.keys := by
  rw [List.mem_flatMap]
  refine ⟨L[j], ?_, hm⟩
  rw [List.mem_take_iff_getElem]
  exact ⟨j, by omega, rfl⟩
 have h2 : (c, smallL n) ∈ (d :: L.drop (x + 1)).flatMap DefS.keys := by
  rw [List.flatMap_cons]
  exact List.mem_append_left _ hk
 exact hN.2.2 _ h1 _ h2 rfl
theorem name_key (d : DefS) : (d.cls, smallL d.name) ∈ d.keys := by
 unfold DefS.keys DefS.name
 cases d.names with
 | nil => simp
 | cons n t => simp
structure NewSays (L : List DefS) : Prop where
 keys : (L.flatMap DefS.keys).Nodup
 known : ∀ d ∈ L, knownD L d = true
 acyc : Acyc L
 fits : ∀ i d, L[i]? = some d → fitsD L d i = true
 len : L.length ≤ 300
theorem NewSays.sup_known {L : List DefS} (h : NewSays L) : ∀ d ∈ L, ∀ s ∈ d.sup, (findD L d.cls s).isSome = true := by
 intro d hd s hs
 have := h.known d hd
 unfold knownD at this
 rw [Bool.and_eq_true, Bool.and_eq_true, List.all_eq_true] at this
 exact this.1.1 s hs
theorem NewSays.counts {L : List DefS} (h : NewSays L) {i : Nat} {d : DefS} (hd : L[i]? = some d) (hc : d.cls = false) : ∃ a, countsD L i = some a :=
 countsD_some h.acyc (fun d hd hc s hs => by rw [← hc]; exact h.sup_known d hd s hs) hd hc
theorem NewSays.named {L : List DefS} (h : NewSays L) {x : Nat} {d : DefS} (hd : L[x]? = some d) : findD L d.cls d.name = some x := findD_of h.keys hd (name_key d)
open Go.RowKit Go.Sort
open Go.RowKit Go.Sort
section
variable (f v : List UInt8) (w : World) (hw : Env w) (hv : v.length ≤ 1024)
set_option maxRecDepth 100000
set_option maxHeartbeats 1000000
end
open Go.RowKit Go.Sort
open Go.RowKit Go.Sort
open Go.RowKit Go.Sort
open Go.RowKit Go.Sort
open Go.RowKit
open Go.RowKit
theorem Env.mods {S : List Nat} {w w' : World} (h : Env w) (hm : Mods S w w') (hS : ∀ b ∈ S, Off b) : Env w' := by
 obtain ⟨⟨h1, h2⟩, m, hx⟩ := h
 have n1 : 0 ∉ S := fun hb => (hS _ hb).1 rfl
 have n2 : 1 ∉ S := fun hb => (hS _ hb).2.1 rfl
 have n3 : 2 ∉ S := fun hb => (hS _ hb).2.2 rfl
 exact ⟨⟨fun c hc => hm.cell (h1 c hc) n1, fun i hi => ⟨hm.cell (h2 i hi).1 n2, hm.cell (h2 i hi).2 n2⟩⟩, m, hm.cell hx n3⟩
def Own (B : Nat) (w : World) (v : Value) (xs : List (List UInt8)) : Prop := w.ownsRow B 9 1 v xs.length (xs.map strV) ∧ B ≤ w.heap.size
theorem Own.nil {B : Nat} {w : World} (hB : B ≤ w.heap.size) : Own B w (.slice none 0 0) [] := ⟨World.ownsRow_nil _ _ _ _, hB⟩
theorem Own.lt {B : Nat} {w : World} {v : Value} {xs : List (List UInt8)} (h : Own B w v xs) : ∀ k, v.ownBlock = some k → B ≤ k ∧ k < w.heap.size := fun k hk => h.1.lt k hk
theorem Own.keep {B : Nat} {w w' : World} {v : Value} {xs : List (List UInt8)} (h : Own B w v xs) {r : Option Nat} (hg : w.grownBy w' r) (hr : ∀ k, r = some k → k < B) : Own B w' v xs := by
 refine ⟨h.1.kept hg ?_, Nat.le_trans h.2 hg.size⟩
 rcases hv : v.ownBlock with _ | g
 ·exact .inl rfl
 ·refine .inr ?_
  intro he
  have := hr g he.symm
  have := (h.1.lt g hv).1
  omega
theorem Own.below {B : Nat} {w w' : World} {v : Value} {xs : List (List UInt8)} (h : Own B w v xs) (hb : Below w.heap.size w w') : Own B w' v xs := h.keep (grown_below hb none) (fun k hk => by cases hk)
theorem Own.mods {B r : Nat} {w w' : World} {v : Value} {xs : List (List UInt8)} (h : Own B w v xs) (hm : Mods [r] w w') (hr : r < B) : Own B w' v xs :=
 h.keep (r := some r) ⟨hm.os, hm.tape, hm.output, hm.size, fun k hk hne => hm.block k hk (by intro hx; apply hne; simp at hx; rw [hx])⟩ (fun k hk => by cases hk; exact hr)
theorem Own.texts {B : Nat} {w : World} {v : Value} {xs : List (List UInt8)} (h : Own B w v xs) : Texts w v xs := by
 obtain ⟨⟨h1, h2⟩, _⟩ := h
 rcases h2 with ⟨rfl, hn⟩ | ⟨g, cap, cur, rfl, r2, r3, r4, r5, r6, r7⟩
 ·exact .inl ⟨List.eq_nil_of_length_eq_zero hn, rfl⟩
 ·refine .inr ⟨g, cap, rfl, r4, (Array.getElem?_eq_some_iff.1 r3).1, fun j hj => ?_⟩
  simp only [World.cell?, r3]
  have : (cur.toList.take (xs.length * 1))[j]? = some (strV xs[j]) := by rw [r7]; simp [hj]
  rw [List.getElem?_take] at this
  simpa [hj, strV] using this
theorem Own.isSlice {B : Nat} {w : World} {v : Value} {xs : List (List UInt8)} (h : Own B w v xs) : ∃ A c, v = .slice A xs.length c ∧ xs.length ≤ c := by
 obtain ⟨⟨h1, h2⟩, _⟩ := h
 rcases h2 with ⟨rfl, hn⟩ | ⟨g, cap, cur, rfl, r2, r3, r4, _⟩
 ·exact ⟨none, 0, by rw [hn], by omega⟩
 ·exact ⟨_, cap, rfl, r4⟩
def Shorts (l : List Wd) : Prop := ∀ x ∈ l, x.1.length ≤ 1000000
open Go.RowKit
theorem Shorts.tail {x : Wd} {l : List Wd} (h : Shorts (x :: l)) : Shorts l := fun y hy => h y (List.mem_cons_of_mem _ hy)
open Go.RowKit
def ptrV (p : Nat) : Value := .pointer (some ⟨p, 0, none⟩)
def PtrsR (w : World) (v : Value) (ps : List Nat) : Prop := ∃ A c, v = .slice A ps.length c ∧ ps.length ≤ c ∧ (ps = [] ∨ ∃ g, A = some ⟨g, 0, none⟩ ∧ ∀ (j p : Nat), ps[j]? = some p → w.cell? ⟨g, j, none⟩ = some (ptrV p))
theorem PtrsR.mods {S : List Nat} {w w' : World} {v : Value} {ps : List Nat} (h : PtrsR w v ps) (hm : Mods S w w') (hS : ∀ g ∈ S, ∀ p, w.cell? ⟨g, 0, none⟩ ≠ some (ptrV p)) : PtrsR w' v ps := by
 obtain ⟨A, c, rfl, hc, h⟩ := h
 refine ⟨A, c, rfl, hc, ?_⟩
 cases ps with
 | nil => exact .inl rfl
 | cons q t =>
  rcases h with h | ⟨g, rfl, hx⟩
  ·cases h
  ·have hg : g ∉ S := fun hg => hS g hg q (hx 0 q rfl)
   exact .inr ⟨g, rfl, fun j p hj => hm.cell (hx j p hj) hg⟩
theorem PtrsR.below {w w' : World} {v : Value} {ps : List Nat} (h : PtrsR w v ps) (hb : Below w.heap.size w w') : PtrsR w' v ps := h.mods (Mods.of_below hb []) (fun g hg => by cases hg)
open Go.RowKit
open Go.RowKit
end Go.Proofs.YthenffabboomnaaGreatDoor
