import Derived.Test.YthenffabboomnaaGreatDoorD00
import Derived.Lib.SplitLaws
import Derived.StillTailTactics
import Derived.Recover
set_option linter.all false
set_option maxHeartbeats 8000000
set_option maxRecDepth 100000
namespace Go.Proofs.YthenffabboomnaaGreatDoor
open Go.RowKit
open Go.RowKit
def segs (l : List UInt8) : List (List UInt8) := (Lib.splitB ⟨#[46]⟩ 0 (Lib.countB ⟨l.toArray⟩ ⟨#[46]⟩) ⟨l.toArray⟩).map (·.data.toList)
def segOk (n : List UInt8) : Bool := !n.isEmpty && !(decide (1 < n.length) && n.head? == some 48) && n.all isDig
def isOidL (l : List UInt8) : Bool := (segs l).all segOk && decide (1 < (segs l).length)
def typeCh (c : UInt8) : Bool := inTypeB c.toNat && !(c == 46)
def isTypeL (l : List UInt8) : Bool := match l with
 | [] => false
 | c :: m => decide ((c :: m).length ≤ 64) && (if letB c.toNat then (c :: m).all typeCh else isOidL (c :: m))
open Go.RowKit
theorem grown_below {w w' : World} (hb : Below w.heap.size w w') (r : Option Nat) : w.grownBy w' r := ⟨hb.os, hb.tape, hb.output, hb.size, fun k hk _ => hb.block k hk⟩
open Go.RowKit
def hd (r : List UInt8) (c : Int) : Bool := match r with | [] => false | x :: _ => (x.toNat : Int) == c
open Go.RowKit
theorem Clone_c (l : List UInt8) (w : World) (hl : l.length ≤ 1099511627776) :
  Calls Tryz.prog 33 #[.string ⟨l.toArray⟩] w fun e w' => e = .returned (.string ⟨l.toArray⟩) ∧ Below w.heap.size w w' := by
 have hc := Tryz.stringslite_Clone ⟨l.toArray⟩ w (by simp [ByteArray.size]; omega)
 go_enter Tryz.func33, Tryz.ntmps33
 go_wp2_with (go_at_call 58; refine hc.mono ?_; rintro e w1 ⟨rfl, hb⟩)
 go_ret
 exact ⟨rfl, hb⟩
def inTy (c : UInt8) : Bool := inTypeB c.toNat
def typR (r : List UInt8) : Option (List UInt8 × List UInt8) := if isTypeL (r.takeWhile inTy) then some (r.takeWhile inTy, r.dropWhile inTy) else none
open Go.RowKit
def hexByte (a b : Int) : UInt8 := UInt8.ofNat (16 * a + b).toNat
def unhexL : List UInt8 → Option (List UInt8)
 | [] => some []
 | [_] => none
 | a :: b :: t => if digitV a.toNat < 0 ∨ digitV b.toNat < 0 then none else (unhexL t).map (hexByte (digitV a.toNat) (digitV b.toNat) :: ·)
theorem digitV_rng (c : Int) : -1 ≤ digitV c ∧ digitV c ≤ 15 := by
 unfold digitV
 repeat' split
 all_goals omega
theorem hexByte_fin : ∀ x y : Fin 16, (bits BinOp.or IntKind.i64 ((x.val : Int) * 16) (y.val : Int)) % 256 = ((hexByte (x.val : Int) (y.val : Int)).toNat : Int) := by decide +kernel
theorem hexByte_bits (x y : Int) (h1 : 0 ≤ x) (h2 : x ≤ 15) (h3 : 0 ≤ y) (h4 : y ≤ 15) : bits BinOp.or IntKind.i64 (x * 16) y % 256 = ((hexByte x y).toNat : Int) := by
 obtain ⟨a, rfl⟩ := Int.eq_ofNat_of_zero_le h1
 obtain ⟨b, rfl⟩ := Int.eq_ofNat_of_zero_le h3
 exact hexByte_fin ⟨a, by omega⟩ ⟨b, by omega⟩
set_option maxRecDepth 10000 in
theorem Unhex_c (l : List UInt8) (w : World) (hl : l.length ≤ 1099511627776) :
  Calls Tryz.prog 55 #[.string ⟨l.toArray⟩] w fun e w' => e = .returned (strOr 11 (unhexL l)) ∧ Below w.heap.size w w' := by
 have hget := ba_get
 by_cases hodd : l.length % 2 = 0
 ·have h1 : (((l.length : Int) % 2) != 0) = false := by simp; omega
  go_enter Tryz.func55, Tryz.ntmps55
  go_wp2_with (at_make; refine buf_make rfl _ _ rfl (l.length / 2) _ rfl rfl (by simp) (by omega) ?_; intro w1 hb1)
  go_loopg [4, 5] l.length (fun gk v i wr => ∃ (p : Nat) (acc : List UInt8), p ≤ l.length ∧ i = .int .i64 p ∧ l.length - p ≤ gk ∧ Aside (p % 2 = 0) ∧ Buf w wr v acc ∧ acc.length ≤ p ∧ Aside (unhexL l = (unhexL (l.drop p)).map (acc ++ ·)))
  case atStart => exact ⟨0, [], by omega, rfl, by omega, rfl, hb1, by simp, by show _ = _; simp⟩
  case round =>
   obtain ⟨p, acc, hp, rfl, hgk, AP, hbuf, hacc, AU⟩ := hrel
   by_cases hlt : p < l.length
   ·have hlt1 : p + 1 < l.length := by have := AP.out; omega
    have hdr : l.drop p = l[p] :: l[p + 1] :: l.drop (p + 2) := by
     rw [List.drop_eq_getElem_cons hlt, List.drop_eq_getElem_cons hlt1]
    have hra := digitV_rng l[p].toNat
    have hrb := digitV_rng l[p + 1].toNat
    have HDD := Lib.hid (fun (c : Int) (w : World) (h0 : 0 ≤ c) (h1 : c < 256) => Digit_c c w h0 h1)
    have ha8 : (l[p].toNat : Int) < 256 := by have := UInt8.toNat_lt l[p]; omega
    have hb8 : (l[p + 1].toNat : Int) < 256 := by have := UInt8.toNat_lt l[p + 1]; omega
    have hk0 : (0 : Int) ≤ (p : Int) := by omega
    have hk1 : (p : Int) < (l.length : Int) := by omega
    have hk2 : (p : Int) + 1 < (l.length : Int) := by omega
    have hk3 : ((p : Int) + 1).toNat = p + 1 := by omega
    have hk4 : (0 : Int) ≤ (p : Int) + 1 := by omega
    have hk5 : IntKind.i64.wrap ((p : Int) + 1) = (p : Int) + 1 := IntWalk.i64_in _ (by omega)
    have AU' : Aside (unhexL l = (if digitV l[p].toNat < 0 ∨ digitV l[p + 1].toNat < 0 then none else (unhexL (l.drop (p + 2))).map (hexByte (digitV l[p].toNat) (digitV l[p + 1].toNat) :: ·)).map (acc ++ ·)) := by
     have := AU.out
     rw [hdr, unhexL] at this
     exact this
    clear hdr AU
    go_wp2_with fail
    go_quiet ((go_at_call 98; exact quiet_l (HDD.out _ _ (by omega) (by omega))))
    clear hk5
    generalize digitV l[p].toNat = x at hra AU' ⊢
    generalize digitV l[p + 1].toNat = y at hrb AU' ⊢
    by_cases hneg : x < 0 ∨ y < 0
    ·have hno : unhexL l = none := by have := AU'.out; rw [if_pos hneg] at this; exact this
     have Hno := Lib.hid hno
     clear hno
     have hB := hbuf.below
     rcases hneg with h | h
     ·go_wp2_with fail
      go_ret2
      exact ⟨by rw [Hno.out]; rfl, below_drewN hB _⟩
     ·go_wp2_with fail
      all_goals
       go_ret2
       exact ⟨by rw [Hno.out]; rfl, below_drewN hB _⟩
    ·have hx0 : 0 ≤ x := by omega
     have hy0 : 0 ≤ y := by omega
     have AU2 : Aside (unhexL l = (unhexL (l.drop (p + 2))).map ((acc ++ [hexByte x y]) ++ ·)) := by
      have := AU'.out
      rw [if_neg hneg, Option.map_map] at this
      show _ = _
      rw [this]
      congr 1
      funext z
      simp
     have hx15 : x ≤ 15 := hra.2
     have hy15 : y ≤ 15 := hrb.2
     clear hneg hra hrb AU'
     have hbits := hexByte_bits x y hx0 hx15 hy0 hy15
     have hbufN := hbuf.drewN nq
     go_wp2_with (at_builtin; refine buf_byte rfl _ _ rfl rfl hbufN rfl (by omega) ?_; intro v' w2 hb2 hg2)
     go_roundg (l.length - (p + 2))
     case measure => omega
     case rel => exact ⟨p + 2, _, by omega, by go_num, Nat.le_refl _, by have := AP.out; show _ = _; omega, hb2, by simp; omega, AU2.out⟩
   ·have hfin : unhexL l = some acc := by
     have := AU.out
     rw [List.drop_eq_nil_of_le (by omega), unhexL] at this
     simpa using this
    have Hf := Lib.hid hfin
    have hst := buf_string hbuf
    have hB := hbuf.below
    clear AU hfin
    go_wp2
    go_ret2
    exact ⟨by rw [Hf.out]; rfl, hB⟩
 ·have h1 : (((l.length : Int) % 2) != 0) = true := by simp; omega
  have hno : ∀ (n : Nat) (l : List UInt8), l.length ≤ n → l.length % 2 ≠ 0 → unhexL l = none := by
   intro n
   induction n with
   | zero => intro l h1 h2; omega
   | succ n ih =>
    intro l h1 h2
    match l, h1, h2 with
    | [], _, h2 => simp at h2
    | [_], _, _ => rfl
    | a :: b :: t, h1, h2 =>
     rw [unhexL, ih t (by simp at h1; omega) (by simp at h2; omega)]
     split <;> rfl
  rw [hno l.length l (Nat.le_refl _) hodd]
  clear hno
  go_enter Tryz.func55, Tryz.ntmps55
  go_wp2
  go_ret2
  exact ⟨rfl, Below.refl _ _⟩
open Go.RowKit
def isHex (c : UInt8) : Bool := decide (0 ≤ digitV c.toNat)
def hexR (t : List UInt8) : Option (List UInt8 × List UInt8) := match unhexL (t.takeWhile isHex) with
 | none => none
 | some v => if v = [] then none else some (v, t.dropWhile isHex)
open Go.RowKit
theorem IndexByte_c (cs : List UInt8) (x : UInt8) (w : World) :
  Calls Tryz.prog 99 #[.string ⟨cs.toArray⟩, .int .u8 x.toNat] w fun e w' => e = .returned (.int .i64 (Lib.indexByte cs x)) ∧ w = w' := by
 refine (Tryz.strings_IndexByte ⟨cs.toArray⟩ x.toNat w).mono ?_
 rintro e w' ⟨rfl, rfl⟩
 exact ⟨by simp, rfl⟩
def escCs : List UInt8 := [34, 43, 44, 59, 60, 62, 92, 61, 35, 32]
def specCs : List UInt8 := [34, 43, 44, 59, 60, 62, 92]
def esc2 (c : UInt8) : List UInt8 → Option (UInt8 × List UInt8)
 | [] => none
 | d :: t => if digitV c.toNat < 0 ∨ digitV d.toNat < 0 then none else some (hexByte (digitV c.toNat) (digitV d.toNat), t)
def escR : List UInt8 → Option (UInt8 × List UInt8)
 | [] => none
 | c :: t => if 0 ≤ Lib.indexByte escCs c then some (c, t) else esc2 c t
open Go.RowKit
def BufO (B : Nat) (w : World) (v : Value) (l : List UInt8) : Prop := w.ownsRowF B 5 1 v l.length (Lib.byteCells l) ∧ B ≤ w.heap.size
theorem BufO.nil (w : World) : BufO w.heap.size w (.slice none 0 0) [] := ⟨World.ownsRowF_nil _ _ _ _, Nat.le_refl _⟩
theorem BufO.lt {B : Nat} {w : World} {v : Value} {l : List UInt8} (h : BufO B w v l) : ∀ k, v.ownBlock = some k → B ≤ k ∧ k < w.heap.size := fun k hk => h.1.lt k hk
theorem BufO.keep {B : Nat} {w w' : World} {v : Value} {l : List UInt8} (h : BufO B w v l) {r : Option Nat} (hg : w.grownBy w' r) (hr : ∀ k, r = some k → k < B) : BufO B w' v l := by
 refine ⟨h.1.kept hg ?_, Nat.le_trans h.2 hg.size⟩
 rcases hv : v.ownBlock with _ | g
 ·exact .inl rfl
 ·refine .inr ?_
  intro he
  have h1 := hr g he.symm
  have h2 := (h.lt g hv).1
  omega
theorem BufO.string {B : Nat} {w : World} {v : Value} {l : List UInt8} (h : BufO B w v l) : (convert 55 9 v).run Tryz.prog w = .ok (.string ⟨l.toArray⟩) w := row_string h.1
theorem BufO.alloc {B : Nat} {w : World} {v : Value} {l : List UInt8} (h : BufO B w v l) (o : Obj) : BufO B (w.alloc o) v l := h.keep (World.grownBy_alloc w o none) (fun k hk => by cases hk)
theorem BufO.drewN {B : Nat} {w : World} {v : Value} {l : List UInt8} (h : BufO B w v l) (n : Nat) : BufO B (w.drewN n) v l := h
section
variable {ops : Array Oper} {rest : List Oper} {o : Oper} {a : Act} {Q : Exit → Act → World → Prop}
end
theorem BufO.grown {w0 w w' : World} {v : Value} {l : List UInt8} {r : Option Nat} (h : BufO w0.heap.size w v l) (hg0 : w0.grownBy w r) (hg : w.grownBy w' v.ownBlock) : w0.grownBy w' r :=
 ⟨hg.os.trans hg0.os, hg.tape.trans hg0.tape, hg.output.trans hg0.output, Nat.le_trans hg0.size hg.size, fun k hk hne => by
  rw [hg.block k (Nat.lt_of_lt_of_le hk hg0.size)]
  ·exact hg0.block k hk hne
  ·intro e
   have := (h.lt k e.symm).1
   omega⟩
open Go.RowKit
def valL : Nat → List UInt8 → List UInt8 → Nat → Option (List UInt8 × List UInt8)
 | _, [], acc, long => some (acc.take long, [])
 | 0, _ :: _, _, _ => none
 | n + 1, c :: t, acc, long =>
  if (c.toNat : Int) = 44 ∨ (c.toNat : Int) = 43 then some (acc.take long, c :: t)
  else if (c.toNat : Int) = 92 then match escR t with
   | none => none
   | some (x, t') => valL n t' (acc ++ [x]) (acc.length + 1)
  else if (c.toNat : Int) = 0 ∨ 0 ≤ Lib.indexByte specCs c then none
  else valL n t (acc ++ [c]) (if (c.toNat : Int) = 32 then long else acc.length + 1)
def valueR (r : List UInt8) : Option (List UInt8 × List UInt8) := if hd r 35 then hexR r.tail else valL r.length r [] 0
open Go.RowKit
def Off (b : Nat) : Prop := b ≠ 0 ∧ b ≠ 1 ∧ b ≠ 2
theorem Env.grown {w W : World} {b : Nat} (h : Env w) (hb : Off b) (hg : w.grownBy W (some b)) : Env W := by
 obtain ⟨⟨h1, h2⟩, m, hm⟩ := h
 obtain ⟨b1, b2, b3⟩ := hb
 refine ⟨⟨fun c hc => hg.cell (h1 c hc) (by simpa using b1.symm), fun i hi => ⟨hg.cell (h2 i hi).1 (by simpa using b2.symm), hg.cell (h2 i hi).2 (by simpa using b2.symm)⟩⟩, m, hg.cell hm (by simpa using b3.symm)⟩
def Bk (w : World) (g : Nat) (t : TypeId) (cs : Array Value) : Prop := w.heap[g]? = some (.cells cs t (0, 0))
theorem Bk.lt {w : World} {g : Nat} {t : TypeId} {cs : Array Value} (h : Bk w g t cs) : g < w.heap.size := (Array.getElem?_eq_some_iff.1 h).1
theorem Bk.cell {w : World} {g : Nat} {t : TypeId} {cs : Array Value} (h : Bk w g t cs) (i : Nat) : w.cell? ⟨g, i, none⟩ = cs[i]? := by unfold Bk at h; simp [World.cell?, h]
theorem Bk.frozen {w : World} {g : Nat} {t : TypeId} {cs : Array Value} (h : Bk w g t cs) (i : Nat) : w.frozen? ⟨g, i, none⟩ = false := by unfold Bk at h; simp [World.frozen?, h]
theorem Bk.new (w : World) (t : TypeId) (cs : Array Value) : Bk (w.alloc (.cells cs t)) w.heap.size t cs := heap_alloc_new w _
theorem Bk.grown {w w' : World} {g : Nat} {t : TypeId} {cs : Array Value} {r : Option Nat} (h : Bk w g t cs) (hg : w.grownBy w' r) (hne : some g ≠ r) : Bk w' g t cs := (hg.block g h.lt hne).trans h
theorem Bk.below {w w' : World} {g : Nat} {t : TypeId} {cs : Array Value} (h : Bk w g t cs) (hb : Below w.heap.size w w') : Bk w' g t cs := (hb.block g h.lt).trans h
theorem Bk.alloc {w : World} {g : Nat} {t : TypeId} {cs : Array Value} (h : Bk w g t cs) (o : Obj) : Bk (w.alloc o) g t cs := h.grown (World.grownBy_alloc w o none) (by simp)
theorem Bk.drewN {w : World} {g : Nat} {t : TypeId} {cs : Array Value} (h : Bk w g t cs) (n : Nat) : Bk (w.drewN n) g t cs := h
theorem Bk.set {w : World} {g : Nat} {t : TypeId} {cs : Array Value} (h : Bk w g t cs) (i : Nat) (u : Value) : Bk (w.setCell ⟨g, i, none⟩ u) g t (cs.setIfInBounds i u) := by
 unfold Bk at h ⊢
 simp [World.setCell, Array.getElem?_modify, h]
theorem Bk.far {w : World} {g g' i : Nat} {t : TypeId} {cs : Array Value} (h : Bk w g t cs) (hne : g ≠ g') (u : Value) : Bk (w.setCell ⟨g', i, none⟩ u) g t cs := (Below.heap_setCell w _ u g hne).trans h
def blk (r : List UInt8) : List UInt8 := r.dropWhile (· == 32)
def pairR (r : List UInt8) : Option ((List UInt8 × List UInt8) × List UInt8) :=
 match typR (blk r) with
 | none => none
 | some (t, r2) => if hd (blk r2) 61 then (match valueR (blk (blk r2).tail) with
   | none => none
   | some (v, r5) => some ((t, v), blk r5)) else none
open Go.RowKit
open Go.RowKit
open Go.RowKit
open Go.RowKit
open Go.RowKit
def RdnR (w : World) (v : Value) (p : List (List UInt8 × List UInt8)) : Prop :=
 ∃ A c, v = .slice A p.length c ∧ p.length ≤ c ∧ (p = [] ∨ ∃ g o, A = some ⟨g, o, none⟩ ∧ g < w.heap.size ∧ ∀ j x, p[j]? = some x → w.cell? ⟨g, o + 2 * j, none⟩ = some (.string ⟨x.1.toArray⟩) ∧ w.cell? ⟨g, o + 2 * j + 1, none⟩ = some (.string ⟨x.2.toArray⟩))
def DnR (w : World) (v : Value) (d : List (List (List UInt8 × List UInt8))) : Prop :=
 ∃ A c, v = .slice A d.length c ∧ d.length ≤ c ∧ (d = [] ∨ ∃ g o, A = some ⟨g, o, none⟩ ∧ g < w.heap.size ∧ ∀ j p, d[j]? = some p → ∃ pv, w.cell? ⟨g, o + j, none⟩ = some pv ∧ RdnR w pv p)
theorem RdnR.below {w w' : World} {v : Value} {p : List (List UInt8 × List UInt8)} (h : RdnR w v p) (hb : Below w.heap.size w w') : RdnR w' v p := by
 obtain ⟨A, c, rfl, hc, h⟩ := h
 refine ⟨A, c, rfl, hc, h.imp id ?_⟩
 rintro ⟨g, o, rfl, hg, hx⟩
 refine ⟨g, o, rfl, Nat.lt_of_lt_of_le hg hb.size, fun j x hj => ?_⟩
 rw [hb.cell (p := ⟨g, o + 2 * j, none⟩) hg, hb.cell (p := ⟨g, o + 2 * j + 1, none⟩) hg]
 exact hx j x hj
theorem DnR.below {w w' : World} {v : Value} {d : List (List (List UInt8 × List UInt8))} (h : DnR w v d) (hb : Below w.heap.size w w') : DnR w' v d := by
 obtain ⟨A, c, rfl, hc, h⟩ := h
 refine ⟨A, c, rfl, hc, h.imp id ?_⟩
 rintro ⟨g, o, rfl, hg, hx⟩
 refine ⟨g, o, rfl, Nat.lt_of_lt_of_le hg hb.size, fun j p hj => ?_⟩
 obtain ⟨pv, h1, h2⟩ := hx j p hj
 exact ⟨pv, (hb.cell (p := ⟨g, o + j, none⟩) hg).trans h1, h2.below hb⟩
open Go.RowKit
open Go.RowKit
theorem setCell_grown (w : World) (g i : Nat) (u : Value) : w.grownBy (w.setCell ⟨g, i, none⟩ u) (some g) :=
 ⟨rfl, rfl, rfl, by simp [World.setCell], fun k _ hne => Below.heap_setCell _ _ _ _ (by intro e; apply hne; rw [e])⟩
open Go.RowKit
def hexCs : List UInt8 := [48, 49, 50, 51, 52, 53, 54, 55, 56, 57, 97, 98, 99, 100, 101, 102]
def hexD (n : Nat) : UInt8 := hexCs.getD n 0
def hexL (l : List UInt8) : List UInt8 := l.flatMap fun c => [hexD (c.toNat / 16), hexD (c.toNat % 16)]
section
variable {ops : Array Oper} {o : Oper} {a : Act} {K : Act → World → Prop} {Q : Exit → Act → World → Prop} {E : Prop}
theorem step_append_ownF {P : Program} {w : World} (hgd : o.guard = none) (s x : Operand) (t : TypeId)
  (ho : o.op = .call { callee := .builtin .append, args := #[s, x], argTypes := #[t, t] })
  (base : Nat) (e : TypeId) (i : TypeInfo) (z : Value) (size bytes : Nat) (ht : P.underlying t = some (.slice e)) (hi : P.info? e = some i) (hz : i.zero = some z)
  (hsize : i.size = size) (hby : i.bytes = bytes) (hzs : z.cells.size = size) (hsz : 0 < size)
  (v : Value) (n : Nat) (xs : List Value) (hs : a.eval s = v) (hown : w.ownsRowF base e size v n xs)
  (ad : Addr) (m c : Nat) (news : List Value) (hx : a.eval x = .slice (some ad) m c) (hl : news.length = m * size) (hnews : ∀ j u, news[j]? = some u → w.cell? (ad.add j) = some u) (h1 : ∀ u ∈ news, u.oneCell' = true)
  (h63 : n + m ≤ maxLen) (hbytes : (n + m) * bytes ≤ 140737488355328) (hbase : base ≤ w.heap.size)
  (h : ∀ v' w', w'.ownsRowF base e size v' (n + m) (xs ++ news) → w.grownBy w' v.ownBlock → K (a.put o.dst v') w') :
  if Region.wanted o (yielded ops a.tmps) = true then Oper.wp P o a w K Q else E := by
 have hw : Region.wanted o (yielded ops a.tmps) = true := by simp [Region.wanted, hgd]
 rw [if_pos hw]
 obtain ⟨v', w', hr, h2, h3, h4⟩ := run_append_ownF (P := P) w base t o.type e i z size bytes ht hi hz hsize hby hzs hsz v n xs hown ad m c news hl hnews h1 h63 hbytes hbase
 unfold Oper.wp execOp
 simp only [ho, resolve, invoke, builtin, Sem.run_bind, Sem.run_pure, Result.andThen_ok, List.map_toArray, List.map_cons, List.map_nil, hs, hx, hr]
 exact h v' w' h2 h3
theorem step_two (hgd : o.guard = none) (s x : Operand) (ho : o.op = .call { callee := .builtin .append, args := #[s, x], argTypes := #[55, 55] })
  {v : Value} {l : List UInt8} {W0 w0 : World} {c d : UInt8} (hs : a.eval s = v) (hb : Buf W0 w0 v l)
  (hx : a.eval x = .slice (some ⟨w0.heap.size, 0, none⟩) 2 2) (hlen : l.length + 2 ≤ 140737488355328)
  (h : ∀ v' w', Buf W0 w' v' (l ++ [c, d]) → w0.grownBy w' v.ownBlock → K (a.put o.dst v') w') :
  if Region.wanted o (yielded ops a.tmps) = true then Oper.wp Tryz.prog o a (w0.alloc (.cells #[.int .u8 c.toNat, .int .u8 d.toNat] 5)).drew K Q else E := by
 obtain ⟨i, h1, h2, h3, h4⟩ := infoByte
 have hb0 := (Buf.alloc hb (.cells #[.int .u8 c.toNat, .int .u8 d.toNat] 5)).drewN 1
 have hb' : Lib.OwnBuf W0.heap.size 5 v l.length (Lib.byteCells l) W0 (w0.alloc (.cells #[.int .u8 c.toNat, .int .u8 d.toNat] 5)).drew := hb0
 refine step_append_ownF hgd s x 55 ho W0.heap.size 5 i (.int .u8 0) 1 1 Tryz.underlying55 h1 h2 h3 h4 rfl (by decide) v _ _ hs hb'.1 ⟨w0.heap.size, 0, none⟩ 2 2 [.int .u8 c.toNat, .int .u8 d.toNat] hx rfl ?_ ?_ (by unfold maxLen; omega) (by omega) hb'.2.2 ?_
 ·intro j u hj
  match j, hj with
  | 0, hj => simp at hj; subst hj; simp [Addr.add]
  | 1, hj => simp at hj; subst hj; simp [Addr.add]
  | (j + 2), hj => simp at hj
 ·intro u hu; simp at hu; rcases hu with rfl | rfl <;> rfl
 ·intro v' w' ho' hg
  refine h v' w' ?_ (World.grownBy.trans (World.grownBy_alloc _ _ _) ⟨hg.os, hg.tape, hg.output, hg.size, hg.block⟩)
  have hv := hb'.grown ho' hg
  unfold Buf
  simpa [Lib.byteCells] using hv
end
theorem and15_fin : ∀ c : Fin 256, bits BinOp.and IntKind.u8 (c.val : Int) 15 = ((c.val % 16 : Nat) : Int) := by decide +kernel
theorem and15 (c : UInt8) : bits BinOp.and IntKind.u8 (c.toNat : Int) 15 = ((c.toNat % 16 : Nat) : Int) := and15_fin ⟨c.toNat, UInt8.toNat_lt c⟩
theorem hexD_at (m : Int) (n : Nat) (h : m.toNat < hexCs.length) (e : m = (n : Int)) : hexCs[m.toNat] = hexD n := by
 subst e
 unfold hexD
 rw [List.getD_eq_getElem?_getD, List.getElem?_eq_getElem (by simpa using h)]
 simp
theorem hexL_snoc (l : List UInt8) (p : Nat) (h : p < l.length) : hexL (l.take (p + 1)) = hexL (l.take p) ++ [hexD (l[p].toNat / 16), hexD (l[p].toNat % 16)] := by
 rw [List.take_succ_eq_append_getElem h]
 unfold hexL
 rw [List.flatMap_append]
 rfl
set_option maxRecDepth 10000 in
theorem Hex_c (l : List UInt8) (w : World) (hl : l.length ≤ 1048576) :
  Calls Tryz.prog 18 #[.string ⟨l.toArray⟩] w fun e w' => e = .returned (.string ⟨(hexL l).toArray⟩) ∧ Below w.heap.size w w' := by
 have hget := ba_get
 go_enter Tryz.func18, Tryz.ntmps18
 go_wp2_with (at_make; refine buf_make rfl _ _ rfl (2 * l.length) _ rfl rfl (by simp) (by omega) ?_; intro w1 hb1)
 go_loopg [3, 11] l.length (fun gk v i wr => ∃ (p : Nat) (acc : List UInt8), p ≤ l.length ∧ i = .int .i64 p ∧ Aside (p + gk = l.length) ∧ Buf w wr v acc ∧ acc.length ≤ 2 * p ∧ Aside (acc = hexL (l.take p)))
 case atStart => exact ⟨0, [], by omega, rfl, by show _ = _; omega, hb1, by simp, rfl⟩
 case round =>
  obtain ⟨p, acc, hp, rfl, AG, hbuf, hacc, AU⟩ := hrel
  by_cases hlt : p < l.length
  ·obtain ⟨q, rfl⟩ : ∃ q, gk = q + 1 := ⟨gk - 1, by have := AG.out; omega⟩
   have h8 := UInt8.toNat_lt l[p]
   have hk0 : (0 : Int) ≤ (p : Int) := by omega
   have hk1 : (p : Int) < (l.length : Int) := by omega
   have ha := and15 l[p]
   have ha2 : ((l[p].toNat % 16 : Nat) : Int) < 16 := by omega
   have ha3 : (0 : Int) ≤ ((l[p].toNat % 16 : Nat) : Int) := by omega
   have hd1 : (l[p].toNat : Int) / 16 < 16 := by omega
   have hd0 : (0 : Int) ≤ (l[p].toNat : Int) / 16 := by omega
   go_wp2_with fail
   go_region_held3 (fun _ => True) (trivial) ((refine step_two (by rfl) _ _ (by rfl) rfl hbuf rfl (by omega) ?_; intro v' w2 hb2 hg2))
   all_goals
    have e1 := hexD_at ((l[p].toNat : Int) / 16) (l[p].toNat / 16) (by show _ < 16; omega) (by omega)
    have e2 := hexD_at ((l[p].toNat : Int) % 16) (l[p].toNat % 16) (by show _ < 16; omega) (by omega)
    have hb3 : Buf w w2 v' (hexL (l.take (p + 1))) := by
     rw [hexL_snoc l p hlt, ← AU.out, ← e1, ← e2]
     exact hb2
    clear hb2 hg2 e1 e2
    go_wp2_with fail
    go_roundg q
    case measure => omega
    case rel =>
     exact ⟨p + 1, _, by omega, by go_num, by have := AG.out; show _ = _; omega, hb3, by rw [hexL_snoc l p hlt, ← AU.out]; simp; omega, rfl⟩
  ·obtain rfl : p = l.length := by omega
   have hfin : acc = hexL l := by have := AU.out; rw [List.take_length] at this; exact this
   have Hf := Lib.hid hfin
   have hst := buf_string hbuf
   have hB := hbuf.below
   clear AU hfin
   go_wp2
   go_ret
   exact ⟨by rw [← Hf.out]; rfl, hB⟩
open Go.RowKit
open Go.RowKit
end Go.Proofs.YthenffabboomnaaGreatDoor
namespace Go.Proofs.YthenffabboomnaaGreatDoor.Cfg
open Go.RowKit
structure IndexE where
 typ : List UInt8
 eq : Bool
 pres : Bool
 sub : Bool
deriving DecidableEq
structure ConfE where
 suffix : List UInt8
 root : List UInt8
 secret : List UInt8
 size : Int
 attrs : List (List UInt8)
 classes : List (List UInt8)
 acls : List (List UInt8)
 indexes : List IndexE
 memberof : Bool
 audit : Bool
 refs : List (List UInt8)
 unique : List (List UInt8)
deriving DecidableEq
def zeroC : ConfE := ⟨[], [], [], 0, [], [], [], [], false, false, [], []⟩
instance : Inhabited ConfE := ⟨zeroC⟩
def digB (c : UInt8) : Bool := decide (48 ≤ c.toNat ∧ c.toNat ≤ 57)
def valN (s : List UInt8) : Nat := s.foldl (fun n c => n * 10 + (c.toNat - 48)) 0
def numS (s : List UInt8) : Int × Bool :=
 if s = [] ∨ 10 < s.length ∨ (1 < s.length ∧ s.headD 0 = 48) ∨ s.all digB = false then (0, false)
 else ((valN s : Int), decide (valN s ≤ 2147483647))
inductive Kind where
 | suffix | root | secret | size | attr | class | acl | index | memberof | audit | ref | unique
deriving DecidableEq
def kinds : List (List UInt8 × Kind) := [
 ([115, 117, 102, 102, 105, 120], .suffix),
 ([114, 111, 111, 116], .root),
 ([115, 101, 99, 114, 101, 116], .secret),
 ([115, 105, 122, 101], .size),
 ([97, 116, 116, 114], .attr),
 ([99, 108, 97, 115, 115], .class),
 ([97, 99, 108], .acl),
 ([105, 110, 100, 101, 120], .index),
 ([109, 101, 109, 98, 101, 114, 111, 102], .memberof),
 ([97, 117, 100, 105, 116], .audit),
 ([114, 101, 102], .ref),
 ([117, 110, 105, 113, 117, 101], .unique)]
def kindOf (nm : List UInt8) : Option Kind := (kinds.find? (·.1 == nm)).map (·.2)
def commas : List UInt8 → List (List UInt8)
 | [] => [[]]
 | c :: t => if c == 44 then [] :: commas t else match commas t with
  | [] => [[c]]
  | x :: l => (c :: x) :: l
end Go.Proofs.YthenffabboomnaaGreatDoor.Cfg
