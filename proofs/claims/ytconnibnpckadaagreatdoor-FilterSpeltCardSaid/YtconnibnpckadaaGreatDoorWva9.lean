import Derived.Test.YtconnibnpckadaaGreatDoorWva7
set_option linter.all false
set_option maxHeartbeats 8000000
set_option maxRecDepth 100000
namespace Go.Proofs.YtconnibnpckadaaGreatDoor
open Go.RowKit
theorem IndexByte_c (cs : List UInt8) (x : UInt8) (w : World) :
  Calls Tryz.prog 28 #[.string ⟨cs.toArray⟩, .int .u8 x.toNat] w fun e w' => e = .returned (.int .i64 (Lib.indexByte cs x)) ∧ w = w' := by
 refine (Tryz.strings_IndexByte ⟨cs.toArray⟩ x.toNat w).mono ?_
 rintro e w' ⟨rfl, rfl⟩
 exact ⟨by simp, rfl⟩
def escCs : List UInt8 := [34, 43, 44, 59, 60, 62, 92, 61, 35, 32]
def specCs : List UInt8 := [34, 43, 44, 59, 60, 62, 92]
def esc2 (c : UInt8) : List UInt8 → Option (UInt8 × List UInt8)
 | [] => none
 | d :: t => if digitV c.toNat < 0 ∨ digitV d.toNat < 0 then none else some (hexByte (digitV c.toNat) (digitV d.toNat), t)
def escR : List UInt8 → Option (UInt8 × List UInt8)
 | [] => none
 | c :: t => if 0 ≤ Lib.indexByte escCs c then some (c, t) else esc2 c t
theorem quiet_al {P : Program} {f : FuncId} {args : Array Value} {w : World} {a n : Nat} {v : Value}
  (h : Calls P f args (w.drewN (a + n)) fun e w' => e = .returned v ∧ w.drewN (a + n) = w') :
  Calls P f args (w.drewN (a + n)) fun e w'' => e = .returned v ∧ ∃ m, w'' = w.drewN (a + m) :=
 h.mono fun _ _ ⟨he, hm⟩ => ⟨he, n, hm.symm⟩
set_option maxRecDepth 100000 in
theorem escape_c (b : Nat) (s t : List UInt8) (x : UInt8) (w : World) (h : RdAt w b s (x :: t)) (hs : s.length ≤ 65536) :
  Calls Tryz.prog 243 #[.pointer (some ⟨b, 0, none⟩)] w (RdRet w b s ((escR t).map fun x => (.int .u8 x.1.toNat, x.2))) := by
 have hget := ba_get
 obtain ⟨i, hi, hd0, hRd⟩ := h
 have ⟨hlt, hdt⟩ := drop_succ hd0
 clear hd0 hi
 have h0 := hRd.c0
 have h1 := hRd.c1
 have hf1 := hRd.f1
 have HR := Lib.hid hRd
 clear hRd
 have hi0 : (0 : Int) ≤ (i : Int) := by omega
 have hk3 : ((i : Int) + 1).toNat = i + 1 := by omega
 have hk4 : (0 : Int) ≤ (i : Int) + 1 := by omega
 have hk5 : IntKind.i64.wrap ((i : Int) + 1) = (i : Int) + 1 := IntWalk.i64_in _ (by omega)
 cases t with
 | nil =>
  have hl : i + 1 = s.length := by
   have := congrArg List.length hdt
   simp at this; omega
  have hd1 : decide ((i : Int) + 1 < (s.length : Int)) = false := by rw [decide_eq_false_iff_not]; omega
  have HL := Lib.hid hl
  clear hl hdt
  go_enter Tryz.func243, Tryz.ntmps243
  go_wp2_with fail
  go_quiet (fail)
  have hw2 : IntKind.i64.wrap ((i : Int) + 2) = (i : Int) + 2 := IntWalk.i64_in _ (by omega)
  have hge : (s.length : Int) ≤ (i : Int) + 2 := by have := HL.out; omega
  clear hk5
  go_wp2_with fail
  go_quiet (fail)
  clear hw2
  go_wp2_with fail
  exact ⟨rfl, grown_drewN _ _ _, rfl⟩
 | cons c t =>
  have hl : i + 1 < s.length := by
   have := congrArg List.length hdt
   simp at this; omega
  have hsc : s[i + 1] = c := by rw [List.drop_eq_getElem_cons hl] at hdt; exact (List.cons.inj hdt).1
  have hdt2 : s.drop (i + 2) = t := by rw [List.drop_eq_getElem_cons hl] at hdt; exact (List.cons.inj hdt).2
  have hd1 : (i : Int) + 1 < (s.length : Int) := by omega
  have hIB := fun w => IndexByte_c escCs s[i + 1] w
  have HE : Hid (escR (c :: t) = if 0 ≤ Lib.indexByte escCs c then some (c, t) else esc2 c t) := Lib.hid rfl
  have HIB := Lib.hid hIB
  clear hdt hIB
  have HSC := Lib.hid hsc
  have HD2 := Lib.hid hdt2
  clear hsc hdt2
  by_cases hix : 0 ≤ Lib.indexByte escCs s[i + 1]
  ·have hes : escR (c :: t) = some (c, t) := by rw [HE.out, if_pos (by rw [← HSC.out]; exact hix)]
   have Hes := Lib.hid hes
   clear hes
   go_enter Tryz.func243, Tryz.ntmps243
   go_wp2_with fail
   go_quiet ((go_at_call 28; exact quiet_l (HIB.out _)))
   clear hk5
   go_wp2_with fail
   have hR2 : Rd ((w.drewN nq).setCell ⟨b, 1, none⟩ (.int .i64 ((i : Int) + 2))) b s (i + 2) := (HR.out.drewN nq).set (i + 2)
   have hg2 : w.grownBy ((w.drewN nq).setCell ⟨b, 1, none⟩ (.int .i64 ((i : Int) + 2))) (some b) := World.grownBy.trans (grown_drewN _ _ _) (grown_set _)
   generalize (w.drewN nq).setCell ⟨b, 1, none⟩ (.int .i64 ((i : Int) + 2)) = W at *
   have c0 := hR2.c0
   have c1 : W.cell? ⟨b, 1, none⟩ = some (.int .i64 ((i : Int) + 2)) := hR2.c1
   have hm1 : IntKind.i64.wrap ((i : Int) + 2 - 1) = (i : Int) + 1 := by rw [show (i : Int) + 2 - 1 = (i : Int) + 1 by omega]; exact IntWalk.i64_in _ (by omega)
   have HR2 := Lib.hid hR2
   clear h0 h1 hf1 hR2
   go_quiet (fail)
   clear hm1
   go_wp2_with fail
   go_ret
   rw [Hes.out]
   refine ⟨World.grownBy.trans hg2 (grown_drewN _ _ _), ?_, i + 2, by omega, HD2.out, HR2.out⟩
   show Ending.returned (.int .u8 s[i + 1].toNat) = _
   rw [HSC.out]
  ·have hes : escR (c :: t) = esc2 c t := by rw [HE.out, if_neg (by rw [← HSC.out]; exact hix)]
   have Hes := Lib.hid hes
   clear hes
   have hix' : Lib.indexByte escCs s[i + 1] < 0 := by omega
   have hq3 : ((i : Int) + 2).toNat = i + 2 := by omega
   have hq4 : (0 : Int) ≤ (i : Int) + 2 := by omega
   clear hix
   cases t with
   | nil =>
    have hl2 : s.length ≤ i + 2 := by have := congrArg List.length HD2.out; simp at this; omega
    have hge : (s.length : Int) ≤ (i : Int) + 2 := by omega
    go_enter Tryz.func243, Tryz.ntmps243
    go_wp2_with fail
    go_quiet ((go_at_call 28; exact quiet_l (HIB.out _)))
    have hw2 : IntKind.i64.wrap ((i : Int) + 2) = (i : Int) + 2 := IntWalk.i64_in _ (by omega)
    clear hk5
    go_wp2_with fail
    go_quiet (fail)
    clear hw2
    go_wp2_with fail
    refine ⟨rfl, ?_⟩
    rw [Hes.out]
    exact ⟨grown_drewN _ _ _, rfl⟩
   | cons d t =>
    have hl2 : i + 2 < s.length := by have := congrArg List.length HD2.out; simp at this; omega
    have hlt2 : (i : Int) + 2 < (s.length : Int) := by omega
    have hsd : s[i + 2] = d := by have := HD2.out; rw [List.drop_eq_getElem_cons hl2] at this; exact (List.cons.inj this).1
    have hdt3 : s.drop (i + 3) = t := by have := HD2.out; rw [List.drop_eq_getElem_cons hl2] at this; exact (List.cons.inj this).2
    have HSD := Lib.hid hsd
    have HD3 := Lib.hid hdt3
    have HDD := Lib.hid (fun (c : Int) (w : World) (h0 : 0 ≤ c) (h1 : c < 256) => Digit_c c w h0 h1)
    have ha8 : (s[i + 1].toNat : Int) < 256 := by have := UInt8.toNat_lt s[i + 1]; omega
    have hb8 : (s[i + 2].toNat : Int) < 256 := by have := UInt8.toNat_lt s[i + 2]; omega
    clear hsd hdt3
    go_enter Tryz.func243, Tryz.ntmps243
    go_wp2_with fail
    go_quiet ((go_at_call 28; exact quiet_l (HIB.out _)))
    have hw2 : IntKind.i64.wrap ((i : Int) + 2) = (i : Int) + 2 := IntWalk.i64_in _ (by omega)
    go_wp2_with fail
    go_quiet (fail)
    go_wp2_with fail
    go_quiet ((go_at_call 140; exact quiet_al (HDD.out _ _ (by omega) (by omega))))
    have hra := digitV_rng s[i + 1].toNat
    have hrb := digitV_rng s[i + 2].toNat
    have h2 : esc2 c (d :: t) = if digitV s[i + 1].toNat < 0 ∨ digitV s[i + 2].toNat < 0 then none else some (hexByte (digitV s[i + 1].toNat) (digitV s[i + 2].toNat), t) := by rw [HSC.out, HSD.out]; rfl
    have H2 := Lib.hid h2
    clear h2 hw2 hk5
    generalize digitV s[i + 1].toNat = p at hra H2 ⊢
    generalize digitV s[i + 2].toNat = q at hrb H2 ⊢
    by_cases hneg : p < 0 ∨ q < 0
    ·have hno : esc2 c (d :: t) = none := by rw [H2.out, if_pos hneg]
     have Hno := Lib.hid hno
     clear hno
     rcases hneg with h | h
     ·go_wp2_with fail
      refine ⟨rfl, ?_⟩
      rw [Hes.out, Hno.out]
      exact ⟨grown_drewN _ _ _, rfl⟩
     ·go_wp2_with fail
      all_goals
       refine ⟨rfl, ?_⟩
       rw [Hes.out, Hno.out]
       exact ⟨grown_drewN _ _ _, rfl⟩
    ·have hyes : esc2 c (d :: t) = some (hexByte p q, t) := by rw [H2.out, if_neg hneg]
     have Hyes := Lib.hid hyes
     have hx0 : 0 ≤ p := by omega
     have hy0 : 0 ≤ q := by omega
     have hx15 : p ≤ 15 := hra.2
     have hy15 : q ≤ 15 := hrb.2
     have hbits := hexByte_bits p q hx0 hx15 hy0 hy15
     clear hneg hyes hra hrb
     go_wp2_with fail
     go_ret
     rw [Hes.out, Hyes.out]
     exact ⟨World.grownBy.trans (grown_drewN _ _ _) (grown_set _), reti hbits, i + 3, by omega, HD3.out, (HR.out.drewN _).set (i + 3)⟩
open Go.RowKit
def BufO (B : Nat) (w : World) (v : Value) (l : List UInt8) : Prop := w.ownsRowF B 5 1 v l.length (Lib.byteCells l) ∧ B ≤ w.heap.size
theorem BufO.nil (w : World) : BufO w.heap.size w (.slice none 0 0) [] := ⟨World.ownsRowF_nil _ _ _ _, Nat.le_refl _⟩
theorem BufO.lt {B : Nat} {w : World} {v : Value} {l : List UInt8} (h : BufO B w v l) : ∀ k, v.ownBlock = some k → B ≤ k ∧ k < w.heap.size := fun k hk => h.1.lt k hk
theorem BufO.keep {B : Nat} {w w' : World} {v : Value} {l : List UInt8} (h : BufO B w v l) {r : Option Nat} (hg : w.grownBy w' r) (hr : ∀ k, r = some k → k < B) : BufO B w' v l := by
 refine ⟨h.1.kept hg ?_, Nat.le_trans h.2 hg.size⟩
 rcases hv : v.ownBlock with _ | g
 ·exact .inl rfl
 ·refine .inr ?_
  intro he
  have h1 := hr g he.symm
  have h2 := (h.lt g hv).1
  omega
theorem BufO.string {B : Nat} {w : World} {v : Value} {l : List UInt8} (h : BufO B w v l) : (convert 66 9 v).run Tryz.prog w = .ok (.string ⟨l.toArray⟩) w := row_string h.1
theorem BufO.alloc {B : Nat} {w : World} {v : Value} {l : List UInt8} (h : BufO B w v l) (o : Obj) : BufO B (w.alloc o) v l := h.keep (World.grownBy_alloc w o none) (fun k hk => by cases hk)
theorem BufO.drewN {B : Nat} {w : World} {v : Value} {l : List UInt8} (h : BufO B w v l) (n : Nat) : BufO B (w.drewN n) v l := h
theorem BufO.stringTake {B : Nat} {w : World} {v : Value} {l : List UInt8} (h : BufO B w v l) {k : Nat} (hk : k ≤ l.length) : ∃ A c, v = .slice A l.length c ∧ l.length ≤ c ∧ (convert 66 9 (.slice A k c)).run Tryz.prog w = .ok (.string ⟨(l.take k).toArray⟩) w := by
 by_cases hl : l = []
 ·subst hl
  obtain ⟨⟨h1, h2⟩, h3⟩ := h
  obtain rfl : k = 0 := by simpa using hk
  rcases h2 with ⟨rfl, hn⟩ | ⟨g, cap, cur, fz, rfl, r2, r3, r4, r5, r6, r7, r8⟩
  ·refine ⟨none, 0, rfl, by simp, ?_⟩
   rw [run_convert_bytes_nil (w := w) (P := Tryz.prog) 66 5 Tryz.underlying66 Tryz.underlying5 0 0 9 Tryz.underlying9]
   rfl
  ·exact ⟨some ⟨g, 0, none⟩, cap, rfl, r5, run_convert_bytes_back w 66 9 5 ⟨g, 0, none⟩ cap [] Tryz.underlying66 Tryz.underlying5 Tryz.underlying9 (fun j hj => absurd hj (by simp))⟩
 ·obtain ⟨g, cap, rfl, hc, _, _, hcell⟩ := row_cell h.1 hl
  refine ⟨some ⟨g, 0, none⟩, cap, rfl, hc, ?_⟩
  have hkl : (l.take k).length = k := by simp; omega
  have := run_convert_bytes_back (P := Tryz.prog) w 66 9 5 ⟨g, 0, none⟩ cap (l.take k) Tryz.underlying66 Tryz.underlying5 Tryz.underlying9 (fun j hj => by
   rw [hkl] at hj
   rw [add_off, hcell j (by omega)]
   simp)
  rwa [hkl] at this
section
variable {ops : Array Oper} {rest : List Oper} {o : Oper} {a : Act} {Q : Exit → Act → World → Prop}
theorem bufo_byte (hgd : o.guard = none) (s x : Operand) (ho : o.op = .call { callee := .builtin .append, args := #[s, x], argTypes := #[66, 66] })
  {v : Value} {l : List UInt8} {B : Nat} {w0 : World} {c : UInt8} (hs : a.eval s = v) (hb : BufO B w0 v l)
  (hx : a.eval x = .slice (some ⟨w0.heap.size, 0, none⟩) 1 1) (hlen : l.length < 140737488355328)
  (h : ∀ v' w', BufO B w' v' (l ++ [c]) → w0.grownBy w' v.ownBlock → wpList Tryz.prog ops Q rest (a.put o.dst v') w') : wpList Tryz.prog ops Q (o :: rest) a (w0.alloc (.cells #[.int .u8 c.toNat] 5)) := by
 obtain ⟨i, h1, h2, h3, h4⟩ := infoByte
 have hb' := hb.alloc (.cells #[.int .u8 c.toNat] 5)
 refine wpList_append_ownF _ hgd s x 66 ho B 5 i (.int .u8 0) 1 1 Tryz.underlying66 h1 h2 h3 h4 rfl (by decide) v _ _ hs hb'.1 ⟨w0.heap.size, 0, none⟩ 1 1 [.int .u8 c.toNat] hx rfl ?_ ?_ (by unfold maxLen; omega) (by omega) hb'.2 ?_
 ·intro j u hj
  match j, hj with
  | 0, hj => simp at hj; subst hj; simp [Addr.add]
  | (j + 1), hj => simp at hj
 ·intro u hu; simp at hu; subst hu; rfl
 ·intro v' w' ho' hg _
  refine h v' w' ⟨?_, Nat.le_trans hb'.2 hg.size⟩ (World.grownBy.trans (World.grownBy_alloc _ _ _) hg)
  simpa [Lib.byteCells] using ho'
end
theorem BufO.rd {w0 w w' : World} {v : Value} {l s : List UInt8} {b i : Nat} (h : BufO w0.heap.size w v l) (hg : w.grownBy w' v.ownBlock) (hb : b < w0.heap.size) (hR : Rd w b s i) : Rd w' b s i := by
 unfold Rd at hR ⊢
 rw [hg.block b (Array.getElem?_eq_some_iff.1 hR).1]
 ·exact hR
 ·intro e
  have := (h.lt b e.symm).1
  omega
theorem BufO.grown {w0 w w' : World} {v : Value} {l : List UInt8} {r : Option Nat} (h : BufO w0.heap.size w v l) (hg0 : w0.grownBy w r) (hg : w.grownBy w' v.ownBlock) : w0.grownBy w' r :=
 ⟨hg.os.trans hg0.os, hg.tape.trans hg0.tape, hg.output.trans hg0.output, Nat.le_trans hg0.size hg.size, fun k hk hne => by
  rw [hg.block k (Nat.lt_of_lt_of_le hk hg0.size)]
  ·exact hg0.block k hk hne
  ·intro e
   have := (h.lt k e.symm).1
   omega⟩
open Go.RowKit
theorem ended_at (b : Nat) (s r : List UInt8) (w : World) (h : RdAt w b s r) :
  Calls Tryz.prog 210 #[.pointer (some ⟨b, 0, none⟩)] w fun e w' => e = .returned (.bool r.isEmpty) ∧ ∃ n, w' = w.drewN n := by
 obtain ⟨i, h1, rfl, h3⟩ := h
 refine (ended_c b s i w h3).mono ?_
 rintro e w' ⟨rfl, h⟩
 refine ⟨retb ?_, h⟩
 rw [Bool.eq_iff_iff]
 simp
 omega
theorem slice_to (A : Option Addr) (n c k : Nat) (hk : k ≤ c) (w : World) : (Instr.slice 66 (.slice A n c) none (some (.int .i64 k)) none).run Tryz.prog w = .ok (.slice A k c) w := by
 have h1 : (Instr.sliceBounds true n c none (some (.int .i64 k)) none).run Tryz.prog w = .ok (0, k, c) w := by
  simp [Instr.sliceBounds, run_sliceBound, hk]
 have h2 : (sizeOf 5).run Tryz.prog w = .ok 1 w := by kernel_rfl
 unfold Instr.slice
 simp only [Sem.run_bind, run_underlying Tryz.underlying66, Result.andThen_ok, h1, h2, Sem.run_pure]
 have ha : ∀ x : Addr, x.add 0 = x := fun x => by simp [Addr.add]
 cases A with
 | none => simp
 | some x => simp; intro _; exact ha x
theorem BufO.stringTakeN {B : Nat} {w : World} {v : Value} {l : List UInt8} (h : BufO B w v l) {k : Nat} (hk : k ≤ l.length) : ∃ A c, v = .slice A l.length c ∧ l.length ≤ c ∧ ∀ q, (convert 66 9 (.slice A k c)).run Tryz.prog (w.drewN q) = .ok (.string ⟨(l.take k).toArray⟩) (w.drewN q) := by
 obtain ⟨A, c, rfl, hc, _⟩ := h.stringTake hk
 refine ⟨A, c, rfl, hc, fun q => ?_⟩
 obtain ⟨A', c', hv, _, hr⟩ := (h.drewN q).stringTake hk
 cases hv
 exact hr
theorem bufo_byteN {ops : Array Oper} {rest : List Oper} {o : Oper} {a : Act} {Q : Exit → Act → World → Prop} (hgd : o.guard = none) (s x : Operand) (ho : o.op = .call { callee := .builtin .append, args := #[s, x], argTypes := #[66, 66] })
  {v : Value} {l : List UInt8} {B N : Nat} {w0 : World} {c : UInt8} (hs : a.eval s = v) (hb : BufO B w0 v l)
  (hx : a.eval x = .slice (some ⟨N, 0, none⟩) 1 1) (hN : N = w0.heap.size) (hlen : l.length < 140737488355328)
  (h : ∀ v' w', BufO B w' v' (l ++ [c]) → w0.grownBy w' v.ownBlock → wpList Tryz.prog ops Q rest (a.put o.dst v') w') : wpList Tryz.prog ops Q (o :: rest) a (w0.alloc (.cells #[.int .u8 c.toNat] 5)) := by
 subst hN
 exact bufo_byte hgd s x ho hs hb hx hlen h
def valL : Nat → List UInt8 → List UInt8 → Nat → Option (List UInt8 × List UInt8)
 | _, [], acc, long => some (acc.take long, [])
 | 0, _ :: _, _, _ => none
 | n + 1, c :: t, acc, long =>
  if (c.toNat : Int) = 44 ∨ (c.toNat : Int) = 43 then some (acc.take long, c :: t)
  else if (c.toNat : Int) = 92 then match escR t with
   | none => none
   | some (x, t') => valL n t' (acc ++ [x]) (acc.length + 1)
  else if (c.toNat : Int) = 0 ∨ 0 ≤ Lib.indexByte specCs c then none
  else valL n t (acc ++ [c]) (if (c.toNat : Int) = 32 then long else acc.length + 1)
def valueR (r : List UInt8) : Option (List UInt8 × List UInt8) := if hd r 35 then hexR r.tail else valL r.length r [] 0
theorem escR_len {t t' : List UInt8} {x : UInt8} (h : escR t = some (x, t')) : t'.length < t.length := by
 cases t with
 | nil => cases h
 | cons c t =>
  rw [escR] at h
  split at h
  ·cases h; simp
  ·cases t with
   | nil => cases h
   | cons d t =>
    rw [esc2] at h
    split at h
    ·cases h
    ·cases h; simp; omega
theorem valL_fuel : ∀ (n m : Nat) (r acc : List UInt8) (long : Nat), r.length ≤ n → r.length ≤ m → valL n r acc long = valL m r acc long
 | _, _, [], _, _, _, _ => by simp [valL]
 | 0, _, _ :: _, _, _, h, _ => absurd h (by simp)
 | _, 0, _ :: _, _, _, _, h => absurd h (by simp)
 | n + 1, m + 1, c :: t, acc, long, h1, h2 => by
  simp only [List.length_cons] at h1 h2
  simp only [valL]
  split
  ·rfl
  ·split
   ·cases he : escR t with
    | none => rfl
    | some y =>
     obtain ⟨x, t'⟩ := y
     have := escR_len he
     exact valL_fuel n m t' _ _ (by omega) (by omega)
   ·split
    ·rfl
    ·exact valL_fuel n m t _ _ (by omega) (by omega)
theorem RdAt.cellsX {w : World} {b : Nat} {s t : List UInt8} {c : UInt8} (h : RdAt w b s (c :: t)) : ∃ i, ∃ hlt : i < s.length, s[i] = c ∧ s.drop (i + 1) = t ∧ Rd w b s i := by
 obtain ⟨i, h1, h2, h3⟩ := h
 have ⟨hlt, hdt⟩ := drop_succ h2
 refine ⟨i, hlt, ?_, hdt, h3⟩
 rw [List.drop_eq_getElem_cons hlt] at h2
 exact (List.cons.inj h2).1
set_option maxRecDepth 100000 in
theorem value_c (b : Nat) (s r : List UInt8) (w : World) (h : RdAt w b s r) (hs : s.length ≤ 65536) :
  Calls Tryz.prog 235 #[.pointer (some ⟨b, 0, none⟩)] w (RdRet w b s ((valueR r).map fun x => (.string ⟨x.1.toArray⟩, x.2))) := by
 have hI := is_at b s r 35 w h
 have hbw := h.lt
 have HR := Lib.hid h
 clear h
 cases h35 : hd r 35
 ·have hv : valueR r = valL r.length r [] 0 := by unfold valueR; rw [h35]; rfl
  rw [hv]
  rw [h35] at hI
  clear hv h35
  generalize hV : valL r.length r [] 0 = V
  have HV := Lib.hid hV
  clear hV
  go_enter Tryz.func235, Tryz.ntmps235
  go_wp2_with (go_at_call 209; refine hI.mono ?_; rintro e w1 ⟨rfl, n1, rfl⟩)
  go_loopg [3, 4] r.length (fun gk v lg wr => ∃ (r' acc : List UInt8) (long : Nat), r'.length ≤ gk ∧ lg = .int .i64 long ∧ long ≤ acc.length ∧ acc.length + r'.length ≤ s.length ∧ RdAt wr b s r' ∧ BufO w.heap.size wr v acc ∧ Aside (valL r'.length r' acc long = V) ∧ w.grownBy wr (some b))
  case atStart =>
   refine ⟨r, [], 0, Nat.le_refl _, rfl, Nat.le_refl _, ?_, HR.out, BufO.nil w, HV.out, grown_drewN _ _ _⟩
   obtain ⟨i, hi, hd', _⟩ := HR.out
   rw [← hd']; simp
  case round =>
   obtain ⟨r', acc, long, hlen, rfl, hlong, hacc, hRr, hbuf, AV, hg⟩ := hrel
   have hEn := fun w' (hR : RdAt w' b s r') => ended_at b s r' w' hR
   have hIs := fun c w' (hR : RdAt w' b s r') => is_at b s r' c w' hR
   cases r' with
   | nil =>
    obtain ⟨A, cp, rfl, hcp, hst⟩ := hbuf.stringTakeN hlong
    have hfin : some (acc.take long, []) = V := by have := AV.out; simpa [valL] using this
    have Hf := Lib.hid hfin
    have HRr := Lib.hid hRr
    have HEn := Lib.hid hEn
    have hsl := slice_to A acc.length cp long (by omega)
    clear hfin AV hRr hEn
    go_wp2_with (go_at_call 210; refine (HEn.out _ (by exact HRr.out)).mono ?_; rintro e w1 ⟨rfl, n2, rfl⟩)
    go_ret
    rw [← Hf.out]
    exact ⟨World.grownBy.trans hg (grown_drewN _ _ _), rfl, HRr.out⟩
   | cons c t =>
    simp only [List.length_cons] at hlen hacc
    obtain ⟨i, hlt, hsc, hdt, hRd⟩ := hRr.cellsX
    have hAV : valL (t.length + 1) (c :: t) acc long = V := AV.out
    rw [valL] at hAV
    have HAV := Lib.hid hAV
    have HRr := Lib.hid hRr
    have HEn := Lib.hid hEn
    have HIs := Lib.hid hIs
    have HRd := Lib.hid hRd
    clear AV hAV hRr hEn hIs
    have h44d : hd (c :: t) 44 = decide ((c.toNat : Int) = 44) := by
     show ((c.toNat : Int) == 44) = _
     rw [Bool.eq_iff_iff]; simp
    have h43d : hd (c :: t) 43 = decide ((c.toNat : Int) = 43) := by
     show ((c.toNat : Int) == 43) = _
     rw [Bool.eq_iff_iff]; simp
    by_cases h44 : (c.toNat : Int) = 44
    ·obtain ⟨A, cp, rfl, hcp, hst⟩ := hbuf.stringTakeN hlong
     have hfin : some (acc.take long, c :: t) = V := by rw [← HAV.out, if_pos (.inl h44)]
     have Hf := Lib.hid hfin
     rw [decide_eq_true h44] at h44d
     have H44 := Lib.hid h44d
     have hsl := slice_to A acc.length cp long (by omega)
     clear hfin h44d h43d h44 hRd hdt hsc
     go_wp2_with (first | (go_at_call 210; refine (HEn.out _ (by exact HRr.out)).mono ?_; rintro e w1 ⟨rfl, n2, rfl⟩) | (go_at_call 209; refine (HIs.out _ _ (by exact HRr.out)).mono ?_; rintro e w1 ⟨rfl, n2, rfl⟩; rw [H44.out]))
     go_ret
     rw [← Hf.out]
     exact ⟨World.grownBy.trans hg (grown_drewN _ _ _), rfl, HRr.out⟩
    ·rw [decide_eq_false h44] at h44d
     have H44 := Lib.hid h44d
     clear h44d
     by_cases h43 : (c.toNat : Int) = 43
     ·obtain ⟨A, cp, rfl, hcp, hst⟩ := hbuf.stringTakeN hlong
      have hfin : some (acc.take long, c :: t) = V := by rw [← HAV.out, if_pos (.inr h43)]
      have Hf := Lib.hid hfin
      rw [decide_eq_true h43] at h43d
      have H43 := Lib.hid h43d
      have hsl := slice_to A acc.length cp long (by omega)
      clear hfin h43d h44 h43 hRd hdt hsc
      go_wp2_with (first | (go_at_call 210; refine (HEn.out _ (by exact HRr.out)).mono ?_; rintro e w1 ⟨rfl, n2, rfl⟩) | (go_at_call 209; refine (HIs.out _ _ (by exact HRr.out)).mono ?_; rintro e w1 ⟨rfl, n2, rfl⟩; first | rw [H44.out] | rw [H43.out]))
      go_ret
      rw [← Hf.out]
      exact ⟨World.grownBy.trans hg (grown_drewN _ _ _), rfl, HRr.out⟩
     ·rw [decide_eq_false h43] at h43d
      have H43 := Lib.hid h43d
      have hAV2 := HAV.out
      rw [if_neg (fun h => h.elim h44 h43)] at hAV2
      have HAV2 := Lib.hid hAV2
      subst hsc
      have c0 := hRd.c0
      have c1 := hRd.c1
      have f1 := hRd.f1
      have hget := ba_get
      have hi0 : (0 : Int) ≤ (i : Int) := by omega
      have hi1 : (i : Int) < (s.length : Int) := by omega
      have HDT := Lib.hid hdt
      clear h43d hAV2 h44 h43 hRd hdt HAV
      by_cases h92 : (s[i].toNat : Int) = 92
      ·have h92' : ((s[i].toNat : Int) == 92) = true := by simp [h92]
       have hE := fun w' (hR : RdAt w' b s (s[i] :: t)) => escape_c b s t s[i] w' hR hs
       have hAV3 := HAV2.out
       rw [if_pos h92] at hAV3
       rcases hesc : escR t with _ | ⟨x, t'⟩
       ·rw [hesc] at hE hAV3
        have HE := Lib.hid hE
        have Hf := Lib.hid hAV3
        clear hE hAV3 HAV2 h92
        go_wp2_with (first | (go_at_call 210; refine (HEn.out _ (by exact HRr.out)).mono ?_; rintro e w1 ⟨rfl, n2, rfl⟩) | (go_at_call 209; refine (HIs.out _ _ (by exact HRr.out)).mono ?_; rintro e w1 ⟨rfl, n2, rfl⟩; first | rw [H44.out] | rw [H43.out]))
        go_quiet (fail)
        go_wp2_with (go_at_call 243; refine (HE.out _ (by exact HRr.out)).mono ?_; rintro e w3 ⟨hg3, rfl⟩)
        refine ⟨rfl, ?_⟩
        rw [← Hf.out]
        exact ⟨World.grownBy.trans hg (World.grownBy.trans (grown_drewN _ _ _) hg3), rfl⟩
       ·have hel := escR_len hesc
        rw [hesc] at hE hAV3
        have hAV4 : valL t'.length t' (acc ++ [x]) (acc.length + 1) = V := by
         rw [← hAV3]
         exact valL_fuel _ _ _ _ _ (Nat.le_refl _) (by omega)
        have HE := Lib.hid hE
        have Hf := Lib.hid hAV4
        clear hE hAV3 hAV4 HAV2 h92 hesc
        go_wp2_with (first | (go_at_call 210; refine (HEn.out _ (by exact HRr.out)).mono ?_; rintro e w1 ⟨rfl, n2, rfl⟩) | (go_at_call 209; refine (HIs.out _ _ (by exact HRr.out)).mono ?_; rintro e w1 ⟨rfl, n2, rfl⟩; first | rw [H44.out] | rw [H43.out]))
        go_quiet (fail)
        go_wp2_with (first | (go_at_call 243; refine (HE.out _ (by exact HRr.out)).mono ?_; rintro e w3 ⟨hg3, rfl, hR3⟩; have hb3 := (hbuf.drewN _).keep hg3 (fun k hk => by cases hk; exact hbw)) | (at_builtin; refine bufo_byte rfl _ _ rfl rfl hb3 rfl (by omega) ?_; intro v' w4 hb4 hg4; obtain ⟨A4, cp4, rfl, hcp4⟩ := row_len hb4.1))
        go_roundg t'.length
        case measure => omega
        case rel =>
         obtain ⟨j, hj1, hj2, hj3⟩ := hR3
         exact ⟨t', acc ++ [x], acc.length + 1, Nat.le_refl _, by simp, by simp, by simp; omega, ⟨j, hj1, hj2, hb3.rd hg4 hbw hj3⟩, by simpa using hb4, Hf.out, hb3.grown (World.grownBy.trans hg (World.grownBy.trans (grown_drewN _ _ _) hg3)) hg4⟩
      ·have h92' : ((s[i].toNat : Int) == 92) = false := by simp [h92]
       have hAV3 := HAV2.out
       rw [if_neg h92] at hAV3
       have hIB := fun w => IndexByte_c specCs s[i] w
       have HIB := Lib.hid hIB
       clear h92 HAV2 hIB
       by_cases hz : (s[i].toNat : Int) = 0
       ·have hz' : ((s[i].toNat : Int) == 0) = true := beq_iff_eq.2 hz
        rw [if_pos (.inl hz)] at hAV3
        have Hf := Lib.hid hAV3
        clear hAV3 hz
        go_wp2_with (first | (go_at_call 210; refine (HEn.out _ (by exact HRr.out)).mono ?_; rintro e w1 ⟨rfl, n2, rfl⟩) | (go_at_call 209; refine (HIs.out _ _ (by exact HRr.out)).mono ?_; rintro e w1 ⟨rfl, n2, rfl⟩; first | rw [H44.out] | rw [H43.out]))
        go_quiet (fail)
        go_wp2_with fail
        refine ⟨rfl, ?_⟩
        rw [← Hf.out]
        exact ⟨World.grownBy.trans hg (grown_drewN _ _ _), rfl⟩
       ·have hz' : ((s[i].toNat : Int) == 0) = false := beq_eq_false_iff_ne.2 hz
        by_cases hsp : 0 ≤ Lib.indexByte specCs s[i]
        ·rw [if_pos (.inr hsp)] at hAV3
         have Hf := Lib.hid hAV3
         clear hAV3 hz
         go_wp2_with (first | (go_at_call 210; refine (HEn.out _ (by exact HRr.out)).mono ?_; rintro e w1 ⟨rfl, n2, rfl⟩) | (go_at_call 209; refine (HIs.out _ _ (by exact HRr.out)).mono ?_; rintro e w1 ⟨rfl, n2, rfl⟩; first | rw [H44.out] | rw [H43.out]))
         go_quiet (fail)
         go_wp2_with (go_at_call 28; refine (HIB.out _).mono ?_; rintro e w3 ⟨rfl, rfl⟩)
         refine ⟨rfl, ?_⟩
         rw [← Hf.out]
         exact ⟨World.grownBy.trans hg (grown_drewN _ _ _), rfl⟩
        ·rw [if_neg (fun h => h.elim hz hsp)] at hAV3
         have hsp' : Lib.indexByte specCs s[i] < 0 := by omega
         clear hz hsp
         by_cases h32 : (s[i].toNat : Int) = 32
         ·have h32' : ((s[i].toNat : Int) != 32) = false := bne_eq_false_iff_eq.2 h32
          rw [if_pos h32] at hAV3
          have Hf := Lib.hid hAV3
          clear hAV3 h32
          go_wp2_with (first | (go_at_call 210; refine (HEn.out _ (by exact HRr.out)).mono ?_; rintro e w1 ⟨rfl, n2, rfl⟩) | (go_at_call 209; refine (HIs.out _ _ (by exact HRr.out)).mono ?_; rintro e w1 ⟨rfl, n2, rfl⟩; first | rw [H44.out] | rw [H43.out]))
          go_quiet (fail)
          go_wp2_with (first | (go_at_call 28; refine (HIB.out _).mono ?_; rintro e w3 ⟨rfl, rfl⟩) | (at_builtin; refine bufo_byteN rfl _ _ rfl rfl (hbuf.keep (World.grownBy.trans (grown_drewN _ _ _) (grown_set _)) (fun k hk => by cases hk; exact hbw)) rfl (by simp [World.setCell]) (by omega) ?_; intro v' w4 hb4 hg4; obtain ⟨A4, cp4, rfl, hcp4⟩ := row_len hb4.1))
          go_roundg t.length
          case measure => omega
          case rel =>
           refine ⟨t, acc ++ [s[i]], long, Nat.le_refl _, by simp, by simp; try omega, by simp; omega, ⟨i + 1, by omega, HDT.out, ?_⟩, by simpa using hb4, Hf.out, ?_⟩
           ·exact (hbuf.keep (World.grownBy.trans (grown_drewN _ _ _) (grown_set _)) (fun k hk => by cases hk; exact hbw)).rd hg4 hbw ((HRd.out.drewN _).set (i + 1))
           ·exact (hbuf.keep (World.grownBy.trans (grown_drewN _ _ _) (grown_set _)) (fun k hk => by cases hk; exact hbw)).grown (World.grownBy.trans hg (World.grownBy.trans (grown_drewN _ _ _) (grown_set _))) hg4
         ·have h32' : ((s[i].toNat : Int) != 32) = true := bne_iff_ne.2 h32
          rw [if_neg h32] at hAV3
          have Hf := Lib.hid hAV3
          clear hAV3 h32
          go_wp2_with (first | (go_at_call 210; refine (HEn.out _ (by exact HRr.out)).mono ?_; rintro e w1 ⟨rfl, n2, rfl⟩) | (go_at_call 209; refine (HIs.out _ _ (by exact HRr.out)).mono ?_; rintro e w1 ⟨rfl, n2, rfl⟩; first | rw [H44.out] | rw [H43.out]))
          go_quiet (fail)
          go_wp2_with (first | (go_at_call 28; refine (HIB.out _).mono ?_; rintro e w3 ⟨rfl, rfl⟩) | (at_builtin; refine bufo_byteN rfl _ _ rfl rfl (hbuf.keep (World.grownBy.trans (grown_drewN _ _ _) (grown_set _)) (fun k hk => by cases hk; exact hbw)) rfl (by simp [World.setCell]) (by omega) ?_; intro v' w4 hb4 hg4; obtain ⟨A4, cp4, rfl, hcp4⟩ := row_len hb4.1))
          go_roundg t.length
          case measure => omega
          case rel =>
           refine ⟨t, acc ++ [s[i]], acc.length + 1, Nat.le_refl _, by simp, by simp; try omega, by simp; omega, ⟨i + 1, by omega, HDT.out, ?_⟩, by simpa using hb4, Hf.out, ?_⟩
           ·exact (hbuf.keep (World.grownBy.trans (grown_drewN _ _ _) (grown_set _)) (fun k hk => by cases hk; exact hbw)).rd hg4 hbw ((HRd.out.drewN _).set (i + 1))
           ·exact (hbuf.keep (World.grownBy.trans (grown_drewN _ _ _) (grown_set _)) (fun k hk => by cases hk; exact hbw)).grown (World.grownBy.trans hg (World.grownBy.trans (grown_drewN _ _ _) (grown_set _))) hg4
 ·have hv : valueR r = hexR r.tail := by unfold valueR; rw [h35]; rfl
  rw [hv]
  rw [h35] at hI
  obtain ⟨c, t, rfl⟩ : ∃ c t, r = c :: t := by
   cases r with
   | nil => cases h35
   | cons c t => exact ⟨c, t, rfl⟩
  have hH := fun w' (hR : RdAt w' b s (c :: t)) => hex_c b s t c w' hR hs
  simp only [List.tail_cons]
  rcases hhx : hexR t with _ | y
  ·rw [hhx] at hH
   have HH := Lib.hid hH
   clear hH hv h35 hhx
   go_enter Tryz.func235, Tryz.ntmps235
   go_wp2_with (first | (go_at_call 209; refine hI.mono ?_; rintro e w1 ⟨rfl, n1, rfl⟩) | (go_at_call 242; refine (HH.out _ (by exact HR.out)).mono ?_; rintro e w3 ⟨hg3, rfl⟩))
   exact ⟨rfl, World.grownBy.trans (grown_drewN _ _ _) hg3, rfl⟩
  ·rw [hhx] at hH
   have HH := Lib.hid hH
   clear hH hv h35 hhx
   go_enter Tryz.func235, Tryz.ntmps235
   go_wp2_with (first | (go_at_call 209; refine hI.mono ?_; rintro e w1 ⟨rfl, n1, rfl⟩) | (go_at_call 242; refine (HH.out _ (by exact HR.out)).mono ?_; rintro e w3 ⟨hg3, rfl, hR3⟩))
   go_ret
   exact ⟨World.grownBy.trans (grown_drewN _ _ _) hg3, rfl, hR3⟩
open Go.RowKit
def Off (b : Nat) : Prop := b ≠ 1 ∧ b ≠ 2 ∧ b ≠ 0
theorem Env.grown {w W : World} {b : Nat} (h : Env w) (hb : Off b) (hg : w.grownBy W (some b)) : Env W := by
 obtain ⟨⟨h1, h2⟩, m, hm⟩ := h
 obtain ⟨b1, b2, b3⟩ := hb
 refine ⟨⟨fun c hc => hg.cell (h1 c hc) (by simpa using b1.symm), fun i hi => ⟨hg.cell (h2 i hi).1 (by simpa using b2.symm), hg.cell (h2 i hi).2 (by simpa using b2.symm)⟩⟩, m, hg.cell hm (by simpa using b3.symm)⟩
def Bk (w : World) (g : Nat) (t : TypeId) (cs : Array Value) : Prop := w.heap[g]? = some (.cells cs t (0, 0))
theorem Bk.lt {w : World} {g : Nat} {t : TypeId} {cs : Array Value} (h : Bk w g t cs) : g < w.heap.size := (Array.getElem?_eq_some_iff.1 h).1
theorem Bk.cell {w : World} {g : Nat} {t : TypeId} {cs : Array Value} (h : Bk w g t cs) (i : Nat) : w.cell? ⟨g, i, none⟩ = cs[i]? := by unfold Bk at h; simp [World.cell?, h]
theorem Bk.frozen {w : World} {g : Nat} {t : TypeId} {cs : Array Value} (h : Bk w g t cs) (i : Nat) : w.frozen? ⟨g, i, none⟩ = false := by unfold Bk at h; simp [World.frozen?, h]
theorem Bk.new (w : World) (t : TypeId) (cs : Array Value) : Bk (w.alloc (.cells cs t)) w.heap.size t cs := heap_alloc_new w _
theorem Bk.grown {w w' : World} {g : Nat} {t : TypeId} {cs : Array Value} {r : Option Nat} (h : Bk w g t cs) (hg : w.grownBy w' r) (hne : some g ≠ r) : Bk w' g t cs := (hg.block g h.lt hne).trans h
theorem Bk.below {w w' : World} {g : Nat} {t : TypeId} {cs : Array Value} (h : Bk w g t cs) (hb : Below w.heap.size w w') : Bk w' g t cs := (hb.block g h.lt).trans h
theorem Bk.alloc {w : World} {g : Nat} {t : TypeId} {cs : Array Value} (h : Bk w g t cs) (o : Obj) : Bk (w.alloc o) g t cs := h.grown (World.grownBy_alloc w o none) (by simp)
theorem Bk.drewN {w : World} {g : Nat} {t : TypeId} {cs : Array Value} (h : Bk w g t cs) (n : Nat) : Bk (w.drewN n) g t cs := h
theorem Bk.set {w : World} {g : Nat} {t : TypeId} {cs : Array Value} (h : Bk w g t cs) (i : Nat) (u : Value) : Bk (w.setCell ⟨g, i, none⟩ u) g t (cs.setIfInBounds i u) := by
 unfold Bk at h ⊢
 simp [World.setCell, Array.getElem?_modify, h]
theorem Bk.far {w : World} {g g' i : Nat} {t : TypeId} {cs : Array Value} (h : Bk w g t cs) (hne : g ≠ g') (u : Value) : Bk (w.setCell ⟨g', i, none⟩ u) g t cs := (Below.heap_setCell w _ u g hne).trans h
theorem RdAt.grown {w w' : World} {b : Nat} {s r : List UInt8} {k : Option Nat} (h : RdAt w b s r) (hg : w.grownBy w' k) (hne : some b ≠ k) : RdAt w' b s r := by
 obtain ⟨i, h1, h2, h3⟩ := h
 exact ⟨i, h1, h2, (hg.block b h3.lt hne).trans h3⟩
theorem RdAt.next {w : World} {b : Nat} {s t : List UInt8} {c : UInt8} (h : RdAt w b s (c :: t)) : ∃ i : Nat, i < s.length ∧ w.cell? ⟨b, 1, none⟩ = some (.int .i64 i) ∧ w.frozen? ⟨b, 1, none⟩ = false ∧ RdAt (w.setCell ⟨b, 1, none⟩ (.int .i64 ((i : Int) + 1))) b s t := by
 obtain ⟨i, h1, h2, h3⟩ := h
 have ⟨hlt, hdt⟩ := drop_succ h2
 exact ⟨i, hlt, h3.c1, h3.f1, i + 1, by omega, hdt, h3.set (i + 1)⟩
theorem grown_own {w w1 w2 : World} {b g : Nat} (h : w.grownBy w1 (some b)) (hg : w1.grownBy w2 (some g)) (hge : w.heap.size ≤ g) : w.grownBy w2 (some b) :=
 ⟨hg.os.trans h.os, hg.tape.trans h.tape, hg.output.trans h.output, Nat.le_trans h.size hg.size, fun k hk hne => by
  rw [hg.block k (Nat.lt_of_lt_of_le hk h.size) (by intro e; cases e; omega)]
  exact h.block k hk hne⟩
def blk (r : List UInt8) : List UInt8 := r.dropWhile (· == 32)
def pairR (r : List UInt8) : Option ((List UInt8 × List UInt8) × List UInt8) :=
 match typR (blk r) with
 | none => none
 | some (t, r2) => if hd (blk r2) 61 then (match valueR (blk (blk r2).tail) with
   | none => none
   | some (v, r5) => some ((t, v), blk r5)) else none
def avaV (x : List UInt8 × List UInt8) : Value := .agg #[.string ⟨x.1.toArray⟩, .string ⟨x.2.toArray⟩]
set_option maxRecDepth 100000 in
theorem pair_c (b : Nat) (s r : List UInt8) (w : World) (hw : Env w) (hO : Off b) (h : RdAt w b s r) (hs : s.length ≤ 65536) :
  Calls Tryz.prog 220 #[.pointer (some ⟨b, 0, none⟩)] w (RdRet w b s ((pairR r).map fun x => (avaV x.1, x.2))) := by
 have hbw := h.lt
 have HR := Lib.hid h
 clear h
 have hz : (zeroValue 212).run Tryz.prog w = .ok (.agg #[.string ⟨#[]⟩, .string ⟨#[]⟩]) w := by kernel_rfl
 go_enter Tryz.func220, Tryz.ntmps220
 go_wp2_with fail
 have e0 : Env ((w.alloc (.cells #[.string ⟨#[]⟩, .string ⟨#[]⟩] 212)).alloc (.cells #[.string ⟨#[]⟩, .string ⟨#[]⟩] 212)) := (hw.keep ((Below.refl _ _).alloc (Nat.le_refl _) _)).keep ((Below.refl _ _).alloc (Nat.le_refl _) _)
 have k0 : Bk ((w.alloc (.cells #[.string ⟨#[]⟩, .string ⟨#[]⟩] 212)).alloc (.cells #[.string ⟨#[]⟩, .string ⟨#[]⟩] 212)) w.heap.size 212 #[.string ⟨#[]⟩, .string ⟨#[]⟩] := (Bk.new w _ _).alloc _
 have k1 : Bk ((w.alloc (.cells #[.string ⟨#[]⟩, .string ⟨#[]⟩] 212)).alloc (.cells #[.string ⟨#[]⟩, .string ⟨#[]⟩] 212)) (w.heap.size + 1) 212 #[.string ⟨#[]⟩, .string ⟨#[]⟩] := by
  have := Bk.new (w.alloc (.cells #[.string ⟨#[]⟩, .string ⟨#[]⟩] 212)) 212 #[.string ⟨#[]⟩, .string ⟨#[]⟩]
  rwa [World.size_alloc] at this
 have g0 : w.grownBy ((w.alloc (.cells #[.string ⟨#[]⟩, .string ⟨#[]⟩] 212)).alloc (.cells #[.string ⟨#[]⟩, .string ⟨#[]⟩] 212)) (some b) := World.grownBy.trans (World.grownBy_alloc _ _ _) (World.grownBy_alloc _ _ _)
 have r0 : RdAt ((w.alloc (.cells #[.string ⟨#[]⟩, .string ⟨#[]⟩] 212)).alloc (.cells #[.string ⟨#[]⟩, .string ⟨#[]⟩] 212)) b s r := (HR.out.below ((Below.refl _ _).alloc (Nat.le_refl _) _)).below ((Below.refl _ _).alloc (Nat.le_refl _) _)
 generalize (w.alloc (.cells #[.string ⟨#[]⟩, .string ⟨#[]⟩] 212)).alloc (.cells #[.string ⟨#[]⟩, .string ⟨#[]⟩] 212) = W0 at *
 have hn0 : some w.heap.size ≠ some b := by simp; omega
 have hn1 : some (w.heap.size + 1) ≠ some b := by simp; omega
 clear hz
 refine (blanks_c b s r W0 r0 (by omega)).mono ?_
 rintro e W1 ⟨rfl, r1, h1⟩
 have e1 := e0.grown hO h1
 have g1 := World.grownBy.trans g0 h1
 have K0 := Lib.hid (k0.grown h1 hn0)
 have K1 := Lib.hid (k1.grown h1 hn1)
 clear e0 g0 k0 k1 r0 h1 HR
 have hT := typ_c b s (blk r) W1 e1 r1 hs (fun W hg => e1.grown hO hg)
 rcases hty : typR (blk r) with _ | ⟨t, r2⟩
 ·have hp : pairR r = none := by unfold pairR; rw [hty]
  rw [hty] at hT
  have Hp := Lib.hid hp
  clear hp hty
  go_wp2_with fail
  refine hT.mono ?_
  rintro e W2 ⟨h2, rfl⟩
  refine ⟨rfl, ?_⟩
  rw [Hp.out]
  exact ⟨World.grownBy.trans g1 h2, rfl⟩
 ·rw [hty] at hT
  have HTy := Lib.hid hty
  clear hty
  go_wp2_with fail
  refine hT.mono ?_
  rintro e W2 ⟨h2, rfl, r2'⟩
  have e2 := e1.grown hO h2
  have g2 := World.grownBy.trans g1 h2
  have k0 := K0.out.grown h2 hn0
  have k1 := K1.out.grown h2 hn1
  have c10 := k1.cell 0
  have c11 := k1.cell 1
  have f10 := k1.frozen 0
  simp at c10 c11
  clear hT e1 g1 r1 K0 K1 h2
  have K0 := Lib.hid k0
  have K1 := Lib.hid k1
  clear k0 k1
  go_wp2_with fail
  have k0 := K0.out.far (g' := w.heap.size + 1) (i := 0) (by omega) (.string ⟨t.toArray⟩)
  have k1 := K1.out.set 0 (.string ⟨t.toArray⟩)
  have g3 : w.grownBy (W2.setCell ⟨w.heap.size + 1, 0, none⟩ (.string ⟨t.toArray⟩)) (some b) := grown_own g2 (grown_set _) (by omega)
  have hgs : W2.grownBy (W2.setCell ⟨w.heap.size + 1, 0, none⟩ (.string ⟨t.toArray⟩)) (some (w.heap.size + 1)) := grown_set _
  have e3 : Env (W2.setCell ⟨w.heap.size + 1, 0, none⟩ (.string ⟨t.toArray⟩)) := hw.grown hO g3
  have r3 := r2'.grown hgs (Ne.symm hn1)
  generalize W2.setCell ⟨w.heap.size + 1, 0, none⟩ (.string ⟨t.toArray⟩) = W3 at *
  refine (blanks_c b s r2 W3 r3 (by omega)).mono ?_
  rintro e W4 ⟨rfl, r4, h4⟩
  have g4 := World.grownBy.trans g3 h4
  have K0 := Lib.hid (k0.grown h4 hn0)
  have K1 := Lib.hid (k1.grown h4 hn1)
  clear c10 c11 f10 r2' r3 g2 g3 e2 e3 h4 k0 k1 hgs
  have hI := is_at b s (blk r2) 61 W4 r4
  cases h61 : hd (blk r2) 61
  ·have hp : pairR r = none := by unfold pairR; rw [HTy.out]; dsimp only; rw [h61]; rfl
   rw [h61] at hI
   have Hp := Lib.hid hp
   clear hp h61
   go_wp2_with fail
   refine hI.mono ?_
   rintro e W5 ⟨rfl, n5, rfl⟩
   go_wp2_with fail
   refine ⟨rfl, ?_⟩
   rw [Hp.out]
   exact ⟨World.grownBy.trans g4 (grown_drewN _ _ _), rfl⟩
  ·rw [h61] at hI
   obtain ⟨c, r3, hr3⟩ : ∃ c t, blk r2 = c :: t := by
    cases hb : blk r2 with
    | nil => rw [hb] at h61; cases h61
    | cons c t => exact ⟨c, t, rfl⟩
   have HR3 := Lib.hid hr3
   have H61 := Lib.hid h61
   have r4' : RdAt W4 b s (c :: r3) := by rw [← hr3]; exact r4
   clear hr3 h61 r4
   go_wp2_with fail
   refine hI.mono ?_
   rintro e W5 ⟨rfl, n5, rfl⟩
   obtain ⟨i, hi, c1, f1, r5⟩ := (r4'.drewN n5).next
   have c1' : W4.cell? ⟨b, 1, none⟩ = some (.int .i64 i) := c1
   have f1' : W4.frozen? ⟨b, 1, none⟩ = false := f1
   clear c1 f1
   go_wp2_with fail
   have g5 : w.grownBy ((W4.drewN n5).setCell ⟨b, 1, none⟩ (.int .i64 ((i : Int) + 1))) (some b) := World.grownBy.trans g4 (World.grownBy.trans (grown_drewN _ _ _) (grown_set _))
   have k0 := (K0.out.drewN n5).grown (grown_set (b := b) (o := 1) (.int .i64 ((i : Int) + 1))) hn0
   have k1 := (K1.out.drewN n5).grown (grown_set (b := b) (o := 1) (.int .i64 ((i : Int) + 1))) hn1
   have hEQ : (W4.setCell ⟨b, 1, none⟩ (.int .i64 ((i : Int) + 1))).drewN n5 = (W4.drewN n5).setCell ⟨b, 1, none⟩ (.int .i64 ((i : Int) + 1)) := rfl
   try rw [hEQ]
   clear hEQ
   generalize (W4.drewN n5).setCell ⟨b, 1, none⟩ (.int .i64 ((i : Int) + 1)) = W6 at *
   refine (blanks_c b s r3 W6 r5 (by omega)).mono ?_
   rintro e W7 ⟨rfl, r7, h7⟩
   have g7 := World.grownBy.trans g5 h7
   have K0 := Lib.hid (k0.grown h7 hn0)
   have K1 := Lib.hid (k1.grown h7 hn1)
   clear c1' f1' k0 k1 r5 g4 g5 h7 hI r4'
   have hV := value_c b s (blk r3) W7 r7 hs
   rcases hva : valueR (blk r3) with _ | ⟨v, r8⟩
   ·have hp : pairR r = none := by unfold pairR; rw [HTy.out]; dsimp only; rw [H61.out, if_pos rfl, HR3.out]; simp only [List.tail_cons]; rw [hva]
    rw [hva] at hV
    have Hp := Lib.hid hp
    clear hp hva
    go_wp2_with fail
    refine hV.mono ?_
    rintro e W8 ⟨h8, rfl⟩
    refine ⟨rfl, ?_⟩
    rw [Hp.out]
    exact ⟨World.grownBy.trans g7 h8, rfl⟩
   ·have hp : pairR r = some ((t, v), blk r8) := by unfold pairR; rw [HTy.out]; dsimp only; rw [H61.out, if_pos rfl, HR3.out]; simp only [List.tail_cons]; rw [hva]
    rw [hva] at hV
    have Hp := Lib.hid hp
    clear hp hva
    go_wp2_with fail
    refine hV.mono ?_
    rintro e W8 ⟨h8, rfl, r8'⟩
    have g8 := World.grownBy.trans g7 h8
    have k0 := K0.out.grown h8 hn0
    have k1 := K1.out.grown h8 hn1
    have c10 := k1.cell 0
    have c11 := k1.cell 1
    have f11 := k1.frozen 1
    simp at c10 c11
    have K0 := Lib.hid k0
    have K1 := Lib.hid k1
    clear hV g7 r7 h8 k0 k1
    go_wp2_with fail
    have k0 := K0.out.far (g' := w.heap.size + 1) (i := 1) (by omega) (.string ⟨v.toArray⟩)
    have k1 := K1.out.set 1 (.string ⟨v.toArray⟩)
    have g9 : w.grownBy (W8.setCell ⟨w.heap.size + 1, 1, none⟩ (.string ⟨v.toArray⟩)) (some b) := grown_own g8 (grown_set _) (by omega)
    have hgs : W8.grownBy (W8.setCell ⟨w.heap.size + 1, 1, none⟩ (.string ⟨v.toArray⟩)) (some (w.heap.size + 1)) := grown_set _
    have r9 := r8'.grown hgs (Ne.symm hn1)
    generalize W8.setCell ⟨w.heap.size + 1, 1, none⟩ (.string ⟨v.toArray⟩) = W9 at *
    refine (blanks_c b s r8 W9 r9 (by omega)).mono ?_
    rintro e W10 ⟨rfl, r10, h10⟩
    have g10 := World.grownBy.trans g9 h10
    have k0 := k0.grown h10 hn0
    have k1 := k1.grown h10 hn1
    clear c10 c11 f11 hgs
    have c10 := k1.cell 0
    have c11 := k1.cell 1
    have c00 := k0.cell 0
    have c01 := k0.cell 1
    have f00 := k0.frozen 0
    have f01 := k0.frozen 1
    simp at c10 c11 c00 c01
    have K0 := Lib.hid k0
    clear k0 k1 g8 g9 r8' r9 h10
    go_wp2_with fail
    have hs1 : W10.grownBy (W10.setCell ⟨w.heap.size, 0, none⟩ (.string ⟨t.toArray⟩)) (some w.heap.size) := grown_set _
    have hs2 : (W10.setCell ⟨w.heap.size, 0, none⟩ (.string ⟨t.toArray⟩)).grownBy ((W10.setCell ⟨w.heap.size, 0, none⟩ (.string ⟨t.toArray⟩)).setCell ⟨w.heap.size, 1, none⟩ (.string ⟨v.toArray⟩)) (some w.heap.size) := grown_set _
    have kf := (K0.out.set 0 (.string ⟨t.toArray⟩)).set 1 (.string ⟨v.toArray⟩)
    have cf0 := kf.cell 0
    have cf1 := kf.cell 1
    simp at cf0 cf1
    refine bodyPost_ret (v := .agg #[.string ⟨t.toArray⟩, .string ⟨v.toArray⟩]) (by simp [results, Tryz.results220, go_sem, cf0, cf1]) rfl ?_
    rw [Hp.out]
    exact ⟨grown_own (grown_own g10 hs1 (Nat.le_refl _)) hs2 (Nat.le_refl _), rfl, (r10.grown hs1 (Ne.symm hn0)).grown hs2 (Ne.symm hn0)⟩
end Go.Proofs.YtconnibnpckadaaGreatDoor
