import Derived.Test.YtconnibnpckadaaGreatDoorW81
set_option linter.all false
set_option maxHeartbeats 8000000
set_option maxRecDepth 100000
namespace Go.Proofs.YtconnibnpckadaaGreatDoor
open Go.RowKit
theorem sl_from (s : List UInt8) (k : Nat) (hk : k ≤ s.length) (W : World) : (Instr.slice 9 (.string ⟨s.toArray⟩) (some (.int .i64 (k : Int))) none none).run Tryz.prog W = .ok (.string ⟨(s.drop k).toArray⟩) W := by
 rw [run_slice_string_from_if W 9 ⟨s.toArray⟩ .i64 (k : Int) Tryz.underlying9, if_pos ⟨by omega, by simp [ByteArray.size]; omega⟩, ByteArray.extract_mk]
 congr 3
 rw [Int.toNat_natCast, List.take_of_length_le]
 simp [ByteArray.size]
theorem sl_to (s : List UInt8) (k : Nat) (hk : k ≤ s.length) (W : World) : (Instr.slice 9 (.string ⟨s.toArray⟩) none (some (.int .i64 (k : Int))) none).run Tryz.prog W = .ok (.string ⟨(s.take k).toArray⟩) W := by
 rw [run_slice_string_to_if W 9 ⟨s.toArray⟩ .i64 (k : Int) Tryz.underlying9, if_pos ⟨by omega, by simp [ByteArray.size]; omega⟩, ByteArray.extract_mk]
 simp
def filPanic : List PanicEntry := [{ v := .iface 24 (.int .i64 60), recovered := false }]
def takeF (c : UInt8) : List UInt8 → Option (List UInt8)
 | [] => none
 | x :: t => if x = c then some t else none
set_option maxRecDepth 100000 in
theorem take_c (N p : Nat) (c : UInt8) (s : List UInt8) (v : Value) (qs : List FilQ) (w : World) (h : RdF N p w s v qs) :
  Calls Tryz.prog 27 #[.pointer (some ⟨p, 0, none⟩), .int .u8 c.toNat] w fun e w' => w.grownBy w' (some p) ∧ match takeF c s with
   | some t => e = .returned (.tuple #[]) ∧ RdF N p w' t v qs
   | none => e = .panicked filPanic := by
 obtain ⟨R, hR⟩ : ∃ R, takeF c s = R := ⟨_, rfl⟩
 rw [hR]
 obtain ⟨c0, c1, f0, f1⟩ := h.cells
 have HR := Lib.hid h
 have hget := ba_get
 clear h
 cases s with
 | nil =>
  subst hR
  go_enter Tryz.func27, Tryz.ntmps27
  go_wp2_with fail
  refine ⟨rfl, ?_⟩
  exact ⟨World.grownBy.refl _ _, rfl⟩
 | cons x t =>
  have hsl : ∀ W : World, (Instr.slice 9 (.string ⟨(x :: t).toArray⟩) (some (.int .i64 1)) none none).run Tryz.prog W = .ok (.string ⟨t.toArray⟩) W := fun W => sl_from (x :: t) 1 (by simp) W
  by_cases hx : x = c
  ·subst hx
   have hR2 : R = some t := by rw [← hR]; exact if_pos rfl
   subst hR2
   have hs := HR.out.setS t
   clear hR
   go_enter Tryz.func27, Tryz.ntmps27
   go_wp2_with fail
   go_end0
   exact ⟨setCell_grown _ _ _ _, rfl, hs.1⟩
  ·have hR2 : R = none := by rw [← hR]; exact if_neg hx
   subst hR2
   have hxn : ((x.toNat : Int) != (c.toNat : Int)) = true := by
    rw [bne_iff_ne]
    intro e
    exact hx (UInt8.toNat_inj.1 (Int.ofNat.inj e))
   clear hR
   go_enter Tryz.func27, Tryz.ntmps27
   go_wp2_with fail
   refine ⟨rfl, ?_⟩
   exact ⟨World.grownBy.refl _ _, rfl⟩
open Go.RowKit
theorem cut_idx (c : UInt8) : decide (Lib.indexByte [61, 62, 60, 126, 40, 41] c < 0) = !Fil.isCut c := by
 have h : ∀ n : Fin 256, decide (Lib.indexByte [61, 62, 60, 126, 40, 41] (UInt8.ofNat n.val) < 0) = !Fil.isCut (UInt8.ofNat n.val) := by decide +kernel
 have := h ⟨c.toNat, c.toNat_lt⟩
 simpa using this
theorem typ_at {s : List UInt8} : ∀ {k : Nat}, k ≤ s.length → (∀ j (_ : j < k) (hl : j < s.length), Fil.isCut s[j] = false) → (∀ (hl : k < s.length), Fil.isCut s[k] = true) → Fil.typF s = s.take k := by
 intro k hk h1 h2
 have e : s = s.take k ++ s.drop k := (List.take_append_drop k s).symm
 unfold Fil.typF
 conv => lhs; rw [e]
 rw [List.takeWhile_append_of_pos (fun c hc => by
  obtain ⟨j, hj, rfl⟩ := List.mem_iff_getElem.1 hc
  rw [List.length_take] at hj
  rw [List.getElem_take, h1 j (by omega) (by omega)]
  rfl)]
 by_cases hl : k < s.length
 ·rw [List.drop_eq_getElem_cons hl, List.takeWhile_cons_of_neg (by rw [h2 hl]; simp), List.append_nil]
 ·rw [List.drop_eq_nil_of_le (by omega)]
  simp
set_option maxRecDepth 100000 in
theorem fTyp_c (N p : Nat) (s : List UInt8) (v : Value) (qs : List FilQ) (w : World) (h : RdF N p w s v qs) (hs : s.length ≤ 1000000) :
  Calls Tryz.prog 62 #[.pointer (some ⟨p, 0, none⟩)] w fun e w' => e = .returned (.string ⟨(Fil.typF s).toArray⟩) ∧ RdF N p w' (s.drop (Fil.typF s).length) v qs ∧ w.grownBy w' (some p) := by
 obtain ⟨R, hR⟩ : ∃ R, Fil.typF s = R := ⟨_, rfl⟩
 rw [hR]
 have HRR := Lib.hid hR
 obtain ⟨c0, c1, f0, f1⟩ := h.cells
 have HR := Lib.hid h
 have hget := ba_get
 have HIB := Lib.hid (fun (x : UInt8) W => IndexByte_c [61, 62, 60, 126, 40, 41] x W)
 clear h hR
 go_enter Tryz.func62, Tryz.ntmps62
 go_wp2_with fail
 go_loopg [3] s.length (fun gk i wr => ∃ k : Nat, k ≤ s.length ∧ i = .int .i64 (k : Int) ∧ Aside (k + gk = s.length) ∧ w = wr ∧ Aside (∀ j (_ : j < k) (hl : j < s.length), Fil.isCut s[j] = false))
 case atStart => exact ⟨0, by omega, rfl, by show _ = _; omega, rfl, fun j hj => by omega⟩
 case round =>
  obtain ⟨k, hk, rfl, AG, rfl, AN⟩ := hrel
  have fin : (∀ (hl : k < s.length), Fil.isCut s[k] = true) → R = s.take k := fun h2 => HRR.out.symm.trans (typ_at hk AN.out h2)
  have HF := Lib.hid fin
  have hs1 := fun W => sl_to s k hk W
  have hs2 := fun W => sl_from s k hk W
  clear fin
  by_cases hlt : k < s.length
  ·have hkl : (k : Int) < (s.length : Int) := by omega
   have hk0 : (0 : Int) ≤ (k : Int) := by omega
   have hci := cut_idx s[k]
   cases hc : Fil.isCut s[k] with
   | false =>
    rw [hc] at hci
    have hneg : Lib.indexByte [61, 62, 60, 126, 40, 41] s[k] < 0 := of_decide_eq_true hci
    have AN2 : Aside (∀ j (_ : j < k + 1) (hl : j < s.length), Fil.isCut s[j] = false) := by
     intro j hj hl
     by_cases e : j = k
     ·subst e; exact hc
     ·exact AN.out j (by omega) hl
    obtain ⟨q, rfl⟩ : ∃ q, gk = q + 1 := ⟨gk - 1, by have := AG.out; omega⟩
    go_wp2_with (go_at_call 28; (with_reducible refine (HIB.out _ _).mono ?_); rintro e w1 ⟨rfl, rfl⟩)
    go_roundg q
    case measure => omega
    case rel => exact ⟨k + 1, by omega, by go_num, by have := AG.out; show _ = _; omega, rfl, AN2.out⟩
   | true =>
    rw [hc] at hci
    have hneg : ¬ Lib.indexByte [61, 62, 60, 126, 40, 41] s[k] < 0 := of_decide_eq_false hci
    have hfin := HF.out (fun _ => hc)
    subst hfin
    go_wp2_with (first
     | (go_at_call 28; (with_reducible refine (HIB.out _ _).mono ?_); rintro e w1 ⟨rfl, rfl⟩)
     | (go_at_call 68; refine (Clone_c (s.take k) _ (by rw [List.length_take]; omega)).mono ?_; rintro e w3 ⟨rfl, hb3⟩; have hR3 := HR.out.below hb3; obtain ⟨d0, d1, g0, g1⟩ := hR3.cells))
    go_ret
    have hz := hR3.setS (s.drop k)
    refine ⟨rfl, ?_, World.grownBy.trans (grown_below hb3 _) (setCell_grown _ _ _ _)⟩
    rw [List.length_take, Nat.min_eq_left hk]
    exact hz.1
  ·obtain rfl : k = s.length := by omega
   have hfin : R = s := (HF.out (fun hl => by omega)).trans List.take_length
   subst hfin
   simp only [List.take_length, List.drop_length] at hs1 hs2
   go_wp2_with (go_at_call 68; refine (Clone_c _ _ (by omega)).mono ?_; rintro e w3 ⟨rfl, hb3⟩; have hR3 := HR.out.below hb3; obtain ⟨d0, d1, g0, g1⟩ := hR3.cells)
   go_ret
   have hz := hR3.setS []
   refine ⟨rfl, ?_, World.grownBy.trans (grown_below hb3 _) (setCell_grown _ _ _ _)⟩
   rw [List.drop_length]
   exact hz.1
open Go.RowKit
theorem u8_lit {x c : UInt8} {n : Int} (hc : (c.toNat : Int) = n) (h : x ≠ c) : (x.toNat : Int) ≠ n := fun e => h (UInt8.toNat_inj.1 (by omega))
theorem bufo_text {ops : Array Oper} {rest : List Oper} {o : Oper} {a : Act} {Q : Exit → Act → World → Prop} {w : World} (hgd : o.guard = none) (sl x : Operand) (ho : o.op = .call { callee := .builtin .append, args := #[sl, x], argTypes := #[66, 9] })
  {v : Value} {l m : List UInt8} {B : Nat} (hs : a.eval sl = v) (hb : BufO B w v l) (hx : a.eval x = .string ⟨m.toArray⟩) (hlen : l.length + m.length ≤ 140737488355328)
  (h : ∀ v' w', BufO B w' v' (l ++ m) → w.grownBy w' v.ownBlock → wpList Tryz.prog ops Q rest (a.put o.dst v') w') : wpList Tryz.prog ops Q (o :: rest) a w := by
 obtain ⟨i, h1, h2, h3, h4⟩ := infoByte
 have hsz : (⟨m.toArray⟩ : ByteArray).size = m.length := by simp [ByteArray.size]
 refine Lib.wpList_append_own_stringF w hgd sl x 66 9 ho B 5 i Tryz.underlying66 Tryz.underlying9 h1 h2 h3 h4 v _ _ hs hb.1 ⟨m.toArray⟩ hx (by rw [hsz]; unfold maxLen; omega) (by rw [hsz]; exact hlen) hb.2 ?_
 intro v' w' ho' hg _
 refine h v' w' ⟨?_, Nat.le_trans hb.2 hg.size⟩ hg
 simpa [Lib.byteCells, Lib.strCells, ByteArray.size] using ho'
theorem grown_free {w a b : World} {p r : Option Nat} (h : w.grownBy a p) (hg : a.grownBy b r) (hr : ∀ k, r = some k → w.heap.size ≤ k) : w.grownBy b p :=
 ⟨hg.os.trans h.os, hg.tape.trans h.tape, hg.output.trans h.output, Nat.le_trans h.size hg.size, fun k hk hne => by
  rw [hg.block k (Nat.lt_of_lt_of_le hk h.size) (fun e => by have := hr k e.symm; omega)]
  exact h.block k hk hne⟩
theorem BufO.row {B : Nat} {w : World} {v : Value} {l : List UInt8} (h : BufO B w v l) : ∀ g, v.ownBlock = some g → B ≤ g ∧ ∃ cs t fz, w.heap[g]? = some (.cells cs t fz) ∧ t = 5 := by
 intro g hg
 obtain ⟨⟨h1, h2⟩, _⟩ := h
 rcases h2 with ⟨rfl, _⟩ | ⟨g', cap, cur, fz, rfl, r2, r3, r4⟩
 ·cases hg
 ·cases hg; exact ⟨r2, cur, _, fz, r3, rfl⟩
theorem own_set8 {B : Nat} {w : World} {g c : Nat} {xs : List (List UInt8)} {n : Nat} (h : Own B w (.slice (some ⟨g, 0, none⟩) n c) xs) {j : Nat} (hj : j < xs.length) (x : List UInt8) : Own B (w.setCell ⟨g, j, none⟩ (.string ⟨x.toArray⟩)) (.slice (some ⟨g, 0, none⟩) n c) (xs.set j x) := by
 obtain ⟨⟨h1, h2⟩, h3⟩ := h
 refine ⟨⟨by simpa using h1, ?_⟩, by simpa [World.setCell] using h3⟩
 rcases h2 with ⟨h2, _⟩ | ⟨g', cap, cur, e, r2, r3, r4, r5, r6, r7⟩
 ·cases h2
 ·cases e
  have hB : Bk w g 9 cur := r3
  refine .inr ⟨g, c, cur.setIfInBounds j (.string ⟨x.toArray⟩), by simp, r2, hB.set j _, by simpa using r4, r5, by simpa using r6, ?_⟩
  rw [List.length_set, Array.toList_setIfInBounds, List.take_set, r7]
  simp [strV]
structure VaJ (w : World) (p : Nat) (wr : World) (r : List UInt8) (v : Value) (qs : List FilQ) (o b : Value) (done : List (List UInt8)) (acc : List UInt8) : Prop where
 plt : p < w.heap.size
 rd : RdF w.heap.size p wr r v qs
 own : Own w.heap.size wr o (done ++ [[]])
 buf : BufO w.heap.size wr b acc
 bel : w.grownBy wr (some p)
theorem VaJ.next {w : World} {p : Nat} {wr : World} {r : List UInt8} {v : Value} {qs : List FilQ} {o b : Value} {done : List (List UInt8)} {acc : List UInt8} (h : VaJ w p wr r v qs o b done acc) (r' : List UInt8) : VaJ w p (wr.setCell ⟨p, 0, none⟩ (.string ⟨r'.toArray⟩)) r' v qs o b done acc := by
 obtain ⟨h1, h2⟩ := h.rd.setS r'
 have hg := setCell_grown wr p 0 (.string ⟨r'.toArray⟩)
 refine ⟨h.plt, h1, h.own.keep2 hg (fun k hk e => ?_), ?_, World.grownBy.trans h.bel hg⟩
 ·obtain ⟨cs, hb⟩ := h.own.ty hk
  cases e
  exact bk_ne h.rd.at_ hb (by decide) rfl
 ·obtain ⟨⟨b1, b2⟩, b3⟩ := h.buf
  refine ⟨⟨b1, ?_⟩, Nat.le_trans b3 hg.size⟩
  rcases b2 with b2 | ⟨g', cap, cur, fz, rfl, r2, r3, r4⟩
  ·exact .inl b2
  ·refine .inr ⟨g', cap, cur, fz, rfl, r2, ?_, r4⟩
   rw [hg.block g' (Array.getElem?_eq_some_iff.1 r3).1 (fun e => cells_ne r3 h.rd.at_ (by decide) (Option.some.inj e))]
   exact r3
theorem VaJ.below {w : World} {p : Nat} {wr wn : World} {r : List UInt8} {v : Value} {qs : List FilQ} {o b : Value} {done : List (List UInt8)} {acc : List UInt8} (h : VaJ w p wr r v qs o b done acc) (hb : Below wr.heap.size wr wn) : VaJ w p wn r v qs o b done acc := ⟨h.plt, h.rd.below hb, h.own.below hb, h.buf.keep (grown_below hb none) (fun k e => by cases e), World.grownBy.trans h.bel (grown_below hb _)⟩
theorem VaJ.byte {w : World} {p : Nat} {wr wn : World} {r : List UInt8} {v : Value} {qs : List FilQ} {o b b' : Value} {done : List (List UInt8)} {acc acc' : List UInt8} (h : VaJ w p wr r v qs o b done acc) (hO : BufO w.heap.size wn b' acc') (hg : wr.grownBy wn b.ownBlock) : VaJ w p wn r v qs o b' done acc' := by
 have hp := h.plt
 refine ⟨hp, h.rd.beside hg (fun g e => ?_), h.own.keep2 hg (fun k hk e => ?_), hO, grown_free h.bel hg (fun g e => ?_)⟩
 ·obtain ⟨h1, cs, t, fz, h2, h3⟩ := h.buf.row g e
  exact ⟨h1, cs, t, fz, h2, by rw [h3]; decide, by rw [h3]; decide⟩
 ·obtain ⟨_, cs, t, fz, h2, h3⟩ := h.buf.row k e
  obtain ⟨cs', hb⟩ := h.own.ty hk
  exact cells_ne h2 hb (by rw [h3]; decide) rfl
 ·exact (h.buf.row g e).1
theorem VaJ.last {w : World} {p : Nat} {wr : World} {r : List UInt8} {v : Value} {qs : List FilQ} {o b : Value} {done : List (List UInt8)} {acc : List UInt8} (h : VaJ w p wr r v qs o b done acc) : ∃ g c, o = .slice (some ⟨g, 0, none⟩) (done.length + 1) c ∧ done.length + 1 ≤ c ∧ w.heap.size ≤ g ∧ wr.cell? ⟨g, done.length, none⟩ = some (.string ⟨#[]⟩) ∧ wr.frozen? ⟨g, done.length, none⟩ = false ∧ Own w.heap.size (wr.setCell ⟨g, done.length, none⟩ (.string ⟨acc.toArray⟩)) o (done ++ [acc]) ∧
  RdF w.heap.size p (wr.setCell ⟨g, done.length, none⟩ (.string ⟨acc.toArray⟩)) r v qs ∧ w.grownBy (wr.setCell ⟨g, done.length, none⟩ (.string ⟨acc.toArray⟩)) (some p) := by
 have hO := h.own
 have hT := hO.textsA
 obtain ⟨⟨h1, h2⟩, h3⟩ := h.own
 have hl : (done ++ [([] : List UInt8)]).length = done.length + 1 := by simp
 rcases h2 with ⟨rfl, hn⟩ | ⟨g, cap, cur, rfl, r2, r3, r4, r5, r6, r7⟩
 ·rw [hl] at hn; omega
 ·rw [hl] at r4
  have hB : Bk wr g 9 cur := r3
  have hg := setCell_grown wr g done.length (.string ⟨acc.toArray⟩)
  have hc : wr.cell? ⟨g, done.length, none⟩ = some (.string ⟨#[]⟩) := by
   rcases hT with ⟨h0, _⟩ | ⟨a, c', he, _, hx⟩
   ·exact absurd (congrArg List.length h0) (by simp)
   ·cases he
    have := hx done.length (by simp)
    rw [add_at2, Nat.zero_add] at this
    simpa using this
  have hs := own_set8 hO (j := done.length) (by simp) acc
  rw [show (done ++ [([] : List UInt8)]).set done.length acc = done ++ [acc] by simp] at hs
  refine ⟨g, cap, by rw [hl], r4, r2, hc, hB.frozen _, hs, h.rd.beside hg (fun k e => ?_), grown_free h.bel hg (fun k e => ?_)⟩
  ·cases e
   exact ⟨r2, cur, _, _, r3, by decide, by decide⟩
  ·cases e
   exact r2
theorem VaJ.star {w : World} {p : Nat} {wr wn : World} {r : List UInt8} {v : Value} {qs : List FilQ} {o o' : Value} {done xs : List (List UInt8)} (hp : p < w.heap.size) (hO : Own w.heap.size wr o xs) (hR : RdF w.heap.size p wr r v qs) (hb : w.grownBy wr (some p)) (hO' : Own w.heap.size wn o' (done ++ [[]])) (hg : wr.grownBy wn o.ownBlock) : VaJ w p wn r v qs o' (.slice none 0 0) done [] := by
 refine ⟨hp, hR.beside hg (fun k e => ?_), hO', ⟨World.ownsRowF_nil _ _ _ _, hO'.2⟩, grown_free hb hg (fun k e => ?_)⟩
 ·obtain ⟨cs, hk⟩ := hO.ty e
  exact ⟨(hO.lt k e).1, cs, _, _, hk, by decide, by decide⟩
 ·exact (hO.lt k e).1
theorem slice_str8 (s : List UInt8) (i j : Nat) (W : World) (h1 : i ≤ j) (h2 : j ≤ s.length) : (Instr.slice 9 (.string ⟨s.toArray⟩) (some (.int .i64 (i : Int))) (some (.int .i64 (j : Int))) none).run Tryz.prog W = .ok (.string ⟨((s.drop i).take (j - i)).toArray⟩) W := by
 have := run_slice_string (P := Tryz.prog) W 9 ⟨s.toArray⟩ .i64 .i64 (i : Int) (j : Int) Tryz.underlying9 (by omega) (by omega) (by simp [ByteArray.size]; omega)
 rw [this]
 simp only [Int.toNat_natCast]
 rw [ba_ext]
 rfl
theorem strOr_some (e : Int) (y : List UInt8) : strOr e (some y) = .tuple #[.string ⟨y.toArray⟩, .int .i64 0] := rfl
theorem strOr_none (e : Int) : strOr e none = .tuple #[.string ⟨#[]⟩, .int .i64 e] := rfl
theorem unhex_two {a b : UInt8} {y : List UInt8} (h : unhexL [a, b] = some y) : y.length = 1 := by
 unfold unhexL at h
 split at h
 ·cases h
 ·simp [unhexL] at h
  rw [← h]; rfl
set_option maxRecDepth 100000 in
theorem fValue_c (N p : Nat) (s : List UInt8) (v : Value) (qs : List FilQ) (w : World) (h : RdF N p w s v qs) (hs : s.length ≤ 1000000) :
  Calls Tryz.prog 64 #[.pointer (some ⟨p, 0, none⟩)] w fun e w' => w.grownBy w' (some p) ∧ match Fil.valF s [] [] with
   | some (l, r) => ∃ vo, e = .returned vo ∧ Own w.heap.size w' vo l ∧ RdF w.heap.size p w' r v qs
   | none => e = .panicked filPanic := by
 obtain ⟨R, hR⟩ : ∃ R, Fil.valF s [] [] = R := ⟨_, rfl⟩
 rw [hR]
 have HR := Lib.hid hR
 have hget := ba_get
 have hb0 := bel_f1 w (.cells #[.string ⟨#[]⟩] 9)
 have HJ0 : Hid (VaJ w p (w.alloc (.cells #[.string ⟨#[]⟩] 9)) s v qs (.slice (some ⟨w.heap.size, 0, none⟩) 1 1) (.slice none 0 0) [] []) := Lib.hid ⟨h.lt, h.fit.below hb0, own_new w (Nat.le_refl _) [[]] (by simp), ⟨World.ownsRowF_nil _ _ _ _, hb0.size⟩, grown_below hb0 _⟩
 clear h hR hb0
 go_enter Tryz.func64, Tryz.ntmps64
 go_wp2_with fail
 go_loopg [3, 4] s.length (fun gk o b wr => ∃ (r acc : List UInt8) (done : List (List UInt8)), Aside (r.length ≤ gk) ∧ Aside (acc.length + r.length ≤ s.length) ∧ Aside (done.length + r.length ≤ s.length) ∧ Aside (Fil.valF r acc done = R) ∧ Aside (VaJ w p wr r v qs o b done acc))
 case atStart => exact ⟨s, [], [], Nat.le_refl _, by show _ ≤ _; simp, by show _ ≤ _; simp, HR.out, HJ0.out⟩
 case round =>
  clear HJ0 HR
  obtain ⟨r, acc, done, AG, AL, AD, AS, AJ⟩ := hrel
  obtain ⟨c0, c1, f0, f1⟩ := AJ.out.rd.cells
  obtain ⟨g, co, rfl, hco, hgB, k0, k1, HL⟩ := AJ.out.last
  have HLA := Lib.hid HL
  have hcv := BufO.string AJ.out.buf
  have hdl : done.length ≤ 1000000 := by have := AD.out; omega
  have hk5 : IntKind.i64.wrap (((done.length : Int) + 1) - 1) = (done.length : Int) := by rw [IntWalk.i64_in _ (by omega)]; omega
  clear HL
  cases r with
  | nil =>
   have hfin : R = some (done ++ [acc], []) := by rw [← AS.out, Fil.valF.eq_def]
   subst hfin
   go_wp2_with fail
   go_ret
   exact ⟨HLA.out.2.2, _, rfl, HLA.out.1, HLA.out.2.1⟩
  | cons x t =>
   have AS' : Aside (R = if x = 41 then some (done ++ [acc], x :: t) else if x = 92 then (match (generalizing := false) t with
    | p :: q :: t' => match unhexL [p, q] with
     | some y => Fil.valF t' (acc ++ y) done
     | none => none
    | _ => none) else if x = 40 ∨ x = 0 then none else if x = 42 then Fil.valF t [] (done ++ [acc]) else Fil.valF t (acc ++ [x]) done) := by
    show _ = _
    rw [← AS.out, Fil.valF_cons]
    rfl
   obtain ⟨q, rfl⟩ : ∃ q, gk = q + 1 := ⟨gk - 1, by have := AG.out; simp only [List.length_cons] at this; omega⟩
   have hlr : t.length ≤ q ∧ acc.length + (t.length + 1) ≤ s.length ∧ done.length + (t.length + 1) ≤ s.length := by
    have h1 := AG.out
    have h2 := AL.out
    have h3 := AD.out
    simp only [List.length_cons] at h1 h2 h3
    omega
   have hsl1 : ∀ W : World, (Instr.slice 9 (.string ⟨(x :: t).toArray⟩) (some (.int .i64 1)) none none).run Tryz.prog W = .ok (.string ⟨t.toArray⟩) W := fun W => sl_from (x :: t) 1 (by simp) W
   clear AS AG AL AD
   by_cases x41 : x = 41
   ·subst x41
    have hfin : R = some (done ++ [acc], 41 :: t) := by rw [AS'.out, if_pos rfl]
    subst hfin
    go_wp2_with fail
    go_ret
    exact ⟨HLA.out.2.2, _, rfl, HLA.out.1, HLA.out.2.1⟩
   ·have hn41 : ((x.toNat : Int) != 41) = true := by
     rw [bne_iff_ne]; intro e; exact u8_lit (c := 41) rfl x41 e
    by_cases x92 : x = 92
    ·subst x92
     have AS2 : Aside (R = (match (generalizing := false) t with
      | p :: q :: t' => match unhexL [p, q] with
       | some y => Fil.valF t' (acc ++ y) done
       | none => none
      | _ => none)) := by show _ = _; rw [AS'.out, if_neg x41, if_pos rfl]
     clear AS'
     match t, hlr, AS2 with
     | [], hlr, AS2 =>
      have hfin : R = none := AS2.out
      subst hfin
      go_wp2_with fail
      refine ⟨rfl, ?_⟩
      exact ⟨AJ.out.bel, rfl⟩
     | [y1], hlr, AS2 =>
      have hfin : R = none := AS2.out
      subst hfin
      go_wp2_with fail
      refine ⟨rfl, ?_⟩
      exact ⟨AJ.out.bel, rfl⟩
     | y1 :: y2 :: t', hlr, AS2 =>
      have hsl13 : ∀ W : World, (Instr.slice 9 (.string ⟨(92 :: y1 :: y2 :: t').toArray⟩) (some (.int .i64 1)) (some (.int .i64 3)) none).run Tryz.prog W = .ok (.string ⟨[y1, y2].toArray⟩) W := fun W => by
       have := slice_str8 (92 :: y1 :: y2 :: t') 1 3 W (by omega) (by simp)
       simpa using this
      have hsl3 : ∀ W : World, (Instr.slice 9 (.string ⟨(92 :: y1 :: y2 :: t').toArray⟩) (some (.int .i64 3)) none none).run Tryz.prog W = .ok (.string ⟨t'.toArray⟩) W := fun W => sl_from (92 :: y1 :: y2 :: t') 3 (by simp) W
      have HU := Lib.hid (fun W => Unhex_c [y1, y2] W (by simp))
      have hlen3 : ¬ (((92 :: y1 :: y2 :: t' : List UInt8).length : Int) < 3) := by simp only [List.length_cons]; omega
      simp only [List.length_cons] at hlr
      cases hu : unhexL [y1, y2] with
      | none =>
       have hfin : R = none := by rw [AS2.out]; simp only [hu]
       subst hfin
       rw [hu, strOr_none] at HU
       go_wp2_with (go_at_call 110; (with_reducible refine (HU.out _).mono ?_); rintro e w2 ⟨rfl, hb2⟩)
       refine ⟨rfl, ?_⟩
       exact ⟨World.grownBy.trans AJ.out.bel (grown_below hb2 _), rfl⟩
      | some y =>
       have AS3 : Aside (Fil.valF t' (acc ++ y) done = R) := by show _ = _; rw [AS2.out]; simp only [hu]
       rw [hu, strOr_some] at HU
       have hy := unhex_two hu
       go_wp2_with (first
        | (go_at_call 110; (with_reducible refine (HU.out _).mono ?_); rintro e w2 ⟨rfl, hb2⟩; have hJ2 := AJ.out.below hb2; have hbuf2 := hJ2.buf)
        | (at_builtin; refine bufo_text (m := y) rfl _ _ rfl rfl hbuf2 rfl (by omega) ?_; intro v' w3 hO3 hg3; have hJ3 := hJ2.byte hO3 hg3; obtain ⟨d0, d1, g0, g1⟩ := hJ3.rd.cells))
       go_roundg q
       case measure => omega
       case rel => exact ⟨t', acc ++ y, done, by show _ ≤ _; omega, by show _ ≤ _; rw [List.length_append]; omega, by show _ ≤ _; omega, AS3.out, hJ3.next t'⟩
    ·have hn92 : ((x.toNat : Int) == 92) = false := by
      rw [beq_eq_false_iff_ne]; intro e; exact u8_lit (c := 92) rfl x92 e
     by_cases x40 : x = 40 ∨ x = 0
     ·have hfin : R = none := by rw [AS'.out, if_neg x41, if_neg x92, if_pos x40]
      subst hfin
      rcases x40 with rfl | rfl
      all_goals
       go_wp2_with fail
       refine ⟨rfl, ?_⟩
       exact ⟨AJ.out.bel, rfl⟩
     ·have hn40 : ((x.toNat : Int) == 40) = false := by
       rw [beq_eq_false_iff_ne]; intro e; exact u8_lit (c := 40) rfl (fun h => x40 (.inl h)) e
      have hn0 : ((x.toNat : Int) == 0) = false := by
       rw [beq_eq_false_iff_ne]; intro e; exact u8_lit (c := 0) rfl (fun h => x40 (.inr h)) e
      by_cases x42 : x = 42
      ·subst x42
       have AS3 : Aside (Fil.valF t [] (done ++ [acc]) = R) := by show _ = _; rw [AS'.out, if_neg x41, if_neg x92, if_neg x40, if_pos rfl]
       have hOs := HLA.out.1
       have HN5 := Lib.hid (show wr.heap.size = (wr.setCell ⟨g, done.length, none⟩ (.string ⟨acc.toArray⟩)).heap.size by simp [World.setCell])
       have hlen5 : (done ++ [acc]).length < 4398046511104 := by rw [List.length_append, List.length_singleton]; omega
       go_wp2_with (at_builtin; refine own_one (c := []) (N := wr.heap.size) rfl _ _ rfl rfl hOs rfl HN5.out hlen5 ?_; intro v' w3 hO3 hg3; have hJ3 := VaJ.star AJ.out.plt hOs HLA.out.2.1 HLA.out.2.2 hO3 hg3; obtain ⟨d0, d1, g0, g1⟩ := hJ3.rd.cells)
       go_roundg q
       case measure => omega
       case rel => exact ⟨t, [], done ++ [acc], by show _ ≤ _; omega, by show _ ≤ _; rw [List.length_nil]; omega, by show _ ≤ _; rw [List.length_append, List.length_singleton]; omega, AS3.out, hJ3.next t⟩
      ·have hn42 : ((x.toNat : Int) == 42) = false := by
        rw [beq_eq_false_iff_ne]; intro e; exact u8_lit (c := 42) rfl x42 e
       have AS3 : Aside (Fil.valF t (acc ++ [x]) done = R) := by show _ = _; rw [AS'.out, if_neg x41, if_neg x92, if_neg x40, if_neg x42]
       have hbuf := AJ.out.buf
       go_wp2_with (at_builtin; refine bufo_byteN (c := x) rfl _ _ rfl rfl hbuf rfl rfl (by omega) ?_; intro v' w3 hO3 hg3; have hJ3 := AJ.out.byte hO3 hg3; obtain ⟨d0, d1, g0, g1⟩ := hJ3.rd.cells)
       go_roundg q
       case measure => omega
       case rel => exact ⟨t, acc ++ [x], done, by show _ ≤ _; omega, by show _ ≤ _; rw [List.length_append, List.length_singleton]; omega, by show _ ≤ _; omega, AS3.out, hJ3.next t⟩
open Go.RowKit
theorem size_fil : ∀ w, (sizeOf 34).run Tryz.prog w = .ok 7 w := fun w => by kernel_rfl
theorem fslice_off {t e : TypeId} {sz : Nat} (ht : Tryz.prog.underlying t = some (.slice e)) (hs : ∀ w, (sizeOf e).run Tryz.prog w = .ok sz w) (b o n c j : Nat) (hj : j ≤ n) (hc : n ≤ c) :
  ∃ B : Addr, (j < c → B = ⟨b, o + j * sz, none⟩) ∧ ∀ w, (Instr.slice t (.slice (some ⟨b, o, none⟩) n c) (some (.int .i64 (j : Int))) none none).run Tryz.prog w = .ok (.slice (some B) (n - j) (c - j)) w := by
 have h1 : ∀ w, (Instr.sliceBounds true n c (some (.int .i64 j)) none none).run Tryz.prog w = .ok (j, n, c) w := fun w => by
  simp [Instr.sliceBounds, run_sliceBound, hj]
 have ha : (⟨b, o, none⟩ : Addr).add (j * sz) = ⟨b, o + j * sz, none⟩ := add_at2 _ _ _
 by_cases hjc : j < c
 ·refine ⟨⟨b, o + j * sz, none⟩, fun _ => rfl, fun w => ?_⟩
  unfold Instr.slice
  simp only [Sem.run_bind, run_underlying ht, Result.andThen_ok, h1, hs, Sem.run_pure]
  simp [ha]
  intro e
  omega
 ·refine ⟨⟨b, o, none⟩, fun h => absurd h hjc, fun w => ?_⟩
  unfold Instr.slice
  simp only [Sem.run_bind, run_underlying ht, Result.andThen_ok, h1, hs, Sem.run_pure]
  simp [ha]
  intro e
  omega
theorem fil_slice1 (b o n c : Nat) (hn : 1 ≤ n) (hc : n ≤ c) :
  ∃ B : Addr, (1 < c → B = ⟨b, o + 7, none⟩) ∧ ∀ w, (Instr.slice 22 (.slice (some ⟨b, o, none⟩) n c) (some (.int .i64 1)) none none).run Tryz.prog w = .ok (.slice (some B) (n - 1) (c - 1)) w :=
 fslice_off Tryz.underlying22 size_fil b o n c 1 hn hc
theorem FilsA.tail {w : World} {v : Value} {x : Fil.FilE} {t : List Fil.FilE} (h : FilsA w v (x :: t)) : ∃ b o c va vt, v = .slice (some ⟨b, o, none⟩) (t.length + 1) c ∧ t.length + 1 ≤ c ∧
  (w.cell? ⟨b, o, none⟩ = some (.int .i64 x.op) ∧ w.cell? ⟨b, o + 1, none⟩ = some (.int .i64 x.n) ∧ w.cell? ⟨b, o + 2, none⟩ = some (.string ⟨x.typ.toArray⟩) ∧ w.cell? ⟨b, o + 3, none⟩ = some (.string ⟨x.val.toArray⟩) ∧ w.cell? ⟨b, o + 4, none⟩ = some (.string ⟨x.ini.toArray⟩) ∧ w.cell? ⟨b, o + 5, none⟩ = some (.string ⟨x.fin.toArray⟩) ∧ w.cell? ⟨b, o + 6, none⟩ = some va) ∧ TextsA w va x.any ∧
  (∀ W, (Instr.slice 22 (.slice (some ⟨b, o, none⟩) (t.length + 1) c) (some (.int .i64 1)) none none).run Tryz.prog W = .ok vt W) ∧ FilsA w vt t := by
 obtain ⟨qs, hq, ⟨A, c, rfl, hc, hx⟩, hok⟩ := h
 obtain ⟨q, ys, rfl⟩ : ∃ q ys, qs = q :: ys := by
  cases qs with
  | nil => simp at hq
  | cons q ys => exact ⟨q, ys, rfl⟩
 rw [List.map_cons, List.cons.injEq] at hq
 obtain ⟨rfl, rfl⟩ := hq
 rw [List.length_map]
 obtain ⟨b, o, rfl, hk⟩ := hx 0 (by simp)
 simp only [List.getElem_cons_zero, Nat.zero_mul, Nat.add_zero] at hk
 simp only [List.length_cons] at hc ⊢
 obtain ⟨B, hB, hs⟩ := fil_slice1 b o (ys.length + 1) c (by omega) hc
 rw [show ys.length + 1 - 1 = ys.length by omega] at hs
 refine ⟨b, o, c, q.2, _, rfl, hc, ⟨hk 0 _ rfl, hk 1 _ rfl, hk 2 _ rfl, hk 3 _ rfl, hk 4 _ rfl, hk 5 _ rfl, hk 6 _ rfl⟩, hok q (List.mem_cons_self ..), hs, ⟨ys, rfl, ⟨some B, c - 1, rfl, by omega, fun j hj => ?_⟩, fun y hy => hok y (List.mem_cons_of_mem _ hy)⟩⟩
 obtain ⟨b', o', he, hk'⟩ := hx (j + 1) (by simp; omega)
 cases he
 rw [hB (by omega)]
 refine ⟨b, o + 7, rfl, fun k u hu => ?_⟩
 have := hk' k u (by simpa using hu)
 rw [show o + 7 + j * 7 + k = o + (j + 1) * 7 + k by omega]
 exact this
theorem FilsA.nil_slice {w : World} {v : Value} (h : FilsA w v []) : ∃ A c, v = .slice A 0 c := by
 obtain ⟨A, c, h1, _⟩ := h.isSlice
 exact ⟨A, c, h1⟩
open Go.RowKit
set_option maxRecDepth 100000 in
theorem EqualTx_c (xs ys : List (List UInt8)) (v1 v2 : Value) (w : World) (hv1 : TextsA w v1 xs) (hv2 : TextsA w v2 ys) (hl : xs.length ≤ 1000000000) :
  Calls Tryz.prog 111 #[v1, v2] w fun e w' => e = .returned (.bool (decide (xs = ys))) ∧ Below w.heap.size w w' := by
 obtain ⟨A1, c1, rfl, hc1, hx1⟩ := hv1.at
 obtain ⟨A2, c2, rfl, hc2, hx2⟩ := hv2.at
 have H1 := Lib.hid hx1
 have H2 := Lib.hid hx2
 obtain ⟨R, hR⟩ : ∃ R, decide (xs = ys) = R := ⟨_, rfl⟩
 rw [hR]
 have HR := Lib.hid hR
 clear hx1 hx2 hv1 hv2 hR
 by_cases hle : xs.length = ys.length
 ·have hself : ((xs.length : Int) != (ys.length : Int)) = false := by rw [hle]; simp
  go_enter Tryz.func111, Tryz.ntmps111
  go_wp2_with fail
  go_loopg [13] xs.length (fun gk i wr => ∃ k : Nat, k ≤ xs.length ∧ i = .int .i64 k ∧ Aside (k + gk = xs.length) ∧ Below w.heap.size w wr ∧ Aside (xs.take k = ys.take k))
  case atStart => exact ⟨0, by omega, rfl, by show _ = _; omega, Below.refl _ _, rfl⟩
  case round =>
   obtain ⟨k, hk, rfl, AG, hB, AE⟩ := hrel
   by_cases hlt : k < xs.length
   ·obtain ⟨gq, rfl⟩ : ∃ q, gk = q + 1 := ⟨gk - 1, by have := AG.out; omega⟩
    obtain ⟨p1, rfl, c1⟩ := H1.out k hlt
    obtain ⟨p2, rfl, c2⟩ := H2.out k (by omega)
    have d1 := (hB.cell (cell_lt c1)).trans c1
    have d2 := (hB.cell (cell_lt c2)).trans c2
    have hki : (k : Int) < (xs.length : Int) := by omega
    have hki2 : (k : Int) < (ys.length : Int) := by omega
    clear c1 c2
    by_cases he : xs[k] = ys[k]'(by omega)
    ·have AE2 : Aside (xs.take (k + 1) = ys.take (k + 1)) := by
      show _ = _
      rw [List.take_succ_eq_append_getElem hlt, List.take_succ_eq_append_getElem (by omega), AE.out, he]
     rw [he] at d1
     generalize ys[k]'(by omega) = t at d1 d2
     go_wp2_with fail
     go_quiet (fail)
     go_wp2_with fail
     go_roundg gq
     case measure => omega
     case rel => exact ⟨k + 1, by omega, by go_num, by have := AG.out; show _ = _; omega, below_drewN hB nq, AE2.out⟩
    ·have hno : R = false := by
      rw [← HR.out, decide_eq_false_iff_not]
      rintro rfl
      exact he rfl
     subst hno
     generalize xs[k] = t1 at *
     generalize ys[k]'(by omega) = t2 at *
     have hbn : (t1 == t2) = false := beq_eq_false_iff_ne.2 he
     go_wp2_with fail
     go_quiet (fail)
     go_wp2_with fail
     go_ret
     exact ⟨rfl, below_drewN hB nq⟩
   ·obtain rfl : k = xs.length := by omega
    have hyes : R = true := by
     rw [← HR.out, decide_eq_true_iff]
     have := AE.out
     rwa [List.take_length, List.take_of_length_le (by omega)] at this
    subst hyes
    go_wp2_with fail
    go_ret
    exact ⟨rfl, hB⟩
 ·have hself : ((xs.length : Int) != (ys.length : Int)) = true := by
   rw [bne_iff_ne]; omega
  have hno : R = false := by
   rw [← HR.out, decide_eq_false_iff_not]
   rintro rfl
   exact hle rfl
  subst hno
  go_enter Tryz.func111, Tryz.ntmps111
  go_wp2_with fail
  go_ret
  exact ⟨rfl, Below.refl _ _⟩
def filV (p : Fil.FilE) (va : Value) : Value := .agg #[.int .i64 p.op, .int .i64 p.n, .string ⟨p.typ.toArray⟩, .string ⟨p.val.toArray⟩, .string ⟨p.ini.toArray⟩, .string ⟨p.fin.toArray⟩, va]
end Go.Proofs.YtconnibnpckadaaGreatDoor
