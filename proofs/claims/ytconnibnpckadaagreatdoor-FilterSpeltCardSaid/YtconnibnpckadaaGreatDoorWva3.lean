import Derived.Test.YtconnibnpckadaaGreatDoorWva2
import Derived.Lib.ConvBytes
import Derived.Deep.RegionHeld3
import Derived.Laws.EntriesVeiled
import Derived.Laws.AppendOwnNone
set_option linter.all false
set_option maxHeartbeats 8000000
set_option maxRecDepth 100000
namespace Go.Proofs.YtconnibnpckadaaGreatDoor
open Go.RowKit
theorem quiet_l {P : Program} {f : FuncId} {args : Array Value} {w : World} {n : Nat} {v : Value}
  (h : Calls P f args (w.drewN n) fun e w' => e = .returned v ∧ w.drewN n = w') : Calls P f args (w.drewN n) fun e w'' => e = .returned v ∧ ∃ m, w'' = w.drewN m :=
 h.mono fun _ _ ⟨he, hm⟩ => ⟨he, n, hm.symm⟩
theorem below_drewN {B : Nat} {a w : World} (h : Below B a w) (n : Nat) : Below B a (w.drewN n) := ⟨h.os, h.tape, h.output, h.size, h.block⟩
def sub (l : List UInt8) (a b : Nat) : List UInt8 := (l.drop a).take (b - a)
theorem ba_ext (l : List UInt8) (a b : Nat) : (⟨l.toArray⟩ : ByteArray).extract a b = ⟨(sub l a b).toArray⟩ := by
 have h := Lib.extract_data ⟨l.toArray⟩ a b
 generalize (⟨l.toArray⟩ : ByteArray).extract a b = x at h
 cases x with | mk d => cases d with | mk d => simp at h; subst h; rfl
theorem sub_len (l : List UInt8) (a b : Nat) : (sub l a b).length = min b l.length - a := by simp [sub]; omega
theorem sub_all {l : List UInt8} {p : UInt8 → Bool} {k : Nat} (h : (l.take k).all p = true) {a b : Nat} (hb : b ≤ k) : (sub l a b).all p = true := by
 rw [List.all_eq_true] at h ⊢
 intro x hx
 refine h x ?_
 unfold sub at hx
 rw [List.mem_iff_getElem?] at hx ⊢
 obtain ⟨i, hi⟩ := hx
 rw [List.getElem?_take] at hi
 split at hi
 ·rw [List.getElem?_drop] at hi
  exact ⟨a + i, by rw [List.getElem?_take, if_pos (by omega)]; exact hi⟩
 ·cases hi
def timeL (l : List UInt8) : Bool :=
 decide (l.length = 15) && digsL (sub l 0 14) && (l[14]? == some 90) &&
 (decide (1 ≤ numL (sub l 4 6) 0) && decide (numL (sub l 4 6) 0 ≤ 12) && decide (1 ≤ numL (sub l 6 8) 0) && decide (numL (sub l 6 8) 0 ≤ daysV (numL (sub l 0 4) 0) (numL (sub l 4 6) 0))) &&
 decide (numL (sub l 8 10) 0 < 24) && decide (numL (sub l 10 12) 0 < 60) && decide (numL (sub l 12 14) 0 < 60)
set_option maxRecDepth 10000 in
theorem isTime_c (l : List UInt8) (w : World) (hl : l.length ≤ 65536) :
  Calls Tryz.prog 161 #[.string ⟨l.toArray⟩] w fun e w' => e = .returned (.bool (timeL l)) ∧ Below w.heap.size w w' := by
 have hget := ba_get
 have hext := ba_ext
 by_cases h15 : l.length = 15
 ·have hD := isDigits_c (sub l 0 14) w (by rw [sub_len]; omega)
  unfold timeL
  cases hdg : digsL (sub l 0 14)
  ·rw [hdg] at hD
   have h15a : ((l.length : Int) != 15) = false := by simp [h15]
   have h15b : (15 : Int) ≤ (l.length : Int) := by omega
   clear h15
   go_enter Tryz.func161, Tryz.ntmps161
   go_wp2_with (first | (go_at_call 183; refine hD.mono ?_; rintro e w1 ⟨rfl, hb1⟩))
   go_ret
   exact ⟨retb (by simp), hb1⟩
  rw [hdg] at hD
  have hall : (l.take 14).all isDig = true := by
   unfold digsL sub at hdg
   simp only [List.drop_zero, Nat.sub_zero, Bool.and_eq_true] at hdg
   exact hdg.2
  have nA : ∀ (a b : Nat) (w : World), b ≤ 14 → b - a ≤ 4 → Calls Tryz.prog 187 #[.string ⟨(sub l a b).toArray⟩] w fun e w' => e = .returned (.int .i64 (numL (sub l a b) 0)) ∧ w = w' :=
   fun a b w h1 h2 => number_c (sub l a b) w (by rw [sub_len]; omega) (sub_all hall h1)
  have r0 := numL_rng (sub l 0 4) (sub_all hall (by omega)) 0 (by omega)
  rw [sub_len, h15] at r0
  simp at r0
  have hq0 : (0 : Int) ≤ numL (sub l 0 4) 0 := r0.1
  have hq1 : numL (sub l 0 4) 0 < 10000 := r0.2
  have h15a : ((l.length : Int) != 15) = false := by simp [h15]
  have h15b : (15 : Int) ≤ (l.length : Int) := by omega
  have h15c : (l.length : Int) ≤ 15 := by omega
  have h14 : 14 < l.length := by omega
  have hg14 : l[14]? = some l[14] := List.getElem?_eq_getElem h14
  by_cases hz : l[14] = 90
  ·rw [hg14, hz]
   have hz1 : ((l[14].toNat : Int) != 90) = false := by rw [hz]; rfl
   have H15 := Lib.hid h15
   clear hz hg14 hall h15 r0 hdg
   go_enter Tryz.func161, Tryz.ntmps161
   go_wp2_with (first | (go_at_call 183; refine hD.mono ?_; rintro e w1 ⟨rfl, hb1⟩))
   go_quiet ((go_at_call 187; exact quiet_l (nA _ _ _ (by omega) (by omega))))
   go_wp2_with (first | (go_at_call 187; refine (nA _ _ _ (by omega) (by omega)).mono ?_; rintro e w2 ⟨rfl, rfl⟩) | (go_at_call 188; refine (days_c _ _ _ hq0 hq1).mono ?_; rintro e w2 ⟨rfl, rfl⟩))
   all_goals (go_ret; refine ⟨retb ?_, (hb1.trans (below_drewN (Below.refl _ _) nq))⟩)
   all_goals (rw [Bool.eq_iff_iff]; simp [H15.out]; try omega)
  ·rw [hg14]
   have hz1 : ((l[14].toNat : Int) != 90) = true := by rw [bne_iff_ne]; intro h; exact hz (UInt8.toNat_inj.1 (show _ = 90 by omega))
   go_enter Tryz.func161, Tryz.ntmps161
   go_wp2_with (first | (go_at_call 183; refine hD.mono ?_; rintro e w1 ⟨rfl, hb1⟩))
   go_ret
   exact ⟨retb (by simp [hz]), hb1⟩
 ·have h15a : ((l.length : Int) != 15) = true := by rw [bne_iff_ne]; omega
  go_enter Tryz.func161, Tryz.ntmps161
  go_wp2
  go_ret
  exact ⟨retb (by simp [timeL, h15]), Below.refl _ _⟩
open Go.RowKit
def lowB (c : UInt8) : UInt8 := if 65 ≤ c.toNat ∧ c.toNat ≤ 90 then c + 32 else c
def smallL (l : List UInt8) : List UInt8 := l.map lowB
set_option maxRecDepth 10000 in
theorem Small_c (l : List UInt8) (w : World) (hl : l.length ≤ 140737488351232) :
  Calls Tryz.prog 39 #[.string ⟨l.toArray⟩] w fun e w' => e = .returned (.string ⟨(smallL l).toArray⟩) ∧ Below w.heap.size w w' := by
 have hcv := Lib.run_convert_string_bytes (P := Tryz.prog) w 9 66 5 ⟨l.toArray⟩ Tryz.underlying9 Tryz.underlying66 Tryz.underlying5
 go_enter Tryz.func39, Tryz.ntmps39
 go_wp2
 clear hcv
 go_loopg [10] l.length (fun gk i wr => ∃ k : Nat, k ≤ l.length ∧ i = .int .i64 k ∧ Aside (k + gk = l.length) ∧ Below w.heap.size w wr ∧ w.heap.size < wr.heap.size ∧ Aside (∀ j (hj : j < l.length), wr.cell? ⟨w.heap.size, j, none⟩ = some (.int .u8 ((if j < k then lowB l[j] else l[j]).toNat))) ∧ Aside (∀ j, j < l.length → wr.frozen? ⟨w.heap.size, j, none⟩ = false))
 case atStart =>
  refine ⟨0, by omega, rfl, by show _ = _; omega, ⟨rfl, rfl, rfl, by rw [Lib.bytesWorld_size]; omega, fun k hk => Lib.bytesWorld_at_old _ _ _ _ hk⟩, by rw [Lib.bytesWorld_size]; omega, ?_, ?_⟩
  ·intro j hj
   rw [Lib.bytesWorld_cell _ _ _ _ hj]
   simp [List.getD, hj]
  ·intro j hj
   simp only [World.frozen?, Lib.bytesWorld_at_new]
   have : j < (Lib.bytesCells w 5 ⟨l.toArray⟩).size := by simp [Lib.bytesCells]; omega
   simp; omega
 case round =>
  obtain ⟨k, hk, rfl, AG, hB, hsz, AC, AF⟩ := hrel
  by_cases hlt : k < l.length
  ·have hck := AC.out k hlt
   rw [if_neg (by omega)] at hck
   have hfk := AF.out k hlt
   have hcap := grownCap_ge w l.length 0 5
   obtain ⟨q, rfl⟩ : ∃ q, gk = q + 1 := ⟨gk - 1, by have := AG.out; omega⟩
   by_cases hc : 65 ≤ l[k].toNat ∧ l[k].toNat ≤ 90
   ·have hc1 : (65 : Int) ≤ (l[k].toNat : Int) := by omega
    have hc2 : (l[k].toNat : Int) ≤ 90 := by omega
    go_wp2
    go_roundg q
    case measure => omega
    case rel =>
     refine ⟨k + 1, by omega, by go_num, by have := AG.out; show _ = _; omega, hB.setCell (Nat.le_refl _) _, by simpa [World.setCell] using hsz, ?_, ?_⟩
     ·intro j hj
      by_cases hjk : j = k
      ·subst hjk
       rw [World.cell?_setCell_same _ _ _ hck, if_pos (by omega)]
       simp only [lowB, if_pos hc, UInt8.toNat_add]
       have : (l[j].toNat + (32 : UInt8).toNat) % 2 ^ 8 = l[j].toNat + 32 := by show (l[j].toNat + 32) % 256 = _; omega
       rw [this]; rfl
      ·rw [World.cell?_setCell_other _ _ _ _ (by intro h; injection h with _ h; exact hjk h.symm), AC.out j hj]
       by_cases h : j < k
       ·rw [if_pos h, if_pos (by omega)]
       ·rw [if_neg h, if_neg (by omega)]
     ·intro j hj
      rw [World.frozen?_setCell]; exact AF.out j hj
   ·go_wp2
    all_goals
     go_roundg q
     case measure => omega
     case rel =>
      refine ⟨k + 1, by omega, by go_num, by have := AG.out; show _ = _; omega, hB, hsz, ?_, AF.out⟩
      intro j hj
      rw [AC.out j hj]
      by_cases h : j < k
      ·rw [if_pos h, if_pos (by omega)]
      ·by_cases hjk : j = k
       ·subst hjk
        rw [if_neg h, if_pos (by omega)]
        simp only [lowB, if_neg hc]
       ·rw [if_neg h, if_neg (by omega)]
  ·obtain rfl : k = l.length := by omega
   have hcap := grownCap_ge w l.length 0 5
   have hst := run_convert_bytes_back (P := Tryz.prog) wr 66 9 5 ⟨w.heap.size, 0, none⟩ (grownCap w l.length 0 5) (smallL l) Tryz.underlying66 Tryz.underlying5 Tryz.underlying9 (by
    intro j hj
    have hj' : j < l.length := by simpa [smallL] using hj
    have hadd : (⟨w.heap.size, 0, none⟩ : Addr).add j = ⟨w.heap.size, j, none⟩ := by unfold Addr.add; split <;> simp_all
    rw [hadd, AC.out j hj', if_pos hj']
    simp [smallL])
   rw [show (smallL l).length = l.length by simp [smallL]] at hst
   go_wp2
   go_ret
   exact ⟨rfl, hB⟩
open Go.RowKit
open Go.RowKit
def kv (n : List UInt8) (k : Int) : Value := .agg #[.string ⟨n.toArray⟩, .int .i64 k]
theorem keyUnder : Tryz.prog.underlying 173 = some (.struct (Tryz.prog.fieldsOf 173)) := by kernel_rfl
theorem keyHeld : Tryz.prog.stoodInHeld 173 = false := by kernel_rfl
theorem key_eq (w : World) (a b : List UInt8) (i j : Int) : (Op.equal 173 (kv a i) (kv b j)).run Tryz.prog w = .ok (a == b && i == j) w := by
 unfold Op.equal Op.maxDepth kv
 rw [run_equalIn_agg w 9999 173 _ _ keyUnder keyHeld]
 have hf : (Tryz.prog.fieldsOf 173).toList = [{ name := "name", type := 9, offset := 0, embedded := false, tag := "", pkgPath := "chancery/syntax", byteOffset := 0 }, { name := "kind", type := 3, offset := 1, embedded := false, tag := "", pkgPath := "chancery/syntax", byteOffset := 16 }] := by
  unfold Program.fieldsOf
  rw [Tryz.underlying173]
 rw [hf]
 have h1 := run_equalIn_string (P := Tryz.prog) w 9998 9 ⟨a.toArray⟩ ⟨b.toArray⟩ Tryz.underlying9
 have h2 := run_equalIn_int (P := Tryz.prog) w 9998 3 .i64 .i64 i j Tryz.underlying3
 have p1 : ∀ (c d : Value), (part 9 #[c, d] 0).run Tryz.prog w = .ok c w := by intro c d; kernel_rfl
 have p2 : ∀ (c d : Value), (part 3 #[c, d] 1).run Tryz.prog w = .ok d w := by intro c d; kernel_rfl
 simp only [Op.eqFields, ne_eq, String.reduceEq, not_false_eq_true, if_true, Sem.run_bind, p1, p2, h1, h2, Result.andThen_ok]
 have hl : ∀ l : List UInt8, (⟨l.toArray⟩ : ByteArray).toList = l := fun l => by rw [ByteArray.toList_eq]
 rw [hl, hl]
 cases hab : (a == b)
 ·simp
 ·have hij : ∀ (r : Bool), (if (!r) = true then (pure false : Sem Bool) else pure true) = pure r := by intro r; cases r <;> rfl
  simp only [Bool.not_true, Bool.false_eq_true, if_false, Sem.run_bind, p2, h2, Result.andThen_ok, hij, Sem.run_pure, Bool.true_and]
def RulesAre (es : Array MapEntry) (R : List (List UInt8 × Int × Value)) : Prop := es.toList.map (fun e => (e.key, e.val)) = R.map (fun x => (kv x.1 x.2.1, x.2.2))
def findR (n : List UInt8) (k : Int) : List (List UInt8 × Int × Value) → Option Value
 | [] => none
 | x :: R => if n == x.1 && k == x.2.1 then some x.2.2 else findR n k R
theorem findAsking_run (w : World) (n : List UInt8) (k : Int) : ∀ (es : List MapEntry) (R : List (List UInt8 × Int × Value)) (i : Nat), es.map (fun e => (e.key, e.val)) = R.map (fun x => (kv x.1 x.2.1, x.2.2)) →
  ∃ r, (Instr.findAsking 173 (kv n k) es i).run Tryz.prog w = .ok r w ∧ r.map (·.2) = findR n k R
 | [], [], i, _ => ⟨none, rfl, rfl⟩
 | [], _ :: _, i, h => by simp at h
 | _ :: _, [], i, h => by simp at h
 | e :: es, x :: R, i, h => by
  simp only [List.map_cons, List.cons.injEq, Prod.mk.injEq] at h
  obtain ⟨r, hr, hm⟩ := findAsking_run w n k es R (i + 1) h.2
  simp only [Instr.findAsking, Sem.run_bind, h.1.1, key_eq, Result.andThen_ok, findR]
  cases hx : (n == x.1 && k == x.2.1)
  ·simp only [Bool.false_eq_true, if_false]
   exact ⟨r, hr, hm⟩
  ·simp only [if_true]
   exact ⟨some (i, e.val), rfl, by simp [h.1.2]⟩
theorem findKey_run (w : World) (n : List UInt8) (k : Int) (es : Array MapEntry) (R : List (List UInt8 × Int × Value)) (h : RulesAre es R) :
  ∃ r, (Instr.findKey 173 (kv n k) es.toList).run Tryz.prog w = .ok r w ∧ r.map (·.2) = findR n k R := by
 unfold RulesAre at h
 obtain ⟨es⟩ := es
 dsimp only at h ⊢
 unfold Instr.findKey
 simp only [Sem.run_bind, run_underlying Tryz.underlying173, Result.andThen_ok]
 cases es with
 | nil =>
  cases R with
  | nil => exact ⟨none, rfl, rfl⟩
  | cons _ _ => simp at h
 | cons e es =>
  cases R with
  | nil => simp at h
  | cons x R =>
   have : ∀ f, Instr.findNow (.struct f) (kv n k) (e :: es) 0 = none := fun f => by simp [Instr.findNow, Instr.sameNow]
   rw [this]
   exact findAsking_run w n k _ _ 0 h
theorem checkKey_run (w : World) (b : Bool) (n : List UInt8) (k : Int) : (Instr.checkKey b 10000 173 (kv n k)).run Tryz.prog w = .ok () w := by
 unfold kv
 kernel_rfl
def World.setMap (w : World) (r : Nat) (es : Array MapEntry) (c : Nat) : World := { w with heap := w.heap.setIfInBounds r (.map es c) }
theorem update_run (w : World) (r c : Nat) (es : Array MapEntry) (R : List (List UInt8 × Int × Value)) (hw : w.heap[r]? = some (.map es c)) (h : RulesAre es R) (n : List UInt8) (k : Int) (v : Value) (hn : findR n k R = none) :
  (Instr.mapUpdate 169 (.map (some r)) (kv n k) v).run Tryz.prog w = .ok () (World.setMap w r (es.push { key := kv n k, val := v, born := c }) (c + 1)) := by
 obtain ⟨q, hq, hm⟩ := findKey_run w n k es R h
 rw [hn] at hm
 obtain rfl : q = none := by simpa using hm
 unfold Instr.mapUpdate
 simp only [Sem.run_bind, run_underlying Tryz.underlying169, Result.andThen_ok]
 simp only [getObj, Sem.run, Sem.run_bind, hw, Result.andThen_ok, checkKey_run, hq, setObj, World.setMap]
theorem lookup_run (w : World) (r c : Nat) (es : Array MapEntry) (R : List (List UInt8 × Int × Value)) (hw : w.heap[r]? = some (.map es c)) (h : RulesAre es R) (n : List UInt8) (k : Int) :
  (Instr.lookup 169 (.map (some r)) (kv n k) true).run Tryz.prog w = .ok (match findR n k R with | some v => .tuple #[v, .bool true] | none => .tuple #[.agg #[.string ⟨#[]⟩, .int .i64 0, .slice none 0 0, .nilFunc], .bool false]) w := by
 obtain ⟨q, hq, hm⟩ := findKey_run w n k es R h
 unfold Instr.lookup
 simp only [Sem.run_bind, run_underlying Tryz.underlying169, Result.andThen_ok]
 simp only [getObj, Sem.run, Sem.run_bind, hw, Result.andThen_ok, checkKey_run, hq, pure, Sem.run_pure]
 rw [← hm]
 cases q with
 | none =>
  have hz : (zeroValue 144).run Tryz.prog w = .ok (.agg #[.string ⟨#[]⟩, .int .i64 0, .slice none 0 0, .nilFunc]) w := by kernel_rfl
  simp only [Sem.run_bind, hz, Result.andThen_ok]
  rfl
 | some x => rfl
theorem RulesAre.push {es : Array MapEntry} {R : List (List UInt8 × Int × Value)} (h : RulesAre es R) (n : List UInt8) (k : Int) (v : Value) (b : Nat) : RulesAre (es.push { key := kv n k, val := v, born := b }) (R ++ [(n, k, v)]) := by
 unfold RulesAre at h ⊢
 simp [h]
open Go.RowKit
def kMatch : List UInt8 := [77, 97, 116, 99, 104]
def kOrdering : List UInt8 := [79, 114, 100, 101, 114, 105, 110, 103, 77, 97, 116, 99, 104]
def kSubstrings : List UInt8 := [83, 117, 98, 115, 116, 114, 105, 110, 103, 115, 77, 97, 116, 99, 104]
def kindOf (k : List UInt8) : Int := if k = kOrdering then 1 else if k = kSubstrings then 2 else 0
def newRow (base : List UInt8) (fo nv : Value) (k : List UInt8) : List UInt8 × Int × Value :=
 (smallL (base ++ k), kindOf k, .agg #[.string ⟨(base ++ k).toArray⟩, .int .i64 (kindOf k), fo, nv])
def newRows (base : List UInt8) (fo nv : Value) (ks : List (List UInt8)) : List (List UInt8 × Int × Value) := (kMatch :: ks).map (newRow base fo nv)
def Texts (w : World) (v : Value) (xs : List (List UInt8)) : Prop :=
 (xs = [] ∧ v = .slice none 0 0) ∨ ∃ b c, v = .slice (some ⟨b, 0, none⟩) xs.length c ∧ xs.length ≤ c ∧ b < w.heap.size ∧ ∀ j (hj : j < xs.length), w.cell? ⟨b, j, none⟩ = some (.string ⟨xs[j].toArray⟩)
theorem ba_app (a b : List UInt8) : (⟨a.toArray⟩ : ByteArray) ++ ⟨b.toArray⟩ = ⟨(a ++ b).toArray⟩ := by
 apply ByteArray.ext
 rw [ByteArray.data_append]
 simp
theorem setMap_heap {w : World} {r c : Nat} {es : Array MapEntry} (h : r < w.heap.size) : (World.setMap w r es c).heap[r]? = some (.map es c) := by simp [World.setMap, h]
theorem setMap_size {w : World} {r c : Nat} {es : Array MapEntry} : (World.setMap w r es c).heap.size = w.heap.size := by simp [World.setMap]
theorem setMap_other {w : World} {r c k : Nat} {es : Array MapEntry} (h : k ≠ r) : (World.setMap w r es c).heap[k]? = w.heap[k]? := by simp [World.setMap, Ne.symm h]
theorem setMap_cell {w : World} {r c p o : Nat} {es : Array MapEntry} (h : p ≠ r) : (World.setMap w r es c).cell? ⟨p, o, none⟩ = w.cell? ⟨p, o, none⟩ := World.cell?_of_block (setMap_other h)
theorem infoStr : ∃ i, Tryz.prog.info? 9 = some i ∧ i.zero = some (.string ⟨#[]⟩) ∧ i.size = 1 ∧ i.bytes = 16 := by
 obtain ⟨i, h1, h2, h3, h4⟩ := info_parts (show (Tryz.prog.info? 9).map (fun i => (i.zero, i.size, i.bytes)) = some (some (.string ⟨#[]⟩), 1, 16) by kernel_rfl)
 exact ⟨i, h1, h2, h3, h4⟩
def strV (x : List UInt8) : Value := .string ⟨x.toArray⟩
def Strs (W0 w : World) (v : Value) (xs : List (List UInt8)) : Prop :=
 w.ownsRow W0.heap.size 9 1 v xs.length (xs.map strV) ∧ Below W0.heap.size W0 w ∧ W0.heap.size ≤ w.heap.size
theorem Strs.nil (w : World) : Strs w w (.slice none 0 0) [] := ⟨World.ownsRow_nil _ _ _ _, Below.refl _ _, Nat.le_refl _⟩
theorem Strs.below {W0 w : World} {v : Value} {xs : List (List UInt8)} (h : Strs W0 w v xs) : Below W0.heap.size W0 w := h.2.1
theorem Strs.le {W0 w : World} {v : Value} {xs : List (List UInt8)} (h : Strs W0 w v xs) : W0.heap.size ≤ w.heap.size := h.2.2
theorem Strs.grow {W0 w w' : World} {v : Value} {xs : List (List UInt8)} (h : Strs W0 w v xs) (hb : Below w.heap.size w w') : Strs W0 w' v xs := by
 obtain ⟨ho, hB, hle⟩ := h
 refine ⟨ho.kept (row := none) ⟨hb.os, hb.tape, hb.output, hb.size, fun k hk _ => hb.block k hk⟩ ?_, hB.trans (hb.mono hle), Nat.le_trans hle hb.size⟩
 rcases hv : v.ownBlock with _ | g
 ·exact .inl rfl
 ·exact .inr (by simp)
theorem Strs.alloc {W0 w : World} {v : Value} {xs : List (List UInt8)} (h : Strs W0 w v xs) (o : Obj) : Strs W0 (w.alloc o) v xs := h.grow ((Below.refl _ _).alloc (Nat.le_refl _) o)
theorem Strs.grown {W0 w w' : World} {v v' : Value} {xs xs' : List (List UInt8)} (h : Strs W0 w v xs) (ho : w'.ownsRow W0.heap.size 9 1 v' xs'.length (xs'.map strV)) (hg : w.grownBy w' v.ownBlock) : Strs W0 w' v' xs' :=
 ⟨ho, h.2.1.grown hg h.2.2 (fun k hk => (h.1.lt k hk).1), Nat.le_trans h.2.2 hg.size⟩
theorem add_off (g j : Nat) : (⟨g, 0, none⟩ : Addr).add j = ⟨g, j, none⟩ := by unfold Addr.add; split <;> simp_all
theorem Strs.texts {W0 w : World} {v : Value} {xs : List (List UInt8)} (h : Strs W0 w v xs) : Texts w v xs := by
 obtain ⟨⟨h1, h2⟩, _, _⟩ := h
 rcases h2 with ⟨rfl, hn⟩ | ⟨g, cap, cur, rfl, r2, r3, r4, r5, r6, r7⟩
 ·exact .inl ⟨List.eq_nil_of_length_eq_zero hn, rfl⟩
 ·refine .inr ⟨g, cap, rfl, r4, (Array.getElem?_eq_some_iff.1 r3).1, fun j hj => ?_⟩
  simp only [World.cell?, r3]
  have : (cur.toList.take (xs.length * 1))[j]? = some (strV xs[j]) := by rw [r7]; simp [hj]
  rw [List.getElem?_take] at this
  simpa [hj, strV] using this
theorem Texts.keep {w w' : World} {v : Value} {xs : List (List UInt8)} (h : Texts w v xs) (hb : ∀ k, k < w.heap.size → w'.heap[k]? = w.heap[k]?) (hs : w.heap.size ≤ w'.heap.size) : Texts w' v xs := by
 rcases h with h | ⟨b, c, rfl, hc, hlt, hcell⟩
 ·exact .inl h
 ·exact .inr ⟨b, c, rfl, hc, by omega, fun j hj => by rw [World.cell?_of_block (w := w) (hb b hlt)]; exact hcell j hj⟩
theorem Texts.below {w w' : World} {v : Value} {xs : List (List UInt8)} (h : Texts w v xs) (hb : Below w.heap.size w w') : Texts w' v xs := h.keep hb.block hb.size
theorem Texts.cons {w : World} {v : Value} {x : List UInt8} {xs : List (List UInt8)} (h : Texts w v (x :: xs)) : ∃ b c, v = .slice (some ⟨b, 0, none⟩) (x :: xs).length c ∧ (x :: xs).length ≤ c ∧ b < w.heap.size ∧ Hid (∀ j (hj : j < (x :: xs).length), w.cell? ⟨b, j, none⟩ = some (.string ⟨(x :: xs)[j].toArray⟩)) := by
 rcases h with ⟨h, _⟩ | h
 ·cases h
 ·exact h
section
variable {ops : Array Oper} {rest : List Oper} {o : Oper} {a : Act} {Q : Exit → Act → World → Prop}
theorem strs_more {w : World} (hgd : o.guard = none) (s x : Operand) (ho : o.op = .call { callee := .builtin .append, args := #[s, x], argTypes := #[32, 32] })
  {v xv : Value} {xs ys : List (List UInt8)} {W0 : World} (hs : a.eval s = v) (hb : Strs W0 w v xs)
  (hx : a.eval x = xv) (hy : Texts w xv ys) (hlen : xs.length + ys.length < 4398046511104)
  (h : ∀ v' w', Strs W0 w' v' (xs ++ ys) → w.grownBy w' v.ownBlock → wpList Tryz.prog ops Q rest (a.put o.dst v') w') : wpList Tryz.prog ops Q (o :: rest) a w := by
 obtain ⟨i, h1, h2, h3, h4⟩ := infoStr
 rcases hy with ⟨rfl, rfl⟩ | ⟨b, c, rfl, hc, hlt, hcell⟩
 ·refine wpList_append_own_none hgd s x 32 ho W0.heap.size 9 i 1 Tryz.underlying32 h1 v _ _ hs hb.1 hx ?_
  exact h v w (by simpa using hb) (World.grownBy.refl _ _)
 ·refine wpList_append_own _ hgd s x 32 ho W0.heap.size 9 i (.string ⟨#[]⟩) 1 16 Tryz.underlying32 h1 h2 h3 h4 rfl (by decide) v _ _ hs hb.1 ⟨b, 0, none⟩ ys.length c (ys.map strV) hx (by simp) ?_ ?_ (by unfold maxLen; omega) (by omega) hb.2.2 ?_
  ·intro j u hj
   rw [add_off]
   have hjl : j < ys.length := by simpa using (List.getElem?_eq_some_iff.1 hj).1
   rw [hcell j hjl]
   simp [hjl] at hj
   rw [← hj]; rfl
  ·intro u hu
   simp at hu
   obtain ⟨q, _, rfl⟩ := hu
   rfl
  ·intro v' w' ho' hg _
   refine h v' w' ?_ hg
   exact hb.grown (by simpa using ho') hg
end
theorem Strs.made1 (w : World) (c : List UInt8) : Strs w (w.alloc (.cells #[.string ⟨c.toArray⟩] 9)) (.slice (some ⟨w.heap.size, 0, none⟩) 1 1) [c] := by
 refine ⟨?_, (Below.refl _ _).alloc (Nat.le_refl _) _, by simp⟩
 refine ⟨by simp, .inr ⟨w.heap.size, 1, #[.string ⟨c.toArray⟩], rfl, Nat.le_refl _, by show (w.heap.push _)[w.heap.size]? = _; simp, Nat.le_refl _, by decide, rfl, by simp [strV]⟩⟩
set_option maxRecDepth 100000 in
theorem put_c (base : List UInt8) (fA : Option Addr) (fN fC : Nat) (nF : Fn) (n1 n2 : Array Value) (fo nv kvv : Value) (hfo : fo = .slice fA fN fC) (hnv : nv = .func nF n1 n2) (ks : List (List UInt8)) (p r c : Nat) (es : Array MapEntry) (R : List (List UInt8 × Int × Value)) (w : World)
  (hp : w.cell? ⟨p, 0, none⟩ = some (.map (some r))) (hr : w.heap[r]? = some (.map es c)) (hes : RulesAre es R) (hks : Texts w kvv ks) (hkl : ks.length ≤ 2) (hbl : base.length ≤ 100) (hkk : ∀ k ∈ ks, k.length ≤ 100)
  (hfresh : ∀ i x, (newRows base fo nv ks)[i]? = some x → findR x.1 x.2.1 (R ++ (newRows base fo nv ks).take i) = none) :
  Calls Tryz.prog 152 #[.string ⟨base.toArray⟩, fo, nv, kvv, .pointer (some ⟨p, 0, none⟩)] w fun e w' => e = .returned (.tuple #[]) ∧
   ∃ es' c', w'.heap[r]? = some (.map es' c') ∧ RulesAre es' (R ++ newRows base fo nv ks) ∧ w.grownBy w' (some r) := by
 subst hfo hnv
 have HF := Lib.hid hfresh
 clear hfresh
 go_enter Tryz.func152, Tryz.ntmps152
 go_wp2_with (at_builtin; refine strs_more rfl _ _ rfl rfl (Strs.made1 w kMatch) rfl (hks.below ((Below.refl _ _).alloc (Nat.le_refl _) _)) (by simp; omega) ?_; intro v' w1 hs1 hg1; obtain ⟨g, cp, rfl, hcp, hglt, hcells⟩ := hs1.texts.cons)
 have hB1 : Below w.heap.size w w1 := hs1.below
 have hrlt : r < w.heap.size := (Array.getElem?_eq_some_iff.1 hr).1
 have hplt : p < w.heap.size := cell_lt hp
 have hr1 : w1.heap[r]? = some (.map es c) := (hB1.block r hrlt).trans hr
 have hp1 : w1.cell? ⟨p, 0, none⟩ = some (.map (some r)) := (hB1.cell (p := ⟨p, 0, none⟩) hplt).trans hp
 have hpr : p ≠ r := by rintro rfl; simp [World.cell?, hr1] at hp1
 have hgr : g ≠ r := by
  rintro rfl
  have := hcells.out 0 (by simp)
  simp [World.cell?, hr1] at this
 have hlen : (newRows base (.slice fA fN fC) (.func nF n1 n2) ks).length = ks.length + 1 := by simp [newRows]
 have HK := Lib.hid hkk
 have HB1 := Lib.hid hB1
 clear hkk hB1 hs1 hg1 hks hp hr
 go_loopg [16] (ks.length + 1) (fun gk s16 wr => ∃ (i : Nat) (es' : Array MapEntry) (c' : Nat), i ≤ ks.length + 1 ∧ s16 = .int .i64 i ∧ Aside (i + gk = ks.length + 1) ∧ Aside (wr.heap[r]? = some (.map es' c')) ∧ RulesAre es' (R ++ (newRows base (.slice fA fN fC) (.func nF n1 n2) ks).take i) ∧ w1.grownBy wr (some r))
 case atStart => exact ⟨0, es, c, by omega, rfl, by show _ = _; omega, hr1, by simpa using hes, World.grownBy.refl _ _⟩
 case round =>
  obtain ⟨i, es', c', hi, rfl, AG, AR, hes', hg⟩ := hrel
  by_cases hlt : i < ks.length + 1
  ·have hcell : wr.cell? ⟨g, i, none⟩ = some (.string ⟨((kMatch :: ks)[i]'(by simpa using hlt)).toArray⟩) := hg.cell (hcells.out i (by simpa using hlt)) (by simpa using hgr)
   have hpc : wr.cell? ⟨p, 0, none⟩ = some (.map (some r)) := hg.cell hp1 (by simpa using hpr)
   have hnew : (newRows base (.slice fA fN fC) (.func nF n1 n2) ks)[i]? = some (newRow base (.slice fA fN fC) (.func nF n1 n2) ((kMatch :: ks)[i]'(by simpa using hlt))) := by
    unfold newRows; rw [List.getElem?_map, List.getElem?_eq_getElem (by simpa using hlt)]; rfl
   have hfr := HF.out i _ hnew
   have htk : (newRows base (.slice fA fN fC) (.func nF n1 n2) ks).take (i + 1) = (newRows base (.slice fA fN fC) (.func nF n1 n2) ks).take i ++ [newRow base (.slice fA fN fC) (.func nF n1 n2) ((kMatch :: ks)[i]'(by simpa using hlt))] := by
    rw [List.take_add_one, hnew]; rfl
   have hkl2 : ((kMatch :: ks)[i]'(by simpa using hlt)).length ≤ 100 := by
    have hm : (kMatch :: ks)[i]'(by simpa using hlt) ∈ kMatch :: ks := List.getElem_mem _
    rcases List.mem_cons.1 hm with h | h
    ·rw [h]; decide
    ·exact HK.out _ h
   clear hcells hes
   generalize (kMatch :: ks)[i]'(by simpa using hlt) = k at *
   have happ := ba_app
   obtain ⟨q, rfl⟩ : ∃ q, gk = q + 1 := ⟨gk - 1, by have := AG.out; omega⟩
   have hup := fun (W : World) (hW : W.heap[r]? = some (.map es' c')) => update_run W r c' es' _ hW hes' (newRow base (.slice fA fN fC) (.func nF n1 n2) k).1 (newRow base (.slice fA fN fC) (.func nF n1 n2) k).2.1 (newRow base (.slice fA fN fC) (.func nF n1 n2) k).2.2 hfr
   simp only [newRow, kv] at hup
   have HT := Lib.hid htk
   clear htk hnew hfr
   have hrw : r < wr.heap.size := by have := hg.size; have := HB1.out.size; omega
   have hpw : p < wr.heap.size := by have := hg.size; have := HB1.out.size; omega
   have hsl : (base ++ k).length ≤ 140737488351232 := by simp; omega
   have hcat := fun w => run_string_add_lists (P := Tryz.prog) w base k (by omega) (by omega)
   have Hup := Lib.hid hup
   clear hup happ
   have fin : ∀ w2, Below wr.heap.size wr.drew w2 → ∃ es'' c'', (World.setMap w2 r (es'.push { key := kv (smallL (base ++ k)) (kindOf k), val := .agg #[.string ⟨(base ++ k).toArray⟩, .int .i64 (kindOf k), .slice fA fN fC, .func nF n1 n2], born := c' }) (c' + 1)).heap[r]? = some (.map es'' c'') ∧ RulesAre es'' (R ++ (newRows base (.slice fA fN fC) (.func nF n1 n2) ks).take (i + 1)) ∧ w1.grownBy (World.setMap w2 r (es'.push { key := kv (smallL (base ++ k)) (kindOf k), val := .agg #[.string ⟨(base ++ k).toArray⟩, .int .i64 (kindOf k), .slice fA fN fC, .func nF n1 n2], born := c' }) (c' + 1)) (some r) := by
    intro w2 hb2
    have hsz : wr.heap.size ≤ w2.heap.size := hb2.size
    refine ⟨_, _, setMap_heap (by omega), ?_, ?_⟩
    ·rw [HT.out, ← List.append_assoc]
     exact hes'.push _ _ _ _
    ·refine World.grownBy.trans hg ⟨hb2.os, hb2.tape, hb2.output, by rw [setMap_size]; exact hsz, fun j hj hne => ?_⟩
     rw [setMap_other (by simpa using hne)]
     exact hb2.block j hj
   have Fin := Lib.hid fin
   clear fin
   have AG' : Aside (i + 1 + q = ks.length + 1) := by have := AG.out; show _ = _; omega
   by_cases hk1 : k = kOrdering
   ·subst hk1
    have e0 : kindOf kOrdering = 1 := by decide
    rw [e0] at Hup Fin
    have e1 : (kOrdering == [79, 114, 100, 101, 114, 105, 110, 103, 77, 97, 116, 99, 104]) = true := by decide
    clear e0
    go_wp2_with fail
    go_region_held3 (fun w' => w'.cell? ⟨p, 0, none⟩ = some (.map (some r))) (first | exact hpc | exact hpc2 | exact (setMap_cell hpr).trans hpc2) (first | (go_at_call 39; refine (Small_c _ _ hsl).mono ?_; rintro e w2 ⟨rfl, hb2⟩; have hpc2 : w2.cell? ⟨p, 0, none⟩ = some (.map (some r)) := (hb2.cell (p := ⟨p, 0, none⟩) hpw).trans hpc; have hu2 := Hup.out w2 ((hb2.block r hrw).trans AR.out)))
    go_wp2
    go_roundg q
    case measure => omega
    case rel =>
     obtain ⟨es'', c'', f1, f2, f3⟩ := Fin.out _ hb2
     exact ⟨i + 1, es'', c'', by omega, by go_num, AG'.out, f1, f2, f3⟩
   ·by_cases hk2 : k = kSubstrings
    ·subst hk2
     have e0 : kindOf kSubstrings = 2 := by decide
     rw [e0] at Hup Fin
     have e1 : (kSubstrings == [79, 114, 100, 101, 114, 105, 110, 103, 77, 97, 116, 99, 104]) = false := by decide
     have e2 : (kSubstrings == [83, 117, 98, 115, 116, 114, 105, 110, 103, 115, 77, 97, 116, 99, 104]) = true := by decide
     clear e0 hk1
     go_wp2_with fail
     go_region_held3 (fun w' => w'.cell? ⟨p, 0, none⟩ = some (.map (some r))) (first | exact hpc | exact hpc2 | exact (setMap_cell hpr).trans hpc2) (first | (go_at_call 39; refine (Small_c _ _ hsl).mono ?_; rintro e w2 ⟨rfl, hb2⟩; have hpc2 : w2.cell? ⟨p, 0, none⟩ = some (.map (some r)) := (hb2.cell (p := ⟨p, 0, none⟩) hpw).trans hpc; have hu2 := Hup.out w2 ((hb2.block r hrw).trans AR.out)))
     go_wp2
     go_roundg q
     case measure => omega
     case rel =>
      obtain ⟨es'', c'', f1, f2, f3⟩ := Fin.out _ hb2
      exact ⟨i + 1, es'', c'', by omega, by go_num, AG'.out, f1, f2, f3⟩
    ·have e0 : kindOf k = 0 := by simp [kindOf, hk1, hk2]
     rw [e0] at Hup Fin
     have e1 : (k == [79, 114, 100, 101, 114, 105, 110, 103, 77, 97, 116, 99, 104]) = false := by rw [beq_eq_false_iff_ne]; exact hk1
     have e2 : (k == [83, 117, 98, 115, 116, 114, 105, 110, 103, 115, 77, 97, 116, 99, 104]) = false := by rw [beq_eq_false_iff_ne]; exact hk2
     clear hk1 hk2 e0
     go_wp2_with fail
     go_region_held3 (fun w' => w'.cell? ⟨p, 0, none⟩ = some (.map (some r))) (first | exact hpc | exact hpc2 | exact (setMap_cell hpr).trans hpc2) (first | (go_at_call 39; refine (Small_c _ _ hsl).mono ?_; rintro e w2 ⟨rfl, hb2⟩; have hpc2 : w2.cell? ⟨p, 0, none⟩ = some (.map (some r)) := (hb2.cell (p := ⟨p, 0, none⟩) hpw).trans hpc; have hu2 := Hup.out w2 ((hb2.block r hrw).trans AR.out)))
     go_wp2
     go_roundg q
     case measure => omega
     case rel =>
      obtain ⟨es'', c'', f1, f2, f3⟩ := Fin.out _ hb2
      exact ⟨i + 1, es'', c'', by omega, by go_num, AG'.out, f1, f2, f3⟩
  ·obtain rfl : i = ks.length + 1 := by omega
   have hfin : RulesAre es' (R ++ newRows base (.slice fA fN fC) (.func nF n1 n2) ks) := by
    rw [List.take_of_length_le (by omega)] at hes'; exact hes'
   have hfg : w.grownBy wr (some r) := World.grownBy.trans ⟨HB1.out.os, HB1.out.tape, HB1.out.output, HB1.out.size, fun k hk _ => HB1.out.block k hk⟩ hg
   have Hf := Lib.hid hfin
   clear hfin hes'
   go_wp2
   go_end0
   exact ⟨rfl, es', c', AR.out, Hf.out, hfg⟩
end Go.Proofs.YtconnibnpckadaaGreatDoor
