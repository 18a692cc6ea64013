import Derived.Test.YthenffabboomnaaGreatDoorD09
import Derived.Laws.Rows
import Derived.Laws.Tables
import Derived.Laws.CopyOwn
import Derived.ChangeKeysEq
set_option linter.all false
set_option maxHeartbeats 8000000
set_option maxRecDepth 100000
set_option linter.all false
namespace Go.Proofs.YthenffabboomnaaGreatDoor
open Go.RowKit
def plainV (m : Scr.MsgP) : Value := .agg #[.iface 3 (.int .i64 m.version), .iface 9 (.string ⟨m.dn.toArray⟩), .iface 4 (.bool m.sasl), .iface 9 (.string ⟨m.secret.toArray⟩), .iface 3 (.int .i64 m.scope), .iface 3 (.int .i64 m.deref), .iface 3 (.int .i64 m.size), .iface 3 (.int .i64 m.time), .iface 4 (.bool m.typesOnly),
 .iface 160 (.agg #[.string ⟨m.newRdn.toArray⟩, .string ⟨m.newSup.toArray⟩, .string ⟨m.typ.toArray⟩]), .iface 161 (.agg #[.bool m.deleteOld, .bool m.hasSup]), .iface 162 (.agg #[.string ⟨m.val.toArray⟩, .string ⟨m.oid.toArray⟩]), .iface 4 (.bool m.has), .iface 3 (.int .i64 m.target), .iface 3 (.int .i64 m.code), .iface 162 (.agg #[.string ⟨m.matched.toArray⟩, .string ⟨m.text.toArray⟩])]
set_option maxRecDepth 100000 in
theorem plain_c27 (m : Scr.MsgP) (v : StepV) (w : World) : Calls Tryz.prog 80 #[.agg (msgCells m v).toArray] w fun e w' => e = .returned (plainV m) ∧ Below w.heap.size w w' := by
 unfold msgCells plainV
 generalize (⟨m.dn.toArray⟩ : ByteArray) = s1
 generalize (⟨m.secret.toArray⟩ : ByteArray) = s2
 go_enter Tryz.func80, Tryz.ntmps80
 go_wp2_with fail
 refine bodyPost_ret (v := _) ?_ rfl ⟨rfl, ((Below.refl _ _).alloc (Nat.le_refl _) _).alloc (by simp) _⟩
 simp [results, Tryz.results80, go_sem]
/-! The requests' words. -/
def reqsL : List (List UInt8 × Value) := [([98, 105, 110, 100], .func (.func 104) #[] #[]), ([117, 110, 98, 105, 110, 100], .func (.func 105) #[] #[]), ([115, 101, 97, 114, 99, 104], .func (.func 106) #[] #[]), ([99, 111, 109, 112, 97, 114, 101], .func (.func 107) #[] #[]), ([100, 101, 108, 101, 116, 101], .func (.func 109) #[] #[]), ([97, 100, 100], .func (.func 110) #[] #[]), ([109, 111, 100, 105, 102, 121], .func (.func 111) #[] #[]), ([109, 111, 118, 101], .func (.func 112) #[] #[]), ([97, 98, 97, 110, 100, 111, 110], .func (.func 113) #[] #[]), ([101, 120, 116, 101, 110, 100], .func (.func 114) #[] #[])]
theorem zeroReq (w : World) : (zeroValue 114).run Tryz.prog w = .ok .nilFunc w := by kernel_rfl
theorem underReq : Tryz.prog.underlying 116 = some (.map 9 114) := Tryz.underlying116
theorem MapS.updReq {w : World} {m c B : Nat} {es : Array MapEntry} {R : List (List UInt8 × Value)} (h : MapS w m es c R) (k : List UInt8) (v : Value) (hn : look R k = none) {w0 : World} (hb : Below B w0 w) (hBm : B ≤ m) :
  ∃ W es', (Instr.mapUpdate 116 (.map (some m)) (.string ⟨k.toArray⟩) v).run Tryz.prog w = .ok () W ∧ MapS W m es' (c + 1) (R ++ [(k, v)]) ∧ Below B w0 W :=
 ⟨_, _, h.update underReq v hn, h.put k v, hb.grown (setMap_grown _ _ _ _) (by have := h.lt; omega) (fun j e => by cases e; exact hBm)⟩
def ReqsRet (w : World) (e : Ending) (w' : World) : Prop := ∃ m es c, e = .returned (.map (some m)) ∧ MapS w' m es c reqsL ∧ Below w.heap.size w w'
set_option maxRecDepth 100000 in
theorem requests27_c (w : World) : Calls Tryz.prog 70 #[] w (ReqsRet w) := by
 have hmm := @run_makeMap Tryz.prog
 have HX := Lib.hid (MapS.made w)
 have HB := Lib.hid ((Below.refl w.heap.size w).alloc (Nat.le_refl _) (.map #[] 0))
 have HM := Lib.hid (Nat.le_refl w.heap.size)
 go_enter Tryz.func70, Tryz.ntmps70
 go_wp2_with fail
 obtain ⟨W, es, hu, hX, hb⟩ := HX.out.updReq [98, 105, 110, 100] (.func (.func 104) #[] #[]) (by rfl) HB.out HM.out
 simp only [hu, Result.andThen_ok]
 clear hu
 have HX := Lib.hid hX
 have HB := Lib.hid hb
 clear hX hb
 go_wp2_with fail
 obtain ⟨W, es, hu, hX, hb⟩ := HX.out.updReq [117, 110, 98, 105, 110, 100] (.func (.func 105) #[] #[]) (by rfl) HB.out HM.out
 simp only [hu, Result.andThen_ok]
 clear hu
 have HX := Lib.hid hX
 have HB := Lib.hid hb
 clear hX hb
 go_wp2_with fail
 obtain ⟨W, es, hu, hX, hb⟩ := HX.out.updReq [115, 101, 97, 114, 99, 104] (.func (.func 106) #[] #[]) (by rfl) HB.out HM.out
 simp only [hu, Result.andThen_ok]
 clear hu
 have HX := Lib.hid hX
 have HB := Lib.hid hb
 clear hX hb
 go_wp2_with fail
 obtain ⟨W, es, hu, hX, hb⟩ := HX.out.updReq [99, 111, 109, 112, 97, 114, 101] (.func (.func 107) #[] #[]) (by rfl) HB.out HM.out
 simp only [hu, Result.andThen_ok]
 clear hu
 have HX := Lib.hid hX
 have HB := Lib.hid hb
 clear hX hb
 go_wp2_with fail
 obtain ⟨W, es, hu, hX, hb⟩ := HX.out.updReq [100, 101, 108, 101, 116, 101] (.func (.func 109) #[] #[]) (by rfl) HB.out HM.out
 simp only [hu, Result.andThen_ok]
 clear hu
 have HX := Lib.hid hX
 have HB := Lib.hid hb
 clear hX hb
 go_wp2_with fail
 obtain ⟨W, es, hu, hX, hb⟩ := HX.out.updReq [97, 100, 100] (.func (.func 110) #[] #[]) (by rfl) HB.out HM.out
 simp only [hu, Result.andThen_ok]
 clear hu
 have HX := Lib.hid hX
 have HB := Lib.hid hb
 clear hX hb
 go_wp2_with fail
 obtain ⟨W, es, hu, hX, hb⟩ := HX.out.updReq [109, 111, 100, 105, 102, 121] (.func (.func 111) #[] #[]) (by rfl) HB.out HM.out
 simp only [hu, Result.andThen_ok]
 clear hu
 have HX := Lib.hid hX
 have HB := Lib.hid hb
 clear hX hb
 go_wp2_with fail
 obtain ⟨W, es, hu, hX, hb⟩ := HX.out.updReq [109, 111, 118, 101] (.func (.func 112) #[] #[]) (by rfl) HB.out HM.out
 simp only [hu, Result.andThen_ok]
 clear hu
 have HX := Lib.hid hX
 have HB := Lib.hid hb
 clear hX hb
 go_wp2_with fail
 obtain ⟨W, es, hu, hX, hb⟩ := HX.out.updReq [97, 98, 97, 110, 100, 111, 110] (.func (.func 113) #[] #[]) (by rfl) HB.out HM.out
 simp only [hu, Result.andThen_ok]
 clear hu
 have HX := Lib.hid hX
 have HB := Lib.hid hb
 clear hX hb
 go_wp2_with fail
 obtain ⟨W, es, hu, hX, hb⟩ := HX.out.updReq [101, 120, 116, 101, 110, 100] (.func (.func 114) #[] #[]) (by rfl) HB.out HM.out
 simp only [hu, Result.andThen_ok]
 clear hu
 have HX := Lib.hid hX
 have HB := Lib.hid hb
 clear hX hb
 go_wp2_with fail
 go_ret
 exact ⟨_, _, _, rfl, HX.out, HB.out⟩
end Go.Proofs.YthenffabboomnaaGreatDoor
set_option linter.all false
namespace Go.Proofs.YthenffabboomnaaGreatDoor
open Go.RowKit
def IntsAt (w : World) (g : Nat) (l : List Int) : Prop := ∀ j (hj : j < l.length), w.cell? ⟨g, j, none⟩ = some (.int .i64 l[j])
def atI27 (o : Option Nat) : Int := match o with
 | some i => (i : Int)
 | none => -1
theorem find_at27 {l : List Int} {x : Int} {k : Nat} (hk : k < l.length) (h : (l[k] == x) = true) (hn : ∀ j (hj : j < k), (l[j]'(by omega) == x) = false) : l.findIdx? (· == x) = some k := by
 rw [List.findIdx?_eq_some_iff_getElem]
 exact ⟨hk, h, fun j hj => by rw [hn j hj]; simp⟩
theorem find_none27 {l : List Int} {x : Int} (hn : ∀ j (hj : j < l.length), (l[j] == x) = false) : l.findIdx? (· == x) = none := by
 rw [List.findIdx?_eq_none_iff]
 intro y hy
 obtain ⟨j, hj, rfl⟩ := List.mem_iff_getElem.1 hy
 exact hn j hj
set_option maxRecDepth 100000 in
theorem IndexI_c (l : List Int) (x : Int) (g c : Nat) (w : World) (h : IntsAt w g l) (hl : l.length ≤ 1000000) (hc : l.length ≤ c) :
  Calls Tryz.prog 153 #[.slice (some ⟨g, 0, none⟩) l.length c, .int .i64 x] w fun e w' => e = .returned (.int .i64 (atI27 (l.findIdx? (· == x)))) ∧ w' = w := by
 obtain ⟨R, hR⟩ : ∃ R, l.findIdx? (· == x) = R := ⟨_, rfl⟩
 rw [hR]
 have HR := Lib.hid hR
 have HH := Lib.hid h
 clear hR h
 have hci : (l.length : Int) ≤ (c : Int) := by omega
 go_enter Tryz.func153, Tryz.ntmps153
 go_wp2_with fail
 go_loopg [5, 8] l.length (fun gk _ i wr => ∃ k : Nat, k ≤ l.length ∧ i = .int .i64 (k : Int) ∧ Aside (l.length ≤ k + gk) ∧ Aside (wr = w) ∧ Aside (∀ j (hj : j < k) (hk : k ≤ l.length), (l[j]'(by omega) == x) = false))
 case atStart => exact ⟨0, by omega, rfl, by show _ ≤ _; omega, rfl, fun j hj => by omega⟩
 case round =>
  obtain ⟨k, hk, rfl, AG, AW, AN⟩ := hrel
  have hW : wr = w := AW.out
  subst hW
  clear AW
  by_cases hlt : k < l.length
  ·have hki : (k : Int) < (l.length : Int) := by omega
   have c0 := HH.out k hlt
   obtain ⟨q, rfl⟩ : ∃ q, gk = q + 1 := ⟨gk - 1, by have := AG.out; omega⟩
   cases hx : (l[k] == x)
   ·have hxx : (x == l[k]) = false := by rw [beq_eq_false_iff_ne] at hx ⊢; exact fun e => hx e.symm
    have HN : Hid (∀ j (hj : j < k + 1) (hk : k + 1 ≤ l.length), (l[j]'(by omega) == x) = false) := Lib.hid (fun j hj hk => by
     by_cases e : j = k
     ·subst e; exact hx
     ·exact AN.out j (by omega) (by omega))
    clear AN hx
    generalize l[k] = y at *
    go_wp2_with fail
    go_roundg q
    case measure => omega
    case rel => exact ⟨k + 1, by omega, by go_num, by have := AG.out; show _ ≤ _; omega, rfl, HN.out⟩
   ·have hxx : (x == l[k]) = true := by rw [beq_iff_eq] at hx ⊢; exact hx.symm
    have HF := Lib.hid (find_at27 hlt hx (fun j hj => AN.out j hj (by omega)))
    rw [HR.out] at HF
    clear AN hx
    generalize l[k] = y at *
    go_wp2_with fail
    go_ret
    rw [HF.out]
    exact ⟨rfl, rfl⟩
  ·obtain rfl : k = l.length := by omega
   have HF := Lib.hid (find_none27 (fun j hj => AN.out j hj (Nat.le_refl _)))
   rw [HR.out] at HF
   clear AN
   go_wp2_with fail
   go_ret
   rw [HF.out]
   exact ⟨rfl, rfl⟩
theorem atI_has (l : List Int) (x : Int) : decide (0 ≤ atI27 (l.findIdx? (· == x))) = l.contains x := by
 cases h : l.findIdx? (· == x) with
 | none =>
  rw [List.findIdx?_eq_none_iff] at h
  have hc : l.contains x = false := by
   rw [← Bool.not_eq_true, List.contains_iff_mem]
   intro hm
   have := h x hm
   simp at this
  rw [hc]
  rfl
 | some i =>
  rw [List.findIdx?_eq_some_iff_getElem] at h
  obtain ⟨hi, h1, _⟩ := h
  have hc : l.contains x = true := by
   rw [List.contains_iff_mem]
   rw [beq_iff_eq] at h1
   rw [← h1]
   exact List.getElem_mem hi
  rw [hc]
  show decide (0 ≤ (i : Int)) = true
  exact decide_eq_true (by omega)
theorem isOp_c (l : List Int) (x : Int) (g c : Nat) (w : World) (h : IntsAt w g l) (hl : l.length ≤ 1000000) (hc : l.length ≤ c) :
  Calls Tryz.prog 119 #[.int .i64 x, .slice (some ⟨g, 0, none⟩) l.length c] w fun e w' => e = .returned (.bool (l.contains x)) ∧ w' = w := by
 have HI := Lib.hid (IndexI_c l x g c w h hl hc)
 have ha := atI_has l x
 rw [← ha]
 clear h ha
 generalize atI27 (l.findIdx? (· == x)) = z at *
 have HC : Hid (Calls Tryz.prog 135 #[.slice (some ⟨g, 0, none⟩) l.length c, .int .i64 x] w fun e w' => e = .returned (.bool (decide (0 ≤ z))) ∧ w' = w) := Lib.hid (by
  go_enter Tryz.func135, Tryz.ntmps135
  go_wp2_with (go_at_call 153; (with_reducible refine HI.out.mono ?_); rintro e w1 ⟨rfl, rfl⟩)
  go_ret
  exact ⟨rfl, rfl⟩)
 go_enter Tryz.func119, Tryz.ntmps119
 go_wp2_with (go_at_call 135; (with_reducible refine HC.out.mono ?_); rintro e w1 ⟨rfl, rfl⟩)
 go_ret
 exact ⟨rfl, rfl⟩
theorem ints_new (w : World) (a b : Int) : IntsAt (w.alloc (.cells #[.int .i64 a, .int .i64 b] 3)) w.heap.size [a, b] := by
 intro j hj
 have hb := Bk.new w 3 #[.int .i64 a, .int .i64 b]
 match j, hj with
 | 0, _ => exact hb.cell 0
 | 1, _ => exact hb.cell 1
end Go.Proofs.YthenffabboomnaaGreatDoor
set_option linter.all false
namespace Go.Proofs.YthenffabboomnaaGreatDoor
open Go.RowKit
def delM (id : Int) (dn : List UInt8) : Scr.MsgP := { Scr.zeroMsg with id := id, op := 10, dn := dn }
theorem inRange_c (n m : Int) (w : World) : Calls Tryz.prog 79 #[.int .i64 n, .int .i64 m] w fun e w' => e = .returned (.bool (decide (0 ≤ n) && decide (n ≤ m))) ∧ w' = w := by
 by_cases h : 0 ≤ n
 ·have hd : decide (0 ≤ n) = true := decide_eq_true h
  go_enter Tryz.func79, Tryz.ntmps79
  go_wp2_with fail
  all_goals
   go_ret
   exact ⟨by simp [*], rfl⟩
 ·have hd : decide (0 ≤ n) = false := decide_eq_false h
  go_enter Tryz.func79, Tryz.ntmps79
  go_wp2_with fail
  all_goals
   go_ret
   exact ⟨by simp [*], rfl⟩
theorem msg_size : (Tryz.prog.info? 37).map (·.size) = some 28 := by kernel_rfl
theorem load_msg {W : World} {g : Nat} {CS : Array Value} (h : Bk W g 37 CS) (hs : (Tryz.prog.info? 37).map (·.size) = some CS.size) : (loadVar 37 ⟨g, 0, none⟩).run Tryz.prog W = .ok (.agg CS) W :=
 run_loadVar_row W g 37 37 CS (0, 0) _ h Tryz.underlying37 rfl hs
def BareRet (CS : Array Value) (w : World) (e : Ending) (w' : World) : Prop := e = .returned (.tuple #[.agg CS, .bool true]) ∧ Below w.heap.size w w'
def zeroMC : Array Value := #[.int .i64 0, .int .i64 0, .string ⟨#[]⟩, .int .i64 0, .bool false, .string ⟨#[]⟩, .int .i64 0, .int .i64 0, .int .i64 0, .int .i64 0, .bool false, .slice none 0 0, .slice none 0 0, .slice none 0 0, .slice none 0 0, .string ⟨#[]⟩, .string ⟨#[]⟩, .bool false, .bool false, .string ⟨#[]⟩, .string ⟨#[]⟩, .string ⟨#[]⟩, .bool false, .int .i64 0, .int .i64 0, .string ⟨#[]⟩, .string ⟨#[]⟩, .slice none 0 0]
def delL (id : Int) (dn : Value) : Array Value := #[.int .i64 id, .int .i64 10, dn, .int .i64 0, .bool false, .string ⟨#[]⟩, .int .i64 0, .int .i64 0, .int .i64 0, .int .i64 0, .bool false, nilSl, nilSl, nilSl, nilSl, .string ⟨#[]⟩, .string ⟨#[]⟩, .bool false, .bool false, .string ⟨#[]⟩, .string ⟨#[]⟩, .string ⟨#[]⟩, .bool false, .int .i64 0, .int .i64 0, .string ⟨#[]⟩, .string ⟨#[]⟩, nilSl]
set_option maxRecDepth 100000 in
theorem bare_del (id : Int) (s : ByteArray) (w : World) : Calls Tryz.prog 78 #[.agg (delL id (.string s))] w (BareRet (delL id (.string s)) w) := by
 have HO : Hid (∀ (W : World) (g : Nat), IntsAt W g [8, 4] → Calls Tryz.prog 119 #[.int .i64 10, .slice (some ⟨g, 0, none⟩) 2 2] W fun e w' => e = .returned (.bool false) ∧ w' = W) := Lib.hid (fun W g h => isOp_c [8, 4] 10 g 2 W h (by decide) (by decide))
 obtain ⟨CS, hCS⟩ : ∃ CS, delL id (.string s) = CS := ⟨_, rfl⟩
 have HC0 : Hid (CS[0]? = some (.int .i64 id)) := Lib.hid (by rw [← hCS]; rfl)
 have HC1 : Hid (CS[1]? = some (.int .i64 10)) := Lib.hid (by rw [← hCS]; rfl)
 have HC2 : Hid (CS[2]? = some (.string s)) := Lib.hid (by rw [← hCS]; rfl)
 have HC27 : Hid (CS[27]? = some (.slice none 0 0)) := Lib.hid (by rw [← hCS]; rfl)
 have HCS := Lib.hid hCS
 rw [hCS]
 clear hCS
 have hcs : CS.size = 28 := by rw [← HCS.out]; rfl
 have HSZ : Hid ((Tryz.prog.info? 37).map (·.size) = some CS.size) := Lib.hid (by rw [hcs]; exact msg_size)
 clear hcs
 have hw1 := (Below.refl w.heap.size w).alloc (Nat.le_refl _) (.cells CS 37)
 have hb1 := Bk.new w 37 CS
 have hs1 : (w.alloc (.cells CS 37)).heap.size = w.heap.size + 1 := by simp
 obtain ⟨W1, hW1⟩ : ∃ W1, w.alloc (.cells CS 37) = W1 := ⟨_, rfl⟩
 rw [hW1] at hw1 hb1 hs1
 have hw2 := (Below.refl W1.heap.size W1).alloc (Nat.le_refl _) (.cells zeroMC 37)
 have hb2 := Bk.new W1 37 zeroMC
 have hs2 : (W1.alloc (.cells zeroMC 37)).heap.size = w.heap.size + 1 + 1 := by simp [hs1]
 have h12 := hb1.below hw2
 obtain ⟨W2, hW2⟩ : ∃ W2, W1.alloc (.cells zeroMC 37) = W2 := ⟨_, rfl⟩
 rw [hW2] at hw2 hb2 hs2 h12
 have hwz := (Below.refl W2.heap.size W2).alloc (Nat.le_refl _) (.cells zeroMC 37)
 have hbz := Bk.new W2 37 zeroMC
 have hsz : (W2.alloc (.cells zeroMC 37)).heap.size = w.heap.size + 1 + 1 + 1 := by simp [hs2]
 have h1z := h12.below hwz
 have h2z := hb2.below hwz
 obtain ⟨Wz, hWz⟩ : ∃ Wz, W2.alloc (.cells zeroMC 37) = Wz := ⟨_, rfl⟩
 rw [hWz] at hwz hbz hsz h1z h2z
 have hw3 := below_setRow hwz (Nat.le_refl _) (delL id (.string ⟨#[]⟩))
 have hb3 : Bk (Wz.setRow W2.heap.size (delL id (.string ⟨#[]⟩))) W2.heap.size 37 (delL id (.string ⟨#[]⟩)) := setRow_heap _ _ _ _ _ _ hbz
 have hs3 : (Wz.setRow W2.heap.size (delL id (.string ⟨#[]⟩))).heap.size = w.heap.size + 1 + 1 + 1 := by rw [setRow_size]; exact hsz
 have h13 : Bk (Wz.setRow W2.heap.size (delL id (.string ⟨#[]⟩))) w.heap.size 37 CS := (setRow_other _ _ _ _ (by omega)).trans h1z
 have h23 : Bk (Wz.setRow W2.heap.size (delL id (.string ⟨#[]⟩))) W1.heap.size 37 zeroMC := (setRow_other _ _ _ _ (by omega)).trans h2z
 obtain ⟨W3, hW3⟩ : ∃ W3, Wz.setRow W2.heap.size (delL id (.string ⟨#[]⟩)) = W3 := ⟨_, rfl⟩
 rw [hW3] at hw3 hb3 hs3 h13 h23
 have hw4 := (Below.refl W3.heap.size W3).alloc (Nat.le_refl _) (.cells #[.int .i64 8, .int .i64 4] 3)
 have hi4 := ints_new W3 8 4
 have h14 := h13.below hw4
 have h24 := h23.below hw4
 have h34 := hb3.below hw4
 obtain ⟨W4, hW4⟩ : ∃ W4, W3.alloc (.cells #[.int .i64 8, .int .i64 4] 3) = W4 := ⟨_, rfl⟩
 rw [hW4] at hw4 hi4 h14 h24 h34
 have HI4 := Lib.hid hi4
 have k0 := (h12.cell 0).trans HC0.out
 have k1 := (h12.cell 1).trans HC1.out
 have k27 := (h12.cell 27).trans HC27.out
 have j1 := (h13.cell 1).trans HC1.out
 have l1 := (h14.cell 1).trans HC1.out
 have l2 := (h14.cell 2).trans HC2.out
 have m2 := h34.cell 2
 have n2 := h34.frozen 2
 obtain ⟨L4, hL4⟩ : ∃ L4, delL id (.string ⟨#[]⟩) = L4 := ⟨_, rfl⟩
 have hL5 : L4.setIfInBounds 2 (.string s) = CS := by rw [← hL4, ← HCS.out]; rfl
 have hm2 : L4[2]? = some (.string ⟨#[]⟩) := by rw [← hL4]; rfl
 rw [hL4, hm2] at m2
 rw [hL4] at h34
 have hx5 := h34.set 2 (.string s)
 rw [hL5] at hx5
 have hz5 := h24.far (g' := W2.heap.size) (i := 2) (by omega) (.string s)
 have HX5 := Lib.hid hx5
 have HZ5 := Lib.hid hz5
 have HBL : Hid (Below w.heap.size w W4) := Lib.hid (((hw1.trans (hw2.mono hw1.size)).trans (hw3.mono (Nat.le_trans hw1.size hw2.size))).trans (hw4.mono (Nat.le_trans (Nat.le_trans hw1.size hw2.size) hw3.size)))
 have HON : Hid ((CS.all (·.oneCell')) = true) := Lib.hid (by rw [← HCS.out]; unfold delL nilSl; simp [Value.oneCell'])
 have HZS : Hid (zeroMC.size = CS.size) := Lib.hid (by rw [← HCS.out]; rfl)
 have HLE : Hid (w.heap.size ≤ W1.heap.size ∧ w.heap.size ≤ W2.heap.size) := Lib.hid ⟨by omega, by omega⟩
 unfold zeroMC at hW2
 have HBZ := Lib.hid hbz
 have HW3 := Lib.hid hW3
 have HS3 : Hid ((Tryz.prog.info? 37).map (·.size) = some (delL id (.string ⟨#[]⟩)).size) := Lib.hid msg_size
 have HO3 : Hid (((delL id (.string ⟨#[]⟩)).all (·.oneCell')) = true) := Lib.hid (by unfold delL nilSl; simp [Value.oneCell'])
 unfold zeroMC at hWz
 clear hW3 hwz hbz hsz h1z h2z
 clear hw1 hb1 hw2 hb2 hw3 hb3 hw4 hi4 h12 h13 h14 h23 h24 h34 hL4 hL5 hm2 hx5 hz5 hs1 hs2 hs3
 go_enter Tryz.func78, Tryz.ntmps78
 go_upto_region 1 with fail
 clear hW1 hW2
 go_upto_region 2 with (refine wpList_store_row rfl 37 _ _ rfl W2.heap.size (delL id (.string ⟨#[]⟩)) rfl rfl 37 zeroMC HBZ.out HS3.out rfl HO3.out ?_; rw [HW3.out])
 clear HW3 hWz
 go_wp2_with (first
  | (go_at_call 119; (with_reducible refine (HO.out _ _ HI4.out).mono ?_); rintro e w5 ⟨rfl, rfl⟩)
  | (refine wpList_load_row rfl 37 _ rfl W2.heap.size rfl 37 CS (0, 0) _ HX5.out Tryz.underlying37 rfl HSZ.out ?_)
  | (refine wpList_store_row rfl 37 _ _ rfl W1.heap.size CS rfl rfl 37 zeroMC HZ5.out HSZ.out HZS.out HON.out ?_))
 have HF := Lib.hid (setRow_heap _ _ _ CS _ _ HZ5.out)
 have hl := load_msg HF.out HSZ.out
 refine bodyPost_ret (v := .tuple #[.agg CS, .bool true]) ?_ rfl ⟨rfl, below_setRow (HBL.out.setCell (p := ⟨W2.heap.size, 2, none⟩) HLE.out.2 _) HLE.out.1 _⟩
 simp [results, Tryz.results78, asAddr, hl]
end Go.Proofs.YthenffabboomnaaGreatDoor
set_option linter.all false
namespace Go.Proofs.YthenffabboomnaaGreatDoor
open Go.RowKit
theorem cells_str27 : Tryz.prog.cellsOf 9 = 1 := by kernel_rfl
theorem cells_bool27 : Tryz.prog.cellsOf 4 = 1 := by kernel_rfl
theorem cells_any27 : Tryz.prog.cellsOf 20 = 1 := by kernel_rfl
theorem comp27 {t : TypeId} (h : (Tryz.prog.info? t).map (·.comparable) = some true) : ∃ i, Tryz.prog.info? t = some i ∧ i.comparable = true := by
 cases hi : Tryz.prog.info? t with
 | none => rw [hi] at h; cases h
 | some i => rw [hi] at h; exact ⟨i, rfl, by simpa using h⟩
theorem eq_iface27 (w : World) (d : Nat) (tx : TypeId) (x y : Value) (h : (Tryz.prog.info? tx).map (·.comparable) = some true) : (Op.equalIn (d + 1) 20 (.iface tx x) (.iface tx y)).run Tryz.prog w = (Op.equalIn d tx x y).run Tryz.prog w := by
 obtain ⟨i, hi, hc⟩ := comp27 h
 simp [Op.equalIn, run_underlying Tryz.underlying20, typeInfo, hi, hc]
theorem items_all (w : World) (d : Nat) (e : TypeId) (c : Nat) (xs ys : Array Value) : ∀ (is : List Nat) (R : Nat → Bool), (∀ i ∈ is, ∃ a b, (part e xs (i * c)).run Tryz.prog w = .ok a w ∧ (part e ys (i * c)).run Tryz.prog w = .ok b w ∧ (Op.equalIn d e a b).run Tryz.prog w = .ok (R i) w) →
  (Op.eqItems d e c xs ys is).run Tryz.prog w = .ok (is.all R) w
 | [], R, _ => by simp [Op.eqItems]
 | i :: is, R, h => by
  obtain ⟨a, b, ha, hb, hr⟩ := h i (List.mem_cons_self ..)
  simp only [Op.eqItems, Sem.run_bind, ha, hb, hr, Result.andThen_ok]
  cases hRi : R i with
  | false => simp [hRi]
  | true =>
   simp only [hRi, Bool.not_true, Bool.false_eq_true, if_false, List.all_cons, Bool.true_and]
   exact items_all w d e c xs ys is R (fun j hj => h j (List.mem_cons_of_mem _ hj))
theorem part_one27 (w : World) (t : TypeId) (xs : Array Value) (i : Nat) (v : Value) (h : xs[i]? = some v) (ha : (isAgg t).run Tryz.prog w = .ok false w) : (part t xs i).run Tryz.prog w = .ok v w := by
 unfold part
 simp [Sem.run_bind, ha, h]
theorem eq_str27 (w : World) (d : Nat) (a b : List UInt8) : (Op.equalIn (d + 1) 9 (.string ⟨a.toArray⟩) (.string ⟨b.toArray⟩)).run Tryz.prog w = .ok (a == b) w := by
 rw [run_equalIn_string w d _ _ _ Tryz.underlying9]
 go_simp
theorem range_cases {n i : Nat} (h : i ∈ List.range n) : i < n := List.mem_range.1 h
theorem eq_strs3 (w : World) (d : Nat) (a b c a' b' c' : List UInt8) : (Op.equalIn (d + 2) 160 (.agg #[.string ⟨a.toArray⟩, .string ⟨b.toArray⟩, .string ⟨c.toArray⟩]) (.agg #[.string ⟨a'.toArray⟩, .string ⟨b'.toArray⟩, .string ⟨c'.toArray⟩])).run Tryz.prog w = .ok (a == a' && b == b' && c == c') w := by
 obtain ⟨i, hi⟩ : ∃ i, Tryz.prog.info? 9 = some i := by
  obtain ⟨i, hi, _⟩ := comp27 (t := 9) (by kernel_rfl)
  exact ⟨i, hi⟩
 rw [run_equalIn_array w (d + 1) _ _ Tryz.underlying160 hi, cells_str27]
 rw [items_all w (d + 1) _ 1 _ _ (List.range 3) (fun i => [a == a', b == b', c == c'].getD i true)]
 ·simp [List.range, List.range.loop, Bool.and_assoc]
 ·intro i hi
  have hlt := range_cases hi
  match i, hlt with
  | 0, _ => exact ⟨_, _, part_one27 w _ _ _ _ rfl (by kernel_rfl), part_one27 w _ _ _ _ rfl (by kernel_rfl), eq_str27 w d a a'⟩
  | 1, _ => exact ⟨_, _, part_one27 w _ _ _ _ rfl (by kernel_rfl), part_one27 w _ _ _ _ rfl (by kernel_rfl), eq_str27 w d b b'⟩
  | 2, _ => exact ⟨_, _, part_one27 w _ _ _ _ rfl (by kernel_rfl), part_one27 w _ _ _ _ rfl (by kernel_rfl), eq_str27 w d c c'⟩
theorem eq_strs2 (w : World) (d : Nat) (a b a' b' : List UInt8) : (Op.equalIn (d + 2) 162 (.agg #[.string ⟨a.toArray⟩, .string ⟨b.toArray⟩]) (.agg #[.string ⟨a'.toArray⟩, .string ⟨b'.toArray⟩])).run Tryz.prog w = .ok (a == a' && b == b') w := by
 obtain ⟨i, hi⟩ : ∃ i, Tryz.prog.info? 9 = some i := by
  obtain ⟨i, hi, _⟩ := comp27 (t := 9) (by kernel_rfl)
  exact ⟨i, hi⟩
 rw [run_equalIn_array w (d + 1) _ _ Tryz.underlying162 hi, cells_str27]
 rw [items_all w (d + 1) _ 1 _ _ (List.range 2) (fun i => [a == a', b == b'].getD i true)]
 ·simp [List.range, List.range.loop]
 ·intro i hi
  have hlt := range_cases hi
  match i, hlt with
  | 0, _ => exact ⟨_, _, part_one27 w _ _ _ _ rfl (by kernel_rfl), part_one27 w _ _ _ _ rfl (by kernel_rfl), eq_str27 w d a a'⟩
  | 1, _ => exact ⟨_, _, part_one27 w _ _ _ _ rfl (by kernel_rfl), part_one27 w _ _ _ _ rfl (by kernel_rfl), eq_str27 w d b b'⟩
theorem eq_bools2 (w : World) (d : Nat) (a b a' b' : Bool) : (Op.equalIn (d + 2) 161 (.agg #[.bool a, .bool b]) (.agg #[.bool a', .bool b'])).run Tryz.prog w = .ok (a == a' && b == b') w := by
 obtain ⟨i, hi⟩ : ∃ i, Tryz.prog.info? 4 = some i := by
  obtain ⟨i, hi, _⟩ := comp27 (t := 4) (by kernel_rfl)
  exact ⟨i, hi⟩
 rw [run_equalIn_array w (d + 1) _ _ Tryz.underlying161 hi, cells_bool27]
 rw [items_all w (d + 1) _ 1 _ _ (List.range 2) (fun i => [a == a', b == b'].getD i true)]
 ·simp [List.range, List.range.loop]
 ·intro i hi
  have hlt := range_cases hi
  match i, hlt with
  | 0, _ => exact ⟨_, _, part_one27 w _ _ _ _ rfl (by kernel_rfl), part_one27 w _ _ _ _ rfl (by kernel_rfl), run_equalIn_bool' w d _ a a' Tryz.underlying4⟩
  | 1, _ => exact ⟨_, _, part_one27 w _ _ _ _ rfl (by kernel_rfl), part_one27 w _ _ _ _ rfl (by kernel_rfl), run_equalIn_bool' w d _ b b' Tryz.underlying4⟩
def plainL (m n : Scr.MsgP) : List Bool := [m.version == n.version, m.dn == n.dn, m.sasl == n.sasl, m.secret == n.secret, m.scope == n.scope, m.deref == n.deref, m.size == n.size, m.time == n.time, m.typesOnly == n.typesOnly, m.newRdn == n.newRdn && m.newSup == n.newSup && m.typ == n.typ, m.deleteOld == n.deleteOld && m.hasSup == n.hasSup, m.val == n.val && m.oid == n.oid, m.has == n.has, m.target == n.target, m.code == n.code, m.matched == n.matched && m.text == n.text]
def plainB (m n : Scr.MsgP) : Bool := (plainL m n).all id
theorem all_range {L : List Bool} {n : Nat} (h : L.length = n) : (List.range n).all (fun i => L.getD i true) = L.all id := by
 subst h
 rw [Bool.eq_iff_iff, List.all_eq_true, List.all_eq_true]
 constructor
 ·intro h x hx
  obtain ⟨i, hi, rfl⟩ := List.mem_iff_getElem.1 hx
  have := h i (List.mem_range.2 hi)
  rw [List.getD_eq_getElem?_getD, List.getElem?_eq_getElem hi] at this
  exact this
 ·intro h i hi
  have hlt := List.mem_range.1 hi
  rw [List.getD_eq_getElem?_getD, List.getElem?_eq_getElem hlt]
  exact h _ (List.getElem_mem hlt)
theorem plain_eq (w : World) (m n : Scr.MsgP) : (Op.equalIn 10000 130 (plainV m) (plainV n)).run Tryz.prog w = .ok (plainB m n) w := by
 obtain ⟨i, hi⟩ : ∃ i, Tryz.prog.info? 20 = some i := by
  obtain ⟨i, hi, _⟩ := comp27 (t := 20) (by kernel_rfl)
  exact ⟨i, hi⟩
 unfold plainV
 rw [run_equalIn_array w 9999 _ _ Tryz.underlying130 hi, cells_any27]
 rw [items_all w 9999 _ 1 _ _ (List.range 16) (fun i => (plainL m n).getD i true), all_range (show (plainL m n).length = 16 from rfl)]
 ·rfl
 ·intro i hi
  have hlt := range_cases hi
  have ps : ∀ (d : Nat) (x y : List UInt8), (Op.equalIn (d + 2) 20 (.iface 9 (.string ⟨x.toArray⟩)) (.iface 9 (.string ⟨y.toArray⟩))).run Tryz.prog w = .ok (x == y) w := fun d x y => (eq_iface27 w (d + 1) _ _ _ (by kernel_rfl)).trans (eq_str27 w d x y)
  have pi : ∀ (d : Nat) (x y : Int), (Op.equalIn (d + 2) 20 (.iface 3 (.int .i64 x)) (.iface 3 (.int .i64 y))).run Tryz.prog w = .ok (x == y) w := fun d x y => (eq_iface27 w (d + 1) _ _ _ (by kernel_rfl)).trans (run_equalIn_int w d _ _ _ x y Tryz.underlying3)
  have pb : ∀ (d : Nat) (x y : Bool), (Op.equalIn (d + 2) 20 (.iface 4 (.bool x)) (.iface 4 (.bool y))).run Tryz.prog w = .ok (x == y) w := fun d x y => (eq_iface27 w (d + 1) _ _ _ (by kernel_rfl)).trans (run_equalIn_bool' w d _ x y Tryz.underlying4)
  have pt := fun (xs : Array Value) (k : Nat) (v : Value) (h : xs[k]? = some v) => part_one27 w 20 xs k v h (by kernel_rfl)
  match i, hlt with
  | 0, _ => exact ⟨_, _, pt _ _ _ rfl, pt _ _ _ rfl, pi 9997 _ _⟩
  | 1, _ => exact ⟨_, _, pt _ _ _ rfl, pt _ _ _ rfl, ps 9997 _ _⟩
  | 2, _ => exact ⟨_, _, pt _ _ _ rfl, pt _ _ _ rfl, pb 9997 _ _⟩
  | 3, _ => exact ⟨_, _, pt _ _ _ rfl, pt _ _ _ rfl, ps 9997 _ _⟩
  | 4, _ => exact ⟨_, _, pt _ _ _ rfl, pt _ _ _ rfl, pi 9997 _ _⟩
  | 5, _ => exact ⟨_, _, pt _ _ _ rfl, pt _ _ _ rfl, pi 9997 _ _⟩
  | 6, _ => exact ⟨_, _, pt _ _ _ rfl, pt _ _ _ rfl, pi 9997 _ _⟩
  | 7, _ => exact ⟨_, _, pt _ _ _ rfl, pt _ _ _ rfl, pi 9997 _ _⟩
  | 8, _ => exact ⟨_, _, pt _ _ _ rfl, pt _ _ _ rfl, pb 9997 _ _⟩
  | 9, _ => exact ⟨_, _, pt _ _ _ rfl, pt _ _ _ rfl, (eq_iface27 w 9998 _ _ _ (by kernel_rfl)).trans (eq_strs3 w 9996 _ _ _ _ _ _)⟩
  | 10, _ => exact ⟨_, _, pt _ _ _ rfl, pt _ _ _ rfl, (eq_iface27 w 9998 _ _ _ (by kernel_rfl)).trans (eq_bools2 w 9996 _ _ _ _)⟩
  | 11, _ => exact ⟨_, _, pt _ _ _ rfl, pt _ _ _ rfl, (eq_iface27 w 9998 _ _ _ (by kernel_rfl)).trans (eq_strs2 w 9996 _ _ _ _)⟩
  | 12, _ => exact ⟨_, _, pt _ _ _ rfl, pt _ _ _ rfl, pb 9997 _ _⟩
  | 13, _ => exact ⟨_, _, pt _ _ _ rfl, pt _ _ _ rfl, pi 9997 _ _⟩
  | 14, _ => exact ⟨_, _, pt _ _ _ rfl, pt _ _ _ rfl, pi 9997 _ _⟩
  | 15, _ => exact ⟨_, _, pt _ _ _ rfl, pt _ _ _ rfl, (eq_iface27 w 9998 _ _ _ (by kernel_rfl)).trans (eq_strs2 w 9996 _ _ _ _)⟩
  | j + 16, h => exact absurd h (by omega)
theorem plain_neq (w : World) (m n : Scr.MsgP) : (binOp .neq 130 (plainV m) (plainV n)).run Tryz.prog w = .ok (.bool (!plainB m n)) w := by
 have h := plain_eq w m n
 unfold plainV at h ⊢
 rw [run_neq_struct, h]
 rfl
theorem plainB_self (m : Scr.MsgP) : plainB m m = true := by simp [plainB, plainL]
end Go.Proofs.YthenffabboomnaaGreatDoor
