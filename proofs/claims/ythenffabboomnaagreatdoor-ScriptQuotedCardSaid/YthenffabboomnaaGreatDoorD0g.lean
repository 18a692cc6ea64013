import Derived.Test.YthenffabboomnaaGreatDoorD0f
set_option linter.all false
set_option maxHeartbeats 8000000
set_option maxRecDepth 100000
set_option linter.all false
namespace Go.Proofs.YthenffabboomnaaGreatDoor
open Go.RowKit
theorem conv27 (m : Nat) (hm : m ≤ 7) (W : World) : (convert 3 21 (.int .i64 (48 + (m : Int)))).run Tryz.prog W = .ok (.int .i32 (48 + (m : Int))) W ∧ (convert 21 9 (.int .i32 (48 + (m : Int)))).run Tryz.prog W = .ok (.string ⟨[UInt8.ofNat (48 + m)].toArray⟩) W := by
 match m, hm with
 | 0, _ => exact ⟨by kernel_rfl, by kernel_rfl⟩
 | 1, _ => exact ⟨by kernel_rfl, by kernel_rfl⟩
 | 2, _ => exact ⟨by kernel_rfl, by kernel_rfl⟩
 | 3, _ => exact ⟨by kernel_rfl, by kernel_rfl⟩
 | 4, _ => exact ⟨by kernel_rfl, by kernel_rfl⟩
 | 5, _ => exact ⟨by kernel_rfl, by kernel_rfl⟩
 | 6, _ => exact ⟨by kernel_rfl, by kernel_rfl⟩
 | 7, _ => exact ⟨by kernel_rfl, by kernel_rfl⟩
set_option maxRecDepth 100000 in
theorem quoted27_c (s : List UInt8) (n : Int) (w : World) :
  Calls Tryz.prog 4 #[.string ⟨s.toArray⟩, .int .i64 n] w fun e w' => e = .returned (.bool true) ∧ Below w.heap.size w w' := by
 have HA := Lib.hid (fun W => alive27_c W)
 have hget := ba_get
 have hsz : (⟨s.toArray⟩ : ByteArray).size = s.length := rfl
 by_cases h1 : 9000 < s.length
 ·have h1i : (9000 : Int) < (s.length : Int) := by omega
  go_enter Tryz.func4, Tryz.ntmps4
  go_wp2_with (go_at_call 6; (refine (HA.out _).mono ?_); rintro e w2 ⟨rfl, hb⟩)
  go_ret
  exact ⟨rfl, hb⟩
 have h1i : ¬ (9000 : Int) < (s.length : Int) := by omega
 by_cases h2 : n < 0
 ·go_enter Tryz.func4, Tryz.ntmps4
  go_wp2_with (go_at_call 6; (refine (HA.out _).mono ?_); rintro e w2 ⟨rfl, hb⟩)
  go_ret
  exact ⟨rfl, hb⟩
 by_cases h3 : 7 < n
 ·go_enter Tryz.func4, Tryz.ntmps4
  go_wp2_with (go_at_call 6; (refine (HA.out _).mono ?_); rintro e w2 ⟨rfl, hb⟩)
  go_ret
  exact ⟨rfl, hb⟩
 obtain ⟨m, rfl⟩ : ∃ m : Nat, n = (m : Int) := ⟨n.toNat, by omega⟩
 have hm : m ≤ 7 := by omega
 have hm0 : ¬ (m : Int) < 0 := by omega
 have hm7 : ¬ (7 : Int) < (m : Int) := by omega
 clear h2 h3
 have hs : s.length ≤ 9000 := by omega
 have HC := Lib.hid (conv27 m hm)
 have HQ := Lib.hid (fun W => quote27_c s W (by omega))
 have HF := Lib.hid (Scr.quote_fair s)
 have hql := Scr.quote_len s
 have HP := Lib.hid (fun W => parse27_c (Scr.textQ (UInt8.ofNat (48 + m)) s) (by simp [Scr.textQ]; omega) _ (text_lines m hm s hs) (by simp) W)
 unfold Scr.textQ at HP
 simp only [List.cons_append, List.nil_append, List.append_assoc] at HP
 generalize Scr.quoteL s = q at HQ HF hql HP
 generalize UInt8.ofNat (48 + m) = d at HC HP
 have hcv1 := fun W => (HC.out W).1
 have hcv2 := fun W => (HC.out W).2
 have hqz : (⟨q.toArray⟩ : ByteArray).size = q.length := rfl
 have happ := ba_app
 go_enter Tryz.func4, Tryz.ntmps4
 go_wp2_with (go_at_call 9; (refine (HQ.out _).mono ?_); rintro e w2 ⟨rfl, hb⟩)
 go_loopg [6] q.length (fun gk i wr => ∃ k : Nat, k ≤ q.length ∧ i = .int .i64 (k : Int) ∧ Aside (q.length ≤ k + gk) ∧ Aside (wr = w2))
 case atStart => exact ⟨0, by omega, rfl, by show _ ≤ _; omega, rfl⟩
 case round =>
  obtain ⟨k, hk, rfl, AG, AW⟩ := hrel
  have hW : wr = w2 := AW.out
  subst hW
  clear AW
  by_cases hlt : k < q.length
  ·have hki : (k : Int) < (q.length : Int) := by omega
   have hf := HF.out q[k] (List.getElem_mem hlt)
   have hf1 : ¬ (q[k].toNat : Int) < 32 := by omega
   have hf2 : ¬ (126 : Int) < (q[k].toNat : Int) := by omega
   obtain ⟨j, rfl⟩ : ∃ j, gk = j + 1 := ⟨gk - 1, by have := AG.out; omega⟩
   clear hf
   generalize hc : q[k] = c at hf1 hf2
   go_wp2_with fail
   go_roundg j
   case measure => omega
   case rel => exact ⟨k + 1, by omega, by go_num, by have := AG.out; show _ ≤ _; omega, rfl⟩
  ·obtain rfl : k = q.length := by omega
   go_wp2_with (first
    | (go_at_call 7; (with_reducible refine (HP.out _).mono ?_); rintro e w3 ⟨hb3, v, rfl, ho⟩; obtain ⟨g, c, rfl, hc1, hcell⟩ := OutS.cells (l := [Scr.stepA (m : Int) s, Scr.stepB s]) ho (by simp); have HO := Lib.hid (And.intro hb3 (And.intro hc1 hcell)); clear hcell ho hb3 hc1; simp only [List.length_cons, List.length_nil, Nat.reduceAdd])
    | (go_at_call 6; (refine (HA.out _).mono ?_); rintro e w4 ⟨rfl, hb4⟩; have x1 := (hb4.cell (p := ⟨g, 1, none⟩) HO.out.2.1).trans (HO.out.2.2 1 (.int .i64 (m : Int)) rfl); have x2 := (hb4.cell (p := ⟨g, 3, none⟩) HO.out.2.1).trans (HO.out.2.2 3 (.string ⟨s.toArray⟩) rfl); have x3 := (hb4.cell (p := ⟨g, 35, none⟩) HO.out.2.1).trans (HO.out.2.2 35 (.string ⟨s.toArray⟩) rfl); have x4 := (hb4.cell (p := ⟨g, 32, none⟩) HO.out.2.1).trans (HO.out.2.2 32 (.string ⟨#[99, 111, 110, 102]⟩) rfl); have HB4 := Lib.hid hb4; clear hb4))
   go_ret
   have h3 := hb.trans (HO.out.1.mono hb.size)
   exact ⟨rfl, h3.trans (HB4.out.mono h3.size)⟩
theorem quoted27_e (s : List UInt8) (n : Int) (w : World) (_ : Env w) :
  Calls Tryz.prog 4 #[.string ⟨s.toArray⟩, .int .i64 n] w fun e w' => e = .returned (.bool true) ∧ Below w.heap.size w w' := quoted27_c s n w
end Go.Proofs.YthenffabboomnaaGreatDoor
