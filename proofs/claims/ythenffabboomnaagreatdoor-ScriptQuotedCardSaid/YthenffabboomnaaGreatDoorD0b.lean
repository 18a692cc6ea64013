import Derived.Test.YthenffabboomnaaGreatDoorD0a
import Derived.Deep.MidRow
set_option linter.all false
set_option maxHeartbeats 8000000
set_option maxRecDepth 100000
set_option linter.all false
namespace Go.Proofs.YthenffabboomnaaGreatDoor
open Go.RowKit
theorem range_bk {W : World} {g : Nat} {t : TypeId} {CL : List Value} (h : Bk W g t CL.toArray) : W.rangeAt g 0 CL := by
 intro j v hv
 rw [Nat.zero_add]
 exact (h.cell j).trans (by rw [List.getElem?_toArray]; exact hv)
theorem range_below {B : Nat} {w w' : World} {b o : Nat} {cs : List Value} (h : w.rangeAt b o cs) (hb : Below B w w') (hB : b < B) : w'.rangeAt b o cs := fun j v hv => by
 rw [World.cell?_of_block (hb.block b hB)]
 exact h j v hv
theorem noControls (w : World) : Calls Tryz.prog 81 #[.slice none 0 0, .func (.func 82) #[] #[]] w fun e w' => e = .returned (.bool false) ∧ w' = w := by
 have HI : Hid (Calls Tryz.prog 121 #[.slice none 0 0, .func (.func 82) #[] #[]] w fun e w' => e = .returned (.int .i64 (-1)) ∧ w' = w) := Lib.hid (by
  go_enter Tryz.func121, Tryz.ntmps121
  go_wp2_with fail
  go_loopg [5, 8] 1 (fun gk _ i wr => i = .int .i64 0 ∧ Aside (wr = w))
  case atStart => exact ⟨rfl, rfl⟩
  case round =>
   obtain ⟨rfl, AW⟩ := hrel
   obtain rfl : wr = w := AW.out
   go_wp2_with fail
   go_ret
   exact ⟨rfl, rfl⟩)
 go_enter Tryz.func81, Tryz.ntmps81
 go_wp2_with (go_at_call 121; (with_reducible refine HI.out.mono ?_); rintro e w1 ⟨rfl, rfl⟩)
 go_ret
 exact ⟨rfl, rfl⟩
set_option maxRecDepth 100000 in
theorem valid_del (id : Int) (s : List UInt8) (w : World) (h0 : 0 ≤ id) (h1 : id ≤ 2147483647) : Calls Tryz.prog 44 #[.agg (delL id (.string ⟨s.toArray⟩))] w fun e w' => e = .returned (.bool true) ∧ Below w.heap.size w w' := by
 have HI : Hid (∀ W, Calls Tryz.prog 79 #[.int .i64 id, .int .i64 2147483647] W fun e w' => e = .returned (.bool true) ∧ w' = W) := Lib.hid (fun W => by
  have := inRange_c id 2147483647 W
  rw [decide_eq_true h0, decide_eq_true h1] at this
  exact this)
 have HP : Hid (∀ W, Calls Tryz.prog 80 #[.agg (delL id (.string ⟨s.toArray⟩))] W fun e w' => e = .returned (plainV (delM id s)) ∧ Below W.heap.size W w') := Lib.hid (fun W => plain_c27 (delM id s) nilV W)
 have HBr := Lib.hid (fun W => bare_del id ⟨s.toArray⟩ W)
 have hneq := fun W => plain_neq W (delM id s) (delM id s)
 rw [plainB_self] at hneq
 have hgu : ∀ (W : World) (x y : Operand), (eqGuard .neq 130 x y (plainV (delM id s)) (plainV (delM id s))).run Tryz.prog W = .ok () W := fun W x y => by
  unfold plainV
  exact run_eqGuard_agg W .neq _ x y _ _ (by kernel_rfl)
 have HNC := Lib.hid (fun W => noControls W)
 generalize plainV (delM id s) = PV at *
 obtain ⟨CL, hCL⟩ : ∃ CL : List Value, delL id (.string ⟨s.toArray⟩) = CL.toArray := ⟨(delL id (.string ⟨s.toArray⟩)).toList, rfl⟩
 have HC0 : Hid (CL[0]? = some (.int .i64 id)) := Lib.hid (by rw [← List.getElem?_toArray, ← hCL]; rfl)
 have HCS := Lib.hid hCL
 rw [hCL] at HP HBr ⊢
 have HLN : Hid (CL.length = 28) := Lib.hid (by rw [← List.size_toArray, ← hCL]; rfl)
 have HSZ : Hid ((Tryz.prog.info? 37).map (·.size) = some CL.toArray.size) := Lib.hid (by rw [List.size_toArray, HLN.out]; exact msg_size)
 have HSL : Hid ((Tryz.prog.info? 37).map (·.size) = some CL.length) := Lib.hid (by rw [HLN.out]; exact msg_size)
 have HON : Hid ((CL.toArray.all (·.oneCell')) = true) := Lib.hid (by rw [← hCL]; unfold delL nilSl; simp [Value.oneCell'])
 have HZS : Hid (zeroMC.size = CL.toArray.size) := Lib.hid (by rw [show CL.toArray.size = 28 from by rw [List.size_toArray, HLN.out]]; rfl)
 have HNIL : Hid (∀ k ∈ [11, 12, 13, 14, 27], CL[k]? = some (.slice none 0 0)) := Lib.hid (by
  intro k hk
  rw [← List.getElem?_toArray, ← hCL]
  simp only [List.mem_cons, List.not_mem_nil, or_false] at hk
  rcases hk with rfl | rfl | rfl | rfl | rfl <;> rfl)
 have HNC2 : Hid (∀ (W : World) (g k : Nat), Bk W g 37 CL.toArray → k ∈ [11, 12, 13, 14, 27] → W.cell? ⟨g, k, none⟩ = some (.slice none 0 0)) := Lib.hid (fun W g k h hk => by
  have h2 := h.cell k
  rw [List.getElem?_toArray, HNIL.out k hk] at h2
  exact h2)
 clear hCL h0 h1
 have hw1 := (Below.refl w.heap.size w).alloc (Nat.le_refl _) (.cells CL.toArray 37)
 have hb1 := Bk.new w 37 CL.toArray
 have hs1 : (w.alloc (.cells CL.toArray 37)).heap.size = w.heap.size + 1 := by simp
 obtain ⟨W1, hW1⟩ : ∃ W1, w.alloc (.cells CL.toArray 37) = W1 := ⟨_, rfl⟩
 rw [hW1] at hw1 hb1 hs1
 have HB1 := Lib.hid hb1
 have HW1 := Lib.hid hw1
 have HS1 := Lib.hid hs1
 clear hw1 hb1 hs1
 go_enter Tryz.func44, Tryz.ntmps44
 go_upto_region 2 with (first
  | (refine wpList_load_row rfl 37 _ rfl w.heap.size rfl 37 CL.toArray (0, 0) _ HB1.out Tryz.underlying37 rfl HSZ.out ?_)
  | (go_at_call 78; (with_reducible refine (HBr.out _).mono ?_); rintro e W2 ⟨rfl, hb2⟩; have HWB := Lib.hid (And.intro (HB1.out.below hb2) hb2); have hwz := (Below.refl W2.heap.size W2).alloc (Nat.le_refl _) (.cells zeroMC 37); have hbz := Bk.new W2 37 zeroMC; obtain ⟨Wz, hWz⟩ : ∃ Wz, W2.alloc (.cells zeroMC 37) = Wz := ⟨_, rfl⟩; rw [hWz] at hwz hbz; have HWZ := Lib.hid (And.intro hwz hbz); clear hb2 hwz hbz; unfold zeroMC at hWz)
  | (refine wpList_store_row rfl 37 _ _ rfl W2.heap.size CL.toArray rfl rfl 37 zeroMC HWZ.out.2 HSZ.out HZS.out HON.out ?_))
 clear hWz
 have hw3 := below_setRow HWZ.out.1 (Nat.le_refl _) CL.toArray
 have hb3 : Bk (Wz.setRow W2.heap.size CL.toArray) W2.heap.size 37 CL.toArray := setRow_heap _ _ _ _ _ _ HWZ.out.2
 have hlt : w.heap.size < W2.heap.size := by have := HWB.out.2.size; have := HS1.out; omega
 have h13 : Bk (Wz.setRow W2.heap.size CL.toArray) w.heap.size 37 CL.toArray := (setRow_other _ _ _ _ (by omega)).trans (HWB.out.1.below HWZ.out.1)
 have hbw : Below w.heap.size w (Wz.setRow W2.heap.size CL.toArray) := (HW1.out.trans (HWB.out.2.mono HW1.out.size)).trans (hw3.mono (Nat.le_of_lt hlt))
 have hs3 : W2.heap.size < (Wz.setRow W2.heap.size CL.toArray).heap.size := hb3.lt
 generalize Wz.setRow W2.heap.size CL.toArray = W3 at *
 have HBW := Lib.hid hbw
 have HR1 : Hid (W3.rangeAt w.heap.size 0 CL) := Lib.hid (range_bk h13)
 have HR3 : Hid (W3.rangeAt W2.heap.size 0 CL) := Lib.hid (range_bk hb3)
 have hc0 : W3.cell? ⟨w.heap.size, 0, none⟩ = some (.int .i64 id) := (h13.cell 0).trans (by rw [List.getElem?_toArray]; exact HC0.out)
 have HL3 := Lib.hid hs3
 have HL1 : Hid (w.heap.size < W3.heap.size) := Lib.hid (by omega)
 have HB3 := Lib.hid (And.intro h13 hb3)
 clear hw3 hb3 h13 hbw hlt hs3 HWZ HWB HB1 HW1 HS1
 go_wp2_with fail
 refine wp_region_noPanic ?_
 refine wp_region_held_drew (S := (fun W => W.rangeAt w.heap.size 0 CL ∧ W.rangeAt W2.heap.size 0 CL ∧ W.cell? ⟨w.heap.size, 0, none⟩ = some (.int .i64 id))) (by kernel_rfl) ?_ (fun hHeld => ?_)
 ·exact ⟨HR1.out, HR3.out, hc0⟩
 refine wpAnyH_take (i := 0) (v := ?v0) rfl (by kernel_rfl) (by kernel_rfl) (by kernel_rfl) (fun _ _ _ h => h) (Or.inl ⟨by rfl, ?y0⟩) hHeld ?_
 case y0 => (intro w hSw; (try dsimp only at hSw); go_simp; first | done | (with_reducible rfl))
 try simp only [gsx, Act.put]
 refine wpAnyH_take (i := 1) (v := ?v1) rfl (by kernel_rfl) (by kernel_rfl) (by kernel_rfl) (fun _ _ _ h => h) (Or.inl ⟨by rfl, ?y1⟩) hHeld ?_
 case y1 => (intro w hSw; (try dsimp only at hSw); go_simp; first | done | (with_reducible rfl))
 try simp only [gsx, Act.put]
 refine wpAnyH_take (i := 2) (v := ?v2) rfl (by kernel_rfl) (by kernel_rfl) (by kernel_rfl) (fun _ _ _ h => h) (Or.inl ⟨by rfl, ?y2⟩) hHeld ?_
 case y2 => (intro w hSw; (try dsimp only at hSw); go_simp; first | done | (with_reducible rfl))
 try simp only [gsx, Act.put]
 refine wpAnyH_take (i := 3) (v := ?v3) rfl (by kernel_rfl) (by kernel_rfl) (by kernel_rfl) (fun _ _ _ h => h) (Or.inl ⟨by rfl, ?y3⟩) hHeld ?_
 case y3 => (intro w hSw; (try dsimp only at hSw); go_simp; first | done | (with_reducible rfl))
 try simp only [gsx, Act.put]
 refine wpAnyH_take (i := 4) (v := ?v4) rfl (by kernel_rfl) (by kernel_rfl) (by kernel_rfl) (fun _ _ _ h => h) (Or.inl ⟨by rfl, ?y4⟩) hHeld ?_
 case y4 => (intro w hSw; (try dsimp only at hSw); go_simp; first | done | (with_reducible rfl))
 try simp only [gsx, Act.put]
 refine wpAnyH_ready (rs := [5]) (by kernel_rfl) (by simp) ?_
 refine AllReadyH.cons rfl (fun K hK => ?_) AllReadyH.nil
 go_simp
 (go_at_call 79; (refine (HI.out _).mono ?_); rintro e w5 ⟨rfl, rfl⟩)
 (try go_wp2_with fail)
 refine hK.out _ _ ?_ (fun hHeld => ?_)
 ·exact ⟨(World.rangeAt_drew _ _ _ _).2 HR1.out, (World.rangeAt_drew _ _ _ _).2 HR3.out, hc0⟩
 clear hK K
 try simp only [gsx, Act.put]
 refine wpAnyH_take (i := 6) (v := ?v6) rfl (by kernel_rfl) (by kernel_rfl) (by kernel_rfl) (fun _ _ _ h => h) (Or.inl ⟨by rfl, ?y6⟩) hHeld ?_
 case y6 => (intro w hSw; (try dsimp only at hSw); go_simp; first | done | (with_reducible rfl))
 try simp only [gsx, Act.put]
 refine wpAnyH_take (i := 7) (v := ?v7) rfl (by kernel_rfl) (by kernel_rfl) (by kernel_rfl) (fun _ _ _ h => h) (Or.inl ⟨by rfl, ?y7⟩) hHeld ?_
 case y7 => (intro w hSw; (try dsimp only at hSw); go_simp; first | done | (with_reducible rfl))
 try simp only [gsx, Act.put]
 refine wpAnyH_take (i := 8) (v := ?v8) rfl (by kernel_rfl) (by kernel_rfl) (by kernel_rfl) (fun _ _ _ h => h) (Or.inl ⟨by rfl, ?y8⟩) hHeld ?_
 case y8 => (intro w hSw; (try dsimp only at hSw); go_simp; first | done | (with_reducible rfl))
 try simp only [gsx, Act.put]
 refine wpAnyH_take (i := 9) rfl (by kernel_rfl) (by kernel_rfl) (by kernel_rfl) (fun _ _ _ h => h) (yieldsIf_load_mid (by rfl) 37 (.tmp 3) (by rfl) W2.heap.size 0 (by rfl) CL _ (fun _ h => h.2.1) Tryz.underlying37 rfl HSL.out) hHeld ?_
 try simp only [gsx, Act.put]
 refine wpAnyH_take (i := 11) rfl (by kernel_rfl) (by kernel_rfl) (by kernel_rfl) (fun _ _ _ h => h) (yieldsIf_load_mid (by rfl) 37 (.tmp 1) (by rfl) w.heap.size 0 (by rfl) CL _ (fun _ h => h.1) Tryz.underlying37 rfl HSL.out) hHeld ?_
 try simp only [gsx, Act.put]
 refine wpAnyH_ready (rs := [10]) (by kernel_rfl) (by simp) ?_
 refine AllReadyH.cons rfl (fun K hK => ?_) AllReadyH.nil
 go_simp
 (go_at_call 80; (refine (HP.out _).mono ?_); rintro e w6 ⟨rfl, hb6⟩)
 (try go_wp2_with fail)
 refine hK.out _ _ ?_ (fun hHeld => ?_)
 ·exact ⟨range_below ((World.rangeAt_drew _ _ _ _).2 HR1.out) hb6 HL1.out, range_below ((World.rangeAt_drew _ _ _ _).2 HR3.out) hb6 HL3.out, (World.cell?_of_block (hb6.block _ HL1.out)).trans hc0⟩
 clear hK K
 try simp only [gsx, Act.put]
 refine wpAnyH_ready (rs := [12]) (by kernel_rfl) (by simp) ?_
 refine AllReadyH.cons rfl (fun K hK => ?_) AllReadyH.nil
 go_simp
 (go_at_call 80; (refine (HP.out _).mono ?_); rintro e w7 ⟨rfl, hb7⟩)
 (try go_wp2_with fail)
 refine hK.out _ _ ?_ (fun hHeld => ?_)
 ·exact ⟨range_below (range_below ((World.rangeAt_drew _ _ _ _).2 HR1.out) hb6 HL1.out) hb7 (Nat.lt_of_lt_of_le HL1.out hb6.size), range_below (range_below ((World.rangeAt_drew _ _ _ _).2 HR3.out) hb6 HL3.out) hb7 (Nat.lt_of_lt_of_le HL3.out hb6.size), (World.cell?_of_block (hb7.block _ (Nat.lt_of_lt_of_le HL1.out hb6.size))).trans ((World.cell?_of_block (hb6.block _ HL1.out)).trans hc0)⟩
 clear hK K
 try simp only [gsx, Act.put]
 refine wpAnyH_take (i := 13) (v := ?v13) rfl (by kernel_rfl) (by kernel_rfl) (by kernel_rfl) (fun _ _ _ h => h) (Or.inl ⟨by rfl, ?y13⟩) hHeld ?_
 case y13 => (intro w hSw; (try dsimp only at hSw); go_simp; first | done | (with_reducible rfl))
 try simp only [gsx, Act.put]
 refine wpAnyH_take (i := 14) (v := ?v14) rfl (by kernel_rfl) (by kernel_rfl) (by kernel_rfl) (fun _ _ _ h => h) (Or.inl ⟨by rfl, ?y14⟩) hHeld ?_
 case y14 => (intro w hSw; (try dsimp only at hSw); go_simp; first | done | (with_reducible rfl))
 try simp only [gsx, Act.put]
 refine wpAnyH_take (i := 15) (v := ?v15) rfl (by kernel_rfl) (by kernel_rfl) (by kernel_rfl) (fun _ _ _ h => h) (Or.inl ⟨by rfl, ?y15⟩) hHeld ?_
 case y15 => (intro w hSw; (try dsimp only at hSw); go_simp; first | done | (with_reducible rfl))
 try simp only [gsx, Act.put]
 refine wpAnyH_done (by kernel_rfl) ?_ _
 refine NoPanic.normal ?_
 have hb7' := (HBW.out.drew.trans (hb6.mono HBW.out.drew.size)).trans (hb7.mono (Nat.le_trans HBW.out.drew.size hb6.size))
 have h1 := ((HB3.out.1.below (Below.refl _ _).drew).below hb6).below hb7
 have h3 := ((HB3.out.2.below (Below.refl _ _).drew).below hb6).below hb7
 have a11 := HNC2.out _ _ 11 h1 (by decide)
 have a12 := HNC2.out _ _ 12 h1 (by decide)
 have a13 := HNC2.out _ _ 13 h1 (by decide)
 have a14 := HNC2.out _ _ 14 h1 (by decide)
 have a27 := HNC2.out _ _ 27 h1 (by decide)
 have b11 := HNC2.out _ _ 11 h3 (by decide)
 have b12 := HNC2.out _ _ 12 h3 (by decide)
 have b13 := HNC2.out _ _ 13 h3 (by decide)
 have b14 := HNC2.out _ _ 14 h3 (by decide)
 have HB7 := Lib.hid hb7'
 clear h1 h3 hb7' hneq hgu
 go_wp2_with (go_at_call 81; (with_reducible refine (HNC.out _).mono ?_); rintro e w8 ⟨rfl, rfl⟩)
 go_ret
 exact ⟨rfl, HB7.out⟩
end Go.Proofs.YthenffabboomnaaGreatDoor
set_option linter.all false
namespace Go.Proofs.YthenffabboomnaaGreatDoor
open Go.RowKit
def delW : List UInt8 := [100, 101, 108, 101, 116, 101]
namespace Scr
def askF (P : StepP) (l : List WordP) : Option (StepP × List WordP) := match numR l with
 | none => none
 | some (n, t) => match nextR false t with
  | none => none
  | some (_, t2) => match nextR true t2 with
   | none => none
   | some (s, t3) => some ({ P with msg := delM n s }, t3)
end Scr
def DelC (P : Scr.StepP) (l : List Scr.WordP) : Prop := P.msg = Scr.zeroMsg ∧ ∃ (n : List UInt8) (id : Int) (s : List UInt8) (t : List Scr.WordP), l = (n, false) :: (delW, false) :: (s, true) :: t ∧ Cfg.numS n = (id, true) ∧ 0 ≤ id ∧ id ≤ 2147483647
section
variable {w0 : World} {x p : Nat}
def DelRet (x p : Nat) (P : Scr.StepP) (s : List UInt8) (t : List Scr.WordP) (w : World) (e : Ending) (w' : World) : Prop := e = .returned (.tuple #[]) ∧ Mods [x, p] w w' ∧ Bk w' x 39 (stepCells { P with msg := { P.msg with op := 10, dn := s } } nilV).toArray ∧ RdS w' p t
set_option maxRecDepth 100000 in
theorem delete27_c (hne : x ≠ p) (W : World) (P : Scr.StepP) (s : List UInt8) (t : List Scr.WordP) (hb : Bk W x 39 (stepCells P nilV).toArray) (hR : RdS W p ((s, true) :: t)) (hl : Scr.WLim ((s, true) :: t)) :
  Calls Tryz.prog 109 #[.pointer (some ⟨x, 4, none⟩), .pointer (some ⟨p, 0, none⟩)] W (DelRet x p P s t W) := by
 have HU := Lib.hid (text27_c p _ W hR hl)
 rw [show Scr.nextR true ((s, true) :: t) = some (s, t) from rfl] at HU
 have HB := Lib.hid hb
 clear hb hR hl
 go_enter Tryz.func109, Tryz.ntmps109
 go_wp2_with (go_at_call 68; (with_reducible refine HU.out.mono ?_); rintro e w1 ⟨hm, rfl, hd⟩; have HM := Lib.hid hm; have HD := Lib.hid hd; have HB1 := Lib.hid (HB.out.mods1 hm hne); have f5 := HB1.out.frozen 5; have c5 := HB1.out.cell 5; have f6 := (HB1.out.set 5 (.int .i64 10)).frozen 6; have c6 := (HB1.out.set 5 (.int .i64 10)).cell 6; clear hm hd; unfold encS)
 go_end0
 refine ⟨rfl, (HM.out.left.setCell (by simp) _).setCell (by simp) _, ?_, (HD.out.step HB1.out hne _ _).step (HB1.out.set 5 _) hne _ _⟩
 have := (HB1.out.set 5 (.int .i64 10)).set 6 (.string ⟨s.toArray⟩)
 simpa [stepCells, msgCells] using this
theorem look_del : look reqsL delW = some (.func (.func 109) #[] #[]) := by rfl
theorem step_msg {W : World} {P : Scr.StepP} {m : Scr.MsgP} (h : Bk W x 39 (stepCells { P with msg := m } nilV).toArray) : W.rangeAt x 4 (msgCells m nilV) := by
 intro j v hv
 have hj : j < 28 := (List.getElem?_eq_some_iff.1 hv).1
 refine (h.cell (4 + j)).trans ?_
 rw [List.getElem?_toArray]
 unfold stepCells
 rw [List.getElem?_append_right (by simp), List.length_cons, List.length_cons, List.length_cons, List.length_cons, List.length_nil, show 4 + j - (0 + 1 + 1 + 1 + 1) = j by omega]
 exact hv
theorem map_past {W W' : World} {m c : Nat} {es : Array MapEntry} {R : List (List UInt8 × Value)} {l : List Scr.WordP} (h : MapS W m es c R) (hp : RdS W p l) (hm : Mods [p] W W') : MapS W' m es c R := h.mods hm (by
 intro hmp
 have : m = p := by simpa using hmp
 subst this
 obtain ⟨v, hb, _⟩ := hp
 have := hb.symm.trans h.at_
 cases this)
theorem set_id {W : World} {P : Scr.StepP} {id : Int} {s : List UInt8} (h : Bk W x 39 (stepCells { P with msg := { delM id s with id := 0 } } nilV).toArray) : Bk (W.setCell ⟨x, 4, none⟩ (.int .i64 id)) x 39 (stepCells { P with msg := delM id s } nilV).toArray := by
 have := h.set 4 (.int .i64 id)
 simpa [stepCells, msgCells, delM] using this
set_option maxRecDepth 100000 in
theorem ask_do (hne : x ≠ p) : DoOK w0 x p 69 #[] Scr.askF DelC where
 ent := fun _ _ => by kernel_rfl
 run := fun W P l hm hb hP hR hl hC => by
  obtain ⟨hmz, n, id, s, t, rfl, hn, hi0, hi1⟩ := hC
  have hNr : Scr.numR ((n, false) :: (delW, false) :: (s, true) :: t) = some (id, (delW, false) :: (s, true) :: t) := by
   show (if (Cfg.numS n).2 then some ((Cfg.numS n).1, _) else none) = _
   rw [hn]
   rfl
  have hF : Scr.askF P ((n, false) :: (delW, false) :: (s, true) :: t) = some ({ P with msg := delM id s }, t) := by
   unfold Scr.askF
   rw [hNr]
   rfl
  rw [hF]
  have HNu := Lib.hid (num27_c p _ W hR hl)
  rw [hNr] at HNu
  have HPl := Lib.hid (fun W' (h : RdS W' p ((delW, false) :: (s, true) :: t)) => plain27_c p _ W' h hl.tail)
  have HDe := Lib.hid (fun W' (h1 : Bk W' x 39 (stepCells P nilV).toArray) (h2 : RdS W' p ((s, true) :: t)) => delete27_c hne W' P s t h1 h2 hl.tail.tail)
  have HRq := Lib.hid (fun W' => requests27_c W')
  have HY := Lib.hid (fun W => want_yes W)
  have HV : Hid (∀ W', Calls Tryz.prog 44 #[.agg (msgCells (delM id s) nilV).toArray] W' fun e w' => e = .returned (.bool true) ∧ Below W'.heap.size W' w') := Lib.hid (fun W' => valid_del id s W' hi0 hi1)
  have HB := Lib.hid hb
  have HP := Lib.hid (show Bare { P with msg := delM id s } from ⟨hP.1, rfl, rfl, rfl, rfl⟩)
  have HLK : Hid (∀ (W' : World) (m c : Nat) (es : Array MapEntry), MapS W' m es c reqsL → (Instr.lookup 116 (.map (some m)) (.string ⟨delW.toArray⟩) true).run Tryz.prog W' = .ok (.tuple #[.func (.func 109) #[] #[], .bool true]) W') := Lib.hid (fun W' m c es h => by
   have := h.ask underReq zeroReq (k := delW)
   rw [look_del] at this
   exact this)
  have HEQ : Hid (({ P with msg := { P.msg with op := 10, dn := s } } : Scr.StepP) = { P with msg := { delM id s with id := 0 } }) := Lib.hid (by rw [hmz]; rfl)
  have HSZ : Hid ((Tryz.prog.info? 37).map (·.size) = some (msgCells (delM id s) nilV).length) := Lib.hid msg_size
  show Calls _ _ #[_, _] _ _
  unfold delW at *
  clear hm hb hP hR hl hn hi0 hi1 hmz hNr hF
  go_enter Tryz.func69, Tryz.ntmps69
  go_wp2_with (first
   | (go_at_call 64; (with_reducible refine HNu.out.mono ?_); rintro e w1 ⟨hm, rfl, hd⟩; have HM := Lib.hid hm; have HD := Lib.hid hd; have HB := Lib.hid (HB.out.mods1 hm hne); clear hm hd; unfold encN)
   | (go_at_call 70; (with_reducible refine (HRq.out _).mono ?_); rintro e w2 ⟨m, es, c, rfl, hX, hb⟩; have HX := Lib.hid hX; have HMB := Lib.hid hb; have HD2 := Lib.hid (HD.out.below hb); have HB2 := Lib.hid (HB.out.below hb); clear hX hb)
   | (go_at_call 35; (with_reducible refine (HPl.out _ HD2.out).mono ?_); rintro e w3 ⟨hm, rfl, hd⟩; have hlk := HLK.out _ _ _ _ (map_past HX.out HD2.out hm); have HM3 := Lib.hid hm; have HD3 := Lib.hid hd; have HB3 := Lib.hid (HB2.out.mods1 hm hne); clear hm hd; unfold encS)
   | (go_at_call 37; (with_reducible refine (HY.out _).mono ?_); rintro e w4 ⟨rfl, rfl⟩)
   | (go_at_call 109; (with_reducible refine (HDe.out _ HB3.out HD3.out).mono ?_); rintro e w5 ⟨rfl, hm, hb, hd⟩; have HM5 := Lib.hid hm; have HD5 := Lib.hid hd; have HB5 := Lib.hid (HEQ.out ▸ hb); have f4 := HB5.out.frozen 4; have c4 := HB5.out.cell 4; have HB6 := Lib.hid (set_id HB5.out); clear hm hb hd)
   | (refine wpList_load_mid rfl 37 _ rfl x 4 rfl (msgCells (delM id s) nilV) _ (step_msg HB6.out) Tryz.underlying37 rfl HSZ.out ?_)
   | (go_at_call 44; (with_reducible refine (HV.out _).mono ?_); rintro e w7 ⟨rfl, hb7⟩))
  go_end0
  have hx6 := (((HM.out.left.trans (Mods.of_below HMB.out _)).trans HM3.out.left).trans HM5.out).setCell (p := ⟨x, 4, none⟩) (by simp) (.int .i64 id)
  refine ⟨hx6.trans (Mods.of_below hb7 _), rfl, ⟨nilV, HB6.out.below hb7, RowsOK.bare HP.out⟩, (HD5.out.step HB5.out hne _ _).below hb7⟩
end
end Go.Proofs.YthenffabboomnaaGreatDoor
