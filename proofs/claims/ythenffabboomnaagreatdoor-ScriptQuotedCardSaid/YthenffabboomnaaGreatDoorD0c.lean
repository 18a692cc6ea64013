import Derived.Test.YthenffabboomnaaGreatDoorD0b
import Derived.RangeFuncNested
import Derived.RangeFuncBound
import Derived.RangeFuncCalls
import Derived.RangeFuncLeaves
set_option linter.all false
set_option maxHeartbeats 8000000
set_option maxRecDepth 100000
set_option linter.all false
namespace Go.Proofs.YthenffabboomnaaGreatDoor
open Go.RowKit
def kindF : StK → Scr.StepP → List Scr.WordP → Option (Scr.StepP × List Scr.WordP)
 | .data => Scr.dataF
 | .conn => Scr.connF
 | .feed => Scr.thenF Scr.connF Scr.dataF
 | .ask => Scr.thenF Scr.connF Scr.askF
 | _ => fun _ _ => none
def kindC : StK → Scr.StepP → List Scr.WordP → Prop
 | .data => fun _ _ => True
 | .conn => fun _ _ => True
 | .feed => fun _ _ => True
 | .ask => fun P l => ∀ n t, Scr.upToR 7 l = some (n, t) → DelC { P with conn := n } t
 | _ => fun _ _ => False
theorem DoOK.mono {w0 : World} {x p : Nat} {f : FuncId} {cap : Array Value} {F : Scr.StepP → List Scr.WordP → Option (Scr.StepP × List Scr.WordP)} {C C' : Scr.StepP → List Scr.WordP → Prop} (h : DoOK w0 x p f cap F C) (hC : ∀ P l, C' P l → C P l) : DoOK w0 x p f cap F C' :=
 ⟨h.ent, fun W P l h1 h2 h3 h4 h5 h6 => h.run W P l h1 h2 h3 h4 h5 (hC P l h6)⟩
theorem bk_ne27 {w : World} {b x : Nat} {t t' : TypeId} {cs cs' : Array Value} (h : Bk w b t cs) (h' : Bk w x t' cs') (ht : t ≠ t') : b ≠ x := by
 rintro rfl
 have := h.symm.trans h'
 simp only [Option.some.injEq, Obj.cells.injEq] at this
 exact ht this.2.1
theorem kind_do {w0 : World} {x p : Nat} {cx cp : Array Value} (hx : Bk w0 x 39 cx) (hp : Bk w0 p 83 cp) {K : StK} {v : Value} (h : StepK w0 K v) (hK : K ∈ stepsL.map (·.2)) : ∃ f cap, v = .func (.func f) #[] cap ∧ DoOK w0 x p f cap (kindF K) (kindC K) := by
 have hne : x ≠ p := bk_ne27 hx hp (by decide)
 have hbox : ∀ {b g : Nat}, BoxK w0 b g → b ≠ x ∧ b ≠ p := fun h => ⟨bk_ne27 h hx (by decide), bk_ne27 h hp (by decide)⟩
 have hrow : ∀ {g : Nat} {f : Value}, RowK w0 g f → g ≠ x ∧ g ≠ p := fun h => ⟨bk_ne27 h hx (by decide), bk_ne27 h hp (by decide)⟩
 cases K with
 | data => exact ⟨_, _, h, data_do hne⟩
 | conn => exact ⟨_, _, h, conn_do hne⟩
 | feed =>
  obtain ⟨b, g, rfl, h1, h2⟩ := h
  exact ⟨_, _, rfl, (then_do hne (data_do hne) h1 (by decide) h2 (hbox h1) (hrow h2)).mono (fun _ _ _ _ _ _ => trivial)⟩
 | ask =>
  obtain ⟨b, g, rfl, h1, h2⟩ := h
  exact ⟨_, _, rfl, then_do hne (ask_do hne) h1 (by decide) h2 (hbox h1) (hrow h2)⟩
 | run1 =>
  obtain ⟨b, g, c, rfl, h1, h2, h3⟩ := h
  exact ⟨_, _, rfl, ⟨fun _ _ => by kernel_rfl, fun _ _ _ _ _ _ _ _ hc => hc.elim⟩⟩
 | nums n =>
  obtain ⟨b, rfl, h1⟩ := h
  exact ⟨_, _, rfl, ⟨fun _ _ => by kernel_rfl, fun _ _ _ _ _ _ _ _ hc => hc.elim⟩⟩
 | rowFeed => simp [stepsL] at hK
 | rowRun => simp [stepsL] at hK
 | rowAsk => simp [stepsL] at hK
theorem MapX.ask27 {w : World} {m : Nat} (h : MapX w m stepsL) {word : List UInt8} {K : StK} (hK : (word, K) ∈ stepsL) : ∃ v, StepK w K v ∧ (Instr.lookup 86 (.map (some m)) (.string ⟨word.toArray⟩) true).run Tryz.prog w = .ok (.tuple #[v, .bool true]) w := by
 obtain ⟨es, c, R, h1, h2, _⟩ := h
 obtain ⟨v, hv, hk⟩ := h2 _ hK
 refine ⟨v, hk, ?_⟩
 have := h1.ask underSt zeroSt (k := word)
 rw [hv] at this
 exact this
theorem step_size : (Tryz.prog.info? 39).map (·.size) = some 32 := by kernel_rfl
def zeroSC : Array Value := #[.string ⟨#[]⟩, .int .i64 0, .slice none 0 0, .string ⟨#[]⟩, .int .i64 0, .int .i64 0, .string ⟨#[]⟩, .int .i64 0, .bool false, .string ⟨#[]⟩, .int .i64 0, .int .i64 0, .int .i64 0, .int .i64 0, .bool false, .slice none 0 0, .slice none 0 0, .slice none 0 0, .slice none 0 0, .string ⟨#[]⟩, .string ⟨#[]⟩, .bool false, .bool false, .string ⟨#[]⟩, .string ⟨#[]⟩, .string ⟨#[]⟩, .bool false, .int .i64 0, .int .i64 0, .string ⟨#[]⟩, .string ⟨#[]⟩, .slice none 0 0]
set_option maxRecDepth 10000 in
theorem read1_idle (g h : Nat) (w : World) :
  CallsD Tryz.prog 34 #[.pointer (some ⟨g, 0, none⟩), .pointer (some ⟨h, 0, none⟩)] .returning w fun e u' w' => e = .returned (.tuple #[]) ∧ u' = .returning ∧ w' = w := by
 refine callsD_of_wpS Tryz.func34 rfl fun c₀ cs hu => ?_
 apply wpS_seq
 apply wpS_region
 simp [wpOpsS, go_sem, recoverD, hu, Tryz.ntmps34, Exit.thenS]
 refine wpS_of_wp ?_
 have hrep : (Array.replicate 15 undef : Array Value) = #[undef, undef, undef, undef, undef, undef, undef, undef, undef, undef, undef, undef, undef, undef, undef] := rfl
 simp only [hrep, List.setIfInBounds_toArray, List.append_toArray, List.cons_append, List.nil_append, List.set_cons_zero, List.set_cons_succ]
 go_wp2_with fail
 cases c₀
 simp_all [bodyPostS, results, Tryz.results34]
def ReadRet27 (w : World) (P : Scr.StepP) (e : Ending) (w' : World) : Prop := Below w.heap.size w w' ∧ ∃ V, e = .returned (.tuple #[.agg (stepCells P V).toArray, .bool true]) ∧ RowsOK w.heap.size w' P V
theorem RowsOK.lower {B B' : Nat} {w : World} {x : Scr.StepP} {v : StepV} (h : RowsOK B w x v) (_ : B' ≤ B) : RowsOK B' w x v := ⟨h.nums, h.fil, h.sel, h.mods, h.attrs, h.ctl⟩
theorem RowsOK.one {B : Nat} {w : World} {x : Scr.StepP} {v : StepV} (h : RowsOK B w x v) : ((stepCells x v).toArray.all (·.oneCell')) = true := by
 obtain ⟨a, b, c, d, e, f⟩ := v
 obtain ⟨⟨h1, _⟩, ⟨h2, _⟩, ⟨h3, _⟩, ⟨h4, _⟩, ⟨h5, _⟩, h6⟩ := h
 simp only at h1 h2 h3 h4 h5 h6
 subst h1 h2 h3 h4 h5 h6
 simp [stepCells, msgCells, nilSl, Value.oneCell']
theorem RowsOK.other {B : Nat} {w w' : World} {x : Scr.StepP} {v : StepV} (h : RowsOK B w x v) {g : Nat} {t : TypeId} {cs : Array Value} (_ : Bk w g t cs) (_ : t = 39 ∨ t = 4) (_ : Mods [g] w w') : RowsOK B w' x v := ⟨h.nums, h.fil, h.sel, h.mods, h.attrs, h.ctl⟩
theorem mods_row (W : World) (g : Nat) (cs : Array Value) : Mods [g] W (W.setRow g cs) := ⟨rfl, rfl, rfl, by rw [setRow_size]; exact Nat.le_refl _, fun k _ hn => setRow_other _ _ _ _ (by simpa using hn)⟩
theorem mods_below2 {x p B : Nat} {w0 w w' : World} (h : Below B w0 w) (hB : B ≤ w.heap.size) (hm : Mods [x, p] w w') (hx : B ≤ x) (hp : B ≤ p) : Below B w0 w' := h.trans (hm.below hB (fun y hy => by
 simp only [List.mem_cons, List.not_mem_nil, or_false] at hy
 rcases hy with rfl | rfl
 ·exact hx
 ·exact hp))
theorem not_two {k x p : Nat} (h1 : x ≠ k) (h2 : p ≠ k) : k ∉ [x, p] := by
 simp only [List.mem_cons, List.not_mem_nil, or_false, not_or]
 exact ⟨fun e => h1 e.symm, fun e => h2 e.symm⟩
theorem set_back {W : World} {a c : Nat} {t t' : TypeId} {old cs' : Array Value} (h1 : Bk W a t old) (h2 : Bk W c t' cs') (hne : a ≠ c) (cs : Array Value) : Bk (W.setRow a cs) a t cs ∧ Bk (W.setRow a cs) c t' cs' ∧ Mods [a] W (W.setRow a cs) :=
 ⟨setRow_heap _ _ _ _ _ _ h1, (setRow_other _ _ _ _ hne.symm).trans h2, mods_row _ _ _⟩
theorem read_out {w W : World} {tmps : Array Value} {b c : Nat} {P : Scr.StepP} {V : StepV} (hb : Below w.heap.size w W) (h1 : Bk W b 39 (stepCells P V).toArray) (h2 : Bk W c 4 #[.bool true]) (t2 : tmps[2]? = some (.pointer (some ⟨b, 0, none⟩))) (t3 : tmps[3]? = some (.pointer (some ⟨c, 0, none⟩))) (hr : RowsOK w.heap.size W P V) :
  Leaves Tryz.prog Tryz.f14 tmps (ReadRet27 w P) [] .returning W := by
 have e2 : tmps[2]?.getD undef = .pointer (some ⟨b, 0, none⟩) := by rw [t2]; rfl
 have e3 : tmps[3]?.getD undef = .pointer (some ⟨c, 0, none⟩) := by rw [t3]; rfl
 have l1 : (loadVar 39 ⟨b, 0, none⟩).run Tryz.prog W = .ok (.agg (stepCells P V).toArray) W := run_loadVar_row W b 39 39 _ (0, 0) _ h1 Tryz.underlying39 rfl step_size
 have c2 := h2.cell 0
 have l2 : (loadVar 4 ⟨c, 0, none⟩).run Tryz.prog W = .ok (.bool true) W := by
  simp [go_sem, c2]
 refine ⟨.tuple #[.agg (stepCells P V).toArray, .bool true], ?_, hb, V, rfl, hr⟩
 simp [results, Tryz.results14, asAddr, e2, e3, l1, l2]
set_option maxRecDepth 100000 in
theorem read_ok (word : List UInt8) (K : StK) (l : List Scr.WordP) (P : Scr.StepP) (vl : Value) (w : World) (hK : (word, K) ∈ stepsL) (hl : WdsT w vl ((word, false) :: l)) (hlim : Scr.WLim ((word, false) :: l)) (hF : kindF K (Scr.zeroStep word) l = some (P, [])) (hC : kindC K (Scr.zeroStep word) l) :
  Calls Tryz.prog 14 #[vl] w (ReadRet27 w P) := by
 have hmf : ∀ (fn : Fn) (first cap : Array Value) (w : World), (Instr.makeFunc fn first cap).run Tryz.prog w = .ok (.func fn first cap) w := fun _ _ _ _ => rfl
 have HY := Lib.hid (fun W => want_yes W)
 have HK := Lib.hid hK
 have HF := Lib.hid hF
 have HC := Lib.hid hC
 clear hK hF hC
 obtain ⟨Ao, co, rfl, hco, _⟩ := id hl
 have hwa := (Below.refl w.heap.size w).alloc (Nat.le_refl _) (.cells zeroSC 39)
 have hba := Bk.new w 39 zeroSC
 have hsa : (w.alloc (.cells zeroSC 39)).heap.size = w.heap.size + 1 := by simp
 obtain ⟨Wa, hWa⟩ : ∃ Wa, w.alloc (.cells zeroSC 39) = Wa := ⟨_, rfl⟩
 rw [hWa] at hwa hba hsa
 have hwb := (Below.refl Wa.heap.size Wa).alloc (Nat.le_refl _) (.cells #[.bool false] 4)
 have hbb := Bk.new Wa 4 #[.bool false]
 have hsb : (Wa.alloc (.cells #[.bool false] 4)).heap.size = w.heap.size + 1 + 1 := by simp [hsa]
 obtain ⟨Wb, hWb⟩ : ∃ Wb, Wa.alloc (.cells #[.bool false] 4) = Wb := ⟨_, rfl⟩
 rw [hWb] at hwb hbb hsb
 have hwc := (Below.refl Wb.heap.size Wb).alloc (Nat.le_refl _) (.cells #[.slice Ao ((word, false) :: l).length co] 83)
 have hbc := Bk.new Wb 83 #[.slice Ao ((word, false) :: l).length co]
 have hsc : (Wb.alloc (.cells #[.slice Ao ((word, false) :: l).length co] 83)).heap.size = w.heap.size + 1 + 1 + 1 := by simp [hsb]
 have hbab := (hwa.trans (hwb.mono hwa.size))
 obtain ⟨Wc, hWc⟩ : ∃ Wc, Wb.alloc (.cells #[.slice Ao ((word, false) :: l).length co] 83) = Wc := ⟨_, rfl⟩
 rw [hWc] at hwc hbc hsc
 have hbw := hbab.trans (hwc.mono hbab.size)
 have hR : RdS Wc Wb.heap.size ((word, false) :: l) := ⟨_, hbc, hl.below hbw⟩
 have HPl := Lib.hid (plain27_c Wb.heap.size ((word, false) :: l) Wc hR hlim)
 rw [show Scr.nextR false ((word, false) :: l) = some (word, l) from rfl] at HPl
 have HR1 := Lib.hid (And.intro ((hba.below hwb).below hwc) (hbb.below hwc))
 have HBW := Lib.hid hbw
 have HSZ : Hid (Wa.heap.size = w.heap.size + 1 ∧ Wb.heap.size = w.heap.size + 1 + 1 ∧ Wc.heap.size = w.heap.size + 1 + 1 + 1) := Lib.hid ⟨hsa, hsb, hsc⟩
 have HLM := Lib.hid hlim.tail
 have hll : ((word, false) :: l).length = l.length + 1 := rfl
 rw [hll] at hWc
 have HSS : Hid ((Tryz.prog.info? 39).map (·.size) = some (stepCells (Scr.zeroStep word) nilV).toArray.size) := Lib.hid step_size
 have HSO : Hid (((stepCells (Scr.zeroStep word) nilV).toArray.all (·.oneCell')) = true) := Lib.hid (by simp [stepCells, msgCells, Scr.zeroStep, Scr.zeroMsg, nilV, nilSl, Value.oneCell'])
 rw [hll]
 unfold zeroSC at hWa
 clear hwa hba hsa hwb hbb hsb hwc hbc hsc hbab hbw hR hl hlim hll hco
 go_enter_defers Tryz.func14, Tryz.ntmps14
 go_upto_region 4 with (first
  | (go_at_call 35; (with_reducible refine HPl.out.mono ?_); rintro e w1 ⟨hm, rfl, hd⟩; have HM1 := Lib.hid hm; have HD1 := Lib.hid hd; have hwz := (Below.refl w1.heap.size w1).alloc (Nat.le_refl _) (.cells zeroSC 39); have hbz := Bk.new w1 39 zeroSC; obtain ⟨Wz, hWz⟩ : ∃ Wz, w1.alloc (.cells zeroSC 39) = Wz := ⟨_, rfl⟩; rw [hWz] at hwz hbz; have HWZ := Lib.hid (And.intro hwz hbz); clear hm hd hwz hbz; unfold zeroSC at hWz; unfold encS)
  | (refine wpList_store_row rfl 39 _ _ rfl w1.heap.size (stepCells (Scr.zeroStep word) nilV).toArray rfl rfl 39 zeroSC HWZ.out.2 HSS.out rfl HSO.out ?_))
 clear hWz hWc
 obtain ⟨sz1, sz2, sz3⟩ := HSZ.out
 have hlt1 : Wc.heap.size ≤ w1.heap.size := HM1.out.size
 have hb3 : Bk (Wz.setRow w1.heap.size (stepCells (Scr.zeroStep word) nilV).toArray) w1.heap.size 39 (stepCells (Scr.zeroStep word) nilV).toArray := setRow_heap _ _ _ _ _ _ HWZ.out.2
 have hmz : Mods [w1.heap.size] Wz (Wz.setRow w1.heap.size (stepCells (Scr.zeroStep word) nilV).toArray) := mods_row _ _ _
 have hr3 : RdS (Wz.setRow w1.heap.size (stepCells (Scr.zeroStep word) nilV).toArray) Wb.heap.size l := (HD1.out.below HWZ.out.1).mods hmz (by simp; omega) (NoWordS.of_bk HWZ.out.2 (by decide))
 have ha3 : Bk (Wz.setRow w1.heap.size (stepCells (Scr.zeroStep word) nilV).toArray) w.heap.size 39 zeroSC := hmz.bk ((HM1.out.bk HR1.out.1 (by simp; omega)).below HWZ.out.1) (by simp; omega)
 have hc3 : Bk (Wz.setRow w1.heap.size (stepCells (Scr.zeroStep word) nilV).toArray) Wa.heap.size 4 #[.bool false] := hmz.bk ((HM1.out.bk HR1.out.2 (by simp; omega)).below HWZ.out.1) (by simp; omega)
 have hbw3 : Below w.heap.size w (Wz.setRow w1.heap.size (stepCells (Scr.zeroStep word) nilV).toArray) := below_setRow (((HBW.out.trans (HM1.out.below HBW.out.size (by simp; omega))).trans (HWZ.out.1.mono (by omega)))) (by omega) _
 have hs3 : w1.heap.size < (Wz.setRow w1.heap.size (stepCells (Scr.zeroStep word) nilV).toArray).heap.size := hb3.lt
 have HX3 := Lib.hid (And.intro hb3 (And.intro hr3 (And.intro ha3 (And.intro hc3 hbw3))))
 have HSZ4 : Hid (w.heap.size ≤ Wa.heap.size) := Lib.hid (by omega)
 have HSZ3 : Hid (w.heap.size ≤ w1.heap.size ∧ w.heap.size ≤ Wb.heap.size ∧ w1.heap.size ≠ w.heap.size ∧ w1.heap.size ≠ Wa.heap.size ∧ w.heap.size ≠ Wa.heap.size ∧ Wb.heap.size ≠ w.heap.size ∧ Wb.heap.size ≠ Wa.heap.size) := Lib.hid ⟨by omega, by omega, by omega, by omega, by omega, by omega, by omega⟩
 have hx0 := hb3.cell 0
 clear hb3 hmz hr3 ha3 hc3 hbw3 hs3 hlt1 sz1 sz2 sz3 HSZ HWZ HD1 HM1 HR1 HBW
 obtain ⟨W3, hW3⟩ : ∃ W3, Wz.setRow w1.heap.size (stepCells (Scr.zeroStep word) nilV).toArray = W3 := ⟨_, rfl⟩
 rw [hW3] at HX3 hx0 ⊢
 clear hW3
 obtain ⟨x, hxx⟩ : ∃ x, w1.heap.size = x := ⟨_, rfl⟩
 rw [hxx] at HX3 hx0 HSZ3 ⊢
 obtain ⟨p, hpp⟩ : ∃ p, Wb.heap.size = p := ⟨_, rfl⟩
 rw [hpp] at HX3 HSZ3 ⊢
 clear hxx hpp HPl
 simp only [stepCells, List.getElem?_toArray, List.cons_append, List.getElem?_cons_zero, Scr.zeroStep] at hx0
 go_region_held3 (fun W => W.cell? ⟨x, 0, none⟩ = some (.string ⟨word.toArray⟩)) (first | exact hy0 | exact hx0) (first
  | (go_at_call 36; (refine (steps27_c _).mono ?_); rintro e w4 ⟨m, rfl, hX, hb⟩; obtain ⟨v, hk, hlk⟩ := hX.ask27 HK.out; have hx4 := (HX3.out.1.below (Below.refl _ _).drew).below hb; have hr4 := (HX3.out.2.1.below (Below.refl _ _).drew).below hb; obtain ⟨vr, hp4, hw4⟩ := hr4; obtain ⟨f, cap, rfl, hD⟩ := kind_do hx4 hp4 hk (List.mem_map.2 ⟨_, HK.out, rfl⟩); have hent := hD.ent; have hy0 : w4.cell? ⟨x, 0, none⟩ = some (.string ⟨word.toArray⟩) := hx4.cell 0; have HR4 := Lib.hid (And.intro hx4 (⟨vr, hp4, hw4⟩ : RdS w4 p l)); have HB4 := Lib.hid hb; have HD := Lib.hid hD; clear hX hk hx4 hp4 hw4 hD hb)
  | fail)
 all_goals
  have hfar : w4.heap.size = w4.heap.size := rfl
  clear hfar
  have HRun := Lib.hid (HD.out.run w4 (Scr.zeroStep word) l (Mods.refl _ _) HR4.out.1 ⟨rfl, rfl, rfl, rfl, rfl⟩ HR4.out.2 HLM.out HC.out)
  rw [HF.out] at HRun
  go_wp2_with (first
   | (go_at_call 37; (with_reducible refine (HY.out _).mono ?_); rintro e w5 ⟨rfl, rfl⟩)
   | ((with_reducible refine HRun.out.mono ?_); rintro e w6 ⟨hm6, rfl, hst, hrd⟩; obtain ⟨V, hbV, hrV⟩ := hst; have HBV := Lib.hid (And.intro hbV hrV); have HMo := Lib.hid (more27_c p [] w6 hrd); have ha6 := hm6.bk ((HX3.out.2.2.1.below (Below.refl _ _).drew).below HB4.out) (not_two HSZ3.out.2.2.1 HSZ3.out.2.2.2.2.2.1); have hc6 := hm6.bk ((HX3.out.2.2.2.1.below (Below.refl _ _).drew).below HB4.out) (not_two HSZ3.out.2.2.2.1 HSZ3.out.2.2.2.2.2.2); have hbl := mods_below2 (HX3.out.2.2.2.2.drew.trans (HB4.out.mono HX3.out.2.2.2.2.drew.size)) (Nat.le_trans HX3.out.2.2.2.2.drew.size HB4.out.size) hm6 HSZ3.out.1 HSZ3.out.2.1; have HA6 := Lib.hid (And.intro ha6 (And.intro hc6 hbl)); have HS6 := Lib.hid (set_back ha6 hc6 HSZ3.out.2.2.2.2.1 (stepCells P V).toArray); have HSV : Hid ((Tryz.prog.info? 39).map (·.size) = some (stepCells P V).toArray.size) := Lib.hid step_size; clear hm6 hrd hbV hrV ha6 hc6 hbl)
   | (go_at_call 38; (with_reducible refine HMo.out.mono ?_); rintro e w7 ⟨rfl, rfl⟩)
   | (refine wpList_load_row rfl 39 _ rfl x rfl 39 (stepCells P V).toArray (0, 0) _ HBV.out.1 Tryz.underlying39 rfl HSV.out ?_)
   | (refine wpList_store_row rfl 39 _ _ rfl w.heap.size (stepCells P V).toArray rfl rfl 39 zeroSC HA6.out.1 HSV.out rfl HBV.out.2.one ?_; have c7 := HS6.out.2.1.cell 0; have f7 := HS6.out.2.1.frozen 0))
  refine leaves_cons (u := .returning) (fv := .func 34) (cap := #[.pointer (some ⟨w.heap.size, 0, none⟩), .pointer (some ⟨Wa.heap.size, 0, none⟩)]) (dargs := #[]) (f := 34) (args := #[.pointer (some ⟨w.heap.size, 0, none⟩), .pointer (some ⟨Wa.heap.size, 0, none⟩)]) (by simp) (by simp [go_sem]) ?_
  refine (read1_idle w.heap.size Wa.heap.size _).mono ?_
  rintro e u' w'' ⟨rfl, rfl, rfl⟩
  have hr7 := (((HBV.out.2.lower (B' := w.heap.size) (by have := HX3.out.2.2.2.2.size; have := HB4.out.size; have h2 : W3.drew.heap.size = W3.heap.size := rfl; omega)).other HA6.out.1 (.inl rfl) HS6.out.2.2).other HS6.out.2.1 (.inr rfl) (mods_setS _ Wa.heap.size 0 (.bool true)))
  refine read_out (V := V) ?_ (HS6.out.1.far (g' := Wa.heap.size) (i := 0) HSZ3.out.2.2.2.2.1 (.bool true)) (HS6.out.2.1.set 0 (.bool true)) rfl rfl hr7
  exact (below_setRow HA6.out.2.2 (Nat.le_refl _) _).setCell (p := ⟨Wa.heap.size, 0, none⟩) (HSZ4.out) _
end Go.Proofs.YthenffabboomnaaGreatDoor
set_option linter.all false
namespace Go.Proofs.YthenffabboomnaaGreatDoor
open Go.RowKit
def KpB (lo : Nat) (W W' : World) : Prop := ∀ k, lo ≤ k → k < lo + 3 → W'.heap[k]? = W.heap[k]?
theorem KpB.refl (lo : Nat) (W : World) : KpB lo W W := fun _ _ _ => rfl
theorem KpB.trans {lo : Nat} {A B C : World} (h : KpB lo A B) (h' : KpB lo B C) : KpB lo A C := fun k h1 h2 => (h' k h1 h2).trans (h k h1 h2)
theorem KpB.put {lo : Nat} (W : World) {l : Nat} (o : Obj) (h : lo + 3 ≤ l) : KpB lo W (W.putObj l o) := fun k _ h2 => World.putObj_heap_other (by omega)
theorem KpB.grown {lo : Nat} {W W' : World} {row : Option Nat} (hg : W.grownBy W' row) (hs : lo + 3 ≤ W.heap.size) (hr : ∀ r, row = some r → r < lo ∨ lo + 3 ≤ r) : KpB lo W W' :=
 fun k h1 h2 => hg.block k (by omega) (fun e => by have := hr k e.symm; omega)
def StillB {β : Type} (lo : Nat) (J : β → World → Prop) : Prop := ∀ s A B, J s A → A.grownBy B (some lo) → J s B
def OwnS {β : Type} (lo B : Nat) (I : β → World → Prop) : Prop :=
 ∀ s W W' row, I s W → W.grownBy W' row → (∀ r, row = some r → r = lo ∨ (B ≤ r ∧ ∃ o : Obj, W.heap[r]? = some o ∧ o.isCells = false)) → I s W'
theorem OwnS.put {β : Type} {lo B : Nat} {I : β → World → Prop} (h : OwnS lo B I) {s : β} {W : World} {l : Nat} {o : Obj} (o' : Obj) (hs : I s W) (hB : B ≤ l) (hl : W.heap[l]? = some o) (ho : o.isCells = false) : I s (W.putObj l o') :=
 h s W _ (some l) hs (grownBy_putObj' W l o') (fun r e => by cases e; exact .inr ⟨hB, o, hl, ho⟩)
theorem OwnS.alloc {β : Type} {lo B : Nat} {I : β → World → Prop} (h : OwnS lo B I) {s : β} {W : World} (o : Obj) (hs : I s W) : I s (W.alloc o) :=
 h s W _ none hs (World.grownBy_alloc W o none) (fun r e => by cases e)
def postS {α : Type} (lo B : Nat) (I Ix : List α → World → Prop) (xs : List α) (W : World) : Exit → Act → World → Prop
 | .normal, _, W' => KeepsFrom B W W' ∧ KpB lo W W' ∧ I xs W'
 | .ret, _, W' => KeepsFrom B W W' ∧ Ix xs W'
 | _, _, _ => False
def SplitIt (F : Fence) (n : Nat) (P : Program) (gf : Nat) (lb : Array Value) {α : Type} (encs : α → Array Value) (lo : Nat) (L : List α) (w : World) : Prop :=
 ∀ (l : Nat) (J Jx : List α → World → Prop) (W : World), KpB lo w W → lo + 3 ≤ W.heap.size → StillB lo J → StillB lo Jx →
  (∀ pre x W1, J pre W1 → pre ++ [x] <+: L → YieldAt F (n - 1) P l (encs x) W1 fun e W' => (e = .returned (.bool true) ∧ J (pre ++ [x]) W' ∧ KpB lo W1 W') ∨ (e = .returned (.bool false) ∧ Jx (pre ++ [x]) W')) →
  J [] W → CallsIn F n P gf (#[.func (.yield l) #[] #[]] ++ lb) W fun e W' => (∃ v, e = .returned v) ∧ (J L W' ∨ ∃ pre, Jx pre W')
theorem wpIn_rangeS {F : Fence} {n : Nat} {P : Program} {α : Type} {g : Operand} {ps : Array Tmp} {assign body : Code} {Q : Exit → Act → World → Prop} {a : Act} {w : World}
  (hro : F.round = none) (h1 : 1 ≤ n) {gf : Nat} {lb : Array Value} (hg : a.eval g = .func (.func gf) #[] lb) (hFg : F.fn gf) (eg : ∀ args w, (callFunc gf args).run P w = .ok (.enter gf args) w)
  {encs : α → Array Value} {lo : Nat} {L : List α} (hseq : SplitIt F (n - 1) P gf lb encs lo L w) (hlo : lo + 3 ≤ w.heap.size) (hps : ∀ x, (encs x).size = ps.size)
  (I Ix : List α → World → Prop) (hI : OwnS lo w.heap.size I) (hIx : OwnS lo w.heap.size Ix) (h0 : I [] w) (a₁ : α → Act)
  (hassign : ∀ (l : Nat) (x : α) (W : World) (K : Act → World → Prop), K (a₁ x) W →
   assign.wpIn (F.inRound l) (n - 1 - 1) P (Exit.then K (fun _ _ _ => False)) { tmps := (ps.zip (encs x)).foldl (fun t (p, v) => t.setIfInBounds p v) a.tmps, defers := [] } W)
  (hbody : ∀ (l : Nat) (pre : List α) (x : α) (W : World), w.heap.size ≤ W.heap.size → I pre W → pre ++ [x] <+: L → body.wpIn (F.inRound l) (n - 1 - 1) P (postS lo w.heap.size I Ix (pre ++ [x]) W) (a₁ x) W)
  (hdone : ∀ (D : Nat) (W : World), w.heap.size ≤ D → I L W → W.heap[D]? = some (.deferred (some [])) → Q .normal { a with defers := { target := .collected D, args := #[] } :: a.defers } W)
  (hstop : ∀ (D : Nat) (pre : List α) (W : World), w.heap.size ≤ D → Ix pre W → W.heap[D]? = some (.deferred (some [])) → Code.ret.wpIn F n P Q { a with defers := { target := .collected D, args := #[] } :: a.defers } W) :
  (Code.rangeFunc g ps assign body).wpIn F n P Q a w := by
 refine wpIn_rangeFunc fun fn hfn => ?_
 rw [hro]
 obtain ⟨D, hD⟩ : ∃ D, w.heap.size = D := ⟨_, rfl⟩
 obtain ⟨rc, hrc⟩ : ∃ rc : LoopState → Option Code → Loop, rc = fun st pe => { state := st, pending := pe, fn, tmps := a.tmps, params := ps, assign, body, defers := D } := ⟨_, rfl⟩
 have hent := run_enterLoop_outer (P := P) (w := w) fn a.tmps ps assign body
 rw [hD, show ({ state := .ready, pending := none, fn := fn, tmps := a.tmps, params := ps, assign := assign, body := body, defers := D } : Loop) = rc .ready none by rw [hrc]] at hent
 obtain ⟨X, hX⟩ : ∃ X, (w.alloc (.deferred (some []))).alloc (.loop (rc .ready none)) = X := ⟨_, rfl⟩
 rw [hX] at hent
 have hXs : X.heap.size = D + 2 := by rw [← hX]; simp only [World.size_alloc]; omega
 have hXl : X.heap[D + 1]? = some (.loop (rc .ready none)) := by
  have := World.alloc_heap_new (w.alloc (.deferred (some []))) (.loop (rc .ready none))
  rwa [World.size_alloc, hD, hX] at this
 have hXd : X.heap[D]? = some (.deferred (some [])) := by
  have := World.alloc_heap_new w (.deferred (some []))
  rw [hD] at this
  rw [← hX]
  exact (Below.heap_alloc _ _ _ (by rw [World.size_alloc]; omega)).trans this
 have hXi : I [] X := by rw [← hX]; exact hI.alloc _ (hI.alloc _ h0)
 have hXk : KpB lo w X := by
  rw [← hX]
  exact (KpB.grown (World.grownBy_alloc w _ none) hlo (fun r e => by cases e)).trans (KpB.grown (World.grownBy_alloc _ _ none) (by rw [World.size_alloc]; omega) (fun r e => by cases e))
 have hkeep : ∀ {A B : World} {k : Nat} {o : Obj}, D ≤ k → A.heap[k]? = some o → A.grownBy B (some lo) → B.heap[k]? = some o := fun {A B k o} hk h hg' =>
  (hg'.block k (Array.getElem?_eq_some_iff.1 h).1 (fun e => by cases e; omega)).trans h
 refine ⟨D + 1, [{ target := .collected D, args := #[] }], X, { target := .fn (.func gf) lb, args := #[.func (.yield (D + 1)) #[] #[]] }, X, gf, #[.func (.yield (D + 1)) #[] #[]] ++ lb, X, hent, ?_, ?_, ?_, fun _ => h1, ?_⟩
 ·simp only [resolve, hg]
  simp [go_sem]
 ·intro f' hf'
  simp [Target.leads] at hf'
  subst hf'
  exact hFg
 ·simp [invoke, go_sem, eg]
 refine (hseq (D + 1)
  (fun pre W => I pre W ∧ W.heap[D + 1]? = some (.loop (rc .ready none)) ∧ W.heap[D]? = some (.deferred (some [])))
  (fun pre W => Ix pre W ∧ W.heap[D + 1]? = some (.loop (rc .done (some .ret))) ∧ W.heap[D]? = some (.deferred (some [])))
  X hXk (by omega)
  (fun s A B hs hg' => ⟨hI s A B _ hs.1 hg' (fun r e => by cases e; exact .inl rfl), hkeep (by omega) hs.2.1 hg', hkeep (by omega) hs.2.2 hg'⟩)
  (fun s A B hs hg' => ⟨hIx s A B _ hs.1 hg' (fun r e => by cases e; exact .inl rfl), hkeep (by omega) hs.2.1 hg', hkeep (by omega) hs.2.2 hg'⟩)
  ?_ ⟨hXi, hXl, hXd⟩).mono ?_
 ·rintro pre x W ⟨hi, hl, hd⟩ hpre
  have hlt : D + 1 < W.heap.size := (Array.getElem?_eq_some_iff.1 hl).1
  have hy := run_yield (P := P) (args := encs x) hl (by rw [hrc]; exact hps x)
  rw [hrc] at hy
  refine ⟨fn, _, assign, body, hy, roundIn_of_wpIn hfn (hassign _ x W _ ⟨_, run_beginRound hl (by rw [hrc]), ?_⟩)⟩
  rw [show ({ rc .ready none with state := .busy } : Loop) = rc .busy none by rw [hrc]]
  obtain ⟨Y, hY⟩ : ∃ Y, W.putObj (D + 1) (.loop (rc .busy none)) = Y := ⟨_, rfl⟩
  rw [hY]
  have hYl : Y.heap[D + 1]? = some (.loop (rc .busy none)) := by rw [← hY]; exact World.putObj_heap_same hlt
  have hYd : Y.heap[D]? = some (.deferred (some [])) := by rw [← hY]; exact (World.putObj_heap_other (by omega)).trans hd
  have hYi : I pre Y := by rw [← hY]; exact hI.put _ hi (by omega) hl rfl
  have hYk : KpB lo W Y := by rw [← hY]; exact KpB.put W _ (by omega)
  have hYs : w.heap.size ≤ Y.heap.size := by have := (Array.getElem?_eq_some_iff.1 hYl).1; omega
  refine wpIn_mono (hbody _ pre x Y hYs hYi hpre) ?_
  rintro e a3 Z hp
  cases e with
  | normal =>
   obtain ⟨hk, hkp, hz⟩ := hp
   have hZl := hk.same _ _ (by omega) hYl rfl
   have hZd := hk.same _ _ (by omega) hYd rfl
   have hr := run_endRound (P := P) none hZl
   rw [show ({ rc .busy none with state := if (none : Option Code).isNone then .ready else .done, pending := none } : Loop) = rc .ready none by rw [hrc]; rfl] at hr
   have hZlt := (Array.getElem?_eq_some_iff.1 hZl).1
   exact ⟨_, _, hr, .inl ⟨rfl, ⟨hI.put _ hz (by omega) hZl rfl, World.putObj_heap_same hZlt, (World.putObj_heap_other (by omega)).trans hZd⟩, (hYk.trans hkp).trans (KpB.put Z _ (by omega))⟩⟩
  | ret =>
   obtain ⟨hk, hz⟩ := hp
   have hZl := hk.same _ _ (by omega) hYl rfl
   have hZd := hk.same _ _ (by omega) hYd rfl
   have hr := run_endRound (P := P) (some .ret) hZl
   rw [show ({ rc .busy none with state := if (some Code.ret).isNone then .ready else .done, pending := some .ret } : Loop) = rc .done (some .ret) by rw [hrc]; rfl] at hr
   have hZlt := (Array.getElem?_eq_some_iff.1 hZl).1
   exact ⟨_, _, hr, .inr ⟨rfl, hIx.put _ hz (by omega) hZl rfl, World.putObj_heap_same hZlt, (World.putObj_heap_other (by omega)).trans hZd⟩⟩
  | exit id => exact hp.elim
  | goto t => exact hp.elim
  | panic ch => exact hp.elim
  | outgrown => exact hp.elim
 ·rintro e Z ⟨⟨v, rfl⟩, ⟨hi, hl, hd⟩ | ⟨pre, hi, hl, hd⟩⟩
  ·have hr := run_endLoop (P := P) hl (by rw [hrc]; simp)
   rw [show (rc .ready none).pending = none by rw [hrc]] at hr
   exact ⟨none, _, hr, hdone _ _ (by omega) (hI.put _ hi (by omega) hl rfl) ((World.putObj_heap_other (by omega)).trans hd)⟩
  ·have hr := run_endLoop (P := P) hl (by rw [hrc]; simp)
   rw [show (rc .done (some Code.ret)).pending = some .ret by rw [hrc]] at hr
   exact ⟨some .ret, _, hr, hstop _ pre _ (by omega) (hIx.put _ hi (by omega) hl rfl) ((World.putObj_heap_other (by omega)).trans hd)⟩
end Go.Proofs.YthenffabboomnaaGreatDoor
