import Derived.Test.YthenffabboomnaaGreatDoorD08
import Derived.OrdersHeld
set_option linter.all false
set_option maxHeartbeats 8000000
set_option maxRecDepth 100000
set_option linter.all false
namespace Go.Proofs.YthenffabboomnaaGreatDoor
open Go.RowKit
namespace Scr
structure ModP where
 op : Int
 typ : List UInt8
 vals : List (List UInt8)
deriving DecidableEq
structure MsgP where
 id : Int
 op : Int
 dn : List UInt8
 version : Int
 sasl : Bool
 secret : List UInt8
 scope : Int
 deref : Int
 size : Int
 time : Int
 typesOnly : Bool
 fil : List Fil.FilE
 sel : List (List UInt8)
 mods : List ModP
 attrs : List (List UInt8 × List (List UInt8))
 newRdn : List UInt8
 newSup : List UInt8
 deleteOld : Bool
 hasSup : Bool
 typ : List UInt8
 val : List UInt8
 oid : List UInt8
 has : Bool
 target : Int
 code : Int
 matched : List UInt8
 text : List UInt8
structure StepP where
 word : List UInt8
 conn : Int
 nums : List Int
 data : List UInt8
 msg : MsgP
def zeroMsg : MsgP := ⟨0, 0, [], 0, false, [], 0, 0, 0, 0, false, [], [], [], [], [], [], false, false, [], [], [], false, 0, 0, [], []⟩
def zeroStep (word : List UInt8) : StepP := ⟨word, 0, [], [], zeroMsg⟩
end Scr
structure StepV where
 nums : Value
 fil : Value
 sel : Value
 mods : Value
 attrs : Value
 ctl : Value
def nilSl : Value := .slice none 0 0
def nilV : StepV := ⟨nilSl, nilSl, nilSl, nilSl, nilSl, nilSl⟩
def msgCells (m : Scr.MsgP) (v : StepV) : List Value := [.int .i64 m.id, .int .i64 m.op, .string ⟨m.dn.toArray⟩, .int .i64 m.version, .bool m.sasl, .string ⟨m.secret.toArray⟩, .int .i64 m.scope, .int .i64 m.deref, .int .i64 m.size, .int .i64 m.time, .bool m.typesOnly, v.fil, v.sel, v.mods, v.attrs,
 .string ⟨m.newRdn.toArray⟩, .string ⟨m.newSup.toArray⟩, .bool m.deleteOld, .bool m.hasSup, .string ⟨m.typ.toArray⟩, .string ⟨m.val.toArray⟩, .string ⟨m.oid.toArray⟩, .bool m.has, .int .i64 m.target, .int .i64 m.code, .string ⟨m.matched.toArray⟩, .string ⟨m.text.toArray⟩, v.ctl]
def stepCells (x : Scr.StepP) (v : StepV) : List Value := [.string ⟨x.word.toArray⟩, .int .i64 x.conn, v.nums, .string ⟨x.data.toArray⟩] ++ msgCells x.msg v
structure RowsOK (B : Nat) (w : World) (x : Scr.StepP) (v : StepV) : Prop where
 nums : v.nums = nilSl ∧ x.nums = []
 fil : v.fil = nilSl ∧ x.msg.fil = []
 sel : v.sel = nilSl ∧ x.msg.sel = []
 mods : v.mods = nilSl ∧ x.msg.mods = []
 attrs : v.attrs = nilSl ∧ x.msg.attrs = []
 ctl : v.ctl = nilSl
theorem RowsOK.below {B : Nat} {w w' : World} {x : Scr.StepP} {v : StepV} (h : RowsOK B w x v) (hb : Below w.heap.size w w') : RowsOK B w' x v := ⟨h.nums, h.fil, h.sel, h.mods, h.attrs, h.ctl⟩
def Bare (x : Scr.StepP) : Prop := x.nums = [] ∧ x.msg.fil = [] ∧ x.msg.sel = [] ∧ x.msg.mods = [] ∧ x.msg.attrs = []
theorem RowsOK.bare {B : Nat} {w : World} {x : Scr.StepP} (h : Bare x) : RowsOK B w x nilV := ⟨⟨rfl, h.1⟩, ⟨rfl, h.2.1⟩, ⟨rfl, h.2.2.1⟩, ⟨rfl, h.2.2.2.1⟩, ⟨rfl, h.2.2.2.2⟩, rfl⟩
def StepAt (B : Nat) (w : World) (p : Nat) (x : Scr.StepP) : Prop := ∃ v, Bk w p 39 (stepCells x v).toArray ∧ RowsOK B w x v
theorem StepAt.below {B p : Nat} {w w' : World} {x : Scr.StepP} (h : StepAt B w p x) (hb : Below w.heap.size w w') : StepAt B w' p x := by
 obtain ⟨v, h1, h2⟩ := h
 exact ⟨v, h1.below hb, h2.below hb⟩
def DoRet (B x p : Nat) (w : World) (o : Option (Scr.StepP × List Scr.WordP)) (e : Ending) (w' : World) : Prop := Mods [x, p] w w' ∧ match o with
 | some (P, t) => e = .returned (.tuple #[]) ∧ StepAt B w' x P ∧ RdS w' p t
 | none => e = .panicked scrPanic
structure DoOK (w0 : World) (x p : Nat) (f : FuncId) (cap : Array Value) (F : Scr.StepP → List Scr.WordP → Option (Scr.StepP × List Scr.WordP)) (C : Scr.StepP → List Scr.WordP → Prop) : Prop where
 ent : ∀ (args : Array Value) (W : World), (callFunc f args).run Tryz.prog W = .ok (.enter f args) W
 run : ∀ (W : World) (P : Scr.StepP) (l : List Scr.WordP), Mods [x, p] w0 W → Bk W x 39 (stepCells P nilV).toArray → Bare P → RdS W p l → Scr.WLim l → C P l → Calls Tryz.prog f (#[.pointer (some ⟨x, 0, none⟩), .pointer (some ⟨p, 0, none⟩)] ++ cap) W (DoRet w0.heap.size x p W (F P l))
theorem Mods.left {x p : Nat} {w w' : World} (h : Mods [p] w w') : Mods [x, p] w w' := h.mono (fun y hy => by simp at hy ⊢; exact .inr hy)
theorem RdS.step {x p : Nat} {w : World} {l : List Scr.WordP} {cs : Array Value} (h : RdS w p l) (hx : Bk w x 39 cs) (hne : x ≠ p) (i : Nat) (u : Value) : RdS (w.setCell ⟨x, i, none⟩ u) p l :=
 h.mods (mods_setS w x i u) (by simpa using fun e => hne e.symm) (NoWordS.of_bk hx (by decide))
theorem Bk.mods1 {x p : Nat} {w w' : World} {t : TypeId} {cs : Array Value} (h : Bk w x t cs) (hm : Mods [p] w w') (hne : x ≠ p) : Bk w' x t cs := hm.bk h (by simpa using hne)
namespace Scr
def connF (P : StepP) (l : List WordP) : Option (StepP × List WordP) := match upToR 7 l with
 | none => none
 | some (n, t) => some ({ P with conn := n }, t)
def dataF (P : StepP) (l : List WordP) : Option (StepP × List WordP) := match nextR true l with
 | none => none
 | some (s, t) => some ({ P with data := s }, t)
def thenF (F G : StepP → List WordP → Option (StepP × List WordP)) (P : StepP) (l : List WordP) : Option (StepP × List WordP) := match F P l with
 | none => none
 | some (P', t) => G P' t
end Scr
def ConnRet (x p : Nat) (P : Scr.StepP) (w : World) (o : Option (Int × List Scr.WordP)) (e : Ending) (w' : World) : Prop := Mods [x, p] w w' ∧ match o with
 | some (n, t) => e = .returned (.tuple #[]) ∧ Bk w' x 39 (stepCells { P with conn := n } nilV).toArray ∧ RdS w' p t
 | none => e = .panicked scrPanic
section
variable {w0 : World} {x p : Nat}
set_option maxRecDepth 100000 in
theorem conn_c (hne : x ≠ p) (W : World) (P : Scr.StepP) (l : List Scr.WordP) (hb : Bk W x 39 (stepCells P nilV).toArray) (hR : RdS W p l) (hl : Scr.WLim l) :
  Calls Tryz.prog 60 #[.pointer (some ⟨x, 0, none⟩), .pointer (some ⟨p, 0, none⟩)] W (ConnRet x p P W (Scr.upToR 7 l)) := by
 have HU := Lib.hid (upTo27_c p 7 l W hR hl)
 have HB := Lib.hid hb
 generalize Scr.upToR 7 l = R at *
 clear hR hl hb
 cases R with
 | none =>
  go_enter Tryz.func60, Tryz.ntmps60
  go_wp2_with (go_at_call 61; (with_reducible refine HU.out.mono ?_); rintro e w1 ⟨hm, rfl⟩)
  refine ⟨rfl, ?_⟩
  exact ⟨hm.left, rfl⟩
 | some nt =>
  obtain ⟨n, t⟩ := nt
  go_enter Tryz.func60, Tryz.ntmps60
  go_wp2_with (go_at_call 61; (with_reducible refine HU.out.mono ?_); rintro e w1 ⟨hm, rfl, hd⟩; have HM := Lib.hid hm; have HD := Lib.hid hd; have HB1 := Lib.hid (HB.out.mods1 hm hne); have f1 := HB1.out.frozen 1; have c1 := HB1.out.cell 1; clear hm hd; unfold encN)
  go_end0
  refine ⟨HM.out.left.setCell (by simp) _, rfl, ?_, HD.out.step HB1.out hne _ _⟩
  have := HB1.out.set 1 (.int .i64 n)
  simpa [stepCells] using this
theorem conn_do (hne : x ≠ p) : DoOK w0 x p 60 #[] Scr.connF (fun _ _ => True) where
 ent := fun _ _ => by kernel_rfl
 run := fun W P l hm hb hP hR hl _ => by
  refine (conn_c hne W P l hb hR hl).mono ?_
  rintro e w' ⟨h1, h2⟩
  refine ⟨h1, ?_⟩
  unfold Scr.connF
  cases hu : Scr.upToR 7 l with
  | none => rw [hu] at h2; exact h2
  | some nt =>
   rw [hu] at h2
   exact ⟨h2.1, ⟨nilV, h2.2.1, RowsOK.bare hP⟩, h2.2.2⟩
set_option maxRecDepth 100000 in
theorem data_do (hne : x ≠ p) : DoOK w0 x p 67 #[] Scr.dataF (fun _ _ => True) where
 ent := fun _ _ => by kernel_rfl
 run := fun W P l hm hb hP hR hl _ => by
  have HU := Lib.hid (text27_c p l W hR hl)
  have hF : Scr.dataF P l = match Scr.nextR true l with
   | none => none
   | some (s, t) => some ({ P with data := s }, t) := rfl
  rw [hF]
  clear hF
  show Calls _ _ #[_, _] _ _
  have HB := Lib.hid hb
  have HP := Lib.hid hP
  generalize Scr.nextR true l = R at *
  clear hm hR hl hb hP
  cases R with
  | none =>
   go_enter Tryz.func67, Tryz.ntmps67
   go_wp2_with (go_at_call 68; (with_reducible refine HU.out.mono ?_); rintro e w1 ⟨hm, rfl⟩)
   refine ⟨rfl, ?_⟩
   exact ⟨hm.left, rfl⟩
  | some nt =>
   obtain ⟨s, t⟩ := nt
   go_enter Tryz.func67, Tryz.ntmps67
   go_wp2_with (go_at_call 68; (with_reducible refine HU.out.mono ?_); rintro e w1 ⟨hm, rfl, hd⟩; have HM := Lib.hid hm; have HD := Lib.hid hd; have HB1 := Lib.hid (HB.out.mods1 hm hne); have f1 := HB1.out.frozen 3; have c1 := HB1.out.cell 3; clear hm hd; unfold encS)
   go_end0
   refine ⟨HM.out.left.setCell (by simp) _, rfl, ⟨nilV, ?_, RowsOK.bare HP.out⟩, HD.out.step HB1.out hne _ _⟩
   have := HB1.out.set 3 (.string ⟨s.toArray⟩)
   simpa [stepCells] using this
theorem upTo_lim {m : Int} {l t : List Scr.WordP} {n : Int} (h : Scr.upToR m l = some (n, t)) (hl : Scr.WLim l) : Scr.WLim t := by
 unfold Scr.upToR at h
 split at h
 ·cases h
 ·next n' t' hn =>
  split at h
  ·cases h
   obtain ⟨s, h1, _⟩ := Scr.num_some hn
   subst h1
   exact hl.tail
  ·cases h
def ThenJ (B x p : Nat) (W : World) (P : Scr.StepP) (U : Option (Int × List Scr.WordP)) (O : Option (Scr.StepP × List Scr.WordP)) (k : Nat) (wr : World) : Prop := (k = 0 ∧ wr = W) ∨ (k = 1 ∧ ∃ n t, U = some (n, t) ∧ Mods [x, p] W wr ∧ Bk wr x 39 (stepCells { P with conn := n } nilV).toArray ∧ RdS wr p t) ∨
 (k = 2 ∧ ∃ P' t, O = some (P', t) ∧ Mods [x, p] W wr ∧ StepAt B wr x P' ∧ RdS wr p t)
set_option maxRecDepth 100000 in
theorem then_do (hne : x ≠ p) {f2 : FuncId} {cap2 : Array Value} {F2 : Scr.StepP → List Scr.WordP → Option (Scr.StepP × List Scr.WordP)} {C2 : Scr.StepP → List Scr.WordP → Prop} (D2 : DoOK w0 x p f2 cap2 F2 C2) {b g c : Nat}
  (hb : Bk w0 b 112 #[.slice (some ⟨g, 0, none⟩) 2 c]) (hc : 2 ≤ c) (hg : Bk w0 g 84 #[.func (.func 60) #[] #[], .func (.func f2) #[] cap2])
  (hbx : b ≠ x ∧ b ≠ p) (hgx : g ≠ x ∧ g ≠ p) : DoOK w0 x p 66 #[.pointer (some ⟨b, 0, none⟩)] (Scr.thenF Scr.connF F2) (fun P l => ∀ n t, Scr.upToR 7 l = some (n, t) → C2 { P with conn := n } t) where
 ent := fun _ _ => by kernel_rfl
 run := fun W P l hm hbx0 hP hR hl hC => by
  have HC := Lib.hid (conn_c hne W P l hbx0 hR hl)
  have hne1 : b ∉ [x, p] := by simp [hbx.1, hbx.2]
  have hne2 : g ∉ [x, p] := by simp [hgx.1, hgx.2]
  have b0 := (hm.bk hb hne1).cell 0
  have g0 := (hm.bk hg hne2).cell 0
  have HK : Hid (∀ W', Mods [x, p] W W' → W'.cell? ⟨g, 1, none⟩ = some (.func (.func f2) #[] cap2)) := Lib.hid fun W' h => ((hm.trans h).bk hg hne2).cell 1
  have HD2 := Lib.hid (fun W' (h : Mods [x, p] W W') P' l' hb' hP' hR' hl' hC' => D2.run W' P' l' (hm.trans h) hb' hP' hR' hl' hC')
  have HCC := Lib.hid hC
  have HE2 := Lib.hid D2.ent
  have HE1 := Lib.hid (conn_do (w0 := w0) hne).ent
  have HF : Hid (Scr.thenF Scr.connF F2 P l = match Scr.upToR 7 l with
   | none => none
   | some (n, t) => F2 { P with conn := n } t) := Lib.hid (by
    unfold Scr.thenF Scr.connF
    cases Scr.upToR 7 l with
    | none => rfl
    | some nt => rfl)
  have HL := Lib.hid (fun n t (h : Scr.upToR 7 l = some (n, t)) => upTo_lim h hl)
  have HP := Lib.hid hP
  obtain ⟨O, hO⟩ : ∃ O, Scr.thenF Scr.connF F2 P l = O := ⟨_, rfl⟩
  rw [hO] at HF ⊢
  obtain ⟨U, hU⟩ : ∃ U, Scr.upToR 7 l = U := ⟨_, rfl⟩
  rw [hU] at HC HF HL HCC
  have hent := D2.ent
  show Calls _ _ #[_, _, _] _ _
  have hci : (2 : Int) ≤ (c : Int) := by omega
  have hno : ∀ W', Mods [x, p] W W' → W'.cell? ⟨b, 0, none⟩ = W.cell? ⟨b, 0, none⟩ := fun W' h => by
   rw [World.cell?_of_block (h.block b (cell_lt b0) hne1)]
  clear hm hbx0 hP hR hl hb hg hbx hgx hne1 hne2 D2 hO hU hno hC
  go_enter Tryz.func66, Tryz.ntmps66
  go_wp2_with fail
  go_loopg [6, 9] 3 (fun gk _ i wr => ∃ k : Nat, i = .int .i64 (k : Int) ∧ Aside (3 ≤ k + gk) ∧ Aside (ThenJ w0.heap.size x p W P U O k wr))
  case atStart => exact ⟨0, rfl, Nat.le_refl _, .inl ⟨rfl, rfl⟩⟩
  case round =>
   obtain ⟨k, rfl, AG, AJ⟩ := hrel
   rcases AJ.out with ⟨rfl, hw⟩ | ⟨rfl, n, t, hU, hm, hbk, hrd⟩ | ⟨rfl, P', t, hO, hm, hst, hrd⟩
   ·subst hw
    obtain ⟨q, rfl⟩ : ∃ q, gk = q + 1 := ⟨gk - 1, by have := AG.out; omega⟩
    clear AJ hent
    cases U with
    | none =>
     go_wp2_with (go_at_call 60; (with_reducible refine HC.out.mono ?_); rintro e w1 ⟨hm, rfl⟩)
     refine ⟨rfl, ?_⟩
     rw [HF.out]
     exact ⟨hm, rfl⟩
    | some nt =>
     obtain ⟨n, t⟩ := nt
     go_wp2_with (go_at_call 60; (with_reducible refine HC.out.mono ?_); rintro e w1 ⟨hm, rfl, hbk, hrd⟩; have HM := Lib.hid hm; have HB := Lib.hid hbk; have HR := Lib.hid hrd; clear hm hbk hrd)
     go_roundg q
     case measure => omega
     case rel => exact ⟨1, by go_num, by have := AG.out; show _ ≤ _; omega, .inr (.inl ⟨rfl, n, t, rfl, HM.out, HB.out, HR.out⟩)⟩
   ·obtain ⟨q, rfl⟩ : ∃ q, gk = q + 1 := ⟨gk - 1, by have := AG.out; omega⟩
    have g1 := HK.out wr hm
    subst hU
    have HC2 := Lib.hid (HD2.out wr hm { P with conn := n } t hbk HP.out hrd (HL.out n t rfl) (HCC.out n t rfl))
    have hFO : O = F2 { P with conn := n } t := HF.out
    rw [← hFO] at HC2
    have HM := Lib.hid hm
    clear AJ hm hbk hrd hFO HC
    cases O with
    | none =>
     go_wp2_with ((with_reducible refine HC2.out.mono ?_); rintro e w1 ⟨hm, rfl⟩)
     refine ⟨rfl, ?_⟩
     exact ⟨HM.out.trans hm, rfl⟩
    | some Pt =>
     obtain ⟨P', t'⟩ := Pt
     go_wp2_with ((with_reducible refine HC2.out.mono ?_); rintro e w1 ⟨hm, rfl, hst, hrd⟩; have HM1 := Lib.hid hm; have HB := Lib.hid hst; have HR := Lib.hid hrd; clear hm hst hrd)
     go_roundg q
     case measure => omega
     case rel => exact ⟨2, by go_num, by have := AG.out; show _ ≤ _; omega, .inr (.inr ⟨rfl, P', t', rfl, HM.out.trans HM1.out, HB.out, HR.out⟩)⟩
   ·have HM := Lib.hid hm
    have HB := Lib.hid hst
    have HR := Lib.hid hrd
    subst hO
    clear AJ hm hst hrd
    go_wp2_with fail
    go_end0
    exact ⟨HM.out, rfl, HB.out, HR.out⟩
end
open Go.RowKit
section
variable {P : Program} {ops : Array Oper} {Q : Exit → Act → World → Prop} {md : Region.Mode} {S : World → Prop}
variable {i : Nat} {o : Oper} {a : Act} {w w' : World} {K : Act → World → Prop}
end
end Go.Proofs.YthenffabboomnaaGreatDoor
set_option linter.all false
namespace Go.Proofs.YthenffabboomnaaGreatDoor
open Go.RowKit
inductive StK where
 | data | conn | feed | run1 | nums (n : Nat) | ask | rowFeed | rowRun | rowAsk
deriving DecidableEq
abbrev dataFn : Value := .func (.func 67) #[] #[]
abbrev connFn : Value := .func (.func 60) #[] #[]
abbrev askFn : Value := .func (.func 69) #[] #[]
abbrev numsFn (b : Nat) : Value := .func (.func 63) #[] #[.pointer (some ⟨b, 0, none⟩)]
abbrev thenFn (b : Nat) : Value := .func (.func 66) #[] #[.pointer (some ⟨b, 0, none⟩)]
def RowK (w : World) (g : Nat) (f : Value) : Prop := Bk w g 84 #[connFn, f]
def BoxK (w : World) (b g : Nat) : Prop := Bk w b 112 #[.slice (some ⟨g, 0, none⟩) 2 2]
def NumK (w : World) (b n : Nat) : Prop := Bk w b 3 #[.int .i64 (n : Int)]
def StepK (w : World) : StK → Value → Prop
 | .data, v => v = dataFn
 | .conn, v => v = connFn
 | .nums n, v => ∃ b, v = numsFn b ∧ NumK w b n
 | .feed, v => ∃ b g, v = thenFn b ∧ BoxK w b g ∧ RowK w g dataFn
 | .ask, v => ∃ b g, v = thenFn b ∧ BoxK w b g ∧ RowK w g askFn
 | .run1, v => ∃ b g c, v = thenFn b ∧ BoxK w b g ∧ RowK w g (numsFn c) ∧ NumK w c 1
 | .rowFeed, v => ∃ g, v = .slice (some ⟨g, 0, none⟩) 2 2 ∧ RowK w g dataFn
 | .rowAsk, v => ∃ g, v = .slice (some ⟨g, 0, none⟩) 2 2 ∧ RowK w g askFn
 | .rowRun, v => ∃ g c, v = .slice (some ⟨g, 0, none⟩) 2 2 ∧ RowK w g (numsFn c) ∧ NumK w c 1
theorem StepK.same {w w' : World} {k : StK} {v : Value} (h : StepK w k v) (hs : ∀ (b : Nat) (t : TypeId) (cs : Array Value), Bk w b t cs → Bk w' b t cs) : StepK w' k v := by
 cases k
 ·exact h
 ·exact h
 ·obtain ⟨b, g, e, h1, h2⟩ := h; exact ⟨b, g, e, hs _ _ _ h1, hs _ _ _ h2⟩
 ·obtain ⟨b, g, c, e, h1, h2, h3⟩ := h; exact ⟨b, g, c, e, hs _ _ _ h1, hs _ _ _ h2, hs _ _ _ h3⟩
 ·obtain ⟨b, e, h1⟩ := h; exact ⟨b, e, hs _ _ _ h1⟩
 ·obtain ⟨b, g, e, h1, h2⟩ := h; exact ⟨b, g, e, hs _ _ _ h1, hs _ _ _ h2⟩
 ·obtain ⟨g, e, h1⟩ := h; exact ⟨g, e, hs _ _ _ h1⟩
 ·obtain ⟨g, c, e, h1, h2⟩ := h; exact ⟨g, c, e, hs _ _ _ h1, hs _ _ _ h2⟩
 ·obtain ⟨g, e, h1⟩ := h; exact ⟨g, e, hs _ _ _ h1⟩
theorem StepK.below {w w' : World} {k : StK} {v : Value} (h : StepK w k v) (hb : Below w.heap.size w w') : StepK w' k v := h.same fun _ _ _ h1 => h1.below hb
theorem StepK.grown {w w' : World} {k : StK} {v : Value} {m c : Nat} {es : Array MapEntry} (h : StepK w k v) (hm : w.heap[m]? = some (.map es c)) (hg : w.grownBy w' (some m)) : StepK w' k v := h.same fun b t cs h1 => h1.grown hg (fun e => by
 cases e
 have := h1.symm.trans hm
 cases this)
theorem zeroSt (w : World) : (zeroValue 84).run Tryz.prog w = .ok .nilFunc w := by kernel_rfl
theorem underSt : Tryz.prog.underlying 86 = some (.map 9 84) := Tryz.underlying86
theorem MapS.updSt {w : World} {m c : Nat} {es : Array MapEntry} {R : List (List UInt8 × Value)} (h : MapS w m es c R) (k : List UInt8) (v : Value) (hn : look R k = none) :
  ∃ W es', (Instr.mapUpdate 86 (.map (some m)) (.string ⟨k.toArray⟩) v).run Tryz.prog w = .ok () W ∧ MapS W m es' (c + 1) (R ++ [(k, v)]) ∧ w.grownBy W (some m) :=
 ⟨_, _, h.update underSt v hn, h.put k v, setMap_grown _ _ _ _⟩
def MkNums (n : Nat) (w : World) (e : Ending) (w' : World) : Prop := ∃ b, e = .returned (numsFn b) ∧ Below w.heap.size w w' ∧ NumK w' b n
def MkThen (g : Nat) (w : World) (e : Ending) (w' : World) : Prop := ∃ b, e = .returned (thenFn b) ∧ Below w.heap.size w w' ∧ BoxK w' b g
set_option maxRecDepth 100000 in
theorem mkNums_c (n : Nat) (w : World) : Calls Tryz.prog 62 #[.int .i64 (n : Int)] w (MkNums n w) := by
 have hmf : ∀ (fn : Fn) (first cap : Array Value) (w : World), (Instr.makeFunc fn first cap).run Tryz.prog w = .ok (.func fn first cap) w := fun _ _ _ _ => rfl
 have H := Lib.hid (And.intro ((Below.refl w.heap.size w).alloc (Nat.le_refl _) (.cells #[.int .i64 (n : Int)] 3)) (Bk.new w 3 #[.int .i64 (n : Int)]))
 go_enter Tryz.func62, Tryz.ntmps62
 go_wp2_with fail
 go_ret
 exact ⟨_, rfl, H.out⟩
set_option maxRecDepth 100000 in
theorem mkThen_c (g : Nat) (w : World) : Calls Tryz.prog 65 #[.slice (some ⟨g, 0, none⟩) 2 2] w (MkThen g w) := by
 have hmf : ∀ (fn : Fn) (first cap : Array Value) (w : World), (Instr.makeFunc fn first cap).run Tryz.prog w = .ok (.func fn first cap) w := fun _ _ _ _ => rfl
 have H := Lib.hid (And.intro ((Below.refl w.heap.size w).alloc (Nat.le_refl _) (.cells #[.slice (some ⟨g, 0, none⟩) 2 2] 112)) (Bk.new w 112 #[.slice (some ⟨g, 0, none⟩) 2 2]))
 go_enter Tryz.func65, Tryz.ntmps65
 go_wp2_with fail
 go_ret
 exact ⟨_, rfl, H.out⟩
def MapX (w : World) (m : Nat) (L : List (List UInt8 × StK)) : Prop := ∃ es c R, MapS w m es c R ∧ (∀ x ∈ L, ∃ v, look R x.1 = some v ∧ StepK w x.2 v) ∧ ∀ n, (∀ x ∈ L, x.1 ≠ n) → look R n = none
theorem MapX.made (w : World) : MapX (w.alloc (.map #[] 0)) w.heap.size [] := ⟨#[], 0, [], MapS.made w, fun x hx => (by cases hx), fun _ _ => rfl⟩
theorem MapX.lt {w : World} {m : Nat} {L : List (List UInt8 × StK)} (h : MapX w m L) : m < w.heap.size := by
 obtain ⟨es, c, R, h1, _⟩ := h
 exact h1.lt
theorem MapX.below {w w' : World} {m : Nat} {L : List (List UInt8 × StK)} (h : MapX w m L) (hb : Below w.heap.size w w') : MapX w' m L := by
 obtain ⟨es, c, R, h1, h2, h3⟩ := h
 refine ⟨es, c, R, h1.keep (hb.block m h1.lt), fun x hx => ?_, h3⟩
 obtain ⟨v, hv, hk⟩ := h2 x hx
 exact ⟨v, hv, hk.below hb⟩
theorem look_snoc27 (R : List (List UInt8 × Value)) (k n : List UInt8) (v : Value) : look (R ++ [(k, v)]) n = (look R n).or (if n = k then some v else none) := by
 induction R with
 | nil => simp [look]
 | cons r R ih =>
  rw [List.cons_append, look, look]
  split
  ·simp
  ·exact ih
theorem MapX.ins {w : World} {m B : Nat} {L : List (List UInt8 × StK)} (h : MapX w m L) (k : List UInt8) (K : StK) (v : Value) (hn : L.all (fun x => x.1 != k) = true) (hk : StepK w K v) {w0 : World} (hb : Below B w0 w) (hBm : B ≤ m) :
  ∃ W, (Instr.mapUpdate 86 (.map (some m)) (.string ⟨k.toArray⟩) v).run Tryz.prog w = .ok () W ∧ MapX W m (L ++ [(k, K)]) ∧ Below B w0 W := by
 obtain ⟨es, c, R, h1, h2, h3⟩ := h
 have hne : ∀ x ∈ L, x.1 ≠ k := fun x hx => by
  have := List.all_eq_true.1 hn x hx
  simpa using this
 have hl : look R k = none := h3 k hne
 obtain ⟨W, es', u1, u2, u3⟩ := h1.updSt k v hl
 refine ⟨W, u1, ⟨es', _, _, u2, fun x hx => ?_, fun n hx => ?_⟩, hb.grown u3 (by have := h1.lt; omega) (fun j e => by cases e; exact hBm)⟩
 ·rcases List.mem_append.1 hx with hx | hx
  ·obtain ⟨u, hu, hs⟩ := h2 x hx
   exact ⟨u, by rw [look_snoc27, hu]; rfl, hs.grown h1.at_ u3⟩
  ·obtain rfl := List.mem_singleton.1 hx
   exact ⟨v, by rw [look_snoc27, hl, if_pos rfl]; rfl, hk.grown h1.at_ u3⟩
 ·rw [look_snoc27, h3 n (fun x hx' => hx x (List.mem_append_left _ hx')), if_neg (fun e => hx (k, K) (by simp) e.symm)]
  rfl
def stepsL : List (List UInt8 × StK) := [([99, 111, 110, 102], .data), ([111, 112, 101, 110], .conn), ([116, 97, 107, 101], .conn), ([99, 108, 111, 115, 101], .conn), ([102, 101, 101, 100], .feed), ([114, 117, 110], .run1), ([116, 105, 99, 107], (.nums 1)), ([114, 111, 111, 109], (.nums 1)), ([99, 114, 97, 115, 104], (.nums 2)), ([102, 117, 115, 101], (.nums 3)), ([114, 101, 115, 116, 97, 114, 116], (.nums 0)), ([97, 115, 107], .ask)]
end Go.Proofs.YthenffabboomnaaGreatDoor
set_option linter.all false
namespace Go.Proofs.YthenffabboomnaaGreatDoor
open Go.RowKit
set_option maxRecDepth 100000 in
theorem steps27_c (w : World) : Calls Tryz.prog 36 #[] w fun e w' => ∃ m, e = .returned (.map (some m)) ∧ MapX w' m stepsL ∧ Below w.heap.size w w' := by
 have hmf : ∀ (fn : Fn) (first cap : Array Value) (w : World), (Instr.makeFunc fn first cap).run Tryz.prog w = .ok (.func fn first cap) w := fun _ _ _ _ => rfl
 have hmm := @run_makeMap Tryz.prog
 have HX := Lib.hid (MapX.made w)
 have HB := Lib.hid ((Below.refl w.heap.size w).alloc (Nat.le_refl _) (.map #[] 0))
 have HM := Lib.hid (Nat.le_refl w.heap.size)
 go_enter Tryz.func36, Tryz.ntmps36
 go_wp2_with fail
 obtain ⟨W, hu, hX, hb⟩ := HX.out.ins [99, 111, 110, 102] .data dataFn (by decide) rfl HB.out HM.out
 simp only [hu, Result.andThen_ok]
 clear hu
 have HX := Lib.hid hX
 have HB := Lib.hid hb
 clear hX hb
 go_wp2_with fail
 obtain ⟨W, hu, hX, hb⟩ := HX.out.ins [111, 112, 101, 110] .conn connFn (by decide) rfl HB.out HM.out
 simp only [hu, Result.andThen_ok]
 clear hu
 have HX := Lib.hid hX
 have HB := Lib.hid hb
 clear hX hb
 go_wp2_with fail
 obtain ⟨W, hu, hX, hb⟩ := HX.out.ins [116, 97, 107, 101] .conn connFn (by decide) rfl HB.out HM.out
 simp only [hu, Result.andThen_ok]
 clear hu
 have HX := Lib.hid hX
 have HB := Lib.hid hb
 clear hX hb
 go_wp2_with fail
 obtain ⟨W, hu, hX, hb⟩ := HX.out.ins [99, 108, 111, 115, 101] .conn connFn (by decide) rfl HB.out HM.out
 simp only [hu, Result.andThen_ok]
 clear hu
 have HX := Lib.hid hX
 have HB := Lib.hid hb
 clear hX hb
 go_wp2_with fail
 have hr := Bk.new W 84 #[connFn, dataFn]
 have hba := (Below.refl W.heap.size W).alloc (Nat.le_refl _) (.cells #[connFn, dataFn] 84)
 have HX := Lib.hid (HX.out.below hba)
 have HB := Lib.hid (HB.out.trans (hba.mono HB.out.size))
 have HR := Lib.hid hr
 clear hr hba
 refine (mkThen_c W.heap.size _).mono ?_
 rintro e w2 ⟨b2, rfl, hb2, hk2⟩
 have HX := Lib.hid (HX.out.below hb2)
 have HB := Lib.hid (HB.out.trans (hb2.mono HB.out.size))
 have HR := Lib.hid (HR.out.below hb2)
 have HT := Lib.hid hk2
 clear hb2 hk2
 go_wp2_with fail
 obtain ⟨W, hu, hX, hb⟩ := HX.out.ins [102, 101, 101, 100] .feed _ (by decide) ⟨_, _, rfl, HT.out, HR.out⟩ HB.out HM.out
 simp only [hu, Result.andThen_ok]
 clear hu
 have HX := Lib.hid hX
 have HB := Lib.hid hb
 clear hX hb
 go_wp2_with fail
 refine (mkNums_c 1 _).mono ?_
 rintro e w1 ⟨b1, rfl, hb1, hk⟩
 have HX := Lib.hid (HX.out.below hb1)
 have HB := Lib.hid (HB.out.trans (hb1.mono HB.out.size))
 have HK := Lib.hid hk
 clear hb1 hk
 obtain ⟨W, hW⟩ : ∃ W, W = w1 := ⟨_, rfl⟩
 subst hW
 go_wp2_with fail
 have hr := Bk.new W 84 #[connFn, (numsFn b1)]
 have hba := (Below.refl W.heap.size W).alloc (Nat.le_refl _) (.cells #[connFn, (numsFn b1)] 84)
 have HX := Lib.hid (HX.out.below hba)
 have HB := Lib.hid (HB.out.trans (hba.mono HB.out.size))
 have HK := Lib.hid (Bk.below HK.out hba)
 have HR := Lib.hid hr
 clear hr hba
 refine (mkThen_c W.heap.size _).mono ?_
 rintro e w2 ⟨b2, rfl, hb2, hk2⟩
 have HX := Lib.hid (HX.out.below hb2)
 have HB := Lib.hid (HB.out.trans (hb2.mono HB.out.size))
 have HR := Lib.hid (HR.out.below hb2)
 have HK := Lib.hid (HK.out.below hb2)
 have HT := Lib.hid hk2
 clear hb2 hk2
 go_wp2_with fail
 obtain ⟨W, hu, hX, hb⟩ := HX.out.ins [114, 117, 110] .run1 _ (by decide) ⟨_, _, _, rfl, HT.out, HR.out, HK.out⟩ HB.out HM.out
 simp only [hu, Result.andThen_ok]
 clear hu
 have HX := Lib.hid hX
 have HB := Lib.hid hb
 clear hX hb
 go_wp2_with fail
 refine (mkNums_c 1 _).mono ?_
 rintro e w1 ⟨b1, rfl, hb1, hk⟩
 have HX := Lib.hid (HX.out.below hb1)
 have HB := Lib.hid (HB.out.trans (hb1.mono HB.out.size))
 have HK := Lib.hid hk
 clear hb1 hk
 go_wp2_with fail
 obtain ⟨W, hu, hX, hb⟩ := HX.out.ins [116, 105, 99, 107] (.nums 1) _ (by decide) ⟨_, rfl, HK.out⟩ HB.out HM.out
 simp only [hu, Result.andThen_ok]
 clear hu
 have HX := Lib.hid hX
 have HB := Lib.hid hb
 clear hX hb
 go_wp2_with fail
 refine (mkNums_c 1 _).mono ?_
 rintro e w1 ⟨b1, rfl, hb1, hk⟩
 have HX := Lib.hid (HX.out.below hb1)
 have HB := Lib.hid (HB.out.trans (hb1.mono HB.out.size))
 have HK := Lib.hid hk
 clear hb1 hk
 go_wp2_with fail
 obtain ⟨W, hu, hX, hb⟩ := HX.out.ins [114, 111, 111, 109] (.nums 1) _ (by decide) ⟨_, rfl, HK.out⟩ HB.out HM.out
 simp only [hu, Result.andThen_ok]
 clear hu
 have HX := Lib.hid hX
 have HB := Lib.hid hb
 clear hX hb
 go_wp2_with fail
 refine (mkNums_c 2 _).mono ?_
 rintro e w1 ⟨b1, rfl, hb1, hk⟩
 have HX := Lib.hid (HX.out.below hb1)
 have HB := Lib.hid (HB.out.trans (hb1.mono HB.out.size))
 have HK := Lib.hid hk
 clear hb1 hk
 go_wp2_with fail
 obtain ⟨W, hu, hX, hb⟩ := HX.out.ins [99, 114, 97, 115, 104] (.nums 2) _ (by decide) ⟨_, rfl, HK.out⟩ HB.out HM.out
 simp only [hu, Result.andThen_ok]
 clear hu
 have HX := Lib.hid hX
 have HB := Lib.hid hb
 clear hX hb
 go_wp2_with fail
 refine (mkNums_c 3 _).mono ?_
 rintro e w1 ⟨b1, rfl, hb1, hk⟩
 have HX := Lib.hid (HX.out.below hb1)
 have HB := Lib.hid (HB.out.trans (hb1.mono HB.out.size))
 have HK := Lib.hid hk
 clear hb1 hk
 go_wp2_with fail
 obtain ⟨W, hu, hX, hb⟩ := HX.out.ins [102, 117, 115, 101] (.nums 3) _ (by decide) ⟨_, rfl, HK.out⟩ HB.out HM.out
 simp only [hu, Result.andThen_ok]
 clear hu
 have HX := Lib.hid hX
 have HB := Lib.hid hb
 clear hX hb
 go_wp2_with fail
 refine (mkNums_c 0 _).mono ?_
 rintro e w1 ⟨b1, rfl, hb1, hk⟩
 have HX := Lib.hid (HX.out.below hb1)
 have HB := Lib.hid (HB.out.trans (hb1.mono HB.out.size))
 have HK := Lib.hid hk
 clear hb1 hk
 go_wp2_with fail
 obtain ⟨W, hu, hX, hb⟩ := HX.out.ins [114, 101, 115, 116, 97, 114, 116] (.nums 0) _ (by decide) ⟨_, rfl, HK.out⟩ HB.out HM.out
 simp only [hu, Result.andThen_ok]
 clear hu
 have HX := Lib.hid hX
 have HB := Lib.hid hb
 clear hX hb
 go_wp2_with fail
 have hr := Bk.new W 84 #[connFn, askFn]
 have hba := (Below.refl W.heap.size W).alloc (Nat.le_refl _) (.cells #[connFn, askFn] 84)
 have HX := Lib.hid (HX.out.below hba)
 have HB := Lib.hid (HB.out.trans (hba.mono HB.out.size))
 have HR := Lib.hid hr
 clear hr hba
 refine (mkThen_c W.heap.size _).mono ?_
 rintro e w2 ⟨b2, rfl, hb2, hk2⟩
 have HX := Lib.hid (HX.out.below hb2)
 have HB := Lib.hid (HB.out.trans (hb2.mono HB.out.size))
 have HR := Lib.hid (HR.out.below hb2)
 have HT := Lib.hid hk2
 clear hb2 hk2
 go_wp2_with fail
 obtain ⟨W, hu, hX, hb⟩ := HX.out.ins [97, 115, 107] .ask _ (by decide) ⟨_, _, rfl, HT.out, HR.out⟩ HB.out HM.out
 simp only [hu, Result.andThen_ok]
 clear hu
 have HX := Lib.hid hX
 have HB := Lib.hid hb
 clear hX hb
 go_wp2_with fail
 go_ret
 exact ⟨_, rfl, HX.out, HB.out⟩
end Go.Proofs.YthenffabboomnaaGreatDoor
