import Derived.Test.YtnnopncgpcbjaaaGreatDoorWvd8
import Derived.Deep.RegionLaw
set_option linter.all false
set_option maxHeartbeats 8000000
namespace Go.Proofs.YtnnopncgpcbjaaaGreatDoor
open Go.RowKit

section
variable {ops : Array Oper} {o : Oper} {a : Act} {K : Act → World → Prop} {Q : Exit → Act → World → Prop} {E : Prop}
end
theorem Own.apart {B g : Nat} {w : World} {v : Value} {xs : List (List UInt8)} {t : TypeId} {cs : Array Value} (h : Own B w v xs) (hg : Bk w g t cs) (ht : t ≠ 9) : ∀ k, v.ownBlock = some k → (some g : Option Nat) ≠ some k := by
 intro k hk e
 cases e
 obtain ⟨cs', h'⟩ := h.ty hk
 exact bk_ne hg h' ht rfl
theorem CJ.more {w w5 w6 : World} {g B : Nat} {d : DefS} {vn vs vs' vm vy : Value} {sups sups' : List (List UInt8)} (h : CJ w w5 g B d vn vs vm vy sups) (hg : w5.grownBy w6 vs.ownBlock) (hs : Own B w6 vs' sups') :
  Bk w6 g 179 (clsCells d vn vs vm vy) ∧ CJ w (w6.setCell ⟨g, 3, none⟩ vs') g B d vn vs' vm vy sups' := by
 have hge := h.ge
 have hgB := h.gB
 have hs5 := h.sup.lt
 have hk : Bk w6 g 179 (clsCells d vn vs vm vy) := h.bk.grown hg (by intro e; have := (hs5 g e.symm).1; omega)
 have hr := setCell_grown w6 g 3 vs'
 have hn : Own w.heap.size w6 vn d.names := h.names.keep2 hg (by intro k hk e; have := h.nlt k hk; have := (hs5 k e).1; omega)
 refine ⟨hk, ?_, (h.out.grown hg (by intro e; have := (hs5 _ e.symm).1; omega)).far (by omega) _, (h.bel.grown hg h.bel.size (fun k hk => by have := (hs5 k hk).1; omega)).setCell (by simp; omega) _, hn.keep2 hr (hn.apart hk (by decide)), hs.keep2 hr (hs.apart hk (by decide)), hge, hgB, h.nlt⟩
 exact hk.set 3 vs'
theorem CJ.below {w wx W : World} {g B : Nat} {d : DefS} {vn vs vm vy : Value} {sups : List (List UInt8)} (h : CJ w wx g B d vn vs vm vy sups) (hb : Below wx.heap.size wx W) : CJ w W g B d vn vs vm vy sups :=
 ⟨h.bk.below hb, h.out.below hb, h.bel.trans (hb.mono h.bel.size), h.names.below hb, h.sup.below hb, h.ge, h.gB, h.nlt⟩
theorem CJ.must {w wx : World} {g B : Nat} {d : DefS} {vn vs vm vy : Value} {sups : List (List UInt8)} (h : CJ w wx g B d vn vs vm vy sups) (vm' : Value) : CJ w (wx.setCell ⟨g, 5, none⟩ vm') g B d vn vs vm' vy sups := by
 have hge := h.ge
 have hgr := setCell_grown wx g 5 vm'
 exact ⟨h.bk.set 5 vm', h.out.far (by omega) _, h.bel.setCell (by simp; omega) _, h.names.keep2 hgr (h.names.apart h.bk (by decide)), h.sup.keep2 hgr (h.sup.apart h.bk (by decide)), hge, h.gB, h.nlt⟩
theorem CJ.may {w wx : World} {g B : Nat} {d : DefS} {vn vs vm vy : Value} {sups : List (List UInt8)} (h : CJ w wx g B d vn vs vm vy sups) (vy' : Value) : CJ w (wx.setCell ⟨g, 6, none⟩ vy') g B d vn vs vm vy' sups := by
 have hge := h.ge
 have hgr := setCell_grown wx g 6 vy'
 exact ⟨h.bk.set 6 vy', h.out.far (by omega) _, h.bel.setCell (by simp; omega) _, h.names.keep2 hgr (h.names.apart h.bk (by decide)), h.sup.keep2 hgr (h.sup.apart h.bk (by decide)), hge, h.gB, h.nlt⟩
theorem CJ.grown {w wx W : World} {g B : Nat} {d : DefS} {vn vs vm vy : Value} {sups : List (List UInt8)} (h : CJ w wx g B d vn vs vm vy sups) {r : Option Nat} {N : Nat} (hg : wx.grownBy W r) (hN : wx.heap.size ≤ N) (hr : ∀ k, r = some k → N ≤ k) : CJ w W g B d vn vs vm vy sups :=
 h.below ⟨hg.os, hg.tape, hg.output, hg.size, fun k hk => hg.block k hk (by intro e; have := hr k e.symm; omega)⟩
end Go.Proofs.YtnnopncgpcbjaaaGreatDoor
