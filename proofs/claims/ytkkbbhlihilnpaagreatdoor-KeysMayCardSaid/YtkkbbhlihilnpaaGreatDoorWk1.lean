import Derived.Test.YtkkbbhlihilnpaaGreatDoorWvd8
import Derived.Test.YtkkbbhlihilnpaaGreatDoorWk0
import Derived.Deep.RegionLaw
set_option linter.all false
set_option maxHeartbeats 8000000
set_option maxRecDepth 100000
namespace Go.Proofs.YtkkbbhlihilnpaaGreatDoor
open Go.RowKit
open Go.RowKit
def SetT (w : World) (m : Nat) (xs : List (List UInt8)) : Prop := ∃ es c, MapS w m es c (xs.map fun x => (x, .agg #[]))
theorem SetT.lt {w : World} {m : Nat} {xs : List (List UInt8)} (h : SetT w m xs) : m < w.heap.size := by
 obtain ⟨es, c, h1⟩ := h
 exact h1.lt
theorem SetT.below {w w' : World} {m : Nat} {xs : List (List UInt8)} (h : SetT w m xs) (hb : Below w.heap.size w w') : SetT w' m xs := by
 obtain ⟨es, c, h1⟩ := h
 exact ⟨es, c, h1.keep (hb.block m h1.lt)⟩
theorem SetT.made (w : World) : SetT (w.alloc (.map #[] 0)) w.heap.size [] := ⟨_, _, MapS.made w⟩
theorem setT_ask {w : World} {m : Nat} {xs : List (List UInt8)} (h : SetT w m xs) (x : List UInt8) :
  (Instr.lookup 71 (.map (some m)) (.string ⟨x.toArray⟩) true).run Tryz.prog w = .ok (.tuple #[.agg #[], .bool (xs.contains x)]) w := by
 obtain ⟨es, c, h1⟩ := h
 have hz : ∀ w, (zeroValue 72).run Tryz.prog w = .ok (.agg #[]) w := fun w => by kernel_rfl
 have := h1.ask (k := x) Tryz.underlying71 hz
 rw [look_map] at this
 unfold strV at this
 rw [this]
 by_cases hx : x ∈ xs
 ·rw [if_pos hx, List.contains_iff_mem.2 hx]; rfl
 ·have : xs.contains x = false := by
   cases hc : xs.contains x with
   | false => rfl
   | true => exact absurd (List.contains_iff_mem.1 hc) hx
  rw [if_neg hx, this]; rfl
theorem setT_put {w : World} {m : Nat} {xs : List (List UInt8)} (h : SetT w m xs) (x : List UInt8) (hn : xs.contains x = false) :
  ∃ W, (Instr.mapUpdate 71 (.map (some m)) (.string ⟨x.toArray⟩) (.agg #[])).run Tryz.prog w = .ok () W ∧ SetT W m (xs ++ [x]) ∧ w.grownBy W (some m) := by
 obtain ⟨es, c, h1⟩ := h
 have hl : look (xs.map fun x => (x, Value.agg #[])) x = none := by
  rw [look_map]
  by_cases hx : x ∈ xs
  ·rw [List.contains_iff_mem.2 hx] at hn; cases hn
  ·rw [if_neg hx]
 have hp := h1.put x (.agg #[])
 rw [show (xs.map fun x => (x, Value.agg #[])) ++ [(x, Value.agg #[])] = (xs ++ [x]).map fun x => (x, Value.agg #[]) by rw [List.map_append]; rfl] at hp
 exact ⟨_, h1.update Tryz.underlying71 (.agg #[]) hl, ⟨_, _, hp⟩, setMap_grown _ _ _ _⟩
def entryArg (e : Ent.EntryE) (va : Value) : Value := .agg #[.string ⟨e.dn.toArray⟩, va]
def findF (f : List UInt8 → Bool) : List Ent.AttrE → List (List UInt8) → List (List UInt8)
 | [], acc => acc
 | a :: l, acc => if f a.typ then findF f l (acc ++ a.vals) else findF f l acc
theorem findF_eq (S : Ent.SchE) (dn t : List UInt8) : ∀ (l : List Ent.AttrE) (acc : List (List UInt8)), findF (fun x => S.sub x t) l acc = acc ++ Ent.findE S ⟨dn, l⟩ t
 | [], acc => by simp [findF, Ent.findE]
 | a :: l, acc => by
  have e : Ent.findE S ⟨dn, a :: l⟩ t = (if S.sub a.typ t then a.vals else []) ++ Ent.findE S ⟨dn, l⟩ t := by
   unfold Ent.findE
   rw [List.flatMap_cons]
  rw [findF, findF_eq S dn t l, findF_eq S dn t l, e]
  split <;> simp
def valsN (l : List Ent.AttrE) : Nat := (l.map fun a => a.vals.length).sum
theorem valsN_cons (a : Ent.AttrE) (l : List Ent.AttrE) : valsN (a :: l) = a.vals.length + valsN l := by simp [valsN]
set_option maxRecDepth 100000 in
theorem Find_c (s : Nat) (ps : List Nat) (L : List DefS) (hL : Sound L) (en : Ent.EntryE) (va : Value) (t : List UInt8) (w : World) (hS : SchAt w s ps L) (hv : AttrsA w va en.attrs) (hl : en.attrs.length ≤ 1000) (hvn : valsN en.attrs ≤ 1000000) (hlt : ∀ a ∈ en.attrs, a.typ.length ≤ 1000000) (ht : t.length ≤ 1000000) :
  Calls Tryz.prog 43 #[.pointer (some ⟨s, 0, none⟩), entryArg en va, .string ⟨t.toArray⟩] w fun e w' => ∃ v, e = .returned v ∧ Own w.heap.size w' v (Ent.findE (schE L) en t) ∧ Below w.heap.size w w' := by
 obtain ⟨R, hR⟩ : ∃ R, Ent.findE (schE L) en t = R := ⟨_, rfl⟩
 obtain ⟨dn, attrs⟩ := en
 have hR0 : findF (fun x => isSubD L x t) attrs [] = R := by
  have := findF_eq (schE L) dn t attrs []
  rw [hR] at this
  have h2 : findF (fun x => (schE L).sub x t) attrs [] = R := by simpa using this
  exact h2
 rw [hR]
 unfold entryArg
 simp only at hv hl hvn hlt ⊢
 have HI : Hid (∀ a ∈ attrs, ∀ W : World, Below w.heap.size w W → Calls Tryz.prog 86 #[.pointer (some ⟨s, 0, none⟩), .string ⟨a.typ.toArray⟩, .string ⟨t.toArray⟩] W fun e w' => e = .returned (.bool (isSubD L a.typ t)) ∧ Below W.heap.size W w') := Lib.hid fun a ha W h => IsSub_c s ps L a.typ t W (hS.below h) hL.lim (by have := hL.says.len; omega) hL.says.sup_known (hlt a ha) ht
 obtain ⟨A, c, rfl, hc, hcell⟩ := hv.at
 have HV := Lib.hid hcell
 have HR := Lib.hid hR0
 clear hv hcell hS hL hR hR0 hlt ht
 obtain ⟨na, hna⟩ : ∃ n, n = attrs.length := ⟨_, rfl⟩
 have hb0 : Below w.heap.size w (w.alloc (.cells #[.string ⟨dn.toArray⟩, .slice A attrs.length c] 37)) := (Below.refl _ _).alloc (Nat.le_refl _) _
 go_enter Tryz.func43, Tryz.ntmps43
 go_wp2_with fail
 go_loopg [7, 13] attrs.length (fun gk out i wr => ∃ (k : Nat) (acc : List (List UInt8)), k ≤ attrs.length ∧ i = .int .i64 k ∧ Aside (k + gk = attrs.length) ∧ Aside (acc.length + valsN (attrs.drop k) ≤ 1000000) ∧ Aside (Below w.heap.size w wr ∧ Own w.heap.size wr out acc) ∧ Aside (findF (fun x => isSubD L x t) (attrs.drop k) acc = R))
 case atStart => exact ⟨0, [], by omega, rfl, by show _ = _; omega, by show _ ≤ _; simpa using hvn, ⟨hb0, Own.nil hb0.size⟩, HR.out⟩
 case round =>
  clear HR hb0
  obtain ⟨k, acc, hk, rfl, AG, AC, AB, AS⟩ := hrel
  obtain ⟨Ao, co, rfl, hco⟩ := AB.out.2.isSlice
  by_cases hlt : k < attrs.length
  ·obtain ⟨q, rfl⟩ : ∃ q, gk = q + 1 := ⟨gk - 1, by have := AG.out; omega⟩
   obtain ⟨b, o, va, rfl, c0, c1, hta⟩ := HV.out k hlt
   have HMEM := Lib.hid (List.getElem_mem hlt)
   have AS' : Aside ((if isSubD L attrs[k].typ t then findF (fun x => isSubD L x t) (attrs.drop (k + 1)) (acc ++ attrs[k].vals) else findF (fun x => isSubD L x t) (attrs.drop (k + 1)) acc) = R) := by have := AS.out; rw [List.drop_eq_getElem_cons hlt] at this; exact this
   have hcnt : acc.length + (attrs[k].vals.length + valsN (attrs.drop (k + 1))) ≤ 1000000 := by have := AC.out; rw [List.drop_eq_getElem_cons hlt, valsN_cons] at this; exact this
   have d0 := (AB.out.1.cell (cell_lt c0)).trans c0
   have d1 := (AB.out.1.cell (cell_lt c1)).trans c1
   have hadd := add_at2
   clear AS c0 c1 AC
   generalize attrs[k] = x at *
   obtain ⟨typ, vals⟩ := x
   simp only at AS' hcnt d0 hta
   obtain ⟨Av, nv, cv, rfl⟩ : ∃ A n c, va = .slice A n c := by
    obtain ⟨A, c, h, _⟩ := hta.at
    exact ⟨A, _, c, h⟩
   have hbx : Below wr.heap.size wr (wr.alloc (.cells #[.string ⟨typ.toArray⟩, .slice Av nv cv] 46)) := (Below.refl _ _).alloc (Nat.le_refl _) _
   have hBx := AB.out.1.trans (hbx.mono AB.out.1.size)
   have hkx : Bk (wr.alloc (.cells #[.string ⟨typ.toArray⟩, .slice Av nv cv] 46)) wr.heap.size 46 #[.string ⟨typ.toArray⟩, .slice Av nv cv] := Bk.new wr _ _
   have hO1 := AB.out.2.below hbx
   have HI1 := Lib.hid (HI.out ⟨typ, vals⟩ HMEM.out _ hBx)
   have HTA := Lib.hid (hta.below hBx)
   clear hta HMEM
   simp only at HI1
   cases hsub : isSubD L typ t
   ·rw [hsub] at HI1 AS'
    simp only [Bool.false_eq_true, if_false] at AS'
    clear hsub
    go_wp2_with (go_at_call 86; (with_reducible refine HI1.out.mono ?_); rintro e w2 ⟨rfl, hb2⟩)
    go_roundg q
    case measure => omega
    case rel => exact ⟨k + 1, acc, by omega, by go_num, by have := AG.out; show _ = _; omega, by show _ ≤ _; omega, ⟨hBx.trans (hb2.mono hBx.size), hO1.below hb2⟩, AS'.out⟩
   ·rw [hsub] at HI1 AS'
    simp only [if_true] at AS'
    clear hsub
    go_wp2_with (first | (go_at_call 86; (with_reducible refine HI1.out.mono ?_); rintro e w2 ⟨rfl, hb2⟩; have hO2 := hO1.below hb2; have hB2 := hBx.trans (hb2.mono hBx.size); have hT2 := HTA.out.below hb2; have e1 : w2.cell? ⟨wr.heap.size, 1, none⟩ = some (.slice Av nv cv) := (hkx.below hb2).cell 1) | (at_builtin; refine own_moreA rfl _ _ rfl rfl hO2 rfl hT2 (by omega) ?_; intro v' w4 hO4 hg4))
    go_roundg q
    case measure => omega
    case rel => exact ⟨k + 1, acc ++ vals, by omega, by go_num, by have := AG.out; show _ = _; omega, by show _ ≤ _; rw [List.length_append]; omega, ⟨Own.bel hB2 hO2 hg4, hO4⟩, AS'.out⟩
  ·obtain rfl : k = attrs.length := by omega
   have AS2 : Aside (R = acc) := by have := AS.out; rw [List.drop_length] at this; exact this.symm
   clear AS
   go_wp2_with fail
   go_ret
   rw [AS2.out]
   exact ⟨_, rfl, AB.out.2, AB.out.1⟩
open Go.RowKit
abbrev adC (ad : AttrS) (A : Option Addr) (n c : Nat) : Array Value := #[.string ⟨ad.oid.toArray⟩, .string ⟨ad.name.toArray⟩, .string ⟨ad.sup.toArray⟩, .slice A n c, .string ⟨ad.form.toArray⟩, .string ⟨ad.eqr.toArray⟩, .string ⟨ad.ordr.toArray⟩, .string ⟨ad.subs.toArray⟩, .bool ad.single, .bool ad.fixed, .bool ad.oper]
def attrO (L : List DefS) (t : List UInt8) : AttrS := (attrL L t).getD noAttr
def attrC (L : List DefS) (t : List UInt8) : Int := if (attrL L t).isSome then 0 else 52
theorem AttrU_c (s : Nat) (ps : List Nat) (L : List DefS) (hL : Sound L) (t : List UInt8) (w : World) (hS : SchAt w s ps L) (ht : t.length ≤ 140737488351232) :
  Calls Tryz.prog 20 #[.pointer (some ⟨s, 0, none⟩), .string ⟨t.toArray⟩] w fun e w' => Below w.heap.size w w' ∧ ∃ A n c, e = .returned (.tuple #[attrV (attrO L t) (.slice A n c), .int .i64 (attrC L t)]) := by
 unfold attrO attrC
 cases hf : findD L false t with
 | none =>
  have ha : attrL L t = none := by unfold attrL; rw [hf]
  rw [ha]
  refine (Attr_noneW s ps L t w hS ht hf).mono ?_
  rintro e w' ⟨h1, h2⟩
  exact ⟨h1, none, 0, 0, h2⟩
 | some j =>
  obtain ⟨a, ha⟩ := hL.counts t j hf
  have ha2 : attrL L t = some a := by unfold attrL; rw [hf]; exact ha
  rw [ha2]
  refine (Attr_someW s ps L hL.lim t j a w hS ht hf ha).mono ?_
  rintro e w' ⟨h1, nv, rfl, h2⟩
  obtain ⟨A, c, rfl, _⟩ := h2.isSlice
  exact ⟨h1, A, _, c, rfl⟩
def nmV (k : List UInt8 × List UInt8) : Value := .agg #[.string ⟨k.1.toArray⟩, .string ⟨k.2.toArray⟩]
def SetN (w : World) (m : Nat) (xs : List (List UInt8 × List UInt8)) : Prop := ∃ es c, w.heap[m]? = some (.map es c) ∧ MapR nmV es (xs.map fun x => (x, Value.agg #[]))
theorem SetN.lt {w : World} {m : Nat} {xs : List (List UInt8 × List UInt8)} (h : SetN w m xs) : m < w.heap.size := by
 obtain ⟨es, c, h1, _⟩ := h
 exact (Array.getElem?_eq_some_iff.1 h1).1
theorem SetN.below {w w' : World} {m : Nat} {xs : List (List UInt8 × List UInt8)} (h : SetN w m xs) (hb : Below w.heap.size w w') : SetN w' m xs := by
 have hl := h.lt
 obtain ⟨es, c, h1, h2⟩ := h
 exact ⟨es, c, (hb.block m hl).trans h1, h2⟩
theorem SetN.made (w : World) : SetN (w.alloc (.map #[] 0)) w.heap.size [] := ⟨#[], 0, heap_alloc_new w _, rfl⟩
open Go.RowKit
open Go.RowKit
theorem AskG.mono {w w1 : World} {g : Option Nat} {f : FuncId} {cap : Array Value} {xs : List (List UInt8)} {P : List UInt8 → Bool} (h : AskG w g f cap xs P) (hg : w.grownBy w1 g) : AskG w1 g f cap xs P := ⟨fun x hx W hW => h.call x hx W (World.grownBy.trans hg hW), h.enter⟩
def TextsT (w : World) (v : Value) (xs : List (List UInt8)) : Prop := Texts w v xs ∧ ∀ k, v.ownBlock = some k → ∃ cs, Bk w k 9 cs
theorem TextsT.far {w w' : World} {g : Nat} {v : Value} {xs : List (List UInt8)} {t : TypeId} {cs : Array Value} (h : TextsT w v xs) (hg : Bk w g t cs) (ht : t ≠ 9) (hw : w.grownBy w' (some g)) : TextsT w' v xs := by
 obtain ⟨h, hty⟩ := h
 rcases h with ⟨rfl, rfl⟩ | ⟨b, c, rfl, hc, hlt, hx⟩
 ·exact ⟨.inl ⟨rfl, rfl⟩, fun k hk => by simp [Value.ownBlock] at hk⟩
 ·obtain ⟨cs', hb⟩ := hty b rfl
  have hne : g ≠ b := bk_ne hg hb ht
  have hkb := hw.block b hlt (by intro e; exact hne (Option.some.inj e).symm)
  refine ⟨.inr ⟨b, c, rfl, hc, Nat.lt_of_lt_of_le hlt hw.size, fun j hj => ?_⟩, fun k hk => ?_⟩
  ·rw [World.cell?_of_block (w := w) (w' := w') (a := ⟨b, j, none⟩) hkb]
   exact hx j hj
  ·have : b = k := by simpa [Value.ownBlock] using hk
   subst this
   exact ⟨cs', hkb.trans hb⟩
open Go.RowKit
open Go.RowKit
def clsCells (d : DefS) (vn vs vm vy : Value) : Array Value := #[.string ⟨d.oid.toArray⟩, .string ⟨d.name.toArray⟩, vn, vs, .int .i64 d.kind, vm, vy]
structure CJ (w wx : World) (g B : Nat) (d : DefS) (vn vs vm vy : Value) (sups : List (List UInt8)) : Prop where
 bk : Bk wx g 89 (clsCells d vn vs vm vy)
 out : Bk wx w.heap.size 89 (#[.string ⟨#[]⟩, .string ⟨#[]⟩, .slice none 0 0, .slice none 0 0, .int .i64 0, .slice none 0 0, .slice none 0 0] : Array Value)
 bel : Below w.heap.size w wx
 names : Own w.heap.size wx vn d.names
 sup : Own B wx vs sups
 ge : w.heap.size < g
 gB : g < B
 nlt : ∀ k, vn.ownBlock = some k → k < B
open Go.RowKit
section
variable {ops : Array Oper} {o : Oper} {a : Act} {K : Act → World → Prop} {Q : Exit → Act → World → Prop} {E : Prop}
end
theorem Own.apart {B g : Nat} {w : World} {v : Value} {xs : List (List UInt8)} {t : TypeId} {cs : Array Value} (h : Own B w v xs) (hg : Bk w g t cs) (ht : t ≠ 9) : ∀ k, v.ownBlock = some k → (some g : Option Nat) ≠ some k := by
 intro k hk e
 cases e
 obtain ⟨cs', h'⟩ := h.ty hk
 exact bk_ne hg h' ht rfl
theorem CJ.more {w w5 w6 : World} {g B : Nat} {d : DefS} {vn vs vs' vm vy : Value} {sups sups' : List (List UInt8)} (h : CJ w w5 g B d vn vs vm vy sups) (hg : w5.grownBy w6 vs.ownBlock) (hs : Own B w6 vs' sups') :
  Bk w6 g 89 (clsCells d vn vs vm vy) ∧ CJ w (w6.setCell ⟨g, 3, none⟩ vs') g B d vn vs' vm vy sups' := by
 have hge := h.ge
 have hgB := h.gB
 have hs5 := h.sup.lt
 have hk : Bk w6 g 89 (clsCells d vn vs vm vy) := h.bk.grown hg (by intro e; have := (hs5 g e.symm).1; omega)
 have hr := setCell_grown w6 g 3 vs'
 have hn : Own w.heap.size w6 vn d.names := h.names.keep2 hg (by intro k hk e; have := h.nlt k hk; have := (hs5 k e).1; omega)
 refine ⟨hk, ?_, (h.out.grown hg (by intro e; have := (hs5 _ e.symm).1; omega)).far (by omega) _, (h.bel.grown hg h.bel.size (fun k hk => by have := (hs5 k hk).1; omega)).setCell (by simp; omega) _, hn.keep2 hr (hn.apart hk (by decide)), hs.keep2 hr (hs.apart hk (by decide)), hge, hgB, h.nlt⟩
 exact hk.set 3 vs'
theorem CJ.below {w wx W : World} {g B : Nat} {d : DefS} {vn vs vm vy : Value} {sups : List (List UInt8)} (h : CJ w wx g B d vn vs vm vy sups) (hb : Below wx.heap.size wx W) : CJ w W g B d vn vs vm vy sups :=
 ⟨h.bk.below hb, h.out.below hb, h.bel.trans (hb.mono h.bel.size), h.names.below hb, h.sup.below hb, h.ge, h.gB, h.nlt⟩
theorem CJ.must {w wx : World} {g B : Nat} {d : DefS} {vn vs vm vy : Value} {sups : List (List UInt8)} (h : CJ w wx g B d vn vs vm vy sups) (vm' : Value) : CJ w (wx.setCell ⟨g, 5, none⟩ vm') g B d vn vs vm' vy sups := by
 have hge := h.ge
 have hgr := setCell_grown wx g 5 vm'
 exact ⟨h.bk.set 5 vm', h.out.far (by omega) _, h.bel.setCell (by simp; omega) _, h.names.keep2 hgr (h.names.apart h.bk (by decide)), h.sup.keep2 hgr (h.sup.apart h.bk (by decide)), hge, h.gB, h.nlt⟩
theorem CJ.may {w wx : World} {g B : Nat} {d : DefS} {vn vs vm vy : Value} {sups : List (List UInt8)} (h : CJ w wx g B d vn vs vm vy sups) (vy' : Value) : CJ w (wx.setCell ⟨g, 6, none⟩ vy') g B d vn vs vm vy' sups := by
 have hge := h.ge
 have hgr := setCell_grown wx g 6 vy'
 exact ⟨h.bk.set 6 vy', h.out.far (by omega) _, h.bel.setCell (by simp; omega) _, h.names.keep2 hgr (h.names.apart h.bk (by decide)), h.sup.keep2 hgr (h.sup.apart h.bk (by decide)), hge, h.gB, h.nlt⟩
theorem CJ.grown {w wx W : World} {g B : Nat} {d : DefS} {vn vs vm vy : Value} {sups : List (List UInt8)} (h : CJ w wx g B d vn vs vm vy sups) {r : Option Nat} {N : Nat} (hg : wx.grownBy W r) (hN : wx.heap.size ≤ N) (hr : ∀ k, r = some k → N ≤ k) : CJ w W g B d vn vs vm vy sups :=
 h.below ⟨hg.os, hg.tape, hg.output, hg.size, fun k hk => hg.block k hk (by intro e; have := hr k e.symm; omega)⟩
open Go.RowKit
theorem bel_one (w : World) (o : Obj) : Below w.heap.size w (w.alloc o) := (Below.refl _ _).alloc (Nat.le_refl _) _
end Go.Proofs.YtkkbbhlihilnpaaGreatDoor
