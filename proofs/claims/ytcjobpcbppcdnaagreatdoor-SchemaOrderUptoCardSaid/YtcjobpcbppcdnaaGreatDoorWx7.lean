/- Contracts: what counts of an attribute type. -/
import Derived.Test.YtcjobpcbppcdnaaGreatDoorWx6
import Derived.Deep.DeepCutAuto
import Derived.Test.YtcjobpcbppcdnaaGreatDoorWx3
import Derived.Outline
import Derived.Deep.RegionHeld3
import Derived.OwnWalk
set_option linter.all false
namespace Go.Proofs.YtcjobpcbppcdnaaGreatDoor
open Go.RowKit

def attrCells (a : AttrS) (nv : Value) : Array Value := #[.string ⟨a.oid.toArray⟩, .string ⟨a.name.toArray⟩, .string ⟨a.sup.toArray⟩, nv, .string ⟨a.form.toArray⟩, .string ⟨a.eqr.toArray⟩, .string ⟨a.ordr.toArray⟩, .string ⟨a.subs.toArray⟩, .bool a.single, .bool a.fixed, .bool a.oper]
def attrV (a : AttrS) (nv : Value) : Value := .agg (attrCells a nv)
abbrev zeroAttr : Obj := .cells #[.string ⟨#[]⟩, .string ⟨#[]⟩, .string ⟨#[]⟩, .slice none 0 0, .string ⟨#[]⟩, .string ⟨#[]⟩, .string ⟨#[]⟩, .string ⟨#[]⟩, .bool false, .bool false, .bool false] 36
def CountRet (w : World) (a : AttrS) (e : Ending) (w' : World) : Prop := Below w.heap.size w w' ∧ ∃ nv, e = .returned (attrV a nv) ∧ Own w.heap.size w' nv a.names
/-- What has been made of a definition. -/
structure CntAt (w W : World) (g : Nat) (a : AttrS) (A : Option Addr) (n c : Nat) : Prop where
  bk : Bk W g 36 (attrCells a (.slice A n c))
  out : Bk W w.heap.size 36 #[.string ⟨#[]⟩, .string ⟨#[]⟩, .string ⟨#[]⟩, .slice none 0 0, .string ⟨#[]⟩, .string ⟨#[]⟩, .string ⟨#[]⟩, .string ⟨#[]⟩, .bool false, .bool false, .bool false]
  bel : Below w.heap.size w W
  ge : w.heap.size < g
  names : Own w.heap.size W (.slice A n c) a.names
theorem below_set11 {B g : Nat} {a w : World} (h : Below B a w) (hg : B ≤ g) (v0 v1 v2 v3 v4 v5 v6 v7 v8 v9 v10 : Value) : Below B a (((((((((((w.setCell ⟨g, 0, none⟩ v0).setCell ⟨g, 1, none⟩ v1).setCell ⟨g, 2, none⟩ v2).setCell ⟨g, 3, none⟩ v3).setCell ⟨g, 4, none⟩ v4).setCell ⟨g, 5, none⟩ v5).setCell ⟨g, 6, none⟩ v6).setCell ⟨g, 7, none⟩ v7).setCell ⟨g, 8, none⟩ v8).setCell ⟨g, 9, none⟩ v9).setCell ⟨g, 10, none⟩ v10) :=
  ((((((((((h.setCell hg v0).setCell hg v1).setCell hg v2).setCell hg v3).setCell hg v4).setCell hg v5).setCell hg v6).setCell hg v7).setCell hg v8).setCell hg v9).setCell hg v10
theorem bk_set11 {g : Nat} {w : World} {t : TypeId} (c0 c1 c2 c3 c4 c5 c6 c7 c8 c9 c10 v0 v1 v2 v3 v4 v5 v6 v7 v8 v9 v10 : Value) (h : Bk w g t #[c0, c1, c2, c3, c4, c5, c6, c7, c8, c9, c10]) : Bk (((((((((((w.setCell ⟨g, 0, none⟩ v0).setCell ⟨g, 1, none⟩ v1).setCell ⟨g, 2, none⟩ v2).setCell ⟨g, 3, none⟩ v3).setCell ⟨g, 4, none⟩ v4).setCell ⟨g, 5, none⟩ v5).setCell ⟨g, 6, none⟩ v6).setCell ⟨g, 7, none⟩ v7).setCell ⟨g, 8, none⟩ v8).setCell ⟨g, 9, none⟩ v9).setCell ⟨g, 10, none⟩ v10) g t #[v0, v1, v2, v3, v4, v5, v6, v7, v8, v9, v10] := by
  simpa using ((((((((((h.set 0 v0).set 1 v1).set 2 v2).set 3 v3).set 4 v4).set 5 v5).set 6 v6).set 7 v7).set 8 v8).set 9 v9).set 10 v10
theorem Own.lower {B B' : Nat} {w : World} {v : Value} {xs : List (List UInt8)} (h : Own B w v xs) (hB : B' ≤ B) : Own B' w v xs := by
  obtain ⟨⟨h1, h2⟩, h3⟩ := h
  refine ⟨⟨h1, h2.imp id ?_⟩, by omega⟩
  rintro ⟨g, cap, cur, r1, r2, r3⟩
  exact ⟨g, cap, cur, r1, by omega, r3⟩
theorem Own.ty {B : Nat} {w : World} {v : Value} {xs : List (List UInt8)} (h : Own B w v xs) {k : Nat} (hk : v.ownBlock = some k) : ∃ cs, Bk w k 9 cs := by
  obtain ⟨⟨h1, h2⟩, _⟩ := h
  rcases h2 with ⟨rfl, hn⟩ | ⟨g, cap, cur, rfl, r2, r3, r4, r5, r6, r7⟩
  · simp [Value.ownBlock] at hk
  · have hgk : g = k := by simpa [Value.ownBlock] using hk
    subst hgk
    exact ⟨cur, r3⟩
/-- A store into a block of another kind. -/
theorem Own.far {B g i : Nat} {w : World} {v : Value} {xs : List (List UInt8)} {t : TypeId} {cs : Array Value} (h : Own B w v xs) (hg : Bk w g t cs) (ht : t ≠ 9) (u : Value) : Own B (w.setCell ⟨g, i, none⟩ u) v xs := by
  refine ⟨h.1.kept (setCell_grown w g i u) ?_, by simpa [World.setCell] using h.2⟩
  rcases hv : v.ownBlock with _ | k
  · exact .inl rfl
  · refine .inr ?_
    intro e
    cases e
    obtain ⟨cs', h'⟩ := h.ty hv
    exact bk_ne hg h' ht rfl
theorem Own.far11 {B g : Nat} {w : World} {v : Value} {xs : List (List UInt8)} {t : TypeId} {cs : Array Value} (h : Own B w v xs) (hg : Bk w g t cs) (ht : t ≠ 9) (v0 v1 v2 v3 v4 v5 v6 v7 v8 v9 v10 : Value) : Own B (((((((((((w.setCell ⟨g, 0, none⟩ v0).setCell ⟨g, 1, none⟩ v1).setCell ⟨g, 2, none⟩ v2).setCell ⟨g, 3, none⟩ v3).setCell ⟨g, 4, none⟩ v4).setCell ⟨g, 5, none⟩ v5).setCell ⟨g, 6, none⟩ v6).setCell ⟨g, 7, none⟩ v7).setCell ⟨g, 8, none⟩ v8).setCell ⟨g, 9, none⟩ v9).setCell ⟨g, 10, none⟩ v10) v xs :=
  have g0 := hg.set 0 v0
  have g1 := g0.set 1 v1
  have g2 := g1.set 2 v2
  have g3 := g2.set 3 v3
  have g4 := g3.set 4 v4
  have g5 := g4.set 5 v5
  have g6 := g5.set 6 v6
  have g7 := g6.set 7 v7
  have g8 := g7.set 8 v8
  have g9 := g8.set 9 v9
  ((((((((((h.far hg ht v0).far g0 ht v1).far g1 ht v2).far g2 ht v3).far g3 ht v4).far g4 ht v5).far g5 ht v6).far g6 ht v7).far g7 ht v8).far g8 ht v9).far g9 ht v10
theorem cnt_late {w w3 : World} {d : DefS} {A3 : Option Addr} {c3 : Nat} (hb : Below w.heap.size w w3) (ho : Bk w3 w.heap.size 36 #[.string ⟨#[]⟩, .string ⟨#[]⟩, .string ⟨#[]⟩, .slice none 0 0, .string ⟨#[]⟩, .string ⟨#[]⟩, .string ⟨#[]⟩, .string ⟨#[]⟩, .bool false, .bool false, .bool false]) (hT : Own w.heap.size w3 (.slice A3 d.names.length c3) d.names) :
    CntAt w (w3.alloc (.cells #[.string ⟨d.oid.toArray⟩, .string ⟨d.name.toArray⟩, .string ⟨#[]⟩, .slice A3 d.names.length c3, .string ⟨d.form.toArray⟩, .string ⟨d.eqr.toArray⟩, .string ⟨d.ordr.toArray⟩, .string ⟨d.subs.toArray⟩, .bool d.single, .bool d.fixed, .bool d.oper] 36)) w3.heap.size d.attr A3 d.names.length c3 :=
  ⟨Bk.new w3 _ _, ho.alloc _, hb.alloc hb.size _, ho.lt, hT.below ((Below.refl _ _).alloc (Nat.le_refl _) _)⟩
theorem cnt_early {w w3 : World} {d : DefS} {A3 : Option Addr} {c3 : Nat} (hb : Below w.heap.size w w3) (ho : Bk w3 w.heap.size 36 #[.string ⟨#[]⟩, .string ⟨#[]⟩, .string ⟨#[]⟩, .slice none 0 0, .string ⟨#[]⟩, .string ⟨#[]⟩, .string ⟨#[]⟩, .string ⟨#[]⟩, .bool false, .bool false, .bool false]) (hk : Bk w3 (w.heap.size + 1) 36 #[.string ⟨#[]⟩, .string ⟨#[]⟩, .string ⟨#[]⟩, .slice none 0 0, .string ⟨#[]⟩, .string ⟨#[]⟩, .string ⟨#[]⟩, .string ⟨#[]⟩, .bool false, .bool false, .bool false]) (hT : Own w.heap.size w3 (.slice A3 d.names.length c3) d.names) :
    CntAt w (((((((((((w3.setCell ⟨w.heap.size + 1, 0, none⟩ (.string ⟨d.oid.toArray⟩)).setCell ⟨w.heap.size + 1, 1, none⟩ (.string ⟨d.name.toArray⟩)).setCell ⟨w.heap.size + 1, 2, none⟩ (.string ⟨#[]⟩)).setCell ⟨w.heap.size + 1, 3, none⟩ (.slice A3 d.names.length c3)).setCell ⟨w.heap.size + 1, 4, none⟩ (.string ⟨d.form.toArray⟩)).setCell ⟨w.heap.size + 1, 5, none⟩ (.string ⟨d.eqr.toArray⟩)).setCell ⟨w.heap.size + 1, 6, none⟩ (.string ⟨d.ordr.toArray⟩)).setCell ⟨w.heap.size + 1, 7, none⟩ (.string ⟨d.subs.toArray⟩)).setCell ⟨w.heap.size + 1, 8, none⟩ (.bool d.single)).setCell ⟨w.heap.size + 1, 9, none⟩ (.bool d.fixed)).setCell ⟨w.heap.size + 1, 10, none⟩ (.bool d.oper)) (w.heap.size + 1) d.attr A3 d.names.length c3 := by
  refine ⟨bk_set11 _ _ _ _ _ _ _ _ _ _ _ _ _ _ _ _ _ _ _ _ _ _ hk, ?_, below_set11 hb (Nat.le_succ _) _ _ _ _ _ _ _ _ _ _ _, Nat.lt_succ_self _, ?_⟩
  · exact ((((((((((ho.far (by omega) _).far (by omega) _).far (by omega) _).far (by omega) _).far (by omega) _).far (by omega) _).far (by omega) _).far (by omega) _).far (by omega) _).far (by omega) _).far (by omega) _
  · exact hT.far11 hk (by decide) _ _ _ _ _ _ _ _ _ _ _
theorem attr_out {w W : World} {a : AttrS} {nv : Value} {tmps : Array Value} (hb : Below w.heap.size w W) (hz : Bk W w.heap.size 36 (attrCells a nv)) (hT : Own w.heap.size W nv a.names) (h4 : tmps[4]? = some (.pointer (some ⟨w.heap.size, 0, none⟩))) :
    bodyPost Tryz.prog Tryz.f30 (CountRet w a) .ret { tmps := tmps, defers := [] } W := by
  have e4 : tmps[4]?.getD undef = .pointer (some ⟨w.heap.size, 0, none⟩) := by rw [h4]; rfl
  have c0 := hz.cell 0
  have c1 := hz.cell 1
  have c2 := hz.cell 2
  have c3 := hz.cell 3
  have c4 := hz.cell 4
  have c5 := hz.cell 5
  have c6 := hz.cell 6
  have c7 := hz.cell 7
  have c8 := hz.cell 8
  have c9 := hz.cell 9
  have c10 := hz.cell 10
  simp only [attrCells, List.getElem?_toArray, List.getElem?_cons_zero, List.getElem?_cons_succ] at c0 c1 c2 c3 c4 c5 c6 c7 c8 c9 c10
  refine bodyPost_ret (v := attrV a nv) ?_ rfl ⟨hb, nv, rfl, hT⟩
  simp [results, Tryz.results30, go_sem, e4, c0, c1, c2, c3, c4, c5, c6, c7, c8, c9, c10, attrV, attrCells]
/-- The first k of form, equality, ordering, pieces are taken over. -/
def mixA (a up : AttrS) (k : Nat) : AttrS := { a with sup := up.name, form := if 0 < k then orL a.form up.form else a.form, eqr := if 1 < k then orL a.eqr up.eqr else a.eqr, ordr := if 2 < k then orL a.ordr up.ordr else a.ordr, subs := if 3 < k then orL a.subs up.subs else a.subs }
structure MJ (w : World) (g g6 gs : Nat) (a up : AttrS) (nv nu : Value) (k : Nat) (wr : World) : Prop where
  out : Bk wr g 36 (attrCells (mixA a up k) nv)
  upb : Bk wr g6 36 (attrCells up nu)
  prs : Bk wr gs 105 #[.pointer (some ⟨g, 4, none⟩), .pointer (some ⟨g6, 4, none⟩), .pointer (some ⟨g, 5, none⟩), .pointer (some ⟨g6, 5, none⟩), .pointer (some ⟨g, 6, none⟩), .pointer (some ⟨g6, 6, none⟩), .pointer (some ⟨g, 7, none⟩), .pointer (some ⟨g6, 7, none⟩)]
  res : Bk wr w.heap.size 36 #[.string ⟨#[]⟩, .string ⟨#[]⟩, .string ⟨#[]⟩, .slice none 0 0, .string ⟨#[]⟩, .string ⟨#[]⟩, .string ⟨#[]⟩, .string ⟨#[]⟩, .bool false, .bool false, .bool false]
  bel : Below w.heap.size w wr
  nam : Own w.heap.size wr nv a.names
  ge : w.heap.size < g ∧ g < g6 ∧ g6 < gs
theorem MJ.cells {w wr : World} {g g6 gs k : Nat} {a up : AttrS} {nv nu : Value} (h : MJ w g g6 gs a up nv nu k wr) (hk : k < 4) : ∃ x y : List UInt8, wr.cell? ⟨gs, k * 2, none⟩ = some (.pointer (some ⟨g, 4 + k, none⟩)) ∧ wr.cell? ⟨gs, k * 2 + 1, none⟩ = some (.pointer (some ⟨g6, 4 + k, none⟩)) ∧
    wr.cell? ⟨g, 4 + k, none⟩ = some (.string ⟨x.toArray⟩) ∧ wr.cell? ⟨g6, 4 + k, none⟩ = some (.string ⟨y.toArray⟩) ∧
    attrCells (mixA a up (k + 1)) nv = (attrCells (mixA a up k) nv).setIfInBounds (4 + k) (.string ⟨(orL x y).toArray⟩) := by
  rcases (show k = 0 ∨ k = 1 ∨ k = 2 ∨ k = 3 by omega) with rfl | rfl | rfl | rfl
  · exact ⟨a.form, up.form, h.prs.cell 0, h.prs.cell 1, h.out.cell 4, h.upb.cell 4, rfl⟩
  · exact ⟨a.eqr, up.eqr, h.prs.cell 2, h.prs.cell 3, h.out.cell 5, h.upb.cell 5, rfl⟩
  · exact ⟨a.ordr, up.ordr, h.prs.cell 4, h.prs.cell 5, h.out.cell 6, h.upb.cell 6, rfl⟩
  · exact ⟨a.subs, up.subs, h.prs.cell 6, h.prs.cell 7, h.out.cell 7, h.upb.cell 7, rfl⟩
theorem MJ.stay {w wr : World} {g g6 gs k : Nat} {a up : AttrS} {nv nu : Value} (h : MJ w g g6 gs a up nv nu k wr) {x y : List UInt8} (o : Obj) (hx : x ≠ []) (hc : wr.cell? ⟨g, 4 + k, none⟩ = some (.string ⟨x.toArray⟩)) (he : attrCells (mixA a up (k + 1)) nv = (attrCells (mixA a up k) nv).setIfInBounds (4 + k) (.string ⟨(orL x y).toArray⟩)) : MJ w g g6 gs a up nv nu (k + 1) (wr.alloc o) := by
  have ho : orL x y = x := by unfold orL; rw [if_neg hx]
  have hs : attrCells (mixA a up (k + 1)) nv = attrCells (mixA a up k) nv := by
    rw [he, ho]
    have hg : (attrCells (mixA a up k) nv)[4 + k]? = some (.string ⟨x.toArray⟩) := by rw [← h.out.cell]; exact hc
    apply Array.ext
    · simp
    · intro i h1 h2
      rw [Array.getElem_setIfInBounds]
      split
      · next hi =>
        subst hi
        rw [Array.getElem?_eq_getElem h2] at hg
        exact (Option.some.inj hg).symm
      · rfl
  refine ⟨?_, h.upb.alloc o, h.prs.alloc o, h.res.alloc o, h.bel.alloc h.bel.size o, h.nam.below ((Below.refl _ _).alloc (Nat.le_refl _) o), h.ge⟩
  rw [hs]
  exact h.out.alloc o
theorem MJ.take {w wr W : World} {g g6 gs k : Nat} {a up : AttrS} {nv nu : Value} (h : MJ w g g6 gs a up nv nu k wr) {y : List UInt8} (hW : Below wr.heap.size wr W) (he : attrCells (mixA a up (k + 1)) nv = (attrCells (mixA a up k) nv).setIfInBounds (4 + k) (.string ⟨(orL [] y).toArray⟩)) : MJ w g g6 gs a up nv nu (k + 1) (W.setCell ⟨g, 4 + k, none⟩ (.string ⟨y.toArray⟩)) := by
  have hge := h.ge
  refine ⟨?_, (h.upb.below hW).far (by omega) _, (h.prs.below hW).far (by omega) _, (h.res.below hW).far (by omega) _, (h.bel.trans (hW.mono h.bel.size)).setCell (by simp; omega) _, (h.nam.below hW).far (h.out.below hW) (by decide) _, hge⟩
  rw [he]
  exact (h.out.below hW).set _ _
theorem MJ.more {w wr W : World} {g g6 gs k : Nat} {a up : AttrS} {nv nu : Value} (h : MJ w g g6 gs a up nv nu k wr) (hb : Below wr.heap.size wr W) : MJ w g g6 gs a up nv nu k W :=
  ⟨h.out.below hb, h.upb.below hb, h.prs.below hb, h.res.below hb, h.bel.trans (hb.mono h.bel.size), h.nam.below hb, h.ge⟩
set_option maxRecDepth 100000 in
set_option maxHeartbeats 4000000 in
theorem counts_c (s : Nat) (ps : List Nat) (L : List DefS) (hlim : ∀ d ∈ L, DefLim d) : ∀ (n0 i : Nat) (av : AttrS) (w : World), SchAt w s ps L → countsF L n0 i = some av →
    Calls Tryz.prog 30 #[ptrV s, ptrV (pAt ps i)] w (CountRet w av) := by
  intro n0
  induction n0 with
  | zero => intro i av w _ h; rw [countsF] at h; cases h
  | succ n0 ih =>
  intro i av w hS hcf
  have IH := Lib.hid ih
  clear ih
  obtain ⟨d, hLi⟩ : ∃ d, L[i]? = some d := by
    rw [countsF] at hcf
    cases hx : L[i]? with
    | none => rw [hx] at hcf; cases hcf
    | some d => exact ⟨d, rfl⟩
  rw [countsF, hLi] at hcf
  simp only at hcf
  have hd := hS.defAt hLi
  have hl := hlim d (List.mem_of_getElem? hLi)
  have HCF := Lib.hid hcf
  have HSCH := Lib.hid hS
  clear hcf hS hLi
  generalize hpg : pAt ps i = p at *
  clear hpg
  have a1 : Below w.heap.size w (w.alloc zeroAttr).drew := ((Below.refl _ _).alloc (Nat.le_refl _) _).drew
  have a2 : Below w.heap.size w ((w.alloc zeroAttr).alloc zeroAttr).drew := (((Below.refl _ _).alloc (Nat.le_refl _) _).alloc (by simp) _).drew
  have a1n : Bk (w.alloc zeroAttr) w.heap.size 36 #[.string ⟨#[]⟩, .string ⟨#[]⟩, .string ⟨#[]⟩, .slice none 0 0, .string ⟨#[]⟩, .string ⟨#[]⟩, .string ⟨#[]⟩, .string ⟨#[]⟩, .bool false, .bool false, .bool false] := Bk.new w _ _
  have a2o : Bk ((w.alloc zeroAttr).alloc zeroAttr) w.heap.size 36 #[.string ⟨#[]⟩, .string ⟨#[]⟩, .string ⟨#[]⟩, .slice none 0 0, .string ⟨#[]⟩, .string ⟨#[]⟩, .string ⟨#[]⟩, .string ⟨#[]⟩, .bool false, .bool false, .bool false] := (Bk.new w _ _).alloc _
  have a2n : Bk ((w.alloc zeroAttr).alloc zeroAttr) (w.heap.size + 1) 36 #[.string ⟨#[]⟩, .string ⟨#[]⟩, .string ⟨#[]⟩, .slice none 0 0, .string ⟨#[]⟩, .string ⟨#[]⟩, .string ⟨#[]⟩, .string ⟨#[]⟩, .bool false, .bool false, .bool false] := by
    have := Bk.new (w.alloc zeroAttr) 36 #[.string ⟨#[]⟩, .string ⟨#[]⟩, .string ⟨#[]⟩, .slice none 0 0, .string ⟨#[]⟩, .string ⟨#[]⟩, .string ⟨#[]⟩, .string ⟨#[]⟩, .bool false, .bool false, .bool false]
    rw [World.size_alloc] at this
    exact this
  have HN := Lib.hid (fun (W : World) (hb : Below w.heap.size w W) => dname_c p d W (hd.below hb))
  obtain ⟨vn, vs, vm, vy, hB, hvn, hvs, _⟩ := id hd
  have HC := Lib.hid (fun (W : World) (hb : Below w.heap.size w W) => CloneS_c d.names vn W (hvn.below hb) hl.names.1)
  obtain ⟨An, nn, cn, rfl⟩ := hvn.isSlice
  obtain ⟨As, ns, cs, rfl⟩ := hvs.isSlice
  have HK := Lib.hid (show ∀ (W : World), Below w.heap.size w W → W.cell? ⟨p, 1, none⟩ = some (.string ⟨d.oid.toArray⟩) ∧ W.cell? ⟨p, 2, none⟩ = some (.slice An nn cn) ∧ W.cell? ⟨p, 6, none⟩ = some (.string ⟨d.form.toArray⟩) ∧ W.cell? ⟨p, 7, none⟩ = some (.string ⟨d.eqr.toArray⟩) ∧ W.cell? ⟨p, 8, none⟩ = some (.string ⟨d.ordr.toArray⟩) ∧ W.cell? ⟨p, 9, none⟩ = some (.string ⟨d.subs.toArray⟩) ∧ W.cell? ⟨p, 10, none⟩ = some (.bool d.single) ∧ W.cell? ⟨p, 11, none⟩ = some (.bool d.fixed) ∧ W.cell? ⟨p, 12, none⟩ = some (.bool d.oper) from fun W hb => by
    have hB2 := hB.below hb
    exact ⟨hB2.cell 1, hB2.cell 2, hB2.cell 6, hB2.cell 7, hB2.cell 8, hB2.cell 9, hB2.cell 10, hB2.cell 11, hB2.cell 12⟩)
  have HKB := Lib.hid hB
  have HVS := Lib.hid hvs
  have HNS : Hid (ns = d.sup.length) := Lib.hid (texts_len hvs).1
  have HD := Lib.hid hd
  clear hB hvn hvs hd
  unfold ptrV at HN ⊢
  go_enter Tryz.func30, Tryz.ntmps30
  go_upto_region 1 with fail
  go_cut [5] (fun s5 wx => ∃ (g : Nat) (A : Option Addr) (n c : Nat), s5 = .pointer (some ⟨g, 0, none⟩) ∧ Aside (CntAt w wx g d.attr A n c))
  case first =>
   go_region_held3 (fun W => W.cell? ⟨p, 1, none⟩ = some (.string ⟨d.oid.toArray⟩) ∧ W.cell? ⟨p, 2, none⟩ = some (.slice An nn cn) ∧ W.cell? ⟨p, 6, none⟩ = some (.string ⟨d.form.toArray⟩) ∧ W.cell? ⟨p, 7, none⟩ = some (.string ⟨d.eqr.toArray⟩) ∧ W.cell? ⟨p, 8, none⟩ = some (.string ⟨d.ordr.toArray⟩) ∧ W.cell? ⟨p, 9, none⟩ = some (.string ⟨d.subs.toArray⟩) ∧ W.cell? ⟨p, 10, none⟩ = some (.bool d.single) ∧ W.cell? ⟨p, 11, none⟩ = some (.bool d.fixed) ∧ W.cell? ⟨p, 12, none⟩ = some (.bool d.oper))
    (first | (with_reducible exact HK.out _ a1) | (with_reducible exact HK.out _ a2) | (with_reducible exact HK.out _ hB3) | (with_reducible exact HK.out _ (hB3.alloc hB3.size _)) | (with_reducible exact HK.out _ (below_set11 hB3 (Nat.le_succ _) _ _ _ _ _ _ _ _ _ _ _)) | fail)
    (first
      | (go_at_call 41; refine (HN.out _ (by first | (with_reducible exact a1) | (with_reducible exact a2))).mono ?_; rintro e w' ⟨rfl, rfl⟩)
      | (go_at_call 22; refine (HC.out _ (by first | (with_reducible exact a1) | (with_reducible exact a2))).mono ?_; rintro e w3 ⟨v3, rfl, hO3, hb3⟩; obtain ⟨A3, c3, rfl, hc3⟩ := hO3.isSlice; have hB3 : Below w.heap.size w w3 := (by first | (with_reducible exact a1.trans (hb3.mono a1.size)) | (with_reducible exact a2.trans (hb3.mono a2.size))); have KO := Lib.hid (show Bk w3 w.heap.size 36 #[.string ⟨#[]⟩, .string ⟨#[]⟩, .string ⟨#[]⟩, .slice none 0 0, .string ⟨#[]⟩, .string ⟨#[]⟩, .string ⟨#[]⟩, .string ⟨#[]⟩, .bool false, .bool false, .bool false] from (by first | (with_reducible exact a1n.below (below_undrew hb3)) | (with_reducible exact a2o.below (below_undrew hb3)))); (first | (have KK := Lib.hid (a2n.below (below_undrew (w := (w.alloc zeroAttr).alloc zeroAttr) hb3)); have kc0 : w3.cell? ⟨w.heap.size + 1, 0, none⟩ = some (.string ⟨#[]⟩) := KK.out.cell 0; have kc1 : w3.cell? ⟨w.heap.size + 1, 1, none⟩ = some (.string ⟨#[]⟩) := KK.out.cell 1; have kc2 : w3.cell? ⟨w.heap.size + 1, 2, none⟩ = some (.string ⟨#[]⟩) := KK.out.cell 2; have kc3 : w3.cell? ⟨w.heap.size + 1, 3, none⟩ = some (.slice none 0 0) := KK.out.cell 3; have kc4 : w3.cell? ⟨w.heap.size + 1, 4, none⟩ = some (.string ⟨#[]⟩) := KK.out.cell 4; have kc5 : w3.cell? ⟨w.heap.size + 1, 5, none⟩ = some (.string ⟨#[]⟩) := KK.out.cell 5; have kc6 : w3.cell? ⟨w.heap.size + 1, 6, none⟩ = some (.string ⟨#[]⟩) := KK.out.cell 6; have kc7 : w3.cell? ⟨w.heap.size + 1, 7, none⟩ = some (.string ⟨#[]⟩) := KK.out.cell 7; have kc8 : w3.cell? ⟨w.heap.size + 1, 8, none⟩ = some (.bool false) := KK.out.cell 8; have kc9 : w3.cell? ⟨w.heap.size + 1, 9, none⟩ = some (.bool false) := KK.out.cell 9; have kc10 : w3.cell? ⟨w.heap.size + 1, 10, none⟩ = some (.bool false) := KK.out.cell 10; have fz0 : w3.frozen? ⟨w.heap.size + 1, 0, none⟩ = false := KK.out.frozen 0; have fz1 : w3.frozen? ⟨w.heap.size + 1, 1, none⟩ = false := KK.out.frozen 1; have fz2 : w3.frozen? ⟨w.heap.size + 1, 2, none⟩ = false := KK.out.frozen 2; have fz3 : w3.frozen? ⟨w.heap.size + 1, 3, none⟩ = false := KK.out.frozen 3; have fz4 : w3.frozen? ⟨w.heap.size + 1, 4, none⟩ = false := KK.out.frozen 4; have fz5 : w3.frozen? ⟨w.heap.size + 1, 5, none⟩ = false := KK.out.frozen 5; have fz6 : w3.frozen? ⟨w.heap.size + 1, 6, none⟩ = false := KK.out.frozen 6; have fz7 : w3.frozen? ⟨w.heap.size + 1, 7, none⟩ = false := KK.out.frozen 7; have fz8 : w3.frozen? ⟨w.heap.size + 1, 8, none⟩ = false := KK.out.frozen 8; have fz9 : w3.frozen? ⟨w.heap.size + 1, 9, none⟩ = false := KK.out.frozen 9; have fz10 : w3.frozen? ⟨w.heap.size + 1, 10, none⟩ = false := KK.out.frozen 10; have HF := Lib.hid (cnt_early (d := d) hB3 KO.out KK.out (hO3.lower (by simp <;> omega))); clear KK) | (have HF := Lib.hid (cnt_late (d := d) hB3 KO.out (hO3.lower (by simp <;> omega)))))))
   all_goals
    go_wp2_with fail
    go_meet
    exact ⟨_, A3, d.names.length, c3, rfl, HF.out⟩
  case rest =>
   obtain ⟨g, A, n, c, rfl, HC5⟩ := hcut
   have HC6 := Lib.hid HC5.out
   clear HC5
   have hc0 := HC6.out.bk.cell 0
   have hc1 := HC6.out.bk.cell 1
   have hc2 := HC6.out.bk.cell 2
   have hc3 := HC6.out.bk.cell 3
   have hc4 := HC6.out.bk.cell 4
   have hc5 := HC6.out.bk.cell 5
   have hc6 := HC6.out.bk.cell 6
   have hc7 := HC6.out.bk.cell 7
   have hc8 := HC6.out.bk.cell 8
   have hc9 := HC6.out.bk.cell 9
   have hc10 := HC6.out.bk.cell 10
   simp only [attrCells, List.getElem?_toArray, List.getElem?_cons_zero, List.getElem?_cons_succ] at hc0 hc1 hc2 hc3 hc4 hc5 hc6 hc7 hc8 hc9 hc10
   have hp3 : wc.cell? ⟨p, 3, none⟩ = some (.slice As ns cs) := (HKB.out.below HC6.out.bel).cell 3
   rcases hsup : d.sup with _ | ⟨nm, tl⟩
   · have hns : ns = 0 := by rw [hsup] at HNS; exact HNS.out
     subst hns
     have oc0 := HC6.out.out.cell 0
     have oc1 := HC6.out.out.cell 1
     have oc2 := HC6.out.out.cell 2
     have oc3 := HC6.out.out.cell 3
     have oc4 := HC6.out.out.cell 4
     have oc5 := HC6.out.out.cell 5
     have oc6 := HC6.out.out.cell 6
     have oc7 := HC6.out.out.cell 7
     have oc8 := HC6.out.out.cell 8
     have oc9 := HC6.out.out.cell 9
     have oc10 := HC6.out.out.cell 10
     simp only [List.getElem?_toArray, List.getElem?_cons_zero, List.getElem?_cons_succ] at oc0 oc1 oc2 oc3 oc4 oc5 oc6 oc7 oc8 oc9 oc10
     have of := fun i => HC6.out.out.frozen i
     go_wp2_with fail
     have hz := bk_set11 _ _ _ _ _ _ _ _ _ _ _ (.string ⟨d.attr.oid.toArray⟩) (.string ⟨d.attr.name.toArray⟩) (.string ⟨d.attr.sup.toArray⟩) (.slice A n c) (.string ⟨d.attr.form.toArray⟩) (.string ⟨d.attr.eqr.toArray⟩) (.string ⟨d.attr.ordr.toArray⟩) (.string ⟨d.attr.subs.toArray⟩) (.bool d.attr.single) (.bool d.attr.fixed) (.bool d.attr.oper) HC6.out.out
     have hav : av = d.attr := by
       have hq := HCF.out
       rw [hsup] at hq
       simp only at hq
       cases hq
       rfl
     rw [hav]
     exact attr_out (below_set11 HC6.out.bel (Nat.le_refl _) _ _ _ _ _ _ _ _ _ _ _) hz (HC6.out.names.far11 HC6.out.out (by decide) _ _ _ _ _ _ _ _ _ _ _) rfl
   · have hns : ns = tl.length + 1 := by have := HNS.out; rw [hsup] at this; exact this
     subst hns
     have hcf := HCF.out
     rw [hsup] at hcf
     simp only at hcf
     cases hf : findD L false nm with
     | none => rw [hf] at hcf; cases hcf
     | some j =>
       rw [hf] at hcf
       simp only at hcf
       rw [Option.map_eq_some_iff] at hcf
       obtain ⟨up, hup, rfl⟩ := hcf
       have htx := HVS.out.below HC6.out.bel
       rw [hsup] at htx
       obtain ⟨gt, rfl, hct⟩ := texts_at htx (k := 0) (by simp)
       simp only [List.getElem_cons_zero] at hct
       have hnl : nm.length ≤ 1000000 := hl.sup.2 nm (by rw [hsup]; simp)
       have hF := find_c s ps L false nm wc (HSCH.out.below HC6.out.bel) hnl
       rw [hf] at hF
       have HF : Hid (Calls Tryz.prog 29 #[.pointer (some ⟨s, 0, none⟩), .bool false, .string ⟨nm.toArray⟩] wc fun e w' => e = .returned (.pointer (some ⟨pAt ps j, 0, none⟩)) ∧ Below wc.heap.size wc w') := Lib.hid hF
       have HUP := Lib.hid hup
       have hl0 : (0 : Int) < (tl.length : Int) + 1 := by omega
       have hz0 : ((tl.length : Int) + 1 == 0) = false := by rw [beq_eq_false_iff_ne]; omega
       have HIH : Hid (∀ W : World, Below w.heap.size w W → Calls Tryz.prog 30 #[.pointer (some ⟨s, 0, none⟩), .pointer (some ⟨pAt ps j, 0, none⟩)] W fun e w' => ∃ A n c, e = .returned (attrV up (.slice A n c)) ∧ Below W.heap.size W w') := Lib.hid (fun W hb => (IH.out j up W (HSCH.out.below hb) HUP.out).mono (by
         rintro e w' ⟨h1, nv, rfl, h2⟩
         obtain ⟨A, c, rfl, _⟩ := h2.isSlice
         exact ⟨A, _, c, rfl, h1⟩))
       clear hF hup htx hf
       go_wp2_with (first | (go_at_call 29; refine HF.out.mono ?_; rintro e w5 ⟨rfl, hb5⟩; have hB5 := HC6.out.bel.trans (hb5.mono HC6.out.bel.size)) | (go_at_call 30; refine (HIH.out _ hB5).mono ?_; unfold attrV attrCells; rintro e w6 ⟨A6, n6, c6, rfl, hb6⟩; have gk := (HC6.out.bk.below hb5).below hb6; have gs2 := gk.cell 2; have fs2 := gk.frozen 2; have glt := gk.lt; simp only [attrCells, List.getElem?_toArray, List.getElem?_cons_zero, List.getElem?_cons_succ] at gs2))
       have hw6 : wc.heap.size ≤ w6.heap.size := Nat.le_trans hb5.size hb6.size
       have hb56 : Below wc.heap.size wc w6 := hb5.trans (hb6.mono hb5.size)
       have gx := gk.set 2 (.string ⟨up.name.toArray⟩)
       have J0 : MJ w g w6.heap.size (w6.heap.size + 1) d.attr up (.slice A n c) (.slice A6 n6 c6) 0 (((w6.setCell ⟨g, 2, none⟩ (.string ⟨up.name.toArray⟩)).alloc (.cells (attrCells up (.slice A6 n6 c6)) 36)).alloc (.cells #[.pointer (some ⟨g, 4, none⟩), .pointer (some ⟨w6.heap.size, 4, none⟩), .pointer (some ⟨g, 5, none⟩), .pointer (some ⟨w6.heap.size, 5, none⟩), .pointer (some ⟨g, 6, none⟩), .pointer (some ⟨w6.heap.size, 6, none⟩), .pointer (some ⟨g, 7, none⟩), .pointer (some ⟨w6.heap.size, 7, none⟩)] 105)) := by
         have hsz : (w6.setCell ⟨g, 2, none⟩ (.string ⟨up.name.toArray⟩)).heap.size = w6.heap.size := by simp [World.setCell]
         have u1 := Bk.new (w6.setCell ⟨g, 2, none⟩ (.string ⟨up.name.toArray⟩)) 36 (attrCells up (.slice A6 n6 c6))
         have u2 := Bk.new ((w6.setCell ⟨g, 2, none⟩ (.string ⟨up.name.toArray⟩)).alloc (.cells (attrCells up (.slice A6 n6 c6)) 36)) 105 #[.pointer (some ⟨g, 4, none⟩), .pointer (some ⟨w6.heap.size, 4, none⟩), .pointer (some ⟨g, 5, none⟩), .pointer (some ⟨w6.heap.size, 5, none⟩), .pointer (some ⟨g, 6, none⟩), .pointer (some ⟨w6.heap.size, 6, none⟩), .pointer (some ⟨g, 7, none⟩), .pointer (some ⟨w6.heap.size, 7, none⟩)]
         rw [World.size_alloc, hsz] at u2
         rw [hsz] at u1
         have hge := HC6.out.ge
         refine ⟨(gx.alloc _).alloc _, u1.alloc _, u2, ((((HC6.out.out.below hb5).below hb6).far (by omega) _).alloc _).alloc _, ?_, ?_, by omega⟩
         · exact ((((HC6.out.bel.trans (hb56.mono HC6.out.bel.size)).setCell (by simp; omega) _).alloc (by rw [hsz]; exact Nat.le_trans HC6.out.bel.size hw6) _).alloc (by rw [World.size_alloc, hsz]; exact Nat.le_trans (Nat.le_trans HC6.out.bel.size hw6) (Nat.le_succ _)) _)
         · exact (((((HC6.out.names.below hb5).below hb6).far gk (by decide) _).below ((Below.refl _ _).alloc (Nat.le_refl _) _)).below ((Below.refl _ _).alloc (Nat.le_refl _) _))
       have HJ0 := Lib.hid J0
       clear J0 gx gs2 fs2 hc0 hc1 hc2 hc3 hc4 hc5 hc6 hc7 hc8 hc9 hc10 hp3 hct gk
       unfold attrCells at HJ0
       generalize ((w6.setCell ⟨g, 2, none⟩ (.string ⟨up.name.toArray⟩)).alloc _).alloc _ = WL at HJ0 ⊢
       generalize w6.heap.size + 1 = gs at HJ0 ⊢
       generalize w6.heap.size = g6 at HJ0 ⊢
       have HJ1 : Hid (MJ w g g6 gs d.attr up (.slice A n c) (.slice A6 n6 c6) 0 WL) := HJ0
       clear HJ0
       go_loopg [83] 4 (fun gk i2 wr => ∃ k : Nat, k ≤ 4 ∧ i2 = .int .i64 k ∧ Aside (k + gk = 4) ∧ Aside (MJ w g g6 gs d.attr up (.slice A n c) (.slice A6 n6 c6) k wr))
       case atStart => exact ⟨0, by omega, rfl, rfl, HJ1.out⟩
       case round =>
         clear HJ1
         obtain ⟨k, hk, rfl, AG, AJ⟩ := hrel
         by_cases hlt : k < 4
         · obtain ⟨q, rfl⟩ : ∃ q, gk = q + 1 := ⟨gk - 1, by have := AG.out; omega⟩
           obtain ⟨x, y, q0, q1, q2, q3, he⟩ := AJ.out.cells hlt
           have HE := Lib.hid he
           have glt := AJ.out.out.lt
           have g6lt := AJ.out.upb.lt
           have fz := AJ.out.out.frozen (4 + k)
           clear he
           cases x with
           | cons x0 xt =>
             go_wp2_with fail
             go_roundg q
             case measure => omega
             case rel => exact ⟨k + 1, by omega, by go_num, by have := AG.out; show _ = _; omega, AJ.out.stay _ (by simp) q2 HE.out⟩
           | nil =>
             have k0 : (wr.alloc (.cells #[.pointer (some ⟨g, 4 + k, none⟩), .pointer (some ⟨g6, 4 + k, none⟩)] 105)).cell? ⟨wr.heap.size, 0, none⟩ = some (.pointer (some ⟨g, 4 + k, none⟩)) := (Bk.new wr _ _).cell 0
             have k1 : (wr.alloc (.cells #[.pointer (some ⟨g, 4 + k, none⟩), .pointer (some ⟨g6, 4 + k, none⟩)] 105)).cell? ⟨wr.heap.size, 1, none⟩ = some (.pointer (some ⟨g6, 4 + k, none⟩)) := (Bk.new wr _ _).cell 1
             have k2 : (wr.alloc (.cells #[.pointer (some ⟨g, 4 + k, none⟩), .pointer (some ⟨g6, 4 + k, none⟩)] 105)).cell? ⟨g6, 4 + k, none⟩ = some (.string ⟨y.toArray⟩) := (World.cell?_alloc_lt _ _ _ g6lt).trans q3
             have hge := AJ.out.ge
             have hsz : (wr.setCell ⟨g, 4 + k, none⟩ (.string ⟨y.toArray⟩)).heap.size = wr.heap.size := by simp [World.setCell]
             have b2 := Bk.new (wr.setCell ⟨g, 4 + k, none⟩ (.string ⟨y.toArray⟩)) 105 #[.pointer (some ⟨g, 4 + k, none⟩), .pointer (some ⟨g6, 4 + k, none⟩)]
             rw [hsz] at b2
             have m0 : ((wr.setCell ⟨g, 4 + k, none⟩ (.string ⟨y.toArray⟩)).alloc (.cells #[.pointer (some ⟨g, 4 + k, none⟩), .pointer (some ⟨g6, 4 + k, none⟩)] 105)).cell? ⟨wr.heap.size, 0, none⟩ = some (.pointer (some ⟨g, 4 + k, none⟩)) := b2.cell 0
             have m1 : ((wr.setCell ⟨g, 4 + k, none⟩ (.string ⟨y.toArray⟩)).alloc (.cells #[.pointer (some ⟨g, 4 + k, none⟩), .pointer (some ⟨g6, 4 + k, none⟩)] 105)).cell? ⟨wr.heap.size, 1, none⟩ = some (.pointer (some ⟨g6, 4 + k, none⟩)) := b2.cell 1
             have m2 : ((wr.setCell ⟨g, 4 + k, none⟩ (.string ⟨y.toArray⟩)).alloc (.cells #[.pointer (some ⟨g, 4 + k, none⟩), .pointer (some ⟨g6, 4 + k, none⟩)] 105)).cell? ⟨g6, 4 + k, none⟩ = some (.string ⟨y.toArray⟩) := by
               rw [((AJ.out.upb.far (g' := g) (i := 4 + k) (by omega) (.string ⟨y.toArray⟩)).alloc _).cell, ← AJ.out.upb.cell]
               exact q3
             have HJ2 := Lib.hid ((AJ.out.take (Below.refl _ _) HE.out).more ((Below.refl _ _).alloc (Nat.le_refl _) (.cells #[.pointer (some ⟨g, 4 + k, none⟩), .pointer (some ⟨g6, 4 + k, none⟩)] 105)))
             clear b2 hsz
             go_wp2_with fail
             go_region_held3 (fun W => W.cell? ⟨wr.heap.size, 0, none⟩ = some (.pointer (some ⟨g, 4 + k, none⟩)) ∧ W.cell? ⟨wr.heap.size, 1, none⟩ = some (.pointer (some ⟨g6, 4 + k, none⟩)) ∧ W.cell? ⟨g6, 4 + k, none⟩ = some (.string ⟨y.toArray⟩)) (first | exact ⟨k0, k1, k2⟩ | exact ⟨m0, m1, m2⟩ | fail) (fail)
             all_goals
               go_wp2_with fail
               go_roundg q
               case measure => omega
               case rel => exact ⟨k + 1, by omega, by go_num, by have := AG.out; show _ = _; omega, HJ2.out.more (Below.refl _ _).drew⟩
         · obtain rfl : k = 4 := by omega
           have HJ4 := Lib.hid AJ.out
           have ho : Bk wr g 36 (attrCells (d.attr.under up) (.slice A n c)) := HJ4.out.out
           have hr := HJ4.out.res
           have hc0 := ho.cell 0
           have hc1 := ho.cell 1
           have hc2 := ho.cell 2
           have hc3 := ho.cell 3
           have hc4 := ho.cell 4
           have hc5 := ho.cell 5
           have hc6 := ho.cell 6
           have hc7 := ho.cell 7
           have hc8 := ho.cell 8
           have hc9 := ho.cell 9
           have hc10 := ho.cell 10
           simp only [attrCells, List.getElem?_toArray, List.getElem?_cons_zero, List.getElem?_cons_succ] at hc0 hc1 hc2 hc3 hc4 hc5 hc6 hc7 hc8 hc9 hc10
           have oc0 := hr.cell 0
           have oc1 := hr.cell 1
           have oc2 := hr.cell 2
           have oc3 := hr.cell 3
           have oc4 := hr.cell 4
           have oc5 := hr.cell 5
           have oc6 := hr.cell 6
           have oc7 := hr.cell 7
           have oc8 := hr.cell 8
           have oc9 := hr.cell 9
           have oc10 := hr.cell 10
           simp only [List.getElem?_toArray, List.getElem?_cons_zero, List.getElem?_cons_succ] at oc0 oc1 oc2 oc3 oc4 oc5 oc6 oc7 oc8 oc9 oc10
           have of := fun i => hr.frozen i
           have HR := Lib.hid hr
           clear ho hr
           generalize hau : d.attr.under up = au at hc0 hc1 hc2 hc3 hc4 hc5 hc6 hc7 hc8 hc9 hc10 ⊢
           have hnn : au.names = d.attr.names := by rw [← hau]; rfl
           have HNN := Lib.hid hnn
           have HAU := Lib.hid hau
           clear hau hnn
           go_wp2_with fail
           have hz := bk_set11 _ _ _ _ _ _ _ _ _ _ _ (.string ⟨au.oid.toArray⟩) (.string ⟨au.name.toArray⟩) (.string ⟨au.sup.toArray⟩) (.slice A n c) (.string ⟨au.form.toArray⟩) (.string ⟨au.eqr.toArray⟩) (.string ⟨au.ordr.toArray⟩) (.string ⟨au.subs.toArray⟩) (.bool au.single) (.bool au.fixed) (.bool au.oper) HR.out
           rw [HAU.out]
           exact attr_out (below_set11 HJ4.out.bel (Nat.le_refl _) _ _ _ _ _ _ _ _ _ _ _) hz (by rw [HNN.out]; exact HJ4.out.nam.far11 HR.out (by decide) _ _ _ _ _ _ _ _ _ _ _) rfl
end Go.Proofs.YtcjobpcbppcdnaaGreatDoor
/- Contracts: syntax.name: a part's pairs in their normal forms. -/
namespace Go.Proofs.YtcjobpcbppcdnaaGreatDoor
open Go.RowKit Go.Sort

def NormRet (w : World) (o : Option (List UInt8)) (e : Ending) (w' : World) : Prop :=
  Below w.heap.size w w' ∧ ∃ r, e = .returned (.tuple #[.string ⟨r.toArray⟩, .bool o.isSome]) ∧ ∀ m, o = some m → r = m
/-- A type written. -/
theorem RowA.setT {w : World} {g : Nat} {l : List (List UInt8 × List UInt8)} (h : RowA w g l) {j : Nat} (hj : j < l.length) (t : List UInt8) :
    RowA (w.setCell ⟨g, j * 2, none⟩ (.string ⟨t.toArray⟩)) g (l.set j (t, l[j].2)) := by
  have hc := h.at2 (List.getElem?_eq_getElem hj)
  refine ⟨by simp [World.setCell]; exact h.1, fun i y hi => ?_⟩
  rw [World.frozen?_setCell, World.frozen?_setCell]
  rw [List.getElem?_set] at hi
  by_cases hij : j = i
  · subst hij
    rw [if_pos rfl, if_pos hj] at hi
    cases hi
    rw [Nat.mul_comm 2 j]
    exact ⟨⟨set_same _ _ _ _ _ hc.1, hc.2.2.1⟩, (set_other _ _ _ _ _ (by omega)).trans hc.2.1, hc.2.2.2⟩
  · rw [if_neg hij] at hi
    have hx := h.2 i y hi
    exact ⟨⟨(set_other _ _ _ _ _ (by omega)).trans hx.1.1, hx.1.2⟩, (set_other _ _ _ _ _ (by omega)).trans hx.2.1, hx.2.2⟩
/-- A value written. -/
theorem RowA.setV {w : World} {g : Nat} {l : List (List UInt8 × List UInt8)} (h : RowA w g l) {j : Nat} (hj : j < l.length) (t : List UInt8) :
    RowA (w.setCell ⟨g, j * 2 + 1, none⟩ (.string ⟨t.toArray⟩)) g (l.set j (l[j].1, t)) := by
  have hc := h.at2 (List.getElem?_eq_getElem hj)
  refine ⟨by simp [World.setCell]; exact h.1, fun i y hi => ?_⟩
  rw [World.frozen?_setCell, World.frozen?_setCell]
  rw [List.getElem?_set] at hi
  by_cases hij : j = i
  · subst hij
    rw [if_pos rfl, if_pos hj] at hi
    cases hi
    rw [Nat.mul_comm 2 j]
    exact ⟨⟨(set_other _ _ _ _ _ (by omega)).trans hc.1, hc.2.2.1⟩, set_same _ _ _ _ _ hc.2.1, hc.2.2.2⟩
  · rw [if_neg hij] at hi
    have hx := h.2 i y hi
    exact ⟨⟨(set_other _ _ _ _ _ (by omega)).trans hx.1.1, hx.1.2⟩, (set_other _ _ _ _ _ (by omega)).trans hx.2.1, hx.2.2⟩
/-- The pairs under way: the first j are normal. -/
def upto (p : List (List UInt8 × List UInt8)) (j : Nat) : List (List UInt8 × List UInt8) := (p.take j).map normA ++ p.drop j
theorem upto_len (p : List (List UInt8 × List UInt8)) (j : Nat) : (upto p j).length = p.length := by simp [upto]; omega
theorem upto_at (p : List (List UInt8 × List UInt8)) (j : Nat) (h : j < p.length) : (upto p j)[j]? = some p[j] := by
  unfold upto
  rw [List.getElem?_append_right (by simp; omega)]
  simp [Nat.min_eq_left (Nat.le_of_lt h)]
theorem upto_succ (p : List (List UInt8 × List UInt8)) (j : Nat) (h : j < p.length) : (upto p j).set j (normA p[j]) = upto p (j + 1) := by
  have hl : ((p.take j).map normA).length = j := by simp; omega
  unfold upto
  rw [List.set_append_right _ _ (by omega), hl, Nat.sub_self, List.drop_eq_getElem_cons h, List.set_cons_zero, List.take_succ_eq_append_getElem h, List.map_append, List.append_assoc]
  rfl
theorem grown_any {w w' : World} (h : w.grownBy w' none) (r : Option Nat) : w.grownBy w' r := ⟨h.os, h.tape, h.output, h.size, fun k hk _ => h.block k hk (by simp)⟩
def NState (B : Nat) (w : World) (gd : Nat) (M : List (List (List UInt8 × List UInt8))) : Prop := ∃ L : List PartM, L.map (·.2.2) = M ∧ NM B w gd L

set_option maxRecDepth 100000 in
set_option maxHeartbeats 4000000 in
theorem name_no (s : List UInt8) (w : World) (hw : Env w) (her : (parseL s).1 ≠ 0) :
    Calls Tryz.prog 175 #[.string ⟨s.toArray⟩] w (NormRet w (nameN s)) := by
  have hP := Parse_c s w hw
  have hno : nameN s = none := by unfold nameN; rw [if_neg her]
  rw [hno]
  clear hno
  generalize parseL s = ps at *
  obtain ⟨er, d⟩ := ps
  have hbn : ((er : Int) != 0) = true := bne_iff_ne.2 her
  have HP := Lib.hid hP
  clear hP her
  go_enter Tryz.func175, Tryz.ntmps175
  go_wp2_with (go_at_call 33; refine HP.out.mono ?_; rintro e w1 ⟨hb1, v, rfl, hd⟩; obtain ⟨A0, c0, rfl, hc0⟩ := hd.isSlice)
  go_ret2
  exact ⟨hb1, _, rfl, by simp⟩

set_option maxRecDepth 100000 in
set_option maxHeartbeats 4000000 in
theorem name_ok (s : List UInt8) (w : World) (hw : Env w) (her : (parseL s).1 = 0) (htl : tooLongL (parseL s).2 = false) :
    Calls Tryz.prog 175 #[.string ⟨s.toArray⟩] w (NormRet w (nameN s)) := by
  have hP := Parse_c s w hw
  have hne := parseL_ne (s := s)
  have hty := parse_type (s := s)
  have hN : nameN s = (if (printL ((parseL s).2.map normP)).1 = 0 then some (printL ((parseL s).2.map normP)).2 else none) := by unfold nameN; rw [if_pos her]
  generalize parseL s = ps at *
  obtain ⟨er, d⟩ := ps
  simp only at hne hty hN her htl
  subst her
  have hbn : ((0 : Int) != 0) = false := by decide
  have HN := Lib.hid hN
  have HP := Lib.hid hP
  have HNE := Lib.hid hne
  have hd20 : d.length ≤ 20 := by unfold tooLongL at htl; simp at htl; omega
  have HSM : Hid (∀ p ∈ d, p.length ≤ 4 ∧ ∀ x ∈ p, x.1.length ≤ 64 ∧ x.2.length ≤ 1024) := by
    refine Lib.hid fun p hp => ?_
    unfold tooLongL at htl
    rw [Bool.or_eq_false_iff] at htl
    have h1 := List.any_eq_false.1 htl.2 p hp
    unfold rdnLongB at h1
    simp only [Bool.or_eq_true, decide_eq_true_eq, not_or] at h1
    refine ⟨by omega, fun x hx => ?_⟩
    have h2 : p.any avaLongB = false := by simpa using h1.2
    have h3 := List.any_eq_false.1 h2 x hx
    unfold avaLongB at h3
    simp at h3
    refine ⟨?_, h3⟩
    have h4 := hty p hp x hx
    unfold isTypeL at h4
    split at h4
    · simp at h4
    · next e => rw [e]; simp only [Bool.and_eq_true, decide_eq_true_eq] at h4; exact h4.1
  clear hN hP hne hty htl
  go_enter Tryz.func175, Tryz.ntmps175
  go_wp2_with fail
  refine HP.out.mono ?_
  rintro e w1 ⟨hb1, v, rfl, hd⟩
  change DnAt w.heap.size w1 v d at hd
  obtain ⟨A0, c0, rfl, hc0⟩ := hd.isSlice
  by_cases hdn : d = []
  · subst hdn
    have hPr := Print_c [] (.slice A0 0 c0) w1 (hw.keep hb1) hd.reads (by simp) (by simp)
    rw [show printL [] = (0, []) by decide] at hPr
    simp only [intStr] at hPr
    have HPr := Lib.hid hPr
    clear hPr
    simp only [List.length_nil]
    go_wp2_with fail
    go_loopg [22] 0 (fun gk i wr => i = .int .i64 0 ∧ wr = w1)
    case atStart => exact ⟨rfl, rfl⟩
    case round =>
      obtain ⟨rfl, rfl⟩ := hrel
      go_wp2_with (go_at_call 37; refine HPr.out.mono ?_; rintro e w2 ⟨rfl, hb2⟩)
      go_ret2
      rw [HN.out]
      exact ⟨hb1.trans (hb2.mono hb1.size), [], rfl, fun m h => by cases h; decide⟩
  · have hlpos : 0 < d.length := List.length_pos_iff.2 hdn
    obtain ⟨gd, rfl⟩ : ∃ gd, A0 = some ⟨gd, 0, none⟩ := by
      obtain ⟨vs, ⟨h1, h2⟩, _⟩ := hd
      rcases h2 with ⟨hv, hn⟩ | ⟨g, cap, cur, hv, _⟩
      · have := (Value.slice.inj hv).2.1; omega
      · have := (Value.slice.inj hv).1; exact ⟨g, this⟩
    have hS0 : NState w.heap.size w1 gd d := hd.nm HNE.out
    clear hd
    go_wp2_with fail
    go_loopg [22] d.length (fun gk i wr => ∃ k : Nat, k ≤ d.length ∧ i = .int .i64 k ∧ Aside (k + gk = d.length) ∧ Below w.heap.size w wr ∧ NState w.heap.size wr gd ((d.take k).map normP ++ d.drop k))
    case atStart => exact ⟨0, by omega, rfl, by show _ = _; omega, hb1, by simpa using hS0⟩
    case round =>
      obtain ⟨k, hk, rfl, AG, hB, hS⟩ := hrel
      obtain ⟨wo, hwo⟩ : ∃ wo, wo = wr := ⟨_, rfl⟩
      subst hwo
      by_cases hlt : k < d.length
      · obtain ⟨q, rfl⟩ : ∃ q, gk = q + 1 := ⟨gk - 1, by have := AG.out; omega⟩
        obtain ⟨L, hL, hNM⟩ := hS
        have hLlen : L.length = d.length := by have := congrArg List.length hL; simp at this; omega
        obtain ⟨⟨g, cap, p⟩, hLk⟩ : ∃ x, L[k]? = some x := ⟨_, List.getElem?_eq_getElem (by omega)⟩
        have hpk : d[k] = p := by
          have h1 : (L.map (·.2.2))[k]? = some p := by rw [List.getElem?_map, hLk]; rfl
          rw [hL, List.getElem?_append_right (by simp; omega)] at h1
          simp [Nat.min_eq_left hk, List.getElem?_eq_getElem hlt] at h1
          exact h1
        have hpm : p ∈ d := hpk ▸ List.getElem_mem hlt
        have hx := hNM.2.2.2 k _ hLk
        simp only at hx
        obtain ⟨x1, x2, x3, x4, x5, x6⟩ := hx
        obtain ⟨hp4, hpx⟩ := HSM.out p hpm
        have HL := Lib.hid hL
        have HLK := Lib.hid hLk
        have HPX := Lib.hid hpx
        have HPK := Lib.hid hpk
        have hgd := hNM.1
        clear hL hLk hpx hpk
        go_wp2_with fail
        go_loopg [29] p.length (fun gk i wi => ∃ j : Nat, j ≤ p.length ∧ i = .int .i64 j ∧ Aside (j + gk = p.length) ∧ wo.grownBy wi (some g) ∧ RowA wi g (upto p j))
        case atStart => exact ⟨0, by omega, rfl, by show _ = _; omega, World.grownBy.refl _ _, by simpa [upto] using x3⟩
        case round =>
          obtain ⟨j, hj, rfl, AG2, hgi, hR⟩ := hrel
          by_cases hjl : j < p.length
          · obtain ⟨q2, rfl⟩ : ∃ q2, gk = q2 + 1 := ⟨gk - 1, by have := AG2.out; omega⟩
            have ha := hR.at2 (upto_at p j hjl)
            obtain ⟨d0, d1, z0, z1⟩ := ha
            obtain ⟨l64, l1024⟩ := HPX.out p[j] (List.getElem_mem hjl)
            have hlen := upto_len p j
            have hsetT := fun t => RowA.setT (w := wr) hR (j := j) (by omega) t
            have hAt := upto_at p j hjl
            have HSU := Lib.hid (upto_succ p j hjl)
            have HAT := Lib.hid hAt
            have HR := Lib.hid hR
            have HGI := Lib.hid hgi
            have hnA : normA p[j] = (smallL p[j].1, (prepL p[j].2 true).getD p[j].2) := rfl
            have HNA := Lib.hid hnA
            clear hAt hsetT hnA hR hgi
            have hglt : g < wr.heap.size := cell_lt d0
            go_wp2_with fail
            have kA := Bk.new wr 70 #[.string ⟨p[j].1.toArray⟩, .string ⟨p[j].2.toArray⟩]
            have hgA := World.grownBy_alloc wr (.cells #[.string ⟨p[j].1.toArray⟩, .string ⟨p[j].2.toArray⟩] 70) none
            refine (Small_c _ _ (by omega)).mono ?_
            rintro e w4 ⟨rfl, hb4⟩
            have kA4 := kA.below hb4
            have g4 : wr.grownBy w4 none := World.grownBy.trans hgA ⟨hb4.os, hb4.tape, hb4.output, hb4.size, fun k hk _ => hb4.block k hk⟩
            have hR4 := HR.out.keep g4 (by simp)
            have ha4 := hR4.at2 HAT.out
            have c4 := ha4.1
            have z4 := ha4.2.2.1
            have f4 : (w4.setCell ⟨g, j * 2, none⟩ (.string ⟨(smallL p[j].1).toArray⟩)).cell? ⟨wr.heap.size, 1, none⟩ = some (.string ⟨p[j].2.toArray⟩) := (kA4.far (by omega) _).cell 1
            have hR5 := hR4.setT (j := j) (by omega) (smallL p[j].1)
            have g5 := World.grownBy.trans (grown_any g4 (some g)) (setCell_grown w4 g (j * 2) (.string ⟨(smallL p[j].1).toArray⟩))
            go_wp2_with fail
            generalize w4.setCell ⟨g, j * 2, none⟩ (.string ⟨(smallL p[j].1).toArray⟩) = w5 at *
            have hgj : (upto p j)[j]'(by omega) = p[j] := (List.getElem?_eq_some_iff.1 HAT.out).2
            rw [hgj] at hR5
            have hB5 : Below w.heap.size w w5 := (hB.grown HGI.out hB.size (fun k hk => by cases hk; exact x5)).grown g5 (Nat.le_trans hB.size HGI.out.size) (fun k hk => by cases hk; exact x5)
            have hPr := Prepare_c p[j].2 true w5 (hw.keep hB5) (by omega)
            have AG3 : Aside (j + 1 + q2 = p.length) := by have := AG2.out; show _ = _; omega
            have hj5 : j < ((upto p j).set j (smallL p[j].1, p[j].2)).length := by simp; omega
            have hg5 : g < w5.heap.size := hR5.1
            clear hgj c4 z4 hR4 ha4 g4 kA4 kA hgA hb4 f4 hB5
            cases hpp : prepL p[j].2 true with
            | none =>
              rw [hpp] at hPr
              have hfinA : normA p[j] = (smallL p[j].1, p[j].2) := by rw [HNA.out, hpp]; rfl
              have hsu := HSU.out
              rw [hfinA] at hsu
              have HSU2 := Lib.hid hsu
              simp only [strOr] at hPr
              clear hpp hfinA hsu
              refine hPr.mono ?_
              rintro e w6 ⟨rfl, hb6⟩
              have g6 : w5.grownBy w6 none := ⟨hb6.os, hb6.tape, hb6.output, hb6.size, fun k hk _ => hb6.block k hk⟩
              have hR6 := hR5.keep g6 (by simp)
              go_wp2_with fail
              go_roundg q2
              case measure => omega
              case rel => exact ⟨j + 1, by omega, by go_num, AG3.out, World.grownBy.trans HGI.out (World.grownBy.trans g5 (grown_any g6 _)), by rw [← HSU2.out]; exact hR6⟩
            | some t =>
              rw [hpp] at hPr
              have hfinA : normA p[j] = (smallL p[j].1, t) := by rw [HNA.out, hpp]; rfl
              have hsu := HSU.out
              rw [hfinA] at hsu
              have HSU2 := Lib.hid hsu
              simp only [strOr] at hPr
              clear hpp hfinA hsu
              refine hPr.mono ?_
              rintro e w6 ⟨rfl, hb6⟩
              have g6 : w5.grownBy w6 none := ⟨hb6.os, hb6.tape, hb6.output, hb6.size, fun k hk _ => hb6.block k hk⟩
              have hR6 := hR5.keep g6 (by simp)
              have ha6 := hR6.at2 (j := j) (List.getElem?_eq_getElem hj5)
              have c6 := ha6.2.1
              have z6 := ha6.2.2.2
              have hR7 := hR6.setV hj5 t
              simp only [List.getElem_set_self, List.set_set] at hR7
              have HR7 := Lib.hid hR7
              clear ha6 hR7 hR6 hR5
              go_wp2_with fail
              go_roundg q2
              case measure => omega
              case rel => exact ⟨j + 1, by omega, by go_num, AG3.out, World.grownBy.trans HGI.out (World.grownBy.trans g5 (World.grownBy.trans (grown_any g6 _) (setCell_grown _ _ _ _))), by rw [← HSU2.out]; exact HR7.out⟩
          · obtain rfl : j = p.length := by omega
            have hRp : RowA wr g (p.map normA) := by have := hR; unfold upto at this; simpa using this
            have hPart := Part_c (p.map normA) g cap wr hRp (by simp; omega) (by simp; exact x4)
            rw [List.length_map] at hPart
            have hPart' : Calls Tryz.prog 36 #[.slice (some ⟨g, 0, none⟩) p.length cap] wr fun e w' => e = .returned (.slice (some ⟨g, 0, none⟩) (normP p).length cap) ∧ RowA w' g (normP p) ∧ wr.grownBy w' (some g) := hPart
            have hnl : (normP p).length ≤ p.length := by have := partN_len (p.map normA); rw [List.length_map] at this; exact this
            have HGI := Lib.hid hgi
            clear hRp hPart hR hgi
            go_wp2_with fail
            refine hPart'.mono ?_
            rintro e w7 ⟨rfl, hR7, hg7⟩
            have g7 := World.grownBy.trans HGI.out hg7
            have c7 : w7.cell? ⟨gd, k, none⟩ = some (.slice (some ⟨g, 0, none⟩) p.length cap) := g7.cell x1 (by intro e; exact x6 (Option.some.inj e).symm)
            have z7 : w7.frozen? ⟨gd, k, none⟩ = false := (World.frozen?_of_block (a := ⟨gd, k, none⟩) (g7.block gd hgd (by intro e; exact x6 (Option.some.inj e).symm))).trans x2
            have hNM7 := hNM.part HLK.out g7 hR7 (Nat.le_trans hnl x4)
            have hB7 : Below w.heap.size w w7 := hB.grown g7 hB.size (fun k hk => by cases hk; exact x5)
            have hgdB := hNM.2.1
            have HNM7 := Lib.hid hNM7
            have HB7 := Lib.hid hB7
            clear hNM7 hB7
            go_wp2_with fail
            go_roundg q
            case measure => omega
            case rel =>
              refine ⟨k + 1, by omega, by go_num, by have := AG.out; show _ = _; omega, HB7.out.setCell hgdB _, _, ?_, HNM7.out⟩
              rw [List.map_set, HL.out]
              have hl1 : ((d.take k).map normP).length = k := by simp; omega
              rw [List.set_append_right _ _ (by omega), hl1, Nat.sub_self, List.drop_eq_getElem_cons hlt, List.set_cons_zero, List.take_succ_eq_append_getElem hlt, List.map_append, List.append_assoc, HPK.out]
              rfl
      · obtain rfl : k = d.length := by omega
        obtain ⟨L, hL, hNM⟩ := hS
        simp only [List.take_length, List.drop_length, List.append_nil] at hL
        have hLlen : L.length = d.length := by have := congrArg List.length hL; simpa using this
        have hdr := hNM.dnR (c := c0) (by omega)
        rw [hL, hLlen] at hdr
        have hPr := Print_c (d.map normP) (.slice (some ⟨gd, 0, none⟩) d.length c0) wo (hw.keep hB) hdr (by simp; omega) (fun p hp => by
          obtain ⟨p0, hp0, rfl⟩ := List.mem_map.1 hp
          obtain ⟨h4, hx⟩ := HSM.out p0 hp0
          have := partN_len (p0.map normA)
          rw [List.length_map] at this
          refine ⟨by unfold normP; omega, fun x hx' => ?_⟩
          have := partN_mem _ x hx'
          obtain ⟨y, hy, rfl⟩ := List.mem_map.1 this
          have := (hx y hy).1
          show (smallL y.1).length ≤ _
          rw [smallL_len]; omega)
        generalize printL (d.map normP) = pr at *
        obtain ⟨pe, ps⟩ := pr
        simp only [intStr] at hPr
        have HPr := Lib.hid hPr
        clear hPr hdr hL hNM
        by_cases hpe : pe = 0
        · subst hpe
          go_wp2_with (go_at_call 37; refine HPr.out.mono ?_; rintro e w2 ⟨rfl, hb2⟩)
          go_ret2
          rw [HN.out]
          exact ⟨hB.trans (hb2.mono hB.size), ps, rfl, fun m h => by simp at h; exact h⟩
        · have hq : ((pe : Int) == 0) = false := beq_eq_false_iff_ne.2 hpe
          go_wp2_with (go_at_call 37; refine HPr.out.mono ?_; rintro e w2 ⟨rfl, hb2⟩)
          go_ret2
          rw [HN.out]
          exact ⟨hB.trans (hb2.mono hB.size), ps, by simp [hpe], fun m h => by simp [hpe] at h⟩
end Go.Proofs.YtcjobpcbppcdnaaGreatDoor
/- Contracts: syntax.Valid. -/
namespace Go.Proofs.YtcjobpcbppcdnaaGreatDoor
open Go.RowKit Go.Sort

def kTrue : List UInt8 := [84, 82, 85, 69]
def kFalse : List UInt8 := [70, 65, 76, 83, 69]
def boolL (v : List UInt8) : Bool := v == kTrue || v == kFalse
def textL (v : List UInt8) : Bool := !v.isEmpty && (prepL v false).isSome
/-- syntax.Valid behind its test of the length. -/
def formOk (f v : List UInt8) : Bool :=
  if f = fOctets then true
  else if f = fText then textL v
  else if f = fAscii then asciiL v
  else if f = fInteger then intL v
  else if f = fBoolean then boolL v
  else if f = fName then (parseL v).1 == 0
  else if f = fOid then isTypeL v
  else if f = fTime then timeL v
  else false
/-- syntax.Valid -/
def validL (f v : List UInt8) : Bool := decide (v.length ≤ 1024) && formOk f v
section
variable (f v : List UInt8) (w : World) (hw : Env w) (hv : v.length ≤ 1024)
def ValidSays (f v : List UInt8) (w : World) (b : Bool) : Prop :=
  Calls Tryz.prog 66 #[.string ⟨f.toArray⟩, .string ⟨v.toArray⟩] w fun e w' => e = .returned (.bool b) ∧ Below w.heap.size w w'
set_option maxRecDepth 100000
set_option maxHeartbeats 1000000
theorem Valid_long (hv : ¬ v.length ≤ 1024) : ValidSays f v w false := by
  unfold ValidSays
  have hv' : 1024 < v.length := by omega
  go_enter Tryz.func66, Tryz.ntmps66
  go_wp2
  go_ret
  exact ⟨rfl, Below.refl _ _⟩
include hv
theorem Valid_1 (e1 : (f == [111, 99, 116, 101, 116, 115]) = true) : ValidSays f v w true := by
  unfold ValidSays
  go_enter Tryz.func66, Tryz.ntmps66
  go_wp2
  go_ret
  exact ⟨rfl, Below.refl _ _⟩
theorem Valid_3 (e1 : (f == [111, 99, 116, 101, 116, 115]) = false) (e2 : (f == [116, 101, 120, 116]) = false) (e3 : (f == [97, 115, 99, 105, 105]) = true) : ValidSays f v w (asciiL v) := by
  unfold ValidSays
  go_enter Tryz.func66, Tryz.ntmps66
  go_wp2_with (go_at_call 109; refine (isASCII_c v _ hv).mono ?_; rintro e w' ⟨rfl, rfl⟩)
  go_ret
  exact ⟨rfl, Below.refl _ _⟩
theorem Valid_4 (e1 : (f == [111, 99, 116, 101, 116, 115]) = false) (e2 : (f == [116, 101, 120, 116]) = false) (e3 : (f == [97, 115, 99, 105, 105]) = false) (e4 : (f == [105, 110, 116, 101, 103, 101, 114]) = true) : ValidSays f v w (intL v) := by
  unfold ValidSays
  go_enter Tryz.func66, Tryz.ntmps66
  go_wp2_with (go_at_call 110; refine (isInteger_c v _ (by omega)).mono ?_; rintro e w' ⟨rfl, hb⟩)
  go_ret
  exact ⟨rfl, hb⟩
theorem Valid_5 (e1 : (f == [111, 99, 116, 101, 116, 115]) = false) (e2 : (f == [116, 101, 120, 116]) = false) (e3 : (f == [97, 115, 99, 105, 105]) = false) (e4 : (f == [105, 110, 116, 101, 103, 101, 114]) = false) (e5 : (f == [98, 111, 111, 108, 101, 97, 110]) = true) : ValidSays f v w (boolL v) := by
  unfold ValidSays boolL
  cases h1 : v == [84, 82, 85, 69] <;> cases h2 : v == [70, 65, 76, 83, 69]
  all_goals
    have h1' : (v == kTrue) = _ := h1
    have h2' : (v == kFalse) = _ := h2
    rw [h1', h2']
    clear h1' h2'
    go_enter Tryz.func66, Tryz.ntmps66
    go_wp2
    go_ret
    exact ⟨rfl, Below.refl _ _⟩
theorem Valid_8 (e1 : (f == [111, 99, 116, 101, 116, 115]) = false) (e2 : (f == [116, 101, 120, 116]) = false) (e3 : (f == [97, 115, 99, 105, 105]) = false) (e4 : (f == [105, 110, 116, 101, 103, 101, 114]) = false) (e5 : (f == [98, 111, 111, 108, 101, 97, 110]) = false) (e6 : (f == [110, 97, 109, 101]) = false) (e7 : (f == [111, 105, 100]) = false) (e8 : (f == [116, 105, 109, 101]) = true) : ValidSays f v w (timeL v) := by
  unfold ValidSays
  go_enter Tryz.func66, Tryz.ntmps66
  go_wp2_with (go_at_call 111; refine (isTime_c v _ (by omega)).mono ?_; rintro e w' ⟨rfl, hb⟩)
  go_ret
  exact ⟨rfl, hb⟩
theorem Valid_9 (e1 : (f == [111, 99, 116, 101, 116, 115]) = false) (e2 : (f == [116, 101, 120, 116]) = false) (e3 : (f == [97, 115, 99, 105, 105]) = false) (e4 : (f == [105, 110, 116, 101, 103, 101, 114]) = false) (e5 : (f == [98, 111, 111, 108, 101, 97, 110]) = false) (e6 : (f == [110, 97, 109, 101]) = false) (e7 : (f == [111, 105, 100]) = false) (e8 : (f == [116, 105, 109, 101]) = false) : ValidSays f v w false := by
  unfold ValidSays
  go_enter Tryz.func66, Tryz.ntmps66
  go_wp2
  go_ret
  exact ⟨rfl, Below.refl _ _⟩
include hw
theorem Valid_2 (e1 : (f == [111, 99, 116, 101, 116, 115]) = false) (e2 : (f == [116, 101, 120, 116]) = true) : ValidSays f v w (textL v) := by
  unfold ValidSays textL
  have hP := Prepare_c v false w hw (by omega)
  cases hp : prepL v false <;> cases hn : v.isEmpty
  all_goals
    rw [hp] at hP
    simp only [strOr] at hP
    go_enter Tryz.func66, Tryz.ntmps66
    go_wp2_with (go_at_call 108; refine hP.mono ?_; rintro e w' ⟨rfl, hb⟩)
    go_ret
    exact ⟨rfl, hb⟩
theorem Valid_6 (e1 : (f == [111, 99, 116, 101, 116, 115]) = false) (e2 : (f == [116, 101, 120, 116]) = false) (e3 : (f == [97, 115, 99, 105, 105]) = false) (e4 : (f == [105, 110, 116, 101, 103, 101, 114]) = false) (e5 : (f == [98, 111, 111, 108, 101, 97, 110]) = false) (e6 : (f == [110, 97, 109, 101]) = true) : ValidSays f v w ((parseL v).1 == 0) := by
  unfold ValidSays
  have hP := Parse_c v w hw
  generalize parseL v = ps at *
  obtain ⟨er, d⟩ := ps
  have HP := Lib.hid hP
  clear hP
  go_enter Tryz.func66, Tryz.ntmps66
  go_wp2_with (go_at_call 33; refine HP.out.mono ?_; rintro e w1 ⟨hb1, v, rfl, hd⟩; obtain ⟨A0, c0, rfl, hc0⟩ := hd.isSlice)
  go_ret
  exact ⟨rfl, hb1⟩
theorem Valid_7 (e1 : (f == [111, 99, 116, 101, 116, 115]) = false) (e2 : (f == [116, 101, 120, 116]) = false) (e3 : (f == [97, 115, 99, 105, 105]) = false) (e4 : (f == [105, 110, 116, 101, 103, 101, 114]) = false) (e5 : (f == [98, 111, 111, 108, 101, 97, 110]) = false) (e6 : (f == [110, 97, 109, 101]) = false) (e7 : (f == [111, 105, 100]) = true) : ValidSays f v w (isTypeL v) := by
  unfold ValidSays
  go_enter Tryz.func66, Tryz.ntmps66
  go_wp2_with (go_at_call 51; refine (IsType_c v _ hw (by omega)).mono ?_; rintro e w' ⟨rfl, hb⟩)
  go_ret
  exact ⟨rfl, hb⟩
end
theorem Valid_c (f v : List UInt8) (w : World) (hw : Env w) :
    Calls Tryz.prog 66 #[.string ⟨f.toArray⟩, .string ⟨v.toArray⟩] w fun e w' => e = .returned (.bool (validL f v)) ∧ Below w.heap.size w w' := by
  change ValidSays f v w (validL f v)
  unfold validL
  by_cases hv : v.length ≤ 1024
  · rw [decide_eq_true hv, Bool.true_and]
    have no : ∀ l : List UInt8, f ≠ l → (f == l) = false := fun l h => beq_eq_false_iff_ne.2 h
    have ye : ∀ l : List UInt8, f = l → (f == l) = true := fun l h => beq_iff_eq.2 h
    unfold formOk
    by_cases h1 : f = fOctets
    · rw [if_pos h1]; exact Valid_1 f v w hv (ye _ h1)
    rw [if_neg h1]
    by_cases h2 : f = fText
    · rw [if_pos h2]; exact Valid_2 f v w hw hv (no _ h1) (ye _ h2)
    rw [if_neg h2]
    by_cases h3 : f = fAscii
    · rw [if_pos h3]; exact Valid_3 f v w hv (no _ h1) (no _ h2) (ye _ h3)
    rw [if_neg h3]
    by_cases h4 : f = fInteger
    · rw [if_pos h4]; exact Valid_4 f v w hv (no _ h1) (no _ h2) (no _ h3) (ye _ h4)
    rw [if_neg h4]
    by_cases h5 : f = fBoolean
    · rw [if_pos h5]; exact Valid_5 f v w hv (no _ h1) (no _ h2) (no _ h3) (no _ h4) (ye _ h5)
    rw [if_neg h5]
    by_cases h6 : f = fName
    · rw [if_pos h6]; exact Valid_6 f v w hw hv (no _ h1) (no _ h2) (no _ h3) (no _ h4) (no _ h5) (ye _ h6)
    rw [if_neg h6]
    by_cases h7 : f = fOid
    · rw [if_pos h7]; exact Valid_7 f v w hw hv (no _ h1) (no _ h2) (no _ h3) (no _ h4) (no _ h5) (no _ h6) (ye _ h7)
    rw [if_neg h7]
    by_cases h8 : f = fTime
    · rw [if_pos h8]; exact Valid_8 f v w hv (no _ h1) (no _ h2) (no _ h3) (no _ h4) (no _ h5) (no _ h6) (no _ h7) (ye _ h8)
    rw [if_neg h8]
    exact Valid_9 f v w hv (no _ h1) (no _ h2) (no _ h3) (no _ h4) (no _ h5) (no _ h6) (no _ h7) (no _ h8)
  · rw [decide_eq_false hv, Bool.false_and]
    exact Valid_long f v w hv
end Go.Proofs.YtcjobpcbppcdnaaGreatDoor
/- Contracts: the functions of normal forms; normal$1 over a row's forms. -/
namespace Go.Proofs.YtcjobpcbppcdnaaGreatDoor
open Go.RowKit Go.Sort

theorem self_c (v : List UInt8) (w : World) : Calls Tryz.prog 173 #[.string ⟨v.toArray⟩] w (NormRet w (some v)) := by
  go_enter Tryz.func173, Tryz.ntmps173
  go_wp2
  go_ret2
  exact ⟨Below.refl _ _, v, rfl, fun m h => by cases h; rfl⟩
theorem oid_c (v : List UInt8) (w : World) (hv : v.length ≤ 1024) : Calls Tryz.prog 176 #[.string ⟨v.toArray⟩] w (NormRet w (some (smallL v))) := by
  go_enter Tryz.func176, Tryz.ntmps176
  go_wp2_with (go_at_call 35; refine (Small_c v _ (by omega)).mono ?_; rintro e w' ⟨rfl, hb⟩)
  go_ret2
  exact ⟨hb, _, rfl, fun m h => by cases h; rfl⟩
theorem text1_c (v : List UInt8) (fold : Bool) (a : Nat) (w : World) (hw : Env w) (hc : w.cell? ⟨a, 0, none⟩ = some (.bool fold)) (hv : v.length ≤ 1024) :
    Calls Tryz.prog 199 #[.string ⟨v.toArray⟩, .pointer (some ⟨a, 0, none⟩)] w (NormRet w (prepL v fold)) := by
  have hP := Prepare_c v fold w hw (by omega)
  cases hp : prepL v fold
  · rw [hp] at hP
    clear hp
    simp only [strOr] at hP
    go_enter Tryz.func199, Tryz.ntmps199
    go_wp2_with (go_at_call 108; refine hP.mono ?_; rintro e w' ⟨rfl, hb⟩)
    go_ret2
    exact ⟨hb, [], rfl, fun m h => by cases h⟩
  · rw [hp] at hP
    clear hp
    simp only [strOr] at hP
    go_enter Tryz.func199, Tryz.ntmps199
    go_wp2_with (go_at_call 108; refine hP.mono ?_; rintro e w' ⟨rfl, hb⟩)
    go_ret2
    exact ⟨hb, _, rfl, fun m h => by cases h; rfl⟩
theorem name_c (s : List UInt8) (w : World) (hw : Env w) : Calls Tryz.prog 175 #[.string ⟨s.toArray⟩] w (NormRet w (nameN s)) := by
  by_cases her : (parseL s).1 = 0
  · refine name_ok s w hw her ?_
    unfold parseL at her ⊢
    split at her
    · simp at her
    · next h1 =>
      rw [if_neg h1]
      split at her
      · simp at her
      · next d hd =>
        split at her
        · simp at her
        · next h2 => simp only [hd, if_neg h2]; simpa using h2
  · exact name_no s w hw her
theorem normal1_c (f v : List UInt8) (a : Nat) (w : World) (hw : Env w) (hc : w.cell? ⟨a, 0, none⟩ = some (.string ⟨v.toArray⟩)) :
    Calls Tryz.prog 144 #[.string ⟨f.toArray⟩, .pointer (some ⟨a, 0, none⟩)] w fun e w' => e = .returned (.bool (validL f v)) ∧ Below w.heap.size w w' := by
  have hV := Valid_c f v w hw
  generalize validL f v = b at *
  go_enter Tryz.func144, Tryz.ntmps144
  go_wp2_with (go_at_call 66; refine hV.mono ?_; rintro e w' ⟨rfl, hb⟩)
  go_ret
  exact ⟨rfl, hb⟩
set_option maxRecDepth 10000 in
set_option maxHeartbeats 1000000 in
theorem forms_idx (p : List (List UInt8)) (v : Value) (w : World) (hv : Texts w v p) (hl : p.length ≤ 1000000) (a : Nat) (P : List UInt8 → Bool)
    (hF : ∀ x ∈ p, ∀ W, Below w.heap.size w W → Calls Tryz.prog 144 #[.string ⟨x.toArray⟩, .pointer (some ⟨a, 0, none⟩)] W fun e W' => e = .returned (.bool (P x)) ∧ Below W.heap.size W W') :
    Calls Tryz.prog 77 #[v, .func (.func 144) #[] #[.pointer (some ⟨a, 0, none⟩)]] w fun e w' => (∃ i : Int, e = .returned (.int .i64 i) ∧ decide (0 ≤ i) = p.any P) ∧ Below w.heap.size w w' := by
  have HF := Lib.hid hF
  clear hF
  obtain ⟨A, c, rfl, hc, hx⟩ : ∃ A c, v = .slice A p.length c ∧ p.length ≤ c ∧ (p = [] ∨ ∃ g, A = some ⟨g, 0, none⟩ ∧ g < w.heap.size ∧ ∀ j (hj : j < p.length), w.cell? ⟨g, j, none⟩ = some (.string ⟨p[j].toArray⟩)) := by
    rcases hv with ⟨rfl, rfl⟩ | ⟨b, c, rfl, h1, h2, h3⟩
    · exact ⟨none, 0, rfl, Nat.le_refl _, .inl rfl⟩
    · exact ⟨_, c, rfl, h1, .inr ⟨b, rfl, h2, h3⟩⟩
  have HX := Lib.hid hx
  clear hx
  go_enter Tryz.func77, Tryz.ntmps77
  go_wp2_with fail
  go_loopg [8] p.length (fun gk i wr => ∃ k : Nat, k ≤ p.length ∧ i = .int .i64 k ∧ Aside (k + gk = p.length) ∧ Below w.heap.size w wr ∧ Aside (p.any P = (p.drop k).any P))
  case atStart => exact ⟨0, by omega, rfl, by show _ = _; omega, Below.refl _ _, rfl⟩
  case round =>
    obtain ⟨k, hk, rfl, AG, hB, AS⟩ := hrel
    by_cases hlt : k < p.length
    · obtain ⟨q, rfl⟩ : ∃ q, gk = q + 1 := ⟨gk - 1, by have := AG.out; omega⟩
      obtain ⟨g, rfl, hg, hcells⟩ := HX.out.resolve_left (by intro h; rw [h] at hlt; simp at hlt)
      have AS' : Aside (p.any P = (P p[k] || (p.drop (k + 1)).any P)) := by have := AS.out; rw [List.drop_eq_getElem_cons hlt] at this; exact this
      have c0 : wr.cell? ⟨g, k, none⟩ = some (.string ⟨p[k].toArray⟩) := (hB.cell (p := ⟨g, k, none⟩) hg).trans (hcells k hlt)
      have HC : Hid (∀ W, Below w.heap.size w W → Calls Tryz.prog 144 #[.string ⟨p[k].toArray⟩, .pointer (some ⟨a, 0, none⟩)] W fun e W' => e = .returned (.bool (P p[k])) ∧ Below W.heap.size W W') := fun W hW => HF.out p[k] (List.getElem_mem hlt) W hW
      clear hcells AS
      cases hP : P p[k]
      · have HP := Lib.hid hP
        have HC' := HC.out
        rw [hP] at HC'
        have HC2 := Lib.hid HC'
        clear hP HC HC'
        go_wp2_with (go_at_call 144; refine (HC2.out _ hB).mono ?_; rintro e w2 ⟨rfl, hb2⟩)
        go_roundg q
        case measure => omega
        case rel => exact ⟨k + 1, by omega, by go_num, by have := AG.out; show _ = _; omega, hB.trans (hb2.mono hB.size), by have := AS'.out; rw [HP.out] at this; exact this⟩
      · have HP := Lib.hid hP
        have HC' := HC.out
        rw [hP] at HC'
        have HC2 := Lib.hid HC'
        clear hP HC HC'
        go_wp2_with (go_at_call 144; refine (HC2.out _ hB).mono ?_; rintro e w2 ⟨rfl, hb2⟩)
        go_ret
        exact ⟨⟨k, rfl, by rw [AS'.out, HP.out]; simp⟩, hB.trans (hb2.mono hB.size)⟩
    · obtain rfl : k = p.length := by omega
      have hs : p.any P = false := by have := AS.out; rw [List.drop_length] at this; exact this
      have Hs := Lib.hid hs
      clear hs AS
      go_wp2_with fail
      go_ret
      exact ⟨⟨-1, rfl, by rw [Hs.out]; rfl⟩, hB⟩
set_option maxHeartbeats 400000 in
theorem forms_any (p : List (List UInt8)) (v : Value) (w : World) (hv : Texts w v p) (hl : p.length ≤ 1000000) (a : Nat) (P : List UInt8 → Bool)
    (hF : ∀ x ∈ p, ∀ W, Below w.heap.size w W → Calls Tryz.prog 144 #[.string ⟨x.toArray⟩, .pointer (some ⟨a, 0, none⟩)] W fun e W' => e = .returned (.bool (P x)) ∧ Below W.heap.size W W') :
    Calls Tryz.prog 56 #[v, .func (.func 144) #[] #[.pointer (some ⟨a, 0, none⟩)]] w fun e w' => e = .returned (.bool (p.any P)) ∧ Below w.heap.size w w' := by
  have hI := forms_idx p v w hv hl a P hF
  obtain ⟨A0, n0, c0, rfl⟩ := hv.isSlice
  clear hF hv
  go_enter Tryz.func56, Tryz.ntmps56
  go_wp2_with (go_at_call 77; refine hI.mono ?_; rintro e w1 ⟨⟨i, rfl, hi⟩, hb1⟩; have Hi := Lib.hid hi; clear hi)
  all_goals
    go_ret
    exact ⟨retb (by rw [← Hi.out]), hb1⟩
end Go.Proofs.YtcjobpcbppcdnaaGreatDoor
/- Contracts: a value's normal form by a rule. (Printed by gen_norm.py.) -/
namespace Go.Proofs.YtcjobpcbppcdnaaGreatDoor
open Go.RowKit Go.Sort

abbrev RowT := List UInt8 × Int × List (List UInt8) × NormFn
def applyN : NormFn → List UInt8 → Option (List UInt8)
  | .self, v => some v
  | .text fold, v => prepL v fold
  | .name, v => nameN v
  | .oid, v => some (smallL v)
/-- (*row).normal -/
def normS (x : RowT) (v : List UInt8) : Option (List UInt8) := if decide (v.length ≤ 1024) && x.2.2.1.any (fun f => validL f v) then applyN x.2.2.2 v else none
def NormalRet (w : World) (o : Option (List UInt8)) (e : Ending) (w' : World) : Prop := e = .returned (strOr 40 o) ∧ Below w.heap.size w w'

set_option maxRecDepth 100000 in
set_option maxHeartbeats 1000000 in
theorem normal_long (x : RowT) (b : Nat) (v : List UInt8) (w : World) (h : RowAt w b x) (hv : ¬ v.length ≤ 1024) :
    Calls Tryz.prog 113 #[.pointer (some ⟨b, 0, none⟩), .string ⟨v.toArray⟩] w (NormalRet w none) := by
  have hv' : 1024 < v.length := by omega
  clear h
  go_enter Tryz.func113, Tryz.ntmps113
  go_wp2
  go_ret2
  exact ⟨rfl, (Below.refl _ _).alloc (Nat.le_refl _) _⟩
theorem RowAt.any {w W : World} {b : Nat} {x : RowT} {v : List UInt8} (h : RowAt w b x) (hfl : x.2.2.1.length ≤ 2) (hw : Env w) (hW : W = w.alloc (.cells #[.string ⟨v.toArray⟩] 9)) {fA : Option Addr} {fN fC : Nat} (hT : Texts w (.slice fA fN fC) x.2.2.1) :
    Calls Tryz.prog 56 #[.slice fA fN fC, .func (.func 144) #[] #[.pointer (some ⟨w.heap.size, 0, none⟩)]] W fun e w' => e = .returned (.bool (x.2.2.1.any (fun f => validL f v))) ∧ Below W.heap.size W w' := by
  subst hW
  have hb := (Below.refl w.heap.size w).alloc (Nat.le_refl _) (.cells #[.string ⟨v.toArray⟩] 9)
  have hc := Bk.new w 9 #[.string ⟨v.toArray⟩]
  exact forms_any x.2.2.1 _ _ (hT.below hb) (by omega) w.heap.size (fun f => validL f v) (fun f _ W' hB => normal1_c f v w.heap.size W' ((hw.keep hb).keep hB) ((hc.below hB).cell 0))
set_option maxRecDepth 100000 in
set_option maxHeartbeats 1000000 in
theorem normal_none (x : RowT) (b : Nat) (v : List UInt8) (w : World) (hw : Env w) (h : RowAt w b x) (hfl : x.2.2.1.length ≤ 2) (hv : v.length ≤ 1024) (ha : x.2.2.1.any (fun f => validL f v) = false) :
    Calls Tryz.prog 113 #[.pointer (some ⟨b, 0, none⟩), .string ⟨v.toArray⟩] w (NormalRet w none) := by
  have hlt := h.lt
  have h0 := h
  obtain ⟨fA, fN, fC, nF, n1, n2, h1, h2, h3⟩ := h
  have hA := h0.any (v := v) hfl hw rfl h2
  rw [ha] at hA
  have hcell : (w.alloc (.cells #[.string ⟨v.toArray⟩] 9)).cell? ⟨b, 2, none⟩ = some (.slice fA fN fC) := (World.cell?_alloc_lt _ _ _ hlt).trans (by simp [World.cell?, h1])
  have hmf := mkFunc
  clear h0 h1 h2 h3 ha
  go_enter Tryz.func113, Tryz.ntmps113
  go_wp2_with (go_at_call 56; refine hA.mono ?_; rintro e w2 ⟨rfl, hb2⟩)
  go_ret2
  exact ⟨rfl, ((Below.refl _ _).alloc (Nat.le_refl _) _).trans (hb2.mono (by simp))⟩

set_option maxRecDepth 100000 in
set_option maxHeartbeats 2000000 in
theorem normal_self (x : RowT) (b : Nat) (v : List UInt8) (w : World) (hw : Env w) (h : RowAt w b x) (hfl : x.2.2.1.length ≤ 2) (hv : v.length ≤ 1024) (ha : x.2.2.1.any (fun f => validL f v) = true) (hn : x.2.2.2 = NormFn.self) (o : Option (List UInt8)) (ho : o = some v) :
    Calls Tryz.prog 113 #[.pointer (some ⟨b, 0, none⟩), .string ⟨v.toArray⟩] w (NormalRet w o) := by
  have hlt := h.lt
  have h0 := h
  obtain ⟨fA, fN, fC, nF, n1, n2, h1, h2, h3⟩ := h
  have hA := h0.any (v := v) hfl hw rfl h2
  rw [ha] at hA
  rw [hn] at h3
  obtain ⟨rfl, rfl, rfl⟩ : nF = .func 173 ∧ n1 = #[] ∧ n2 = #[] := by have h3' : Value.func nF n1 n2 = .func (.func 173) #[] #[] := h3; cases h3'; exact ⟨rfl, rfl, rfl⟩
  have hbw := (Below.refl w.heap.size w).alloc (Nat.le_refl _) (.cells #[.string ⟨v.toArray⟩] 9)
  have kV := Bk.new w 9 #[.string ⟨v.toArray⟩]
  have HC : Hid (∀ W, Below w.heap.size w W → Calls Tryz.prog 173 #[.string ⟨v.toArray⟩] W (NormRet W o)) := Lib.hid fun W hW => by rw [ho]; exact self_c v W
  have hcell : (w.alloc (.cells #[.string ⟨v.toArray⟩] 9)).cell? ⟨b, 2, none⟩ = some (.slice fA fN fC) := (World.cell?_alloc_lt _ _ _ hlt).trans (by simp [World.cell?, h1])
  have hcell3 : (w.alloc (.cells #[.string ⟨v.toArray⟩] 9)).cell? ⟨b, 3, none⟩ = some (.func (.func 173) #[] #[]) := (World.cell?_alloc_lt _ _ _ hlt).trans (by simp [World.cell?, h1])
  have hsz : (w.alloc (.cells #[.string ⟨v.toArray⟩] 9)).heap.size = w.heap.size + 1 := by simp
  have HSZ := Lib.hid hsz
  have HC3 := Lib.hid hcell3
  have HKV := Lib.hid kV
  have hmf := mkFunc
  have HO := Lib.hid ho
  clear h0 h1 h2 h3 ha hn ho hsz hcell3 kV
  go_enter Tryz.func113, Tryz.ntmps113
  go_wp2_with (go_at_call 56; refine hA.mono ?_; rintro e w2 ⟨rfl, hb2⟩)
  have f1 : w2.cell? ⟨b, 3, none⟩ = some (.func (.func 173) #[] #[]) := (hb2.cell (p := ⟨b, 3, none⟩) (by have := HSZ.out; simp; omega)).trans HC3.out
  have f2 : w2.cell? ⟨w.heap.size, 0, none⟩ = some (.string ⟨v.toArray⟩) := (HKV.out.below hb2).cell 0
  have hB2 : Below w.heap.size w w2 := hbw.trans (hb2.mono (by have := HSZ.out; omega))
  have HB2 := Lib.hid hB2
  clear hA hcell hb2 hB2 hmf
  go_region_held3 (fun w' => w'.cell? ⟨b, 3, none⟩ = some (.func (.func 173) #[] #[]) ∧ w'.cell? ⟨w.heap.size, 0, none⟩ = some (.string ⟨v.toArray⟩)) (first | exact ⟨f1, f2⟩ | exact ⟨f1', f2'⟩) (first | (go_at_call 173; refine (HC.out _ (HB2.out.trans ((Below.refl _ _).drew.mono HB2.out.size))).mono ?_; rintro e w4 ⟨hb4, r, rfl, hr⟩; have Hr := Lib.hid hr; clear hr; have f1' : w4.cell? ⟨b, 3, none⟩ = some (.func (.func 173) #[] #[]) := (hb4.cell (p := ⟨b, 3, none⟩) (by have := HB2.out.size; simp; omega)).trans f1; have f2' : w4.cell? ⟨w.heap.size, 0, none⟩ = some (.string ⟨v.toArray⟩) := (hb4.cell (p := ⟨w.heap.size, 0, none⟩) (by simp; exact cell_lt f2)).trans f2))
  all_goals
    have hfin : Below w.heap.size w w4 := HB2.out.trans ((show Below w2.heap.size w2 w4 from ((Below.refl _ _).drew.trans hb4)).mono HB2.out.size)
    cases o with
    | none =>
      go_wp2_with fail
      go_ret2
      exact ⟨rfl, hfin⟩
    | some m =>
      obtain rfl := Hr.out m rfl
      go_wp2_with fail
      go_ret2
      exact ⟨rfl, hfin⟩

set_option maxRecDepth 100000 in
set_option maxHeartbeats 2000000 in
theorem normal_oid (x : RowT) (b : Nat) (v : List UInt8) (w : World) (hw : Env w) (h : RowAt w b x) (hfl : x.2.2.1.length ≤ 2) (hv : v.length ≤ 1024) (ha : x.2.2.1.any (fun f => validL f v) = true) (hn : x.2.2.2 = NormFn.oid) (o : Option (List UInt8)) (ho : o = some (smallL v)) :
    Calls Tryz.prog 113 #[.pointer (some ⟨b, 0, none⟩), .string ⟨v.toArray⟩] w (NormalRet w o) := by
  have hlt := h.lt
  have h0 := h
  obtain ⟨fA, fN, fC, nF, n1, n2, h1, h2, h3⟩ := h
  have hA := h0.any (v := v) hfl hw rfl h2
  rw [ha] at hA
  rw [hn] at h3
  obtain ⟨rfl, rfl, rfl⟩ : nF = .func 176 ∧ n1 = #[] ∧ n2 = #[] := by have h3' : Value.func nF n1 n2 = .func (.func 176) #[] #[] := h3; cases h3'; exact ⟨rfl, rfl, rfl⟩
  have hbw := (Below.refl w.heap.size w).alloc (Nat.le_refl _) (.cells #[.string ⟨v.toArray⟩] 9)
  have kV := Bk.new w 9 #[.string ⟨v.toArray⟩]
  have HC : Hid (∀ W, Below w.heap.size w W → Calls Tryz.prog 176 #[.string ⟨v.toArray⟩] W (NormRet W o)) := Lib.hid fun W hW => by rw [ho]; exact oid_c v W hv
  have hcell : (w.alloc (.cells #[.string ⟨v.toArray⟩] 9)).cell? ⟨b, 2, none⟩ = some (.slice fA fN fC) := (World.cell?_alloc_lt _ _ _ hlt).trans (by simp [World.cell?, h1])
  have hcell3 : (w.alloc (.cells #[.string ⟨v.toArray⟩] 9)).cell? ⟨b, 3, none⟩ = some (.func (.func 176) #[] #[]) := (World.cell?_alloc_lt _ _ _ hlt).trans (by simp [World.cell?, h1])
  have hsz : (w.alloc (.cells #[.string ⟨v.toArray⟩] 9)).heap.size = w.heap.size + 1 := by simp
  have HSZ := Lib.hid hsz
  have HC3 := Lib.hid hcell3
  have HKV := Lib.hid kV
  have hmf := mkFunc
  have HO := Lib.hid ho
  clear h0 h1 h2 h3 ha hn ho hsz hcell3 kV
  go_enter Tryz.func113, Tryz.ntmps113
  go_wp2_with (go_at_call 56; refine hA.mono ?_; rintro e w2 ⟨rfl, hb2⟩)
  have f1 : w2.cell? ⟨b, 3, none⟩ = some (.func (.func 176) #[] #[]) := (hb2.cell (p := ⟨b, 3, none⟩) (by have := HSZ.out; simp; omega)).trans HC3.out
  have f2 : w2.cell? ⟨w.heap.size, 0, none⟩ = some (.string ⟨v.toArray⟩) := (HKV.out.below hb2).cell 0
  have hB2 : Below w.heap.size w w2 := hbw.trans (hb2.mono (by have := HSZ.out; omega))
  have HB2 := Lib.hid hB2
  clear hA hcell hb2 hB2 hmf
  go_region_held3 (fun w' => w'.cell? ⟨b, 3, none⟩ = some (.func (.func 176) #[] #[]) ∧ w'.cell? ⟨w.heap.size, 0, none⟩ = some (.string ⟨v.toArray⟩)) (first | exact ⟨f1, f2⟩ | exact ⟨f1', f2'⟩) (first | (go_at_call 176; refine (HC.out _ (HB2.out.trans ((Below.refl _ _).drew.mono HB2.out.size))).mono ?_; rintro e w4 ⟨hb4, r, rfl, hr⟩; have Hr := Lib.hid hr; clear hr; have f1' : w4.cell? ⟨b, 3, none⟩ = some (.func (.func 176) #[] #[]) := (hb4.cell (p := ⟨b, 3, none⟩) (by have := HB2.out.size; simp; omega)).trans f1; have f2' : w4.cell? ⟨w.heap.size, 0, none⟩ = some (.string ⟨v.toArray⟩) := (hb4.cell (p := ⟨w.heap.size, 0, none⟩) (by simp; exact cell_lt f2)).trans f2))
  all_goals
    have hfin : Below w.heap.size w w4 := HB2.out.trans ((show Below w2.heap.size w2 w4 from ((Below.refl _ _).drew.trans hb4)).mono HB2.out.size)
    cases o with
    | none =>
      go_wp2_with fail
      go_ret2
      exact ⟨rfl, hfin⟩
    | some m =>
      obtain rfl := Hr.out m rfl
      go_wp2_with fail
      go_ret2
      exact ⟨rfl, hfin⟩

set_option maxRecDepth 100000 in
set_option maxHeartbeats 2000000 in
theorem normal_name (x : RowT) (b : Nat) (v : List UInt8) (w : World) (hw : Env w) (h : RowAt w b x) (hfl : x.2.2.1.length ≤ 2) (hv : v.length ≤ 1024) (ha : x.2.2.1.any (fun f => validL f v) = true) (hn : x.2.2.2 = NormFn.name) (o : Option (List UInt8)) (ho : o = nameN v) :
    Calls Tryz.prog 113 #[.pointer (some ⟨b, 0, none⟩), .string ⟨v.toArray⟩] w (NormalRet w o) := by
  have hlt := h.lt
  have h0 := h
  obtain ⟨fA, fN, fC, nF, n1, n2, h1, h2, h3⟩ := h
  have hA := h0.any (v := v) hfl hw rfl h2
  rw [ha] at hA
  rw [hn] at h3
  obtain ⟨rfl, rfl, rfl⟩ : nF = .func 175 ∧ n1 = #[] ∧ n2 = #[] := by have h3' : Value.func nF n1 n2 = .func (.func 175) #[] #[] := h3; cases h3'; exact ⟨rfl, rfl, rfl⟩
  have hbw := (Below.refl w.heap.size w).alloc (Nat.le_refl _) (.cells #[.string ⟨v.toArray⟩] 9)
  have kV := Bk.new w 9 #[.string ⟨v.toArray⟩]
  have HC : Hid (∀ W, Below w.heap.size w W → Calls Tryz.prog 175 #[.string ⟨v.toArray⟩] W (NormRet W o)) := Lib.hid fun W hW => by rw [ho]; exact name_c v W (hw.keep hW)
  have hcell : (w.alloc (.cells #[.string ⟨v.toArray⟩] 9)).cell? ⟨b, 2, none⟩ = some (.slice fA fN fC) := (World.cell?_alloc_lt _ _ _ hlt).trans (by simp [World.cell?, h1])
  have hcell3 : (w.alloc (.cells #[.string ⟨v.toArray⟩] 9)).cell? ⟨b, 3, none⟩ = some (.func (.func 175) #[] #[]) := (World.cell?_alloc_lt _ _ _ hlt).trans (by simp [World.cell?, h1])
  have hsz : (w.alloc (.cells #[.string ⟨v.toArray⟩] 9)).heap.size = w.heap.size + 1 := by simp
  have HSZ := Lib.hid hsz
  have HC3 := Lib.hid hcell3
  have HKV := Lib.hid kV
  have hmf := mkFunc
  have HO := Lib.hid ho
  clear h0 h1 h2 h3 ha hn ho hsz hcell3 kV
  go_enter Tryz.func113, Tryz.ntmps113
  go_wp2_with (go_at_call 56; refine hA.mono ?_; rintro e w2 ⟨rfl, hb2⟩)
  have f1 : w2.cell? ⟨b, 3, none⟩ = some (.func (.func 175) #[] #[]) := (hb2.cell (p := ⟨b, 3, none⟩) (by have := HSZ.out; simp; omega)).trans HC3.out
  have f2 : w2.cell? ⟨w.heap.size, 0, none⟩ = some (.string ⟨v.toArray⟩) := (HKV.out.below hb2).cell 0
  have hB2 : Below w.heap.size w w2 := hbw.trans (hb2.mono (by have := HSZ.out; omega))
  have HB2 := Lib.hid hB2
  clear hA hcell hb2 hB2 hmf
  go_region_held3 (fun w' => w'.cell? ⟨b, 3, none⟩ = some (.func (.func 175) #[] #[]) ∧ w'.cell? ⟨w.heap.size, 0, none⟩ = some (.string ⟨v.toArray⟩)) (first | exact ⟨f1, f2⟩ | exact ⟨f1', f2'⟩) (first | (go_at_call 175; refine (HC.out _ (HB2.out.trans ((Below.refl _ _).drew.mono HB2.out.size))).mono ?_; rintro e w4 ⟨hb4, r, rfl, hr⟩; have Hr := Lib.hid hr; clear hr; have f1' : w4.cell? ⟨b, 3, none⟩ = some (.func (.func 175) #[] #[]) := (hb4.cell (p := ⟨b, 3, none⟩) (by have := HB2.out.size; simp; omega)).trans f1; have f2' : w4.cell? ⟨w.heap.size, 0, none⟩ = some (.string ⟨v.toArray⟩) := (hb4.cell (p := ⟨w.heap.size, 0, none⟩) (by simp; exact cell_lt f2)).trans f2))
  all_goals
    have hfin : Below w.heap.size w w4 := HB2.out.trans ((show Below w2.heap.size w2 w4 from ((Below.refl _ _).drew.trans hb4)).mono HB2.out.size)
    cases o with
    | none =>
      go_wp2_with fail
      go_ret2
      exact ⟨rfl, hfin⟩
    | some m =>
      obtain rfl := Hr.out m rfl
      go_wp2_with fail
      go_ret2
      exact ⟨rfl, hfin⟩

set_option maxRecDepth 100000 in
set_option maxHeartbeats 2000000 in
theorem normal_text (x : RowT) (b : Nat) (v : List UInt8) (w : World) (hw : Env w) (h : RowAt w b x) (hfl : x.2.2.1.length ≤ 2) (hv : v.length ≤ 1024) (ha : x.2.2.1.any (fun f => validL f v) = true) (fold : Bool) (hn : x.2.2.2 = NormFn.text fold) (o : Option (List UInt8)) (ho : o = prepL v fold) :
    Calls Tryz.prog 113 #[.pointer (some ⟨b, 0, none⟩), .string ⟨v.toArray⟩] w (NormalRet w o) := by
  have hlt := h.lt
  have h0 := h
  obtain ⟨fA, fN, fC, nF, n1, n2, h1, h2, h3⟩ := h
  have hA := h0.any (v := v) hfl hw rfl h2
  rw [ha] at hA
  rw [hn] at h3
  obtain ⟨a, hfa, hca⟩ := h3
  obtain ⟨rfl, rfl, rfl⟩ : nF = .func 199 ∧ n1 = #[] ∧ n2 = #[.pointer (some ⟨a, 0, none⟩)] := by cases hfa; exact ⟨rfl, rfl, rfl⟩
  have HCA := Lib.hid hca
  clear hca hfa
  have h3 := trivial
  have hbw := (Below.refl w.heap.size w).alloc (Nat.le_refl _) (.cells #[.string ⟨v.toArray⟩] 9)
  have kV := Bk.new w 9 #[.string ⟨v.toArray⟩]
  have HC : Hid (∀ W, Below w.heap.size w W → Calls Tryz.prog 199 #[.string ⟨v.toArray⟩, .pointer (some ⟨a, 0, none⟩)] W (NormRet W o)) := Lib.hid fun W hW => by rw [ho]; exact text1_c v fold a W (hw.keep hW) ((hW.cell (p := ⟨a, 0, none⟩) (cell_lt HCA.out)).trans HCA.out) hv
  have hcell : (w.alloc (.cells #[.string ⟨v.toArray⟩] 9)).cell? ⟨b, 2, none⟩ = some (.slice fA fN fC) := (World.cell?_alloc_lt _ _ _ hlt).trans (by simp [World.cell?, h1])
  have hcell3 : (w.alloc (.cells #[.string ⟨v.toArray⟩] 9)).cell? ⟨b, 3, none⟩ = some (.func (.func 199) #[] #[.pointer (some ⟨a, 0, none⟩)]) := (World.cell?_alloc_lt _ _ _ hlt).trans (by simp [World.cell?, h1])
  have hsz : (w.alloc (.cells #[.string ⟨v.toArray⟩] 9)).heap.size = w.heap.size + 1 := by simp
  have HSZ := Lib.hid hsz
  have HC3 := Lib.hid hcell3
  have HKV := Lib.hid kV
  have hmf := mkFunc
  have HO := Lib.hid ho
  clear h0 h1 h2 h3 ha hn ho hsz hcell3 kV
  go_enter Tryz.func113, Tryz.ntmps113
  go_wp2_with (go_at_call 56; refine hA.mono ?_; rintro e w2 ⟨rfl, hb2⟩)
  have f1 : w2.cell? ⟨b, 3, none⟩ = some (.func (.func 199) #[] #[.pointer (some ⟨a, 0, none⟩)]) := (hb2.cell (p := ⟨b, 3, none⟩) (by have := HSZ.out; simp; omega)).trans HC3.out
  have f2 : w2.cell? ⟨w.heap.size, 0, none⟩ = some (.string ⟨v.toArray⟩) := (HKV.out.below hb2).cell 0
  have hB2 : Below w.heap.size w w2 := hbw.trans (hb2.mono (by have := HSZ.out; omega))
  have HB2 := Lib.hid hB2
  clear hA hcell hb2 hB2 hmf
  go_region_held3 (fun w' => w'.cell? ⟨b, 3, none⟩ = some (.func (.func 199) #[] #[.pointer (some ⟨a, 0, none⟩)]) ∧ w'.cell? ⟨w.heap.size, 0, none⟩ = some (.string ⟨v.toArray⟩)) (first | exact ⟨f1, f2⟩ | exact ⟨f1', f2'⟩) (first | (go_at_call 199; refine (HC.out _ (HB2.out.trans ((Below.refl _ _).drew.mono HB2.out.size))).mono ?_; rintro e w4 ⟨hb4, r, rfl, hr⟩; have Hr := Lib.hid hr; clear hr; have f1' : w4.cell? ⟨b, 3, none⟩ = some (.func (.func 199) #[] #[.pointer (some ⟨a, 0, none⟩)]) := (hb4.cell (p := ⟨b, 3, none⟩) (by have := HB2.out.size; simp; omega)).trans f1; have f2' : w4.cell? ⟨w.heap.size, 0, none⟩ = some (.string ⟨v.toArray⟩) := (hb4.cell (p := ⟨w.heap.size, 0, none⟩) (by simp; exact cell_lt f2)).trans f2))
  all_goals
    have hfin : Below w.heap.size w w4 := HB2.out.trans ((show Below w2.heap.size w2 w4 from ((Below.refl _ _).drew.trans hb4)).mono HB2.out.size)
    cases o with
    | none =>
      go_wp2_with fail
      go_ret2
      exact ⟨rfl, hfin⟩
    | some m =>
      obtain rfl := Hr.out m rfl
      go_wp2_with fail
      go_ret2
      exact ⟨rfl, hfin⟩

theorem normal_c (x : RowT) (b : Nat) (v : List UInt8) (w : World) (hw : Env w) (h : RowAt w b x) (hfl : x.2.2.1.length ≤ 2) :
    Calls Tryz.prog 113 #[.pointer (some ⟨b, 0, none⟩), .string ⟨v.toArray⟩] w (NormalRet w (normS x v)) := by
  unfold normS
  by_cases hv : v.length ≤ 1024
  · cases ha : x.2.2.1.any (fun f => validL f v)
    · simp only [Bool.and_false, Bool.false_eq_true, if_false]
      exact normal_none x b v w hw h hfl hv ha
    · simp only [decide_eq_true hv, Bool.and_true, if_true]
      cases hn : x.2.2.2 with
      | self => exact normal_self x b v w hw h hfl hv ha hn _ rfl
      | text fold => exact normal_text x b v w hw h hfl hv ha fold hn _ rfl
      | name => exact normal_name x b v w hw h hfl hv ha hn _ rfl
      | oid => exact normal_oid x b v w hw h hfl hv ha hn _ rfl
  · simp only [decide_eq_false hv, Bool.false_and, Bool.false_eq_true, if_false]
    exact normal_long x b v w h hv
end Go.Proofs.YtcjobpcbppcdnaaGreatDoor
/- Contracts: Norm, both, Same, Order. -/
namespace Go.Proofs.YtcjobpcbppcdnaaGreatDoor
open Go.RowKit Go.Sort

theorem findT_mem {n : List UInt8} {k : Int} {x : RowT} : ∀ {T : List RowT}, findT n k T = some x → x ∈ T
  | [], h => by cases h
  | y :: T, h => by
    rw [findT] at h
    split at h
    · cases h; simp
    · simp [findT_mem h]
theorem ruleT_mem {n : List UInt8} {x : RowT} (h : ruleT n = some x) : x ∈ tab := by
  unfold ruleT at h
  rw [Option.or_eq_some_iff] at h
  rcases h with h | ⟨_, h⟩
  · exact findT_mem h
  · rw [Option.or_eq_some_iff] at h
    rcases h with h | ⟨_, h⟩
    · exact findT_mem h
    · exact findT_mem h
theorem askT_mem {n : List UInt8} {k : Int} {x : RowT} (h : askT n k = some x) : x ∈ tab := ruleT_mem (Option.filter_eq_some_iff.1 h).1
theorem tab_forms : ∀ x ∈ tab, x.2.2.1.length ≤ 2 := by decide
theorem askT_forms {n : List UInt8} {k : Int} {x : RowT} (h : askT n k = some x) : x.2.2.1.length ≤ 2 := tab_forms x (askT_mem h)

/-- syntax.Norm -/
def normV (rule v : List UInt8) : Value := match askT (smallL rule) 0 with
  | none => .tuple #[.string ⟨#[]⟩, .int .i64 41]
  | some x => strOr 40 (normS x v)
set_option maxRecDepth 100000 in
set_option maxHeartbeats 1000000 in
theorem Norm_c (rule v : List UInt8) (w : World) (hw : Env w) (hl : rule.length ≤ 140737488351232) :
    Calls Tryz.prog 67 #[.string ⟨rule.toArray⟩, .string ⟨v.toArray⟩] w fun e w' => e = .returned (normV rule v) ∧ Below w.heap.size w w' := by
  have hc := asked_c rule 0 w hl
  cases ha : askT (smallL rule) 0 with
  | none =>
    rw [ha] at hc
    rw [show normV rule v = .tuple #[.string ⟨#[]⟩, .int .i64 41] by unfold normV; rw [ha]]
    clear ha
    go_enter Tryz.func67, Tryz.ntmps67
    go_wp2_with (go_at_call 112; refine hc.mono ?_; rintro e w1 ⟨hb, rfl⟩)
    go_ret2
    exact ⟨rfl, hb⟩
  | some x =>
    have hfl := askT_forms ha
    rw [ha] at hc
    have HN := Lib.hid (fun b W (hW : Env W) hR => normal_c x b v W hW hR hfl)
    rw [show normV rule v = strOr 40 (normS x v) by unfold normV; rw [ha]]
    clear ha
    generalize normS x v = o at *
    cases o
    · simp only [strOr]
      go_enter Tryz.func67, Tryz.ntmps67
      go_wp2_with (first | (go_at_call 112; refine hc.mono ?_; rintro e w1 ⟨hb, b, rfl, hbb, hrow⟩) | (go_at_call 113; refine (HN.out _ _ (hw.keep hb) hrow).mono ?_; rintro e w2 ⟨rfl, hb2⟩; simp only [strOr]))
      go_ret2
      exact ⟨rfl, hb.trans (hb2.mono hb.size)⟩
    · simp only [strOr]
      go_enter Tryz.func67, Tryz.ntmps67
      go_wp2_with (first | (go_at_call 112; refine hc.mono ?_; rintro e w1 ⟨hb, b, rfl, hbb, hrow⟩) | (go_at_call 113; refine (HN.out _ _ (hw.keep hb) hrow).mono ?_; rintro e w2 ⟨rfl, hb2⟩; simp only [strOr]))
      go_ret2
      exact ⟨rfl, hb.trans (hb2.mono hb.size)⟩
/-- Both normal forms. -/
def bothS (x : RowT) (a b : List UInt8) : Option (List UInt8 × List UInt8) := match normS x a, normS x b with
  | some p, some q => some (p, q)
  | _, _ => none
def bothV : Option (List UInt8 × List UInt8) → Value
  | none => .tuple #[.string ⟨#[]⟩, .string ⟨#[]⟩, .int .i64 40]
  | some (p, q) => .tuple #[.string ⟨p.toArray⟩, .string ⟨q.toArray⟩, .int .i64 0]
def sameQ : Option (List UInt8 × List UInt8) → Bool × Int
  | none => (false, 40)
  | some (p, q) => (p == q, 0)
/-- syntax.Same -/
def sameP (rule a b : List UInt8) : Bool × Int := match askT (smallL rule) 0 with
  | none => (false, 41)
  | some x => sameQ (bothS x a b)
def boolInt (r : Bool × Int) : Value := .tuple #[.bool r.1, .int .i64 r.2]
def nIntOrd : List UInt8 := [105, 110, 116, 101, 103, 101, 114, 79, 114, 100, 101, 114, 105, 110, 103, 77, 97, 116, 99, 104]
def orderQ (n : List UInt8) : Option (List UInt8 × List UInt8) → Int × Int
  | none => (0, 40)
  | some (p, q) => (if n = nIntOrd then intsL p q else cmpB p q, 0)
/-- syntax.Order -/
def orderP (rule a b : List UInt8) : Int × Int := match askT (smallL rule) 1 with
  | none => (0, 41)
  | some x => orderQ x.1 (bothS x a b)
def intInt (r : Int × Int) : Value := .tuple #[.int .i64 r.1, .int .i64 r.2]
end Go.Proofs.YtcjobpcbppcdnaaGreatDoor
/- Contracts: whether what counts of a definition fits together. -/
namespace Go.Proofs.YtcjobpcbppcdnaaGreatDoor
open Go.RowKit

theorem ruleT_forms {n : List UInt8} {x : List UInt8 × Int × List (List UInt8) × NormFn} (h : ruleT n = some x) : x.2.2.1.length ≤ 1000000 := by
  have h1 := ruleT_mem h
  have h2 : ∀ y ∈ tab, y.2.2.1.length ≤ 1000000 := by decide +kernel
  exact h2 x h1
set_option maxRecDepth 10000 in
set_option maxHeartbeats 1000000 in
theorem Fits_c (r f : List UInt8) (w : World) (hr : r.length ≤ 1000000) :
    Calls Tryz.prog 61 #[.string ⟨r.toArray⟩, .string ⟨f.toArray⟩] w fun e w' => e = .returned (.bool (fitsRule r f)) ∧ Below w.heap.size w w' := by
  have hc := rule_c r w (by omega)
  unfold fitsRule
  cases hq : ruleT (smallL r) with
  | none =>
    rw [hq] at hc
    go_enter Tryz.func61, Tryz.ntmps61
    go_wp2_with (go_at_call 101; refine hc.mono ?_; rintro e w1 ⟨hb, rfl⟩)
    all_goals
      go_ret
      exact ⟨rfl, hb⟩
  | some x =>
    rw [hq] at hc
    have hlen := ruleT_forms hq
    have HL := Lib.hid hlen
    clear hq hlen
    go_enter Tryz.func61, Tryz.ntmps61
    go_wp2_with (first | (go_at_call 101; refine hc.mono ?_; rintro e w1 ⟨hb, b, rfl, hbb, hrow⟩; obtain ⟨fA, fN, fC, nF, n1, n2, h1, h2, h3⟩ := id hrow; have hcell : w1.cell? ⟨b, 2, none⟩ = some (.slice fA fN fC) := by simp [World.cell?, h1]) | (go_at_call 47; refine (ContainsS_c f x.2.2.1 _ _ h2 HL.out).mono ?_; rintro e w2 ⟨rfl, rfl⟩))
    all_goals
      go_ret
      exact ⟨retb (by simp), hb⟩
/-- The kinds of a class and of one above it do not go together. -/
def against (L : List DefS) (d : DefS) (n : List UInt8) : Bool := match findD L true n with
  | none => false
  | some j => match L[j]? with
    | none => false
    | some u => u.kind != 0 && u.kind != d.kind
set_option maxRecDepth 100000 in
set_option maxHeartbeats 1000000 in
theorem fits1_c (bs bd s i : Nat) (ps : List Nat) (L : List DefS) (d : DefS) (n : List UInt8) (w : World) (hS : SchAt w s ps L) (hd : L[i]? = some d) (h1 : w.cell? ⟨bs, 0, none⟩ = some (ptrV s)) (h2 : w.cell? ⟨bd, 0, none⟩ = some (ptrV (pAt ps i))) (hn : n.length ≤ 1000000) (hf : (findD L true n).isSome = true) :
    Calls Tryz.prog 60 #[.string ⟨n.toArray⟩, ptrV bs, ptrV bd] w fun e w' => e = .returned (.bool (against L d n)) ∧ Below w.heap.size w w' := by
  obtain ⟨j, hj⟩ := Option.isSome_iff_exists.1 hf
  have hjl := findD_lt hj
  have hu : L[j]? = some L[j] := List.getElem?_eq_getElem hjl
  have HF := find_c s ps L true n w hS hn
  rw [hj] at HF
  have HF2 : Hid (Calls Tryz.prog 29 #[.pointer (some ⟨s, 0, none⟩), .bool true, .string ⟨n.toArray⟩] w fun e w' => e = .returned (.pointer (some ⟨pAt ps j, 0, none⟩)) ∧ Below w.heap.size w w') := Lib.hid HF
  obtain ⟨_, _, _, _, hB⟩ := (hS.defAt hd).bk
  obtain ⟨_, _, _, _, hBu⟩ := (hS.defAt hu).bk
  have c13 : w.cell? ⟨pAt ps i, 13, none⟩ = some (.int .i64 d.kind) := hB.cell 13
  have cu13 : w.cell? ⟨pAt ps j, 13, none⟩ = some (.int .i64 L[j].kind) := hBu.cell 13
  have h1' : w.cell? ⟨bs, 0, none⟩ = some (.pointer (some ⟨s, 0, none⟩)) := h1
  have h2' : w.cell? ⟨bd, 0, none⟩ = some (.pointer (some ⟨pAt ps i, 0, none⟩)) := h2
  have HK := Lib.hid (fun (W : World) (hb : Below w.heap.size w W) => (⟨(hb.cell (p := ⟨bd, 0, none⟩) (cell_lt h2)).trans h2', (hb.cell (p := ⟨pAt ps i, 13, none⟩) (cell_lt c13)).trans c13, (hb.cell (p := ⟨pAt ps j, 13, none⟩) (cell_lt cu13)).trans cu13⟩ : W.cell? ⟨bd, 0, none⟩ = some (.pointer (some ⟨pAt ps i, 0, none⟩)) ∧ W.cell? ⟨pAt ps i, 13, none⟩ = some (.int .i64 d.kind) ∧ W.cell? ⟨pAt ps j, 13, none⟩ = some (.int .i64 L[j].kind)))
  have hag : against L d n = (L[j].kind != 0 && L[j].kind != d.kind) := by unfold against; rw [hj]; simp only; rw [hu]
  rw [hag]
  clear HF hS hd h1 h2 hj hu hag hB hBu c13 cu13 h2'
  generalize L[j].kind = ku at HK ⊢
  generalize d.kind = kd at HK ⊢
  unfold ptrV
  by_cases hz : ku = 0
  · have z1 : (ku != 0) = false := by rw [hz]; rfl
    rw [z1, Bool.false_and]
    go_enter Tryz.func60, Tryz.ntmps60
    go_wp2_with (go_at_call 29; refine HF2.out.mono ?_; rintro e w1 ⟨rfl, hb⟩; have k1 := (HK.out _ hb).1; have k2 := (HK.out _ hb).2.1; have k3 := (HK.out _ hb).2.2)
    all_goals
      go_ret
      exact ⟨rfl, hb⟩
  · have z1 : (ku != 0) = true := by rw [bne_iff_ne]; exact hz
    rw [z1, Bool.true_and]
    go_enter Tryz.func60, Tryz.ntmps60
    go_wp2_with (go_at_call 29; refine HF2.out.mono ?_; rintro e w1 ⟨rfl, hb⟩; have k1 := (HK.out _ hb).1; have k2 := (HK.out _ hb).2.1; have k3 := (HK.out _ hb).2.2)
    all_goals
      go_ret
      exact ⟨rfl, hb⟩
theorem fitsAll_c (bs bd s i : Nat) (ps : List Nat) (L : List DefS) (d : DefS) (xs : List (List UInt8)) (v : Value) (w : World) (hv : Texts w v xs) (hS : SchAt w s ps L) (hd : L[i]? = some d) (h1 : w.cell? ⟨bs, 0, none⟩ = some (ptrV s)) (h2 : w.cell? ⟨bd, 0, none⟩ = some (ptrV (pAt ps i))) (hx : xs.length ≤ 1000000 ∧ ∀ x ∈ xs, x.length ≤ 1000000) (hf : ∀ x ∈ xs, (findD L true x).isSome = true) :
    Calls Tryz.prog 56 #[v, .func (.func 60) #[] #[ptrV bs, ptrV bd]] w fun e w' => e = .returned (.bool (xs.any (against L d))) ∧ Below w.heap.size w w' :=
  ContainsFuncS_c 60 #[ptrV bs, ptrV bd] xs v w hv hx.1 (against L d)
    ⟨fun x hxx W hb => fits1_c bs bd s i ps L d x W (hS.below hb) hd ((hb.cell (p := ⟨bs, 0, none⟩) (cell_lt h1)).trans h1) ((hb.cell (p := ⟨bd, 0, none⟩) (cell_lt h2)).trans h2) (hx.2 x hxx) (hf x hxx), fun _ _ => by kernel_rfl⟩
/-- The words of rules that a definition bears are short. -/
structure RuleLim (d : DefS) : Prop where
  eqr : d.eqr.length ≤ 1000000
  ordr : d.ordr.length ≤ 1000000
  subs : d.subs.length ≤ 1000000
theorem orL_len {a b : List UInt8} {n : Nat} (ha : a.length ≤ n) (hb : b.length ≤ n) : (orL a b).length ≤ n := by
  unfold orL; split
  · exact hb
  · exact ha
theorem countsF_lim {L : List DefS} (hr : ∀ d ∈ L, RuleLim d) : ∀ (n i : Nat) (a : AttrS), countsF L n i = some a → a.eqr.length ≤ 1000000 ∧ a.ordr.length ≤ 1000000 ∧ a.subs.length ≤ 1000000
  | 0, _, _, h => by rw [countsF] at h; cases h
  | n + 1, i, a, h => by
    rw [countsF] at h
    cases hx : L[i]? with
    | none => rw [hx] at h; cases h
    | some d =>
      rw [hx] at h
      simp only at h
      have hd := hr d (List.mem_of_getElem? hx)
      cases hs : d.sup with
      | nil =>
        rw [hs] at h
        simp only at h
        cases h
        exact ⟨hd.eqr, hd.ordr, hd.subs⟩
      | cons s tl =>
        rw [hs] at h
        simp only at h
        cases hf : findD L false s with
        | none => rw [hf] at h; cases h
        | some j =>
          rw [hf] at h
          simp only at h
          rw [Option.map_eq_some_iff] at h
          obtain ⟨up, hu, rfl⟩ := h
          have hi := countsF_lim hr n j up hu
          exact ⟨orL_len hd.eqr hi.1, orL_len hd.ordr hi.2.1, orL_len hd.subs hi.2.2⟩
/-- The three words of rules. -/
def rulesA (a : AttrS) (k : Nat) : List UInt8 := if k = 0 then a.eqr else if k = 1 then a.ordr else a.subs
def ruleFits (a : AttrS) (k : Nat) : Bool := rulesA a k == [] || fitsRule (rulesA a k) a.form
theorem fits_more {a : AttrS} {k : Nat} (h : ∀ j, j < k → ruleFits a j = true) (hk : ruleFits a k = true) : ∀ j, j < k + 1 → ruleFits a j = true := by
  intro j hj
  rcases Nat.lt_or_ge j k with h1 | h1
  · exact h j h1
  · obtain rfl : j = k := by omega
    exact hk
set_option maxRecDepth 100000 in
set_option maxHeartbeats 4000000 in
theorem fits_c (s i : Nat) (ps : List Nat) (L : List DefS) (d : DefS) (w : World) (hS : SchAt w s ps L) (hlim : ∀ d ∈ L, DefLim d) (hrl : ∀ d ∈ L, RuleLim d) (hd : L[i]? = some d) (hk : d.cls = true → ∀ n ∈ d.sup, (findD L true n).isSome = true) (ha : d.cls = false → (countsD L i).isSome = true) :
    Calls Tryz.prog 27 #[ptrV s, ptrV (pAt ps i)] w fun e w' => e = .returned (.bool (fitsD L d i)) ∧ Below w.heap.size w w' := by
  have hmf : ∀ (fn : Fn) (first cap : Array Value) (w : World), (Instr.makeFunc fn first cap).run Tryz.prog w = .ok (.func fn first cap) w := fun _ _ _ _ => rfl
  have hl := hlim d (List.mem_of_getElem? hd)
  have hb0 : Below w.heap.size w ((w.alloc (.cells #[.pointer (some ⟨s, 0, none⟩)] 27)).alloc (.cells #[.pointer (some ⟨pAt ps i, 0, none⟩)] 55)) := ((Below.refl _ _).alloc (Nat.le_refl _) _).alloc (by simp) _
  have k1 := (Bk.new w 27 #[.pointer (some ⟨s, 0, none⟩)]).alloc (.cells #[.pointer (some ⟨pAt ps i, 0, none⟩)] 55)
  have k2 := Bk.new (w.alloc (.cells #[.pointer (some ⟨s, 0, none⟩)] 27)) 55 #[.pointer (some ⟨pAt ps i, 0, none⟩)]
  rw [World.size_alloc] at k2
  obtain ⟨vn, vs, vm, vy, hB, _, hT, _⟩ := (hS.below hb0).defAt hd
  have b1 : ((w.alloc (.cells #[.pointer (some ⟨s, 0, none⟩)] 27)).alloc (.cells #[.pointer (some ⟨pAt ps i, 0, none⟩)] 55)).cell? ⟨w.heap.size, 0, none⟩ = some (.pointer (some ⟨s, 0, none⟩)) := k1.cell 0
  have b2 : ((w.alloc (.cells #[.pointer (some ⟨s, 0, none⟩)] 27)).alloc (.cells #[.pointer (some ⟨pAt ps i, 0, none⟩)] 55)).cell? ⟨w.heap.size + 1, 0, none⟩ = some (.pointer (some ⟨pAt ps i, 0, none⟩)) := k2.cell 0
  have c0 : ((w.alloc (.cells #[.pointer (some ⟨s, 0, none⟩)] 27)).alloc (.cells #[.pointer (some ⟨pAt ps i, 0, none⟩)] 55)).cell? ⟨pAt ps i, 0, none⟩ = some (.bool d.cls) := hB.cell 0
  have c3 : ((w.alloc (.cells #[.pointer (some ⟨s, 0, none⟩)] 27)).alloc (.cells #[.pointer (some ⟨pAt ps i, 0, none⟩)] 55)).cell? ⟨pAt ps i, 3, none⟩ = some vs := hB.cell 3
  cases hc : d.cls with
  | true =>
    have hv : fitsD L d i = !d.sup.any (against L d) := by unfold fitsD; rw [hc, if_pos rfl]; rfl
    rw [hv]
    have HC := Lib.hid (fitsAll_c w.heap.size (w.heap.size + 1) s i ps L d d.sup vs _ hT (hS.below hb0) hd b1 b2 hl.sup (hk hc))
    obtain ⟨A, n, c, rfl⟩ := hT.isSlice
    rw [hc] at c0
    generalize d.sup.any (against L d) = q at HC ⊢
    have HB0 := Lib.hid hb0
    clear hS hd k1 k2 hB hT hv ha hk hb0
    unfold ptrV at HC ⊢
    go_enter Tryz.func27, Tryz.ntmps27
    go_wp2_with (go_at_call 56; refine HC.out.mono ?_; rintro e w1 ⟨rfl, hb⟩)
    all_goals
      go_ret
      exact ⟨rfl, HB0.out.trans (hb.mono HB0.out.size)⟩
  | false =>
    obtain ⟨a, hca⟩ := Option.isSome_iff_exists.1 (ha hc)
    have hlen := countsF_lim hrl _ _ _ hca
    have hv : fitsD L d i = (ruleFits a 0 && (ruleFits a 1 && ruleFits a 2) && !(a.form == [])) := by
      unfold fitsD
      rw [hc, if_neg (by simp), hca]
      simp only [List.all_cons, List.all_nil, Bool.and_true]
      rfl
    rw [hv]
    have HC0 := counts_c s ps L hlim (L.length + 1) i a _ (hS.below hb0) hca
    have HC : Hid (Calls Tryz.prog 30 #[.pointer (some ⟨s, 0, none⟩), .pointer (some ⟨pAt ps i, 0, none⟩)] ((w.alloc (.cells #[.pointer (some ⟨s, 0, none⟩)] 27)).alloc (.cells #[.pointer (some ⟨pAt ps i, 0, none⟩)] 55)) fun e w' => ∃ A n c, e = .returned (attrV a (.slice A n c)) ∧ Below w.heap.size w w') := Lib.hid (HC0.mono (by
      rintro e w' ⟨h1, nv, rfl, h2⟩
      obtain ⟨A, c, rfl, _⟩ := h2.isSlice
      exact ⟨A, _, c, rfl, hb0.trans (h1.mono hb0.size)⟩))
    rw [hc] at c0
    have HLEN : Hid (∀ k, (rulesA a k).length ≤ 1000000) := Lib.hid fun k => by
      unfold rulesA
      split
      · exact hlen.1
      · split
        · exact hlen.2.1
        · exact hlen.2.2
    clear hS hd k1 k2 hB hT hv ha hk hb0 HC0 hca hlen hl
    unfold ptrV
    go_enter Tryz.func27, Tryz.ntmps27
    go_wp2_with (go_at_call 30; refine HC.out.mono ?_; unfold attrV attrCells; rintro e w1 ⟨A, n, c, rfl, hb⟩)
    have hbk := Bk.new w1 36 (attrCells a (.slice A n c))
    have f4 := hbk.cell 4
    have hbn : Below w.heap.size w (w1.alloc (.cells (attrCells a (.slice A n c)) 36)) := hb.alloc hb.size _
    unfold attrCells at hbk f4 hbn
    simp only [List.getElem?_toArray, List.getElem?_cons_zero, List.getElem?_cons_succ] at f4
    have HB := Lib.hid hbn
    have HF4 := Lib.hid f4
    have hsz : w1.heap.size < (w1.alloc (.cells (attrCells a (.slice A n c)) 36)).heap.size := by rw [World.size_alloc]; omega
    unfold attrCells at hsz
    clear hbk f4 hbn hb
    generalize w1.heap.size = g at HF4 hsz ⊢
    generalize (w1.alloc _) = wL at HF4 HB hsz ⊢
    go_loopg [29] 3 (fun gk i2 wr => ∃ k : Nat, k ≤ 3 ∧ i2 = .int .i64 k ∧ Aside (k + gk = 3) ∧ Below wL.heap.size wL wr ∧ Aside (∀ j, j < k → ruleFits a j = true))
    case atStart => exact ⟨0, by omega, rfl, rfl, Below.refl _ _, fun j hj => absurd hj (by omega)⟩
    case round =>
      obtain ⟨k, hk, rfl, AG, hB, AS⟩ := hrel
      have f4 : wr.cell? ⟨g, 4, none⟩ = some (.string ⟨a.form.toArray⟩) := (hB.cell (p := ⟨g, 4, none⟩) hsz).trans HF4.out
      by_cases hlt : k < 3
      · obtain ⟨q, rfl⟩ : ∃ q, gk = q + 1 := ⟨gk - 1, by have := AG.out; omega⟩
        rcases (show k = 0 ∨ k = 1 ∨ k = 2 by omega) with rfl | rfl | rfl
        · obtain ⟨x, hq⟩ : ∃ x, a.eqr = x := ⟨_, rfl⟩
          have hx : ∀ W : World, (Instr.index 103 (.agg #[.string ⟨a.eqr.toArray⟩, .string ⟨a.ordr.toArray⟩, .string ⟨a.subs.toArray⟩]) (.int .i64 0)).run Tryz.prog W = .ok (.string ⟨x.toArray⟩) W := by
            rw [← hq]
            intro W
            kernel_rfl
          rcases x with _ | ⟨x0, xt⟩
          · have hr : ruleFits a 0 = true := by
              show (a.eqr == [] || _) = true
              rw [hq]; rfl
            have HR := Lib.hid hr
            clear hr hq
            go_wp2_with fail
            go_roundg q
            case measure => omega
            case rel => exact ⟨0 + 1, by omega, by go_num, by have := AG.out; show _ = _; omega, hB, fits_more AS.out HR.out⟩
          · have hC := Fits_c (x0 :: xt) a.form wr (by rw [← hq]; exact HLEN.out 0)
            have hr : ruleFits a 0 = fitsRule (x0 :: xt) a.form := by
              show (a.eqr == [] || fitsRule a.eqr a.form) = _
              rw [hq]; rfl
            have HR := Lib.hid hr
            have HC2 := Lib.hid hC
            clear hr hq hC
            cases hz : fitsRule (x0 :: xt) a.form
            all_goals
              rw [hz] at HR HC2
              clear hz
            · go_wp2_with (go_at_call 61; refine HC2.out.mono ?_; rintro e w2 ⟨rfl, hb2⟩)
              all_goals
                go_ret
                exact ⟨retb (by rw [HR.out]; simp), HB.out.trans ((hB.trans (hb2.mono hB.size)).mono HB.out.size)⟩
            · go_wp2_with (go_at_call 61; refine HC2.out.mono ?_; rintro e w2 ⟨rfl, hb2⟩)
              go_roundg q
              case measure => omega
              case rel => exact ⟨0 + 1, by omega, by go_num, by have := AG.out; show _ = _; omega, hB.trans (hb2.mono hB.size), fits_more AS.out HR.out⟩
        · obtain ⟨x, hq⟩ : ∃ x, a.ordr = x := ⟨_, rfl⟩
          have hx : ∀ W : World, (Instr.index 103 (.agg #[.string ⟨a.eqr.toArray⟩, .string ⟨a.ordr.toArray⟩, .string ⟨a.subs.toArray⟩]) (.int .i64 1)).run Tryz.prog W = .ok (.string ⟨x.toArray⟩) W := by
            rw [← hq]
            intro W
            kernel_rfl
          rcases x with _ | ⟨x0, xt⟩
          · have hr : ruleFits a 1 = true := by
              show (a.ordr == [] || _) = true
              rw [hq]; rfl
            have HR := Lib.hid hr
            clear hr hq
            go_wp2_with fail
            go_roundg q
            case measure => omega
            case rel => exact ⟨1 + 1, by omega, by go_num, by have := AG.out; show _ = _; omega, hB, fits_more AS.out HR.out⟩
          · have hC := Fits_c (x0 :: xt) a.form wr (by rw [← hq]; exact HLEN.out 1)
            have hr : ruleFits a 1 = fitsRule (x0 :: xt) a.form := by
              show (a.ordr == [] || fitsRule a.ordr a.form) = _
              rw [hq]; rfl
            have HR := Lib.hid hr
            have HC2 := Lib.hid hC
            clear hr hq hC
            cases hz : fitsRule (x0 :: xt) a.form
            all_goals
              rw [hz] at HR HC2
              clear hz
            · go_wp2_with (go_at_call 61; refine HC2.out.mono ?_; rintro e w2 ⟨rfl, hb2⟩)
              all_goals
                go_ret
                exact ⟨retb (by rw [HR.out]; simp), HB.out.trans ((hB.trans (hb2.mono hB.size)).mono HB.out.size)⟩
            · go_wp2_with (go_at_call 61; refine HC2.out.mono ?_; rintro e w2 ⟨rfl, hb2⟩)
              go_roundg q
              case measure => omega
              case rel => exact ⟨1 + 1, by omega, by go_num, by have := AG.out; show _ = _; omega, hB.trans (hb2.mono hB.size), fits_more AS.out HR.out⟩
        · obtain ⟨x, hq⟩ : ∃ x, a.subs = x := ⟨_, rfl⟩
          have hx : ∀ W : World, (Instr.index 103 (.agg #[.string ⟨a.eqr.toArray⟩, .string ⟨a.ordr.toArray⟩, .string ⟨a.subs.toArray⟩]) (.int .i64 2)).run Tryz.prog W = .ok (.string ⟨x.toArray⟩) W := by
            rw [← hq]
            intro W
            kernel_rfl
          rcases x with _ | ⟨x0, xt⟩
          · have hr : ruleFits a 2 = true := by
              show (a.subs == [] || _) = true
              rw [hq]; rfl
            have HR := Lib.hid hr
            clear hr hq
            go_wp2_with fail
            go_roundg q
            case measure => omega
            case rel => exact ⟨2 + 1, by omega, by go_num, by have := AG.out; show _ = _; omega, hB, fits_more AS.out HR.out⟩
          · have hC := Fits_c (x0 :: xt) a.form wr (by rw [← hq]; exact HLEN.out 2)
            have hr : ruleFits a 2 = fitsRule (x0 :: xt) a.form := by
              show (a.subs == [] || fitsRule a.subs a.form) = _
              rw [hq]; rfl
            have HR := Lib.hid hr
            have HC2 := Lib.hid hC
            clear hr hq hC
            cases hz : fitsRule (x0 :: xt) a.form
            all_goals
              rw [hz] at HR HC2
              clear hz
            · go_wp2_with (go_at_call 61; refine HC2.out.mono ?_; rintro e w2 ⟨rfl, hb2⟩)
              all_goals
                go_ret
                exact ⟨retb (by rw [HR.out]; simp), HB.out.trans ((hB.trans (hb2.mono hB.size)).mono HB.out.size)⟩
            · go_wp2_with (go_at_call 61; refine HC2.out.mono ?_; rintro e w2 ⟨rfl, hb2⟩)
              go_roundg q
              case measure => omega
              case rel => exact ⟨2 + 1, by omega, by go_num, by have := AG.out; show _ = _; omega, hB.trans (hb2.mono hB.size), fits_more AS.out HR.out⟩
      · obtain rfl : k = 3 := by omega
        go_wp2_with fail
        go_ret
        exact ⟨retb (by rw [AS.out 0 (by omega), AS.out 1 (by omega), AS.out 2 (by omega)]; simp), HB.out.trans (hB.mono HB.out.size)⟩
end Go.Proofs.YtcjobpcbppcdnaaGreatDoor
/- Plain: a definition that has been read is not beyond what a machine holds. -/
namespace Go.Proofs.YtcjobpcbppcdnaaGreatDoor
open Go.RowKit

def LimL (xs : List (List UInt8)) : Prop := xs.length ≤ 1000000 ∧ ∀ x ∈ xs, x.length ≤ 1000000
theorem LimL.snoc {acc : List (List UInt8)} {s : List UInt8} (ha : ∀ x ∈ acc, x.length ≤ 1000000) (hs : s.length ≤ 1000000) : ∀ x ∈ acc ++ [s], x.length ≤ 1000000 := by
  intro x hx
  rcases List.mem_append.1 hx with h | h
  · exact ha x h
  · rw [List.mem_singleton.1 h]; exact hs
theorem listF_lim {sign : List UInt8} {one : List Wd → Option (List UInt8 × List Wd)} (hc : ∀ (l t : List Wd) (s : List UInt8), one l = some (s, t) → ∃ q, l = (s, q) :: t) {many : Bool} : ∀ (n : Nat) (l : List Wd) (acc : List (List UInt8)) (x : List (List UInt8) × List Wd), Shorts l → (∀ y ∈ acc, y.length ≤ 1000000) → acc.length + l.length ≤ 1000000 → listF sign one many n l acc = some x → LimL x.1
  | 0, l, acc, x, _, _, _, h => by rw [listF] at h; cases h
  | n + 1, l, acc, x, hs, ha, hl, h => by
    cases ho : one l with
    | none => rw [listF_none ho] at h; cases h
    | some y =>
      obtain ⟨s, t⟩ := y
      have h1 := one_short hc hs ho
      obtain ⟨q, hq⟩ := hc _ _ _ ho
      rw [listF_some ho] at h
      simp only at h1
      subst hq
      have hst := hs.tail
      have hn : (acc ++ [s]).length + t.length ≤ 1000000 := by simp at hl ⊢; omega
      have ha2 := LimL.snoc ha h1
      have hlim : LimL (acc ++ [s]) := ⟨by omega, ha2⟩
      split at h
      · split at h
        · cases h; exact hlim
        · split at h
          · cases h; exact hlim
          · split at h
            · exact listF_lim hc n _ _ _ hst ha2 hn h
            · split at h
              · exact listF_lim hc n _ _ _ (hst.suffix (List.tail_suffix _)) ha2 (by have := List.length_tail (l := t); omega) h
              · cases h
      · cases h
theorem rList_lim {sign : List UInt8} {one : List Wd → Option (List UInt8 × List Wd)} (hc : ∀ (l t : List Wd) (s : List UInt8), one l = some (s, t) → ∃ q, l = (s, q) :: t) {l : List Wd} (hs : Shorts l) (hl : l.length ≤ 1000000) {x : List (List UInt8) × List Wd} (h : rList sign one l = some x) : LimL x.1 := by
  unfold rList at h
  refine listF_lim hc _ _ _ _ ?_ (fun _ h => by cases h) ?_ h
  · split
    · exact hs.suffix (List.tail_suffix _)
    · exact hs
  · split
    · have := List.length_tail (l := l); simp; omega
    · simpa using hl
theorem ruleT_own {n : List UInt8} {x : List UInt8 × Int × List (List UInt8) × NormFn} (h : ruleT n = some x) : x.1.length ≤ 1000000 := by
  have h1 := ruleT_mem h
  have h2 : ∀ y ∈ tab, y.1.length ≤ 1000000 := by decide +kernel
  exact h2 x h1
theorem rRule_lim {k : Int} {l : List Wd} {x : List UInt8 × List Wd} (h : rRule k l = some x) : x.1.length ≤ 1000000 := by
  unfold rRule at h
  split at h
  · cases h
  · next s t hp =>
    split at h
    · cases h
    · next y hy =>
      split at h
      · cases h
        exact ruleT_own hy
      · cases h
theorem map_lim {α : Type} {o : Option (α × List Wd)} {F : α → DefS} {P : DefS → Prop} (hs : ∀ x, o = some x → P (F x.1)) {y : DefS × List Wd} (h : (o.map fun x => (F x.1, x.2)) = some y) : P y.1 := by
  cases o with
  | none => cases h
  | some x => cases h; exact hs x rfl
def BothLim (d : DefS) : Prop := DefLim d ∧ RuleLim d
theorem fieldL_lim {d : DefS} {f : List UInt8} {l : List Wd} {y : DefS × List Wd} (hd : BothLim d) (hs : Shorts l) (hl : l.length ≤ 1000000) (h : fieldL d f l = some y) : BothLim y.1 := by
  have hn : ∀ x, rName l = some x → x.1.length ≤ 1000000 := fun x hx => one_short (fun _ _ _ => rName_cons) hs hx
  have hln : ∀ x, rList [36] rName l = some x → LimL x.1 := fun x hx => rList_lim (fun _ _ _ => rName_cons) hs hl hx
  have hlq : ∀ x, rList [] rQuoted l = some x → LimL x.1 := fun x hx => rList_lim (fun _ _ _ => rQuoted_cons) hs hl hx
  obtain ⟨⟨d1, d2, d3, d4, d5⟩, ⟨r1, r2, r3⟩⟩ := id hd
  unfold fieldL at h
  split at h
  · unfold fieldC at h
    split at h
    · exact map_lim (F := fun a => { d with names := a }) (fun x hx => ⟨⟨d1, hlq x hx, d3, d4, d5⟩, ⟨r1, r2, r3⟩⟩) h
    split at h
    · exact map_lim (F := fun _ => d) (fun x hx => hd) h
    split at h
    · exact map_lim (F := fun a => { d with sup := a }) (fun x hx => ⟨⟨d1, d2, hln x hx, d4, d5⟩, ⟨r1, r2, r3⟩⟩) h
    split at h
    · exact map_lim (F := fun a => { d with must := a }) (fun x hx => ⟨⟨d1, d2, d3, hln x hx, d5⟩, ⟨r1, r2, r3⟩⟩) h
    split at h
    · exact map_lim (F := fun a => { d with may := a }) (fun x hx => ⟨⟨d1, d2, d3, d4, hln x hx⟩, ⟨r1, r2, r3⟩⟩) h
    · cases h
  · unfold fieldA at h
    by_cases g0 : f = wName
    · rw [if_pos g0] at h; exact map_lim (F := fun a => { d with names := a }) (fun x hx => ⟨⟨d1, hlq x hx, d3, d4, d5⟩, ⟨r1, r2, r3⟩⟩) h
    rw [if_neg g0] at h
    by_cases g1 : f = wDesc
    · rw [if_pos g1] at h; exact map_lim (F := fun _ => d) (fun x hx => hd) h
    rw [if_neg g1] at h
    by_cases g2 : f = wSup
    · rw [if_pos g2] at h; exact map_lim (F := fun a => { d with sup := [a] }) (fun x hx => ⟨⟨d1, d2, ⟨by show 1 ≤ _; omega, fun z hz => by rw [List.mem_singleton.1 hz]; exact hn x hx⟩, d4, d5⟩, ⟨r1, r2, r3⟩⟩) h
    rw [if_neg g2] at h
    by_cases g3 : f = wEquality
    · rw [if_pos g3] at h; exact map_lim (F := fun a => { d with eqr := a }) (fun x hx => ⟨⟨d1, d2, d3, d4, d5⟩, ⟨rRule_lim hx, r2, r3⟩⟩) h
    rw [if_neg g3] at h
    by_cases g4 : f = wOrdering
    · rw [if_pos g4] at h; exact map_lim (F := fun a => { d with ordr := a }) (fun x hx => ⟨⟨d1, d2, d3, d4, d5⟩, ⟨r1, rRule_lim hx, r3⟩⟩) h
    rw [if_neg g4] at h
    by_cases g5 : f = wSubstr
    · rw [if_pos g5] at h; exact map_lim (F := fun a => { d with subs := a }) (fun x hx => ⟨⟨d1, d2, d3, d4, d5⟩, ⟨r1, r2, rRule_lim hx⟩⟩) h
    rw [if_neg g5] at h
    by_cases g6 : f = wSyntax
    · rw [if_pos g6] at h
      cases hpp : rPlain l with
      | none => rw [hpp] at h; cases h
      | some x =>
        rw [hpp] at h
        simp only at h
        by_cases q : (formE x.1 == 0) = true
        · rw [if_pos q] at h; cases h; exact ⟨⟨d1, d2, d3, d4, d5⟩, ⟨r1, r2, r3⟩⟩
        · rw [if_neg q] at h; cases h
    rw [if_neg g6] at h
    by_cases g7 : f = wSingleValue
    · rw [if_pos g7] at h; cases h; exact ⟨⟨d1, d2, d3, d4, d5⟩, ⟨r1, r2, r3⟩⟩
    rw [if_neg g7] at h
    by_cases g8 : f = wNoUserModification
    · rw [if_pos g8] at h; cases h; exact ⟨⟨d1, d2, d3, d4, d5⟩, ⟨r1, r2, r3⟩⟩
    rw [if_neg g8] at h
    by_cases g9 : f = wUsage
    · rw [if_pos g9] at h
      cases hpp : rPlain l with
      | none => rw [hpp] at h; cases h
      | some x =>
        rw [hpp] at h
        simp only at h
        by_cases q : (x.1 == wDirectoryoperation || x.1 == wUserapplications) = true
        · rw [if_pos q] at h; cases h; exact ⟨⟨d1, d2, d3, d4, d5⟩, ⟨r1, r2, r3⟩⟩
        · rw [if_neg q] at h; cases h
    rw [if_neg g9] at h
    cases h
theorem readF_lim : ∀ (n : Nat) (d d' : DefS) (seen : List (List UInt8)) (l : List Wd), BothLim d → Shorts l → l.length ≤ 1000000 → readF n d seen l = some d' → BothLim d' ∧ d'.cls = d.cls
  | 0, _, _, _, _, _, _, _, h => by rw [readF] at h; cases h
  | n + 1, d, d', seen, l, hd, hs, hl, h => by
    rw [readF] at h
    split at h
    · split at h
      · cases h; exact ⟨hd, rfl⟩
      · cases h
    · split at h
      · cases h
      · next f t hp =>
        have ht : t <:+ l := one_suffix (one := rPlain) (fun _ _ _ => rPlain_cons) hp
        have hst := hs.suffix ht
        have htl : t.length ≤ 1000000 := Nat.le_trans ht.length_le hl
        split at h
        · split at h
          · cases h
          · have hk : BothLim { d with kind := kindL f } := by
              obtain ⟨⟨d1, d2, d3, d4, d5⟩, ⟨r1, r2, r3⟩⟩ := hd
              exact ⟨⟨d1, d2, d3, d4, d5⟩, ⟨r1, r2, r3⟩⟩
            have h4 := readF_lim n { d with kind := kindL f } d' _ t hk hst htl h
            exact ⟨h4.1, h4.2⟩
        · split at h
          · cases h
          · split at h
            · cases h
            · next d2 t2 hf =>
              have h2 := fieldL_suffix hf
              have h3 := fieldL_lim hd hst htl hf
              have h4 := readF_lim n d2 d' _ t2 h3 (hst.suffix h2.1) (Nat.le_trans h2.1.length_le htl) h
              exact ⟨h4.1, h4.2.trans h2.2⟩
theorem readL_lim {s : List UInt8} {cls : Bool} {d : DefS} (hs : s.length ≤ 1000000) (h : readL s cls = some d) : BothLim d ∧ d.cls = cls := by
  unfold readL at h
  split at h
  · cases h
  · next l hw =>
    have hb := wordsL_bound hw
    have hS : Shorts l := fun x hx => Nat.le_trans (hb.1 x hx) hs
    have hl : l.length ≤ 1000000 := Nat.le_trans hb.2 hs
    split at h
    · split at h
      · cases h
      · next oid t hp =>
        have hS2 := hS.suffix (List.tail_suffix l)
        have ht : t <:+ l.tail := one_suffix (one := rPlain) (fun _ _ _ => rPlain_cons) hp
        have ho := one_short (one := rPlain) (fun _ _ _ => rPlain_cons) hS2 hp
        have htl : t.length ≤ 1000000 := Nat.le_trans ht.length_le (Nat.le_trans (List.tail_suffix l).length_le hl)
        split at h
        · refine readF_lim _ _ d _ t ?_ (hS2.suffix ht) htl h
          have hz : ([] : List (List UInt8)).length ≤ 1000000 ∧ ∀ x ∈ ([] : List (List UInt8)), x.length ≤ 1000000 := ⟨by simp, fun _ h => by cases h⟩
          exact ⟨⟨ho, hz, hz, hz, hz⟩, ⟨by simp [DefS.new], by simp [DefS.new], by simp [DefS.new]⟩⟩
        · cases h
    · cases h
/-- All that readAll reads is held by a machine; a class only where classes stand. -/
theorem readAll_lim (na : Nat) : ∀ (ss : List (List UInt8)) (i : Nat) (L L' : List DefS), (∀ s ∈ ss, s.length ≤ 1000000) → (∀ d ∈ L, BothLim d) → readAll na i ss L = .inr L' → (∀ d ∈ L', BothLim d) ∧ L'.length = L.length + ss.length
  | [], i, L, L', _, hL, h => by rw [readAll] at h; cases h; exact ⟨hL, rfl⟩
  | s :: ss, i, L, L', hs, hL, h => by
    rw [readAll] at h
    split at h
    · cases h
    · next d hd =>
      split at h
      · have h1 := readAll_lim na ss (i + 1) (L ++ [d]) L' (fun x hx => hs x (List.mem_cons_of_mem _ hx)) (fun x hx => by
          rcases List.mem_append.1 hx with hx | hx
          · exact hL x hx
          · rw [List.mem_singleton.1 hx]; exact (readL_lim (hs s (List.mem_cons_self ..)) hd).1) h
        refine ⟨h1.1, ?_⟩
        rw [h1.2]
        simp
        omega
      · cases h
end Go.Proofs.YtcjobpcbppcdnaaGreatDoor
/- Contracts: New. -/
namespace Go.Proofs.YtcjobpcbppcdnaaGreatDoor
open Go.RowKit

theorem SchB.below {B : Nat} {w w' : World} {s m : Nat} {ps : List Nat} {L : List DefS} (h : SchB B w s m ps L) (hb : Below w.heap.size w w') : SchB B w' s m ps L := by
  obtain ⟨⟨lv, h1, h2⟩, ⟨es, c, h3, h4⟩, h5, h6, h7, h8⟩ := h
  exact ⟨⟨lv, h1.below hb, h2.below hb⟩, ⟨es, c, (hb.block m (Array.getElem?_eq_some_iff.1 h3).1).trans h3, h4⟩, h5, h6, fun i p d hp hd => (h7 i p d hp hd).below hb, h8⟩
theorem SchB.notin {B : Nat} {w : World} {s m p : Nat} {ps : List Nat} {L : List DefS} (h : SchB B w s m ps L) (hp : w.heap.size ≤ p) : p ∉ ps := by
  intro hm
  obtain ⟨i, hi, he⟩ := List.getElem_of_mem hm
  have hiL : i < L.length := by rw [← h.len]; exact hi
  obtain ⟨_, _, _, _, hB⟩ := (h.defs i p L[i] (by rw [List.getElem?_eq_getElem hi, he]) (List.getElem?_eq_getElem hiL)).bk
  have := hB.lt
  omega
theorem find_range_some {n i : Nat} {p : Nat → Bool} (hi : i < n) (hp : p i = true) (h : ∀ t, t < i → p t = false) : (List.range n).find? p = some i := by
  rw [List.find?_range_eq_some]
  exact ⟨hp, List.mem_range.2 hi, fun j hj => by simp [h j hj]⟩
theorem find_range_none {n : Nat} {p : Nat → Bool} (h : ∀ t, t < n → p t = false) : (List.range n).find? p = none := by
  rw [List.find?_range_eq_none]
  exact fun j hj => by simp [h j hj]
theorem knownD_sup {L : List DefS} {d : DefS} (h : knownD L d = true) : ∀ n ∈ d.sup, (findD L d.cls n).isSome = true := by
  unfold knownD at h
  rw [Bool.and_eq_true, Bool.and_eq_true, List.all_eq_true] at h
  exact h.1.1
/-- What New hands back. -/
def NewRet (w : World) (o : (Int × Nat) ⊕ List DefS) (e : Ending) (w' : World) : Prop := Below w.heap.size w w' ∧ match o with
  | .inl x => e = .returned (.tuple #[.pointer none, .int .i64 x.1, .int .i64 (x.2 : Int)])
  | .inr L => ∃ s ps, e = .returned (.tuple #[ptrV s, .int .i64 0, .int .i64 0]) ∧ SchAt w' s ps L
/-- What New does once all is read. -/
def newRest (R : (Int × Nat) ⊕ List DefS) : (Int × Nat) ⊕ List DefS := match R with
  | .inl x => .inl x
  | .inr L => match L.findIdx? (fun d => !knownD L d) with
    | some i => .inl (52, i)
    | none => match (List.range L.length).find? (fun i => loopsD L i) with
      | some i => .inl (53, i)
      | none => match (List.range L.length).find? (fun i => !((L[i]?).map (fun d => fitsD L d i)).getD false) with
        | some i => .inl (50, i)
        | none => .inr L
theorem newL_rest {a c : List (List UInt8)} (h : ¬ 300 < a.length + c.length) : newL a c = newRest (readAll a.length 0 (a ++ c) []) := by
  unfold newL newRest
  rw [if_neg h]
  generalize readAll a.length 0 (a ++ c) [] = R
  cases R with
  | inl x => rfl
  | inr L =>
    simp only
    cases L.findIdx? (fun d => !knownD L d) with
    | some i => rfl
    | none =>
      simp only
      cases (List.range L.length).find? (fun i => loopsD L i) with
      | some i => rfl
      | none =>
        simp only
        cases (List.range L.length).find? (fun i => !((L[i]?).map (fun d => fitsD L d i)).getD false) <;> rfl
/-- What holds while the definitions are read. -/
structure NJ (w : World) (s m na : Nat) (v : Value) (xs : List (List UInt8)) (R : (Int × Nat) ⊕ List DefS) (wr : World) (k : Nat) (ps : List Nat) (L : List DefS) : Prop where
  sch : SchB w.heap.size wr s m ps L
  bel : Below w.heap.size w wr
  txt : Texts wr v xs
  len : L.length = k
  lim : ∀ d ∈ L, BothLim d
  rest : readAll na k (xs.drop k) L = R
set_option maxRecDepth 100000 in
set_option maxHeartbeats 4000000 in
theorem New_c (va vb : Value) (xa xc : List (List UInt8)) (w : World) (hw : Env w) (hva : Texts w va xa) (hvb : Texts w vb xc) (hlen : xa.length + xc.length ≤ 1000000) (hs : ∀ x ∈ xa ++ xc, x.length ≤ 1000000) :
    Calls Tryz.prog 9 #[va, vb] w (NewRet w (newL xa xc)) := by
  have hmm := @run_makeMap Tryz.prog
  by_cases h300 : 300 < xa.length + xc.length
  · have hN : newL xa xc = .inl (2, 0) := by unfold newL; rw [if_pos h300]
    rw [hN]
    obtain ⟨Aa, na, ca, rfl, hna⟩ : ∃ A n c, va = .slice A n c ∧ n = xa.length := by
      rcases hva with ⟨h, rfl⟩ | ⟨b, c, rfl, _⟩
      · exact ⟨_, _, _, rfl, by rw [h]; rfl⟩
      · exact ⟨_, _, _, rfl, rfl⟩
    obtain ⟨Ab, nb, cb, rfl, hnb⟩ : ∃ A n c, vb = .slice A n c ∧ n = xc.length := by
      rcases hvb with ⟨h, rfl⟩ | ⟨b, c, rfl, _⟩
      · exact ⟨_, _, _, rfl, by rw [h]; rfl⟩
      · exact ⟨_, _, _, rfl, rfl⟩
    subst hna hnb
    have hgt : (300 : Int) < (xa.length : Int) + (xc.length : Int) := by omega
    clear hva hvb
    go_enter Tryz.func9, Tryz.ntmps9
    go_wp2_with fail
    go_ret3
    exact ⟨Below.refl _ _, rfl⟩
  · obtain ⟨R, hR⟩ : ∃ R, readAll xa.length 0 (xa ++ xc) [] = R := ⟨_, rfl⟩
    have HEQ0 : newL xa xc = newRest R := by rw [newL_rest h300, hR]
    have HVB := Lib.hid hvb
    have HVA := Lib.hid hva
    obtain ⟨Aa, na, ca, rfl, hna⟩ : ∃ A n c, va = .slice A n c ∧ n = xa.length := by
      rcases hva with ⟨h, rfl⟩ | ⟨b, c, rfl, _⟩
      · exact ⟨_, _, _, rfl, by rw [h]; rfl⟩
      · exact ⟨_, _, _, rfl, rfl⟩
    obtain ⟨Ab, nb, cb, rfl, hnb⟩ : ∃ A n c, vb = .slice A n c ∧ n = xc.length := by
      rcases hvb with ⟨h, rfl⟩ | ⟨b, c, rfl, _⟩
      · exact ⟨_, _, _, rfl, by rw [h]; rfl⟩
      · exact ⟨_, _, _, rfl, rfl⟩
    subst hna hnb
    have hgt : ¬ (300 : Int) < (xa.length : Int) + (xc.length : Int) := by omega
    have hb2 : Below w.heap.size w ((w.alloc (.map #[] 0)).alloc (.cells #[.slice none 0 0, .map (some w.heap.size)] 53)) := ((Below.refl _ _).alloc (Nat.le_refl _) _).alloc (by simp) _
    have hal : xa.length ≤ 1000000 := by omega
    have hac : xa.length + xc.length < 4398046511104 := by omega
    clear hva hvb
    go_enter Tryz.func9, Tryz.ntmps9
    go_wp2_with (first | (go_at_call 22; refine (CloneS_c xa _ _ (HVA.out.below hb2) hal).mono ?_; rintro e w3 ⟨v3, rfl, hO3, hb3⟩; have hB3 := hb2.trans (hb3.mono hb2.size); have hvb3 := HVB.out.below hB3) | (at_builtin; refine own_more rfl _ _ rfl rfl hO3 rfl hvb3 hac ?_; intro v4 w4 hO4 hg4; obtain ⟨A4, c4, rfl, hc4⟩ := hO4.isSlice))
    have hl3 := fun k hk => hO3.lt k hk
    have hb4 : Below w.heap.size w w4 := hB3.grown hg4 hB3.size (fun k hk => by have := (hl3 k hk).1; simp at this; omega)
    have hT4 := hO4.texts
    have J0 : NJ w (w.heap.size + 1) w.heap.size xa.length (.slice A4 (xa ++ xc).length c4) (xa ++ xc) R w4 0 [] [] := by
      have q2 := Bk.new (w.alloc (.map #[] 0)) 53 #[.slice none 0 0, .map (some w.heap.size)]
      rw [World.size_alloc] at q2
      have q4 := (q2.below hb3).grown hg4 (fun he => by have := (hl3 _ he.symm).1; simp at this; omega)
      have m2 : ((w.alloc (.map #[] 0)).alloc (.cells #[.slice none 0 0, .map (some w.heap.size)] 53)).heap[w.heap.size]? = some (.map #[] 0) := (((Below.refl (w.alloc (.map #[] 0)).heap.size (w.alloc (.map #[] 0))).alloc (Nat.le_refl _) _).block _ (by simp)).trans (heap_alloc_new w _)
      have m3 : w3.heap[w.heap.size]? = some (.map #[] 0) := (hb3.block _ (by simp; omega)).trans m2
      have m4 : w4.heap[w.heap.size]? = some (.map #[] 0) := (hg4.block _ (Array.getElem?_eq_some_iff.1 m3).1 (fun he => by have := (hl3 _ he.symm).1; simp at this; omega)).trans m3
      exact ⟨⟨⟨_, q4, OwnP.nil hb4.size⟩, ⟨_, _, m4, MapR.nil _⟩, rfl, List.nodup_nil, (fun i p d hp => by simp at hp), ⟨Nat.le_succ _, Nat.le_refl _⟩⟩, hb4, hT4, rfl, (fun d hd => by cases hd), by rw [List.drop_zero]; exact hR⟩
    have HJ0 := Lib.hid J0
    clear J0 hT4 hl3 hb4 hO4 hg4 hO3 hb3 hB3 hvb3 hb2 hR
    generalize hxs : xa ++ xc = xs at *
    have hn : xs.length = xa.length + xc.length := by rw [← hxs]; simp
    have HN := Lib.hid hn
    rw [hn] at HJ0
    have HX := Lib.hid hs
    have HEQ : Hid (newL xa xc = newRest R) := Lib.hid HEQ0
    clear hxs hn hs
    generalize w.heap.size + 1 = s at HJ0 ⊢
    go_loopg [31] (xa.length + xc.length) (fun gk i wr => ∃ (k : Nat) (ps : List Nat) (L : List DefS), k ≤ xa.length + xc.length ∧ i = .int .i64 k ∧ Aside (k + gk = xa.length + xc.length) ∧ Aside (NJ w s w.heap.size xa.length (.slice A4 (xa.length + xc.length) c4) xs R wr k ps L))
    case atStart => exact ⟨0, [], [], Nat.zero_le _, rfl, by show _ = _; omega, HJ0.out⟩
    case round =>
      clear HJ0
      obtain ⟨k, ps, L, hk, rfl, AG, AJ⟩ := hrel
      by_cases hlt : k < xa.length + xc.length
      · obtain ⟨q, rfl⟩ : ∃ q, gk = q + 1 := ⟨gk - 1, by have := AG.out; omega⟩
        have hltx : k < xs.length := by rw [HN.out]; exact hlt
        obtain ⟨g, rfl, ck⟩ := texts_at AJ.out.txt hltx
        have hxk := HX.out _ (List.getElem_mem hltx)
        have hE : Env wr := hw.keep AJ.out.bel
        obtain ⟨cls, hcls⟩ : ∃ cls, decide (xa.length ≤ k) = cls := ⟨_, rfl⟩
        have hcls2 : decide ((xa.length : Int) ≤ (k : Int)) = cls := by rw [← hcls]; exact decide_eq_decide.2 Int.ofNat_le
        have hRD := read_c xs[k] cls wr hE hxk
        have hrest := AJ.out.rest
        rw [List.drop_eq_getElem_cons hltx, readAll, hcls] at hrest
        cases ho : readL xs[k] cls with
        | none =>
          rw [ho] at hRD hrest
          have HRD := Lib.hid hRD
          have HREST := Lib.hid hrest
          clear hRD hrest ho hxk hE
          go_wp2_with (go_at_call 23; refine HRD.out.mono ?_; rintro e w5 ⟨hb5, rfl⟩)
          all_goals
            go_ret3
            rw [HEQ.out, ← HREST.out]
            exact ⟨AJ.out.bel.trans (hb5.mono AJ.out.bel.size), rfl⟩
        | some d =>
          rw [ho] at hRD hrest
          have hlimd := (readL_lim hxk ho).1
          have HLD := Lib.hid hlimd
          have HRD : Hid (Calls Tryz.prog 23 #[.string ⟨xs[k].toArray⟩, .bool cls] wr fun e w' => ∃ p, e = .returned (.pointer (some ⟨p, 0, none⟩)) ∧ wr.heap.size ≤ p ∧ DefAt w' p d ∧ Below wr.heap.size wr w') := Lib.hid (hRD.mono (by
            rintro e w' ⟨h1, p, rfl, h2, h3⟩
            exact ⟨p, rfl, h2, h3, h1⟩))
          simp only at hrest
          have HREST := Lib.hid hrest
          have hpl : ps.length < 4398046511104 := by rw [AJ.out.sch.len, AJ.out.len]; omega
          have HPUT : Hid (∀ (p : Nat) (W : World), Below wr.heap.size wr W → wr.heap.size ≤ p → DefAt W p d → Calls Tryz.prog 24 #[.pointer (some ⟨s, 0, none⟩), .pointer (some ⟨p, 0, none⟩)] W (PutRet w.heap.size W s w.heap.size ps L p d)) := Lib.hid (fun p W hb hp hd => put_c6 w.heap.size s w.heap.size p ps L d W (AJ.out.sch.below hb) (Nat.le_trans AJ.out.bel.size hb.size) hpl (AJ.out.sch.notin hp) hd hlimd.1)
          clear hRD hrest hxk hE hlimd hpl
          cases hok : okPut (L.flatMap DefS.keys) d.keys with
          | true =>
            have HOK := Lib.hid hok
            clear hok
            go_wp2_with (first | (go_at_call 23; refine HRD.out.mono ?_; rintro e w5 ⟨p, rfl, hp5, hd5, hb5⟩) | (go_at_call 24; refine (HPUT.out _ _ hb5 hp5 hd5).mono ?_; unfold PutRet; rw [HOK.out]; rintro e w6 ⟨hb6, rfl, hs6, ht6⟩))
            go_roundg q
            case measure => omega
            case rel =>
              refine ⟨k + 1, ps ++ [p], L ++ [d], by omega, by go_num, by have := AG.out; show _ = _; omega, ⟨hs6, AJ.out.bel.trans ((hb5.mono AJ.out.bel.size).trans hb6), ht6 _ _ (AJ.out.txt.below hb5), by simp [AJ.out.len], ?_, ?_⟩⟩
              · intro x hx
                rcases List.mem_append.1 hx with hx | hx
                · exact AJ.out.lim x hx
                · rw [List.mem_singleton.1 hx]; exact HLD.out
              · have := HREST.out; rw [HOK.out] at this; simpa using this
          | false =>
            have HOK := Lib.hid hok
            clear hok
            go_wp2_with (first | (go_at_call 23; refine HRD.out.mono ?_; rintro e w5 ⟨p, rfl, hp5, hd5, hb5⟩) | (go_at_call 24; refine (HPUT.out _ _ hb5 hp5 hd5).mono ?_; unfold PutRet; rw [HOK.out]; rintro e w6 ⟨hb6, rfl⟩))
            all_goals
              have hr : R = .inl (51, k) := by have := HREST.out; rw [HOK.out] at this; simpa using this.symm
              go_ret3
              rw [HEQ.out, hr]
              exact ⟨AJ.out.bel.trans ((hb5.mono AJ.out.bel.size).trans hb6), rfl⟩
      · obtain rfl : k = xa.length + xc.length := by omega
        obtain ⟨we, rfl⟩ : ∃ x, x = wr := ⟨_, rfl⟩
        have hR : R = .inr L := by rw [← AJ.out.rest, List.drop_eq_nil_of_le (by rw [HN.out]; exact Nat.le_refl _), readAll]
        have hpl : ps.length ≤ 1000 := by rw [AJ.out.sch.len, AJ.out.len]; omega
        have hSA := AJ.out.sch.at
        obtain ⟨lv, hs0, hown⟩ := AJ.out.sch.head
        obtain ⟨Al, cl, rfl, hcl, hpc⟩ := hown.reads
        have cs0 : we.cell? ⟨s, 0, none⟩ = some (.slice Al ps.length cl) := hs0.cell 0
        have HRR : Hid (newL xa xc = newRest (.inr L)) := Lib.hid (by rw [HEQ.out, hR])
        have HSA := Lib.hid hSA
        have HB := Lib.hid AJ.out.bel
        have HLIM := Lib.hid AJ.out.lim
        have HPC := Lib.hid hpc
        have HLEN := Lib.hid hSA.len
        have HS0 := Lib.hid hs0
        clear hR hSA hown hpc hs0 AJ HX
        go_wp2_with fail
        go_loopg [58] ps.length (fun gk i wr => ∃ j : Nat, j ≤ ps.length ∧ i = .int .i64 j ∧ Aside (j + gk = ps.length) ∧ Below we.heap.size we wr ∧ Aside (∀ t d, t < j → L[t]? = some d → knownD L d = true))
        case atStart => exact ⟨0, Nat.zero_le _, rfl, by show _ = _; omega, Below.refl _ _, fun t d ht => absurd ht (by omega)⟩
        case round =>
          obtain ⟨j, hj, rfl, BG, hB, BK⟩ := hrel
          by_cases hjl : j < ps.length
          · obtain ⟨q, rfl⟩ : ∃ q, gk = q + 1 := ⟨gk - 1, by have := BG.out; omega⟩
            have hjL : j < L.length := by rw [← HLEN.out]; exact hjl
            have hLj : L[j]? = some L[j] := List.getElem?_eq_getElem hjL
            obtain ⟨g2, rfl, hcells⟩ := HPC.out.resolve_left (by rintro rfl; simp at hjl)
            have cj : we.cell? ⟨g2, j, none⟩ = some (.pointer (some ⟨pAt ps j, 0, none⟩)) := hcells j _ (pAt_get hjl)
            have cq : wr.cell? ⟨g2, j, none⟩ = some (.pointer (some ⟨pAt ps j, 0, none⟩)) := (hB.cell (p := ⟨g2, j, none⟩) (cell_lt cj)).trans cj
            have hK := known_c s (pAt ps j) ps L L[j] wr (HSA.out.below hB) ((HSA.out.below hB).defAt hLj) (HLIM.out _ (List.getElem_mem hjL)).1
            clear hcells cj
            unfold ptrV at hK
            cases hkn : knownD L L[j]
            all_goals
              rw [hkn] at hK
              have HK := Lib.hid hK
              have HKN := Lib.hid hkn
              clear hK hkn
            · go_wp2_with (go_at_call 25; refine HK.out.mono ?_; rintro e w7 ⟨rfl, hb7⟩)
              all_goals
                have hf : L.findIdx? (fun d => !knownD L d) = some j := by
                  rw [List.findIdx?_eq_some_iff_getElem]
                  refine ⟨hjL, by rw [HKN.out]; rfl, fun t ht => ?_⟩
                  rw [BK.out t _ ht (List.getElem?_eq_getElem (by omega))]
                  simp
                go_ret3
                rw [HRR.out]
                unfold newRest
                simp only
                rw [hf]
                exact ⟨HB.out.trans ((hB.trans (hb7.mono hB.size)).mono HB.out.size), rfl⟩
            · go_wp2_with (go_at_call 25; refine HK.out.mono ?_; rintro e w7 ⟨rfl, hb7⟩)
              go_roundg q
              case measure => omega
              case rel =>
                refine ⟨j + 1, by omega, by go_num, by have := BG.out; show _ = _; omega, hB.trans (hb7.mono hB.size), ?_⟩
                intro t d ht hd
                rcases Nat.lt_or_ge t j with h1 | h1
                · exact BK.out t d h1 hd
                · obtain rfl : t = j := by omega
                  rw [hLj] at hd
                  cases hd
                  exact HKN.out
          · obtain rfl : j = ps.length := by omega
            have hknow : ∀ d ∈ L, knownD L d = true := by
              intro d hd
              obtain ⟨t, ht, rfl⟩ := List.getElem_of_mem hd
              exact BK.out t _ (by rw [HLEN.out]; exact ht) (List.getElem?_eq_getElem ht)
            have hf1 : L.findIdx? (fun d => !knownD L d) = none := by
              rw [List.findIdx?_eq_none_iff]
              intro d hd
              rw [hknow d hd]
              rfl
            have HKNOW := Lib.hid hknow
            have HF1 := Lib.hid hf1
            obtain ⟨w2, rfl⟩ : ∃ x, x = wr := ⟨_, rfl⟩
            have cs2 : w2.cell? ⟨s, 0, none⟩ = some (.slice Al ps.length cl) := (hB.cell (p := ⟨s, 0, none⟩) (cell_lt cs0)).trans cs0
            have HB2 := Lib.hid hB
            clear hknow hf1 hB BK
            go_wp2_with fail
            go_loopg [74] ps.length (fun gk i wr => ∃ j : Nat, j ≤ ps.length ∧ i = .int .i64 j ∧ Aside (j + gk = ps.length) ∧ Below we.heap.size we wr ∧ Aside (∀ t, t < j → loopsD L t = false))
            case atStart => exact ⟨0, Nat.zero_le _, rfl, by show _ = _; omega, HB2.out, fun t ht => absurd ht (by omega)⟩
            case round =>
              obtain ⟨j, hj, rfl, BG, hB, BK⟩ := hrel
              by_cases hjl : j < ps.length
              · obtain ⟨q, rfl⟩ : ∃ q, gk = q + 1 := ⟨gk - 1, by have := BG.out; omega⟩
                have hjL : j < L.length := by rw [← HLEN.out]; exact hjl
                have hLj : L[j]? = some L[j] := List.getElem?_eq_getElem hjL
                obtain ⟨g2, rfl, hcells⟩ := HPC.out.resolve_left (by rintro rfl; simp at hjl)
                have cj : we.cell? ⟨g2, j, none⟩ = some (.pointer (some ⟨pAt ps j, 0, none⟩)) := hcells j _ (pAt_get hjl)
                have cq : wr.cell? ⟨g2, j, none⟩ = some (.pointer (some ⟨pAt ps j, 0, none⟩)) := (hB.cell (p := ⟨g2, j, none⟩) (cell_lt cj)).trans cj
                have hK := loops_c s j ps L L[j] wr (HSA.out.below hB) (fun d hd => (HLIM.out d hd).1) (by rw [← HLEN.out]; omega) (fun d hd => knownD_sup (HKNOW.out d hd)) hLj
                clear hcells cj
                unfold ptrV at hK
                cases hkn : loopsD L j
                all_goals
                  rw [hkn] at hK
                  have HK := Lib.hid hK
                  have HKN := Lib.hid hkn
                  clear hK hkn
                · go_wp2_with (go_at_call 26; refine HK.out.mono ?_; rintro e w7 ⟨rfl, hb7⟩)
                  go_roundg q
                  case measure => omega
                  case rel =>
                    refine ⟨j + 1, by omega, by go_num, by have := BG.out; show _ = _; omega, hB.trans (hb7.mono hB.size), ?_⟩
                    intro t ht
                    rcases Nat.lt_or_ge t j with h1 | h1
                    · exact BK.out t h1
                    · obtain rfl : t = j := by omega
                      exact HKN.out
                · go_wp2_with (go_at_call 26; refine HK.out.mono ?_; rintro e w7 ⟨rfl, hb7⟩)
                  all_goals
                    have hf : (List.range L.length).find? (fun i => loopsD L i) = some j := find_range_some hjL HKN.out BK.out
                    go_ret3
                    rw [HRR.out]
                    unfold newRest
                    simp only
                    rw [HF1.out]
                    simp only
                    rw [hf]
                    exact ⟨HB.out.trans ((hB.trans (hb7.mono hB.size)).mono HB.out.size), rfl⟩
              · obtain rfl : j = ps.length := by omega
                have hlo : ∀ t, t < L.length → loopsD L t = false := fun t ht => BK.out t (by rw [HLEN.out]; exact ht)
                have HF2 := Lib.hid (find_range_none hlo)
                have HAC := Lib.hid (acyc_of hlo)
                obtain ⟨w4b, rfl⟩ : ∃ x, x = wr := ⟨_, rfl⟩
                have cs4 : w4b.cell? ⟨s, 0, none⟩ = some (.slice Al ps.length cl) := (hB.cell (p := ⟨s, 0, none⟩) (cell_lt cs0)).trans cs0
                have HB4 := Lib.hid hB
                clear hlo hB BK cs2
                go_wp2_with fail
                go_loopg [89] ps.length (fun gk i wr => ∃ j : Nat, j ≤ ps.length ∧ i = .int .i64 j ∧ Aside (j + gk = ps.length) ∧ Below we.heap.size we wr ∧ Aside (∀ t, t < j → (!((L[t]?).map (fun d => fitsD L d t)).getD false) = false))
                case atStart => exact ⟨0, Nat.zero_le _, rfl, by show _ = _; omega, HB4.out, fun t ht => absurd ht (by omega)⟩
                case round =>
                  obtain ⟨j, hj, rfl, BG, hB, BK⟩ := hrel
                  by_cases hjl : j < ps.length
                  · obtain ⟨q, rfl⟩ : ∃ q, gk = q + 1 := ⟨gk - 1, by have := BG.out; omega⟩
                    have hjL : j < L.length := by rw [← HLEN.out]; exact hjl
                    have hLj : L[j]? = some L[j] := List.getElem?_eq_getElem hjL
                    obtain ⟨g2, rfl, hcells⟩ := HPC.out.resolve_left (by rintro rfl; simp at hjl)
                    have cj : we.cell? ⟨g2, j, none⟩ = some (.pointer (some ⟨pAt ps j, 0, none⟩)) := hcells j _ (pAt_get hjl)
                    have cq : wr.cell? ⟨g2, j, none⟩ = some (.pointer (some ⟨pAt ps j, 0, none⟩)) := (hB.cell (p := ⟨g2, j, none⟩) (cell_lt cj)).trans cj
                    have hK := fits_c s j ps L L[j] wr (HSA.out.below hB) (fun d hd => (HLIM.out d hd).1) (fun d hd => (HLIM.out d hd).2) hLj
                      (fun hc n hn => by have := knownD_sup (HKNOW.out _ (List.getElem_mem hjL)) n hn; rw [hc] at this; exact this)
                      (fun hc => by
                        obtain ⟨a, ha⟩ := countsD_some HAC.out (fun d hd hc s hs => by have := knownD_sup (HKNOW.out d hd) s hs; rw [hc] at this; exact this) hLj hc
                        rw [ha]; rfl)
                    clear hcells cj
                    unfold ptrV at hK
                    cases hkn : fitsD L L[j] j
                    all_goals
                      rw [hkn] at hK
                      have HK := Lib.hid hK
                      have HKN := Lib.hid hkn
                      clear hK hkn
                    · go_wp2_with (go_at_call 27; refine HK.out.mono ?_; rintro e w7 ⟨rfl, hb7⟩)
                      all_goals
                        have hf : (List.range L.length).find? (fun i => !((L[i]?).map (fun d => fitsD L d i)).getD false) = some j := find_range_some hjL (by rw [hLj]; simp [HKN.out]) BK.out
                        go_ret3
                        rw [HRR.out]
                        unfold newRest
                        simp only
                        rw [HF1.out]
                        simp only
                        rw [HF2.out]
                        simp only
                        rw [hf]
                        exact ⟨HB.out.trans ((hB.trans (hb7.mono hB.size)).mono HB.out.size), rfl⟩
                    · go_wp2_with (go_at_call 27; refine HK.out.mono ?_; rintro e w7 ⟨rfl, hb7⟩)
                      go_roundg q
                      case measure => omega
                      case rel =>
                        refine ⟨j + 1, by omega, by go_num, by have := BG.out; show _ = _; omega, hB.trans (hb7.mono hB.size), ?_⟩
                        intro t ht
                        rcases Nat.lt_or_ge t j with h1 | h1
                        · exact BK.out t h1
                        · obtain rfl : t = j := by omega
                          rw [hLj]
                          simp [HKN.out]
                  · obtain rfl : j = ps.length := by omega
                    have hfi : ∀ t, t < L.length → (!((L[t]?).map (fun d => fitsD L d t)).getD false) = false := fun t ht => BK.out t (by rw [HLEN.out]; exact ht)
                    have HF3 := Lib.hid (find_range_none hfi)
                    clear hfi BK
                    go_wp2_with fail
                    go_ret3
                    rw [HRR.out]
                    unfold newRest
                    simp only
                    rw [HF1.out]
                    simp only
                    rw [HF2.out]
                    simp only
                    rw [HF3.out]
                    exact ⟨HB.out.trans (hB.mono HB.out.size), s, ps, rfl, HSA.out.below hB⟩
end Go.Proofs.YtcjobpcbppcdnaaGreatDoor
/- Contracts: whether a type is another's or stands below it. -/
namespace Go.Proofs.YtcjobpcbppcdnaaGreatDoor
open Go.RowKit

set_option maxRecDepth 100000 in
set_option maxHeartbeats 4000000 in
theorem IsSub_c (s : Nat) (ps : List Nat) (L : List DefS) (a b : List UInt8) (w : World) (hS : SchAt w s ps L) (hlim : ∀ d ∈ L, DefLim d) (hN : L.length ≤ 1000) (hk : ∀ d ∈ L, ∀ n ∈ d.sup, (findD L d.cls n).isSome = true) (ha : a.length ≤ 1000000) (hb : b.length ≤ 1000000) :
    Calls Tryz.prog 14 #[ptrV s, .string ⟨a.toArray⟩, .string ⟨b.toArray⟩] w fun e w' => e = .returned (.bool (isSubD L a b)) ∧ Below w.heap.size w w' := by
  have HA0 := find_c s ps L false a w hS ha
  have HB0 := fun (W : World) (h : Below w.heap.size w W) => find_c s ps L false b W (hS.below h) hb
  have HA := Lib.hid HA0
  have HB := Lib.hid HB0
  unfold isSubD
  clear HA0 HB0
  unfold findV ptrV at HA HB
  unfold ptrV
  cases h1 : findD L false a with
  | none =>
    rw [h1] at HA
    simp only at HA ⊢
    cases h2 : findD L false b
    all_goals
      rw [h2] at HB
      simp only at HB
      clear hS hk hlim
      go_enter Tryz.func14, Tryz.ntmps14
      go_wp2_with (first | (go_at_call 29; (with_reducible refine HA.out.mono ?_); rintro e w1 ⟨rfl, hb1⟩) | (go_at_call 29; (with_reducible refine (HB.out _ hb1).mono ?_); rintro e w2 ⟨rfl, hb2⟩))
      all_goals
        go_ret
        exact ⟨rfl, hb1.trans (hb2.mono hb1.size)⟩
  | some x =>
    rw [h1] at HA
    simp only at HA ⊢
    have hx := findD_lt h1
    cases h2 : findD L false b with
    | none =>
      rw [h2] at HB
      simp only at HB
      clear hS hk hlim
      go_enter Tryz.func14, Tryz.ntmps14
      go_wp2_with (first | (go_at_call 29; (with_reducible refine HA.out.mono ?_); rintro e w1 ⟨rfl, hb1⟩) | (go_at_call 29; (with_reducible refine (HB.out _ hb1).mono ?_); rintro e w2 ⟨rfl, hb2⟩))
      all_goals
        go_ret
        exact ⟨rfl, hb1.trans (hb2.mono hb1.size)⟩
    | some y =>
      rw [h2] at HB
      simp only at HB
      have hy := findD_lt h2
      have hsays := aboveD_says L x hx
      have HAB : Hid (∀ W : World, Below w.heap.size w W → Calls Tryz.prog 32 #[.pointer (some ⟨s, 0, none⟩), .pointer (some ⟨pAt ps x, 0, none⟩), .slice none 0 0] W (AbRet w.heap.size W ps (aboveD L x []))) := Lib.hid (fun W h => above_c w s ps L hS hlim hN hk (L.length + 1) x [] (.slice none 0 0) W h (by simp) (by simp) hx (by simp) (OwnP.nil h.size))
      have hcm : ((aboveD L x []).map (pAt ps)).contains (pAt ps y) = (aboveD L x []).contains y := contains_map hS.nodup (fun v hv => by rw [hS.len]; exact hsays.lt v hv) (by rw [hS.len]; exact hy)
      have hlen : ((aboveD L x []).map (pAt ps)).length ≤ 1000000 := by
        have := nodup_bound _ (aboveD L x []) hsays.nodup hsays.lt
        simp
        omega
      have HC : Hid (∀ (v : Value) (W : World), Below w.heap.size w W → OwnP w.heap.size W v ((aboveD L x []).map (pAt ps)) → Calls Tryz.prog 31 #[v, .pointer (some ⟨pAt ps y, 0, none⟩)] W fun e w' => e = .returned (.bool ((aboveD L x []).contains y)) ∧ W = w') := Lib.hid (fun v W h ho => by
        have := ContainsP_c (pAt ps y) _ v W ho.reads hlen (eqPtrs_at hS h hy hsays.lt)
        rw [hcm] at this
        exact this)
      clear hS hk hlim hcm hlen hsays
      have HA2 : Hid (Calls Tryz.prog 29 #[.pointer (some ⟨s, 0, none⟩), .bool false, .string ⟨a.toArray⟩] w fun e w' => e = .returned (.pointer (some ⟨pAt ps x, 0, none⟩)) ∧ Below w.heap.size w w') := HA
      have HB2 : Hid (∀ W : World, Below w.heap.size w W → Calls Tryz.prog 29 #[.pointer (some ⟨s, 0, none⟩), .bool false, .string ⟨b.toArray⟩] W fun e w' => e = .returned (.pointer (some ⟨pAt ps y, 0, none⟩)) ∧ Below W.heap.size W w') := HB
      clear HA HB
      show Calls _ _ _ _ fun e w' => e = .returned (.bool ((aboveD L x []).contains y)) ∧ Below w.heap.size w w'
      generalize (aboveD L x []).contains y = q at HC ⊢
      go_enter Tryz.func14, Tryz.ntmps14
      go_wp2_with (first | (go_at_call 29; (with_reducible refine HA2.out.mono ?_); rintro e w1 ⟨rfl, hb1⟩) | (go_at_call 29; (with_reducible refine (HB2.out _ hb1).mono ?_); rintro e w2 ⟨rfl, hb2⟩; have hB2 := hb1.trans (hb2.mono hb1.size)) | (go_at_call 32; refine (HAB.out _ hB2).mono ?_; rintro e w3 ⟨hb3, v3, rfl, hO3⟩; have hB3 := hB2.trans hb3) | (go_at_call 31; refine (HC.out _ _ hB3 hO3).mono ?_; rintro e w4 ⟨rfl, rfl⟩))
      all_goals
        go_ret
        exact ⟨rfl, hB3⟩
end Go.Proofs.YtcjobpcbppcdnaaGreatDoor
