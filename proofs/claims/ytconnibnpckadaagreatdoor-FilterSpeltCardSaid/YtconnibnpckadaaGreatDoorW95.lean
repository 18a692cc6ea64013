import Derived.Test.YtconnibnpckadaaGreatDoorW94
set_option linter.all false
set_option maxHeartbeats 8000000
set_option maxRecDepth 100000
namespace Go.Proofs.YtconnibnpckadaaGreatDoor
open Go.RowKit
def knownI (b : Bool) : Int := if b then 1 else 0
theorem fKnown_c (b : Bool) (w : World) : Calls Tryz.prog 127 #[.bool b] w fun e w' => e = .returned (.int .i64 (knownI b)) ∧ w = w' := by
 cases b
 all_goals
  go_enter Tryz.func127, Tryz.ntmps127
  go_wp2_with fail
  go_ret
  exact ⟨rfl, rfl⟩
theorem presentF_c (x : List UInt8) (w : World) : Calls Tryz.prog 98 #[.string ⟨x.toArray⟩] w fun e w' => e = .returned (.bool true) ∧ Below w.heap.size w w' := by
 go_enter Tryz.func98, Tryz.ntmps98
 go_wp2_with fail
 go_ret
 exact ⟨rfl, Below.refl _ _⟩
def wkCells (s : Nat) (dn : List UInt8) (va : Value) : List Value := [.pointer (some ⟨s, 0, none⟩), .string ⟨dn.toArray⟩, va]
def wkV (s : Nat) (dn : List UInt8) (va : Value) : Value := .agg (wkCells s dn va).toArray
theorem load_wk {w : World} {g s : Nat} {dn : List UInt8} {va : Value} (h : Bk w g 63 (wkCells s dn va).toArray) : (Instr.loadAt 63 (.pointer (some ⟨g, 0, none⟩))).run Tryz.prog w = .ok (wkV s dn va) w := by
 refine run_loadAt_mid w g 0 63 (wkCells s dn va) _ (fun j v hv => ?_) Tryz.underlying63 rfl (by kernel_rfl)
 rw [Nat.zero_add, h.cell j]
 simpa using hv
theorem load_fq {w : World} {g : Nat} {p : Fil.FilE} {va : Value} (h : Bk w g 34 (fqCells (p, va)).toArray) : (Instr.loadAt 34 (.pointer (some ⟨g, 0, none⟩))).run Tryz.prog w = .ok (filV p va) w := by
 refine load_range (fun j v hv => ?_)
 rw [Nat.zero_add, h.cell j]
 simpa using hv
set_option maxRecDepth 100000 in
theorem fEither_c (s : Nat) (ps : List Nat) (L : List DefS) (hL : Sound L) (en : Ent.EntryE) (va : Value) (p : Fil.FilE) (vp : Value) (f : FuncId) (cap : Array Value) (P : List UInt8 → Bool) (w : World) (hS : SchAt w s ps L) (hv : AttrsA w va en.attrs) (hl : en.attrs.length ≤ 1000) (hvn : valsN en.attrs ≤ 1000000) (hlt : ∀ a ∈ en.attrs, a.typ.length ≤ 1000000) (ht : p.typ.length ≤ 1000000)
  (hF : ∀ W, Below w.heap.size w W → AskS W f cap (Ent.findE (schE L) en p.typ) P) :
  Calls Tryz.prog 95 #[wkV s en.dn va, filV p vp, .func (.func f) #[] cap] w fun e w' => e = .returned (.int .i64 (knownI ((Ent.findE (schE L) en p.typ).any P))) ∧ Below w.heap.size w w' := by
 have hlen : (Ent.findE (schE L) en p.typ).length ≤ 4611686018427387904 := by
  have : (Ent.findE (schE L) en p.typ).length ≤ valsN en.attrs := by
   unfold Ent.findE valsN
   have : ∀ l : List Ent.AttrE, (l.flatMap fun a => if (schE L).sub a.typ p.typ then a.vals else []).length ≤ (l.map fun a => a.vals.length).sum := by
    intro l
    induction l with
    | nil => simp
    | cons a l ih =>
     simp only [List.flatMap_cons, List.length_append, List.map_cons, List.sum_cons]
     split
     ·omega
     ·simp only [List.length_nil]; omega
   exact this en.attrs
  omega
 have hFi := fun (W : World) (h : Below w.heap.size w W) => Find_c s ps L hL en va p.typ W (hS.below h) (hv.below h) hl hvn hlt ht
 generalize hxs : Ent.findE (schE L) en p.typ = xs at *
 obtain ⟨A, c, rfl, -⟩ := hv.at
 clear hv
 generalize en.attrs.length = ne at *
 unfold entryArg at hFi
 generalize en.dn = dn at *
 have HFi := Lib.hid hFi
 have HF := Lib.hid hF
 have hb1 := bel_f1 w (.cells #[.pointer (some ⟨s, 0, none⟩), .string ⟨dn.toArray⟩, .slice A ne c] 63)
 have hb2 := bel_f1 (w.alloc (.cells #[.pointer (some ⟨s, 0, none⟩), .string ⟨dn.toArray⟩, .slice A ne c] 63)) (.cells #[.int .i64 p.op, .int .i64 p.n, .string ⟨p.typ.toArray⟩, .string ⟨p.val.toArray⟩, .string ⟨p.ini.toArray⟩, .string ⟨p.fin.toArray⟩, vp] 34)
 have HB2 := Lib.hid (hb1.trans (hb2.mono hb1.size))
 clear hFi hF hS hb1 hb2 hlt ht
 unfold wkV wkCells filV
 go_enter Tryz.func95, Tryz.ntmps95
 go_wp2_with (first
  | (go_at_call 128; (refine (HFi.out _ (by exact HB2.out)).mono ?_); rintro e w3 ⟨v3, rfl, hO3, hb3⟩; obtain ⟨A3, c3, rfl, _⟩ := hO3.textsA.at; have HO3 := Lib.hid hO3; have HB3 := Lib.hid (HB2.out.trans (hb3.mono HB2.out.size)); clear hO3)
  | (go_at_call 43; (refine (ContainsFuncSA_c f cap xs _ _ HO3.out.textsA hlen P (HF.out _ HB3.out)).mono ?_); rintro e w4 ⟨rfl, hb4⟩)
  | (go_at_call 127; (refine (fKnown_c _ _).mono ?_); rintro e w5 ⟨rfl, rfl⟩))
 go_ret
 exact ⟨rfl, HB3.out.trans (hb4.mono HB3.out.size)⟩
set_option maxRecDepth 100000 in
theorem fPresent_c (s : Nat) (ps : List Nat) (L : List DefS) (hL : Sound L) (en : Ent.EntryE) (va : Value) (p : Fil.FilE) (vp : Value) (a : AttrS) (nv : Value) (w : World) (hS : SchAt w s ps L) (hv : AttrsA w va en.attrs) (hl : en.attrs.length ≤ 1000) (hvn : valsN en.attrs ≤ 1000000) (hlt : ∀ a ∈ en.attrs, a.typ.length ≤ 1000000) (ht : p.typ.length ≤ 1000000) :
  Calls Tryz.prog 54 #[wkV s en.dn va, filV p vp, attrV a nv] w fun e w' => e = .returned (.int .i64 (knownI (!(Ent.findE (schE L) en p.typ).isEmpty))) ∧ Below w.heap.size w w' := by
 have hE := fun (W : World) (h : Below w.heap.size w W) => fEither_c s ps L hL en va p vp 98 #[] (fun _ => true) W (hS.below h) (hv.below h) hl hvn hlt ht (fun W2 _ => ⟨fun x _ W3 _ => presentF_c x W3, fun args W3 => by kernel_rfl⟩)
 rw [show (Ent.findE (schE L) en p.typ).any (fun _ => true) = !(Ent.findE (schE L) en p.typ).isEmpty by cases Ent.findE (schE L) en p.typ <;> rfl] at hE
 generalize knownI (!(Ent.findE (schE L) en p.typ).isEmpty) = r at *
 have HE := Lib.hid hE
 obtain ⟨A, c, rfl, hc, _⟩ := hv.at
 have hb1 := bel_f1 w (.cells (wkCells s en.dn (.slice A en.attrs.length c)).toArray 63)
 have k1 := Bk.new w 63 (wkCells s en.dn (.slice A en.attrs.length c)).toArray
 obtain ⟨W1, hW1⟩ : ∃ W1, w.alloc (.cells (wkCells s en.dn (.slice A en.attrs.length c)).toArray 63) = W1 := ⟨_, rfl⟩
 have hs1 : W1.heap.size = w.heap.size + 1 := by rw [← hW1]; simp
 rw [hW1] at hb1 k1
 have hb2 := bel_f1 W1 (.cells (fqCells (p, vp)).toArray 34)
 have k2 := Bk.new W1 34 (fqCells (p, vp)).toArray
 rw [hs1] at k2
 have hb3 := bel_f1 (W1.alloc (.cells (fqCells (p, vp)).toArray 34)) (.cells (attrCells a nv) 103)
 have hB := (hb1.trans (hb2.mono hb1.size)).trans (hb3.mono (Nat.le_trans hb1.size hb2.size))
 have l1 := load_wk ((k1.below hb2).below hb3)
 have l2 := load_fq (k2.below hb3)
 subst hW1
 have HB := Lib.hid hB
 clear hE hS hv hlt ht hb1 hb2 hb3 k1 k2 hs1 hB
 unfold wkV wkCells filV attrV attrCells fqCells at *
 go_enter Tryz.func54, Tryz.ntmps54
 go_wp2_with (go_at_call 95; (refine (HE.out _ (by exact HB.out)).mono ?_); rintro e w4 ⟨rfl, hb4⟩)
 go_ret
 exact ⟨rfl, HB.out.trans (hb4.mono HB.out.size)⟩
def intV8 (k : Int) : Value := .int .i64 k
theorem now_int8 (a b : Int) : Instr.sameNow (.int .i64) (intV8 a) (intV8 b) = some (decide (a = b)) := by
 simp only [Instr.sameNow, intV8]
 congr 1
theorem finds_int8 : Finds Tryz.prog 3 intV8 := finds_now (D := .int .i64) Tryz.underlying3 now_int8
theorem check_int8 (b : Bool) (w : World) (k : Int) : (Instr.checkKey b 10000 3 (intV8 k)).run Tryz.prog w = .ok () w := by
 unfold intV8
 kernel_rfl
theorem zeroFn8 (w : World) : (zeroValue 109).run Tryz.prog w = .ok .nilFunc w := by kernel_rfl
theorem updI8 {w : World} {m c : Nat} {es : Array MapEntry} {R : List (Int × Value)} (hw : w.heap[m]? = some (.map es c)) (h : MapR intV8 es R) (k : Int) (v : Value) (hn : look R k = none) :
  ∃ W es', (Instr.mapUpdate 110 (.map (some m)) (.int .i64 k) v).run Tryz.prog w = .ok () W ∧ W.heap[m]? = some (.map es' (c + 1)) ∧ MapR intV8 es' (R ++ [(k, v)]) ∧ w.grownBy W (some m) :=
 ⟨_, _, map_put Tryz.underlying110 finds_int8 check_int8 w m c es R hw h k v hn, setMap_heap (Array.getElem?_eq_some_iff.1 hw).1, h.push k v c, setMap_grown _ _ _ _⟩
theorem lookI8 {w : World} {m c : Nat} {es : Array MapEntry} {R : List (Int × Value)} (hw : w.heap[m]? = some (.map es c)) (h : MapR intV8 es R) (k : Int) :
  (Instr.lookup 110 (.map (some m)) (.int .i64 k) false).run Tryz.prog w = .ok ((look R k).getD .nilFunc) w :=
 map_look Tryz.underlying110 finds_int8 check_int8 zeroFn8 w m c es R hw h k
theorem made_map8 (v3 v8 v7 v5 v6 v4 : Value) (w : World) : ∃ W0 W1 W2 W3 W4 W5 W6 : World, W0 = w.alloc (.map #[] 0) ∧
  (Instr.mapUpdate 110 (.map (some w.heap.size)) (.int .i64 3) v3).run Tryz.prog W0 = .ok () W1 ∧
  (Instr.mapUpdate 110 (.map (some w.heap.size)) (.int .i64 8) v8).run Tryz.prog W1 = .ok () W2 ∧
  (Instr.mapUpdate 110 (.map (some w.heap.size)) (.int .i64 7) v7).run Tryz.prog W2 = .ok () W3 ∧
  (Instr.mapUpdate 110 (.map (some w.heap.size)) (.int .i64 5) v5).run Tryz.prog W3 = .ok () W4 ∧
  (Instr.mapUpdate 110 (.map (some w.heap.size)) (.int .i64 6) v6).run Tryz.prog W4 = .ok () W5 ∧
  (Instr.mapUpdate 110 (.map (some w.heap.size)) (.int .i64 4) v4).run Tryz.prog W5 = .ok () W6 ∧
  W0.grownBy W1 (some w.heap.size) ∧ W1.grownBy W2 (some w.heap.size) ∧ W2.grownBy W3 (some w.heap.size) ∧ W3.grownBy W4 (some w.heap.size) ∧ W4.grownBy W5 (some w.heap.size) ∧ W5.grownBy W6 (some w.heap.size) ∧
  (Instr.lookup 110 (.map (some w.heap.size)) (.int .i64 3) false).run Tryz.prog W6 = .ok v3 W6 ∧ (Instr.lookup 110 (.map (some w.heap.size)) (.int .i64 8) false).run Tryz.prog W6 = .ok v8 W6 ∧ (Instr.lookup 110 (.map (some w.heap.size)) (.int .i64 7) false).run Tryz.prog W6 = .ok v7 W6 ∧ (Instr.lookup 110 (.map (some w.heap.size)) (.int .i64 5) false).run Tryz.prog W6 = .ok v5 W6 ∧ (Instr.lookup 110 (.map (some w.heap.size)) (.int .i64 6) false).run Tryz.prog W6 = .ok v6 W6 ∧ (Instr.lookup 110 (.map (some w.heap.size)) (.int .i64 4) false).run Tryz.prog W6 = .ok v4 W6 := by
 have h0 : (w.alloc (.map #[] 0)).heap[w.heap.size]? = some (.map #[] 0) := heap_alloc_new w _
 obtain ⟨W1, e1, u1, h1, r1, g1⟩ := updI8 h0 (MapR.nil intV8) 3 v3 rfl
 obtain ⟨W2, e2, u2, h2, r2, g2⟩ := updI8 h1 r1 8 v8 rfl
 obtain ⟨W3, e3, u3, h3, r3, g3⟩ := updI8 h2 r2 7 v7 rfl
 obtain ⟨W4, e4, u4, h4, r4, g4⟩ := updI8 h3 r3 5 v5 rfl
 obtain ⟨W5, e5, u5, h5, r5, g5⟩ := updI8 h4 r4 6 v6 rfl
 obtain ⟨W6, e6, u6, h6, r6, g6⟩ := updI8 h5 r5 4 v4 rfl
 refine ⟨_, W1, W2, W3, W4, W5, W6, rfl, u1, u2, u3, u4, u5, u6, g1, g2, g3, g4, g5, g6, ?_, ?_, ?_, ?_, ?_, ?_⟩
 all_goals (rw [lookI8 h6 r6]; rfl)
theorem cells_3 {w : World} {g : Nat} {t : TypeId} {c0 c1 c2 : Value} (h : Bk w g t #[c0, c1, c2]) : w.cell? ⟨g, 0, none⟩ = some c0 ∧ w.cell? ⟨g, 1, none⟩ = some c1 ∧ w.cell? ⟨g, 2, none⟩ = some c2 := ⟨h.cell 0, h.cell 1, h.cell 2⟩
theorem cells_7 {w : World} {g : Nat} {t : TypeId} {c0 c1 c2 c3 c4 c5 c6 : Value} (h : Bk w g t #[c0, c1, c2, c3, c4, c5, c6]) : w.cell? ⟨g, 0, none⟩ = some c0 ∧ w.cell? ⟨g, 1, none⟩ = some c1 ∧ w.cell? ⟨g, 2, none⟩ = some c2 ∧ w.cell? ⟨g, 3, none⟩ = some c3 ∧ w.cell? ⟨g, 4, none⟩ = some c4 ∧ w.cell? ⟨g, 5, none⟩ = some c5 ∧ w.cell? ⟨g, 6, none⟩ = some c6 := ⟨h.cell 0, h.cell 1, h.cell 2, h.cell 3, h.cell 4, h.cell 5, h.cell 6⟩
theorem cells_11 {w : World} {g : Nat} {t : TypeId} {c0 c1 c2 c3 c4 c5 c6 c7 c8 c9 c10 : Value} (h : Bk w g t #[c0, c1, c2, c3, c4, c5, c6, c7, c8, c9, c10]) : w.cell? ⟨g, 0, none⟩ = some c0 ∧ w.cell? ⟨g, 1, none⟩ = some c1 ∧ w.cell? ⟨g, 2, none⟩ = some c2 ∧ w.cell? ⟨g, 3, none⟩ = some c3 ∧ w.cell? ⟨g, 4, none⟩ = some c4 ∧ w.cell? ⟨g, 5, none⟩ = some c5 ∧ w.cell? ⟨g, 6, none⟩ = some c6 ∧ w.cell? ⟨g, 7, none⟩ = some c7 ∧ w.cell? ⟨g, 8, none⟩ = some c8 ∧ w.cell? ⟨g, 9, none⟩ = some c9 ∧ w.cell? ⟨g, 10, none⟩ = some c10 := ⟨h.cell 0, h.cell 1, h.cell 2, h.cell 3, h.cell 4, h.cell 5, h.cell 6, h.cell 7, h.cell 8, h.cell 9, h.cell 10⟩
theorem below_map8 {w W0 W1 W2 W3 W4 W5 W6 : World} {m : Nat} (h : Below w.heap.size w W0) (hm : w.heap.size ≤ m) (g1 : W0.grownBy W1 (some m)) (g2 : W1.grownBy W2 (some m)) (g3 : W2.grownBy W3 (some m)) (g4 : W3.grownBy W4 (some m)) (g5 : W4.grownBy W5 (some m)) (g6 : W5.grownBy W6 (some m)) : Below w.heap.size w W6 := by
 have k : ∀ x, some m = some x → w.heap.size ≤ x := fun x e => by cases e; exact hm
 exact (((((h.grown g1 h.size k).grown g2 (Nat.le_trans h.size g1.size) k).grown g3 (Nat.le_trans h.size (Nat.le_trans g1.size g2.size)) k).grown g4 (Nat.le_trans h.size (Nat.le_trans g1.size (Nat.le_trans g2.size g3.size))) k).grown g5 (Nat.le_trans h.size (Nat.le_trans g1.size (Nat.le_trans g2.size (Nat.le_trans g3.size g4.size)))) k).grown g6 (Nat.le_trans h.size (Nat.le_trans g1.size (Nat.le_trans g2.size (Nat.le_trans g3.size (Nat.le_trans g4.size g5.size))))) k
def fnW (f : FuncId) (s : Nat) (dn : List UInt8) (va : Value) : Value := .func (.func f) #[wkV s dn va] #[]
set_option maxRecDepth 100000 in
theorem evalP_c (s : Nat) (ps : List Nat) (L : List DefS) (hL : Sound L) (en : Ent.EntryE) (va : Value) (p : Fil.FilE) (hop : p.op = 7) (t : List Fil.FilE) (v : Value) (w : World) (hf : FilsA w v (p :: t)) (hS : SchAt w s ps L) (hv : AttrsA w va en.attrs) (hl : en.attrs.length ≤ 1000) (hvn : valsN en.attrs ≤ 1000000) (hlt : ∀ a ∈ en.attrs, a.typ.length ≤ 1000000) (ht : p.typ.length ≤ 1000000) (hc : attrC L p.typ = 0) :
  Calls Tryz.prog 24 #[wkV s en.dn va, v] w fun e w' => e = .returned (.int .i64 (knownI (!(Ent.findE (schE L) en p.typ).isEmpty))) ∧ Below w.heap.size w w' := by
 have hP := fun (W : World) (h : Below w.heap.size w W) (vp : Value) (a : AttrS) (nv : Value) => fPresent_c s ps L hL en va p vp a nv W (hS.below h) (hv.below h) hl hvn hlt ht
 have hAt := fun (W : World) (h : Below w.heap.size w W) => AttrU_c s ps L hL p.typ W (hS.below h) (by omega)
 rw [hc] at hAt
 generalize knownI (!(Ent.findE (schE L) en p.typ).isEmpty) = r at *
 generalize attrO L p.typ = ad at *
 obtain ⟨b, o, c, vy, vt, rfl, hcc, ⟨c0, c1, c2, c3, c4, c5, c6⟩, hta, hsl, ht2⟩ := hf.tail
 obtain ⟨A, cc, rfl, _⟩ := hv.at
 have hmm := @run_makeMap Tryz.prog
 have hmf : ∀ (fn : Fn) (first cap : Array Value) (w : World), (Instr.makeFunc fn first cap).run Tryz.prog w = .ok (.func fn first cap) w := fun _ _ _ _ => rfl
 have HP := Lib.hid hP
 have HAt := Lib.hid hAt
 have hi1 : (0 : Int) < (t.length : Int) + 1 := by omega
 obtain ⟨Av, cv, rfl, _⟩ := hta.at
 have hb1 := bel_f1 w (.cells (wkCells s en.dn (.slice A en.attrs.length cc)).toArray 63)
 have k1 := Bk.new w 63 (wkCells s en.dn (.slice A en.attrs.length cc)).toArray
 obtain ⟨W1, hW1⟩ : ∃ W1, w.alloc (.cells (wkCells s en.dn (.slice A en.attrs.length cc)).toArray 63) = W1 := ⟨_, rfl⟩
 have hs1 : W1.heap.size = w.heap.size + 1 := by rw [← hW1]; simp
 rw [hW1] at hb1 k1
 have d0 := (hb1.cell (cell_lt c0)).trans c0
 have d1 := (hb1.cell (cell_lt c1)).trans c1
 have d2 := (hb1.cell (cell_lt c2)).trans c2
 have d3 := (hb1.cell (cell_lt c3)).trans c3
 have d4 := (hb1.cell (cell_lt c4)).trans c4
 have d5 := (hb1.cell (cell_lt c5)).trans c5
 have d6 := (hb1.cell (cell_lt c6)).trans c6
 have hb2 := bel_f1 W1 (.cells (fqCells (p, .slice Av p.any.length cv)).toArray 34)
 have k2 := Bk.new W1 34 (fqCells (p, .slice Av p.any.length cv)).toArray
 rw [hs1] at k2
 have k1' := k1.below hb2
 have HB2 := Lib.hid (hb1.trans (hb2.mono hb1.size))
 obtain ⟨e0, e1, e2⟩ := cells_3 k1'
 obtain ⟨f0, f1, f2, f3, f4, f5, f6⟩ := cells_7 k2
 rw [hop] at d0
 have K1 := Lib.hid k1'
 have K2 := Lib.hid k2
 subst hW1
 clear hP hAt hf hS hv hlt ht hb1 hb2 k1 k1' k2 hs1 hta ht2 hsl c0 c1 c2 c3 c4 c5 c6 hc
 have hent : ∀ (args : Array Value) (W : World), (callFunc 54 args).run Tryz.prog W = .ok (.enter 54 args) W := fun args W => by kernel_rfl
 simp only [wkV, wkCells, filV, attrV, attrCells] at HP HAt
 simp only [wkCells, fqCells, hop] at d0 d1 d2 d3 d4 d5 d6 e0 e1 e2 f0 f1 f2 f3 f4 f5 f6 HB2 K1 K2 HP
 unfold wkV wkCells
 go_enter Tryz.func24, Tryz.ntmps24
 go_wp2_with (first
  | (go_at_call 52; (refine (HAt.out _ (by exact HB2.out)).mono ?_); rintro e w3 ⟨hb3, A3, n3, c3, rfl⟩; have hb4 := bel_f1 w3 (.cells (attrCells ad (.slice A3 n3 c3)) 103); have k4 := Bk.new w3 103 (attrCells ad (.slice A3 n3 c3)); have HB4 := Lib.hid ((HB2.out.trans (hb3.mono HB2.out.size)).trans (hb4.mono (Nat.le_trans HB2.out.size hb3.size))); have q1 := (K1.out.below hb3).below hb4; have q2 := (K2.out.below hb3).below hb4; have hz3 : w.heap.size + 1 < w3.heap.size := Nat.lt_of_lt_of_le (by simp) hb3.size; obtain ⟨W0, W1, W2, W3, W4, W5, W6, hW0, u1, u2, u3, u4, u5, u6, g1, g2, g3, g4, g5, g6, l3, l8, l7, l5, l6, l4⟩ := made_map8 (fnW 53 s en.dn (.slice A en.attrs.length cc)) (fnW 53 s en.dn (.slice A en.attrs.length cc)) (fnW 54 s en.dn (.slice A en.attrs.length cc)) (fnW 55 s en.dn (.slice A en.attrs.length cc)) (fnW 55 s en.dn (.slice A en.attrs.length cc)) (fnW 56 s en.dn (.slice A en.attrs.length cc)) (w3.alloc (.cells (attrCells ad (.slice A3 n3 c3)) 103)); rw [World.size_alloc] at u1 g1 u2 g2 u3 g3 u4 g4 u5 g5 u6 g6 l7; clear l3 l8 l5 l6 l4; have hb5 := bel_f1 (w3.alloc (.cells (attrCells ad (.slice A3 n3 c3)) 103)) (.map #[] 0); rw [← hW0] at hb5; have q1_0 := q1.below hb5; have q2_0 := q2.below hb5; have q4_0 := k4.below hb5; have q1_1 := q1_0.grown g1 (by simp; omega); have q2_1 := q2_0.grown g1 (by simp; omega); have q4_1 := q4_0.grown g1 (by simp); have q1_2 := q1_1.grown g2 (by simp; omega); have q2_2 := q2_1.grown g2 (by simp; omega); have q4_2 := q4_1.grown g2 (by simp); have q1_3 := q1_2.grown g3 (by simp; omega); have q2_3 := q2_2.grown g3 (by simp; omega); have q4_3 := q4_2.grown g3 (by simp); have q1_4 := q1_3.grown g4 (by simp; omega); have q2_4 := q2_3.grown g4 (by simp; omega); have q4_4 := q4_3.grown g4 (by simp); have q1_5 := q1_4.grown g5 (by simp; omega); have q2_5 := q2_4.grown g5 (by simp; omega); have q4_5 := q4_4.grown g5 (by simp); have q1_6 := q1_5.grown g6 (by simp; omega); have q2_6 := q2_5.grown g6 (by simp; omega); have q4_6 := q4_5.grown g6 (by simp); have HB6 : Hid (Below w.heap.size w W6) := Lib.hid (below_map8 (HB4.out.trans (hb5.mono HB4.out.size)) (by omega) g1 g2 g3 g4 g5 g6); obtain ⟨a0_0, a0_1, a0_2⟩ := cells_3 q1_0; obtain ⟨a1_0, a1_1, a1_2⟩ := cells_3 q1_1; obtain ⟨a2_0, a2_1, a2_2⟩ := cells_3 q1_2; obtain ⟨a3_0, a3_1, a3_2⟩ := cells_3 q1_3; obtain ⟨a4_0, a4_1, a4_2⟩ := cells_3 q1_4; obtain ⟨a5_0, a5_1, a5_2⟩ := cells_3 q1_5; obtain ⟨z0, z1, z2, z3, z4, z5, z6⟩ := cells_7 q2_6; obtain ⟨y0, y1, y2, y3, y4, y5, y6, y7, y8, y9, y10⟩ := cells_11 q4_6; subst hW0; clear q1_1 q2_1 q4_1 g1 q1_2 q2_2 q4_2 g2 q1_3 q2_3 q4_3 g3 q1_4 q2_4 q4_4 g4 q1_5 q2_5 q4_5 g5 q1_6 q2_6 q4_6 g6 q1_0 q2_0 q4_0 q1 q2 k4 hb3 hb4 hb5; simp only [fnW, wkV, wkCells, attrCells] at u1 u2 u3 u4 u5 u6 l7 a0_0 a0_1 a0_2)
  | (go_at_call 54; (refine (HP.out _ (by exact HB6.out) _ _ _).mono ?_); rintro e w9 ⟨rfl, hb9⟩))
 go_ret
 exact ⟨rfl, HB6.out.trans (hb9.mono HB6.out.size)⟩
open Go.RowKit
theorem fils_one {W : World} {g : Nat} {p : Fil.FilE} (hp : p.any = []) (h : Bk W g 34 (fqCells (p, .slice none 0 0)).toArray) : FilsA W (.slice (some ⟨g, 0, none⟩) 1 1) [p] := by
 refine ⟨[(p, .slice none 0 0)], rfl, ⟨some ⟨g, 0, none⟩, 1, rfl, Nat.le_refl _, fun j hj => ?_⟩, fun q hq => ?_⟩
 ·obtain rfl : j = 0 := by simpa using hj
  refine ⟨g, 0, rfl, fun k u hu => ?_⟩
  rw [show 0 + 0 * 7 + k = k by omega, h.cell k]
  simpa using hu
 ·obtain rfl := List.mem_singleton.1 hq
  rw [hp]
  exact .inl ⟨rfl, rfl⟩
set_option maxRecDepth 100000 in
theorem evalTop_c (s : Nat) (ps : List Nat) (L : List DefS) (hL : Sound L) (en : Ent.EntryE) (va : Value) (p : Fil.FilE) (hop : p.op = 7) (v : Value) (w : World) (hw : Env w) (hf : FilsA w v [p]) (hS : SchAt w s ps L) (hv : AttrsA w va en.attrs) (hl : en.attrs.length ≤ 1000) (hvn : valsN en.attrs ≤ 1000000) (hlt : ∀ a ∈ en.attrs, a.typ.length ≤ 1000000) (ht : Fil.wgt [p] ≤ 1000000) (hn : NFit [p]) (hc : attrC L p.typ = 0) (hval : Fil.validF [p] = true) :
  Calls Tryz.prog 12 #[.pointer (some ⟨s, 0, none⟩), .agg #[.string ⟨en.dn.toArray⟩, va], v] w fun e w' => e = .returned (.int .i64 (knownI (!(Ent.findE (schE L) en p.typ).isEmpty))) ∧ Below w.heap.size w w' := by
 have htl : p.typ.length ≤ 1000000 := by
  have : filW p ≤ Fil.wgt [p] := by simp [Fil.wgt]
  have := (any_wgt p).2
  omega
 have hE := fun (W : World) (h : Below w.heap.size w W) => evalP_c s ps L hL en va p hop [] v W (hf.below h) (hS.below h) (hv.below h) hl hvn hlt htl hc
 have hV := fun (W : World) (h : Below w.heap.size w W) => fValid_c [p] v W (hw.keep h) (hf.below h) (by omega) hn
 rw [hval] at hV
 have hb1 := bel_f1 w (.cells #[.string ⟨en.dn.toArray⟩, va] 44)
 have k1 := Bk.new w 44 #[.string ⟨en.dn.toArray⟩, va]
 have x0 := k1.cell 0
 have x1 := k1.cell 1
 simp only [List.getElem?_toArray, List.getElem?_cons_zero, List.getElem?_cons_succ] at x0 x1
 have HB1 := Lib.hid hb1
 have HE := Lib.hid hE
 have HV := Lib.hid hV
 obtain ⟨A, c, rfl, _⟩ := hv.at
 obtain ⟨Af, cf, rfl, _⟩ := hf.isSlice
 generalize knownI (!(Ent.findE (schE L) en p.typ).isEmpty) = r at *
 clear hE hV hf hS hv hlt hc hval hb1 k1
 unfold wkV wkCells at HE
 go_enter Tryz.func12, Tryz.ntmps12
 go_wp2_with (first
  | (go_at_call 9; (refine (HV.out _ (by exact HB1.out)).mono ?_); rintro e w2 ⟨rfl, hb2⟩; have HB2 := Lib.hid (HB1.out.trans (hb2.mono HB1.out.size)); have y0 := (hb2.cell (cell_lt x0)).trans x0; have y1 := (hb2.cell (cell_lt x1)).trans x1)
  | (go_at_call 24; (refine (HE.out _ (by exact HB2.out)).mono ?_); rintro e w3 ⟨rfl, hb3⟩))
 go_ret
 exact ⟨rfl, HB2.out.trans (hb3.mono HB2.out.size)⟩
theorem attrsA_nil {w : World} : AttrsA w (.slice none 0 0) [] := ⟨[], rfl, ⟨none, 0, rfl, Nat.le_refl _, fun _ => rfl, fun j hj => absurd hj (by simp)⟩, fun q hq => by cases hq⟩
def cnF : List UInt8 := [99, 110]
theorem cn8_c : attrC baseL cnF = 0 := by decide +kernel
set_option maxRecDepth 100000 in
theorem alive8_c (w : World) (hw : Env w) : Calls Tryz.prog 5 #[] w fun e w' => e = .returned (.bool true) ∧ Below w.heap.size w w' := by
 have HBs := Lib.hid (fun W => Base_c W)
 have HNw : Hid (∀ (va vb : Value) (W : World), Below w.heap.size w W → Texts W va baseA → Texts W vb baseC → Calls Tryz.prog 11 #[va, vb] W fun e w' => Below W.heap.size W w' ∧ ∃ s ps, e = .returned (.tuple #[.pointer (some ⟨s, 0, none⟩), .int .i64 0, .int .i64 0]) ∧ SchAt w' s ps baseL) := Lib.hid fun va vb W h h1 h2 => by
  have := New_c va vb baseA baseC W (hw.keep h) h1 h2 (by rw [baseA_len, baseC_len]; omega) (fun x hx => Nat.le_trans (base_short x hx) (by decide))
  rw [base_new] at this
  exact this
 have HPa : Hid (Calls Tryz.prog 7 #[.string ⟨#[40, 38, 40, 99, 110, 61, 65, 42, 98, 42, 41, 40, 33, 40, 115, 110, 62, 61, 120, 41, 41, 41]⟩] w fun e w' => Below w.heap.size w w' ∧ ∃ v, e = .returned (.tuple #[v, .int .i64 0]) ∧ FilsA w' v Fil.aliveF) := Lib.hid (by
  have := fParse_c Fil.aliveT w hw
  rw [Fil.alive_parse] at this
  exact this)
 have HPr : Hid (∀ W v, Env W → FilsA W v Fil.aliveF → Calls Tryz.prog 6 #[v] W fun e w' => e = .returned (.tuple #[.string ⟨#[40, 38, 40, 99, 110, 61, 65, 42, 98, 42, 41, 40, 33, 40, 115, 110, 62, 61, 120, 41, 41, 41]⟩, .int .i64 0]) ∧ Below W.heap.size W w') := Lib.hid fun W v hW hv => by
  have := fPrint_c Fil.aliveF v W hW hv (by decide) (by intro p hp; simp only [Fil.aliveF, List.mem_cons, List.not_mem_nil, or_false] at hp; rcases hp with rfl | rfl | rfl | rfl <;> decide)
  rw [Fil.alive_print] at this
  exact this
 have HEv : Hid (∀ (W : World) (s : Nat) (ps : List Nat) (v : Value), Env W → SchAt W s ps baseL → FilsA W v [⟨7, 0, cnF, [], [], [], []⟩] → Calls Tryz.prog 12 #[.pointer (some ⟨s, 0, none⟩), .agg #[.string ⟨#[]⟩, .slice none 0 0], v] W fun e w' => e = .returned (.int .i64 0) ∧ Below W.heap.size W w') := Lib.hid fun W s ps v hW hS hv => by
  have := evalTop_c s ps baseL base_sound ⟨[], []⟩ (.slice none 0 0) ⟨7, 0, cnF, [], [], [], []⟩ rfl v W hW hv hS attrsA_nil (by decide) (by decide) (by simp) (by decide) (by intro p hp; obtain rfl := List.mem_singleton.1 hp; decide) cn8_c Fil.alive_pres
  exact this
 have HB : Hid (Below w.heap.size w w) := Lib.hid (Below.refl _ _)
 go_enter Tryz.func5, Tryz.ntmps5
 go_wp2_with (first
  | (go_at_call 7; (with_reducible refine HPa.out.mono ?_); rintro e w1 ⟨hb, v1, rfl, hg1⟩; obtain ⟨A1, c1, rfl, _⟩ := hg1.isSlice; have HG1 := Lib.hid hg1; clear hg1; have HB := Lib.hid hb; clear hb)
  | (go_at_call 6; (refine (HPr.out _ _ (by exact hw.keep HB.out) (by exact HG1.out)).mono ?_); rintro e w2 ⟨rfl, hb⟩; have HB := Lib.hid (HB.out.trans (hb.mono HB.out.size)))
  | (go_at_call 10; (refine (HBs.out _).mono ?_); rintro e w3 ⟨rfl, hb, hA1, hC1⟩; have HB := Lib.hid (HB.out.trans (hb.mono HB.out.size)))
  | (go_at_call 11; (refine (HNw.out _ _ _ (by exact HB.out) hA1.texts hC1.texts).mono ?_); rintro e w4 ⟨hb, s, ps, rfl, hS⟩; have HB := Lib.hid (HB.out.trans (hb.mono HB.out.size)); have hbx := bel_f1 w4 (.cells (fqCells (⟨7, 0, cnF, [], [], [], []⟩, .slice none 0 0)).toArray 34); have HX := Lib.hid (fils_one rfl (Bk.new w4 34 (fqCells (⟨7, 0, cnF, [], [], [], []⟩, .slice none 0 0)).toArray)); have HS := Lib.hid (hS.below hbx); have HB := Lib.hid (HB.out.trans (hbx.mono HB.out.size)))
  | (go_at_call 12; (refine (HEv.out _ s ps _ (by exact hw.keep HB.out) (by exact HS.out) (by exact HX.out)).mono ?_); rintro e w5 ⟨rfl, hb⟩; have HB := Lib.hid (HB.out.trans (hb.mono HB.out.size))))
 go_ret
 exact ⟨rfl, HB.out⟩
end Go.Proofs.YtconnibnpckadaaGreatDoor
