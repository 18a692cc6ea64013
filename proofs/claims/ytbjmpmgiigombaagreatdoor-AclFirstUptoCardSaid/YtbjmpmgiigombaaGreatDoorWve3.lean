import Derived.Test.YtbjmpmgiigombaaGreatDoorWvb9
import Derived.Test.YtbjmpmgiigombaaGreatDoorWve2
set_option linter.all false
set_option maxHeartbeats 8000000
namespace Go.Proofs.YtbjmpmgiigombaaGreatDoor
open Go.RowKit
theorem splitC_none : ∀ l : List UInt8, 44 ∉ l → splitC l = [l]
 | [], _ => rfl
 | c :: t, h => by
  simp only [List.mem_cons, not_or] at h
  rw [splitC, if_neg (by simpa using fun hc => h.1 hc.symm), splitC_none t h.2]
theorem splitC_cut : ∀ (a b : List UInt8), 44 ∉ a → splitC (a ++ 44 :: b) = a :: splitC b
 | [], b, _ => by rw [List.nil_append, splitC, if_pos (by rfl)]
 | c :: a, b, h => by
  simp only [List.mem_cons, not_or] at h
  rw [List.cons_append, splitC, if_neg (by simpa using fun hc => h.1 hc.symm), splitC_cut a b h.2]
theorem index44_none : ∀ l : List UInt8, 44 ∉ l → Lib.index l [44] = -1
 | [], _ => by simp [Lib.index]
 | c :: t, h => by
  simp only [List.mem_cons, not_or] at h
  rw [Lib.index, index44_none t h.2]
  simp [List.isPrefixOf, h.1]
theorem index44_cut : ∀ (a b : List UInt8), 44 ∉ a → Lib.index (a ++ 44 :: b) [44] = (a.length : Int)
 | [], b, _ => by rw [List.nil_append, Lib.index]; simp [List.isPrefixOf]
 | c :: a, b, h => by
  simp only [List.mem_cons, not_or] at h
  rw [List.cons_append, Lib.index, index44_cut a b h.2]
  have : ([44] : List UInt8).isPrefixOf (c :: (a ++ 44 :: b)) = false := by simp [List.isPrefixOf, h.1]
  rw [this]
  simp
theorem cut44 (l : List UInt8) (h : 44 ∈ l) : ∃ a b, l = a ++ 44 :: b ∧ 44 ∉ a := by
 induction l with
 | nil => cases h
 | cons c t ih =>
  by_cases hc : c = 44
  ·exact ⟨[], t, by rw [hc]; rfl, by simp⟩
  ·have ht : 44 ∈ t := (List.mem_cons.1 h).resolve_left (fun he => hc he.symm)
   obtain ⟨a, b, rfl, hn⟩ := ih ht
   refine ⟨c :: a, b, rfl, ?_⟩
   simp only [List.mem_cons, not_or]
   exact ⟨fun he => hc he.symm, hn⟩
theorem commas_eq : ∀ (n : Nat) (l : List UInt8), l.length ≤ n → (Lib.splitB ⟨#[44]⟩ 0 (Lib.countB ⟨l.toArray⟩ ⟨#[44]⟩) ⟨l.toArray⟩).map (·.data.toList) = splitC l := by
 intro n
 induction n with
 | zero =>
  intro l hl
  obtain rfl : l = [] := List.eq_nil_of_length_eq_zero (by omega)
  rw [Lib.countB_miss _ _ (by exact index44_none [] (by simp)), Lib.splitB_zero]
  rfl
 | succ n ih =>
  intro l hl
  by_cases h : 44 ∈ l
  ·obtain ⟨a, b, rfl, hn⟩ := cut44 l h
   have hix : Lib.indexB ⟨(a ++ 44 :: b).toArray⟩ ⟨#[44]⟩ = (a.length : Int) := index44_cut a b hn
   have e1 : (⟨(a ++ 44 :: b).toArray⟩ : ByteArray).extract 0 (a.length + 0) = ⟨a.toArray⟩ := by
    ext1
    simp [ByteArray.data_extract]
   have e2 : (⟨(a ++ 44 :: b).toArray⟩ : ByteArray).extract (a.length + (⟨#[44]⟩ : ByteArray).size) (⟨(a ++ 44 :: b).toArray⟩ : ByteArray).size = ⟨b.toArray⟩ := by
    ext1
    simp [ByteArray.data_extract, ByteArray.size]
    rw [show a.length + (b.length + 1) - (a.length + 1) = b.length by omega, List.take_length]
   rw [Lib.countB_hit _ _ a.length (by decide) hix, e2, Nat.add_comm 1, Lib.splitB_hit _ _ _ _ a.length hix, e1, e2, List.map_cons, ih b (by simp at hl; omega), splitC_cut a b hn]
  ·rw [Lib.countB_miss _ _ (by exact index44_none l h), Lib.splitB_zero, splitC_none l h]
   rfl
theorem splitC_len : ∀ l : List UInt8, (splitC l).length ≤ l.length + 1
 | [] => by simp [splitC]
 | c :: t => by
  have ih := splitC_len t
  rw [splitC]
  split
  ·simp only [List.length_cons]; omega
  ·split
   ·simp
   ·next x l h => rw [h] at ih; simp only [List.length_cons] at ih ⊢; omega
theorem splitC_sub : ∀ (l x : List UInt8), x ∈ splitC l → x.length ≤ l.length
 | [], x, h => by simp [splitC] at h; subst h; simp
 | c :: t, x, h => by
  rw [splitC] at h
  split at h
  ·rcases List.mem_cons.1 h with rfl | h
   ·simp
   ·have := splitC_sub t x h; simp; omega
  ·split at h
   ·simp at h; subst h; simp
   ·next y l hy =>
    rcases List.mem_cons.1 h with rfl | h
    ·have := splitC_sub t y (by rw [hy]; exact List.mem_cons_self ..); simp; omega
    ·have := splitC_sub t x (by rw [hy]; exact List.mem_cons_of_mem _ h); simp; omega
theorem SplitC_c (l : List UInt8) (w : World) (hw : Env w) (hl : l.length ≤ 65536) :
  Calls Tryz.prog 23 #[.string ⟨l.toArray⟩, .string ⟨#[44]⟩] w fun e w' => e = .returned (.slice (some ⟨w.heap.size, 0, none⟩) (splitC l).length (splitC l).length) ∧ Below w.heap.size w w' ∧ Own w.heap.size w' (.slice (some ⟨w.heap.size, 0, none⟩) (splitC l).length (splitC l).length) (splitC l) := by
 obtain ⟨m, hm⟩ := hw.mx
 have hc := commas_eq l.length l (Nat.le_refl _)
 have hn : (splitC l).length = Lib.countB ⟨l.toArray⟩ ⟨#[44]⟩ + 1 := by
  rw [← hc, List.length_map]
  exact Lib.splitB_all ⟨#[44]⟩ (by decide) 0 _ _ rfl
 refine (Tryz.strings_Split ⟨l.toArray⟩ ⟨#[44]⟩ m w (by simp [ByteArray.size]; omega) hm (by decide)).mono ?_
 rintro e w' ⟨rfl, rfl⟩
 rw [← hn]
 have hlen := splitC_len l
 have hown := own_new w (Nat.le_refl _) (splitC l) (by omega)
 have hcells : (Lib.splitB ⟨#[44]⟩ 0 (Lib.countB ⟨l.toArray⟩ ⟨#[44]⟩) ⟨l.toArray⟩).map Value.string = (splitC l).map strV := by
  rw [← hc, List.map_map]
  refine List.map_congr_left fun x _ => ?_
  simp [strV]
 rw [hcells]
 exact ⟨rfl, (Below.refl _ _).alloc (Nat.le_refl _) _, hown⟩
def gCells (g : GrantS) : List Value := [.int .i64 g.who, .string ⟨g.name.toArray⟩, .int .i64 g.level]
theorem gflat_at : ∀ (l : List GrantS) (j k : Nat) (u : Value) (h : j < l.length), (gCells l[j])[k]? = some u → (l.flatMap gCells)[j * 3 + k]? = some u
 | [], j, k, u, h, _ => absurd h (by simp)
 | q :: l, 0, k, u, h, hu => by
  have hk : k < 3 := (List.getElem?_eq_some_iff.1 hu).1
  rw [List.flatMap_cons, Nat.zero_mul, Nat.zero_add, List.getElem?_append_left (by exact hk)]
  exact hu
 | q :: l, j + 1, k, u, h, hu => by
  have h3 : (gCells q).length = 3 := rfl
  rw [List.flatMap_cons, List.getElem?_append_right (by rw [h3]; omega), h3, show (j + 1) * 3 + k - 3 = j * 3 + k by omega]
  exact gflat_at l j k u (by simpa using h) hu
def OwnGr (B : Nat) (w : World) (v : Value) (gs : List GrantS) : Prop := w.ownsRow B 61 3 v gs.length (gs.flatMap gCells) ∧ B ≤ w.heap.size
theorem OwnGr.nil {B : Nat} {w : World} (hB : B ≤ w.heap.size) : OwnGr B w (.slice none 0 0) [] := ⟨World.ownsRow_nil _ _ _ _, hB⟩
theorem OwnGr.lt {B : Nat} {w : World} {v : Value} {qs : List GrantS} (h : OwnGr B w v qs) : ∀ k, v.ownBlock = some k → B ≤ k ∧ k < w.heap.size := fun k hk => h.1.lt k hk
theorem OwnGr.keep {B : Nat} {w w' : World} {v : Value} {qs : List GrantS} (h : OwnGr B w v qs) {r : Option Nat} (hg : w.grownBy w' r) (hr : ∀ k, r = some k → k < B) : OwnGr B w' v qs := by
 refine ⟨h.1.kept hg ?_, Nat.le_trans h.2 hg.size⟩
 rcases hv : v.ownBlock with _ | g
 ·exact .inl rfl
 ·refine .inr ?_
  intro he
  have := hr g he.symm
  have := (h.1.lt g hv).1
  omega
theorem OwnGr.below {B : Nat} {w w' : World} {v : Value} {qs : List GrantS} (h : OwnGr B w v qs) (hb : Below w.heap.size w w') : OwnGr B w' v qs := h.keep (grown_below hb none) (fun k hk => by cases hk)
theorem OwnGr.isSlice {B : Nat} {w : World} {v : Value} {qs : List GrantS} (h : OwnGr B w v qs) : ∃ A c, v = .slice A qs.length c ∧ qs.length ≤ c := by
 obtain ⟨⟨h1, h2⟩, h3⟩ := h
 rcases h2 with ⟨rfl, hn⟩ | ⟨g, cap, cur, rfl, r2, r3, r4, _⟩
 ·exact ⟨none, 0, by rw [hn], by omega⟩
 ·exact ⟨_, cap, rfl, r4⟩
theorem OwnGr.bel {B : Nat} {W w w' : World} {v : Value} {qs : List GrantS} (hb : Below B W w) (hO : OwnGr B w v qs) (hg : w.grownBy w' v.ownBlock) : Below B W w' := hb.grown hg hO.2 (fun k hk => (hO.lt k hk).1)
theorem OwnGr.reads {B : Nat} {w : World} {v : Value} {gs : List GrantS} (h : OwnGr B w v gs) : GrantsA w v gs := by
 obtain ⟨⟨h1, h2⟩, h3⟩ := h
 rcases h2 with ⟨rfl, hn⟩ | ⟨g, cap, cur, rfl, r2, r3, r4, r5, r6, r7⟩
 ·have : gs = [] := List.eq_nil_of_length_eq_zero hn
  subst this
  exact ⟨none, 0, rfl, Nat.le_refl _, fun j hj => absurd hj (by simp)⟩
 ·have at' : ∀ j (hj : j < gs.length) k u, (gCells gs[j])[k]? = some u → w.cell? ⟨g, 0 + j * 3 + k, none⟩ = some u := by
   intro j hj k u hu
   have hf := gflat_at gs j k u hj hu
   have hk : k < 3 := (List.getElem?_eq_some_iff.1 hu).1
   rw [← r7, List.getElem?_take, if_pos (by omega)] at hf
   simp only [World.cell?, r3, Nat.zero_add]
   simpa using hf
  exact ⟨_, cap, rfl, r4, fun j hj => ⟨g, 0, rfl, at' j hj 0 _ rfl, at' j hj 1 _ rfl, at' j hj 2 _ rfl⟩⟩
theorem infoGrant : ∃ i, Tryz.prog.info? 61 = some i ∧ i.zero = some (.agg #[.int .i64 0, .string ⟨#[]⟩, .int .i64 0]) ∧ i.size = 3 ∧ i.bytes = 32 := by
 obtain ⟨i, h1, h2, h3, h4⟩ := info_parts (show (Tryz.prog.info? 61).map (fun i => (i.zero, i.size, i.bytes)) = some (some (.agg #[.int .i64 0, .string ⟨#[]⟩, .int .i64 0]), 3, 32) by kernel_rfl)
 exact ⟨i, h1, h2, h3, h4⟩
theorem grant_one {ops : Array Oper} {rest : List Oper} {o : Oper} {a : Act} {Q : Exit → Act → World → Prop} (hgd : o.guard = none) (s x : Operand) (ho : o.op = .call { callee := .builtin .append, args := #[s, x], argTypes := #[45, 45] })
  {v : Value} {gs : List GrantS} {B N : Nat} {w0 : World} {g : GrantS} (hs : a.eval s = v) (hb : OwnGr B w0 v gs)
  (hx : a.eval x = .slice (some ⟨N, 0, none⟩) 1 1) (hN : N = w0.heap.size) (hlen : gs.length < 1000000)
  (h : ∀ v' w', OwnGr B w' v' (gs ++ [g]) → w0.grownBy w' v.ownBlock → wpList Tryz.prog ops Q rest (a.put o.dst v') w') : wpList Tryz.prog ops Q (o :: rest) a (w0.alloc (.cells #[.int .i64 g.who, .string ⟨g.name.toArray⟩, .int .i64 g.level] 61)) := by
 subst hN
 obtain ⟨i, h1, h2, h3, h4⟩ := infoGrant
 have hb' := hb.keep (World.grownBy_alloc w0 (.cells #[.int .i64 g.who, .string ⟨g.name.toArray⟩, .int .i64 g.level] 61) none) (fun k hk => by cases hk)
 refine wpList_append_own _ hgd s x 45 ho B 61 i (.agg #[.int .i64 0, .string ⟨#[]⟩, .int .i64 0]) 3 32 Tryz.underlying45 h1 h2 h3 h4 rfl (by decide) v _ _ hs hb'.1 ⟨w0.heap.size, 0, none⟩ 1 1 (gCells g) hx rfl ?_ ?_ (by unfold maxLen; omega) (by omega) hb'.2 ?_
 ·intro j y hj
  match j, hj with
  | 0, hj => simp [gCells] at hj; subst hj; simp [Addr.add]
  | 1, hj => simp [gCells] at hj; subst hj; simp [Addr.add]
  | 2, hj => simp [gCells] at hj; subst hj; simp [Addr.add]
  | (j + 3), hj => simp [gCells] at hj
 ·intro y hy; simp [gCells] at hy; rcases hy with rfl | rfl | rfl <;> rfl
 ·intro v' w' ho' hg _
  refine h v' w' ⟨?_, Nat.le_trans hb'.2 hg.size⟩ (World.grownBy.trans (World.grownBy_alloc _ _ _) hg)
  simpa using ho'
theorem parse1_c (k : Nat) (w : World) : Calls Tryz.prog 21 #[.int .i64 k] w fun e w' => e = .returned (.bool ((k : Nat) != 0)) ∧ w = w' := by
 by_cases hk : k = 0
 ·subst hk
  go_enter Tryz.func21, Tryz.ntmps21
  go_wp2_with fail
  go_ret
  exact ⟨rfl, rfl⟩
 ·have hne : ((k : Int) != 0) = true := bne_iff_ne.2 (by omega)
  have hne2 : (k != 0) = true := bne_iff_ne.2 hk
  rw [hne2]
  go_enter Tryz.func21, Tryz.ntmps21
  go_wp2_with fail
  go_ret
  exact ⟨rfl, rfl⟩
theorem parse2_c (t : List UInt8) (w : World) (hw : Env w) (hl : t.length ≤ 1099511627776) : Calls Tryz.prog 26 #[.string ⟨t.toArray⟩] w fun e w' => e = .returned (.bool (!isTypeL t)) ∧ Below w.heap.size w w' := by
 have HT := Lib.hid (IsType_c t w hw hl)
 go_enter Tryz.func26, Tryz.ntmps26
 go_wp2_with (go_at_call 27; (with_reducible refine HT.out.mono ?_); rintro e w2 ⟨rfl, hb⟩)
 go_ret
 exact ⟨rfl, hb⟩
def grantsOk {α : Type} (o : Option (List GrantS × List α)) : Option (List GrantS) := match o with
 | none => none
 | some (gs, rest) => if !rest.isEmpty || gs.isEmpty then none else some gs
def restP (l : List (List UInt8)) : Option (List (List UInt8) × List GrantS) := if (attrsP l).1.any (fun t => !isTypeL t) then none else (grantsOk (grantsP (attrsP l).2 [])).map fun gs => ((attrsP l).1, gs)
def ruleP (l : List (List UInt8)) : Option RuleS := match l with
 | t :: k :: l => if t == wTo then (match kindA k whatWs (fun k => k != 0) with
  | none => none
  | some (what, name) => (restP l).map fun x => ⟨what, name, x.1, x.2⟩) else none
 | _ => none
theorem parseA_rule (text : List UInt8) : parseA text = (if 65536 < text.length then ((2 : Int), noRule) else match (aclWords text).bind ruleP with
  | none => ((100 : Int), noRule)
  | some r => ((0 : Int), r)) := by
 unfold parseA
 split
 ·rfl
 ·cases aclWords text with
  | none => rfl
  | some l =>
   match l with
   | [] => rfl
   | [t] => rfl
   | t :: k :: l =>
    simp only [Option.bind_some, ruleP]
    by_cases ht : (t == wTo) = true
    ·have : (t != wTo) = false := by rw [bne, ht]; rfl
     rw [this, if_pos ht]
     simp only [Bool.false_eq_true, if_false]
     cases kindA k whatWs (fun k => k != 0) with
     | none => rfl
     | some x =>
      obtain ⟨what, name⟩ := x
      simp only
      unfold restP
      split
      ·rfl
      ·unfold grantsOk
       cases grantsP (attrsP l).2 [] with
       | none => rfl
       | some y =>
        obtain ⟨gs, rest⟩ := y
        simp only
        split <;> rfl
    ·have : (t != wTo) = true := by rw [bne]; simp [ht]
     rw [this, if_neg ht]
     rfl
open Go.RowKit
theorem own_first {B : Nat} {w : World} {v : Value} {t k : List UInt8} {l : List (List UInt8)} (h : Own B w v (t :: k :: l)) : ∃ g c, v = .slice (some ⟨g, 0, none⟩) (l.length + 2) c ∧ l.length + 2 ≤ c ∧ w.cell? ⟨g, 0, none⟩ = some (.string ⟨t.toArray⟩) := by
 obtain ⟨A, c, rfl, hc⟩ := h.isSlice
 obtain ⟨g, e, hx⟩ := texts_at h.texts (k := 0) (by simp)
 subst e
 exact ⟨g, c, rfl, by simpa using hc, by simpa using hx⟩
def rule0 : Array Value := #[.int .i64 0, .string ⟨#[]⟩, .slice none 0 0, .slice none 0 0]
def AParseRet (w : World) (x : Int × RuleS) (e : Ending) (w' : World) : Prop := Below w.heap.size w w' ∧ ∃ va vg, e = .returned (.tuple #[ruleArg x.2 va vg, .int .i64 x.1]) ∧ Own w.heap.size w' va x.2.attrs ∧ OwnGr w.heap.size w' vg x.2.grants
theorem bk_set4 {g : Nat} {w : World} {t : TypeId} (c0 c1 c2 c3 v0 v1 v2 v3 : Value) (h : Bk w g t #[c0, c1, c2, c3]) : Bk ((((w.setCell ⟨g, 0, none⟩ v0).setCell ⟨g, 1, none⟩ v1).setCell ⟨g, 2, none⟩ v2).setCell ⟨g, 3, none⟩ v3) g t #[v0, v1, v2, v3] := by
 simpa using (((h.set 0 v0).set 1 v1).set 2 v2).set 3 v3
theorem below_set4 {B g : Nat} {a w : World} (h : Below B a w) (hg : B ≤ g) (v0 v1 v2 v3 : Value) : Below B a ((((w.setCell ⟨g, 0, none⟩ v0).setCell ⟨g, 1, none⟩ v1).setCell ⟨g, 2, none⟩ v2).setCell ⟨g, 3, none⟩ v3) := (((h.setCell hg v0).setCell hg v1).setCell hg v2).setCell hg v3
theorem aparse_out {w W : World} {x : Int × RuleS} {tmps : Array Value} {v0 v1 v2 v3 : Value} {er : Int} (hz : Bk W w.heap.size 47 #[v0, v1, v2, v3]) (h2 : tmps[2]? = some (.pointer (some ⟨w.heap.size, 0, none⟩))) (h3 : tmps[3]? = some (.int .i64 er))
  (h : AParseRet w x (.returned (.tuple #[.agg #[v0, v1, v2, v3], .int .i64 er])) W) :
  bodyPost Tryz.prog Tryz.f7 (AParseRet w x) .ret { tmps := tmps, defers := [] } W := by
 have e2 : tmps[2]?.getD undef = .pointer (some ⟨w.heap.size, 0, none⟩) := by rw [h2]; rfl
 have e3 : tmps[3]?.getD undef = .int .i64 er := by rw [h3]; rfl
 have c0 := hz.cell 0
 have c1 := hz.cell 1
 have c2 := hz.cell 2
 have c3 := hz.cell 3
 simp only [List.getElem?_toArray, List.getElem?_cons_zero, List.getElem?_cons_succ] at c0 c1 c2 c3
 refine bodyPost_ret (v := .tuple #[.agg #[v0, v1, v2, v3], .int .i64 er]) ?_ rfl h
 simp [results, Tryz.results7, go_sem, e2, e3, c0, c1, c2, c3]
theorem parse_zero {w w1 : World} {code : Int} (hb : Below w.heap.size w w1) : AParseRet w (code, noRule) (.returned (.tuple #[.agg #[.int .i64 0, .string ⟨#[]⟩, .slice none 0 0, .slice none 0 0], .int .i64 code])) w1 :=
 ⟨hb, .slice none 0 0, .slice none 0 0, rfl, Own.nil hb.size, OwnGr.nil hb.size⟩
set_option maxRecDepth 100000 in
theorem Parse_long (s : List UInt8) (w : World) (hs : 65536 < s.length) (hs2 : s.length ≤ 4611686018427387904) : Calls Tryz.prog 7 #[.string ⟨s.toArray⟩] w (AParseRet w (2, noRule)) := by
 have hb0 : Below w.heap.size w (w.alloc (.cells rule0 47)) := (Below.refl _ _).alloc (Nat.le_refl _) _
 have hk : Bk (w.alloc (.cells rule0 47)) w.heap.size 47 #[.int .i64 0, .string ⟨#[]⟩, .slice none 0 0, .slice none 0 0] := Bk.new w _ _
 have hget := ba_get
 have hext := ba_ext
 unfold rule0 at hb0 hk
 go_enter Tryz.func7, Tryz.ntmps7
 go_wp2_with fail
 exact aparse_out (er := 2) hk rfl rfl (parse_zero hb0)
set_option maxRecDepth 100000 in
theorem Parse_nowords (s : List UInt8) (w : World) (hs : s.length ≤ 65536) (ha : aclWords s = none) : Calls Tryz.prog 7 #[.string ⟨s.toArray⟩] w (AParseRet w (100, noRule)) := by
 have hb0 : Below w.heap.size w (w.alloc (.cells rule0 47)) := (Below.refl _ _).alloc (Nat.le_refl _) _
 have hk : Bk (w.alloc (.cells rule0 47)) w.heap.size 47 #[.int .i64 0, .string ⟨#[]⟩, .slice none 0 0, .slice none 0 0] := Bk.new w _ _
 have hW := aclWords_c s (w.alloc (.cells rule0 47)) (by omega)
 rw [ha] at hW
 have HW : Hid (Calls Tryz.prog 18 #[.string ⟨s.toArray⟩] (w.alloc (.cells rule0 47)) fun e w' => Below (w.alloc (.cells rule0 47)).heap.size (w.alloc (.cells rule0 47)) w' ∧ ∃ v, e = .returned (.tuple #[v, .bool false]) ∧ Own (w.alloc (.cells rule0 47)).heap.size w' v []) := Lib.hid hW
 have hget := ba_get
 have hext := ba_ext
 unfold rule0 at hb0 hk HW
 clear hW
 go_enter Tryz.func7, Tryz.ntmps7
 go_wp2_with (go_at_call 18; refine HW.out.mono ?_; rintro e w1 ⟨hb1, v, rfl, hO⟩; obtain ⟨A, c, rfl, hc⟩ := hO.isSlice; have hk1 := hk.below hb1; have oc0 := hk1.cell 0; have oc1 := hk1.cell 1; have oc2 := hk1.cell 2; have oc3 := hk1.cell 3; have of0 := hk1.frozen 0; have of1 := hk1.frozen 1; have of2 := hk1.frozen 2; have of3 := hk1.frozen 3; simp only [List.getElem?_toArray, List.getElem?_cons_zero, List.getElem?_cons_succ] at oc0 oc1 oc2 oc3; have hB1 := hb0.trans (hb1.mono hb0.size))
 have hz := bk_set4 _ _ _ _ (.int .i64 0) (.string ⟨#[]⟩) (.slice none 0 0) (.slice none 0 0) hk1
 exact aparse_out (er := 100) hz rfl rfl (parse_zero (below_set4 hB1 (Nat.le_refl _) _ _ _ _))
set_option maxRecDepth 100000 in
theorem Parse_few (s : List UInt8) (w : World) (hs : s.length ≤ 65536) (l : List (List UInt8)) (ha : aclWords s = some l) (hl : l.length < 2) : Calls Tryz.prog 7 #[.string ⟨s.toArray⟩] w (AParseRet w (100, noRule)) := by
 have hb0 : Below w.heap.size w (w.alloc (.cells rule0 47)) := (Below.refl _ _).alloc (Nat.le_refl _) _
 have hk : Bk (w.alloc (.cells rule0 47)) w.heap.size 47 #[.int .i64 0, .string ⟨#[]⟩, .slice none 0 0, .slice none 0 0] := Bk.new w _ _
 have hW := aclWords_c s (w.alloc (.cells rule0 47)) (by omega)
 rw [ha] at hW
 have HW : Hid (Calls Tryz.prog 18 #[.string ⟨s.toArray⟩] (w.alloc (.cells rule0 47)) fun e w' => Below (w.alloc (.cells rule0 47)).heap.size (w.alloc (.cells rule0 47)) w' ∧ ∃ v, e = .returned (.tuple #[v, .bool true]) ∧ Own (w.alloc (.cells rule0 47)).heap.size w' v l) := Lib.hid hW
 have hget := ba_get
 have hext := ba_ext
 unfold rule0 at hb0 hk HW
 clear hW
 go_enter Tryz.func7, Tryz.ntmps7
 go_wp2_with (go_at_call 18; refine HW.out.mono ?_; rintro e w1 ⟨hb1, v, rfl, hO⟩; obtain ⟨A, c, rfl, hc⟩ := hO.isSlice; have hk1 := hk.below hb1; have oc0 := hk1.cell 0; have oc1 := hk1.cell 1; have oc2 := hk1.cell 2; have oc3 := hk1.cell 3; have of0 := hk1.frozen 0; have of1 := hk1.frozen 1; have of2 := hk1.frozen 2; have of3 := hk1.frozen 3; simp only [List.getElem?_toArray, List.getElem?_cons_zero, List.getElem?_cons_succ] at oc0 oc1 oc2 oc3; have hB1 := hb0.trans (hb1.mono hb0.size))
 have hz := bk_set4 _ _ _ _ (.int .i64 0) (.string ⟨#[]⟩) (.slice none 0 0) (.slice none 0 0) hk1
 exact aparse_out (er := 100) hz rfl rfl (parse_zero (below_set4 hB1 (Nat.le_refl _) _ _ _ _))
set_option maxRecDepth 100000 in
theorem Parse_noto (s : List UInt8) (w : World) (hs : s.length ≤ 65536) (t k : List UInt8) (l : List (List UInt8)) (ha : aclWords s = some (t :: k :: l)) (ht : (t == wTo) = false) : Calls Tryz.prog 7 #[.string ⟨s.toArray⟩] w (AParseRet w (100, noRule)) := by
 have hb0 : Below w.heap.size w (w.alloc (.cells rule0 47)) := (Below.refl _ _).alloc (Nat.le_refl _) _
 have hk : Bk (w.alloc (.cells rule0 47)) w.heap.size 47 #[.int .i64 0, .string ⟨#[]⟩, .slice none 0 0, .slice none 0 0] := Bk.new w _ _
 have hW := aclWords_c s (w.alloc (.cells rule0 47)) (by omega)
 rw [ha] at hW
 have HW : Hid (Calls Tryz.prog 18 #[.string ⟨s.toArray⟩] (w.alloc (.cells rule0 47)) fun e w' => Below (w.alloc (.cells rule0 47)).heap.size (w.alloc (.cells rule0 47)) w' ∧ ∃ v, e = .returned (.tuple #[v, .bool true]) ∧ Own (w.alloc (.cells rule0 47)).heap.size w' v (t :: k :: l)) := Lib.hid hW
 have hget := ba_get
 have hext := ba_ext
 have ht2 : (t == [116, 111]) = false := ht
 unfold rule0 at hb0 hk HW
 clear hW ht
 have hl2 : ∀ n : Nat, ¬ (((n + 2 : Nat) : Int) < 2) := fun n => by omega
 go_enter Tryz.func7, Tryz.ntmps7
 go_wp2_with (go_at_call 18; refine HW.out.mono ?_; rintro e w1 ⟨hb1, v, rfl, hO⟩; obtain ⟨g, c, rfl, hc, hgc⟩ : ∃ g c, v = .slice (some ⟨g, 0, none⟩) (l.length + 2) c ∧ l.length + 2 ≤ c ∧ w1.cell? ⟨g, 0, none⟩ = some (.string ⟨t.toArray⟩) := own_first hO; have hk1 := hk.below hb1; have oc0 := hk1.cell 0; have oc1 := hk1.cell 1; have oc2 := hk1.cell 2; have oc3 := hk1.cell 3; have of0 := hk1.frozen 0; have of1 := hk1.frozen 1; have of2 := hk1.frozen 2; have of3 := hk1.frozen 3; simp only [List.getElem?_toArray, List.getElem?_cons_zero, List.getElem?_cons_succ] at oc0 oc1 oc2 oc3; have hB1 := hb0.trans (hb1.mono hb0.size))
 have hz := bk_set4 _ _ _ _ (.int .i64 0) (.string ⟨#[]⟩) (.slice none 0 0) (.slice none 0 0) hk1
 exact aparse_out (er := 100) hz rfl rfl (parse_zero (below_set4 hB1 (Nat.le_refl _) _ _ _ _))
end Go.Proofs.YtbjmpmgiigombaaGreatDoor
