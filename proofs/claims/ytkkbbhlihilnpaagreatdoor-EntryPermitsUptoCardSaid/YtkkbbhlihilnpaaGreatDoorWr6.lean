import Derived.Test.YtkkbbhlihilnpaaGreatDoorWr3
import Derived.Test.YtkkbbhlihilnpaaGreatDoorWr4
set_option linter.all false
set_option maxHeartbeats 8000000
set_option maxRecDepth 100000
namespace Go.Proofs.YtkkbbhlihilnpaaGreatDoor
open Go.RowKit
def atI : Option Nat → Int
 | none => -1
 | some k => k
theorem idx_hit {α : Type} {P : α → Bool} {l : List α} {k : Nat} (hk : k < l.length) (h : ∀ y ∈ l.take k, P y = false) (hp : P l[k] = true) : l.findIdx? P = some k := by
 rw [List.findIdx?_eq_some_iff_getElem]
 refine ⟨hk, hp, fun j hj => ?_⟩
 have : l[j] ∈ l.take k := List.mem_take_iff_getElem.2 ⟨j, by omega, rfl⟩
 simp [h _ this]
theorem idx_miss {α : Type} {P : α → Bool} {l : List α} (h : ∀ y ∈ l, P y = false) : l.findIdx? P = none := by
 rw [List.findIdx?_eq_none_iff]
 exact fun y hy => h y hy
theorem take_next {α : Type} {P : α → Bool} {l : List α} {k : Nat} (hk : k < l.length) (h : ∀ y ∈ l.take k, P y = false) (hp : P l[k] = false) : ∀ y ∈ l.take (k + 1), P y = false := by
 intro y hy
 rw [List.take_succ_eq_append_getElem hk] at hy
 rcases List.mem_append.1 hy with hy | hy
 ·exact h y hy
 ·rw [List.mem_singleton.1 hy]; exact hp
theorem idx_any {α : Type} {P : α → Bool} (l : List α) : decide (0 ≤ atI (l.findIdx? P)) = l.any P := by
 cases h : l.findIdx? P with
 | none =>
  rw [List.findIdx?_eq_none_iff] at h
  have : l.any P = false := by
   rw [List.any_eq_false]
   intro y hy
   simp [h y hy]
  rw [this]; rfl
 | some k =>
  obtain ⟨hk, hp, _⟩ := List.findIdx?_eq_some_iff_getElem.1 h
  have : l.any P = true := List.any_eq_true.2 ⟨_, List.getElem_mem hk, hp⟩
  rw [this]; simp [atI]
structure AskAt (w : World) (f : FuncId) (cap : Array Value) (l : List Ent.AttrE) (P : Ent.AttrE → Bool) : Prop where
 call : ∀ x ∈ l, ∀ (vx : Value) W, vx.oneCell' = true → Below w.heap.size w W → Calls Tryz.prog f (#[.agg #[.string ⟨x.typ.toArray⟩, vx]] ++ cap) W fun e W' => e = .returned (.bool (P x)) ∧ Below W.heap.size W W'
 enter : ∀ (args : Array Value) (W : World), (callFunc f args).run Tryz.prog W = .ok (.enter f args) W
theorem IndexFuncAt_c (f : FuncId) (cap : Array Value) (l : List Ent.AttrE) (v : Value) (w : World) (hv : AttrsA w v l) (hl : l.length ≤ 1000000) (P : Ent.AttrE → Bool) (hF : AskAt w f cap l P) :
  Calls Tryz.prog 131 #[v, .func (.func f) #[] cap] w fun e w' => e = .returned (.int .i64 (atI (l.findIdx? P))) ∧ Below w.heap.size w w' := by
 obtain ⟨R, hR⟩ : ∃ R, atI (l.findIdx? P) = R := ⟨_, rfl⟩
 rw [hR]
 have HF := hiD hF.call
 have hent := hF.enter
 clear hF
 obtain ⟨A, c, rfl, hc, hcell⟩ := hv.at
 have HV := hiD hcell
 have HR := hiD hR
 clear hv hcell hR
 have hadd := add_at2
 go_enter Tryz.func131, Tryz.ntmps131
 go_wp2_with fail
 go_loopg [8] l.length (fun gk i wr => ∃ k : Nat, k ≤ l.length ∧ i = .int .i64 k ∧ Aside (k + gk = l.length) ∧ Below w.heap.size w wr ∧ Aside (∀ y ∈ l.take k, P y = false))
 case atStart => exact ⟨0, by omega, rfl, by show _ = _; omega, Below.refl _ _, fun y hy => (by simp at hy)⟩
 case round =>
  obtain ⟨k, hk, rfl, AG, hB, AS⟩ := hrel
  by_cases hlt : k < l.length
  ·obtain ⟨q, rfl⟩ : ∃ q, gk = q + 1 := ⟨gk - 1, by have := AG.out; omega⟩
   obtain ⟨b, o, va, rfl, c0, c1, hta⟩ := HV.out k hlt
   obtain ⟨Av, nv, cv, rfl⟩ : ∃ A n c, va = .slice A n c := by
    obtain ⟨A, c, h, _⟩ := hta.at
    exact ⟨A, _, c, h⟩
   have d0 := (hB.cell (cell_lt c0)).trans c0
   have d1 := (hB.cell (cell_lt c1)).trans c1
   have hC := HF.out l[k] (List.getElem_mem hlt) (.slice Av nv cv) wr rfl hB
   have HN := hiD (fun h => take_next hlt AS.out h)
   have HH := hiD (fun h => idx_hit hlt AS.out h)
   clear AS c0 c1 hta
   generalize l[k] = x at hC HN HH d0 d1
   cases hP : P x
   all_goals
    rw [hP] at hC HN HH
    have HC := hiD hC
    clear hP hC
   ·go_wp2_with ((with_reducible refine HC.out.mono ?_); rintro e w2 ⟨rfl, hb2⟩)
    go_roundg q
    case measure => omega
    case rel => exact ⟨k + 1, by omega, by go_num, by have := AG.out; show _ = _; omega, hB.trans (hb2.mono hB.size), HN.out trivial⟩
   ·go_wp2_with ((with_reducible refine HC.out.mono ?_); rintro e w2 ⟨rfl, hb2⟩)
    go_ret
    refine ⟨?_, hB.trans (hb2.mono hB.size)⟩
    rw [← HR.out, HH.out trivial]
    rfl
  ·obtain rfl : k = l.length := by omega
   have HM := hiD (idx_miss (P := P) (l := l) (fun y hy => AS.out y (by rw [List.take_length]; exact hy)))
   clear AS
   go_wp2_with fail
   go_ret
   refine ⟨?_, hB⟩
   rw [← HR.out, HM.out]
   rfl
theorem ContainsFuncAt_c (f : FuncId) (cap : Array Value) (l : List Ent.AttrE) (v : Value) (w : World) (hv : AttrsA w v l) (hl : l.length ≤ 1000000) (P : Ent.AttrE → Bool) (hF : AskAt w f cap l P) :
  Calls Tryz.prog 74 #[v, .func (.func f) #[] cap] w fun e w' => e = .returned (.bool (l.any P)) ∧ Below w.heap.size w w' := by
 have hI := IndexFuncAt_c f cap l v w hv hl P hF
 have hi := idx_any (P := P) l
 obtain ⟨i, hie⟩ : ∃ i, atI (l.findIdx? P) = i := ⟨_, rfl⟩
 rw [hie] at hI hi
 have Hi := hiD hi
 obtain ⟨A, c, rfl, hc⟩ := hv.isSlice
 clear hF hv hie hi
 go_enter Tryz.func74, Tryz.ntmps74
 go_wp2_with (go_at_call 131; refine hI.mono ?_; rintro e w1 ⟨rfl, hb1⟩)
 all_goals
  go_ret
  exact ⟨retb (by rw [← Hi.out]), hb1⟩
theorem IndexFuncSA_c (f : FuncId) (cap : Array Value) (xs : LL) (v : Value) (w : World) (hv : TextsA w v xs) (hl : xs.length ≤ 4611686018427387904) (P : LU → Bool) (hF : AskS w f cap xs P) :
  Calls Tryz.prog 85 #[v, .func (.func f) #[] cap] w fun e w' => (∃ i : Int, e = .returned (.int .i64 i) ∧ decide (0 ≤ i) = xs.any P) ∧ Below w.heap.size w w' := by
 have HF := hiD hF.call
 have hent := hF.enter
 clear hF
 obtain ⟨A, c, rfl, hc, hcell⟩ := hv.at
 have HV := hiD hcell
 clear hv hcell
 go_enter Tryz.func85, Tryz.ntmps85
 go_wp2_with fail
 go_loopg [8] xs.length (fun gk i wr => ∃ k : Nat, k ≤ xs.length ∧ i = .int .i64 k ∧ Aside (k + gk = xs.length) ∧ Below w.heap.size w wr ∧ Aside (xs.any P = (xs.drop k).any P))
 case atStart => exact ⟨0, by omega, rfl, by show _ = _; omega, Below.refl _ _, rfl⟩
 case round =>
  obtain ⟨k, hk, rfl, AG, hB, AS⟩ := hrel
  by_cases hlt : k < xs.length
  ·obtain ⟨q, rfl⟩ : ∃ q, gk = q + 1 := ⟨gk - 1, by have := AG.out; omega⟩
   obtain ⟨a, rfl, c0⟩ := HV.out k hlt
   have AS' : Aside (xs.any P = (P xs[k] || (xs.drop (k + 1)).any P)) := by have := AS.out; rw [List.drop_eq_getElem_cons hlt] at this; exact this
   have d0 := (hB.cell (cell_lt c0)).trans c0
   have hC := HF.out xs[k] (List.getElem_mem hlt) wr hB
   clear AS c0
   generalize xs[k] = x at hC AS' d0
   cases hP : P x
   all_goals
    have HP := hiD hP
    rw [hP] at hC
    have HC := hiD hC
    clear hP hC
   ·go_wp2_with ((with_reducible refine HC.out.mono ?_); rintro e w2 ⟨rfl, hb2⟩)
    go_roundg q
    case measure => omega
    case rel => exact ⟨k + 1, by omega, by go_num, by have := AG.out; show _ = _; omega, hB.trans (hb2.mono hB.size), by have := AS'.out; rw [HP.out] at this; exact this⟩
   ·go_wp2_with ((with_reducible refine HC.out.mono ?_); rintro e w2 ⟨rfl, hb2⟩)
    go_ret
    exact ⟨⟨k, rfl, by rw [AS'.out, HP.out]; simp⟩, hB.trans (hb2.mono hB.size)⟩
  ·obtain rfl : k = xs.length := by omega
   have hs : xs.any P = false := by have := AS.out; rw [List.drop_length] at this; exact this
   have Hs := hiD hs
   clear hs AS
   go_wp2_with fail
   go_ret
   exact ⟨⟨-1, rfl, by rw [Hs.out]; rfl⟩, hB⟩
theorem ContainsFuncSA_c (f : FuncId) (cap : Array Value) (xs : LL) (v : Value) (w : World) (hv : TextsA w v xs) (hl : xs.length ≤ 4611686018427387904) (P : LU → Bool) (hF : AskS w f cap xs P) :
  Calls Tryz.prog 42 #[v, .func (.func f) #[] cap] w fun e w' => e = .returned (.bool (xs.any P)) ∧ Below w.heap.size w w' := by
 have hI := IndexFuncSA_c f cap xs v w hv hl P hF
 obtain ⟨A, c, rfl, hc, _⟩ := hv.at
 clear hF hv
 go_enter Tryz.func42, Tryz.ntmps42
 go_wp2_with (go_at_call 85; refine hI.mono ?_; rintro e w1 ⟨⟨i, rfl, hi⟩, hb1⟩; have Hi := hiD hi; clear hi)
 all_goals
  go_ret
  exact ⟨retb (by rw [← Hi.out]), hb1⟩
theorem IndexSA_c (x : LU) (xs : LL) (v : Value) (w : World) (hv : TextsA w v xs) (hl : xs.length ≤ 4611686018427387904) :
  Calls Tryz.prog 94 #[v, .string ⟨x.toArray⟩] w fun e w' => e = .returned (.int .i64 (atI (xs.findIdx? (· == x)))) ∧ w = w' := by
 obtain ⟨R, hR⟩ : ∃ R : Int, (atI (xs.findIdx? (· == x))) = R := ⟨_, rfl⟩
 rw [hR]
 obtain ⟨A, c, rfl, hc, hcell⟩ := hv.at
 have HV := hiD hcell
 have HR := hiD hR
 clear hv hcell hR
 go_enter Tryz.func94, Tryz.ntmps94
 go_wp2_with fail
 go_loopg [8] xs.length (fun gk i wr => ∃ k : Nat, k ≤ xs.length ∧ i = .int .i64 k ∧ Aside (k + gk = xs.length) ∧ w = wr ∧ Aside (∀ y ∈ xs.take k, y ≠ x))
 case atStart => exact ⟨0, by omega, rfl, by show _ = _; omega, rfl, by show ∀ y ∈ _, _; simp⟩
 case round =>
  obtain ⟨k, hk, rfl, AG, rfl, AS⟩ := hrel
  by_cases hlt : k < xs.length
  ·obtain ⟨q, rfl⟩ : ∃ q, gk = q + 1 := ⟨gk - 1, by have := AG.out; omega⟩
   obtain ⟨a, rfl, hcell⟩ := HV.out k hlt
   have HRk : Hid (xs[k] = x → R = k) := hiD fun he => by
    have : xs.findIdx? (· == x) = some k := by
     rw [List.findIdx?_eq_some_iff_getElem]
     refine ⟨hlt, by simpa using he, fun j hj => ?_⟩
     have := AS.out xs[j] (by rw [List.mem_take_iff_getElem]; exact ⟨j, by omega, rfl⟩)
     simpa using this
    rw [← HR.out, this]; rfl
   have HAS : Hid (xs[k] ≠ x → ∀ y ∈ xs.take (k + 1), y ≠ x) := hiD fun he y hy => by
    rw [List.take_succ_eq_append_getElem hlt] at hy
    rcases List.mem_append.1 hy with hy | hy
    ·exact AS.out y hy
    ·rw [List.mem_singleton.1 hy]; exact he
   clear AS
   generalize xs[k] = y at hcell HRk HAS
   by_cases hyx : x = y
   ·subst hyx
    have Hf := hiD (HRk.out rfl)
    clear HRk HAS
    go_wp2_with fail
    all_goals
     go_ret
     exact ⟨by rw [Hf.out]; try rfl, rfl⟩
   ·have hb1 : (x == y) = false := beq_eq_false_iff_ne.2 hyx
    have hb2 : (y == x) = false := beq_eq_false_iff_ne.2 (Ne.symm hyx)
    have Hf := hiD (HAS.out (Ne.symm hyx))
    clear HRk HAS hyx
    go_wp2_with fail
    go_roundg q
    case measure => omega
    case rel => exact ⟨k + 1, by omega, by go_num, by have := AG.out; show _ = _; omega, rfl, Hf.out⟩
  ·obtain rfl : k = xs.length := by omega
   have hs : R = -1 := by
    have : xs.findIdx? (· == x) = none := by
     rw [List.findIdx?_eq_none_iff]
     intro y hy
     have := AS.out y (by rw [List.take_length]; exact hy)
     simpa using this
    rw [← HR.out, this]; rfl
   have Hs := hiD hs
   clear hs AS
   go_wp2_with fail
   go_ret
   exact ⟨by rw [Hs.out]; try rfl, rfl⟩
theorem ContainsSA_c (x : LU) (xs : LL) (v : Value) (w : World) (hv : TextsA w v xs) (hl : xs.length ≤ 4611686018427387904) :
  Calls Tryz.prog 51 #[v, .string ⟨x.toArray⟩] w fun e w' => e = .returned (.bool (xs.contains x)) ∧ w = w' := by
 have hI := IndexSA_c x xs v w hv hl
 have hi : decide (0 ≤ atI (xs.findIdx? (· == x))) = xs.contains x := by
  rw [idx_any, List.contains_eq_any_beq]
  congr 1
  funext y
  rw [Bool.eq_iff_iff, beq_iff_eq, beq_iff_eq]
  exact eq_comm
 obtain ⟨i, hie⟩ : ∃ i, atI (xs.findIdx? (· == x)) = i := ⟨_, rfl⟩
 rw [hie] at hI hi
 have Hi := hiD hi
 obtain ⟨A, c, rfl, hc, _⟩ := hv.at
 clear hv hie hi
 go_enter Tryz.func51, Tryz.ntmps51
 go_wp2_with (go_at_call 94; refine hI.mono ?_; rintro e w1 ⟨rfl, rfl⟩)
 all_goals
  go_ret
  exact ⟨retb (by rw [← Hi.out]), rfl⟩
open Go.RowKit
theorem bel_one (w : World) (o : Obj) : Below w.heap.size w (w.alloc o) := (Below.refl _ _).alloc (Nat.le_refl _) _
theorem attrO_len {L : List DefS} (hlim : ∀ d ∈ L, DefLim d) (t : LU) : (attrO L t).name.length ≤ 1000000 := by
 unfold attrO
 cases h : attrL L t with
 | none => exact Nat.zero_le _
 | some a =>
  obtain ⟨j, d, _, hd, _, _, _, hn⟩ := attr_at h
  show a.name.length ≤ _
  rw [hn]
  exact name_short hlim (List.mem_of_getElem? hd)
theorem attrC_cases (L : List DefS) (t : LU) : (attrL L t = none ∧ attrC L t = 52) ∨ (attrC L t = 0 ∧ ∃ a, attrL L t = some a ∧ attrO L t = a) := by
 unfold attrC attrO
 cases h : attrL L t with
 | none => exact .inl ⟨rfl, rfl⟩
 | some a => exact .inr ⟨rfl, a, rfl, rfl⟩
theorem attrE_none {L : List DefS} {a : Ent.AttrE} (had : List Ent.AttrE) (h : attrL L a.typ = none) : Ent.attrE (schE L) a had = .inl 17 := by
 unfold Ent.attrE schE
 simp only [h]
 rfl
theorem attrE_some {L : List DefS} {a : Ent.AttrE} (had : List Ent.AttrE) {d : AttrS} (h : attrL L a.typ = some d) : Ent.attrE (schE L) a had = if a.vals.isEmpty then .inl 2 else if 200 < a.vals.length then .inl 19 else match Ent.formsE (schE L) d.name a.vals with
  | none => .inl 21
  | some l => if had.any (fun b => b.typ == d.name) || Ent.twiceE l then .inl 20 else .inr ⟨d.name, a.vals⟩ := by
 have e : (schE L).attr a.typ = some (infoE d) := by
  show (attrL L a.typ).map infoE = _
  rw [h]; rfl
 unfold Ent.attrE
 rw [e]
 rfl
theorem attrF_c (bd : Nat) (nm : LU) (x : Ent.AttrE) (vx : Value) (w : World) (hv : vx.oneCell' = true) (hb : w.cell? ⟨bd, 1, none⟩ = some (.string ⟨nm.toArray⟩)) :
  Calls Tryz.prog 75 #[.agg #[.string ⟨x.typ.toArray⟩, vx], .pointer (some ⟨bd, 0, none⟩)] w fun e w' => e = .returned (.bool (x.typ == nm)) ∧ Below w.heap.size w w' := by
 obtain ⟨typ, vals⟩ := x
 simp only
 have hba := bel_one w (.cells #[.string ⟨typ.toArray⟩, vx] 46)
 have hb2 := (hba.cell (p := ⟨bd, 1, none⟩) (cell_lt hb)).trans hb
 go_enter Tryz.func75, Tryz.ntmps75
 go_wp2_with fail
 all_goals
  go_ret
  exact ⟨retb (by first | rfl | (rw [Bool.eq_iff_iff]; simp)), by first | exact Below.refl _ _ | exact hba⟩
def AttrRet7 (w : World) (R : Int ⊕ Ent.AttrE) (e : Ending) (w' : World) : Prop := Below w.heap.size w w' ∧ ∃ A n c k t, e = .returned (.tuple #[.agg #[.string ⟨t⟩, .slice A n c], .int .i64 k]) ∧ match R with
 | .inl q => k = q ∧ q ≠ 0
 | .inr b => k = 0 ∧ t = b.typ.toArray ∧ n = b.vals.length ∧ Own w.heap.size w' (.slice A n c) b.vals
theorem cell_far {w : World} {p i b o : Nat} {v u : Value} (h : w.cell? ⟨b, o, none⟩ = some u) (hne : b ≠ p) : (w.setCell ⟨p, i, none⟩ v).cell? ⟨b, o, none⟩ = some u := by
 rw [show (w.setCell ⟨p, i, none⟩ v).cell? ⟨b, o, none⟩ = w.cell? ⟨b, o, none⟩ from World.cell?_of_block (Below.heap_setCell _ _ _ _ (fun e => hne e))]
 exact h
theorem bk_set2 {g : Nat} {w : World} {t : TypeId} (c0 c1 v0 v1 : Value) (h : Bk w g t #[c0, c1]) : Bk ((w.setCell ⟨g, 0, none⟩ v0).setCell ⟨g, 1, none⟩ v1) g t #[v0, v1] := by
 simpa using (h.set 0 v0).set 1 v1
theorem below_set2 {B g : Nat} {a w : World} (h : Below B a w) (hg : B ≤ g) (v0 v1 : Value) : Below B a ((w.setCell ⟨g, 0, none⟩ v0).setCell ⟨g, 1, none⟩ v1) := (h.setCell hg v0).setCell hg v1
theorem grown_set2 (w : World) (g : Nat) (v0 v1 : Value) : w.grownBy ((w.setCell ⟨g, 0, none⟩ v0).setCell ⟨g, 1, none⟩ v1) (some g) := World.grownBy.trans (setCell_grown _ _ _ _) (setCell_grown _ _ _ _)
theorem attr7_out {w W : World} {r0 r1 : Value} {tmps : Array Value} {R : Int ⊕ Ent.AttrE} {k : Int} (hz : Bk W (w.heap.size + 1) 46 #[r0, r1]) (h6 : tmps[6]? = some (.pointer (some ⟨w.heap.size + 1, 0, none⟩))) (h7 : tmps[7]? = some (.int .i64 k))
  (h : AttrRet7 w R (.returned (.tuple #[.agg #[r0, r1], .int .i64 k])) W) :
  bodyPost Tryz.prog Tryz.f36 (AttrRet7 w R) .ret { tmps := tmps, defers := [] } W := by
 have e6 : tmps[6]?.getD undef = .pointer (some ⟨w.heap.size + 1, 0, none⟩) := by rw [h6]; rfl
 have e7 : tmps[7]?.getD undef = .int .i64 k := by rw [h7]; rfl
 have c0 := hz.cell 0
 have c1 := hz.cell 1
 simp only [gs3] at c0 c1
 refine bodyPost_ret (v := .tuple #[.agg #[r0, r1], .int .i64 k]) ?_ rfl h
 simp [results, Tryz.results36, go_sem, e6, e7, c0, c1]
theorem attr7_c (s : Nat) (ps : List Nat) (L : List DefS) (hL : Sound L) (a : Ent.AttrE) (va : Value) (had : List Ent.AttrE) (vh : Value) (w : World) (hw : Env w) (hS : SchAt w s ps L) (hta : TextsA w va a.vals) (hh : AttrsA w vh had) (h1 : a.typ.length ≤ 140737488351232) (h2 : a.vals.length ≤ 1000000) (h3 : had.length ≤ 1000000) :
  Calls Tryz.prog 36 #[.pointer (some ⟨s, 0, none⟩), .agg #[.string ⟨a.typ.toArray⟩, va], vh] w (AttrRet7 w (Ent.attrE (schE L) a had)) := by
 obtain ⟨R, hR⟩ : ∃ R, Ent.attrE (schE L) a had = R := ⟨_, rfl⟩
 rw [hR]
 have HA : Hid (∀ (W : World), Below w.heap.size w W → Calls Tryz.prog 20 #[.pointer (some ⟨s, 0, none⟩), .string ⟨a.typ.toArray⟩] W fun e w' => Below W.heap.size W w' ∧ ∃ A n c, e = .returned (.tuple #[attrV (attrO L a.typ) (.slice A n c), .int .i64 (attrC L a.typ)])) := hiD fun W h => AttrU_c s ps L hL a.typ W (hS.below h) h1
 have HF : Hid (∀ (W : World), Below w.heap.size w W → Calls Tryz.prog 73 #[.pointer (some ⟨s, 0, none⟩), .string ⟨(attrO L a.typ).name.toArray⟩, va] W fun e w' => Below W.heap.size W w' ∧ ∃ A c, e = .returned (.tuple #[.slice A ((Ent.formsE (schE L) (attrO L a.typ).name a.vals).getD []).length c, .bool (Ent.formsE (schE L) (attrO L a.typ).name a.vals).isSome]) ∧ TextsA w' (.slice A ((Ent.formsE (schE L) (attrO L a.typ).name a.vals).getD []).length c) ((Ent.formsE (schE L) (attrO L a.typ).name a.vals).getD [])) := hiD fun W h => forms2_c s ps L hL _ _ va W (hw.keep h) (hS.below h) (attrO_len hL.lim _) (hta.below h) h2
 have HC : Hid (∀ (W : World) (bd : Nat), Below w.heap.size w W → W.cell? ⟨bd, 1, none⟩ = some (.string ⟨(attrO L a.typ).name.toArray⟩) → Calls Tryz.prog 74 #[vh, .func (.func 75) #[] #[.pointer (some ⟨bd, 0, none⟩)]] W fun e w' => e = .returned (.bool (had.any fun b => b.typ == (attrO L a.typ).name)) ∧ Below W.heap.size W w') := hiD fun W bd h hb => ContainsFuncAt_c 75 #[.pointer (some ⟨bd, 0, none⟩)] had vh W (hh.below h) h3 _ ⟨fun x _ vx W2 hv hW2 => attrF_c bd _ x vx W2 hv ((hW2.cell (p := ⟨bd, 1, none⟩) (cell_lt hb)).trans hb), fun _ _ => by kernel_rfl⟩
 have HT : Hid (∀ (v : Value) (W : World), TextsA W v ((Ent.formsE (schE L) (attrO L a.typ).name a.vals).getD []) → Calls Tryz.prog 76 #[v] W fun e w' => e = .returned (.bool (Ent.twiceE ((Ent.formsE (schE L) (attrO L a.typ).name a.vals).getD []))) ∧ Below W.heap.size W w') := hiD fun v W h => twice_c _ v W h (Nat.le_trans forms_len h2)
 have HK : Hid (∀ (W : World), Below w.heap.size w W → Calls Tryz.prog 55 #[va] W fun e w' => ∃ A c, e = .returned (.slice A a.vals.length c) ∧ Own W.heap.size w' (.slice A a.vals.length c) a.vals ∧ Below W.heap.size W w') := hiD fun W h => (CloneA_c a.vals va W (hta.below h) (Nat.le_trans h2 (by decide))).mono (by
  rintro e w' ⟨v, rfl, hO, hb⟩
  obtain ⟨A, c, rfl, _⟩ := hO.isSlice
  exact ⟨A, c, rfl, hO, hb⟩)
 have hcs := attrC_cases L a.typ
 have hn := @attrE_none L a had
 have hs := @attrE_some L a had
 rw [hR] at hn hs
 obtain ⟨typ, vals⟩ := a
 simp only at *
 obtain ⟨Av, cv, rfl, hcv, _⟩ := hta.at
 obtain ⟨Ah, ch, rfl, hch⟩ := hh.isSlice
 unfold attrV attrCells at HA
 generalize attrO L typ = ad at *
 generalize attrC L typ = ac at *
 have hbA := bel_one w (.cells #[.string ⟨typ.toArray⟩, .slice Av vals.length cv] 46)
 have hkA0 := Bk.new w 46 #[.string ⟨typ.toArray⟩, .slice Av vals.length cv]
 have hb0 := hbA.alloc hbA.size (.cells #[.string ⟨#[]⟩, .slice none 0 0] 46)
 have hkA := hkA0.alloc (.cells #[.string ⟨#[]⟩, .slice none 0 0] 46)
 have hkR := Bk.new (w.alloc (.cells #[.string ⟨typ.toArray⟩, .slice Av vals.length cv] 46)) 46 #[.string ⟨#[]⟩, .slice none 0 0]
 rw [World.size_alloc] at hkR
 have a0 := hkA.cell 0
 simp only [gs3] at a0
 clear hbA hkA0 hS hL hw
 rcases hcs with ⟨hx, rfl⟩ | ⟨rfl, d, hx, hd⟩
 ·have hR1 := hn hx
  subst hR1
  clear hn hs HF HC HT HK hx hR hta hh
  go_enter Tryz.func36, Tryz.ntmps36
  go_wp2_with (go_at_call 20; (with_reducible refine (HA.out _ hb0).mono ?_); rintro e w1 ⟨hb1, A1, n1, c1, rfl⟩; have hB1 := hb0.trans (hb1.mono hb0.size); have hD := bel_one w1 (.cells (adC ad A1 n1 c1) 41); have hB2 := hB1.trans (hD.mono hB1.size); have hkR2 := (hkR.below hb1).below hD; have r0 := hkR2.cell 0; have r1 := hkR2.cell 1; simp only [gs3] at r0 r1; have of := fun i => hkR2.frozen i)
  have hz := bk_set2 _ _ (.string ⟨#[]⟩) (.slice none 0 0) hkR2
  exact attr7_out hz rfl rfl ⟨below_set2 hB2 (by omega) _ _, _, _, _, _, _, rfl, rfl, by decide⟩
 ·have hR1 := hs hx
  subst hd
  generalize (had.any fun b => b.typ == ad.name) = bh at *
  by_cases h0 : vals.length = 0
  ·have hR2 : R = .inl 2 := by
    rw [hR1]
    have : vals = [] := List.eq_nil_of_length_eq_zero h0
    rw [this]; rfl
   subst hR2
   clear hn hs HF HC HT HK hx hR1 hR hta hh
   obtain rfl : vals = [] := List.eq_nil_of_length_eq_zero h0
   simp only [List.length_nil] at *
   go_enter Tryz.func36, Tryz.ntmps36
   go_wp2_with (go_at_call 20; (with_reducible refine (HA.out _ hb0).mono ?_); rintro e w1 ⟨hb1, A1, n1, c1, rfl⟩; have hB1 := hb0.trans (hb1.mono hb0.size); have hD := bel_one w1 (.cells (adC ad A1 n1 c1) 41); have hB2 := hB1.trans (hD.mono hB1.size); have hkA2 := (hkA.below hb1).below hD; have hkR2 := (hkR.below hb1).below hD; have hkD2 := Bk.new w1 41 (adC ad A1 n1 c1); have x0 := hkA2.cell 0; have x1 := hkA2.cell 1; have r0 := hkR2.cell 0; have r1 := hkR2.cell 1; have d1 := hkD2.cell 1; simp only [gs3] at x0 x1 r0 r1 d1; have of := fun i => hkR2.frozen i)
   have hz := bk_set2 _ _ (.string ⟨#[]⟩) (.slice none 0 0) hkR2
   exact attr7_out hz rfl rfl ⟨below_set2 hB2 (by omega) _ _, _, _, _, _, _, rfl, rfl, by decide⟩
  ·have hne : vals.isEmpty = false := by cases vals with
    | nil => exact absurd rfl h0
    | cons a b => rfl
   rw [hne] at hR1
   simp only [Bool.false_eq_true, if_false] at hR1
   by_cases h5 : 200 < vals.length
   ·have hR2 : R = .inl 19 := by rw [hR1, if_pos h5]
    subst hR2
    clear hn hs HF HC HT HK hx hR1 hR hta hh
    go_enter Tryz.func36, Tryz.ntmps36
    go_wp2_with (go_at_call 20; (with_reducible refine (HA.out _ hb0).mono ?_); rintro e w1 ⟨hb1, A1, n1, c1, rfl⟩; have hB1 := hb0.trans (hb1.mono hb0.size); have hD := bel_one w1 (.cells (adC ad A1 n1 c1) 41); have hB2 := hB1.trans (hD.mono hB1.size); have hkA2 := (hkA.below hb1).below hD; have hkR2 := (hkR.below hb1).below hD; have hkD2 := Bk.new w1 41 (adC ad A1 n1 c1); have x0 := hkA2.cell 0; have x1 := hkA2.cell 1; have r0 := hkR2.cell 0; have r1 := hkR2.cell 1; have d1 := hkD2.cell 1; simp only [gs3] at x0 x1 r0 r1 d1; have of := fun i => hkR2.frozen i)
    have hz := bk_set2 _ _ (.string ⟨#[]⟩) (.slice none 0 0) hkR2
    exact attr7_out hz rfl rfl ⟨below_set2 hB2 (by omega) _ _, _, _, _, _, _, rfl, rfl, by decide⟩
   ·rw [if_neg h5] at hR1
    obtain ⟨fo, hfo⟩ : ∃ fo, Ent.formsE (schE L) ad.name vals = fo := ⟨_, rfl⟩
    rw [hfo] at hR1 HF HT
    cases fo with
    | none =>
     have hR2 : R = .inl 21 := hR1
     subst hR2
     clear hn hs HC HT HK hx hR1 hR hta hh hfo
     simp only [Option.getD_none, List.length_nil, Option.isSome_none] at HF
     go_enter Tryz.func36, Tryz.ntmps36
     go_wp2_with (first | (go_at_call 20; (with_reducible refine (HA.out _ hb0).mono ?_); rintro e w1 ⟨hb1, A1, n1, c1, rfl⟩; have hB1 := hb0.trans (hb1.mono hb0.size); have hD := bel_one w1 (.cells (adC ad A1 n1 c1) 41); have hB2 := hB1.trans (hD.mono hB1.size); have hkA2 := (hkA.below hb1).below hD; have hkR2 := (hkR.below hb1).below hD; have hkD2 := Bk.new w1 41 (adC ad A1 n1 c1); have x0 := hkA2.cell 0; have x1 := hkA2.cell 1; have r0 := hkR2.cell 0; have r1 := hkR2.cell 1; have d1 := hkD2.cell 1; simp only [gs3] at x0 x1 r0 r1 d1; have of := fun i => hkR2.frozen i) | (go_at_call 73; (with_reducible refine (HF.out _ hB2).mono ?_); rintro e w3 ⟨hb3, A3, c3, rfl, hT3⟩; have hB3 := hB2.trans (hb3.mono hB2.size); have hkA3 := hkA2.below hb3; have hkR3 := hkR2.below hb3; have hkD3 := hkD2.below hb3; clear x0 x1 r0 r1 d1 of; have x0 := hkA3.cell 0; have x1 := hkA3.cell 1; have r0 := hkR3.cell 0; have r1 := hkR3.cell 1; have d1 := hkD3.cell 1; simp only [gs3] at x0 x1 r0 r1 d1; have of := fun i => hkR3.frozen i))
     have hz := bk_set2 _ _ (.string ⟨#[]⟩) (.slice none 0 0) hkR3
     exact attr7_out hz rfl rfl ⟨below_set2 hB3 (by omega) _ _, _, _, _, _, _, rfl, rfl, by decide⟩
    | some l =>
     simp only at hR1
     simp only [Option.getD_some, Option.isSome_some] at HF HT
     clear hfo
     cases bh
     case true =>
      have hR2 : R = .inl 20 := hR1
      subst hR2
      clear hn hs HT HK hx hR1 hR hta hh
      go_enter Tryz.func36, Tryz.ntmps36
      go_wp2_with (first | (go_at_call 20; (with_reducible refine (HA.out _ hb0).mono ?_); rintro e w1 ⟨hb1, A1, n1, c1, rfl⟩; have hB1 := hb0.trans (hb1.mono hb0.size); have hD := bel_one w1 (.cells (adC ad A1 n1 c1) 41); have hB2 := hB1.trans (hD.mono hB1.size); have hkA2 := (hkA.below hb1).below hD; have hkR2 := (hkR.below hb1).below hD; have hkD2 := Bk.new w1 41 (adC ad A1 n1 c1); have x0 := hkA2.cell 0; have x1 := hkA2.cell 1; have r0 := hkR2.cell 0; have r1 := hkR2.cell 1; have d1 := hkD2.cell 1; simp only [gs3] at x0 x1 r0 r1 d1; have of := fun i => hkR2.frozen i) | (go_at_call 73; (with_reducible refine (HF.out _ hB2).mono ?_); rintro e w3 ⟨hb3, A3, c3, rfl, hT3⟩; have hB3 := hB2.trans (hb3.mono hB2.size); have hkA3 := hkA2.below hb3; have hkR3 := hkR2.below hb3; have hkD3 := hkD2.below hb3; clear x0 x1 r0 r1 d1 of; have x0 := hkA3.cell 0; have x1 := hkA3.cell 1; have r0 := hkR3.cell 0; have r1 := hkR3.cell 1; have d1 := hkD3.cell 1; simp only [gs3] at x0 x1 r0 r1 d1; have of := fun i => hkR3.frozen i) | (go_at_call 74; (with_reducible refine (HC.out _ _ hB3 d1).mono ?_); rintro e w4 ⟨rfl, hb4⟩; have hB4 := hB3.trans (hb4.mono hB3.size); have hkA4 := hkA3.below hb4; have hkR4 := hkR3.below hb4; have hkD4 := hkD3.below hb4; clear x0 x1 r0 r1 d1 of; have x0 := hkA4.cell 0; have x1 := hkA4.cell 1; have r0 := hkR4.cell 0; have r1 := hkR4.cell 1; have d1 := hkD4.cell 1; simp only [gs3] at x0 x1 r0 r1 d1; have of := fun i => hkR4.frozen i))
      have hz := bk_set2 _ _ (.string ⟨#[]⟩) (.slice none 0 0) hkR4
      exact attr7_out hz rfl rfl ⟨below_set2 hB4 (by omega) _ _, _, _, _, _, _, rfl, rfl, by decide⟩
     case false =>
      generalize Ent.twiceE l = bt at *
      cases bt
      case true =>
       have hR2 : R = .inl 20 := hR1
       subst hR2
       clear hn hs HK hx hR1 hR hta hh
       go_enter Tryz.func36, Tryz.ntmps36
       go_wp2_with (first | (go_at_call 20; (with_reducible refine (HA.out _ hb0).mono ?_); rintro e w1 ⟨hb1, A1, n1, c1, rfl⟩; have hB1 := hb0.trans (hb1.mono hb0.size); have hD := bel_one w1 (.cells (adC ad A1 n1 c1) 41); have hB2 := hB1.trans (hD.mono hB1.size); have hkA2 := (hkA.below hb1).below hD; have hkR2 := (hkR.below hb1).below hD; have hkD2 := Bk.new w1 41 (adC ad A1 n1 c1); have x0 := hkA2.cell 0; have x1 := hkA2.cell 1; have r0 := hkR2.cell 0; have r1 := hkR2.cell 1; have d1 := hkD2.cell 1; simp only [gs3] at x0 x1 r0 r1 d1; have of := fun i => hkR2.frozen i) | (go_at_call 73; (with_reducible refine (HF.out _ hB2).mono ?_); rintro e w3 ⟨hb3, A3, c3, rfl, hT3⟩; have hB3 := hB2.trans (hb3.mono hB2.size); have hkA3 := hkA2.below hb3; have hkR3 := hkR2.below hb3; have hkD3 := hkD2.below hb3; clear x0 x1 r0 r1 d1 of; have x0 := hkA3.cell 0; have x1 := hkA3.cell 1; have r0 := hkR3.cell 0; have r1 := hkR3.cell 1; have d1 := hkD3.cell 1; simp only [gs3] at x0 x1 r0 r1 d1; have of := fun i => hkR3.frozen i) | (go_at_call 74; (with_reducible refine (HC.out _ _ hB3 d1).mono ?_); rintro e w4 ⟨rfl, hb4⟩; have hB4 := hB3.trans (hb4.mono hB3.size); have hkA4 := hkA3.below hb4; have hkR4 := hkR3.below hb4; have hkD4 := hkD3.below hb4; clear x0 x1 r0 r1 d1 of; have x0 := hkA4.cell 0; have x1 := hkA4.cell 1; have r0 := hkR4.cell 0; have r1 := hkR4.cell 1; have d1 := hkD4.cell 1; simp only [gs3] at x0 x1 r0 r1 d1; have of := fun i => hkR4.frozen i) | (go_at_call 76; (with_reducible refine (HT.out _ _ (hT3.below hb4)).mono ?_); rintro e w5 ⟨rfl, hb5⟩; have hB5 := hB4.trans (hb5.mono hB4.size); have hkA5 := hkA4.below hb5; have hkR5 := hkR4.below hb5; have hkD5 := hkD4.below hb5; clear x0 x1 r0 r1 d1 of; have x0 := hkA5.cell 0; have x1 := hkA5.cell 1; have r0 := hkR5.cell 0; have r1 := hkR5.cell 1; have d1 := hkD5.cell 1; simp only [gs3] at x0 x1 r0 r1 d1; have of := fun i => hkR5.frozen i))
       have hz := bk_set2 _ _ (.string ⟨#[]⟩) (.slice none 0 0) hkR5
       exact attr7_out hz rfl rfl ⟨below_set2 hB5 (by omega) _ _, _, _, _, _, _, rfl, rfl, by decide⟩
      case false =>
       have hR2 : R = .inr ⟨ad.name, vals⟩ := hR1
       subst hR2
       clear hn hs hx hR1 hR hta hh
       go_enter Tryz.func36, Tryz.ntmps36
       go_upto_region 14 with (first | (go_at_call 20; (with_reducible refine (HA.out _ hb0).mono ?_); rintro e w1 ⟨hb1, A1, n1, c1, rfl⟩; have hB1 := hb0.trans (hb1.mono hb0.size); have hD := bel_one w1 (.cells (adC ad A1 n1 c1) 41); have hB2 := hB1.trans (hD.mono hB1.size); have hkA2 := (hkA.below hb1).below hD; have hkR2 := (hkR.below hb1).below hD; have hkD2 := Bk.new w1 41 (adC ad A1 n1 c1); have x0 := hkA2.cell 0; have x1 := hkA2.cell 1; have r0 := hkR2.cell 0; have r1 := hkR2.cell 1; have d1 := hkD2.cell 1; simp only [gs3] at x0 x1 r0 r1 d1; have of := fun i => hkR2.frozen i) | (go_at_call 73; (with_reducible refine (HF.out _ hB2).mono ?_); rintro e w3 ⟨hb3, A3, c3, rfl, hT3⟩; have hB3 := hB2.trans (hb3.mono hB2.size); have hkA3 := hkA2.below hb3; have hkR3 := hkR2.below hb3; have hkD3 := hkD2.below hb3; clear x0 x1 r0 r1 d1 of; have x0 := hkA3.cell 0; have x1 := hkA3.cell 1; have r0 := hkR3.cell 0; have r1 := hkR3.cell 1; have d1 := hkD3.cell 1; simp only [gs3] at x0 x1 r0 r1 d1; have of := fun i => hkR3.frozen i) | (go_at_call 74; (with_reducible refine (HC.out _ _ hB3 d1).mono ?_); rintro e w4 ⟨rfl, hb4⟩; have hB4 := hB3.trans (hb4.mono hB3.size); have hkA4 := hkA3.below hb4; have hkR4 := hkR3.below hb4; have hkD4 := hkD3.below hb4; clear x0 x1 r0 r1 d1 of; have x0 := hkA4.cell 0; have x1 := hkA4.cell 1; have r0 := hkR4.cell 0; have r1 := hkR4.cell 1; have d1 := hkD4.cell 1; simp only [gs3] at x0 x1 r0 r1 d1; have of := fun i => hkR4.frozen i) | (go_at_call 76; (with_reducible refine (HT.out _ _ (hT3.below hb4)).mono ?_); rintro e w5 ⟨rfl, hb5⟩; have hB5 := hB4.trans (hb5.mono hB4.size); have hkA5 := hkA4.below hb5; have hkR5 := hkR4.below hb5; have hkD5 := hkD4.below hb5; clear x0 x1 r0 r1 d1 of; have x0 := hkA5.cell 0; have x1 := hkA5.cell 1; have r0 := hkR5.cell 0; have r1 := hkR5.cell 1; have d1 := hkD5.cell 1; simp only [gs3] at x0 x1 r0 r1 d1; have of := fun i => hkR5.frozen i))
       have hsz1 := hb1.size
       rw [World.size_alloc, World.size_alloc] at hsz1
       go_region_held3 (fun w' => w'.cell? ⟨w1.heap.size, 1, none⟩ = some (.string ⟨ad.name.toArray⟩) ∧ w'.cell? ⟨w.heap.size, 1, none⟩ = some (.slice Av vals.length cv)) (first | exact ⟨d1, x1⟩ | exact ⟨y0, y1⟩ | (refine ⟨?_, ?_⟩ <;> (first | exact cell_far (cell_far y0 (by omega)) (by omega) | exact cell_far (cell_far y1 (by omega)) (by omega)))) (first | (go_at_call 55; (with_reducible refine (HK.out _ hB5.drew).mono ?_); rintro e w6 ⟨A6, c6, rfl, hO6, hb6⟩; have hB6 := hB5.drew.trans (hb6.mono hB5.drew.size); have hkA6 := (hkA5.below (Below.refl w5.heap.size w5).drew).below hb6; have hkR6 := (hkR5.below (Below.refl w5.heap.size w5).drew).below hb6; have hkD6 := (hkD5.below (Below.refl w5.heap.size w5).drew).below hb6; have y1 := hkA6.cell 1; have y0 := hkD6.cell 1; have r06 := hkR6.cell 0; have r16 := hkR6.cell 1; simp only [gs3] at y1 y0 r06 r16; have of6 := fun i => hkR6.frozen i) | fail)
       all_goals
        go_wp2_with fail
        have hz := bk_set2 _ _ (.string ⟨ad.name.toArray⟩) (.slice A6 vals.length c6) hkR6
        have hgr := grown_set2 w6 (w.heap.size + 1) (.string ⟨ad.name.toArray⟩) (.slice A6 vals.length c6)
        exact attr7_out hz rfl rfl ⟨below_set2 hB6 (by omega) _ _, _, _, _, _, _, rfl, rfl, rfl, rfl, (hO6.lower hB5.drew.size).keep2 hgr (hO6.apart hkR6 (by decide))⟩
end Go.Proofs.YtkkbbhlihilnpaaGreatDoor
