import Derived.Test.YtkkbbhlihilnpaaGreatDoorWrb
set_option linter.all false
set_option maxHeartbeats 8000000
set_option maxRecDepth 100000
namespace Go.Proofs.YtkkbbhlihilnpaaGreatDoor
open Go.RowKit
def chgV (s p : Nat) (t : LU) (perm : Bool) : Value := .agg #[.pointer (some ⟨s, 0, none⟩), .pointer (some ⟨p, 0, none⟩), .string ⟨t.toArray⟩, .bool perm]
def EntAt (B : Nat) (w : World) (p : Nat) (e : Ent.EntryE) : Prop := ∃ (A : Option Addr) (c : Nat) (qs : List AttrQ), qs.map (·.1) = e.attrs ∧ B ≤ p ∧ Bk w p 37 #[.string ⟨e.dn.toArray⟩, .slice A e.attrs.length c] ∧ OwnAt B w (.slice A e.attrs.length c) qs ∧ AQOwn w qs
theorem EntAt.below {B p : Nat} {w w' : World} {e : Ent.EntryE} (h : EntAt B w p e) (hb : Below w.heap.size w w') : EntAt B w' p e := by
 obtain ⟨A, c, qs, h1, h2, h3, h4, h5⟩ := h
 exact ⟨A, c, qs, h1, h2, h3.below hb, h4.below hb, h5.below hb⟩
theorem at_vals (e : Ent.EntryE) (t : LU) : (Ent.atE e t = none ∧ Ent.valuesE e t = []) ∨ ∃ i, ∃ hi : i < e.attrs.length, Ent.atE e t = some i ∧ Ent.valuesE e t = e.attrs[i].vals ∧ e.attrs[i].typ = t := by
 unfold Ent.atE Ent.valuesE
 cases h : e.attrs.findIdx? (fun a => a.typ == t) with
 | none =>
  rw [List.findIdx?_eq_none_iff] at h
  have : e.attrs.find? (fun a => a.typ == t) = none := List.find?_eq_none.2 fun x hx => by rw [h x hx]; simp
  exact .inl ⟨rfl, by rw [this]⟩
 | some i =>
  obtain ⟨hi, hp, hb⟩ := List.findIdx?_eq_some_iff_getElem.1 h
  have : e.attrs.find? (fun a => a.typ == t) = some e.attrs[i] := List.find?_eq_some_iff_getElem.2 ⟨hp, i, hi, rfl, fun j hj => by have := hb j hj; simpa using this⟩
  exact .inr ⟨i, hi, rfl, by rw [this], by simpa using hp⟩
theorem atF_c (bd : Nat) (nm : LU) (x : Ent.AttrE) (vx : Value) (w : World) (hv : vx.oneCell' = true) (hb : w.cell? ⟨bd, 2, none⟩ = some (.string ⟨nm.toArray⟩)) :
  Calls Tryz.prog 208 #[.agg #[.string ⟨x.typ.toArray⟩, vx], .pointer (some ⟨bd, 0, none⟩)] w fun e w' => e = .returned (.bool (x.typ == nm)) ∧ Below w.heap.size w w' := by
 obtain ⟨typ, vals⟩ := x
 simp only
 have hba := bel_one w (.cells #[.string ⟨typ.toArray⟩, vx] 46)
 have hb2 := (hba.cell (p := ⟨bd, 2, none⟩) (cell_lt hb)).trans hb
 go_enter Tryz.func208, Tryz.ntmps208
 go_wp2_with fail
 all_goals
  go_ret
  exact ⟨retb (by first | rfl | (rw [Bool.eq_iff_iff]; simp)), by first | exact Below.refl _ _ | exact hba⟩
theorem at_c (B s p : Nat) (t : LU) (perm : Bool) (e : Ent.EntryE) (w : World) (hE : EntAt B w p e) (hl : e.attrs.length ≤ 1000) :
  Calls Tryz.prog 146 #[chgV s p t perm] w fun r w' => r = .returned (.int .i64 (atI (Ent.atE e t))) ∧ Below w.heap.size w w' := by
 obtain ⟨A, c, qs, hq, hBp, hP, hO, hQ⟩ := hE
 have hA := hO.attrs hQ.ok
 rw [hq] at hA
 have hbx := bel_one w (.cells #[.pointer (some ⟨s, 0, none⟩), .pointer (some ⟨p, 0, none⟩), .string ⟨t.toArray⟩, .bool perm] 97)
 have hkx := Bk.new w 97 #[.pointer (some ⟨s, 0, none⟩), .pointer (some ⟨p, 0, none⟩), .string ⟨t.toArray⟩, .bool perm]
 have hP1 := (hP.below hbx).cell 1
 have HI := hiD (IndexFuncAt_c 208 #[.pointer (some ⟨w.heap.size, 0, none⟩)] e.attrs _ _ (hA.below hbx) (by omega) (fun a => a.typ == t) ⟨fun x _ vx W hv h => atF_c w.heap.size t x vx W hv ((hkx.below h).cell 2), fun _ _ => by kernel_rfl⟩)
 simp only [gs3] at hP1
 have HR : Hid (atI (e.attrs.findIdx? fun a => a.typ == t) = atI (Ent.atE e t)) := hiD rfl
 generalize atI (e.attrs.findIdx? fun a => a.typ == t) = R at *
 unfold chgV
 clear hA hO hQ hP hq hl
 go_enter Tryz.func146, Tryz.ntmps146
 go_wp2_with (go_at_call 131; (with_reducible refine HI.out.mono ?_); rintro r w2 ⟨rfl, hb2⟩)
 go_ret
 exact ⟨by rw [HR.out]; rfl, hbx.trans (hb2.mono hbx.size)⟩
theorem values_c (B s p : Nat) (t : LU) (perm : Bool) (e : Ent.EntryE) (w : World) (hE : EntAt B w p e) (hl : e.attrs.length ≤ 1000) :
  Calls Tryz.prog 100 #[chgV s p t perm] w fun r w' => Below w.heap.size w w' ∧ ∃ A c, r = .returned (.slice A (Ent.valuesE e t).length c) ∧ TextsA w' (.slice A (Ent.valuesE e t).length c) (Ent.valuesE e t) := by
 have hbx := bel_one w (.cells #[.pointer (some ⟨s, 0, none⟩), .pointer (some ⟨p, 0, none⟩), .string ⟨t.toArray⟩, .bool perm] 97)
 have hkx := Bk.new w 97 #[.pointer (some ⟨s, 0, none⟩), .pointer (some ⟨p, 0, none⟩), .string ⟨t.toArray⟩, .bool perm]
 have HC := hiD (at_c B s p t perm e _ (hE.below hbx) hl)
 obtain ⟨A, c, qs, hq, hBp, hP, hO, hQ⟩ := hE
 have hA := hO.attrs hQ.ok
 rw [hq] at hA
 obtain ⟨A', c', hsl, hcc, hcell⟩ := hA.at
 cases hsl
 have HV := hiD hcell
 have HP := hiD hP
 have hadd := add_at2
 rcases at_vals e t with ⟨h1, h2⟩ | ⟨i, hi, h1, h2, _⟩
 ·rw [h1] at HC
  unfold chgV atI at *
  simp only at HC
  rw [h2]
  clear hA hO hQ hP hq hl hcell HV HP
  go_enter Tryz.func100, Tryz.ntmps100
  go_wp2_with (go_at_call 146; (with_reducible refine HC.out.mono ?_); rintro r w2 ⟨rfl, hb2⟩)
  go_ret
  exact ⟨hbx.trans (hb2.mono hbx.size), none, 0, rfl, .inl ⟨rfl, rfl⟩⟩
 ·rw [h1] at HC
  unfold chgV atI at *
  simp only at HC
  rw [h2]
  obtain ⟨b, o, va, rfl, c0, c1, hta⟩ := HV.out i hi
  obtain ⟨Av, cv, rfl, hcv, _⟩ := hta.at
  have HT := hiD hta
  generalize e.attrs[i].vals = vs at *
  clear hA hO hQ hP hq hl hcell HV h2 h1 hta c0
  go_enter Tryz.func100, Tryz.ntmps100
  go_wp2_with (go_at_call 146; (with_reducible refine HC.out.mono ?_); rintro r w2 ⟨rfl, hb2⟩; have hB2 := hbx.trans (hb2.mono hbx.size); have k1 := (hkx.below hb2).cell 1; have p1 := (HP.out.below hB2).cell 1; have d1 := (hB2.cell (cell_lt c1)).trans c1; simp only [gs3] at k1 p1)
  go_ret
  exact ⟨hB2, _, _, rfl, HT.out.below hB2⟩
theorem norms_c (s p : Nat) (ps : List Nat) (L : List DefS) (hL : Sound L) (t : LU) (perm : Bool) (vs : LL) (v : Value) (w : World) (hw : Env w) (hS : SchAt w s ps L) (ht : t.length ≤ 1000000) (hv : TextsA w v vs) (hl : vs.length ≤ 4000000) :
  Calls Tryz.prog 144 #[chgV s p t perm, v] w fun r w' => Below w.heap.size w w' ∧ ∃ v', r = .returned v' ∧ Own w.heap.size w' v' (vs.map (Ent.normF (schE L) t)) := by
 have HN : Hid (∀ (x : LU) (W : World), Below w.heap.size w W → Calls Tryz.prog 21 #[.pointer (some ⟨s, 0, none⟩), .string ⟨t.toArray⟩, .string ⟨x.toArray⟩] W fun e w' => e = .returned (.tuple #[.string ⟨(Ent.normF (schE L) t x).toArray⟩, .int .i64 (normTy L t x).1]) ∧ Below W.heap.size W w') := hiD fun x W h => NormTy_c s ps L hL.lim hL.rul hL.counts t x W (hw.keep h) (hS.below h) ht
 obtain ⟨A, c, rfl, hc, hcell⟩ := hv.at
 have HV := hiD hcell
 clear hv hcell hS hw hL
 have hbx := bel_one w (.cells #[.pointer (some ⟨s, 0, none⟩), .pointer (some ⟨p, 0, none⟩), .string ⟨t.toArray⟩, .bool perm] 97)
 have hkx := Bk.new w 97 #[.pointer (some ⟨s, 0, none⟩), .pointer (some ⟨p, 0, none⟩), .string ⟨t.toArray⟩, .bool perm]
 have HK : Hid (∀ W, Below (w.heap.size + 1) (w.alloc (.cells #[.pointer (some ⟨s, 0, none⟩), .pointer (some ⟨p, 0, none⟩), .string ⟨t.toArray⟩, .bool perm] 97)) W → W.cell? ⟨w.heap.size, 0, none⟩ = some (.pointer (some ⟨s, 0, none⟩)) ∧ W.cell? ⟨w.heap.size, 2, none⟩ = some (.string ⟨t.toArray⟩)) := hiD fun W h => by
  have h' := hkx.below (by rw [World.size_alloc]; exact h)
  exact ⟨h'.cell 0, h'.cell 2⟩
 have hx0 : Below (w.heap.size + 1) (w.alloc (.cells #[.pointer (some ⟨s, 0, none⟩), .pointer (some ⟨p, 0, none⟩), .string ⟨t.toArray⟩, .bool perm] 97)) (w.alloc (.cells #[.pointer (some ⟨s, 0, none⟩), .pointer (some ⟨p, 0, none⟩), .string ⟨t.toArray⟩, .bool perm] 97)) := Below.refl _ _
 have hsz : w.heap.size + 1 = (w.alloc (.cells #[.pointer (some ⟨s, 0, none⟩), .pointer (some ⟨p, 0, none⟩), .string ⟨t.toArray⟩, .bool perm] 97)).heap.size := by simp
 have HSZ := hiD hsz
 have HBX := hiD hbx
 unfold chgV
 clear hbx hkx hsz
 go_enter Tryz.func144, Tryz.ntmps144
 go_wp2_with fail
 generalize w.alloc (.cells #[.pointer (some ⟨s, 0, none⟩), .pointer (some ⟨p, 0, none⟩), .string ⟨t.toArray⟩, .bool perm] 97) = W0 at *
 go_loopg [5, 12] vs.length (fun gk out i wr => ∃ (k : Nat) (acc : LL), k ≤ vs.length ∧ i = .int .i64 k ∧ Aside (k + gk = vs.length) ∧ Aside (acc = (vs.take k).map (Ent.normF (schE L) t)) ∧ Aside (Below (w.heap.size + 1) W0 wr ∧ Own (w.heap.size + 1) wr out acc))
 case atStart => exact ⟨0, [], by omega, rfl, by show _ = _; omega, rfl, ⟨hx0, Own.nil (by rw [HSZ.out]; exact Nat.le_refl _)⟩⟩
 case round =>
  clear hx0
  obtain ⟨k, acc, hk, rfl, AG, AC, AB⟩ := hrel
  obtain ⟨Ao, co, rfl, hco⟩ := AB.out.2.isSlice
  obtain ⟨k0, k2⟩ := HK.out _ AB.out.1
  have hBw : Below w.heap.size w wr := HBX.out.trans (AB.out.1.mono (Nat.le_succ _))
  by_cases hlt : k < vs.length
  ·obtain ⟨q, rfl⟩ : ∃ q, gk = q + 1 := ⟨gk - 1, by have := AG.out; omega⟩
   obtain ⟨a, rfl, c0⟩ := HV.out k hlt
   have d0 := (hBw.cell (cell_lt c0)).trans c0
   have HN1 := hiD (HN.out vs[k] wr hBw)
   have hacl : acc.length < 4000001 := by rw [AC.out, List.length_map, List.length_take]; omega
   have HST : Hid (acc ++ [Ent.normF (schE L) t vs[k]] = (vs.take (k + 1)).map (Ent.normF (schE L) t)) := hiD (by rw [AC.out, List.take_succ_eq_append_getElem hlt, List.map_append]; rfl)
   clear c0
   generalize vs[k] = x at *
   generalize normTy L t x = pp at *
   generalize Ent.normF (schE L) t x = nx at *
   go_wp2_with (first | (go_at_call 21; (with_reducible refine HN1.out.mono ?_); rintro e w2 ⟨rfl, hb2⟩; have hO2 := AB.out.2.below hb2; have hB2 := AB.out.1.trans (hb2.mono AB.out.2.2)) | (at_builtin; refine own_one (c := nx) rfl _ _ rfl rfl hO2 rfl rfl (by omega) ?_; intro v' w4 hO4 hg4))
   go_roundg q
   case measure => omega
   case rel => exact ⟨k + 1, acc ++ [nx], by omega, by go_num, by have := AG.out; show _ = _; omega, HST.out, ⟨Own.bel hB2 hO2 hg4, hO4⟩⟩
  ·obtain rfl : k = vs.length := by omega
   have hf : acc = vs.map (Ent.normF (schE L) t) := by have := AC.out; rw [List.take_length] at this; exact this
   subst hf
   go_wp2_with fail
   go_ret
   exact ⟨hBw, _, rfl, AB.out.2.lower (Nat.le_succ _)⟩
open Go.RowKit
theorem slice_rowF {t e : TypeId} {sz : Nat} (ht : Tryz.prog.underlying t = some (.slice e)) (hs : ∀ w, (sizeOf e).run Tryz.prog w = .ok sz w) (g n c j : Nat) (hj : j ≤ n) (hc : n ≤ c) :
  ∃ B : Addr, (j < c → B = ⟨g, j * sz, none⟩) ∧ ∀ w, (Instr.slice t (.slice (some ⟨g, 0, none⟩) n c) (some (.int .i64 (j : Int))) none none).run Tryz.prog w = .ok (.slice (some B) (n - j) (c - j)) w := by
 have h1 : ∀ w, (Instr.sliceBounds true n c (some (.int .i64 j)) none none).run Tryz.prog w = .ok (j, n, c) w := fun w => by
  simp [Instr.sliceBounds, run_sliceBound, hj, hc]
 have ha : (⟨g, 0, none⟩ : Addr).add (j * sz) = ⟨g, j * sz, none⟩ := add_off g _
 by_cases hjc : j < c
 ·refine ⟨⟨g, j * sz, none⟩, fun _ => rfl, fun w => ?_⟩
  unfold Instr.slice
  simp only [Sem.run_bind, run_underlying ht, Result.andThen_ok, h1, hs, Sem.run_pure]
  simp [ha]
  intro e
  omega
 ·refine ⟨⟨g, 0, none⟩, fun h => absurd h hjc, fun w => ?_⟩
  unfold Instr.slice
  simp only [Sem.run_bind, run_underlying ht, Result.andThen_ok, h1, hs, Sem.run_pure]
  simp [ha]
  intro e
  omega
theorem slice_rowU {t e : TypeId} {sz : Nat} (ht : Tryz.prog.underlying t = some (.slice e)) (hs : ∀ w, (sizeOf e).run Tryz.prog w = .ok sz w) (g n c k : Nat) (hk : k ≤ c) (w : World) :
  (Instr.slice t (.slice (some ⟨g, 0, none⟩) n c) none (some (.int .i64 (k : Int))) none).run Tryz.prog w = .ok (.slice (some ⟨g, 0, none⟩) k c) w := by
 have h1 : (Instr.sliceBounds true n c none (some (.int .i64 k)) none).run Tryz.prog w = .ok (0, k, c) w := by
  simp [Instr.sliceBounds, run_sliceBound, hk]
 unfold Instr.slice
 simp only [Sem.run_bind, run_underlying ht, Result.andThen_ok, h1, hs, Sem.run_pure]
 have ha : (⟨g, 0, none⟩ : Addr).add 0 = ⟨g, 0, none⟩ := add_off g _
 simp [ha]
theorem slice_rowM {t e : TypeId} {sz : Nat} (ht : Tryz.prog.underlying t = some (.slice e)) (hs : ∀ w, (sizeOf e).run Tryz.prog w = .ok sz w) (g m n c lo : Nat) (hl : lo < n) (hn : n ≤ c) (w : World) :
  (Instr.slice t (.slice (some ⟨g, 0, none⟩) m c) (some (.int .i64 (lo : Int))) (some (.int .i64 (n : Int))) none).run Tryz.prog w = .ok (.slice (some ⟨g, lo * sz, none⟩) (n - lo) (c - lo)) w := by
 have h1 : (Instr.sliceBounds true m c (some (.int .i64 lo)) (some (.int .i64 n)) none).run Tryz.prog w = .ok (lo, n, c) w := by
  simp [Instr.sliceBounds, run_sliceBound, hn, Nat.le_of_lt hl]
 unfold Instr.slice
 simp only [Sem.run_bind, run_underlying ht, Result.andThen_ok, h1, hs, Sem.run_pure]
 have ha : (⟨g, 0, none⟩ : Addr).add (lo * sz) = ⟨g, lo * sz, none⟩ := add_off g _
 simp [ha]
 intro e
 omega
theorem clear_last {t e : TypeId} {sz : Nat} {z : Value} (ht : Tryz.prog.underlying t = some (.slice e)) (hz : ∀ w, (zeroValue e).run Tryz.prog w = .ok z w) (hV : (Builtin.zeroCells z.cells 1).toList.length = sz) (h1 : ∀ v ∈ (Builtin.zeroCells z.cells 1).toList, v.oneCell' = true) {w : World} {g o c : Nat} {cs : Array Value} {ty : TypeId} (hk : Bk w g ty cs) (ho : o + sz ≤ cs.size) (tr : TypeId) :
  (Builtin.clear_ #[t] tr #[.slice (some ⟨g, o, none⟩) 1 c]).run Tryz.prog w = .ok (.tuple #[]) (w.setCells g o (Builtin.zeroCells z.cells 1).toList) := by
 generalize hVV : (Builtin.zeroCells z.cells 1).toList = V at *
 have hst := run_storeCells_cells (P := Tryz.prog) g o V 0 w
  (by
   intro j hj
   rw [hk.cell]
   simp
   omega)
  (by
   intro j hj
   exact hk.frozen _) h1
 simp only [Nat.add_zero] at hst
 simp [Builtin.clear_, run_underlying ht, hz, hVV, hst]
theorem delS_walk (B g cap n i j : Nat) (hij : j = i + 1) (hjn : j ≤ n) (fl : List Value) (h1 : ∀ v ∈ fl, v.oneCell' = true) (w : World) (h : w.ownsRow B 9 1 (.slice (some ⟨g, 0, none⟩) n cap) n fl) :
  Calls Tryz.prog 147 #[.slice (some ⟨g, 0, none⟩) n cap, .int .i64 (i : Int), .int .i64 (j : Int)] w fun e w' => e = .returned (.slice (some ⟨g, 0, none⟩) (i + (n - j)) cap) ∧ w.grownBy w' (some g) ∧ w'.ownsRow B 9 1 (.slice (some ⟨g, 0, none⟩) (n - 1) cap) (n - 1) (fl.take (i * 1) ++ fl.drop ((i + 1) * 1)) := by
 have hzl : (Builtin.zeroCells (.string ⟨#[]⟩ : Value).cells 1).toList = [.string ⟨#[]⟩] := by kernel_rfl
 have hzn : (Builtin.zeroCells (.string ⟨#[]⟩ : Value).cells 1).toList.length = 1 := by rw [hzl]; rfl
 have hz1 : ∀ v ∈ (Builtin.zeroCells (.string ⟨#[]⟩ : Value).cells 1).toList, v.oneCell' = true := by
  rw [hzl]
  intro v hv
  simp at hv
  first | (subst hv; rfl) | (rcases hv with rfl | rfl <;> rfl)
 have hdel := row_del (zs := (Builtin.zeroCells (.string ⟨#[]⟩ : Value).cells 1).toList) (w := w.drew) (i := i) (show w.drew.ownsRow B 9 1 (.slice (some ⟨g, 0, none⟩) n cap) n fl from h) (by omega) hzn
 obtain ⟨hfl, h2⟩ := id h
 rcases h2 with ⟨he, hn0⟩ | ⟨g', cap', cur, he, r2, r3, r4, r5, r6, r7⟩
 ·cases he
 obtain ⟨rfl, rfl⟩ : g = g' ∧ cap = cap' := by cases he; exact ⟨rfl, rfl⟩
 have hkw : Bk w.drew g 9 cur := r3
 obtain ⟨i0, hi0, hi1, hi2, hi3⟩ := infoStr
 have hsz : ∀ w, (sizeOf 9).run Tryz.prog w = .ok 1 w := fun w => by kernel_rfl
 have hzv : ∀ w, (zeroValue 9).run Tryz.prog w = .ok (.string ⟨#[]⟩) w := fun w => by kernel_rfl
 obtain ⟨C, hC, hsF⟩ := slice_rowF Tryz.underlying23 hsz g n cap j hjn r4
 have hsU := slice_rowU Tryz.underlying23 hsz g n cap i (by omega)
 have hsM := slice_rowM Tryz.underlying23 hsz g (i + (n - j)) n cap (i + (n - j)) (by omega) r4
 have hm1 : n * 1 ≤ cap * 1 := Nat.mul_le_mul_right _ r4
 have s1 : Hid ((fl.drop ((i + 1) * 1)).length = (n - j) * 1) := hiD (by rw [List.length_drop, hfl, hij, Nat.sub_mul])
 have hsrc : Hid (∀ (t : Nat) (u : Value), (fl.drop ((i + 1) * 1))[t]? = some u → w.drew.cell? (C.add t) = some u) := hiD fun t u hu => by
  rw [List.getElem?_drop] at hu
  have htl := (List.getElem?_eq_some_iff.1 hu).1
  have hjc : j < cap := by
   rw [hfl] at htl
   by_cases hjc : j < cap
   ·exact hjc
   ·exfalso
    have : n = j := by omega
    subst this
    rw [hij] at htl
    omega
  rw [hC hjc, hij]
  have hcu : cur[(i + 1) * 1 + t]? = some u := by
   rw [← r7, List.getElem?_take] at hu
   split at hu
   ·simpa using hu
   ·cases hu
  have := hkw.cell ((i + 1) * 1 + t)
  rw [hcu] at this
  rw [Addr.add_lit]
  exact this
 have s2 : Hid (∀ u ∈ fl.drop ((i + 1) * 1), u.oneCell' = true) := hiD fun u hu => h1 u (List.mem_of_mem_drop hu)
 have s3 : Hid (∀ t, t < (fl.drop ((i + 1) * 1)).length → (w.drew.cell? ⟨g, 0 + i * 1 + t, none⟩).isSome = true ∧ w.drew.frozen? ⟨g, 0 + i * 1 + t, none⟩ = false) := hiD fun t ht => by
  rw [s1.out, hij] at ht
  have hms : (n - (i + 1)) * 1 = n * 1 - (i + 1) * 1 := Nat.sub_mul ..
  have hm2 : (i + 1) * 1 ≤ n * 1 := Nat.mul_le_mul_right _ (by omega)
  refine ⟨?_, hkw.frozen _⟩
  have := hkw.cell (0 + i * 1 + t)
  rw [Array.getElem?_eq_getElem (by omega)] at this
  rw [this]; rfl
 obtain ⟨news, hnews⟩ : ∃ news, news = fl.drop ((i + 1) * 1) := ⟨_, rfl⟩
 rw [← hnews] at s1 hsrc s2 s3 hdel
 obtain ⟨W1, hW1⟩ : ∃ W1, W1 = w.drew.setCells g (0 + i * 1) news := ⟨_, rfl⟩
 have hlo : (i + (n - j)) * 1 + 1 = n * 1 := by
  rw [hij, show i + (n - (i + 1)) = n - 1 by omega, Nat.sub_mul]
  have : 1 * 1 ≤ n * 1 := Nat.mul_le_mul_right _ (by omega)
  omega
 obtain ⟨c1, b1, b2, _⟩ := setCells_at news (0 + i * 1) w.drew cur hkw (by
  have := s1.out
  have hms : (n - (i + 1)) * 1 = n * 1 - (i + 1) * 1 := Nat.sub_mul ..
  have hm2 : (i + 1) * 1 ≤ n * 1 := Nat.mul_le_mul_right _ (by omega)
  rw [this, hij]
  omega)
 have hn1 : n - (i + (n - j)) = 1 := by omega
 rw [hn1] at hsM
 have hcl := fun tr => clear_last (c := cap - (i + (n - j))) Tryz.underlying23 hzv (sz := 1) hzn hz1 (o := (i + (n - j)) * 1) b1 (by omega) tr
 rw [← hW1] at hcl
 have hW : Hid (W1 = w.drew.setCells g (0 + i * 1) news) := hiD hW1
 have HD : Hid (w.grownBy (W1.setCells g ((i + (n - j)) * 1) (Builtin.zeroCells (.string ⟨#[]⟩ : Value).cells 1).toList) (some g) ∧ (W1.setCells g ((i + (n - j)) * 1) (Builtin.zeroCells (.string ⟨#[]⟩ : Value).cells 1).toList).ownsRow B 9 1 (.slice (some ⟨g, 0, none⟩) (n - 1) cap) (n - 1) (fl.take (i * 1) ++ fl.drop ((i + 1) * 1))) := hiD (by
  rw [hW1, show i + (n - j) = n - 1 by omega]
  rw [hnews] at hdel ⊢
  exact ⟨World.grownBy.trans (grown_below (Below.refl _ _).drew (some g)) (World.grownBy.trans (setCells_grown g _ _ _) (setCells_grown g _ _ _)), hdel⟩)
 have hicap : i ≤ cap := by omega
 clear hzl hzn hz1
 generalize (Builtin.zeroCells (.string ⟨#[]⟩ : Value).cells 1).toList = V at *
 have hne : ((i : Int) == (j : Int)) = false := beq_eq_false_iff_ne.2 (by omega)
 simp only [Nat.mul_one] at hcl hsM HD ⊢
 have hij2 : i < j := by omega
 have hjc : j ≤ cap := by omega
 clear hW1 hdel hnews h r3 r6 r7 hkw b1 b2 hC hfl hzv hij
 go_enter Tryz.func147, Tryz.ntmps147
 go_wp2_with fail
 go_region_law (refine step_append_room rfl (.tmp 22) (.tmp 25) 23 rfl 9 i0 1 Tryz.underlying23 hi0 hi2 g 0 i cap (by simp [Act.eval, Act.put]) C (n - j) (cap - j) news (by simp [Act.eval, Act.put]) s1.out hsrc.out s2.out (by omega) s3.out ?_; rw [← hW.out])
 go_wp2_with fail
 go_ret
 exact ⟨rfl, HD.out.1, HD.out.2⟩
theorem delA_walk (B g cap n i j : Nat) (hij : j = i + 1) (hjn : j ≤ n) (fl : List Value) (h1 : ∀ v ∈ fl, v.oneCell' = true) (w : World) (h : w.ownsRow B 46 2 (.slice (some ⟨g, 0, none⟩) n cap) n fl) :
  Calls Tryz.prog 207 #[.slice (some ⟨g, 0, none⟩) n cap, .int .i64 (i : Int), .int .i64 (j : Int)] w fun e w' => e = .returned (.slice (some ⟨g, 0, none⟩) (i + (n - j)) cap) ∧ w.grownBy w' (some g) ∧ w'.ownsRow B 46 2 (.slice (some ⟨g, 0, none⟩) (n - 1) cap) (n - 1) (fl.take (i * 2) ++ fl.drop ((i + 1) * 2)) := by
 have hzl : (Builtin.zeroCells (.agg #[.string ⟨#[]⟩, .slice none 0 0] : Value).cells 1).toList = [.string ⟨#[]⟩, .slice none 0 0] := by kernel_rfl
 have hzn : (Builtin.zeroCells (.agg #[.string ⟨#[]⟩, .slice none 0 0] : Value).cells 1).toList.length = 2 := by rw [hzl]; rfl
 have hz1 : ∀ v ∈ (Builtin.zeroCells (.agg #[.string ⟨#[]⟩, .slice none 0 0] : Value).cells 1).toList, v.oneCell' = true := by
  rw [hzl]
  intro v hv
  simp at hv
  first | (subst hv; rfl) | (rcases hv with rfl | rfl <;> rfl)
 have hdel := row_del (zs := (Builtin.zeroCells (.agg #[.string ⟨#[]⟩, .slice none 0 0] : Value).cells 1).toList) (w := w.drew) (i := i) (show w.drew.ownsRow B 46 2 (.slice (some ⟨g, 0, none⟩) n cap) n fl from h) (by omega) hzn
 obtain ⟨hfl, h2⟩ := id h
 rcases h2 with ⟨he, hn0⟩ | ⟨g', cap', cur, he, r2, r3, r4, r5, r6, r7⟩
 ·cases he
 obtain ⟨rfl, rfl⟩ : g = g' ∧ cap = cap' := by cases he; exact ⟨rfl, rfl⟩
 have hkw : Bk w.drew g 46 cur := r3
 obtain ⟨i0, hi0, hi1, hi2, hi3⟩ := infoAttrA
 have hsz : ∀ w, (sizeOf 46).run Tryz.prog w = .ok 2 w := fun w => by kernel_rfl
 have hzv : ∀ w, (zeroValue 46).run Tryz.prog w = .ok (.agg #[.string ⟨#[]⟩, .slice none 0 0]) w := fun w => by kernel_rfl
 obtain ⟨C, hC, hsF⟩ := slice_rowF Tryz.underlying32 hsz g n cap j hjn r4
 have hsU := slice_rowU Tryz.underlying32 hsz g n cap i (by omega)
 have hsM := slice_rowM Tryz.underlying32 hsz g (i + (n - j)) n cap (i + (n - j)) (by omega) r4
 have hm1 : n * 2 ≤ cap * 2 := Nat.mul_le_mul_right _ r4
 have s1 : Hid ((fl.drop ((i + 1) * 2)).length = (n - j) * 2) := hiD (by rw [List.length_drop, hfl, hij, Nat.sub_mul])
 have hsrc : Hid (∀ (t : Nat) (u : Value), (fl.drop ((i + 1) * 2))[t]? = some u → w.drew.cell? (C.add t) = some u) := hiD fun t u hu => by
  rw [List.getElem?_drop] at hu
  have htl := (List.getElem?_eq_some_iff.1 hu).1
  have hjc : j < cap := by
   rw [hfl] at htl
   by_cases hjc : j < cap
   ·exact hjc
   ·exfalso
    have : n = j := by omega
    subst this
    rw [hij] at htl
    omega
  rw [hC hjc, hij]
  have hcu : cur[(i + 1) * 2 + t]? = some u := by
   rw [← r7, List.getElem?_take] at hu
   split at hu
   ·simpa using hu
   ·cases hu
  have := hkw.cell ((i + 1) * 2 + t)
  rw [hcu] at this
  rw [Addr.add_lit]
  exact this
 have s2 : Hid (∀ u ∈ fl.drop ((i + 1) * 2), u.oneCell' = true) := hiD fun u hu => h1 u (List.mem_of_mem_drop hu)
 have s3 : Hid (∀ t, t < (fl.drop ((i + 1) * 2)).length → (w.drew.cell? ⟨g, 0 + i * 2 + t, none⟩).isSome = true ∧ w.drew.frozen? ⟨g, 0 + i * 2 + t, none⟩ = false) := hiD fun t ht => by
  rw [s1.out, hij] at ht
  have hms : (n - (i + 1)) * 2 = n * 2 - (i + 1) * 2 := Nat.sub_mul ..
  have hm2 : (i + 1) * 2 ≤ n * 2 := Nat.mul_le_mul_right _ (by omega)
  refine ⟨?_, hkw.frozen _⟩
  have := hkw.cell (0 + i * 2 + t)
  rw [Array.getElem?_eq_getElem (by omega)] at this
  rw [this]; rfl
 obtain ⟨news, hnews⟩ : ∃ news, news = fl.drop ((i + 1) * 2) := ⟨_, rfl⟩
 rw [← hnews] at s1 hsrc s2 s3 hdel
 obtain ⟨W1, hW1⟩ : ∃ W1, W1 = w.drew.setCells g (0 + i * 2) news := ⟨_, rfl⟩
 have hlo : (i + (n - j)) * 2 + 2 = n * 2 := by
  rw [hij, show i + (n - (i + 1)) = n - 1 by omega, Nat.sub_mul]
  have : 1 * 2 ≤ n * 2 := Nat.mul_le_mul_right _ (by omega)
  omega
 obtain ⟨c1, b1, b2, _⟩ := setCells_at news (0 + i * 2) w.drew cur hkw (by
  have := s1.out
  have hms : (n - (i + 1)) * 2 = n * 2 - (i + 1) * 2 := Nat.sub_mul ..
  have hm2 : (i + 1) * 2 ≤ n * 2 := Nat.mul_le_mul_right _ (by omega)
  rw [this, hij]
  omega)
 have hn1 : n - (i + (n - j)) = 1 := by omega
 rw [hn1] at hsM
 have hcl := fun tr => clear_last (c := cap - (i + (n - j))) Tryz.underlying32 hzv (sz := 2) hzn hz1 (o := (i + (n - j)) * 2) b1 (by omega) tr
 rw [← hW1] at hcl
 have hW : Hid (W1 = w.drew.setCells g (0 + i * 2) news) := hiD hW1
 have HD : Hid (w.grownBy (W1.setCells g ((i + (n - j)) * 2) (Builtin.zeroCells (.agg #[.string ⟨#[]⟩, .slice none 0 0] : Value).cells 1).toList) (some g) ∧ (W1.setCells g ((i + (n - j)) * 2) (Builtin.zeroCells (.agg #[.string ⟨#[]⟩, .slice none 0 0] : Value).cells 1).toList).ownsRow B 46 2 (.slice (some ⟨g, 0, none⟩) (n - 1) cap) (n - 1) (fl.take (i * 2) ++ fl.drop ((i + 1) * 2))) := hiD (by
  rw [hW1, show i + (n - j) = n - 1 by omega]
  rw [hnews] at hdel ⊢
  exact ⟨World.grownBy.trans (grown_below (Below.refl _ _).drew (some g)) (World.grownBy.trans (setCells_grown g _ _ _) (setCells_grown g _ _ _)), hdel⟩)
 have hicap : i ≤ cap := by omega
 clear hzl hzn hz1
 generalize (Builtin.zeroCells (.agg #[.string ⟨#[]⟩, .slice none 0 0] : Value).cells 1).toList = V at *
 have hne : ((i : Int) == (j : Int)) = false := beq_eq_false_iff_ne.2 (by omega)
 have hij2 : i < j := by omega
 have hjc : j ≤ cap := by omega
 clear hW1 hdel hnews h r3 r6 r7 hkw b1 b2 hC hfl hzv hij
 go_enter Tryz.func207, Tryz.ntmps207
 go_wp2_with fail
 go_region_law (refine step_append_room rfl (.tmp 22) (.tmp 25) 32 rfl 46 i0 2 Tryz.underlying32 hi0 hi2 g 0 i cap (by simp [Act.eval, Act.put]) C (n - j) (cap - j) news (by simp [Act.eval, Act.put]) s1.out hsrc.out s2.out (by omega) s3.out ?_; rw [← hW.out])
 go_wp2_with fail
 go_ret
 exact ⟨rfl, HD.out.1, HD.out.2⟩
theorem DelS_c {B : Nat} {xs : LL} {v : Value} {i : Nat} {w : World} (h : Own B w v xs) (hi : i < xs.length) :
  Calls Tryz.prog 147 #[v, .int .i64 (i : Int), .int .i64 ((i : Int) + 1)] w fun e w' => ∃ v', e = .returned v' ∧ Own B w' v' (xs.eraseIdx i) ∧ w.grownBy w' v.ownBlock ∧ v'.ownBlock = v.ownBlock := by
 obtain ⟨hO, hB⟩ := id h
 rcases h.row with ⟨_, rfl⟩ | ⟨g, c, rfl, hc, hg, hb, _⟩
 ·simp at hi
 have hw := delS_walk B g c xs.length i (i + 1) rfl hi (xs.map strV) (fun v hv => by obtain ⟨x, _, rfl⟩ := List.mem_map.1 hv; rfl) w hO
 have e1 : ((i + 1 : Nat) : Int) = (i : Int) + 1 := by omega
 rw [e1, strs_erase, show i + (xs.length - (i + 1)) = xs.length - 1 by omega] at hw
 refine hw.mono ?_
 rintro e w' ⟨rfl, h1, h2⟩
 refine ⟨_, rfl, ⟨?_, Nat.le_trans hB h1.size⟩, h1, rfl⟩
 rw [List.length_eraseIdx_of_lt hi]
 exact h2
theorem DelA_c {B : Nat} {qs : List AttrQ} {v : Value} {i : Nat} {w : World} (h : OwnAt B w v qs) (hq : ∀ q ∈ qs, q.2.oneCell' = true) (hi : i < qs.length) :
  Calls Tryz.prog 207 #[v, .int .i64 (i : Int), .int .i64 ((i : Int) + 1)] w fun e w' => ∃ v', e = .returned v' ∧ OwnAt B w' v' (qs.eraseIdx i) ∧ w.grownBy w' v.ownBlock := by
 obtain ⟨hO, hB⟩ := id h
 obtain ⟨g, c, rfl, hc, hg, hb, _, _, _⟩ := h.cells hi
 have hw := delA_walk B g c qs.length i (i + 1) rfl hi (qs.flatMap aqCells) (fun v hv => by
  obtain ⟨q, hqm, hv⟩ := List.mem_flatMap.1 hv
  simp [aqCells] at hv
  rcases hv with rfl | rfl
  ·rfl
  ·exact hq q hqm) w hO
 have e1 : ((i + 1 : Nat) : Int) = (i : Int) + 1 := by omega
 rw [e1, aflat_erase, show i + (qs.length - (i + 1)) = qs.length - 1 by omega] at hw
 refine hw.mono ?_
 rintro e w' ⟨rfl, h1, h2⟩
 refine ⟨_, rfl, ⟨?_, Nat.le_trans hB h1.size⟩, h1⟩
 rw [List.length_eraseIdx_of_lt hi]
 exact h2
open Go.RowKit
section
variable {ops : Array Oper} {o : Oper} {a : Act} {K : Act → World → Prop} {Q : Exit → Act → World → Prop} {E : Prop}
theorem step_attr_one {w : World} (hgd : o.guard = none) (s x : Operand) (ho : o.op = .call { callee := .builtin .append, args := #[s, x], argTypes := #[32, 32] })
  {v va : Value} {qs : List AttrQ} {B N : Nat} {t : LU} {vals : LL} (hv : va.oneCell' = true) (hs : a.eval s = v) (hb : OwnAt B w v qs)
  (hx : a.eval x = .slice (some ⟨N, 0, none⟩) 1 1) (c0 : w.cell? ⟨N, 0, none⟩ = some (.string ⟨t.toArray⟩)) (c1 : w.cell? ⟨N, 1, none⟩ = some va) (hlen : qs.length < 1000000)
  (h : ∀ v' w', OwnAt B w' v' (qs ++ [(⟨t, vals⟩, va)]) → w.grownBy w' v.ownBlock → K (a.put o.dst v') w') :
  if Region.wanted o (yielded ops a.tmps) = true then Oper.wp Tryz.prog o a w K Q else E := by
 obtain ⟨i, h1, h2, h3, h4⟩ := infoAttrA
 refine step_append_own hgd s x 32 ho B 46 i (.agg #[.string ⟨#[]⟩, .slice none 0 0]) 2 40 Tryz.underlying32 h1 h2 h3 h4 rfl (by decide) v _ _ hs hb.1 ⟨N, 0, none⟩ 1 1 (aqCells (⟨t, vals⟩, va)) hx rfl ?_ ?_ (by unfold maxLen; omega) (by omega) hb.2 ?_
 ·intro j u hj
  match j, hj with
  | 0, hj => simp [aqCells] at hj; subst hj; rw [add_at2]; exact c0
  | 1, hj => simp [aqCells] at hj; subst hj; rw [add_at2]; exact c1
  | (j + 2), hj => simp [aqCells] at hj
 ·intro u hu; simp [aqCells] at hu; rcases hu with rfl | rfl <;> first | rfl | exact hv
 ·intro v' w' ho' hg
  refine h v' w' ⟨?_, Nat.le_trans hb.2 hg.size⟩ hg
  simpa using ho'
end
def ChgB (B p : Nat) (w w' : World) : Prop := Below B w w' ∧ ∀ (k : Nat) (t : TypeId) (cs : Array Value), Bk w k t cs → k ≠ p → t ≠ 46 → Bk w' k t cs
theorem ChgB.below {B p : Nat} {w w' : World} (hB : B ≤ w.heap.size) (h : Below w.heap.size w w') : ChgB B p w w' := ⟨h.mono hB, fun _ _ _ hk _ _ => hk.below h⟩
theorem ChgB.trans {B p : Nat} {a b c : World} (h : ChgB B p a b) (h' : ChgB B p b c) : ChgB B p a c := ⟨h.1.trans h'.1, fun k t cs hk h1 h2 => h'.2 k t cs (h.2 k t cs hk h1 h2) h1 h2⟩
theorem OwnAt.slice3 {B : Nat} {w : World} {v : Value} {qs : List AttrQ} (h : OwnAt B w v qs) : ∃ A n c, v = .slice A n c := by
 obtain ⟨A, c, h, _⟩ := h.isSlice
 exact ⟨A, _, c, h⟩
theorem ent_put {B p : Nat} {w w3 : World} {dn : LU} {v v3 : Value} {qs qs3 : List AttrQ} (hBp : B ≤ p) (hP : Bk w p 37 #[.string ⟨dn.toArray⟩, v]) (hO : OwnAt B w v qs) (hQ : AQOwn w qs3) (hO3 : OwnAt B w3 v3 qs3) (hg : w.grownBy w3 v.ownBlock) :
  Bk w3 p 37 #[.string ⟨dn.toArray⟩, v] ∧ EntAt B (w3.setCell ⟨p, 1, none⟩ v3) p ⟨dn, qs3.map (·.1)⟩ ∧ ∀ W0, ChgB B p W0 w → ChgB B p W0 (w3.setCell ⟨p, 1, none⟩ v3) := by
 have hP3 := hP.grown hg (hO.ne hP (by decide))
 have hs := setCell_grown w3 p 1 v3
 obtain ⟨A, c, rfl, _⟩ := hO3.isSlice
 refine ⟨hP3, ⟨A, c, qs3, rfl, hBp, ?_, ?_, (hQ.grown hO hg).far hP3 (by decide) hs⟩, fun W0 h => ⟨(h.1.grown hg hO.2 (fun k hk => (hO.lt k hk).1)).setCell hBp _, fun k t cs hk h1 h2 => ?_⟩⟩
 ·have := hP3.set 1 (.slice A qs3.length c)
  simpa using this
 ·have := hO3.keep2 hs (hO3.apart hP3 (by decide))
  simpa using this
 ·have k1 := h.2 k t cs hk h1 h2
  have k3 := k1.grown hg (hO.ne k1 h2)
  exact k3.grown hs (fun e => h1 (Option.some.inj e))
theorem ent_store {B p g i n c : Nat} {w : World} {dn t : LU} {us : LL} {vu : Value} {qs : List AttrQ} (hBp : B ≤ p) (hn : qs.length = n) (hP : Bk w p 37 #[.string ⟨dn.toArray⟩, .slice (some ⟨g, 0, none⟩) n c]) (hO : OwnAt B w (.slice (some ⟨g, 0, none⟩) n c) qs) (hQ : AQOwn w qs) (hu : Own 0 w vu us) (hi : i < qs.length) (ht : qs[i].1.typ = t) :
  EntAt B (w.setCell ⟨g, i * 2 + 1, none⟩ vu) p ⟨dn, (qs.map (·.1)).set i ⟨t, us⟩⟩ ∧ ∀ W0, ChgB B p W0 w → ChgB B p W0 (w.setCell ⟨g, i * 2 + 1, none⟩ vu) := by
 obtain ⟨cs, hk⟩ := hO.ty (k := g) rfl
 have hs := setCell_grown w g (i * 2 + 1) vu
 have hO2 := hO.setv hi us vu
 rw [ht] at hO2
 have hgB := (hO.lt g rfl).1
 have hP2 := hP.grown hs (by
  intro e
  have := Option.some.inj e
  subst this
  exact bk_ne hP hk (by decide) rfl)
 refine ⟨⟨some ⟨g, 0, none⟩, c, qs.set i (⟨t, us⟩, vu), by rw [List.map_set], hBp, ?_, ?_, fun q hq => ?_⟩, fun W0 h => ⟨h.1.setCell hgB _, fun k t cs hk' h1 h2 => (h.2 k t cs hk' h1 h2).grown hs (fun e => bk_ne (h.2 k t cs hk' h1 h2) hk h2 (Option.some.inj e))⟩⟩
 ·rw [List.length_set, List.length_map, hn]; exact hP2
 ·rw [List.length_set, List.length_map, hn]; exact hO2
 ·rcases List.mem_or_eq_of_mem_set hq with hq | rfl
  ·exact hQ.far hk (by decide) hs q hq
  ·exact hu.keep2 hs (hu.apart hk (by decide))
theorem set_none {e : Ent.EntryE} {t : LU} {us : LL} (h : Ent.atE e t = none) : Ent.setE e t us = if us.isEmpty then e else ⟨e.dn, e.attrs ++ [⟨t, us⟩]⟩ := by
 unfold Ent.setE
 rw [h]
theorem set_some {e : Ent.EntryE} {t : LU} {us : LL} {i : Nat} (h : Ent.atE e t = some i) : Ent.setE e t us = if us.isEmpty then ⟨e.dn, e.attrs.eraseIdx i⟩ else ⟨e.dn, e.attrs.set i ⟨t, us⟩⟩ := by
 unfold Ent.setE
 rw [h]
theorem set_c (B s p : Nat) (t : LU) (perm : Bool) (e : Ent.EntryE) (us : LL) (vu : Value) (w : World) (hE : EntAt B w p e) (hl : e.attrs.length ≤ 1000) (hu : Own 0 w vu us) :
  Calls Tryz.prog 145 #[chgV s p t perm, vu] w fun r w' => r = .returned (.tuple #[]) ∧ ChgB B p w w' ∧ EntAt B w' p (Ent.setE e t us) := by
 have hbx := bel_one w (.cells #[.pointer (some ⟨s, 0, none⟩), .pointer (some ⟨p, 0, none⟩), .string ⟨t.toArray⟩, .bool perm] 97)
 have hkx := Bk.new w 97 #[.pointer (some ⟨s, 0, none⟩), .pointer (some ⟨p, 0, none⟩), .string ⟨t.toArray⟩, .bool perm]
 have HC := hiD (at_c B s p t perm e _ (hE.below hbx) hl)
 have HE := hiD hE
 have HU := hiD hu
 have hBw : B ≤ w.heap.size := by
  obtain ⟨_, _, _, _, _, _, hO, _⟩ := hE
  exact hO.2
 obtain ⟨Au, cu, rfl, hcu⟩ := hu.isSlice
 clear hE hu
 rcases at_vals e t with ⟨h1, _⟩ | ⟨i, hi, h1, _, hti⟩
 ·rw [h1] at HC
  rw [set_none h1]
  unfold chgV atI at *
  simp only at HC
  by_cases hus : us = []
  ·subst hus
   rw [if_pos (by rfl)]
   simp only [List.length_nil] at HU ⊢
   go_enter Tryz.func145, Tryz.ntmps145
   go_wp2_with (go_at_call 146; (with_reducible refine HC.out.mono ?_); rintro r w2 ⟨rfl, hb2⟩; have hB2 := hbx.trans (hb2.mono hbx.size))
   go_end0
   exact ⟨rfl, ChgB.below hBw hB2, HE.out.below hB2⟩
  ·have hne : us.length ≠ 0 := fun h => hus (List.eq_nil_of_length_eq_zero h)
   have hz : ((us.length : Int) == 0) = false := beq_eq_false_iff_ne.2 (by omega)
   rw [if_neg (fun h => hus (List.isEmpty_iff.1 h))]
   clear hus
   go_enter Tryz.func145, Tryz.ntmps145
   go_wp2_with (go_at_call 146; (with_reducible refine HC.out.mono ?_); rintro r w2 ⟨rfl, hb2⟩)
   have hB2 := hbx.trans (hb2.mono hbx.size)
   obtain ⟨A, c, qs, hq, hBp, hP, hO, hQ⟩ := HE.out.below hB2
   have hba := bel_one w2 (.cells #[.string ⟨t.toArray⟩, .slice Au us.length cu] 46)
   have hka := Bk.new w2 46 #[.string ⟨t.toArray⟩, .slice Au us.length cu]
   have hdr : Below (w2.alloc (.cells #[.string ⟨t.toArray⟩, .slice Au us.length cu] 46)).heap.size (w2.alloc (.cells #[.string ⟨t.toArray⟩, .slice Au us.length cu] 46)) (w2.alloc (.cells #[.string ⟨t.toArray⟩, .slice Au us.length cu] 46)).drew := (Below.refl _ _).drew
   have hPa := hP.below hba
   have hPd := hPa.below hdr
   have hOd := (hO.below hba).below hdr
   have hQd := AQOwn.app ((hQ.below hba).below hdr) (AQOwn.one (t := t) (((HU.out.below hB2).below hba).below hdr))
   have hBa := hB2.trans ((hba.trans (hdr.mono hba.size)).mono hB2.size)
   have k1 := (hkx.below hb2).cell 1
   have k2 := (hkx.below hb2).cell 2
   have ka1 := ((hkx.below hb2).below hba).cell 1
   have ka2 := ((hkx.below hb2).below hba).cell 2
   have p1 := hP.cell 1
   have pa1 := hPa.cell 1
   have a0 := hka.cell 0
   have a1 := hka.cell 1
   simp only [gs3] at k1 k2 ka1 ka2 p1 pa1 a0 a1
   have hql : qs.length < 1000000 := by have := congrArg List.length hq; rw [List.length_map] at this; omega
   have hkx2 := ((hkx.below hb2).below hba).below hdr
   go_region_law (first
    | (refine step_attr_one (N := w2.heap.size) (t := t) (vals := us) (by rfl) _ _ (by rfl) rfl (by simp [Act.eval, Act.put]) hOd (by simp [Act.eval, Act.put]) a0 a1 hql ?_; intro v5 w5 hO5 hg5; obtain ⟨A5, n5, c5, rfl⟩ := hO5.slice3; obtain ⟨hP5, hE5, hC5⟩ := ent_put hBp hPd hOd hQd hO5 hg5; have p5 := hP5.cell 1; have of5 := fun i => hP5.frozen i; have k5 := (hkx2.grown hg5 (hOd.ne hkx2 (by decide))).cell 1; simp only [gs3] at p5 k5)
    | fail)
   all_goals
    go_wp2_with fail
    go_end0
    refine ⟨rfl, hC5 _ (ChgB.below hBw hBa), ?_⟩
    have h := hE5
    rw [List.map_append, hq] at h
    exact h
 ·rw [h1] at HC
  rw [set_some h1]
  unfold chgV atI at *
  simp only at HC
  by_cases hus : us = []
  ·subst hus
   rw [if_pos (by rfl)]
   simp only [List.length_nil] at HU ⊢
   have hi0 : (0 : Int) ≤ (i : Int) := by omega
   go_enter Tryz.func145, Tryz.ntmps145
   go_wp2_with (go_at_call 146; (with_reducible refine HC.out.mono ?_); rintro r w2 ⟨rfl, hb2⟩)
   have hB2 := hbx.trans (hb2.mono hbx.size)
   have hd : Below w2.heap.size w2 w2.drew := (Below.refl _ _).drew
   have hBd := hB2.trans (hd.mono hB2.size)
   obtain ⟨A, c, qs, hq, hBp, hP, hO, hQ⟩ := HE.out.below hBd
   have hql : qs.length = e.attrs.length := by rw [← hq, List.length_map]
   have hDl := DelA_c hO (fun q hq => by obtain ⟨A, c, h, _⟩ := (hQ q hq).isSlice; rw [h]; rfl) (i := i) (by omega)
   have hQ3 : AQOwn w2.drew (qs.eraseIdx i) := fun q hq => hQ q (List.mem_of_mem_eraseIdx hq)
   have hkx2 := (hkx.below hb2).below hd
   have k1 := hkx2.cell 1
   have p1 := hP.cell 1
   simp only [gs3] at k1 p1
   have hwr : IntKind.i64.wrap ((i : Int) + 1) = (i : Int) + 1 := by rw [IntKind.wrap_i64]; omega
   go_region_law (first
    | (go_simp; go_at_call 207; (with_reducible refine hDl.mono ?_); rintro r w5 ⟨v5, rfl, hO5, hg5⟩; obtain ⟨A5, n5, c5, rfl⟩ := hO5.slice3; obtain ⟨hP5, hE5, hC5⟩ := ent_put hBp hP hO hQ3 hO5 hg5; have p5 := hP5.cell 1; have of5 := fun i => hP5.frozen i; have k5 := (hkx2.grown hg5 (hO.ne hkx2 (by decide))).cell 1; simp only [gs3] at p5 k5)
    | fail)
   all_goals
    go_wp2_with fail
    go_end0
    refine ⟨rfl, hC5 _ (ChgB.below hBw hBd), ?_⟩
    have h := hE5
    rw [Ent.map_erase, hq] at h
    exact h
  ·have hne : us.length ≠ 0 := fun h => hus (List.eq_nil_of_length_eq_zero h)
   have hz : ((us.length : Int) == 0) = false := beq_eq_false_iff_ne.2 (by omega)
   have hi0 : ¬ ((i : Int) < 0) := by omega
   rw [if_neg (fun h => hus (List.isEmpty_iff.1 h))]
   have hadd := add_at2
   clear hus
   go_enter Tryz.func145, Tryz.ntmps145
   go_upto_region 2 with (go_at_call 146; (with_reducible refine HC.out.mono ?_); rintro r w2 ⟨rfl, hb2⟩)
   have hB2 := hbx.trans (hb2.mono hbx.size)
   obtain ⟨A, c, qs, hq, hBp, hP, hO, hQ⟩ := HE.out.below hB2
   have hql : qs.length = e.attrs.length := by rw [← hq, List.length_map]
   obtain ⟨g, c', he, hcc, hgB, hob, ⟨cs, hkr⟩, x0, x1⟩ := hO.cells (i := i) (by omega)
   have hAe : A = some ⟨g, 0, none⟩ := by injection he
   subst hAe
   have hti' : (qs[i]'(by omega)).1.typ = t := by
    rw [← hti]
    have : (qs.map (·.1))[i]? = some e.attrs[i] := by rw [hq]; exact List.getElem?_eq_getElem hi
    rw [List.getElem?_map, List.getElem?_eq_getElem (by omega)] at this
    have h2 : (qs[i]'(by omega)).1 = e.attrs[i] := Option.some.inj this
    rw [h2]
   obtain ⟨hE5, hC5⟩ := ent_store hBp hql hP hO hQ (HU.out.below hB2) (by omega) hti'
   have k1 := (hkx.below hb2).cell 1
   have p1 := hP.cell 1
   have of5 := fun i => hkr.frozen i
   simp only [gs3] at k1 p1
   have HE5 := hiD hE5
   have HC5 := hiD hC5
   clear hE5 hC5 hQ hO hti'
   go_wp2_with fail
   go_end0
   refine ⟨rfl, HC5.out _ (ChgB.below hBw hB2), ?_⟩
   have h := HE5.out
   rw [hq] at h
   exact h
end Go.Proofs.YtkkbbhlihilnpaaGreatDoor
