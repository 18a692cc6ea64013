import Derived.Test.YtkkbbhlihilnpaaGreatDoorWr6
set_option linter.all false
set_option maxHeartbeats 8000000
set_option maxRecDepth 100000
namespace Go.Proofs.YtkkbbhlihilnpaaGreatDoor
open Go.RowKit
def AQOwn (W : World) (qs : List AttrQ) : Prop := ∀ q ∈ qs, Own 0 W q.2 q.1.vals
theorem AQOwn.nil (w : World) : AQOwn w [] := fun q hq => (by cases hq)
theorem AQOwn.below {w w' : World} {qs : List AttrQ} (h : AQOwn w qs) (hb : Below w.heap.size w w') : AQOwn w' qs := fun q hq => (h q hq).below hb
theorem AQOwn.ok {w : World} {qs : List AttrQ} (h : AQOwn w qs) : AQOk w qs := fun q hq => (h q hq).textsA
theorem AQOwn.far {w w' : World} {qs : List AttrQ} {g : Nat} {t : TypeId} {cs : Array Value} (h : AQOwn w qs) (hg : Bk w g t cs) (ht : t ≠ 9) (hw : w.grownBy w' (some g)) : AQOwn w' qs := fun q hq => (h q hq).keep2 hw ((h q hq).apart hg ht)
theorem OwnAt.ty {B : Nat} {w : World} {v : Value} {qs : List AttrQ} (h : OwnAt B w v qs) {k : Nat} (hk : v.ownBlock = some k) : ∃ cs, Bk w k 46 cs := by
 obtain ⟨⟨h1, h2⟩, h3⟩ := h
 rcases h2 with ⟨rfl, hn⟩ | ⟨g, cap, cur, rfl, r2, r3, r4, r5, r6, r7⟩
 ·simp [Value.ownBlock] at hk
 ·have hgk : g = k := by simpa [Value.ownBlock] using hk
  subst hgk
  exact ⟨cur, r3⟩
theorem AQOwn.grown {B : Nat} {w w' : World} {v : Value} {qs rs : List AttrQ} (h : AQOwn w qs) (hv : OwnAt B w v rs) (hg : w.grownBy w' v.ownBlock) : AQOwn w' qs := by
 cases hk : v.ownBlock with
 | none =>
  rw [hk] at hg
  exact fun q hq => (h q hq).keep hg (fun k hk => by cases hk)
 | some g =>
  obtain ⟨cs, hb⟩ := hv.ty hk
  rw [hk] at hg
  exact h.far hb (by decide) hg
theorem AQOwn.app {w : World} {qs ys : List AttrQ} (h : AQOwn w qs) (h' : AQOwn w ys) : AQOwn w (qs ++ ys) := fun q hq => (List.mem_append.1 hq).elim (h q) (h' q)
theorem AQOwn.one {w : World} {t : LU} {vs : LL} {v : Value} (h : Own 0 w v vs) : AQOwn w [(⟨t, vs⟩, v)] := fun q hq => by rw [List.mem_singleton.1 hq]; exact h
def EntRet (w : World) (R : Int × Ent.EntryE) (e : Ending) (w' : World) : Prop := Below w.heap.size w w' ∧ ∃ (A : Option Addr) (c : Nat) (qs : List AttrQ), e = .returned (.tuple #[.agg #[.string ⟨R.2.dn.toArray⟩, .slice A R.2.attrs.length c], .int .i64 R.1]) ∧ qs.map (·.1) = R.2.attrs ∧ OwnAt w.heap.size w' (.slice A R.2.attrs.length c) qs ∧ AQOwn w' qs
theorem EntRet.zero {w w' : World} (hb : Below w.heap.size w w') (k : Int) : EntRet w (k, Ent.zeroE) (.returned (.tuple #[.agg #[.string ⟨#[]⟩, .slice none 0 0], .int .i64 k])) w' :=
 ⟨hb, none, 0, [], rfl, rfl, OwnAt.nil hb.size, AQOwn.nil _⟩
theorem OwnAt.keep2 {B : Nat} {w w' : World} {v : Value} {qs : List AttrQ} (h : OwnAt B w v qs) {r : Option Nat} (hg : w.grownBy w' r) (hr : ∀ k, v.ownBlock = some k → r ≠ some k) : OwnAt B w' v qs := by
 refine ⟨h.1.kept hg ?_, Nat.le_trans h.2 hg.size⟩
 rcases hv : v.ownBlock with _ | g
 ·exact .inl rfl
 ·refine .inr ?_
  intro he
  exact hr g hv he.symm
theorem OwnAt.apart {B g : Nat} {w : World} {v : Value} {qs : List AttrQ} {t : TypeId} {cs : Array Value} (h : OwnAt B w v qs) (hg : Bk w g t cs) (ht : t ≠ 46) : ∀ k, v.ownBlock = some k → (some g : Option Nat) ≠ some k := by
 intro k hk e
 cases e
 obtain ⟨cs', h'⟩ := h.ty hk
 exact bk_ne hg h' ht rfl
theorem OwnAt.ne {B g : Nat} {w : World} {v : Value} {qs : List AttrQ} {t : TypeId} {cs : Array Value} (h : OwnAt B w v qs) (hg : Bk w g t cs) (ht : t ≠ 46) : (some g : Option Nat) ≠ v.ownBlock := fun e => h.apart hg ht g e.symm rfl
theorem have_nodup {S : Ent.SchE} (dn : LU) : ∀ (l : List Ent.AttrE), (∀ a ∈ l, Ent.RightA S a) → (l.map Ent.AttrE.typ).Nodup → (Ent.haveE S ⟨dn, l⟩).Nodup
 | [], _, _ => List.nodup_nil
 | a :: l, h, hn => by
  have hr := h a (List.mem_cons_self ..)
  have e : Ent.haveE S ⟨dn, a :: l⟩ = ((Ent.formsE S a.typ a.vals).getD []).map (fun n => (a.typ, n)) ++ Ent.haveE S ⟨dn, l⟩ := by
   unfold Ent.haveE
   rw [List.flatMap_cons]
  rw [e, Ent.forms_mk hr.ok, Option.getD_some]
  rw [List.map_cons, List.nodup_cons] at hn
  rw [List.nodup_append]
  refine ⟨?_, have_nodup dn l (fun x hx => h x (List.mem_cons_of_mem _ hx)) hn.2, ?_⟩
  ·rw [List.nodup_iff_pairwise_ne, List.pairwise_map]
   exact (List.nodup_iff_pairwise_ne.1 hr.once).imp fun hne he => hne (Prod.mk.inj he).2
  ·intro x hx y hy hxy
   subst hxy
   obtain ⟨n, _, rfl⟩ := List.mem_map.1 hx
   unfold Ent.haveE at hy
   obtain ⟨b, hb, hy⟩ := List.mem_flatMap.1 hy
   obtain ⟨m, _, he⟩ := List.mem_map.1 hy
   exact hn.1 (List.mem_map.2 ⟨b, hb, (Prod.mk.inj he).1⟩)
theorem right_short {L : List DefS} (hlim : ∀ d ∈ L, DefLim d) {a : Ent.AttrE} (h : Ent.RightA (schE L) a) : a.typ.length ≤ 1000000 ∧ a.vals.length ≤ 1000000 := by
 obtain ⟨d, hd, hn⟩ := h.known
 have h1 := attrO_len hlim a.typ
 have h2 : (attrO L a.typ).name = a.typ := by
  rw [attrO_name]
  unfold Ent.nameE
  rw [hd]
  exact hn
 rw [h2] at h1
 have := h.few
 exact ⟨h1, by omega⟩
theorem Make_out {w W : World} {r0 r1 : Value} {tmps : Array Value} {R : Int × Ent.EntryE} {k : Int} (hz : Bk W w.heap.size 37 #[r0, r1]) (h6 : tmps[6]? = some (.pointer (some ⟨w.heap.size, 0, none⟩))) (h7 : tmps[7]? = some (.int .i64 k))
  (h : EntRet w R (.returned (.tuple #[.agg #[r0, r1], .int .i64 k])) W) :
  bodyPost Tryz.prog Tryz.f19 (EntRet w R) .ret { tmps := tmps, defers := [] } W := by
 have e6 : tmps[6]?.getD undef = .pointer (some ⟨w.heap.size, 0, none⟩) := by rw [h6]; rfl
 have e7 : tmps[7]?.getD undef = .int .i64 k := by rw [h7]; rfl
 have c0 := hz.cell 0
 have c1 := hz.cell 1
 simp only [gs3] at c0 c1
 refine bodyPost_ret (v := .tuple #[.agg #[r0, r1], .int .i64 k]) ?_ rfl h
 simp [results, Tryz.results19, go_sem, e6, e7, c0, c1]
structure MakeJ (w wr : World) (p : Nat) (nm : LU) (va : Value) (qs : List AttrQ) : Prop where
 bel : Below w.heap.size w wr
 res : Bk wr w.heap.size 37 #[.string ⟨#[]⟩, .slice none 0 0]
 out : Bk wr p 37 #[.string ⟨nm.toArray⟩, va]
 row : OwnAt w.heap.size wr va qs
 own : AQOwn wr qs
theorem MakeJ.below {w wr W : World} {p : Nat} {nm : LU} {va : Value} {qs : List AttrQ} (h : MakeJ w wr p nm va qs) (hb : Below wr.heap.size wr W) : MakeJ w W p nm va qs := ⟨h.bel.trans (hb.mono h.bel.size), h.res.below hb, h.out.below hb, h.row.below hb, h.own.below hb⟩
theorem MakeJ.mid {w wr W : World} {p : Nat} {nm : LU} {va : Value} {qs : List AttrQ} (h : MakeJ w wr p nm va qs) (hg : wr.grownBy W va.ownBlock) : Bk W p 37 #[.string ⟨nm.toArray⟩, va] := h.out.grown hg (h.row.ne h.out (by decide))
theorem MakeJ.more {w wr W : World} {p : Nat} {nm : LU} {va v' : Value} {qs : List AttrQ} {q : AttrQ} (h : MakeJ w wr p nm va qs) (hp : w.heap.size < p) (hq : Own 0 wr q.2 q.1.vals) (hO : OwnAt w.heap.size W v' (qs ++ [q])) (hg : wr.grownBy W va.ownBlock) : MakeJ w (W.setCell ⟨p, 1, none⟩ v') p nm v' (qs ++ [q]) := by
 have hP := h.out.grown hg (h.row.ne h.out (by decide))
 have hR := h.res.grown hg (h.row.ne h.res (by decide))
 have hP2 : Bk (W.setCell ⟨p, 1, none⟩ v') p 37 #[.string ⟨nm.toArray⟩, v'] := by simpa using hP.set 1 v'
 have hs := setCell_grown W p 1 v'
 have hB := h.bel.grown hg h.row.2 (fun k hk => (h.row.lt k hk).1)
 have hQ : AQOwn W (qs ++ [q]) := AQOwn.grown (AQOwn.app h.own (fun x hx => by rw [List.mem_singleton.1 hx]; exact hq)) h.row hg
 exact ⟨hB.setCell (Nat.le_of_lt hp) _, hR.grown hs (by intro e; have := Option.some.inj e; omega), hP2, hO.keep2 hs (hO.apart hP (by decide)), hQ.far hP (by decide) hs⟩
theorem Make_c (s : Nat) (ps : List Nat) (L : List DefS) (hL : Sound L) (nm : LU) (l : List Ent.AttrE) (vl : Value) (w : World) (hw : Env w) (hS : SchAt w s ps L) (hv : AttrsA w vl l) (hl : l.length ≤ 1048576) (hlt : ∀ a ∈ l, a.typ.length ≤ 140737488351232 ∧ a.vals.length ≤ 1000000) :
  Calls Tryz.prog 19 #[.pointer (some ⟨s, 0, none⟩), .string ⟨nm.toArray⟩, vl] w (EntRet w (Ent.makeE (schE L) nm l)) := by
 obtain ⟨M, hM⟩ : ∃ M, Ent.makeE (schE L) nm l = M := ⟨_, rfl⟩
 rw [hM]
 have HK : Hid (∀ W : World, Below w.heap.size w W → Calls Tryz.prog 35 #[.pointer (some ⟨s, 0, none⟩), .string ⟨nm.toArray⟩] W fun e w' => e = .returned (intStr (keyS L nm)) ∧ Below W.heap.size W w') := hiD fun W h => Key_c s ps L hL nm W (hw.keep h) (hS.below h)
 have HAt : Hid (∀ (k : Nat) (hk : k < l.length) (va : Value) (qs : List AttrQ) (vh : Value) (W : World), Below w.heap.size w W → TextsA W va l[k].vals → AttrsA W vh (qs.map (·.1)) → qs.length ≤ 1000000 → Calls Tryz.prog 36 #[.pointer (some ⟨s, 0, none⟩), .agg #[.string ⟨l[k].typ.toArray⟩, va], vh] W (AttrRet7 W (Ent.attrE (schE L) l[k] (qs.map (·.1))))) := hiD fun k hk va qs vh W h ht hh hq => attr7_c s ps L hL l[k] va (qs.map (·.1)) vh W (hw.keep h) (hS.below h) ht hh (hlt _ (List.getElem_mem hk)).1 (hlt _ (List.getElem_mem hk)).2 (by rw [List.length_map]; exact hq)
 have HO : Hid (∀ (ats : List Ent.AttrE) (va : Value) (W : World), Ent.makeF (schE L) l [] = .inr ats → Below w.heap.size w W → AttrsA W va ats → ats.length ≤ 1000 → Calls Tryz.prog 37 #[.pointer (some ⟨s, 0, none⟩), .agg #[.string ⟨nm.toArray⟩, va]] W fun e w' => e = .returned (.bool (Ent.ownE (schE L) ⟨nm, ats⟩)) ∧ Below W.heap.size W w') := hiD fun ats va W hF h hA hn => by
  obtain ⟨r1, r2, _⟩ := Ent.makeF_right (schE_law hL.says) l [] ats (fun a ha => by cases ha) List.nodup_nil hF
  exact own_c s ps L hL nm ats va W (hw.keep h) (hS.below h) hA hn (fun a ha => right_short hL.lim (r1 a ha)) (have_nodup nm ats r1 r2)
 have hM0 : (if (keyS L nm).1 != 0 then (34, Ent.zeroE) else if 100 < l.length then (19, Ent.zeroE) else match Ent.makeF (schE L) l [] with
  | .inl c => (c, Ent.zeroE)
  | .inr ats => if Ent.ownE (schE L) ⟨nm, ats⟩ then (0, ⟨nm, ats⟩) else (64, Ent.zeroE)) = M := hM
 obtain ⟨Al, cl, rfl, hcl, hcell⟩ := hv.at
 have HV := hiD hcell
 clear hv hcell hS hw hM
 obtain ⟨kp, hkp⟩ : ∃ p, keyS L nm = p := ⟨_, rfl⟩
 rw [hkp] at HK hM0
 obtain ⟨kc, kn⟩ := kp
 unfold intStr at HK
 simp only at HK hM0
 clear hkp
 have hR0 := Bk.new w 37 #[.string ⟨#[]⟩, .slice none 0 0]
 have hb0 := bel_one w (.cells #[.string ⟨#[]⟩, .slice none 0 0] 37)
 by_cases hk : kc = 0
 ·subst hk
  by_cases h100 : 100 < l.length
  ·have hM1 : M = (19, Ent.zeroE) := by rw [← hM0]; simp [h100]
   subst hM1
   clear HAt HO HV hM0 hlt
   go_enter Tryz.func19, Tryz.ntmps19
   go_wp2_with (go_at_call 35; (with_reducible refine (HK.out _ hb0).mono ?_); rintro e w1 ⟨rfl, hb1⟩; have hB1 := hb0.trans (hb1.mono hb0.size); have hR1 := hR0.below hb1; have r0 := hR1.cell 0; have r1 := hR1.cell 1; simp only [gs3] at r0 r1; have of := fun i => hR1.frozen i)
   have hz := bk_set2 _ _ (.string ⟨#[]⟩) (.slice none 0 0) hR1
   exact Make_out hz rfl rfl (EntRet.zero (below_set2 hB1 (Nat.le_refl _) _ _) 19)
  ·have hM1 : (match Ent.makeF (schE L) l [] with
    | .inl c => (c, Ent.zeroE)
    | .inr ats => if Ent.ownE (schE L) ⟨nm, ats⟩ then (0, ⟨nm, ats⟩) else (64, Ent.zeroE)) = M := by rw [← hM0]; simp [h100]
   have HM := hiD hM1
   clear hM0 hM1 hlt
   go_enter Tryz.func19, Tryz.ntmps19
   go_wp2_with (go_at_call 35; (with_reducible refine (HK.out _ hb0).mono ?_); rintro e w1 ⟨rfl, hb1⟩; have hB1 := hb0.trans (hb1.mono hb0.size); have hR1 := hR0.below hb1; have r0 := hR1.cell 0; have r1 := hR1.cell 1; simp only [gs3] at r0 r1; have of := fun i => hR1.frozen i)
   have hp : w.heap.size < w1.heap.size := by have := hb1.size; rw [World.size_alloc] at this; omega
   have hP0 := bel_one w1 (.cells #[.string ⟨nm.toArray⟩, .slice none 0 0] 37)
   have hJ0 : MakeJ w (w1.alloc (.cells #[.string ⟨nm.toArray⟩, .slice none 0 0] 37)) w1.heap.size nm (.slice none 0 0) [] := ⟨hB1.trans (hP0.mono hB1.size), hR1.below hP0, Bk.new w1 _ _, OwnAt.nil (Nat.le_trans hB1.size hP0.size), AQOwn.nil _⟩
   go_loopg [32] l.length (fun gk i wr => ∃ (k : Nat) (qs : List AttrQ) (A : Option Addr) (c : Nat), k ≤ l.length ∧ i = .int .i64 k ∧ Aside (k + gk = l.length) ∧ Aside (qs.length = k) ∧ Aside (MakeJ w wr w1.heap.size nm (.slice A qs.length c) qs) ∧ Aside (Ent.makeF (schE L) (l.drop k) (qs.map (·.1)) = Ent.makeF (schE L) l []))
   case atStart => exact ⟨0, [], none, 0, by omega, rfl, by show _ = _; omega, rfl, hJ0, rfl⟩
   case round =>
    clear hJ0 hP0 r0 r1 of hR1 hR0 hb0
    obtain ⟨k, qs, A, c, hk, rfl, AG, AQ, AJ, AS⟩ := hrel
    by_cases hlt : k < l.length
    ·obtain ⟨q, rfl⟩ : ∃ q, gk = q + 1 := ⟨gk - 1, by have := AG.out; omega⟩
     obtain ⟨b, o, va, rfl, c0, c1, hta⟩ := HV.out k hlt
     obtain ⟨Av, nv, cv, rfl⟩ : ∃ A n c, va = .slice A n c := by
      obtain ⟨A, c, h, _⟩ := hta.at
      exact ⟨A, _, c, h⟩
     have d0 := (AJ.out.bel.cell (cell_lt c0)).trans c0
     have d1 := (AJ.out.bel.cell (cell_lt c1)).trans c1
     have hadd := add_at2
     have hstep : (match Ent.attrE (schE L) l[k] (qs.map (·.1)) with
      | .inl c => Ent.makeF (schE L) l [] = .inl c
      | .inr b => Ent.makeF (schE L) (l.drop (k + 1)) (qs.map (·.1) ++ [b]) = Ent.makeF (schE L) l []) := by
      have := AS.out
      rw [List.drop_eq_getElem_cons hlt, Ent.makeF] at this
      revert this
      cases Ent.attrE (schE L) l[k] (qs.map (·.1)) with
      | inl c => exact fun h => h.symm
      | inr b => exact fun h => h
     have hba := bel_one wr (.cells #[.string ⟨l[k].typ.toArray⟩, .slice Av nv cv] 46)
     have hka := Bk.new wr 46 #[.string ⟨l[k].typ.toArray⟩, .slice Av nv cv]
     have hJa := AJ.out.below hba
     have HC := hiD (HAt.out k hlt (.slice Av nv cv) qs (.slice A qs.length c) _ hJa.bel (hta.below hJa.bel) (hJa.row.attrs hJa.own.ok) (by have := AQ.out; omega))
     have x0 := hka.cell 0
     have x1 := hka.cell 1
     have p1 := hJa.out.cell 1
     simp only [gs3] at x0 x1 p1
     clear AS c0 c1 hta AJ hka
     generalize l[k] = x at *
     obtain ⟨typ, vals⟩ := x
     simp only at d0 x0 x1 HC hba hJa p1
     generalize Ent.attrE (schE L) ⟨typ, vals⟩ (qs.map (·.1)) = r at *
     cases r with
     | inl code =>
      unfold AttrRet7 at HC
      simp only at HC hstep
      by_cases hcz : code = 0
      ·go_wp2_with (go_at_call 36; (with_reducible refine HC.out.mono ?_); rintro e w3 ⟨hb3, A3, n3, c3, k3, t3, rfl, rfl, hne⟩; exact absurd hcz hne)
      have hcb : (code != 0) = true := bne_iff_ne.2 hcz
      have hM2 : M = (code, Ent.zeroE) := by have := HM.out; rw [hstep] at this; exact this.symm
      subst hM2
      clear HM hstep HO HAt
      go_wp2_with (go_at_call 36; (with_reducible refine HC.out.mono ?_); rintro e w3 ⟨hb3, A3, n3, c3, k3, t3, rfl, rfl, hne⟩; have hJ3 := hJa.below hb3; have hbb := bel_one w3 (.cells #[.string ⟨t3⟩, .slice A3 n3 c3] 46); have hJ4 := hJ3.below hbb; have r0 := hJ4.res.cell 0; have r1 := hJ4.res.cell 1; simp only [gs3] at r0 r1; have of := fun i => hJ4.res.frozen i)
      have hz := bk_set2 _ _ (.string ⟨#[]⟩) (.slice none 0 0) hJ4.res
      exact Make_out hz rfl rfl (EntRet.zero (below_set2 hJ4.bel (Nat.le_refl _) _ _) _)
     | inr nb =>
      unfold AttrRet7 at HC
      simp only at HC hstep
      obtain ⟨bt, bv⟩ := nb
      simp only at HC hstep
      have HST := hiD hstep
      have hq6 : qs.length < 1000000 := by have := AQ.out; omega
      clear hstep
      go_wp2_with (first
       | (go_at_call 36; (with_reducible refine HC.out.mono ?_); rintro e w3 ⟨hb3, A3, n3, c3, k3, t3, rfl, rfl, rfl, rfl, hO3⟩; have hJ3 := hJa.below hb3; have hbb := bel_one w3 (.cells #[.string ⟨bt.toArray⟩, .slice A3 bv.length c3] 46); have hJ4 := hJ3.below hbb; have hkb := Bk.new w3 46 #[.string ⟨bt.toArray⟩, .slice A3 bv.length c3]; have hO4 := (hO3.lower (Nat.zero_le _)).below hbb; have HSZ : Hid (w3.heap.size + 1 = (w3.alloc (.cells #[.string ⟨bt.toArray⟩, .slice A3 bv.length c3] 46)).heap.size) := hiD (by simp); have y0 := hkb.cell 0; have y1 := hkb.cell 1; have p4 := hJ4.out.cell 1; simp only [gs3] at y0 y1 p4)
       | (at_builtin; refine attr_more1 (N := w3.heap.size + 1) (t := bt) (vals := bv) rfl _ _ rfl rfl rfl hJ4.row rfl HSZ.out hq6 ?_; intro v' w5 hO5 hg5; obtain ⟨A5, c5, rfl, _⟩ := hO5.isSlice; have hJ5 := hJ4.more hp hO4 hO5 hg5; have hP5 := hJ4.mid hg5; have p5 := hP5.cell 1; simp only [gs3] at p5; have of5 := fun i => hP5.frozen i))
      go_roundg q
      case measure => omega
      case rel => exact ⟨k + 1, qs ++ [(⟨bt, bv⟩, .slice A3 bv.length c3)], A5, c5, by omega, by go_num, by have := AG.out; show _ = _; omega, by have := AQ.out; show _ = _; rw [List.length_append, List.length_singleton]; omega, (by have h := hJ5; simp only [List.length_append, List.length_cons, List.length_nil, Nat.zero_add] at h ⊢; exact h), by show _ = _; rw [List.map_append]; exact HST.out⟩
    ·obtain rfl : k = l.length := by omega
     have hfin : Ent.makeF (schE L) l [] = .inr (qs.map (·.1)) := by have := AS.out; rw [List.drop_length] at this; exact this.symm
     have hJ := AJ.out
     have HO2 := hiD (HO.out _ (.slice A qs.length c) wr hfin hJ.bel (hJ.row.attrs hJ.own.ok) (by have := AQ.out; rw [List.length_map]; omega))
     have hM2 := HM.out
     rw [hfin] at hM2
     simp only at hM2
     have p0 := hJ.out.cell 0
     have p1 := hJ.out.cell 1
     simp only [gs3] at p0 p1
     clear AS AJ hfin HM HO HAt HV
     cases hown : Ent.ownE (schE L) ⟨nm, qs.map (·.1)⟩
     ·rw [hown] at hM2 HO2
      have hM3 : M = (64, Ent.zeroE) := by rw [← hM2]; rfl
      subst hM3
      clear hM2 hown
      go_wp2_with (go_at_call 37; (with_reducible refine HO2.out.mono ?_); rintro e w3 ⟨rfl, hb3⟩; have hJ4 := hJ.below hb3; have r0 := hJ4.res.cell 0; have r1 := hJ4.res.cell 1; simp only [gs3] at r0 r1; have of := fun i => hJ4.res.frozen i)
      have hz := bk_set2 _ _ (.string ⟨#[]⟩) (.slice none 0 0) hJ4.res
      exact Make_out hz rfl rfl (EntRet.zero (below_set2 hJ4.bel (Nat.le_refl _) _ _) 64)
     ·rw [hown] at hM2 HO2
      have hM3 : M = (0, ⟨nm, qs.map (·.1)⟩) := by rw [← hM2]; rfl
      subst hM3
      clear hM2 hown
      go_wp2_with (go_at_call 37; (with_reducible refine HO2.out.mono ?_); rintro e w3 ⟨rfl, hb3⟩; have hJ4 := hJ.below hb3; have r0 := hJ4.res.cell 0; have r1 := hJ4.res.cell 1; have q0 := hJ4.out.cell 0; have q1 := hJ4.out.cell 1; simp only [gs3] at r0 r1 q0 q1; have of := fun i => hJ4.res.frozen i)
      have hz := bk_set2 _ _ (.string ⟨nm.toArray⟩) (.slice A qs.length c) hJ4.res
      have hgr := grown_set2 w3 w.heap.size (.string ⟨nm.toArray⟩) (.slice A qs.length c)
      refine Make_out hz rfl rfl ⟨below_set2 hJ4.bel (Nat.le_refl _) _ _, A, c, qs, ?_, rfl, ?_, hJ4.own.far hJ4.res (by decide) hgr⟩
      ·simp only [List.length_map]
      ·simp only [List.length_map]
       exact hJ4.row.keep2 hgr (hJ4.row.apart hJ4.res (by decide))
 ·have hkb : (kc != 0) = true := bne_iff_ne.2 hk
  have hM1 : M = (34, Ent.zeroE) := by rw [← hM0, hkb]; rfl
  subst hM1
  clear HAt HO HV hM0 hlt
  go_enter Tryz.func19, Tryz.ntmps19
  go_wp2_with (go_at_call 35; (with_reducible refine (HK.out _ hb0).mono ?_); rintro e w1 ⟨rfl, hb1⟩; have hB1 := hb0.trans (hb1.mono hb0.size); have hR1 := hR0.below hb1; have r0 := hR1.cell 0; have r1 := hR1.cell 1; simp only [gs3] at r0 r1; have of := fun i => hR1.frozen i)
  have hz := bk_set2 _ _ (.string ⟨#[]⟩) (.slice none 0 0) hR1
  exact Make_out hz rfl rfl (EntRet.zero (below_set2 hB1 (Nat.le_refl _) _ _) 34)
open Go.RowKit
theorem bel_j (w : World) (o : Obj) : Below w.heap.size w (w.alloc o) := (Below.refl _ _).alloc (Nat.le_refl _) _
theorem EqualSA_c (xs : LL) (v1 v2 : Value) (w : World) (hv1 : TextsA w v1 xs) (hv2 : TextsA w v2 xs) (hl : xs.length ≤ 4611686018427387904) :
  Calls Tryz.prog 47 #[v1, v2] w fun e w' => e = .returned (.bool true) ∧ Below w.heap.size w w' := by
 obtain ⟨A1, c1, rfl, hc1, hx1⟩ := hv1.at
 obtain ⟨A2, c2, rfl, hc2, hx2⟩ := hv2.at
 have H1 := hiD hx1
 have H2 := hiD hx2
 clear hx1 hx2 hv1 hv2
 have hself : ((xs.length : Int) != (xs.length : Int)) = false := by simp
 go_enter Tryz.func47, Tryz.ntmps47
 go_wp2_with fail
 go_loopg [13] xs.length (fun gk i wr => ∃ k : Nat, k ≤ xs.length ∧ i = .int .i64 k ∧ Aside (k + gk = xs.length) ∧ Below w.heap.size w wr)
 case atStart => exact ⟨0, by omega, rfl, by show _ = _; omega, Below.refl _ _⟩
 case round =>
  obtain ⟨k, hk, rfl, AG, hB⟩ := hrel
  by_cases hlt : k < xs.length
  ·obtain ⟨gq, rfl⟩ : ∃ q, gk = q + 1 := ⟨gk - 1, by have := AG.out; omega⟩
   obtain ⟨p1, rfl, c1⟩ := H1.out k hlt
   obtain ⟨p2, rfl, c2⟩ := H2.out k hlt
   have d1 := (hB.cell (cell_lt c1)).trans c1
   have d2 := (hB.cell (cell_lt c2)).trans c2
   clear c1 c2
   generalize xs[k] = t at d1 d2
   go_wp2_with fail
   go_quiet (fail)
   go_wp2_with fail
   go_roundg gq
   case measure => omega
   case rel => exact ⟨k + 1, by omega, by go_num, by have := AG.out; show _ = _; omega, below_drewN hB nq⟩
  ·obtain rfl : k = xs.length := by omega
   go_wp2_with fail
   go_ret
   exact ⟨rfl, hB⟩
theorem sameF_c (x : Ent.AttrE) (v1 v2 : Value) (w : World) (hv1 : TextsA w v1 x.vals) (hv2 : TextsA w v2 x.vals) (hl : x.vals.length ≤ 4611686018427387904) :
  Calls Tryz.prog 46 #[.agg #[.string ⟨x.typ.toArray⟩, v1], .agg #[.string ⟨x.typ.toArray⟩, v2]] w fun e w' => e = .returned (.bool true) ∧ Below w.heap.size w w' := by
 obtain ⟨typ, vals⟩ := x
 simp only at hv1 hv2 hl ⊢
 have HE : Hid (∀ W : World, Below w.heap.size w W → Calls Tryz.prog 47 #[v1, v2] W fun e w' => e = .returned (.bool true) ∧ Below W.heap.size W w') := hiD fun W h => EqualSA_c vals v1 v2 W (hv1.below h) (hv2.below h) hl
 obtain ⟨A1, c1, rfl, _⟩ := hv1.at
 obtain ⟨A2, c2, rfl, _⟩ := hv2.at
 clear hv1 hv2
 have hb1 := bel_j w (.cells #[.string ⟨typ.toArray⟩, .slice A1 vals.length c1] 46)
 have hb2 := hb1.alloc hb1.size (.cells #[.string ⟨typ.toArray⟩, .slice A2 vals.length c2] 46)
 go_enter Tryz.func46, Tryz.ntmps46
 go_wp2_with (go_at_call 47; (with_reducible refine (HE.out _ hb2).mono ?_); rintro e w3 ⟨rfl, hb3⟩)
 all_goals
  go_ret
  exact ⟨rfl, hb2.trans (hb3.mono hb2.size)⟩
theorem EqualFuncAt_c (l : List Ent.AttrE) (v1 v2 : Value) (w : World) (hv1 : AttrsA w v1 l) (hv2 : AttrsA w v2 l) (hl : l.length ≤ 1000000) (hlv : ∀ a ∈ l, a.vals.length ≤ 4611686018427387904) :
  Calls Tryz.prog 45 #[v1, v2, .func (.func 46) #[] #[]] w fun e w' => e = .returned (.bool true) ∧ Below w.heap.size w w' := by
 obtain ⟨A1, c1, rfl, hc1, hx1⟩ := hv1.at
 obtain ⟨A2, c2, rfl, hc2, hx2⟩ := hv2.at
 have H1 := hiD hx1
 have H2 := hiD hx2
 have HL := hiD hlv
 clear hx1 hx2 hv1 hv2 hlv
 have hself : ((l.length : Int) != (l.length : Int)) = false := by simp
 have hadd := add_at2
 have hent : ∀ (args : Array Value) (W : World), (callFunc 46 args).run Tryz.prog W = .ok (.enter 46 args) W := fun _ _ => by kernel_rfl
 go_enter Tryz.func45, Tryz.ntmps45
 go_wp2_with fail
 go_loopg [17] l.length (fun gk i wr => ∃ k : Nat, k ≤ l.length ∧ i = .int .i64 k ∧ Aside (k + gk = l.length) ∧ Below w.heap.size w wr)
 case atStart => exact ⟨0, by omega, rfl, by show _ = _; omega, Below.refl _ _⟩
 case round =>
  obtain ⟨k, hk, rfl, AG, hB⟩ := hrel
  by_cases hlt : k < l.length
  ·obtain ⟨gq, rfl⟩ : ∃ q, gk = q + 1 := ⟨gk - 1, by have := AG.out; omega⟩
   obtain ⟨b1, o1, va1, rfl, e0, e1, t1⟩ := H1.out k hlt
   obtain ⟨b2, o2, va2, rfl, f0, f1, t2⟩ := H2.out k hlt
   have d0 := (hB.cell (cell_lt e0)).trans e0
   have d1 := (hB.cell (cell_lt e1)).trans e1
   have g0 := (hB.cell (cell_lt f0)).trans f0
   have g1 := (hB.cell (cell_lt f1)).trans f1
   obtain ⟨B1, q1, rfl, hz1⟩ := t1.at
   obtain ⟨B2, q2, rfl, hz2⟩ := t2.at
   clear hz1 hz2
   have hbx := bel_j wr (.cells #[.string ⟨l[k].typ.toArray⟩, .slice B1 l[k].vals.length q1] 46)
   have hkx := Bk.new wr 46 #[.string ⟨l[k].typ.toArray⟩, .slice B1 l[k].vals.length q1]
   have hBx := hB.trans (hbx.mono hB.size)
   have x0 := hkx.cell 0
   have x1 := hkx.cell 1
   simp only [gs3] at x0 x1
   have y0 := (hbx.cell (cell_lt g0)).trans g0
   have y1 := (hbx.cell (cell_lt g1)).trans g1
   have hby := bel_j (wr.alloc (.cells #[.string ⟨l[k].typ.toArray⟩, .slice B1 l[k].vals.length q1] 46)) (.cells #[.string ⟨l[k].typ.toArray⟩, .slice B2 l[k].vals.length q2] 46)
   have hBy := hBx.trans (hby.mono hBx.size)
   have hky := hkx.below hby
   have hkz := Bk.new (wr.alloc (.cells #[.string ⟨l[k].typ.toArray⟩, .slice B1 l[k].vals.length q1] 46)) 46 #[.string ⟨l[k].typ.toArray⟩, .slice B2 l[k].vals.length q2]
   have u0 := hky.cell 0
   have u1 := hky.cell 1
   have v0 := hkz.cell 0
   have v1' := hkz.cell 1
   simp only [gs3] at u0 u1 v0 v1'
   have HC := hiD (sameF_c l[k] _ _ _ (t1.below hBy) (t2.below hBy) (HL.out _ (List.getElem_mem hlt)))
   clear e0 e1 f0 f1 t1 t2 g0 g1 hkx hky hkz
   generalize l[k].vals.length = nv at *
   generalize l[k].typ = ty at *
   go_wp2_with (go_at_call 46; refine HC.out.mono ?_; rintro e w2 ⟨rfl, hb2⟩)
   go_roundg gq
   case measure => omega
   case rel => exact ⟨k + 1, by omega, by go_num, by have := AG.out; show _ = _; omega, hBy.trans (hb2.mono hBy.size)⟩
  ·obtain rfl : k = l.length := by omega
   go_wp2_with fail
   go_ret
   exact ⟨rfl, hB⟩
theorem Same7_c (x : Ent.EntryE) (v1 v2 : Value) (w : World) (hv1 : AttrsA w v1 x.attrs) (hv2 : AttrsA w v2 x.attrs) (hl : x.attrs.length ≤ 1000000) (hlv : ∀ a ∈ x.attrs, a.vals.length ≤ 4611686018427387904) :
  Calls Tryz.prog 23 #[entryArg x v1, entryArg x v2] w fun e w' => e = .returned (.bool true) ∧ Below w.heap.size w w' := by
 obtain ⟨dn, attrs⟩ := x
 unfold entryArg
 simp only at hv1 hv2 hl hlv ⊢
 have HE : Hid (∀ W : World, Below w.heap.size w W → Calls Tryz.prog 45 #[v1, v2, .func (.func 46) #[] #[]] W fun e w' => e = .returned (.bool true) ∧ Below W.heap.size W w') := hiD fun W h => EqualFuncAt_c attrs v1 v2 W (hv1.below h) (hv2.below h) hl hlv
 obtain ⟨A1, c1, rfl, _⟩ := hv1.isSlice
 obtain ⟨A2, c2, rfl, _⟩ := hv2.isSlice
 clear hv1 hv2
 have hb1 := bel_j w (.cells #[.string ⟨dn.toArray⟩, .slice A1 attrs.length c1] 37)
 have hb2 := hb1.alloc hb1.size (.cells #[.string ⟨dn.toArray⟩, .slice A2 attrs.length c2] 37)
 go_enter Tryz.func23, Tryz.ntmps23
 go_wp2_with (go_at_call 45; (with_reducible refine (HE.out _ hb2).mono ?_); rintro e w3 ⟨rfl, hb3⟩)
 all_goals
  go_ret
  exact ⟨rfl, hb2.trans (hb3.mono hb2.size)⟩
end Go.Proofs.YtkkbbhlihilnpaaGreatDoor
