import Derived.Test.YtkkbbhlihilnpaaGreatDoorWr8
set_option linter.all false
set_option maxHeartbeats 8000000
set_option maxRecDepth 100000
namespace Go.Proofs.YtkkbbhlihilnpaaGreatDoor
open Go.RowKit
theorem Check_c (s : Nat) (ps : List Nat) (L : List DefS) (hL : Sound L) (hms : ∀ i D, L[i]? = some D → ∀ t ∈ mustD L i, t.length ≤ 1000000) (en : Ent.EntryE) (va : Value) (w : World) (hS : SchAt w s ps L) (hv : AttrsA w va en.attrs) (hl : en.attrs.length ≤ 1000) (hvn : valsN en.attrs ≤ 1000000) (hlt : ∀ a ∈ en.attrs, a.typ.length ≤ 1000000) (hvl : ∀ x ∈ Ent.findE (schE L) en Ent.wObj, x.length ≤ 140737488351232) :
  Calls Tryz.prog 24 #[.pointer (some ⟨s, 0, none⟩), entryArg en va] w fun e w' => e = .returned (.int .i64 (Ent.checkE (schE L) en)) ∧ Below w.heap.size w w' := by
 have HFd : Hid (∀ W : World, Below w.heap.size w W → Calls Tryz.prog 43 #[.pointer (some ⟨s, 0, none⟩), entryArg en va, .string ⟨Ent.wObj.toArray⟩] W fun e w' => ∃ A c, e = .returned (.slice A (Ent.findE (schE L) en Ent.wObj).length c) ∧ TextsA w' (.slice A (Ent.findE (schE L) en Ent.wObj).length c) (Ent.findE (schE L) en Ent.wObj) ∧ Below W.heap.size W w') := hiD fun W h => (Find_c s ps L hL en va Ent.wObj W (hS.below h) (hv.below h) hl hvn hlt (by decide)).mono (by
  rintro e w' ⟨v', rfl, hO, hb⟩
  obtain ⟨A, c, rfl, _⟩ := hO.isSlice
  exact ⟨A, c, rfl, hO.textsA, hb⟩)
 have HCl : Hid (∀ (x : LU) (W : World), Below w.heap.size w W → x.length ≤ 140737488351232 → Calls Tryz.prog 48 #[.pointer (some ⟨s, 0, none⟩), .string ⟨x.toArray⟩] W (ClsRet7 W ((schE L).cls x))) := hiD fun x W h hx => Class_u hL s ps x W (hS.below h) hx
 have HMS : Hid (∀ x d, (schE L).cls x = some d → ∀ t ∈ d.must, t.length ≤ 1000000) := hiD fun x d h t ht => by
  obtain ⟨i, D, _, hD, _, rfl⟩ := cls_at h
  exact hms i D hD t ht
 have HLo : Hid (∀ W : World, Below w.heap.size w W → Calls Tryz.prog 49 #[.pointer (some ⟨s, 0, none⟩), entryArg en va] W fun e w' => e = .returned (.string ⟨(Ent.lowestE (schE L) en).toArray⟩) ∧ Below W.heap.size W w') := hiD fun W h => Lowest_c s ps L hL en va W (hS.below h) (hv.below h) hl hvn hlt hvl
 have HAt : Hid (∀ (t : LU) (W : World), Below w.heap.size w W → t.length ≤ 1000000 → Calls Tryz.prog 20 #[.pointer (some ⟨s, 0, none⟩), .string ⟨t.toArray⟩] W fun e w' => Below W.heap.size W w' ∧ ∃ A n c, e = .returned (.tuple #[attrV (attrO L t) (.slice A n c), .int .i64 (attrC L t)])) := hiD fun t W h ht => AttrU_c s ps L hL t W (hS.below h) (by omega)
 obtain ⟨Av, cv, rfl, hcv⟩ := hv.isSlice
 have HCk : Hid (∀ (m1 : BLs) (vm : Value) (W : World), Below w.heap.size w W → TextsA W vm m1 → m1.length ≤ 4611686018427387904 → (∀ t ∈ m1, t.length ≤ 1000000) → W.cell? ⟨w.heap.size, 0, none⟩ = some (.pointer (some ⟨s, 0, none⟩)) → W.cell? ⟨w.heap.size + 1, 0, none⟩ = some (.string ⟨en.dn.toArray⟩) → W.cell? ⟨w.heap.size + 1, 1, none⟩ = some (.slice Av en.attrs.length cv) → Calls Tryz.prog 42 #[vm, .func (.func 50) #[] #[.pointer (some ⟨w.heap.size, 0, none⟩), .pointer (some ⟨w.heap.size + 1, 0, none⟩)]] W fun e w' => e = .returned (.bool (m1.any fun t => (Ent.findE (schE L) en t).isEmpty)) ∧ Below W.heap.size W w') := hiD fun m1 vm W h hT h1 h2 c1 c2 c3 => ContainsFuncSA_c 50 _ m1 vm W hT h1 _ ⟨fun t ht W2 hW2 => checkF_c s w.heap.size (w.heap.size + 1) ps L hL en Av cv t W2 (hS.below (h.trans (hW2.mono h.size))) (hv.below (h.trans (hW2.mono h.size))) hl hvn hlt (h2 t ht) ((hW2.cell (p := ⟨w.heap.size, 0, none⟩) (cell_lt c1)).trans c1) ((hW2.cell (p := ⟨w.heap.size + 1, 0, none⟩) (cell_lt c2)).trans c2) ((hW2.cell (p := ⟨w.heap.size + 1, 1, none⟩) (cell_lt c3)).trans c3), fun _ _ => by kernel_rfl⟩
 have hlen : (Ent.findE (schE L) en Ent.wObj).length ≤ 1000000 := Nat.le_trans find_len hvn
 obtain ⟨R, hR⟩ : ∃ R, Ent.checkE (schE L) en = R := ⟨_, rfl⟩
 rw [hR]
 have hR0 : (match Ent.mustMayE (schE L) (Ent.findE (schE L) en Ent.wObj) [] [] with
  | none => 65
  | some (must, may) => if (Ent.lowestE (schE L) en).isEmpty || must.any (fun t => (Ent.findE (schE L) en t).isEmpty) then 65 else Ent.checkF (schE L) must may en.attrs) = R := hR
 obtain ⟨Av2, cv2, hsl, hcv2, hcell⟩ := hv.at
 cases hsl
 have HV := hiD hcell
 have HVL := hiD hvl
 have HLT := hiD hlt
 obtain ⟨dn, attrs⟩ := en
 unfold entryArg at *
 simp only at *
 generalize Ent.findE (schE L) ⟨dn, attrs⟩ Ent.wObj = fl at *
 generalize (fun t => (Ent.findE (schE L) ⟨dn, attrs⟩ t).isEmpty) = PE at *
 generalize Ent.lowestE (schE L) ⟨dn, attrs⟩ = lo at *
 have HR0 := hiD hR0
 clear hS hv hL hvn hlt hR hvl hms hcell hR0
 have hb1 := bel_one w (.cells #[.pointer (some ⟨s, 0, none⟩)] 34)
 have hks := (Bk.new w 34 #[.pointer (some ⟨s, 0, none⟩)]).alloc (.cells #[.string ⟨dn.toArray⟩, .slice Av attrs.length cv] 37)
 have hb2 := hb1.alloc hb1.size (.cells #[.string ⟨dn.toArray⟩, .slice Av attrs.length cv] 37)
 have hke := Bk.new (w.alloc (.cells #[.pointer (some ⟨s, 0, none⟩)] 34)) 37 #[.string ⟨dn.toArray⟩, .slice Av attrs.length cv]
 rw [World.size_alloc] at hke
 have z0 := hks.cell 0
 have y0 := hke.cell 0
 have y1 := hke.cell 1
 simp only [gs3] at z0 y0 y1
 unfold Ent.wObj at HFd
 go_enter Tryz.func24, Tryz.ntmps24
 go_wp2_with (go_at_call 43; (with_reducible refine (HFd.out _ hb2).mono ?_); rintro e w1 ⟨Af, cf, rfl, hT1, hb3⟩; have hB1 := hb2.trans (hb3.mono hb2.size); have hks1 := hks.below hb3; have hke1 := hke.below hb3)
 obtain ⟨Af', cf', hsl, hcf, hcell⟩ := hT1.at
 cases hsl
 have HF := hiD hcell
 have hsz : w.heap.size + 2 ≤ w1.heap.size := by have := hb3.size; rw [World.size_alloc, World.size_alloc] at this; omega
 have hJ0 : CkJ w w1 w1 s dn Av attrs.length cv (.slice none 0 0) (.slice none 0 0) [] [] := ⟨hB1, Below.refl _ _, hsz, hks1, hke1, Two.nil (Nat.le_refl _)⟩
 clear hcell hT1 hks hke hb1 hb2 hks1 hke1 z0 y0 y1
 go_loopg [5, 6, 21] fl.length (fun gk v u i wr => ∃ (k : Nat) (m1 m2 : BLs) (A1 : Option Addr) (c1 : Nat) (A2 : Option Addr) (c2 : Nat), k ≤ fl.length ∧ i = .int .i64 k ∧ v = .slice A1 m1.length c1 ∧ u = .slice A2 m2.length c2 ∧ Aside (k + gk = fl.length) ∧ Aside (m1.length ≤ k * 1000000 ∧ m2.length ≤ k * 1000000 ∧ ∀ t ∈ m1, t.length ≤ 1000000) ∧ Aside (CkJ w w1 wr s dn Av attrs.length cv (.slice A1 m1.length c1) (.slice A2 m2.length c2) m1 m2) ∧ Aside (Ent.mustMayE (schE L) (fl.drop k) m1 m2 = Ent.mustMayE (schE L) fl [] []))
 case atStart => exact ⟨0, [], [], none, 0, none, 0, by omega, rfl, rfl, rfl, by show _ = _; omega, ⟨by simp, by simp, fun t ht => by cases ht⟩, hJ0, rfl⟩
 case round =>
  clear hJ0
  obtain ⟨k, m1, m2, A1, c1, A2, c2, hk, rfl, rfl, rfl, AG, AC, AB, AS⟩ := hrel
  by_cases hlt : k < fl.length
  ·obtain ⟨q, rfl⟩ : ∃ q, gk = q + 1 := ⟨gk - 1, by have := AG.out; omega⟩
   obtain ⟨a, rfl, c0⟩ := HF.out k hlt
   have hJ := AB.out
   have d0 := (hJ.belf.cell (cell_lt c0)).trans c0
   have HC := hiD (HCl.out fl[k] wr hJ.bel (HVL.out _ (List.getElem_mem hlt)))
   have HM1 := hiD (HMS.out fl[k])
   have hst := AS.out
   rw [List.drop_eq_getElem_cons hlt, mm_cons] at hst
   have z0 := hJ.bs.cell 0
   simp only [gs3] at z0
   obtain ⟨hc1, hc2, hc3⟩ := AC.out
   clear AS c0 AC
   generalize fl[k] = x at *
   cases hcls : (schE L).cls x with
   | none =>
    rw [hcls] at HC hst
    unfold ClsRet7 at HC
    simp only at HC hst
    have hRx : R = 65 := by have := HR0.out; rw [← hst] at this; exact this.symm
    clear hcls
    go_wp2_with (go_at_call 48; (with_reducible refine HC.out.mono ?_); rintro e w2 ⟨hb2, od, nm, D1, q1, e1, D2, q2, e2, kd, Dm, mm, em, Dy, my, ey, kk, rfl, rfl⟩; have hbD := bel_one w2 (.cells #[.string ⟨od⟩, .string ⟨nm⟩, .slice D1 q1 e1, .slice D2 q2 e2, .int .i64 kd, .slice Dm mm em, .slice Dy my ey] 89))
    go_ret
    exact ⟨by rw [hRx]; rfl, ((hJ.below hb2).below hbD).bel⟩
   | some d =>
    rw [hcls] at HC hst
    unfold ClsRet7 at HC
    simp only at HC hst
    have hmd := HM1.out d hcls
    clear hcls HM1
    go_upto_region 9 with (go_at_call 48; (with_reducible refine HC.out.mono ?_); rintro e w2 ⟨hb2, od, nm, D1, q1, e1, D2, q2, e2, kd, Dm, mm, em, Dy, my, ey, kk, rfl, rfl, rfl, rfl, t3, t4, l3, l4, f3, f4⟩; have hbD := bel_one w2 (.cells #[.string ⟨od⟩, .string ⟨d.name.toArray⟩, .slice D1 q1 e1, .slice D2 q2 e2, .int .i64 d.kind, .slice Dm mm em, .slice Dy my ey] 89); have hkD := Bk.new w2 89 #[.string ⟨od⟩, .string ⟨d.name.toArray⟩, .slice D1 q1 e1, .slice D2 q2 e2, .int .i64 d.kind, .slice Dm mm em, .slice Dy my ey]; have hJD := (hJ.below hb2).below hbD; have hT3 := t3.below hbD; have hT4 := t4.below hbD; have z5 := hkD.cell 5; have z6 := hkD.cell 6; simp only [gs3] at z5 z6)
    have hn4 : ∀ k, (Value.slice Dy my ey).ownBlock = some k → (Value.slice A1 m1.length c1).ownBlock ≠ some k := fun k hk he => absurd (f4 k hk) (Nat.not_le.2 (hJ.two.1.lt k he).2)
    have hn3 : ∀ k, (Value.slice Dm mm em).ownBlock = some k → (Value.slice A2 m2.length c2).ownBlock ≠ some k := fun k hk he => absurd (f3 k hk) (Nat.not_le.2 (hJ.two.2.1.lt k he).2)
    have hg1 : some w2.heap.size ≠ (Value.slice A1 m1.length c1).ownBlock := fun e => absurd hb2.size (Nat.not_le.2 (hJ.two.1.lt _ e.symm).2)
    have hg2 : some w2.heap.size ≠ (Value.slice A2 m2.length c2).ownBlock := fun e => absurd hb2.size (Nat.not_le.2 (hJ.two.2.1.lt _ e.symm).2)
    clear f3 f4
    generalize (w2.alloc (.cells #[.string ⟨od⟩, .string ⟨d.name.toArray⟩, .slice D1 q1 e1, .slice D2 q2 e2, .int .i64 d.kind, .slice Dm mm em, .slice Dy my ey] 89)) = w3 at *
    generalize w2.heap.size = g at *
    have hJd := hJD.below (Below.refl w3.heap.size w3).drew
    have hd3 := hT3.below (Below.refl w3.heap.size w3).drew
    have hd4 := hT4.below (Below.refl w3.heap.size w3).drew
    have hkd := hkD.below (Below.refl w3.heap.size w3).drew
    have hl1 : m1.length + d.must.length < 4398046511104 := by have := l3; omega
    have hl2 : m2.length + d.may.length < 4398046511104 := by have := l4; omega
    go_region_held3 (fun w' => w'.cell? ⟨g, 5, none⟩ = some (.slice Dm mm em) ∧ w'.cell? ⟨g, 6, none⟩ = some (.slice Dy my ey)) (first | exact ⟨z5, z6⟩ | exact ⟨k5, k6⟩ | exact ⟨x5, x6⟩ | exact ⟨y5, y6⟩) (first
     | (refine step_own_at (xv := .slice Dy my ey) (by rfl) _ _ (by rfl) rfl hJ5.two.2.1 rfl (texts_A h54) hl2 ?_; intro u7 w7 hO7 hg7 ha7; have hJ7 := hJ5.snd hO7 hg7 ha7; have hk7 := hk5.grown hg7 hg2; have x5 := hk7.cell 5; have x6 := hk7.cell 6; simp only [gs3] at x5 x6; obtain ⟨A7, c7, rfl, _⟩ := hO7.isSlice)
     | (refine step_own_at (xv := .slice Dm mm em) (by rfl) _ _ (by rfl) rfl hJ6.two.1 rfl (texts_A h63) hl1 ?_; intro v5 w7 hO5 hg7 ha7; have hJ7 := hJ6.fst hO5 hg7 ha7; have hk7 := hk6.grown hg7 hg1; have x5 := hk7.cell 5; have x6 := hk7.cell 6; simp only [gs3] at x5 x6; obtain ⟨A5, c5, rfl, _⟩ := hO5.isSlice)
     | (refine step_own_at (xv := .slice Dm mm em) (by rfl) _ _ (by rfl) rfl hJd.two.1 rfl (texts_A hd3) hl1 ?_; intro v5 w5 hO5 hg5 ha5; have hJ5 := hJd.fst hO5 hg5 ha5; have h54 := texts_keepR hd4 hg5 hn4; have hk5 := hkd.grown hg5 hg1; have k5 := hk5.cell 5; have k6 := hk5.cell 6; simp only [gs3] at k5 k6; obtain ⟨A5, c5, rfl, _⟩ := hO5.isSlice)
     | (refine step_own_at (xv := .slice Dy my ey) (by rfl) _ _ (by rfl) rfl hJd.two.2.1 rfl (texts_A hd4) hl2 ?_; intro u7 w6 hO7 hg6 ha6; have hJ6 := hJd.snd hO7 hg6 ha6; have h63 := texts_keepR hd3 hg6 hn3; have hk6 := hkd.grown hg6 hg2; have y5 := hk6.cell 5; have y6 := hk6.cell 6; simp only [gs3] at y5 y6; obtain ⟨A7, c7, rfl, _⟩ := hO7.isSlice)
     | fail)
    all_goals
     go_wp2_with fail
     go_roundg q
     case measure => omega
     case rel => exact ⟨k + 1, m1 ++ d.must, m2 ++ d.may, A5, c5, A7, c7, by omega, by go_num, by rw [List.length_append], by rw [List.length_append], by have := AG.out; show _ = _; omega, ⟨by rw [List.length_append]; omega, by rw [List.length_append]; omega, fun t ht => (List.mem_append.1 ht).elim (hc3 t) (hmd t)⟩, hJ7, hst⟩
  ·obtain rfl : k = fl.length := by omega
   have hmm : Ent.mustMayE (schE L) fl [] [] = some (m1, m2) := by have := AS.out; rw [List.drop_length] at this; exact this.symm
   have hR1 := HR0.out
   rw [hmm] at hR1
   simp only at hR1
   have hJ := AB.out
   obtain ⟨hc1, hc2, hc3⟩ := AC.out
   have hm1 : m1.length ≤ 4611686018427387904 := by omega
   have hm2 : m2.length ≤ 4611686018427387904 := by omega
   have HC1 : Hid (∀ W : World, Below w.heap.size w W → TextsA W (.slice A1 m1.length c1) m1 → W.cell? ⟨w.heap.size, 0, none⟩ = some (.pointer (some ⟨s, 0, none⟩)) → W.cell? ⟨w.heap.size + 1, 0, none⟩ = some (.string ⟨dn.toArray⟩) → W.cell? ⟨w.heap.size + 1, 1, none⟩ = some (.slice Av attrs.length cv) → Calls Tryz.prog 42 #[.slice A1 m1.length c1, .func (.func 50) #[] #[.pointer (some ⟨w.heap.size, 0, none⟩), .pointer (some ⟨w.heap.size + 1, 0, none⟩)]] W fun e w' => e = .returned (.bool (m1.any PE)) ∧ Below W.heap.size W w') := hiD fun W h hT h1 h2 h3 => HCk.out m1 _ W h hT hm1 hc3 h1 h2 h3
   have z0 := hJ.bs.cell 0
   have y0 := hJ.be.cell 0
   have y1 := hJ.be.cell 1
   simp only [gs3] at z0 y0 y1
   clear AS AB AC HR0 hmm HCk HCl HMS HF HVL hc1 hc2 hc3
   cases lo with
   | nil =>
    have hR2 : R = 65 := by rw [← hR1]; rfl
    clear hR1 HC1
    go_wp2_with (go_at_call 49; (with_reducible refine (HLo.out _ hJ.bel).mono ?_); rintro e w2 ⟨rfl, hb2⟩; have hJ2 := hJ.below hb2; have hT12 := hJ2.two.1.textsA; have t0 := hJ2.bs.cell 0; have t1 := hJ2.be.cell 0; have t2 := hJ2.be.cell 1; simp only [gs3] at t0 t1 t2)
    go_ret
    exact ⟨by rw [hR2]; rfl, hJ2.bel⟩
   | cons lc lt =>
    simp only [List.isEmpty_cons, Bool.false_or] at hR1
    cases hany : m1.any PE
    case true =>
     rw [hany] at hR1 HC1
     have hR2 : R = 65 := by rw [← hR1]; rfl
     clear hR1 hany
     go_wp2_with (first | (go_at_call 49; (with_reducible refine (HLo.out _ hJ.bel).mono ?_); rintro e w2 ⟨rfl, hb2⟩; have hJ2 := hJ.below hb2; have hT12 := hJ2.two.1.textsA; have t0 := hJ2.bs.cell 0; have t1 := hJ2.be.cell 0; have t2 := hJ2.be.cell 1; simp only [gs3] at t0 t1 t2) | (go_at_call 42; (with_reducible refine (HC1.out _ hJ2.bel hT12 t0 t1 t2).mono ?_); rintro e w3 ⟨rfl, hb3⟩))
     go_ret
     exact ⟨by rw [hR2]; rfl, (hJ2.below hb3).bel⟩
    case false =>
     rw [hany] at hR1 HC1
     simp only [Bool.false_eq_true, if_false] at hR1
     have HR1 := hiD hR1
     clear hR1 hany
     go_wp2_with (first | (go_at_call 49; (with_reducible refine (HLo.out _ hJ.bel).mono ?_); rintro e w2 ⟨rfl, hb2⟩; have hJ2 := hJ.below hb2; have hT12 := hJ2.two.1.textsA; have t0 := hJ2.bs.cell 0; have t1 := hJ2.be.cell 0; have t2 := hJ2.be.cell 1; simp only [gs3] at t0 t1 t2) | (go_at_call 42; (with_reducible refine (HC1.out _ hJ2.bel hT12 t0 t1 t2).mono ?_); rintro e w3 ⟨rfl, hb3⟩; have hJ3 := hJ2.below hb3; have t3 := hJ3.be.cell 1; simp only [gs3] at t3))
     go_loopg [54] attrs.length (fun gk i wr => ∃ k : Nat, k ≤ attrs.length ∧ i = .int .i64 k ∧ Aside (k + gk = attrs.length) ∧ Aside (CkJ w w1 wr s dn Av attrs.length cv (.slice A1 m1.length c1) (.slice A2 m2.length c2) m1 m2) ∧ Aside (Ent.checkF (schE L) m1 m2 (attrs.drop k) = R))
     case atStart => exact ⟨0, by omega, rfl, by show _ = _; omega, hJ3, HR1.out⟩
     case round =>
      clear HR1 t0 t1 t2 t3 hJ3 z0 y0 y1
      obtain ⟨k, hk, rfl, AG, AJ, AS⟩ := hrel
      by_cases hlt : k < attrs.length
      ·obtain ⟨q, rfl⟩ : ∃ q, gk = q + 1 := ⟨gk - 1, by have := AG.out; omega⟩
       obtain ⟨b, o, va, rfl, e0, e1, hta⟩ := HV.out k hlt
       obtain ⟨Ae, ce, rfl, hce, hz⟩ := hta.at
       have d0 := (AJ.out.bel.cell (cell_lt e0)).trans e0
       have d1 := (AJ.out.bel.cell (cell_lt e1)).trans e1
       have hadd := add_at2
       have hst := AS.out
       rw [List.drop_eq_getElem_cons hlt, ck_cons, operE_eq, singleE_eq, ← attrO_name] at hst
       have hba := bel_one wr (.cells #[.string ⟨attrs[k].typ.toArray⟩, .slice Ae attrs[k].vals.length ce] 46)
       have hka := Bk.new wr 46 #[.string ⟨attrs[k].typ.toArray⟩, .slice Ae attrs[k].vals.length ce]
       have hJa := AJ.out.below hba
       have HA := hiD (HAt.out attrs[k].typ _ hJa.bel (HLT.out _ (List.getElem_mem hlt)))
       have s0 := hJa.bs.cell 0
       have u0 := hka.cell 0
       simp only [gs3] at s0 u0
       clear AS e0 e1 hta hz hce
       unfold attrV attrCells at HA
       generalize attrs[k].vals.length = nv at *
       generalize attrs[k].typ = typ at *
       generalize attrO L typ = ad at *
       generalize attrC L typ = ac at *
       obtain ⟨osg, hsg⟩ : ∃ x, ad.single = x := ⟨_, rfl⟩
       obtain ⟨oop, hop⟩ : ∃ x, ad.oper = x := ⟨_, rfl⟩
       rw [hsg, hop] at HA hst
       have HT1 : Hid (∀ W : World, TextsA W (.slice A1 m1.length c1) m1 → Calls Tryz.prog 51 #[.slice A1 m1.length c1, .string ⟨ad.name.toArray⟩] W fun e w' => e = .returned (.bool (m1.contains ad.name)) ∧ W = w') := hiD fun W h => ContainsSA_c ad.name m1 _ W h hm1
       have HT2 : Hid (∀ W : World, TextsA W (.slice A2 m2.length c2) m2 → Calls Tryz.prog 51 #[.slice A2 m2.length c2, .string ⟨ad.name.toArray⟩] W fun e w' => e = .returned (.bool (m2.contains ad.name)) ∧ W = w') := hiD fun W h => ContainsSA_c ad.name m2 _ W h hm2
       clear hsg hop
       generalize m1.contains ad.name = b1 at *
       generalize m2.contains ad.name = b2 at *
       cases oop
       case true =>
        cases osg
        case false =>
         simp only [Bool.not_true, Bool.not_false, Bool.true_and, Bool.false_and, Bool.and_true, Bool.and_false, if_true, if_false, Bool.false_eq_true] at hst
         go_wp2_with (first | (go_at_call 20; (with_reducible refine HA.out.mono ?_); rintro e w4 ⟨hb4, A3, n3, c3, rfl⟩; have hJ4 := hJa.below hb4; have hbD := bel_one w4 (.cells (adK ad A3 n3 c3 false true) 41); have hJ5 := hJ4.below hbD; have hkD := Bk.new w4 41 (adK ad A3 n3 c3 false true); have hka5 := (hka.below hb4).below hbD; have g1 := hkD.cell 1; have g8 := hkD.cell 8; have g10 := hkD.cell 10; have g0 := hka5.cell 1; simp only [gs3] at g1 g8 g10 g0; have h51 := hJ5.two.1.textsA; have h52 := hJ5.two.2.1.textsA) | (go_at_call 51; (with_reducible refine (HT1.out _ h51).mono ?_); rintro e w6 ⟨rfl, rfl⟩) | (go_at_call 51; (with_reducible refine (HT2.out _ h52).mono ?_); rintro e w7 ⟨rfl, rfl⟩) | fail)
         go_roundg q
         case measure => omega
         case rel => exact ⟨k + 1, by omega, by go_num, by have := AG.out; show _ = _; omega, hJ5, hst⟩
        case true =>
         by_cases hn1 : 1 < nv
         ·rw [decide_eq_true hn1] at hst
          simp only [Bool.not_true, Bool.not_false, Bool.true_and, Bool.false_and, Bool.and_true, Bool.and_false, if_true, if_false, Bool.false_eq_true] at hst
          go_wp2_with (first | (go_at_call 20; (with_reducible refine HA.out.mono ?_); rintro e w4 ⟨hb4, A3, n3, c3, rfl⟩; have hJ4 := hJa.below hb4; have hbD := bel_one w4 (.cells (adK ad A3 n3 c3 true true) 41); have hJ5 := hJ4.below hbD; have hkD := Bk.new w4 41 (adK ad A3 n3 c3 true true); have hka5 := (hka.below hb4).below hbD; have g1 := hkD.cell 1; have g8 := hkD.cell 8; have g10 := hkD.cell 10; have g0 := hka5.cell 1; simp only [gs3] at g1 g8 g10 g0; have h51 := hJ5.two.1.textsA; have h52 := hJ5.two.2.1.textsA) | (go_at_call 51; (with_reducible refine (HT1.out _ h51).mono ?_); rintro e w6 ⟨rfl, rfl⟩) | (go_at_call 51; (with_reducible refine (HT2.out _ h52).mono ?_); rintro e w7 ⟨rfl, rfl⟩) | fail)
          go_ret
          exact ⟨by rw [← hst]; rfl, hJ5.bel⟩
         ·rw [decide_eq_false hn1] at hst
          simp only [Bool.not_true, Bool.not_false, Bool.true_and, Bool.false_and, Bool.and_true, Bool.and_false, if_true, if_false, Bool.false_eq_true] at hst
          go_wp2_with (first | (go_at_call 20; (with_reducible refine HA.out.mono ?_); rintro e w4 ⟨hb4, A3, n3, c3, rfl⟩; have hJ4 := hJa.below hb4; have hbD := bel_one w4 (.cells (adK ad A3 n3 c3 true true) 41); have hJ5 := hJ4.below hbD; have hkD := Bk.new w4 41 (adK ad A3 n3 c3 true true); have hka5 := (hka.below hb4).below hbD; have g1 := hkD.cell 1; have g8 := hkD.cell 8; have g10 := hkD.cell 10; have g0 := hka5.cell 1; simp only [gs3] at g1 g8 g10 g0; have h51 := hJ5.two.1.textsA; have h52 := hJ5.two.2.1.textsA) | (go_at_call 51; (with_reducible refine (HT1.out _ h51).mono ?_); rintro e w6 ⟨rfl, rfl⟩) | (go_at_call 51; (with_reducible refine (HT2.out _ h52).mono ?_); rintro e w7 ⟨rfl, rfl⟩) | fail)
          go_roundg q
          case measure => omega
          case rel => exact ⟨k + 1, by omega, by go_num, by have := AG.out; show _ = _; omega, hJ5, hst⟩
       case false =>
        cases b1
        case true =>
         cases osg
         case false =>
          simp only [Bool.not_true, Bool.not_false, Bool.true_and, Bool.false_and, Bool.and_true, Bool.and_false, if_true, if_false, Bool.false_eq_true] at hst
          go_wp2_with (first | (go_at_call 20; (with_reducible refine HA.out.mono ?_); rintro e w4 ⟨hb4, A3, n3, c3, rfl⟩; have hJ4 := hJa.below hb4; have hbD := bel_one w4 (.cells (adK ad A3 n3 c3 false false) 41); have hJ5 := hJ4.below hbD; have hkD := Bk.new w4 41 (adK ad A3 n3 c3 false false); have hka5 := (hka.below hb4).below hbD; have g1 := hkD.cell 1; have g8 := hkD.cell 8; have g10 := hkD.cell 10; have g0 := hka5.cell 1; simp only [gs3] at g1 g8 g10 g0; have h51 := hJ5.two.1.textsA; have h52 := hJ5.two.2.1.textsA) | (go_at_call 51; (with_reducible refine (HT1.out _ h51).mono ?_); rintro e w6 ⟨rfl, rfl⟩) | (go_at_call 51; (with_reducible refine (HT2.out _ h52).mono ?_); rintro e w7 ⟨rfl, rfl⟩) | fail)
          go_roundg q
          case measure => omega
          case rel => exact ⟨k + 1, by omega, by go_num, by have := AG.out; show _ = _; omega, hJ5, hst⟩
         case true =>
          by_cases hn1 : 1 < nv
          ·rw [decide_eq_true hn1] at hst
           simp only [Bool.not_true, Bool.not_false, Bool.true_and, Bool.false_and, Bool.and_true, Bool.and_false, if_true, if_false, Bool.false_eq_true] at hst
           go_wp2_with (first | (go_at_call 20; (with_reducible refine HA.out.mono ?_); rintro e w4 ⟨hb4, A3, n3, c3, rfl⟩; have hJ4 := hJa.below hb4; have hbD := bel_one w4 (.cells (adK ad A3 n3 c3 true false) 41); have hJ5 := hJ4.below hbD; have hkD := Bk.new w4 41 (adK ad A3 n3 c3 true false); have hka5 := (hka.below hb4).below hbD; have g1 := hkD.cell 1; have g8 := hkD.cell 8; have g10 := hkD.cell 10; have g0 := hka5.cell 1; simp only [gs3] at g1 g8 g10 g0; have h51 := hJ5.two.1.textsA; have h52 := hJ5.two.2.1.textsA) | (go_at_call 51; (with_reducible refine (HT1.out _ h51).mono ?_); rintro e w6 ⟨rfl, rfl⟩) | (go_at_call 51; (with_reducible refine (HT2.out _ h52).mono ?_); rintro e w7 ⟨rfl, rfl⟩) | fail)
           go_ret
           exact ⟨by rw [← hst]; rfl, hJ5.bel⟩
          ·rw [decide_eq_false hn1] at hst
           simp only [Bool.not_true, Bool.not_false, Bool.true_and, Bool.false_and, Bool.and_true, Bool.and_false, if_true, if_false, Bool.false_eq_true] at hst
           go_wp2_with (first | (go_at_call 20; (with_reducible refine HA.out.mono ?_); rintro e w4 ⟨hb4, A3, n3, c3, rfl⟩; have hJ4 := hJa.below hb4; have hbD := bel_one w4 (.cells (adK ad A3 n3 c3 true false) 41); have hJ5 := hJ4.below hbD; have hkD := Bk.new w4 41 (adK ad A3 n3 c3 true false); have hka5 := (hka.below hb4).below hbD; have g1 := hkD.cell 1; have g8 := hkD.cell 8; have g10 := hkD.cell 10; have g0 := hka5.cell 1; simp only [gs3] at g1 g8 g10 g0; have h51 := hJ5.two.1.textsA; have h52 := hJ5.two.2.1.textsA) | (go_at_call 51; (with_reducible refine (HT1.out _ h51).mono ?_); rintro e w6 ⟨rfl, rfl⟩) | (go_at_call 51; (with_reducible refine (HT2.out _ h52).mono ?_); rintro e w7 ⟨rfl, rfl⟩) | fail)
           go_roundg q
           case measure => omega
           case rel => exact ⟨k + 1, by omega, by go_num, by have := AG.out; show _ = _; omega, hJ5, hst⟩
        case false =>
         cases b2
         case true =>
          cases osg
          case false =>
           simp only [Bool.not_true, Bool.not_false, Bool.true_and, Bool.false_and, Bool.and_true, Bool.and_false, if_true, if_false, Bool.false_eq_true] at hst
           go_wp2_with (first | (go_at_call 20; (with_reducible refine HA.out.mono ?_); rintro e w4 ⟨hb4, A3, n3, c3, rfl⟩; have hJ4 := hJa.below hb4; have hbD := bel_one w4 (.cells (adK ad A3 n3 c3 false false) 41); have hJ5 := hJ4.below hbD; have hkD := Bk.new w4 41 (adK ad A3 n3 c3 false false); have hka5 := (hka.below hb4).below hbD; have g1 := hkD.cell 1; have g8 := hkD.cell 8; have g10 := hkD.cell 10; have g0 := hka5.cell 1; simp only [gs3] at g1 g8 g10 g0; have h51 := hJ5.two.1.textsA; have h52 := hJ5.two.2.1.textsA) | (go_at_call 51; (with_reducible refine (HT1.out _ h51).mono ?_); rintro e w6 ⟨rfl, rfl⟩) | (go_at_call 51; (with_reducible refine (HT2.out _ h52).mono ?_); rintro e w7 ⟨rfl, rfl⟩) | fail)
           go_roundg q
           case measure => omega
           case rel => exact ⟨k + 1, by omega, by go_num, by have := AG.out; show _ = _; omega, hJ5, hst⟩
          case true =>
           by_cases hn1 : 1 < nv
           ·rw [decide_eq_true hn1] at hst
            simp only [Bool.not_true, Bool.not_false, Bool.true_and, Bool.false_and, Bool.and_true, Bool.and_false, if_true, if_false, Bool.false_eq_true] at hst
            go_wp2_with (first | (go_at_call 20; (with_reducible refine HA.out.mono ?_); rintro e w4 ⟨hb4, A3, n3, c3, rfl⟩; have hJ4 := hJa.below hb4; have hbD := bel_one w4 (.cells (adK ad A3 n3 c3 true false) 41); have hJ5 := hJ4.below hbD; have hkD := Bk.new w4 41 (adK ad A3 n3 c3 true false); have hka5 := (hka.below hb4).below hbD; have g1 := hkD.cell 1; have g8 := hkD.cell 8; have g10 := hkD.cell 10; have g0 := hka5.cell 1; simp only [gs3] at g1 g8 g10 g0; have h51 := hJ5.two.1.textsA; have h52 := hJ5.two.2.1.textsA) | (go_at_call 51; (with_reducible refine (HT1.out _ h51).mono ?_); rintro e w6 ⟨rfl, rfl⟩) | (go_at_call 51; (with_reducible refine (HT2.out _ h52).mono ?_); rintro e w7 ⟨rfl, rfl⟩) | fail)
            go_ret
            exact ⟨by rw [← hst]; rfl, hJ5.bel⟩
           ·rw [decide_eq_false hn1] at hst
            simp only [Bool.not_true, Bool.not_false, Bool.true_and, Bool.false_and, Bool.and_true, Bool.and_false, if_true, if_false, Bool.false_eq_true] at hst
            go_wp2_with (first | (go_at_call 20; (with_reducible refine HA.out.mono ?_); rintro e w4 ⟨hb4, A3, n3, c3, rfl⟩; have hJ4 := hJa.below hb4; have hbD := bel_one w4 (.cells (adK ad A3 n3 c3 true false) 41); have hJ5 := hJ4.below hbD; have hkD := Bk.new w4 41 (adK ad A3 n3 c3 true false); have hka5 := (hka.below hb4).below hbD; have g1 := hkD.cell 1; have g8 := hkD.cell 8; have g10 := hkD.cell 10; have g0 := hka5.cell 1; simp only [gs3] at g1 g8 g10 g0; have h51 := hJ5.two.1.textsA; have h52 := hJ5.two.2.1.textsA) | (go_at_call 51; (with_reducible refine (HT1.out _ h51).mono ?_); rintro e w6 ⟨rfl, rfl⟩) | (go_at_call 51; (with_reducible refine (HT2.out _ h52).mono ?_); rintro e w7 ⟨rfl, rfl⟩) | fail)
            go_roundg q
            case measure => omega
            case rel => exact ⟨k + 1, by omega, by go_num, by have := AG.out; show _ = _; omega, hJ5, hst⟩
         case false =>
          simp only [Bool.not_true, Bool.not_false, Bool.true_and, Bool.false_and, Bool.and_true, Bool.and_false, if_true, if_false, Bool.false_eq_true] at hst
          go_wp2_with (first | (go_at_call 20; (with_reducible refine HA.out.mono ?_); rintro e w4 ⟨hb4, A3, n3, c3, rfl⟩; have hJ4 := hJa.below hb4; have hbD := bel_one w4 (.cells #[.string ⟨ad.oid.toArray⟩, .string ⟨ad.name.toArray⟩, .string ⟨ad.sup.toArray⟩, .slice A3 n3 c3, .string ⟨ad.form.toArray⟩, .string ⟨ad.eqr.toArray⟩, .string ⟨ad.ordr.toArray⟩, .string ⟨ad.subs.toArray⟩, .bool osg, .bool ad.fixed, .bool false] 41); have hJ5 := hJ4.below hbD; have hkD := Bk.new w4 41 #[.string ⟨ad.oid.toArray⟩, .string ⟨ad.name.toArray⟩, .string ⟨ad.sup.toArray⟩, .slice A3 n3 c3, .string ⟨ad.form.toArray⟩, .string ⟨ad.eqr.toArray⟩, .string ⟨ad.ordr.toArray⟩, .string ⟨ad.subs.toArray⟩, .bool osg, .bool ad.fixed, .bool false]; have hka5 := (hka.below hb4).below hbD; have g1 := hkD.cell 1; have g8 := hkD.cell 8; have g10 := hkD.cell 10; have g0 := hka5.cell 1; simp only [gs3] at g1 g8 g10 g0; have h51 := hJ5.two.1.textsA; have h52 := hJ5.two.2.1.textsA) | (go_at_call 51; (with_reducible refine (HT1.out _ h51).mono ?_); rintro e w6 ⟨rfl, rfl⟩) | (go_at_call 51; (with_reducible refine (HT2.out _ h52).mono ?_); rintro e w7 ⟨rfl, rfl⟩) | fail)
          go_ret
          exact ⟨by rw [← hst]; rfl, hJ5.bel⟩
      ·obtain rfl : k = attrs.length := by omega
       have hRx : R = 0 := by have := AS.out; rw [List.drop_length] at this; exact this.symm
       clear AS
       go_wp2_with fail
       go_ret
       exact ⟨by rw [hRx]; rfl, AJ.out.bel⟩
open Go.RowKit
theorem base_must_b : ((List.range baseL.length).all fun i => (mustD baseL i).all fun t => decide (t.length ≤ 1000000)) = true := by decide +kernel
theorem base_must : ∀ i D, baseL[i]? = some D → ∀ t ∈ mustD baseL i, t.length ≤ 1000000 := fun i D hD t ht => by
 have hi := (List.getElem?_eq_some_iff.1 hD).1
 exact of_decide_eq_true (List.all_eq_true.1 (List.all_eq_true.1 base_must_b i (List.mem_range.2 hi)) t ht)
theorem CheckB_c (s : Nat) (ps : List Nat) (en : Ent.EntryE) (va : Value) (w : World) (hS : SchAt w s ps baseL) (hv : AttrsA w va en.attrs) (hl : en.attrs.length ≤ 1000) (hvn : valsN en.attrs ≤ 1000000) (hlt : ∀ a ∈ en.attrs, a.typ.length ≤ 1000000) (hvl : ∀ x ∈ Ent.findE (schE baseL) en Ent.wObj, x.length ≤ 140737488351232) :
  Calls Tryz.prog 24 #[.pointer (some ⟨s, 0, none⟩), entryArg en va] w fun e w' => e = .returned (.int .i64 (Ent.checkE (schE baseL) en)) ∧ Below w.heap.size w w' :=
 Check_c s ps baseL base_sound base_must en va w hS hv hl hvn hlt hvl
end Go.Proofs.YtkkbbhlihilnpaaGreatDoor
