import Derived.Test.YtkkbbhlihilnpaaGreatDoorWr7
import Derived.Maps.AppendAt
set_option linter.all false
set_option maxHeartbeats 8000000
set_option maxRecDepth 100000
namespace Go.Proofs.YtkkbbhlihilnpaaGreatDoor
open Go.RowKit
theorem look7 (S : Ent.SchE) (c : LU) (l acc : BLs) : lowF S (c :: l) acc = match S.cls c with
  | some d => if d.kind == 1 then lowF S l (acc ++ [d.name]) else lowF S l acc
  | none => lowF S l acc := rfl
theorem lowG_c (bu : Nat) (up : BLs) (vu : Value) (x : LU) (w : World) (hb : w.cell? ⟨bu, 0, none⟩ = some vu) (hu : TextsA w vu up) (hl : up.length ≤ 4611686018427387904) :
  Calls Tryz.prog 93 #[.string ⟨x.toArray⟩, .pointer (some ⟨bu, 0, none⟩)] w fun e w' => e = .returned (.bool (!up.contains x)) ∧ Below w.heap.size w w' := by
 have HC := hiD (ContainsSA_c x up vu w hu hl)
 obtain ⟨A, c, rfl, _⟩ := hu.at
 generalize up.contains x = b at HC ⊢
 clear hu
 go_enter Tryz.func93, Tryz.ntmps93
 go_wp2_with (go_at_call 51; (with_reducible refine HC.out.mono ?_); rintro e w1 ⟨rfl, rfl⟩)
 all_goals
  go_ret
  exact ⟨rfl, Below.refl _ _⟩
theorem Lowest_c (s : Nat) (ps : List Nat) (L : List DefS) (hL : Sound L) (en : Ent.EntryE) (va : Value) (w : World) (hS : SchAt w s ps L) (hv : AttrsA w va en.attrs) (hl : en.attrs.length ≤ 1000) (hvn : valsN en.attrs ≤ 1000000) (hlt : ∀ a ∈ en.attrs, a.typ.length ≤ 1000000) (hvl : ∀ x ∈ Ent.findE (schE L) en Ent.wObj, x.length ≤ 140737488351232) :
  Calls Tryz.prog 49 #[.pointer (some ⟨s, 0, none⟩), entryArg en va] w fun e w' => e = .returned (.string ⟨(Ent.lowestE (schE L) en).toArray⟩) ∧ Below w.heap.size w w' := by
 have HFd : Hid (∀ W : World, Below w.heap.size w W → Calls Tryz.prog 43 #[.pointer (some ⟨s, 0, none⟩), entryArg en va, .string ⟨Ent.wObj.toArray⟩] W fun e w' => ∃ A c, e = .returned (.slice A (Ent.findE (schE L) en Ent.wObj).length c) ∧ TextsA w' (.slice A (Ent.findE (schE L) en Ent.wObj).length c) (Ent.findE (schE L) en Ent.wObj) ∧ Below W.heap.size W w') := hiD fun W h => (Find_c s ps L hL en va Ent.wObj W (hS.below h) (hv.below h) hl hvn hlt (by decide)).mono (by
  rintro e w' ⟨v', rfl, hO, hb⟩
  obtain ⟨A, c, rfl, _⟩ := hO.isSlice
  exact ⟨A, c, rfl, hO.textsA, hb⟩)
 have HCl : Hid (∀ (x : LU) (W : World), Below w.heap.size w W → x.length ≤ 140737488351232 → Calls Tryz.prog 48 #[.pointer (some ⟨s, 0, none⟩), .string ⟨x.toArray⟩] W (ClsRet7 W ((schE L).cls x))) := hiD fun x W h hx => Class_u hL s ps x W (hS.below h) hx
 have HAb : Hid (∀ (x : LU) (W : World), Below w.heap.size w W → x ∈ Ent.lowL (schE L) en → Calls Tryz.prog 92 #[.pointer (some ⟨s, 0, none⟩), .string ⟨x.toArray⟩] W fun e w' => ∃ A c, e = .returned (.slice A ((schE L).above x).length c) ∧ Below W.heap.size W w' ∧ TextsA w' (.slice A ((schE L).above x).length c) ((schE L).above x) ∧ ((schE L).above x).length ≤ 4611686018427387904) := hiD fun x W h hx => by
  obtain ⟨i, D, hf, hD, _⟩ := low_mem hL.says hx
  have e : (schE L).above x = aboveN L i := by
   show (match findD L true x with | some i => aboveN L i | none => []) = _
   rw [hf]
  rw [e]
  refine (Above_c s ps L x i W (hS.below h) hL.lim (by have := hL.says.len; omega) hL.says.sup_known (found_short hL.lim hf) hf).mono ?_
  rintro e w' ⟨v', rfl, hb, hO⟩
  obtain ⟨A, c, rfl, _⟩ := hO.isSlice
  have h1 := above_len (L := L) (x := i) (findD_lt hf)
  have h2 := hL.says.len
  exact ⟨A, c, rfl, hb, hO.textsA, by omega⟩
 have hR1 := lowL_eq (schE L) en
 have hlen : (Ent.findE (schE L) en Ent.wObj).length ≤ 1000000 := Nat.le_trans find_len hvn
 have hlow : (Ent.lowL (schE L) en).length ≤ 1000000 := Nat.le_trans low_len hlen
 obtain ⟨R, hR⟩ : ∃ R, Ent.lowestE (schE L) en = R := ⟨_, rfl⟩
 rw [hR]
 have hR2 : ((Ent.lowL (schE L) en).find? fun c => !((Ent.lowL (schE L) en).any fun o => !((schE L).above c).contains o)).getD [] = R := hR
 have HR2 := hiD hR2
 obtain ⟨Av, cv, rfl, hcv⟩ := hv.isSlice
 obtain ⟨dn, attrs⟩ := en
 unfold entryArg at *
 simp only at *
 generalize Ent.findE (schE L) ⟨dn, attrs⟩ Ent.wObj = fl at *
 generalize Ent.lowL (schE L) ⟨dn, attrs⟩ = lw at *
 have HVL := hiD hvl
 have HLW := hiD hR1
 clear hS hv hL hvn hlt hR hR2 hvl hR1
 have hb0 := bel_one w (.cells #[.string ⟨dn.toArray⟩, .slice Av attrs.length cv] 37)
 unfold Ent.wObj at HFd
 go_enter Tryz.func49, Tryz.ntmps49
 go_wp2_with (go_at_call 43; (with_reducible refine (HFd.out _ hb0).mono ?_); rintro e w1 ⟨A1, c1, rfl, hT1, hb1⟩; have hB1 := hb0.trans (hb1.mono hb0.size))
 obtain ⟨A1', c1', hsl, hc1, hcell⟩ := hT1.at
 cases hsl
 have HV := hiD hcell
 clear hcell hT1
 go_loopg [5, 17] fl.length (fun gk out i wr => ∃ (k : Nat) (acc : BLs), k ≤ fl.length ∧ i = .int .i64 k ∧ Aside (k + gk = fl.length) ∧ Aside (acc.length ≤ k) ∧ Aside (Below w1.heap.size w1 wr ∧ Own w1.heap.size wr out acc) ∧ Aside (lowF (schE L) (fl.drop k) acc = lw))
 case atStart => exact ⟨0, [], by omega, rfl, by show _ = _; omega, Nat.le_refl _, ⟨Below.refl _ _, Own.nil (Nat.le_refl _)⟩, HLW.out⟩
 case round =>
  clear HLW
  obtain ⟨k, acc, hk, rfl, AG, AC, AB, AS⟩ := hrel
  obtain ⟨Ao, co, rfl, hco⟩ := AB.out.2.isSlice
  by_cases hlt : k < fl.length
  ·obtain ⟨q, rfl⟩ : ∃ q, gk = q + 1 := ⟨gk - 1, by have := AG.out; omega⟩
   obtain ⟨a, rfl, c0⟩ := HV.out k hlt
   have d0 := (AB.out.1.cell (cell_lt c0)).trans c0
   have hBr := hB1.trans (AB.out.1.mono hB1.size)
   have HC := hiD (HCl.out fl[k] wr hBr (HVL.out _ (List.getElem_mem hlt)))
   have hst := AS.out
   rw [List.drop_eq_getElem_cons hlt, look7] at hst
   have hacl : acc.length < 1000001 := by have := AC.out; omega
   clear AS c0
   generalize fl[k] = x at *
   cases hcls : (schE L).cls x with
   | none =>
    rw [hcls] at HC hst
    unfold ClsRet7 at HC
    simp only at HC hst
    clear hcls
    go_wp2_with (go_at_call 48; (with_reducible refine HC.out.mono ?_); rintro e w2 ⟨hb2, od, nm, D1, m1, e1, D2, m2, e2, kd, Dm, mm, em, Dy, my, ey, kk, rfl, rfl⟩; have hbD := bel_one w2 (.cells #[.string ⟨od⟩, .string ⟨nm⟩, .slice D1 m1 e1, .slice D2 m2 e2, .int .i64 kd, .slice Dm mm em, .slice Dy my ey] 89))
    go_roundg q
    case measure => omega
    case rel => exact ⟨k + 1, acc, by omega, by go_num, by have := AG.out; show _ = _; omega, by have := AC.out; show _ ≤ _; omega, ⟨(AB.out.1.trans (hb2.mono AB.out.1.size)).trans (hbD.mono (AB.out.1.trans (hb2.mono AB.out.1.size)).size), (AB.out.2.below hb2).below hbD⟩, hst⟩
   | some d =>
    rw [hcls] at HC hst
    unfold ClsRet7 at HC
    simp only at HC hst
    clear hcls
    obtain ⟨cnm, ck, cmust, cmay⟩ := d
    simp only at HC hst
    by_cases hkd : ck = 1
    ·subst hkd
     simp only [beq_self_eq_true, if_true] at hst
     go_wp2_with (first
      | (go_at_call 48; (with_reducible refine HC.out.mono ?_); rintro e w2 ⟨hb2, od, nm, D1, m1, e1, D2, m2, e2, kd, Dm, mm, em, Dy, my, ey, kk, rfl, rfl, rfl, rfl, t3, t4⟩; have hbD := bel_one w2 (.cells #[.string ⟨od⟩, .string ⟨cnm.toArray⟩, .slice D1 m1 e1, .slice D2 m2 e2, .int .i64 1, .slice Dm mm em, .slice Dy my ey] 89); have hkD := Bk.new w2 89 #[.string ⟨od⟩, .string ⟨cnm.toArray⟩, .slice D1 m1 e1, .slice D2 m2 e2, .int .i64 1, .slice Dm mm em, .slice Dy my ey]; have z1 := hkD.cell 1; have z4 := hkD.cell 4; simp only [gs3] at z1 z4; have hBD := (AB.out.1.trans (hb2.mono AB.out.1.size)).trans (hbD.mono (AB.out.1.trans (hb2.mono AB.out.1.size)).size); have hOD := (AB.out.2.below hb2).below hbD)
      | (at_builtin; refine own_one (c := cnm) rfl _ _ rfl rfl hOD rfl (by simp) (Nat.lt_of_lt_of_le hacl (by decide)) ?_; intro v' w4 hO4 hg4))
     go_roundg q
     case measure => omega
     case rel => exact ⟨k + 1, acc ++ [cnm], by omega, by go_num, by have := AG.out; show _ = _; omega, by have := AC.out; show _ ≤ _; rw [List.length_append, List.length_singleton]; omega, ⟨Own.bel hBD hOD hg4, hO4⟩, hst⟩
    ·have hkb : (ck == 1) = false := beq_eq_false_iff_ne.2 hkd
     rw [hkb] at hst
     simp only [Bool.false_eq_true, if_false] at hst
     go_wp2_with (go_at_call 48; (with_reducible refine HC.out.mono ?_); rintro e w2 ⟨hb2, od, nm, D1, m1, e1, D2, m2, e2, kd, Dm, mm, em, Dy, my, ey, kk, rfl, rfl, rfl, rfl, t3, t4⟩; have hbD := bel_one w2 (.cells #[.string ⟨od⟩, .string ⟨cnm.toArray⟩, .slice D1 m1 e1, .slice D2 m2 e2, .int .i64 kd, .slice Dm mm em, .slice Dy my ey] 89); have hkD := Bk.new w2 89 #[.string ⟨od⟩, .string ⟨cnm.toArray⟩, .slice D1 m1 e1, .slice D2 m2 e2, .int .i64 kd, .slice Dm mm em, .slice Dy my ey]; have z4 := hkD.cell 4; simp only [gs3] at z4; have hBD := (AB.out.1.trans (hb2.mono AB.out.1.size)).trans (hbD.mono (AB.out.1.trans (hb2.mono AB.out.1.size)).size); have hOD := (AB.out.2.below hb2).below hbD)
     go_roundg q
     case measure => omega
     case rel => exact ⟨k + 1, acc, by omega, by go_num, by have := AG.out; show _ = _; omega, by have := AC.out; show _ ≤ _; omega, ⟨hBD, hOD⟩, hst⟩
  ·obtain rfl : k = fl.length := by omega
   have hacc : acc = lw := by have := AS.out; rw [List.drop_length] at this; exact this
   subst hacc
   have hBr := hB1.trans (AB.out.1.mono hB1.size)
   have hTl := AB.out.2.textsA
   obtain ⟨wl, hwl⟩ : ∃ x, x = wr := ⟨_, rfl⟩
   subst hwl
   obtain ⟨A2, c2, hsl, hc2, hcell2⟩ := hTl.at
   cases hsl
   have HV2 := hiD hcell2
   have HTL := hiD hTl
   clear AS AB hcell2 hTl HV
   go_wp2_with fail
   go_loopg [42] acc.length (fun gk i wr => ∃ k : Nat, k ≤ acc.length ∧ i = .int .i64 k ∧ Aside (k + gk = acc.length) ∧ Aside (Below wl.heap.size wl wr) ∧ Aside (((acc.drop k).find? fun c => !(acc.any fun o => !((schE L).above c).contains o)).getD [] = R))
   case atStart => exact ⟨0, by omega, rfl, by show _ = _; omega, Below.refl _ _, HR2.out⟩
   case round =>
    clear HR2
    obtain ⟨k, hk, rfl, AG, AB, AS⟩ := hrel
    by_cases hlt : k < acc.length
    ·obtain ⟨q, rfl⟩ : ∃ q, gk = q + 1 := ⟨gk - 1, by have := AG.out; omega⟩
     obtain ⟨a, rfl, c0⟩ := HV2.out k hlt
     have d0 := (AB.out.cell (cell_lt c0)).trans c0
     have hBw := hBr.trans (AB.out.mono hBr.size)
     have HA := hiD (HAb.out acc[k] wr hBw (List.getElem_mem hlt))
     have hst := AS.out
     rw [List.drop_eq_getElem_cons hlt, List.find?_cons] at hst
     clear AS c0
     generalize acc[k] = x at *
     generalize (schE L).above x = up at *
     have HG : Hid (∀ (W : World) (bu : Nat) (vu : Value), Below wl.heap.size wl W → W.cell? ⟨bu, 0, none⟩ = some vu → TextsA W vu up → up.length ≤ 4611686018427387904 → Calls Tryz.prog 42 #[.slice (some a) acc.length co, .func (.func 93) #[] #[.pointer (some ⟨bu, 0, none⟩)]] W fun e w' => e = .returned (.bool (acc.any fun o => !up.contains o)) ∧ Below W.heap.size W w') := hiD fun W bu vu h h1 h2 h3 => ContainsFuncSA_c 93 _ acc _ W (HTL.out.below h) (by omega) _ ⟨fun x _ W2 hW2 => lowG_c bu up vu x W2 ((hW2.cell (p := ⟨bu, 0, none⟩) (cell_lt h1)).trans h1) (h2.below hW2) h3, fun _ _ => by kernel_rfl⟩
     cases hany : (acc.any fun o => !up.contains o)
     all_goals
      rw [hany] at HG hst
      clear hany
      go_wp2_with (first
       | (go_at_call 92; (with_reducible refine HA.out.mono ?_); rintro e w2 ⟨A3, c3, rfl, hb2, hT2, hl2⟩; have hB2 := AB.out.trans (hb2.mono AB.out.size); have hbU := bel_one w2 (.cells #[.slice A3 up.length c3] 23); have hB3 := hB2.trans (hbU.mono hB2.size); have u0 := (Bk.new w2 23 #[.slice A3 up.length c3]).cell 0; simp only [List.getElem?_toArray, List.getElem?_cons_zero] at u0)
       | (go_at_call 42; (with_reducible refine (HG.out _ _ _ hB3 u0 (hT2.below hbU) hl2).mono ?_); rintro e w4 ⟨rfl, hb4⟩; have hB4 := hB3.trans (hb4.mono hB3.size)))
     ·have hRx : R = x := by simpa using hst.symm
      go_ret
      exact ⟨by rw [hRx]; rfl, hBr.trans (hB4.mono hBr.size)⟩
     ·go_roundg q
      case measure => omega
      case rel => exact ⟨k + 1, by omega, by go_num, by have := AG.out; show _ = _; omega, hB4, (by simpa using hst : ((acc.drop (k + 1)).find? fun c => !(acc.any fun o => !((schE L).above c).contains o)).getD [] = R)⟩
    ·obtain rfl : k = acc.length := by omega
     have hRx : R = [] := by have := AS.out; rw [List.drop_length] at this; exact this.symm
     clear AS
     go_wp2_with fail
     go_ret
     exact ⟨by rw [hRx]; rfl, hBr.trans (AB.out.mono hBr.size)⟩
open Go.RowKit
section
variable {ops : Array Oper} {o : Oper} {a : Act} {K : Act → World → Prop} {Q : Exit → Act → World → Prop} {E : Prop}
theorem step_own_at {w : World} (hgd : o.guard = none) (s x : Operand) (ho : o.op = .call { callee := .builtin .append, args := #[s, x], argTypes := #[23, 23] })
  {v xv : Value} {xs ys : BLs} {B : Nat} (hs : a.eval s = v) (hb : Own B w v xs)
  (hx : a.eval x = xv) (hy : TextsA w xv ys) (hlen : xs.length + ys.length < 4398046511104)
  (h : ∀ v' w', Own B w' v' (xs ++ ys) → w.grownBy w' v.ownBlock → (v'.ownBlock = v.ownBlock ∨ v'.ownBlock = some w.heap.size) → K (a.put o.dst v') w') :
  if Region.wanted o (yielded ops a.tmps) = true then Oper.wp Tryz.prog o a w K Q else E := by
 obtain ⟨i, h1, h2, h3, h4⟩ := infoStr
 have hw : Region.wanted o (yielded ops a.tmps) = true := by simp [Region.wanted, hgd]
 rw [if_pos hw]
 rcases hy with ⟨rfl, rfl⟩ | ⟨b, c, rfl, hc, hcell⟩
 ·have hr : (Builtin.append_ #[23, 23] o.type #[v, .slice none 0 0]).run Tryz.prog w = .ok v w := by
   rcases hb.1.2 with ⟨rfl, _⟩ | ⟨g, cap, cur, rfl, _, _, hnc, _⟩
   ·simp [Builtin.append_, run_underlying Tryz.underlying23, sizeOf, typeInfo, h1, Builtin.lenOf, Builtin.firstCells]
   ·simp [Builtin.append_, run_underlying Tryz.underlying23, sizeOf, typeInfo, h1, Builtin.lenOf, Builtin.firstCells, hnc, storeCells]
  unfold Oper.wp execOp
  simp only [ho, resolve, invoke, builtin, Sem.run_bind, Sem.run_pure, Result.andThen_ok, List.map_toArray, List.map_cons, List.map_nil, hs, hx, hr]
  exact h v w (by simpa using hb) (World.grownBy.refl _ _) (Or.inl rfl)
 ·obtain ⟨v', w', hr, g2, g3, _, g5⟩ := run_append_own_at (P := Tryz.prog) w B 23 o.type 9 i (.string ⟨#[]⟩) 1 16 Tryz.underlying23 h1 h2 h3 h4 rfl (by decide) v _ _ hb.1 b ys.length c (ys.map strV) (by simp) (by
    intro j u hj
    have hjl : j < ys.length := by simpa using (List.getElem?_eq_some_iff.1 hj).1
    rw [hcell j hjl]
    simp [hjl] at hj
    rw [← hj]; rfl) (by
    intro u hu
    simp at hu
    obtain ⟨q, _, rfl⟩ := hu
    rfl) (by unfold maxLen; omega) (by omega) hb.2
  unfold Oper.wp execOp
  simp only [ho, resolve, invoke, builtin, Sem.run_bind, Sem.run_pure, Result.andThen_ok, List.map_toArray, List.map_cons, List.map_nil, hs, hx, hr]
  exact h v' w' ⟨by simpa using g2, Nat.le_trans hb.2 g3.size⟩ g3 g5
end
def Two (B : Nat) (w : World) (v u : Value) (xs ys : BLs) : Prop := Own B w v xs ∧ Own B w u ys ∧ ∀ k, v.ownBlock = some k → u.ownBlock ≠ some k
theorem Two.nil {B : Nat} {w : World} (hB : B ≤ w.heap.size) : Two B w (.slice none 0 0) (.slice none 0 0) [] [] := ⟨Own.nil hB, Own.nil hB, fun k hk => by simp [Value.ownBlock] at hk⟩
theorem Two.below {B : Nat} {w w' : World} {v u : Value} {xs ys : BLs} (h : Two B w v u xs ys) (hb : Below w.heap.size w w') : Two B w' v u xs ys := ⟨h.1.below hb, h.2.1.below hb, h.2.2⟩
theorem Two.fst {B : Nat} {w w' : World} {v v' u : Value} {xs xs' ys : BLs} (h : Two B w v u xs ys) (hO : Own B w' v' xs') (hg : w.grownBy w' v.ownBlock) (ha : v'.ownBlock = v.ownBlock ∨ v'.ownBlock = some w.heap.size) : Two B w' v' u xs' ys := by
 refine ⟨hO, h.2.1.keep2 hg (fun k hk he => h.2.2 k he hk), fun k hk hu => ?_⟩
 rcases ha with ha | ha
 ·rw [ha] at hk
  exact h.2.2 k hk hu
 ·rw [ha] at hk
  cases hk
  have := (h.2.1.lt _ hu).2
  omega
theorem Two.snd {B : Nat} {w w' : World} {v u u' : Value} {xs ys ys' : BLs} (h : Two B w v u xs ys) (hO : Own B w' u' ys') (hg : w.grownBy w' u.ownBlock) (ha : u'.ownBlock = u.ownBlock ∨ u'.ownBlock = some w.heap.size) : Two B w' v u' xs ys' := by
 refine ⟨h.1.keep2 hg (fun k hk he => h.2.2 k hk he), hO, fun k hk hu => ?_⟩
 rcases ha with ha | ha
 ·rw [ha] at hu
  exact h.2.2 k hk hu
 ·rw [ha] at hu
  cases hu
  have := (h.1.lt _ hk).2
  omega
theorem checkF_c (s bs be : Nat) (ps : List Nat) (L : List DefS) (hL : Sound L) (en : Ent.EntryE) (A : Option Addr) (c : Nat) (t : LU) (w : World) (hS : SchAt w s ps L) (hv : AttrsA w (.slice A en.attrs.length c) en.attrs) (hl : en.attrs.length ≤ 1000) (hvn : valsN en.attrs ≤ 1000000) (hlt : ∀ a ∈ en.attrs, a.typ.length ≤ 1000000) (ht : t.length ≤ 1000000)
  (h1 : w.cell? ⟨bs, 0, none⟩ = some (.pointer (some ⟨s, 0, none⟩))) (h2 : w.cell? ⟨be, 0, none⟩ = some (.string ⟨en.dn.toArray⟩)) (h3 : w.cell? ⟨be, 1, none⟩ = some (.slice A en.attrs.length c)) :
  Calls Tryz.prog 50 #[.string ⟨t.toArray⟩, .pointer (some ⟨bs, 0, none⟩), .pointer (some ⟨be, 0, none⟩)] w fun e w' => e = .returned (.bool (Ent.findE (schE L) en t).isEmpty) ∧ Below w.heap.size w w' := by
 have HF := (Find_c s ps L hL en (.slice A en.attrs.length c) t w hS hv hl hvn hlt ht).mono (R' := fun e w' => ∃ A c, e = .returned (.slice A (Ent.findE (schE L) en t).length c) ∧ Below w.heap.size w w') (by
  rintro e w' ⟨v', rfl, hO, hb⟩
  obtain ⟨A, c, rfl, _⟩ := hO.isSlice
  exact ⟨A, c, rfl, hb⟩)
 have hlen := find_len (S := schE L) (e := en) (t := t)
 have HF := hiD HF
 obtain ⟨dn, attrs⟩ := en
 unfold entryArg at HF
 simp only at *
 generalize Ent.findE (schE L) ⟨dn, attrs⟩ t = fl at *
 have hn : fl.isEmpty = decide ((fl.length : Int) = 0) := by cases fl <;> simp <;> omega
 rw [hn]
 clear hS hv hvn hlt hL hn
 go_enter Tryz.func50, Tryz.ntmps50
 go_wp2_with (go_at_call 43; (with_reducible refine HF.out.mono ?_); rintro e w1 ⟨A1, c1, rfl, hb1⟩)
 all_goals
  go_ret
  exact ⟨retb (by rw [Bool.eq_iff_iff]; simp), hb1⟩
theorem mm_cons (S : Ent.SchE) (c : LU) (l m1 m2 : BLs) : Ent.mustMayE S (c :: l) m1 m2 = match S.cls c with
  | none => none
  | some d => Ent.mustMayE S l (m1 ++ d.must) (m2 ++ d.may) := rfl
theorem ck_cons (S : Ent.SchE) (m1 m2 : BLs) (a : Ent.AttrE) (l : List Ent.AttrE) : Ent.checkF S m1 m2 (a :: l) = if !Ent.operE S a.typ && !m1.contains (Ent.nameE S a.typ) && !m2.contains (Ent.nameE S a.typ) then 65 else if Ent.singleE S a.typ && decide (1 < a.vals.length) then 19 else Ent.checkF S m1 m2 l := rfl
theorem operE_eq (L : List DefS) (t : LU) : Ent.operE (schE L) t = (attrO L t).oper := by
 unfold Ent.operE attrO schE
 simp only
 cases attrL L t <;> rfl
theorem singleE_eq (L : List DefS) (t : LU) : Ent.singleE (schE L) t = (attrO L t).single := by
 unfold Ent.singleE attrO schE
 simp only
 cases attrL L t <;> rfl
structure CkJ (w wf wr : World) (s : Nat) (dn : LU) (A : Option Addr) (n c : Nat) (v u : Value) (m1 m2 : BLs) : Prop where
 bel : Below w.heap.size w wr
 belf : Below wf.heap.size wf wr
 ge : w.heap.size + 2 ≤ wf.heap.size
 bs : Bk wr w.heap.size 34 #[.pointer (some ⟨s, 0, none⟩)]
 be : Bk wr (w.heap.size + 1) 37 #[.string ⟨dn.toArray⟩, .slice A n c]
 two : Two wf.heap.size wr v u m1 m2
theorem CkJ.below {w wf wr W : World} {s : Nat} {dn : LU} {A : Option Addr} {n c : Nat} {v u : Value} {m1 m2 : BLs} (h : CkJ w wf wr s dn A n c v u m1 m2) (hb : Below wr.heap.size wr W) : CkJ w wf W s dn A n c v u m1 m2 := ⟨h.bel.trans (hb.mono h.bel.size), h.belf.trans (hb.mono h.belf.size), h.ge, h.bs.below hb, h.be.below hb, h.two.below hb⟩
theorem CkJ.fst {w wf wr W : World} {s : Nat} {dn : LU} {A : Option Addr} {n c : Nat} {v v' u : Value} {m1 m1' m2 : BLs} (h : CkJ w wf wr s dn A n c v u m1 m2) (hO : Own wf.heap.size W v' m1') (hg : wr.grownBy W v.ownBlock) (ha : v'.ownBlock = v.ownBlock ∨ v'.ownBlock = some wr.heap.size) : CkJ w wf W s dn A n c v' u m1' m2 := by
 have hne : ∀ k, v.ownBlock = some k → wf.heap.size ≤ k := fun k hk => (h.two.1.lt k hk).1
 have hge := h.ge
 refine ⟨h.bel.grown hg h.bel.size (fun k hk => by have := hne k hk; omega), h.belf.grown hg h.two.1.2 hne, h.ge, h.bs.grown hg (fun e => ?_), h.be.grown hg (fun e => ?_), h.two.fst hO hg ha⟩
 ·have := hne _ e.symm; omega
 ·have := hne _ e.symm; omega
theorem CkJ.snd {w wf wr W : World} {s : Nat} {dn : LU} {A : Option Addr} {n c : Nat} {v u u' : Value} {m1 m2 m2' : BLs} (h : CkJ w wf wr s dn A n c v u m1 m2) (hO : Own wf.heap.size W u' m2') (hg : wr.grownBy W u.ownBlock) (ha : u'.ownBlock = u.ownBlock ∨ u'.ownBlock = some wr.heap.size) : CkJ w wf W s dn A n c v u' m1 m2' := by
 have hne : ∀ k, u.ownBlock = some k → wf.heap.size ≤ k := fun k hk => (h.two.2.1.lt k hk).1
 have hge := h.ge
 refine ⟨h.bel.grown hg h.bel.size (fun k hk => by have := hne k hk; omega), h.belf.grown hg h.two.2.1.2 hne, h.ge, h.bs.grown hg (fun e => ?_), h.be.grown hg (fun e => ?_), h.two.snd hO hg ha⟩
 ·have := hne _ e.symm; omega
 ·have := hne _ e.symm; omega
end Go.Proofs.YtkkbbhlihilnpaaGreatDoor
