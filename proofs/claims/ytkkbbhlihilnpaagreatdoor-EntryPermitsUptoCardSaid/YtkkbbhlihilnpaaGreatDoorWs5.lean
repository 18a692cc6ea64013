import Derived.Test.YtkkbbhlihilnpaaGreatDoorWs3
set_option linter.all false
set_option maxHeartbeats 8000000
set_option maxRecDepth 100000
namespace Go.Proofs.YtkkbbhlihilnpaaGreatDoor
open Go.RowKit
def intV (k : Int) : Value := .int .i64 k
theorem now_int (a b : Int) : Instr.sameNow (.int .i64) (intV a) (intV b) = some (decide (a = b)) := by
 simp only [Instr.sameNow, intV]
 congr 1
theorem finds_int : Finds Tryz.prog 3 intV := finds_now (D := .int .i64) Tryz.underlying3 now_int
theorem check_int (b : Bool) (w : World) (k : Int) : (Instr.checkKey b 10000 3 (intV k)).run Tryz.prog w = .ok () w := by
 unfold intV
 kernel_rfl
theorem zeroFn7 (w : World) : (zeroValue 154).run Tryz.prog w = .ok .nilFunc w := by kernel_rfl
theorem updI {w : World} {m c : Nat} {es : Array MapEntry} {R : List (Int × Value)} (hw : w.heap[m]? = some (.map es c)) (h : MapR intV es R) (k : Int) (v : Value) (hn : look R k = none) :
  ∃ W es', (Instr.mapUpdate 155 (.map (some m)) (.int .i64 k) v).run Tryz.prog w = .ok () W ∧ W.heap[m]? = some (.map es' (c + 1)) ∧ MapR intV es' (R ++ [(k, v)]) ∧ w.grownBy W (some m) :=
 ⟨_, _, map_put Tryz.underlying155 finds_int check_int w m c es R hw h k v hn, setMap_heap (Array.getElem?_eq_some_iff.1 hw).1, h.push k v c, setMap_grown _ _ _ _⟩
theorem lookI2 {w : World} {m c : Nat} {es : Array MapEntry} {R : List (Int × Value)} (hw : w.heap[m]? = some (.map es c)) (h : MapR intV es R) (k : Int) :
  (Instr.lookup 155 (.map (some m)) (.int .i64 k) true).run Tryz.prog w = .ok (.tuple #[(look R k).getD .nilFunc, .bool (look R k).isSome]) w :=
 map_look2 Tryz.underlying155 finds_int check_int zeroFn7 w m c es R hw h k
def doFn (op : Int) (cv : Value) : Value := if op = 0 then .func (.func 96) #[cv] #[] else if op = 1 then .func (.func 97) #[cv] #[] else if op = 2 then .func (.func 98) #[cv] #[] else .nilFunc
theorem do_map (cv : Value) (w : World) : ∃ W1 W2 W3 : World,
  (Instr.mapUpdate 155 (.map (some w.heap.size)) (.int .i64 0) (.func (.func 96) #[cv] #[])).run Tryz.prog (w.alloc (.map #[] 0)) = .ok () W1 ∧
  (Instr.mapUpdate 155 (.map (some w.heap.size)) (.int .i64 1) (.func (.func 97) #[cv] #[])).run Tryz.prog W1 = .ok () W2 ∧
  (Instr.mapUpdate 155 (.map (some w.heap.size)) (.int .i64 2) (.func (.func 98) #[cv] #[])).run Tryz.prog W2 = .ok () W3 ∧
  (∀ op : Int, (Instr.lookup 155 (.map (some w.heap.size)) (.int .i64 op) true).run Tryz.prog W3 = .ok (.tuple #[doFn op cv, .bool (op == 0 || op == 1 || op == 2)]) W3) ∧ (w.alloc (.map #[] 0)).grownBy W1 (some w.heap.size) ∧ (w.alloc (.map #[] 0)).grownBy W2 (some w.heap.size) ∧ (w.alloc (.map #[] 0)).grownBy W3 (some w.heap.size) := by
 have h0 : (w.alloc (.map #[] 0)).heap[w.heap.size]? = some (.map #[] 0) := heap_alloc_new w _
 obtain ⟨W1, e1, u1, h1, r1, g1⟩ := updI h0 (MapR.nil intV) 0 (.func (.func 96) #[cv] #[]) rfl
 obtain ⟨W2, e2, u2, h2, r2, g2⟩ := updI h1 r1 1 (.func (.func 97) #[cv] #[]) rfl
 obtain ⟨W3, e3, u3, h3, r3, g3⟩ := updI h2 r2 2 (.func (.func 98) #[cv] #[]) rfl
 refine ⟨W1, W2, W3, u1, u2, u3, fun op => ?_, g1, World.grownBy.trans g1 g2, World.grownBy.trans (World.grownBy.trans g1 g2) g3⟩
 rw [lookI2 h3 r3 op]
 unfold doFn
 simp only [List.nil_append, List.cons_append, look]
 by_cases h0 : op = 0
 ·subst h0; rfl
 ·by_cases h1 : op = 1
  ·subst h1; rfl
  ·by_cases h2 : op = 2
   ·subst h2; rfl
   ·rw [if_neg h0, if_neg h1, if_neg h2, if_neg h0, if_neg h1, if_neg h2, beq_eq_false_iff_ne.2 h0, beq_eq_false_iff_ne.2 h1, beq_eq_false_iff_ne.2 h2]
    rfl
theorem one_eq (L : List DefS) (perm : Bool) (e : Ent.EntryE) (m : Ent.ModE) : Ent.oneE (schE L) perm e m = if !(m.op == 0 || m.op == 1 || m.op == 2) then .inl 2 else if attrC L m.typ != 0 then .inl 17 else if (attrO L m.typ).fixed then .inl 19 else if m.op == 0 && m.vals.isEmpty then .inl 2 else match Ent.takenE (schE L) perm (attrO L m.typ).name m.vals with
  | .inl c => .inl c
  | .inr vs => match Ent.doE (schE L) perm m.op e (attrO L m.typ).name vs with
   | .inl c => .inl c
   | .inr e' => if 200 < (Ent.valuesE e' (attrO L m.typ).name).length ∨ 100 < e'.attrs.length then .inl 19 else .inr e' := by
 unfold Ent.oneE
 split
 ·rfl
 ·have hat : (schE L).attr m.typ = (attrL L m.typ).map infoE := rfl
  rw [hat]
  rcases attrC_cases L m.typ with ⟨h1, h2⟩ | ⟨h1, a, h2, h3⟩
  ·rw [h1, h2]
   rfl
  ·rw [h2, h1, h3]
   rfl
theorem do_set {S : Ent.SchE} {perm : Bool} {op : Int} {e e' : Ent.EntryE} {t : LU} {vs : LL} (h : Ent.doE S perm op e t vs = .inr e') : ∃ l, e' = Ent.setE e t l := by
 unfold Ent.doE at h
 split at h
 ·unfold Ent.addE at h
  split at h
  ·cases h
  ·cases h; exact ⟨_, rfl⟩
 ·split at h
  ·unfold Ent.removeE at h
   split at h
   ·split at h
    ·cases h
    ·cases h; exact ⟨_, rfl⟩
   ·split at h
    ·cases h
    ·cases h; exact ⟨_, rfl⟩
  ·cases h; exact ⟨_, rfl⟩
theorem set_len (e : Ent.EntryE) (t : LU) (l : LL) : (Ent.setE e t l).attrs.length ≤ e.attrs.length + 1 := by
 rcases at_vals e t with ⟨h1, _⟩ | ⟨i, hi, h1, _⟩
 ·rw [set_none h1]
  split
  ·omega
  ·simp
 ·rw [set_some h1]
  split
  ·simp only [List.length_eraseIdx_of_lt hi]; omega
  ·simp
theorem do_code {S : Ent.SchE} {perm : Bool} {op : Int} {e : Ent.EntryE} {t : LU} {vs : LL} {c : Int} (h : Ent.doE S perm op e t vs = .inl c) : c ≠ 0 := by
 rintro rfl
 unfold Ent.doE at h
 split at h
 ·unfold Ent.addE at h
  split at h
  ·next c hc => cases h; exact Ent.add_code _ _ hc
  ·cases h
 ·split at h
  ·unfold Ent.removeE at h
   split at h
   ·split at h <;> cases h
   ·split at h
    ·next c hc => cases h; exact Ent.remove_code _ _ _ hc
    ·cases h
  ·cases h
theorem takenE_code {S : Ent.SchE} {perm : Bool} {t : LU} {vs : LL} {c : Int} (h : Ent.takenE S perm t vs = .inl c) : c ≠ 0 := by
 rintro rfl
 unfold Ent.takenE at h
 split at h
 ·exact Ent.taken_code _ _ _ h
 ·cases h
theorem do_c (op : Int) (hop : op = 0 ∨ op = 1 ∨ op = 2) (B s p : Nat) (ps : List Nat) (L : List DefS) (hL : Sound L) (t : LU) (perm : Bool) (e : Ent.EntryE) (w : World) (hw : Env w) (hS : SchAt w s ps L) (ht : t.length ≤ 1000000) (hE : EntAt B w p e) (hl : e.attrs.length ≤ 900) (hvl : (Ent.valuesE e t).length ≤ 1000) :
  ∃ f, doFn op (chgV s p t perm) = .func (.func f) #[chgV s p t perm] #[] ∧ (∀ (args : Array Value) (W : World), (callFunc f args).run Tryz.prog W = .ok (.enter f args) W) ∧ ∀ (vs : LL) (v : Value) (W : World), Below w.heap.size w W → Own 0 W v vs → vs.length ≤ 2000000 → Calls Tryz.prog f #[chgV s p t perm, v] W (ChgRet B p W (Ent.doE (schE L) perm op e t vs)) := by
 rcases hop with rfl | rfl | rfl
 ·exact ⟨96, rfl, fun _ _ => by kernel_rfl, fun vs v W h hO hn => add_c B s p ps L hL t perm e vs v W (hw.keep h) (hS.below h) ht (hE.below h) (by omega) hvl hO.textsA hn⟩
 ·exact ⟨97, rfl, fun _ _ => by kernel_rfl, fun vs v W h hO hn => remove_c B s p ps L hL t perm e vs v W (hw.keep h) (hS.below h) ht (hE.below h) (by omega) hvl hO.textsA hn⟩
 ·exact ⟨98, rfl, fun _ _ => by kernel_rfl, fun vs v W h hO hn => replace_c B s p (schE L) t perm e vs v W (hE.below h) (by omega) hO⟩
theorem taken_len {S : Ent.SchE} {perm : Bool} {t : LU} {vs us : LL} (h : Ent.takenE S perm t vs = .inr us) : us.length ≤ vs.length := by
 have aux : ∀ (vs seen out us : LL), Ent.takenF S perm t vs seen out = .inr us → us.length ≤ out.length + vs.length := by
  intro vs
  induction vs with
  | nil => intro seen out us h; cases h; simp
  | cons v vs ih =>
   intro seen out us h
   rw [Ent.takenF] at h
   split at h
   ·have := ih _ _ _ h
    simp only [List.length_append, List.length_cons, List.length_nil] at this ⊢
    omega
   ·split at h
    ·cases h
    ·have := ih _ _ _ h
     simp only [List.length_cons]
     omega
 unfold Ent.takenE at h
 split at h
 ·simpa using aux _ _ _ _ h
 ·cases h
theorem apply_c (B s p : Nat) (ps : List Nat) (L : List DefS) (hL : Sound L) (t : LU) (perm : Bool) (e : Ent.EntryE) (m : Ent.ModE) (vm : Value) (w : World) (hw : Env w) (hS : SchAt w s ps L) (hm : (attrO L m.typ).name = t) (hE : EntAt B w p e) (hl : e.attrs.length ≤ 900) (hvl : (Ent.valuesE e t).length ≤ 1000) (hmt : m.typ.length ≤ 140737488351232) (hu : TextsA w vm m.vals) (hul : m.vals.length ≤ 2000000) :
  Calls Tryz.prog 53 #[chgV s p t perm, .agg #[.int .i64 m.op, .string ⟨m.typ.toArray⟩, vm]] w (ChgRet B p w (Ent.oneE (schE L) perm e m)) := by
 have ht : t.length ≤ 1000000 := by rw [← hm]; exact attrO_len hL.lim _
 have HA : Hid (∀ (W : World), Below w.heap.size w W → Calls Tryz.prog 20 #[.pointer (some ⟨s, 0, none⟩), .string ⟨m.typ.toArray⟩] W fun e w' => Below W.heap.size W w' ∧ ∃ A n c, e = .returned (.tuple #[attrV (attrO L m.typ) (.slice A n c), .int .i64 (attrC L m.typ)])) := hiD fun W h => AttrU_c s ps L hL m.typ W (hS.below h) hmt
 have HTk : Hid (∀ (W : World), Below w.heap.size w W → Calls Tryz.prog 99 #[chgV s p t perm, vm] W (TakenRet W (Ent.takenE (schE L) perm t m.vals))) := hiD fun W h => taken_c s p ps L hL t perm m.vals vm W (hw.keep h) (hS.below h) ht (hu.below h) hul
 have HDo := hiD (fun hop => do_c m.op hop B s p ps L hL t perm e w hw hS ht hE hl hvl)
 have HVl : Hid (∀ (e' : Ent.EntryE) (W : World), EntAt B W p e' → e'.attrs.length ≤ 1000 → Calls Tryz.prog 100 #[chgV s p t perm] W fun r w' => Below W.heap.size W w' ∧ ∃ A c, r = .returned (.slice A (Ent.valuesE e' t).length c) ∧ TextsA w' (.slice A (Ent.valuesE e' t).length c) (Ent.valuesE e' t)) := hiD fun e' W h hl => values_c B s p t perm e' W h hl
 have hBw : B ≤ w.heap.size := by
  obtain ⟨_, _, _, _, _, _, hO, _⟩ := hE
  exact hO.2
 obtain ⟨R, hR⟩ : ∃ R, Ent.oneE (schE L) perm e m = R := ⟨_, rfl⟩
 have hR0 := one_eq L perm e m
 rw [hR, hm] at hR0
 rw [hR]
 clear hR
 have HTL : Hid (∀ vs, Ent.takenE (schE L) perm t m.vals = .inr vs → vs.length ≤ 2000000) := hiD fun vs h => Nat.le_trans (taken_len h) hul
 have HTC : Hid (∀ c, Ent.takenE (schE L) perm t m.vals = .inl c → c ≠ 0) := hiD fun c h => takenE_code h
 have HDC : Hid (∀ vs c, Ent.doE (schE L) perm m.op e t vs = .inl c → c ≠ 0) := hiD fun vs c h => do_code h
 have HDL : Hid (∀ vs e', Ent.doE (schE L) perm m.op e t vs = .inr e' → e'.attrs.length ≤ 1000) := hiD fun vs e' h => by
  obtain ⟨l, rfl⟩ := do_set h
  have := set_len e t l
  omega
 have hpw : p < w.heap.size := by
  obtain ⟨_, _, _, _, _, hP, _, _⟩ := hE
  exact hP.lt
 obtain ⟨Am, cm, rfl, hcm, _⟩ := hu.at
 obtain ⟨op, mt, mv⟩ := m
 simp only at *
 have hmm := @run_makeMap Tryz.prog
 have hmf : ∀ (fn : Fn) (first cap : Array Value) (w : World), (Instr.makeFunc fn first cap).run Tryz.prog w = .ok (.func fn first cap) w := fun _ _ _ _ => rfl
 have hg1 := (Below.refl w.heap.size w).alloc (Nat.le_refl _) (.cells #[.pointer (some ⟨s, 0, none⟩), .pointer (some ⟨p, 0, none⟩), .string ⟨t.toArray⟩, .bool perm] 97)
 have hg2 := hg1.alloc hg1.size (.cells #[.int .i64 op, .string ⟨mt.toArray⟩, .slice Am mv.length cm] 55)
 have hq1 : Bk ((w.alloc (.cells #[.pointer (some ⟨s, 0, none⟩), .pointer (some ⟨p, 0, none⟩), .string ⟨t.toArray⟩, .bool perm] 97)).alloc (.cells #[.int .i64 op, .string ⟨mt.toArray⟩, .slice Am mv.length cm] 55)) w.heap.size 97 #[.pointer (some ⟨s, 0, none⟩), .pointer (some ⟨p, 0, none⟩), .string ⟨t.toArray⟩, .bool perm] := (Bk.new w _ _).alloc _
 have hq2 : Bk ((w.alloc (.cells #[.pointer (some ⟨s, 0, none⟩), .pointer (some ⟨p, 0, none⟩), .string ⟨t.toArray⟩, .bool perm] 97)).alloc (.cells #[.int .i64 op, .string ⟨mt.toArray⟩, .slice Am mv.length cm] 55)) (w.heap.size + 1) 55 #[.int .i64 op, .string ⟨mt.toArray⟩, .slice Am mv.length cm] := by
  have := Bk.new (w.alloc (.cells #[.pointer (some ⟨s, 0, none⟩), .pointer (some ⟨p, 0, none⟩), .string ⟨t.toArray⟩, .bool perm] 97)) 55 #[.int .i64 op, .string ⟨mt.toArray⟩, .slice Am mv.length cm]
  rw [World.size_alloc] at this
  exact this
 obtain ⟨W1, W2, W3, u1, u2, u3, hlk, y1, y2, y3⟩ := do_map (chgV s p t perm) ((w.alloc (.cells #[.pointer (some ⟨s, 0, none⟩), .pointer (some ⟨p, 0, none⟩), .string ⟨t.toArray⟩, .bool perm] 97)).alloc (.cells #[.int .i64 op, .string ⟨mt.toArray⟩, .slice Am mv.length cm] 55))
 have hsz : ((w.alloc (.cells #[.pointer (some ⟨s, 0, none⟩), .pointer (some ⟨p, 0, none⟩), .string ⟨t.toArray⟩, .bool perm] 97)).alloc (.cells #[.int .i64 op, .string ⟨mt.toArray⟩, .slice Am mv.length cm] 55)).heap.size = w.heap.size + 1 + 1 := by rw [World.size_alloc, World.size_alloc]
 have hb3 : Below w.heap.size w W3 := by
  refine (hg2.alloc hg2.size (.map #[] 0)).grown y3 (by rw [World.size_alloc, World.size_alloc, World.size_alloc]; omega) ?_
  intro j hj
  cases hj
  rw [hsz]
  omega
 have x1 : ∀ {W : World}, (((w.alloc (.cells #[.pointer (some ⟨s, 0, none⟩), .pointer (some ⟨p, 0, none⟩), .string ⟨t.toArray⟩, .bool perm] 97)).alloc (.cells #[.int .i64 op, .string ⟨mt.toArray⟩, .slice Am mv.length cm] 55)).alloc (.map #[] 0)).grownBy W (some ((w.alloc (.cells #[.pointer (some ⟨s, 0, none⟩), .pointer (some ⟨p, 0, none⟩), .string ⟨t.toArray⟩, .bool perm] 97)).alloc (.cells #[.int .i64 op, .string ⟨mt.toArray⟩, .slice Am mv.length cm] 55)).heap.size) → Bk W w.heap.size 97 #[.pointer (some ⟨s, 0, none⟩), .pointer (some ⟨p, 0, none⟩), .string ⟨t.toArray⟩, .bool perm] := fun h => (hq1.alloc _).grown h (by rw [hsz]; intro e; have := Option.some.inj e; omega)
 have x2 := (hq2.alloc (.map #[] 0)).grown y3 (by rw [hsz]; intro e; have := Option.some.inj e; omega)
 have z0 := hq1.alloc (.map #[] 0)
 have z1 := x1 y1
 have z2 := x1 y2
 have z3 := x1 y3
 have b00 := z0.cell 0
 have b01 := z0.cell 1
 have b02 := z0.cell 2
 have b03 := z0.cell 3
 have b10 := z1.cell 0
 have b11 := z1.cell 1
 have b12 := z1.cell 2
 have b13 := z1.cell 3
 have b20 := z2.cell 0
 have b21 := z2.cell 1
 have b22 := z2.cell 2
 have b23 := z2.cell 3
 have b30 := z3.cell 0
 have b31 := z3.cell 1
 have b32 := z3.cell 2
 have b33 := z3.cell 3
 have d0 := x2.cell 0
 have d1 := x2.cell 1
 have d2 := x2.cell 2
 simp only [gs3] at b00 b01 b02 b03 b10 b11 b12 b13 b20 b21 b22 b23 b30 b31 b32 b33 d0 d1 d2
 have hln := hlk op
 rw [hsz] at u1 u2 u3 hln
 have Z3 := hiD z3
 have X2 := hiD x2
 clear hlk y1 y2 y3 x1 x2 z0 z1 z2 z3 hq1 hq2 hg1 hg2 hsz hw hS hE hu hm hmt
 obtain ⟨fv, hfv⟩ : ∃ fv, doFn op (chgV s p t perm) = fv := ⟨_, rfl⟩
 rw [hfv] at hln HDo
 unfold attrV attrCells at HA
 generalize attrO L mt = ad at *
 generalize attrC L mt = ac at *
 unfold chgV at *
 have HR := hiD hR0
 clear hR0
 have hA3 := HA.out W3 hb3
 go_enter Tryz.func53, Tryz.ntmps53
 go_upto_region 4 with (go_at_call 20; (with_reducible refine hA3.mono ?_); rintro r w5 ⟨hb5, A5, n5, c5, rfl⟩)
 have hbd := bel_one w5 (.cells (adC ad A5 n5 c5) 41)
 have hkd := Bk.new w5 41 (adC ad A5 n5 c5)
 have hb56 := hb5.trans (hbd.mono hb5.size)
 have hB6 := hb3.trans (hb56.mono hb3.size)
 have hZ6 := Z3.out.below hb56
 have hX6 := X2.out.below hb56
 have f9 := hkd.cell 9
 have g0 := hZ6.cell 0
 have g1 := hZ6.cell 1
 have g2 := hZ6.cell 2
 have g3 := hZ6.cell 3
 have m0 := hX6.cell 0
 have m2 := hX6.cell 2
 simp only [gs3] at f9 g0 g1 g2 g3 m0 m2
 generalize w5.alloc (.cells (adC ad A5 n5 c5) 41) = W6 at *
 generalize w5.heap.size = dp at *
 have HZ6 := hiD hZ6
 clear hbd hkd hb56 hb5 hZ6 hX6 Z3 X2 b00 b01 b02 b03 b10 b11 b12 b13 b20 b21 b22 b23 b30 b31 b32 b33 d0 d1 d2 hA3 HA u1 u2 u3 hln hb3 hmm hmf
 cases hop : (op == 0 || op == 1 || op == 2)
 ·have hR1 : Aside (R = .inl 2) := by have := HR.out; rw [hop] at this; exact this
  clear HR HDo HTk
  try simp only [hop]
  go_wp2_with fail
  go_ret
  rw [hR1.out]
  exact ⟨ChgB.below hBw hB6, rfl⟩
 have hR1 : R = if ac != 0 then .inl 17 else if ad.fixed then .inl 19 else if op == 0 && mv.isEmpty then .inl 2 else match Ent.takenE (schE L) perm t mv with
  | .inl c => .inl c
  | .inr vs => match Ent.doE (schE L) perm op e t vs with
   | .inl c => .inl c
   | .inr e' => if 200 < (Ent.valuesE e' t).length ∨ 100 < e'.attrs.length then .inl 19 else .inr e' := by have := HR.out; rw [hop] at this; exact this
 have hop3 : op = 0 ∨ op = 1 ∨ op = 2 := by
  simp only [Bool.or_eq_true, beq_iff_eq] at hop
  omega
 have HR1 := hiD hR1
 try simp only [hop]
 clear HR hR1 hop
 by_cases hac : ac = 0
 ·subst hac
  cases hfx : ad.fixed
  ·rw [hfx] at HR1 f9
   by_cases hop0 : op = 0 ∧ mv = []
   ·obtain ⟨rfl, rfl⟩ := hop0
    have hR2 : Aside (R = .inl 2) := (by have := HR1.out; simpa using this : R = .inl 2)
    simp only [List.length_nil] at m2 ⊢
    clear HR1 HDo HTk
    go_wp2_with fail
    go_ret
    rw [hR2.out]
    exact ⟨ChgB.below hBw hB6, rfl⟩
   ·have hR2 : R = match Ent.takenE (schE L) perm t mv with
     | .inl c => .inl c
     | .inr vs => match Ent.doE (schE L) perm op e t vs with
      | .inl c => .inl c
      | .inr e' => if 200 < (Ent.valuesE e' t).length ∨ 100 < e'.attrs.length then .inl 19 else .inr e' := by
     have h := HR1.out
     have hb : (op == 0 && mv.isEmpty) = false := by
      rw [Bool.eq_false_iff]
      intro hb
      simp only [Bool.and_eq_true, beq_iff_eq, List.isEmpty_iff] at hb
      exact hop0 hb
     rw [hb] at h
     exact h
    obtain ⟨f, rfl, hent, hdo⟩ := HDo.out hop3
    have HDD := hiD hdo
    have hTk := HTk.out W6 hB6
    have hz : op = 0 → ((mv.length : Int) == 0) = false := fun h => beq_eq_false_iff_ne.2 (fun hl => hop0 ⟨h, List.eq_nil_of_length_eq_zero (by omega)⟩)
    clear HR1 HDo HTk hdo hop0
    generalize hT : Ent.takenE (schE L) perm t mv = T at *
    unfold TakenRet at hTk
    cases T with
    | inl c =>
     simp only at hR2 hTk
     have hcb : (c != 0) = true := bne_iff_ne.2 (HTC.out c rfl)
     have HTk := hiD hTk
     clear hTk hT HTC HTL
     subst hR2
     rcases hop3 with rfl | rfl | rfl
     ·have hzz := hz rfl
      go_wp2_with (go_at_call 99; (with_reducible refine HTk.out.mono ?_); rintro r w7 ⟨hb7, rfl⟩)
      go_ret
      exact ⟨ChgB.below hBw (hB6.trans (hb7.mono hB6.size)), rfl⟩
     ·go_wp2_with (go_at_call 99; (with_reducible refine HTk.out.mono ?_); rintro r w7 ⟨hb7, rfl⟩)
      go_ret
      exact ⟨ChgB.below hBw (hB6.trans (hb7.mono hB6.size)), rfl⟩
     ·go_wp2_with (go_at_call 99; (with_reducible refine HTk.out.mono ?_); rintro r w7 ⟨hb7, rfl⟩)
      go_ret
      exact ⟨ChgB.below hBw (hB6.trans (hb7.mono hB6.size)), rfl⟩
    | inr vs =>
     simp only at hR2 hTk
     have hvsl := HTL.out vs rfl
     have HTk := hiD hTk
     have hdv := HDD.out vs
     have hdl := HDL.out vs
     have hdc := HDC.out vs
     clear hTk hT HTC HTL HDD HDL HDC
     generalize hD : Ent.doE (schE L) perm op e t vs = D at *
     unfold ChgRet at hdv
     cases D with
     | inl c =>
      simp only at hR2 hdv
      have hcb : (c != 0) = true := bne_iff_ne.2 (hdc c rfl)
      have HDv := hiD hdv
      clear hdv hdl hdc hD
      subst hR2
      rcases hop3 with rfl | rfl | rfl
      case' inl => have hzz := hz rfl
      all_goals
       go_wp2_with (first
        | (go_at_call 99; (with_reducible refine HTk.out.mono ?_); rintro r w7 ⟨hb7, A7, c7, rfl, hO7⟩; have hB7 := hB6.trans (hb7.mono hB6.size); have HDw := hiD (HDv.out _ _ hB7 (hO7.lower (Nat.zero_le _)) hvsl))
        | ((with_reducible refine HDw.out.mono ?_); rintro r w8 ⟨hc8, rfl⟩))
       go_ret
       exact ⟨(ChgB.below hBw hB7).trans hc8, rfl⟩
     | inr e' =>
      simp only at hR2 hdv
      have hel := hdl e' rfl
      have HDv := hiD hdv
      have HVe := hiD (fun W h => HVl.out e' W h hel)
      clear hdv hdl hdc hD HVl
      generalize (Ent.valuesE e' t) = vx at *
      have HRx := hiD hR2
      clear hR2
      have hpN : w.heap.size ≠ p := by omega
      by_cases h200 : 200 < vx.length
      ·have hR3 : Aside (R = .inl 19) := by have := HRx.out; rw [if_pos (.inl h200)] at this; exact this
       have h200' : (200 : Int) < (vx.length : Int) := by omega
       clear HRx
       rcases hop3 with rfl | rfl | rfl
       case' inl => have hzz := hz rfl
       all_goals
        go_wp2_with (first
         | (go_at_call 99; (with_reducible refine HTk.out.mono ?_); rintro r w7 ⟨hb7, A7, c7, rfl, hO7⟩; have hB7 := hB6.trans (hb7.mono hB6.size); have HDw := hiD (HDv.out _ _ hB7 (hO7.lower (Nat.zero_le _)) hvsl))
         | ((with_reducible refine HDw.out.mono ?_); rintro r w8 ⟨hc8, rfl, hE8⟩; have hZ8 := hc8.2 _ _ _ (HZ6.out.below hb7) hpN (by decide); have i0 := hZ8.cell 0; have i1 := hZ8.cell 1; have i2 := hZ8.cell 2; have i3 := hZ8.cell 3; simp only [gs3] at i0 i1 i2 i3; have HV8 := hiD (HVe.out _ hE8))
         | (go_at_call 100; (with_reducible refine HV8.out.mono ?_); rintro r w9 ⟨hb9, A9, c9, rfl, hT9⟩))
        go_ret
        rw [hR3.out]
        exact ⟨((ChgB.below hBw hB7).trans hc8).trans (ChgB.below (Nat.le_trans hBw (Nat.le_trans hB7.size hc8.1.size)) hb9), rfl⟩
      ·have h200' : ¬ ((200 : Int) < (vx.length : Int)) := by omega
       by_cases h100 : 100 < e'.attrs.length
       ·have hR3 : Aside (R = .inl 19) := by have := HRx.out; rw [if_pos (.inr h100)] at this; exact this
        have h100' : (100 : Int) < (e'.attrs.length : Int) := by omega
        clear HRx
        rcases hop3 with rfl | rfl | rfl
        case' inl => have hzz := hz rfl
        all_goals
         go_wp2_with (first
          | (go_at_call 99; (with_reducible refine HTk.out.mono ?_); rintro r w7 ⟨hb7, A7, c7, rfl, hO7⟩; have hB7 := hB6.trans (hb7.mono hB6.size); have HDw := hiD (HDv.out _ _ hB7 (hO7.lower (Nat.zero_le _)) hvsl))
          | ((with_reducible refine HDw.out.mono ?_); rintro r w8 ⟨hc8, rfl, hE8⟩; have hZ8 := hc8.2 _ _ _ (HZ6.out.below hb7) hpN (by decide); have i0 := hZ8.cell 0; have i1 := hZ8.cell 1; have i2 := hZ8.cell 2; have i3 := hZ8.cell 3; simp only [gs3] at i0 i1 i2 i3; have HV8 := hiD (HVe.out _ hE8))
          | (go_at_call 100; (with_reducible refine HV8.out.mono ?_); rintro r w9 ⟨hb9, A9, c9, rfl, hT9⟩; obtain ⟨A, c, qs, hq, hBp, hP, hO, hQ⟩ := hE8.below hb9; have j1 := (hZ8.below hb9).cell 1; have p1 := hP.cell 1; simp only [gs3] at j1 p1))
         go_ret
         rw [hR3.out]
         exact ⟨((ChgB.below hBw hB7).trans hc8).trans (ChgB.below (Nat.le_trans hBw (Nat.le_trans hB7.size hc8.1.size)) hb9), rfl⟩
       ·have hR3 : Aside (R = .inr e') := by have := HRx.out; rw [if_neg (fun h => h.elim h200 h100)] at this; exact this
        have h100' : ¬ ((100 : Int) < (e'.attrs.length : Int)) := by omega
        clear HRx
        rcases hop3 with rfl | rfl | rfl
        case' inl => have hzz := hz rfl
        all_goals
         go_wp2_with (first
          | (go_at_call 99; (with_reducible refine HTk.out.mono ?_); rintro r w7 ⟨hb7, A7, c7, rfl, hO7⟩; have hB7 := hB6.trans (hb7.mono hB6.size); have HDw := hiD (HDv.out _ _ hB7 (hO7.lower (Nat.zero_le _)) hvsl))
          | ((with_reducible refine HDw.out.mono ?_); rintro r w8 ⟨hc8, rfl, hE8⟩; have hZ8 := hc8.2 _ _ _ (HZ6.out.below hb7) hpN (by decide); have i0 := hZ8.cell 0; have i1 := hZ8.cell 1; have i2 := hZ8.cell 2; have i3 := hZ8.cell 3; simp only [gs3] at i0 i1 i2 i3; have HV8 := hiD (HVe.out _ hE8))
          | (go_at_call 100; (with_reducible refine HV8.out.mono ?_); rintro r w9 ⟨hb9, A9, c9, rfl, hT9⟩; have hE9 := hE8.below hb9; obtain ⟨A, c, qs, hq, hBp, hP, hO, hQ⟩ := id hE9; have j1 := (hZ8.below hb9).cell 1; have p1 := hP.cell 1; simp only [gs3] at j1 p1))
         go_ret
         rw [hR3.out]
         exact ⟨((ChgB.below hBw hB7).trans hc8).trans (ChgB.below (Nat.le_trans hBw (Nat.le_trans hB7.size hc8.1.size)) hb9), rfl, hE9⟩
  ·have hR2 : Aside (R = .inl 19) := by have := HR1.out; rw [hfx] at this; exact this
   rw [hfx] at f9
   clear HR1 HDo HTk
   go_wp2_with fail
   go_ret
   rw [hR2.out]
   exact ⟨ChgB.below hBw hB6, rfl⟩
 ·have hcb : (ac != 0) = true := bne_iff_ne.2 hac
  have hR2 : Aside (R = .inl 17) := by have := HR1.out; rw [hcb] at this; exact this
  clear HR1 HDo HTk
  go_wp2_with fail
  go_ret
  rw [hR2.out]
  exact ⟨ChgB.below hBw hB6, rfl⟩
end Go.Proofs.YtkkbbhlihilnpaaGreatDoor
