import Derived.Test.YtkkbbhlihilnpaaGreatDoorWr2
set_option linter.all false
set_option maxHeartbeats 8000000
set_option maxRecDepth 100000
namespace Go.Proofs.YtkkbbhlihilnpaaGreatDoor
open Go.RowKit
abbrev adC (ad : AttrS) (A : Option Addr) (n c : Nat) : Array Value := #[.string ⟨ad.oid.toArray⟩, .string ⟨ad.name.toArray⟩, .string ⟨ad.sup.toArray⟩, .slice A n c, .string ⟨ad.form.toArray⟩, .string ⟨ad.eqr.toArray⟩, .string ⟨ad.ordr.toArray⟩, .string ⟨ad.subs.toArray⟩, .bool ad.single, .bool ad.fixed, .bool ad.oper]
abbrev adK (ad : AttrS) (A : Option Addr) (n c : Nat) (b d : Bool) : Array Value := #[.string ⟨ad.oid.toArray⟩, .string ⟨ad.name.toArray⟩, .string ⟨ad.sup.toArray⟩, .slice A n c, .string ⟨ad.form.toArray⟩, .string ⟨ad.eqr.toArray⟩, .string ⟨ad.ordr.toArray⟩, .string ⟨ad.subs.toArray⟩, .bool b, .bool ad.fixed, .bool d]
def attrO (L : List DefS) (t : LU) : AttrS := (attrL L t).getD noAttr
def attrC (L : List DefS) (t : LU) : Int := if (attrL L t).isSome then 0 else 52
theorem attrO_name (L : List DefS) (t : LU) : (attrO L t).name = Ent.nameE (schE L) t := by
 unfold attrO Ent.nameE schE
 simp only
 cases attrL L t <;> rfl
theorem AttrU_c (s : Nat) (ps : List Nat) (L : List DefS) (hL : Sound L) (t : LU) (w : World) (hS : SchAt w s ps L) (ht : t.length ≤ 140737488351232) :
  Calls Tryz.prog 20 #[.pointer (some ⟨s, 0, none⟩), .string ⟨t.toArray⟩] w fun e w' => Below w.heap.size w w' ∧ ∃ A n c, e = .returned (.tuple #[attrV (attrO L t) (.slice A n c), .int .i64 (attrC L t)]) := by
 unfold attrO attrC
 cases hf : findD L false t with
 | none =>
  have ha : attrL L t = none := by unfold attrL; rw [hf]
  rw [ha]
  refine (Attr_noneW s ps L t w hS ht hf).mono ?_
  rintro e w' ⟨h1, h2⟩
  exact ⟨h1, none, 0, 0, h2⟩
 | some j =>
  obtain ⟨a, ha⟩ := hL.counts t j hf
  have ha2 : attrL L t = some a := by unfold attrL; rw [hf]; exact ha
  rw [ha2]
  refine (Attr_someW s ps L hL.lim t j a w hS ht hf ha).mono ?_
  rintro e w' ⟨h1, nv, rfl, h2⟩
  obtain ⟨A, c, rfl, _⟩ := h2.isSlice
  exact ⟨h1, A, _, c, rfl⟩
def nmV (k : LU × LU) : Value := .agg #[.string ⟨k.1.toArray⟩, .string ⟨k.2.toArray⟩]
theorem eq_nmV (W : World) (a b : LU × LU) : (Op.equal 133 (nmV a) (nmV b)).run Tryz.prog W = .ok (decide (a = b)) W := by
 obtain ⟨p, a⟩ := a
 obtain ⟨q, b⟩ := b
 have u9 := Tryz.underlying9
 have a9 := Tryz.isAgg9
 have z9 := Tryz.sizeOf9
 have hS : Tryz.prog.underlying 133 = some (.struct (Tryz.prog.fieldsOf 133)) := by kernel_rfl
 have hp : Tryz.prog.stoodInHeld 133 = false := by kernel_rfl
 unfold Op.equal Op.maxDepth nmV
 rw [run_equalIn_agg W 9999 133 _ _ hS hp]
 simp only [Program.fieldsOf, Tryz.underlying133]
 go_simp
 by_cases h1 : a = b <;> by_cases h2 : p = q <;> simp [h1, h2]
theorem check_nmV (b : Bool) (w : World) (k : LU × LU) : (Instr.checkKey b 10000 133 (nmV k)).run Tryz.prog w = .ok () w := by
 unfold nmV
 kernel_rfl
theorem finds_nmV : Finds Tryz.prog 133 nmV := finds_asking Tryz.underlying133 (fun a b => by simp [Instr.sameNow]) eq_nmV
def SetN (w : World) (m : Nat) (xs : List (LU × LU)) : Prop := ∃ es c, w.heap[m]? = some (.map es c) ∧ MapR nmV es (xs.map fun x => (x, Value.agg #[]))
theorem SetN.lt {w : World} {m : Nat} {xs : List (LU × LU)} (h : SetN w m xs) : m < w.heap.size := by
 obtain ⟨es, c, h1, _⟩ := h
 exact (Array.getElem?_eq_some_iff.1 h1).1
theorem SetN.below {w w' : World} {m : Nat} {xs : List (LU × LU)} (h : SetN w m xs) (hb : Below w.heap.size w w') : SetN w' m xs := by
 have hl := h.lt
 obtain ⟨es, c, h1, h2⟩ := h
 exact ⟨es, c, (hb.block m hl).trans h1, h2⟩
theorem SetN.made (w : World) : SetN (w.alloc (.map #[] 0)) w.heap.size [] := ⟨#[], 0, heap_alloc_new w _, rfl⟩
theorem setN_ask {w : World} {m : Nat} {xs : List (LU × LU)} (h : SetN w m xs) (a b : LU) :
  (Instr.lookup 131 (.map (some m)) (.agg #[.string ⟨a.toArray⟩, .string ⟨b.toArray⟩]) true).run Tryz.prog w = .ok (.tuple #[.agg #[], .bool (xs.contains (a, b))]) w := by
 obtain ⟨es, c, h1, h2⟩ := h
 have hz : ∀ w, (zeroValue 72).run Tryz.prog w = .ok (.agg #[]) w := fun w => by kernel_rfl
 have := map_look2 Tryz.underlying131 finds_nmV check_nmV hz w m c es _ h1 h2 (a, b)
 rw [look_map] at this
 unfold nmV at this
 rw [this]
 by_cases hx : (a, b) ∈ xs
 ·rw [if_pos hx, List.contains_iff_mem.2 hx]; rfl
 ·have : xs.contains (a, b) = false := by
   cases hc : xs.contains (a, b) with
   | false => rfl
   | true => exact absurd (List.contains_iff_mem.1 hc) hx
  rw [if_neg hx, this]; rfl
theorem setN_put {w : World} {m : Nat} {xs : List (LU × LU)} (h : SetN w m xs) (a b : LU) (hn : (a, b) ∉ xs) :
  ∃ W, (Instr.mapUpdate 131 (.map (some m)) (.agg #[.string ⟨a.toArray⟩, .string ⟨b.toArray⟩]) (.agg #[])).run Tryz.prog w = .ok () W ∧ SetN W m (xs ++ [(a, b)]) ∧ w.grownBy W (some m) := by
 obtain ⟨es, c, h1, h2⟩ := h
 have hl : look (xs.map fun x => (x, Value.agg #[])) (a, b) = none := by
  rw [look_map, if_neg hn]
 have hu := map_put Tryz.underlying131 finds_nmV check_nmV w m c es _ h1 h2 (a, b) (.agg #[]) hl
 refine ⟨_, hu, ⟨_, _, setMap_heap (Array.getElem?_eq_some_iff.1 h1).1, ?_⟩, setMap_grown _ _ _ _⟩
 have := h2.push (a, b) (.agg #[]) c
 rw [List.map_append]
 exact this
theorem forms2_c (s : Nat) (ps : List Nat) (L : List DefS) (hL : Sound L) (t : LU) (vs : LL) (v : Value) (w : World) (hw : Env w) (hS : SchAt w s ps L) (ht : t.length ≤ 1000000) (hv : TextsA w v vs) (hl : vs.length ≤ 1000000) :
  Calls Tryz.prog 73 #[.pointer (some ⟨s, 0, none⟩), .string ⟨t.toArray⟩, v] w fun e w' => Below w.heap.size w w' ∧ ∃ A c, e = .returned (.tuple #[.slice A ((Ent.formsE (schE L) t vs).getD []).length c, .bool (Ent.formsE (schE L) t vs).isSome]) ∧ TextsA w' (.slice A ((Ent.formsE (schE L) t vs).getD []).length c) ((Ent.formsE (schE L) t vs).getD []) := by
 refine (forms_c s ps L hL t vs v w hw hS ht hv (Nat.le_trans hl (by decide))).mono ?_
 rintro e w' ⟨h1, h2⟩
 cases ho : Ent.formsE (schE L) t vs with
 | none =>
  rw [ho] at h2
  exact ⟨h1, none, 0, h2, .inl ⟨rfl, rfl⟩⟩
 | some l =>
  rw [ho] at h2
  obtain ⟨v', rfl, hO⟩ := h2
  obtain ⟨A, c, rfl, _⟩ := hO.isSlice
  exact ⟨h1, A, c, rfl, hO.textsA⟩
theorem forms_len {S : Ent.SchE} {t : LU} {vs : LL} : ((Ent.formsE S t vs).getD []).length ≤ vs.length := by
 unfold Ent.formsE
 split <;> simp
theorem parse_no {x : LU} (h : (parseL x).1 ≠ 0) : (parseL x).2 = [] := by
 unfold parseL at h ⊢
 split
 ·rfl
 ·next hx =>
  rw [if_neg hx] at h
  split
  ·rfl
  ·next d hd =>
   rw [hd] at h
   simp only at h
   split
   ·rfl
   ·next ht =>
    rw [if_neg ht] at h
    exact absurd rfl h
theorem first_head (L : List DefS) (x : LU) : (schE L).first x = (parseL x).2.head? := by
 show (if (parseL x).1 = 0 then (parseL x).2.head? else none) = _
 split
 ·rfl
 ·next h => rw [parse_no h]; rfl
theorem have_take (S : Ent.SchE) (dn : LU) (l : List Ent.AttrE) (k : Nat) (h : k < l.length) : Ent.haveE S ⟨dn, l.take (k + 1)⟩ = Ent.haveE S ⟨dn, l.take k⟩ ++ ((Ent.formsE S l[k].typ l[k].vals).getD []).map fun n => (l[k].typ, n) := by
 unfold Ent.haveE
 simp only
 rw [List.take_succ_eq_append_getElem h, List.flatMap_append, List.flatMap_cons, List.flatMap_nil, List.append_nil]
theorem have_all (S : Ent.SchE) (dn : LU) (l : List Ent.AttrE) (k : Nat) : ∃ rest, Ent.haveE S ⟨dn, l⟩ = Ent.haveE S ⟨dn, l.take k⟩ ++ rest := by
 refine ⟨Ent.haveE S ⟨dn, l.drop k⟩, ?_⟩
 unfold Ent.haveE
 simp only
 rw [← List.flatMap_append, List.take_append_drop]
theorem rdn_sizes {x : LU} : (∀ p ∈ (parseL x).2, p ≠ [] ∧ p.length ≤ 4 ∧ ∀ y ∈ p, y.1.length ≤ 64 ∧ y.2.length ≤ 1024) ∧ (parseL x).2.length ≤ 20 := by
 by_cases h0 : (parseL x).1 = 0
 ·have hp : parseL x = (0, (parseL x).2) := by rw [← h0]
  have htl := parse_fits hp
  have hne := parseL_ne (s := x)
  have hty := parse_type (s := x)
  refine ⟨fun p hp => ⟨hne p hp, ?_⟩, by unfold tooLongL at htl; simp at htl; omega⟩
  unfold tooLongL at htl
  rw [Bool.or_eq_false_iff] at htl
  have h1 := List.any_eq_false.1 htl.2 p hp
  unfold rdnLongB at h1
  simp only [Bool.or_eq_true, decide_eq_true_eq, not_or] at h1
  refine ⟨by omega, fun x hx => ?_⟩
  have h2 : p.any avaLongB = false := by simpa using h1.2
  have h3 := List.any_eq_false.1 h2 x hx
  unfold avaLongB at h3
  simp at h3
  refine ⟨?_, h3⟩
  have h4 := hty p hp x hx
  unfold isTypeL at h4
  split at h4
  ·simp at h4
  ·next e => rw [e]; simp only [Bool.and_eq_true, decide_eq_true_eq] at h4; exact h4.1
 ·rw [parse_no h0]
  exact ⟨fun p hp => (by cases hp), by simp⟩
theorem rdn_at {w : World} {A : Option Addr} {n c : Nat} {p : List (LU × LU)} (h : RdnR w (.slice A n c) p) : n = p.length ∧ p.length ≤ c ∧ ∀ j (hj : j < p.length), ∃ g o, A = some ⟨g, o, none⟩ ∧ w.cell? ⟨g, o + j * 2, none⟩ = some (.string ⟨p[j].1.toArray⟩) ∧ w.cell? ⟨g, o + j * 2 + 1, none⟩ = some (.string ⟨p[j].2.toArray⟩) := by
 obtain ⟨A', c', hsl, hc, h⟩ := h
 cases hsl
 refine ⟨rfl, hc, fun j hj => ?_⟩
 rcases h with rfl | ⟨g, o, rfl, hg, hx⟩
 ·simp at hj
 ·obtain ⟨h1, h2⟩ := hx j _ (List.getElem?_eq_getElem hj)
  exact ⟨g, o, rfl, by rw [Nat.mul_comm j 2]; exact h1, by rw [Nat.mul_comm j 2]; exact h2⟩
theorem dn_first {w : World} {A : Option Addr} {n c : Nat} {p : List (LU × LU)} {d : List (List (LU × LU))} (h : DnR w (.slice A n c) (p :: d)) : n = d.length + 1 ∧ d.length + 1 ≤ c ∧ ∃ g o, A = some ⟨g, o, none⟩ ∧ ∃ B m k, w.cell? ⟨g, o, none⟩ = some (.slice B m k) ∧ RdnR w (.slice B m k) p := by
 obtain ⟨A', c', hsl, hc, h⟩ := h
 cases hsl
 refine ⟨rfl, hc, ?_⟩
 rcases h with h | ⟨g, o, rfl, hg, hx⟩
 ·cases h
 ·obtain ⟨pv, h1, h2⟩ := hx 0 p rfl
  obtain ⟨B, k, rfl, _⟩ := id h2
  exact ⟨g, o, rfl, B, _, k, by simpa using h1, h2⟩
theorem cell_map_ne {w : World} {m c : Nat} {es : Array MapEntry} (hm : w.heap[m]? = some (.map es c)) {p : Addr} {v : Value} (hc : w.cell? p = some v) : p.block ≠ m := by
 intro h
 unfold World.cell? at hc
 rw [h, hm] at hc
 simp at hc
theorem grown_cell {w w' : World} {m : Nat} {xs : List (LU × LU)} (hs : SetN w m xs) (hg : w.grownBy w' (some m)) {p : Addr} {v : Value} (hc : w.cell? p = some v) : w'.cell? p = some v := by
 obtain ⟨es, c, hm, _⟩ := hs
 rw [World.cell?_of_block (w := w) (w' := w') (a := p) (hg.block p.block (cell_lt hc) (by intro e; exact cell_map_ne hm hc (Option.some.inj e)))]
 exact hc
theorem nodup_next {α β : Type} {X : List α} {f : β → α} {l : List β} (h : (X ++ l.map f).Nodup) {j : Nat} (hj : j < l.length) : f l[j] ∉ X ++ (l.take j).map f := by
 have e : X ++ l.map f = (X ++ (l.take j).map f) ++ f l[j] :: (l.drop (j + 1)).map f := by
  conv => lhs; rw [← List.take_append_drop j l, List.drop_eq_getElem_cons hj]
  rw [List.map_append, List.map_cons, List.append_assoc]
 rw [e, List.nodup_append] at h
 intro hm
 exact h.2.2 _ hm _ (List.mem_cons_self ..) rfl
theorem own_no (s : Nat) (dn : LU) (va : Value) (w : World) (hw : Env w) (hva : va.oneCell' = true) (hd : (parseL dn).2 = []) :
  Calls Tryz.prog 37 #[.pointer (some ⟨s, 0, none⟩), .agg #[.string ⟨dn.toArray⟩, va]] w fun e w' => e = .returned (.bool false) ∧ Below w.heap.size w w' := by
 have hb0 : Below w.heap.size w (w.alloc (.cells #[.string ⟨dn.toArray⟩, va] 37)) := (Below.refl _ _).alloc (Nat.le_refl _) _
 have hP := Parse_c dn _ (hw.keep hb0)
 unfold ParseRet at hP
 rw [hd] at hP
 have HP : Hid (Calls Tryz.prog 70 #[.string ⟨dn.toArray⟩] (w.alloc (.cells #[.string ⟨dn.toArray⟩, va] 37)) fun e w' => ∃ (A : Option Addr) (c : Nat) (k : Int), e = .returned (.tuple #[.slice A 0 c, .int .i64 k]) ∧ Below (w.alloc (.cells #[.string ⟨dn.toArray⟩, va] 37)).heap.size (w.alloc (.cells #[.string ⟨dn.toArray⟩, va] 37)) w') := hiD (hP.mono (by
  rintro e w' ⟨h1, v, rfl, h2⟩
  obtain ⟨A, c, rfl, _⟩ := h2.isSlice
  exact ⟨A, c, _, rfl, h1⟩))
 clear hP hw
 go_enter Tryz.func37, Tryz.ntmps37
 go_wp2_with (go_at_call 70; (with_reducible refine HP.out.mono ?_); rintro e w1 ⟨A, c, k, rfl, hb1⟩)
 go_ret
 exact ⟨rfl, hb0.trans (hb1.mono hb0.size)⟩
theorem own_yes (s : Nat) (ps : List Nat) (L : List DefS) (hL : Sound L) (dn : LU) (attrs : List Ent.AttrE) (va : Value) (w : World) (hw : Env w) (hS : SchAt w s ps L) (hv : AttrsA w va attrs) (hl : attrs.length ≤ 1000) (hlt : ∀ a ∈ attrs, a.typ.length ≤ 1000000 ∧ a.vals.length ≤ 1000000) (hnd : (Ent.haveE (schE L) ⟨dn, attrs⟩).Nodup) (p0 : List (LU × LU)) (d0 : List (List (LU × LU))) (hd : (parseL dn).2 = p0 :: d0) :
  Calls Tryz.prog 37 #[.pointer (some ⟨s, 0, none⟩), .agg #[.string ⟨dn.toArray⟩, va]] w fun e w' => e = .returned (.bool (Ent.ownE (schE L) ⟨dn, attrs⟩)) ∧ Below w.heap.size w w' := by
 obtain ⟨A, c, rfl, hc, hcell⟩ := hv.at
 have hb0 : Below w.heap.size w (w.alloc (.cells #[.string ⟨dn.toArray⟩, .slice A attrs.length c] 37)) := (Below.refl _ _).alloc (Nat.le_refl _) _
 have hk0 : Bk (w.alloc (.cells #[.string ⟨dn.toArray⟩, .slice A attrs.length c] 37)) w.heap.size 37 #[.string ⟨dn.toArray⟩, .slice A attrs.length c] := Bk.new w _ _
 have hP := Parse_c dn _ (hw.keep hb0)
 have hsz := (rdn_sizes (x := dn)).1
 unfold ParseRet at hP
 rw [hd] at hP hsz
 have hp0 := hsz p0 (List.mem_cons_self ..)
 have HP : Hid (Calls Tryz.prog 70 #[.string ⟨dn.toArray⟩] (w.alloc (.cells #[.string ⟨dn.toArray⟩, .slice A attrs.length c] 37)) fun e w' => ∃ (g o n k2 : Nat) (B : Option Addr) (m q : Nat) (k : Int), e = .returned (.tuple #[.slice (some ⟨g, o, none⟩) (n + 1) k2, .int .i64 k]) ∧ n + 1 ≤ k2 ∧ w'.cell? ⟨g, o, none⟩ = some (.slice B m q) ∧ RdnR w' (.slice B m q) p0 ∧ Below (w.alloc (.cells #[.string ⟨dn.toArray⟩, .slice A attrs.length c] 37)).heap.size (w.alloc (.cells #[.string ⟨dn.toArray⟩, .slice A attrs.length c] 37)) w') := hiD (hP.mono (by
  rintro e w' ⟨h1, v, rfl, h2⟩
  obtain ⟨A', c', rfl, _⟩ := h2.isSlice
  obtain ⟨e1, e2, g, o, rfl, B, m, q, h3, h4⟩ := dn_first h2.reads
  exact ⟨g, o, d0.length, c', B, m, q, _, rfl, e2, h3, h4, h1⟩))
 obtain ⟨R, hR⟩ : ∃ R, Ent.ownE (schE L) ⟨dn, attrs⟩ = R := ⟨_, rfl⟩
 have hR0 : (p0.all fun p => (Ent.haveE (schE L) ⟨dn, attrs⟩).contains (Ent.nameE (schE L) p.1, Ent.normF (schE L) p.1 p.2)) = R := by
  rw [← hR]
  unfold Ent.ownE
  simp only [first_head, hd]
  rfl
 rw [hR]
 have HF : Hid (∀ k (hk : k < attrs.length), ∀ (v : Value) (W : World), Below w.heap.size w W → TextsA W v attrs[k].vals → Calls Tryz.prog 73 #[.pointer (some ⟨s, 0, none⟩), .string ⟨attrs[k].typ.toArray⟩, v] W fun e w' => Below W.heap.size W w' ∧ ∃ A c, e = .returned (.tuple #[.slice A ((Ent.formsE (schE L) attrs[k].typ attrs[k].vals).getD []).length c, .bool (Ent.formsE (schE L) attrs[k].typ attrs[k].vals).isSome]) ∧ TextsA w' (.slice A ((Ent.formsE (schE L) attrs[k].typ attrs[k].vals).getD []).length c) ((Ent.formsE (schE L) attrs[k].typ attrs[k].vals).getD [])) := hiD fun k hk v W h ht => forms2_c s ps L hL _ _ v W (hw.keep h) (hS.below h) (hlt _ (List.getElem_mem hk)).1 ht (hlt _ (List.getElem_mem hk)).2
 have HA : Hid (∀ (t : LU) (W : World), Below w.heap.size w W → t.length ≤ 64 → Calls Tryz.prog 20 #[.pointer (some ⟨s, 0, none⟩), .string ⟨t.toArray⟩] W fun e w' => Below W.heap.size W w' ∧ ∃ A n c, e = .returned (.tuple #[attrV (attrO L t) (.slice A n c), .int .i64 (attrC L t)])) := hiD fun t W h ht => AttrU_c s ps L hL t W (hS.below h) (by omega)
 have HN : Hid (∀ (t x : LU) (W : World), Below w.heap.size w W → t.length ≤ 64 → Calls Tryz.prog 21 #[.pointer (some ⟨s, 0, none⟩), .string ⟨t.toArray⟩, .string ⟨x.toArray⟩] W fun e w' => e = .returned (.tuple #[.string ⟨(normTy L t x).2.toArray⟩, .int .i64 (normTy L t x).1]) ∧ Below W.heap.size W w') := hiD fun t x W h ht => NormTy_c s ps L hL.lim hL.rul hL.counts t x W (hw.keep h) (hS.below h) (by omega)
 have HV := hiD hcell
 have HR := hiD hR0
 have HND := hiD hnd
 have HSZ := hiD hp0
 have HLT := hiD hlt
 have hadd := add_at2
 have hmm := @run_makeMap Tryz.prog
 clear hv hcell hS hw hL hR hR0 hnd hP hsz hd hp0 hlt
 go_enter Tryz.func37, Tryz.ntmps37
 go_wp2_with (go_at_call 70; (with_reducible refine HP.out.mono ?_); rintro e w1 ⟨g, o, n, k2, B, m, q, k, rfl, hnk, hpc, hpr, hb1⟩; have hB1 := hb0.trans (hb1.mono hb0.size); have hk1 := hk0.below hb1; have e1 : (w1.alloc (.map #[] 0)).cell? ⟨w.heap.size, 1, none⟩ = some (.slice A attrs.length c) := (hk1.alloc (.map #[] 0)).cell 1; have hb2 : Below w1.heap.size w1 (w1.alloc (.map #[] 0)) := (Below.refl _ _).alloc (Nat.le_refl _) _; have hB2 := hB1.trans (hb2.mono hB1.size); have hs2 := SetN.made w1)
 have HPC := hiD hpc
 have HPR := hiD hpr
 go_loopg [35] attrs.length (fun gk i wr => ∃ k : Nat, k ≤ attrs.length ∧ i = .int .i64 k ∧ Aside (k + gk = attrs.length) ∧ Aside (Below w1.heap.size w1 wr ∧ SetN wr w1.heap.size (Ent.haveE (schE L) ⟨dn, attrs.take k⟩)))
 case atStart => exact ⟨0, by omega, rfl, by show _ = _; omega, ⟨hb2, by simpa [Ent.haveE] using hs2⟩⟩
 case round =>
  clear hb2 hB2 hs2
  obtain ⟨k, hk, rfl, AG, AB⟩ := hrel
  obtain ⟨wo, hwo⟩ : ∃ wo, wo = wr := ⟨_, rfl⟩
  subst hwo
  by_cases hlt : k < attrs.length
  ·obtain ⟨qg, rfl⟩ : ∃ q, gk = q + 1 := ⟨gk - 1, by have := AG.out; omega⟩
   obtain ⟨b, oa, vx, rfl, c0, c1, hta⟩ := HV.out k hlt
   have hBo := hB1.trans (AB.out.1.mono hB1.size)
   have q0 := (hBo.cell (cell_lt c0)).trans c0
   have q1 := (hBo.cell (cell_lt c1)).trans c1
   obtain ⟨Av, nv, cv, rfl⟩ : ∃ A n c, vx = .slice A n c := by
    obtain ⟨A, c, h, _⟩ := hta.at
    exact ⟨A, _, c, h⟩
   have HF1 := hiD (HF.out k hlt (.slice Av nv cv))
   have hlv := (HLT.out _ (List.getElem_mem hlt)).2
   have htk := have_take (schE L) dn attrs k hlt
   obtain ⟨rest, hall⟩ := have_all (schE L) dn attrs (k + 1)
   have hnd : (Ent.haveE (schE L) ⟨dn, attrs.take k⟩ ++ ((Ent.formsE (schE L) attrs[k].typ attrs[k].vals).getD []).map fun n => (attrs[k].typ, n)).Nodup := by
    have := HND.out
    rw [hall, htk] at this
    exact (List.nodup_append.1 this).1
   have HT := hiD htk
   have hfl := forms_len (S := schE L) (t := attrs[k].typ) (vs := attrs[k].vals)
   clear c0 c1 hall htk
   generalize attrs[k] = x at *
   obtain ⟨typ, vals⟩ := x
   simp only at q0 hta HF1 hnd HT hlv hfl
   generalize (Ent.formsE (schE L) typ vals).getD [] = l at *
   generalize (Ent.formsE (schE L) typ vals).isSome = ob at *
   have hbx : Below wo.heap.size wo (wo.alloc (.cells #[.string ⟨typ.toArray⟩, .slice Av nv cv] 46)) := (Below.refl _ _).alloc (Nat.le_refl _) _
   have hBx := hBo.trans (hbx.mono hBo.size)
   have hkx : Bk (wo.alloc (.cells #[.string ⟨typ.toArray⟩, .slice Av nv cv] 46)) wo.heap.size 46 #[.string ⟨typ.toArray⟩, .slice Av nv cv] := Bk.new wo _ _
   have HF2 := hiD (HF1.out _ hBx (hta.below hBx))
   have hs1 := AB.out.2.below hbx
   have hB1x := AB.out.1.trans (hbx.mono AB.out.1.size)
   clear hta HF1
   go_wp2_with (go_at_call 73; (with_reducible refine HF2.out.mono ?_); rintro e w3 ⟨hb3, Af, cf, rfl, hTf⟩)
   obtain ⟨Af', cf', hsl, hcf, hfc⟩ := hTf.at
   cases hsl
   have HFC := hiD hfc
   have hk3 := hkx.below hb3
   have hs3 := hs1.below hb3
   have hB3 := hB1x.trans (hb3.mono hB1x.size)
   clear hfc hTf
   go_loopg [50] l.length (fun gk i wr => ∃ j : Nat, j ≤ l.length ∧ i = .int .i64 j ∧ Aside (j + gk = l.length) ∧ Aside (w3.heap.size ≤ wr.heap.size ∧ w3.grownBy wr (some w1.heap.size) ∧ SetN wr w1.heap.size (Ent.haveE (schE L) ⟨dn, attrs.take k⟩ ++ (l.take j).map fun n => (typ, n))))
   case atStart => exact ⟨0, by omega, rfl, by show _ = _; omega, ⟨Nat.le_refl _, World.grownBy.refl _ _, by simpa using hs3⟩⟩
   case round =>
    obtain ⟨j, hj, rfl, AG2, AC⟩ := hrel
    have hgw := AC.out.2.1
    have hne : wo.heap.size ≠ w1.heap.size := by
     have := AB.out.2.lt
     omega
    have hkr := hk3.grown hgw (by intro h; exact hne (Option.some.inj h))
    have e0 : wr.cell? ⟨wo.heap.size, 0, none⟩ = some (.string ⟨typ.toArray⟩) := hkr.cell 0
    by_cases hjl : j < l.length
    ·obtain ⟨q2, rfl⟩ : ∃ q, gk = q + 1 := ⟨gk - 1, by have := AG2.out; omega⟩
     obtain ⟨fa, rfl, f0⟩ := HFC.out j hjl
     have f0r := grown_cell hs3 hgw f0
     obtain ⟨W1, hup, hs4, hg4⟩ := setN_put AC.out.2.2 typ l[j] (nodup_next hnd hjl)
     have hg5 := World.grownBy.trans hgw hg4
     have hsz4 := Nat.le_trans AC.out.1 hg4.size
     have hs5 : SetN W1 w1.heap.size (Ent.haveE (schE L) ⟨dn, attrs.take k⟩ ++ (l.take (j + 1)).map fun n => (typ, n)) := by
      rw [List.take_succ_eq_append_getElem hjl, List.map_append, ← List.append_assoc]
      exact hs4
     have HS5 := hiD hs5
     clear hs4 hs5 f0
     generalize l[j] = y at *
     go_wp2_with fail
     go_roundg q2
     case measure => omega
     case rel => exact ⟨j + 1, by omega, by go_num, by have := AG2.out; show _ = _; omega, ⟨hsz4, hg5, HS5.out⟩⟩
    ·obtain rfl : j = l.length := by omega
     have hBw := hB3.grown hgw hB3.size (fun k hk => by cases hk; exact Nat.le_refl _)
     have hsw := AC.out.2.2
     rw [List.take_length, ← HT.out] at hsw
     clear AC
     go_wp2_with fail
     go_roundg qg
     case measure => omega
     case rel => exact ⟨k + 1, by omega, by go_num, by have := AG.out; show _ = _; omega, ⟨hBw, hsw⟩⟩
  ·obtain rfl : k = attrs.length := by omega
   have hs := AB.out.2
   rw [List.take_length] at hs
   have hpc2 := (AB.out.1.cell (cell_lt HPC.out)).trans HPC.out
   obtain ⟨rfl, hpq, hpx⟩ := rdn_at (HPR.out.below AB.out.1)
   have HPX := hiD hpx
   have HS := hiD hs
   have hB0 := AB.out.1
   have hplen : p0.length ≤ 4 := HSZ.out.2.1
   clear hs hpx AB HV HF HND HPR HPC
   obtain ⟨H, hH⟩ : ∃ H, Ent.haveE (schE L) ⟨dn, attrs⟩ = H := ⟨_, rfl⟩
   rw [hH] at HS HR
   clear hH
   go_wp2_with fail
   go_loopg [66] p0.length (fun gk i wr => ∃ k : Nat, k ≤ p0.length ∧ i = .int .i64 k ∧ Aside (k + gk = p0.length) ∧ Aside (Below wo.heap.size wo wr) ∧ Aside (((p0.drop k).all fun p => H.contains (Ent.nameE (schE L) p.1, Ent.normF (schE L) p.1 p.2)) = R))
   case atStart => exact ⟨0, by omega, rfl, by show _ = _; omega, Below.refl _ _, HR.out⟩
   case round =>
    clear HR
    obtain ⟨k, hk, rfl, AG3, AD, AS⟩ := hrel
    by_cases hkl : k < p0.length
    ·obtain ⟨q3, rfl⟩ : ∃ q, gk = q + 1 := ⟨gk - 1, by have := AG3.out; omega⟩
     obtain ⟨g2, o2, rfl, c0, c1⟩ := HPX.out k hkl
     have d0 := (AD.out.cell (cell_lt c0)).trans c0
     have d1 := (AD.out.cell (cell_lt c1)).trans c1
     have hty := (HSZ.out.2.2 _ (List.getElem_mem hkl)).1
     have AS' : Aside ((H.contains (Ent.nameE (schE L) p0[k].1, Ent.normF (schE L) p0[k].1 p0[k].2) && (p0.drop (k + 1)).all fun p => H.contains (Ent.nameE (schE L) p.1, Ent.normF (schE L) p.1 p.2)) = R) := by have := AS.out; rw [List.drop_eq_getElem_cons hkl, List.all_cons] at this; exact this
     clear AS c0 c1
     generalize p0[k] = x at *
     obtain ⟨ty, vx⟩ := x
     simp only at d0 d1 hty AS'
     have hBr := hB1.trans ((hB0.trans (AD.out.mono hB0.size)).mono hB1.size)
     have hba : Below wr.heap.size wr (wr.alloc (.cells #[.string ⟨ty.toArray⟩, .string ⟨vx.toArray⟩] 123)) := (Below.refl _ _).alloc (Nat.le_refl _) _
     have hBa := hBr.trans (hba.mono hBr.size)
     have hka : Bk (wr.alloc (.cells #[.string ⟨ty.toArray⟩, .string ⟨vx.toArray⟩] 123)) wr.heap.size 123 #[.string ⟨ty.toArray⟩, .string ⟨vx.toArray⟩] := Bk.new wr _ _
     have HA1 := hiD (HA.out ty _ hBa hty)
     have HN1 := hiD (fun W h => HN.out ty vx W h hty)
     rw [← attrO_name] at AS'
     unfold attrV attrCells at HA1
     have hnf : Ent.normF (schE L) ty vx = (normTy L ty vx).2 := rfl
     rw [hnf] at AS'
     clear hnf
     generalize attrO L ty = ad at *
     generalize attrC L ty = ac at *
     generalize normTy L ty vx = np at *
     obtain ⟨nc, nx⟩ := np
     simp only at HN1 AS'
     have hsr := HS.out.below (AD.out.trans (hba.mono AD.out.size))
     cases hct : H.contains (ad.name, nx)
     ·have AS2 : Aside (R = false) := by have := AS'.out; rw [hct] at this; exact this.symm
      clear AS'
      go_wp2_with (first
       | (go_at_call 20; (with_reducible refine HA1.out.mono ?_); rintro e w4 ⟨hb4, A4, n4, c4, rfl⟩; have hb5 : Below w4.heap.size w4 (w4.alloc (.cells #[.string ⟨ad.oid.toArray⟩, .string ⟨ad.name.toArray⟩, .string ⟨ad.sup.toArray⟩, .slice A4 n4 c4, .string ⟨ad.form.toArray⟩, .string ⟨ad.eqr.toArray⟩, .string ⟨ad.ordr.toArray⟩, .string ⟨ad.subs.toArray⟩, .bool ad.single, .bool ad.fixed, .bool ad.oper] 41)) := (Below.refl _ _).alloc (Nat.le_refl _) _; have hk5 : Bk (w4.alloc (.cells #[.string ⟨ad.oid.toArray⟩, .string ⟨ad.name.toArray⟩, .string ⟨ad.sup.toArray⟩, .slice A4 n4 c4, .string ⟨ad.form.toArray⟩, .string ⟨ad.eqr.toArray⟩, .string ⟨ad.ordr.toArray⟩, .string ⟨ad.subs.toArray⟩, .bool ad.single, .bool ad.fixed, .bool ad.oper] 41)) w4.heap.size 41 #[.string ⟨ad.oid.toArray⟩, .string ⟨ad.name.toArray⟩, .string ⟨ad.sup.toArray⟩, .slice A4 n4 c4, .string ⟨ad.form.toArray⟩, .string ⟨ad.eqr.toArray⟩, .string ⟨ad.ordr.toArray⟩, .string ⟨ad.subs.toArray⟩, .bool ad.single, .bool ad.fixed, .bool ad.oper] := Bk.new w4 _ _; have hB4 := hBa.trans (hb4.mono hBa.size); have hB5 := hB4.trans (hb5.mono hB4.size); have hka5 := (hka.below hb4).below hb5; have z0 := hka5.cell 0; have z1 := hka5.cell 1; simp only [gs3] at z0 z1; have hs5 := (hsr.below hb4).below hb5)
       | (go_at_call 21; (with_reducible refine (HN1.out _ hB5).mono ?_); rintro e w6 ⟨rfl, hb6⟩; have hB6 := hB5.trans (hb6.mono hB5.size); have y1 := (hk5.below hb6).cell 1; simp only [gs3] at y1; have hask := setN_ask (hs5.below hb6) ad.name nx; rw [hct] at hask))
      go_ret
      exact ⟨retb AS2.out.symm, hB6.alloc hB6.size _⟩
     ·have AS2 : Aside (((p0.drop (k + 1)).all fun p => H.contains (Ent.nameE (schE L) p.1, Ent.normF (schE L) p.1 p.2)) = R) := (by have := AS'.out; rw [hct] at this; simpa using this : ((p0.drop (k + 1)).all fun p => H.contains (Ent.nameE (schE L) p.1, Ent.normF (schE L) p.1 p.2)) = R)
      clear AS'
      go_wp2_with (first
       | (go_at_call 20; (with_reducible refine HA1.out.mono ?_); rintro e w4 ⟨hb4, A4, n4, c4, rfl⟩; have hb5 : Below w4.heap.size w4 (w4.alloc (.cells #[.string ⟨ad.oid.toArray⟩, .string ⟨ad.name.toArray⟩, .string ⟨ad.sup.toArray⟩, .slice A4 n4 c4, .string ⟨ad.form.toArray⟩, .string ⟨ad.eqr.toArray⟩, .string ⟨ad.ordr.toArray⟩, .string ⟨ad.subs.toArray⟩, .bool ad.single, .bool ad.fixed, .bool ad.oper] 41)) := (Below.refl _ _).alloc (Nat.le_refl _) _; have hk5 : Bk (w4.alloc (.cells #[.string ⟨ad.oid.toArray⟩, .string ⟨ad.name.toArray⟩, .string ⟨ad.sup.toArray⟩, .slice A4 n4 c4, .string ⟨ad.form.toArray⟩, .string ⟨ad.eqr.toArray⟩, .string ⟨ad.ordr.toArray⟩, .string ⟨ad.subs.toArray⟩, .bool ad.single, .bool ad.fixed, .bool ad.oper] 41)) w4.heap.size 41 #[.string ⟨ad.oid.toArray⟩, .string ⟨ad.name.toArray⟩, .string ⟨ad.sup.toArray⟩, .slice A4 n4 c4, .string ⟨ad.form.toArray⟩, .string ⟨ad.eqr.toArray⟩, .string ⟨ad.ordr.toArray⟩, .string ⟨ad.subs.toArray⟩, .bool ad.single, .bool ad.fixed, .bool ad.oper] := Bk.new w4 _ _; have hB4 := hBa.trans (hb4.mono hBa.size); have hB5 := hB4.trans (hb5.mono hB4.size); have hka5 := (hka.below hb4).below hb5; have z0 := hka5.cell 0; have z1 := hka5.cell 1; simp only [gs3] at z0 z1; have hs5 := (hsr.below hb4).below hb5)
       | (go_at_call 21; (with_reducible refine (HN1.out _ hB5).mono ?_); rintro e w6 ⟨rfl, hb6⟩; have hB6 := hB5.trans (hb6.mono hB5.size); have y1 := (hk5.below hb6).cell 1; simp only [gs3] at y1; have hask := setN_ask (hs5.below hb6) ad.name nx; rw [hct] at hask))
      have hB7 := hB6.alloc hB6.size (.cells #[] 72)
      have hX7 : Below wo.heap.size wo (w6.alloc (.cells #[] 72)) := by
       have x1 := AD.out.trans (hba.mono AD.out.size)
       have x2 := x1.trans (hb4.mono x1.size)
       have x3 := x2.trans (hb5.mono x2.size)
       have x4 := x3.trans (hb6.mono x3.size)
       exact x4.alloc x4.size _
      go_roundg q3
      case measure => omega
      case rel => exact ⟨k + 1, by omega, by go_num, by have := AG3.out; show _ = _; omega, hX7, AS2.out⟩
    ·obtain rfl : k = p0.length := by omega
     have AS2 : Aside (R = true) := by have := AS.out; rw [List.drop_length] at this; exact this.symm
     clear AS
     go_wp2_with fail
     go_ret
     exact ⟨retb AS2.out.symm, hB1.trans ((hB0.trans (AD.out.mono hB0.size)).mono hB1.size)⟩
theorem own_c (s : Nat) (ps : List Nat) (L : List DefS) (hL : Sound L) (dn : LU) (attrs : List Ent.AttrE) (va : Value) (w : World) (hw : Env w) (hS : SchAt w s ps L) (hv : AttrsA w va attrs) (hl : attrs.length ≤ 1000) (hlt : ∀ a ∈ attrs, a.typ.length ≤ 1000000 ∧ a.vals.length ≤ 1000000) (hnd : (Ent.haveE (schE L) ⟨dn, attrs⟩).Nodup) :
  Calls Tryz.prog 37 #[.pointer (some ⟨s, 0, none⟩), .agg #[.string ⟨dn.toArray⟩, va]] w fun e w' => e = .returned (.bool (Ent.ownE (schE L) ⟨dn, attrs⟩)) ∧ Below w.heap.size w w' := by
 cases hd : (parseL dn).2 with
 | nil =>
  have : Ent.ownE (schE L) ⟨dn, attrs⟩ = false := by
   unfold Ent.ownE
   simp only [first_head, hd]
   rfl
  rw [this]
  obtain ⟨A, c, rfl, _⟩ := hv.isSlice
  exact own_no s dn _ w hw rfl hd
 | cons p0 d0 => exact own_yes s ps L hL dn attrs va w hw hS hv hl hlt hnd p0 d0 hd
end Go.Proofs.YtkkbbhlihilnpaaGreatDoor
