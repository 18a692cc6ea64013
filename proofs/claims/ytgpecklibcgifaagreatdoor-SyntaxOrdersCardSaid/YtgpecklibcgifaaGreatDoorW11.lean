/- Plain law: whole numbers' texts are in an order; orders and rules of equality. -/
import Derived.Test.YtgpecklibcgifaaGreatDoorW10
set_option linter.all false
namespace Go.Proofs.YtgpecklibcgifaaGreatDoor
open Go.RowKit Go.Sort

theorem Ord.comap {α β : Type} {f : β → β → Int} (h : Ord f) (k : α → β) (hk : ∀ a b, k a = k b → a = b) : Ord (fun a b => f (k a) (k b)) where
  swap a b := h.swap _ _
  zero a b := ⟨fun e => hk _ _ ((h.zero _ _).1 e), fun e => by subst e; exact (h.zero _ _).2 rfl⟩
  trans a b c := h.trans _ _ _
theorem cmpInt_ord : Ord Lib.compareInt where
  swap a b := by unfold Lib.compareInt; repeat' split
                 all_goals omega
  zero a b := by unfold Lib.compareInt; repeat' split
                 all_goals omega
  trans a b c := by
    unfold Lib.compareInt
    intro h1 h2
    repeat' split at h1
    all_goals (repeat' split at h2)
    all_goals (repeat' split)
    all_goals omega
theorem decCmp_ord : Ord decCmp := (cmpInt_ord.lex cmpB_ord).comap (fun l : List UInt8 => ((l.length : Int), l)) (fun _ _ h => (Prod.mk.inj h).2)
theorem cmpB_rng : ∀ a b : List UInt8, -1 ≤ cmpB a b ∧ cmpB a b ≤ 1
  | [], [] => by decide
  | [], _ :: _ => by simp [cmpB, Lib.compareBytes]
  | _ :: _, [] => by simp [cmpB, Lib.compareBytes]
  | x :: a, y :: b => by
    have ih := cmpB_rng a b
    unfold cmpB at *
    simp only [Lib.compareBytes]
    split
    · omega
    · split
      · omega
      · exact ih
theorem decCmp_rng (a b : List UInt8) : -1 ≤ decCmp a b ∧ decCmp a b ≤ 1 := by
  have := cmpB_rng a b
  unfold decCmp orV Lib.compareInt
  repeat' split
  all_goals omega
theorem pre45 (a : List UInt8) : a = if Lib.hasPrefix a [45] = true then 45 :: Lib.trimPrefix a [45] else Lib.trimPrefix a [45] := by
  unfold Lib.trimPrefix
  cases h : Lib.hasPrefix a [45]
  · simp
  · simp only [if_true]
    unfold Lib.hasPrefix at h
    cases a with
    | nil => simp [List.isPrefixOf] at h
    | cons c t => simp [List.isPrefixOf] at h; rw [← h]; rfl
theorem ints_eq (a b : List UInt8) : intsL a b = if Lib.hasPrefix a [45] && !Lib.hasPrefix b [45] then -1 else if Lib.hasPrefix b [45] && !Lib.hasPrefix a [45] then 1
    else if Lib.hasPrefix a [45] then decCmp (Lib.trimPrefix b [45]) (Lib.trimPrefix a [45]) else decCmp (Lib.trimPrefix a [45]) (Lib.trimPrefix b [45]) := rfl
theorem ints_ord : Ord intsL where
  swap a b := by
    have h := decCmp_ord.swap (Lib.trimPrefix a [45]) (Lib.trimPrefix b [45])
    rw [ints_eq, ints_eq]
    cases Lib.hasPrefix a [45] <;> cases Lib.hasPrefix b [45] <;> simp <;> omega
  zero a b := by
    have h := decCmp_ord.zero (Lib.trimPrefix a [45]) (Lib.trimPrefix b [45])
    have h' := decCmp_ord.zero (Lib.trimPrefix b [45]) (Lib.trimPrefix a [45])
    have ea := pre45 a
    have eb := pre45 b
    rw [ints_eq]
    cases ha : Lib.hasPrefix a [45] <;> cases hb : Lib.hasPrefix b [45] <;> simp
    · rw [h]
      constructor
      · intro e; rw [ha] at ea; rw [hb] at eb; rw [ea, eb]; simp [e]
      · intro e; rw [e]
    · intro e; rw [e, hb] at ha; cases ha
    · intro e; rw [e, hb] at ha; cases ha
    · rw [h']
      constructor
      · intro e; rw [ha] at ea; rw [hb] at eb; rw [ea, eb]; simp [e]
      · intro e; rw [e]
  trans a b c := by
    have h := decCmp_ord.trans (Lib.trimPrefix a [45]) (Lib.trimPrefix b [45]) (Lib.trimPrefix c [45])
    have h' := decCmp_ord.trans (Lib.trimPrefix c [45]) (Lib.trimPrefix b [45]) (Lib.trimPrefix a [45])
    rw [ints_eq, ints_eq, ints_eq]
    cases Lib.hasPrefix a [45] <;> cases Lib.hasPrefix b [45] <;> cases Lib.hasPrefix c [45] <;> simp <;> first | exact h | (intro x y; exact h' y x) | omega
theorem ints_rng (a b : List UInt8) : -1 ≤ intsL a b ∧ intsL a b ≤ 1 := by
  have h := decCmp_rng (Lib.trimPrefix a [45]) (Lib.trimPrefix b [45])
  have h' := decCmp_rng (Lib.trimPrefix b [45]) (Lib.trimPrefix a [45])
  rw [ints_eq]
  repeat' split
  all_goals omega
/-- How a rule of order compares normal forms. -/
def ordF (n : List UInt8) (p q : List UInt8) : Int := if n = nIntOrd then intsL p q else cmpB p q
theorem ordF_ord (n : List UInt8) : Ord (ordF n) := by
  by_cases h : n = nIntOrd
  · have : ordF n = intsL := by funext p q; unfold ordF; rw [if_pos h]
    rw [this]; exact ints_ord
  · have : ordF n = cmpB := by funext p q; unfold ordF; rw [if_neg h]
    rw [this]; exact cmpB_ord
theorem ordF_rng (n p q : List UInt8) : -1 ≤ ordF n p q ∧ ordF n p q ≤ 1 := by
  unfold ordF
  split
  · exact ints_rng p q
  · exact cmpB_rng p q
theorem bothS_some {x : RowT} {a b p q : List UInt8} : bothS x a b = some (p, q) ↔ normS x a = some p ∧ normS x b = some q := by
  unfold bothS
  cases normS x a <;> cases normS x b <;> simp
theorem ord_eq_rows : ∀ k : Fin 5, (match askT (smallL (ordRules.getD k.val [])) 1, askT (smallL (eqRules5.getD k.val [])) 0 with | some x, some y => decide (x.2.2 = y.2.2) | _, _ => false) = true := by decide +kernel
theorem ord_eq_row {k : Nat} (hk : k < 5) : ∃ x y, askT (smallL (ordRules[k]'hk)) 1 = some x ∧ askT (smallL (eqRules5[k]'hk)) 0 = some y ∧ x.2.2 = y.2.2 := by
  have h := ord_eq_rows ⟨k, hk⟩
  simp only at h
  rw [show ordRules.getD k [] = ordRules[k]'hk by simp [List.getD, List.getElem?_eq_getElem (show k < ordRules.length from hk)]; rfl, show eqRules5.getD k [] = eqRules5[k]'hk by simp [List.getD, List.getElem?_eq_getElem (show k < eqRules5.length from hk)]; rfl] at h
  split at h
  · next x y hx hy => exact ⟨x, y, hx, hy, by simpa using h⟩
  · cases h
theorem bothS_row {x y : RowT} (h : x.2.2 = y.2.2) (a b : List UInt8) : bothS x a b = bothS y a b := by
  have : ∀ v, normS x v = normS y v := fun v => by unfold normS; rw [h]
  unfold bothS
  rw [this, this]
end Go.Proofs.YtgpecklibcgifaaGreatDoor
/- The law SyntaxOrders. -/
namespace Go.Proofs.YtgpecklibcgifaaGreatDoor
open Go.RowKit Go.Sort

/-- What Order tells: a number and an error. -/
def ordO (x : RowT) (a b : List UInt8) : Int × Int := orderQ x.1 (bothS x a b)
theorem ordO_cases (x : RowT) (a b : List UInt8) : (ordO x a b = (0, 40) ∧ bothS x a b = none) ∨ ∃ p q, normS x a = some p ∧ normS x b = some q ∧ ordO x a b = (ordF x.1 p q, 0) := by
  unfold ordO
  cases h : bothS x a b with
  | none => exact .inl ⟨rfl, rfl⟩
  | some pq =>
    obtain ⟨p, q⟩ := pq
    have := bothS_some.1 h
    exact .inr ⟨p, q, this.1, this.2, rfl⟩
/-- What the first loop asks of three values. -/
theorem ord_three (x : RowT) (a b c : List UInt8) :
    (¬ ((ordO x a b).2 = 0 ∧ (ordO x b c).2 = 0 ∧ (ordO x a c).2 = 0)) ∨
    ((ordO x a b).2 = 0 ∧ (ordO x b c).2 = 0 ∧ (ordO x a c).2 = 0 ∧ (ordO x b a).2 = 0 ∧ (ordO x b a).1 = -(ordO x a b).1 ∧ -1 ≤ (ordO x a b).1 ∧ (ordO x a b).1 ≤ 1 ∧ ¬ ((ordO x a b).1 ≤ 0 ∧ (ordO x b c).1 ≤ 0 ∧ 0 < (ordO x a c).1) ∧ ¬ (0 ≤ (ordO x a b).1 ∧ 0 ≤ (ordO x b c).1 ∧ (ordO x a c).1 < 0)) := by
  rcases ordO_cases x a b with ⟨h, _⟩ | ⟨p, q, hp, hq, h⟩
  · left; rw [h]; simp
  rcases ordO_cases x b c with ⟨h', _⟩ | ⟨q', r, hq', hr, h'⟩
  · left; rw [h']; simp
  have e : ordO x a c = (ordF x.1 p r, 0) := by unfold ordO; rw [bothS_some.2 ⟨hp, hr⟩]; rfl
  have e2 : ordO x b a = (ordF x.1 q p, 0) := by unfold ordO; rw [bothS_some.2 ⟨hq, hp⟩]; rfl
  obtain rfl : q = q' := Option.some.inj (hq.symm.trans hq')
  right
  have O := ordF_ord x.1
  have r1 := ordF_rng x.1 p q
  have s1 := O.swap p q
  have s2 := O.swap q r
  have s3 := O.swap p r
  have t1 := O.trans p q r
  have t2 := O.trans r q p
  rw [h, h', e, e2]
  simp only
  refine ⟨trivial, trivial, trivial, trivial, s1, r1.1, r1.2, ?_, ?_⟩
  · rintro ⟨u, v, z⟩; have := t1 u v; omega
  · rintro ⟨u, v, z⟩; have := t2 (by omega) (by omega); omega
theorem ord_asks {k : Nat} (hk : k < 5) : ∃ x, askT (smallL (ordRules[k]'hk)) 1 = some x := Option.isSome_iff_exists.1 (ord_asked _ (List.getElem_mem _))
theorem Order_row {r : List UInt8} {x : RowT} (hx : askT (smallL r) 1 = some x) (hl : r.length ≤ 100) (a b : List UInt8) (W : World) (hW : Env W) :
    Calls Tryz.prog 11 #[.string ⟨r.toArray⟩, .string ⟨a.toArray⟩, .string ⟨b.toArray⟩] W fun e w' => e = .returned (.tuple #[.int .i64 (ordO x a b).1, .int .i64 (ordO x a b).2]) ∧ Below W.heap.size W w' := by
  have h := Order_c r a b W hW (by omega)
  have e : orderP r a b = ordO x a b := by unfold orderP ordO; rw [hx]
  rw [e] at h
  exact h
theorem Same_row {r : List UInt8} {x : RowT} (hx : askT (smallL r) 0 = some x) (hl : r.length ≤ 100) (a b : List UInt8) (W : World) (hW : Env W) :
    Calls Tryz.prog 17 #[.string ⟨r.toArray⟩, .string ⟨a.toArray⟩, .string ⟨b.toArray⟩] W fun e w' => e = .returned (.tuple #[.bool (sameQ (bothS x a b)).1, .int .i64 (sameQ (bothS x a b)).2]) ∧ Below W.heap.size W w' := by
  have h := Same_c r a b W hW (by omega)
  have e : sameP r a b = sameQ (bothS x a b) := by unfold sameP; rw [hx]
  rw [e] at h
  exact h
theorem ord_len : ∀ r ∈ ordRules, r.length ≤ 100 := by decide +kernel
theorem eq5_len : ∀ r ∈ eqRules5, r.length ≤ 100 := by decide +kernel
set_option maxRecDepth 100000 in
set_option maxHeartbeats 4000000 in
theorem orders_law (a b c : List UInt8) (w : World) (hw : Env w) : Calls Tryz.prog 6 #[.string ⟨a.toArray⟩, .string ⟨b.toArray⟩, .string ⟨c.toArray⟩] w fun e w' => e = .returned (.bool true) ∧ Below w.heap.size w w' := by
  go_enter Tryz.func6, Tryz.ntmps6
  go_wp2_with (go_at_call 21; refine (orders_c _).mono ?_; rintro e w1 ⟨rfl, hw1⟩)
  have hT : Texts w1 (.slice (some ⟨w.heap.size, 0, none⟩) 5 5) ordRules := by rw [← hw1]; exact ord_texts w
  have hb1 : Below w.heap.size w w1 := by rw [← hw1]; exact (Below.refl _ _).alloc (Nat.le_refl _) _
  clear hw1
  have HT := Lib.hid hT
  clear hT
  have hbl : w.heap.size < w1.heap.size := by
    have := cell_lt (texts_at HT.out (j := 0) (by decide)); exact this
  obtain ⟨d, hde⟩ : ∃ d, d = w.heap.size := ⟨_, rfl⟩
  rw [← hde] at hb1 hbl HT ⊢
  have HDE := Lib.hid hde
  clear hde
  go_loopg [8] 5 (fun gk i wr => ∃ k : Nat, k ≤ 5 ∧ i = .int .i64 k ∧ Aside (k + gk = 5) ∧ Below w1.heap.size w1 wr)
  case atStart => exact ⟨0, by omega, rfl, by show _ = _; omega, Below.refl _ _⟩
  case round =>
    obtain ⟨k, hk, rfl, AG, hB⟩ := hrel
    have hBw : Below d w wr := hb1.trans (hB.mono (by omega))
    by_cases hlt : k < 5
    · obtain ⟨q, rfl⟩ : ∃ q, gk = q + 1 := ⟨gk - 1, by have := AG.out; omega⟩
      have AG' : Aside (k + 1 + q = 5) := by have := AG.out; show _ = _; omega
      have hkl : k < ordRules.length := hlt
      have c0 : w1.cell? ⟨d, k, none⟩ = some (.string ⟨(ordRules[k]'hkl).toArray⟩) := texts_at HT.out hkl
      have hrl := ord_len _ (List.getElem_mem hkl)
      obtain ⟨x, hask⟩ := ord_asks hlt
      generalize ordRules[k]'hkl = r at *
      have c1 : wr.cell? ⟨d, k, none⟩ = some (.string ⟨r.toArray⟩) := (hB.cell (p := ⟨d, k, none⟩) hbl).trans c0
      have HO := Lib.hid (fun u v W (hW : Env W) => Order_row hask hrl u v W hW)
      have H3 := ord_three x a b c
      have H1 := Lib.hid (fun W (hW : Env W) => HO.out a b W hW)
      have H2 := Lib.hid (fun W (hW : Env W) => HO.out b c W hW)
      have H4 := Lib.hid (fun W (hW : Env W) => HO.out a c W hW)
      have H5 := Lib.hid (fun W (hW : Env W) => HO.out b a W hW)
      clear HO hask c0 hrl
      generalize ordO x a b = o1 at *
      generalize ordO x b c = o2 at *
      generalize ordO x a c = o3 at *
      generalize ordO x b a = o4 at *
      obtain ⟨X, e1⟩ := o1
      obtain ⟨Y, e2⟩ := o2
      obtain ⟨Z, e3⟩ := o3
      obtain ⟨V, e4⟩ := o4
      simp only at H3 H1 H2 H4 H5
      have HH3 := Lib.hid H3
      clear H3
      go_wp2_with fail
      refine (H1.out _ (hw.below (by have := HDE.out; omega) hBw)).mono ?_
      rintro e w2 ⟨rfl, hb2⟩
      have hB2 := hBw.trans (hb2.mono (by have := hBw.size; have := HDE.out; omega))
      have c2 : w2.cell? ⟨d, k, none⟩ = some (.string ⟨r.toArray⟩) := (hb2.cell (p := ⟨d, k, none⟩) (cell_lt c1)).trans c1
      go_wp2_with fail
      refine (H2.out _ (hw.below (by have := HDE.out; omega) hB2)).mono ?_
      rintro e w3 ⟨rfl, hb3⟩
      have hB3 := hB2.trans (hb3.mono (by have := hB2.size; have := HDE.out; omega))
      have c3 : w3.cell? ⟨d, k, none⟩ = some (.string ⟨r.toArray⟩) := (hb3.cell (p := ⟨d, k, none⟩) (cell_lt c2)).trans c2
      go_wp2_with fail
      refine (H4.out _ (hw.below (by have := HDE.out; omega) hB3)).mono ?_
      rintro e w4 ⟨rfl, hb4⟩
      have hB4 := hB3.trans (hb4.mono (by have := hB3.size; have := HDE.out; omega))
      have c4 : w4.cell? ⟨d, k, none⟩ = some (.string ⟨r.toArray⟩) := (hb4.cell (p := ⟨d, k, none⟩) (cell_lt c3)).trans c3
      go_wp2_with fail
      refine (H5.out _ (hw.below (by have := HDE.out; omega) hB4)).mono ?_
      rintro e w5 ⟨rfl, hb5⟩
      have HF : Hid (Below w1.heap.size w1 w5) := Lib.hid ((((hB.trans (hb2.mono hB.size)).trans (hb3.mono (Nat.le_trans hB.size hb2.size))).trans (hb4.mono (Nat.le_trans (Nat.le_trans hB.size hb2.size) hb3.size))).trans (hb5.mono (Nat.le_trans (Nat.le_trans (Nat.le_trans hB.size hb2.size) hb3.size) hb4.size)))
      clear H1 H2 H4 H5 c2 c3 c4 hB2 hB3 hB4 hb2 hb3 hb4 hb5
      by_cases h1 : e1 = 0
      · by_cases h2 : e2 = 0
        · by_cases h3 : e3 = 0
          · obtain ⟨_, _, _, h4, hV, hX1, hX2, hn1, hn2⟩ := HH3.out.resolve_left (fun h => h ⟨h1, h2, h3⟩)
            subst h1 h2 h3 h4 hV
            go_wp2_with fail
            all_goals first
              | (exfalso; omega)
              | (go_roundg q
                 case measure => omega
                 case rel => exact ⟨k + 1, by omega, by go_num, AG'.out, HF.out⟩)
          · have z1 : ((e1 : Int) != 0) = false := bne_eq_false_iff_eq.2 h1
            have z2 : ((e2 : Int) != 0) = false := bne_eq_false_iff_eq.2 h2
            have z3 : ((e3 : Int) != 0) = true := bne_iff_ne.2 h3
            clear h1 h2 h3
            go_wp2_with fail
            go_roundg q
            case measure => omega
            case rel => exact ⟨k + 1, by omega, by go_num, AG'.out, HF.out⟩
        · have z1 : ((e1 : Int) != 0) = false := bne_eq_false_iff_eq.2 h1
          have z2 : ((e2 : Int) != 0) = true := bne_iff_ne.2 h2
          clear h1 h2
          go_wp2_with fail
          go_roundg q
          case measure => omega
          case rel => exact ⟨k + 1, by omega, by go_num, AG'.out, HF.out⟩
      · have z1 : ((e1 : Int) != 0) = true := bne_iff_ne.2 h1
        clear h1
        go_wp2_with fail
        go_roundg q
        case measure => omega
        case rel => exact ⟨k + 1, by omega, by go_num, AG'.out, HF.out⟩
    · obtain rfl : k = 5 := by omega
      have HT1 : Hid (Texts wr (.slice (some ⟨d, 0, none⟩) 5 5) ordRules) := Lib.hid (HT.out.below hB)
      have hdr : d < wr.heap.size := Nat.lt_of_lt_of_le hbl hB.size
      clear HT AG hb1 hbl hB
      obtain ⟨wo, hwo⟩ : ∃ wo, wo = wr := ⟨_, rfl⟩
      subst hwo
      go_wp2_with fail
      have hT5 := eq5_texts wo
      have hba := (Below.refl wo.heap.size wo).alloc (Nat.le_refl _) (.cells #[.string ⟨#[111, 99, 116, 101, 116, 83, 116, 114, 105, 110, 103, 77, 97, 116, 99, 104]⟩, .string ⟨#[99, 97, 115, 101, 69, 120, 97, 99, 116, 77, 97, 116, 99, 104]⟩, .string ⟨#[99, 97, 115, 101, 73, 103, 110, 111, 114, 101, 77, 97, 116, 99, 104]⟩, .string ⟨#[105, 110, 116, 101, 103, 101, 114, 77, 97, 116, 99, 104]⟩, .string ⟨#[103, 101, 110, 101, 114, 97, 108, 105, 122, 101, 100, 84, 105, 109, 101, 77, 97, 116, 99, 104]⟩] 9)
      have hT6 := HT1.out.below hba
      have hB6 := hBw.trans (hba.mono (by have := hBw.size; have := HDE.out; omega))
      have hgl : wo.heap.size < (wo.alloc (.cells #[.string ⟨#[111, 99, 116, 101, 116, 83, 116, 114, 105, 110, 103, 77, 97, 116, 99, 104]⟩, .string ⟨#[99, 97, 115, 101, 69, 120, 97, 99, 116, 77, 97, 116, 99, 104]⟩, .string ⟨#[99, 97, 115, 101, 73, 103, 110, 111, 114, 101, 77, 97, 116, 99, 104]⟩, .string ⟨#[105, 110, 116, 101, 103, 101, 114, 77, 97, 116, 99, 104]⟩, .string ⟨#[103, 101, 110, 101, 114, 97, 108, 105, 122, 101, 100, 84, 105, 109, 101, 77, 97, 116, 99, 104]⟩] 9)).heap.size := by simp
      generalize wo.alloc (.cells #[.string ⟨#[111, 99, 116, 101, 116, 83, 116, 114, 105, 110, 103, 77, 97, 116, 99, 104]⟩, .string ⟨#[99, 97, 115, 101, 69, 120, 97, 99, 116, 77, 97, 116, 99, 104]⟩, .string ⟨#[99, 97, 115, 101, 73, 103, 110, 111, 114, 101, 77, 97, 116, 99, 104]⟩, .string ⟨#[105, 110, 116, 101, 103, 101, 114, 77, 97, 116, 99, 104]⟩, .string ⟨#[103, 101, 110, 101, 114, 97, 108, 105, 122, 101, 100, 84, 105, 109, 101, 77, 97, 116, 99, 104]⟩] 9) = W6 at *
      generalize wo.heap.size = g at *
      have HT5 := Lib.hid hT5
      have HT6 := Lib.hid hT6
      have hd6 : d < W6.heap.size := cell_lt (texts_at HT6.out (j := 0) (by decide))
      clear hT5 hT6 hba HT1 hBw
      go_loopg [114] 5 (fun gk i wr => ∃ k : Nat, k ≤ 5 ∧ i = .int .i64 k ∧ Aside (k + gk = 5) ∧ Below W6.heap.size W6 wr)
      case atStart => exact ⟨0, by omega, rfl, by show _ = _; omega, Below.refl _ _⟩
      case round =>
        obtain ⟨k, hk, rfl, AG, hB⟩ := hrel
        have hBr : Below d w wr := hB6.trans (hB.mono (by omega))
        by_cases hlt : k < 5
        · obtain ⟨q, rfl⟩ : ∃ q, gk = q + 1 := ⟨gk - 1, by have := AG.out; omega⟩
          have AG' : Aside (k + 1 + q = 5) := by have := AG.out; show _ = _; omega
          have c5 : wr.cell? ⟨g, k, none⟩ = some (.string ⟨(eqRules5[k]'hlt).toArray⟩) := (hB.cell (p := ⟨g, k, none⟩) hgl).trans (texts_at HT5.out hlt)
          have c6 : wr.cell? ⟨d, k, none⟩ = some (.string ⟨(ordRules[k]'hlt).toArray⟩) := (hB.cell (p := ⟨d, k, none⟩) hd6).trans (texts_at HT6.out hlt)
          have l5 := eq5_len _ (List.getElem_mem (show k < eqRules5.length from hlt))
          have l6 := ord_len _ (List.getElem_mem (show k < ordRules.length from hlt))
          obtain ⟨x, y, hx, hy, hxy⟩ := ord_eq_row hlt
          generalize eqRules5[k]'hlt = r5 at *
          generalize ordRules[k]'hlt = r6 at *
          have H1 := Lib.hid (fun W (hW : Env W) => Order_row hx l6 a b W hW)
          have H2 := Lib.hid (fun W (hW : Env W) => Same_row hy l5 a b W hW)
          rw [← bothS_row hxy a b] at H2
          clear hx hy hxy l5 l6
          rcases ordO_cases x a b with ⟨h, h0⟩ | ⟨p, p', hp, hp', h⟩
          · rw [h] at H1
            rw [h0] at H2
            simp only [sameQ] at H1 H2
            clear h h0
            go_wp2_with fail
            refine (H1.out _ (hw.below (by have := HDE.out; omega) hBr)).mono ?_
            rintro e w2 ⟨rfl, hb2⟩
            have hB2 := hBr.trans (hb2.mono (by have := hBr.size; have := HDE.out; omega))
            go_wp2_with fail
            refine (H2.out _ (hw.below (by have := HDE.out; omega) hB2)).mono ?_
            rintro e w3 ⟨rfl, hb3⟩
            go_wp2_with fail
            go_roundg q
            case measure => omega
            case rel => exact ⟨k + 1, by omega, by go_num, AG'.out, (hB.trans (hb2.mono hB.size)).trans (hb3.mono (Nat.le_trans hB.size hb2.size))⟩
          · have hbo := bothS_some.2 ⟨hp, hp'⟩
            have hz := (ordF_ord x.1).zero p p'
            rw [h] at H1
            rw [hbo] at H2
            simp only [sameQ] at H1 H2
            generalize ordF x.1 p p' = X at *
            clear h hbo hp hp'
            by_cases hX : X = 0
            · have hpp : (p == p') = true := beq_iff_eq.2 (hz.1 hX)
              rw [hpp] at H2
              subst hX
              clear hz hpp
              go_wp2_with fail
              refine (H1.out _ (hw.below (by have := HDE.out; omega) hBr)).mono ?_
              rintro e w2 ⟨rfl, hb2⟩
              have hB2 := hBr.trans (hb2.mono (by have := hBr.size; have := HDE.out; omega))
              go_wp2_with fail
              refine (H2.out _ (hw.below (by have := HDE.out; omega) hB2)).mono ?_
              rintro e w3 ⟨rfl, hb3⟩
              go_wp2_with fail
              go_roundg q
              case measure => omega
              case rel => exact ⟨k + 1, by omega, by go_num, AG'.out, (hB.trans (hb2.mono hB.size)).trans (hb3.mono (Nat.le_trans hB.size hb2.size))⟩
            · have hpp : (p == p') = false := beq_eq_false_iff_ne.2 (fun e => hX (hz.2 e))
              have hX' : ((X : Int) == 0) = false := beq_eq_false_iff_ne.2 hX
              rw [hpp] at H2
              clear hz hpp hX
              go_wp2_with fail
              refine (H1.out _ (hw.below (by have := HDE.out; omega) hBr)).mono ?_
              rintro e w2 ⟨rfl, hb2⟩
              have hB2 := hBr.trans (hb2.mono (by have := hBr.size; have := HDE.out; omega))
              go_wp2_with fail
              refine (H2.out _ (hw.below (by have := HDE.out; omega) hB2)).mono ?_
              rintro e w3 ⟨rfl, hb3⟩
              go_wp2_with fail
              go_roundg q
              case measure => omega
              case rel => exact ⟨k + 1, by omega, by go_num, AG'.out, (hB.trans (hb2.mono hB.size)).trans (hb3.mono (Nat.le_trans hB.size hb2.size))⟩
        · obtain rfl : k = 5 := by omega
          have hA := alive_c wr (hw.below (by have := HDE.out; omega) hBr)
          go_wp2_with (go_at_call 10; refine hA.mono ?_; rintro e w2 ⟨rfl, hb2⟩)
          go_ret
          rw [← HDE.out]
          exact ⟨rfl, hBr.trans (hb2.mono (by have := hBr.size; have := HDE.out; omega))⟩
end Go.Proofs.YtgpecklibcgifaaGreatDoor
