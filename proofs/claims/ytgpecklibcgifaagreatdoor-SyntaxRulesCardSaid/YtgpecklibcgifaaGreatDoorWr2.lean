/- Contracts of the document's answer: Mapped, Single, text, left, right, Prepare. -/
import Derived.Test.YtgpecklibcgifaaGreatDoorWr1
import Derived.Test.YtgpecklibcgifaaGreatDoorW8
set_option linter.all false
namespace Go.Proofs.YtgpecklibcgifaaGreatDoor
open Go.RowKit

/-- A list of characters that lies in memory, however it came about: at a place of a block. -/
def RunesAt (w : World) (v : Value) (R : List Int) : Prop :=
  ∃ A c, v = .slice A R.length c ∧ R.length ≤ c ∧ (R = [] ∨ ∃ g o, A = some ⟨g, o, none⟩ ∧ g < w.heap.size ∧ ∀ j (hj : j < R.length), w.cell? ⟨g, o + j, none⟩ = some (.int .i32 R[j]))
theorem RunesAt.below {w w' : World} {v : Value} {R : List Int} (h : RunesAt w v R) (hb : Below w.heap.size w w') : RunesAt w' v R := by
  obtain ⟨A, c, rfl, hc, h⟩ := h
  refine ⟨A, c, rfl, hc, h.imp id ?_⟩
  rintro ⟨g, o, rfl, hg, hx⟩
  exact ⟨g, o, rfl, Nat.lt_of_lt_of_le hg hb.size, fun j hj => (hb.cell (p := ⟨g, o + j, none⟩) hg).trans (hx j hj)⟩
/-- A list of characters that the call has made since W0. -/
def Rns (W0 w : World) (v : Value) (R : List Int) : Prop :=
  w.ownsRow W0.heap.size 21 1 v R.length (R.map (Value.int .i32)) ∧ Below W0.heap.size W0 w ∧ W0.heap.size ≤ w.heap.size
theorem Rns.nil (w : World) : Rns w w (.slice none 0 0) [] := ⟨World.ownsRow_nil _ _ _ _, Below.refl _ _, Nat.le_refl _⟩
theorem Rns.below {W0 w : World} {v : Value} {xs : List Int} (h : Rns W0 w v xs) : Below W0.heap.size W0 w := h.2.1
theorem Rns.grow {W0 w w' : World} {v : Value} {xs : List Int} (h : Rns W0 w v xs) (hb : Below w.heap.size w w') : Rns W0 w' v xs := by
  obtain ⟨ho, hB, hle⟩ := h
  refine ⟨ho.kept (row := none) ⟨hb.os, hb.tape, hb.output, hb.size, fun k hk _ => hb.block k hk⟩ ?_, hB.trans (hb.mono hle), Nat.le_trans hle hb.size⟩
  rcases hv : v.ownBlock with _ | g
  · exact .inl rfl
  · exact .inr (by simp)
theorem Rns.alloc {W0 w : World} {v : Value} {xs : List Int} (h : Rns W0 w v xs) (o : Obj) : Rns W0 (w.alloc o) v xs := h.grow ((Below.refl _ _).alloc (Nat.le_refl _) o)
theorem Rns.grown {W0 w w' : World} {v v' : Value} {xs xs' : List Int} (h : Rns W0 w v xs) (ho : w'.ownsRow W0.heap.size 21 1 v' xs'.length (xs'.map (Value.int .i32))) (hg : w.grownBy w' v.ownBlock) : Rns W0 w' v' xs' :=
  ⟨ho, h.2.1.grown hg h.2.2 (fun k hk => (h.1.lt k hk).1), Nat.le_trans h.2.2 hg.size⟩
theorem Rns.at {W0 w : World} {v : Value} {xs : List Int} (h : Rns W0 w v xs) : RunesAt w v xs := by
  obtain ⟨⟨h1, h2⟩, _, _⟩ := h
  rcases h2 with ⟨rfl, hn⟩ | ⟨g, cap, cur, rfl, r2, r3, r4, r5, r6, r7⟩
  · exact ⟨Option.none, 0, by rw [hn], by omega, .inl (List.eq_nil_of_length_eq_zero hn)⟩
  · refine ⟨_, cap, rfl, r4, .inr ⟨g, 0, rfl, (Array.getElem?_eq_some_iff.1 r3).1, fun j hj => ?_⟩⟩
    simp only [World.cell?, r3, Nat.zero_add]
    have : (cur.toList.take (xs.length * 1))[j]? = some (.int .i32 xs[j]) := by rw [r7]; simp [hj]
    rw [List.getElem?_take] at this
    simpa [hj] using this
theorem infoRune : ∃ i, Tryz.prog.info? 21 = some i ∧ i.zero = some (.int .i32 0) ∧ i.size = 1 ∧ i.bytes = 4 := by
  obtain ⟨i, h1, h2, h3, h4⟩ := info_parts (show (Tryz.prog.info? 21).map (fun i => (i.zero, i.size, i.bytes)) = some (some (.int .i32 0), 1, 4) by kernel_rfl)
  exact ⟨i, h1, h2, h3, h4⟩
/-- 'l = append(l, x)'. -/
theorem rns_one {ops : Array Oper} {rest : List Oper} {o : Oper} {a : Act} {Q : Exit → Act → World → Prop} (hgd : o.guard = none) (s x : Operand) (ho : o.op = .call { callee := .builtin .append, args := #[s, x], argTypes := #[77, 77] })
    {v : Value} {xs : List Int} {W0 w0 : World} {c : Int} (hs : a.eval s = v) (hb : Rns W0 w0 v xs)
    (hx : a.eval x = .slice (some ⟨w0.heap.size, 0, none⟩) 1 1) (hlen : xs.length < 4398046511104)
    (h : ∀ v' w', Rns W0 w' v' (xs ++ [c]) → w0.grownBy w' v.ownBlock → wpList Tryz.prog ops Q rest (a.put o.dst v') w') : wpList Tryz.prog ops Q (o :: rest) a (w0.alloc (.cells #[.int .i32 c] 21)) := by
  obtain ⟨i, h1, h2, h3, h4⟩ := infoRune
  have hb' := hb.alloc (.cells #[.int .i32 c] 21)
  refine wpList_append_own _ hgd s x 77 ho W0.heap.size 21 i (.int .i32 0) 1 4 Tryz.underlying77 h1 h2 h3 h4 rfl (by decide) v _ _ hs hb'.1 ⟨w0.heap.size, 0, none⟩ 1 1 [.int .i32 c] hx rfl ?_ ?_ (by unfold maxLen; omega) (by omega) hb'.2.2 ?_
  · intro j u hj
    match j, hj with
    | 0, hj => simp at hj; subst hj; simp [Addr.add]
    | (j + 1), hj => simp at hj
  · intro u hu; simp at hu; subst hu; rfl
  · intro v' w' ho' hg _
    refine h v' w' ?_ (World.grownBy.trans (World.grownBy_alloc _ _ _) hg)
    exact hb'.grown (by simpa using ho') hg
/-- chanceryref3.Mapped: the characters, mapped; none: it is not taken. -/
def mapG (fold : Bool) : List Int → List Int → Option (List Int)
  | [], acc => some acc
  | r :: rs, acc => if (mapV r).2 = 2 then none else if (mapV r).2 = 1 then mapG fold rs acc else mapG fold rs (acc ++ [if fold then foldR (mapV r).1 else (mapV r).1])
def MappedRet (w : World) (o : Option (List Int)) (e : Ending) (w' : World) : Prop :=
  Below w.heap.size w w' ∧ ∃ v, e = .returned (.tuple #[v, .bool o.isSome]) ∧ RunesAt w' v (o.getD [])
theorem RunesAt.isNil (w : World) : RunesAt w (.slice Option.none 0 0) [] := ⟨Option.none, 0, rfl, Nat.le_refl _, .inl rfl⟩
set_option maxRecDepth 100000 in
set_option maxHeartbeats 2000000 in
theorem Mapped_r (l : List UInt8) (fold : Bool) (w : World) (hl : l.length ≤ 1099511627776) :
    Calls Tryz.prog 74 #[.string ⟨l.toArray⟩, .bool fold] w (MappedRet w (if Lib.validD l then mapG fold (runes l) [] else none)) := by
  have hT := Text_r l w hl
  cases hv : Lib.validD l
  · rw [hv] at hT
    simp only [Bool.false_eq_true, if_false]
    clear hv
    go_enter Tryz.func74, Tryz.ntmps74
    go_wp2_with (go_at_call 120; refine hT.mono ?_; rintro e w' ⟨rfl, rfl⟩)
    go_ret2
    exact ⟨Below.refl _ _, _, rfl, RunesAt.isNil _⟩
  · rw [hv] at hT
    simp only [if_true]
    clear hv
    generalize hO : mapG fold (runes l) [] = O
    have HO := Lib.hid hO
    clear hO
    go_enter Tryz.func74, Tryz.ntmps74
    go_wp2_with (go_at_call 120; refine hT.mono ?_; rintro e w' ⟨rfl, rfl⟩)
    go_loopg [6, 7] l.length (fun gk s i wr => ∃ (k : Nat) (acc : List Int), k ≤ l.length ∧ i = .int .i64 k ∧ l.length ≤ k + gk ∧ Rns w wr s acc ∧ acc.length ≤ k ∧ Aside (O = mapG fold (runes (l.drop k)) acc))
    case atStart => exact ⟨0, [], by omega, rfl, by omega, Rns.nil w, by simp, by show _ = _; rw [← HO.out]; rfl⟩
    case round =>
      obtain ⟨k, acc, hk, rfl, hgk, hS, hak, AS⟩ := hrel
      by_cases hlt : k < l.length
      · obtain ⟨q, rfl⟩ : ∃ q, gk = q + 1 := ⟨gk - 1, by omega⟩
        have hne : l.drop k ≠ [] := by simp; omega
        have hR := fun W => Rune_r l k W hlt hl
        have hok := decodeL_ok (l.drop k) hne
        rw [List.length_drop] at hok
        have AS' : Aside (O = mapG fold (((Lib.decodeL (l.drop k)).1 : Int) :: runes (l.drop (k + (Lib.decodeL (l.drop k)).2))) acc) := by
          show _ = _; rw [AS.out, runes_step _ hne, List.drop_drop]
        clear AS hne
        generalize Lib.decodeL (l.drop k) = d at *
        obtain ⟨r, n⟩ := d
        simp only at hok AS'
        obtain ⟨n1, n2, n3, n4⟩ := hok
        have hM := fun W => Map_r (r : Int) W
        have hF := fun x W h0 h1 => Fold_r x W h0 h1
        have hmr := mapR_rng (r : Int) (by omega) (by omega)
        have hmv : (mapV (r : Int)).1 = (mapR (r : Int)).1 := by unfold mapV mapR; repeat' split
                                                                 all_goals rfl
        rw [← hmv] at hmr
        have HR := Lib.hid hR
        have HM := Lib.hid hM
        have m0 := hmr.1
        have m1 := hmr.2.1
        clear hR hM hmr hmv n4
        unfold mapG at AS'
        generalize mapV (r : Int) = mv at *
        obtain ⟨x, what⟩ := mv
        simp only at m0 m1 AS'
        simp only [mapVV] at HM
        have HF : Hid (∀ W, Calls Tryz.prog 123 #[.int .i32 x] W fun e w' => e = .returned (.int .i32 (foldR x)) ∧ Below W.heap.size W w') := Lib.hid fun W => Fold_r x W m0 m1
        clear hF
        by_cases h2 : what = 2
        · subst h2
          have hO : O = none := by rw [AS'.out]; rfl
          subst hO
          go_wp2_with (first | (go_at_call 121; refine (HR.out _).mono ?_; rintro e w1 ⟨rfl, rfl⟩; simp only [runeV]) | (go_at_call 122; refine (HM.out _).mono ?_; rintro e w2 ⟨rfl, hb2⟩))
          go_ret2
          exact ⟨hS.below.trans (hb2.mono hS.2.2), _, rfl, RunesAt.isNil _⟩
        · have q2 : ((what : Int) == 2) = false := beq_eq_false_iff_ne.2 h2
          by_cases h1 : what = 1
          · have q1 : ((what : Int) == 1) = true := beq_iff_eq.2 h1
            have hO : O = mapG fold (runes (l.drop (k + n))) acc := by rw [AS'.out, if_neg h2, if_pos h1]
            have HOO := Lib.hid hO
            clear hO AS' h1 h2
            go_wp2_with (first | (go_at_call 121; refine (HR.out _).mono ?_; rintro e w1 ⟨rfl, rfl⟩; simp only [runeV]) | (go_at_call 122; refine (HM.out _).mono ?_; rintro e w2 ⟨rfl, hb2⟩))
            go_roundg q
            case measure => omega
            case rel => exact ⟨k + n, acc, by omega, by go_num, by omega, hS.grow hb2, by omega, HOO.out⟩
          · have q1 : ((what : Int) == 1) = false := beq_eq_false_iff_ne.2 h1
            have hO : O = mapG fold (runes (l.drop (k + n))) (acc ++ [if fold then foldR x else x]) := by rw [AS'.out, if_neg h2, if_neg h1]
            have HOO := Lib.hid hO
            clear hO AS' h1 h2
            cases fold
            · go_wp2_with (first | (go_at_call 121; refine (HR.out _).mono ?_; rintro e w1 ⟨rfl, rfl⟩; simp only [runeV]) | (go_at_call 122; refine (HM.out _).mono ?_; rintro e w2 ⟨rfl, hb2⟩; have hS2 := hS.grow hb2) | (at_builtin; refine rns_one (c := x) rfl _ _ rfl rfl hS2 rfl (by omega) ?_; intro v3 w3 hS3 hg3))
              go_roundg q
              case measure => omega
              case rel => exact ⟨k + n, acc ++ [x], by omega, by go_num, by omega, hS3, by simp; omega, by have := HOO.out; show _ = _; simpa using this⟩
            · go_wp2_with (first | (go_at_call 121; refine (HR.out _).mono ?_; rintro e w1 ⟨rfl, rfl⟩; simp only [runeV]) | (go_at_call 122; refine (HM.out _).mono ?_; rintro e w2 ⟨rfl, hb2⟩; have hS2 := hS.grow hb2) | (go_at_call 123; refine (HF.out _).mono ?_; rintro e w4 ⟨rfl, hb4⟩; have hS4 := hS2.grow hb4) | (at_builtin; refine rns_one (c := foldR x) rfl _ _ rfl rfl hS4 rfl (by omega) ?_; intro v3 w3 hS3 hg3))
              go_roundg q
              case measure => omega
              case rel => exact ⟨k + n, acc ++ [foldR x], by omega, by go_num, by omega, hS3, by simp; omega, by have := HOO.out; show _ = _; simpa using this⟩
      · obtain rfl : k = l.length := by omega
        have hO : O = some acc := by rw [AS.out, List.drop_length]; rfl
        subst hO
        have hat := hS.at
        obtain ⟨A0, c0, rfl, _, _⟩ := id hat
        clear AS
        go_wp2_with fail
        go_ret2
        exact ⟨hS.below, _, rfl, hat⟩
end Go.Proofs.YtgpecklibcgifaaGreatDoor
/- Contracts of the document's answer: Single, text, left, right. -/
namespace Go.Proofs.YtgpecklibcgifaaGreatDoor
open Go.RowKit

/-- chanceryref3.Single -/
def singL : List Int → List Int → List Int
  | [], acc => acc
  | x :: t, acc => if x = 32 ∧ acc.getLast? = some 32 then singL t acc else singL t (acc ++ [x])
theorem singL_len : ∀ (t acc : List Int), (singL t acc).length ≤ acc.length + t.length
  | [], acc => by simp [singL]
  | x :: t, acc => by
    rw [singL]
    split
    · have := singL_len t acc; simp; omega
    · have := singL_len t (acc ++ [x]); simp at this ⊢; omega
set_option maxRecDepth 100000 in
set_option maxHeartbeats 2000000 in
theorem Single_r (R : List Int) (v : Value) (w : World) (hR : RunesAt w v R) (hl : R.length ≤ 1099511627776) :
    Calls Tryz.prog 77 #[v] w fun e w' => Below w.heap.size w w' ∧ ∃ v', e = .returned v' ∧ RunesAt w' v' (singL R []) := by
  obtain ⟨A, c, rfl, hc, hx⟩ := hR
  have HX := Lib.hid hx
  clear hx
  generalize hO : singL R [] = O
  have HO := Lib.hid hO
  clear hO
  go_enter Tryz.func77, Tryz.ntmps77
  go_wp2
  go_loopg [3, 4] R.length (fun gk s i wr => ∃ (k : Nat) (acc : List Int), k ≤ R.length ∧ i = .int .i64 k ∧ Aside (k + gk = R.length) ∧ Rns w wr s acc ∧ acc.length ≤ k ∧ Aside (O = singL (R.drop k) acc))
  case atStart => exact ⟨0, [], by omega, rfl, by show _ = _; omega, Rns.nil w, by simp, by show _ = _; rw [← HO.out]; rfl⟩
  case round =>
    obtain ⟨k, acc, hk, rfl, AG, hS, hak, AS⟩ := hrel
    by_cases hlt : k < R.length
    · obtain ⟨q, rfl⟩ : ∃ q, gk = q + 1 := ⟨gk - 1, by have := AG.out; omega⟩
      have AG' : Aside (k + 1 + q = R.length) := by have := AG.out; show _ = _; omega
      obtain ⟨g, o, rfl, hg, hcells⟩ := HX.out.resolve_left (by intro h; rw [h] at hlt; simp at hlt)
      have c0 : wr.cell? ⟨g, o + k, none⟩ = some (.int .i32 R[k]) := (hS.below.cell (p := ⟨g, o + k, none⟩) hg).trans (hcells k hlt)
      have AS' : Aside (O = singL (R[k] :: R.drop (k + 1)) acc) := by show _ = _; rw [AS.out, List.drop_eq_getElem_cons hlt]
      clear AS hcells
      generalize R[k] = x at *
      have hat := hS.at
      obtain ⟨B, cc, rfl, hcc, hy⟩ := hat
      have keep : ∀ y : Int, O = singL (R.drop (k + 1)) (acc ++ [y]) → Aside (O = singL (R.drop (k + 1)) (acc ++ [y])) := fun _ h => h
      by_cases hx32 : x = 32
      · subst hx32
        by_cases hacc : acc = []
        · subst hacc
          have hO : O = singL (R.drop (k + 1)) ([] ++ [32]) := by rw [AS'.out, singL, if_neg (by simp)]
          have HOO := Lib.hid hO
          clear hO AS' hy keep
          simp only [List.length_nil] at hS ⊢
          go_wp2_with (at_builtin; refine rns_one (c := 32) rfl _ _ rfl rfl hS rfl (by simp) ?_; intro v3 w3 hS3 hg3)
          go_roundg q
          case measure => omega
          case rel => exact ⟨k + 1, [] ++ [32], by omega, by go_num, AG'.out, hS3, by simp, HOO.out⟩
        · have hp : 0 < acc.length := List.length_pos_iff.2 hacc
          obtain ⟨g2, o2, rfl, hg2, hcells2⟩ := hy.resolve_left hacc
          obtain ⟨y, hye⟩ : ∃ y, acc[acc.length - 1]'(by omega) = y := ⟨_, rfl⟩
          have hlast : acc.getLast? = some y := by rw [List.getLast?_eq_getElem?, List.getElem?_eq_getElem (by omega), hye]
          have c1 : wr.cell? ⟨g2, o2 + (acc.length - 1), none⟩ = some (.int .i32 y) := by rw [← hye]; exact hcells2 (acc.length - 1) (by omega)
          clear hye
          have hne : ((acc.length : Int) == 0) = false := beq_eq_false_iff_ne.2 (by omega)
          have l0 : (0 : Int) ≤ (acc.length : Int) - 1 := by omega
          have l1 : (acc.length : Int) - 1 < (acc.length : Int) := by omega
          have l2 : ((acc.length : Int) - 1).toNat = acc.length - 1 := by omega
          by_cases h32 : y = 32
          · have hO : O = singL (R.drop (k + 1)) acc := by rw [AS'.out, singL, if_pos ⟨rfl, by rw [hlast, h32]⟩]
            have HOO := Lib.hid hO
            rw [h32] at c1
            clear hO AS' h32 hlast keep hcells2 hy
            go_wp2_with fail
            go_roundg q
            case measure => omega
            case rel => exact ⟨k + 1, acc, by omega, by go_num, AG'.out, hS, by omega, HOO.out⟩
          · have hO : O = singL (R.drop (k + 1)) (acc ++ [32]) := by rw [AS'.out, singL, if_neg (by rw [hlast]; simp [h32])]
            have HOO := Lib.hid hO
            have hnq : ((y : Int) != 32) = true := bne_iff_ne.2 h32
            clear hO AS' h32 hlast keep hcells2 hy
            go_wp2_with (at_builtin; refine rns_one (c := 32) rfl _ _ rfl rfl hS rfl (by omega) ?_; intro v3 w3 hS3 hg3)
            go_roundg q
            case measure => omega
            case rel => exact ⟨k + 1, acc ++ [32], by omega, by go_num, AG'.out, hS3, by simp; omega, HOO.out⟩
      · have hO : O = singL (R.drop (k + 1)) (acc ++ [x]) := by rw [AS'.out, singL, if_neg (fun h => hx32 h.1)]
        have HOO := Lib.hid hO
        have hxq : ((x : Int) != 32) = true := bne_iff_ne.2 hx32
        clear hO AS' hx32 keep hy
        go_wp2_with (at_builtin; refine rns_one (c := x) rfl _ _ rfl rfl hS rfl (by omega) ?_; intro v3 w3 hS3 hg3)
        go_roundg q
        case measure => omega
        case rel => exact ⟨k + 1, acc ++ [x], by omega, by go_num, AG'.out, hS3, by simp; omega, HOO.out⟩
    · obtain rfl : k = R.length := by omega
      have hO : O = acc := by rw [AS.out, List.drop_length]; rfl
      subst hO
      have hat := hS.at
      obtain ⟨A0, c0, rfl, _, _⟩ := id hat
      clear AS
      go_wp2_with fail
      go_ret
      exact ⟨hS.below, _, rfl, hat⟩
set_option maxRecDepth 100000 in
set_option maxHeartbeats 2000000 in
theorem text_r (R : List Int) (v : Value) (w : World) (hR : RunesAt w v R) (hl : R.length ≤ 1099511627776) (hv : ∀ r ∈ R, VR r) :
    Calls Tryz.prog 78 #[v] w fun e w' => e = .returned (.string ⟨(cat R).toArray⟩) ∧ Below w.heap.size w w' := by
  obtain ⟨A, c, rfl, hc, hx⟩ := hR
  have HX := Lib.hid hx
  have HV := Lib.hid hv
  clear hx hv
  have hB0 : Buf w (w.alloc (.cells #[] 5)) (.slice (some ⟨w.heap.size, 0, none⟩) 0 0) [] := by
    refine ⟨⟨rfl, .inr ⟨w.heap.size, 0, #[], (0, 0), rfl, Nat.le_refl _, heap_alloc_new w _, ?_⟩⟩, (Below.refl _ _).alloc (Nat.le_refl _) _, by simp⟩
    simp
    rfl
  go_enter Tryz.func78, Tryz.ntmps78
  go_wp2_with fail
  have hgl : (w.alloc (.cells #[] 5)).heap.size = w.heap.size + 1 := by simp
  go_loopg [3, 4] R.length (fun gk s i wr => ∃ k : Nat, k ≤ R.length ∧ i = .int .i64 k ∧ Aside (k + gk = R.length) ∧ Buf w wr s (cat (R.take k)))
  case atStart => exact ⟨0, by omega, rfl, by show _ = _; omega, by simpa [cat] using hB0⟩
  case round =>
    clear hB0 hgl
    obtain ⟨k, hk, rfl, AG, hS⟩ := hrel
    have hlen : (cat (R.take k)).length ≤ 4 * k := by
      have : ∀ L : List Int, (cat L).length ≤ 4 * L.length := by
        intro L
        induction L with
        | nil => simp [cat]
        | cons r L ih => rw [cat_cons, List.length_append, List.length_cons]; have := (encR_len r).2; omega
      have := this (R.take k)
      rw [List.length_take] at this
      omega
    by_cases hlt : k < R.length
    · obtain ⟨q, rfl⟩ : ∃ q, gk = q + 1 := ⟨gk - 1, by have := AG.out; omega⟩
      have AG' : Aside (k + 1 + q = R.length) := by have := AG.out; show _ = _; omega
      obtain ⟨g, o, rfl, hg, hcells⟩ := HX.out.resolve_left (by intro h; rw [h] at hlt; simp at hlt)
      have c0 : wr.cell? ⟨g, o + k, none⟩ = some (.int .i32 R[k]) := (hS.below.cell (p := ⟨g, o + k, none⟩) hg).trans (hcells k hlt)
      have HSN := Lib.hid (show cat (R.take (k + 1)) = cat (R.take k) ++ encR R[k] by rw [List.take_succ_eq_append_getElem hlt, cat_app]; simp [cat])
      have hP := fun W => PutRune_r R[k] W (HV.out _ (List.getElem_mem hlt))
      have hel := (encR_len R[k]).2
      clear hcells
      generalize R[k] = x at *
      generalize cat (R.take k) = acc at *
      generalize encR x = ex at *
      go_wp2_with (first | (go_at_call 124; refine (hP _).mono ?_; rintro e w2 ⟨rfl, hb2⟩; have hS2 := hS.grow hb2) | (at_builtin; refine buf_text (m := ex) rfl _ _ rfl rfl hS2 rfl (by omega) ?_; intro v3 w3 hS3 hg3))
      go_roundg q
      case measure => omega
      case rel => exact ⟨k + 1, by omega, by go_num, AG'.out, by rw [HSN.out]; exact hS3⟩
    · obtain rfl : k = R.length := by omega
      rw [List.take_length] at hS
      have hst := buf_string hS
      obtain ⟨A0, c0, rfl, _⟩ := hS.len
      have hBB := hS.below
      obtain ⟨out, hout⟩ : ∃ out, cat R = out := ⟨_, rfl⟩
      rw [hout] at hst
      have HOUT := Lib.hid hout
      rw [hout]
      clear hout hS
      go_wp2_with fail
      go_ret
      rw [HOUT.out]
      exact ⟨rfl, hBB⟩
theorem add_off2 (g o j : Nat) : (⟨g, o, none⟩ : Addr).add j = ⟨g, o + j, none⟩ := by unfold Addr.add; split <;> simp_all
theorem slice_tail (g o n c : Nat) (hn : 1 ≤ n) (hc : n ≤ c) (w : World) : ∃ o', (o' = o + 1 ∨ c = 1) ∧ (Instr.slice 77 (.slice (some ⟨g, o, none⟩) n c) (some (.int .i64 1)) none none).run Tryz.prog w = .ok (.slice (some ⟨g, o', none⟩) (n - 1) (c - 1)) w := by
  have h0 : ∀ k : Nat, k ≤ n → (Instr.sliceBounds true n c (some (.int .i64 (k : Int))) none none).run Tryz.prog w = .ok (k, n, c) w := by
    intro k hk
    simp [Instr.sliceBounds, run_sliceBound, hk, hc]
  have h1 : (Instr.sliceBounds true n c (some (.int .i64 1)) none none).run Tryz.prog w = .ok (1, n, c) w := h0 1 hn
  have h2 : (sizeOf 21).run Tryz.prog w = .ok 1 w := by kernel_rfl
  refine ⟨if c - 1 = 0 then o else o + 1, by split <;> omega, ?_⟩
  unfold Instr.slice
  simp only [Sem.run_bind, run_underlying Tryz.underlying77, Result.andThen_ok, h1, h2, Sem.run_pure]
  have ha : (⟨g, o, none⟩ : Addr).add 1 = ⟨g, o + 1, none⟩ := add_off2 g o 1
  by_cases hc1 : c - 1 = 0
  · have : c = 1 := by omega
    subst this
    simp
  · have : c ≠ 1 := by omega
    simp [ha, this]
    omega
theorem slice_init (g o n c : Nat) (hc : n ≤ c) (w : World) (k : Nat) (hk : k ≤ n) : (Instr.slice 77 (.slice (some ⟨g, o, none⟩) n c) none (some (.int .i64 (k : Int))) none).run Tryz.prog w = .ok (.slice (some ⟨g, o, none⟩) k c) w := by
  have h1 : (Instr.sliceBounds true n c none (some (.int .i64 k)) none).run Tryz.prog w = .ok (0, k, c) w := by
    have hkc : k ≤ c := by omega
    simp [Instr.sliceBounds, run_sliceBound, hkc]
  have h2 : (sizeOf 21).run Tryz.prog w = .ok 1 w := by kernel_rfl
  unfold Instr.slice
  simp only [Sem.run_bind, run_underlying Tryz.underlying77, Result.andThen_ok, h1, h2, Sem.run_pure]
  have ha : (⟨g, o, none⟩ : Addr).add 0 = ⟨g, o, none⟩ := add_off2 g o 0
  simp [ha]
def leftL (R : List Int) : List Int := if R.head? = some 32 then R.tail else R
def rightL (R : List Int) : List Int := if R.getLast? = some 32 then R.dropLast else R
set_option maxRecDepth 100000 in
set_option maxHeartbeats 2000000 in
theorem left_r (R : List Int) (v : Value) (w : World) (hR : RunesAt w v R) (hl : R.length ≤ 1099511627776) :
    Calls Tryz.prog 76 #[v] w fun e w' => w = w' ∧ ∃ v', e = .returned v' ∧ RunesAt w v' (leftL R) := by
  obtain ⟨A, c, rfl, hc, hx⟩ := hR
  cases R with
  | nil =>
    clear hx
    simp only [List.length_nil]
    go_enter Tryz.func76, Tryz.ntmps76
    go_wp2_with fail
    go_ret
    exact ⟨rfl, _, rfl, A, c, rfl, by simp [leftL], .inl rfl⟩
  | cons x t =>
    obtain ⟨g, o, rfl, hg, hcells⟩ := hx.resolve_left (by simp)
    have c0 : w.cell? ⟨g, o, none⟩ = some (.int .i32 x) := hcells 0 (by simp)
    have hpos : (0 : Int) < (((x :: t).length : Nat) : Int) := by simp
    have HC := Lib.hid hcells
    have HCC := Lib.hid hc
    clear hcells hx
    by_cases h32 : x = 32
    · subst h32
      have e : leftL (32 :: t) = t := by simp [leftL]
      rw [e]
      obtain ⟨o', ho', hrun⟩ := slice_tail g o (32 :: t).length c (by simp) hc w
      simp only [List.length_cons, Nat.add_sub_cancel] at hrun hpos ⊢
      go_enter Tryz.func76, Tryz.ntmps76
      go_wp2_with fail
      go_ret
      refine ⟨rfl, _, rfl, some ⟨g, o', none⟩, c - 1, rfl, by have := HCC.out; simp at this; omega, ?_⟩
      rcases ho' with rfl | hc1
      · refine .inr ⟨g, o + 1, rfl, hg, fun j hj => ?_⟩
        have := HC.out (j + 1) (by simp; omega)
        rw [show o + (j + 1) = o + 1 + j by omega] at this
        simpa using this
      · left; exact List.eq_nil_of_length_eq_zero (by have := HCC.out; simp at this; omega)
    · have hq : ((x : Int) == 32) = false := beq_eq_false_iff_ne.2 h32
      have e : leftL (x :: t) = x :: t := by simp [leftL, h32]
      rw [e]
      clear h32 e
      go_enter Tryz.func76, Tryz.ntmps76
      go_wp2_with fail
      go_ret
      exact ⟨rfl, _, rfl, _, c, rfl, HCC.out, .inr ⟨g, o, rfl, hg, HC.out⟩⟩
set_option maxRecDepth 100000 in
set_option maxHeartbeats 2000000 in
theorem right_r (R : List Int) (v : Value) (w : World) (hR : RunesAt w v R) (hl : R.length ≤ 1099511627776) :
    Calls Tryz.prog 75 #[v] w fun e w' => w = w' ∧ ∃ v', e = .returned v' ∧ RunesAt w v' (rightL R) := by
  obtain ⟨A, c, rfl, hc, hx⟩ := hR
  by_cases hne : R = []
  · subst hne
    clear hx
    simp only [List.length_nil]
    go_enter Tryz.func75, Tryz.ntmps75
    go_wp2_with fail
    go_ret
    exact ⟨rfl, _, rfl, A, c, rfl, by simp [rightL], .inl rfl⟩
  · obtain ⟨g, o, rfl, hg, hcells⟩ := hx.resolve_left hne
    have hp : 0 < R.length := List.length_pos_iff.2 hne
    obtain ⟨y, hye⟩ : ∃ y, R[R.length - 1]'(by omega) = y := ⟨_, rfl⟩
    have hlast : R.getLast? = some y := by rw [List.getLast?_eq_getElem?, List.getElem?_eq_getElem (by omega), hye]
    have c1 : w.cell? ⟨g, o + (R.length - 1), none⟩ = some (.int .i32 y) := by rw [← hye]; exact hcells (R.length - 1) (by omega)
    have hpos : (0 : Int) < (R.length : Int) := by omega
    have l0 : (0 : Int) ≤ (R.length : Int) - 1 := by omega
    have l1 : (R.length : Int) - 1 < (R.length : Int) := by omega
    have l2 : ((R.length : Int) - 1).toNat = R.length - 1 := by omega
    have HC := Lib.hid hcells
    have HCC := Lib.hid hc
    have HL := Lib.hid hlast
    have hi := slice_init g o R.length c hc w (R.length - 1) (by omega)
    rw [show ((R.length - 1 : Nat) : Int) = (R.length : Int) - 1 by omega] at hi
    clear hcells hx hye hlast
    by_cases h32 : y = 32
    · subst h32
      have e : rightL R = R.dropLast := by unfold rightL; rw [if_pos HL.out]
      rw [e]
      go_enter Tryz.func75, Tryz.ntmps75
      go_wp2_with fail
      go_ret
      refine ⟨rfl, _, rfl, some ⟨g, o, none⟩, c, by rw [List.length_dropLast]; rfl, by rw [List.length_dropLast]; have := HCC.out; omega, .inr ⟨g, o, rfl, hg, fun j hj => ?_⟩⟩
      rw [List.length_dropLast] at hj
      rw [HC.out j (by omega), List.getElem_dropLast]
    · have hq : ((y : Int) == 32) = false := beq_eq_false_iff_ne.2 h32
      have e : rightL R = R := by unfold rightL; rw [if_neg (by rw [HL.out]; simp [h32])]
      rw [e]
      clear h32 e
      go_enter Tryz.func75, Tryz.ntmps75
      go_wp2_with fail
      go_ret
      exact ⟨rfl, _, rfl, _, c, rfl, HCC.out, .inr ⟨g, o, rfl, hg, HC.out⟩⟩
end Go.Proofs.YtgpecklibcgifaaGreatDoor
/- The document's answer to Prepare: it is the program's. -/
namespace Go.Proofs.YtgpecklibcgifaaGreatDoor
open Go.RowKit

theorem mapG_acc (fold : Bool) : ∀ (rs acc : List Int), mapG fold rs acc = (mapG fold rs []).map (acc ++ ·)
  | [], acc => by simp [mapG]
  | r :: rs, acc => by
    rw [mapG, mapG]
    split
    · rfl
    · split
      · exact mapG_acc fold rs acc
      · rw [mapG_acc fold rs (acc ++ _), mapG_acc fold rs ([] ++ _)]
        cases mapG fold rs [] <;> simp
theorem map_v (r : Int) : ((mapR r).2.2 = true ∧ (mapV r).2 = 2) ∨ ((mapR r).2.2 = false ∧ (mapR r).2.1 = false ∧ (mapV r).2 = 1) ∨ ((mapR r).2.2 = false ∧ (mapR r).2.1 = true ∧ (mapV r).2 = 0 ∧ (mapV r).1 = (mapR r).1) := by
  unfold mapR mapV
  repeat' split
  all_goals simp
theorem fold32 (x : Int) : foldR x = 32 ↔ x = 32 := by
  unfold foldR
  repeat' split
  all_goals omega
theorem map_sing (fold : Bool) : ∀ (rs a : List Int), mapRR fold rs a = (mapG fold rs []).map (fun L => singL L a)
  | [], a => rfl
  | r :: rs, a => by
    rcases map_v r with ⟨h1, h2⟩ | ⟨h1, h2, h3⟩ | ⟨h1, h2, h3, h4⟩
    · have hG : mapG fold (r :: rs) [] = none := by rw [mapG, if_pos h2]
      have hs : stepR fold a r = none := by unfold stepR; rw [if_pos h1]
      rw [mapRR, hG, hs]; rfl
    · have hG : mapG fold (r :: rs) [] = mapG fold rs [] := by rw [mapG, if_neg (by omega), if_pos h3]
      have hs : stepR fold a r = some a := by unfold stepR; rw [if_neg (by simp [h1]), if_pos (by simp [h2])]
      rw [mapRR, hG, hs]
      exact map_sing fold rs a
    · have hG : mapG fold (r :: rs) [] = (mapG fold rs []).map (fun L => (if fold then foldR (mapR r).1 else (mapR r).1) :: L) := by
        rw [mapG, if_neg (by omega), if_neg (by omega), h4, mapG_acc]; rfl
      have hs : stepR fold a r = if (mapR r).1 = 32 ∧ a.getLast? = some 32 then some a else some (a ++ [if fold then foldR (mapR r).1 else (mapR r).1]) := by
        unfold stepR; rw [if_neg (by simp [h1]), if_neg (by simp [h2])]
      rw [mapRR, hG, hs, Option.map_map]
      generalize (mapR r).1 = x
      have h32 : ((if fold = true then foldR x else x) = 32) ↔ x = 32 := by cases fold <;> simp [fold32]
      by_cases hc : x = 32 ∧ a.getLast? = some 32
      · rw [if_pos hc]
        have e : ((fun L => singL L a) ∘ fun L => (if fold = true then foldR x else x) :: L) = fun L => singL L a := by
          funext L
          show singL (_ :: L) a = _
          rw [singL, if_pos ⟨h32.2 hc.1, hc.2⟩]
        rw [e]
        exact map_sing fold rs a
      · rw [if_neg hc]
        have e : ((fun L => singL L a) ∘ fun L => (if fold = true then foldR x else x) :: L) = fun L => singL L (a ++ [if fold = true then foldR x else x]) := by
          funext L
          show singL (_ :: L) a = _
          rw [singL, if_neg (fun h => hc ⟨h32.1 h.1, h.2⟩)]
        rw [e]
        exact map_sing fold rs _
theorem trim_lr {L : List Int} (h : NoTwo L) : trimI L = rightL (leftL L) := by
  have hl : (leftL L).head? ≠ some 32 ∧ ∃ a, L = a ++ leftL L ∧ (a = [] ∨ a = [32]) := by
    unfold leftL
    cases L with
    | nil => exact ⟨by simp, [], by simp⟩
    | cons x t =>
      by_cases hx : x = 32
      · subst hx
        simp only [List.head?_cons, if_true, List.tail_cons]
        refine ⟨fun e => ?_, [32], by simp⟩
        apply h 0
        constructor
        · rfl
        · cases t with
          | nil => simp at e
          | cons y t => simpa using e
      · simp only [List.head?_cons, Option.some.injEq, hx, if_false]
        exact ⟨by simp [hx], [], by simp⟩
  obtain ⟨h1, a, h2, h3⟩ := hl
  have hnl : NoTwo (leftL L) := by
    have : L = a ++ leftL L ++ [] := by simpa using h2
    exact NoTwo.infix (this ▸ h)
  generalize leftL L = M at *
  have key : trimI M = rightL M := by
    unfold trimI rightL
    rcases List.eq_nil_or_concat M with rfl | ⟨b, y, rfl⟩
    · rfl
    · rw [List.concat_eq_append] at *
      by_cases hy : y = 32
      · subst hy
        simp only [List.getLast?_append, List.getLast?_singleton, Option.some_or, if_true, List.dropLast_concat, List.reverse_append, List.reverse_singleton, List.singleton_append, List.dropWhile_cons, beq_self_eq_true]
        have hb : b.reverse.head? ≠ some 32 := by
          rw [List.head?_reverse]
          intro e
          rw [List.getLast?_eq_getElem?] at e
          have hlt : b.length - 1 < b.length := (List.getElem?_eq_some_iff.1 e).1
          apply hnl (b.length - 1)
          constructor
          · rw [List.getElem?_append_left hlt]; exact e
          · rw [show b.length - 1 + 1 = b.length by omega, List.getElem?_append_right (Nat.le_refl _)]; simp
        rw [dropW_id 32 b.reverse hb, List.reverse_reverse]
        apply dropW_id
        cases b with
        | nil => simp
        | cons z b => simpa using h1
      · simp only [List.getLast?_append, List.getLast?_singleton, Option.some_or, Option.some.injEq, hy, if_false]
        rw [dropW_id 32 (b ++ [y]).reverse (by simp [hy]), List.reverse_reverse]
        exact dropW_id 32 _ h1
  rw [← key]
  rcases h3 with rfl | rfl
  · rw [h2]; rfl
  · rw [h2]
    unfold trimI
    simp only [List.singleton_append, List.reverse_cons]
    rcases List.eq_nil_or_concat M with rfl | ⟨b, y, rfl⟩
    · decide
    · rw [List.concat_eq_append] at *
      by_cases hall : (b ++ [y]).reverse.dropWhile (· == 32) = []
      · -- then all of M are blanks: but its head is none
        exfalso
        have hd : ∀ x ∈ (b ++ [y]).reverse, (x == 32) = true := by
          rw [dropWhile_nil_iff] at hall
          exact List.all_eq_true.1 hall
        cases hb : b ++ [y] with
        | nil => simp at hb
        | cons z t =>
          rw [hb] at h1
          have := hd z (by rw [hb]; simp)
          apply h1
          simp at this ⊢
          exact this
      · rw [List.dropWhile_append]
        rw [if_neg (by simpa using hall)]
        rw [List.reverse_append]
        simp
def prepG (l : List UInt8) (fold : Bool) : Option (List UInt8) := if Lib.validD l then (mapG fold (runes l) []).map (fun L => if rightL (leftL (singL L [])) = [] ∧ l ≠ [] then [32] else cat (rightL (leftL (singL L [])))) else none
theorem prep_G (l : List UInt8) (fold : Bool) : prepL l fold = prepG l fold := by
  unfold prepL prepG
  cases hv : Lib.validD l
  · unfold mappedL; rw [hv]; rfl
  · rw [mapped_eq l fold hv, map_sing]
    simp only [if_true]
    cases hm : mapG fold (runes l) [] with
    | none => rfl
    | some L =>
      have hm2 : mapRR fold (runes l) [] = some (singL L []) := by rw [map_sing, hm]; rfl
      have hn := map_nice fold (runes l) [] _ (cat_runes _ l (Nat.le_refl _) hv).2 (by simp) (by intro i hi; simp at hi) hm2
      simp only [Option.map_some]
      rw [cat_trim _ (fun r hr => (hn.1 r hr).2.2), trim_lr hn.2]
      by_cases hc : rightL (leftL (singL L [])) = [] ∧ l ≠ []
      · rw [if_pos hc, if_pos ⟨cat_nil.2 hc.1, hc.2⟩]
      · rw [if_neg hc, if_neg (fun h => hc ⟨cat_nil.1 h.1, h.2⟩)]
end Go.Proofs.YtgpecklibcgifaaGreatDoor
/- Contracts of the document's answer: Prepare; letter, digit, Numbers, IsType. -/
namespace Go.Proofs.YtgpecklibcgifaaGreatDoor
open Go.RowKit

theorem mapG_len (fold : Bool) : ∀ (rs acc L : List Int), mapG fold rs acc = some L → L.length ≤ acc.length + rs.length
  | [], acc, L, h => by cases h; simp
  | r :: rs, acc, L, h => by
    rw [mapG] at h
    split at h
    · cases h
    · split at h
      · have := mapG_len fold rs acc L h; simp; omega
      · have := mapG_len fold rs _ L h; simp at this ⊢; omega
theorem leftL_len (L : List Int) : (leftL L).length ≤ L.length := by unfold leftL; split <;> simp
theorem rightL_len (L : List Int) : (rightL L).length ≤ L.length := by unfold rightL; split <;> simp
set_option maxRecDepth 100000 in
set_option maxHeartbeats 2000000 in
theorem Prepare_r (l : List UInt8) (fold : Bool) (w : World) (hl : l.length ≤ 1000000) :
    Calls Tryz.prog 42 #[.string ⟨l.toArray⟩, .bool fold] w fun e w' => e = .returned (strOr 10 (prepL l fold)) ∧ Below w.heap.size w w' := by
  have hM := Mapped_r l fold w (by omega)
  rw [prep_G]
  unfold prepG
  cases hv : Lib.validD l
  · rw [hv] at hM
    simp only [Bool.false_eq_true, if_false, strOr] at hM ⊢
    clear hv
    go_enter Tryz.func42, Tryz.ntmps42
    go_wp2_with (go_at_call 74; refine hM.mono ?_; rintro e w1 ⟨hb1, v, rfl, hR⟩; obtain ⟨A0, c0, rfl, _, _⟩ := hR; simp only [Option.isSome_none])
    go_ret2
    exact ⟨rfl, hb1⟩
  · rw [hv] at hM
    simp only [if_true] at hM ⊢
    cases hm : mapG fold (runes l) [] with
    | none =>
      rw [hm] at hM
      simp only [Option.map_none, strOr]
      clear hv hm
      go_enter Tryz.func42, Tryz.ntmps42
      go_wp2_with (go_at_call 74; refine hM.mono ?_; rintro e w1 ⟨hb1, v, rfl, hR⟩; obtain ⟨A0, c0, rfl, _, _⟩ := hR; simp only [Option.isSome_none])
      go_ret2
      exact ⟨rfl, hb1⟩
    | some L =>
      rw [hm] at hM
      have hm2 : mapRR fold (runes l) [] = some (singL L []) := by rw [map_sing, hm]; rfl
      have hn := map_nice fold (runes l) [] _ (cat_runes _ l (Nat.le_refl _) hv).2 (by simp) (by intro i hi; simp at hi) hm2
      have hLl := mapG_len fold _ _ _ hm
      have hrl := runesF_len l.length l
      have hLl' : L.length ≤ 1000000 := by unfold runes at hLl; simp at hLl; omega
      have hSl := singL_len L []
      simp only [List.length_nil, Nat.zero_add] at hSl
      have hVR : ∀ r ∈ rightL (leftL (singL L [])), VR r := by
        intro r hr
        have h1 : r ∈ leftL (singL L []) := by
          unfold rightL at hr
          split at hr
          · exact (List.dropLast_sublist _).subset hr
          · exact hr
        have h2 : r ∈ singL L [] := by
          unfold leftL at h1
          split at h1
          · exact List.mem_of_mem_tail h1
          · exact h1
        exact (hn.1 r h2).2.2
      have hll := leftL_len (singL L [])
      have hrr := rightL_len (leftL (singL L []))
      have HS := Lib.hid (fun v W (h : RunesAt W v L) => Single_r L v W h (by omega))
      have HLF := Lib.hid (fun v W (h : RunesAt W v (singL L [])) => left_r (singL L []) v W h (by omega))
      have HRG := Lib.hid (fun v W (h : RunesAt W v (leftL (singL L []))) => right_r (leftL (singL L [])) v W h (by omega))
      have HTX := Lib.hid (fun v W (h : RunesAt W v (rightL (leftL (singL L [])))) => text_r _ v W h (by omega) hVR)
      simp only [Option.map_some, strOr]
      clear hv hm hm2 hn hLl hrl hVR hLl' hSl hll hrr
      generalize rightL (leftL (singL L [])) = M at *
      generalize leftL (singL L []) = M2 at *
      generalize singL L [] = M3 at *
      by_cases hc : M = [] ∧ l ≠ []
      · rw [if_pos hc]
        obtain ⟨rfl, hne⟩ := hc
        have hp : (0 : Int) < (l.length : Int) := by have := List.length_pos_iff.2 hne; omega
        clear hne HTX
        go_enter Tryz.func42, Tryz.ntmps42
        go_wp2_with fail
        refine hM.mono ?_
        rintro e w1 ⟨hb1, v, rfl, hR⟩
        change RunesAt w1 v L at hR
        simp only [Option.isSome_some]
        go_wp2_with fail
        refine (HS.out v _ hR).mono ?_
        rintro e w2 ⟨hb2, v2, rfl, hR2⟩
        go_wp2_with fail
        refine (HLF.out v2 _ hR2).mono ?_
        rintro e w3 ⟨rfl, v3, rfl, hR3⟩
        go_wp2_with fail
        refine (HRG.out v3 _ hR3).mono ?_
        rintro e w3 ⟨rfl, v4, rfl, hR4⟩
        obtain ⟨A0, c0, rfl, _, _⟩ := hR4
        simp only [List.length_nil]
        go_wp2_with fail
        go_ret2
        exact ⟨rfl, hb1.trans (hb2.mono hb1.size)⟩
      · rw [if_neg hc]
        by_cases hM0 : M = []
        · subst hM0
          obtain rfl : l = [] := by
            apply Classical.byContradiction
            intro h
            exact hc ⟨rfl, h⟩
          clear hc
          go_enter Tryz.func42, Tryz.ntmps42
          go_wp2_with fail
          refine hM.mono ?_
          rintro e w1 ⟨hb1, v, rfl, hR⟩
          change RunesAt w1 v L at hR
          simp only [Option.isSome_some]
          go_wp2_with fail
          refine (HS.out v _ hR).mono ?_
          rintro e w2 ⟨hb2, v2, rfl, hR2⟩
          go_wp2_with fail
          refine (HLF.out v2 _ hR2).mono ?_
          rintro e w3 ⟨rfl, v3, rfl, hR3⟩
          go_wp2_with fail
          refine (HRG.out v3 _ hR3).mono ?_
          rintro e w3 ⟨rfl, v4, rfl, hR4⟩
          have hT := HTX.out v4 _ hR4
          obtain ⟨A0, c0, rfl, _, _⟩ := hR4
          simp only [List.length_nil] at hT ⊢
          go_wp2_with fail
          refine hT.mono ?_
          rintro e w5 ⟨rfl, hb5⟩
          go_wp2_with fail
          go_ret2
          exact ⟨rfl, (hb1.trans (hb2.mono hb1.size)).trans (hb5.mono (Nat.le_trans hb1.size hb2.size))⟩
        · have hne : ((M.length : Int) == 0) = false := beq_eq_false_iff_ne.2 (by have := List.length_pos_iff.2 hM0; omega)
          clear hc hM0
          go_enter Tryz.func42, Tryz.ntmps42
          go_wp2_with fail
          refine hM.mono ?_
          rintro e w1 ⟨hb1, v, rfl, hR⟩
          change RunesAt w1 v L at hR
          simp only [Option.isSome_some]
          go_wp2_with fail
          refine (HS.out v _ hR).mono ?_
          rintro e w2 ⟨hb2, v2, rfl, hR2⟩
          go_wp2_with fail
          refine (HLF.out v2 _ hR2).mono ?_
          rintro e w3 ⟨rfl, v3, rfl, hR3⟩
          go_wp2_with fail
          refine (HRG.out v3 _ hR3).mono ?_
          rintro e w3 ⟨rfl, v4, rfl, hR4⟩
          have hT := HTX.out v4 _ hR4
          obtain ⟨A0, c0, rfl, _, _⟩ := hR4
          go_wp2_with fail
          refine hT.mono ?_
          rintro e w5 ⟨rfl, hb5⟩
          go_wp2_with fail
          go_ret2
          exact ⟨rfl, (hb1.trans (hb2.mono hb1.size)).trans (hb5.mono (Nat.le_trans hb1.size hb2.size))⟩
end Go.Proofs.YtgpecklibcgifaaGreatDoor
