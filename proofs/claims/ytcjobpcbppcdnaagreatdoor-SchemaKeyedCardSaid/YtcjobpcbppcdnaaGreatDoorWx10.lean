/- Plain: a name of two names with a comma between; SchemaKeyed (chapter 6). -/
import Derived.Test.YtcjobpcbppcdnaaGreatDoorWx8
set_option linter.all false
namespace Go.Proofs.YtcjobpcbppcdnaaGreatDoor

theorem takeW_44 {p : UInt8 → Bool} (hp : p 44 = false) (s : List UInt8) : ∀ t : List UInt8, (t ++ 44 :: s).takeWhile p = t.takeWhile p ∧ (t ++ 44 :: s).dropWhile p = t.dropWhile p ++ 44 :: s
  | [] => by simp [List.takeWhile_cons, List.dropWhile_cons, hp]
  | c :: t => by
    obtain ⟨h1, h2⟩ := takeW_44 hp s t
    rw [List.cons_append, List.takeWhile_cons, List.takeWhile_cons, List.dropWhile_cons, List.dropWhile_cons]
    cases p c
    · simp
    · simp [h1, h2]
theorem hd_44 {c : Int} (hc : c ≠ 44) (s : List UInt8) : ∀ t : List UInt8, hd (t ++ 44 :: s) c = hd t c
  | [] => by
    show (((44 : UInt8).toNat : Int) == c) = false
    rw [beq_eq_false_iff_ne]
    intro e
    exact hc e.symm
  | x :: t => rfl
theorem tail_44 (s : List UInt8) {t : List UInt8} (h : t ≠ []) : (t ++ 44 :: s).tail = t.tail ++ 44 :: s := by
  cases t with
  | nil => exact absurd rfl h
  | cons x t => rfl
theorem hd_ne {t : List UInt8} {c : Int} (h : hd t c = true) : t ≠ [] := by rintro rfl; cases h
theorem blk_44 (s t : List UInt8) : blk (t ++ 44 :: s) = blk t ++ 44 :: s := (takeW_44 (by decide) s t).2
theorem esc_44 (s : List UInt8) {t t' : List UInt8} {x : UInt8} (h : escR t = some (x, t')) : escR (t ++ 44 :: s) = some (x, t' ++ 44 :: s) := by
  cases t with
  | nil => cases h
  | cons c t =>
    rw [escR] at h
    rw [List.cons_append, escR]
    split at h
    · next hc => cases h; rw [if_pos hc]
    · next hc =>
      rw [if_neg hc]
      cases t with
      | nil => cases h
      | cons b t =>
        rw [List.cons_append]
        rw [esc2] at h ⊢
        by_cases hd : digitV c.toNat < 0 ∨ digitV b.toNat < 0
        · rw [if_pos hd] at h; cases h
        · rw [if_neg hd] at h ⊢
          rw [Option.some.injEq, Prod.mk.injEq] at h
          rw [h.1, h.2]
theorem val_44 (s : List UInt8) : ∀ (n m : Nat) (r acc v r' : List UInt8) (long : Nat), n + 1 ≤ m → valL n r acc long = some (v, r') → valL m (r ++ 44 :: s) acc long = some (v, r' ++ 44 :: s)
  | n, 0, _, _, _, _, _, h, _ => by omega
  | n, m + 1, [], acc, v, r', long, _, h => by
    cases n <;> (simp only [valL] at h; cases h; simp [valL])
  | 0, m + 1, _ :: _, _, _, _, _, _, h => by simp only [valL] at h; cases h
  | n + 1, m + 1, c :: t, acc, v, r', long, hm, h => by
    simp only [valL, List.cons_append] at h ⊢
    split at h
    · next hc => cases h; rw [if_pos hc]; rfl
    · next hc =>
      rw [if_neg hc]
      split at h
      · next h2 =>
        rw [if_pos h2]
        cases he : escR t with
        | none => rw [he] at h; cases h
        | some y =>
          obtain ⟨x, t'⟩ := y
          rw [he] at h
          rw [esc_44 s he]
          exact val_44 s n m t' _ _ _ _ (by omega) h
      · next h2 =>
        rw [if_neg h2]
        split at h
        · cases h
        · next h3 =>
          rw [if_neg h3]
          exact val_44 s n m t _ _ _ _ (by omega) h
theorem value_44 (s : List UInt8) {r v r' : List UInt8} (h : valueR r = some (v, r')) : valueR (r ++ 44 :: s) = some (v, r' ++ 44 :: s) := by
  unfold valueR at h ⊢
  rw [hd_44 (by decide)]
  split at h
  · next h35 =>
    rw [if_pos h35, tail_44 s (hd_ne h35)]
    unfold hexR at h ⊢
    obtain ⟨e1, e2⟩ := takeW_44 (p := isHex) (by decide) s r.tail
    rw [e1, e2]
    cases hu : unhexL (r.tail.takeWhile isHex) with
    | none => rw [hu] at h; cases h
    | some u =>
      rw [hu] at h
      simp only at h ⊢
      split at h
      · cases h
      · next hne => cases h; rw [if_neg hne]
  · next h35 =>
    rw [if_neg h35]
    exact val_44 s _ _ _ _ _ _ _ (by simp) h
theorem pair_44 (s : List UInt8) {r r' : List UInt8} {x : List UInt8 × List UInt8} (h : pairR r = some (x, r')) : pairR (r ++ 44 :: s) = some (x, r' ++ 44 :: s) := by
  unfold pairR at h ⊢
  rw [blk_44]
  unfold typR at h ⊢
  obtain ⟨e1, e2⟩ := takeW_44 (p := inTy) (by decide) s (blk r)
  rw [e1, e2]
  by_cases ht : isTypeL ((blk r).takeWhile inTy) = true
  · rw [if_pos ht] at h ⊢
    simp only at h ⊢
    rw [blk_44, hd_44 (by decide)]
    by_cases h61 : hd (blk ((blk r).dropWhile inTy)) 61 = true
    · rw [if_pos h61] at h ⊢
      rw [tail_44 s (hd_ne h61), blk_44]
      cases hv : valueR (blk (blk ((blk r).dropWhile inTy)).tail) with
      | none => rw [hv] at h; cases h
      | some y =>
        obtain ⟨v, r5⟩ := y
        rw [hv] at h
        cases h
        rw [value_44 s hv]
        simp only
        rw [blk_44]
    · rw [if_neg h61] at h; cases h
  · rw [if_neg ht] at h; cases h
theorem partL_44 (s : List UInt8) : ∀ (n m : Nat) (r r' : List UInt8) (acc l : List (List UInt8 × List UInt8)), n ≤ m → partL n r acc = some (l, r') → partL m (r ++ 44 :: s) acc = some (l, r' ++ 44 :: s)
  | 0, m, r, r', acc, l, _, h => by
    rw [partL] at h
    split at h
    · cases h
    · next h43 =>
      cases h
      cases m with
      | zero => rw [partL, hd_44 (by decide), if_neg h43]
      | succ m => rw [partL, hd_44 (by decide), if_neg h43]
  | n + 1, 0, _, _, _, _, hm, _ => by omega
  | n + 1, m + 1, r, r', acc, l, hm, h => by
    rw [partL] at h
    rw [partL, hd_44 (by decide)]
    split at h
    · next h43 =>
      rw [if_pos h43, tail_44 s (hd_ne h43)]
      cases hp : pairR r.tail with
      | none => rw [hp] at h; cases h
      | some y =>
        obtain ⟨x, r2⟩ := y
        rw [hp] at h
        rw [pair_44 s hp]
        exact partL_44 s n m r2 r' _ l (by omega) h
    · next h43 => cases h; rw [if_neg h43]
theorem part_44 (s : List UInt8) {r r' : List UInt8} {l : List (List UInt8 × List UInt8)} (h : partR r = some (l, r')) : partR (r ++ 44 :: s) = some (l, r' ++ 44 :: s) := by
  unfold partR at h ⊢
  cases hp : pairR r with
  | none => rw [hp] at h; cases h
  | some y =>
    obtain ⟨x, r2⟩ := y
    rw [hp] at h
    rw [pair_44 s hp]
    exact partL_44 s _ _ _ _ _ _ (by simp) h
theorem nameL_44 (s : List UInt8) : ∀ (n m : Nat) (r : List UInt8) (acc d : List (List (List UInt8 × List UInt8))), (r ++ 44 :: s).length ≤ m → nameL n r acc = some (d, []) → nameL m (r ++ 44 :: s) acc = nameL (44 :: s).length (44 :: s) d
  | 0, m, r, acc, d, hm, h => by
    rw [nameL] at h
    split at h
    · cases h
    · cases h
      exact nameL_fuel _ _ _ _ (by simpa using hm) (Nat.le_refl _)
  | n + 1, m, r, acc, d, hm, h => by
    rw [nameL] at h
    split at h
    · next h44 =>
      have hne := hd_ne h44
      cases m with
      | zero => simp at hm
      | succ m =>
        rw [nameL]
        have h44' : hd (r ++ 44 :: s) 44 = true := by
          cases r with
          | nil => exact absurd rfl hne
          | cons x t => exact h44
        rw [if_pos h44', tail_44 s hne]
        cases hp : partR r.tail with
        | none => rw [hp] at h; cases h
        | some y =>
          obtain ⟨x, r2⟩ := y
          rw [hp] at h
          rw [part_44 s hp]
          have hl := partR_len hp
          refine nameL_44 s n m r2 _ d ?_ h
          cases r with
          | nil => exact absurd rfl hne
          | cons x t => simp at hl hm ⊢; omega
    · cases h
      exact nameL_fuel _ _ _ _ (by simpa using hm) (Nat.le_refl _)
theorem nameL_pre (pre : List (List (List UInt8 × List UInt8))) : ∀ (n : Nat) (r r' : List UInt8) (acc d : List (List (List UInt8 × List UInt8))), nameL n r acc = some (d, r') → nameL n r (pre ++ acc) = some (pre ++ d, r')
  | 0, r, r', acc, d, h => by
    rw [nameL] at h ⊢
    split at h
    · cases h
    · next hc => cases h; rw [if_neg hc]
  | n + 1, r, r', acc, d, h => by
    rw [nameL] at h ⊢
    split at h
    · next hc =>
      rw [if_pos hc]
      cases hp : partR r.tail with
      | none => rw [hp] at h; cases h
      | some y =>
        obtain ⟨x, r2⟩ := y
        rw [hp] at h
        simp only at h ⊢
        rw [List.append_assoc]
        exact nameL_pre pre n r2 r' _ d h
    · next hc => cases h; rw [if_neg hc]
theorem name_parts {s : List UInt8} {d : List (List (List UInt8 × List UInt8))} (hs : s ≠ []) (h : nameR s = some d) : ∃ p r, partR s = some (p, r) ∧ nameL r.length r [p] = some (d, []) := by
  unfold nameR at h
  rw [if_neg hs] at h
  cases hp : partR s with
  | none => rw [hp] at h; cases h
  | some y =>
    obtain ⟨p, r⟩ := y
    rw [hp] at h
    refine ⟨p, r, rfl, ?_⟩
    unfold nameGo at h
    simp only at h
    cases hn : nameL r.length r [p] with
    | none => rw [hn] at h; cases h
    | some z =>
      obtain ⟨d', r'⟩ := z
      rw [hn] at h
      unfold nameFin at h
      simp only at h
      split at h
      · next e => cases h; rw [e]
      · cases h
theorem name_app {l r : List UInt8} {d1 d2 d : List (List (List UInt8 × List UInt8))} (h1 : nameR l = some d1) (h2 : nameR r = some d2) (h : nameR (l ++ 44 :: r) = some d) : d = d1 ++ d2 := by
  by_cases hl : l = []
  · subst hl
    exfalso
    unfold nameR at h
    rw [if_neg (by simp)] at h
    have : partR ([] ++ 44 :: r) = none := by
      unfold partR pairR typR
      rfl
    rw [this] at h
    cases h
  · obtain ⟨p, r1, hp, hn⟩ := name_parts hl h1
    obtain ⟨p', r1', hp', hn'⟩ := name_parts (s := l ++ 44 :: r) (by simp) h
    rw [part_44 r hp] at hp'
    cases hp'
    rw [nameL_44 r _ _ _ _ _ (Nat.le_refl _) hn] at hn'
    rw [List.length_cons, nameL, if_pos (by rfl)] at hn'
    simp only [List.tail_cons] at hn'
    by_cases hr : r = []
    · subst hr
      have : partR [] = none := by rfl
      rw [this] at hn'
      cases hn'
    · obtain ⟨p2, r2, hp2, hn2⟩ := name_parts hr h2
      rw [hp2] at hn'
      simp only at hn'
      have h3 := nameL_pre d1 _ _ _ _ _ hn2
      have hlen := partR_len hp2
      rw [nameL_fuel r.length r2.length r2 _ (by omega) (Nat.le_refl _), h3] at hn'
      cases hn'
      rfl
theorem parse_name {s : List UInt8} {d : List (List (List UInt8 × List UInt8))} (h : parseL s = (0, d)) : nameR s = some d := by
  unfold parseL at h
  split at h
  · cases h
  · split at h
    · cases h
    · next d' hd =>
      split at h
      · cases h
      · cases h; exact hd
/-- SchemaKeyed, plainly: the key of a key; what it stands under. -/
theorem keyed_law {L : List DefS} (hG : Goods L) {s k : List UInt8} (h : keyS L s = (0, k)) :
    keyS L k = (0, k) ∧ depthS k = depthS s ∧ underS k k = true ∧ underS k [] = true ∧ underS [] k = (k == []) := by
  obtain ⟨d, n, hk⟩ := key_says h
  have hlen : n.length = d.length := by rw [hk.parts, List.length_map]
  refine ⟨key_again hG hk, ?_, ?_, ?_, ?_⟩
  · unfold depthS
    rw [hk.back, hk.parse]
    simp [hlen]
  · unfold underS
    rw [hk.back]
    simp
  · unfold underS
    rw [hk.back, parse_nil]
    simp
  · unfold underS
    rw [hk.back, parse_nil]
    cases hn : n with
    | nil =>
      have hp := hk.print
      rw [hn, print_nil] at hp
      cases hp
      rfl
    | cons p t =>
      have : k ≠ [] := by
        rintro rfl
        have := hk.back
        rw [parse_nil, hn] at this
        cases this
      rw [beq_eq_false_iff_ne.2 this]
      simp
theorem keyed_up {L : List DefS} {l r k up : List UInt8} (h : keyS L (l ++ 44 :: r) = (0, k)) (hu : keyS L r = (0, up)) (hd : 0 ≤ depthS l) : underS k up = true := by
  obtain ⟨d, n, hk⟩ := key_says h
  obtain ⟨d2, n2, hk2⟩ := key_says hu
  have h1 : (parseL l).1 = 0 := by
    unfold depthS at hd
    split at hd
    · next e => exact e
    · omega
  have e1 : parseL l = (0, (parseL l).2) := by rw [← h1]
  have e := name_app (parse_name e1) (parse_name hk2.parse) (parse_name hk.parse)
  have hn : n = (parseL l).2.map (fun p => (partK L p).2) ++ n2 := by rw [hk.parts, e, List.map_append, ← hk2.parts]
  unfold underS
  rw [hk.back, hk2.back, hn]
  simp
end Go.Proofs.YtcjobpcbppcdnaaGreatDoor
/- Contracts: Depth, Under. -/
namespace Go.Proofs.YtcjobpcbppcdnaaGreatDoor
open Go.RowKit

theorem eq_drop {α : Type} [BEq α] [LawfulBEq α] {p q : List α} {k : Nat} (hp : k < p.length) (hq : k < q.length) : (p.drop k == q.drop k) = ((p[k] == q[k]) && (p.drop (k + 1) == q.drop (k + 1))) := by
  rw [List.drop_eq_getElem_cons hp, List.drop_eq_getElem_cons hq]
  rfl
set_option maxRecDepth 10000 in
set_option maxHeartbeats 1000000 in
theorem Depth_c (sv : Value) (x : List UInt8) (w : World) (hw : Env w) :
    Calls Tryz.prog 16 #[sv, .string ⟨x.toArray⟩] w fun e w' => e = .returned (.int .i64 (depthS x)) ∧ Below w.heap.size w w' := by
  have hP := Parse_c x w hw
  unfold depthS
  generalize parseL x = ps at *
  obtain ⟨er, d⟩ := ps
  simp only
  have HP := Lib.hid hP
  clear hP
  by_cases her : er = 0
  · subst her
    rw [if_pos rfl]
    go_enter Tryz.func16, Tryz.ntmps16
    go_wp2_with (go_at_call 33; refine HP.out.mono ?_; rintro e w1 ⟨hb1, v, rfl, hd⟩; obtain ⟨A0, c0, rfl, hc0⟩ := hd.isSlice)
    go_ret
    exact ⟨rfl, hb1⟩
  · have hbn : ((er : Int) != 0) = true := bne_iff_ne.2 her
    rw [if_neg her]
    go_enter Tryz.func16, Tryz.ntmps16
    go_wp2_with (go_at_call 33; refine HP.out.mono ?_; rintro e w1 ⟨hb1, v, rfl, hd⟩; obtain ⟨A0, c0, rfl, hc0⟩ := hd.isSlice)
    go_ret
    exact ⟨rfl, hb1⟩
theorem neq_pair (a b : List UInt8 × List UInt8) : (!decide (a.1 = b.1) || !decide (a.2 = b.2)) = !(a == b) := by
  obtain ⟨a1, a2⟩ := a
  obtain ⟨b1, b2⟩ := b
  by_cases h1 : a1 = b1 <;> by_cases h2 : a2 = b2 <;> simp [h1, h2]
set_option maxRecDepth 100000 in
set_option maxHeartbeats 4000000 in
theorem EqualA_c (p q : List (List UInt8 × List UInt8)) (v1 v2 : Value) (w : World) (hv1 : RdnR w v1 p) (hv2 : RdnR w v2 q) (hl1 : p.length ≤ 1000000) (hl2 : q.length ≤ 1000000) :
    Calls Tryz.prog 40 #[v1, v2] w fun e w' => e = .returned (.bool (p == q)) ∧ Below w.heap.size w w' := by
  obtain ⟨A1, c1, rfl, hc1, hx1⟩ := hv1
  obtain ⟨A2, c2, rfl, hc2, hx2⟩ := hv2
  by_cases hlen : p.length = q.length
  · rw [← hlen]
    obtain ⟨R, hR⟩ : ∃ R, (p == q) = R := ⟨_, rfl⟩
    rw [hR]
    have hself : ((p.length : Int) != (p.length : Int)) = false := by simp
    go_enter Tryz.func40, Tryz.ntmps40
    go_wp2_with fail
    go_loopg [13] p.length (fun gk i wr => ∃ k : Nat, k ≤ p.length ∧ i = .int .i64 k ∧ Aside (k + gk = p.length) ∧ Below w.heap.size w wr ∧ Aside ((p.drop k == q.drop k) = R))
    case atStart => exact ⟨0, by omega, rfl, by show _ = _; omega, Below.refl _ _, hR⟩
    case round =>
      clear hR
      obtain ⟨k, hk, rfl, AG, hB, AR⟩ := hrel
      by_cases hlt : k < p.length
      · obtain ⟨gq, rfl⟩ : ∃ q, gk = q + 1 := ⟨gk - 1, by have := AG.out; omega⟩
        have hltq : k < q.length := by omega
        obtain ⟨g, o, rfl, hg, hcells⟩ := hx1.resolve_left (by intro h; rw [h] at hlt; simp at hlt)
        obtain ⟨g', o', rfl, hg', hcells'⟩ := hx2.resolve_left (by intro h; rw [h] at hltq; simp at hltq)
        have hp1 := hcells k p[k] (List.getElem?_eq_getElem hlt)
        have hq1 := hcells' k q[k] (List.getElem?_eq_getElem hltq)
        have x0 : wr.cell? ⟨g, o + k * 2, none⟩ = some (.string ⟨p[k].1.toArray⟩) := by rw [Nat.mul_comm]; exact (hB.cell (p := ⟨g, o + 2 * k, none⟩) hg).trans hp1.1
        have x1 : wr.cell? ⟨g, o + k * 2 + 1, none⟩ = some (.string ⟨p[k].2.toArray⟩) := by rw [Nat.mul_comm]; exact (hB.cell (p := ⟨g, o + 2 * k + 1, none⟩) hg).trans hp1.2
        have y0 : wr.cell? ⟨g', o' + k * 2, none⟩ = some (.string ⟨q[k].1.toArray⟩) := by rw [Nat.mul_comm]; exact (hB.cell (p := ⟨g', o' + 2 * k, none⟩) hg').trans hq1.1
        have y1 : wr.cell? ⟨g', o' + k * 2 + 1, none⟩ = some (.string ⟨q[k].2.toArray⟩) := by rw [Nat.mul_comm]; exact (hB.cell (p := ⟨g', o' + 2 * k + 1, none⟩) hg').trans hq1.2
        have hstep := AR.out
        rw [eq_drop hlt hltq] at hstep
        have HST := Lib.hid hstep
        have hneq := neq_ava
        have hN := neq_pair p[k] q[k]
        have HB := Lib.hid hB
        clear hcells hcells' hp1 hq1 hstep AR hB
        go_wp2_with fail
        go_quiet (fail)
        have HBN : Below w.heap.size w (wr.drewN nq) := ⟨HB.out.os, HB.out.tape, HB.out.output, HB.out.size, HB.out.block⟩
        generalize wr.drewN nq = W2 at HBN ⊢
        clear x0 x1 y0 y1 hN hneq
        generalize (p[k] == q[k]) = b at *
        cases b
        · have hfin : R = false := by rw [← HST.out]; rfl
          have HF := Lib.hid hfin
          clear hfin
          simp only [Bool.not_false]
          go_wp2_with fail
          go_ret
          exact ⟨by rw [HF.out]; try rfl, HBN⟩
        · have hfin : (p.drop (k + 1) == q.drop (k + 1)) = R := by rw [← HST.out]; rfl
          have HF := Lib.hid hfin
          clear hfin
          simp only [Bool.not_true]
          go_wp2_with fail
          go_roundg gq
          case measure => omega
          case rel => exact ⟨k + 1, by omega, by go_num, by have := AG.out; show _ = _; omega, HBN, HF.out⟩
      · obtain rfl : k = p.length := by omega
        have hfin : R = true := by rw [← AR.out, List.drop_length, hlen, List.drop_length]; rfl
        have HF := Lib.hid hfin
        clear hfin AR hx1 hx2
        go_wp2_with fail
        go_ret
        exact ⟨by rw [HF.out]; try rfl, hB⟩
  · have hne : ((p.length : Int) != (q.length : Int)) = true := bne_iff_ne.2 (by omega)
    have hfin : (p == q) = false := by
      rw [beq_eq_false_iff_ne]
      rintro rfl
      exact hlen rfl
    rw [hfin]
    clear hx1 hx2
    go_enter Tryz.func40, Tryz.ntmps40
    go_wp2_with fail
    go_ret
    exact ⟨rfl, Below.refl _ _⟩
set_option maxRecDepth 10000 in
theorem under1_c (p q : List (List UInt8 × List UInt8)) (v1 v2 : Value) (w : World) (hv1 : RdnR w v1 p) (hv2 : RdnR w v2 q) (hl1 : p.length ≤ 1000000) (hl2 : q.length ≤ 1000000) :
    Calls Tryz.prog 39 #[v1, v2] w fun e w' => e = .returned (.bool (p == q)) ∧ Below w.heap.size w w' := by
  have HC := Lib.hid (EqualA_c p q v1 v2 w hv1 hv2 hl1 hl2)
  clear hv1 hv2
  go_enter Tryz.func39, Tryz.ntmps39
  go_wp2_with (go_at_call 40; refine HC.out.mono ?_; rintro e w1 ⟨rfl, hb⟩)
  go_ret
  exact ⟨rfl, hb⟩
set_option maxRecDepth 100000 in
set_option maxHeartbeats 4000000 in
theorem EqualFuncD_c (d f : List (List (List UInt8 × List UInt8))) (v1 v2 : Value) (w : World) (hv1 : DnR w v1 d) (hv2 : DnR w v2 f) (hl1 : d.length ≤ 1000000) (hl2 : f.length ≤ 1000000) (hp1 : ∀ p ∈ d, p.length ≤ 1000000) (hp2 : ∀ p ∈ f, p.length ≤ 1000000) :
    Calls Tryz.prog 38 #[v1, v2, .func (.func 39) #[] #[]] w fun e w' => e = .returned (.bool (d == f)) ∧ Below w.heap.size w w' := by
  obtain ⟨A1, c1, rfl, hc1, hx1⟩ := hv1
  obtain ⟨A2, c2, rfl, hc2, hx2⟩ := hv2
  by_cases hlen : d.length = f.length
  · rw [← hlen]
    obtain ⟨R, hR⟩ : ∃ R, (d == f) = R := ⟨_, rfl⟩
    rw [hR]
    have hself : ((d.length : Int) != (d.length : Int)) = false := by simp
    have HP1 := Lib.hid hp1
    have HP2 := Lib.hid hp2
    have HLEN := Lib.hid hlen
    clear hp1 hp2 hlen
    go_enter Tryz.func38, Tryz.ntmps38
    go_wp2_with fail
    go_loopg [17] d.length (fun gk i wr => ∃ k : Nat, k ≤ d.length ∧ i = .int .i64 k ∧ Aside (k + gk = d.length) ∧ Below w.heap.size w wr ∧ Aside ((d.drop k == f.drop k) = R))
    case atStart => exact ⟨0, by omega, rfl, by show _ = _; omega, Below.refl _ _, hR⟩
    case round =>
      clear hR
      obtain ⟨k, hk, rfl, AG, hB, AR⟩ := hrel
      by_cases hlt : k < d.length
      · obtain ⟨gq, rfl⟩ : ∃ q, gk = q + 1 := ⟨gk - 1, by have := AG.out; omega⟩
        have hltq : k < f.length := by have := HLEN.out; omega
        obtain ⟨g, o, rfl, hg, hcells⟩ := hx1.resolve_left (by intro h; rw [h] at hlt; simp at hlt)
        obtain ⟨g', o', rfl, hg', hcells'⟩ := hx2.resolve_left (by intro h; rw [h] at hltq; simp at hltq)
        obtain ⟨pv1, e1, r1⟩ := hcells k d[k] (List.getElem?_eq_getElem hlt)
        obtain ⟨pv2, e2, r2⟩ := hcells' k f[k] (List.getElem?_eq_getElem hltq)
        have x0 : wr.cell? ⟨g, o + k, none⟩ = some pv1 := (hB.cell (p := ⟨g, o + k, none⟩) hg).trans e1
        have y0 : wr.cell? ⟨g', o' + k, none⟩ = some pv2 := (hB.cell (p := ⟨g', o' + k, none⟩) hg').trans e2
        have HC := Lib.hid (under1_c d[k] f[k] pv1 pv2 wr (r1.below hB) (r2.below hB) (HP1.out _ (List.getElem_mem hlt)) (HP2.out _ (List.getElem_mem hltq)))
        obtain ⟨B1, b1, rfl, _⟩ := r1
        obtain ⟨B2, b2, rfl, _⟩ := r2
        have hstep := AR.out
        rw [eq_drop hlt hltq] at hstep
        have HST := Lib.hid hstep
        clear hcells hcells' hstep AR e1 e2
        generalize (d[k] == f[k]) = b at *
        cases b
        · have hfin : R = false := by rw [← HST.out]; rfl
          have HF := Lib.hid hfin
          clear hfin
          go_wp2_with (go_at_call 39; refine HC.out.mono ?_; rintro e w2 ⟨rfl, hb2⟩)
          go_ret
          exact ⟨by rw [HF.out]; try rfl, hB.trans (hb2.mono hB.size)⟩
        · have hfin : (d.drop (k + 1) == f.drop (k + 1)) = R := by rw [← HST.out]; rfl
          have HF := Lib.hid hfin
          clear hfin
          go_wp2_with (go_at_call 39; refine HC.out.mono ?_; rintro e w2 ⟨rfl, hb2⟩)
          go_roundg gq
          case measure => omega
          case rel => exact ⟨k + 1, by omega, by go_num, by have := AG.out; show _ = _; omega, hB.trans (hb2.mono hB.size), HF.out⟩
      · obtain rfl : k = d.length := by omega
        have hfin : R = true := by rw [← AR.out, List.drop_length, HLEN.out, List.drop_length]; rfl
        have HF := Lib.hid hfin
        clear hfin AR hx1 hx2
        go_wp2_with fail
        go_ret
        exact ⟨by rw [HF.out]; try rfl, hB⟩
  · have hne : ((d.length : Int) != (f.length : Int)) = true := bne_iff_ne.2 (by omega)
    have hfin : (d == f) = false := by
      rw [beq_eq_false_iff_ne]
      rintro rfl
      exact hlen rfl
    rw [hfin]
    clear hx1 hx2
    go_enter Tryz.func38, Tryz.ntmps38
    go_wp2_with fail
    go_ret
    exact ⟨rfl, Below.refl _ _⟩
end Go.Proofs.YtcjobpcbppcdnaaGreatDoor
/- Contracts: Under. -/
namespace Go.Proofs.YtcjobpcbppcdnaaGreatDoor
open Go.RowKit

theorem slice_dn (A : Option Addr) (n c k : Nat) (hk : k ≤ n) (w : World) : (Instr.slice 64 (.slice A n c) (some (.int .i64 (k : Int))) none none).run Tryz.prog w = .ok (.slice (if c = k then A else A.map (·.add (k * 1))) (n - k) (c - k)) w := by
  have h1 : (Instr.sliceBounds true n c (some (.int .i64 k)) none none).run Tryz.prog w = .ok (k, n, c) w := by
    simp [Instr.sliceBounds, run_sliceBound, hk]
  have h2 : (sizeOf 68).run Tryz.prog w = .ok 1 w := by kernel_rfl
  unfold Instr.slice
  simp only [Sem.run_bind, run_underlying Tryz.underlying64, Result.andThen_ok, h1, h2, Sem.run_pure]
theorem add_at (g o j : Nat) : (⟨g, o, none⟩ : Addr).add j = ⟨g, o + j, none⟩ := by unfold Addr.add; split <;> simp_all
theorem DnR.drop {w : World} {A : Option Addr} {n c : Nat} {d : List (List (List UInt8 × List UInt8))} (h : DnR w (.slice A n c) d) (k : Nat) : n = d.length ∧ DnR w (.slice (if c = k then A else A.map (·.add (k * 1))) (n - k) (c - k)) (d.drop k) := by
  obtain ⟨A', c', e, hc, hx⟩ := h
  cases e
  refine ⟨rfl, _, _, by rw [List.length_drop], by rw [List.length_drop]; omega, ?_⟩
  by_cases hk : d.length ≤ k
  · exact .inl (List.drop_eq_nil_of_le hk)
  · right
    obtain ⟨g, o, rfl, hg, hcells⟩ := hx.resolve_left (by rintro rfl; simp at hk)
    refine ⟨g, o + k, ?_, hg, fun j p hj => ?_⟩
    · rw [if_neg (by omega), Option.map_some, add_at]
      simp
    · rw [List.getElem?_drop] at hj
      have := hcells (k + j) p hj
      rw [← Nat.add_assoc] at this
      exact this
theorem slice_drop {w : World} {A : Option Addr} {n c : Nat} {d : List (List (List UInt8 × List UInt8))} (h : DnR w (.slice A n c) d) (k : Nat) (hk : k ≤ n) : ∃ A', (∀ W, (Instr.slice 64 (.slice A n c) (some (.int .i64 (k : Int))) none none).run Tryz.prog W = .ok (.slice A' (n - k) (c - k)) W) ∧ DnR w (.slice A' (n - k) (c - k)) (d.drop k) :=
  ⟨_, fun W => slice_dn A n c k hk W, (h.drop k).2⟩
theorem parse_small (a : List UInt8) : (parseL a).2.length ≤ 1000000 ∧ ∀ p ∈ (parseL a).2, p.length ≤ 1000000 := by
  by_cases h : (parseL a).1 = 0
  · have htl := parse_fits (s := a) (d := (parseL a).2) (by rw [← h])
    unfold tooLongL at htl
    rw [Bool.or_eq_false_iff] at htl
    refine ⟨by have := htl.1; simp at this; omega, fun p hp => ?_⟩
    have h1 := List.any_eq_false.1 htl.2 p hp
    unfold rdnLongB at h1
    simp only [Bool.or_eq_true, decide_eq_true_eq, not_or] at h1
    omega
  · have : (parseL a).2 = [] := by
      unfold parseL at h ⊢
      split
      · rfl
      · next h1 =>
        rw [if_neg h1] at h
        split
        · rfl
        · next d hd =>
          rw [hd] at h
          simp only at h
          split
          · rfl
          · next h2 => rw [if_neg h2] at h; exact absurd rfl h
    rw [this]
    simp
set_option maxRecDepth 10000 in
set_option maxHeartbeats 2000000 in
theorem Under_c (sv : Value) (a b : List UInt8) (w : World) (hw : Env w) :
    Calls Tryz.prog 17 #[sv, .string ⟨a.toArray⟩, .string ⟨b.toArray⟩] w fun e w' => e = .returned (.bool (underS a b)) ∧ Below w.heap.size w w' := by
  have hPa := Parse_c a w hw
  have hPb := fun (W : World) (h : Below w.heap.size w W) => Parse_c b W (hw.keep h)
  have hla : (parseL a).2.length ≤ 1000000 ∧ ∀ p ∈ (parseL a).2, p.length ≤ 1000000 := parse_small a
  have hlb : (parseL b).2.length ≤ 1000000 ∧ ∀ p ∈ (parseL b).2, p.length ≤ 1000000 := parse_small b
  unfold underS
  generalize parseL a = pa at *
  generalize parseL b = pb at *
  obtain ⟨ea, da⟩ := pa
  obtain ⟨eb, db⟩ := pb
  simp only at hla hlb ⊢
  have HPa := Lib.hid hPa
  have HPb := Lib.hid hPb
  have HLA := Lib.hid hla.2
  have HLB := Lib.hid hlb.2
  have la := hla.1
  have lb := hlb.1
  have hmf : ∀ (fn : Fn) (first cap : Array Value) (w : World), (Instr.makeFunc fn first cap).run Tryz.prog w = .ok (.func fn first cap) w := fun _ _ _ _ => rfl
  clear hPa hPb hla hlb hw
  by_cases he : ea = 0
  · subst he
    by_cases hf : eb = 0
    · subst hf
      by_cases hl : db.length ≤ da.length
      · rw [decide_eq_true hl]
        show Calls _ _ _ _ fun e w' => e = .returned (.bool (da.drop (da.length - db.length) == db)) ∧ _
        have hnl : ¬ (da.length : Int) < (db.length : Int) := by omega
        have hsub : IntKind.i64.wrap ((da.length : Int) - (db.length : Int)) = ((da.length - db.length : Nat) : Int) := by rw [IntWalk.i64_in _ (by omega)]; omega
        have hdl : (da.drop (da.length - db.length)).length ≤ 1000000 := by rw [List.length_drop]; omega
        have HDP : Hid (∀ p ∈ da.drop (da.length - db.length), p.length ≤ 1000000) := Lib.hid fun p hp => HLA.out p (List.mem_of_mem_drop hp)
        obtain ⟨k, hk⟩ : ∃ k, da.length - db.length = k := ⟨_, rfl⟩
        have hkl : k ≤ da.length := by omega
        rw [hk] at hsub hdl HDP ⊢
        clear hk
        have HEQ : Hid (∀ (v1 v2 : Value) (W : World), DnR W v1 (da.drop k) → DnR W v2 db → Calls Tryz.prog 38 #[v1, v2, .func (.func 39) #[] #[]] W fun e w' => e = .returned (.bool (da.drop k == db)) ∧ Below W.heap.size W w') := Lib.hid fun v1 v2 W h1 h2 => EqualFuncD_c _ _ v1 v2 W h1 h2 hdl lb HDP.out HLB.out
        generalize (da.drop k == db) = R at HEQ ⊢
        go_enter Tryz.func17, Tryz.ntmps17
        go_wp2_with (first | (go_at_call 33; (with_reducible refine HPa.out.mono ?_); rintro e w1 ⟨hb1, v1, rfl, hd1⟩; obtain ⟨A1, c1, rfl, hc1⟩ := hd1.isSlice; obtain ⟨B1, hsl, hdr⟩ := slice_drop hd1.reads k hkl; have HDR := Lib.hid hdr; clear hdr) | (go_at_call 33; (with_reducible refine (HPb.out _ hb1).mono ?_); rintro e w2 ⟨hb2, v2, rfl, hd2⟩; obtain ⟨A2, c2, rfl, hc2⟩ := hd2.isSlice; have HR2 := Lib.hid hd2.reads; have hB2 := hb1.trans (hb2.mono hb1.size)) | (go_at_call 38; refine (HEQ.out _ _ _ (HDR.out.below hb2) HR2.out).mono ?_; rintro e w3 ⟨rfl, hb3⟩))
        all_goals
          go_ret
          exact ⟨rfl, hB2.trans (hb3.mono hB2.size)⟩
      · rw [decide_eq_false hl]
        have hnl : (da.length : Int) < (db.length : Int) := by omega
        go_enter Tryz.func17, Tryz.ntmps17
        go_wp2_with (first | (go_at_call 33; (with_reducible refine HPa.out.mono ?_); rintro e w1 ⟨hb1, v1, rfl, hd1⟩; obtain ⟨A1, c1, rfl, hc1⟩ := hd1.isSlice) | (go_at_call 33; (with_reducible refine (HPb.out _ hb1).mono ?_); rintro e w2 ⟨hb2, v2, rfl, hd2⟩; obtain ⟨A2, c2, rfl, hc2⟩ := hd2.isSlice; have hB2 := hb1.trans (hb2.mono hb1.size)))
        all_goals
          go_ret
          exact ⟨rfl, hB2⟩
    · have hbn : ((eb : Int) != 0) = true := bne_iff_ne.2 hf
      have hbe : (eb == 0) = false := beq_eq_false_iff_ne.2 hf
      have hfin : ((0 : Int) == 0 && eb == 0 && decide (db.length ≤ da.length) && (da.drop (da.length - db.length) == db)) = false := by rw [hbe]; rfl
      rw [hfin]
      clear hfin hbe
      go_enter Tryz.func17, Tryz.ntmps17
      go_wp2_with (first | (go_at_call 33; (with_reducible refine HPa.out.mono ?_); rintro e w1 ⟨hb1, v1, rfl, hd1⟩; obtain ⟨A1, c1, rfl, hc1⟩ := hd1.isSlice) | (go_at_call 33; (with_reducible refine (HPb.out _ hb1).mono ?_); rintro e w2 ⟨hb2, v2, rfl, hd2⟩; obtain ⟨A2, c2, rfl, hc2⟩ := hd2.isSlice; have hB2 := hb1.trans (hb2.mono hb1.size)))
      all_goals
        go_ret
        exact ⟨rfl, hB2⟩
  · have hbn : ((ea : Int) != 0) = true := bne_iff_ne.2 he
    have hbe : (ea == 0) = false := beq_eq_false_iff_ne.2 he
    have hfin : (ea == 0 && eb == 0 && decide (db.length ≤ da.length) && (da.drop (da.length - db.length) == db)) = false := by rw [hbe]; rfl
    rw [hfin]
    clear hfin hbe
    go_enter Tryz.func17, Tryz.ntmps17
    go_wp2_with (first | (go_at_call 33; (with_reducible refine HPa.out.mono ?_); rintro e w1 ⟨hb1, v1, rfl, hd1⟩; obtain ⟨A1, c1, rfl, hc1⟩ := hd1.isSlice) | (go_at_call 33; (with_reducible refine (HPb.out _ hb1).mono ?_); rintro e w2 ⟨hb2, v2, rfl, hd2⟩; obtain ⟨A2, c2, rfl, hc2⟩ := hd2.isSlice; have hB2 := hb1.trans (hb2.mono hb1.size)))
    all_goals
      go_ret
      exact ⟨rfl, hB2⟩
end Go.Proofs.YtcjobpcbppcdnaaGreatDoor
/- Contracts: light, made, has (chapter 6's law); rows of texts at any place. -/
namespace Go.Proofs.YtcjobpcbppcdnaaGreatDoor
open Go.RowKit

/-- Texts as they read, at any place. -/
def TextsA (w : World) (v : Value) (xs : List (List UInt8)) : Prop :=
  (xs = [] ∧ v = .slice none 0 0) ∨ ∃ (a : Addr) (c : Nat), v = .slice (some a) xs.length c ∧ xs.length ≤ c ∧ ∀ j (hj : j < xs.length), w.cell? (a.add j) = some (.string ⟨xs[j].toArray⟩)
theorem addr_block (a : Addr) (j : Nat) : (a.add j).block = a.block := by unfold Addr.add; split <;> rfl
theorem TextsA.below {w w' : World} {v : Value} {xs : List (List UInt8)} (h : TextsA w v xs) (hb : Below w.heap.size w w') : TextsA w' v xs := by
  rcases h with h | ⟨a, c, rfl, hc, hx⟩
  · exact .inl h
  · exact .inr ⟨a, c, rfl, hc, fun j hj => (hb.cell (cell_lt (hx j hj))).trans (hx j hj)⟩
theorem texts_toA {w : World} {v : Value} {xs : List (List UInt8)} (h : Texts w v xs) : TextsA w v xs := by
  rcases h with ⟨rfl, rfl⟩ | ⟨b, c, rfl, hc, hlt, hx⟩
  · exact .inl ⟨rfl, rfl⟩
  · exact .inr ⟨⟨b, 0, none⟩, c, rfl, hc, fun j hj => by rw [add_off]; exact hx j hj⟩
theorem TextsA.at {w : World} {v : Value} {xs : List (List UInt8)} (h : TextsA w v xs) : ∃ A c, v = .slice A xs.length c ∧ xs.length ≤ c ∧ (∀ j (hj : j < xs.length), ∃ a, A = some a ∧ w.cell? (a.add j) = some (.string ⟨xs[j].toArray⟩)) := by
  rcases h with ⟨rfl, rfl⟩ | ⟨a, c, rfl, hc, hcell⟩
  · exact ⟨_, _, rfl, Nat.zero_le _, fun j hj => by simp at hj⟩
  · exact ⟨_, _, rfl, hc, fun j hj => ⟨a, rfl, hcell j hj⟩⟩
theorem own_moreA {ops : Array Oper} {rest : List Oper} {o : Oper} {a : Act} {Q : Exit → Act → World → Prop} {w : World} (hgd : o.guard = none) (s x : Operand) (ho : o.op = .call { callee := .builtin .append, args := #[s, x], argTypes := #[22, 22] })
    {v xv : Value} {xs ys : List (List UInt8)} {B : Nat} (hs : a.eval s = v) (hb : Own B w v xs)
    (hx : a.eval x = xv) (hy : TextsA w xv ys) (hlen : xs.length + ys.length < 4398046511104)
    (h : ∀ v' w', Own B w' v' (xs ++ ys) → w.grownBy w' v.ownBlock → wpList Tryz.prog ops Q rest (a.put o.dst v') w') : wpList Tryz.prog ops Q (o :: rest) a w := by
  obtain ⟨i, h1, h2, h3, h4⟩ := infoStr
  rcases hy with ⟨rfl, rfl⟩ | ⟨b, c, rfl, hc, hcell⟩
  · refine wpList_append_own_none hgd s x 22 ho B 9 i 1 Tryz.underlying22 h1 v _ _ hs hb.1 hx ?_
    exact h v w (by simpa using hb) (World.grownBy.refl _ _)
  · refine wpList_append_own _ hgd s x 22 ho B 9 i (.string ⟨#[]⟩) 1 16 Tryz.underlying22 h1 h2 h3 h4 rfl (by decide) v _ _ hs hb.1 b ys.length c (ys.map strV) hx (by simp) ?_ ?_ (by unfold maxLen; omega) (by omega) hb.2 ?_
    · intro j u hj
      have hjl : j < ys.length := by simpa using (List.getElem?_eq_some_iff.1 hj).1
      rw [hcell j hjl]
      simp [hjl] at hj
      rw [← hj]; rfl
    · intro u hu
      simp at hu
      obtain ⟨q, _, rfl⟩ := hu
      rfl
    · intro v' w' ho' hg _
      exact h v' w' ⟨by simpa using ho', Nat.le_trans hb.2 hg.size⟩ hg
theorem texts_apart {w w' : World} {v : Value} {x y : List UInt8} {xs : List (List UInt8)} {k : Nat} (h : Texts w v (x :: xs)) (hk : w.cell? ⟨k, 0, none⟩ = some (.string ⟨y.toArray⟩)) (hne : x ≠ y) (hg : w.grownBy w' (some k)) : Texts w' v (x :: xs) := by
  rcases h with ⟨h, _⟩ | ⟨b, c, rfl, hc, hlt, hx⟩
  · cases h
  · have h0 := hx 0 (by simp)
    have hbk : b ≠ k := by
      rintro rfl
      rw [hk] at h0
      simp at h0
      exact hne h0.symm
    refine .inr ⟨b, c, rfl, hc, Nat.lt_of_lt_of_le hlt hg.size, fun j hj => ?_⟩
    rw [World.cell?_of_block (w := w) (w' := w') (a := ⟨b, j, none⟩) (hg.block b hlt (by intro e; exact hbk (Option.some.inj e)))]
    exact hx j hj
theorem bases_differ : bA0 ≠ bC0 := by decide
/-- How many bytes some texts have together. -/
def sumL (xs : List (List UInt8)) : Nat := (xs.map List.length).sum
def lightL (xa xc : List (List UInt8)) : Bool := decide (xa.length + xc.length ≤ 320) && decide (sumL xa + sumL xc ≤ 40000)
theorem sum_succ {xs : List (List UInt8)} {k : Nat} (h : k < xs.length) : sumL (xs.take (k + 1)) = sumL (xs.take k) + xs[k].length := by
  unfold sumL
  rw [List.take_succ_eq_append_getElem h, List.map_append, List.sum_append]
  simp
theorem sum_take (xs : List (List UInt8)) : ∀ k, sumL (xs.take k) ≤ sumL xs := by
  intro k
  have : xs = xs.take k ++ xs.drop k := (List.take_append_drop k xs).symm
  unfold sumL
  conv => rhs; rw [this]
  rw [List.map_append, List.sum_append]
  omega
theorem sum_mem {xs : List (List UInt8)} {x : List UInt8} (h : x ∈ xs) : x.length ≤ sumL xs := by
  unfold sumL
  induction xs with
  | nil => simp at h
  | cons y t ih =>
    rw [List.map_cons, List.sum_cons]
    rcases List.mem_cons.1 h with rfl | h
    · omega
    · have := ih h; omega
set_option maxRecDepth 100000 in
set_option maxHeartbeats 4000000 in
theorem light_c (xa xc : List (List UInt8)) (va vb : Value) (w : World) (hva : TextsA w va xa) (hvb : TextsA w vb xc) (hsz : xa.length + sumL xa + (xc.length + sumL xc) ≤ 1048576) :
    Calls Tryz.prog 10 #[va, vb] w fun e w' => e = .returned (.bool (lightL xa xc)) ∧ w = w' := by
  obtain ⟨Aa, ca, rfl, hca, hcellA⟩ := hva.at
  obtain ⟨Ac, cc, rfl, hcc, hcellC⟩ := hvb.at
  have HCA := Lib.hid hcellA
  have HCC := Lib.hid hcellC
  obtain ⟨R, hR⟩ : ∃ R, lightL xa xc = R := ⟨_, rfl⟩
  rw [hR]
  have HR0 := Lib.hid hR
  clear hva hvb hcellA hcellC hR
  go_enter Tryz.func10, Tryz.ntmps10
  go_wp2_with fail
  go_loopg [5, 6] xa.length (fun gk n i wr => ∃ k : Nat, k ≤ xa.length ∧ n = .int .i64 (sumL (xa.take k) : Nat) ∧ i = .int .i64 k ∧ Aside (k + gk = xa.length) ∧ w = wr)
  case atStart => exact ⟨0, Nat.zero_le _, rfl, rfl, by show _ = _; omega, rfl⟩
  case round =>
    obtain ⟨k, hk, rfl, rfl, AG, rfl⟩ := hrel
    by_cases hlt : k < xa.length
    · obtain ⟨q, rfl⟩ : ∃ q, gk = q + 1 := ⟨gk - 1, by have := AG.out; omega⟩
      obtain ⟨a, rfl, ck⟩ := HCA.out k hlt
      have h1 := sum_succ hlt
      have h2 := sum_take xa (k + 1)
      have HS := Lib.hid h1
      obtain ⟨m, hm⟩ : ∃ m, sumL (xa.take k) = m := ⟨_, rfl⟩
      obtain ⟨y, hy⟩ : ∃ y, xa[k] = y := ⟨_, rfl⟩
      rw [hm, hy] at h1
      rw [hy] at ck
      rw [hm]
      have hml : m + y.length ≤ 1048576 := by omega
      have HE := Lib.hid h1
      clear h1 h2 hm hy
      go_wp2_with fail
      go_roundg q
      case measure => omega
      case rel => exact ⟨k + 1, by omega, by rw [HE.out]; go_num, by go_num, by have := AG.out; show _ = _; omega, rfl⟩
    · obtain rfl : k = xa.length := by omega
      rw [List.take_length]
      have hm0 : sumL xa ≤ 1048576 := by omega
      clear HCA AG
      go_wp2_with fail
      go_loopg [5, 7] xc.length (fun gk n i wr => ∃ k : Nat, k ≤ xc.length ∧ n = .int .i64 (sumL xa + sumL (xc.take k) : Nat) ∧ i = .int .i64 k ∧ Aside (k + gk = xc.length) ∧ w = wr)
      case atStart => exact ⟨0, Nat.zero_le _, rfl, rfl, by show _ = _; omega, rfl⟩
      case round =>
        obtain ⟨k2, hk2, rfl, rfl, AG, rfl⟩ := hrel
        by_cases hlt : k2 < xc.length
        · obtain ⟨q, rfl⟩ : ∃ q, gk = q + 1 := ⟨gk - 1, by have := AG.out; omega⟩
          obtain ⟨a, rfl, ck⟩ := HCC.out k2 hlt
          have h1 := sum_succ hlt
          have h2 := sum_take xc (k2 + 1)
          obtain ⟨m, hm⟩ : ∃ m, sumL xa + sumL (xc.take k2) = m := ⟨_, rfl⟩
          obtain ⟨y, hy⟩ : ∃ y, xc[k2] = y := ⟨_, rfl⟩
          rw [hy] at h1 ck
          have h3 : sumL xa + sumL (xc.take (k2 + 1)) = m + y.length := by omega
          have hml : m + y.length ≤ 1048576 := by omega
          rw [hm]
          have HE := Lib.hid h3
          clear h1 h2 h3 hm hy
          go_wp2_with fail
          go_roundg q
          case measure => omega
          case rel => exact ⟨k2 + 1, by omega, by rw [HE.out]; go_num, by go_num, by have := AG.out; show _ = _; omega, rfl⟩
        · obtain rfl : k2 = xc.length := by omega
          rw [List.take_length]
          clear HCC AG
          have hl : R = (decide (xa.length + xc.length ≤ 320) && decide (sumL xa + sumL xc ≤ 40000)) := HR0.out.symm
          obtain ⟨n2, hn2⟩ : ∃ n, sumL xa + sumL xc = n := ⟨_, rfl⟩
          rw [hn2] at hl ⊢
          have hb2 : n2 ≤ 1048576 := by omega
          clear hn2 HR0
          by_cases h320 : xa.length + xc.length ≤ 320
          · have g1 : (xa.length : Int) + (xc.length : Int) ≤ 320 := by omega
            rw [decide_eq_true h320] at hl
            by_cases h4 : n2 ≤ 40000
            · rw [decide_eq_true h4] at hl
              have g2 : (n2 : Int) ≤ 40000 := by omega
              have HL := Lib.hid hl
              clear hl
              go_wp2_with fail
              all_goals
                go_ret
                exact ⟨by rw [HL.out]; rfl, rfl⟩
            · rw [decide_eq_false h4] at hl
              have g2 : ¬ (n2 : Int) ≤ 40000 := by omega
              have HL := Lib.hid hl
              clear hl
              go_wp2_with fail
              all_goals
                go_ret
                exact ⟨by rw [HL.out]; rfl, rfl⟩
          · have g1 : ¬ (xa.length : Int) + (xc.length : Int) ≤ 320 := by omega
            rw [decide_eq_false h320] at hl
            have HL := Lib.hid hl
            clear hl
            go_wp2_with fail
            all_goals
              go_ret
              exact ⟨by rw [HL.out]; rfl, rfl⟩
/-- What made hands back. -/
def MadeRet (w : World) (o : (Int × Nat) ⊕ List DefS) (e : Ending) (w' : World) : Prop := Below w.heap.size w w' ∧ match o with
  | .inl _ => e = .returned (.pointer none)
  | .inr L => ∃ s ps, e = .returned (ptrV s) ∧ SchAt w' s ps L
theorem readAll_err {na i : Nat} {xs : List (List UInt8)} {L : List DefS} {x : Int × Nat} (h : readAll na i xs L = .inl x) : x.1 ≠ 0 := by
  induction xs generalizing i L with
  | nil => rw [readAll] at h; cases h
  | cons s xs ih =>
    rw [readAll] at h
    split at h
    · cases h; simp
    · split at h
      · exact ih h
      · cases h; simp
theorem newL_err {a c : List (List UInt8)} {x : Int × Nat} (h : newL a c = .inl x) : x.1 ≠ 0 := by
  unfold newL at h
  split at h
  · cases h; simp
  · split at h
    · next y hr => cases h; exact readAll_err hr
    · split at h
      · cases h; simp
      · split at h
        · cases h; simp
        · split at h
          · cases h; simp
          · cases h
set_option maxRecDepth 100000 in
set_option maxHeartbeats 4000000 in
theorem made_c (xa xc : List (List UInt8)) (va vb : Value) (w : World) (hw : Env w) (hva : TextsA w va xa) (hvb : TextsA w vb xc) (hl : xa.length + xc.length ≤ 1000) (hs : ∀ x ∈ xa ++ xc, x.length ≤ 1000000) :
    Calls Tryz.prog 11 #[va, vb] w (MadeRet w (newL (baseA ++ xa) (baseC ++ xc))) := by
  have HBs := Lib.hid (Base_c w)
  have hsA : ∀ x ∈ (baseA ++ xa) ++ (baseC ++ xc), x.length ≤ 1000000 := by
    intro x hx
    have hb : ∀ x ∈ baseA ++ baseC, x.length ≤ 1000000 := fun x hx => Nat.le_trans (base_short x hx) (by decide)
    simp only [List.mem_append] at hx hb hs
    rcases hx with (h | h) | (h | h)
    · exact hb x (.inl h)
    · exact hs x (.inl h)
    · exact hb x (.inr h)
    · exact hs x (.inr h)
  have HNw : Hid (∀ (u1 u2 : Value) (W : World), Below w.heap.size w W → Texts W u1 (baseA ++ xa) → Texts W u2 (baseC ++ xc) → Calls Tryz.prog 9 #[u1, u2] W (NewRet W (newL (baseA ++ xa) (baseC ++ xc)))) := Lib.hid fun u1 u2 W h h1 h2 => New_c u1 u2 _ _ W (hw.keep h) h1 h2 (by simp [baseA_len, baseC_len]; omega) hsA
  have HA := Lib.hid hva
  have HC := Lib.hid hvb
  have HER := Lib.hid (fun x => newL_err (a := baseA ++ xa) (c := baseC ++ xc) (x := x))
  clear hva hvb hsA hs hw
  generalize newL (baseA ++ xa) (baseC ++ xc) = R at HNw HER ⊢
  obtain ⟨Aa, na, ca, rfl⟩ : ∃ A n c, va = .slice A n c := by obtain ⟨A, c, h, _⟩ := HA.out.at; exact ⟨A, _, c, h⟩
  obtain ⟨Ac, nc, cc, rfl⟩ : ∃ A n c, vb = .slice A n c := by obtain ⟨A, c, h, _⟩ := HC.out.at; exact ⟨A, _, c, h⟩
  cases R with
  | inl x =>
    obtain ⟨er, i⟩ := x
    have hne := HER.out _ rfl
    simp only at hne
    have hq : ((er : Int) != 0) = true := bne_iff_ne.2 hne
    clear HER hne
    go_enter Tryz.func11, Tryz.ntmps11
    go_wp2_with (first | (go_at_call 7; refine HBs.out.mono ?_; rintro e w1 ⟨rfl, hb1, hA1, hC1⟩; have ha1 := HA.out.below hb1) | (at_builtin; refine own_moreA rfl _ _ rfl rfl hA1 rfl ha1 (by rw [baseA_len]; omega) ?_; intro v2 w2 hO2 hg2; have hB2 := hb1.grown hg2 hb1.size (fun k hk => (hA1.lt k hk).1); have hC2 := hC1.keep hg2 (fun k hk => by have : w.heap.size = k := Option.some.inj hk; omega); have hc2 := HC.out.below hB2) | (at_builtin; refine own_moreA rfl _ _ rfl rfl hC2 rfl hc2 (by rw [baseC_len]; omega) ?_; intro v3 w3 hO3 hg3; have hB3 := hB2.grown hg3 hB2.size (fun k hk => by have := (hC2.lt k hk).1; omega); have ht3 := texts_apart (x := bA0) (y := bC0) hO2.texts (texts_at2 hC2.texts (j := 0) (by decide)) bases_differ hg3) | (go_at_call 9; refine (HNw.out _ _ _ hB3 ht3 hO3.texts).mono ?_; rintro e w4 ⟨hb4, rfl⟩))
    all_goals
      go_ret
      exact ⟨hB3.trans (hb4.mono hB3.size), rfl⟩
  | inr L =>
    clear HER
    go_enter Tryz.func11, Tryz.ntmps11
    go_wp2_with (first | (go_at_call 7; refine HBs.out.mono ?_; rintro e w1 ⟨rfl, hb1, hA1, hC1⟩; have ha1 := HA.out.below hb1) | (at_builtin; refine own_moreA rfl _ _ rfl rfl hA1 rfl ha1 (by rw [baseA_len]; omega) ?_; intro v2 w2 hO2 hg2; have hB2 := hb1.grown hg2 hb1.size (fun k hk => (hA1.lt k hk).1); have hC2 := hC1.keep hg2 (fun k hk => by have : w.heap.size = k := Option.some.inj hk; omega); have hc2 := HC.out.below hB2) | (at_builtin; refine own_moreA rfl _ _ rfl rfl hC2 rfl hc2 (by rw [baseC_len]; omega) ?_; intro v3 w3 hO3 hg3; have hB3 := hB2.grown hg3 hB2.size (fun k hk => by have := (hC2.lt k hk).1; omega); have ht3 := texts_apart (x := bA0) (y := bC0) hO2.texts (texts_at2 hC2.texts (j := 0) (by decide)) bases_differ hg3) | (go_at_call 9; refine (HNw.out _ _ _ hB3 ht3 hO3.texts).mono ?_; rintro e w4 ⟨hb4, s, ps, rfl, hS4⟩))
    all_goals
      go_ret
      exact ⟨hB3.trans (hb4.mono hB3.size), s, ps, rfl, hS4⟩
set_option maxRecDepth 100000 in
set_option maxHeartbeats 4000000 in
theorem has_c (xs : List (List UInt8)) (x : List UInt8) (v : Value) (w : World) (hv : TextsA w v xs) (hl : xs.length ≤ 1000000) :
    Calls Tryz.prog 21 #[v, .string ⟨x.toArray⟩] w fun e w' => e = .returned (.bool (xs.contains x)) ∧ w = w' := by
  obtain ⟨A, c, rfl, hc, hcell⟩ := hv.at
  have HC := Lib.hid hcell
  clear hv hcell
  obtain ⟨R, hR⟩ : ∃ R, xs.contains x = R := ⟨_, rfl⟩
  rw [hR]
  go_enter Tryz.func21, Tryz.ntmps21
  go_wp2_with fail
  go_loopg [5] xs.length (fun gk i wr => ∃ k : Nat, k ≤ xs.length ∧ i = .int .i64 k ∧ Aside (k + gk = xs.length) ∧ w = wr ∧ Aside (R = (xs.drop k).contains x))
  case atStart => exact ⟨0, Nat.zero_le _, rfl, by show _ = _; omega, rfl, hR.symm⟩
  case round =>
    clear hR
    obtain ⟨k, hk, rfl, AG, rfl, AR⟩ := hrel
    by_cases hlt : k < xs.length
    · obtain ⟨q, rfl⟩ : ∃ q, gk = q + 1 := ⟨gk - 1, by have := AG.out; omega⟩
      obtain ⟨a, rfl, ck⟩ := HC.out k hlt
      have hr := AR.out
      rw [List.drop_eq_getElem_cons hlt, List.contains_cons] at hr
      have HR := Lib.hid hr
      clear hr AR
      obtain ⟨y, hy⟩ : ∃ y, xs[k] = y := ⟨_, rfl⟩
      rw [hy] at ck HR
      clear hy
      by_cases hxy : y = x
      · subst hxy
        have hfin : R = true := by rw [HR.out]; simp
        have HF := Lib.hid hfin
        clear hfin HR
        go_wp2_with fail
        all_goals
          go_ret
          exact ⟨by rw [HF.out]; try rfl, rfl⟩
      · have hb1 : (y == x) = false := beq_eq_false_iff_ne.2 hxy
        have hfin : R = (xs.drop (k + 1)).contains x := by rw [HR.out, beq_eq_false_iff_ne.2 (Ne.symm hxy)]; rfl
        have HF := Lib.hid hfin
        clear hfin HR
        go_wp2_with fail
        go_roundg q
        case measure => omega
        case rel => exact ⟨k + 1, by omega, by go_num, by have := AG.out; show _ = _; omega, rfl, HF.out⟩
    · obtain rfl : k = xs.length := by omega
      have hfin : R = false := by rw [AR.out, List.drop_length]; rfl
      have HF := Lib.hid hfin
      clear hfin AR HC
      go_wp2_with fail
      go_ret
      exact ⟨by rw [HF.out]; try rfl, rfl⟩
end Go.Proofs.YtcjobpcbppcdnaaGreatDoor
/- SchemaKeyed: the walk of the law. -/
namespace Go.Proofs.YtcjobpcbppcdnaaGreatDoor
open Go.RowKit

theorem print_err (n : List (List (List UInt8 × List UInt8))) (h : (printL n).1 ≠ 0) : (printL n).2 = [] := by
  unfold printL printFin at h ⊢
  split
  · rfl
  · next h1 =>
    rw [if_neg h1] at h
    split
    · rfl
    · next h2 =>
      rw [if_neg h2] at h
      split
      · rfl
      · next h3 => rw [if_neg h3] at h; exact absurd rfl h
theorem key_err {L : List DefS} {s : List UInt8} (h : (keyS L s).1 ≠ 0) : (keyS L s).2 = [] := by
  unfold keyS at h ⊢
  split
  · rfl
  · next h1 =>
    rw [if_neg h1] at h
    split
    · rfl
    · next h2 =>
      rw [if_neg h2] at h
      exact print_err _ h
theorem base_goods : Goods baseL := goods_of base_sound.says (by decide +kernel)
theorem depth_le (s : List UInt8) : -1 ≤ depthS s ∧ depthS s ≤ 1000000 := by
  unfold depthS
  have := (parse_small s).1
  split <;> omega
theorem sub_from (x : List UInt8) (k : Nat) : sub x k x.length = x.drop k := by
  unfold sub
  rw [← List.length_drop, List.take_length]
theorem sub_upto (x : List UInt8) (k : Nat) : sub x 0 k = x.take k := by simp [sub]
set_option maxRecDepth 100000 in
set_option maxHeartbeats 4000000 in
theorem keyed_long (x : List UInt8) (w : World) (hw : Env w) (hl : 3000 < x.length) :
    Calls Tryz.prog 5 #[.string ⟨x.toArray⟩] w fun e w' => e = .returned (.bool true) ∧ Below w.heap.size w w' := by
  have HAl := Lib.hid (alive_c w hw)
  have h3 : (3000 : Int) < (x.length : Int) := by omega
  clear hw
  go_enter Tryz.func5, Tryz.ntmps5
  go_wp2_with (go_at_call 8; refine HAl.out.mono ?_; rintro e w1 ⟨rfl, hb1⟩)
  all_goals
    go_ret
    exact ⟨rfl, hb1⟩
theorem made_base (w : World) (hw : Env w) : Calls Tryz.prog 11 #[.slice none 0 0, .slice none 0 0] w fun e w' => ∃ s ps, e = .returned (.pointer (some ⟨s, 0, none⟩)) ∧ Below w.heap.size w w' ∧ SchAt w' s ps baseL := by
  have := made_c [] [] _ _ w hw (.inl ⟨rfl, rfl⟩) (.inl ⟨rfl, rfl⟩) (by decide) (by simp)
  rw [List.append_nil, List.append_nil, base_new] at this
  exact this.mono (by
    rintro e w' ⟨h1, s, ps, h2, h3⟩
    exact ⟨s, ps, h2, h1, h3⟩)
set_option maxRecDepth 100000 in
set_option maxHeartbeats 4000000 in
theorem keyed_bad (x : List UInt8) (w : World) (hw : Env w) (hl : x.length ≤ 3000) (hk : (keyS baseL x).1 ≠ 0) :
    Calls Tryz.prog 5 #[.string ⟨x.toArray⟩] w fun e w' => e = .returned (.bool true) ∧ Below w.heap.size w w' := by
  have HM := Lib.hid (made_base w hw)
  have HAl : Hid (∀ W : World, Below w.heap.size w W → Calls Tryz.prog 8 #[] W fun e w' => e = .returned (.bool true) ∧ Below w.heap.size w w') := Lib.hid fun W h => (alive_c W (hw.keep h)).mono (by
    rintro e w' ⟨h1, h2⟩
    exact ⟨h1, h.trans (h2.mono h.size)⟩)
  have he := key_err hk
  have HK : Hid (∀ (s : Nat) (ps : List Nat) (W : World), Below w.heap.size w W → SchAt W s ps baseL → Calls Tryz.prog 15 #[.pointer (some ⟨s, 0, none⟩), .string ⟨x.toArray⟩] W fun e w' => e = .returned (.tuple #[.string ⟨(keyS baseL x).2.toArray⟩, .int .i64 (keyS baseL x).1]) ∧ Below w.heap.size w w') := Lib.hid fun s ps W h hS => (Key_c s ps baseL base_sound x W (hw.keep h) hS).mono (by
    rintro e w' ⟨h1, h2⟩
    exact ⟨h1, h.trans (h2.mono h.size)⟩)
  rw [he] at HK
  have hbn : (((keyS baseL x).1 : Int) != 0) = true := bne_iff_ne.2 hk
  generalize (keyS baseL x).1 = er at *
  have h3 : ¬ (3000 : Int) < (x.length : Int) := by omega
  clear hw he
  go_enter Tryz.func5, Tryz.ntmps5
  go_wp2_with (first | (go_at_call 11; refine HM.out.mono ?_; rintro e w1 ⟨s, ps, rfl, hb1, hS1⟩) | (go_at_call 15; refine (HK.out s ps _ hb1 hS1).mono ?_; rintro e w2 ⟨rfl, hb2⟩) | (go_at_call 8; refine (HAl.out _ hb2).mono ?_; rintro e w3 ⟨rfl, hb3⟩))
  all_goals
    go_ret
    exact ⟨rfl, hb3⟩
set_option maxRecDepth 100000 in
set_option maxHeartbeats 8000000 in
theorem keyed_ok (x key : List UInt8) (w : World) (hw : Env w) (hl : x.length ≤ 3000) (hk : keyS baseL x = (0, key)) :
    Calls Tryz.prog 5 #[.string ⟨x.toArray⟩] w fun e w' => e = .returned (.bool true) ∧ Below w.heap.size w w' := by
  have HM := Lib.hid (made_base w hw)
  have HAl : Hid (∀ W : World, Below w.heap.size w W → Calls Tryz.prog 8 #[] W fun e w' => e = .returned (.bool true) ∧ Below w.heap.size w w') := Lib.hid fun W h => (alive_c W (hw.keep h)).mono (by
    rintro e w' ⟨h1, h2⟩
    exact ⟨h1, h.trans (h2.mono h.size)⟩)
  have HK : Hid (∀ (y : List UInt8) (s : Nat) (ps : List Nat) (W W0 : World), Below w.heap.size w W0 → SchAt W0 s ps baseL → Below W0.heap.size W0 W → Calls Tryz.prog 15 #[.pointer (some ⟨s, 0, none⟩), .string ⟨y.toArray⟩] W fun e w' => e = .returned (.tuple #[.string ⟨(keyS baseL y).2.toArray⟩, .int .i64 (keyS baseL y).1]) ∧ Below W0.heap.size W0 w') := Lib.hid fun y s ps W W0 h0 hS h => (Key_c s ps baseL base_sound y W (hw.keep (h0.trans (h.mono h0.size))) (hS.below h)).mono (by
    rintro e w' ⟨h1, h2⟩
    exact ⟨h1, h.trans (h2.mono h.size)⟩)
  have HD : Hid (∀ (y : List UInt8) (sv : Value) (W W0 : World), Below w.heap.size w W0 → Below W0.heap.size W0 W → Calls Tryz.prog 16 #[sv, .string ⟨y.toArray⟩] W fun e w' => e = .returned (.int .i64 (depthS y)) ∧ Below W0.heap.size W0 w') := Lib.hid fun y sv W W0 h0 h => (Depth_c sv y W (hw.keep (h0.trans (h.mono h0.size)))).mono (by
    rintro e w' ⟨h1, h2⟩
    exact ⟨h1, h.trans (h2.mono h.size)⟩)
  have HU : Hid (∀ (y z : List UInt8) (sv : Value) (W W0 : World), Below w.heap.size w W0 → Below W0.heap.size W0 W → Calls Tryz.prog 17 #[sv, .string ⟨y.toArray⟩, .string ⟨z.toArray⟩] W fun e w' => e = .returned (.bool (underS y z)) ∧ Below W0.heap.size W0 w') := Lib.hid fun y z sv W W0 h0 h => (Under_c sv y z W (hw.keep (h0.trans (h.mono h0.size)))).mono (by
    rintro e w' ⟨h1, h2⟩
    exact ⟨h1, h.trans (h2.mono h.size)⟩)
  obtain ⟨k1, k2, k3, k4, k5⟩ := keyed_law base_goods hk
  have HK1 : Hid (∀ (s : Nat) (ps : List Nat) (W W0 : World), Below w.heap.size w W0 → SchAt W0 s ps baseL → Below W0.heap.size W0 W → Calls Tryz.prog 15 #[.pointer (some ⟨s, 0, none⟩), .string ⟨x.toArray⟩] W fun e w' => e = .returned (.tuple #[.string ⟨key.toArray⟩, .int .i64 0]) ∧ Below W0.heap.size W0 w') := Lib.hid (by
    have h := HK.out x
    rw [hk] at h
    exact h)
  have HK2 : Hid (∀ (s : Nat) (ps : List Nat) (W W0 : World), Below w.heap.size w W0 → SchAt W0 s ps baseL → Below W0.heap.size W0 W → Calls Tryz.prog 15 #[.pointer (some ⟨s, 0, none⟩), .string ⟨key.toArray⟩] W fun e w' => e = .returned (.tuple #[.string ⟨key.toArray⟩, .int .i64 0]) ∧ Below W0.heap.size W0 w') := Lib.hid (by
    have h := HK.out key
    rw [k1] at h
    exact h)
  obtain ⟨dk, hdk⟩ : ∃ dk, depthS key = dk := ⟨_, rfl⟩
  have HD1 : Hid (∀ (sv : Value) (W W0 : World), Below w.heap.size w W0 → Below W0.heap.size W0 W → Calls Tryz.prog 16 #[sv, .string ⟨x.toArray⟩] W fun e w' => e = .returned (.int .i64 dk) ∧ Below W0.heap.size W0 w') := Lib.hid (by
    have h := HD.out x
    rw [← k2, hdk] at h
    exact h)
  have HD2 : Hid (∀ (sv : Value) (W W0 : World), Below w.heap.size w W0 → Below W0.heap.size W0 W → Calls Tryz.prog 16 #[sv, .string ⟨key.toArray⟩] W fun e w' => e = .returned (.int .i64 dk) ∧ Below W0.heap.size W0 w') := Lib.hid (by
    have h := HD.out key
    rw [hdk] at h
    exact h)
  have HU1 : Hid (∀ (sv : Value) (W W0 : World), Below w.heap.size w W0 → Below W0.heap.size W0 W → Calls Tryz.prog 17 #[sv, .string ⟨key.toArray⟩, .string ⟨key.toArray⟩] W fun e w' => e = .returned (.bool true) ∧ Below W0.heap.size W0 w') := Lib.hid (by
    have h := HU.out key key
    rw [k3] at h
    exact h)
  have HU2 : Hid (∀ (sv : Value) (W W0 : World), Below w.heap.size w W0 → Below W0.heap.size W0 W → Calls Tryz.prog 17 #[sv, .string ⟨key.toArray⟩, .string ⟨#[]⟩] W fun e w' => e = .returned (.bool true) ∧ Below W0.heap.size W0 w') := Lib.hid (by
    have h := HU.out key []
    rw [k4] at h
    exact h)
  have HU3 : Hid (∀ (sv : Value) (W W0 : World), Below w.heap.size w W0 → Below W0.heap.size W0 W → Calls Tryz.prog 17 #[sv, .string ⟨#[]⟩, .string ⟨key.toArray⟩] W fun e w' => e = .returned (.bool (key == [])) ∧ Below W0.heap.size W0 w') := Lib.hid (by
    have h := HU.out [] key
    rw [k5] at h
    exact h)
  have HUP : Hid (∀ k (hlt : k < x.length), x[k] = 44 → ∀ up, keyS baseL (x.drop (k + 1)) = (0, up) → 0 ≤ depthS (x.take k) → underS key up = true) := Lib.hid fun k hlt hc up hu hd => by
    have hx : x = x.take k ++ 44 :: x.drop (k + 1) := by rw [← hc, List.getElem_cons_drop, List.take_append_drop]
    rw [hx] at hk
    exact keyed_up hk hu hd
  have hdkb := depth_le key
  rw [hdk] at hdkb
  have hself : ((dk : Int) != dk) = false := by simp
  have h3 : ¬ (3000 : Int) < (x.length : Int) := by omega
  have hks : (key != key) = false := by simp
  have HKD := Lib.hid hdk
  have HUK : Hid (∀ (up : List UInt8), underS key up = true → ∀ (sv : Value) (W W0 : World), Below w.heap.size w W0 → Below W0.heap.size W0 W → Calls Tryz.prog 17 #[sv, .string ⟨key.toArray⟩, .string ⟨up.toArray⟩] W fun e w' => e = .returned (.bool true) ∧ Below W0.heap.size W0 w') := Lib.hid (fun up hu => by
    have h := HU.out key up
    rw [hu] at h
    exact h)
  clear k1 k2 k3 k4 k5 hk hdk hw HU HKD
  obtain ⟨b0, hb0⟩ : ∃ b, (key == []) = b := ⟨_, rfl⟩
  rw [hb0] at HU3
  rcases key with _ | ⟨c0, ct⟩
  all_goals
    first
      | obtain rfl : b0 = true := hb0.symm
      | obtain rfl : b0 = false := hb0.symm
    clear hb0
    go_enter Tryz.func5, Tryz.ntmps5
    go_wp2_with (first | (go_at_call 11; refine HM.out.mono ?_; rintro e w1 ⟨s, ps, rfl, hb1, hS1⟩; have hr1 := Below.refl w1.heap.size w1) | (go_at_call 15; (with_reducible refine (HK1.out s ps _ _ hb1 hS1 (by assumption)).mono ?_); rintro e w2 ⟨rfl, hb2⟩) | (go_at_call 15; (with_reducible refine (HK2.out s ps _ _ hb1 hS1 (by assumption)).mono ?_); rintro e w2 ⟨rfl, hb2⟩) | (go_at_call 16; (with_reducible refine (HD1.out _ _ _ hb1 (by assumption)).mono ?_); rintro e w2 ⟨rfl, hb2⟩) | (go_at_call 16; (with_reducible refine (HD2.out _ _ _ hb1 (by assumption)).mono ?_); rintro e w2 ⟨rfl, hb2⟩) | (go_at_call 17; (with_reducible refine (HU1.out _ _ _ hb1 (by assumption)).mono ?_); rintro e w2 ⟨rfl, hb2⟩) | (go_at_call 17; (with_reducible refine (HU2.out _ _ _ hb1 (by assumption)).mono ?_); rintro e w2 ⟨rfl, hb2⟩) | (go_at_call 17; (with_reducible refine (HU3.out _ _ _ hb1 (by assumption)).mono ?_); rintro e w2 ⟨rfl, hb2⟩))
    go_loopg [8] x.length (fun gk i wr => ∃ k : Nat, k ≤ x.length ∧ i = .int .i64 k ∧ Aside (k + gk = x.length) ∧ Below w1.heap.size w1 wr)
    case atStart => exact ⟨0, Nat.zero_le _, rfl, by show _ = _; omega, by assumption⟩
    case round =>
      clear HU1 HU2 HU3 HK1 HK2 HD1 HM
      obtain ⟨k, hk, rfl, AG, hB⟩ := hrel
      have hget := ba_get
      have hext := ba_ext
      by_cases hlt : k < x.length
      · obtain ⟨q, rfl⟩ : ∃ q, gk = q + 1 := ⟨gk - 1, by have := AG.out; omega⟩
        by_cases hc : x[k] = 44
        · have hcv : ((x[k].toNat : Int) != 44) = false := by rw [hc]; rfl
          by_cases hesc : ∃ m, k = m + 1 ∧ ∃ hm : m < x.length, x[m] = 92
          · obtain ⟨m, rfl, hm, h92⟩ := hesc
            have hk0 : (0 : Int) < (m : Int) + 1 := by omega
            have hk5 : IntKind.i64.wrap ((m : Int) + 1 - 1) = (m : Int) := by rw [IntWalk.i64_in _ (by omega)]; omega
            have hk6 : (m : Int) < (x.length : Int) := by omega
            have h92v : ((x[m].toNat : Int) == 92) = true := by rw [h92]; rfl
            clear HUP HUK hc
            go_wp2_with fail
            go_roundg q
            case measure => omega
            case rel => exact ⟨m + 1 + 1, by omega, by go_num, by have := AG.out; show _ = _; omega, hB⟩
          · obtain ⟨r, hr⟩ : ∃ r, x.drop (k + 1) = r := ⟨_, rfl⟩
            obtain ⟨l, hl2⟩ : ∃ l, x.take k = l := ⟨_, rfl⟩
            have sa : sub x (k + 1) x.length = r := by rw [sub_from, hr]
            have sl : sub x 0 k = l := by rw [sub_upto, hl2]
            have hup := HUP.out k hlt hc
            rw [hr, hl2] at hup
            have hKr := HK.out r
            have hdl := depth_le l
            obtain ⟨⟨g, up⟩, hgu⟩ : ∃ z, keyS baseL r = z := ⟨_, rfl⟩
            rw [hgu] at hKr hup
            have hdu := depth_le up
            have hHU := HUK.out up
            have hHl := HD.out l
            have hHu := HD.out up
            have hup2 : g = 0 → 0 ≤ depthS l → underS _ up = true := fun hg0 h0 => hup up (by rw [hg0]) h0
            obtain ⟨du, hd1⟩ : ∃ du, depthS up = du := ⟨_, rfl⟩
            obtain ⟨dl, hd2⟩ : ∃ dl, depthS l = dl := ⟨_, rfl⟩
            rw [hd1] at hdu hHu
            rw [hd2] at hdl hHl hup2
            have HKr := Lib.hid hKr
            have HDu := Lib.hid hHu
            have HDl := Lib.hid hHl
            have HUu := Lib.hid (fun hg0 h0 => hHU (hup2 hg0 h0))
            have hk1 : (0 : Int) ≤ (k : Int) + 1 := by omega
            have hk2 : (k : Int) + 1 ≤ (x.length : Int) := by omega
            have hk3 : ((k : Int) + 1).toNat = k + 1 := by omega
            have hpos : k = 0 ∨ ∃ m, k = m + 1 ∧ ∃ hm : m < x.length, ((x[m].toNat : Int) == 92) = false := by
              rcases k with _ | m
              · exact .inl rfl
              · refine .inr ⟨m, rfl, by omega, ?_⟩
                rw [beq_eq_false_iff_ne]
                intro h
                exact hesc ⟨m, rfl, by omega, UInt8.toNat_inj.1 (show x[m].toNat = 92 by omega)⟩
            clear HUP HUK HK HD hKr hHU hHl hHu hup hup2 hd1 hd2 hgu hr hl2 hc hesc
            rcases hpos with rfl | ⟨m, rfl, hm, h92v⟩
            · have sa0 : sub x 1 x.length = r := sa
              obtain rfl : l = [] := by rw [← sl]; simp [sub]
              have HDl0 : Hid (∀ (sv : Value) (W W0 : World), Below w.heap.size w W0 → Below W0.heap.size W0 W → Calls Tryz.prog 16 #[sv, .string ByteArray.empty] W fun e w' => e = .returned (.int .i64 dl) ∧ Below W0.heap.size W0 w') := HDl
              by_cases hg0 : g = 0
              · subst hg0
                by_cases a1 : du < dk
                · by_cases a2 : 0 ≤ dl
                  · have hw1 : IntKind.i64.wrap (dl + du) = dl + du := IntWalk.i64_in _ (by omega)
                    by_cases a3 : dl + du = dk
                    · have HUU := Lib.hid (HUu.out rfl a2)
                      have a3v : ((dl + du : Int) == dk) = true := beq_iff_eq.2 a3
                      go_wp2_with (first | (go_at_call 15; (try rw [sa0]); (with_reducible refine (HKr.out s ps _ _ hb1 hS1 (by assumption)).mono ?_); rintro e w2 ⟨rfl, hb2⟩) | (go_at_call 16; (with_reducible refine (HDu.out _ _ _ hb1 (by assumption)).mono ?_); rintro e w2 ⟨rfl, hb2⟩) | (go_at_call 16; (with_reducible refine (HD2.out _ _ _ hb1 (by assumption)).mono ?_); rintro e w2 ⟨rfl, hb2⟩) | (go_at_call 16; (with_reducible refine (HDl0.out _ _ _ hb1 (by assumption)).mono ?_); rintro e w2 ⟨rfl, hb2⟩) | (go_at_call 17; (with_reducible refine (HUU.out _ _ _ hb1 (by assumption)).mono ?_); rintro e w2 ⟨rfl, hb2⟩))
                      go_roundg q
                      case measure => omega
                      case rel => exact ⟨0 + 1, by omega, by go_num, by have := AG.out; show _ = _; omega, by assumption⟩
                    · have a3v : ((dl + du : Int) == dk) = false := beq_eq_false_iff_ne.2 a3
                      go_wp2_with (first | (go_at_call 15; (try rw [sa0]); (with_reducible refine (HKr.out s ps _ _ hb1 hS1 (by assumption)).mono ?_); rintro e w2 ⟨rfl, hb2⟩) | (go_at_call 16; (with_reducible refine (HDu.out _ _ _ hb1 (by assumption)).mono ?_); rintro e w2 ⟨rfl, hb2⟩) | (go_at_call 16; (with_reducible refine (HD2.out _ _ _ hb1 (by assumption)).mono ?_); rintro e w2 ⟨rfl, hb2⟩) | (go_at_call 16; (with_reducible refine (HDl0.out _ _ _ hb1 (by assumption)).mono ?_); rintro e w2 ⟨rfl, hb2⟩) | (go_at_call 17; (with_reducible refine (HUU.out _ _ _ hb1 (by assumption)).mono ?_); rintro e w2 ⟨rfl, hb2⟩))
                      go_roundg q
                      case measure => omega
                      case rel => exact ⟨0 + 1, by omega, by go_num, by have := AG.out; show _ = _; omega, by assumption⟩
                  · go_wp2_with (first | (go_at_call 15; (try rw [sa0]); (with_reducible refine (HKr.out s ps _ _ hb1 hS1 (by assumption)).mono ?_); rintro e w2 ⟨rfl, hb2⟩) | (go_at_call 16; (with_reducible refine (HDu.out _ _ _ hb1 (by assumption)).mono ?_); rintro e w2 ⟨rfl, hb2⟩) | (go_at_call 16; (with_reducible refine (HD2.out _ _ _ hb1 (by assumption)).mono ?_); rintro e w2 ⟨rfl, hb2⟩) | (go_at_call 16; (with_reducible refine (HDl0.out _ _ _ hb1 (by assumption)).mono ?_); rintro e w2 ⟨rfl, hb2⟩) | (go_at_call 17; (with_reducible refine (HUU.out _ _ _ hb1 (by assumption)).mono ?_); rintro e w2 ⟨rfl, hb2⟩))
                    go_roundg q
                    case measure => omega
                    case rel => exact ⟨0 + 1, by omega, by go_num, by have := AG.out; show _ = _; omega, by assumption⟩
                · go_wp2_with (first | (go_at_call 15; (try rw [sa0]); (with_reducible refine (HKr.out s ps _ _ hb1 hS1 (by assumption)).mono ?_); rintro e w2 ⟨rfl, hb2⟩) | (go_at_call 16; (with_reducible refine (HDu.out _ _ _ hb1 (by assumption)).mono ?_); rintro e w2 ⟨rfl, hb2⟩) | (go_at_call 16; (with_reducible refine (HD2.out _ _ _ hb1 (by assumption)).mono ?_); rintro e w2 ⟨rfl, hb2⟩) | (go_at_call 16; (with_reducible refine (HDl0.out _ _ _ hb1 (by assumption)).mono ?_); rintro e w2 ⟨rfl, hb2⟩) | (go_at_call 17; (with_reducible refine (HUU.out _ _ _ hb1 (by assumption)).mono ?_); rintro e w2 ⟨rfl, hb2⟩))
                  go_roundg q
                  case measure => omega
                  case rel => exact ⟨0 + 1, by omega, by go_num, by have := AG.out; show _ = _; omega, by assumption⟩
              · have hgv : ((g : Int) == 0) = false := beq_eq_false_iff_ne.2 hg0
                go_wp2_with (first | (go_at_call 15; (try rw [sa0]); (with_reducible refine (HKr.out s ps _ _ hb1 hS1 (by assumption)).mono ?_); rintro e w2 ⟨rfl, hb2⟩) | (go_at_call 16; (with_reducible refine (HDu.out _ _ _ hb1 (by assumption)).mono ?_); rintro e w2 ⟨rfl, hb2⟩) | (go_at_call 16; (with_reducible refine (HD2.out _ _ _ hb1 (by assumption)).mono ?_); rintro e w2 ⟨rfl, hb2⟩) | (go_at_call 16; (with_reducible refine (HDl0.out _ _ _ hb1 (by assumption)).mono ?_); rintro e w2 ⟨rfl, hb2⟩) | (go_at_call 17; (with_reducible refine (HUU.out _ _ _ hb1 (by assumption)).mono ?_); rintro e w2 ⟨rfl, hb2⟩))
                go_roundg q
                case measure => omega
                case rel => exact ⟨0 + 1, by omega, by go_num, by have := AG.out; show _ = _; omega, by assumption⟩
            · have hk0 : (0 : Int) < (m : Int) + 1 := by omega
              have hk5 : IntKind.i64.wrap ((m : Int) + 1 - 1) = (m : Int) := by rw [IntWalk.i64_in _ (by omega)]; omega
              have hk6 : (m : Int) < (x.length : Int) := by omega
              by_cases hg0 : g = 0
              · subst hg0
                by_cases a1 : du < dk
                · by_cases a2 : 0 ≤ dl
                  · have hw1 : IntKind.i64.wrap (dl + du) = dl + du := IntWalk.i64_in _ (by omega)
                    by_cases a3 : dl + du = dk
                    · have HUU := Lib.hid (HUu.out rfl a2)
                      have a3v : ((dl + du : Int) == dk) = true := beq_iff_eq.2 a3
                      go_wp2_with (first | (go_at_call 15; (try rw [sa]); (with_reducible refine (HKr.out s ps _ _ hb1 hS1 (by assumption)).mono ?_); rintro e w2 ⟨rfl, hb2⟩) | (go_at_call 16; (with_reducible refine (HDu.out _ _ _ hb1 (by assumption)).mono ?_); rintro e w2 ⟨rfl, hb2⟩) | (go_at_call 16; (with_reducible refine (HD2.out _ _ _ hb1 (by assumption)).mono ?_); rintro e w2 ⟨rfl, hb2⟩) | (go_at_call 16; (try rw [sl]); (with_reducible refine (HDl.out _ _ _ hb1 (by assumption)).mono ?_); rintro e w2 ⟨rfl, hb2⟩) | (go_at_call 17; (with_reducible refine (HUU.out _ _ _ hb1 (by assumption)).mono ?_); rintro e w2 ⟨rfl, hb2⟩))
                      go_roundg q
                      case measure => omega
                      case rel => exact ⟨m + 1 + 1, by omega, by go_num, by have := AG.out; show _ = _; omega, by assumption⟩
                    · have a3v : ((dl + du : Int) == dk) = false := beq_eq_false_iff_ne.2 a3
                      go_wp2_with (first | (go_at_call 15; (try rw [sa]); (with_reducible refine (HKr.out s ps _ _ hb1 hS1 (by assumption)).mono ?_); rintro e w2 ⟨rfl, hb2⟩) | (go_at_call 16; (with_reducible refine (HDu.out _ _ _ hb1 (by assumption)).mono ?_); rintro e w2 ⟨rfl, hb2⟩) | (go_at_call 16; (with_reducible refine (HD2.out _ _ _ hb1 (by assumption)).mono ?_); rintro e w2 ⟨rfl, hb2⟩) | (go_at_call 16; (try rw [sl]); (with_reducible refine (HDl.out _ _ _ hb1 (by assumption)).mono ?_); rintro e w2 ⟨rfl, hb2⟩) | (go_at_call 17; (with_reducible refine (HUU.out _ _ _ hb1 (by assumption)).mono ?_); rintro e w2 ⟨rfl, hb2⟩))
                      go_roundg q
                      case measure => omega
                      case rel => exact ⟨m + 1 + 1, by omega, by go_num, by have := AG.out; show _ = _; omega, by assumption⟩
                  · go_wp2_with (first | (go_at_call 15; (try rw [sa]); (with_reducible refine (HKr.out s ps _ _ hb1 hS1 (by assumption)).mono ?_); rintro e w2 ⟨rfl, hb2⟩) | (go_at_call 16; (with_reducible refine (HDu.out _ _ _ hb1 (by assumption)).mono ?_); rintro e w2 ⟨rfl, hb2⟩) | (go_at_call 16; (with_reducible refine (HD2.out _ _ _ hb1 (by assumption)).mono ?_); rintro e w2 ⟨rfl, hb2⟩) | (go_at_call 16; (try rw [sl]); (with_reducible refine (HDl.out _ _ _ hb1 (by assumption)).mono ?_); rintro e w2 ⟨rfl, hb2⟩) | (go_at_call 17; (with_reducible refine (HUU.out _ _ _ hb1 (by assumption)).mono ?_); rintro e w2 ⟨rfl, hb2⟩))
                    go_roundg q
                    case measure => omega
                    case rel => exact ⟨m + 1 + 1, by omega, by go_num, by have := AG.out; show _ = _; omega, by assumption⟩
                · go_wp2_with (first | (go_at_call 15; (try rw [sa]); (with_reducible refine (HKr.out s ps _ _ hb1 hS1 (by assumption)).mono ?_); rintro e w2 ⟨rfl, hb2⟩) | (go_at_call 16; (with_reducible refine (HDu.out _ _ _ hb1 (by assumption)).mono ?_); rintro e w2 ⟨rfl, hb2⟩) | (go_at_call 16; (with_reducible refine (HD2.out _ _ _ hb1 (by assumption)).mono ?_); rintro e w2 ⟨rfl, hb2⟩) | (go_at_call 16; (try rw [sl]); (with_reducible refine (HDl.out _ _ _ hb1 (by assumption)).mono ?_); rintro e w2 ⟨rfl, hb2⟩) | (go_at_call 17; (with_reducible refine (HUU.out _ _ _ hb1 (by assumption)).mono ?_); rintro e w2 ⟨rfl, hb2⟩))
                  go_roundg q
                  case measure => omega
                  case rel => exact ⟨m + 1 + 1, by omega, by go_num, by have := AG.out; show _ = _; omega, by assumption⟩
              · have hgv : ((g : Int) == 0) = false := beq_eq_false_iff_ne.2 hg0
                go_wp2_with (first | (go_at_call 15; (try rw [sa]); (with_reducible refine (HKr.out s ps _ _ hb1 hS1 (by assumption)).mono ?_); rintro e w2 ⟨rfl, hb2⟩) | (go_at_call 16; (with_reducible refine (HDu.out _ _ _ hb1 (by assumption)).mono ?_); rintro e w2 ⟨rfl, hb2⟩) | (go_at_call 16; (with_reducible refine (HD2.out _ _ _ hb1 (by assumption)).mono ?_); rintro e w2 ⟨rfl, hb2⟩) | (go_at_call 16; (try rw [sl]); (with_reducible refine (HDl.out _ _ _ hb1 (by assumption)).mono ?_); rintro e w2 ⟨rfl, hb2⟩) | (go_at_call 17; (with_reducible refine (HUU.out _ _ _ hb1 (by assumption)).mono ?_); rintro e w2 ⟨rfl, hb2⟩))
                go_roundg q
                case measure => omega
                case rel => exact ⟨m + 1 + 1, by omega, by go_num, by have := AG.out; show _ = _; omega, by assumption⟩
        · have hcv : ((x[k].toNat : Int) != 44) = true := by
            rw [bne_iff_ne]
            intro h
            exact hc (UInt8.toNat_inj.1 (show x[k].toNat = 44 by omega))
          clear HUP HUK hc
          go_wp2_with fail
          go_roundg q
          case measure => omega
          case rel => exact ⟨k + 1, by omega, by go_num, by have := AG.out; show _ = _; omega, hB⟩
      · obtain rfl : k = x.length := by omega
        clear HUP HUK
        go_wp2_with (go_at_call 8; refine (HAl.out _ (hb1.trans (hB.mono hb1.size))).mono ?_; rintro e w3 ⟨rfl, hb3⟩)
        all_goals
          go_ret
          exact ⟨rfl, hb3⟩
theorem keyed_c (x : List UInt8) (w : World) (hw : Env w) :
    Calls Tryz.prog 5 #[.string ⟨x.toArray⟩] w fun e w' => e = .returned (.bool true) ∧ Below w.heap.size w w' := by
  by_cases hl : 3000 < x.length
  · exact keyed_long x w hw hl
  · by_cases hk : (keyS baseL x).1 = 0
    · exact keyed_ok x (keyS baseL x).2 w hw (by omega) (by rw [← hk])
    · exact keyed_bad x w hw (by omega) hk
end Go.Proofs.YtcjobpcbppcdnaaGreatDoor
