import Derived.Test.YtkkbbhlihilnpaaGreatDoorWvb3
import Derived.Outline
set_option linter.all false
set_option maxHeartbeats 8000000
set_option maxRecDepth 100000
namespace Go.Proofs.YtkkbbhlihilnpaaGreatDoor
open Go.RowKit Go.Sort
def normA (x : List UInt8 × List UInt8) : List UInt8 × List UInt8 := (smallL x.1, (prepL x.2 true).getD x.2)
def normP (p : List (List UInt8 × List UInt8)) : List (List UInt8 × List UInt8) := partN (p.map normA)
def nameN (s : List UInt8) : Option (List UInt8) := if (parseL s).1 = 0 then (if (printL ((parseL s).2.map normP)).1 = 0 then some (printL ((parseL s).2.map normP)).2 else none) else none
theorem NM.dnR {B : Nat} {w : World} {gd c : Nat} {L : List PartM} (h : NM B w gd L) (hc : L.length ≤ c) : DnR w (.slice (some ⟨gd, 0, none⟩) L.length c) (L.map (·.2.2)) := by
 refine ⟨some ⟨gd, 0, none⟩, c, by rw [List.length_map], by rw [List.length_map]; exact hc, .inr ⟨gd, 0, rfl, h.1, fun j p hj => ?_⟩⟩
 rw [List.getElem?_map] at hj
 cases hx : L[j]? with
 | none => rw [hx] at hj; cases hj
 | some x =>
  rw [hx] at hj
  cases hj
  have hy := h.2.2.2 j x hx
  refine ⟨_, by rw [Nat.zero_add]; exact hy.1, some ⟨x.1, 0, none⟩, x.2.1, rfl, hy.2.2.2.1, .inr ⟨x.1, 0, rfl, hy.2.2.1.1, fun i y hi => ?_⟩⟩
  have := hy.2.2.1.2 i y hi
  rw [Nat.zero_add]
  exact ⟨this.1.1, this.2.1⟩
theorem ddL_mem {α : Type} [DecidableEq α] (p : List α) : ∀ n, ∀ x ∈ ddL p n, x ∈ p
 | 0, x, h => by simp [ddL] at h
 | n + 1, x, h => by
  rw [ddL] at h
  split at h
  ·exact ddL_mem p n x h
  ·next y hy =>
   split at h
   ·exact ddL_mem p n x h
   ·rw [List.mem_append] at h
    rcases h with h | h
    ·exact ddL_mem p n x h
    ·rw [List.mem_singleton] at h; subst h; exact List.mem_of_getElem? hy
theorem ddL_len {α : Type} [DecidableEq α] (p : List α) : ∀ n, (ddL p n).length ≤ n
 | 0 => by simp [ddL]
 | n + 1 => by
  have := ddL_len p n
  rw [ddL]
  split
  ·omega
  ·split
   ·omega
   ·simp; omega
theorem sortA_perm (p : List (List UInt8 × List UInt8)) : (sortA p).toList.Perm p := by
 have h := (insertionSort_holds (lt := ltOf avaCmp) avaCmp_ord.swo p.toArray 0 p.length (Nat.zero_le _) (by simp)).1
 have h2 := h.2.2
 have e1 : ((Sort.insertionSort (ltOf avaCmp) p.toArray 0 p.length).extract 0 p.length) = Sort.insertionSort (ltOf avaCmp) p.toArray 0 p.length := by
  have : (Sort.insertionSort (ltOf avaCmp) p.toArray 0 p.length).size = p.length := by simpa using h.1
  generalize Sort.insertionSort (ltOf avaCmp) p.toArray 0 p.length = R at this ⊢
  rw [← this]; simp
 have e2 : (p.toArray.extract 0 p.length) = p.toArray := by simp
 rw [e1, e2] at h2
 exact h2
theorem partN_mem (p : List (List UInt8 × List UInt8)) : ∀ x ∈ partN p, x ∈ p := fun x h => (sortA_perm p).mem_iff.1 (ddL_mem _ _ x h)
theorem partN_len (p : List (List UInt8 × List UInt8)) : (partN p).length ≤ p.length := ddL_len _ _
section
variable (Q : List UInt8 × List UInt8 → Prop) (hQ : ∀ r x r', pairR r = some (x, r') → Q x)
include hQ
theorem partL_all : ∀ (n : Nat) (r r' : List UInt8) (acc l : List (List UInt8 × List UInt8)), (∀ x ∈ acc, Q x) → partL n r acc = some (l, r') → ∀ x ∈ l, Q x
 | 0, r, r', acc, l, ha, h => by
  rw [partL] at h
  split at h
  ·cases h
  ·cases h; exact ha
 | n + 1, r, r', acc, l, ha, h => by
  rw [partL] at h
  split at h
  ·split at h
   ·cases h
   ·next x r2 hp => exact partL_all n r2 r' _ l (by intro y hy; simp at hy; rcases hy with hy | rfl; exact ha y hy; exact hQ _ _ _ hp) h
  ·cases h; exact ha
theorem partR_all {r r' : List UInt8} {l : List (List UInt8 × List UInt8)} (h : partR r = some (l, r')) : ∀ x ∈ l, Q x := by
 unfold partR at h
 split at h
 ·cases h
 ·next x r2 hp => exact partL_all Q hQ _ _ _ _ _ (by simpa using hQ _ _ _ hp) h
theorem nameL_all : ∀ (n : Nat) (r r' : List UInt8) (acc l : List (List (List UInt8 × List UInt8))), (∀ p ∈ acc, ∀ x ∈ p, Q x) → nameL n r acc = some (l, r') → ∀ p ∈ l, ∀ x ∈ p, Q x
 | 0, r, r', acc, l, ha, h => by
  rw [nameL] at h
  split at h
  ·cases h
  ·cases h; exact ha
 | n + 1, r, r', acc, l, ha, h => by
  rw [nameL] at h
  split at h
  ·split at h
   ·cases h
   ·next x r2 hp => exact nameL_all n r2 r' _ l (by intro p hp'; simp at hp'; rcases hp' with hp' | rfl; exact ha p hp'; exact partR_all Q hQ hp) h
  ·cases h; exact ha
theorem parseL_all {s : List UInt8} : ∀ p ∈ (parseL s).2, ∀ x ∈ p, Q x := by
 unfold parseL
 split
 ·simp
 ·split
  ·simp
  ·next d hd =>
   split
   ·simp
   ·intro p hp
    unfold nameR at hd
    split at hd
    ·cases hd; simp at hp
    ·rcases hq : partR s with _ | ⟨q, r⟩
     ·rw [hq] at hd; cases hd
     ·rw [hq] at hd
      simp only [nameGo] at hd
      rcases hn : nameL r.length r [q] with _ | ⟨d', r'⟩
      ·rw [hn] at hd; cases hd
      ·rw [hn] at hd
       simp only [nameFin] at hd
       split at hd
       ·cases hd
        exact nameL_all Q hQ _ _ _ _ _ (by simpa using partR_all Q hQ hq) hn p hp
       ·cases hd
end
theorem pairR_type {r r' : List UInt8} {x : List UInt8 × List UInt8} (h : pairR r = some (x, r')) : isTypeL x.1 = true := by
 unfold pairR at h
 split at h
 ·cases h
 ·next t r2 ht =>
  split at h
  ·split at h
   ·cases h
   ·cases h
    unfold typR at ht
    split at ht
    ·next hi => cases ht; exact hi
    ·cases ht
  ·cases h
theorem parse_type {s : List UInt8} : ∀ p ∈ (parseL s).2, ∀ x ∈ p, isTypeL x.1 = true := parseL_all (fun x => isTypeL x.1 = true) (fun _ _ _ h => pairR_type h)
theorem smallL_len (l : List UInt8) : (smallL l).length = l.length := by simp [smallL]
open Go.RowKit Go.Sort
def NormRet (w : World) (o : Option (List UInt8)) (e : Ending) (w' : World) : Prop :=
 Below w.heap.size w w' ∧ ∃ r, e = .returned (.tuple #[.string ⟨r.toArray⟩, .bool o.isSome]) ∧ ∀ m, o = some m → r = m
theorem RowA.setT {w : World} {g : Nat} {l : List (List UInt8 × List UInt8)} (h : RowA w g l) {j : Nat} (hj : j < l.length) (t : List UInt8) :
  RowA (w.setCell ⟨g, j * 2, none⟩ (.string ⟨t.toArray⟩)) g (l.set j (t, l[j].2)) := by
 have hc := h.at2 (List.getElem?_eq_getElem hj)
 refine ⟨by simp [World.setCell]; exact h.1, fun i y hi => ?_⟩
 rw [World.frozen?_setCell, World.frozen?_setCell]
 rw [List.getElem?_set] at hi
 by_cases hij : j = i
 ·subst hij
  rw [if_pos rfl, if_pos hj] at hi
  cases hi
  rw [Nat.mul_comm 2 j]
  exact ⟨⟨set_same _ _ _ _ _ hc.1, hc.2.2.1⟩, (set_other _ _ _ _ _ (by omega)).trans hc.2.1, hc.2.2.2⟩
 ·rw [if_neg hij] at hi
  have hx := h.2 i y hi
  exact ⟨⟨(set_other _ _ _ _ _ (by omega)).trans hx.1.1, hx.1.2⟩, (set_other _ _ _ _ _ (by omega)).trans hx.2.1, hx.2.2⟩
theorem RowA.setV {w : World} {g : Nat} {l : List (List UInt8 × List UInt8)} (h : RowA w g l) {j : Nat} (hj : j < l.length) (t : List UInt8) :
  RowA (w.setCell ⟨g, j * 2 + 1, none⟩ (.string ⟨t.toArray⟩)) g (l.set j (l[j].1, t)) := by
 have hc := h.at2 (List.getElem?_eq_getElem hj)
 refine ⟨by simp [World.setCell]; exact h.1, fun i y hi => ?_⟩
 rw [World.frozen?_setCell, World.frozen?_setCell]
 rw [List.getElem?_set] at hi
 by_cases hij : j = i
 ·subst hij
  rw [if_pos rfl, if_pos hj] at hi
  cases hi
  rw [Nat.mul_comm 2 j]
  exact ⟨⟨(set_other _ _ _ _ _ (by omega)).trans hc.1, hc.2.2.1⟩, set_same _ _ _ _ _ hc.2.1, hc.2.2.2⟩
 ·rw [if_neg hij] at hi
  have hx := h.2 i y hi
  exact ⟨⟨(set_other _ _ _ _ _ (by omega)).trans hx.1.1, hx.1.2⟩, (set_other _ _ _ _ _ (by omega)).trans hx.2.1, hx.2.2⟩
def upto (p : List (List UInt8 × List UInt8)) (j : Nat) : List (List UInt8 × List UInt8) := (p.take j).map normA ++ p.drop j
theorem upto_len (p : List (List UInt8 × List UInt8)) (j : Nat) : (upto p j).length = p.length := by simp [upto]; omega
theorem upto_at (p : List (List UInt8 × List UInt8)) (j : Nat) (h : j < p.length) : (upto p j)[j]? = some p[j] := by
 unfold upto
 rw [List.getElem?_append_right (by simp; omega)]
 simp [Nat.min_eq_left (Nat.le_of_lt h)]
theorem upto_succ (p : List (List UInt8 × List UInt8)) (j : Nat) (h : j < p.length) : (upto p j).set j (normA p[j]) = upto p (j + 1) := by
 have hl : ((p.take j).map normA).length = j := by simp; omega
 unfold upto
 rw [List.set_append_right _ _ (by omega), hl, Nat.sub_self, List.drop_eq_getElem_cons h, List.set_cons_zero, List.take_succ_eq_append_getElem h, List.map_append, List.append_assoc]
 rfl
theorem grown_any {w w' : World} (h : w.grownBy w' none) (r : Option Nat) : w.grownBy w' r := ⟨h.os, h.tape, h.output, h.size, fun k hk _ => h.block k hk (by simp)⟩
def NState (B : Nat) (w : World) (gd : Nat) (M : List (List (List UInt8 × List UInt8))) : Prop := ∃ L : List PartM, L.map (·.2.2) = M ∧ NM B w gd L
set_option maxRecDepth 100000 in
theorem name_no (s : List UInt8) (w : World) (hw : Env w) (her : (parseL s).1 ≠ 0) :
  Calls Tryz.prog 250 #[.string ⟨s.toArray⟩] w (NormRet w (nameN s)) := by
 have hP := Parse_c s w hw
 have hno : nameN s = none := by unfold nameN; rw [if_neg her]
 rw [hno]
 clear hno
 generalize parseL s = ps at *
 obtain ⟨er, d⟩ := ps
 have hbn : ((er : Int) != 0) = true := bne_iff_ne.2 her
 have HP := Lib.hid hP
 clear hP her
 go_enter Tryz.func250, Tryz.ntmps250
 go_wp2_with (go_at_call 70; refine HP.out.mono ?_; rintro e w1 ⟨hb1, v, rfl, hd⟩; obtain ⟨A0, c0, rfl, hc0⟩ := hd.isSlice)
 go_ret2
 exact ⟨hb1, _, rfl, by simp⟩
set_option maxRecDepth 100000 in
theorem name_ok (s : List UInt8) (w : World) (hw : Env w) (her : (parseL s).1 = 0) (htl : tooLongL (parseL s).2 = false) :
  Calls Tryz.prog 250 #[.string ⟨s.toArray⟩] w (NormRet w (nameN s)) := by
 have hP := Parse_c s w hw
 have hne := parseL_ne (s := s)
 have hty := parse_type (s := s)
 have hN : nameN s = (if (printL ((parseL s).2.map normP)).1 = 0 then some (printL ((parseL s).2.map normP)).2 else none) := by unfold nameN; rw [if_pos her]
 generalize parseL s = ps at *
 obtain ⟨er, d⟩ := ps
 simp only at hne hty hN her htl
 subst her
 have hbn : ((0 : Int) != 0) = false := by decide
 have HN := Lib.hid hN
 have HP := Lib.hid hP
 have HNE := Lib.hid hne
 have hd20 : d.length ≤ 20 := by unfold tooLongL at htl; simp at htl; omega
 have HSM : Hid (∀ p ∈ d, p.length ≤ 4 ∧ ∀ x ∈ p, x.1.length ≤ 64 ∧ x.2.length ≤ 1024) := by
  refine Lib.hid fun p hp => ?_
  unfold tooLongL at htl
  rw [Bool.or_eq_false_iff] at htl
  have h1 := List.any_eq_false.1 htl.2 p hp
  unfold rdnLongB at h1
  simp only [Bool.or_eq_true, decide_eq_true_eq, not_or] at h1
  refine ⟨by omega, fun x hx => ?_⟩
  have h2 : p.any avaLongB = false := by simpa using h1.2
  have h3 := List.any_eq_false.1 h2 x hx
  unfold avaLongB at h3
  simp at h3
  refine ⟨?_, h3⟩
  have h4 := hty p hp x hx
  unfold isTypeL at h4
  split at h4
  ·simp at h4
  ·next e => rw [e]; simp only [Bool.and_eq_true, decide_eq_true_eq] at h4; exact h4.1
 clear hN hP hne hty htl
 go_enter Tryz.func250, Tryz.ntmps250
 go_wp2_with fail
 refine HP.out.mono ?_
 rintro e w1 ⟨hb1, v, rfl, hd⟩
 change DnAt w.heap.size w1 v d at hd
 obtain ⟨A0, c0, rfl, hc0⟩ := hd.isSlice
 by_cases hdn : d = []
 ·subst hdn
  have hPr := Print_c [] (.slice A0 0 c0) w1 (hw.keep hb1) hd.reads (by simp) (by simp)
  rw [show printL [] = (0, []) by decide] at hPr
  simp only [intStr] at hPr
  have HPr := Lib.hid hPr
  clear hPr
  simp only [List.length_nil]
  go_wp2_with fail
  go_loopg [22] 0 (fun gk i wr => i = .int .i64 0 ∧ wr = w1)
  case atStart => exact ⟨rfl, rfl⟩
  case round =>
   obtain ⟨rfl, rfl⟩ := hrel
   go_wp2_with (go_at_call 72; refine HPr.out.mono ?_; rintro e w2 ⟨rfl, hb2⟩)
   go_ret2
   rw [HN.out]
   exact ⟨hb1.trans (hb2.mono hb1.size), [], rfl, fun m h => by cases h; decide⟩
 ·have hlpos : 0 < d.length := List.length_pos_iff.2 hdn
  obtain ⟨gd, rfl⟩ : ∃ gd, A0 = some ⟨gd, 0, none⟩ := by
   obtain ⟨vs, ⟨h1, h2⟩, _⟩ := hd
   rcases h2 with ⟨hv, hn⟩ | ⟨g, cap, cur, hv, _⟩
   ·have := (Value.slice.inj hv).2.1; omega
   ·have := (Value.slice.inj hv).1; exact ⟨g, this⟩
  have hS0 : NState w.heap.size w1 gd d := hd.nm HNE.out
  clear hd
  go_wp2_with fail
  go_loopg [22] d.length (fun gk i wr => ∃ k : Nat, k ≤ d.length ∧ i = .int .i64 k ∧ Aside (k + gk = d.length) ∧ Below w.heap.size w wr ∧ NState w.heap.size wr gd ((d.take k).map normP ++ d.drop k))
  case atStart => exact ⟨0, by omega, rfl, by show _ = _; omega, hb1, by simpa using hS0⟩
  case round =>
   obtain ⟨k, hk, rfl, AG, hB, hS⟩ := hrel
   obtain ⟨wo, hwo⟩ : ∃ wo, wo = wr := ⟨_, rfl⟩
   subst hwo
   by_cases hlt : k < d.length
   ·obtain ⟨q, rfl⟩ : ∃ q, gk = q + 1 := ⟨gk - 1, by have := AG.out; omega⟩
    obtain ⟨L, hL, hNM⟩ := hS
    have hLlen : L.length = d.length := by have := congrArg List.length hL; simp at this; omega
    obtain ⟨⟨g, cap, p⟩, hLk⟩ : ∃ x, L[k]? = some x := ⟨_, List.getElem?_eq_getElem (by omega)⟩
    have hpk : d[k] = p := by
     have h1 : (L.map (·.2.2))[k]? = some p := by rw [List.getElem?_map, hLk]; rfl
     rw [hL, List.getElem?_append_right (by simp; omega)] at h1
     simp [Nat.min_eq_left hk, List.getElem?_eq_getElem hlt] at h1
     exact h1
    have hpm : p ∈ d := hpk ▸ List.getElem_mem hlt
    have hx := hNM.2.2.2 k _ hLk
    simp only at hx
    obtain ⟨x1, x2, x3, x4, x5, x6⟩ := hx
    obtain ⟨hp4, hpx⟩ := HSM.out p hpm
    have HL := Lib.hid hL
    have HLK := Lib.hid hLk
    have HPX := Lib.hid hpx
    have HPK := Lib.hid hpk
    have hgd := hNM.1
    clear hL hLk hpx hpk
    go_wp2_with fail
    go_loopg [29] p.length (fun gk i wi => ∃ j : Nat, j ≤ p.length ∧ i = .int .i64 j ∧ Aside (j + gk = p.length) ∧ wo.grownBy wi (some g) ∧ RowA wi g (upto p j))
    case atStart => exact ⟨0, by omega, rfl, by show _ = _; omega, World.grownBy.refl _ _, by simpa [upto] using x3⟩
    case round =>
     obtain ⟨j, hj, rfl, AG2, hgi, hR⟩ := hrel
     by_cases hjl : j < p.length
     ·obtain ⟨q2, rfl⟩ : ∃ q2, gk = q2 + 1 := ⟨gk - 1, by have := AG2.out; omega⟩
      have ha := hR.at2 (upto_at p j hjl)
      obtain ⟨d0, d1, z0, z1⟩ := ha
      obtain ⟨l64, l1024⟩ := HPX.out p[j] (List.getElem_mem hjl)
      have hlen := upto_len p j
      have hsetT := fun t => RowA.setT (w := wr) hR (j := j) (by omega) t
      have hAt := upto_at p j hjl
      have HSU := Lib.hid (upto_succ p j hjl)
      have HAT := Lib.hid hAt
      have HR := Lib.hid hR
      have HGI := Lib.hid hgi
      have hnA : normA p[j] = (smallL p[j].1, (prepL p[j].2 true).getD p[j].2) := rfl
      have HNA := Lib.hid hnA
      clear hAt hsetT hnA hR hgi
      have hglt : g < wr.heap.size := cell_lt d0
      go_wp2_with fail
      have kA := Bk.new wr 123 #[.string ⟨p[j].1.toArray⟩, .string ⟨p[j].2.toArray⟩]
      have hgA := World.grownBy_alloc wr (.cells #[.string ⟨p[j].1.toArray⟩, .string ⟨p[j].2.toArray⟩] 123) none
      refine (Small_c _ _ (by omega)).mono ?_
      rintro e w4 ⟨rfl, hb4⟩
      have kA4 := kA.below hb4
      have g4 : wr.grownBy w4 none := World.grownBy.trans hgA ⟨hb4.os, hb4.tape, hb4.output, hb4.size, fun k hk _ => hb4.block k hk⟩
      have hR4 := HR.out.keep g4 (by simp)
      have ha4 := hR4.at2 HAT.out
      have c4 := ha4.1
      have z4 := ha4.2.2.1
      have f4 : (w4.setCell ⟨g, j * 2, none⟩ (.string ⟨(smallL p[j].1).toArray⟩)).cell? ⟨wr.heap.size, 1, none⟩ = some (.string ⟨p[j].2.toArray⟩) := (kA4.far (by omega) _).cell 1
      have hR5 := hR4.setT (j := j) (by omega) (smallL p[j].1)
      have g5 := World.grownBy.trans (grown_any g4 (some g)) (setCell_grown w4 g (j * 2) (.string ⟨(smallL p[j].1).toArray⟩))
      go_wp2_with fail
      generalize w4.setCell ⟨g, j * 2, none⟩ (.string ⟨(smallL p[j].1).toArray⟩) = w5 at *
      have hgj : (upto p j)[j]'(by omega) = p[j] := (List.getElem?_eq_some_iff.1 HAT.out).2
      rw [hgj] at hR5
      have hB5 : Below w.heap.size w w5 := (hB.grown HGI.out hB.size (fun k hk => by cases hk; exact x5)).grown g5 (Nat.le_trans hB.size HGI.out.size) (fun k hk => by cases hk; exact x5)
      have hPr := Prepare_c p[j].2 true w5 (hw.keep hB5) (by omega)
      have AG3 : Aside (j + 1 + q2 = p.length) := by have := AG2.out; show _ = _; omega
      have hj5 : j < ((upto p j).set j (smallL p[j].1, p[j].2)).length := by simp; omega
      have hg5 : g < w5.heap.size := hR5.1
      clear hgj c4 z4 hR4 ha4 g4 kA4 kA hgA hb4 f4 hB5
      cases hpp : prepL p[j].2 true with
      | none =>
       rw [hpp] at hPr
       have hfinA : normA p[j] = (smallL p[j].1, p[j].2) := by rw [HNA.out, hpp]; rfl
       have hsu := HSU.out
       rw [hfinA] at hsu
       have HSU2 := Lib.hid hsu
       simp only [strOr] at hPr
       clear hpp hfinA hsu
       refine hPr.mono ?_
       rintro e w6 ⟨rfl, hb6⟩
       have g6 : w5.grownBy w6 none := ⟨hb6.os, hb6.tape, hb6.output, hb6.size, fun k hk _ => hb6.block k hk⟩
       have hR6 := hR5.keep g6 (by simp)
       go_wp2_with fail
       go_roundg q2
       case measure => omega
       case rel => exact ⟨j + 1, by omega, by go_num, AG3.out, World.grownBy.trans HGI.out (World.grownBy.trans g5 (grown_any g6 _)), by rw [← HSU2.out]; exact hR6⟩
      | some t =>
       rw [hpp] at hPr
       have hfinA : normA p[j] = (smallL p[j].1, t) := by rw [HNA.out, hpp]; rfl
       have hsu := HSU.out
       rw [hfinA] at hsu
       have HSU2 := Lib.hid hsu
       simp only [strOr] at hPr
       clear hpp hfinA hsu
       refine hPr.mono ?_
       rintro e w6 ⟨rfl, hb6⟩
       have g6 : w5.grownBy w6 none := ⟨hb6.os, hb6.tape, hb6.output, hb6.size, fun k hk _ => hb6.block k hk⟩
       have hR6 := hR5.keep g6 (by simp)
       have ha6 := hR6.at2 (j := j) (List.getElem?_eq_getElem hj5)
       have c6 := ha6.2.1
       have z6 := ha6.2.2.2
       have hR7 := hR6.setV hj5 t
       simp only [List.getElem_set_self, List.set_set] at hR7
       have HR7 := Lib.hid hR7
       clear ha6 hR7 hR6 hR5
       go_wp2_with fail
       go_roundg q2
       case measure => omega
       case rel => exact ⟨j + 1, by omega, by go_num, AG3.out, World.grownBy.trans HGI.out (World.grownBy.trans g5 (World.grownBy.trans (grown_any g6 _) (setCell_grown _ _ _ _))), by rw [← HSU2.out]; exact HR7.out⟩
     ·obtain rfl : j = p.length := by omega
      have hRp : RowA wr g (p.map normA) := by have := hR; unfold upto at this; simpa using this
      have hPart := Part_c (p.map normA) g cap wr hRp (by simp; omega) (by simp; exact x4)
      rw [List.length_map] at hPart
      have hPart' : Calls Tryz.prog 71 #[.slice (some ⟨g, 0, none⟩) p.length cap] wr fun e w' => e = .returned (.slice (some ⟨g, 0, none⟩) (normP p).length cap) ∧ RowA w' g (normP p) ∧ wr.grownBy w' (some g) := hPart
      have hnl : (normP p).length ≤ p.length := by have := partN_len (p.map normA); rw [List.length_map] at this; exact this
      have HGI := Lib.hid hgi
      clear hRp hPart hR hgi
      go_wp2_with fail
      refine hPart'.mono ?_
      rintro e w7 ⟨rfl, hR7, hg7⟩
      have g7 := World.grownBy.trans HGI.out hg7
      have c7 : w7.cell? ⟨gd, k, none⟩ = some (.slice (some ⟨g, 0, none⟩) p.length cap) := g7.cell x1 (by intro e; exact x6 (Option.some.inj e).symm)
      have z7 : w7.frozen? ⟨gd, k, none⟩ = false := (World.frozen?_of_block (a := ⟨gd, k, none⟩) (g7.block gd hgd (by intro e; exact x6 (Option.some.inj e).symm))).trans x2
      have hNM7 := hNM.part HLK.out g7 hR7 (Nat.le_trans hnl x4)
      have hB7 : Below w.heap.size w w7 := hB.grown g7 hB.size (fun k hk => by cases hk; exact x5)
      have hgdB := hNM.2.1
      have HNM7 := Lib.hid hNM7
      have HB7 := Lib.hid hB7
      clear hNM7 hB7
      go_wp2_with fail
      go_roundg q
      case measure => omega
      case rel =>
       refine ⟨k + 1, by omega, by go_num, by have := AG.out; show _ = _; omega, HB7.out.setCell hgdB _, _, ?_, HNM7.out⟩
       rw [List.map_set, HL.out]
       have hl1 : ((d.take k).map normP).length = k := by simp; omega
       rw [List.set_append_right _ _ (by omega), hl1, Nat.sub_self, List.drop_eq_getElem_cons hlt, List.set_cons_zero, List.take_succ_eq_append_getElem hlt, List.map_append, List.append_assoc, HPK.out]
       rfl
   ·obtain rfl : k = d.length := by omega
    obtain ⟨L, hL, hNM⟩ := hS
    simp only [List.take_length, List.drop_length, List.append_nil] at hL
    have hLlen : L.length = d.length := by have := congrArg List.length hL; simpa using this
    have hdr := hNM.dnR (c := c0) (by omega)
    rw [hL, hLlen] at hdr
    have hPr := Print_c (d.map normP) (.slice (some ⟨gd, 0, none⟩) d.length c0) wo (hw.keep hB) hdr (by simp; omega) (fun p hp => by
     obtain ⟨p0, hp0, rfl⟩ := List.mem_map.1 hp
     obtain ⟨h4, hx⟩ := HSM.out p0 hp0
     have := partN_len (p0.map normA)
     rw [List.length_map] at this
     refine ⟨by unfold normP; omega, fun x hx' => ?_⟩
     have := partN_mem _ x hx'
     obtain ⟨y, hy, rfl⟩ := List.mem_map.1 this
     have := (hx y hy).1
     show (smallL y.1).length ≤ _
     rw [smallL_len]; omega)
    generalize printL (d.map normP) = pr at *
    obtain ⟨pe, ps⟩ := pr
    simp only [intStr] at hPr
    have HPr := Lib.hid hPr
    clear hPr hdr hL hNM
    by_cases hpe : pe = 0
    ·subst hpe
     go_wp2_with (go_at_call 72; refine HPr.out.mono ?_; rintro e w2 ⟨rfl, hb2⟩)
     go_ret2
     rw [HN.out]
     exact ⟨hB.trans (hb2.mono hB.size), ps, rfl, fun m h => by simp at h; exact h⟩
    ·have hq : ((pe : Int) == 0) = false := beq_eq_false_iff_ne.2 hpe
     go_wp2_with (go_at_call 72; refine HPr.out.mono ?_; rintro e w2 ⟨rfl, hb2⟩)
     go_ret2
     rw [HN.out]
     exact ⟨hB.trans (hb2.mono hB.size), ps, by simp [hpe], fun m h => by simp [hpe] at h⟩
open Go.RowKit Go.Sort
def kTrue : List UInt8 := [84, 82, 85, 69]
def kFalse : List UInt8 := [70, 65, 76, 83, 69]
def boolL (v : List UInt8) : Bool := v == kTrue || v == kFalse
def textL (v : List UInt8) : Bool := !v.isEmpty && (prepL v false).isSome
def formOk (f v : List UInt8) : Bool :=
 if f = fOctets then true
 else if f = fText then textL v
 else if f = fAscii then asciiL v
 else if f = fInteger then intL v
 else if f = fBoolean then boolL v
 else if f = fName then (parseL v).1 == 0
 else if f = fOid then isTypeL v
 else if f = fTime then timeL v
 else false
def validL (f v : List UInt8) : Bool := decide (v.length ≤ 1024) && formOk f v
section
variable (f v : List UInt8) (w : World) (hw : Env w) (hv : v.length ≤ 1024)
def ValidSays (f v : List UInt8) (w : World) (b : Bool) : Prop :=
 Calls Tryz.prog 40 #[.string ⟨f.toArray⟩, .string ⟨v.toArray⟩] w fun e w' => e = .returned (.bool b) ∧ Below w.heap.size w w'
set_option maxRecDepth 100000
set_option maxHeartbeats 1000000
theorem Valid_long (hv : ¬ v.length ≤ 1024) : ValidSays f v w false := by
 unfold ValidSays
 have hv' : 1024 < v.length := by omega
 go_enter Tryz.func40, Tryz.ntmps40
 go_wp2
 go_ret
 exact ⟨rfl, Below.refl _ _⟩
include hv
theorem Valid_1 (e1 : (f == [111, 99, 116, 101, 116, 115]) = true) : ValidSays f v w true := by
 unfold ValidSays
 go_enter Tryz.func40, Tryz.ntmps40
 go_wp2
 go_ret
 exact ⟨rfl, Below.refl _ _⟩
theorem Valid_3 (e1 : (f == [111, 99, 116, 101, 116, 115]) = false) (e2 : (f == [116, 101, 120, 116]) = false) (e3 : (f == [97, 115, 99, 105, 105]) = true) : ValidSays f v w (asciiL v) := by
 unfold ValidSays
 go_enter Tryz.func40, Tryz.ntmps40
 go_wp2_with (go_at_call 79; refine (isASCII_c v _ hv).mono ?_; rintro e w' ⟨rfl, rfl⟩)
 go_ret
 exact ⟨rfl, Below.refl _ _⟩
theorem Valid_4 (e1 : (f == [111, 99, 116, 101, 116, 115]) = false) (e2 : (f == [116, 101, 120, 116]) = false) (e3 : (f == [97, 115, 99, 105, 105]) = false) (e4 : (f == [105, 110, 116, 101, 103, 101, 114]) = true) : ValidSays f v w (intL v) := by
 unfold ValidSays
 go_enter Tryz.func40, Tryz.ntmps40
 go_wp2_with (go_at_call 80; refine (isInteger_c v _ (by omega)).mono ?_; rintro e w' ⟨rfl, hb⟩)
 go_ret
 exact ⟨rfl, hb⟩
theorem Valid_5 (e1 : (f == [111, 99, 116, 101, 116, 115]) = false) (e2 : (f == [116, 101, 120, 116]) = false) (e3 : (f == [97, 115, 99, 105, 105]) = false) (e4 : (f == [105, 110, 116, 101, 103, 101, 114]) = false) (e5 : (f == [98, 111, 111, 108, 101, 97, 110]) = true) : ValidSays f v w (boolL v) := by
 unfold ValidSays boolL
 cases h1 : v == [84, 82, 85, 69] <;> cases h2 : v == [70, 65, 76, 83, 69]
 all_goals
  have h1' : (v == kTrue) = _ := h1
  have h2' : (v == kFalse) = _ := h2
  rw [h1', h2']
  clear h1' h2'
  go_enter Tryz.func40, Tryz.ntmps40
  go_wp2
  go_ret
  exact ⟨rfl, Below.refl _ _⟩
theorem Valid_8 (e1 : (f == [111, 99, 116, 101, 116, 115]) = false) (e2 : (f == [116, 101, 120, 116]) = false) (e3 : (f == [97, 115, 99, 105, 105]) = false) (e4 : (f == [105, 110, 116, 101, 103, 101, 114]) = false) (e5 : (f == [98, 111, 111, 108, 101, 97, 110]) = false) (e6 : (f == [110, 97, 109, 101]) = false) (e7 : (f == [111, 105, 100]) = false) (e8 : (f == [116, 105, 109, 101]) = true) : ValidSays f v w (timeL v) := by
 unfold ValidSays
 go_enter Tryz.func40, Tryz.ntmps40
 go_wp2_with (go_at_call 82; refine (isTime_c v _ (by omega)).mono ?_; rintro e w' ⟨rfl, hb⟩)
 go_ret
 exact ⟨rfl, hb⟩
theorem Valid_9 (e1 : (f == [111, 99, 116, 101, 116, 115]) = false) (e2 : (f == [116, 101, 120, 116]) = false) (e3 : (f == [97, 115, 99, 105, 105]) = false) (e4 : (f == [105, 110, 116, 101, 103, 101, 114]) = false) (e5 : (f == [98, 111, 111, 108, 101, 97, 110]) = false) (e6 : (f == [110, 97, 109, 101]) = false) (e7 : (f == [111, 105, 100]) = false) (e8 : (f == [116, 105, 109, 101]) = false) : ValidSays f v w false := by
 unfold ValidSays
 go_enter Tryz.func40, Tryz.ntmps40
 go_wp2
 go_ret
 exact ⟨rfl, Below.refl _ _⟩
include hw
theorem Valid_2 (e1 : (f == [111, 99, 116, 101, 116, 115]) = false) (e2 : (f == [116, 101, 120, 116]) = true) : ValidSays f v w (textL v) := by
 unfold ValidSays textL
 have hP := Prepare_c v false w hw (by omega)
 cases hp : prepL v false <;> cases hn : v.isEmpty
 all_goals
  rw [hp] at hP
  simp only [strOr] at hP
  go_enter Tryz.func40, Tryz.ntmps40
  go_wp2_with (go_at_call 78; refine hP.mono ?_; rintro e w' ⟨rfl, hb⟩)
  go_ret
  exact ⟨rfl, hb⟩
theorem Valid_6 (e1 : (f == [111, 99, 116, 101, 116, 115]) = false) (e2 : (f == [116, 101, 120, 116]) = false) (e3 : (f == [97, 115, 99, 105, 105]) = false) (e4 : (f == [105, 110, 116, 101, 103, 101, 114]) = false) (e5 : (f == [98, 111, 111, 108, 101, 97, 110]) = false) (e6 : (f == [110, 97, 109, 101]) = true) : ValidSays f v w ((parseL v).1 == 0) := by
 unfold ValidSays
 have hP := Parse_c v w hw
 generalize parseL v = ps at *
 obtain ⟨er, d⟩ := ps
 have HP := Lib.hid hP
 clear hP
 go_enter Tryz.func40, Tryz.ntmps40
 go_wp2_with (go_at_call 70; refine HP.out.mono ?_; rintro e w1 ⟨hb1, v, rfl, hd⟩; obtain ⟨A0, c0, rfl, hc0⟩ := hd.isSlice)
 go_ret
 exact ⟨rfl, hb1⟩
theorem Valid_7 (e1 : (f == [111, 99, 116, 101, 116, 115]) = false) (e2 : (f == [116, 101, 120, 116]) = false) (e3 : (f == [97, 115, 99, 105, 105]) = false) (e4 : (f == [105, 110, 116, 101, 103, 101, 114]) = false) (e5 : (f == [98, 111, 111, 108, 101, 97, 110]) = false) (e6 : (f == [110, 97, 109, 101]) = false) (e7 : (f == [111, 105, 100]) = true) : ValidSays f v w (isTypeL v) := by
 unfold ValidSays
 go_enter Tryz.func40, Tryz.ntmps40
 go_wp2_with (go_at_call 81; refine (IsType_c v _ hw (by omega)).mono ?_; rintro e w' ⟨rfl, hb⟩)
 go_ret
 exact ⟨rfl, hb⟩
end
theorem Valid_c (f v : List UInt8) (w : World) (hw : Env w) :
  Calls Tryz.prog 40 #[.string ⟨f.toArray⟩, .string ⟨v.toArray⟩] w fun e w' => e = .returned (.bool (validL f v)) ∧ Below w.heap.size w w' := by
 change ValidSays f v w (validL f v)
 unfold validL
 by_cases hv : v.length ≤ 1024
 ·rw [decide_eq_true hv, Bool.true_and]
  have no : ∀ l : List UInt8, f ≠ l → (f == l) = false := fun l h => beq_eq_false_iff_ne.2 h
  have ye : ∀ l : List UInt8, f = l → (f == l) = true := fun l h => beq_iff_eq.2 h
  unfold formOk
  by_cases h1 : f = fOctets
  ·rw [if_pos h1]; exact Valid_1 f v w hv (ye _ h1)
  rw [if_neg h1]
  by_cases h2 : f = fText
  ·rw [if_pos h2]; exact Valid_2 f v w hw hv (no _ h1) (ye _ h2)
  rw [if_neg h2]
  by_cases h3 : f = fAscii
  ·rw [if_pos h3]; exact Valid_3 f v w hv (no _ h1) (no _ h2) (ye _ h3)
  rw [if_neg h3]
  by_cases h4 : f = fInteger
  ·rw [if_pos h4]; exact Valid_4 f v w hv (no _ h1) (no _ h2) (no _ h3) (ye _ h4)
  rw [if_neg h4]
  by_cases h5 : f = fBoolean
  ·rw [if_pos h5]; exact Valid_5 f v w hv (no _ h1) (no _ h2) (no _ h3) (no _ h4) (ye _ h5)
  rw [if_neg h5]
  by_cases h6 : f = fName
  ·rw [if_pos h6]; exact Valid_6 f v w hw hv (no _ h1) (no _ h2) (no _ h3) (no _ h4) (no _ h5) (ye _ h6)
  rw [if_neg h6]
  by_cases h7 : f = fOid
  ·rw [if_pos h7]; exact Valid_7 f v w hw hv (no _ h1) (no _ h2) (no _ h3) (no _ h4) (no _ h5) (no _ h6) (ye _ h7)
  rw [if_neg h7]
  by_cases h8 : f = fTime
  ·rw [if_pos h8]; exact Valid_8 f v w hv (no _ h1) (no _ h2) (no _ h3) (no _ h4) (no _ h5) (no _ h6) (no _ h7) (ye _ h8)
  rw [if_neg h8]
  exact Valid_9 f v w hv (no _ h1) (no _ h2) (no _ h3) (no _ h4) (no _ h5) (no _ h6) (no _ h7) (no _ h8)
 ·rw [decide_eq_false hv, Bool.false_and]
  exact Valid_long f v w hv
open Go.RowKit Go.Sort
theorem self_c (v : List UInt8) (w : World) : Calls Tryz.prog 248 #[.string ⟨v.toArray⟩] w (NormRet w (some v)) := by
 go_enter Tryz.func248, Tryz.ntmps248
 go_wp2
 go_ret2
 exact ⟨Below.refl _ _, v, rfl, fun m h => by cases h; rfl⟩
theorem oid_c (v : List UInt8) (w : World) (hv : v.length ≤ 1024) : Calls Tryz.prog 251 #[.string ⟨v.toArray⟩] w (NormRet w (some (smallL v))) := by
 go_enter Tryz.func251, Tryz.ntmps251
 go_wp2_with (go_at_call 61; refine (Small_c v _ (by omega)).mono ?_; rintro e w' ⟨rfl, hb⟩)
 go_ret2
 exact ⟨hb, _, rfl, fun m h => by cases h; rfl⟩
theorem text1_c (v : List UInt8) (fold : Bool) (a : Nat) (w : World) (hw : Env w) (hc : w.cell? ⟨a, 0, none⟩ = some (.bool fold)) (hv : v.length ≤ 1024) :
  Calls Tryz.prog 270 #[.string ⟨v.toArray⟩, .pointer (some ⟨a, 0, none⟩)] w (NormRet w (prepL v fold)) := by
 have hP := Prepare_c v fold w hw (by omega)
 cases hp : prepL v fold
 ·rw [hp] at hP
  clear hp
  simp only [strOr] at hP
  go_enter Tryz.func270, Tryz.ntmps270
  go_wp2_with (go_at_call 78; refine hP.mono ?_; rintro e w' ⟨rfl, hb⟩)
  go_ret2
  exact ⟨hb, [], rfl, fun m h => by cases h⟩
 ·rw [hp] at hP
  clear hp
  simp only [strOr] at hP
  go_enter Tryz.func270, Tryz.ntmps270
  go_wp2_with (go_at_call 78; refine hP.mono ?_; rintro e w' ⟨rfl, hb⟩)
  go_ret2
  exact ⟨hb, _, rfl, fun m h => by cases h; rfl⟩
theorem name_c (s : List UInt8) (w : World) (hw : Env w) : Calls Tryz.prog 250 #[.string ⟨s.toArray⟩] w (NormRet w (nameN s)) := by
 by_cases her : (parseL s).1 = 0
 ·refine name_ok s w hw her ?_
  unfold parseL at her ⊢
  split at her
  ·simp at her
  ·next h1 =>
   rw [if_neg h1]
   split at her
   ·simp at her
   ·next d hd =>
    split at her
    ·simp at her
    ·next h2 => simp only [hd, if_neg h2]; simpa using h2
 ·exact name_no s w hw her
theorem normal1_c (f v : List UInt8) (a : Nat) (w : World) (hw : Env w) (hc : w.cell? ⟨a, 0, none⟩ = some (.string ⟨v.toArray⟩)) :
  Calls Tryz.prog 142 #[.string ⟨f.toArray⟩, .pointer (some ⟨a, 0, none⟩)] w fun e w' => e = .returned (.bool (validL f v)) ∧ Below w.heap.size w w' := by
 have hV := Valid_c f v w hw
 generalize validL f v = b at *
 go_enter Tryz.func142, Tryz.ntmps142
 go_wp2_with (go_at_call 40; refine hV.mono ?_; rintro e w' ⟨rfl, hb⟩)
 go_ret
 exact ⟨rfl, hb⟩
set_option maxRecDepth 10000 in
theorem forms_idx (p : List (List UInt8)) (v : Value) (w : World) (hv : Texts w v p) (hl : p.length ≤ 1000000) (a : Nat) (P : List UInt8 → Bool)
  (hF : ∀ x ∈ p, ∀ W, Below w.heap.size w W → Calls Tryz.prog 142 #[.string ⟨x.toArray⟩, .pointer (some ⟨a, 0, none⟩)] W fun e W' => e = .returned (.bool (P x)) ∧ Below W.heap.size W W') :
  Calls Tryz.prog 85 #[v, .func (.func 142) #[] #[.pointer (some ⟨a, 0, none⟩)]] w fun e w' => (∃ i : Int, e = .returned (.int .i64 i) ∧ decide (0 ≤ i) = p.any P) ∧ Below w.heap.size w w' := by
 have HF := Lib.hid hF
 clear hF
 obtain ⟨A, c, rfl, hc, hx⟩ : ∃ A c, v = .slice A p.length c ∧ p.length ≤ c ∧ (p = [] ∨ ∃ g, A = some ⟨g, 0, none⟩ ∧ g < w.heap.size ∧ ∀ j (hj : j < p.length), w.cell? ⟨g, j, none⟩ = some (.string ⟨p[j].toArray⟩)) := by
  rcases hv with ⟨rfl, rfl⟩ | ⟨b, c, rfl, h1, h2, h3⟩
  ·exact ⟨none, 0, rfl, Nat.le_refl _, .inl rfl⟩
  ·exact ⟨_, c, rfl, h1, .inr ⟨b, rfl, h2, h3⟩⟩
 have HX := Lib.hid hx
 clear hx
 go_enter Tryz.func85, Tryz.ntmps85
 go_wp2_with fail
 go_loopg [8] p.length (fun gk i wr => ∃ k : Nat, k ≤ p.length ∧ i = .int .i64 k ∧ Aside (k + gk = p.length) ∧ Below w.heap.size w wr ∧ Aside (p.any P = (p.drop k).any P))
 case atStart => exact ⟨0, by omega, rfl, by show _ = _; omega, Below.refl _ _, rfl⟩
 case round =>
  obtain ⟨k, hk, rfl, AG, hB, AS⟩ := hrel
  by_cases hlt : k < p.length
  ·obtain ⟨q, rfl⟩ : ∃ q, gk = q + 1 := ⟨gk - 1, by have := AG.out; omega⟩
   obtain ⟨g, rfl, hg, hcells⟩ := HX.out.resolve_left (by intro h; rw [h] at hlt; simp at hlt)
   have AS' : Aside (p.any P = (P p[k] || (p.drop (k + 1)).any P)) := by have := AS.out; rw [List.drop_eq_getElem_cons hlt] at this; exact this
   have c0 : wr.cell? ⟨g, k, none⟩ = some (.string ⟨p[k].toArray⟩) := (hB.cell (p := ⟨g, k, none⟩) hg).trans (hcells k hlt)
   have HC : Hid (∀ W, Below w.heap.size w W → Calls Tryz.prog 142 #[.string ⟨p[k].toArray⟩, .pointer (some ⟨a, 0, none⟩)] W fun e W' => e = .returned (.bool (P p[k])) ∧ Below W.heap.size W W') := fun W hW => HF.out p[k] (List.getElem_mem hlt) W hW
   clear hcells AS
   cases hP : P p[k]
   ·have HP := Lib.hid hP
    have HC' := HC.out
    rw [hP] at HC'
    have HC2 := Lib.hid HC'
    clear hP HC HC'
    go_wp2_with (go_at_call 142; refine (HC2.out _ hB).mono ?_; rintro e w2 ⟨rfl, hb2⟩)
    go_roundg q
    case measure => omega
    case rel => exact ⟨k + 1, by omega, by go_num, by have := AG.out; show _ = _; omega, hB.trans (hb2.mono hB.size), by have := AS'.out; rw [HP.out] at this; exact this⟩
   ·have HP := Lib.hid hP
    have HC' := HC.out
    rw [hP] at HC'
    have HC2 := Lib.hid HC'
    clear hP HC HC'
    go_wp2_with (go_at_call 142; refine (HC2.out _ hB).mono ?_; rintro e w2 ⟨rfl, hb2⟩)
    go_ret
    exact ⟨⟨k, rfl, by rw [AS'.out, HP.out]; simp⟩, hB.trans (hb2.mono hB.size)⟩
  ·obtain rfl : k = p.length := by omega
   have hs : p.any P = false := by have := AS.out; rw [List.drop_length] at this; exact this
   have Hs := Lib.hid hs
   clear hs AS
   go_wp2_with fail
   go_ret
   exact ⟨⟨-1, rfl, by rw [Hs.out]; rfl⟩, hB⟩
theorem forms_any (p : List (List UInt8)) (v : Value) (w : World) (hv : Texts w v p) (hl : p.length ≤ 1000000) (a : Nat) (P : List UInt8 → Bool)
  (hF : ∀ x ∈ p, ∀ W, Below w.heap.size w W → Calls Tryz.prog 142 #[.string ⟨x.toArray⟩, .pointer (some ⟨a, 0, none⟩)] W fun e W' => e = .returned (.bool (P x)) ∧ Below W.heap.size W W') :
  Calls Tryz.prog 42 #[v, .func (.func 142) #[] #[.pointer (some ⟨a, 0, none⟩)]] w fun e w' => e = .returned (.bool (p.any P)) ∧ Below w.heap.size w w' := by
 have hI := forms_idx p v w hv hl a P hF
 obtain ⟨A0, n0, c0, rfl⟩ := hv.isSlice
 clear hF hv
 go_enter Tryz.func42, Tryz.ntmps42
 go_wp2_with (go_at_call 85; refine hI.mono ?_; rintro e w1 ⟨⟨i, rfl, hi⟩, hb1⟩; have Hi := Lib.hid hi; clear hi)
 all_goals
  go_ret
  exact ⟨retb (by rw [← Hi.out]), hb1⟩
end Go.Proofs.YtkkbbhlihilnpaaGreatDoor
