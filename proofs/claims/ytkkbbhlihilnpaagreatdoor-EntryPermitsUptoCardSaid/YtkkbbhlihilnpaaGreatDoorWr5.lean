import Derived.Test.YtkkbbhlihilnpaaGreatDoorWr4
import Derived.Test.YtkkbbhlihilnpaaGreatDoorWr3
set_option linter.all false
set_option maxHeartbeats 8000000
set_option maxRecDepth 100000
namespace Go.Proofs.YtkkbbhlihilnpaaGreatDoor
open Go.RowKit
open Go.RowKit
theorem above_len {L : List DefS} {x : Nat} (h : x < L.length) : (aboveN L x).length ≤ L.length := by
 have hS := aboveD_says L x h
 have := nodup_bound _ _ hS.nodup hS.lt
 unfold aboveN
 rw [List.length_map]
 exact this
def ClsOut (W : World) (L : List DefS) (i : Nat) (d : DefS) (e : Ending) (w' : World) : Prop := ∃ A1 n1 c1 A2 n2 c2 Am nm cm Ay ny cy, e = .returned (.tuple #[.agg #[.string ⟨d.oid.toArray⟩, .string ⟨d.name.toArray⟩, .slice A1 n1 c1, .slice A2 n2 c2, .int .i64 d.kind, .slice Am nm cm, .slice Ay ny cy], .int .i64 0]) ∧ Below W.heap.size W w' ∧ Texts w' (.slice Am nm cm) (mustD L i) ∧ Texts w' (.slice Ay ny cy) (mayD L i) ∧ (mustD L i).length ≤ 1000000 ∧ (mayD L i).length ≤ 1000000 ∧ (∀ k, (Value.slice Am nm cm).ownBlock = some k → W.heap.size ≤ k) ∧ ∀ k, (Value.slice Ay ny cy).ownBlock = some k → W.heap.size ≤ k
theorem Class_o {L : List DefS} (hL : Sound L) (s : Nat) (ps : List Nat) (t : LU) (i : Nat) (d : DefS) (W : World) (hS : SchAt W s ps L) (h1 : t.length ≤ 1000000) (h2 : findD L true t = some i) (h3 : L[i]? = some d) :
  Calls Tryz.prog 48 #[.pointer (some ⟨s, 0, none⟩), .string ⟨t.toArray⟩] W (ClsOut W L i d) := by
 have hk := fun d hd => hL.says.known d hd
 refine (Class_c s ps L t i d W hS hL.lim (by have := hL.says.len; omega) hL.says.sup_known (fun d hd n hn => ?_) (fun d hd n hn => ?_) h1 h2 h3).mono ?_
 ·have := hk d hd
  unfold knownD at this
  simp only [Bool.and_eq_true, List.all_eq_true] at this
  exact this.1.2 n hn
 ·have := hk d hd
  unfold knownD at this
  simp only [Bool.and_eq_true, List.all_eq_true] at this
  exact this.2 n hn
 ·rintro e w' ⟨hb, vn, vs, vm, vy, rfl, t1, t2, t3, t4, l1, l2⟩
  obtain ⟨A1, n1, c1, rfl⟩ := t1.isSlice
  obtain ⟨A2, n2, c2, rfl⟩ := t2.isSlice
  obtain ⟨Am, nm, cm, rfl⟩ := t3.isSlice
  obtain ⟨Ay, ny, cy, rfl⟩ := t4.isSlice
  exact ⟨A1, n1, c1, A2, n2, c2, Am, nm, cm, Ay, ny, cy, rfl, hb, t3, t4, l1, l2⟩
open Go.RowKit
abbrev BLs := LL
def lowF (S : Ent.SchE) : BLs → BLs → BLs
 | [], acc => acc
 | c :: l, acc => match S.cls c with
  | some d => if d.kind == 1 then lowF S l (acc ++ [d.name]) else lowF S l acc
  | none => lowF S l acc
theorem lowF_eq (S : Ent.SchE) : ∀ (l acc : BLs), lowF S l acc = acc ++ l.filterMap fun c => match S.cls c with
  | some d => if d.kind == 1 then some d.name else none
  | none => none
 | [], acc => by simp [lowF]
 | c :: l, acc => by
  rw [lowF, List.filterMap_cons]
  cases hc : S.cls c with
  | none => simp only; rw [lowF_eq S l]
  | some d =>
   simp only
   cases hk : (d.kind == 1)
   ·simp only [Bool.false_eq_true, if_false]; rw [lowF_eq S l]
   ·simp only [if_true]; rw [lowF_eq S l]; simp
theorem lowL_eq (S : Ent.SchE) (e : Ent.EntryE) : lowF S (Ent.findE S e Ent.wObj) [] = Ent.lowL S e := by
 rw [lowF_eq]; rfl
theorem cls_at {L : List DefS} {c : LU} {d : Ent.ClassE} (h : (schE L).cls c = some d) : ∃ i D, findD L true c = some i ∧ L[i]? = some D ∧ D.cls = true ∧ d = classE ⟨D.oid, D.name, D.names, supNames L D, D.kind, mustD L i, mayD L i⟩ := by
 change ((findD L true c).bind fun i => (classD L i).map classE) = some d at h
 cases hf : findD L true c with
 | none => rw [hf] at h; cases h
 | some i =>
  rw [hf] at h
  obtain ⟨D, hD, hc, _⟩ := findD_at hf
  refine ⟨i, D, rfl, hD, hc, ?_⟩
  change (classD L i).map classE = some d at h
  unfold classD at h
  rw [hD] at h
  exact (Option.some.inj h).symm
theorem cls_none {L : List DefS} {c : LU} (h : (schE L).cls c = none) : findD L true c = none := by
 cases hf : findD L true c with
 | none => rfl
 | some i =>
  obtain ⟨D, hD, hc, _⟩ := findD_at hf
  change ((findD L true c).bind fun i => (classD L i).map classE) = none at h
  rw [hf] at h
  change (classD L i).map classE = none at h
  unfold classD at h
  rw [hD] at h
  cases h
theorem low_mem {L : List DefS} (hN : NewSays L) {e : Ent.EntryE} {c : LU} (h : c ∈ Ent.lowL (schE L) e) : ∃ i D, findD L true c = some i ∧ L[i]? = some D ∧ c = D.name := by
 unfold Ent.lowL at h
 obtain ⟨x, hx, hc⟩ := List.mem_filterMap.1 h
 cases hd : (schE L).cls x with
 | none => rw [hd] at hc; cases hc
 | some d =>
  rw [hd] at hc
  obtain ⟨i, D, h1, h2, h3, rfl⟩ := cls_at hd
  simp only at hc
  split at hc
  ·cases hc
   have := hN.named h2
   rw [h3] at this
   exact ⟨i, D, this, h2, rfl⟩
  ·cases hc
theorem filterMap_len {α β : Type} (f : α → Option β) : ∀ l : List α, (l.filterMap f).length ≤ l.length
 | [] => Nat.le_refl _
 | a :: l => by
  have := filterMap_len f l
  rw [List.filterMap_cons]
  split
  ·rw [List.length_cons]; omega
  ·rw [List.length_cons, List.length_cons]; omega
theorem low_len {S : Ent.SchE} {e : Ent.EntryE} : (Ent.lowL S e).length ≤ (Ent.findE S e Ent.wObj).length := filterMap_len _ _
theorem find_len {S : Ent.SchE} {e : Ent.EntryE} {t : LU} : (Ent.findE S e t).length ≤ valsN e.attrs := by
 obtain ⟨dn, l⟩ := e
 unfold Ent.findE valsN
 simp only
 induction l with
 | nil => simp
 | cons a l ih =>
  rw [List.flatMap_cons, List.length_append, List.map_cons, List.sum_cons]
  split
  ·omega
  ·simp only [List.length_nil]; omega
end Go.Proofs.YtkkbbhlihilnpaaGreatDoor
