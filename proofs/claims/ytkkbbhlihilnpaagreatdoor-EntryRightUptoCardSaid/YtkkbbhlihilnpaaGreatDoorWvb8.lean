import Derived.Test.YtkkbbhlihilnpaaGreatDoorWvb7
set_option linter.all false
set_option maxHeartbeats 8000000
namespace Go.Proofs.YtkkbbhlihilnpaaGreatDoor
open Go.RowKit
theorem Env.mods {S : List Nat} {w w' : World} (h : Env w) (hm : Mods S w w') (hS : ∀ b ∈ S, Off b) : Env w' := by
 obtain ⟨⟨h1, h2⟩, m, hx⟩ := h
 have n1 : 1 ∉ S := fun hb => (hS _ hb).1 rfl
 have n2 : 2 ∉ S := fun hb => (hS _ hb).2.1 rfl
 have n3 : 0 ∉ S := fun hb => (hS _ hb).2.2 rfl
 exact ⟨⟨fun c hc => hm.cell (h1 c hc) n1, fun i hi => ⟨hm.cell (h2 i hi).1 n2, hm.cell (h2 i hi).2 n2⟩⟩, m, hm.cell hx n3⟩
def Own (B : Nat) (w : World) (v : Value) (xs : List (List UInt8)) : Prop := w.ownsRow B 9 1 v xs.length (xs.map strV) ∧ B ≤ w.heap.size
theorem Own.nil {B : Nat} {w : World} (hB : B ≤ w.heap.size) : Own B w (.slice none 0 0) [] := ⟨World.ownsRow_nil _ _ _ _, hB⟩
theorem Own.lt {B : Nat} {w : World} {v : Value} {xs : List (List UInt8)} (h : Own B w v xs) : ∀ k, v.ownBlock = some k → B ≤ k ∧ k < w.heap.size := fun k hk => h.1.lt k hk
theorem Own.keep {B : Nat} {w w' : World} {v : Value} {xs : List (List UInt8)} (h : Own B w v xs) {r : Option Nat} (hg : w.grownBy w' r) (hr : ∀ k, r = some k → k < B) : Own B w' v xs := by
 refine ⟨h.1.kept hg ?_, Nat.le_trans h.2 hg.size⟩
 rcases hv : v.ownBlock with _ | g
 ·exact .inl rfl
 ·refine .inr ?_
  intro he
  have := hr g he.symm
  have := (h.1.lt g hv).1
  omega
theorem Own.below {B : Nat} {w w' : World} {v : Value} {xs : List (List UInt8)} (h : Own B w v xs) (hb : Below w.heap.size w w') : Own B w' v xs := h.keep (grown_below hb none) (fun k hk => by cases hk)
theorem Own.mods {B r : Nat} {w w' : World} {v : Value} {xs : List (List UInt8)} (h : Own B w v xs) (hm : Mods [r] w w') (hr : r < B) : Own B w' v xs :=
 h.keep (r := some r) ⟨hm.os, hm.tape, hm.output, hm.size, fun k hk hne => hm.block k hk (by intro hx; apply hne; simp at hx; rw [hx])⟩ (fun k hk => by cases hk; exact hr)
theorem Own.texts {B : Nat} {w : World} {v : Value} {xs : List (List UInt8)} (h : Own B w v xs) : Texts w v xs := by
 obtain ⟨⟨h1, h2⟩, _⟩ := h
 rcases h2 with ⟨rfl, hn⟩ | ⟨g, cap, cur, rfl, r2, r3, r4, r5, r6, r7⟩
 ·exact .inl ⟨List.eq_nil_of_length_eq_zero hn, rfl⟩
 ·refine .inr ⟨g, cap, rfl, r4, (Array.getElem?_eq_some_iff.1 r3).1, fun j hj => ?_⟩
  simp only [World.cell?, r3]
  have : (cur.toList.take (xs.length * 1))[j]? = some (strV xs[j]) := by rw [r7]; simp [hj]
  rw [List.getElem?_take] at this
  simpa [hj, strV] using this
theorem Own.noword {B : Nat} {w : World} {v : Value} {xs : List (List UInt8)} (h : Own B w v xs) {k : Nat} (hk : v.ownBlock = some k) : NoWord w [k] := by
 obtain ⟨⟨h1, h2⟩, _⟩ := h
 rcases h2 with ⟨rfl, hn⟩ | ⟨g, cap, cur, rfl, r2, r3, r4, r5, r6, r7⟩
 ·simp [Value.ownBlock] at hk
 ·have hgk : g = k := by simpa [Value.ownBlock] using hk
  subst hgk
  intro x hx cs z
  have : x = g := by simpa using hx
  subst this
  rw [r3]
  intro e
  cases e
theorem Own.isSlice {B : Nat} {w : World} {v : Value} {xs : List (List UInt8)} (h : Own B w v xs) : ∃ A c, v = .slice A xs.length c ∧ xs.length ≤ c := by
 obtain ⟨⟨h1, h2⟩, _⟩ := h
 rcases h2 with ⟨rfl, hn⟩ | ⟨g, cap, cur, rfl, r2, r3, r4, _⟩
 ·exact ⟨none, 0, by rw [hn], by omega⟩
 ·exact ⟨_, cap, rfl, r4⟩
theorem own_one {ops : Array Oper} {rest : List Oper} {o : Oper} {a : Act} {Q : Exit → Act → World → Prop} (hgd : o.guard = none) (s x : Operand) (ho : o.op = .call { callee := .builtin .append, args := #[s, x], argTypes := #[23, 23] })
  {v : Value} {xs : List (List UInt8)} {B N : Nat} {w0 : World} {c : List UInt8} (hs : a.eval s = v) (hb : Own B w0 v xs)
  (hx : a.eval x = .slice (some ⟨N, 0, none⟩) 1 1) (hN : N = w0.heap.size) (hlen : xs.length < 4398046511104)
  (h : ∀ v' w', Own B w' v' (xs ++ [c]) → w0.grownBy w' v.ownBlock → wpList Tryz.prog ops Q rest (a.put o.dst v') w') : wpList Tryz.prog ops Q (o :: rest) a (w0.alloc (.cells #[.string ⟨c.toArray⟩] 9)) := by
 subst hN
 obtain ⟨i, h1, h2, h3, h4⟩ := infoStr
 have hb' := hb.keep (World.grownBy_alloc w0 (.cells #[.string ⟨c.toArray⟩] 9) none) (fun k hk => by cases hk)
 refine wpList_append_own _ hgd s x 23 ho B 9 i (.string ⟨#[]⟩) 1 16 Tryz.underlying23 h1 h2 h3 h4 rfl (by decide) v _ _ hs hb'.1 ⟨w0.heap.size, 0, none⟩ 1 1 [.string ⟨c.toArray⟩] hx rfl ?_ ?_ (by unfold maxLen; omega) (by omega) hb'.2 ?_
 ·intro j u hj
  match j, hj with
  | 0, hj => simp at hj; subst hj; simp [Addr.add]
  | (j + 1), hj => simp at hj
 ·intro u hu; simp at hu; subst hu; rfl
 ·intro v' w' ho' hg _
  refine h v' w' ⟨?_, Nat.le_trans hb'.2 hg.size⟩ (World.grownBy.trans (World.grownBy_alloc _ _ _) hg)
  simpa [strV] using ho'
theorem RdW.owned {w w' : World} {r B : Nat} {l : List Wd} {v : Value} {xs : List (List UInt8)} (h : RdW w r l) (ho : Own B w v xs) (hr : r < B) (hg : w.grownBy w' v.ownBlock) : RdW w' r l := by
 rcases hv : v.ownBlock with _ | k
 ·rw [hv] at hg
  exact h.below ⟨hg.os, hg.tape, hg.output, hg.size, fun j hj => hg.block j hj (by simp)⟩
 ·rw [hv] at hg
  have := ho.lt k hv
  exact h.mods (Mods.of_grown hg (S := [k]) (by simp)) (by simp; omega) (ho.noword hv)
theorem Mods.owned {S : List Nat} {w0 w w' : World} {v : Value} {xs : List (List UInt8)} (h : Mods S w0 w) (ho : Own w0.heap.size w v xs) (hg : w.grownBy w' v.ownBlock) : Mods S w0 w' := by
 rcases hv : v.ownBlock with _ | k
 ·rw [hv] at hg
  exact h.trans (Mods.of_grown' hg (fun k hk => by cases hk))
 ·rw [hv] at hg
  have hk := ho.lt k hv
  refine ((h.mono (S' := k :: S) (fun x hx => by simp [hx])).trans (Mods.of_grown hg (by simp))).news ?_
  intro x hx
  rcases List.mem_cons.1 hx with rfl | hx
  ·exact .inr hk.1
  ·exact .inl hx
set_option maxRecDepth 100000 in
theorem name_none (r : Nat) (l : List Wd) (w : World) (hw : Env w) (h : RdW w r l) (hn : rPlain l = none) :
  Calls Tryz.prog 156 #[.pointer (some ⟨r, 0, none⟩)] w fun e w' => ∃ s, e = .returned (strBool s false) ∧ Mods [r] w w' := by
 have hp := plain_w r l w hw h
 rw [hn] at hp
 have HP : Hid (Calls Tryz.prog 103 #[.pointer (some ⟨r, 0, none⟩)] w fun e w' => ∃ s : List UInt8, e = .returned (.tuple #[.string ⟨s.toArray⟩, .bool false]) ∧ Mods [r] w w') := Lib.hid hp
 clear hp hn h
 go_enter Tryz.func156, Tryz.ntmps156
 go_wp2_with (go_at_call 103; refine HP.out.mono ?_; rintro e w1 ⟨s, rfl, hm⟩)
 go_ret2
 exact ⟨s, rfl, hm⟩
set_option maxRecDepth 100000 in
theorem name_some (r : Nat) (l t : List Wd) (s : List UInt8) (w : World) (hw : Env w) (hO : Off r) (h : RdW w r l) (hn : rPlain l = some (s, t)) (hs : s.length ≤ 1000000) :
  Calls Tryz.prog 156 #[.pointer (some ⟨r, 0, none⟩)] w fun e w' => e = .returned (strBool s (isTypeL s)) ∧ RdW w' r t ∧ Mods [r] w w' := by
 have hp := plain_w r l w hw h
 rw [hn] at hp
 have HP : Hid (Calls Tryz.prog 103 #[.pointer (some ⟨r, 0, none⟩)] w fun e w' => e = .returned (.tuple #[.string ⟨s.toArray⟩, .bool true]) ∧ RdW w' r t ∧ Mods [r] w w') := Lib.hid hp
 have HT := Lib.hid (fun (W : World) (hm : Mods [r] w W) => IsType_c s W (hw.mods hm (by simpa using hO)) (by omega))
 clear hp hn h
 go_enter Tryz.func156, Tryz.ntmps156
 go_wp2_with (first | (go_at_call 103; refine HP.out.mono ?_; rintro e w1 ⟨rfl, hr, hm⟩) | (go_at_call 81; refine (HT.out _ hm).mono ?_; rintro e w2 ⟨rfl, hb⟩))
 go_ret2
 exact ⟨rfl, hr.below hb, hm.trans (Mods.of_below hb _)⟩
theorem rPlain_cons {l t : List Wd} {s : List UInt8} (h : rPlain l = some (s, t)) : ∃ q, l = (s, q) :: t := by
 unfold rPlain at h
 split at h
 ·cases h
 ·split at h
  ·cases h
  ·cases h; exact ⟨_, rfl⟩
theorem rQuoted_cons {l t : List Wd} {s : List UInt8} (h : rQuoted l = some (s, t)) : ∃ q, l = (s, q) :: t := by
 unfold rQuoted at h
 split at h
 ·cases h
 ·split at h
  ·cases h; exact ⟨_, rfl⟩
  ·cases h
theorem rName_cons {l t : List Wd} {s : List UInt8} (h : rName l = some (s, t)) : ∃ q, l = (s, q) :: t := by
 unfold rName at h
 split at h
 ·cases h
 ·next s' t' hp =>
  split at h
  ·cases h; exact rPlain_cons hp
  ·cases h
def Shorts (l : List Wd) : Prop := ∀ x ∈ l, x.1.length ≤ 1000000
theorem name_w (r : Nat) (l : List Wd) (w : World) (hw : Env w) (hO : Off r) (h : RdW w r l) (hl : Shorts l) :
  Calls Tryz.prog 156 #[.pointer (some ⟨r, 0, none⟩)] w (OneRet w r (rName l)) := by
 unfold rName
 cases hp : rPlain l with
 | none => exact name_none r l w hw h hp
 | some x =>
  obtain ⟨s, t⟩ := x
  obtain ⟨q, hq⟩ := rPlain_cons hp
  refine (name_some r l t s w hw hO h hp (by rw [hq] at hl; exact hl _ (List.mem_cons_self ..))).mono ?_
  rintro e w' ⟨rfl, h1, h2⟩
  show OneRet w r (if isTypeL s then some (s, t) else none) _ _
  cases hT : isTypeL s
  ·exact ⟨s, rfl, h2⟩
  ·exact ⟨rfl, h1, h2⟩
structure OneOK (f : FuncId) (r : Nat) (one : List Wd → Option (List UInt8 × List Wd)) : Prop where
 call : ∀ (W : World) (l : List Wd), Env W → RdW W r l → Shorts l → Calls Tryz.prog f #[.pointer (some ⟨r, 0, none⟩)] W (OneRet W r (one l))
 cons : ∀ (l t : List Wd) (s : List UInt8), one l = some (s, t) → ∃ q, l = (s, q) :: t
 enter : ∀ (args : Array Value) (w : World), (callFunc f args).run Tryz.prog w = .ok (.enter f args) w
theorem oneName (r : Nat) (hO : Off r) : OneOK 156 r rName := ⟨fun W l hE hR hS => name_w r l W hE hO hR hS, fun _ _ _ h => rName_cons h, fun _ _ => by kernel_rfl⟩
theorem oneQuoted (r : Nat) : OneOK 158 r rQuoted := ⟨fun W l _ hR _ => quoted_w r l W hR, fun _ _ _ h => rQuoted_cons h, fun _ _ => by kernel_rfl⟩
def ListRet (w : World) (r : Nat) (o : Option (List (List UInt8) × List Wd)) (e : Ending) (w' : World) : Prop := match o with
 | none => e = .returned (.tuple #[.slice none 0 0, .bool false]) ∧ Mods [r] w w'
 | some (xs, l') => ∃ v, e = .returned (.tuple #[v, .bool true]) ∧ Texts w' v xs ∧ RdW w' r l' ∧ Mods [r] w w'
end Go.Proofs.YtkkbbhlihilnpaaGreatDoor
