import Derived.Test.YtconnibnpckadaaGreatDoorWvb7
set_option linter.all false
set_option maxHeartbeats 8000000
set_option maxRecDepth 100000
namespace Go.Proofs.YtconnibnpckadaaGreatDoor
open Go.RowKit
theorem Env.mods {S : List Nat} {w w' : World} (h : Env w) (hm : Mods S w w') (hS : ∀ b ∈ S, Off b) : Env w' := by
 obtain ⟨⟨h1, h2⟩, m, hx⟩ := h
 have n1 : 1 ∉ S := fun hb => (hS _ hb).1 rfl
 have n2 : 2 ∉ S := fun hb => (hS _ hb).2.1 rfl
 have n3 : 0 ∉ S := fun hb => (hS _ hb).2.2 rfl
 exact ⟨⟨fun c hc => hm.cell (h1 c hc) n1, fun i hi => ⟨hm.cell (h2 i hi).1 n2, hm.cell (h2 i hi).2 n2⟩⟩, m, hm.cell hx n3⟩
def Own (B : Nat) (w : World) (v : Value) (xs : List (List UInt8)) : Prop := w.ownsRow B 9 1 v xs.length (xs.map strV) ∧ B ≤ w.heap.size
theorem Own.nil {B : Nat} {w : World} (hB : B ≤ w.heap.size) : Own B w (.slice none 0 0) [] := ⟨World.ownsRow_nil _ _ _ _, hB⟩
theorem Own.lt {B : Nat} {w : World} {v : Value} {xs : List (List UInt8)} (h : Own B w v xs) : ∀ k, v.ownBlock = some k → B ≤ k ∧ k < w.heap.size := fun k hk => h.1.lt k hk
theorem Own.keep {B : Nat} {w w' : World} {v : Value} {xs : List (List UInt8)} (h : Own B w v xs) {r : Option Nat} (hg : w.grownBy w' r) (hr : ∀ k, r = some k → k < B) : Own B w' v xs := by
 refine ⟨h.1.kept hg ?_, Nat.le_trans h.2 hg.size⟩
 rcases hv : v.ownBlock with _ | g
 ·exact .inl rfl
 ·refine .inr ?_
  intro he
  have := hr g he.symm
  have := (h.1.lt g hv).1
  omega
theorem Own.below {B : Nat} {w w' : World} {v : Value} {xs : List (List UInt8)} (h : Own B w v xs) (hb : Below w.heap.size w w') : Own B w' v xs := h.keep (grown_below hb none) (fun k hk => by cases hk)
theorem Own.mods {B r : Nat} {w w' : World} {v : Value} {xs : List (List UInt8)} (h : Own B w v xs) (hm : Mods [r] w w') (hr : r < B) : Own B w' v xs :=
 h.keep (r := some r) ⟨hm.os, hm.tape, hm.output, hm.size, fun k hk hne => hm.block k hk (by intro hx; apply hne; simp at hx; rw [hx])⟩ (fun k hk => by cases hk; exact hr)
theorem Own.texts {B : Nat} {w : World} {v : Value} {xs : List (List UInt8)} (h : Own B w v xs) : Texts w v xs := by
 obtain ⟨⟨h1, h2⟩, _⟩ := h
 rcases h2 with ⟨rfl, hn⟩ | ⟨g, cap, cur, rfl, r2, r3, r4, r5, r6, r7⟩
 ·exact .inl ⟨List.eq_nil_of_length_eq_zero hn, rfl⟩
 ·refine .inr ⟨g, cap, rfl, r4, (Array.getElem?_eq_some_iff.1 r3).1, fun j hj => ?_⟩
  simp only [World.cell?, r3]
  have : (cur.toList.take (xs.length * 1))[j]? = some (strV xs[j]) := by rw [r7]; simp [hj]
  rw [List.getElem?_take] at this
  simpa [hj, strV] using this
theorem Own.noword {B : Nat} {w : World} {v : Value} {xs : List (List UInt8)} (h : Own B w v xs) {k : Nat} (hk : v.ownBlock = some k) : NoWord w [k] := by
 obtain ⟨⟨h1, h2⟩, _⟩ := h
 rcases h2 with ⟨rfl, hn⟩ | ⟨g, cap, cur, rfl, r2, r3, r4, r5, r6, r7⟩
 ·simp [Value.ownBlock] at hk
 ·have hgk : g = k := by simpa [Value.ownBlock] using hk
  subst hgk
  intro x hx cs z
  have : x = g := by simpa using hx
  subst this
  rw [r3]
  intro e
  cases e
theorem Own.isSlice {B : Nat} {w : World} {v : Value} {xs : List (List UInt8)} (h : Own B w v xs) : ∃ A c, v = .slice A xs.length c ∧ xs.length ≤ c := by
 obtain ⟨⟨h1, h2⟩, _⟩ := h
 rcases h2 with ⟨rfl, hn⟩ | ⟨g, cap, cur, rfl, r2, r3, r4, _⟩
 ·exact ⟨none, 0, by rw [hn], by omega⟩
 ·exact ⟨_, cap, rfl, r4⟩
theorem own_one {ops : Array Oper} {rest : List Oper} {o : Oper} {a : Act} {Q : Exit → Act → World → Prop} (hgd : o.guard = none) (s x : Operand) (ho : o.op = .call { callee := .builtin .append, args := #[s, x], argTypes := #[32, 32] })
  {v : Value} {xs : List (List UInt8)} {B N : Nat} {w0 : World} {c : List UInt8} (hs : a.eval s = v) (hb : Own B w0 v xs)
  (hx : a.eval x = .slice (some ⟨N, 0, none⟩) 1 1) (hN : N = w0.heap.size) (hlen : xs.length < 4398046511104)
  (h : ∀ v' w', Own B w' v' (xs ++ [c]) → w0.grownBy w' v.ownBlock → wpList Tryz.prog ops Q rest (a.put o.dst v') w') : wpList Tryz.prog ops Q (o :: rest) a (w0.alloc (.cells #[.string ⟨c.toArray⟩] 9)) := by
 subst hN
 obtain ⟨i, h1, h2, h3, h4⟩ := infoStr
 have hb' := hb.keep (World.grownBy_alloc w0 (.cells #[.string ⟨c.toArray⟩] 9) none) (fun k hk => by cases hk)
 refine wpList_append_own _ hgd s x 32 ho B 9 i (.string ⟨#[]⟩) 1 16 Tryz.underlying32 h1 h2 h3 h4 rfl (by decide) v _ _ hs hb'.1 ⟨w0.heap.size, 0, none⟩ 1 1 [.string ⟨c.toArray⟩] hx rfl ?_ ?_ (by unfold maxLen; omega) (by omega) hb'.2 ?_
 ·intro j u hj
  match j, hj with
  | 0, hj => simp at hj; subst hj; simp [Addr.add]
  | (j + 1), hj => simp at hj
 ·intro u hu; simp at hu; subst hu; rfl
 ·intro v' w' ho' hg _
  refine h v' w' ⟨?_, Nat.le_trans hb'.2 hg.size⟩ (World.grownBy.trans (World.grownBy_alloc _ _ _) hg)
  simpa [strV] using ho'
theorem RdW.owned {w w' : World} {r B : Nat} {l : List Wd} {v : Value} {xs : List (List UInt8)} (h : RdW w r l) (ho : Own B w v xs) (hr : r < B) (hg : w.grownBy w' v.ownBlock) : RdW w' r l := by
 rcases hv : v.ownBlock with _ | k
 ·rw [hv] at hg
  exact h.below ⟨hg.os, hg.tape, hg.output, hg.size, fun j hj => hg.block j hj (by simp)⟩
 ·rw [hv] at hg
  have := ho.lt k hv
  exact h.mods (Mods.of_grown hg (S := [k]) (by simp)) (by simp; omega) (ho.noword hv)
theorem Mods.owned {S : List Nat} {w0 w w' : World} {v : Value} {xs : List (List UInt8)} (h : Mods S w0 w) (ho : Own w0.heap.size w v xs) (hg : w.grownBy w' v.ownBlock) : Mods S w0 w' := by
 rcases hv : v.ownBlock with _ | k
 ·rw [hv] at hg
  exact h.trans (Mods.of_grown' hg (fun k hk => by cases hk))
 ·rw [hv] at hg
  have hk := ho.lt k hv
  refine ((h.mono (S' := k :: S) (fun x hx => by simp [hx])).trans (Mods.of_grown hg (by simp))).news ?_
  intro x hx
  rcases List.mem_cons.1 hx with rfl | hx
  ·exact .inr hk.1
  ·exact .inl hx
set_option maxRecDepth 100000 in
theorem name_none (r : Nat) (l : List Wd) (w : World) (hw : Env w) (h : RdW w r l) (hn : rPlain l = none) :
  Calls Tryz.prog 78 #[.pointer (some ⟨r, 0, none⟩)] w fun e w' => ∃ s, e = .returned (strBool s false) ∧ Mods [r] w w' := by
 have hp := plain_w r l w hw h
 rw [hn] at hp
 have HP : Hid (Calls Tryz.prog 35 #[.pointer (some ⟨r, 0, none⟩)] w fun e w' => ∃ s : List UInt8, e = .returned (.tuple #[.string ⟨s.toArray⟩, .bool false]) ∧ Mods [r] w w') := Lib.hid hp
 clear hp hn h
 go_enter Tryz.func78, Tryz.ntmps78
 go_wp2_with (go_at_call 35; refine HP.out.mono ?_; rintro e w1 ⟨s, rfl, hm⟩)
 go_ret2
 exact ⟨s, rfl, hm⟩
set_option maxRecDepth 100000 in
theorem name_some (r : Nat) (l t : List Wd) (s : List UInt8) (w : World) (hw : Env w) (hO : Off r) (h : RdW w r l) (hn : rPlain l = some (s, t)) (hs : s.length ≤ 1000000) :
  Calls Tryz.prog 78 #[.pointer (some ⟨r, 0, none⟩)] w fun e w' => e = .returned (strBool s (isTypeL s)) ∧ RdW w' r t ∧ Mods [r] w w' := by
 have hp := plain_w r l w hw h
 rw [hn] at hp
 have HP : Hid (Calls Tryz.prog 35 #[.pointer (some ⟨r, 0, none⟩)] w fun e w' => e = .returned (.tuple #[.string ⟨s.toArray⟩, .bool true]) ∧ RdW w' r t ∧ Mods [r] w w') := Lib.hid hp
 have HT := Lib.hid (fun (W : World) (hm : Mods [r] w W) => IsType_c s W (hw.mods hm (by simpa using hO)) (by omega))
 clear hp hn h
 go_enter Tryz.func78, Tryz.ntmps78
 go_wp2_with (first | (go_at_call 35; refine HP.out.mono ?_; rintro e w1 ⟨rfl, hr, hm⟩) | (go_at_call 36; refine (HT.out _ hm).mono ?_; rintro e w2 ⟨rfl, hb⟩))
 go_ret2
 exact ⟨rfl, hr.below hb, hm.trans (Mods.of_below hb _)⟩
theorem rPlain_cons {l t : List Wd} {s : List UInt8} (h : rPlain l = some (s, t)) : ∃ q, l = (s, q) :: t := by
 unfold rPlain at h
 split at h
 ·cases h
 ·split at h
  ·cases h
  ·cases h; exact ⟨_, rfl⟩
theorem rQuoted_cons {l t : List Wd} {s : List UInt8} (h : rQuoted l = some (s, t)) : ∃ q, l = (s, q) :: t := by
 unfold rQuoted at h
 split at h
 ·cases h
 ·split at h
  ·cases h; exact ⟨_, rfl⟩
  ·cases h
theorem rName_cons {l t : List Wd} {s : List UInt8} (h : rName l = some (s, t)) : ∃ q, l = (s, q) :: t := by
 unfold rName at h
 split at h
 ·cases h
 ·next s' t' hp =>
  split at h
  ·cases h; exact rPlain_cons hp
  ·cases h
def Shorts (l : List Wd) : Prop := ∀ x ∈ l, x.1.length ≤ 1000000
theorem name_w (r : Nat) (l : List Wd) (w : World) (hw : Env w) (hO : Off r) (h : RdW w r l) (hl : Shorts l) :
  Calls Tryz.prog 78 #[.pointer (some ⟨r, 0, none⟩)] w (OneRet w r (rName l)) := by
 unfold rName
 cases hp : rPlain l with
 | none => exact name_none r l w hw h hp
 | some x =>
  obtain ⟨s, t⟩ := x
  obtain ⟨q, hq⟩ := rPlain_cons hp
  refine (name_some r l t s w hw hO h hp (by rw [hq] at hl; exact hl _ (List.mem_cons_self ..))).mono ?_
  rintro e w' ⟨rfl, h1, h2⟩
  show OneRet w r (if isTypeL s then some (s, t) else none) _ _
  cases hT : isTypeL s
  ·exact ⟨s, rfl, h2⟩
  ·exact ⟨rfl, h1, h2⟩
structure OneOK (f : FuncId) (r : Nat) (one : List Wd → Option (List UInt8 × List Wd)) : Prop where
 call : ∀ (W : World) (l : List Wd), Env W → RdW W r l → Shorts l → Calls Tryz.prog f #[.pointer (some ⟨r, 0, none⟩)] W (OneRet W r (one l))
 cons : ∀ (l t : List Wd) (s : List UInt8), one l = some (s, t) → ∃ q, l = (s, q) :: t
 enter : ∀ (args : Array Value) (w : World), (callFunc f args).run Tryz.prog w = .ok (.enter f args) w
theorem oneName (r : Nat) (hO : Off r) : OneOK 78 r rName := ⟨fun W l hE hR hS => name_w r l W hE hO hR hS, fun _ _ _ h => rName_cons h, fun _ _ => by kernel_rfl⟩
theorem oneQuoted (r : Nat) : OneOK 80 r rQuoted := ⟨fun W l _ hR _ => quoted_w r l W hR, fun _ _ _ h => rQuoted_cons h, fun _ _ => by kernel_rfl⟩
def ListRet (w : World) (r : Nat) (o : Option (List (List UInt8) × List Wd)) (e : Ending) (w' : World) : Prop := match o with
 | none => e = .returned (.tuple #[.slice none 0 0, .bool false]) ∧ Mods [r] w w'
 | some (xs, l') => ∃ v, e = .returned (.tuple #[v, .bool true]) ∧ Texts w' v xs ∧ RdW w' r l' ∧ Mods [r] w w'
open Go.RowKit
structure LJ (w : World) (r : Nat) (sign : List UInt8) (one : List Wd → Option (List UInt8 × List Wd)) (many : Bool) (R : Option (List (List UInt8) × List Wd)) (gk : Nat) (out : Value) (wr : World) (l : List Wd) (acc : List (List UInt8)) : Prop where
 fuel : l.length < gk
 own : Own w.heap.size wr out acc
 rd : RdW wr r l
 mods : Mods [r] w wr
 rest : listF sign one many gk l acc = R
 num : acc.length + l.length ≤ 1000000
 short : Shorts l
theorem LJ.env {w : World} {r : Nat} {sign : List UInt8} {one : List Wd → Option (List UInt8 × List Wd)} {many : Bool} {R : Option (List (List UInt8) × List Wd)} {gk : Nat} {out : Value} {wr : World} {l : List Wd} {acc : List (List UInt8)} (h : LJ w r sign one many R gk out wr l acc) (hw : Env w) (hO : Off r) : Env wr := hw.mods h.mods (by simpa using hO)
theorem Shorts.tail {x : Wd} {l : List Wd} (h : Shorts (x :: l)) : Shorts l := fun y hy => h y (List.mem_cons_of_mem _ hy)
theorem listF_none {sign : List UInt8} {one : List Wd → Option (List UInt8 × List Wd)} {many : Bool} {n : Nat} {l : List Wd} {acc : List (List UInt8)} (h : one l = none) : listF sign one many (n + 1) l acc = none := by
 rw [listF, h]
theorem listF_some {sign : List UInt8} {one : List Wd → Option (List UInt8 × List Wd)} {many : Bool} {n : Nat} {l t : List Wd} {s : List UInt8} {acc : List (List UInt8)} (h : one l = some (s, t)) : listF sign one many (n + 1) l acc = if isTypeL s then
    (if !many then some (acc ++ [s], t)
     else if rIs t [41] then some (acc ++ [s], t.tail)
     else if sign == [] then listF sign one many n t (acc ++ [s])
     else if rIs t sign then listF sign one many n t.tail (acc ++ [s]) else none)
   else none := by
 rw [listF, h]
theorem rIs_cons {l : List Wd} {s : List UInt8} (h : rIs l s = true) : ∃ x, l = x :: l.tail := by
 cases l with
 | nil => cases h
 | cons x t => exact ⟨x, rfl⟩
theorem one_short {one : List Wd → Option (List UInt8 × List Wd)} (hc : ∀ (l t : List Wd) (s : List UInt8), one l = some (s, t) → ∃ q, l = (s, q) :: t) {l : List Wd} (hs : Shorts l) {x : List UInt8 × List Wd} (h : one l = some x) : x.1.length ≤ 1000000 := by
 obtain ⟨q, hq⟩ := hc l x.2 x.1 h
 rw [hq] at hs
 exact hs _ (List.mem_cons_self ..)
theorem take_true (r : Nat) (l : List Wd) (s : List UInt8) (w : World) (h : RdW w r l) (hs : rIs l s = true) :
  Calls Tryz.prog 34 #[.pointer (some ⟨r, 0, none⟩), .string ⟨s.toArray⟩] w (StepRet w r l.tail (.bool true)) := by
 obtain ⟨x, hx⟩ := rIs_cons hs
 rw [hx] at h hs
 exact take_yes r x l.tail s w h hs
set_option maxRecDepth 100000 in
theorem list_c (f : FuncId) (one : List Wd → Option (List UInt8 × List Wd)) (sign : List UInt8) (hsg : sign = [] ∨ sign = [36]) (r : Nat) (l : List Wd) (w : World) (hw : Env w) (hO : Off r) (hone : OneOK f r one) (h : RdW w r l) (hs : Shorts l) (hl : l.length ≤ 1000000) :
  Calls Tryz.prog 77 #[.pointer (some ⟨r, 0, none⟩), .string ⟨sign.toArray⟩, .func (.func f) #[.pointer (some ⟨r, 0, none⟩)] #[]] w (ListRet w r (rList sign one l)) := by
 obtain ⟨R, hR⟩ : ∃ R, rList sign one l = R := ⟨_, rfl⟩
 rw [hR]
 have hrw : r < w.heap.size := by obtain ⟨v, hb, _⟩ := h; exact hb.lt
 have HH := Lib.hid h
 have HS := Lib.hid hs
 unfold rList at hR
 have HR := Lib.hid hR
 clear h hs hR
 have HT0 : Hid (Calls Tryz.prog 34 #[.pointer (some ⟨r, 0, none⟩), .string ⟨#[40]⟩] w fun e w' => e = .returned (.bool (rIs l [40])) ∧ RdW w' r (if rIs l [40] then l.tail else l) ∧ Mods [r] w w') := Lib.hid (by
  cases hm : rIs l [40]
  ·exact (take_no r l [40] w HH.out hm).mono fun e w' ⟨he, hw'⟩ => ⟨he, hw' ▸ HH.out, hw' ▸ Mods.refl _ _⟩
  ·exact (take_true r l [40] w HH.out hm).mono fun e w' ⟨he, h1, h2⟩ => ⟨he, h1, Mods.of_grown h2 (by simp)⟩)
 have HL0 : Hid ((if rIs l [40] then l.tail else l).length ≤ l.length ∧ Shorts (if rIs l [40] then l.tail else l)) := Lib.hid (by
  cases rIs l [40]
  ·exact ⟨Nat.le_refl _, HS.out⟩
  ·exact ⟨by simp, fun x hx => HS.out x (List.mem_of_mem_tail hx)⟩)
 generalize (if rIs l [40] then l.tail else l) = l0 at HT0 HR HL0
 generalize rIs l [40] = many at HT0 HR
 have hent := hone.enter
 clear HS HH
 go_enter Tryz.func77, Tryz.ntmps77
 go_wp2_with (go_at_call 34; refine HT0.out.mono ?_; rintro e w1 ⟨rfl, hr1, hm1⟩)
 go_loopg [9] (l.length + 1) (fun gk out wr => ∃ (l' : List Wd) (acc : List (List UInt8)), Aside (LJ w r sign one many R gk out wr l' acc))
 case atStart =>
  refine ⟨l0, [], ?_⟩
  have hl0 := HL0.out
  exact (⟨by omega, Own.nil hm1.size, hr1, hm1, HR.out, by simp only [List.length_nil]; omega, hl0.2⟩ : LJ w r sign one many R _ _ _ _ _)
 case round =>
  clear HT0 HR HL0
  obtain ⟨l', acc, AJ⟩ := hrel
  obtain ⟨q, rfl⟩ : ∃ q, gk = q + 1 := ⟨gk - 1, by have := AJ.out.fuel; omega⟩
  have H1 := hone.call wr l' (AJ.out.env hw hO) AJ.out.rd AJ.out.short
  obtain ⟨Ao, co, rfl, hco⟩ := AJ.out.own.isSlice
  cases ho : one l' with
  | none =>
   rw [ho] at H1
   have hfin : R = none := by rw [← AJ.out.rest, listF_none ho]
   have Hf := Lib.hid hfin
   clear hfin ho
   have H1' : Hid (Calls Tryz.prog f #[.pointer (some ⟨r, 0, none⟩)] wr fun e w' => ∃ s : List UInt8, e = .returned (.tuple #[.string ⟨s.toArray⟩, .bool false]) ∧ Mods [r] wr w') := Lib.hid H1
   clear H1
   go_wp2_with ((with_reducible refine H1'.out.mono ?_); rintro e w2 ⟨s, rfl, hm2⟩)
   go_ret2
   rw [Hf.out]
   exact ⟨rfl, AJ.out.mods.trans hm2⟩
  | some xx =>
   obtain ⟨s, t⟩ := xx
   rw [ho] at H1
   have H1' : Hid (Calls Tryz.prog f #[.pointer (some ⟨r, 0, none⟩)] wr fun e w' => e = .returned (.tuple #[.string ⟨s.toArray⟩, .bool true]) ∧ RdW w' r t ∧ Mods [r] wr w') := Lib.hid H1
   clear H1
   have hc := hone.cons l' t s ho
   have hstep := listF_some (sign := sign) (many := many) (n := q) (acc := acc) ho
   rw [AJ.out.rest] at hstep
   have HS := Lib.hid hstep
   have hsl := one_short hone.cons AJ.out.short ho
   simp only at hsl
   have hlt : l'.length = t.length + 1 := by obtain ⟨q', hq⟩ := hc; rw [hq]; rfl
   have hst : Shorts t := by have := AJ.out.short; obtain ⟨q', hq⟩ := hc; rw [hq] at this; exact this.tail
   have hfuel := AJ.out.fuel
   have hnum := AJ.out.num
   have HST := Lib.hid hst
   have HT := Lib.hid (fun (W : World) (hm : Mods [r] wr W) => IsType_c s W ((AJ.out.env hw hO).mods hm (by simpa using hO)) (by omega))
   clear hc hstep ho hst
   have HO := Lib.hid (fun (w2 w3 : World) (hm2 : Mods [r] wr w2) (hb3 : Below w2.heap.size w2 w3) => (AJ.out.own.mods hm2 hrw).below hb3)
   have HM := Lib.hid (fun (w2 w3 : World) (hm2 : Mods [r] wr w2) (hb3 : Below w2.heap.size w2 w3) => (AJ.out.mods.trans hm2).trans (Mods.of_below hb3 [r]))
   have H79 : Hid (Mods [r] w wr) := Lib.hid AJ.out.mods
   clear AJ
   cases hT : isTypeL s
   ·rw [hT] at HT HS
    simp only [Bool.false_eq_true, if_false] at HS
    clear hT
    go_wp2_with (first | ((with_reducible refine H1'.out.mono ?_); rintro e w2 ⟨rfl, hr2, hm2⟩) | (go_at_call 36; refine (HT.out _ hm2).mono ?_; rintro e w3 ⟨rfl, hb3⟩))
    go_ret2
    rw [HS.out]
    exact ⟨rfl, HM.out _ _ hm2 hb3⟩
   ·rw [hT] at HT HS
    simp only [if_true] at HS
    clear hT
    cases many
    ·simp only [Bool.not_false, if_true] at HS
     go_wp2_with (first | ((with_reducible refine H1'.out.mono ?_); rintro e w2 ⟨rfl, hr2, hm2⟩) | (go_at_call 36; refine (HT.out _ hm2).mono ?_; rintro e w3 ⟨rfl, hb3⟩; have hO3 := HO.out _ _ hm2 hb3) | (at_builtin; refine own_one (c := s) rfl _ _ rfl rfl hO3 rfl rfl (by omega) ?_; intro v' w4 hO4 hg4))
     go_ret2
     rw [HS.out]
     exact ⟨v', rfl, hO4.texts, (hr2.below hb3).owned hO3 hrw hg4, (HM.out _ _ hm2 hb3).owned hO3 hg4⟩
    ·simp only [Bool.not_true, Bool.false_eq_true, if_false] at HS
     cases h41 : rIs t [41]
     ·rw [h41] at HS
      simp only [Bool.false_eq_true, if_false] at HS
      have H41 := Lib.hid h41
      clear h41
      rcases hsg with rfl | rfl
      ·have hS2 : Hid (R = listF [] one true q t (acc ++ [s])) := Lib.hid HS.out
       clear HS
       go_wp2_with (first | ((with_reducible refine H1'.out.mono ?_); rintro e w2 ⟨rfl, hr2, hm2⟩) | (go_at_call 36; refine (HT.out _ hm2).mono ?_; rintro e w3 ⟨rfl, hb3⟩; have hO3 := HO.out _ _ hm2 hb3) | (at_builtin; refine own_one (c := s) rfl _ _ rfl rfl hO3 rfl rfl (by omega) ?_; intro v' w4 hO4 hg4; have hr4 := (hr2.below hb3).owned hO3 hrw hg4) | (go_at_call 34; (with_reducible refine (take_no r t [41] _ hr4 H41.out).mono ?_); rintro e w5 ⟨rfl, rfl⟩))
       go_roundg q
       case measure => omega
       case rel => exact ⟨t, acc ++ [s], (⟨by omega, hO4, hr4, (HM.out _ _ hm2 hb3).owned hO3 hg4, hS2.out.symm, by simp only [List.length_append, List.length_cons, List.length_nil]; omega, HST.out⟩ : LJ w r [] one true R q v' _ t (acc ++ [s]))⟩
      ·cases h36 : rIs t [36]
       ·have hS2 : Hid (R = none) := Lib.hid (by rw [HS.out, h36]; rfl)
        have H36 := Lib.hid h36
        clear HS h36
        go_wp2_with (first | ((with_reducible refine H1'.out.mono ?_); rintro e w2 ⟨rfl, hr2, hm2⟩) | (go_at_call 36; refine (HT.out _ hm2).mono ?_; rintro e w3 ⟨rfl, hb3⟩; have hO3 := HO.out _ _ hm2 hb3) | (at_builtin; refine own_one (c := s) rfl _ _ rfl rfl hO3 rfl rfl (by omega) ?_; intro v' w4 hO4 hg4; have hr4 := (hr2.below hb3).owned hO3 hrw hg4) | (go_at_call 34; (with_reducible refine (take_no r t [41] _ hr4 H41.out).mono ?_); rintro e w5 ⟨rfl, rfl⟩) | (go_at_call 34; (with_reducible refine (take_no r t [36] _ hr4 H36.out).mono ?_); rintro e w5 ⟨rfl, rfl⟩))
        go_ret2
        rw [hS2.out]
        exact ⟨rfl, (HM.out _ _ hm2 hb3).owned hO3 hg4⟩
       ·have hS2 : Hid (R = listF [36] one true q t.tail (acc ++ [s])) := Lib.hid (by rw [HS.out, h36]; rfl)
        have H36 := Lib.hid h36
        have htl : t.tail.length ≤ t.length := by simp
        clear HS h36
        go_wp2_with (first | ((with_reducible refine H1'.out.mono ?_); rintro e w2 ⟨rfl, hr2, hm2⟩) | (go_at_call 36; refine (HT.out _ hm2).mono ?_; rintro e w3 ⟨rfl, hb3⟩; have hO3 := HO.out _ _ hm2 hb3) | (at_builtin; refine own_one (c := s) rfl _ _ rfl rfl hO3 rfl rfl (by omega) ?_; intro v' w4 hO4 hg4; have hr4 := (hr2.below hb3).owned hO3 hrw hg4) | (go_at_call 34; (with_reducible refine (take_no r t [41] _ hr4 H41.out).mono ?_); rintro e w5 ⟨rfl, rfl⟩) | (go_at_call 34; (with_reducible refine (take_true r t [36] _ hr4 H36.out).mono ?_); rintro e w6 ⟨rfl, hr6, hg6⟩))
        go_roundg q
        case measure => omega
        case rel => exact ⟨t.tail, acc ++ [s], (⟨by omega, hO4.keep hg6 (fun k hk => by cases hk; exact hrw), hr6, ((HM.out _ _ hm2 hb3).owned hO3 hg4).trans (Mods.of_grown hg6 (by simp)), hS2.out.symm, by simp only [List.length_append, List.length_cons, List.length_nil]; omega, fun x hx => HST.out x (List.mem_of_mem_tail hx)⟩ : LJ w r [36] one true R q v' _ t.tail (acc ++ [s]))⟩
     ·rw [h41] at HS
      simp only [if_true] at HS
      have H41 := Lib.hid h41
      clear h41
      go_wp2_with (first | ((with_reducible refine H1'.out.mono ?_); rintro e w2 ⟨rfl, hr2, hm2⟩) | (go_at_call 36; refine (HT.out _ hm2).mono ?_; rintro e w3 ⟨rfl, hb3⟩; have hO3 := HO.out _ _ hm2 hb3) | (at_builtin; refine own_one (c := s) rfl _ _ rfl rfl hO3 rfl rfl (by omega) ?_; intro v' w4 hO4 hg4; have hr4 := (hr2.below hb3).owned hO3 hrw hg4) | (go_at_call 34; (with_reducible refine (take_true r t [41] _ hr4 H41.out).mono ?_); rintro e w6 ⟨rfl, hr6, hg6⟩))
      go_ret2
      rw [HS.out]
      exact ⟨v', rfl, (hO4.keep hg6 (fun k hk => by cases hk; exact hrw)).texts, hr6, ((HM.out _ _ hm2 hb3).owned hO3 hg4).trans (Mods.of_grown hg6 (by simp))⟩
end Go.Proofs.YtconnibnpckadaaGreatDoor
