import Derived.Test.YtbjmpmgiigombaaGreatDoorWvb8
import Derived.ScopeJumps
import Derived.WalkMore
set_option linter.all false
set_option maxHeartbeats 8000000
namespace Go.Proofs.YtbjmpmgiigombaaGreatDoor
open Go.RowKit
def Exit.jumpTo (J : Nat → Act → World → Prop) (Q : Exit → Act → World → Prop) : Exit → Act → World → Prop
 | .goto l', a, w => J l' a w
 | e, a, w => Q e a w
theorem wp_scope_labels {P : Program} {a : Act} {w : World} {Q : Exit → Act → World → Prop} {c : Code} (R : Nat → Code) (J : Nat → Act → World → Prop) (μ : Nat → Act → Nat)
  (hf : ∀ l a w, J l a w → findLabel c l = some (R l))
  (first : c.wp P (Exit.jumpTo J Q) a w)
  (pass : ∀ l a w, J l a w → (R l).wp P (Exit.jumpTo (fun l' a' w' => J l' a' w' ∧ μ l' a' < μ l a) Q) a w) : (Code.scope c).wp P Q a w := by
 intro b k cs
 have hg : ∀ l a w, J l a w → gotoIn l (.inScope c :: k) = some (.code (R l) :: .inScope c :: k) := fun l a w h => by simp [gotoIn, hf l a w h]
 have key : ∀ n l a w, μ l a = n → J l a w → ∃ e a' w', Q e a' w' ∧ Arrives P (lone (b.at a (.code (R l) :: .inScope c :: k)) cs w) b k cs e a' w' := by
  intro n
  induction n using Nat.strongRecOn with
  | _ n ih =>
   intro l a w hn hJ
   obtain ⟨e, a₁, w₁, hq, harr⟩ := pass l a w hJ b (.inScope c :: k) cs
   cases e with
   | normal => exact ⟨.normal, a₁, w₁, hq, Steps.trans harr (.one step_inScope)⟩
   | exit id => exact ⟨.exit id, a₁, w₁, hq, fun k' hk => harr k' (by simp [exitTo, hk])⟩
   | goto l' =>
    obtain ⟨hJ', hlt⟩ := hq
    obtain ⟨e₂, a₂, w₂, hq₂, harr₂⟩ := ih _ (by omega) l' a₁ w₁ rfl hJ'
    exact ⟨e₂, a₂, w₂, hq₂, .of_steps (harr _ (hg _ _ _ hJ')) harr₂⟩
   | ret => exact ⟨_, a₁, w₁, hq, harr⟩
   | panic ch => exact ⟨_, a₁, w₁, hq, harr⟩
   | outgrown => exact ⟨_, a₁, w₁, hq, harr⟩
 obtain ⟨e, a₁, w₁, hq, harr⟩ := first b (.inScope c :: k) cs
 cases e with
 | normal => exact ⟨.normal, a₁, w₁, hq, .head step_scope (Steps.trans harr (.one step_inScope))⟩
 | exit id => exact ⟨.exit id, a₁, w₁, hq, fun k' hk => .head step_scope (harr k' (by simp [exitTo, hk]))⟩
 | goto l' =>
  obtain ⟨e₂, a₂, w₂, hq₂, harr₂⟩ := key _ l' a₁ w₁ rfl hq
  exact ⟨e₂, a₂, w₂, hq₂, .of_steps (.head step_scope (harr _ (hg _ _ _ hq))) harr₂⟩
 | ret => exact ⟨_, a₁, w₁, hq, .of_steps (.one step_scope) harr⟩
 | panic ch => exact ⟨_, a₁, w₁, hq, .of_steps (.one step_scope) harr⟩
 | outgrown => exact ⟨_, a₁, w₁, hq, .of_steps (.one step_scope) harr⟩
def two {α : Sort _} (x y : α) : Nat → α
 | 0 => x
 | _ => y
def J2 (J0 J1 : Act → World → Prop) : Nat → Act → World → Prop
 | 0 => J0
 | 1 => J1
 | _ => fun _ _ => False
theorem wp_scope_two {P : Program} {a : Act} {w : World} {Q : Exit → Act → World → Prop} {c r0 r1 : Code} (J0 J1 : Act → World → Prop) (μ0 μ1 : Act → Nat)
  (hf0 : findLabel c 0 = some (Code.skip.seq r0)) (hf1 : findLabel c 1 = some (Code.skip.seq r1))
  (first : ∀ Q', (∀ a w, J0 a w → r0.wp P Q' a w) → c.wp P Q' a w)
  (pass0 : ∀ n a w, μ0 a = n → J0 a w → r0.wp P (Exit.jumpTo (J2 (fun a' w' => J0 a' w' ∧ μ0 a' < n) (fun a' w' => J1 a' w' ∧ μ1 a' < n)) Q) a w)
  (pass1 : ∀ n a w, μ1 a = n → J1 a w → r1.wp P (Exit.jumpTo (J2 (fun a' w' => J0 a' w' ∧ μ0 a' < n) (fun a' w' => J1 a' w' ∧ μ1 a' < n)) Q) a w) : (Code.scope c).wp P Q a w := by
 have turn : ∀ (n : Nat) (X Y : Act → World → Prop) e a' w', Exit.jumpTo (J2 (fun a' w' => X a' w' ∧ μ0 a' < n) (fun a' w' => Y a' w' ∧ μ1 a' < n)) Q e a' w' → Exit.jumpTo (fun l' a' w' => J2 X Y l' a' w' ∧ two μ0 μ1 l' a' < n) Q e a' w' := by
  intro n X Y e a' w' he
  cases e with
  | goto l =>
   match l, he with
   | 0, he => exact he
   | 1, he => exact he
   | l + 2, he => exact he.elim
  | _ => exact he
 have weak : ∀ (n : Nat) (X Y : Act → World → Prop) e a' w', Exit.jumpTo (J2 (fun a' w' => X a' w' ∧ μ0 a' < n) (fun a' w' => Y a' w' ∧ μ1 a' < n)) Q e a' w' → Exit.jumpTo (J2 X Y) Q e a' w' := by
  intro n X Y e a' w' he
  cases e with
  | goto l =>
   match l, he with
   | 0, he => exact he.1
   | 1, he => exact he.1
   | l + 2, he => exact he.elim
  | _ => exact he
 refine wp_scope_labels (two (Code.skip.seq r0) (Code.skip.seq r1)) (J2 J0 J1) (two μ0 μ1) ?_ (first _ fun a w h => Code.wp_mono (weak _ _ _) (pass0 _ a w rfl h)) ?_
 ·intro l a w h
  match l, h with
  | 0, _ => exact hf0
  | 1, _ => exact hf1
 ·intro l a w h
  match l, h with
  | 0, h => exact wp_seq (wp_skip (Code.wp_mono (turn _ _ _) (pass0 _ a w rfl h)))
  | 1, h => exact wp_seq (wp_skip (Code.wp_mono (turn _ _ _) (pass1 _ a w rfl h)))
theorem jumpTo_ret {J : Nat → Act → World → Prop} {Q : Exit → Act → World → Prop} {a : Act} {w : World} : Exit.jumpTo J Q .ret a w = Q .ret a w := rfl
theorem u8_is {c : UInt8} {n : Nat} (hn : n < 256) (h : c = UInt8.ofNat n) : ((c.toNat : Int) == (n : Int)) = true := by
 rw [h, beq_iff_eq, UInt8.toNat_ofNat']
 omega
theorem u8_not {c : UInt8} {n : Nat} (hn : n < 256) (h : c ≠ UInt8.ofNat n) : ((c.toNat : Int) == (n : Int)) = false := by
 rw [beq_eq_false_iff_ne]
 intro he
 apply h
 apply UInt8.toNat.inj
 rw [UInt8.toNat_ofNat']
 omega
theorem u8_nis {c : UInt8} {n : Nat} (hn : n < 256) (h : c = UInt8.ofNat n) : ((c.toNat : Int) != (n : Int)) = false := by
 rw [bne, u8_is hn h]; rfl
theorem u8_nnot {c : UInt8} {n : Nat} (hn : n < 256) (h : c ≠ UInt8.ofNat n) : ((c.toNat : Int) != (n : Int)) = true := by
 rw [bne, u8_not hn h]; rfl
def AWordsRet (w : World) (o : Option (List (List UInt8))) (e : Ending) (w' : World) : Prop := Below w.heap.size w w' ∧ ∃ v, e = .returned (.tuple #[v, .bool o.isSome]) ∧ Own w.heap.size w' v (o.getD [])
structure AW (w : World) (s : List UInt8) (R : Option (List (List UInt8))) (f i : Nat) (acc : List (List UInt8)) (out : Value) (w' : World) : Prop where
 fi : f ≤ i
 il : i ≤ s.length
 own : Own w.heap.size w' out acc
 num : acc.length ≤ f
 bel : Below w.heap.size w w'
 rest : wordsR s f i acc = R
def AWJ0 (w : World) (s : List UInt8) (R : Option (List (List UInt8))) (a' : Act) (w' : World) : Prop := ∃ (f i : Nat) (acc : List (List UInt8)) (out : Value) (u7 u8 u9 u10 u11 u12 u13 u14 u15 u16 u17 u18 u19 u20 u21 u22 u23 u24 u25 u26 u27 u28 u29 u30 u31 u32 u33 u34 u35 u36 u37 u38 u39 u40 u41 u42 u43 u44 u45 u46 u47 u48 u49 u50 u51 u52 u53 u54 u55 u56 u57 u58 u59 u60 u61 u62 u63 u64 u65 u66 u67 u68 u69 u70 u71 u72 u73 u74 u75 u76 u77 u78 u79 u80 u81 u82 u83 u84 u85 u86 u87 u88 u89 u90 u91 u92 u93 u94 u95 u96 u97 u98 : Value), a' = { tmps := #[.string ⟨s.toArray⟩, undef, .slice none 0 0, .bool false, out, .int .i64 f, .int .i64 i, u7, u8, u9, u10, u11, u12, u13, u14, u15, u16, u17, u18, u19, u20, u21, u22, u23, u24, u25, u26, u27, u28, u29, u30, u31, u32, u33, u34, u35, u36, u37, u38, u39, u40, u41, u42, u43, u44, u45, u46, u47, u48, u49, u50, u51, u52, u53, u54, u55, u56, u57, u58, u59, u60, u61, u62, u63, u64, u65, u66, u67, u68, u69, u70, u71, u72, u73, u74, u75, u76, u77, u78, u79, u80, u81, u82, u83, u84, u85, u86, u87, u88, u89, u90, u91, u92, u93, u94, u95, u96, u97, u98], defers := [] } ∧ AW w s R f i acc out w'
def AWJ1 (w : World) (s : List UInt8) (R : Option (List (List UInt8))) (a' : Act) (w' : World) : Prop := ∃ (f i m : Nat) (acc : List (List UInt8)) (out : Value) (u7 u8 u9 u10 u11 u12 u13 u14 u15 u16 u17 u18 u19 u20 u21 u22 u23 u24 u25 u26 u27 u28 u29 u30 u31 u32 u33 u34 u35 u36 u37 u38 u39 u40 u41 u42 u43 u44 u45 u46 u47 u48 u49 u50 u51 u52 u53 u54 u55 u56 u57 u58 u59 u60 u61 u62 u63 u64 u65 u66 u67 u68 u69 u70 u71 u72 u73 u74 u75 u76 u77 u78 u79 u80 u81 u82 u83 u84 u85 u86 u87 u88 u89 u90 u91 u92 u93 u94 u95 u96 u97 u98 : Value), a' = { tmps := #[.string ⟨s.toArray⟩, undef, .slice none 0 0, .bool false, out, .int .i64 f, .int .i64 m, u7, u8, u9, u10, u11, u12, u13, u14, u15, u16, u17, u18, u19, u20, u21, u22, u23, u24, u25, u26, u27, u28, u29, u30, u31, u32, u33, u34, u35, u36, u37, u38, u39, u40, u41, u42, u43, u44, u45, u46, u47, u48, u49, u50, u51, u52, u53, u54, u55, u56, u57, u58, u59, u60, u61, u62, u63, u64, u65, u66, u67, u68, u69, u70, u71, u72, u73, u74, u75, u76, u77, u78, u79, u80, u81, u82, u83, u84, u85, u86, u87, u88, u89, u90, u91, u92, u93, u94, u95, u96, u97, u98], defers := [] } ∧ AW w s R f i acc out w' ∧ Went s i m ∧ ∃ hm : m < s.length, s[m] = 34
def AWM0 (s : List UInt8) (a' : Act) : Nat := 2 * (s.length - (intOf (a'.tmps.getD 6 undef)).toNat) + 1
def AWM1 (s : List UInt8) (a' : Act) : Nat := 2 * (s.length - (intOf (a'.tmps.getD 6 undef)).toNat)
set_option maxRecDepth 100000 in
theorem aclWords_c (s : List UInt8) (w : World) (hs : s.length ≤ 1000000) : Calls Tryz.prog 18 #[.string ⟨s.toArray⟩] w (AWordsRet w (aclWords s)) := by
 obtain ⟨R, hR⟩ : ∃ R, aclWords s = R := ⟨_, rfl⟩
 rw [hR]
 have HR0 := Lib.hid hR
 clear hR
 have hget := ba_get
 have hext := ba_ext
 go_enter Tryz.func18, Tryz.ntmps18
 go_wp2_with fail
 refine wp_scope_two (AWJ0 w s R) (AWJ1 w s R) (AWM0 s) (AWM1 s) rfl rfl ?_ ?_ ?_
 ·intro Q' HQ
  have HQ1 := Lib.hid HQ
  clear HQ
  go_wp2_with fail
  go_step3
  rename_i K hK
  refine hK _ _ (HQ1.out _ _ ?_)
  exact ⟨0, 0, [], _, _, _, _, _, _, _, _, _, _, _, _, _, _, _, _, _, _, _, _, _, _, _, _, _, _, _, _, _, _, _, _, _, _, _, _, _, _, _, _, _, _, _, _, _, _, _, _, _, _, _, _, _, _, _, _, _, _, _, _, _, _, _, _, _, _, _, _, _, _, _, _, _, _, _, _, _, _, _, _, _, _, _, _, _, _, _, _, _, _, _, _, _, rfl, ⟨Nat.le_refl _, Nat.zero_le _, Own.nil (Nat.le_refl _), Nat.le_refl _, Below.refl _ _, (aclWords_R s).symm.trans HR0.out⟩⟩
 ·rintro n a' wj hn0 ⟨f, i, acc, out, u7, u8, u9, u10, u11, u12, u13, u14, u15, u16, u17, u18, u19, u20, u21, u22, u23, u24, u25, u26, u27, u28, u29, u30, u31, u32, u33, u34, u35, u36, u37, u38, u39, u40, u41, u42, u43, u44, u45, u46, u47, u48, u49, u50, u51, u52, u53, u54, u55, u56, u57, u58, u59, u60, u61, u62, u63, u64, u65, u66, u67, u68, u69, u70, u71, u72, u73, u74, u75, u76, u77, u78, u79, u80, u81, u82, u83, u84, u85, u86, u87, u88, u89, u90, u91, u92, u93, u94, u95, u96, u97, u98, rfl, hJ⟩
  have hn : n = 2 * (s.length - i) + 1 := by rw [← hn0]; simp [AWM0, intOf]
  clear hn0
  have HJ := Lib.hid hJ
  have hfi := hJ.fi
  have hil := hJ.il
  have hnum := hJ.num
  obtain ⟨Ao, co, rfl, hco⟩ := hJ.own.isSlice
  clear hJ HR0
  go_wp2_with fail
  go_loopg [6] (s.length - i) (fun gk t wr2 => ∃ m : Nat, i ≤ m ∧ m ≤ s.length ∧ t = .int .i64 m ∧ Aside (m + gk = s.length) ∧ Aside (wr2 = wj) ∧ Aside (Went s i m))
  case atStart => exact ⟨i, Nat.le_refl _, hil, rfl, by show _ = _; omega, rfl, Went.start hil⟩
  case round =>
   obtain ⟨m, him, hm, rfl, AG, AW1, AD⟩ := hrel
   obtain rfl : wr = wj := AW1.out
   clear AW1
   by_cases hlt : m < s.length
   ·have hne : ((m : Int) == (s.length : Int)) = false := by rw [beq_eq_false_iff_ne]; omega
    by_cases h32 : s[m] = 32
    ·have e32 : ((s[m].toNat : Int) == 32) = true := u8_is (by decide) h32
     have n32 : ((s[m].toNat : Int) != 32) = false := u8_nis (by decide) h32
     have e34 : ((s[m].toNat : Int) == 34) = false := u8_not (n := 34) (by decide) (by rw [h32]; decide)
     have n34 : ((s[m].toNat : Int) != 34) = true := u8_nnot (n := 34) (by decide) (by rw [h32]; decide)
     have H32 := Lib.hid h32
     clear AG h32
     by_cases hfm : f = m
     ·have hfe : ((m : Int) == (f : Int)) = true := by rw [beq_iff_eq]; omega
      have HR := Lib.hid (HJ.out.rest.symm.trans (wordsR_none AD.out hfi hlt H32.out hfm))
      clear AD hfm
      go_wp2_with fail
      rw [jumpTo_ret]
      go_ret2
      rw [HR.out]
      exact ⟨HJ.out.bel, _, rfl, Own.nil HJ.out.bel.size⟩
     ·have hfe : ((m : Int) == (f : Int)) = false := by rw [beq_eq_false_iff_ne]; omega
      have HF := Lib.hid hfm
      have hO2 := HJ.out.own
      have hB2 := HJ.out.bel
      clear hfm
      go_wp2_with (first | (at_builtin; refine own_one (c := sub s f m) rfl _ _ rfl rfl hO2 rfl rfl (by omega) ?_; intro v' w3 hO3 hg3; have hB3 := hB2.grown hg3 hO2.2 (fun k hk => (hO2.lt k hk).1)) | go_step3)
      clear hO2 hB2 hg3
      go_loopg [6] (s.length - m) (fun gk t wr2 => ∃ k : Nat, m ≤ k ∧ k ≤ s.length ∧ t = .int .i64 k ∧ Aside (k + gk = s.length) ∧ Aside (wr2 = w3) ∧ Aside (Skip s m k))
      case atStart => exact ⟨m, Nat.le_refl _, hm, rfl, by show _ = _; omega, rfl, ⟨Nat.le_refl _, hm, rfl⟩⟩
      case round =>
       obtain ⟨k, hmk, hk, rfl, AG, AW3, AK⟩ := hrel
       obtain rfl : wr = w3 := AW3.out
       clear AW3 e32 e34 hne
       by_cases hkl : k < s.length
       ·by_cases hk32 : s[k] = 32
        ·obtain ⟨q, rfl⟩ : ∃ q, gk = q + 1 := ⟨gk - 1, by have := AG.out; omega⟩
         have e32 : ((s[k].toNat : Int) == 32) = true := u8_is (by decide) hk32
         have n32 : ((s[k].toNat : Int) != 32) = false := u8_nis (by decide) hk32
         have HK := Lib.hid (AK.out.step hkl hk32)
         clear AK hk32
         go_wp2_with fail
         go_roundg q
         case measure => omega
         case rel => exact ⟨k + 1, by omega, by omega, by go_num, by have := AG.out; show _ = _; omega, rfl, HK.out⟩
        ·have e32 : ((s[k].toNat : Int) == 32) = false := u8_not (n := 32) (by decide) hk32
         have n32 : ((s[k].toNat : Int) != 32) = true := u8_nnot (n := 32) (by decide) hk32
         have hst := AK.out.stop (fun _ => hk32)
         have hmk2 : m < k := by
          rcases Nat.lt_or_ge m k with h | h
          ·exact h
          ·obtain rfl : m = k := by omega
           exact absurd H32.out hk32
         have HW := Lib.hid (HJ.out.rest.symm.trans (wordsR_word AD.out hfi hlt H32.out HF.out hst hmk2 hk))
         clear AK hk32 hst AD
         go_wp2_with fail
         go_step3
         refine And.intro ?_ ?_
         ·exact ⟨_, _, _, _, _, _, _, _, _, _, _, _, _, _, _, _, _, _, _, _, _, _, _, _, _, _, _, _, _, _, _, _, _, _, _, _, _, _, _, _, _, _, _, _, _, _, _, _, _, _, _, _, _, _, _, _, _, _, _, _, _, _, _, _, _, _, _, _, _, _, _, _, _, _, _, _, _, _, _, _, _, _, _, _, _, _, _, _, _, _, _, _, _, _, _, _, rfl, ⟨Nat.le_refl _, hk, hO3, by simp; omega, hB3, HW.out.symm⟩⟩
         ·rw [hn]; simp [AWM0, AWM1, intOf]; omega
       ·obtain rfl : k = s.length := by omega
        have hst := AK.out.stop (fun h => absurd h hkl)
        have HW := Lib.hid (HJ.out.rest.symm.trans (wordsR_word AD.out hfi hlt H32.out HF.out hst hlt hk))
        clear AK hst AD
        go_wp2_with fail
        go_step3
        refine And.intro ?_ ?_
        ·exact ⟨_, _, _, _, _, _, _, _, _, _, _, _, _, _, _, _, _, _, _, _, _, _, _, _, _, _, _, _, _, _, _, _, _, _, _, _, _, _, _, _, _, _, _, _, _, _, _, _, _, _, _, _, _, _, _, _, _, _, _, _, _, _, _, _, _, _, _, _, _, _, _, _, _, _, _, _, _, _, _, _, _, _, _, _, _, _, _, _, _, _, _, _, _, _, _, _, rfl, ⟨Nat.le_refl _, hk, hO3, by simp; omega, hB3, HW.out.symm⟩⟩
        ·rw [hn]; simp [AWM0, AWM1, intOf]; omega
    ·by_cases h34 : s[m] = 34
     ·have e32 : ((s[m].toNat : Int) == 32) = false := u8_not (n := 32) (by decide) h32
      have n32 : ((s[m].toNat : Int) != 32) = true := u8_nnot (n := 32) (by decide) h32
      have e34 : ((s[m].toNat : Int) == 34) = true := u8_is (by decide) h34
      have n34 : ((s[m].toNat : Int) != 34) = false := u8_nis (by decide) h34
      have H34 := Lib.hid h34
      clear AG h32 h34
      go_wp2_with fail
      go_step3
      refine And.intro ?_ ?_
      ·exact ⟨_, _, _, _, _, _, _, _, _, _, _, _, _, _, _, _, _, _, _, _, _, _, _, _, _, _, _, _, _, _, _, _, _, _, _, _, _, _, _, _, _, _, _, _, _, _, _, _, _, _, _, _, _, _, _, _, _, _, _, _, _, _, _, _, _, _, _, _, _, _, _, _, _, _, _, _, _, _, _, _, _, _, _, _, _, _, _, _, _, _, _, _, _, _, _, _, _, rfl, HJ.out, AD.out, hlt, H34.out⟩
      ·rw [hn]; simp [AWM0, AWM1, intOf]; omega
     ·have e32 : ((s[m].toNat : Int) == 32) = false := u8_not (n := 32) (by decide) h32
      have n32 : ((s[m].toNat : Int) != 32) = true := u8_nnot (n := 32) (by decide) h32
      have e34 : ((s[m].toNat : Int) == 34) = false := u8_not (n := 34) (by decide) h34
      have n34 : ((s[m].toNat : Int) != 34) = true := u8_nnot (n := 34) (by decide) h34
      obtain ⟨q, rfl⟩ : ∃ q, gk = q + 1 := ⟨gk - 1, by have := AG.out; omega⟩
      have HD := Lib.hid (AD.out.step hlt (by unfold wordStop; rw [beq_eq_false_iff_ne.2 h32, beq_eq_false_iff_ne.2 h34]; rfl))
      clear AD h32 h34
      go_wp2_with fail
      go_roundg q
      case measure => omega
      case rel => exact ⟨m + 1, by omega, by omega, by go_num, by have := AG.out; show _ = _; omega, rfl, HD.out⟩
   ·obtain rfl : m = s.length := by omega
    have hend := wordsR_end (acc := acc) AD.out hfi
    by_cases hfm : f = s.length
    ·have hfe : ((s.length : Int) == (f : Int)) = true := by rw [beq_iff_eq]; omega
     have HR := Lib.hid (HJ.out.rest.symm.trans (hend.trans (if_pos hfm)))
     clear AD AG hend hfm
     go_wp2_with fail
     rw [jumpTo_ret]
     go_ret2
     rw [HR.out]
     exact ⟨HJ.out.bel, _, rfl, Own.nil HJ.out.bel.size⟩
    ·have hfe : ((s.length : Int) == (f : Int)) = false := by rw [beq_eq_false_iff_ne]; omega
     have HR := Lib.hid (HJ.out.rest.symm.trans (hend.trans (if_neg hfm)))
     have hO2 := HJ.out.own
     have hB2 := HJ.out.bel
     clear AD AG hend hfm
     go_wp2_with (first | (at_builtin; refine own_one (c := sub s f s.length) rfl _ _ rfl rfl hO2 rfl rfl (by omega) ?_; intro v' w3 hO3 hg3; have hB3 := hB2.grown hg3 hO2.2 (fun k hk => (hO2.lt k hk).1)) | go_step3)
     rw [jumpTo_ret]
     go_ret2
     rw [HR.out]
     exact ⟨hB3, _, rfl, hO3⟩
 ·rintro n a' wj hn0 ⟨f, i, m, acc, out, u7, u8, u9, u10, u11, u12, u13, u14, u15, u16, u17, u18, u19, u20, u21, u22, u23, u24, u25, u26, u27, u28, u29, u30, u31, u32, u33, u34, u35, u36, u37, u38, u39, u40, u41, u42, u43, u44, u45, u46, u47, u48, u49, u50, u51, u52, u53, u54, u55, u56, u57, u58, u59, u60, u61, u62, u63, u64, u65, u66, u67, u68, u69, u70, u71, u72, u73, u74, u75, u76, u77, u78, u79, u80, u81, u82, u83, u84, u85, u86, u87, u88, u89, u90, u91, u92, u93, u94, u95, u96, u97, u98, rfl, hJ, hW, hm, h34⟩
  have hn : n = 2 * (s.length - m) := by rw [← hn0]; simp [AWM1, intOf]
  clear hn0
  have HJ := Lib.hid hJ
  have HW := Lib.hid hW
  have H34 := Lib.hid h34
  have hfi := hJ.fi
  have him := hW.le
  clear hJ hW h34 HR0
  go_wp2_with fail
  go_loopg [6] (s.length - m) (fun gk t wr2 => ∃ q : Nat, m + 1 ≤ q ∧ q ≤ s.length + 1 ∧ t = .int .i64 q ∧ Aside (q + gk = s.length + 1) ∧ Aside (wr2 = wj) ∧ Aside (Quo s (m + 1) q))
  case atStart => exact ⟨m + 1, Nat.le_refl _, by omega, by go_num, by show _ = _; omega, rfl, Quo.start s (m + 1)⟩
  case round =>
   obtain ⟨q, hmq, hq, rfl, AG, AW1, AQ⟩ := hrel
   obtain rfl : wr = wj := AW1.out
   clear AW1
   by_cases hlt : q < s.length
   ·by_cases hq34 : s[q] = 34
    ·have e34 : ((s[q].toNat : Int) == 34) = true := u8_is (by decide) hq34
     have n34 : ((s[q].toNat : Int) != 34) = false := u8_nis (by decide) hq34
     have hcl := AQ.out.close hlt hq34
     have hwq := wordsR_quote (acc := acc) HW.out hfi hm H34.out hcl (by omega) (by omega)
     clear AQ AG hcl hq34
     by_cases hx : q + 1 < s.length
     ·rw [dif_pos hx] at hwq
      by_cases h32 : s[q + 1] = 32
      ·have e32 : ((s[q + 1].toNat : Int) == 32) = true := u8_is (by decide) h32
       have n32 : ((s[q + 1].toNat : Int) != 32) = false := u8_nis (by decide) h32
       rw [if_pos (by rw [h32]; rfl)] at hwq
       have HWQ := Lib.hid (HJ.out.rest.symm.trans hwq)
       clear hwq h32
       go_wp2_with fail
       have e5 : Value.int .i64 ((q : Int) + 1) = .int .i64 ((q + 1 : Nat) : Int) := by go_num
       rw [e5]
       go_step3
       refine And.intro ?_ ?_
       ·exact ⟨_, _, _, _, _, _, _, _, _, _, _, _, _, _, _, _, _, _, _, _, _, _, _, _, _, _, _, _, _, _, _, _, _, _, _, _, _, _, _, _, _, _, _, _, _, _, _, _, _, _, _, _, _, _, _, _, _, _, _, _, _, _, _, _, _, _, _, _, _, _, _, _, _, _, _, _, _, _, _, _, _, _, _, _, _, _, _, _, _, _, _, _, _, _, _, _, rfl, ⟨by omega, by omega, HJ.out.own, HJ.out.num, HJ.out.bel, HWQ.out.symm⟩⟩
       ·rw [hn]; simp [AWM0, AWM1, intOf]; omega
      ·have e32 : ((s[q + 1].toNat : Int) == 32) = false := u8_not (n := 32) (by decide) h32
       have n32 : ((s[q + 1].toNat : Int) != 32) = true := u8_nnot (n := 32) (by decide) h32
       rw [if_neg (by simpa using h32)] at hwq
       have HWQ := Lib.hid (HJ.out.rest.symm.trans hwq)
       clear hwq h32
       go_wp2_with fail
       rw [jumpTo_ret]
       go_ret2
       rw [HWQ.out]
       exact ⟨HJ.out.bel, _, rfl, Own.nil HJ.out.bel.size⟩
     ·rw [dif_neg hx] at hwq
      have HWQ := Lib.hid (HJ.out.rest.symm.trans hwq)
      clear hwq
      go_wp2_with fail
      have e5 : Value.int .i64 ((q : Int) + 1) = .int .i64 ((q + 1 : Nat) : Int) := by go_num
      rw [e5]
      go_step3
      refine And.intro ?_ ?_
      ·exact ⟨_, _, _, _, _, _, _, _, _, _, _, _, _, _, _, _, _, _, _, _, _, _, _, _, _, _, _, _, _, _, _, _, _, _, _, _, _, _, _, _, _, _, _, _, _, _, _, _, _, _, _, _, _, _, _, _, _, _, _, _, _, _, _, _, _, _, _, _, _, _, _, _, _, _, _, _, _, _, _, _, _, _, _, _, _, _, _, _, _, _, _, _, _, _, _, _, rfl, ⟨by omega, by omega, HJ.out.own, HJ.out.num, HJ.out.bel, HWQ.out.symm⟩⟩
      ·rw [hn]; simp [AWM0, AWM1, intOf]; omega
    ·have e34 : ((s[q].toNat : Int) == 34) = false := u8_not (n := 34) (by decide) hq34
     have n34 : ((s[q].toNat : Int) != 34) = true := u8_nnot (n := 34) (by decide) hq34
     by_cases h92 : s[q] = 92
     ·have e92 : ((s[q].toNat : Int) == 92) = true := u8_is (by decide) h92
      have n92 : ((s[q].toNat : Int) != 92) = false := u8_nis (by decide) h92
      obtain ⟨g, rfl⟩ : ∃ g, gk = g + 2 := ⟨gk - 2, by have := AG.out; omega⟩
      have HQ := Lib.hid (AQ.out.esc hlt h92)
      clear AQ hq34 h92
      go_wp2_with fail
      go_roundg g
      case measure => omega
      case rel => exact ⟨q + 2, by omega, by omega, by go_num, by have := AG.out; show _ = _; omega, rfl, HQ.out⟩
     ·have e92 : ((s[q].toNat : Int) == 92) = false := u8_not (n := 92) (by decide) h92
      have n92 : ((s[q].toNat : Int) != 92) = true := u8_nnot (n := 92) (by decide) h92
      obtain ⟨g, rfl⟩ : ∃ g, gk = g + 1 := ⟨gk - 1, by have := AG.out; omega⟩
      have HQ := Lib.hid (AQ.out.plain hlt hq34 h92)
      clear AQ hq34 h92
      go_wp2_with fail
      go_roundg g
      case measure => omega
      case rel => exact ⟨q + 1, by omega, by omega, by go_num, by have := AG.out; show _ = _; omega, rfl, HQ.out⟩
   ·have HR := Lib.hid (HJ.out.rest.symm.trans (wordsR_open (acc := acc) HW.out hfi hm H34.out (AQ.out.off hlt)))
    clear AQ AG
    go_wp2_with fail
    rw [jumpTo_ret]
    go_ret2
    rw [HR.out]
    exact ⟨HJ.out.bel, _, rfl, Own.nil HJ.out.bel.size⟩
end Go.Proofs.YtbjmpmgiigombaaGreatDoor
