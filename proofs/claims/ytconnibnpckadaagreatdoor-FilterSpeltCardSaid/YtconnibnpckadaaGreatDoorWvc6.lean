import Derived.Test.YtconnibnpckadaaGreatDoorWvc5
import Derived.ScopeJumps
set_option linter.all false
set_option maxHeartbeats 8000000
set_option maxRecDepth 100000
namespace Go.Proofs.YtconnibnpckadaaGreatDoor
open Go.RowKit
def WordsRet (w : World) (o : Option (List Wd)) (e : Ending) (w' : World) : Prop := Below w.heap.size w w' ∧ ∃ v, e = .returned (.tuple #[v, .bool o.isSome]) ∧ Wds w.heap.size w' v (o.getD [])
structure WJ (w : World) (s : List UInt8) (R : Option (List Wd)) (k : Nat) (acc : List Wd) (out : Value) (w' : World) : Prop where
 le : k ≤ s.length
 own : Wds w.heap.size w' out acc
 num : acc.length ≤ k
 bel : Below w.heap.size w w'
 rest : wordsF (s.length + 1) (s.drop k) acc = R
theorem sub_to_end (l : List UInt8) (k : Nat) : sub l k l.length = l.drop k := by unfold sub; exact List.take_of_length_le (by simp)
theorem sub_add (l : List UInt8) (k q : Nat) : sub l k (k + q) = (l.drop k).take q := by unfold sub; rw [show k + q - k = q by omega]
theorem IndexByte_q (cs : List UInt8) (w : World) : Calls Tryz.prog 28 #[.string ⟨cs.toArray⟩, .int .u8 39] w fun e w' => e = .returned (.int .i64 (Lib.indexByte cs 39)) ∧ w = w' := IndexByte_c cs 39 w
theorem wp_scope_jumps1 {P : Program} {a : Act} {w : World} {Q : Exit → Act → World → Prop} {c rest : Code} (l : Nat) (J : Act → World → Prop) (μ : Act → World → Nat) (hf : findLabel c l = some (Code.skip.seq rest))
  (first : ∀ Q', (∀ a w, J a w → rest.wp P Q' a w) → c.wp P Q' a w)
  (pass : ∀ a w, J a w → rest.wp P (Exit.jump l (fun a' w' => J a' w' ∧ μ a' w' < μ a w) Q) a w) : (Code.scope c).wp P Q a w := by
 refine wp_scope_jumps l J μ hf (first _ fun a w h => Code.wp_mono ?_ (pass a w h)) (fun a w h => wp_seq (wp_skip (pass a w h)))
 intro e a' w' he
 cases e with
 | goto l' => exact ⟨he.1, he.2.1⟩
 | _ => exact he
theorem wj_skip {s : List UInt8} {k m : Nat} (hlt : m < s.length) (hb : sBlank s[m] = true) (h : (s.drop k).dropWhile sBlank = (s.drop m).dropWhile sBlank) : (s.drop k).dropWhile sBlank = (s.drop (m + 1)).dropWhile sBlank := by
 rw [h, List.drop_eq_getElem_cons hlt, List.dropWhile_cons, if_pos hb]
theorem wj_stop {s : List UInt8} {k m : Nat} (hlt : m < s.length) (hb : ¬ sBlank s[m] = true) (h : (s.drop k).dropWhile sBlank = (s.drop m).dropWhile sBlank) : (s.drop k).dropWhile sBlank = s[m] :: s.drop (m + 1) := by
 rw [h, List.drop_eq_getElem_cons hlt, List.dropWhile_cons, if_neg hb]
theorem wj_end {s : List UInt8} {k : Nat} (h : (s.drop k).dropWhile sBlank = (s.drop s.length).dropWhile sBlank) : (s.drop k).dropWhile sBlank = [] := by
 rw [h, List.drop_length]; rfl
theorem wj_quote {w w' w'' : World} {s : List UInt8} {R : Option (List Wd)} {k m : Nat} {acc : List Wd} {out out' : Value} (h : WJ w s R k acc out w') (hkm : k ≤ m) (hlt : m < s.length) (hd : (s.drop k).dropWhile sBlank = s[m] :: s.drop (m + 1)) (hc : s[m] = 39) (hq : (s.drop (m + 1)).contains 39 = true)
  (ho : Wds w.heap.size w'' out' (acc ++ [((s.drop (m + 1)).takeWhile (· != 39), true)])) (hb : Below w.heap.size w w'') : WJ w s R (m + (((s.drop (m + 1)).takeWhile (· != 39)).length + 2)) (acc ++ [((s.drop (m + 1)).takeWhile (· != 39), true)]) out' w'' := by
 have hl := (idxB_some _ _ hq).2
 rw [List.length_drop] at hl
 refine ⟨by omega, ho, by have := h.num; simp; omega, hb, ?_⟩
 have hr := h.rest
 rw [wordsF_go _ acc (by rw [List.length_drop]; omega) hd, hc, if_pos (show ((39 : UInt8) == 39) = true from rfl), if_pos hq] at hr
 rw [← hr]
 congr 1
 rw [← drop_take_len, List.tail_drop, List.drop_drop]
 congr 1
 omega
theorem wj_noquote {w w' : World} {s : List UInt8} {R : Option (List Wd)} {k m : Nat} {acc : List Wd} {out : Value} (h : WJ w s R k acc out w') (hlt : m < s.length) (hd : (s.drop k).dropWhile sBlank = s[m] :: s.drop (m + 1)) (hc : s[m] = 39) (hq : (s.drop (m + 1)).contains 39 = false) : R = none := by
 have hr := h.rest
 rw [wordsF_go _ acc (by rw [List.length_drop]; omega) hd, hc, if_pos (show ((39 : UInt8) == 39) = true from rfl), hq] at hr
 exact hr.symm
theorem wj_alone {w w' w'' : World} {s : List UInt8} {R : Option (List Wd)} {k m : Nat} {acc : List Wd} {out out' : Value} (h : WJ w s R k acc out w') (hkm : k ≤ m) (hlt : m < s.length) (hd : (s.drop k).dropWhile sBlank = s[m] :: s.drop (m + 1)) (hc : s[m] ≠ 39) (ha : sAlone s[m] = true)
  (ho : Wds w.heap.size w'' out' (acc ++ [([s[m]], false)])) (hb : Below w.heap.size w w'') : WJ w s R (m + 1) (acc ++ [([s[m]], false)]) out' w'' := by
 refine ⟨by omega, ho, by have := h.num; simp; omega, hb, ?_⟩
 have hr := h.rest
 rw [wordsF_go _ acc (by rw [List.length_drop]; omega) hd, if_neg (by simpa using hc), if_pos ha] at hr
 exact hr
theorem wj_plain {w w' w'' : World} {s : List UInt8} {R : Option (List Wd)} {k m : Nat} {acc : List Wd} {out out' : Value} (h : WJ w s R k acc out w') (hkm : k ≤ m) (hlt : m < s.length) (hd : (s.drop k).dropWhile sBlank = s[m] :: s.drop (m + 1)) (hc : s[m] ≠ 39) (ha : ¬ sAlone s[m] = true) {q : Nat} (hq : q = ((s.drop m).takeWhile (fun c => !sStop c)).length)
  (hs : sStop s[m] = false) (ho : Wds w.heap.size w'' out' (acc ++ [((s.drop m).take q, false)])) (hb : Below w.heap.size w w'') : 0 < q ∧ WJ w s R (m + q) (acc ++ [((s.drop m).take q, false)]) out' w'' := by
 have hle : q ≤ s.length - m := by
  rw [hq, ← List.length_drop]
  exact (List.takeWhile_sublist _).length_le
 have hdm : s.drop m = s[m] :: s.drop (m + 1) := List.drop_eq_getElem_cons hlt
 have htw : (s.drop m).takeWhile (fun c => !sStop c) = s[m] :: (s.drop (m + 1)).takeWhile (fun c => !sStop c) := by
  rw [hdm, List.takeWhile_cons, hs]
  simp
 have hq1 : q = ((s.drop (m + 1)).takeWhile (fun c => !sStop c)).length + 1 := by rw [hq, htw]; rfl
 refine ⟨by omega, by omega, ho, by have := h.num; simp; omega, hb, ?_⟩
 have hr := h.rest
 rw [wordsF_go _ acc (by rw [List.length_drop]; omega) hd, if_neg (by simpa using hc), if_neg ha] at hr
 rw [← hr]
 have e1 : (s.drop m).take q = s[m] :: (s.drop (m + 1)).takeWhile (fun c => !sStop c) := by rw [hq, take_take_len, htw]
 have e2 : s.drop (m + q) = (s.drop (m + 1)).dropWhile (fun c => !sStop c) := by
  rw [← drop_take_len, List.drop_drop, hq1]
  congr 1
  omega
 rw [e1, e2]
def WordsJ (w : World) (s : List UInt8) (R : Option (List Wd)) (a' : Act) (w' : World) : Prop := ∃ (k : Nat) (acc : List Wd) (out : Value) (u6 u7 u8 u9 u10 u11 u12 u13 u14 u15 u16 u17 u18 u19 u20 u21 u22 u23 u24 u25 u26 u27 u28 u29 u30 u31 u32 u33 u34 u35 u36 u37 u38 u39 u40 u41 u42 u43 u44 u45 u46 u47 u48 u49 u50 u51 u52 u53 u54 u55 u56 u57 u58 u59 u60 u61 u62 u63 u64 u65 u66 u67 u68 u69 u70 u71 u72 u73 u74 u75 u76 u77 u78 u79 u80 u81 u82 u83 u84 u85 u86 u87 u88 u89 u90 u91 u92 u93 u94 u95 u96 : Value), a' = { tmps := #[.string ⟨s.toArray⟩, undef, .slice none 0 0, .bool false, out, .int .i64 k, u6, u7, u8, u9, u10, u11, u12, u13, u14, u15, u16, u17, u18, u19, u20, u21, u22, u23, u24, u25, u26, u27, u28, u29, u30, u31, u32, u33, u34, u35, u36, u37, u38, u39, u40, u41, u42, u43, u44, u45, u46, u47, u48, u49, u50, u51, u52, u53, u54, u55, u56, u57, u58, u59, u60, u61, u62, u63, u64, u65, u66, u67, u68, u69, u70, u71, u72, u73, u74, u75, u76, u77, u78, u79, u80, u81, u82, u83, u84, u85, u86, u87, u88, u89, u90, u91, u92, u93, u94, u95, u96], defers := [] } ∧ WJ w s R k acc out w'
def WordsM (s : List UInt8) (a' : Act) : Nat := s.length - (intOf (a'.tmps.getD 5 undef)).toNat
theorem jump_ret {l : Nat} {J : Act → World → Prop} {Q : Exit → Act → World → Prop} {a : Act} {w : World} : Exit.jump l J Q .ret a w = Q .ret a w := rfl
theorem jump_goto {l : Nat} {J : Act → World → Prop} {Q : Exit → Act → World → Prop} {a : Act} {w : World} (h : J a w) : Exit.jump l J Q (.goto l) a w := ⟨rfl, h⟩
theorem wds_grown {B : Nat} {W w w' : World} {v : Value} {l : List Wd} (hb : Below B W w) (hO : Wds B w v l) (hg : w.grownBy w' v.ownBlock) : Below B W w' := hb.grown hg hO.2 (fun k hk => (hO.lt k hk).1)
theorem sub_one (s : List UInt8) (m : Nat) (h : m < s.length) : sub s m (m + 1) = [s[m]] := by
 rw [sub_add, List.drop_eq_getElem_cons h]
 rfl
set_option maxRecDepth 100000 in
theorem words_c (s : List UInt8) (w : World) (hs : s.length ≤ 1000000) :
  Calls Tryz.prog 33 #[.string ⟨s.toArray⟩] w (WordsRet w (wordsL s)) := by
 obtain ⟨R, hR⟩ : ∃ R, wordsL s = R := ⟨_, rfl⟩
 rw [hR]
 have HR0 := Lib.hid hR
 clear hR
 have hget := ba_get
 have hext := ba_ext
 go_enter Tryz.func33, Tryz.ntmps33
 go_wp2_with fail
 refine wp_scope_jumps1 0 (WordsJ w s R) (fun a' _ => WordsM s a') rfl ?_ ?_
 ·intro Q' HQ
  have HQ1 := Lib.hid HQ
  clear HQ
  go_wp2_with fail
  go_step3
  rename_i K hK
  refine hK _ _ (HQ1.out _ _ ?_)
  exact ⟨0, [], _, _, _, _, _, _, _, _, _, _, _, _, _, _, _, _, _, _, _, _, _, _, _, _, _, _, _, _, _, _, _, _, _, _, _, _, _, _, _, _, _, _, _, _, _, _, _, _, _, _, _, _, _, _, _, _, _, _, _, _, _, _, _, _, _, _, _, _, _, _, _, _, _, _, _, _, _, _, _, _, _, _, _, _, _, _, _, _, _, _, _, _, rfl, ⟨Nat.zero_le _, Wds.nil (Nat.le_refl _), by simp, Below.refl _ _, by rw [List.drop_zero]; exact HR0.out⟩⟩
 ·rintro a' wj ⟨k, acc, out, u6, u7, u8, u9, u10, u11, u12, u13, u14, u15, u16, u17, u18, u19, u20, u21, u22, u23, u24, u25, u26, u27, u28, u29, u30, u31, u32, u33, u34, u35, u36, u37, u38, u39, u40, u41, u42, u43, u44, u45, u46, u47, u48, u49, u50, u51, u52, u53, u54, u55, u56, u57, u58, u59, u60, u61, u62, u63, u64, u65, u66, u67, u68, u69, u70, u71, u72, u73, u74, u75, u76, u77, u78, u79, u80, u81, u82, u83, u84, u85, u86, u87, u88, u89, u90, u91, u92, u93, u94, u95, u96, rfl, hJ⟩
  have HJ := Lib.hid hJ
  have hkl := hJ.le
  have hnum := hJ.num
  obtain ⟨Ao, co, rfl, hco⟩ := hJ.own.isSlice
  have HB := Lib.hid hJ.bel
  clear hJ HR0
  go_wp2_with fail
  go_loopg [5] (s.length - k) (fun gk t wr2 => ∃ m : Nat, k ≤ m ∧ m ≤ s.length ∧ t = .int .i64 m ∧ Aside (m + gk = s.length) ∧ Aside (wr2 = wj) ∧ Aside ((s.drop k).dropWhile sBlank = (s.drop m).dropWhile sBlank))
  case atStart => exact ⟨k, Nat.le_refl _, hkl, rfl, by show _ = _; omega, rfl, rfl⟩
  case round =>
   obtain ⟨m, hkm, hm, rfl, AG, AW, AD⟩ := hrel
   obtain rfl : wr = wj := AW.out
   clear AW
   by_cases hlt : m < s.length
   ·by_cases hb : sBlank s[m] = true
    ·obtain ⟨q, rfl⟩ : ∃ q, gk = q + 1 := ⟨gk - 1, by have := AG.out; omega⟩
     have hge := (sBlank_idx s[m]).1 hb
     have HD := Lib.hid (wj_skip hlt hb AD.out)
     clear AD hb
     go_wp2_with (go_at_call 28; (with_reducible refine (IndexByte_c [32, 9, 10, 13] s[m] _).mono ?_); rintro e w1 ⟨rfl, rfl⟩)
     go_roundg q
     case measure => omega
     case rel => exact ⟨m + 1, by omega, by omega, by go_num, by have := AG.out; show _ = _; omega, rfl, HD.out⟩
    ·have hge : ¬ 0 ≤ Lib.indexByte [32, 9, 10, 13] s[m] := fun h => hb ((sBlank_idx s[m]).2 h)
     have HD := Lib.hid (wj_stop hlt hb AD.out)
     have hne : ((m : Int) == (s.length : Int)) = false := by rw [beq_eq_false_iff_ne]; omega
     have HBL := Lib.hid hb
     clear AD AG hb
     by_cases hq : s[m] = 39
     ·have hqi : ((s[m].toNat : Int) == 39) = true := by rw [hq]; rfl
      have he := sub_to_end s (m + 1)
      have HQ := Lib.hid hq
      clear hq
      cases hc : (s.drop (m + 1)).contains 39
      ·have hix := idxB_none _ _ hc
       have HR := Lib.hid (wj_noquote HJ.out hlt HD.out HQ.out hc)
       clear hc
       go_wp2_with (first | (go_at_call 28; (with_reducible refine (IndexByte_c [32, 9, 10, 13] s[m] _).mono ?_); rintro e w1 ⟨rfl, rfl⟩) | (go_at_call 28; (with_reducible refine (IndexByte_q (s.drop (m + 1)) _).mono ?_); rintro e w1 ⟨rfl, rfl⟩))
       rw [jump_ret]
       go_ret2
       rw [HR.out]
       exact ⟨HB.out, _, rfl, Wds.nil HB.out.size⟩
      ·obtain ⟨hix, hl2⟩ := idxB_some _ _ hc
       have HC := Lib.hid hc
       obtain ⟨W, hW⟩ : ∃ W, (s.drop (m + 1)).takeWhile (· != 39) = W := ⟨_, rfl⟩
       rw [hW] at hix hl2
       have he2 : sub s (m + 1) (m + 1 + W.length) = W := by rw [sub_add, ← hW, take_take_len]
       rw [List.length_drop] at hl2
       have HW := Lib.hid hW
       clear hc hW
       go_wp2_with (first | (go_at_call 28; (with_reducible refine (IndexByte_c [32, 9, 10, 13] s[m] _).mono ?_); rintro e w1 ⟨rfl, rfl⟩) | (go_at_call 28; (with_reducible refine (IndexByte_q (s.drop (m + 1)) _).mono ?_); rintro e w1 ⟨rfl, rfl⟩) | (go_at_call 68; refine (Clone_c W _ (by omega)).mono ?_; rintro e w2 ⟨rfl, hb2⟩; have hO2 := HJ.out.own.below hb2; have hB2 := HB.out.trans (hb2.mono HB.out.size)) | (at_builtin; refine wds_one (t := W) (q := true) rfl _ _ rfl rfl hO2 rfl rfl (by omega) ?_; intro v' w3 hO3 hg3) | go_step3)
       have hWJ := wj_quote (w'' := w3) (out' := v') HJ.out hkm hlt HD.out HQ.out HC.out (by rw [HW.out]; exact hO3) (wds_grown hB2 hO2 hg3)
       rw [HW.out] at hWJ
       have e5 : Value.int .i64 ((m : Int) + ((W.length : Int) + 2)) = .int .i64 ((m + (W.length + 2) : Nat) : Int) := by go_num
       rw [e5]
       exact jump_goto ⟨⟨_, _, _, _, _, _, _, _, _, _, _, _, _, _, _, _, _, _, _, _, _, _, _, _, _, _, _, _, _, _, _, _, _, _, _, _, _, _, _, _, _, _, _, _, _, _, _, _, _, _, _, _, _, _, _, _, _, _, _, _, _, _, _, _, _, _, _, _, _, _, _, _, _, _, _, _, _, _, _, _, _, _, _, _, _, _, _, _, _, _, _, _, _, _, rfl, hWJ⟩, by simp [WordsM, intOf]; omega⟩
     ·have hqi : ((s[m].toNat : Int) == 39) = false := by
       rw [beq_eq_false_iff_ne]
       intro h
       exact hq (UInt8.toNat.inj (by show _ = 39; omega))
      by_cases ha : sAlone s[m] = true
      ·have hai := (sAlone_idx s[m]).1 ha
       have he3 := sub_one s m hlt
       have HQ := Lib.hid hq
       have HA := Lib.hid ha
       clear hq ha
       have hO2 := HJ.out.own
       go_wp2_with (first | (go_at_call 28; (with_reducible refine (IndexByte_c [32, 9, 10, 13] s[m] _).mono ?_); rintro e w1 ⟨rfl, rfl⟩) | (go_at_call 28; (with_reducible refine (IndexByte_c [40, 41, 36] s[m] _).mono ?_); rintro e w1 ⟨rfl, rfl⟩) | (at_builtin; refine wds_one (t := [s[m]]) (q := false) rfl _ _ rfl rfl hO2 rfl rfl (by omega) ?_; intro v' w3 hO3 hg3) | go_step3)
       have hWJ := wj_alone (w'' := w3) (out' := v') HJ.out hkm hlt HD.out HQ.out HA.out hO3 (wds_grown HB.out hO2 hg3)
       have e5 : Value.int .i64 ((m : Int) + 1) = .int .i64 ((m + 1 : Nat) : Int) := by go_num
       rw [e5]
       exact jump_goto ⟨⟨_, _, _, _, _, _, _, _, _, _, _, _, _, _, _, _, _, _, _, _, _, _, _, _, _, _, _, _, _, _, _, _, _, _, _, _, _, _, _, _, _, _, _, _, _, _, _, _, _, _, _, _, _, _, _, _, _, _, _, _, _, _, _, _, _, _, _, _, _, _, _, _, _, _, _, _, _, _, _, _, _, _, _, _, _, _, _, _, _, _, _, _, _, _, rfl, hWJ⟩, by simp [WordsM, intOf]; omega⟩
      ·have hai : ¬ 0 ≤ Lib.indexByte [40, 41, 36] s[m] := fun h => ha ((sAlone_idx s[m]).2 h)
       have he := sub_to_end s m
       have hst : sStop s[m] = false := by
        have h1 : sBlank s[m] = false := by simpa using HBL.out
        have h2 : sAlone s[m] = false := by simpa using ha
        have h3 : (s[m] == 39) = false := beq_eq_false_iff_ne.2 hq
        unfold sStop
        rw [h1, h2, h3]
        rfl
       obtain ⟨q, hqd⟩ : ∃ q, q = ((s.drop m).takeWhile (fun c => !sStop c)).length := ⟨_, rfl⟩
       have hqle : q ≤ s.length - m := by rw [hqd, ← List.length_drop]; exact (List.takeWhile_sublist _).length_le
       have he2 : sub s m (m + q) = (s.drop m).take q := sub_add s m q
       have hlq : ((s.drop m).take q).length ≤ 1000000 := by simp; omega
       have HQ := Lib.hid hq
       have HA := Lib.hid ha
       have HST := Lib.hid hst
       have HQD := Lib.hid hqd
       have hIA := fun W => IndexAny_c (s.drop m) W (by simp; omega)
       have HIA := Lib.hid hIA
       clear hq ha hst hIA
       cases hc : (s.drop m).any stopCs.contains
       ·have hx := idxA_none stopCs _ hc
        rw [← stop_fun] at hx
        have hqe : q = s.length - m := by rw [hqd, hx.2, List.length_drop]
        have hix := hx.1
        clear hx hqd hc
        subst hqe
        have htk : (s.drop m).take (s.length - m) = s.drop m := List.take_of_length_le (by simp)
        have HTK := Lib.hid htk
        rw [htk] at he2 hlq
        clear htk
        go_wp2_with (first | (go_at_call 28; (with_reducible refine (IndexByte_c [32, 9, 10, 13] s[m] _).mono ?_); rintro e w1 ⟨rfl, rfl⟩) | (go_at_call 28; (with_reducible refine (IndexByte_c [40, 41, 36] s[m] _).mono ?_); rintro e w1 ⟨rfl, rfl⟩) | (go_at_call 69; refine (HIA.out _).mono ?_; rintro e w1 ⟨rfl, hb1⟩; have hO1 := HJ.out.own.below hb1; have hB1 := HB.out.trans (hb1.mono HB.out.size)) | (go_at_call 68; refine (Clone_c (s.drop m) _ (by omega)).mono ?_; rintro e w2 ⟨rfl, hb2⟩; have hO2 := hO1.below hb2; have hB2 := hB1.trans (hb2.mono hB1.size)) | (at_builtin; refine wds_one (t := s.drop m) (q := false) rfl _ _ rfl rfl hO2 rfl rfl (by omega) ?_; intro v' w3 hO3 hg3) | go_step3)
        obtain ⟨hq0, hWJ⟩ := wj_plain (w'' := w3) (out' := v') HJ.out hkm hlt HD.out HQ.out HA.out HQD.out HST.out (by rw [HTK.out]; exact hO3) (wds_grown hB2 hO2 hg3)
        have e5 : Value.int .i64 ((m : Int) + ((s.length : Int) - (m : Int))) = .int .i64 ((m + (s.length - m) : Nat) : Int) := by congr 1; omega
        rw [e5]
        exact jump_goto ⟨⟨_, _, _, _, _, _, _, _, _, _, _, _, _, _, _, _, _, _, _, _, _, _, _, _, _, _, _, _, _, _, _, _, _, _, _, _, _, _, _, _, _, _, _, _, _, _, _, _, _, _, _, _, _, _, _, _, _, _, _, _, _, _, _, _, _, _, _, _, _, _, _, _, _, _, _, _, _, _, _, _, _, _, _, _, _, _, _, _, _, _, _, _, _, _, rfl, by rw [HTK.out] at hWJ; exact hWJ⟩, by simp [WordsM, intOf]; omega⟩
       ·obtain ⟨hix, hql⟩ := idxA_some stopCs _ hc
        rw [← stop_fun, ← hqd] at hix hql
        clear hqd hc
        go_wp2_with (first | (go_at_call 28; (with_reducible refine (IndexByte_c [32, 9, 10, 13] s[m] _).mono ?_); rintro e w1 ⟨rfl, rfl⟩) | (go_at_call 28; (with_reducible refine (IndexByte_c [40, 41, 36] s[m] _).mono ?_); rintro e w1 ⟨rfl, rfl⟩) | (go_at_call 69; refine (HIA.out _).mono ?_; rintro e w1 ⟨rfl, hb1⟩; have hO1 := HJ.out.own.below hb1; have hB1 := HB.out.trans (hb1.mono HB.out.size)) | (go_at_call 68; refine (Clone_c ((s.drop m).take q) _ (by omega)).mono ?_; rintro e w2 ⟨rfl, hb2⟩; have hO2 := hO1.below hb2; have hB2 := hB1.trans (hb2.mono hB1.size)) | (at_builtin; refine wds_one (t := (s.drop m).take q) (q := false) rfl _ _ rfl rfl hO2 rfl rfl (by omega) ?_; intro v' w3 hO3 hg3) | go_step3)
        obtain ⟨hq0, hWJ⟩ := wj_plain (w'' := w3) (out' := v') HJ.out hkm hlt HD.out HQ.out HA.out HQD.out HST.out hO3 (wds_grown hB2 hO2 hg3)
        have e5 : Value.int .i64 ((m : Int) + (q : Int)) = .int .i64 ((m + q : Nat) : Int) := by go_num
        rw [e5]
        exact jump_goto ⟨⟨_, _, _, _, _, _, _, _, _, _, _, _, _, _, _, _, _, _, _, _, _, _, _, _, _, _, _, _, _, _, _, _, _, _, _, _, _, _, _, _, _, _, _, _, _, _, _, _, _, _, _, _, _, _, _, _, _, _, _, _, _, _, _, _, _, _, _, _, _, _, _, _, _, _, _, _, _, _, _, _, _, _, _, _, _, _, _, _, _, _, _, _, _, _, rfl, hWJ⟩, by simp [WordsM, intOf]; omega⟩
   ·obtain rfl : m = s.length := by omega
    have hw0 := wj_end AD.out
    have hR : R = some acc := by rw [← HJ.out.rest, wordsF_nil _ _ hw0]
    have HR := Lib.hid hR
    clear hR AD AG hw0
    go_wp2_with fail
    rw [jump_ret]
    go_ret2
    rw [HR.out]
    exact ⟨HB.out, _, rfl, HJ.out.own⟩
end Go.Proofs.YtconnibnpckadaaGreatDoor
