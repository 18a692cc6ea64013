import Derived.Test.YthenffabboomnaaGreatDoorD06
import Derived.Maps.AppendAt
import Derived.Lib.IndexBytes
import Derived.Lib.Replace
import Derived.Lib.Atoi
set_option linter.all false
set_option maxHeartbeats 8000000
set_option maxRecDepth 100000
namespace Go.Proofs.YthenffabboomnaaGreatDoor
open Go.RowKit
def WordsRetS (w : World) (o : Option (List Scr.WordP)) (e : Ending) (w' : World) : Prop := Below w.heap.size w w' ∧ ∃ v, e = .returned (.tuple #[v, .bool o.isSome]) ∧ WdsS w.heap.size w' v (o.getD [])
structure WJS (w : World) (L : Nat) (R : Option (List Scr.WordP)) (t : List UInt8) (acc : List Scr.WordP) (out : Value) (w' : World) : Prop where
 own : WdsS w.heap.size w' out acc
 num : acc.length + t.length ≤ L
 bel : Below w.heap.size w w'
 rest : ∃ n, t.length < n ∧ Scr.wordsF n t acc = R
def WordsJS (w : World) (L : Nat) (R : Option (List Scr.WordP)) (a' : Act) (w' : World) : Prop := ∃ (t : List UInt8) (acc : List Scr.WordP) (out : Value) (u5 u6 u7 u8 u9 u10 u11 u12 u13 u14 u15 u16 u17 u18 u19 u20 u21 u22 u23 u24 u25 u26 u27 u28 u29 u30 u31 u32 u33 u34 u35 u36 u37 u38 u39 u40 u41 u42 u43 u44 u45 u46 u47 u48 u49 u50 u51 u52 u53 u54 u55 u56 u57 u58 u59 u60 u61 u62 u63 u64 u65 u66 : Value), a' = { tmps := #[.string ⟨t.toArray⟩, undef, .slice none 0 0, .bool false, out, u5, u6, u7, u8, u9, u10, u11, u12, u13, u14, u15, u16, u17, u18, u19, u20, u21, u22, u23, u24, u25, u26, u27, u28, u29, u30, u31, u32, u33, u34, u35, u36, u37, u38, u39, u40, u41, u42, u43, u44, u45, u46, u47, u48, u49, u50, u51, u52, u53, u54, u55, u56, u57, u58, u59, u60, u61, u62, u63, u64, u65, u66], defers := [] } ∧ WJS w L R t acc out w'
def WordsMS (a' : Act) : Nat := match a'.tmps.getD 0 undef with
 | .string b => b.size
 | _ => 0
theorem jump_retS {l : Nat} {J : Act → World → Prop} {Q : Exit → Act → World → Prop} {a : Act} {w : World} : Exit.jump l J Q .ret a w = Q .ret a w := rfl
theorem jump_gotoS {l : Nat} {J : Act → World → Prop} {Q : Exit → Act → World → Prop} {a : Act} {w : World} (h : J a w) : Exit.jump l J Q (.goto l) a w := ⟨rfl, h⟩
theorem wp_scope_jumpsS {P : Program} {a : Act} {w : World} {Q : Exit → Act → World → Prop} {c rest : Code} (l : Nat) (J : Act → World → Prop) (μ : Act → World → Nat) (hf : findLabel c l = some (Code.skip.seq rest))
  (first : ∀ Q', (∀ a w, J a w → rest.wp P Q' a w) → c.wp P Q' a w)
  (pass : ∀ a w, J a w → rest.wp P (Exit.jump l (fun a' w' => J a' w' ∧ μ a' w' < μ a w) Q) a w) : (Code.scope c).wp P Q a w := by
 refine wp_scope_jumps l J μ hf (first _ fun a w h => Code.wp_mono ?_ (pass a w h)) (fun a w h => wp_seq (wp_skip (pass a w h)))
 intro e a' w' he
 cases e with
 | goto l' => exact ⟨he.1, he.2.1⟩
 | _ => exact he
theorem wds_grownS {B : Nat} {W w w' : World} {v : Value} {l : List Scr.WordP} (hb : Below B W w) (hO : WdsS B w v l) (hg : w.grownBy w' v.ownBlock) : Below B W w' := hb.grown hg hO.2 (fun k hk => (hO.lt k hk).1)
theorem TrimLeft27_c (s : List UInt8) (w : World) (hs : s.length ≤ 1000000) : Calls Tryz.prog 30 #[.string ⟨s.toArray⟩, .string ⟨#[32]⟩] w fun e w' => e = .returned (.string ⟨(s.dropWhile (· == 32)).toArray⟩) ∧ Below w.heap.size w w' := by
 refine (Tryz.strings_TrimLeft_one ⟨s.toArray⟩ 32 (by decide) w).mono ?_
 rintro e w' ⟨rfl, rfl⟩
 exact ⟨rfl, Below.refl _ _⟩
section
variable {w w' w2 : World} {L : Nat} {R : Option (List Scr.WordP)} {s t q r : List UInt8} {acc : List Scr.WordP} {out out' : Value} {c : UInt8}
theorem WJS.fin (h : WJS w L R s acc out w') (hd : s.dropWhile (· == 32) = []) : R = some acc := by
 obtain ⟨n, hn, hr⟩ := h.rest
 obtain ⟨n, rfl⟩ : ∃ m, n = m + 1 := ⟨n - 1, by omega⟩
 rw [Scr.wordsF_nil hd] at hr
 exact hr.symm
theorem WJS.noq (h : WJS w L R s acc out w') (hd : s.dropWhile (· == 32) = 34 :: t) (hq : Scr.unqG [] t = none) : R = none := by
 obtain ⟨n, hn, hr⟩ := h.rest
 obtain ⟨n, rfl⟩ : ∃ m, n = m + 1 := ⟨n - 1, by omega⟩
 rw [Scr.wordsF_noq hd hq] at hr
 exact hr.symm
theorem WJS.near (h : WJS w L R s acc out w') (hd : s.dropWhile (· == 32) = 34 :: t) (hq : Scr.unqG [] t = some (q, r)) (h1 : r ≠ []) (h2 : r.head? ≠ some 32) : R = none := by
 obtain ⟨n, hn, hr⟩ := h.rest
 obtain ⟨n, rfl⟩ : ∃ m, n = m + 1 := ⟨n - 1, by omega⟩
 rw [Scr.wordsF_near hd hq h1 h2] at hr
 exact hr.symm
theorem drop_le (s : List UInt8) (hd : s.dropWhile (· == 32) = c :: t) : t.length + 1 ≤ s.length := by
 have := (List.dropWhile_sublist (p := (· == (32 : UInt8))) (l := s)).length_le
 rw [hd] at this
 simpa using this
theorem WJS.quo (h : WJS w L R s acc out w') (hd : s.dropWhile (· == 32) = 34 :: t) (hq : Scr.unqG [] t = some (q, r)) (h1 : r = [] ∨ r.head? = some 32) (hO : WdsS w.heap.size w2 out' (acc ++ [(q, true)])) (hb : Below w.heap.size w w2) : WJS w L R r (acc ++ [(q, true)]) out' w2 ∧ r.length < s.length := by
 obtain ⟨n, hn, hr⟩ := h.rest
 obtain ⟨n, rfl⟩ : ∃ m, n = m + 1 := ⟨n - 1, by omega⟩
 rw [Scr.wordsF_quo hd hq h1] at hr
 have h2 := drop_le s hd
 have h3 := Scr.unqG_len _ _ _ _ _ (Nat.le_refl _) hq
 have := h.num
 refine ⟨⟨hO, by rw [List.length_append, List.length_singleton]; omega, hb, n, by omega, hr⟩, by omega⟩
theorem WJS.glued (h : WJS w L R s acc out w') (hd : s.dropWhile (· == 32) = c :: t) (hc : c ≠ 34) (hr : ((c :: t).dropWhile (fun x => !Scr.isCut x)).head? = some 34) : R = none := by
 obtain ⟨n, hn, hrr⟩ := h.rest
 obtain ⟨n, rfl⟩ : ∃ m, n = m + 1 := ⟨n - 1, by omega⟩
 rw [Scr.wordsF_glued hd hc hr] at hrr
 exact hrr.symm
theorem cut_more (hd : s.dropWhile (· == 32) = c :: t) (hc : c ≠ 34) : Scr.isCut c = false := by
 have := Scr.drop_blank hd
 unfold Scr.isCut
 simp [this, hc]
theorem WJS.plain (h : WJS w L R s acc out w') (hd : s.dropWhile (· == 32) = c :: t) (hc : c ≠ 34) (hr : ((c :: t).dropWhile (fun x => !Scr.isCut x)).head? ≠ some 34) (hq : (c :: t).takeWhile (fun x => !Scr.isCut x) = q) (hr2 : (c :: t).dropWhile (fun x => !Scr.isCut x) = r) (hO : WdsS w.heap.size w2 out' (acc ++ [(q, false)])) (hb : Below w.heap.size w w2) : WJS w L R r (acc ++ [(q, false)]) out' w2 ∧ r.length < s.length := by
 obtain ⟨n, hn, hrr⟩ := h.rest
 obtain ⟨n, rfl⟩ : ∃ m, n = m + 1 := ⟨n - 1, by omega⟩
 rw [Scr.wordsF_plain hd hc hr, hq, hr2] at hrr
 have h2 := drop_le s hd
 have h3 : r.length ≤ t.length := by
  rw [← hr2, List.dropWhile_cons, if_pos (by rw [cut_more hd hc]; rfl)]
  exact (List.dropWhile_sublist _).length_le
 have := h.num
 refine ⟨⟨hO, by rw [List.length_append, List.length_singleton]; omega, hb, n, by omega, hrr⟩, by omega⟩
end
set_option maxRecDepth 100000 in
theorem words27_c (s : List UInt8) (w : World) (hs : s.length ≤ 900000) :
  Calls Tryz.prog 13 #[.string ⟨s.toArray⟩] w (WordsRetS w (Scr.wordsL s)) := by
 obtain ⟨R, hR⟩ : ∃ R, Scr.wordsL s = R := ⟨_, rfl⟩
 rw [hR]
 have HR0 := Lib.hid hR
 clear hR
 have hget := ba_get
 have hext := ba_ext
 go_enter Tryz.func13, Tryz.ntmps13
 go_wp2_with fail
 refine wp_scope_jumpsS 0 (WordsJS w s.length R) (fun a' _ => WordsMS a') rfl ?_ ?_
 ·intro Q' HQ
  have HQ1 := Lib.hid HQ
  clear HQ
  go_wp2_with fail
  go_step3
  rename_i K hK
  refine hK _ _ (HQ1.out _ _ ?_)
  exact ⟨s, [], _, _, _, _, _, _, _, _, _, _, _, _, _, _, _, _, _, _, _, _, _, _, _, _, _, _, _, _, _, _, _, _, _, _, _, _, _, _, _, _, _, _, _, _, _, _, _, _, _, _, _, _, _, _, _, _, _, _, _, _, _, _, _, rfl, ⟨WdsS.nil (Nat.le_refl _), by simp, Below.refl _ _, s.length + 1, by omega, HR0.out⟩⟩
 ·rintro a' wj ⟨t, acc, out, u5, u6, u7, u8, u9, u10, u11, u12, u13, u14, u15, u16, u17, u18, u19, u20, u21, u22, u23, u24, u25, u26, u27, u28, u29, u30, u31, u32, u33, u34, u35, u36, u37, u38, u39, u40, u41, u42, u43, u44, u45, u46, u47, u48, u49, u50, u51, u52, u53, u54, u55, u56, u57, u58, u59, u60, u61, u62, u63, u64, u65, u66, rfl, hJ⟩
  have HJ := Lib.hid hJ
  have hnum := hJ.num
  obtain ⟨Ao, co, rfl, hco⟩ := hJ.own.isSlice
  have HB := Lib.hid hJ.bel
  have HO := Lib.hid hJ.own
  have HT := Lib.hid (fun W => TrimLeft27_c t W (by omega))
  clear hJ HR0
  obtain ⟨t1, hd⟩ : ∃ t1, t.dropWhile (· == 32) = t1 := ⟨_, rfl⟩
  have HD := Lib.hid hd
  rw [hd] at HT
  clear hd
  have htl : t1.length ≤ t.length := by rw [← HD.out]; exact (List.dropWhile_sublist _).length_le
  cases t1 with
  | nil =>
   have HR := Lib.hid (HJ.out.fin HD.out)
   go_wp2_with (go_at_call 30; (with_reducible refine (HT.out _).mono ?_); rintro e w1 ⟨rfl, hb1⟩)
   rw [jump_retS]
   go_ret2
   rw [HR.out]
   exact ⟨HB.out.trans (hb1.mono HB.out.size), _, rfl, HO.out.below hb1⟩
  | cons c t1 =>
   simp only [List.length_cons] at htl
   have hc0 : ∀ h : 0 < (c :: t1).length, (c :: t1)[0] = c := fun _ => rfl
   have hne : ((c :: t1) == ([] : List UInt8)) = false := rfl
   by_cases hc : c = 34
   ·have e34 : ((c.toNat : Int) == 34) = true := u27_is (by decide) hc
    subst hc
    have HU := Lib.hid (fun W => unquoted27_c (34 :: t1) W (by simp only [List.length_cons]; omega) (by simp))
    have hu0 : ∀ q r, Scr.unqG [] t1 = some (q, r) → r.length ≤ 1000000 := fun q r h => by have := Scr.unqG_len _ _ _ _ _ (Nat.le_refl _) h; omega
    have HUL := Lib.hid hu0
    clear hu0
    rw [show (34 :: t1).drop 1 = t1 from rfl] at HU
    cases hq : Scr.unqG [] t1 with
    | none =>
     rw [hq] at HU
     have HR := Lib.hid (HJ.out.noq HD.out hq)
     clear hq
     go_wp2_with (first
      | (go_at_call 30; (with_reducible refine (HT.out _).mono ?_); rintro e w1 ⟨rfl, hb1⟩)
      | (go_at_call 31; (with_reducible refine (HU.out _).mono ?_); rintro e w2 ⟨rfl, hb2⟩))
     rw [jump_retS]
     go_ret2
     rw [HR.out]
     exact ⟨(HB.out.trans (hb1.mono HB.out.size)).trans (hb2.mono (Nat.le_trans HB.out.size hb1.size)), _, rfl, WdsS.nil (Nat.le_trans (Nat.le_trans HB.out.size hb1.size) hb2.size)⟩
    | some qr =>
     obtain ⟨q, r⟩ := qr
     rw [hq] at HU
     have HQ := Lib.hid hq
     have hrl := HUL.out q r hq
     clear hq HUL
     cases r with
     | nil =>
      have rne : (([] : List UInt8) != []) = false := rfl
      have HK := Lib.hid (fun (w2 : World) (out' : Value) => HJ.out.quo (w2 := w2) (out' := out') HD.out HQ.out (.inl rfl))
      go_wp2_with (first
       | (go_at_call 30; (with_reducible refine (HT.out _).mono ?_); rintro e w1 ⟨rfl, hb1⟩; have HO1 := Lib.hid (HO.out.below hb1))
       | (go_at_call 31; (with_reducible refine (HU.out _).mono ?_); rintro e w2 ⟨rfl, hb2⟩; have HO2 := Lib.hid (HO1.out.below hb2))
       | (at_builtin; refine wdsS_one (t := q) (q := true) rfl _ _ rfl rfl HO2.out rfl rfl (by omega) ?_; intro v3 w3 hO3 hg3)
        | go_step3)
      have HE := Lib.hid (HK.out _ _ hO3 (wds_grownS ((HB.out.trans (hb1.mono HB.out.size)).trans (hb2.mono (Nat.le_trans HB.out.size hb1.size))) HO2.out hg3))
      first
       | refine jump_gotoS ⟨⟨[], _, _, _, _, _, _, _, _, _, _, _, _, _, _, _, _, _, _, _, _, _, _, _, _, _, _, _, _, _, _, _, _, _, _, _, _, _, _, _, _, _, _, _, _, _, _, _, _, _, _, _, _, _, _, _, _, _, _, _, _, _, _, _, _, rfl, HE.out.1⟩, ?_⟩
       | refine ⟨rfl, ⟨[], _, _, _, _, _, _, _, _, _, _, _, _, _, _, _, _, _, _, _, _, _, _, _, _, _, _, _, _, _, _, _, _, _, _, _, _, _, _, _, _, _, _, _, _, _, _, _, _, _, _, _, _, _, _, _, _, _, _, _, _, _, _, _, _, rfl, HE.out.1⟩, ?_⟩
      have := HE.out.2
      simpa [WordsMS, ByteArray.size] using this
     | cons x r =>
      have rne : ((x :: r) != ([] : List UInt8)) = true := rfl
      have rx0 : ∀ h : 0 < (x :: r).length, (x :: r)[0] = x := fun _ => rfl
      by_cases hx : x = 32
      ·have nx : ((x.toNat : Int) != 32) = false := u27_nis (by decide) hx
       have HK := Lib.hid (fun (w2 : World) (out' : Value) => HJ.out.quo (w2 := w2) (out' := out') HD.out HQ.out (.inr (by rw [hx]; rfl)))
       clear hx
       go_wp2_with (first
        | (go_at_call 30; (with_reducible refine (HT.out _).mono ?_); rintro e w1 ⟨rfl, hb1⟩; have HO1 := Lib.hid (HO.out.below hb1))
        | (go_at_call 31; (with_reducible refine (HU.out _).mono ?_); rintro e w2 ⟨rfl, hb2⟩; have HO2 := Lib.hid (HO1.out.below hb2))
        | (at_builtin; refine wdsS_one (t := q) (q := true) rfl _ _ rfl rfl HO2.out rfl rfl (by omega) ?_; intro v3 w3 hO3 hg3)
        | go_step3)
       have HE := Lib.hid (HK.out _ _ hO3 (wds_grownS ((HB.out.trans (hb1.mono HB.out.size)).trans (hb2.mono (Nat.le_trans HB.out.size hb1.size))) HO2.out hg3))
       first
        | refine jump_gotoS ⟨⟨x :: r, _, _, _, _, _, _, _, _, _, _, _, _, _, _, _, _, _, _, _, _, _, _, _, _, _, _, _, _, _, _, _, _, _, _, _, _, _, _, _, _, _, _, _, _, _, _, _, _, _, _, _, _, _, _, _, _, _, _, _, _, _, _, _, _, rfl, HE.out.1⟩, ?_⟩
        | refine ⟨rfl, ⟨x :: r, _, _, _, _, _, _, _, _, _, _, _, _, _, _, _, _, _, _, _, _, _, _, _, _, _, _, _, _, _, _, _, _, _, _, _, _, _, _, _, _, _, _, _, _, _, _, _, _, _, _, _, _, _, _, _, _, _, _, _, _, _, _, _, _, rfl, HE.out.1⟩, ?_⟩
       have := HE.out.2
       simpa [WordsMS, ByteArray.size] using this
      ·have nx : ((x.toNat : Int) != 32) = true := u27_nnot (n := 32) (by decide) hx
       have HR := Lib.hid (HJ.out.near HD.out HQ.out (by simp) (by simpa using hx))
       clear hx
       go_wp2_with (first
        | (go_at_call 30; (with_reducible refine (HT.out _).mono ?_); rintro e w1 ⟨rfl, hb1⟩)
        | (go_at_call 31; (with_reducible refine (HU.out _).mono ?_); rintro e w2 ⟨rfl, hb2⟩))
       rw [jump_retS]
       go_ret2
       rw [HR.out]
       exact ⟨(HB.out.trans (hb1.mono HB.out.size)).trans (hb2.mono (Nat.le_trans HB.out.size hb1.size)), _, rfl, WdsS.nil (Nat.le_trans (Nat.le_trans HB.out.size hb1.size) hb2.size)⟩
   ·have e34 : ((c.toNat : Int) == 34) = false := u27_not (n := 34) (by decide) hc
    have HI := Lib.hid (fun W => IndexAny_cQ (c :: t1) W (by simp only [List.length_cons]; omega))
    have hways := Scr.cut_ways (c :: t1)
    rw [show Lib.indexAny (c :: t1) cutCs = Lib.indexAny (c :: t1) [32, 34] from rfl] at HI
    have hlen1 : (c :: t1).length ≤ 1000000 := by simp only [List.length_cons]; omega
    have hl0 : 0 < (c :: t1).length := by simp
    have hl0i : (0 : Int) < ((c :: t1).length : Int) := by omega
    have hg0 := hc0 hl0
    have hal : acc.length < 1000000 := by omega
    clear hc0
    rcases hways with ⟨h1, h2, h3⟩ | ⟨i, hi, h1, h2, h3, h4⟩
    ·rw [h1] at HI
     have HK := Lib.hid (fun (w2 : World) (out' : Value) => HJ.out.plain (w2 := w2) (out' := out') HD.out hc (by rw [h3]; simp) h2 h3)
     have HCl := Lib.hid (fun W => Clone_c (c :: t1) W (by simp only [List.length_cons]; omega))
     have hst := fun W => sl_to (c :: t1) (c :: t1).length (Nat.le_refl _) W
     have hsf := fun W => sl_from (c :: t1) (c :: t1).length (Nat.le_refl _) W
     rw [List.take_length] at hst
     rw [List.drop_length] at hsf
     clear h1 h2 h3 hc htl
     generalize hT : c :: t1 = T at *
     clear hT
     go_wp2_with (first
      | (go_at_call 30; (with_reducible refine (HT.out _).mono ?_); rintro e w1 ⟨rfl, hb1⟩; have HO1 := Lib.hid (HO.out.below hb1))
      | (go_at_call 32; (with_reducible refine (HI.out _).mono ?_); rintro e w2 ⟨rfl, hb2⟩; have HO2 := Lib.hid (HO1.out.below hb2))
      | (go_at_call 33; (with_reducible refine (HCl.out _).mono ?_); rintro e w3 ⟨rfl, hb3⟩; have HO3 := Lib.hid (HO2.out.below hb3))
      | (at_builtin; refine wdsS_one (t := T) (q := false) rfl _ _ rfl rfl HO3.out rfl rfl hal ?_; intro v4 w4 hO4 hg4)
      | go_step3)
     have hB3 := ((HB.out.trans (hb1.mono HB.out.size)).trans (hb2.mono (Nat.le_trans HB.out.size hb1.size))).trans (hb3.mono (Nat.le_trans (Nat.le_trans HB.out.size hb1.size) hb2.size))
     have HE := Lib.hid (HK.out _ _ hO4 (wds_grownS hB3 HO3.out hg4))
     first
      | refine jump_gotoS ⟨⟨[], _, _, _, _, _, _, _, _, _, _, _, _, _, _, _, _, _, _, _, _, _, _, _, _, _, _, _, _, _, _, _, _, _, _, _, _, _, _, _, _, _, _, _, _, _, _, _, _, _, _, _, _, _, _, _, _, _, _, _, _, _, _, _, _, rfl, HE.out.1⟩, ?_⟩
      | refine ⟨rfl, ⟨[], _, _, _, _, _, _, _, _, _, _, _, _, _, _, _, _, _, _, _, _, _, _, _, _, _, _, _, _, _, _, _, _, _, _, _, _, _, _, _, _, _, _, _, _, _, _, _, _, _, _, _, _, _, _, _, _, _, _, _, _, _, _, _, _, rfl, HE.out.1⟩, ?_⟩
     have := HE.out.2
     simpa [WordsMS, ByteArray.size] using this
    ·rw [h1] at HI
     have hii : (i : Int) < ((c :: t1).length : Int) := by omega
     have hi0 : ¬ (i : Int) < 0 := by omega
     have hch : ((c :: t1).drop i).head? = some (c :: t1)[i] := by rw [List.drop_eq_getElem_cons hi]; rfl
     by_cases hx : (c :: t1)[i] = 34
     ·have HR := Lib.hid (HJ.out.glued HD.out hc (by rw [h3, hch, hx]))
      have ex : (((c :: t1)[i].toNat : Int) == 34) = true := u27_is (by decide) hx
      clear h1 h2 h3 h4 hc hx hch htl
      generalize hT : c :: t1 = T at *
      clear hT
      go_wp2_with (first
       | (go_at_call 30; (with_reducible refine (HT.out _).mono ?_); rintro e w1 ⟨rfl, hb1⟩)
       | (go_at_call 32; (with_reducible refine (HI.out _).mono ?_); rintro e w2 ⟨rfl, hb2⟩))
      rw [jump_retS]
      go_ret2
      rw [HR.out]
      exact ⟨(HB.out.trans (hb1.mono HB.out.size)).trans (hb2.mono (Nat.le_trans HB.out.size hb1.size)), _, rfl, WdsS.nil (Nat.le_trans (Nat.le_trans HB.out.size hb1.size) hb2.size)⟩
     ·have ex : (((c :: t1)[i].toNat : Int) == 34) = false := u27_not (n := 34) (by decide) hx
      have HK := Lib.hid (fun (w2 : World) (out' : Value) => HJ.out.plain (w2 := w2) (out' := out') HD.out hc (by rw [h3, hch]; intro e; exact hx (Option.some.inj e)) h2 h3)
      have HCl := Lib.hid (fun W => Clone_c ((c :: t1).take i) W (by rw [List.length_take]; omega))
      have hst := fun W => sl_to (c :: t1) i (Nat.le_of_lt hi) W
      have hsf := fun W => sl_from (c :: t1) i (Nat.le_of_lt hi) W
      clear h1 h2 h3 h4 hc hx hch htl
      generalize hT : c :: t1 = T at *
      clear hT
      generalize T.take i = T1 at *
      generalize T.drop i = T2 at *
      go_wp2_with (first
       | (go_at_call 30; (with_reducible refine (HT.out _).mono ?_); rintro e w1 ⟨rfl, hb1⟩; have HO1 := Lib.hid (HO.out.below hb1))
       | (go_at_call 32; (with_reducible refine (HI.out _).mono ?_); rintro e w2 ⟨rfl, hb2⟩; have HO2 := Lib.hid (HO1.out.below hb2))
       | (go_at_call 33; (with_reducible refine (HCl.out _).mono ?_); rintro e w3 ⟨rfl, hb3⟩; have HO3 := Lib.hid (HO2.out.below hb3))
       | (at_builtin; refine wdsS_one (t := T1) (q := false) rfl _ _ rfl rfl HO3.out rfl rfl hal ?_; intro v4 w4 hO4 hg4)
       | go_step3)
      have hB3 := ((HB.out.trans (hb1.mono HB.out.size)).trans (hb2.mono (Nat.le_trans HB.out.size hb1.size))).trans (hb3.mono (Nat.le_trans (Nat.le_trans HB.out.size hb1.size) hb2.size))
      have HE := Lib.hid (HK.out _ _ hO4 (wds_grownS hB3 HO3.out hg4))
      first
       | refine jump_gotoS ⟨⟨T2, _, _, _, _, _, _, _, _, _, _, _, _, _, _, _, _, _, _, _, _, _, _, _, _, _, _, _, _, _, _, _, _, _, _, _, _, _, _, _, _, _, _, _, _, _, _, _, _, _, _, _, _, _, _, _, _, _, _, _, _, _, _, _, _, rfl, HE.out.1⟩, ?_⟩
       | refine ⟨rfl, ⟨T2, _, _, _, _, _, _, _, _, _, _, _, _, _, _, _, _, _, _, _, _, _, _, _, _, _, _, _, _, _, _, _, _, _, _, _, _, _, _, _, _, _, _, _, _, _, _, _, _, _, _, _, _, _, _, _, _, _, _, _, _, _, _, _, _, rfl, HE.out.1⟩, ?_⟩
      have := HE.out.2
      simpa [WordsMS, ByteArray.size] using this
open Go.RowKit
section
variable {ops : Array Oper} {o : Oper} {a : Act} {K : Act → World → Prop} {Q : Exit → Act → World → Prop} {E : Prop}
end
abbrev TRow := Value × List (List UInt8)
structure OwnL (B : Nat) (w : World) (L : List TRow) : Prop where
 own : ∀ r ∈ L, Own B w r.1 r.2
 apart : L.Pairwise fun a b => ∀ k, a.1.ownBlock = some k → b.1.ownBlock ≠ some k
theorem OwnL.keep {B : Nat} {w w' : World} {L : List TRow} (h : OwnL B w L) {r : Option Nat} (hg : w.grownBy w' r) (hr : ∀ k, r = some k → k < B) : OwnL B w' L := ⟨fun x hx => (h.own x hx).keep hg hr, h.apart⟩
theorem OwnL.below {B : Nat} {w w' : World} {L : List TRow} (h : OwnL B w L) (hb : Below w.heap.size w w') : OwnL B w' L := ⟨fun x hx => (h.own x hx).below hb, h.apart⟩
theorem OwnL.at_ {B : Nat} {w : World} {L : List TRow} (h : OwnL B w L) (i : Nat) (hi : i < L.length) : Own B w L[i].1 L[i].2 := h.own _ (List.getElem_mem hi)
theorem OwnL.ne {B : Nat} {w : World} {L : List TRow} (h : OwnL B w L) {i j : Nat} (hi : i < L.length) (hj : j < L.length) (hij : i ≠ j) : ∀ k, L[i].1.ownBlock = some k → L[j].1.ownBlock ≠ some k := by
 intro k h1 h2
 rcases Nat.lt_or_gt_of_ne hij with hlt | hlt
 ·exact List.pairwise_iff_getElem.1 h.apart i j hi hj hlt k h1 h2
 ·exact List.pairwise_iff_getElem.1 h.apart j i hj hi hlt k h2 h1
theorem OwnL.set {B : Nat} {w w' : World} {L : List TRow} (h : OwnL B w L) (i : Nat) (hi : i < L.length) {v' : Value} {xs' : List (List UInt8)} (hO : Own B w' v' xs') (hg : w.grownBy w' L[i].1.ownBlock) (ha : v'.ownBlock = L[i].1.ownBlock ∨ v'.ownBlock = some w.heap.size) : OwnL B w' (L.set i (v', xs')) := by
 refine ⟨fun x hx => ?_, ?_⟩
 ·obtain ⟨j, hj, rfl⟩ := List.getElem_of_mem hx
  rw [List.length_set] at hj
  rw [List.getElem_set]
  split
  ·exact hO
  ·next hne => exact (h.at_ j hj).keep2 hg (fun k hk he => h.ne hi hj hne k he hk)
 ·rw [List.pairwise_iff_getElem]
  intro a b hla hlb hab k
  rw [List.length_set] at hla hlb
  rw [List.getElem_set, List.getElem_set]
  have far : ∀ j (hj : j < L.length), i ≠ j → ∀ k, v'.ownBlock = some k → L[j].1.ownBlock ≠ some k := fun j hj hne k hk hk2 => by
   rcases ha with ha | ha
   ·exact h.ne hi hj hne k (ha ▸ hk) hk2
   ·rw [ha] at hk
    cases hk
    have := ((h.at_ j hj).lt _ hk2).2
    omega
  split
  ·split
   ·omega
   ·next h1 h2 => exact far b hlb h2 k
  ·split
   ·next h1 h2 => exact fun hk hk2 => far a hla h1 k hk2 hk
   ·exact h.ne hla hlb (by omega) k
section
variable {B p : Nat} {a w w' : World}
end
section
variable {B p : Nat} {w w' : World} {c : Cfg.ConfE} {va vc vl vi vr vu : Value}
end
open Go.RowKit
namespace Cfg
end Cfg
/-! Numbers. -/
namespace Cfg
theorem dig_trim (c : UInt8) : ([48, 49, 50, 51, 52, 53, 54, 55, 56, 57] : List UInt8).contains c = digB c := by
 have h : ((List.range 256).all fun i => ([48, 49, 50, 51, 52, 53, 54, 55, 56, 57] : List UInt8).contains (UInt8.ofNat i) == digB (UInt8.ofNat i)) = true := by decide +kernel
 have := List.all_eq_true.1 h c.toNat (List.mem_range.2 c.toNat_lt)
 rw [UInt8.ofNat_toNat] at this
 exact eq_of_beq this
theorem dropWhile_nil {α : Type} (p : α → Bool) : ∀ l : List α, l.dropWhile p = [] ↔ l.all p = true
 | [] => by simp
 | x :: l => by
  rw [List.dropWhile_cons]
  split
  ·next h => rw [dropWhile_nil p l]; simp [h]
  ·next h => simp [h]
theorem trim_nil (s : List UInt8) : Lib.trimS s [48, 49, 50, 51, 52, 53, 54, 55, 56, 57] = [] ↔ s.all digB = true := by
 have hp : (fun c => ([48, 49, 50, 51, 52, 53, 54, 55, 56, 57] : List UInt8).contains c) = digB := funext dig_trim
 unfold Lib.trimS Lib.trimLeftS Lib.trimRightS
 rw [hp, dropWhile_nil]
 constructor
 ·intro h
  rw [List.all_reverse] at h
  cases hd : s.reverse.dropWhile digB with
  | nil =>
   have := (dropWhile_nil digB s.reverse).1 hd
   rwa [List.all_reverse] at this
  | cons x l =>
   rw [hd] at h
   have h1 : digB x = false := by
    have := List.head?_dropWhile_not digB s.reverse
    rw [hd] at this
    simpa using this
   simp [h1] at h
 ·intro h
  have : s.reverse.dropWhile digB = [] := (dropWhile_nil digB _).2 (by rw [List.all_reverse]; exact h)
  rw [this]
  rfl
theorem decFrom_all : ∀ (l : List UInt8) (acc : Nat), l.all digB = true → Lib.decFrom acc l = some (l.foldl (fun n c => n * 10 + (c.toNat - 48)) acc)
 | [], acc, _ => rfl
 | c :: l, acc, h => by
  rw [List.all_cons, Bool.and_eq_true] at h
  have hd := of_decide_eq_true h.1
  rw [Lib.decFrom]
  have : Lib.digitVal c = some (c.toNat - 48) := by unfold Lib.digitVal; rw [if_pos hd]
  rw [this]
  exact decFrom_all l _ h.2
theorem atoi_val (s : List UInt8) (hs : s ≠ []) (h : s.all digB = true) : Lib.atoi s = some (valN s : Int) := by
 cases s with
 | nil => exact absurd rfl hs
 | cons c t =>
  have hd : digB c = true := by rw [List.all_cons, Bool.and_eq_true] at h; exact h.1
  have hd2 := of_decide_eq_true hd
  have h45 : (c == 45) = false := beq_eq_false_iff_ne.2 (fun e => by subst e; revert hd2; decide)
  have h43 : (c == 43) = false := beq_eq_false_iff_ne.2 (fun e => by subst e; revert hd2; decide)
  unfold Lib.atoi
  simp only [h45, h43, Bool.false_eq_true, if_false]
  unfold Lib.decNat
  rw [if_neg (by simp), decFrom_all _ _ h]
  rfl
end Cfg
end Go.Proofs.YthenffabboomnaaGreatDoor
