import Derived.Test.YtbjmpmgiigombaaGreatDoorWvd7
set_option linter.all false
set_option maxHeartbeats 8000000
namespace Go.Proofs.YtbjmpmgiigombaaGreatDoor
open Go.RowKit
theorem c8_is {c : UInt8} {n : Nat} (hn : n < 256) (h : c = UInt8.ofNat n) : ((c.toNat : Int) == (n : Int)) = true := by
 rw [h, beq_iff_eq, UInt8.toNat_ofNat']
 omega
theorem c8_not {c : UInt8} {n : Nat} (hn : n < 256) (h : c ≠ UInt8.ofNat n) : ((c.toNat : Int) == (n : Int)) = false := by
 rw [beq_eq_false_iff_ne]
 intro he
 apply h
 apply UInt8.toNat.inj
 rw [UInt8.toNat_ofNat']
 omega
theorem c8_nis {c : UInt8} {n : Nat} (hn : n < 256) (h : c = UInt8.ofNat n) : ((c.toNat : Int) != (n : Int)) = false := by
 rw [bne, c8_is hn h]; rfl
theorem c8_nnot {c : UInt8} {n : Nat} (hn : n < 256) (h : c ≠ UInt8.ofNat n) : ((c.toNat : Int) != (n : Int)) = true := by
 rw [bne, c8_not hn h]; rfl
def UnqRet (w : World) (o : Option (List UInt8)) (e : Ending) (w' : World) : Prop := e = .returned (.tuple #[.string ⟨(o.getD []).toArray⟩, .bool o.isSome]) ∧ Below w.heap.size w w'
set_option maxRecDepth 100000 in
theorem unq_none (s : List UInt8) (w : World) (hs : s.length ≤ 1000000) (hn : s.length < 2 ∨ ∃ h : 2 ≤ s.length, s[0] ≠ 34 ∨ s[s.length - 1] ≠ 34) :
  Calls Tryz.prog 122 #[.string ⟨s.toArray⟩] w (UnqRet w none) := by
 have hget := ba_get
 have hext := ba_ext
 rcases hn with hn | ⟨h2, hn⟩
 ·go_enter Tryz.func122, Tryz.ntmps122
  go_wp2_with fail
  go_ret2
  exact ⟨rfl, Below.refl _ _⟩
 ·obtain ⟨n, hnn⟩ : ∃ n, s.length - 1 = n := ⟨_, rfl⟩
  have hi1 : IntKind.i64.wrap ((s.length : Int) - 1) = (n : Int) := by rw [IntWalk.i64_in _ (by omega)]; omega
  have hn1 : n < s.length := by omega
  have hn0 : 0 < s.length := by omega
  simp only [hnn] at hn
  by_cases h0 : s[0] = 34
  ·have e0 : ((s[0].toNat : Int) == 34) = true := c8_is (by decide) h0
   have ne0 : ((s[0].toNat : Int) != 34) = false := c8_nis (by decide) h0
   have e1 : ((s[n].toNat : Int) == 34) = false := c8_not (n := 34) (by decide) (hn.resolve_left (fun h => h h0))
   have ne1 : ((s[n].toNat : Int) != 34) = true := c8_nnot (n := 34) (by decide) (hn.resolve_left (fun h => h h0))
   go_enter Tryz.func122, Tryz.ntmps122
   go_wp2_with fail
   go_ret2
   exact ⟨rfl, Below.refl _ _⟩
  ·have e0 : ((s[0].toNat : Int) == 34) = false := c8_not (n := 34) (by decide) h0
   have ne0 : ((s[0].toNat : Int) != 34) = true := c8_nnot (n := 34) (by decide) h0
   go_enter Tryz.func122, Tryz.ntmps122
   go_wp2_with fail
   go_ret2
   exact ⟨rfl, Below.refl _ _⟩
set_option maxRecDepth 100000 in
theorem unq_go (s : List UInt8) (w : World) (hs : s.length ≤ 1000000) (h2 : 2 ≤ s.length) (h0 : s[0] = 34) (h1 : s[s.length - 1] = 34) :
  Calls Tryz.prog 122 #[.string ⟨s.toArray⟩] w (UnqRet w (unqF (sub s 1 (s.length - 1)))) := by
 have hget := ba_get
 have hext := ba_ext
 obtain ⟨n, hnn⟩ : ∃ n, s.length - 1 = n := ⟨_, rfl⟩
 have hi1 : IntKind.i64.wrap ((s.length : Int) - 1) = (n : Int) := by rw [IntWalk.i64_in _ (by omega)]; omega
 have hn1 : n < s.length := by omega
 have hn0 : 0 < s.length := by omega
 simp only [hnn] at h1 ⊢
 have e0 : ((s[0].toNat : Int) == 34) = true := c8_is (by decide) h0
 have ne0 : ((s[0].toNat : Int) != 34) = false := c8_nis (by decide) h0
 have e1 : ((s[n].toNat : Int) == 34) = true := c8_is (by decide) h1
 have ne1 : ((s[n].toNat : Int) != 34) = false := c8_nis (by decide) h1
 obtain ⟨q, hq⟩ : ∃ q, sub s 1 n = q := ⟨_, rfl⟩
 have hql : q.length ≤ 1000000 := by rw [← hq]; unfold sub; simp; omega
 rw [hq]
 clear h0 h1
 go_enter Tryz.func122, Tryz.ntmps122
 go_wp2_with fail
 try rw [hq]
 go_loopg [4, 5] q.length (fun gk v i wr => ∃ (p : Nat) (b : List UInt8), i = .int .i64 p ∧ Aside (p + gk = q.length) ∧ Aside (UqJ q p b) ∧ Buf w wr v b)
 case atStart => exact ⟨0, [], rfl, by show _ = _; omega, UqJ.start q, Buf.nil w⟩
 case round =>
  obtain ⟨p, b, rfl, AG, AJ, hbuf⟩ := hrel
  have hp := AJ.out.le
  have hbl := AJ.out.num
  clear e0 e1 hi1 ne0 ne1
  by_cases hlt : p < q.length
  ·by_cases h92 : q[p] = 92
   ·have e92 : ((q[p].toNat : Int) == 92) = true := c8_is (by decide) h92
    by_cases hl : p + 1 < q.length
    ·have hne : ((p : Int) + 1 == (q.length : Int)) = false := by rw [beq_eq_false_iff_ne]; omega
     by_cases hok : q[p + 1] = 34 ∨ q[p + 1] = 92
     ·have HJ := Lib.hid (AJ.out.esc hl h92 hok)
      obtain ⟨g, rfl⟩ : ∃ g, gk = g + 2 := ⟨gk - 2, by have := AG.out; omega⟩
      rcases hok with hok | hok
      ·have f34 : ((q[p + 1].toNat : Int) == 34) = true := c8_is (by decide) hok
       have nf34 : ((q[p + 1].toNat : Int) != 34) = false := c8_nis (by decide) hok
       clear AJ h92 hok
       go_wp2_with (at_builtin; refine buf_byte (c := q[p + 1]) rfl _ _ rfl rfl hbuf rfl (by omega) ?_; intro v2 w2 hb2 hg2)
       go_roundg g
       case measure => omega
       case rel => exact ⟨p + 2, _, by go_num, by have := AG.out; show _ = _; omega, HJ.out, hb2⟩
      ·have f34 : ((q[p + 1].toNat : Int) == 34) = false := c8_not (n := 34) (by decide) (by rw [hok]; decide)
       have nf34 : ((q[p + 1].toNat : Int) != 34) = true := c8_nnot (n := 34) (by decide) (by rw [hok]; decide)
       have f92 : ((q[p + 1].toNat : Int) == 92) = true := c8_is (by decide) hok
       have nf92 : ((q[p + 1].toNat : Int) != 92) = false := c8_nis (by decide) hok
       clear AJ h92 hok
       go_wp2_with (at_builtin; refine buf_byte (c := q[p + 1]) rfl _ _ rfl rfl hbuf rfl (by omega) ?_; intro v2 w2 hb2 hg2)
       go_roundg g
       case measure => omega
       case rel => exact ⟨p + 2, _, by go_num, by have := AG.out; show _ = _; omega, HJ.out, hb2⟩
     ·have hR := AJ.out.bad hl h92 (fun h => hok (.inl h)) (fun h => hok (.inr h))
      have f34 : ((q[p + 1].toNat : Int) == 34) = false := c8_not (n := 34) (by decide) (fun h => hok (.inl h))
      have nf34 : ((q[p + 1].toNat : Int) != 34) = true := c8_nnot (n := 34) (by decide) (fun h => hok (.inl h))
      have f92 : ((q[p + 1].toNat : Int) == 92) = false := c8_not (n := 92) (by decide) (fun h => hok (.inr h))
      have nf92 : ((q[p + 1].toNat : Int) != 92) = true := c8_nnot (n := 92) (by decide) (fun h => hok (.inr h))
      have hB := hbuf.below
      have HR := Lib.hid hR
      clear AJ h92 hok hR
      go_wp2_with fail
      go_ret2
      rw [HR.out]
      exact ⟨rfl, hB⟩
    ·have hl2 : p + 1 = q.length := by omega
     have hne : ((p : Int) + 1 == (q.length : Int)) = true := by rw [beq_iff_eq]; omega
     have HR := Lib.hid (AJ.out.last hl2 h92)
     have hB := hbuf.below
     clear AJ h92
     go_wp2_with fail
     go_ret2
     rw [HR.out]
     exact ⟨rfl, hB⟩
   ·have e92 : ((q[p].toNat : Int) == 92) = false := c8_not (n := 92) (by decide) h92
    by_cases h34 : q[p] = 34
    ·have e34 : ((q[p].toNat : Int) == 34) = true := c8_is (by decide) h34
     have HR := Lib.hid (AJ.out.quote hlt h34)
     have hB := hbuf.below
     clear AJ h92 h34
     go_wp2_with fail
     go_ret2
     rw [HR.out]
     exact ⟨rfl, hB⟩
    ·have e34 : ((q[p].toNat : Int) == 34) = false := c8_not (n := 34) (by decide) h34
     have HJ := Lib.hid (AJ.out.plain hlt h92 h34)
     obtain ⟨g, rfl⟩ : ∃ g, gk = g + 1 := ⟨gk - 1, by have := AG.out; omega⟩
     clear AJ h92 h34
     go_wp2_with (at_builtin; refine buf_byte (c := q[p]) rfl _ _ rfl rfl hbuf rfl (by omega) ?_; intro v2 w2 hb2 hg2)
     go_roundg g
     case measure => omega
     case rel => exact ⟨p + 1, _, by go_num, by have := AG.out; show _ = _; omega, HJ.out, hb2⟩
  ·have HR := Lib.hid (AJ.out.done hlt)
   have hst := buf_string hbuf
   have hB := hbuf.below
   clear AJ
   go_wp2
   go_ret2
   rw [HR.out]
   exact ⟨rfl, hB⟩
theorem unquoted_c (s : List UInt8) (w : World) (hs : s.length ≤ 1000000) : Calls Tryz.prog 122 #[.string ⟨s.toArray⟩] w (UnqRet w (unquotedA s)) := by
 by_cases h2 : 2 ≤ s.length
 ·rw [unquotedA_eq h2]
  by_cases h0 : s[0] = 34
  ·by_cases h1 : s[s.length - 1] = 34
   ·rw [if_pos (by rw [h0, h1]; rfl)]
    exact unq_go s w hs h2 h0 h1
   ·rw [if_neg (by intro h; rw [Bool.and_eq_true] at h; exact h1 (by simpa using h.2))]
    exact unq_none s w hs (.inr ⟨h2, .inr h1⟩)
  ·rw [if_neg (by intro h; rw [Bool.and_eq_true] at h; exact h0 (by simpa using h.1))]
   exact unq_none s w hs (.inr ⟨h2, .inl h0⟩)
 ·rw [unquotedA_short (by omega)]
  exact unq_none s w hs (.inl (by omega))
def KindRet (w : World) (o : Option (Nat × List UInt8)) (e : Ending) (w' : World) : Prop := Below w.heap.size w w' ∧ match o with
 | some (k, n) => e = .returned (.tuple #[.int .i64 k, .string ⟨n.toArray⟩, .bool true])
 | none => ∃ (k : Int) (n : List UInt8), e = .returned (.tuple #[.int .i64 k, .string ⟨n.toArray⟩, .bool false])
theorem Cut1_c (s : List UInt8) (w : World) (hw : Env w) (hs : s.length ≤ 1000000) : Calls Tryz.prog 121 #[.string ⟨s.toArray⟩, .string ⟨#[61]⟩] w fun e w' => e = .returned (.tuple #[.string ⟨(s.takeWhile (· != 61)).toArray⟩, .string ⟨(s.dropWhile (· != 61)).tail.toArray⟩, .bool (s.contains 61)]) ∧ Below w.heap.size w w' := by
 obtain ⟨m, hm⟩ := hw.mx
 refine (Tryz.strings_Cut ⟨s.toArray⟩ ⟨#[61]⟩ m w (by show s.length < _; omega) hm).mono ?_
 rintro e w' ⟨rfl, n, rfl⟩
 have hc : Lib.cut s [61] = (s.takeWhile (· != 61), (s.dropWhile (· != 61)).tail, s.contains 61) := cut_one 61 s
 refine ⟨?_, ⟨rfl, rfl, rfl, Nat.le_refl _, fun _ _ => rfl⟩⟩
 show Ending.returned (.tuple #[.string ⟨(Lib.cut s [61]).1.toArray⟩, .string ⟨(Lib.cut s [61]).2.1.toArray⟩, .bool (Lib.cut s [61]).2.2]) = _
 rw [hc]
set_option maxRecDepth 100000 in
theorem kind_c (f : FuncId) (nm : Nat → Bool) (s : List UInt8) (row : List (List UInt8)) (vr : Value) (w : World) (hw : Env w) (hs : s.length ≤ 1000000) (hv : Texts w vr row) (hl : row.length ≤ 1000) (hent : ∀ (args : Array Value) (W : World), (callFunc f args).run Tryz.prog W = .ok (.enter f args) W) (hN : ∀ (k : Nat) W, k < row.length → Calls Tryz.prog f #[.int .i64 k] W fun e w' => e = .returned (.bool (nm k)) ∧ W = w') :
  Calls Tryz.prog 19 #[.string ⟨s.toArray⟩, vr, .func (.func f) #[] #[]] w (KindRet w (kindA s row nm)) := by
 obtain ⟨a, ha⟩ : ∃ a, s.takeWhile (· != 61) = a := ⟨_, rfl⟩
 obtain ⟨q, hq⟩ : ∃ q, (s.dropWhile (· != 61)).tail = q := ⟨_, rfl⟩
 obtain ⟨is, his⟩ : ∃ b, s.contains 61 = b := ⟨_, rfl⟩
 have HC : Hid (Calls Tryz.prog 121 #[.string ⟨s.toArray⟩, .string ⟨#[61]⟩] w fun e w' => e = .returned (.tuple #[.string ⟨a.toArray⟩, .string ⟨q.toArray⟩, .bool is]) ∧ Below w.heap.size w w') := Lib.hid <| by
  have := Cut1_c s w hw hs
  rw [ha, hq, his] at this
  exact this
 have hql : q.length ≤ 1000000 := by
  rw [← hq, List.length_tail]
  have := (List.dropWhile_sublist (p := (· != 61)) (l := s)).length_le
  omega
 have HU := Lib.hid (fun W => unquoted_c q W hql)
 have hI := fun (W : World) (h : Below w.heap.size w W) => IndexS_i a row vr W (hv.below h) (by omega)
 obtain ⟨A, n, c, rfl⟩ := hv.isSlice
 unfold kindA
 rw [ha, hq, his]
 cases hidx : idxOf row a with
 | none =>
  rw [hidx] at hI
  have HI : Hid (∀ W : World, Below w.heap.size w W → Calls Tryz.prog 30 #[.slice A n c, .string ⟨a.toArray⟩] W fun e w' => e = .returned (.int .i64 (-1)) ∧ W = w') := Lib.hid hI
  have HN := Lib.hid (fun W => hN 0 W)
  clear hI ha hq his hN hs hv
  go_enter Tryz.func19, Tryz.ntmps19
  go_wp2_with (first | (go_at_call 121; (with_reducible refine HC.out.mono ?_); rintro e w1 ⟨rfl, hb1⟩) | (go_at_call 30; (with_reducible refine (HI.out _ hb1).mono ?_); rintro e w2 ⟨rfl, rfl⟩) | (go_at_call 122; (with_reducible refine (HU.out _).mono ?_); rintro e w4 ⟨rfl, hb4⟩) | ((with_reducible refine (HN.out _).mono ?_); rintro e w3 ⟨rfl, rfl⟩))
  go_ret3
  exact ⟨hb1, 0, [], rfl⟩
 | some k =>
  rw [hidx] at hI
  have HI : Hid (∀ W : World, Below w.heap.size w W → Calls Tryz.prog 30 #[.slice A n c, .string ⟨a.toArray⟩] W fun e w' => e = .returned (.int .i64 (k : Int)) ∧ W = w') := Lib.hid hI
  have hk : k < row.length := by
   unfold idxOf at hidx
   rw [List.findIdx?_eq_some_iff_getElem] at hidx
   exact hidx.1
  have hN1 := fun W => hN k W hk
  have hk0 : ¬ ((k : Int) < 0) := by omega
  clear hI ha hq his hN hs hv hidx
  simp only
  cases hnm : nm k
  ·rw [hnm] at hN1
   have HN := Lib.hid hN1
   clear hN1
   cases is
   ·go_enter Tryz.func19, Tryz.ntmps19
    go_wp2_with (first | (go_at_call 121; (with_reducible refine HC.out.mono ?_); rintro e w1 ⟨rfl, hb1⟩) | (go_at_call 30; (with_reducible refine (HI.out _ hb1).mono ?_); rintro e w2 ⟨rfl, rfl⟩) | (go_at_call 122; (with_reducible refine (HU.out _).mono ?_); rintro e w4 ⟨rfl, hb4⟩) | ((with_reducible refine (HN.out _).mono ?_); rintro e w3 ⟨rfl, rfl⟩))
    go_ret3
    exact ⟨hb1, rfl⟩
   ·go_enter Tryz.func19, Tryz.ntmps19
    go_wp2_with (first | (go_at_call 121; (with_reducible refine HC.out.mono ?_); rintro e w1 ⟨rfl, hb1⟩) | (go_at_call 30; (with_reducible refine (HI.out _ hb1).mono ?_); rintro e w2 ⟨rfl, rfl⟩) | (go_at_call 122; (with_reducible refine (HU.out _).mono ?_); rintro e w4 ⟨rfl, hb4⟩) | ((with_reducible refine (HN.out _).mono ?_); rintro e w3 ⟨rfl, rfl⟩))
    go_ret3
    exact ⟨hb1, 0, [], rfl⟩
  ·rw [hnm] at hN1
   have HN := Lib.hid hN1
   clear hN1
   cases is
   ·go_enter Tryz.func19, Tryz.ntmps19
    go_wp2_with (first | (go_at_call 121; (with_reducible refine HC.out.mono ?_); rintro e w1 ⟨rfl, hb1⟩) | (go_at_call 30; (with_reducible refine (HI.out _ hb1).mono ?_); rintro e w2 ⟨rfl, rfl⟩) | (go_at_call 122; (with_reducible refine (HU.out _).mono ?_); rintro e w4 ⟨rfl, hb4⟩) | ((with_reducible refine (HN.out _).mono ?_); rintro e w3 ⟨rfl, rfl⟩))
    go_ret3
    exact ⟨hb1, 0, [], rfl⟩
   ·simp only [bne_self_eq_false, Bool.false_eq_true, if_false, if_true]
    have hU := HU.out
    unfold UnqRet at hU
    obtain ⟨U, hUe⟩ : ∃ U, unquotedA q = U := ⟨_, rfl⟩
    rw [hUe] at hU ⊢
    clear HU hUe
    have HU := Lib.hid hU
    clear hU
    cases U
    ·go_enter Tryz.func19, Tryz.ntmps19
     go_wp2_with (first | (go_at_call 121; (with_reducible refine HC.out.mono ?_); rintro e w1 ⟨rfl, hb1⟩) | (go_at_call 30; (with_reducible refine (HI.out _ hb1).mono ?_); rintro e w2 ⟨rfl, rfl⟩) | (go_at_call 122; (with_reducible refine (HU.out _).mono ?_); rintro e w4 ⟨rfl, hb4⟩) | ((with_reducible refine (HN.out _).mono ?_); rintro e w3 ⟨rfl, rfl⟩))
     go_ret3
     exact ⟨hb1.trans (hb4.mono hb1.size), k, [], rfl⟩
    ·go_enter Tryz.func19, Tryz.ntmps19
     go_wp2_with (first | (go_at_call 121; (with_reducible refine HC.out.mono ?_); rintro e w1 ⟨rfl, hb1⟩) | (go_at_call 30; (with_reducible refine (HI.out _ hb1).mono ?_); rintro e w2 ⟨rfl, rfl⟩) | (go_at_call 122; (with_reducible refine (HU.out _).mono ?_); rintro e w4 ⟨rfl, hb4⟩) | ((with_reducible refine (HN.out _).mono ?_); rintro e w3 ⟨rfl, rfl⟩))
     go_ret3
     exact ⟨hb1.trans (hb4.mono hb1.size), rfl⟩
open Go.RowKit
theorem eq_drop {α : Type} [BEq α] [LawfulBEq α] {p q : List α} {k : Nat} (hp : k < p.length) (hq : k < q.length) : (p.drop k == q.drop k) = ((p[k] == q[k]) && (p.drop (k + 1) == q.drop (k + 1))) := by
 rw [List.drop_eq_getElem_cons hp, List.drop_eq_getElem_cons hq]
 rfl
set_option maxRecDepth 10000 in
theorem Depth_c (sv : Value) (x : List UInt8) (w : World) (hw : Env w) :
  Calls Tryz.prog 189 #[sv, .string ⟨x.toArray⟩] w fun e w' => e = .returned (.int .i64 (depthS x)) ∧ Below w.heap.size w w' := by
 have hP := Parse_c x w hw
 unfold depthS
 generalize parseL x = ps at *
 obtain ⟨er, d⟩ := ps
 simp only
 have HP := Lib.hid hP
 clear hP
 by_cases her : er = 0
 ·subst her
  rw [if_pos rfl]
  go_enter Tryz.func189, Tryz.ntmps189
  go_wp2_with (go_at_call 233; refine HP.out.mono ?_; rintro e w1 ⟨hb1, v, rfl, hd⟩; obtain ⟨A0, c0, rfl, hc0⟩ := hd.isSlice)
  go_ret
  exact ⟨rfl, hb1⟩
 ·have hbn : ((er : Int) != 0) = true := bne_iff_ne.2 her
  rw [if_neg her]
  go_enter Tryz.func189, Tryz.ntmps189
  go_wp2_with (go_at_call 233; refine HP.out.mono ?_; rintro e w1 ⟨hb1, v, rfl, hd⟩; obtain ⟨A0, c0, rfl, hc0⟩ := hd.isSlice)
  go_ret
  exact ⟨rfl, hb1⟩
theorem neq_pair (a b : List UInt8 × List UInt8) : (!decide (a.1 = b.1) || !decide (a.2 = b.2)) = !(a == b) := by
 obtain ⟨a1, a2⟩ := a
 obtain ⟨b1, b2⟩ := b
 by_cases h1 : a1 = b1 <;> by_cases h2 : a2 = b2 <;> simp [h1, h2]
set_option maxRecDepth 100000 in
theorem EqualA_c (p q : List (List UInt8 × List UInt8)) (v1 v2 : Value) (w : World) (hv1 : RdnR w v1 p) (hv2 : RdnR w v2 q) (hl1 : p.length ≤ 1000000) (hl2 : q.length ≤ 1000000) :
  Calls Tryz.prog 239 #[v1, v2] w fun e w' => e = .returned (.bool (p == q)) ∧ Below w.heap.size w w' := by
 obtain ⟨A1, c1, rfl, hc1, hx1⟩ := hv1
 obtain ⟨A2, c2, rfl, hc2, hx2⟩ := hv2
 by_cases hlen : p.length = q.length
 ·rw [← hlen]
  obtain ⟨R, hR⟩ : ∃ R, (p == q) = R := ⟨_, rfl⟩
  rw [hR]
  have hself : ((p.length : Int) != (p.length : Int)) = false := by simp
  go_enter Tryz.func239, Tryz.ntmps239
  go_wp2_with fail
  go_loopg [13] p.length (fun gk i wr => ∃ k : Nat, k ≤ p.length ∧ i = .int .i64 k ∧ Aside (k + gk = p.length) ∧ Below w.heap.size w wr ∧ Aside ((p.drop k == q.drop k) = R))
  case atStart => exact ⟨0, by omega, rfl, by show _ = _; omega, Below.refl _ _, hR⟩
  case round =>
   clear hR
   obtain ⟨k, hk, rfl, AG, hB, AR⟩ := hrel
   by_cases hlt : k < p.length
   ·obtain ⟨gq, rfl⟩ : ∃ q, gk = q + 1 := ⟨gk - 1, by have := AG.out; omega⟩
    have hltq : k < q.length := by omega
    obtain ⟨g, o, rfl, hg, hcells⟩ := hx1.resolve_left (by intro h; rw [h] at hlt; simp at hlt)
    obtain ⟨g', o', rfl, hg', hcells'⟩ := hx2.resolve_left (by intro h; rw [h] at hltq; simp at hltq)
    have hp1 := hcells k p[k] (List.getElem?_eq_getElem hlt)
    have hq1 := hcells' k q[k] (List.getElem?_eq_getElem hltq)
    have x0 : wr.cell? ⟨g, o + k * 2, none⟩ = some (.string ⟨p[k].1.toArray⟩) := by rw [Nat.mul_comm]; exact (hB.cell (p := ⟨g, o + 2 * k, none⟩) hg).trans hp1.1
    have x1 : wr.cell? ⟨g, o + k * 2 + 1, none⟩ = some (.string ⟨p[k].2.toArray⟩) := by rw [Nat.mul_comm]; exact (hB.cell (p := ⟨g, o + 2 * k + 1, none⟩) hg).trans hp1.2
    have y0 : wr.cell? ⟨g', o' + k * 2, none⟩ = some (.string ⟨q[k].1.toArray⟩) := by rw [Nat.mul_comm]; exact (hB.cell (p := ⟨g', o' + 2 * k, none⟩) hg').trans hq1.1
    have y1 : wr.cell? ⟨g', o' + k * 2 + 1, none⟩ = some (.string ⟨q[k].2.toArray⟩) := by rw [Nat.mul_comm]; exact (hB.cell (p := ⟨g', o' + 2 * k + 1, none⟩) hg').trans hq1.2
    have hstep := AR.out
    rw [eq_drop hlt hltq] at hstep
    have HST := Lib.hid hstep
    have hneq := neq_ava
    have hN := neq_pair p[k] q[k]
    have HB := Lib.hid hB
    clear hcells hcells' hp1 hq1 hstep AR hB
    go_wp2_with fail
    go_quiet (fail)
    have HBN : Below w.heap.size w (wr.drewN nq) := ⟨HB.out.os, HB.out.tape, HB.out.output, HB.out.size, HB.out.block⟩
    generalize wr.drewN nq = W2 at HBN ⊢
    clear x0 x1 y0 y1 hN hneq
    generalize (p[k] == q[k]) = b at *
    cases b
    ·have hfin : R = false := by rw [← HST.out]; rfl
     have HF := Lib.hid hfin
     clear hfin
     simp only [Bool.not_false]
     go_wp2_with fail
     go_ret
     exact ⟨by rw [HF.out]; try rfl, HBN⟩
    ·have hfin : (p.drop (k + 1) == q.drop (k + 1)) = R := by rw [← HST.out]; rfl
     have HF := Lib.hid hfin
     clear hfin
     simp only [Bool.not_true]
     go_wp2_with fail
     go_roundg gq
     case measure => omega
     case rel => exact ⟨k + 1, by omega, by go_num, by have := AG.out; show _ = _; omega, HBN, HF.out⟩
   ·obtain rfl : k = p.length := by omega
    have hfin : R = true := by rw [← AR.out, List.drop_length, hlen, List.drop_length]; rfl
    have HF := Lib.hid hfin
    clear hfin AR hx1 hx2
    go_wp2_with fail
    go_ret
    exact ⟨by rw [HF.out]; try rfl, hB⟩
 ·have hne : ((p.length : Int) != (q.length : Int)) = true := bne_iff_ne.2 (by omega)
  have hfin : (p == q) = false := by
   rw [beq_eq_false_iff_ne]
   rintro rfl
   exact hlen rfl
  rw [hfin]
  clear hx1 hx2
  go_enter Tryz.func239, Tryz.ntmps239
  go_wp2_with fail
  go_ret
  exact ⟨rfl, Below.refl _ _⟩
set_option maxRecDepth 10000 in
theorem under1_c (p q : List (List UInt8 × List UInt8)) (v1 v2 : Value) (w : World) (hv1 : RdnR w v1 p) (hv2 : RdnR w v2 q) (hl1 : p.length ≤ 1000000) (hl2 : q.length ≤ 1000000) :
  Calls Tryz.prog 238 #[v1, v2] w fun e w' => e = .returned (.bool (p == q)) ∧ Below w.heap.size w w' := by
 have HC := Lib.hid (EqualA_c p q v1 v2 w hv1 hv2 hl1 hl2)
 clear hv1 hv2
 go_enter Tryz.func238, Tryz.ntmps238
 go_wp2_with (go_at_call 239; refine HC.out.mono ?_; rintro e w1 ⟨rfl, hb⟩)
 go_ret
 exact ⟨rfl, hb⟩
set_option maxRecDepth 100000 in
theorem EqualFuncD_c (d f : List (List (List UInt8 × List UInt8))) (v1 v2 : Value) (w : World) (hv1 : DnR w v1 d) (hv2 : DnR w v2 f) (hl1 : d.length ≤ 1000000) (hl2 : f.length ≤ 1000000) (hp1 : ∀ p ∈ d, p.length ≤ 1000000) (hp2 : ∀ p ∈ f, p.length ≤ 1000000) :
  Calls Tryz.prog 237 #[v1, v2, .func (.func 238) #[] #[]] w fun e w' => e = .returned (.bool (d == f)) ∧ Below w.heap.size w w' := by
 obtain ⟨A1, c1, rfl, hc1, hx1⟩ := hv1
 obtain ⟨A2, c2, rfl, hc2, hx2⟩ := hv2
 by_cases hlen : d.length = f.length
 ·rw [← hlen]
  obtain ⟨R, hR⟩ : ∃ R, (d == f) = R := ⟨_, rfl⟩
  rw [hR]
  have hself : ((d.length : Int) != (d.length : Int)) = false := by simp
  have HP1 := Lib.hid hp1
  have HP2 := Lib.hid hp2
  have HLEN := Lib.hid hlen
  clear hp1 hp2 hlen
  go_enter Tryz.func237, Tryz.ntmps237
  go_wp2_with fail
  go_loopg [17] d.length (fun gk i wr => ∃ k : Nat, k ≤ d.length ∧ i = .int .i64 k ∧ Aside (k + gk = d.length) ∧ Below w.heap.size w wr ∧ Aside ((d.drop k == f.drop k) = R))
  case atStart => exact ⟨0, by omega, rfl, by show _ = _; omega, Below.refl _ _, hR⟩
  case round =>
   clear hR
   obtain ⟨k, hk, rfl, AG, hB, AR⟩ := hrel
   by_cases hlt : k < d.length
   ·obtain ⟨gq, rfl⟩ : ∃ q, gk = q + 1 := ⟨gk - 1, by have := AG.out; omega⟩
    have hltq : k < f.length := by have := HLEN.out; omega
    obtain ⟨g, o, rfl, hg, hcells⟩ := hx1.resolve_left (by intro h; rw [h] at hlt; simp at hlt)
    obtain ⟨g', o', rfl, hg', hcells'⟩ := hx2.resolve_left (by intro h; rw [h] at hltq; simp at hltq)
    obtain ⟨pv1, e1, r1⟩ := hcells k d[k] (List.getElem?_eq_getElem hlt)
    obtain ⟨pv2, e2, r2⟩ := hcells' k f[k] (List.getElem?_eq_getElem hltq)
    have x0 : wr.cell? ⟨g, o + k, none⟩ = some pv1 := (hB.cell (p := ⟨g, o + k, none⟩) hg).trans e1
    have y0 : wr.cell? ⟨g', o' + k, none⟩ = some pv2 := (hB.cell (p := ⟨g', o' + k, none⟩) hg').trans e2
    have HC := Lib.hid (under1_c d[k] f[k] pv1 pv2 wr (r1.below hB) (r2.below hB) (HP1.out _ (List.getElem_mem hlt)) (HP2.out _ (List.getElem_mem hltq)))
    obtain ⟨B1, b1, rfl, _⟩ := r1
    obtain ⟨B2, b2, rfl, _⟩ := r2
    have hstep := AR.out
    rw [eq_drop hlt hltq] at hstep
    have HST := Lib.hid hstep
    clear hcells hcells' hstep AR e1 e2
    generalize (d[k] == f[k]) = b at *
    cases b
    ·have hfin : R = false := by rw [← HST.out]; rfl
     have HF := Lib.hid hfin
     clear hfin
     go_wp2_with (go_at_call 238; refine HC.out.mono ?_; rintro e w2 ⟨rfl, hb2⟩)
     go_ret
     exact ⟨by rw [HF.out]; try rfl, hB.trans (hb2.mono hB.size)⟩
    ·have hfin : (d.drop (k + 1) == f.drop (k + 1)) = R := by rw [← HST.out]; rfl
     have HF := Lib.hid hfin
     clear hfin
     go_wp2_with (go_at_call 238; refine HC.out.mono ?_; rintro e w2 ⟨rfl, hb2⟩)
     go_roundg gq
     case measure => omega
     case rel => exact ⟨k + 1, by omega, by go_num, by have := AG.out; show _ = _; omega, hB.trans (hb2.mono hB.size), HF.out⟩
   ·obtain rfl : k = d.length := by omega
    have hfin : R = true := by rw [← AR.out, List.drop_length, HLEN.out, List.drop_length]; rfl
    have HF := Lib.hid hfin
    clear hfin AR hx1 hx2
    go_wp2_with fail
    go_ret
    exact ⟨by rw [HF.out]; try rfl, hB⟩
 ·have hne : ((d.length : Int) != (f.length : Int)) = true := bne_iff_ne.2 (by omega)
  have hfin : (d == f) = false := by
   rw [beq_eq_false_iff_ne]
   rintro rfl
   exact hlen rfl
  rw [hfin]
  clear hx1 hx2
  go_enter Tryz.func237, Tryz.ntmps237
  go_wp2_with fail
  go_ret
  exact ⟨rfl, Below.refl _ _⟩
open Go.RowKit
theorem slice_dn (A : Option Addr) (n c k : Nat) (hk : k ≤ n) (w : World) : (Instr.slice 279 (.slice A n c) (some (.int .i64 (k : Int))) none none).run Tryz.prog w = .ok (.slice (if c = k then A else A.map (·.add (k * 1))) (n - k) (c - k)) w := by
 have h1 : (Instr.sliceBounds true n c (some (.int .i64 k)) none none).run Tryz.prog w = .ok (k, n, c) w := by
  simp [Instr.sliceBounds, run_sliceBound, hk]
 have h2 : (sizeOf 207).run Tryz.prog w = .ok 1 w := by kernel_rfl
 unfold Instr.slice
 simp only [Sem.run_bind, run_underlying Tryz.underlying279, Result.andThen_ok, h1, h2, Sem.run_pure]
theorem add_at (g o j : Nat) : (⟨g, o, none⟩ : Addr).add j = ⟨g, o + j, none⟩ := by unfold Addr.add; split <;> simp_all
theorem DnR.drop {w : World} {A : Option Addr} {n c : Nat} {d : List (List (List UInt8 × List UInt8))} (h : DnR w (.slice A n c) d) (k : Nat) : n = d.length ∧ DnR w (.slice (if c = k then A else A.map (·.add (k * 1))) (n - k) (c - k)) (d.drop k) := by
 obtain ⟨A', c', e, hc, hx⟩ := h
 cases e
 refine ⟨rfl, _, _, by rw [List.length_drop], by rw [List.length_drop]; omega, ?_⟩
 by_cases hk : d.length ≤ k
 ·exact .inl (List.drop_eq_nil_of_le hk)
 ·right
  obtain ⟨g, o, rfl, hg, hcells⟩ := hx.resolve_left (by rintro rfl; simp at hk)
  refine ⟨g, o + k, ?_, hg, fun j p hj => ?_⟩
  ·rw [if_neg (by omega), Option.map_some, add_at]
   simp
  ·rw [List.getElem?_drop] at hj
   have := hcells (k + j) p hj
   rw [← Nat.add_assoc] at this
   exact this
theorem slice_drop {w : World} {A : Option Addr} {n c : Nat} {d : List (List (List UInt8 × List UInt8))} (h : DnR w (.slice A n c) d) (k : Nat) (hk : k ≤ n) : ∃ A', (∀ W, (Instr.slice 279 (.slice A n c) (some (.int .i64 (k : Int))) none none).run Tryz.prog W = .ok (.slice A' (n - k) (c - k)) W) ∧ DnR w (.slice A' (n - k) (c - k)) (d.drop k) :=
 ⟨_, fun W => slice_dn A n c k hk W, (h.drop k).2⟩
theorem parse_small (a : List UInt8) : (parseL a).2.length ≤ 1000000 ∧ ∀ p ∈ (parseL a).2, p.length ≤ 1000000 := by
 by_cases h : (parseL a).1 = 0
 ·have htl := parse_fits (s := a) (d := (parseL a).2) (by rw [← h])
  unfold tooLongL at htl
  rw [Bool.or_eq_false_iff] at htl
  refine ⟨by have := htl.1; simp at this; omega, fun p hp => ?_⟩
  have h1 := List.any_eq_false.1 htl.2 p hp
  unfold rdnLongB at h1
  simp only [Bool.or_eq_true, decide_eq_true_eq, not_or] at h1
  omega
 ·have : (parseL a).2 = [] := by
   unfold parseL at h ⊢
   split
   ·rfl
   ·next h1 =>
    rw [if_neg h1] at h
    split
    ·rfl
    ·next d hd =>
     rw [hd] at h
     simp only at h
     split
     ·rfl
     ·next h2 => rw [if_neg h2] at h; exact absurd rfl h
  rw [this]
  simp
set_option maxRecDepth 10000 in
theorem Under_c (sv : Value) (a b : List UInt8) (w : World) (hw : Env w) :
  Calls Tryz.prog 188 #[sv, .string ⟨a.toArray⟩, .string ⟨b.toArray⟩] w fun e w' => e = .returned (.bool (underS a b)) ∧ Below w.heap.size w w' := by
 have hPa := Parse_c a w hw
 have hPb := fun (W : World) (h : Below w.heap.size w W) => Parse_c b W (hw.keep h)
 have hla : (parseL a).2.length ≤ 1000000 ∧ ∀ p ∈ (parseL a).2, p.length ≤ 1000000 := parse_small a
 have hlb : (parseL b).2.length ≤ 1000000 ∧ ∀ p ∈ (parseL b).2, p.length ≤ 1000000 := parse_small b
 unfold underS
 generalize parseL a = pa at *
 generalize parseL b = pb at *
 obtain ⟨ea, da⟩ := pa
 obtain ⟨eb, db⟩ := pb
 simp only at hla hlb ⊢
 have HPa := Lib.hid hPa
 have HPb := Lib.hid hPb
 have HLA := Lib.hid hla.2
 have HLB := Lib.hid hlb.2
 have la := hla.1
 have lb := hlb.1
 have hmf : ∀ (fn : Fn) (first cap : Array Value) (w : World), (Instr.makeFunc fn first cap).run Tryz.prog w = .ok (.func fn first cap) w := fun _ _ _ _ => rfl
 clear hPa hPb hla hlb hw
 by_cases he : ea = 0
 ·subst he
  by_cases hf : eb = 0
  ·subst hf
   by_cases hl : db.length ≤ da.length
   ·rw [decide_eq_true hl]
    show Calls _ _ _ _ fun e w' => e = .returned (.bool (da.drop (da.length - db.length) == db)) ∧ _
    have hnl : ¬ (da.length : Int) < (db.length : Int) := by omega
    have hsub : IntKind.i64.wrap ((da.length : Int) - (db.length : Int)) = ((da.length - db.length : Nat) : Int) := by rw [IntWalk.i64_in _ (by omega)]; omega
    have hdl : (da.drop (da.length - db.length)).length ≤ 1000000 := by rw [List.length_drop]; omega
    have HDP : Hid (∀ p ∈ da.drop (da.length - db.length), p.length ≤ 1000000) := Lib.hid fun p hp => HLA.out p (List.mem_of_mem_drop hp)
    obtain ⟨k, hk⟩ : ∃ k, da.length - db.length = k := ⟨_, rfl⟩
    have hkl : k ≤ da.length := by omega
    rw [hk] at hsub hdl HDP ⊢
    clear hk
    have HEQ : Hid (∀ (v1 v2 : Value) (W : World), DnR W v1 (da.drop k) → DnR W v2 db → Calls Tryz.prog 237 #[v1, v2, .func (.func 238) #[] #[]] W fun e w' => e = .returned (.bool (da.drop k == db)) ∧ Below W.heap.size W w') := Lib.hid fun v1 v2 W h1 h2 => EqualFuncD_c _ _ v1 v2 W h1 h2 hdl lb HDP.out HLB.out
    generalize (da.drop k == db) = R at HEQ ⊢
    go_enter Tryz.func188, Tryz.ntmps188
    go_wp2_with (first | (go_at_call 233; (with_reducible refine HPa.out.mono ?_); rintro e w1 ⟨hb1, v1, rfl, hd1⟩; obtain ⟨A1, c1, rfl, hc1⟩ := hd1.isSlice; obtain ⟨B1, hsl, hdr⟩ := slice_drop hd1.reads k hkl; have HDR := Lib.hid hdr; clear hdr) | (go_at_call 233; (with_reducible refine (HPb.out _ hb1).mono ?_); rintro e w2 ⟨hb2, v2, rfl, hd2⟩; obtain ⟨A2, c2, rfl, hc2⟩ := hd2.isSlice; have HR2 := Lib.hid hd2.reads; have hB2 := hb1.trans (hb2.mono hb1.size)) | (go_at_call 237; refine (HEQ.out _ _ _ (HDR.out.below hb2) HR2.out).mono ?_; rintro e w3 ⟨rfl, hb3⟩))
    all_goals
     go_ret
     exact ⟨rfl, hB2.trans (hb3.mono hB2.size)⟩
   ·rw [decide_eq_false hl]
    have hnl : (da.length : Int) < (db.length : Int) := by omega
    go_enter Tryz.func188, Tryz.ntmps188
    go_wp2_with (first | (go_at_call 233; (with_reducible refine HPa.out.mono ?_); rintro e w1 ⟨hb1, v1, rfl, hd1⟩; obtain ⟨A1, c1, rfl, hc1⟩ := hd1.isSlice) | (go_at_call 233; (with_reducible refine (HPb.out _ hb1).mono ?_); rintro e w2 ⟨hb2, v2, rfl, hd2⟩; obtain ⟨A2, c2, rfl, hc2⟩ := hd2.isSlice; have hB2 := hb1.trans (hb2.mono hb1.size)))
    all_goals
     go_ret
     exact ⟨rfl, hB2⟩
  ·have hbn : ((eb : Int) != 0) = true := bne_iff_ne.2 hf
   have hbe : (eb == 0) = false := beq_eq_false_iff_ne.2 hf
   have hfin : ((0 : Int) == 0 && eb == 0 && decide (db.length ≤ da.length) && (da.drop (da.length - db.length) == db)) = false := by rw [hbe]; rfl
   rw [hfin]
   clear hfin hbe
   go_enter Tryz.func188, Tryz.ntmps188
   go_wp2_with (first | (go_at_call 233; (with_reducible refine HPa.out.mono ?_); rintro e w1 ⟨hb1, v1, rfl, hd1⟩; obtain ⟨A1, c1, rfl, hc1⟩ := hd1.isSlice) | (go_at_call 233; (with_reducible refine (HPb.out _ hb1).mono ?_); rintro e w2 ⟨hb2, v2, rfl, hd2⟩; obtain ⟨A2, c2, rfl, hc2⟩ := hd2.isSlice; have hB2 := hb1.trans (hb2.mono hb1.size)))
   all_goals
    go_ret
    exact ⟨rfl, hB2⟩
 ·have hbn : ((ea : Int) != 0) = true := bne_iff_ne.2 he
  have hbe : (ea == 0) = false := beq_eq_false_iff_ne.2 he
  have hfin : (ea == 0 && eb == 0 && decide (db.length ≤ da.length) && (da.drop (da.length - db.length) == db)) = false := by rw [hbe]; rfl
  rw [hfin]
  clear hfin hbe
  go_enter Tryz.func188, Tryz.ntmps188
  go_wp2_with (first | (go_at_call 233; (with_reducible refine HPa.out.mono ?_); rintro e w1 ⟨hb1, v1, rfl, hd1⟩; obtain ⟨A1, c1, rfl, hc1⟩ := hd1.isSlice) | (go_at_call 233; (with_reducible refine (HPb.out _ hb1).mono ?_); rintro e w2 ⟨hb2, v2, rfl, hd2⟩; obtain ⟨A2, c2, rfl, hc2⟩ := hd2.isSlice; have hB2 := hb1.trans (hb2.mono hb1.size)))
  all_goals
   go_ret
   exact ⟨rfl, hB2⟩
open Go.RowKit
theorem joinL_eq (sep : List UInt8) : ∀ xs : List (List UInt8), joinL sep xs = Lib.join xs sep
 | [] => rfl
 | [x] => by simp [joinL, Lib.join, List.intercalate]
 | x :: y :: t => by
  have ih := joinL_eq sep (y :: t)
  rw [joinL, ih]
  unfold Lib.join
  simp [List.intercalate, List.intersperse]
structure AclLim (r : RuleS) : Prop where
 name : r.name.length ≤ 2000000
 nattrs : r.attrs.length ≤ 1048576
 attrs : (joinL [44] r.attrs).length ≤ 4000000
 ngrants : r.grants.length ≤ 1000000
 grants : ∀ g ∈ r.grants, g.name.length ≤ 2000000
theorem attr_in_join : ∀ (xs : List (List UInt8)) (x : List UInt8), x ∈ xs → x.length ≤ (joinL [44] xs).length
 | [y], x, h => by rw [List.mem_singleton.1 h]; exact Nat.le_refl _
 | y :: z :: t, x, h => by
  rw [joinL]
  simp only [List.length_append]
  rcases List.mem_cons.1 h with rfl | h
  ·omega
  ·have := attr_in_join (z :: t) x h
   omega
theorem Join_at (b o c : Nat) (xs : List (List UInt8)) (sep : List UInt8) (w : World) (hcell : ∀ j (hj : j < xs.length), w.cell? ⟨b, o + j, none⟩ = some (.string ⟨xs[j].toArray⟩)) (hlt : b < w.heap.size) (hc : xs.length ≤ c) (hn : xs.length ≤ 1000000 * 4) (hl : (Lib.join xs sep).length ≤ 140737488355328) :
  Calls Tryz.prog 110 #[.slice (some ⟨b, o, none⟩) xs.length c, .string ⟨sep.toArray⟩] w fun e w' => e = .returned (.string ⟨(Lib.join xs sep).toArray⟩) ∧ Below w.heap.size w w' := by
 have e1 : (xs.map fun x => (⟨x.toArray⟩ : ByteArray)).map (·.data.toList) = xs := by rw [List.map_map]; exact (List.map_congr_left fun x _ => rfl).trans (List.map_id _)
 have h := Tryz.strings_Join b o c (xs.map fun x => ⟨x.toArray⟩) ⟨sep.toArray⟩ w (fun j x hj => by
  have hjl : j < xs.length := by simpa using (List.getElem?_eq_some_iff.1 hj).1
  rw [hcell j hjl]
  simp [hjl] at hj
  rw [← hj]) hlt (by simp; omega) (by simpa using hc) (by rw [e1]; exact hl)
 rw [e1, List.length_map] at h
 exact h
theorem JoinB_c (xs : List (List UInt8)) (sep : List UInt8) (v : Value) (w : World) (hT : TextsA w v xs) (hn : xs.length ≤ 1000000 * 4) (hl : (joinL sep xs).length ≤ 140737488355328) :
  Calls Tryz.prog 110 #[v, .string ⟨sep.toArray⟩] w fun e w' => e = .returned (.string ⟨(joinL sep xs).toArray⟩) ∧ Below w.heap.size w w' := by
 rw [joinL_eq] at hl ⊢
 rcases hT with ⟨rfl, rfl⟩ | ⟨a, c, rfl, hc, hcell⟩
 ·exact Join_c [] sep _ w (.inl ⟨rfl, rfl⟩) (by simp) hl
 ·cases xs with
  | nil =>
   refine (Tryz.strings_Join_none (some a) c ⟨sep.toArray⟩ w).mono ?_
   rintro e w' ⟨rfl, rfl⟩
   exact ⟨rfl, Below.refl _ _⟩
  | cons x t =>
   obtain ⟨b, o, sp⟩ := a
   have h0 := hcell 0 (by simp)
   have hsp : sp = none := by
    have h0' : w.cell? ⟨b, o, sp⟩ = some (.string ⟨x.toArray⟩) := by simpa [Addr.add] using h0
    cases sp with
    | none => rfl
    | some q =>
     unfold World.cell? at h0'
     split at h0' <;> simp at h0'
   subst hsp
   have hadd : ∀ j, (⟨b, o, none⟩ : Addr).add j = ⟨b, o + j, none⟩ := fun j => add_at b o j
   have := Join_at b o c (x :: t) sep w (fun j hj => by rw [← hadd]; exact hcell j hj) (cell_lt (by rw [hadd] at h0; exact h0)) hc hn hl
   exact this
theorem JoinA_c (xs : List (List UInt8)) (sep : List UInt8) (v : Value) (w : World) (hT : TextsA w v xs) (hn : xs.length ≤ 1048576) (hl : (joinL sep xs).length ≤ 140737488355328) :
  Calls Tryz.prog 110 #[v, .string ⟨sep.toArray⟩] w fun e w' => e = .returned (.string ⟨(joinL sep xs).toArray⟩) ∧ Below w.heap.size w w' := JoinB_c xs sep v w hT (by omega) hl
theorem own_set {B : Nat} {w : World} {g c : Nat} {xs : List (List UInt8)} {n : Nat} (h : Own B w (.slice (some ⟨g, 0, none⟩) n c) xs) {j : Nat} (hj : j < xs.length) (x : List UInt8) : Own B (w.setCell ⟨g, j, none⟩ (.string ⟨x.toArray⟩)) (.slice (some ⟨g, 0, none⟩) n c) (xs.set j x) := by
 obtain ⟨⟨h1, h2⟩, h3⟩ := h
 refine ⟨⟨by simpa using h1, ?_⟩, by simpa [World.setCell] using h3⟩
 rcases h2 with ⟨h2, _⟩ | ⟨g', cap, cur, e, r2, r3, r4, r5, r6, r7⟩
 ·cases h2
 ·cases e
  have hB : Bk w g 9 cur := r3
  refine .inr ⟨g, c, cur.setIfInBounds j (.string ⟨x.toArray⟩), by simp, r2, hB.set j _, by simpa using r4, r5, by simpa using r6, ?_⟩
  rw [List.length_set, Array.toList_setIfInBounds, List.take_set, r7]
  simp [strV]
open Go.RowKit
section
variable {P : Program} {κ : Type} [DecidableEq κ]
end
structure NmOK (L : List DefS) (l : List (List UInt8)) : Prop where
 nodup : l.Nodup
 of : ∀ x ∈ l, x ∈ L.map DefS.name
theorem NmOK.add {L : List DefS} {l : List (List UInt8)} (h : NmOK L l) {e : DefS} (he : e ∈ L) (hc : l.contains e.name = false) : NmOK L (l ++ [e.name]) := by
 refine ⟨?_, ?_⟩
 ·rw [List.nodup_append]
  refine ⟨h.nodup, by simp, fun a ha b hb => ?_⟩
  have hb' : b = e.name := by simpa using hb
  subst hb'
  rintro rfl
  rw [List.contains_iff_mem.2 ha] at hc
  cases hc
 ·intro x hx
  rcases List.mem_append.1 hx with hx | hx
  ·exact h.of x hx
  ·rw [List.mem_singleton.1 hx]
   exact List.mem_map_of_mem he
open Go.RowKit
structure RowS (w : World) (g : Nat) (l : List (List UInt8)) : Prop where
 bk : ∃ cs, Bk w g 9 cs
 at_ : ∀ j x, l[j]? = some x → w.cell? ⟨g, j, none⟩ = some (.string ⟨x.toArray⟩) ∧ w.frozen? ⟨g, j, none⟩ = false
theorem RowS.lt {w : World} {g : Nat} {l : List (List UInt8)} (h : RowS w g l) : g < w.heap.size := by
 obtain ⟨cs, hb⟩ := h.bk
 exact hb.lt
theorem Own.row {B : Nat} {w : World} {v : Value} {xs : List (List UInt8)} (h : Own B w v xs) : (v = .slice none 0 0 ∧ xs = []) ∨ ∃ g c, v = .slice (some ⟨g, 0, none⟩) xs.length c ∧ xs.length ≤ c ∧ B ≤ g ∧ v.ownBlock = some g ∧ RowS w g xs := by
 obtain ⟨⟨h1, h2⟩, _⟩ := id h
 rcases h2 with ⟨rfl, hn⟩ | ⟨g, cap, cur, rfl, r2, r3, r4, r5, r6, r7⟩
 ·exact .inl ⟨rfl, List.eq_nil_of_length_eq_zero hn⟩
 ·refine .inr ⟨g, cap, rfl, r4, r2, rfl, ⟨cur, r3⟩, fun j x hj => ?_⟩
  have hjl : j < xs.length := (List.getElem?_eq_some_iff.1 hj).1
  have hc : (cur.toList.take (xs.length * 1))[j]? = some (strV x) := by rw [r7]; simp [hj]
  rw [List.getElem?_take] at hc
  constructor
  ·simp only [World.cell?, r3]
   simpa [hjl, strV] using hc
  ·have hB : Bk w g 9 cur := r3
   exact hB.frozen j
theorem RowS.grown {w w' : World} {g : Nat} {l : List (List UInt8)} (h : RowS w g l) {r : Option Nat} (hg : w.grownBy w' r) (hr : r ≠ some g) : RowS w' g l := by
 have hb := hg.block g h.lt (fun e => hr e.symm)
 obtain ⟨cs, hk⟩ := h.bk
 refine ⟨⟨cs, hb.trans hk⟩, fun j x hj => ?_⟩
 have := h.at_ j x hj
 simp only [World.cell?, World.frozen?, hb] at this ⊢
 exact this
end Go.Proofs.YtbjmpmgiigombaaGreatDoor
