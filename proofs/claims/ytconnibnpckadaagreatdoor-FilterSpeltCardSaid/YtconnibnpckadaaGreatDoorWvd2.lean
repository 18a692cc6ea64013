import Derived.Test.YtconnibnpckadaaGreatDoorWvd1
set_option linter.all false
set_option maxHeartbeats 8000000
set_option maxRecDepth 100000
namespace Go.Proofs.YtconnibnpckadaaGreatDoor
open Go.RowKit
def pAt (ps : List Nat) (i : Nat) : Nat := ps.getD i 0
theorem pAt_get {ps : List Nat} {i : Nat} (h : i < ps.length) : ps[i]? = some (pAt ps i) := by
 unfold pAt
 rw [List.getD_eq_getElem?_getD, List.getElem?_eq_getElem h]
 rfl
theorem pAt_inj {ps : List Nat} (hn : ps.Nodup) {i j : Nat} (hi : i < ps.length) (hj : j < ps.length) (h : pAt ps i = pAt ps j) : i = j := by
 have h1 := pAt_get hi
 have h2 := pAt_get hj
 rw [h] at h1
 exact (List.getElem?_inj hi hn).1 (h1.trans h2.symm)
theorem SchAt.defAt {w : World} {s : Nat} {ps : List Nat} {L : List DefS} (h : SchAt w s ps L) {i : Nat} {d : DefS} (hd : L[i]? = some d) : DefAt w (pAt ps i) d :=
 h.defs i _ d (pAt_get (by rw [h.len]; exact (List.getElem?_eq_some_iff.1 hd).1)) hd
theorem SchAt.bkAt {w : World} {s : Nat} {ps : List Nat} {L : List DefS} (h : SchAt w s ps L) {i : Nat} (hi : i < L.length) : ∃ cs, Bk w (pAt ps i) 84 cs := by
 obtain ⟨vn, vs, vm, vy, hB⟩ := (h.defAt (List.getElem?_eq_getElem hi)).bk
 exact ⟨_, hB⟩
theorem contains_map {ps : List Nat} (hn : ps.Nodup) {l : List Nat} (hl : ∀ v ∈ l, v < ps.length) {i : Nat} (hi : i < ps.length) : (l.map (pAt ps)).contains (pAt ps i) = l.contains i := by
 rw [Bool.eq_iff_iff, List.contains_iff_mem, List.contains_iff_mem, List.mem_map]
 constructor
 ·rintro ⟨j, hj, he⟩
  rw [← pAt_inj hn (hl j hj) hi he]
  exact hj
 ·intro h
  exact ⟨i, h, rfl⟩
def AbRet (B : Nat) (w : World) (ps : List Nat) (R : List Nat) (e : Ending) (w' : World) : Prop := Below B w w' ∧ ∃ v, e = .returned v ∧ OwnP B w' v (R.map (pAt ps))
theorem eqPtrs_at {w0 w : World} {s : Nat} {ps : List Nat} {L : List DefS} (hS : SchAt w0 s ps L) (hb : Below w0.heap.size w0 w) {i : Nat} (hi : i < L.length) {l : List Nat} (hl : ∀ v ∈ l, v < L.length) : eqPtrs w (pAt ps i) (l.map (pAt ps)) := by
 intro q hq
 obtain ⟨j, hj, rfl⟩ := List.mem_map.1 hq
 obtain ⟨ci, hbi⟩ := hS.bkAt hi
 obtain ⟨cj, hbj⟩ := hS.bkAt (hl j hj)
 exact eql_def (hbi.below hb) (hbj.below hb)
def upF6 (L : List DefS) (n : Nat) (c : Bool) (l : List Nat) (nm : List UInt8) : List Nat := match findD L c nm with
 | none => l
 | some j => aboveF L n j l
theorem aboveF_up {L : List DefS} {i : Nat} {d : DefS} (n : Nat) (l : List Nat) (hd : L[i]? = some d) : aboveF L (n + 1) i l = if l.contains i then l else d.sup.foldl (upF6 L n d.cls) (l ++ [i]) := by
 rw [aboveF, hd]
 rfl
structure UJ (L : List DefS) (n : Nat) (d : DefS) (w0 : World) (ps : List Nat) (len : Nat) (R : List Nat) (k : Nat) (v : Value) (wr : World) (acc : List Nat) : Prop where
 own : OwnP w0.heap.size wr v (acc.map (pAt ps))
 bel : Below w0.heap.size w0 wr
 nodup : acc.Nodup
 lt : ∀ x ∈ acc, x < L.length
 more : len ≤ acc.length
 rest : (d.sup.drop k).foldl (upF6 L n d.cls) acc = R
set_option maxRecDepth 100000 in
theorem above_c (w0 : World) (s : Nat) (ps : List Nat) (L : List DefS) (hS : SchAt w0 s ps L) (hlim : ∀ d ∈ L, DefLim d) (hN : L.length ≤ 1000) (hk : ∀ d ∈ L, ∀ n ∈ d.sup, (findD L d.cls n).isSome = true) :
  ∀ (n i : Nat) (l : List Nat) (v : Value) (w : World), Below w0.heap.size w0 w → l.Nodup → (∀ x ∈ l, x < L.length) → i < L.length → L.length + 1 ≤ n + l.length → OwnP w0.heap.size w v (l.map (pAt ps)) →
  Calls Tryz.prog 45 #[ptrV s, ptrV (pAt ps i), v] w (AbRet w0.heap.size w ps (aboveF L n i l)) := by
 intro n
 induction n with
 | zero =>
  intro i l v w hb hn hl hi hf ho
  have := nodup_bound _ l hn hl
  omega
 | succ n ih =>
  intro i l v w hb hn hl hi hf ho
  have hll := nodup_bound _ l hn hl
  have HC := Lib.hid (ContainsP_c (pAt ps i) (l.map (pAt ps)) v w ho.reads (by simp; omega) (eqPtrs_at hS hb hi hl))
  rw [contains_map hS.nodup (fun x hx => by rw [hS.len]; exact hl x hx) (by rw [hS.len]; exact hi)] at HC
  have HO := Lib.hid ho
  obtain ⟨A, c, rfl, hc⟩ := ho.isSlice
  have IH := Lib.hid ih
  have HB := Lib.hid hb
  clear ih ho hb
  unfold ptrV at HC IH ⊢
  simp only [List.length_map] at HC HO hc ⊢
  have hdL : L[i]? = some L[i] := List.getElem?_eq_getElem hi
  obtain ⟨d, hd⟩ : ∃ d, L[i]? = some d := ⟨_, hdL⟩
  rw [aboveF_up n l hd]
  cases hcon : l.contains i
  ·have hcn := hcon
   rw [hcon] at HC
   have hmem : d ∈ L := List.mem_of_getElem? hd
   have hdf := hS.defAt hd
   simp only [Bool.false_eq_true, if_false]
   obtain ⟨vn, vs, vm, vy, hBK, _, ht, _⟩ := id hdf
   obtain ⟨As, ns, cs, rfl⟩ := ht.isSlice
   obtain ⟨rfl, hcs⟩ := texts_len ht
   obtain ⟨R, hR⟩ : ∃ R, d.sup.foldl (upF6 L n d.cls) (l ++ [i]) = R := ⟨_, rfl⟩
   rw [hR]
   have hsl := (hlim d hmem).sup
   have HT := Lib.hid ht
   have HBK := Lib.hid hBK
   have hni : i ∉ l := by
    intro h
    rw [List.contains_iff_mem.2 h] at hcn
    cases hcn
   have HNI := Lib.hid hni
   have hpl : (l.map (pAt ps)).length < 4398046511104 := by simp; omega
   have HR1 := Lib.hid hR
   clear hR hdL hBK ht hdf hni hcn hcon
   go_enter Tryz.func45, Tryz.ntmps45
   go_wp2_with (first | (go_at_call 90; refine HC.out.mono ?_; rintro e w1 ⟨rfl, rfl⟩) | (at_builtin; refine ptr_one (v := .slice A l.length c) (p := pAt ps i) rfl _ _ rfl rfl HO.out rfl rfl hpl ?_; intro v2 w2 hO2 hg2; have hb2 := OwnP.bel (HB.out.mono (Nat.le_refl _)) HO.out hg2; have hB2 := HBK.out.below hb2; have c3 : w2.cell? ⟨pAt ps i, 3, none⟩ = some (.slice As d.sup.length cs) := hB2.cell 3; have c0 : w2.cell? ⟨pAt ps i, 0, none⟩ = some (.bool d.cls) := hB2.cell 0))
   have hb2' : Below w0.heap.size w w2 := OwnP.bel (Below.refl _ _) HO.out hg2
   have hJ0 : UJ L n d w0 ps (l.length + 1) R 0 v2 w2 (l ++ [i]) := by
    refine ⟨by rw [List.map_append]; exact hO2, hb2, ?_, ?_, by simp, HR1.out⟩
    ·rw [List.nodup_append]
     refine ⟨hn, by simp, fun a ha b hb => ?_⟩
     have : b = i := by simpa using hb
     subst this
     rintro rfl
     exact HNI.out ha
    ·intro x hx
     rcases List.mem_append.1 hx with h | h
     ·exact hl x h
     ·have : x = i := by simpa using h
      omega
   have HJ0 := Lib.hid (And.intro hJ0 hb2')
   clear hJ0 hb2' hb2 hO2 hg2 hB2 c0 HR1 HNI HO HC
   go_loopg [2, 22] d.sup.length (fun gk v i2 wr => ∃ (k : Nat) (acc : List Nat), k ≤ d.sup.length ∧ i2 = .int .i64 k ∧ Aside (k + gk = d.sup.length) ∧ Aside (UJ L n d w0 ps (l.length + 1) R k v wr acc) ∧ Aside (Below w0.heap.size w wr))
   case atStart => exact ⟨0, l ++ [i], Nat.zero_le _, rfl, by show _ = _; omega, HJ0.out.1, HJ0.out.2⟩
   case round =>
    clear HJ0
    obtain ⟨k, acc, hk2, rfl, AG, AJ, AB⟩ := hrel
    by_cases hlt : k < d.sup.length
    ·obtain ⟨q, rfl⟩ : ∃ q, gk = q + 1 := ⟨gk - 1, by have := AG.out; omega⟩
     obtain ⟨g, rfl, ck⟩ := texts_at (HT.out.below AJ.out.bel) hlt
     have hB2 := HBK.out.below AJ.out.bel
     have c0 : wr.cell? ⟨pAt ps i, 0, none⟩ = some (.bool d.cls) := hB2.cell 0
     have hkn := hk d hmem d.sup[k] (List.getElem_mem hlt)
     obtain ⟨j, hj⟩ := Option.isSome_iff_exists.1 hkn
     have hF := find_c s ps L d.cls d.sup[k] wr (hS.below AJ.out.bel) (hsl.2 _ (List.getElem_mem hlt))
     rw [hj] at hF
     have HF : Hid (Calls Tryz.prog 42 #[.pointer (some ⟨s, 0, none⟩), .bool d.cls, .string ⟨d.sup[k].toArray⟩] wr fun e w' => e = .returned (.pointer (some ⟨pAt ps j, 0, none⟩)) ∧ Below wr.heap.size wr w') := Lib.hid hF
     have hj2 := findD_lt hj
     have hfuel : L.length + 1 ≤ n + acc.length := by have := AJ.out.more; omega
     have hA := aboveF_says L n j acc AJ.out.nodup AJ.out.lt hj2 hfuel
     have HA := Lib.hid hA
     have hrest := AJ.out.rest
     rw [List.drop_eq_getElem_cons hlt, List.foldl_cons, show upF6 L n d.cls acc d.sup[k] = aboveF L n j acc by unfold upF6; rw [hj]] at hrest
     have HRS := Lib.hid hrest
     clear hA hrest hF hB2 hkn hj
     go_wp2_with (first | (go_at_call 42; refine HF.out.mono ?_; rintro e w3 ⟨rfl, hb3⟩) | (go_at_call 45; refine (IH.out j acc u2 _ (AJ.out.bel.trans (hb3.mono AJ.out.bel.size)) AJ.out.nodup AJ.out.lt hj2 hfuel (AJ.out.own.below hb3)).mono ?_; rintro e w4 ⟨hb4, v4, rfl, hO4⟩))
     go_roundg q
     case measure => omega
     case rel =>
      refine ⟨k + 1, aboveF L n j acc, by omega, by go_num, by have := AG.out; show _ = _; omega, ?_, ?_⟩
      ·obtain ⟨⟨t1, ht1⟩, h2, h3, _⟩ := HA.out
       have hb5 := (AJ.out.bel.trans (hb3.mono AJ.out.bel.size)).trans hb4
       exact (⟨hO4, hb5, h2, h3, by have := AJ.out.more; rw [ht1]; simp; omega, HRS.out⟩ : UJ L n d w0 ps (l.length + 1) R (k + 1) v4 w4 (aboveF L n j acc))
      ·exact (AB.out.trans (hb3.mono AJ.out.bel.size)).trans hb4
    ·obtain rfl : k = d.sup.length := by omega
     have hR2 : R = acc := by rw [← AJ.out.rest, List.drop_length]; rfl
     have HR2 := Lib.hid hR2
     clear hR2
     go_wp2_with fail
     go_ret
     rw [HR2.out]
     exact ⟨AB.out, _, rfl, AJ.out.own⟩
  ·rw [hcon] at HC
   simp only [if_true]
   go_enter Tryz.func45, Tryz.ntmps45
   go_wp2_with (go_at_call 90; refine HC.out.mono ?_; rintro e w1 ⟨rfl, rfl⟩)
   go_ret
   exact ⟨Below.refl _ _, _, rfl, HO.out⟩
open Go.RowKit
theorem ptr_beq {ps : List Nat} (hn : ps.Nodup) {i j : Nat} (hi : i < ps.length) (hj : j < ps.length) : (pAt ps j == pAt ps i) = (j == i) := by
 by_cases h : j = i
 ·subst h; simp
 ·have : pAt ps j ≠ pAt ps i := fun e => h (pAt_inj hn hj hi e)
  rw [beq_eq_false_iff_ne.2 this, beq_eq_false_iff_ne.2 h]
theorem eql_nil_def (w : World) (q : Nat) : (binOp .eql 59 (.pointer none) (.pointer (some ⟨q, 0, none⟩))).run Tryz.prog w = .ok (.bool false) w := by
 obtain ⟨j, h1, h2⟩ := infoDef
 have hp := Tryz.underlying59
 have h : ∀ d : Nat, (Op.equalIn (d + 1) 59 (.pointer none) (.pointer (some ⟨q, 0, none⟩))).run Tryz.prog w = .ok false w := fun d => by
  simp [Op.equalIn, run_underlying hp]
 simp only [binOp]
 simp [Op.equal, Op.maxDepth, h 9999]
set_option maxRecDepth 100000 in
theorem leads_c (bs bd s i : Nat) (ps : List Nat) (L : List DefS) (d : DefS) (n : List UInt8) (w : World) (hS : SchAt w s ps L) (hd : L[i]? = some d) (h1 : w.cell? ⟨bs, 0, none⟩ = some (ptrV s)) (h2 : w.cell? ⟨bd, 0, none⟩ = some (ptrV (pAt ps i))) (hn : n.length ≤ 1000000) :
  Calls Tryz.prog 47 #[.string ⟨n.toArray⟩, ptrV bs, ptrV bd] w fun e w' => e = .returned (.bool (findD L d.cls n == some i)) ∧ Below w.heap.size w w' := by
 have hi : i < L.length := (List.getElem?_eq_some_iff.1 hd).1
 have HF0 := fun (W : World) (hb : Below w.heap.size w W) => find_c s ps L d.cls n W (hS.below hb) hn
 have h1' : w.cell? ⟨bs, 0, none⟩ = some (.pointer (some ⟨s, 0, none⟩)) := h1
 have h2' : w.cell? ⟨bd, 0, none⟩ = some (.pointer (some ⟨pAt ps i, 0, none⟩)) := h2
 obtain ⟨vn, vs, vm, vy, hB⟩ := (hS.defAt hd).bk
 have c0 : w.cell? ⟨pAt ps i, 0, none⟩ = some (.bool d.cls) := hB.cell 0
 have HK := Lib.hid (fun (W : World) (hb : Below w.heap.size w W) => (⟨(hb.cell (p := ⟨bs, 0, none⟩) (cell_lt h1)).trans h1', (hb.cell (p := ⟨bd, 0, none⟩) (cell_lt h2)).trans h2', (hb.cell (p := ⟨pAt ps i, 0, none⟩) (cell_lt c0)).trans c0⟩ : W.cell? ⟨bs, 0, none⟩ = some (.pointer (some ⟨s, 0, none⟩)) ∧ W.cell? ⟨bd, 0, none⟩ = some (.pointer (some ⟨pAt ps i, 0, none⟩)) ∧ W.cell? ⟨pAt ps i, 0, none⟩ = some (.bool d.cls)))
 unfold ptrV at HF0 ⊢
 cases hf : findD L d.cls n with
 | none =>
  rw [hf] at HF0
  have HF : Hid (∀ W : World, Below w.heap.size w W → Calls Tryz.prog 42 #[.pointer (some ⟨s, 0, none⟩), .bool d.cls, .string ⟨n.toArray⟩] W fun e w' => e = .returned (.pointer none) ∧ Below W.heap.size W w') := Lib.hid HF0
  have heq := fun W => eql_nil_def W (pAt ps i)
  have c1 := (HK.out _ (Below.refl _ _)).1
  have c2 := (HK.out _ (Below.refl _ _)).2.1
  clear HF0 hS hB hd h1 h2
  go_enter Tryz.func47, Tryz.ntmps47
  go_wp2_with fail
  go_region_held3 (fun W => W.cell? ⟨bs, 0, none⟩ = some (.pointer (some ⟨s, 0, none⟩)) ∧ W.cell? ⟨bd, 0, none⟩ = some (.pointer (some ⟨pAt ps i, 0, none⟩)) ∧ W.cell? ⟨pAt ps i, 0, none⟩ = some (.bool d.cls)) (first | exact HK.out _ (Below.refl _ _).drew | exact HK.out _ hb2 | fail) ((go_at_call 42; refine (HF.out _ (Below.refl _ _).drew).mono ?_; rintro e w2 ⟨rfl, hb2x⟩; have hb2 := below_undrew hb2x; clear hb2x))
  all_goals
   go_wp2_with fail
   go_ret
   exact ⟨rfl, hb2⟩
 | some j =>
  rw [hf] at HF0
  have HF : Hid (∀ W : World, Below w.heap.size w W → Calls Tryz.prog 42 #[.pointer (some ⟨s, 0, none⟩), .bool d.cls, .string ⟨n.toArray⟩] W fun e w' => e = .returned (.pointer (some ⟨pAt ps j, 0, none⟩)) ∧ Below W.heap.size W w') := Lib.hid HF0
  have hj := findD_lt hf
  have HE := Lib.hid (fun (W : World) (hb : Below w.heap.size w W) => (by
   obtain ⟨cj, hbj⟩ := hS.bkAt hj
   have := eql_def (hbj.below hb) (hB.below hb)
   rw [ptr_beq hS.nodup (by rw [hS.len]; exact hi) (by rw [hS.len]; exact hj)] at this
   exact this : (binOp .eql 59 (.pointer (some ⟨pAt ps j, 0, none⟩)) (.pointer (some ⟨pAt ps i, 0, none⟩))).run Tryz.prog W = .ok (.bool (j == i)) W))
  have hjs : (some j == some i) = (j == i) := rfl
  rw [hjs]
  have c1 := (HK.out _ (Below.refl _ _)).1
  have c2 := (HK.out _ (Below.refl _ _)).2.1
  clear HF0 hS hB hd h1 h2 hf
  generalize (j == i) = b at HE ⊢
  have HK2 := Lib.hid (fun (W : World) (hb : Below w.heap.size w W) => (⟨(HK.out W hb).1, (HK.out W hb).2.1, (HK.out W hb).2.2, HE.out W hb⟩ : W.cell? ⟨bs, 0, none⟩ = some (.pointer (some ⟨s, 0, none⟩)) ∧ W.cell? ⟨bd, 0, none⟩ = some (.pointer (some ⟨pAt ps i, 0, none⟩)) ∧ W.cell? ⟨pAt ps i, 0, none⟩ = some (.bool d.cls) ∧ (binOp .eql 59 (.pointer (some ⟨pAt ps j, 0, none⟩)) (.pointer (some ⟨pAt ps i, 0, none⟩))).run Tryz.prog W = .ok (.bool b) W))
  go_enter Tryz.func47, Tryz.ntmps47
  go_wp2_with fail
  go_region_held3 (fun W => W.cell? ⟨bs, 0, none⟩ = some (.pointer (some ⟨s, 0, none⟩)) ∧ W.cell? ⟨bd, 0, none⟩ = some (.pointer (some ⟨pAt ps i, 0, none⟩)) ∧ W.cell? ⟨pAt ps i, 0, none⟩ = some (.bool d.cls) ∧ (binOp .eql 59 (.pointer (some ⟨pAt ps j, 0, none⟩)) (.pointer (some ⟨pAt ps i, 0, none⟩))).run Tryz.prog W = .ok (.bool b) W) (first | exact HK2.out _ (Below.refl _ _).drew | exact HK2.out _ hb2 | fail) ((go_at_call 42; refine (HF.out _ (Below.refl _ _).drew).mono ?_; rintro e w2 ⟨rfl, hb2x⟩; have hb2 := below_undrew hb2x; clear hb2x))
  all_goals
   go_wp2_with fail
   go_ret
   exact ⟨rfl, hb2⟩
def leadsD (L : List DefS) (c : Bool) (i : Nat) (xs : List (List UInt8)) : Bool := xs.any fun n => findD L c n == some i
theorem leadsAll_c (bs bd s i : Nat) (ps : List Nat) (L : List DefS) (d : DefS) (xs : List (List UInt8)) (v : Value) (w : World) (hv : Texts w v xs) (hS : SchAt w s ps L) (hd : L[i]? = some d) (h1 : w.cell? ⟨bs, 0, none⟩ = some (ptrV s)) (h2 : w.cell? ⟨bd, 0, none⟩ = some (ptrV (pAt ps i))) (hx : xs.length ≤ 1000000 ∧ ∀ x ∈ xs, x.length ≤ 1000000) :
  Calls Tryz.prog 43 #[v, .func (.func 47) #[] #[ptrV bs, ptrV bd]] w fun e w' => e = .returned (.bool (leadsD L d.cls i xs)) ∧ Below w.heap.size w w' :=
 ContainsFuncS_c 47 #[ptrV bs, ptrV bd] xs v w hv hx.1 (fun n => findD L d.cls n == some i)
  ⟨fun x hxx W hb => leads_c bs bd s i ps L d x W (hS.below hb) hd ((hb.cell (p := ⟨bs, 0, none⟩) (cell_lt h1)).trans h1) ((hb.cell (p := ⟨bd, 0, none⟩) (cell_lt h2)).trans h2) (hx.2 x hxx), fun _ _ => by kernel_rfl⟩
set_option maxRecDepth 100000 in
theorem loops1_c (bs bd s i a : Nat) (ps : List Nat) (L : List DefS) (d da : DefS) (w : World) (hS : SchAt w s ps L) (hd : L[i]? = some d) (ha : L[a]? = some da) (hl : DefLim da) (h1 : w.cell? ⟨bs, 0, none⟩ = some (ptrV s)) (h2 : w.cell? ⟨bd, 0, none⟩ = some (ptrV (pAt ps i))) :
  Calls Tryz.prog 46 #[ptrV (pAt ps a), ptrV bs, ptrV bd] w fun e w' => e = .returned (.bool (leadsD L d.cls i da.sup)) ∧ Below w.heap.size w w' := by
 have hmf : ∀ (fn : Fn) (first cap : Array Value) (w : World), (Instr.makeFunc fn first cap).run Tryz.prog w = .ok (.func fn first cap) w := fun _ _ _ _ => rfl
 obtain ⟨vn, vs, vm, vy, hB, _, ht, _⟩ := hS.defAt ha
 have c3 : w.cell? ⟨pAt ps a, 3, none⟩ = some vs := hB.cell 3
 have HA := Lib.hid (leadsAll_c bs bd s i ps L d da.sup vs w ht hS hd h1 h2 hl.sup)
 obtain ⟨A, n, c, rfl⟩ := ht.isSlice
 clear hS hd ha hB ht h1 h2
 unfold ptrV at HA ⊢
 go_enter Tryz.func46, Tryz.ntmps46
 go_wp2_with (go_at_call 43; refine HA.out.mono ?_; rintro e w1 ⟨rfl, hb⟩)
 go_ret
 exact ⟨rfl, hb⟩
theorem reach_cls6 {L : List DefS} {i j : Nat} (h : Reach L i j) {d e : DefS} (hd : L[i]? = some d) (he : L[j]? = some e) : e.cls = d.cls := by
 induction h generalizing d with
 | refl => rw [hd] at he; cases he; rfl
 | step hu _ ih =>
  unfold succs at hu
  rw [hd] at hu
  obtain ⟨n, _, hf⟩ := List.mem_filterMap.1 hu
  obtain ⟨d', h1, h2, _⟩ := findD_at hf
  rw [ih h1 he, h2]
def atP (ps : List Nat) (q : Nat) : Nat := (ps.findIdx? (· == q)).getD 0
theorem atP_pAt {ps : List Nat} (hn : ps.Nodup) {i : Nat} (hi : i < ps.length) : atP ps (pAt ps i) = i := by
 have h : ps.findIdx? (· == pAt ps i) = some i := by
  rw [List.findIdx?_eq_some_iff_getElem]
  have hg : ps[i] = pAt ps i := by
   have := pAt_get hi
   rw [List.getElem?_eq_getElem hi] at this
   exact Option.some.inj this
  refine ⟨hi, by rw [hg]; simp, fun j hj => ?_⟩
  have hjl : j < ps.length := by omega
  have hg2 : ps[j] = pAt ps j := by
   have := pAt_get hjl
   rw [List.getElem?_eq_getElem hjl] at this
   exact Option.some.inj this
  rw [hg2, ptr_beq hn hi hjl]
  simp
  omega
 unfold atP
 rw [h]
 rfl
theorem any_same {α : Type} {f g : α → Bool} : ∀ {l : List α}, (∀ a ∈ l, f a = g a) → l.any f = l.any g
 | [], _ => rfl
 | x :: l, h => by rw [List.any_cons, List.any_cons, h x (List.mem_cons_self ..), any_same (fun a ha => h a (List.mem_cons_of_mem _ ha))]
def loopP (L : List DefS) (c : Bool) (i : Nat) (a : Nat) : Bool := match L[a]? with
 | none => false
 | some d => leadsD L c i d.sup
set_option maxRecDepth 100000 in
theorem loops_c (s i : Nat) (ps : List Nat) (L : List DefS) (d : DefS) (w : World) (hS : SchAt w s ps L) (hlim : ∀ d ∈ L, DefLim d) (hN : L.length ≤ 1000) (hk : ∀ d ∈ L, ∀ n ∈ d.sup, (findD L d.cls n).isSome = true) (hd : L[i]? = some d) :
  Calls Tryz.prog 22 #[ptrV s, ptrV (pAt ps i)] w fun e w' => e = .returned (.bool (loopsD L i)) ∧ Below w.heap.size w w' := by
 have hmf : ∀ (fn : Fn) (first cap : Array Value) (w : World), (Instr.makeFunc fn first cap).run Tryz.prog w = .ok (.func fn first cap) w := fun _ _ _ _ => rfl
 have hi : i < L.length := (List.getElem?_eq_some_iff.1 hd).1
 have hb0 : Below w.heap.size w ((w.alloc (.cells #[.pointer (some ⟨s, 0, none⟩)] 38)).alloc (.cells #[.pointer (some ⟨pAt ps i, 0, none⟩)] 59)) := ((Below.refl _ _).alloc (Nat.le_refl _) _).alloc (by simp) _
 have k1 := (Bk.new w 38 #[.pointer (some ⟨s, 0, none⟩)]).alloc (.cells #[.pointer (some ⟨pAt ps i, 0, none⟩)] 59)
 have k2 := Bk.new (w.alloc (.cells #[.pointer (some ⟨s, 0, none⟩)] 38)) 59 #[.pointer (some ⟨pAt ps i, 0, none⟩)]
 rw [World.size_alloc] at k2
 have hA := above_c _ s ps L (hS.below hb0) hlim hN hk (L.length + 1) i [] (.slice none 0 0) _ (Below.refl _ _) (by simp) (by simp) hi (by simp) (OwnP.nil (Nat.le_refl _))
 have hsays := aboveD_says L i hi
 change Calls _ _ _ _ (AbRet _ _ ps (aboveD L i [])) at hA
 have hloop : loopsD L i = (aboveD L i []).any (loopP L d.cls i) := by
  unfold loopsD
  rw [Bool.eq_iff_iff, List.any_eq_true, List.any_eq_true]
  have hcl : ∀ a ∈ aboveD L i [], ∀ e, L[a]? = some e → e.cls = d.cls := fun a ha e he => reach_cls6 ((aboveD_iff hi a).1 ha) hd he
  constructor
  ·rintro ⟨a, ha, h⟩
   refine ⟨a, ha, ?_⟩
   unfold loopP leadsD
   cases he : L[a]? with
   | none => rw [he] at h; exact h
   | some e => rw [he] at h; simp only at h ⊢; rw [← hcl a ha e he]; exact h
  ·rintro ⟨a, ha, h⟩
   refine ⟨a, ha, ?_⟩
   unfold loopP leadsD at h
   cases he : L[a]? with
   | none => rw [he] at h; exact h
   | some e => rw [he] at h; simp only at h ⊢; rw [hcl a ha e he]; exact h
 rw [hloop]
 have hany : ((aboveD L i []).map (pAt ps)).any (fun q => loopP L d.cls i (atP ps q)) = (aboveD L i []).any (loopP L d.cls i) := by
  rw [List.any_map]
  exact any_same (fun a ha => by
   show loopP L d.cls i (atP ps (pAt ps a)) = _
   rw [atP_pAt hS.nodup (by rw [hS.len]; exact hsays.lt a ha)])
 rw [← hany]
 obtain ⟨R, hR⟩ : ∃ R, aboveD L i [] = R := ⟨_, rfl⟩
 rw [hR] at hA hsays ⊢
 have hRlen : (R.map (pAt ps)).length ≤ 1000000 := by
  have := nodup_bound _ R hsays.nodup hsays.lt
  simp
  omega
 have HC := Lib.hid (fun (v : Value) (w1 : World) (hb : Below (w.heap.size + 1 + 1) ((w.alloc (.cells #[.pointer (some ⟨s, 0, none⟩)] 38)).alloc (.cells #[.pointer (some ⟨pAt ps i, 0, none⟩)] 59)) w1) (hv : PtrsR w1 v (R.map (pAt ps))) =>
  ContainsFuncP_c 46 #[ptrV w.heap.size, ptrV (w.heap.size + 1)] (R.map (pAt ps)) v w1 hv hRlen (fun q => loopP L d.cls i (atP ps q))
   ⟨fun q hq W hW => by
    obtain ⟨a, ha, rfl⟩ := List.mem_map.1 hq
    have hal := hsays.lt a ha
    have haL : L[a]? = some L[a] := List.getElem?_eq_getElem hal
    have hb1 : Below w.heap.size w W := (hb0.trans (hb.mono (by omega))).trans (hW.mono (by have := hb.size; simp at this; omega))
    have hz : w.heap.size + 1 + 1 ≤ w1.heap.size := by have := hb.size; simpa using this
    have q1 := ((k1.below (hb.mono (by simp))).below hW).cell 0
    have q2 := ((k2.below (hb.mono (by simp))).below hW).cell 0
    have := loops1_c w.heap.size (w.heap.size + 1) s i a ps L d L[a] W (hS.below hb1) hd haL (hlim _ (List.getElem_mem hal)) q1 q2
    rw [atP_pAt hS.nodup (by rw [hS.len]; exact hal)]
    unfold loopP
    rw [haL]
    exact this, fun _ _ => by kernel_rfl⟩)
 have HA := Lib.hid hA
 clear hA hany hloop hR k1 k2 hS hk hlim hsays
 generalize ((R.map (pAt ps)).any fun q => loopP L d.cls i (atP ps q)) = b at HC ⊢
 unfold ptrV at HA HC ⊢
 go_enter Tryz.func22, Tryz.ntmps22
 go_wp2_with (first | (go_at_call 45; refine HA.out.mono ?_; rintro e w1 ⟨hb1, v1, rfl, hO1⟩; have hb1' : Below (w.heap.size + 1 + 1) ((w.alloc (.cells #[.pointer (some ⟨s, 0, none⟩)] 38)).alloc (.cells #[.pointer (some ⟨pAt ps i, 0, none⟩)] 59)) w1 := hb1.mono (by simp)) | (go_at_call 44; refine (HC.out _ _ hb1' hO1.reads).mono ?_; rintro e w2 ⟨rfl, hb2⟩))
 go_ret
 exact ⟨rfl, (hb0.trans (hb1'.mono (by omega))).trans (hb2.mono (by have := hb1'.size; simp at this; omega))⟩
end Go.Proofs.YtconnibnpckadaaGreatDoor
