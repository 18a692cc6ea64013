import Derived.Test.YtkkbbhlihilnpaaGreatDoorWr2
import Derived.Deep.RegionLaw
set_option linter.all false
set_option maxHeartbeats 8000000
set_option maxRecDepth 100000
namespace Go.Proofs.YtkkbbhlihilnpaaGreatDoor
open Go.RowKit
theorem AskG.mono {w w1 : World} {g : Option Nat} {f : FuncId} {cap : Array Value} {xs : LL} {P : LU → Bool} (h : AskG w g f cap xs P) (hg : w.grownBy w1 g) : AskG w1 g f cap xs P := ⟨fun x hx W hW => h.call x hx W (World.grownBy.trans hg hW), h.enter⟩
theorem filter_take_none {xs : LL} {P : LU → Bool} {k : Nat} (hb : ∀ x ∈ xs.take k, P x = false) : (xs.take k).filter (fun x => !P x) = xs.take k := by
 rw [List.filter_eq_self]
 intro x hx
 rw [hb x hx]; rfl
theorem idx_cases (xs : LL) (P : LU → Bool) : (idxI xs P = -1 ∧ xs.filter (fun x => !P x) = xs) ∨ ∃ (k : Nat) (hk : k < xs.length), idxI xs P = k ∧ (xs.take (k + 1)).filter (fun x => !P x) = xs.take k := by
 unfold idxI
 cases h : xs.findIdx? P with
 | none =>
  rw [List.findIdx?_eq_none_iff] at h
  exact .inl ⟨rfl, by rw [List.filter_eq_self]; intro x hx; rw [h x hx]; rfl⟩
 | some k =>
  rw [List.findIdx?_eq_some_iff_getElem] at h
  obtain ⟨hk, hp, hb⟩ := h
  refine .inr ⟨k, hk, rfl, ?_⟩
  rw [List.take_succ_eq_append_getElem hk, List.filter_append]
  have h1 : (xs.take k).filter (fun x => !P x) = xs.take k := filter_take_none (fun x hx => by
   rw [List.mem_take_iff_getElem] at hx
   obtain ⟨j, hj, rfl⟩ := hx
   have := hb j (by omega)
   simpa using this)
  rw [h1]
  simp [hp]
theorem row_texts {w : World} {g c : Nat} {xs : LL} (h : RowS w g xs) (hc : xs.length ≤ c) : Texts w (.slice (some ⟨g, 0, none⟩) xs.length c) xs :=
 .inr ⟨g, c, rfl, hc, h.lt, fun j hj => (h.at_ j _ (List.getElem?_eq_getElem hj)).1⟩
theorem DeleteRow_c (f : FuncId) (cp : Array Value) (xs : LL) (g cap : Nat) (w : World) (hr : RowS w g xs) (hl : xs.length ≤ 1000000) (hc : xs.length ≤ cap) (P : LU → Bool) (hF : AskG w (some g) f cp xs P) :
  Calls Tryz.prog 89 #[.slice (some ⟨g, 0, none⟩) xs.length cap, .func (.func f) #[] cp] w fun e w' => ∃ n, e = .returned (.slice (some ⟨g, 0, none⟩) n cap) ∧ n = (xs.filter (fun x => !P x)).length ∧ RowS w' g (xs.filter (fun x => !P x)) ∧ w.grownBy w' (some g) := by
 have hI := IndexFuncS_i f cp xs _ (some g) w (row_texts hr hc) hl P hF
 rcases idx_cases xs P with ⟨h1, h2⟩ | ⟨k0, hk0, h1, h2⟩
 ·rw [h1] at hI
  have HI := hiD hI
  have HR := hiD hr
  rw [h2]
  clear hI hr hF h1 h2
  go_enter Tryz.func89, Tryz.ntmps89
  go_wp2_with (go_at_call 85; refine HI.out.mono ?_; rintro e w1 ⟨rfl, rfl⟩)
  go_ret
  exact ⟨_, rfl, rfl, HR.out, World.grownBy.refl _ _⟩
 ·rw [h1] at hI
  have HI := hiD hI
  have HF := hiD hF.call
  have hent := hF.enter
  have H0 : Hid (RowS w g (xs.take k0 ++ xs.drop (xs.take k0).length)) := hiD (by
   rw [List.length_take, Nat.min_eq_left (by omega), List.take_append_drop]; exact hr)
  have H2 := hiD h2
  have hk1 : ((k0 : Int) == -1) = false := beq_eq_false_iff_ne.2 (by omega)
  have hlk : (xs.take k0).length = k0 := by rw [List.length_take, Nat.min_eq_left (by omega)]
  have HLK := hiD hlk
  clear hI hr hF h1 h2 hlk
  go_enter Tryz.func89, Tryz.ntmps89
  go_wp2_with (go_at_call 85; refine HI.out.mono ?_; rintro e w1 ⟨rfl, rfl⟩)
  go_loopg [5, 6] (xs.length - k0) (fun gk i j wr => ∃ (m : Nat) (c : LL), m + 1 ≤ xs.length ∧ i = .int .i64 c.length ∧ j = .int .i64 ((m : Int) + 1) ∧ Aside (m + 1 + gk = xs.length + 1) ∧ c.length ≤ m ∧ Aside (c = (xs.take (m + 1)).filter (fun x => !P x)) ∧ Hid (RowS wr g (c ++ xs.drop c.length)) ∧ Aside (w.grownBy wr (some g)))
  case atStart => exact ⟨k0, xs.take k0, by omega, by rw [HLK.out], rfl, by show _ = _; omega, by rw [HLK.out]; exact Nat.le_refl _, H2.out.symm, H0, World.grownBy.refl _ _⟩
  case round =>
   clear H0 H2 HLK HI
   obtain ⟨m, c, hm, rfl, rfl, AG, hcl, AC, HR, AW⟩ := hrel
   by_cases hlt : m + 1 < xs.length
   ·obtain ⟨q, rfl⟩ : ∃ q, gk = q + 1 := ⟨gk - 1, by have := AG.out; omega⟩
    have gX : (c ++ xs.drop c.length)[m + 1]? = some xs[m + 1] := by
     rw [List.getElem?_append_right (by omega), List.getElem?_drop, show c.length + (m + 1 - c.length) = m + 1 by omega]; exact List.getElem?_eq_getElem hlt
    have x0 := (HR.out.at_ _ _ gX).1
    have hk0 : (0 : Int) ≤ (m : Int) + 1 := by omega
    have hk1 : (m : Int) + 1 < (xs.length : Int) := by omega
    have hk4 : ((m : Int) + 1).toNat = m + 1 := by omega
    have hC := HF.out xs[m + 1] (List.getElem_mem hlt) wr AW.out
    have hstep : (xs.take (m + 1 + 1)).filter (fun x => !P x) = c ++ (if P xs[m + 1] then [] else [xs[m + 1]]) := by
     rw [List.take_succ_eq_append_getElem hlt, List.filter_append, AC.out]
     congr 1
     cases hq : P xs[m + 1] <;> simp [hq]
    have hcn : c.length < xs.length := by omega
    have gZ : (c ++ xs.drop c.length)[c.length]? = some xs[c.length] := by
     rw [List.getElem?_append_right (Nat.le_refl _), List.getElem?_drop, Nat.sub_self, Nat.add_zero]; exact List.getElem?_eq_getElem hcn
    have hll : c.length < (c ++ xs.drop c.length).length := by simp; omega
    have rZ := HR.out.at_ _ _ gZ
    have HS := hiD (HR.out.set hll xs[m + 1])
    have HLS := hiD (set_midS c xs xs[m + 1] hcn)
    clear gX gZ
    obtain ⟨X, hX⟩ : ∃ X, xs[m + 1] = X := ⟨_, rfl⟩
    obtain ⟨Z, hZ⟩ : ∃ Z, xs[c.length] = Z := ⟨_, rfl⟩
    rw [hX] at x0 hC hstep HS HLS
    rw [hZ] at rZ
    obtain ⟨z0, z1⟩ := rZ
    have hci : (c.length : Int) < (xs.length : Int) := by omega
    cases hP : P X
    ·rw [hP] at hC hstep
     have HC := hiD hC
     have HST := hiD hstep
     clear hC hstep hP hX hZ
     go_wp2_with ((with_reducible refine HC.out.mono ?_); rintro e w2 ⟨rfl, rfl⟩)
     go_roundg q
     case measure => omega
     case rel => exact ⟨m + 1, c ++ [X], by omega, by simp, by go_num, by have := AG.out; show _ = _; omega, by simp; omega, HST.out.symm, by rw [← HLS.out]; exact HS, World.grownBy.trans AW.out (setCell_grown _ _ _ _)⟩
    ·rw [hP] at hC hstep
     have HC := hiD hC
     have HST := hiD hstep
     clear hC hstep hP hX hZ z0 z1 HS HLS
     go_wp2_with ((with_reducible refine HC.out.mono ?_); rintro e w2 ⟨rfl, rfl⟩)
     go_roundg q
     case measure => omega
     case rel => exact ⟨m + 1, c, by omega, rfl, by go_num, by have := AG.out; show _ = _; omega, by omega, by have := HST.out; simp at this; exact this.symm, HR, AW⟩
   ·have hjn : m + 1 = xs.length := by omega
    have hfin : xs.filter (fun x => !P x) = c := by have := AC.out; rw [hjn, List.take_length] at this; exact this.symm
    have Hf := hiD hfin
    have hcn : c.length < xs.length := by omega
    have hs1 : ∀ W, (Instr.slice 23 (.slice (some ⟨g, 0, none⟩) xs.length cap) (some (.int .i64 (c.length : Int))) none none).run Tryz.prog W = .ok (.slice (some ⟨g, c.length, none⟩) (xs.length - c.length) (cap - c.length)) W := fun W => slice_fromS g xs.length cap c.length hcn hc W
    have hs2 : ∀ W, (Instr.slice 23 (.slice (some ⟨g, 0, none⟩) xs.length cap) none (some (.int .i64 (c.length : Int))) none).run Tryz.prog W = .ok (.slice (some ⟨g, 0, none⟩) c.length cap) W := fun W => slice_uptoS g xs.length cap c.length (by omega) W
    obtain ⟨W3, hcl3, hW3, hg3⟩ := clear_strs HR.out hcn (cap - c.length)
    clear hfin
    have hkk : ¬ ((m : Int) + 1 < (xs.length : Int)) := by omega
    go_wp2_with fail
    go_ret
    exact ⟨_, rfl, by rw [Hf.out], by rw [Hf.out]; exact hW3, World.grownBy.trans AW.out hg3⟩
theorem DeleteNil_c (f : FuncId) (cp : Array Value) (w : World) (P : LU → Bool) (hF : AskG w none f cp [] P) :
  Calls Tryz.prog 89 #[.slice none 0 0, .func (.func f) #[] cp] w fun e w' => e = .returned (.slice none 0 0) ∧ w = w' := by
 have hI := IndexFuncS_i f cp [] _ none w (.inl ⟨rfl, rfl⟩) (by simp) P hF
 have HI : Hid (Calls Tryz.prog 85 #[.slice none 0 0, .func (.func f) #[] cp] w fun e w' => e = .returned (.int .i64 (-1)) ∧ w = w') := hiD hI
 clear hI hF
 go_enter Tryz.func89, Tryz.ntmps89
 go_wp2_with (go_at_call 85; refine HI.out.mono ?_; rintro e w1 ⟨rfl, rfl⟩)
 go_ret
 exact ⟨rfl, rfl⟩
def TextsT (w : World) (v : Value) (xs : LL) : Prop := Texts w v xs ∧ ∀ k, v.ownBlock = some k → ∃ cs, Bk w k 9 cs
theorem TextsT.far {w w' : World} {g : Nat} {v : Value} {xs : LL} {t : TypeId} {cs : Array Value} (h : TextsT w v xs) (hg : Bk w g t cs) (ht : t ≠ 9) (hw : w.grownBy w' (some g)) : TextsT w' v xs := by
 obtain ⟨h, hty⟩ := h
 rcases h with ⟨rfl, rfl⟩ | ⟨b, c, rfl, hc, hlt, hx⟩
 ·exact ⟨.inl ⟨rfl, rfl⟩, fun k hk => by simp [Value.ownBlock] at hk⟩
 ·obtain ⟨cs', hb⟩ := hty b rfl
  have hne : g ≠ b := bk_ne hg hb ht
  have hkb := hw.block b hlt (by intro e; exact hne (Option.some.inj e).symm)
  refine ⟨.inr ⟨b, c, rfl, hc, Nat.lt_of_lt_of_le hlt hw.size, fun j hj => ?_⟩, fun k hk => ?_⟩
  ·rw [World.cell?_of_block (w := w) (w' := w') (a := ⟨b, j, none⟩) hkb]
   exact hx j hj
  ·have : b = k := by simpa [Value.ownBlock] using hk
   subst this
   exact ⟨cs', hkb.trans hb⟩
theorem DeleteFunc_c (f : FuncId) (cp : Array Value) (xs : LL) (B : Nat) (v : Value) (w : World) (ho : Own B w v xs) (hl : xs.length ≤ 1000000) (P : LU → Bool) (hF : AskG w v.ownBlock f cp xs P) :
  Calls Tryz.prog 89 #[v, .func (.func f) #[] cp] w fun e w' => ∃ A n c, e = .returned (.slice A n c) ∧ TextsT w' (.slice A n c) (xs.filter (fun x => !P x)) ∧ w.grownBy w' v.ownBlock ∧ ∀ k, (Value.slice A n c).ownBlock = some k → v.ownBlock = some k := by
 rcases ho.row with ⟨rfl, rfl⟩ | ⟨g, c, rfl, hc, hB, hob, hr⟩
 ·refine (DeleteNil_c f cp w P hF).mono ?_
  rintro e w' ⟨rfl, rfl⟩
  exact ⟨_, _, _, rfl, ⟨.inl ⟨rfl, rfl⟩, fun k hk => by simp [Value.ownBlock] at hk⟩, World.grownBy.refl _ _, fun k hk => by simp [Value.ownBlock] at hk⟩
 ·rw [hob] at hF ⊢
  refine (DeleteRow_c f cp xs g c w hr hl hc P hF).mono ?_
  rintro e w' ⟨n, rfl, rfl, hw, hg⟩
  refine ⟨_, _, _, rfl, ⟨row_texts hw (Nat.le_trans (List.length_filter_le _ _) hc), fun k hk => ?_⟩, hg, fun k hk => ?_⟩
  ·have : g = k := by simpa [Value.ownBlock] using hk
   subst this
   exact hw.bk
  ·have : g = k := by simpa [Value.ownBlock] using hk
   rw [this]
open Go.RowKit
theorem Above_c (s : Nat) (ps : List Nat) (L : List DefS) (x : LU) (i : Nat) (w : World) (hS : SchAt w s ps L) (hlim : ∀ d ∈ L, DefLim d) (hN : L.length ≤ 1000) (hk : ∀ d ∈ L, ∀ n ∈ d.sup, (findD L d.cls n).isSome = true) (hx : x.length ≤ 1000000) (hf : findD L true x = some i) :
  Calls Tryz.prog 92 #[ptrV s, .string ⟨x.toArray⟩] w fun e w' => ∃ v, e = .returned v ∧ Below w.heap.size w w' ∧ Own w.heap.size w' v (aboveN L i) := by
 have hi := findD_lt hf
 have hF := find_c s ps L true x w hS hx
 rw [hf] at hF
 have HF : Hid (Calls Tryz.prog 38 #[.pointer (some ⟨s, 0, none⟩), .bool true, .string ⟨x.toArray⟩] w fun e w' => e = .returned (.pointer (some ⟨pAt ps i, 0, none⟩)) ∧ Below w.heap.size w w') := hiD hF
 have hsays := aboveD_says L i hi
 have HAB : Hid (∀ W : World, Below w.heap.size w W → Calls Tryz.prog 109 #[.pointer (some ⟨s, 0, none⟩), .pointer (some ⟨pAt ps i, 0, none⟩), .slice none 0 0] W (AbRet w.heap.size W ps (aboveD L i []))) := hiD (fun W h => above_c w s ps L hS hlim hN hk (L.length + 1) i [] (.slice none 0 0) W h (by simp) (by simp) hi (by simp) (OwnP.nil h.size))
 have hlen := nodup_bound _ _ hsays.nodup hsays.lt
 have hltR := hsays.lt
 have hab : aboveN L i = (aboveD L i []).map (nameOf L) := rfl
 rw [hab]
 generalize aboveD L i [] = R at HAB hlen hltR ⊢
 have HD : Hid (∀ (j : Nat) (hj : j < R.length) (W : World), Below w.heap.size w W → Calls Tryz.prog 77 #[.pointer (some ⟨pAt ps R[j], 0, none⟩)] W fun e w' => e = .returned (.string ⟨(nameOf L R[j]).toArray⟩) ∧ W = w') := hiD fun j hj W hW => by
  have hl := hltR _ (List.getElem_mem hj)
  have hLj : L[R[j]]? = some L[R[j]] := List.getElem?_eq_getElem hl
  have e : nameOf L R[j] = L[R[j]].name := by unfold nameOf; rw [hLj]
  rw [e]
  exact dname_c _ _ W ((hS.below hW).defAt hLj)
 clear hF hS hlim hk hsays hab hltR hf
 unfold ptrV
 go_enter Tryz.func92, Tryz.ntmps92
 go_wp2_with (first | (go_at_call 38; refine HF.out.mono ?_; rintro e w1 ⟨rfl, hb1⟩) | (go_at_call 109; refine (HAB.out _ hb1).mono ?_; rintro e w4 ⟨hb4, v4, rfl, hO4⟩; have hB4 := hb1.trans hb4; obtain ⟨A4, c4, rfl, hc4, hx4⟩ := hO4.reads))
 have hmap : (R.map (pAt ps)).length = R.length := by simp
 rw [hmap] at hc4
 have HX : Hid (∀ j (hj : j < R.length), ∃ g, A4 = some ⟨g, 0, none⟩ ∧ w4.cell? ⟨g, j, none⟩ = some (.pointer (some ⟨pAt ps R[j], 0, none⟩))) := hiD fun j hj => by
  rcases hx4 with h | ⟨g, rfl, h⟩
  ·have : R.length = 0 := by rw [← hmap, h]; rfl
   omega
  ·exact ⟨g, rfl, h j _ (by simp [hj])⟩
 clear hO4 hx4 HAB HF hmap
 go_loopg [6, 18] R.length (fun gk v i2 wr => ∃ (k : Nat) (acc : LL), k ≤ R.length ∧ i2 = .int .i64 k ∧ Aside (k + gk = R.length) ∧ Below w4.heap.size w4 wr ∧ Own w4.heap.size wr v acc ∧ Aside (acc = (R.take k).map (nameOf L)))
 case atStart => exact ⟨0, [], Nat.zero_le _, rfl, by show _ = _; omega, Below.refl _ _, Own.nil (Nat.le_refl _), rfl⟩
 case round =>
  obtain ⟨k, acc, hk, rfl, AG, hB, hO, AL⟩ := hrel
  obtain ⟨Ao, co, rfl, hco⟩ := hO.isSlice
  by_cases hlt : k < R.length
  ·obtain ⟨q, rfl⟩ : ∃ q, gk = q + 1 := ⟨gk - 1, by have := AG.out; omega⟩
   obtain ⟨g, rfl, ck0⟩ := HX.out k hlt
   have ck : wr.cell? ⟨g, k, none⟩ = some (.pointer (some ⟨pAt ps R[k], 0, none⟩)) := (hB.cell (p := ⟨g, k, none⟩) (cell_lt ck0)).trans ck0
   have HN : Hid (Calls Tryz.prog 77 #[.pointer (some ⟨pAt ps R[k], 0, none⟩)] wr fun e w' => e = .returned (.string ⟨(nameOf L R[k]).toArray⟩) ∧ wr = w') := hiD (HD.out k hlt wr (hB4.trans (hB.mono hB4.size)))
   have hal : acc.length < 4398046511104 := by rw [AL.out]; simp; omega
   have hstep : (R.take (k + 1)).map (nameOf L) = acc ++ [nameOf L R[k]] := by
    rw [List.take_succ_eq_append_getElem hlt, List.map_append, AL.out]; rfl
   have HST := hiD hstep
   clear hstep ck0
   generalize nameOf L R[k] = nm at HN HST
   go_wp2_with (first | (go_at_call 77; refine HN.out.mono ?_; rintro e w2 ⟨rfl, rfl⟩) | (at_builtin; refine own_one (c := nm) rfl _ _ rfl rfl hO rfl rfl hal ?_; intro v' w5 hO5 hg5))
   go_roundg q
   case measure => omega
   case rel => exact ⟨k + 1, acc ++ [nm], by omega, by go_num, by have := AG.out; show _ = _; omega, hB.grown hg5 hB.size (fun k hk => (hO.lt k hk).1), hO5, HST.out.symm⟩
  ·obtain rfl : k = R.length := by omega
   have hfin : acc = R.map (nameOf L) := by rw [AL.out, List.take_length]
   have HFI := hiD hfin
   clear hfin
   go_wp2_with fail
   go_ret
   rw [← HFI.out]
   exact ⟨_, rfl, hB4.trans (hB.mono hB4.size), hO.lower hB4.size⟩
open Go.RowKit
theorem of_must (w0 : World) (s : Nat) (ps : List Nat) (L : List DefS) (hS : SchAt w0 s ps L) (hlim : ∀ d ∈ L, DefLim d) : OfOK w0 ps L DefS.must 88 := by
 refine ⟨fun i d hd => ?_, fun d hd => (hlim d hd).must, fun _ _ => by kernel_rfl⟩
 obtain ⟨vn, vs, vm, vy, hBK, _, _, hm, _⟩ := hS.defAt hd
 refine ⟨vm, hm, fun W hW => ?_⟩
 obtain ⟨A, n, c, rfl⟩ := hm.isSlice
 have c4 : W.cell? ⟨pAt ps i, 4, none⟩ = some (.slice A n c) := (hBK.below hW).cell 4
 clear hBK hm hd hW hS hlim
 unfold ptrV
 go_enter Tryz.func88, Tryz.ntmps88
 go_wp2_with fail
 go_ret
 exact ⟨rfl, rfl⟩
theorem of_may (w0 : World) (s : Nat) (ps : List Nat) (L : List DefS) (hS : SchAt w0 s ps L) (hlim : ∀ d ∈ L, DefLim d) : OfOK w0 ps L DefS.may 90 := by
 refine ⟨fun i d hd => ?_, fun d hd => (hlim d hd).may, fun _ _ => by kernel_rfl⟩
 obtain ⟨vn, vs, vm, vy, hBK, _, _, _, hm⟩ := hS.defAt hd
 refine ⟨vy, hm, fun W hW => ?_⟩
 obtain ⟨A, n, c, rfl⟩ := hm.isSlice
 have c4 : W.cell? ⟨pAt ps i, 5, none⟩ = some (.slice A n c) := (hBK.below hW).cell 5
 clear hBK hm hd hW hS hlim
 unfold ptrV
 go_enter Tryz.func90, Tryz.ntmps90
 go_wp2_with fail
 go_ret
 exact ⟨rfl, rfl⟩
theorem notmust_c (g : Nat) (cs : Array Value) (xs : LL) (v : Value) (x : LU) (w : World) (hb : Bk w g 89 cs) (h5 : cs[5]? = some v) (hv : Texts w v xs) (hl : xs.length ≤ 1000000) :
  Calls Tryz.prog 91 #[.string ⟨x.toArray⟩, .pointer (some ⟨g, 0, none⟩)] w fun e w' => e = .returned (.bool (xs.contains x)) ∧ w = w' := by
 have HC := hiD (ContainsS_c x xs v w hv hl)
 obtain ⟨A, n, c, rfl⟩ := hv.isSlice
 have c5 : w.cell? ⟨g, 5, none⟩ = some (.slice A n c) := (hb.cell 5).trans h5
 clear hb hv h5
 generalize xs.contains x = r at HC ⊢
 go_enter Tryz.func91, Tryz.ntmps91
 go_wp2_with (go_at_call 51; refine HC.out.mono ?_; rintro e w1 ⟨rfl, rfl⟩)
 go_ret
 exact ⟨rfl, rfl⟩
def clsCells (d : DefS) (vn vs vm vy : Value) : Array Value := #[.string ⟨d.oid.toArray⟩, .string ⟨d.name.toArray⟩, vn, vs, .int .i64 d.kind, vm, vy]
abbrev zeroCls : Obj := .cells #[.string ⟨#[]⟩, .string ⟨#[]⟩, .slice none 0 0, .slice none 0 0, .int .i64 0, .slice none 0 0, .slice none 0 0] 89
structure CJ (w wx : World) (g B : Nat) (d : DefS) (vn vs vm vy : Value) (sups : LL) : Prop where
 bk : Bk wx g 89 (clsCells d vn vs vm vy)
 out : Bk wx w.heap.size 89 (#[.string ⟨#[]⟩, .string ⟨#[]⟩, .slice none 0 0, .slice none 0 0, .int .i64 0, .slice none 0 0, .slice none 0 0] : Array Value)
 bel : Below w.heap.size w wx
 names : Own w.heap.size wx vn d.names
 sup : Own B wx vs sups
 ge : w.heap.size < g
 gB : g < B
 nlt : ∀ k, vn.ownBlock = some k → k < B
def clsV (d : DefS) (vn vs vm vy : Value) : Value := .agg (clsCells d vn vs vm vy)
def ClassRet (w : World) (L : List DefS) (i : Nat) (d : DefS) (e : Ending) (w' : World) : Prop := Below w.heap.size w w' ∧ ∃ vn vs vm vy, e = .returned (.tuple #[clsV d vn vs vm vy, .int .i64 0]) ∧ Texts w' vn d.names ∧ Texts w' vs (supNames L d) ∧ Texts w' vm (mustD L i) ∧ Texts w' vy (mayD L i) ∧ (mustD L i).length ≤ 1000000 ∧ (mayD L i).length ≤ 1000000 ∧ (∀ k, vm.ownBlock = some k → w.heap.size ≤ k) ∧ ∀ k, vy.ownBlock = some k → w.heap.size ≤ k
open Go.RowKit
section
variable {ops : Array Oper} {o : Oper} {a : Act} {K : Act → World → Prop} {Q : Exit → Act → World → Prop} {E : Prop}
theorem step_own_one (hgd : o.guard = none) (s x : Operand) (ho : o.op = .call { callee := .builtin .append, args := #[s, x], argTypes := #[23, 23] })
  {v : Value} {xs : LL} {B : Nat} {w0 : World} {c : LU} (hs : a.eval s = v) (hb : Own B w0 v xs)
  (hx : a.eval x = .slice (some ⟨w0.heap.size, 0, none⟩) 1 1) (hlen : xs.length < 4398046511104)
  (h : ∀ v' w', Own B w' v' (xs ++ [c]) → w0.grownBy w' v.ownBlock → K (a.put o.dst v') w') :
  if Region.wanted o (yielded ops a.tmps) = true then Oper.wp Tryz.prog o a (w0.alloc (.cells #[.string ⟨c.toArray⟩] 9)) K Q else E := by
 obtain ⟨i, h1, h2, h3, h4⟩ := infoStr
 have hb' := hb.keep (World.grownBy_alloc w0 (.cells #[.string ⟨c.toArray⟩] 9) none) (fun k hk => by cases hk)
 refine step_append_own hgd s x 23 ho B 9 i (.string ⟨#[]⟩) 1 16 Tryz.underlying23 h1 h2 h3 h4 rfl (by decide) v _ _ hs hb'.1 ⟨w0.heap.size, 0, none⟩ 1 1 [.string ⟨c.toArray⟩] hx rfl ?_ ?_ (by unfold maxLen; omega) (by omega) hb'.2 ?_
 ·intro j u hj
  match j, hj with
  | 0, hj => simp at hj; subst hj; simp [Addr.add]
  | (j + 1), hj => simp at hj
 ·intro u hu; simp at hu; subst hu; rfl
 ·intro v' w' ho' hg
  refine h v' w' ⟨?_, Nat.le_trans hb'.2 hg.size⟩ (World.grownBy.trans (World.grownBy_alloc _ _ _) hg)
  simpa [strV] using ho'
end
theorem bk_set7 {g : Nat} {w : World} {t : TypeId} (c0 c1 c2 c3 c4 c5 c6 v0 v1 v2 v3 v4 v5 v6 : Value) (h : Bk w g t #[c0, c1, c2, c3, c4, c5, c6]) : Bk (((((((w.setCell ⟨g, 0, none⟩ v0).setCell ⟨g, 1, none⟩ v1).setCell ⟨g, 2, none⟩ v2).setCell ⟨g, 3, none⟩ v3).setCell ⟨g, 4, none⟩ v4).setCell ⟨g, 5, none⟩ v5).setCell ⟨g, 6, none⟩ v6) g t #[v0, v1, v2, v3, v4, v5, v6] := by
 simpa using ((((((h.set 0 v0).set 1 v1).set 2 v2).set 3 v3).set 4 v4).set 5 v5).set 6 v6
theorem below_set7 {B g : Nat} {a w : World} (h : Below B a w) (hg : B ≤ g) (v0 v1 v2 v3 v4 v5 v6 : Value) : Below B a (((((((w.setCell ⟨g, 0, none⟩ v0).setCell ⟨g, 1, none⟩ v1).setCell ⟨g, 2, none⟩ v2).setCell ⟨g, 3, none⟩ v3).setCell ⟨g, 4, none⟩ v4).setCell ⟨g, 5, none⟩ v5).setCell ⟨g, 6, none⟩ v6) :=
 ((((((h.setCell hg v0).setCell hg v1).setCell hg v2).setCell hg v3).setCell hg v4).setCell hg v5).setCell hg v6
theorem grown_set7 (w : World) (g : Nat) (v0 v1 v2 v3 v4 v5 v6 : Value) : w.grownBy (((((((w.setCell ⟨g, 0, none⟩ v0).setCell ⟨g, 1, none⟩ v1).setCell ⟨g, 2, none⟩ v2).setCell ⟨g, 3, none⟩ v3).setCell ⟨g, 4, none⟩ v4).setCell ⟨g, 5, none⟩ v5).setCell ⟨g, 6, none⟩ v6) (some g) :=
 World.grownBy.trans (World.grownBy.trans (World.grownBy.trans (World.grownBy.trans (World.grownBy.trans (World.grownBy.trans (setCell_grown _ _ _ _) (setCell_grown _ _ _ _)) (setCell_grown _ _ _ _)) (setCell_grown _ _ _ _)) (setCell_grown _ _ _ _)) (setCell_grown _ _ _ _)) (setCell_grown _ _ _ _)
theorem Own.apart {B g : Nat} {w : World} {v : Value} {xs : LL} {t : TypeId} {cs : Array Value} (h : Own B w v xs) (hg : Bk w g t cs) (ht : t ≠ 9) : ∀ k, v.ownBlock = some k → (some g : Option Nat) ≠ some k := by
 intro k hk e
 cases e
 obtain ⟨cs', h'⟩ := h.ty hk
 exact bk_ne hg h' ht rfl
theorem supNames_succ (L : List DefS) (d : DefS) {k j : Nat} (h : k < d.sup.length) (hj : findD L true d.sup[k] = some j) : (supNames L d).take (k + 1) = (supNames L d).take k ++ [nameOf L j] := by
 have hl : k < (supNames L d).length := by unfold supNames; simpa using h
 have e : (supNames L d)[k]? = some (nameOf L j) := by
  unfold supNames
  rw [List.getElem?_map, List.getElem?_eq_getElem h]
  simp [hj]
 rw [List.getElem?_eq_getElem hl] at e
 rw [List.take_succ_eq_append_getElem hl, Option.some.inj e]
theorem cj_late {w w3 : World} {d : DefS} {A3 : Option Addr} {c3 : Nat} (hb : Below w.heap.size w w3) (ho : Bk w3 w.heap.size 89 #[.string ⟨#[]⟩, .string ⟨#[]⟩, .slice none 0 0, .slice none 0 0, .int .i64 0, .slice none 0 0, .slice none 0 0]) (hT : Own w.heap.size w3 (.slice A3 d.names.length c3) d.names) :
  CJ w (w3.alloc (.cells #[.string ⟨d.oid.toArray⟩, .string ⟨d.name.toArray⟩, .slice A3 d.names.length c3, .slice none 0 0, .int .i64 d.kind, .slice none 0 0, .slice none 0 0] 89)) w3.heap.size (w3.heap.size + 1) d (.slice A3 d.names.length c3) (.slice none 0 0) (.slice none 0 0) (.slice none 0 0) [] :=
 ⟨Bk.new w3 _ _, ho.alloc _, hb.alloc hb.size _, hT.below ((Below.refl _ _).alloc (Nat.le_refl _) _), Own.nil (by rw [World.size_alloc]; exact Nat.le_refl _), ho.lt, Nat.lt_succ_self _, fun k hk => Nat.lt_succ_of_lt (hT.lt k hk).2⟩
theorem cj_early {w w3 : World} {g : Nat} {d : DefS} {A3 : Option Addr} {c3 : Nat} (hg : w.heap.size < g) (hb : Below w.heap.size w w3) (ho : Bk w3 w.heap.size 89 #[.string ⟨#[]⟩, .string ⟨#[]⟩, .slice none 0 0, .slice none 0 0, .int .i64 0, .slice none 0 0, .slice none 0 0]) (hk : Bk w3 g 89 #[.string ⟨#[]⟩, .string ⟨#[]⟩, .slice none 0 0, .slice none 0 0, .int .i64 0, .slice none 0 0, .slice none 0 0]) (hT : Own w.heap.size w3 (.slice A3 d.names.length c3) d.names) :
  CJ w (((((((w3.setCell ⟨g, 0, none⟩ (.string ⟨d.oid.toArray⟩)).setCell ⟨g, 1, none⟩ (.string ⟨d.name.toArray⟩)).setCell ⟨g, 2, none⟩ (.slice A3 d.names.length c3)).setCell ⟨g, 3, none⟩ (.slice none 0 0)).setCell ⟨g, 4, none⟩ (.int .i64 d.kind)).setCell ⟨g, 5, none⟩ (.slice none 0 0)).setCell ⟨g, 6, none⟩ (.slice none 0 0)) g w3.heap.size d (.slice A3 d.names.length c3) (.slice none 0 0) (.slice none 0 0) (.slice none 0 0) [] := by
 have hgr := grown_set7 w3 g (.string ⟨d.oid.toArray⟩) (.string ⟨d.name.toArray⟩) (.slice A3 d.names.length c3) (.slice none 0 0) (.int .i64 d.kind) (.slice none 0 0) (.slice none 0 0)
 refine ⟨bk_set7 _ _ _ _ _ _ _ _ _ _ _ _ _ _ hk, ho.grown hgr (by intro e; have := Option.some.inj e; omega), below_set7 hb (by omega) _ _ _ _ _ _ _, hT.keep2 hgr (hT.apart hk (by decide)), Own.nil hgr.size, hg, hk.lt, fun k hk => (hT.lt k hk).2⟩
theorem CJ.more {w w5 w6 : World} {g B : Nat} {d : DefS} {vn vs vs' vm vy : Value} {sups sups' : LL} (h : CJ w w5 g B d vn vs vm vy sups) (hg : w5.grownBy w6 vs.ownBlock) (hs : Own B w6 vs' sups') :
  Bk w6 g 89 (clsCells d vn vs vm vy) ∧ CJ w (w6.setCell ⟨g, 3, none⟩ vs') g B d vn vs' vm vy sups' := by
 have hge := h.ge
 have hgB := h.gB
 have hs5 := h.sup.lt
 have hk : Bk w6 g 89 (clsCells d vn vs vm vy) := h.bk.grown hg (by intro e; have := (hs5 g e.symm).1; omega)
 have hr := setCell_grown w6 g 3 vs'
 have hn : Own w.heap.size w6 vn d.names := h.names.keep2 hg (by intro k hk e; have := h.nlt k hk; have := (hs5 k e).1; omega)
 refine ⟨hk, ?_, (h.out.grown hg (by intro e; have := (hs5 _ e.symm).1; omega)).far (by omega) _, (h.bel.grown hg h.bel.size (fun k hk => by have := (hs5 k hk).1; omega)).setCell (by simp; omega) _, hn.keep2 hr (hn.apart hk (by decide)), hs.keep2 hr (hs.apart hk (by decide)), hge, hgB, h.nlt⟩
 exact hk.set 3 vs'
theorem CJ.below {w wx W : World} {g B : Nat} {d : DefS} {vn vs vm vy : Value} {sups : LL} (h : CJ w wx g B d vn vs vm vy sups) (hb : Below wx.heap.size wx W) : CJ w W g B d vn vs vm vy sups :=
 ⟨h.bk.below hb, h.out.below hb, h.bel.trans (hb.mono h.bel.size), h.names.below hb, h.sup.below hb, h.ge, h.gB, h.nlt⟩
theorem CJ.must {w wx : World} {g B : Nat} {d : DefS} {vn vs vm vy : Value} {sups : LL} (h : CJ w wx g B d vn vs vm vy sups) (vm' : Value) : CJ w (wx.setCell ⟨g, 5, none⟩ vm') g B d vn vs vm' vy sups := by
 have hge := h.ge
 have hgr := setCell_grown wx g 5 vm'
 exact ⟨h.bk.set 5 vm', h.out.far (by omega) _, h.bel.setCell (by simp; omega) _, h.names.keep2 hgr (h.names.apart h.bk (by decide)), h.sup.keep2 hgr (h.sup.apart h.bk (by decide)), hge, h.gB, h.nlt⟩
theorem CJ.may {w wx : World} {g B : Nat} {d : DefS} {vn vs vm vy : Value} {sups : LL} (h : CJ w wx g B d vn vs vm vy sups) (vy' : Value) : CJ w (wx.setCell ⟨g, 6, none⟩ vy') g B d vn vs vm vy' sups := by
 have hge := h.ge
 have hgr := setCell_grown wx g 6 vy'
 exact ⟨h.bk.set 6 vy', h.out.far (by omega) _, h.bel.setCell (by simp; omega) _, h.names.keep2 hgr (h.names.apart h.bk (by decide)), h.sup.keep2 hgr (h.sup.apart h.bk (by decide)), hge, h.gB, h.nlt⟩
theorem CJ.grown {w wx W : World} {g B : Nat} {d : DefS} {vn vs vm vy : Value} {sups : LL} (h : CJ w wx g B d vn vs vm vy sups) {r : Option Nat} {N : Nat} (hg : wx.grownBy W r) (hN : wx.heap.size ≤ N) (hr : ∀ k, r = some k → N ≤ k) : CJ w W g B d vn vs vm vy sups :=
 h.below ⟨hg.os, hg.tape, hg.output, hg.size, fun k hk => hg.block k hk (by intro e; have := hr k e.symm; omega)⟩
theorem del_c {w w3 : World} {g B BM BY : Nat} {d : DefS} {vn vs vm vy : Value} {sups mu my : LL} {Am : Option Addr} {cm : Nat} (hC : CJ w w3 g B d vn vs vm vy sups) (hvm : vm = .slice Am mu.length cm) (hm : Own BM w3 (.slice Am mu.length cm) mu) (hml : mu.length ≤ 1000000) {Ay : Option Addr} {cy : Nat} (hy : Own BY w3 (.slice Ay my.length cy) my) (hyl : my.length ≤ 1000000) (hgY : g < BY ∧ B ≤ BY ∧ (∀ k, vs.ownBlock = some k → k < BY)) (hlt : ∀ k, (Value.slice Am mu.length cm).ownBlock = some k → k < BY) :
  Calls Tryz.prog 89 #[.slice Ay my.length cy, .func (.func 91) #[] #[.pointer (some ⟨g, 0, none⟩)]] w3 fun e w' => ∃ A n c, e = .returned (.slice A n c) ∧ CJ w w' g B d vn vs vm vy sups ∧ Own BM w' (.slice Am mu.length cm) mu ∧ TextsT w' (.slice A n c) (my.filter fun n => !mu.contains n) ∧ ∀ k, (Value.slice A n c).ownBlock = some k → BY ≤ k := by
 obtain ⟨hg, hB, hvs⟩ := hgY
 have hyo := hy.lt
 have hF : AskG w3 (Value.slice Ay my.length cy).ownBlock 91 #[.pointer (some ⟨g, 0, none⟩)] my (fun n => mu.contains n) := by
  refine ⟨fun x hx W hW => ?_, fun _ _ => by kernel_rfl⟩
  have hbW : Bk W g 89 (clsCells d vn vs vm vy) := hC.bk.grown hW (by intro e; have := (hyo g e.symm).1; omega)
  have hmW := hm.keep2 hW (by intro k hk e; have := hlt k hk; have := (hyo k e).1; omega)
  have := notmust_c g _ mu (.slice Am mu.length cm) x W hbW (by rw [← hvm]; rfl) hmW.texts hml
  exact this
 refine (DeleteFunc_c _ _ my BY _ w3 hy hyl _ hF).mono ?_
 rintro e w' ⟨A, n, c, rfl, hT, hgr, hob⟩
 refine ⟨A, n, c, rfl, ?_, hm.keep2 hgr (by intro k hk e; have := hlt k hk; have := (hyo k e).1; omega), hT, fun k hk => (hyo k (hob k hk)).1⟩
 have hgw := hC.ge
 refine ⟨hC.bk.grown hgr (by intro e; have := (hyo g e.symm).1; omega), hC.out.grown hgr (by intro e; have := (hyo _ e.symm).1; omega), hC.bel.grown hgr hC.bel.size (fun k hk => by have := (hyo k hk).1; omega), hC.names.keep2 hgr (by intro k hk e; have := hC.nlt k hk; have := (hyo k e).1; omega), hC.sup.keep2 hgr (by intro k hk e; have := hvs k hk; have := (hyo k e).1; omega), hC.ge, hC.gB, hC.nlt⟩
theorem class_out {w W : World} {L : List DefS} {i : Nat} {d : DefS} {vn vs vm vy : Value} {tmps : Array Value} (hz : Bk W w.heap.size 89 (clsCells d vn vs vm vy)) (h4 : tmps[4]? = some (.pointer (some ⟨w.heap.size, 0, none⟩))) (h5 : tmps[5]? = some (.int .i64 0))
  (h : ClassRet w L i d (.returned (.tuple #[clsV d vn vs vm vy, .int .i64 0])) W) :
  bodyPost Tryz.prog Tryz.f48 (ClassRet w L i d) .ret { tmps := tmps, defers := [] } W := by
 have e4 : tmps[4]?.getD undef = .pointer (some ⟨w.heap.size, 0, none⟩) := by rw [h4]; rfl
 have e5 : tmps[5]?.getD undef = .int .i64 0 := by rw [h5]; rfl
 have c0 := hz.cell 0
 have c1 := hz.cell 1
 have c2 := hz.cell 2
 have c3 := hz.cell 3
 have c4 := hz.cell 4
 have c5 := hz.cell 5
 have c6 := hz.cell 6
 simp only [clsCells, List.getElem?_toArray, List.getElem?_cons_zero, List.getElem?_cons_succ] at c0 c1 c2 c3 c4 c5 c6
 refine bodyPost_ret (v := .tuple #[clsV d vn vs vm vy, .int .i64 0]) ?_ rfl h
 simp [results, Tryz.results48, go_sem, e4, e5, c0, c1, c2, c3, c4, c5, c6, clsV, clsCells]
theorem Class_c (s : Nat) (ps : List Nat) (L : List DefS) (x : LU) (i : Nat) (d : DefS) (w : World) (hS : SchAt w s ps L) (hlim : ∀ d ∈ L, DefLim d) (hN : L.length ≤ 1000) (hk : ∀ d ∈ L, ∀ n ∈ d.sup, (findD L d.cls n).isSome = true) (hkm : ∀ d ∈ L, ∀ n ∈ d.must, (findD L false n).isSome = true) (hky : ∀ d ∈ L, ∀ n ∈ d.may, (findD L false n).isSome = true) (hx : x.length ≤ 1000000) (hf : findD L true x = some i) (hd : L[i]? = some d) :
  Calls Tryz.prog 48 #[ptrV s, .string ⟨x.toArray⟩] w (ClassRet w L i d) := by
 have hi := findD_lt hf
 have hdc : d.cls = true := by
  obtain ⟨d', h1, h2, _⟩ := findD_at hf
  rw [hd] at h1
  cases h1
  exact h2
 have hmem : d ∈ L := List.mem_of_getElem? hd
 have hb0 : Below w.heap.size w (w.alloc zeroCls) := (Below.refl _ _).alloc (Nat.le_refl _) _
 have hk0 : Bk (w.alloc zeroCls) w.heap.size 89 #[.string ⟨#[]⟩, .string ⟨#[]⟩, .slice none 0 0, .slice none 0 0, .int .i64 0, .slice none 0 0, .slice none 0 0] := Bk.new w _ _
 have hF := find_c s ps L true x _ (hS.below hb0) hx
 rw [hf] at hF
 have HF : Hid (Calls Tryz.prog 38 #[.pointer (some ⟨s, 0, none⟩), .bool true, .string ⟨x.toArray⟩] (w.alloc zeroCls) fun e w' => e = .returned (.pointer (some ⟨pAt ps i, 0, none⟩)) ∧ Below w.heap.size w w' ∧ Bk w' w.heap.size 89 #[.string ⟨#[]⟩, .string ⟨#[]⟩, .slice none 0 0, .slice none 0 0, .int .i64 0, .slice none 0 0, .slice none 0 0]) := hiD (hF.mono fun e w' ⟨h1, h2⟩ => ⟨h1, hb0.trans (h2.mono hb0.size), hk0.below h2⟩)
 have hdf := hS.defAt hd
 have hl := hlim d hmem
 obtain ⟨vn, vs, vm, vy, hBK, hvn, hvs, _⟩ := id hdf
 have HN : Hid (∀ W : World, Below w.heap.size w W → Calls Tryz.prog 77 #[.pointer (some ⟨pAt ps i, 0, none⟩)] W fun e w' => e = .returned (.string ⟨d.name.toArray⟩) ∧ W = w') := hiD fun W hb => dname_c (pAt ps i) d W (hdf.below hb)
 have HC := hiD (fun (W : World) (hb : Below w.heap.size w W) => CloneS_c d.names vn W (hvn.below hb) hl.names.1)
 obtain ⟨An, nn, cn, rfl⟩ := hvn.isSlice
 obtain ⟨As, ns, cs, rfl⟩ := hvs.isSlice
 obtain ⟨rfl, hcs⟩ := texts_len hvs
 have HK : Hid (∀ W : World, Below w.heap.size w W → W.cell? ⟨pAt ps i, 1, none⟩ = some (.string ⟨d.oid.toArray⟩) ∧ W.cell? ⟨pAt ps i, 2, none⟩ = some (.slice An nn cn) ∧ W.cell? ⟨pAt ps i, 13, none⟩ = some (.int .i64 d.kind)) := hiD fun W hb => by
  have hB2 := hBK.below hb
  exact ⟨hB2.cell 1, hB2.cell 2, hB2.cell 13⟩
 have HK3 : Hid (∀ W : World, Below w.heap.size w W → W.cell? ⟨pAt ps i, 3, none⟩ = some (.slice As d.sup.length cs)) := hiD fun W hb => (hBK.below hb).cell 3
 have hsl := hl.sup
 have HSU : Hid (∀ k (h : k < d.sup.length), ∃ j, findD L true d.sup[k] = some j ∧ (∃ g, As = some ⟨g, 0, none⟩ ∧ ∀ W : World, Below w.heap.size w W → W.cell? ⟨g, k, none⟩ = some (.string ⟨d.sup[k].toArray⟩)) ∧ (∀ W : World, Below w.heap.size w W → Calls Tryz.prog 38 #[.pointer (some ⟨s, 0, none⟩), .bool true, .string ⟨d.sup[k].toArray⟩] W fun e w' => e = .returned (.pointer (some ⟨pAt ps j, 0, none⟩)) ∧ Below W.heap.size W w') ∧ (∀ W : World, Below w.heap.size w W → Calls Tryz.prog 77 #[.pointer (some ⟨pAt ps j, 0, none⟩)] W fun e w' => e = .returned (.string ⟨(nameOf L j).toArray⟩) ∧ W = w')) := hiD fun k h => by
  have h1 := hk d hmem _ (List.getElem_mem h)
  rw [hdc] at h1
  obtain ⟨j, hj⟩ := Option.isSome_iff_exists.1 h1
  obtain ⟨e, he, _⟩ := findD_at hj
  have hne : nameOf L j = e.name := by unfold nameOf; rw [he]
  obtain ⟨g, hg, hck⟩ := texts_at hvs h
  refine ⟨j, hj, ⟨g, hg, fun W hW => (hW.cell (p := ⟨g, k, none⟩) (cell_lt hck)).trans hck⟩, fun W hW => ?_, fun W hW => ?_⟩
  ·have := find_c s ps L true d.sup[k] W (hS.below hW) (hsl.2 _ (List.getElem_mem h))
   rw [hj] at this
   exact this
  ·rw [hne]
   exact dname_c _ e W ((hS.below hW).defAt he)
 have HAM : Hid (∀ (W : World) (m : Nat), m = W.heap.size → Below w.heap.size w W → Calls Tryz.prog 87 #[.pointer (some ⟨s, 0, none⟩), .pointer (some ⟨pAt ps i, 0, none⟩), .slice none 0 0, .map (some m), .func (.func 88) #[] #[]] (W.alloc (.map #[] 0)) fun e w' => ∃ A c, e = .returned (.slice A (mustD L i).length c) ∧ Below W.heap.size W w' ∧ Own W.heap.size w' (.slice A (mustD L i).length c) (mustD L i) ∧ (mustD L i).length ≤ 1000) := hiD fun W m hm hW => by
  subst hm
  have hSW := hS.below hW
  have := all_c W s W.heap.size ps L DefS.must _ hSW hlim hN (Nat.le_refl _) hk hkm (of_must W s ps L hSW hlim) (L.length + 1) i ([], []) (.slice none 0 0) (W.alloc (.map #[] 0)) ((Below.refl _ _).alloc (Nat.le_refl _) _) (by simp) (by simp) hi (fun d' h' => by rw [hd] at h'; cases h'; exact hdc) (by simp) (Own.nil (by rw [World.size_alloc]; omega)) (SeenP.made W ps) (NmOK.nil L)
  refine this.mono ?_
  rintro e w' ⟨h1, h2, h3, v, rfl, h4⟩
  obtain ⟨A, c, rfl, _⟩ := h4.isSlice
  exact ⟨A, c, rfl, ((Below.refl _ _).alloc (Nat.le_refl _) _).trans h1, h4, Nat.le_trans h2.len hN⟩
 have HAY : Hid (∀ (W : World) (m : Nat), m = W.heap.size → Below w.heap.size w W → Calls Tryz.prog 87 #[.pointer (some ⟨s, 0, none⟩), .pointer (some ⟨pAt ps i, 0, none⟩), .slice none 0 0, .map (some m), .func (.func 90) #[] #[]] (W.alloc (.map #[] 0)) fun e w' => ∃ A c, e = .returned (.slice A (allD L DefS.may i).length c) ∧ Below W.heap.size W w' ∧ Own W.heap.size w' (.slice A (allD L DefS.may i).length c) (allD L DefS.may i) ∧ (allD L DefS.may i).length ≤ 1000) := hiD fun W m hm hW => by
  subst hm
  have hSW := hS.below hW
  have := all_c W s W.heap.size ps L DefS.may _ hSW hlim hN (Nat.le_refl _) hk hky (of_may W s ps L hSW hlim) (L.length + 1) i ([], []) (.slice none 0 0) (W.alloc (.map #[] 0)) ((Below.refl _ _).alloc (Nat.le_refl _) _) (by simp) (by simp) hi (fun d' h' => by rw [hd] at h'; cases h'; exact hdc) (by simp) (Own.nil (by rw [World.size_alloc]; omega)) (SeenP.made W ps) (NmOK.nil L)
  refine this.mono ?_
  rintro e w' ⟨h1, h2, h3, v, rfl, h4⟩
  obtain ⟨A, c, rfl, _⟩ := h4.isSlice
  exact ⟨A, c, rfl, ((Below.refl _ _).alloc (Nat.le_refl _) _).trans h1, h4, Nat.le_trans h2.len hN⟩
 have hyd : mayD L i = (allD L DefS.may i).filter fun n => !(mustD L i).contains n := rfl
 obtain ⟨my, hmy⟩ : ∃ m, allD L DefS.may i = m := ⟨_, rfl⟩
 obtain ⟨mu, hmu⟩ : ∃ m, mustD L i = m := ⟨_, rfl⟩
 rw [hmy, hmu] at hyd
 rw [hmy] at HAY
 rw [hmu] at HAM
 have HYD := hiD hyd
 have HMU := hiD hmu
 clear hmy hmu
 clear hF hS hdf hl hvn hvs hBK hk hkm hky hlim hyd hk0 hb0 hf
 unfold ptrV
 go_enter Tryz.func48, Tryz.ntmps48
 go_upto_region 4 with (go_at_call 38; refine HF.out.mono ?_; rintro e w1 ⟨rfl, hb1, hz1⟩)
 have a1 : Below w.heap.size w w1.drew := hb1.drew
 have a2 : Below w.heap.size w (w1.alloc zeroCls).drew := (hb1.alloc hb1.size _).drew
 have a1n : Bk w1 w.heap.size 89 #[.string ⟨#[]⟩, .string ⟨#[]⟩, .slice none 0 0, .slice none 0 0, .int .i64 0, .slice none 0 0, .slice none 0 0] := hz1
 have a2o : Bk (w1.alloc zeroCls) w.heap.size 89 #[.string ⟨#[]⟩, .string ⟨#[]⟩, .slice none 0 0, .slice none 0 0, .int .i64 0, .slice none 0 0, .slice none 0 0] := hz1.alloc _
 have a2n : Bk (w1.alloc zeroCls) w1.heap.size 89 #[.string ⟨#[]⟩, .string ⟨#[]⟩, .slice none 0 0, .slice none 0 0, .int .i64 0, .slice none 0 0, .slice none 0 0] := Bk.new w1 _ _
 have hgw : w.heap.size < w1.heap.size := hz1.lt
 go_cut [7] (fun s7 wx => ∃ (g B : Nat) (A : Option Addr) (n c : Nat), s7 = .pointer (some ⟨g, 0, none⟩) ∧ Aside (CJ w wx g B d (.slice A n c) (.slice none 0 0) (.slice none 0 0) (.slice none 0 0) []))
 case first =>
  go_region_held3 (fun W => W.cell? ⟨pAt ps i, 1, none⟩ = some (.string ⟨d.oid.toArray⟩) ∧ W.cell? ⟨pAt ps i, 2, none⟩ = some (.slice An nn cn) ∧ W.cell? ⟨pAt ps i, 13, none⟩ = some (.int .i64 d.kind))
  (first | (with_reducible exact HK.out _ a1) | (with_reducible exact HK.out _ a2) | (with_reducible exact HK.out _ hB3) | (with_reducible exact HK.out _ (hB3.alloc hB3.size _)) | (with_reducible exact HK.out _ (below_set7 hB3 (Nat.le_of_lt hgw) _ _ _ _ _ _ _)) | fail)
  (first
   | (go_at_call 77; refine (HN.out _ (by first | (with_reducible exact a1) | (with_reducible exact a2))).mono ?_; rintro e w' ⟨rfl, rfl⟩)
   | (go_at_call 55; refine (HC.out _ (by first | (with_reducible exact a1) | (with_reducible exact a2))).mono ?_; rintro e w3 ⟨v3, rfl, hO3, hb3⟩; obtain ⟨A3, c3, rfl, hc3⟩ := hO3.isSlice; have hB3 : Below w.heap.size w w3 := (by first | (with_reducible exact a1.trans (hb3.mono a1.size)) | (with_reducible exact a2.trans (hb3.mono a2.size))); have KO := hiD (show Bk w3 w.heap.size 89 #[.string ⟨#[]⟩, .string ⟨#[]⟩, .slice none 0 0, .slice none 0 0, .int .i64 0, .slice none 0 0, .slice none 0 0] from (by first | (with_reducible exact a1n.below (below_undrew hb3)) | (with_reducible exact a2o.below (below_undrew hb3)))); (first | (have KK := hiD (a2n.below (below_undrew (w := w1.alloc zeroCls) hb3)); have kc0 : w3.cell? ⟨w1.heap.size, 0, none⟩ = some (.string ⟨#[]⟩) := KK.out.cell 0; have kc1 : w3.cell? ⟨w1.heap.size, 1, none⟩ = some (.string ⟨#[]⟩) := KK.out.cell 1; have kc2 : w3.cell? ⟨w1.heap.size, 2, none⟩ = some (.slice none 0 0) := KK.out.cell 2; have kc3 : w3.cell? ⟨w1.heap.size, 3, none⟩ = some (.slice none 0 0) := KK.out.cell 3; have kc4 : w3.cell? ⟨w1.heap.size, 4, none⟩ = some (.int .i64 0) := KK.out.cell 4; have kc5 : w3.cell? ⟨w1.heap.size, 5, none⟩ = some (.slice none 0 0) := KK.out.cell 5; have kc6 : w3.cell? ⟨w1.heap.size, 6, none⟩ = some (.slice none 0 0) := KK.out.cell 6; have fz0 : w3.frozen? ⟨w1.heap.size, 0, none⟩ = false := KK.out.frozen 0; have fz1 : w3.frozen? ⟨w1.heap.size, 1, none⟩ = false := KK.out.frozen 1; have fz2 : w3.frozen? ⟨w1.heap.size, 2, none⟩ = false := KK.out.frozen 2; have fz3 : w3.frozen? ⟨w1.heap.size, 3, none⟩ = false := KK.out.frozen 3; have fz4 : w3.frozen? ⟨w1.heap.size, 4, none⟩ = false := KK.out.frozen 4; have fz5 : w3.frozen? ⟨w1.heap.size, 5, none⟩ = false := KK.out.frozen 5; have fz6 : w3.frozen? ⟨w1.heap.size, 6, none⟩ = false := KK.out.frozen 6; have HFI := hiD (cj_early (d := d) hgw hB3 KO.out KK.out (hO3.lower (by simp <;> omega))); clear KK) | (have HFI := hiD (cj_late (d := d) hB3 KO.out (hO3.lower (by simp <;> omega)))))))
  all_goals
  go_wp2_with fail
  go_meet
  exact ⟨_, _, A3, d.names.length, c3, rfl, HFI.out⟩
 case rest =>
  clear a1 a2 a1n a2o a2n hgw hb1 hz1 HN HC HK HF
  obtain ⟨g, B, A, n, c, rfl, HC5⟩ := hcut
  have c3 := HK3.out wc HC5.out.bel
  have H5 := hiD HC5.out
  clear HC5
  go_wp2_with fail
  go_loopg [37] d.sup.length (fun gk i2 wr => ∃ (k : Nat) (vs : Value), k ≤ d.sup.length ∧ i2 = .int .i64 k ∧ Aside (k + gk = d.sup.length) ∧ Aside (CJ w wr g B d (.slice A n c) vs (.slice none 0 0) (.slice none 0 0) ((supNames L d).take k)))
  case atStart => exact ⟨0, .slice none 0 0, Nat.zero_le _, rfl, by show _ = _; omega, H5.out⟩
  case round =>
  clear H5 c3
  obtain ⟨k, vs, hk, rfl, AG, AC⟩ := hrel
  by_cases hlt : k < d.sup.length
  ·obtain ⟨q, rfl⟩ : ∃ q, gk = q + 1 := ⟨gk - 1, by have := AG.out; omega⟩
   obtain ⟨j, hj, ⟨gs, rfl, hck⟩, hFj, hNj⟩ := HSU.out k hlt
   have ck := hck wr AC.out.bel
   have hstep := supNames_succ L d hlt hj
   generalize nameOf L j = nm at hNj hstep
   have HFJ := hiD (hFj _ AC.out.bel.drew)
   have HNJ := hiD hNj
   have HST := hiD hstep
   obtain ⟨Av, cv, rfl, hcv⟩ := AC.out.sup.isSlice
   have HAC := hiD AC.out
   have hml : ((supNames L d).take k).length < 4398046511104 := by have := hsl.1; unfold supNames; simp; omega
   generalize hts : (supNames L d).take k = tk at *
   have g3 : wr.cell? ⟨g, 3, none⟩ = some (.slice Av tk.length cv) := HAC.out.bk.cell 3
   clear hck hFj hNj hstep hj AC
   generalize d.sup[k] = sk at ck HFJ
   go_wp2_with fail
   go_region_law (first
    | (go_simp; go_at_call 38; refine HFJ.out.mono ?_; rintro e w5 ⟨rfl, hb5x⟩; have hb5 := below_undrew hb5x; clear hb5x; have hC5 := HAC.out.below hb5; have g5 : w5.cell? ⟨g, 3, none⟩ = some (.slice Av tk.length cv) := hC5.bk.cell 3; have g5a : (w5.alloc (.cells #[.string ⟨nm.toArray⟩] 9)).cell? ⟨g, 3, none⟩ = some (.slice Av tk.length cv) := (World.cell?_alloc_lt _ _ _ hC5.bk.lt).trans g5; have HC5 := hiD hC5; have HO5 := hiD hC5.sup; have HN5 := hiD (HNJ.out w5 hC5.bel); clear hC5)
    | (go_simp; go_at_call 77; refine HN5.out.mono ?_; rintro e w' ⟨rfl, rfl⟩)
    | (refine step_own_one (c := nm) (by rfl) _ _ (by rfl) rfl HO5.out rfl hml ?_; intro v' w6 hO6 hg6; obtain ⟨A6, n6, c6, rfl⟩ : ∃ A n c, v' = .slice A n c := (by obtain ⟨A, c, h, _⟩ := hO6.isSlice; exact ⟨A, _, c, h⟩); obtain ⟨hk6, hC6⟩ := HC5.out.more hg6 hO6; have g6 : w6.cell? ⟨g, 3, none⟩ = some (.slice Av tk.length cv) := hk6.cell 3; have f6 := hk6.frozen 3; have HC6 := hiD hC6; clear hC6))
   all_goals
    go_wp2_with fail
    go_roundg q
    case measure => omega
    case rel => exact ⟨k + 1, _, by omega, by go_num, by have := AG.out; show _ = _; omega, by rw [HST.out]; exact HC6.out⟩
  ·obtain rfl : k = d.sup.length := by omega
   have hsf : (supNames L d).take d.sup.length = supNames L d := by
    rw [List.take_of_length_le]
    unfold supNames; simp
   obtain ⟨Av, cv, rfl, hcv⟩ := AC.out.sup.isSlice
   have HAC := hiD AC.out
   rw [hsf] at HAC
   clear AC hsf HSU
   have hmm := @run_makeMap Tryz.prog
   have hmf : ∀ (fn : Fn) (first cap : Array Value) (w : World), (Instr.makeFunc fn first cap).run Tryz.prog w = .ok (.func fn first cap) w := fun _ _ _ _ => rfl
   go_upto_region 12 with (first
    | (go_at_call 87; (with_reducible refine (HAM.out _ _ rfl HAC.out.bel).mono ?_); rintro e w2 ⟨Am, cm, rfl, hb2, hO2, hl2⟩; have HC2 := hiD (HAC.out.below hb2); have k5 := HC2.out.bk.cell 5; have f5 := HC2.out.bk.frozen 5; have HC2m := hiD (HC2.out.must (.slice Am mu.length cm)); have HO2m := hiD (hO2.keep2 (setCell_grown w2 g 5 (.slice Am mu.length cm)) (hO2.apart HC2.out.bk (by decide))); have hz2 : (w2.setCell ⟨g, 5, none⟩ (.slice Am mu.length cm)).heap.size = w2.heap.size := (by simp [World.setCell]))
    | (go_at_call 87; (with_reducible refine (HAY.out _ _ hz2.symm HC2m.out.bel).mono ?_); rintro e w3 ⟨Ay, cy, rfl, hb3, hO3, hl3⟩; have HC3 := hiD (HC2m.out.below hb3); have HO3m := hiD (HO2m.out.below hb3); have HDF := hiD (del_c (mu := mu) (my := my) HC3.out rfl HO3m.out (by omega) hO3 (by omega) ⟨HC2m.out.bk.lt, Nat.le_trans HC2m.out.sup.2 (Nat.le_refl _), fun k hk => (HC2m.out.sup.lt k hk).2⟩ (fun k hk => (HO2m.out.lt k hk).2)))
    | (go_at_call 89; refine HDF.out.mono ?_; rintro e w4 ⟨A4, n4, c4, rfl, hC4, hO4, hT4, hB4⟩; have k6 := hC4.bk.cell 6; have f6 := hC4.bk.frozen 6))
   have hC5 := hC4.may (.slice A4 n4 c4)
   have hT5 := hT4.far hC4.bk (by decide) (setCell_grown w4 g 6 (.slice A4 n4 c4))
   have hM5 := hO4.keep2 (setCell_grown w4 g 6 (.slice A4 n4 c4)) (hO4.apart hC4.bk (by decide))
   have hc0 := hC5.bk.cell 0
   have hc1 := hC5.bk.cell 1
   have hc2 := hC5.bk.cell 2
   have hc3 := hC5.bk.cell 3
   have hc4 := hC5.bk.cell 4
   have hc5 := hC5.bk.cell 5
   have hc6 := hC5.bk.cell 6
   simp only [clsCells, List.getElem?_toArray, List.getElem?_cons_zero, List.getElem?_cons_succ] at hc0 hc1 hc2 hc3 hc4 hc5 hc6
   have oc0 := hC5.out.cell 0
   have oc1 := hC5.out.cell 1
   have oc2 := hC5.out.cell 2
   have oc3 := hC5.out.cell 3
   have oc4 := hC5.out.cell 4
   have oc5 := hC5.out.cell 5
   have oc6 := hC5.out.cell 6
   simp only [gs3] at oc0 oc1 oc2 oc3 oc4 oc5 oc6
   have of := fun i => hC5.out.frozen i
   have HC5 := hiD hC5
   have HT5 := hiD hT5
   have HM5 := hiD hM5
   clear hC5 hT5 hM5 hC4 hO4 hT4
   generalize (w4.setCell ⟨g, 6, none⟩ (.slice A4 n4 c4)) = w5 at *
   go_wp2_with fail
   have hz := bk_set7 _ _ _ _ _ _ _ (.string ⟨d.oid.toArray⟩) (.string ⟨d.name.toArray⟩) (.slice A n c) (.slice Av (supNames L d).length cv) (.int .i64 d.kind) (.slice Am mu.length cm) (.slice A4 n4 c4) HC5.out.out
   have hgr := grown_set7 w5 w.heap.size (.string ⟨d.oid.toArray⟩) (.string ⟨d.name.toArray⟩) (.slice A n c) (.slice Av (supNames L d).length cv) (.int .i64 d.kind) (.slice Am mu.length cm) (.slice A4 n4 c4)
   exact class_out (L := L) (i := i) (d := d) hz rfl rfl (by
    unfold ClassRet
    rw [HYD.out, HMU.out]
    exact ⟨below_set7 HC5.out.bel (Nat.le_refl _) _ _ _ _ _ _ _, _, _, _, _, rfl, (HC5.out.names.keep2 hgr (HC5.out.names.apart HC5.out.out (by decide))).texts, (HC5.out.sup.keep2 hgr (HC5.out.sup.apart HC5.out.out (by decide))).texts, (HM5.out.keep2 hgr (HM5.out.apart HC5.out.out (by decide))).texts, (HT5.out.far HC5.out.out (by decide) hgr).1, by omega, by have := List.length_filter_le (fun n => !mu.contains n) my; omega, fun k hk => Nat.le_trans HAC.out.bel.size (HM5.out.lt k hk).1, fun k hk => Nat.le_trans HC2m.out.bel.size (hB4 k hk)⟩)
end Go.Proofs.YtkkbbhlihilnpaaGreatDoor
