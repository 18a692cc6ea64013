import Derived.Test.YtkkbbhlihilnpaaGreatDoorWra
import Derived.Lib.SlicesDelete
import Derived.Test.YtkkbbhlihilnpaaGreatDoorWr9
set_option linter.all false
set_option maxHeartbeats 8000000
set_option maxRecDepth 100000
namespace Go.Proofs.YtkkbbhlihilnpaaGreatDoor
open Go.RowKit
theorem setCells_at {g : Nat} {t : TypeId} : ∀ (vs : List Value) (o : Nat) (w : World) (cs : Array Value), Bk w g t cs → o + vs.length ≤ cs.size → ∃ cs', Bk (w.setCells g o vs) g t cs' ∧ cs'.size = cs.size ∧ cs'.toList = cs.toList.take o ++ (vs ++ cs.toList.drop (o + vs.length))
 | [], o, w, cs, h, _ => ⟨cs, h, rfl, by simp⟩
 | v :: r, o, w, cs, h, hl => by
  simp only [List.length_cons] at hl
  obtain ⟨cs', h1, h2, h3⟩ := setCells_at r (o + 1) (w.setCell ⟨g, o, none⟩ v) _ (h.set o v) (by rw [Array.size_setIfInBounds]; omega)
  rw [Array.size_setIfInBounds] at h2
  refine ⟨cs', h1, h2, ?_⟩
  rw [h3, Array.toList_setIfInBounds]
  have ho : o < cs.toList.length := by rw [Array.length_toList]; omega
  have e1 : (cs.toList.set o v).take (o + 1) = cs.toList.take o ++ [v] := by
   rw [List.take_succ_eq_append_getElem (by rw [List.length_set]; exact ho), List.take_set, List.set_eq_of_length_le (by rw [List.length_take]; omega)]
   simp
  have e2 : (cs.toList.set o v).drop (o + 1 + r.length) = cs.toList.drop (o + (r.length + 1)) := by
   rw [List.drop_set, if_pos (by omega), show o + 1 + r.length = o + (r.length + 1) by omega]
  rw [e1, e2, List.append_assoc]
  rfl
theorem row_del {B g cap n i sz : Nat} {w : World} {t : TypeId} {xs zs : List Value} (h : w.ownsRow B t sz (.slice (some ⟨g, 0, none⟩) n cap) n xs) (hi : i < n) (hz : zs.length = sz) :
  ((w.setCells g (0 + i * sz) (xs.drop ((i + 1) * sz))).setCells g ((n - 1) * sz) zs).ownsRow B t sz (.slice (some ⟨g, 0, none⟩) (n - 1) cap) (n - 1) (xs.take (i * sz) ++ xs.drop ((i + 1) * sz)) := by
 obtain ⟨h1, h2⟩ := h
 rcases h2 with ⟨he, hn⟩ | ⟨g', cap', cur, he, r2, r3, r4, r5, r6, r7⟩
 ·cases he
 obtain ⟨rfl, rfl⟩ : g = g' ∧ cap = cap' := by cases he; exact ⟨rfl, rfl⟩
 obtain ⟨k, rfl⟩ : ∃ k, n = i + 1 + k := ⟨n - (i + 1), by omega⟩
 have m1 : (i + 1 + k) * sz = i * sz + sz + k * sz := by rw [Nat.add_mul, Nat.add_mul, Nat.one_mul]
 have m2 : (i + 1) * sz = i * sz + sz := by rw [Nat.add_mul, Nat.one_mul]
 have m3 : (i + 1 + k - 1) * sz = i * sz + k * sz := by rw [show i + 1 + k - 1 = i + k by omega, Nat.add_mul]
 have m4 : (i + 1 + k) * sz ≤ cap * sz := Nat.mul_le_mul_right _ r4
 have hd : (xs.drop ((i + 1) * sz)).length = k * sz := by rw [List.length_drop, h1]; omega
 rw [m1] at h1 m4
 obtain ⟨c1, a1, a2, a3⟩ := setCells_at (xs.drop ((i + 1) * sz)) (0 + i * sz) w cur r3 (by rw [hd]; omega)
 obtain ⟨c2, b1, b2, b3⟩ := setCells_at zs ((i + 1 + k - 1) * sz) _ c1 a1 (by rw [hz]; omega)
 refine ⟨?_, .inr ⟨g, cap, c2, rfl, r2, b1, by omega, r5, by omega, ?_⟩⟩
 ·rw [List.length_append, hd, List.length_take, h1, m3]
  omega
 ·rw [b3]
  have hlen : (c1.toList.take ((i + 1 + k - 1) * sz)).length = (i + 1 + k - 1) * sz := by rw [List.length_take, Array.length_toList]; omega
  rw [List.take_append_of_le_length (by omega), List.take_of_length_le (by omega), a3, Nat.zero_add]
  have hx : cur.toList.take (i * sz) = xs.take (i * sz) := by
   rw [← r7, List.take_take]
   congr 1
   omega
  rw [hx, ← List.append_assoc]
  have hl2 : (xs.take (i * sz) ++ xs.drop ((i + 1) * sz)).length = (i + 1 + k - 1) * sz := by rw [List.length_append, hd, List.length_take, h1, m3]; omega
  rw [List.take_append_of_le_length (by omega), List.take_of_length_le (by omega)]
theorem strs_erase {α β : Type} (f : α → β) : ∀ (l : List α) (i : Nat), (l.map f).take (i * 1) ++ (l.map f).drop ((i + 1) * 1) = (l.eraseIdx i).map f := fun l i => by
 rw [Nat.mul_one, Nat.mul_one, List.eraseIdx_eq_take_drop_succ, List.map_append, List.map_take, List.map_drop]
theorem aflat_erase : ∀ (l : List AttrQ) (i : Nat), (l.flatMap aqCells).take (i * 2) ++ (l.flatMap aqCells).drop ((i + 1) * 2) = (l.eraseIdx i).flatMap aqCells
 | [], i => by simp
 | q :: l, 0 => by simp [aqCells]
 | q :: l, i + 1 => by
  have ih := aflat_erase l i
  have e1 : (i + 1) * 2 = i * 2 + 2 := by omega
  have e2 : (i + 1 + 1) * 2 = (i + 1) * 2 + 2 := by omega
  rw [List.flatMap_cons, List.eraseIdx_cons_succ, List.flatMap_cons, ← ih, e2, ← List.append_assoc]
  have t1 : (aqCells q ++ l.flatMap aqCells).take ((i + 1) * 2) = aqCells q ++ (l.flatMap aqCells).take (i * 2) := by rw [e1]; simp [aqCells, List.take_append]
  have t2 : (aqCells q ++ l.flatMap aqCells).drop ((i + 1) * 2 + 2) = (l.flatMap aqCells).drop ((i + 1) * 2) := by simp [aqCells]
  rw [t1, t2]
theorem aflat_set : ∀ (l : List AttrQ) (i : Nat) (h : i < l.length) (us : LL) (u : Value), (l.flatMap aqCells).set (i * 2 + 1) u = (l.set i (⟨l[i].1.typ, us⟩, u)).flatMap aqCells
 | q :: l, 0, _, us, u => by simp [aqCells]
 | q :: l, i + 1, h, us, u => by
  have ih := aflat_set l i (by simpa using h) us u
  have e1 : (i + 1) * 2 + 1 = i * 2 + 1 + 2 := by omega
  rw [List.flatMap_cons, List.set_cons_succ, List.flatMap_cons, e1, List.getElem_cons_succ, ← ih]
  simp [aqCells]
theorem OwnAt.setv {B g n cap : Nat} {w : World} {qs : List AttrQ} (h : OwnAt B w (.slice (some ⟨g, 0, none⟩) n cap) qs) {i : Nat} (hi : i < qs.length) (us : LL) (u : Value) :
  OwnAt B (w.setCell ⟨g, i * 2 + 1, none⟩ u) (.slice (some ⟨g, 0, none⟩) n cap) (qs.set i (⟨qs[i].1.typ, us⟩, u)) := by
 obtain ⟨⟨h1, h2⟩, h3⟩ := h
 rcases h2 with ⟨he, hn⟩ | ⟨g', cap', cur, he, r2, r3, r4, r5, r6, r7⟩
 ·cases he
 obtain ⟨rfl, rfl, rfl⟩ : g = g' ∧ n = qs.length ∧ cap = cap' := by cases he; exact ⟨rfl, rfl, rfl⟩
 have hk : Bk w g 46 cur := r3
 refine ⟨⟨by rw [aflat_len], .inr ⟨g, cap, _, by rw [List.length_set], r2, hk.set (i * 2 + 1) u, by rw [List.length_set]; exact r4, r5, by rw [Array.size_setIfInBounds]; exact r6, ?_⟩⟩, Nat.le_trans h3 (setCell_grown w g (i * 2 + 1) u).size⟩
 rw [← aflat_set qs i hi us u, ← r7, Array.toList_setIfInBounds, List.length_set, List.take_set]
theorem OwnAt.cells {B : Nat} {w : World} {v : Value} {qs : List AttrQ} (h : OwnAt B w v qs) {i : Nat} (hi : i < qs.length) : ∃ g c, v = .slice (some ⟨g, 0, none⟩) qs.length c ∧ qs.length ≤ c ∧ B ≤ g ∧ v.ownBlock = some g ∧ (∃ cs, Bk w g 46 cs) ∧ w.cell? ⟨g, i * 2, none⟩ = some (.string ⟨qs[i].1.typ.toArray⟩) ∧ w.cell? ⟨g, i * 2 + 1, none⟩ = some qs[i].2 := by
 have hr := h.reads
 obtain ⟨⟨h1, h2⟩, h3⟩ := h
 rcases h2 with ⟨he, hn⟩ | ⟨g, cap, cur, rfl, r2, r3, r4, r5, r6, r7⟩
 ·omega
 obtain ⟨A, c, he, hc, _, hx⟩ := hr
 obtain ⟨b, o, hA, hk⟩ := hx i hi
 subst hA
 obtain ⟨rfl, rfl, rfl⟩ : g = b ∧ 0 = o ∧ cap = c := by cases he; exact ⟨rfl, rfl, rfl⟩
 have k0 := hk 0 _ rfl
 have k1 := hk 1 _ rfl
 simp only [Nat.zero_add, Nat.add_zero] at k0 k1
 exact ⟨g, cap, rfl, r4, r2, rfl, ⟨cur, r3⟩, k0, k1⟩
def aliveN7 : LU := [99, 110, 61, 65, 44, 100, 99, 61, 122]
def aliveL7 : List Ent.AttrE := [⟨[111, 98, 106, 101, 99, 116, 67, 108, 97, 115, 115], [[112, 101, 114, 115, 111, 110]]⟩, ⟨[67, 78], [[65]]⟩, ⟨[115, 110], [[66]]⟩]
def aliveE7 : Ent.EntryE := ⟨aliveN7, [⟨[111, 98, 106, 101, 99, 116, 67, 108, 97, 115, 115], [[112, 101, 114, 115, 111, 110]]⟩, ⟨[99, 110], [[65]]⟩, ⟨[115, 110], [[66]]⟩]⟩
theorem make_alive7 : Ent.makeE (schE baseL) aliveN7 aliveL7 = (0, aliveE7) := by decide +kernel
theorem check_alive7 : Ent.checkE (schE baseL) aliveE7 = 0 := by decide +kernel
theorem has_alive7 : Ent.hasE (schE baseL) aliveE7 [110, 97, 109, 101] [32, 98, 32] = true := by decide +kernel
open Go.RowKit
def lightN (l : List Ent.AttrE) : Nat := (l.map fun a => 1 + a.vals.length).sum
theorem light_take {l : List Ent.AttrE} {k : Nat} (h : k < l.length) : lightN (l.take (k + 1)) = lightN (l.take k) + 1 + l[k].vals.length := by
 unfold lightN
 rw [List.take_succ_eq_append_getElem h, List.map_append, List.sum_append]
 simp
 omega
theorem light_le (l : List Ent.AttrE) (k : Nat) : lightN (l.take k) ≤ lightN l := by
 have : lightN l = lightN (l.take k) + lightN (l.drop k) := by
  unfold lightN
  rw [← List.sum_append, ← List.map_append, List.take_append_drop]
 omega
theorem light_len (l : List Ent.AttrE) : l.length ≤ lightN l := by
 unfold lightN
 induction l with
 | nil => simp
 | cons a l ih => simp only [List.length_cons, List.map_cons, List.sum_cons]; omega
theorem light7_c (l : List Ent.AttrE) (vl : Value) (w : World) (hv : AttrsA w vl l) (hb : lightN l ≤ 1048576) :
  Calls Tryz.prog 16 #[vl] w fun e w' => e = .returned (.bool (decide (lightN l ≤ 600))) ∧ w = w' := by
 obtain ⟨A, c, rfl, hc, hcell⟩ := hv.at
 have HV := hiD hcell
 have hll := light_len l
 clear hv hcell
 have hadd := add_at2
 obtain ⟨n, hn⟩ : ∃ n, n = l.length := ⟨_, rfl⟩
 go_enter Tryz.func16, Tryz.ntmps16
 go_wp2_with fail
 go_loopg [3, 4] l.length (fun gk m i wr => ∃ k : Nat, k ≤ l.length ∧ i = .int .i64 k ∧ m = .int .i64 (lightN (l.take k) : Nat) ∧ Aside (k + gk = l.length) ∧ w = wr)
 case atStart => exact ⟨0, by omega, rfl, rfl, by show _ = _; omega, rfl⟩
 case round =>
  obtain ⟨k, hk, rfl, rfl, AG, rfl⟩ := hrel
  have hle := light_le l k
  by_cases hlt : k < l.length
  ·obtain ⟨q, rfl⟩ : ∃ q, gk = q + 1 := ⟨gk - 1, by have := AG.out; omega⟩
   obtain ⟨b, o, va, rfl, c0, c1, hta⟩ := HV.out k hlt
   obtain ⟨Av, cv, rfl, hcv, hz⟩ := hta.at
   have HST := hiD (light_take hlt)
   have hle2 := light_le l (k + 1)
   rw [HST.out] at hle2
   clear c0 hta hz
   generalize lightN (l.take k) = N0 at *
   generalize l[k].vals.length = nv at *
   go_wp2_with fail
   go_roundg q
   case measure => omega
   case rel => exact ⟨k + 1, by omega, by go_num, by rw [HST.out]; go_num, by have := AG.out; show _ = _; omega, rfl⟩
  ·obtain rfl : k = l.length := by omega
   rw [List.take_length]
   go_wp2_with fail
   go_ret
   exact ⟨retb (by rw [Bool.eq_iff_iff]; simp; omega), rfl⟩
theorem base7_c (w : World) (hw : Env w) : Calls Tryz.prog 18 #[] w fun e w' => ∃ s ps, e = .returned (.pointer (some ⟨s, 0, none⟩)) ∧ Below w.heap.size w w' ∧ SchAt w' s ps baseL := by
 have HBs := hiD (Base_c w)
 have HNw : Hid (∀ (va vb : Value) (W : World), Below w.heap.size w W → Texts W va baseA → Texts W vb baseC → Calls Tryz.prog 28 #[va, vb] W fun e w' => Below W.heap.size W w' ∧ ∃ s ps, e = .returned (.tuple #[.pointer (some ⟨s, 0, none⟩), .int .i64 0, .int .i64 0]) ∧ SchAt w' s ps baseL) := hiD fun va vb W h h1 h2 => by
  have := New_c va vb baseA baseC W (hw.keep h) h1 h2 (by rw [baseA_len, baseC_len]; omega) (fun x hx => Nat.le_trans (base_short x hx) (by decide))
  rw [base_new] at this
  exact this
 clear hw
 go_enter Tryz.func18, Tryz.ntmps18
 go_wp2_with (first | (go_at_call 27; refine HBs.out.mono ?_; rintro e w1 ⟨rfl, hb1, hA1, hC1⟩) | (go_at_call 28; refine (HNw.out _ _ _ hb1 hA1.texts hC1.texts).mono ?_; rintro e w2 ⟨hb2, s, ps, rfl, hS2⟩; have hB2 := hb1.trans (hb2.mono hb1.size)))
 go_ret
 exact ⟨s, ps, rfl, hB2, hS2⟩
open Go.RowKit
theorem valsN_le : ∀ (l : List Ent.AttrE), (∀ a ∈ l, a.vals.length ≤ 200) → valsN l ≤ l.length * 200
 | [], _ => Nat.zero_le _
 | a :: l, h => by
  have ih := valsN_le l (fun x hx => h x (List.mem_cons_of_mem _ hx))
  have h0 := h a (List.mem_cons_self ..)
  rw [valsN_cons, List.length_cons, Nat.add_mul]
  omega
theorem texts_one7 {W : World} {g : Nat} {x : LU} (h : Bk W g 9 #[.string ⟨x.toArray⟩]) : TextsA W (.slice (some ⟨g, 0, none⟩) 1 1) [x] := by
 refine .inr ⟨⟨g, 0, none⟩, 1, rfl, Nat.le_refl _, fun j hj => ?_⟩
 have hj0 : j = 0 := by simpa using hj
 subst hj0
 exact h.cell 0
theorem alive_rows (w : World) {W : World} (hW : W = (((w.alloc (.cells #[.string ⟨#[112, 101, 114, 115, 111, 110]⟩] 9)).alloc (.cells #[.string ⟨#[65]⟩] 9)).alloc (.cells #[.string ⟨#[66]⟩] 9)).alloc (.cells #[.string ⟨#[111, 98, 106, 101, 99, 116, 67, 108, 97, 115, 115]⟩, .slice (some ⟨w.heap.size, 0, none⟩) 1 1, .string ⟨#[67, 78]⟩, .slice (some ⟨w.heap.size + 1, 0, none⟩) 1 1, .string ⟨#[115, 110]⟩, .slice (some ⟨w.heap.size + 1 + 1, 0, none⟩) 1 1] 46)) :
  Below w.heap.size w W ∧ AttrsA W (.slice (some ⟨w.heap.size + 1 + 1 + 1, 0, none⟩) 3 3) aliveL7 := by
 have b1 := bel_one w (.cells #[.string ⟨#[112, 101, 114, 115, 111, 110]⟩] 9)
 have k1 := Bk.new w 9 #[.string ⟨#[112, 101, 114, 115, 111, 110]⟩]
 have s1 : (w.alloc (.cells #[.string ⟨#[112, 101, 114, 115, 111, 110]⟩] 9)).heap.size = w.heap.size + 1 := by simp
 generalize w.alloc (.cells #[.string ⟨#[112, 101, 114, 115, 111, 110]⟩] 9) = W1 at *
 have b2 := bel_one W1 (.cells #[.string ⟨#[65]⟩] 9)
 have k2 := Bk.new W1 9 #[.string ⟨#[65]⟩]
 have s2 : (W1.alloc (.cells #[.string ⟨#[65]⟩] 9)).heap.size = W1.heap.size + 1 := by simp
 generalize W1.alloc (.cells #[.string ⟨#[65]⟩] 9) = W2 at *
 have b3 := bel_one W2 (.cells #[.string ⟨#[66]⟩] 9)
 have k3 := Bk.new W2 9 #[.string ⟨#[66]⟩]
 have s3 : (W2.alloc (.cells #[.string ⟨#[66]⟩] 9)).heap.size = W2.heap.size + 1 := by simp
 generalize W2.alloc (.cells #[.string ⟨#[66]⟩] 9) = W3 at *
 have b4 := bel_one W3 (.cells #[.string ⟨#[111, 98, 106, 101, 99, 116, 67, 108, 97, 115, 115]⟩, .slice (some ⟨w.heap.size, 0, none⟩) 1 1, .string ⟨#[67, 78]⟩, .slice (some ⟨w.heap.size + 1, 0, none⟩) 1 1, .string ⟨#[115, 110]⟩, .slice (some ⟨w.heap.size + 1 + 1, 0, none⟩) 1 1] 46)
 have k4 := Bk.new W3 46 #[.string ⟨#[111, 98, 106, 101, 99, 116, 67, 108, 97, 115, 115]⟩, .slice (some ⟨w.heap.size, 0, none⟩) 1 1, .string ⟨#[67, 78]⟩, .slice (some ⟨w.heap.size + 1, 0, none⟩) 1 1, .string ⟨#[115, 110]⟩, .slice (some ⟨w.heap.size + 1 + 1, 0, none⟩) 1 1]
 rw [← hW] at b4 k4
 rw [s3, s2, s1] at k4
 rw [s2, s1] at k3
 rw [s1] at k2
 have t1 := texts_one7 (x := [112, 101, 114, 115, 111, 110]) (((k1.below b2).below b3).below b4)
 have t2 := texts_one7 (x := [65]) ((k2.below b3).below b4)
 have t3 := texts_one7 (x := [66]) (k3.below b4)
 have c0 := k4.cell 0
 have c1 := k4.cell 1
 have c2 := k4.cell 2
 have c3 := k4.cell 3
 have c4 := k4.cell 4
 have c5 := k4.cell 5
 refine ⟨b1.trans ((b2.trans ((b3.trans (b4.mono b3.size)).mono b2.size)).mono b1.size), [(⟨[111, 98, 106, 101, 99, 116, 67, 108, 97, 115, 115], [[112, 101, 114, 115, 111, 110]]⟩, .slice (some ⟨w.heap.size, 0, none⟩) 1 1), (⟨[67, 78], [[65]]⟩, .slice (some ⟨w.heap.size + 1, 0, none⟩) 1 1), (⟨[115, 110], [[66]]⟩, .slice (some ⟨w.heap.size + 1 + 1, 0, none⟩) 1 1)], rfl, ⟨_, 3, rfl, by simp, fun h => (by cases h), fun j hj => ⟨w.heap.size + 1 + 1 + 1, 0, rfl, fun k u hu => ?_⟩⟩, fun q hq => ?_⟩
 ·match j, hj, k, hu with
  | 0, _, 0, hu => cases hu; exact c0
  | 0, _, 1, hu => cases hu; exact c1
  | 1, _, 0, hu => cases hu; exact c2
  | 1, _, 1, hu => cases hu; exact c3
  | 2, _, 0, hu => cases hu; exact c4
  | 2, _, 1, hu => cases hu; exact c5
  | j + 3, hj, _, _ => exact absurd hj (by simp)
  | 0, _, k + 2, hu => simp [aqCells] at hu
  | 1, _, k + 2, hu => simp [aqCells] at hu
  | 2, _, k + 2, hu => simp [aqCells] at hu
 ·simp only [List.mem_cons, List.not_mem_nil, or_false] at hq
  rcases hq with rfl | rfl | rfl
  ·exact t1
  ·exact t2
  ·exact t3
theorem alive_lim : ∀ a ∈ aliveL7, a.typ.length ≤ 140737488351232 ∧ a.vals.length ≤ 1000000 := by
 intro a ha
 simp only [aliveL7, List.mem_cons, List.not_mem_nil, or_false] at ha
 rcases ha with rfl | rfl | rfl <;> exact ⟨by decide, by decide⟩
theorem alive_limE : ∀ a ∈ aliveE7.attrs, a.typ.length ≤ 1000000 := by
 intro a ha
 simp only [aliveE7, List.mem_cons, List.not_mem_nil, or_false] at ha
 rcases ha with rfl | rfl | rfl <;> decide
theorem alive_find : ∀ x ∈ Ent.findE (schE baseL) aliveE7 Ent.wObj, x.length ≤ 140737488351232 := by
 have h : ((Ent.findE (schE baseL) aliveE7 Ent.wObj).all fun x => decide (x.length ≤ 140737488351232)) = true := by decide +kernel
 exact fun x hx => of_decide_eq_true (List.all_eq_true.1 h x hx)
theorem alive7_c (w : World) (hw : Env w) : Calls Tryz.prog 17 #[] w fun e w' => e = .returned (.bool true) ∧ Below w.heap.size w w' := by
 have HBs := hiD (Base_c w)
 have HNw : Hid (∀ (va vb : Value) (W : World), Below w.heap.size w W → Texts W va baseA → Texts W vb baseC → Calls Tryz.prog 28 #[va, vb] W fun e w' => Below W.heap.size W w' ∧ ∃ s ps, e = .returned (.tuple #[.pointer (some ⟨s, 0, none⟩), .int .i64 0, .int .i64 0]) ∧ SchAt w' s ps baseL) := hiD fun va vb W h h1 h2 => by
  have := New_c va vb baseA baseC W (hw.keep h) h1 h2 (by rw [baseA_len, baseC_len]; omega) (fun x hx => Nat.le_trans (base_short x hx) (by decide))
  rw [base_new] at this
  exact this
 have HM : Hid (∀ (W : World) (s : Nat) (ps : List Nat) (vl : Value), Below w.heap.size w W → SchAt W s ps baseL → AttrsA W vl aliveL7 → Calls Tryz.prog 19 #[.pointer (some ⟨s, 0, none⟩), .string ⟨#[99, 110, 61, 65, 44, 100, 99, 61, 122]⟩, vl] W fun e w' => Below W.heap.size W w' ∧ ∃ g c, e = .returned (.tuple #[.agg #[.string ⟨#[99, 110, 61, 65, 44, 100, 99, 61, 122]⟩, .slice (some ⟨g, 0, none⟩) 3 c], .int .i64 0]) ∧ w'.cell? ⟨g, 2, none⟩ = some (.string ⟨#[99, 110]⟩) ∧ AttrsA w' (.slice (some ⟨g, 0, none⟩) 3 c) aliveE7.attrs) := hiD fun W s ps vl h hS hv => by
  have := Make_c s ps baseL base_sound aliveN7 aliveL7 vl W (hw.keep h) hS hv (by decide) alive_lim
  rw [make_alive7] at this
  refine this.mono ?_
  rintro e w' ⟨hb, A, c, qs, rfl, hq, hO, hQ⟩
  have hA := hO.attrs hQ.ok
  have hl : qs.length = 3 := by have := congrArg List.length hq; simpa [aliveE7] using this
  obtain ⟨g, c', he, hc, _, _, _, x0, _⟩ := OwnAt.cells hO (i := 1) (by omega)
  have h1 : (qs[1]'(by omega)).1.typ = [99, 110] := by
   have : (qs.map (·.1))[1]? = some ⟨[99, 110], [[65]]⟩ := by rw [hq]; rfl
   rw [List.getElem?_map, List.getElem?_eq_getElem (by omega)] at this
   have h2 : (qs[1]'(by omega)).1 = ⟨[99, 110], [[65]]⟩ := Option.some.inj this
   rw [h2]
  rw [h1] at x0
  have hAe : A = some ⟨g, 0, none⟩ := by injection he
  subst hAe
  rw [hq] at hA
  exact ⟨hb, g, c, rfl, x0, hA⟩
 have HC : Hid (∀ (W : World) (s : Nat) (ps : List Nat) (va : Value), SchAt W s ps baseL → AttrsA W va aliveE7.attrs → Calls Tryz.prog 24 #[.pointer (some ⟨s, 0, none⟩), .agg #[.string ⟨#[99, 110, 61, 65, 44, 100, 99, 61, 122]⟩, va]] W fun e w' => e = .returned (.int .i64 0) ∧ Below W.heap.size W w') := hiD fun W s ps va hS hv => by
  have := CheckB_c s ps aliveE7 va W hS hv (by decide) (by decide) alive_limE alive_find
  rw [check_alive7] at this
  exact this
 have HH : Hid (∀ (W : World) (s : Nat) (ps : List Nat) (va : Value), Below w.heap.size w W → SchAt W s ps baseL → AttrsA W va aliveE7.attrs → Calls Tryz.prog 22 #[.pointer (some ⟨s, 0, none⟩), .agg #[.string ⟨#[99, 110, 61, 65, 44, 100, 99, 61, 122]⟩, va], .string ⟨#[110, 97, 109, 101]⟩, .string ⟨#[32, 98, 32]⟩] W fun e w' => e = .returned (.bool true) ∧ Below W.heap.size W w') := hiD fun W s ps va h hS hv => by
  have := Has_c s ps baseL base_sound aliveE7 va [110, 97, 109, 101] [32, 98, 32] W (hw.keep h) hS hv (by decide) (by decide) alive_limE (by decide)
  rw [has_alive7] at this
  exact this
 clear hw
 go_enter Tryz.func17, Tryz.ntmps17
 go_wp2_with (first
  | (go_at_call 27; refine HBs.out.mono ?_; rintro e w1 ⟨rfl, hb1, hA1, hC1⟩)
  | (go_at_call 28; refine (HNw.out _ _ _ hb1 hA1.texts hC1.texts).mono ?_; rintro e w2 ⟨hb2, s, ps, rfl, hS2⟩; have hB2 := hb1.trans (hb2.mono hb1.size); obtain ⟨hb3, hR3⟩ := alive_rows w2 rfl; have hB3 := hB2.trans (hb3.mono hB2.size); have hS3 := hS2.below hb3)
  | (go_at_call 19; (with_reducible refine (HM.out _ s ps _ hB3 hS3 hR3).mono ?_); rintro e w4 ⟨hb4, g, c, rfl, hc4, hA4⟩; have hB4 := hB3.trans (hb4.mono hB3.size); have hbx := bel_one w4 (.cells #[.string ⟨#[99, 110, 61, 65, 44, 100, 99, 61, 122]⟩, .slice (some ⟨g, 0, none⟩) 3 c] 37); have hkx := Bk.new w4 37 #[.string ⟨#[99, 110, 61, 65, 44, 100, 99, 61, 122]⟩, .slice (some ⟨g, 0, none⟩) 3 c]; have hB5 := hB4.trans (hbx.mono hB4.size); have hS5 := (hS3.below hb4).below hbx; have hA5 := hA4.below hbx; have x0 := hkx.cell 0; have x1 := hkx.cell 1; have hc5 := (hbx.cell (cell_lt hc4)).trans hc4; simp only [gs3] at x0 x1)
  | (go_at_call 24; (with_reducible refine (HC.out _ s ps _ hS5 hA5).mono ?_); rintro e w6 ⟨rfl, hb6⟩; have hB6 := hB5.trans (hb6.mono hB5.size); have hS6 := hS5.below hb6; have hA6 := hA5.below hb6; have hkx6 := hkx.below hb6; have y0 := hkx6.cell 0; have y1 := hkx6.cell 1; simp only [gs3] at y0 y1)
  | (go_at_call 22; (with_reducible refine (HH.out _ s ps _ hB6 hS6 hA6).mono ?_); rintro e w7 ⟨rfl, hb7⟩))
 all_goals
  go_ret
  exact ⟨rfl, hB6.trans (hb7.mono hB6.size)⟩
open Go.RowKit
theorem light_mem : ∀ (l : List Ent.AttrE) (a : Ent.AttrE), a ∈ l → 1 + a.vals.length ≤ lightN l
 | b :: l, a, h => by
  have e : lightN (b :: l) = 1 + b.vals.length + lightN l := by simp [lightN]
  rcases List.mem_cons.1 h with rfl | h
  ·omega
  ·have := light_mem l a h
   omega
theorem light_lim {l : List Ent.AttrE} (h : lightN l ≤ 600) (ht : ∀ a ∈ l, a.typ.length ≤ 1048576) : ∀ a ∈ l, a.typ.length ≤ 140737488351232 ∧ a.vals.length ≤ 1000000 := by
 intro a ha
 refine ⟨Nat.le_trans (ht a ha) (by decide), ?_⟩
 have := light_mem l a ha
 omega
open Go.RowKit
theorem sum_mem7 {α : Type} (f : α → Nat) : ∀ (l : List α) (a : α), a ∈ l → f a ≤ (l.map f).sum
 | b :: l, a, h => by
  rw [List.map_cons, List.sum_cons]
  rcases List.mem_cons.1 h with rfl | h
  ·omega
  ·have := sum_mem7 f l a h
   omega
theorem bulk_light (l : List Ent.AttrE) : lightN l ≤ (l.map fun a => 1 + attrW a).sum ∧ ∀ a ∈ l, a.typ.length ≤ (l.map fun a => 1 + attrW a).sum ∧ ∀ v ∈ a.vals, v.length ≤ (l.map fun a => 1 + attrW a).sum := by
 refine ⟨?_, fun a ha => ?_⟩
 ·induction l with
  | nil => simp [lightN]
  | cons b l ih =>
   have e : lightN (b :: l) = 1 + b.vals.length + lightN l := by simp [lightN]
   rw [List.map_cons, List.sum_cons]
   unfold attrW at ih ⊢
   omega
 ·have h := sum_mem7 (fun a => 1 + attrW a) l a ha
  have e : attrW a = a.typ.length + (a.vals.length + (a.vals.map List.length).sum) := rfl
  refine ⟨by omega, fun v hv => ?_⟩
  have h2 := sum_mem7 List.length a.vals v hv
  omega
theorem bulk_mods (ms : List Ent.ModE) : ms.length ≤ (ms.map fun a => modW a).sum ∧ ∀ m ∈ ms, m.typ.length ≤ (ms.map fun a => modW a).sum ∧ m.vals.length ≤ (ms.map fun a => modW a).sum ∧ ∀ v ∈ m.vals, v.length ≤ (ms.map fun a => modW a).sum := by
 refine ⟨?_, fun m hm => ?_⟩
 ·induction ms with
  | nil => simp
  | cons b l ih =>
   rw [List.map_cons, List.sum_cons, List.length_cons]
   unfold modW at ih ⊢
   omega
 ·have h := sum_mem7 (fun a => modW a) ms m hm
  have e : modW m = 1 + m.typ.length + (m.vals.length + (m.vals.map List.length).sum) := rfl
  refine ⟨by omega, by omega, fun v hv => ?_⟩
  have h2 := sum_mem7 List.length m.vals v hv
  omega
theorem ModsA.isSlice {w : World} {v : Value} {l : List Ent.ModE} (h : ModsA w v l) : ∃ A c, v = .slice A l.length c := by
 obtain ⟨A, c, h, _⟩ := h
 exact ⟨A, c, h⟩
end Go.Proofs.YtkkbbhlihilnpaaGreatDoor
