import Derived.Test.YtkkbbhlihilnpaaGreatDoorWk7
import Derived.Test.YtkkbbhlihilnpaaGreatDoorSortT
import Derived.Sort.OwnSorted
set_option linter.all false
set_option maxHeartbeats 8000000
set_option maxRecDepth 100000
namespace Go.Proofs.YtkkbbhlihilnpaaGreatDoor
open Go.RowKit
def wMark : List UInt8 := [109, 97, 114, 107]
def wMark2 : List UInt8 := [77, 97, 114, 107]
theorem lent_shape {B : Nat} {w : World} {v : Value} {xs : List (List UInt8)} (h : Own B w v (xs ++ [wMark, wMark2])) : ∃ a c, v = .slice (some a) (xs.length + 2) c ∧ xs.length + 2 ≤ c ∧ TextsA w (.slice (some a) (xs.length + 2) c) (xs ++ [wMark, wMark2]) ∧ TextsA w (.slice (some a) xs.length c) xs := by
 have hT := h.textsA
 have hT' := hT
 rcases hT with ⟨he, _⟩ | ⟨a, c, rfl, hc, hx⟩
 ·exact absurd (congrArg List.length he) (by simp)
 ·have hl : (xs ++ [wMark, wMark2]).length = xs.length + 2 := by simp
  rw [hl] at hc hT'
  refine ⟨a, c, by rw [hl], hc, hT', .inr ⟨a, c, rfl, by omega, fun j hj => ?_⟩⟩
  have := hx j (by omega)
  rw [List.getElem_append_left hj] at this
  exact this
set_option maxRecDepth 100000 in
theorem lentTexts_c (xs : List (List UInt8)) (v : Value) (w : World) (hv : TextsA w v xs) (hl : xs.length ≤ 1000000) :
  Calls Tryz.prog 9 #[v] w fun e w' => ∃ a c, e = .returned (.slice (some a) xs.length c) ∧ xs.length + 2 ≤ c ∧ TextsA w' (.slice (some a) (xs.length + 2) c) (xs ++ [wMark, wMark2]) ∧ TextsA w' (.slice (some a) xs.length c) xs ∧ Below w.heap.size w w' := by
 have ho := Own.nil (B := w.heap.size) (w := w) (Nat.le_refl _)
 have HV := Lib.hid hv
 obtain ⟨Av, cv, rfl, hcv⟩ : ∃ A c, v = .slice A xs.length c ∧ xs.length ≤ c := by
  obtain ⟨A, c, h, hc, _⟩ := hv.at
  exact ⟨A, c, h, hc⟩
 clear hv
 go_enter Tryz.func9, Tryz.ntmps9
 go_wp2_with (first
  | (at_builtin; refine own_moreA rfl _ _ rfl rfl ho rfl HV.out (by simp; omega) ?_; intro v1 w1 hO1 hg1; have hN := own_new (B := w1.heap.size) w1 (Nat.le_refl _) [wMark, wMark2] (by simp); have hO2 := hO1.below (bel_one w1 (.cells #[.string ⟨#[109, 97, 114, 107]⟩, .string ⟨#[77, 97, 114, 107]⟩] 9)))
  | (at_builtin; refine own_moreA rfl _ _ rfl rfl hO2 rfl hN.textsA (by simp; omega) ?_; intro v2 w2 hO3 hg2; rw [List.nil_append] at hO3; obtain ⟨a, c, rfl, hc, hT1, hT2⟩ := lent_shape hO3; have hs := fun W => slice_upA a (xs.length + 2) c xs.length (by omega) W))
 go_ret
 refine ⟨a, c, rfl, hc, hT1, hT2, ?_⟩
 exact Own.bel ((Own.bel (Below.refl _ _) ho hg1).alloc hO1.2 _) hO2 hg2
/-! Plans. -/
def pCells (x : Key.PlanE) : List Value := [.int .i64 x.op, .int .i64 x.n, .string ⟨x.key.toArray⟩]
def OwnPl (B : Nat) (w : World) (v : Value) (l : List Key.PlanE) : Prop := w.ownsRow B 26 3 v l.length (l.flatMap pCells) ∧ B ≤ w.heap.size
theorem OwnPl.nil {B : Nat} {w : World} (hB : B ≤ w.heap.size) : OwnPl B w (.slice none 0 0) [] := ⟨World.ownsRow_nil _ _ _ _, hB⟩
theorem OwnPl.lt {B : Nat} {w : World} {v : Value} {l : List Key.PlanE} (h : OwnPl B w v l) : ∀ k, v.ownBlock = some k → B ≤ k ∧ k < w.heap.size := fun k hk => h.1.lt k hk
theorem OwnPl.below {B : Nat} {w w' : World} {v : Value} {l : List Key.PlanE} (h : OwnPl B w v l) (hb : Below w.heap.size w w') : OwnPl B w' v l := by
 obtain ⟨⟨h1, h2⟩, h3⟩ := h
 refine ⟨⟨h1, ?_⟩, Nat.le_trans h3 hb.size⟩
 rcases h2 with h2 | ⟨g, cap, cur, rfl, r2, r3, r4⟩
 ·exact .inl h2
 ·exact .inr ⟨g, cap, cur, rfl, r2, (hb.block g (Array.getElem?_eq_some_iff.1 r3).1).trans r3, r4⟩
theorem pflat_at : ∀ (l : List Key.PlanE) (j : Nat) (hj : j < l.length) (k : Nat), k < 3 → (l.flatMap pCells)[j * 3 + k]? = (pCells l[j])[k]?
 | [], j, hj, _, _ => absurd hj (by simp)
 | g :: l, 0, _, k, hk => by
  rw [List.flatMap_cons, Nat.zero_mul, Nat.zero_add, List.getElem?_append_left (by simp [pCells]; omega)]
  rfl
 | g :: l, j + 1, hj, k, hk => by
  have ih := pflat_at l j (by simpa using hj) k hk
  rw [List.flatMap_cons, List.getElem?_append_right (by simp [pCells]; omega)]
  simp only [List.getElem_cons_succ]
  rw [← ih]
  congr 1
  simp [pCells]; omega
theorem pflat_len : ∀ l : List Key.PlanE, (l.flatMap pCells).length = l.length * 3
 | [] => rfl
 | x :: l => by
  rw [List.flatMap_cons, List.length_append, pflat_len l, List.length_cons]
  simp only [pCells, List.length_cons, List.length_nil]
  omega
theorem pflat_get {l : List Key.PlanE} {i : Nat} {u : Value} (h : (l.flatMap pCells)[i]? = some u) : ∃ (hj : i / 3 < l.length), (pCells l[i / 3])[i % 3]? = some u := by
 have hlen := pflat_len l
 have hi := (List.getElem?_eq_some_iff.1 h).1
 have hj : i / 3 < l.length := by omega
 refine ⟨hj, ?_⟩
 rw [← pflat_at l (i / 3) hj (i % 3) (by omega), show i / 3 * 3 + i % 3 = i by omega]
 exact h
theorem OwnPl.plans {B : Nat} {w : World} {v : Value} {l : List Key.PlanE} (h : OwnPl B w v l) : PlanS w v l := by
 obtain ⟨⟨h1, h2⟩, _⟩ := h
 rcases h2 with ⟨rfl, hn⟩ | ⟨g, cap, cur, rfl, r2, r3, r4, r5, r6, r7⟩
 ·have : l = [] := List.eq_nil_of_length_eq_zero hn
  subst this
  exact ⟨none, 0, rfl, Nat.le_refl _, fun j hj => absurd hj (by simp)⟩
 ·refine ⟨_, cap, rfl, r4, fun j hj => ⟨g, 0, rfl, ?_⟩⟩
  have hk : ∀ k u, k < 3 → (pCells l[j])[k]? = some u → w.cell? ⟨g, 0 + j * 3 + k, none⟩ = some u := by
   intro k u hk hu
   have hf := pflat_at l j hj k hk
   rw [hu, ← r7, List.getElem?_take, if_pos (by omega)] at hf
   simp only [World.cell?, r3, Nat.zero_add]
   simpa using hf
  exact ⟨hk 0 _ (by omega) rfl, hk 1 _ (by omega) rfl, hk 2 _ (by omega) rfl⟩
theorem infoPl : ∃ i, Tryz.prog.info? 26 = some i ∧ i.zero = some (.agg #[.int .i64 0, .int .i64 0, .string ⟨#[]⟩]) ∧ i.size = 3 ∧ i.bytes = 32 := by
 obtain ⟨i, h1, h2, h3, h4⟩ := info_parts (show (Tryz.prog.info? 26).map (fun i => (i.zero, i.size, i.bytes)) = some (some (.agg #[.int .i64 0, .int .i64 0, .string ⟨#[]⟩]), 3, 32) by kernel_rfl)
 exact ⟨i, h1, h2, h3, h4⟩
theorem plan_more {ops : Array Oper} {rest : List Oper} {o : Oper} {a : Act} {Q : Exit → Act → World → Prop} {w : World} (hgd : o.guard = none) (s x : Operand) (ho : o.op = .call { callee := .builtin .append, args := #[s, x], argTypes := #[22, 22] })
  {v xv : Value} {xs ys : List Key.PlanE} {B : Nat} (hs : a.eval s = v) (hb : OwnPl B w v xs)
  (hx : a.eval x = xv) (hy : PlanS w xv ys) (hz : ∀ c, xv = .slice none 0 c → c = 0) (hlen : xs.length + ys.length < 1000000)
  (h : ∀ v' w', OwnPl B w' v' (xs ++ ys) → w.grownBy w' v.ownBlock → wpList Tryz.prog ops Q rest (a.put o.dst v') w') : wpList Tryz.prog ops Q (o :: rest) a w := by
 obtain ⟨i, h1, h2, h3, h4⟩ := infoPl
 obtain ⟨A, c, rfl, hc, hcell⟩ := hy
 cases A with
 | none =>
  have hl0 : ys = [] := by
   cases ys with
   | nil => rfl
   | cons y ys => obtain ⟨b, o, he, _⟩ := hcell 0 (by simp); cases he
  subst hl0
  obtain rfl := hz c rfl
  refine wpList_append_own_none hgd s x 22 ho B 26 i 3 Tryz.underlying22 h1 v _ _ hs hb.1 hx ?_
  exact h v w (by simpa using hb) (World.grownBy.refl _ _)
 | some b =>
  refine wpList_append_own _ hgd s x 22 ho B 26 i (.agg #[.int .i64 0, .int .i64 0, .string ⟨#[]⟩]) 3 32 Tryz.underlying22 h1 h2 h3 h4 rfl (by decide) v _ _ hs hb.1 b ys.length c (ys.flatMap pCells) hx (pflat_len ys) ?_ ?_ (by unfold maxLen; omega) (by omega) hb.2 ?_
  ·intro j u hj
   obtain ⟨hjl, hu⟩ := pflat_get hj
   obtain ⟨b', o', he, c0, c1, c2⟩ := hcell (j / 3) hjl
   cases he
   rw [add_at2, show o' + j = o' + j / 3 * 3 + j % 3 by omega]
   have h3 : j % 3 < 3 := by omega
   match hm : j % 3, h3 with
   | 0, _ => rw [hm] at hu; simp [pCells] at hu; subst hu; exact c0
   | 1, _ => rw [hm] at hu; simp [pCells] at hu; subst hu; exact c1
   | 2, _ => rw [hm] at hu; simp [pCells] at hu; subst hu; exact c2
  ·intro u hu
   simp [pCells] at hu
   obtain ⟨q, _, rfl | rfl | rfl⟩ := hu <;> rfl
  ·intro v' w' ho' hg _
   exact h v' w' ⟨by simpa using ho', Nat.le_trans hb.2 hg.size⟩ hg
theorem plan_lent {B : Nat} {w : World} {v : Value} {l : List Key.PlanE} {m : Key.PlanE} (h : OwnPl B w v (l ++ [m])) : ∃ b c, v = .slice (some ⟨b, 0, none⟩) (l.length + 1) c ∧ l.length + 1 ≤ c ∧ PlanS w (.slice (some ⟨b, 0, none⟩) l.length c) l ∧ w.cell? ⟨b, l.length * 3, none⟩ = some (.int .i64 m.op) := by
 have hP := h.plans
 obtain ⟨⟨h1, h2⟩, _⟩ := h
 rcases h2 with ⟨rfl, hn⟩ | ⟨g, cap, cur, rfl, r2, r3, r4, r5, r6, r7⟩
 ·simp at hn
 ·have hl : (l ++ [m]).length = l.length + 1 := by simp
  have hT := hP.take (k := l.length) (by simp)
  rw [List.take_left] at hT
  obtain ⟨A, c, he, hc, hx⟩ := hP
  obtain ⟨b, o, hA, c0, _, _⟩ := hx l.length (by simp)
  cases he
  cases hA
  refine ⟨g, cap, by rw [hl], by rw [← hl]; exact r4, hT, ?_⟩
  simpa using c0
abbrev Gram := UInt8 × UInt8 × UInt8
def onceG (acc : List Gram) (g : Gram) : List Gram := if acc.contains g then acc else acc ++ [g]
def gramsS : List Gram → List UInt8 → List Gram
 | acc, [] => acc
 | acc, [_] => acc
 | acc, [_, _] => acc
 | acc, a :: b :: c :: t => gramsS (onceG acc (a, b, c)) (b :: c :: t)
def gramsT : List Gram → List (List UInt8) → List Gram
 | acc, [] => acc
 | acc, s :: l => gramsT (gramsS acc s) l
theorem onceG_len (acc : List Gram) (g : Gram) : (onceG acc g).length ≤ acc.length + 1 := by
 unfold onceG
 split <;> simp
theorem gramsS_len : ∀ (s : List UInt8) (acc : List Gram), (gramsS acc s).length ≤ acc.length + s.length
 | [], acc => by simp [gramsS]
 | [_], acc => by simp [gramsS]
 | [_, _], acc => by simp [gramsS]
 | a :: b :: c :: t, acc => by
  rw [gramsS]
  have h1 := gramsS_len (b :: c :: t) (onceG acc (a, b, c))
  have h2 := onceG_len acc (a, b, c)
  simp only [List.length_cons] at h1 ⊢
  omega
theorem gramsS_at (acc : List Gram) (s : List UInt8) (i : Nat) (h : i + 3 ≤ s.length) : gramsS acc (s.drop i) = gramsS (onceG acc (s[i]'(by omega), s[i + 1]'(by omega), s[i + 2]'(by omega))) (s.drop (i + 1)) := by
 rw [List.drop_eq_getElem_cons (show i < s.length by omega), List.drop_eq_getElem_cons (show i + 1 < s.length by omega), List.drop_eq_getElem_cons (show i + 1 + 1 < s.length by omega), gramsS]
theorem gramsS_end (acc : List Gram) (s : List UInt8) (i : Nat) (h : s.length < i + 3) : gramsS acc (s.drop i) = acc := by
 have hl : (s.drop i).length < 3 := by rw [List.length_drop]; omega
 match hd : s.drop i, hl with
 | [], _ => rfl
 | [_], _ => rfl
 | [_, _], _ => rfl
 | _ :: _ :: _ :: _, h => simp only [List.length_cons] at h; omega
def baseR (r : List UInt8) : List UInt8 := Lib.trimSuffix r [83, 117, 98, 115, 116, 114, 105, 110, 103, 115, 77, 97, 116, 99, 104] ++ [77, 97, 116, 99, 104]
def keyP (t : List UInt8) : List UInt8 := 112 :: t
def keyE (t x : List UInt8) : List UInt8 := 101 :: (t ++ 0 :: x)
def keyG (t : List UInt8) (g : Gram) : List UInt8 := 115 :: (t ++ [0, g.1, g.2.1, g.2.2])
open Go.RowKit Go.Sort
def sortT (p : List (List UInt8)) : Array (List UInt8) := Sort.insertionSort (ltOf cmpB) p.toArray 0 p.length
theorem sortT_perm (p : List (List UInt8)) : (sortT p).toList.Perm p := by
 have h := (insertionSort_holds (lt := ltOf cmpB) cmpB_ord.swo p.toArray 0 p.length (Nat.zero_le _) (by simp)).1
 have h2 := h.2.2
 have e1 : ((Sort.insertionSort (ltOf cmpB) p.toArray 0 p.length).extract 0 p.length) = Sort.insertionSort (ltOf cmpB) p.toArray 0 p.length := by
  have : (Sort.insertionSort (ltOf cmpB) p.toArray 0 p.length).size = p.length := by simpa using h.1
  generalize Sort.insertionSort (ltOf cmpB) p.toArray 0 p.length = R at this ⊢
  rw [← this]; simp
 have e2 : (p.toArray.extract 0 p.length) = p.toArray := by simp
 rw [e1, e2] at h2
 exact h2
theorem sortT_len (p : List (List UInt8)) : (sortT p).toList.length = p.length := (sortT_perm p).length_eq
theorem sortT_le (p : List (List UInt8)) (i j : Nat) (x y : List UInt8) (hij : i < j) (hx : (sortT p).toList[i]? = some x) (hy : (sortT p).toList[j]? = some y) : cmpB x y ≤ 0 := by
 have h := (insertionSort_holds (lt := ltOf cmpB) cmpB_ord.swo p.toArray 0 p.length (Nat.zero_le _) (by simp)).2
 have hl := sortT_len p
 obtain ⟨hj, ey⟩ := List.getElem?_eq_some_iff.1 hy
 obtain ⟨hi, ex⟩ := List.getElem?_eq_some_iff.1 hx
 have hh := h i j (Nat.zero_le _) hij (by omega)
 have e1 : (sortT p)[i]! = x := by rw [← ex]; simp at hi; simp [hi]
 have e2 : (sortT p)[j]! = y := by rw [← ey]; simp at hj; simp [hj]
 change ltOf cmpB (sortT p)[j]! (sortT p)[i]! = false at hh
 rw [e1, e2] at hh
 simp only [ltOf, decide_eq_false_iff_not] at hh
 have := cmpB_ord.swap x y
 omega
theorem sortT_eq {p R : List (List UInt8)} (hp : p.Nodup) (hR : SS cmpB R) (h : ∀ x, x ∈ R ↔ x ∈ p) : (sortT p).toList = R := by
 refine SS.unique cmpB_ord _ _ ?_ hR (fun x => by rw [h, (sortT_perm p).mem_iff])
 have hn : (sortT p).toList.Nodup := (sortT_perm p).nodup_iff.2 hp
 unfold SS
 rw [List.pairwise_iff_getElem]
 intro i j hi hj hij
 have h1 := sortT_le p i j _ _ hij (List.getElem?_eq_getElem hi) (List.getElem?_eq_getElem hj)
 have h2 : (sortT p).toList[i] ≠ (sortT p).toList[j] := by
  rw [List.nodup_iff_pairwise_ne, List.pairwise_iff_getElem] at hn
  exact hn i j hi hj hij
 have h3 : cmpB (sortT p).toList[i] (sortT p).toList[j] ≠ 0 := fun e => h2 ((cmpB_ord.zero _ _).1 e)
 omega
theorem oneT : OneCell strV := fun _ => rfl
theorem cmpReads_text (blk off size : Nat) (w : World) : CmpReads Tryz.prog 68 #[] strV cmpB blk off size w := by
 intro m os dk hs x y
 refine (Compare_c x y _).mono ?_
 rintro e w' ⟨rfl, rfl⟩
 exact ⟨rfl, 0, rfl⟩
set_option maxRecDepth 10000 in
theorem SortText_c (p : List (List UInt8)) (B : Nat) (v : Value) (w : World) (h : Own B w v p) (h0 : p ≠ []) (h12 : p.length ≤ 12) :
  Calls Tryz.prog 67 #[v, .func (.func 68) #[] #[]] w fun e w' => e = .returned (.tuple #[]) ∧ Own B w' v (sortT p).toList ∧ w.grownBy w' v.ownBlock := by
 obtain ⟨⟨hl0, hO⟩, hB⟩ := h
 rcases hO with ⟨rfl, hn⟩ | ⟨g, cap, cur, rfl, hbase, hb, h1, h2, h3, h4⟩
 ·exact absurd (List.length_eq_zero_iff.1 hn) h0
 have hH : Holds strV w g 0 p.toArray := holds_of_block hb (by have h5 := h4; rw [Nat.mul_one] at h5; exact h5)
 have eg : ∀ args w, (callFunc 68 args).run Tryz.prog w = .ok (.enter 68 args) w := enters_of Tryz.func68 (by kernel_rfl) rfl
 have hcon := fun lim => Any.pdqsortCmpFunc_small Tryz.sortText strV oneT cmpB 68 #[] g 0 cap 0 p.length lim p.toArray w eg (cmpReads_text g 0 p.toArray.size w) hH (Nat.zero_le _) (by simp) (by simp; omega) (by omega)
 change ∀ lim, Calls Tryz.prog 117 _ _ _ at hcon
 simp only [List.size_toArray] at hcon
 have HL := Lib.hid (Tryz.bits_Len (p.length : Int) w (by omega) (by omega))
 have hsl := sortT_len p
 unfold sortT at hsl ⊢
 generalize Sort.insertionSort (ltOf cmpB) p.toArray 0 p.length = R at *
 have HC := Lib.hid hcon
 have hcv : IntKind.u64.wrap (p.length : Int) = (p.length : Int) := by first | exact IntWalk.u64_in _ (by omega) | (unfold IntKind.wrap; simp; omega)
 clear hcon hH eg
 go_enter Tryz.func67, Tryz.ntmps67
 go_wp2_with (first | (go_at_call 118; refine HL.out.mono ?_; rintro e w1 ⟨rfl, rfl⟩) | (go_at_call 117; refine (HC.out _).mono ?_; rintro e w' ⟨rfl, n, rfl⟩))
 go_end0
 have hfin : (putRow strV w1 g 0 R).drewN n = grow (putRow encStr (Sort.ahead w1 n) g 0 R.toList.toArray) #[] := by
  rw [grow_empty, Array.toArray_toList]; rfl
 refine ⟨rfl, ⟨?_, ?_⟩, ?_⟩
 ·rw [hfin, hsl]
  exact ownsRow_sorted hsl hbase hb h1 h2 h3
 ·show B ≤ (putRow strV w1 g 0 R).heap.size
  rw [size_putRow]; exact hB
 ·rw [hfin]
  exact grownBy_sorted _
end Go.Proofs.YtkkbbhlihilnpaaGreatDoor
