import Derived.Test.YtkkbbhlihilnpaaGreatDoorWk8
import Derived.Stop.BytesEq
import Derived.Deep.OwnRows
set_option linter.all false
set_option maxHeartbeats 8000000
set_option maxRecDepth 100000
namespace Go.Proofs.YtkkbbhlihilnpaaGreatDoor
open Go.RowKit
def gCells (g : Gram) : List Value := [.int .u8 g.1.toNat, .int .u8 g.2.1.toNat, .int .u8 g.2.2.toNat]
def gramV (g : Gram) : Value := .agg #[.int .u8 g.1.toNat, .int .u8 g.2.1.toNat, .int .u8 g.2.2.toNat]
def OwnG (B : Nat) (w : World) (v : Value) (l : List Gram) : Prop := w.ownsRow B 111 3 v l.length (l.flatMap gCells) ∧ B ≤ w.heap.size
theorem OwnG.nil {B : Nat} {w : World} (hB : B ≤ w.heap.size) : OwnG B w (.slice none 0 0) [] := ⟨World.ownsRow_nil _ _ _ _, hB⟩
theorem OwnG.lt {B : Nat} {w : World} {v : Value} {l : List Gram} (h : OwnG B w v l) : ∀ k, v.ownBlock = some k → B ≤ k ∧ k < w.heap.size := fun k hk => h.1.lt k hk
theorem OwnG.keep2 {B : Nat} {w w' : World} {v : Value} {l : List Gram} (h : OwnG B w v l) {r : Option Nat} (hg : w.grownBy w' r) (hr : ∀ k, v.ownBlock = some k → r ≠ some k) : OwnG B w' v l := by
 obtain ⟨⟨h1, h2⟩, h3⟩ := h
 refine ⟨⟨h1, ?_⟩, Nat.le_trans h3 hg.size⟩
 rcases h2 with h2 | ⟨g, cap, cur, rfl, r2, r3, r4⟩
 ·exact .inl h2
 ·exact .inr ⟨g, cap, cur, rfl, r2, (hg.block g (Array.getElem?_eq_some_iff.1 r3).1 (fun e => hr g rfl e.symm)).trans r3, r4⟩
theorem OwnG.below {B : Nat} {w w' : World} {v : Value} {l : List Gram} (h : OwnG B w v l) (hb : Below w.heap.size w w') : OwnG B w' v l := h.keep2 (grown_below hb none) (fun k _ he => by cases he)
theorem OwnG.isSlice {B : Nat} {w : World} {v : Value} {l : List Gram} (h : OwnG B w v l) : ∃ A c, v = .slice A l.length c ∧ l.length ≤ c := by
 obtain ⟨⟨h1, h2⟩, _⟩ := h
 rcases h2 with ⟨rfl, hn⟩ | ⟨g, cap, cur, rfl, r2, r3, r4, _⟩
 ·exact ⟨none, 0, by rw [hn], by omega⟩
 ·exact ⟨_, cap, rfl, r4⟩
theorem gflat_at : ∀ (l : List Gram) (j : Nat) (hj : j < l.length) (k : Nat), k < 3 → (l.flatMap gCells)[j * 3 + k]? = (gCells l[j])[k]?
 | [], j, hj, _, _ => absurd hj (by simp)
 | g :: l, 0, _, k, hk => by
  rw [List.flatMap_cons, Nat.zero_mul, Nat.zero_add, List.getElem?_append_left (by simp [gCells]; omega)]
  rfl
 | g :: l, j + 1, hj, k, hk => by
  have ih := gflat_at l j (by simpa using hj) k hk
  rw [List.flatMap_cons, List.getElem?_append_right (by simp [gCells]; omega)]
  simp only [List.getElem_cons_succ]
  rw [← ih]
  congr 1
  simp [gCells]; omega
theorem OwnG.cells {B : Nat} {w : World} {v : Value} {l : List Gram} (h : OwnG B w v l) {j : Nat} (hj : j < l.length) : ∃ g c, v = .slice (some ⟨g, 0, none⟩) l.length c ∧ w.cell? ⟨g, j * 3, none⟩ = some (.int .u8 l[j].1.toNat) ∧ w.cell? ⟨g, j * 3 + 1, none⟩ = some (.int .u8 l[j].2.1.toNat) ∧ w.cell? ⟨g, j * 3 + 2, none⟩ = some (.int .u8 l[j].2.2.toNat) := by
 obtain ⟨⟨h1, h2⟩, _⟩ := h
 rcases h2 with ⟨rfl, hn⟩ | ⟨g, cap, cur, rfl, r2, r3, r4, r5, r6, r7⟩
 ·omega
 ·refine ⟨g, cap, rfl, ?_⟩
  have hk : ∀ k u, k < 3 → (gCells l[j])[k]? = some u → w.cell? ⟨g, j * 3 + k, none⟩ = some u := by
   intro k u hk hu
   have hf := gflat_at l j hj k hk
   rw [hu, ← r7, List.getElem?_take, if_pos (by omega)] at hf
   simp only [World.cell?, r3]
   simpa using hf
  exact ⟨hk 0 _ (by omega) rfl, hk 1 _ (by omega) rfl, hk 2 _ (by omega) rfl⟩
theorem infoG : ∃ i, Tryz.prog.info? 111 = some i ∧ i.zero = some (.agg #[.int .u8 0, .int .u8 0, .int .u8 0]) ∧ i.size = 3 ∧ i.bytes = 3 := by
 obtain ⟨i, h1, h2, h3, h4⟩ := info_parts (show (Tryz.prog.info? 111).map (fun i => (i.zero, i.size, i.bytes)) = some (some (.agg #[.int .u8 0, .int .u8 0, .int .u8 0]), 3, 3) by kernel_rfl)
 exact ⟨i, h1, h2, h3, h4⟩
theorem gram_one {ops : Array Oper} {rest : List Oper} {o : Oper} {a : Act} {Q : Exit → Act → World → Prop} (hgd : o.guard = none) (s x : Operand) (ho : o.op = .call { callee := .builtin .append, args := #[s, x], argTypes := #[108, 108] })
  {v : Value} {l : List Gram} {B N : Nat} {w0 : World} {g : Gram} (hs : a.eval s = v) (hb : OwnG B w0 v l)
  (hx : a.eval x = .slice (some ⟨N, 0, none⟩) 1 1) (hN : N = w0.heap.size) (hlen : l.length < 4398046511104)
  (h : ∀ v' w', OwnG B w' v' (l ++ [g]) → w0.grownBy w' v.ownBlock → wpList Tryz.prog ops Q rest (a.put o.dst v') w') : wpList Tryz.prog ops Q (o :: rest) a (w0.alloc (.cells #[.int .u8 g.1.toNat, .int .u8 g.2.1.toNat, .int .u8 g.2.2.toNat] 111)) := by
 subst hN
 obtain ⟨i, h1, h2, h3, h4⟩ := infoG
 have hb' := hb.keep2 (World.grownBy_alloc w0 (.cells #[.int .u8 g.1.toNat, .int .u8 g.2.1.toNat, .int .u8 g.2.2.toNat] 111) none) (fun k _ he => by cases he)
 refine wpList_append_own _ hgd s x 108 ho B 111 i (.agg #[.int .u8 0, .int .u8 0, .int .u8 0]) 3 3 Tryz.underlying108 h1 h2 h3 h4 rfl (by decide) v _ _ hs hb'.1 ⟨w0.heap.size, 0, none⟩ 1 1 (gCells g) hx rfl ?_ ?_ (by unfold maxLen; omega) (by omega) hb'.2 ?_
 ·intro j u hj
  match j, hj with
  | 0, hj => simp [gCells] at hj; subst hj; simp [Addr.add]
  | 1, hj => simp [gCells] at hj; subst hj; simp [Addr.add]
  | 2, hj => simp [gCells] at hj; subst hj; simp [Addr.add]
  | (j + 3), hj => simp [gCells] at hj
 ·intro u hu; simp [gCells] at hu; rcases hu with rfl | rfl | rfl <;> rfl
 ·intro v' w' ho' hg _
  refine h v' w' ⟨?_, Nat.le_trans hb'.2 hg.size⟩ (World.grownBy.trans (World.grownBy_alloc _ _ _) hg)
  simpa using ho'
set_option maxRecDepth 100000 in
theorem eq_gram (W : World) (a b : Gram) : (Op.equal 111 (gramV a) (gramV b)).run Tryz.prog W = .ok (decide (a = b)) W := by
 obtain ⟨a1, a2, a3⟩ := a
 obtain ⟨b1, b2, b3⟩ := b
 have h := run_equalIn_bytes (P := Tryz.prog) W 9998 111 5 3 Tryz.underlying111 Tryz.underlying5 Tryz.sizeOf5 [a1, a2, a3] [b1, b2, b3] rfl rfl
 have h' : (Op.equal 111 (gramV (a1, a2, a3)) (gramV (b1, b2, b3))).run Tryz.prog W = .ok ([a1, a2, a3] == [b1, b2, b3]) W := h
 rw [h']
 congr 1
 rw [Bool.eq_iff_iff]
 simp
theorem check_gram (b : Bool) (w : World) (k : Gram) : (Instr.checkKey b 10000 111 (gramV k)).run Tryz.prog w = .ok () w := by
 unfold gramV
 kernel_rfl
theorem finds_gram : Finds Tryz.prog 111 gramV := finds_asking Tryz.underlying111 (fun a b => by simp [Instr.sameNow]) eq_gram
def SetG (w : World) (m : Nat) (xs : List Gram) : Prop := ∃ es c, w.heap[m]? = some (.map es c) ∧ MapR gramV es (xs.map fun x => (x, Value.agg #[]))
theorem SetG.lt {w : World} {m : Nat} {xs : List Gram} (h : SetG w m xs) : m < w.heap.size := by
 obtain ⟨es, c, h1, _⟩ := h
 exact (Array.getElem?_eq_some_iff.1 h1).1
theorem SetG.keep {w w' : World} {m : Nat} {xs : List Gram} {r : Option Nat} (h : SetG w m xs) (hg : w.grownBy w' r) (hr : r ≠ some m) : SetG w' m xs := by
 have hl := h.lt
 obtain ⟨es, c, h1, h2⟩ := h
 exact ⟨es, c, (hg.block m hl (fun e => hr e.symm)).trans h1, h2⟩
theorem SetG.below {w w' : World} {m : Nat} {xs : List Gram} (h : SetG w m xs) (hb : Below w.heap.size w w') : SetG w' m xs := h.keep (grown_below hb none) (by simp)
theorem SetG.made (w : World) : SetG (w.alloc (.map #[] 0)) w.heap.size [] := ⟨#[], 0, heap_alloc_new w _, rfl⟩
theorem setG_ask {w : World} {m : Nat} {xs : List Gram} (h : SetG w m xs) (a b c : UInt8) :
  (Instr.lookup 178 (.map (some m)) (.agg #[.int .u8 a.toNat, .int .u8 b.toNat, .int .u8 c.toNat]) true).run Tryz.prog w = .ok (.tuple #[.agg #[], .bool (xs.contains (a, b, c))]) w := by
 obtain ⟨es, cp, h1, h2⟩ := h
 have hz : ∀ w, (zeroValue 72).run Tryz.prog w = .ok (.agg #[]) w := fun w => by kernel_rfl
 have := map_look2 Tryz.underlying178 finds_gram check_gram hz w m cp es _ h1 h2 (a, b, c)
 rw [look_map] at this
 unfold gramV at this
 rw [this]
 by_cases hx : (a, b, c) ∈ xs
 ·rw [if_pos hx, List.contains_iff_mem.2 hx]; rfl
 ·have : xs.contains (a, b, c) = false := by
   cases hc : xs.contains (a, b, c) with
   | false => rfl
   | true => exact absurd (List.contains_iff_mem.1 hc) hx
  rw [if_neg hx, this]; rfl
theorem setG_put {w : World} {m : Nat} {xs : List Gram} (h : SetG w m xs) (a b c : UInt8) (hn : xs.contains (a, b, c) = false) :
  ∃ W, (Instr.mapUpdate 178 (.map (some m)) (.agg #[.int .u8 a.toNat, .int .u8 b.toNat, .int .u8 c.toNat]) (.agg #[])).run Tryz.prog w = .ok () W ∧ SetG W m (xs ++ [(a, b, c)]) ∧ w.grownBy W (some m) := by
 have hn' : (a, b, c) ∉ xs := fun h => by rw [List.contains_iff_mem.2 h] at hn; cases hn
 obtain ⟨es, cp, h1, h2⟩ := h
 have hl : look (xs.map fun x => (x, Value.agg #[])) (a, b, c) = none := by
  rw [look_map, if_neg hn']
 have hu := map_put Tryz.underlying178 finds_gram check_gram w m cp es _ h1 h2 (a, b, c) (.agg #[]) hl
 refine ⟨_, hu, ⟨_, _, setMap_heap (Array.getElem?_eq_some_iff.1 h1).1, ?_⟩, setMap_grown _ _ _ _⟩
 have := h2.push (a, b, c) (.agg #[]) cp
 rw [List.map_append]
 exact this
theorem slice_str6 (s : List UInt8) (i j : Nat) (W : World) (h1 : i ≤ j) (h2 : j ≤ s.length) : (Instr.slice 9 (.string ⟨s.toArray⟩) (some (.int .i64 (i : Int))) (some (.int .i64 (j : Int))) none).run Tryz.prog W = .ok (.string ⟨((s.drop i).take (j - i)).toArray⟩) W := by
 have := run_slice_string (P := Tryz.prog) W 9 ⟨s.toArray⟩ .i64 .i64 (i : Int) (j : Int) Tryz.underlying9 (by omega) (by omega) (by simp [ByteArray.size]; omega)
 rw [this]
 simp only [Int.toNat_natCast]
 rw [ba_ext]
 rfl
set_option maxRecDepth 100000 in
theorem array_at (W : World) (g c : Nat) (n : Nat) (hn : 3 ≤ n) : (Instr.arrayAt 111 (.slice (some ⟨g, 0, none⟩) n c)).run Tryz.prog W = .ok (.pointer (some ⟨g, 0, none⟩)) W := by
 unfold Instr.arrayAt
 simp only [Sem.run_bind, run_underlying Tryz.underlying111, Result.andThen_ok]
 rw [if_neg (by omega), Sem.run_pure]
structure GrJ (w wr : World) (m : Nat) (v : Value) (acc : List Gram) : Prop where
 bel : Below w.heap.size w wr
 ge : w.heap.size ≤ m
 set : SetG wr m acc
 own : OwnG w.heap.size wr v acc
 apart : v.ownBlock ≠ some m
theorem GrJ.below {w wr W : World} {m : Nat} {v : Value} {acc : List Gram} (h : GrJ w wr m v acc) (hb : Below wr.heap.size wr W) : GrJ w W m v acc := ⟨h.bel.trans (hb.mono h.bel.size), h.ge, h.set.below hb, h.own.below hb, h.apart⟩
theorem owng_map {B : Nat} {w : World} {v : Value} {l : List Gram} {m : Nat} {xs : List Gram} (h : OwnG B w v l) (hs : SetG w m xs) : v.ownBlock ≠ some m := by
 intro e
 obtain ⟨⟨h1, h2⟩, _⟩ := h
 rcases h2 with ⟨rfl, hn⟩ | ⟨g, cap, cur, rfl, r2, r3, r4⟩
 ·cases e
 ·obtain ⟨es, c, h1, _⟩ := hs
  cases e
  rw [r3] at h1
  cases h1
theorem GrJ.put {w wr W W' : World} {m : Nat} {v v' : Value} {acc acc' : List Gram} (h : GrJ w wr m v acc) (hS : SetG W m acc') (hg : wr.grownBy W (some m)) (hO : OwnG w.heap.size W' v' acc') (hg2 : W.grownBy W' v.ownBlock) : GrJ w W' m v' acc' := by
 have hS' : SetG W' m acc' := hS.keep hg2 h.apart
 refine ⟨?_, h.ge, hS', hO, owng_map hO hS'⟩
 refine (h.bel.grown hg h.bel.size (fun k hk => by cases hk; exact h.ge)).grown hg2 ?_ (fun k hk => (h.own.lt k hk).1)
 exact Nat.le_trans h.bel.size hg.size
open Go.RowKit
theorem take3 {s : List UInt8} {j : Nat} (h : j + 3 ≤ s.length) : (s.drop j).take 3 = [s[j], s[j + 1], s[j + 2]] := by
 rw [List.drop_eq_getElem_cons (show j < s.length by omega), List.drop_eq_getElem_cons (show j + 1 < s.length by omega), List.drop_eq_getElem_cons (show j + 1 + 1 < s.length by omega)]
 rfl
theorem bel_bytes (w : World) (e : TypeId) (s : ByteArray) : Below w.heap.size w (Lib.bytesWorld w e s) := ⟨rfl, rfl, rfl, by rw [Lib.bytesWorld_size]; omega, fun k hk => Lib.bytesWorld_at_old _ _ _ _ hk⟩
set_option maxRecDepth 100000 in
theorem grams_c (ts : List (List UInt8)) (v : Value) (w : World) (hv : TextsA w v ts) (htl : ts.length ≤ 1000000) (hb : (ts.map List.length).sum ≤ 1000000000) :
  Calls Tryz.prog 65 #[v] w fun e w' => ∃ v', e = .returned v' ∧ OwnG w.heap.size w' v' (gramsT [] ts) ∧ Below w.heap.size w w' := by
 obtain ⟨R, hR⟩ : ∃ R, gramsT [] ts = R := ⟨_, rfl⟩
 rw [hR]
 obtain ⟨A, c, rfl, hc, hcell⟩ := hv.at
 have HX := Lib.hid hcell
 have HR := Lib.hid hR
 have HJ0 : Hid (GrJ w (w.alloc (.map #[] 0)) w.heap.size (.slice none 0 0) []) := Lib.hid ⟨bel_one w _, Nat.le_refl _, SetG.made w, OwnG.nil (by simp), by simp [Value.ownBlock]⟩
 have hmm := @run_makeMap Tryz.prog
 clear hv hcell hR
 go_enter Tryz.func65, Tryz.ntmps65
 go_wp2_with fail
 go_loopg [3, 14] ts.length (fun gk out i wr => ∃ (k : Nat) (acc : List Gram), k ≤ ts.length ∧ i = .int .i64 (k : Int) ∧ Aside (k + gk = ts.length) ∧ Aside (GrJ w wr w.heap.size out acc) ∧ Aside (gramsT acc (ts.drop k) = R) ∧ Aside (acc.length + ((ts.drop k).map List.length).sum ≤ 1000000000))
 case atStart => exact ⟨0, [], by omega, rfl, by show _ = _; omega, HJ0.out, HR.out, by show _ ≤ _; simpa using hb⟩
 case round =>
  clear HJ0 HR
  obtain ⟨k, acc, hk, rfl, AG, AJ, AS, AC⟩ := hrel
  obtain ⟨Ao, co, rfl, hco⟩ := AJ.out.own.isSlice
  by_cases hlt : k < ts.length
  ·obtain ⟨q, rfl⟩ : ∃ q, gk = q + 1 := ⟨gk - 1, by have := AG.out; omega⟩
   obtain ⟨p, rfl, c0⟩ := HX.out k hlt
   have d0 := (AJ.out.bel.cell (cell_lt c0)).trans c0
   have AS' : Aside (gramsT (gramsS acc ts[k]) (ts.drop (k + 1)) = R) := by
    have := AS.out
    rw [List.drop_eq_getElem_cons hlt, gramsT] at this
    exact this
   have AC' : Aside (acc.length + (ts[k].length + ((ts.drop (k + 1)).map List.length).sum) ≤ 1000000000) := by
    have := AC.out
    rw [List.drop_eq_getElem_cons hlt, List.map_cons, List.sum_cons] at this
    exact this
   have hsl := gramsS_len ts[k] acc
   have hs9 : ts[k].length ≤ 1000000000 := by have := AC'.out; omega
   clear c0 AS AC
   generalize ts[k] = s at *
   obtain ⟨R2, hR2⟩ : ∃ R2, gramsS acc s = R2 := ⟨_, rfl⟩
   rw [hR2] at AS' hsl
   have HR2 := Lib.hid hR2
   clear hR2
   obtain ⟨wo, hwo⟩ : ∃ wo, wo = wr := ⟨_, rfl⟩
   subst hwo
   go_wp2_with fail
   go_loopg [3, 7] s.length (fun gk out i wr => ∃ (j : Nat) (acc2 : List Gram), j ≤ s.length ∧ i = .int .i64 (j : Int) ∧ Aside (j + gk = s.length) ∧ Aside (GrJ w wr w.heap.size out acc2) ∧ Aside (gramsS acc2 (s.drop j) = R2) ∧ Aside (acc2.length ≤ acc.length + j))
   case atStart => exact ⟨0, acc, by omega, rfl, by show _ = _; omega, AJ.out, HR2.out, by show _ ≤ _; omega⟩
   case round =>
    clear HR2 AJ d0
    obtain ⟨j, acc2, hj, rfl, AG2, AJ2, AS2, AC2⟩ := hrel
    obtain ⟨Ao2, co2, rfl, hco2⟩ := AJ2.out.own.isSlice
    have hw3 : IntKind.i64.wrap ((j : Int) + 3) = (j : Int) + 3 := IntWalk.i64_in _ (by omega)
    by_cases h3 : j + 3 ≤ s.length
    ·obtain ⟨q2, rfl⟩ : ∃ q2, gk = q2 + 1 := ⟨gk - 1, by have := AG2.out; omega⟩
     have h3' : (j : Int) + 3 ≤ (s.length : Int) := by omega
     have hsl6 : ∀ W : World, (Instr.slice 9 (.string ⟨s.toArray⟩) (some (.int .i64 (j : Int))) (some (.int .i64 ((j : Int) + 3))) none).run Tryz.prog W = .ok (.string ⟨#[s[j], s[j + 1], s[j + 2]]⟩) W := fun W => by
      have := slice_str6 s j (j + 3) W (by omega) h3
      rw [show j + 3 - j = 3 by omega, take3 h3] at this
      exact this
     have AS2' : Aside (gramsS (onceG acc2 (s[j], s[j + 1], s[j + 2])) (s.drop (j + 1)) = R2) := by have := AS2.out; rw [gramsS_at acc2 s j h3] at this; exact this
     have hcl : acc2.length < 4398046511104 := by have := AC2.out; have := AC'.out; omega
     clear AS2
     generalize s[j] = x1 at *
     generalize s[j + 1] = x2 at *
     generalize s[j + 2] = x3 at *
     have hcv := Lib.run_convert_string_bytes (P := Tryz.prog) wr 9 176 5 ⟨#[x1, x2, x3]⟩ Tryz.underlying9 Tryz.underlying176 Tryz.underlying5
     rw [show (⟨#[x1, x2, x3]⟩ : ByteArray).size = 3 from rfl] at hcv
     have hbb := bel_bytes wr 5 ⟨#[x1, x2, x3]⟩
     have y0 : (Lib.bytesWorld wr 5 ⟨#[x1, x2, x3]⟩).cell? ⟨wr.heap.size, 0, none⟩ = some (.int .u8 x1.toNat) := by
      rw [Lib.bytesWorld_cell _ _ _ _ (show 0 < 3 by omega)]; rfl
     have y1 : (Lib.bytesWorld wr 5 ⟨#[x1, x2, x3]⟩).cell? ⟨wr.heap.size, 1, none⟩ = some (.int .u8 x2.toNat) := by
      rw [Lib.bytesWorld_cell _ _ _ _ (show 1 < 3 by omega)]; rfl
     have y2 : (Lib.bytesWorld wr 5 ⟨#[x1, x2, x3]⟩).cell? ⟨wr.heap.size, 2, none⟩ = some (.int .u8 x3.toNat) := by
      rw [Lib.bytesWorld_cell _ _ _ _ (show 2 < 3 by omega)]; rfl
     generalize Lib.bytesWorld wr 5 ⟨#[x1, x2, x3]⟩ = W1 at *
     have har := fun W c => array_at W wr.heap.size c 3 (Nat.le_refl _)
     generalize grownCap wr 3 0 5 = c3 at *
     have hb2 := bel_one W1 (.cells #[.int .u8 x1.toNat, .int .u8 x2.toNat, .int .u8 x3.toNat] 111)
     have hk2 := Bk.new W1 111 #[.int .u8 x1.toNat, .int .u8 x2.toNat, .int .u8 x3.toNat]
     have hJ2 := (AJ2.out.below hbb).below hb2
     have hb3 := bel_one (W1.alloc (.cells #[.int .u8 x1.toNat, .int .u8 x2.toNat, .int .u8 x3.toNat] 111)) (.cells #[] 72)
     have hJ3 := hJ2.below hb3
     have hk3 := hk2.below hb3
     have hask := setG_ask hJ2.set x1 x2 x3
     have hne : W1.heap.size ≠ w.heap.size := by
      have h1 := hJ2.bel.size
      have h2 := AJ2.out.set.lt
      have h3 := hbb.size
      omega
     have HJ2 := Lib.hid hJ2
     have HJ3 := Lib.hid hJ3
     have HBB := Lib.hid (hbb.trans ((hb2.trans (hb3.mono hb2.size)).mono hbb.size))
     have z0 := hk3.cell 0
     have z1 := hk3.cell 1
     have z2 := hk3.cell 2
     simp only [List.getElem?_toArray, List.getElem?_cons_zero, List.getElem?_cons_succ] at z0 z1 z2
     clear hJ2 hJ3 hbb hb2 hb3
     by_cases hin : acc2.contains (x1, x2, x3) = true
     ·rw [hin] at hask
      have AS3 : Aside (gramsS acc2 (s.drop (j + 1)) = R2) := by
       have := AS2'.out
       unfold onceG at this
       rw [if_pos hin] at this
       exact this
      clear hin AS2'
      go_wp2_with fail
      go_roundg q2
      case measure => omega
      case rel => exact ⟨j + 1, acc2, by omega, by go_num, by have := AG2.out; show _ = _; omega, HJ3.out, AS3.out, by have := AC2.out; show _ ≤ _; omega⟩
     ·have hin' : acc2.contains (x1, x2, x3) = false := by simpa using hin
      rw [hin'] at hask
      have AS3 : Aside (gramsS (acc2 ++ [(x1, x2, x3)]) (s.drop (j + 1)) = R2) := by
       have := AS2'.out
       unfold onceG at this
       rw [if_neg hin] at this
       exact this
      obtain ⟨W4, hup, hS4, hg4⟩ := setG_put HJ3.out.set x1 x2 x3 hin'
      have hk4 := hk3.grown hg4 (by intro e; exact hne (Option.some.inj e))
      have hO4 := HJ3.out.own.keep2 hg4 (fun k hk e => by cases e; exact HJ3.out.apart hk)
      have HS4 := Lib.hid hS4
      have t0 := hk4.cell 0
      have t1 := hk4.cell 1
      have t2 := hk4.cell 2
      simp only [List.getElem?_toArray, List.getElem?_cons_zero, List.getElem?_cons_succ] at t0 t1 t2
      clear hin hin' AS2' hS4
      go_wp2_with (at_builtin; refine gram_one (g := (x1, x2, x3)) rfl _ _ rfl rfl hO4 rfl rfl hcl ?_; intro v' w5 hO5 hg5)
      go_roundg q2
      case measure => omega
      case rel => exact ⟨j + 1, acc2 ++ [(x1, x2, x3)], by omega, by go_num, by have := AG2.out; show _ = _; omega, HJ3.out.put HS4.out hg4 hO5 hg5, AS3.out, by have := AC2.out; show _ ≤ _; rw [List.length_append, List.length_singleton]; omega⟩
    ·have h3' : ¬ ((j : Int) + 3 ≤ (s.length : Int)) := by omega
     have hfin : acc2 = R2 := by have := AS2.out; rw [gramsS_end acc2 s j (by omega)] at this; exact this
     subst hfin
     go_wp2_with fail
     go_roundg q
     case measure => omega
     case rel => exact ⟨k + 1, acc2, by omega, by go_num, by have := AG.out; show _ = _; omega, AJ2.out, AS'.out, by have := AC'.out; show _ ≤ _; omega⟩
  ·obtain rfl : k = ts.length := by omega
   have hfin : acc = R := by have := AS.out; rw [List.drop_length] at this; exact this
   subst hfin
   go_wp2_with fail
   go_ret
   exact ⟨_, rfl, AJ.out.own, AJ.out.bel⟩
open Go.RowKit
set_option maxRecDepth 100000 in
theorem presentKey_c (t : List UInt8) (w : World) (ht : t.length ≤ 8000000) :
  Calls Tryz.prog 62 #[.string ⟨t.toArray⟩] w fun e w' => e = .returned (.string ⟨(keyP t).toArray⟩) ∧ w = w' := by
 have hcat : ∀ W, (Op.stringOp .add ⟨#[112]⟩ ⟨t.toArray⟩).run Tryz.prog W = .ok (.string ⟨(112 :: t).toArray⟩) W := fun W => run_string_add_lists (P := Tryz.prog) W [112] t (by simp) (by omega)
 go_enter Tryz.func62, Tryz.ntmps62
 go_wp2_with fail
 go_ret
 exact ⟨rfl, rfl⟩
set_option maxRecDepth 100000 in
theorem baseR_c (r : List UInt8) (w : World) (hr : r.length ≤ 8000000) :
  Calls Tryz.prog 64 #[.string ⟨r.toArray⟩] w fun e w' => e = .returned (.string ⟨(baseR r).toArray⟩) ∧ w = w' := by
 have hT := Tryz.strings_TrimSuffix ⟨r.toArray⟩ ⟨#[83, 117, 98, 115, 116, 114, 105, 110, 103, 115, 77, 97, 116, 99, 104]⟩ w (by simp [ByteArray.size]; omega)
 have hcat : ∀ W, (Op.stringOp .add ⟨(Lib.trimSuffix r [83, 117, 98, 115, 116, 114, 105, 110, 103, 115, 77, 97, 116, 99, 104]).toArray⟩ ⟨#[77, 97, 116, 99, 104]⟩).run Tryz.prog W = .ok (.string ⟨(baseR r).toArray⟩) W := fun W => run_string_add_lists (P := Tryz.prog) W _ [77, 97, 116, 99, 104] (by
  have : (Lib.trimSuffix r [83, 117, 98, 115, 116, 114, 105, 110, 103, 115, 77, 97, 116, 99, 104]).length ≤ r.length := by
   unfold Lib.trimSuffix; split
   ·rw [List.length_take]; omega
   ·exact Nat.le_refl _
  omega) (by simp)
 have HT := Lib.hid hT
 clear hT
 go_enter Tryz.func64, Tryz.ntmps64
 go_wp2_with (go_at_call 116; (with_reducible refine HT.out.mono ?_); rintro e w1 ⟨rfl, rfl⟩)
 go_ret
 exact ⟨rfl, rfl⟩
theorem u32_range (x : Int) : 0 ≤ IntKind.u32.wrap x ∧ IntKind.u32.wrap x < 4294967296 := by
 unfold IntKind.wrap
 simp [IntKind.bits, IntKind.signed]
 omega
set_option maxRecDepth 100000 in
theorem Sum_c (s : List UInt8) (w : World) (hs : s.length ≤ 4611686018427387904) :
  Calls Tryz.prog 115 #[.string ⟨s.toArray⟩] w fun e w' => ∃ n : Nat, n < 4294967296 ∧ e = .returned (.int .i64 n) ∧ w = w' := by
 have hget := ba_get
 go_enter Tryz.func115, Tryz.ntmps115
 go_wp2_with fail
 go_loopg [3, 7] s.length (fun gk x i wr => ∃ (k : Nat) (n : Int), k ≤ s.length ∧ i = .int .i64 (k : Int) ∧ x = .int .u32 n ∧ 0 ≤ n ∧ n < 4294967296 ∧ Aside (k + gk = s.length) ∧ w = wr)
 case atStart => exact ⟨0, 2166136261, by omega, rfl, rfl, by omega, by omega, by show _ = _; omega, rfl⟩
 case round =>
  obtain ⟨k, n, hk, rfl, rfl, hn0, hn1, AG, rfl⟩ := hrel
  by_cases hlt : k < s.length
  ·obtain ⟨q, rfl⟩ : ∃ q, gk = q + 1 := ⟨gk - 1, by have := AG.out; omega⟩
   go_wp2_with fail
   go_roundg q
   case measure => omega
   case rel => exact ⟨k + 1, _, by omega, by go_num, rfl, (u32_range _).1, (u32_range _).2, by have := AG.out; show _ = _; omega, rfl⟩
  ·obtain rfl : k = s.length := by omega
   go_wp2_with fail
   go_ret
   refine ⟨n.toNat, by omega, ?_, rfl⟩
   rw [Int.toNat_of_nonneg hn0]
   have : wrap64 n = n := by first | exact IntWalk.i64_in _ (by omega) | simp [wrap64, IntKind.wrap, IntKind.bits, IntKind.signed]; omega
   first | rfl | rw [this]
theorem u8_range (x : Int) : 0 ≤ IntKind.u8.wrap x ∧ IntKind.u8.wrap x < 256 := by
 unfold IntKind.wrap
 simp [IntKind.bits, IntKind.signed]
 omega
theorem u8_val {a : Int} (h : 0 ≤ a ∧ a < 256) : ((UInt8.ofNat a.toNat).toNat : Int) = a := by
 simp
 omega
set_option maxRecDepth 100000 in
theorem Put4_c (n : Nat) (w : World) (hn : n < 4294967296) :
  Calls Tryz.prog 114 #[.int .i64 (n : Int), .int .i64 4] w fun e w' => ∃ X : List UInt8, X.length = 4 ∧ e = .returned (.tuple #[.string ⟨X.toArray⟩, .int .i64 0]) ∧ Below w.heap.size w w' := by
 have hmk : ∀ w, (Instr.makeSlice 176 (.int .i64 4) (.int .i64 4)).run Tryz.prog w = .ok (.slice (some ⟨w.heap.size, 0, none⟩) 4 4) (w.alloc (.cells #[.int .u8 0, .int .u8 0, .int .u8 0, .int .u8 0] 5)) := fun w => by
  have h := run_make_row' (P := Tryz.prog) 176 5 (.int .u8 0) 1 Tryz.underlying176 (show (Tryz.prog.info? 5).map (fun i => (i.zero, i.size, i.bytes)) = some (some (.int .u8 0), 1, 1) by kernel_rfl) rfl .i64 .i64 4 (by omega) (by omega) w
  have e : madeCells #[Value.int .u8 0] 4 = #[.int .u8 0, .int .u8 0, .int .u8 0, .int .u8 0] := by kernel_rfl
  rw [e] at h
  exact h
 have hq1 : ¬ ((n : Int) < 0) := by omega
 have hq2 : ((n : Int) / 4294967296 != 0) = false := by
  rw [show ((n : Int) / 4294967296) = 0 by omega]; rfl
 go_enter Tryz.func114, Tryz.ntmps114
 go_wp2_with fail
 go_loopg [29] 4 (fun gk i wr => ∃ (k : Nat) (a b c d : Int), k ≤ 4 ∧ i = .int .i64 (k : Int) ∧ Aside (k + gk = 4) ∧ Aside ((0 ≤ a ∧ a < 256) ∧ (0 ≤ b ∧ b < 256) ∧ (0 ≤ c ∧ c < 256) ∧ (0 ≤ d ∧ d < 256)) ∧ Aside (Below w.heap.size w wr) ∧ Aside (Bk wr w.heap.size 5 #[.int .u8 a, .int .u8 b, .int .u8 c, .int .u8 d]))
 case atStart => exact ⟨0, 0, 0, 0, 0, by omega, rfl, by show _ = _; omega, by show _ ∧ _; omega, bel_one _ _, Bk.new _ _ _⟩
 case round =>
  obtain ⟨k, a, b, c, d, hk, rfl, AG, AR, AB, AK⟩ := hrel
  have c0 := AK.out.cell 0
  have c1 := AK.out.cell 1
  have c2 := AK.out.cell 2
  have c3 := AK.out.cell 3
  have of := fun i => AK.out.frozen i
  simp only [List.getElem?_toArray, List.getElem?_cons_zero, List.getElem?_cons_succ] at c0 c1 c2 c3
  have hc : k = 0 ∨ k = 1 ∨ k = 2 ∨ k = 3 ∨ k = 4 := by omega
  rcases hc with rfl | rfl | rfl | rfl | rfl
  ·obtain ⟨q, rfl⟩ : ∃ q, gk = q + 1 := ⟨gk - 1, by have := AG.out; omega⟩
   go_wp2_with fail
   go_roundg q
   case measure => omega
   case rel => exact ⟨1, a, b, c, _, by omega, rfl, by have := AG.out; show _ = _; omega, ⟨AR.out.1, AR.out.2.1, AR.out.2.2.1, u8_range _⟩, AB.out.setCell (Nat.le_refl _) _, AK.out.set 3 _⟩
  ·obtain ⟨q, rfl⟩ : ∃ q, gk = q + 1 := ⟨gk - 1, by have := AG.out; omega⟩
   go_wp2_with fail
   go_roundg q
   case measure => omega
   case rel => exact ⟨2, a, b, _, d, by omega, rfl, by have := AG.out; show _ = _; omega, ⟨AR.out.1, AR.out.2.1, u8_range _, AR.out.2.2.2⟩, AB.out.setCell (Nat.le_refl _) _, AK.out.set 2 _⟩
  ·obtain ⟨q, rfl⟩ : ∃ q, gk = q + 1 := ⟨gk - 1, by have := AG.out; omega⟩
   go_wp2_with fail
   go_roundg q
   case measure => omega
   case rel => exact ⟨3, a, _, c, d, by omega, rfl, by have := AG.out; show _ = _; omega, ⟨AR.out.1, u8_range _, AR.out.2.2⟩, AB.out.setCell (Nat.le_refl _) _, AK.out.set 1 _⟩
  ·obtain ⟨q, rfl⟩ : ∃ q, gk = q + 1 := ⟨gk - 1, by have := AG.out; omega⟩
   go_wp2_with fail
   go_roundg q
   case measure => omega
   case rel => exact ⟨4, _, b, c, d, by omega, rfl, by have := AG.out; show _ = _; omega, ⟨⟨by omega, by omega⟩, AR.out.2⟩, AB.out.setCell (Nat.le_refl _) _, AK.out.set 0 _⟩
  ·have hcv := run_convert_bytes_back (P := Tryz.prog) wr 176 9 5 ⟨w.heap.size, 0, none⟩ 4 [UInt8.ofNat a.toNat, UInt8.ofNat b.toNat, UInt8.ofNat c.toNat, UInt8.ofNat d.toNat] Tryz.underlying176 Tryz.underlying5 Tryz.underlying9 (by
    intro j hj
    rw [add_at2, Nat.zero_add]
    match j, hj with
    | 0, _ => rw [c0]; simp only [List.getElem_cons_zero]; rw [u8_val AR.out.1]
    | 1, _ => rw [c1]; simp only [List.getElem_cons_zero, List.getElem_cons_succ]; rw [u8_val AR.out.2.1]
    | 2, _ => rw [c2]; simp only [List.getElem_cons_zero, List.getElem_cons_succ]; rw [u8_val AR.out.2.2.1]
    | 3, _ => rw [c3]; simp only [List.getElem_cons_zero, List.getElem_cons_succ]; rw [u8_val AR.out.2.2.2]
    | j + 4, hj => simp at hj; omega)
   simp only [List.length_cons, List.length_nil] at hcv
   go_wp2_with fail
   go_ret2
   exact ⟨[UInt8.ofNat a.toNat, UInt8.ofNat b.toNat, UInt8.ofNat c.toNat, UInt8.ofNat d.toNat], rfl, rfl, AB.out⟩
set_option maxRecDepth 100000 in
theorem equalKey_c (t n : List UInt8) (w : World) (ht : t.length ≤ 8000000) (hn : n.length ≤ 4611686018427387904) :
  Calls Tryz.prog 63 #[.string ⟨t.toArray⟩, .string ⟨n.toArray⟩] w fun e w' => ∃ X : List UInt8, X.length = 4 ∧ e = .returned (.string ⟨(keyE t X).toArray⟩) ∧ Below w.heap.size w w' := by
 have HS := Lib.hid (Sum_c n w hn)
 have cat1 : ∀ W, (Op.stringOp .add ⟨#[101]⟩ ⟨t.toArray⟩).run Tryz.prog W = .ok (.string ⟨(101 :: t).toArray⟩) W := fun W => run_string_add_lists (P := Tryz.prog) W [101] t (by simp) (by omega)
 have cat2 : ∀ W, (Op.stringOp .add ⟨(101 :: t).toArray⟩ ⟨#[0]⟩).run Tryz.prog W = .ok (.string ⟨(101 :: (t ++ [0])).toArray⟩) W := fun W => run_string_add_lists (P := Tryz.prog) W (101 :: t) [0] (by simp; omega) (by simp)
 go_enter Tryz.func63, Tryz.ntmps63
 go_wp2_with (first
  | (go_at_call 115; (with_reducible refine HS.out.mono ?_); rintro e w1 ⟨x, hx, rfl, rfl⟩)
  | (go_at_call 114; (with_reducible refine (Put4_c x _ hx).mono ?_); rintro e w2 ⟨X, hX, rfl, hb⟩; have cat3 : ∀ W, (Op.stringOp .add ⟨(101 :: (t ++ [0])).toArray⟩ ⟨X.toArray⟩).run Tryz.prog W = .ok (.string ⟨(keyE t X).toArray⟩) W := fun W => (run_string_add_lists (P := Tryz.prog) W (101 :: (t ++ [0])) X (by simp; omega) (by omega)).trans (by unfold keyE; simp)))
 go_ret
 exact ⟨X, hX, rfl, hb⟩
set_option maxRecDepth 100000 in
theorem pieceKey_c (t : List UInt8) (g : Gram) (w : World) (ht : t.length ≤ 8000000) :
  Calls Tryz.prog 66 #[.string ⟨t.toArray⟩, .agg #[.int .u8 g.1.toNat, .int .u8 g.2.1.toNat, .int .u8 g.2.2.toNat]] w fun e w' => e = .returned (.string ⟨(keyG t g).toArray⟩) ∧ Below w.heap.size w w' := by
 obtain ⟨x1, x2, x3⟩ := g
 simp only
 have hb := bel_one w (.cells #[.int .u8 x1.toNat, .int .u8 x2.toNat, .int .u8 x3.toNat] 111)
 have hk := Bk.new w 111 #[.int .u8 x1.toNat, .int .u8 x2.toNat, .int .u8 x3.toNat]
 have cat1 : ∀ W, (Op.stringOp .add ⟨#[115]⟩ ⟨t.toArray⟩).run Tryz.prog W = .ok (.string ⟨(115 :: t).toArray⟩) W := fun W => run_string_add_lists (P := Tryz.prog) W [115] t (by simp) (by omega)
 have cat2 : ∀ W, (Op.stringOp .add ⟨(115 :: t).toArray⟩ ⟨#[0]⟩).run Tryz.prog W = .ok (.string ⟨(115 :: (t ++ [0])).toArray⟩) W := fun W => run_string_add_lists (P := Tryz.prog) W (115 :: t) [0] (by simp; omega) (by simp)
 have cat3 : ∀ W, (Op.stringOp .add ⟨(115 :: (t ++ [0])).toArray⟩ ⟨#[x1, x2, x3]⟩).run Tryz.prog W = .ok (.string ⟨(keyG t (x1, x2, x3)).toArray⟩) W := fun W => (run_string_add_lists (P := Tryz.prog) W (115 :: (t ++ [0])) [x1, x2, x3] (by simp; omega) (by simp)).trans (by unfold keyG; simp)
 have hcv : (convert 176 9 (.slice (some ⟨w.heap.size, 0, none⟩) 3 3)).run Tryz.prog (w.alloc (.cells #[.int .u8 x1.toNat, .int .u8 x2.toNat, .int .u8 x3.toNat] 111)) = .ok (.string ⟨#[x1, x2, x3]⟩) (w.alloc (.cells #[.int .u8 x1.toNat, .int .u8 x2.toNat, .int .u8 x3.toNat] 111)) := run_convert_bytes_back (P := Tryz.prog) _ 176 9 5 ⟨w.heap.size, 0, none⟩ 3 [x1, x2, x3] Tryz.underlying176 Tryz.underlying5 Tryz.underlying9 (by
  intro j hj
  rw [add_at2, Nat.zero_add]
  match j, hj with
  | 0, _ => exact hk.cell 0
  | 1, _ => exact hk.cell 1
  | 2, _ => exact hk.cell 2
  | j + 3, hj => simp at hj; omega)
 go_enter Tryz.func66, Tryz.ntmps66
 go_wp2_with fail
 go_ret
 exact ⟨rfl, hb⟩
end Go.Proofs.YtkkbbhlihilnpaaGreatDoor
