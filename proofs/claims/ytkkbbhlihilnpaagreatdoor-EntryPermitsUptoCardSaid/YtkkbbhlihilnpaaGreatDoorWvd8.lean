import Derived.Test.YtkkbbhlihilnpaaGreatDoorWvd2
set_option linter.all false
set_option maxHeartbeats 8000000
set_option maxRecDepth 100000
namespace Go.Proofs.YtkkbbhlihilnpaaGreatDoor
open Go.RowKit
theorem Own.keep2 {B : Nat} {w w' : World} {v : Value} {xs : LL} (h : Own B w v xs) {r : Option Nat} (hg : w.grownBy w' r) (hr : ∀ k, v.ownBlock = some k → r ≠ some k) : Own B w' v xs := by
 refine ⟨h.1.kept hg ?_, Nat.le_trans h.2 hg.size⟩
 rcases hv : v.ownBlock with _ | g
 ·exact .inl rfl
 ·refine .inr ?_
  intro he
  exact hr g hv he.symm
def seenP (ps l : List Nat) : List (Nat × Value) := l.map fun i => (pAt ps i, Value.agg #[])
def SeenP (w : World) (m : Nat) (ps l : List Nat) : Prop := ∃ es c, w.heap[m]? = some (.map es c) ∧ MapR ptrV es (seenP ps l)
theorem SeenP.lt {w : World} {m : Nat} {ps l : List Nat} (h : SeenP w m ps l) : m < w.heap.size := by
 obtain ⟨es, c, h1, _⟩ := h
 exact (Array.getElem?_eq_some_iff.1 h1).1
theorem SeenP.keep {w w' : World} {m : Nat} {ps l : List Nat} (h : SeenP w m ps l) (he : w'.heap[m]? = w.heap[m]?) : SeenP w' m ps l := by
 obtain ⟨es, c, h1, h2⟩ := h
 exact ⟨es, c, he.trans h1, h2⟩
theorem SeenP.below {w w' : World} {m : Nat} {ps l : List Nat} (h : SeenP w m ps l) (hb : Below w.heap.size w w') : SeenP w' m ps l := h.keep (hb.block m h.lt)
theorem SeenP.noown {B : Nat} {w w' : World} {m : Nat} {ps l : List Nat} {v : Value} {xs : LL} (h : SeenP w m ps l) (ho : Own B w v xs) (hg : w.grownBy w' v.ownBlock) : SeenP w' m ps l := by
 refine h.keep (hg.block m h.lt ?_)
 intro e
 obtain ⟨es, c, h1, _⟩ := h
 obtain ⟨⟨_, h2⟩, _⟩ := ho
 rcases h2 with ⟨rfl, hn⟩ | ⟨g, cap, cur, rfl, r2, r3, _⟩
 ·simp [Value.ownBlock] at e
 ·have : g = m := by simpa [Value.ownBlock] using e.symm
  subst this
  rw [h1] at r3
  cases r3
theorem SeenP.made (w : World) (ps : List Nat) : SeenP (w.alloc (.map #[] 0)) w.heap.size ps [] := ⟨_, _, heap_alloc_new w _, rfl⟩
theorem seenP_some {ps : List Nat} (hn : ps.Nodup) {l : List Nat} (hl : ∀ v ∈ l, v < ps.length) {i : Nat} (hi : i < ps.length) : (look (seenP ps l) (pAt ps i)).isSome = l.contains i := by
 rw [← contains_map hn hl hi]
 clear hl hi
 unfold seenP
 induction l with
 | nil => rfl
 | cons x t ih =>
  rw [List.map_cons, look, List.map_cons, List.contains_cons]
  by_cases h : pAt ps i = pAt ps x
  ·simp [h]
  ·rw [if_neg h, ih]
   have : (pAt ps i == pAt ps x) = false := by simpa using h
   rw [this, Bool.false_or]
theorem seenP_val (ps l : List Nat) (p : Nat) : (look (seenP ps l) p).getD (.agg #[]) = .agg #[] := by
 unfold seenP
 induction l with
 | nil => rfl
 | cons x t ih =>
  rw [List.map_cons, look]
  split
  ·rfl
  ·exact ih
theorem equal_def {w : World} {p q : Nat} {cp cq : Array Value} (hp : Bk w p 137 cp) (hq : Bk w q 137 cq) :
  (Op.equal 79 (ptrV p) (ptrV q)).run Tryz.prog w = .ok (decide (p = q)) w := by
 obtain ⟨j, h1, h2⟩ := infoDef
 have hu := Tryz.underlying79
 unfold ptrV
 by_cases h : p = q
 ·subst h
  have h : ∀ d : Nat, (Op.equalIn (d + 1) 79 (.pointer (some ⟨p, 0, none⟩)) (.pointer (some ⟨p, 0, none⟩))).run Tryz.prog w = .ok true w := fun d => by
   simp [Op.equalIn, run_underlying hu, sizeOf, typeInfo, h1, run_sameAddr_same]
  simp [Op.equal, Op.maxDepth, h 9999]
 ·have hne : (⟨p, 0, none⟩ : Addr) ≠ ⟨q, 0, none⟩ := fun e => h (congrArg Addr.block e)
  have h' : ∀ d : Nat, (Op.equalIn (d + 1) 79 (.pointer (some ⟨p, 0, none⟩)) (.pointer (some ⟨q, 0, none⟩))).run Tryz.prog w = .ok false w := fun d => by
   simp [Op.equalIn, run_underlying hu, sizeOf, typeInfo, h1, h2, run_sameAddr_other w hne hp hq]
  simp [Op.equal, Op.maxDepth, h' 9999, h]
section
variable {P : Program} {κ : Type} [DecidableEq κ]
theorem asking_at {K : TypeId} {kv : κ → Value} (w : World) (k : κ) : ∀ (es : List MapEntry) (R : List (κ × Value)) (i : Nat), (∀ x ∈ R, (Op.equal K (kv k) (kv x.1)).run P w = .ok (decide (k = x.1)) w) → es.map (fun e => (e.key, e.val)) = R.map (fun x => (kv x.1, x.2)) →
  ∃ r, (Instr.findAsking K (kv k) es i).run P w = .ok r w ∧ r.map (·.2) = look R k
 | [], [], i, _, _ => ⟨none, rfl, rfl⟩
 | [], _ :: _, i, _, h => by simp at h
 | _ :: _, [], i, _, h => by simp at h
 | e :: es, x :: R, i, hEq, h => by
  simp only [List.map_cons, List.cons.injEq, Prod.mk.injEq] at h
  obtain ⟨r, hr, hm⟩ := asking_at w k es R (i + 1) (fun y hy => hEq y (List.mem_cons_of_mem _ hy)) h.2
  have h0 := hEq x (List.mem_cons_self ..)
  simp only [Instr.findAsking, Sem.run_bind, h.1.1, h0, Result.andThen_ok, look]
  by_cases hx : k = x.1
  ·simp only [hx, decide_true, if_true]
   exact ⟨some (i, e.val), rfl, by simp [h.1.2]⟩
  ·simp only [hx, decide_false, Bool.false_eq_true, if_false]
   exact ⟨r, hr, hm⟩
theorem find_at {K : TypeId} {kv : κ → Value} {D : TypeDesc} (hU : P.underlying K = some D) (hNow : ∀ a b, Instr.sameNow D (kv a) (kv b) = none) (w : World) (k : κ) (es : Array MapEntry) (R : List (κ × Value)) (hEq : ∀ x ∈ R, (Op.equal K (kv k) (kv x.1)).run P w = .ok (decide (k = x.1)) w) (h : MapR kv es R) :
  ∃ q, (Instr.findKey K (kv k) es.toList).run P w = .ok q w ∧ q.map (·.2) = look R k := by
 unfold MapR at h
 obtain ⟨es⟩ := es
 dsimp only at h ⊢
 unfold Instr.findKey
 simp only [Sem.run_bind, run_underlying hU, Result.andThen_ok]
 cases es with
 | nil =>
  cases R with
  | nil => exact ⟨none, rfl, rfl⟩
  | cons _ _ => simp at h
 | cons e es =>
  cases R with
  | nil => simp at h
  | cons x R =>
   have hk : e.key = kv x.1 := by
    simp only [List.map_cons, List.cons.injEq, Prod.mk.injEq] at h
    exact h.1.1
   have : Instr.findNow D (kv k) (e :: es) 0 = none := by simp only [Instr.findNow, hk, hNow]
   rw [this]
   exact asking_at w k _ _ 0 hEq h
end
theorem check_ptr (b : Bool) (w : World) (p : Nat) : (Instr.checkKey b 10000 79 (ptrV p)).run Tryz.prog w = .ok () w := by
 unfold ptrV
 cases b <;> kernel_rfl
theorem seenP_find {w0 w : World} {s m : Nat} {ps l : List Nat} {L : List DefS} (hS : SchAt w0 s ps L) (hb : Below w0.heap.size w0 w) (hl : ∀ x ∈ l, x < L.length) {i : Nat} (hi : i < L.length) {es : Array MapEntry} (h : MapR ptrV es (seenP ps l)) :
  ∃ q, (Instr.findKey 79 (ptrV (pAt ps i)) es.toList).run Tryz.prog w = .ok q w ∧ q.map (·.2) = look (seenP ps l) (pAt ps i) := by
 refine find_at Tryz.underlying79 (fun a b => rfl) w (pAt ps i) es _ ?_ h
 intro x hx
 unfold seenP at hx
 obtain ⟨j, hj, rfl⟩ := List.mem_map.1 hx
 obtain ⟨ci, hbi⟩ := hS.bkAt hi
 obtain ⟨cj, hbj⟩ := hS.bkAt (hl j hj)
 exact equal_def (hbi.below hb) (hbj.below hb)
theorem seenP_ask {w0 w : World} {s m : Nat} {ps l : List Nat} {L : List DefS} (hS : SchAt w0 s ps L) (hb : Below w0.heap.size w0 w) (hl : ∀ x ∈ l, x < L.length) {i : Nat} (hi : i < L.length) (h : SeenP w m ps l) :
  (Instr.lookup 148 (.map (some m)) (.pointer (some ⟨pAt ps i, 0, none⟩)) true).run Tryz.prog w = .ok (.tuple #[.agg #[], .bool (l.contains i)]) w := by
 obtain ⟨es, c, hw, hR⟩ := h
 obtain ⟨q, hq, hm⟩ := seenP_find (m := m) hS hb hl hi hR
 have h1 := seenP_some hS.nodup (fun x hx => by rw [hS.len]; exact hl x hx) (show i < ps.length by rw [hS.len]; exact hi)
 have h2 := seenP_val ps l (pAt ps i)
 rw [← h1]
 have hz : ∀ w, (zeroValue 72).run Tryz.prog w = .ok (.agg #[]) w := fun w => by kernel_rfl
 have hC := check_ptr es.isEmpty w (pAt ps i)
 unfold ptrV at hq hC
 unfold Instr.lookup
 simp only [Sem.run_bind, run_underlying Tryz.underlying148, Result.andThen_ok]
 simp only [getObj, Sem.run, Sem.run_bind, hw, Result.andThen_ok, hC, hq, pure, Sem.run_pure]
 rw [← hm] at h2 ⊢
 cases q with
 | none =>
  simp only [Sem.run_bind, hz, Result.andThen_ok]
  rfl
 | some x =>
  simp only [Option.map_some, Option.getD_some] at h2
  simp only [Option.map_some]
  rw [show x.2 = .agg #[] from h2]
  rfl
theorem seenP_put {w0 w : World} {s m : Nat} {ps l : List Nat} {L : List DefS} (hS : SchAt w0 s ps L) (hb : Below w0.heap.size w0 w) (hl : ∀ x ∈ l, x < L.length) {i : Nat} (hi : i < L.length) (h : SeenP w m ps l) (hn : l.contains i = false) :
  ∃ W, (Instr.mapUpdate 148 (.map (some m)) (.pointer (some ⟨pAt ps i, 0, none⟩)) (.agg #[])).run Tryz.prog w = .ok () W ∧ SeenP W m ps (l ++ [i]) ∧ w.grownBy W (some m) := by
 obtain ⟨es, c, hw, hR⟩ := h
 obtain ⟨q, hq, hm⟩ := seenP_find (m := m) hS hb hl hi hR
 have h1 := seenP_some hS.nodup (fun x hx => by rw [hS.len]; exact hl x hx) (show i < ps.length by rw [hS.len]; exact hi)
 rw [hn] at h1
 have hl0 : look (seenP ps l) (pAt ps i) = none := by simpa using h1
 rw [hl0] at hm
 obtain rfl : q = none := by simpa using hm
 have hC := check_ptr false w (pAt ps i)
 have hp := hR.push (pAt ps i) (.agg #[]) c
 refine ⟨World.setMap w m (es.push { key := ptrV (pAt ps i), val := .agg #[], born := c }) (c + 1), ?_, ⟨_, _, setMap_heap (Array.getElem?_eq_some_iff.1 hw).1, ?_⟩, setMap_grown _ _ _ _⟩
 ·unfold ptrV at hq hC
  unfold Instr.mapUpdate
  simp only [Sem.run_bind, run_underlying Tryz.underlying148, Result.andThen_ok]
  simp only [getObj, Sem.run, Sem.run_bind, hw, Result.andThen_ok, hC, hq, setObj, World.setMap]
  rfl
 ·unfold seenP at hp ⊢
  rw [List.map_append]
  exact hp
structure NmOK (L : List DefS) (l : LL) : Prop where
 nodup : l.Nodup
 of : ∀ x ∈ l, x ∈ L.map DefS.name
theorem NmOK.nil (L : List DefS) : NmOK L [] := ⟨by simp, fun x hx => by simp at hx⟩
theorem sub_len6 {α : Type} [DecidableEq α] : ∀ (l M : List α), l.Nodup → (∀ x ∈ l, x ∈ M) → l.length ≤ M.length
 | [], M, _, _ => Nat.zero_le _
 | x :: t, M, hn, h => by
  rw [List.nodup_cons] at hn
  have hx := h x (by simp)
  have h1 := sub_len6 t (M.erase x) hn.2 (fun y hy => (List.mem_erase_of_ne (by rintro rfl; exact hn.1 hy)).2 (h y (by simp [hy])))
  have h2 := List.length_erase_of_mem hx
  have h3 : 0 < M.length := List.length_pos_of_mem hx
  simp only [List.length_cons]
  omega
theorem NmOK.len {L : List DefS} {l : LL} (h : NmOK L l) : l.length ≤ L.length := by
 have := sub_len6 l (L.map DefS.name) h.nodup h.of
 simpa using this
theorem addN_cases {L : List DefS} {l : LL} {nm : LU} {j : Nat} (hj : findD L false nm = some j) : ∃ e, L[j]? = some e ∧ addN L l nm = if l.contains e.name then l else l ++ [e.name] := by
 obtain ⟨e, h1, _⟩ := findD_at hj
 refine ⟨e, h1, ?_⟩
 unfold addN
 rw [hj]
 simp only [h1]
theorem NmOK.add {L : List DefS} {l : LL} (h : NmOK L l) {e : DefS} (he : e ∈ L) (hc : l.contains e.name = false) : NmOK L (l ++ [e.name]) := by
 refine ⟨?_, ?_⟩
 ·rw [List.nodup_append]
  refine ⟨h.nodup, by simp, fun a ha b hb => ?_⟩
  have hb' : b = e.name := by simpa using hb
  subst hb'
  rintro rfl
  rw [List.contains_iff_mem.2 ha] at hc
  cases hc
 ·intro x hx
  rcases List.mem_append.1 hx with hx | hx
  ·exact h.of x hx
  ·rw [List.mem_singleton.1 hx]
   exact List.mem_map_of_mem he
def upA (L : List DefS) (of : DefS → LL) (n : Nat) (st : List Nat × LL) (nm : LU) : List Nat × LL := match findD L true nm with
 | none => st
 | some j => allF L of n j st
theorem allF_up {L : List DefS} {of : DefS → LL} {i : Nat} {d : DefS} (n : Nat) (st : List Nat × LL) (hd : L[i]? = some d) :
  allF L of (n + 1) i st = if st.1.contains i then st else ((d.sup.foldl (upA L of n) (st.1 ++ [i], st.2)).1, (of d).foldl (addN L) (d.sup.foldl (upA L of n) (st.1 ++ [i], st.2)).2) := by
 rw [allF, hd]
 rfl
structure OfOK (w0 : World) (ps : List Nat) (L : List DefS) (of : DefS → LL) (f : FuncId) : Prop where
 call : ∀ i d, L[i]? = some d → ∃ v, Texts w0 v (of d) ∧ ∀ W, Below w0.heap.size w0 W → Calls Tryz.prog f #[ptrV (pAt ps i)] W fun e w' => e = .returned v ∧ W = w'
 short : ∀ d ∈ L, (of d).length ≤ 1000000 ∧ ∀ x ∈ of d, x.length ≤ 1000000
 enter : ∀ (args : Array Value) (W : World), (callFunc f args).run Tryz.prog W = .ok (.enter f args) W
def AllRet (B : Nat) (w : World) (m : Nat) (ps : List Nat) (L : List DefS) (R : List Nat × LL) (e : Ending) (w' : World) : Prop := Below B w w' ∧ NmOK L R.2 ∧ SeenP w' m ps R.1 ∧ ∃ v, e = .returned v ∧ Own B w' v R.2
structure AJ6 (L : List DefS) (of : DefS → LL) (n : Nat) (d : DefS) (w0 : World) (m : Nat) (ps : List Nat) (len : Nat) (R : List Nat × LL) (k : Nat) (v : Value) (wr : World) (st : List Nat × LL) : Prop where
 own : Own w0.heap.size wr v st.2
 seen : SeenP wr m ps st.1
 bel : Below w0.heap.size w0 wr
 nodup : st.1.Nodup
 lt : ∀ x ∈ st.1, x < L.length
 more : len ≤ st.1.length
 nm : NmOK L st.2
 rest : (d.sup.drop k).foldl (upA L of n) st = R
structure BJ6 (L : List DefS) (xs : LL) (w0 : World) (m : Nat) (ps : List Nat) (R : List Nat × LL) (k : Nat) (v : Value) (wr : World) (acc : LL) : Prop where
 own : Own w0.heap.size wr v acc
 seen : SeenP wr m ps R.1
 bel : Below w0.heap.size w0 wr
 nm : NmOK L acc
 rest : (xs.drop k).foldl (addN L) acc = R.2
theorem name_short {L : List DefS} (hlim : ∀ d ∈ L, DefLim d) {d : DefS} (hd : d ∈ L) : d.name.length ≤ 1000000 := by
 have h := hlim d hd
 unfold DefS.name
 cases hn : d.names with
 | nil => exact h.oid
 | cons x t => exact h.names.2 x (by rw [hn]; simp)
open Go.RowKit
structure RowS (w : World) (g : Nat) (l : LL) : Prop where
 bk : ∃ cs, Bk w g 9 cs
 at_ : ∀ j x, l[j]? = some x → w.cell? ⟨g, j, none⟩ = some (.string ⟨x.toArray⟩) ∧ w.frozen? ⟨g, j, none⟩ = false
theorem RowS.lt {w : World} {g : Nat} {l : LL} (h : RowS w g l) : g < w.heap.size := by
 obtain ⟨cs, hb⟩ := h.bk
 exact hb.lt
theorem Own.row {B : Nat} {w : World} {v : Value} {xs : LL} (h : Own B w v xs) : (v = .slice none 0 0 ∧ xs = []) ∨ ∃ g c, v = .slice (some ⟨g, 0, none⟩) xs.length c ∧ xs.length ≤ c ∧ B ≤ g ∧ v.ownBlock = some g ∧ RowS w g xs := by
 obtain ⟨⟨h1, h2⟩, _⟩ := id h
 rcases h2 with ⟨rfl, hn⟩ | ⟨g, cap, cur, rfl, r2, r3, r4, r5, r6, r7⟩
 ·exact .inl ⟨rfl, List.eq_nil_of_length_eq_zero hn⟩
 ·refine .inr ⟨g, cap, rfl, r4, r2, rfl, ⟨cur, r3⟩, fun j x hj => ?_⟩
  have hjl : j < xs.length := (List.getElem?_eq_some_iff.1 hj).1
  have hc : (cur.toList.take (xs.length * 1))[j]? = some (strV x) := by rw [r7]; simp [hj]
  rw [List.getElem?_take] at hc
  constructor
  ·simp only [World.cell?, r3]
   simpa [hjl, strV] using hc
  ·have hB : Bk w g 9 cur := r3
   exact hB.frozen j
theorem RowS.grown {w w' : World} {g : Nat} {l : LL} (h : RowS w g l) {r : Option Nat} (hg : w.grownBy w' r) (hr : r ≠ some g) : RowS w' g l := by
 have hb := hg.block g h.lt (fun e => hr e.symm)
 obtain ⟨cs, hk⟩ := h.bk
 refine ⟨⟨cs, hb.trans hk⟩, fun j x hj => ?_⟩
 have := h.at_ j x hj
 simp only [World.cell?, World.frozen?, hb] at this ⊢
 exact this
theorem RowS.set {w : World} {g : Nat} {l : LL} (h : RowS w g l) {j : Nat} (hj : j < l.length) (x : LU) : RowS (w.setCell ⟨g, j, none⟩ (.string ⟨x.toArray⟩)) g (l.set j x) := by
 have hc0 := (h.at_ j _ (List.getElem?_eq_getElem hj)).1
 obtain ⟨cs, hk⟩ := h.bk
 refine ⟨⟨_, hk.set j _⟩, fun i y hi => ?_⟩
 rw [World.frozen?_setCell]
 rw [List.getElem?_set] at hi
 by_cases hij : j = i
 ·subst hij
  rw [if_pos rfl, if_pos hj] at hi
  cases hi
  exact ⟨set_same _ _ _ _ _ hc0, (h.at_ j _ (List.getElem?_eq_getElem hj)).2⟩
 ·rw [if_neg hij] at hi
  have hx := h.at_ i y hi
  exact ⟨(set_other _ _ _ _ _ hij).trans hx.1, hx.2⟩
theorem set_midS {α : Type} (c p : List α) (x : α) (h : c.length < p.length) : (c ++ p.drop c.length).set c.length x = (c ++ [x]) ++ p.drop (c ++ [x]).length := set_mid c p x h
theorem slice_fromS (g n c k : Nat) (hk' : k < n) (hc : n ≤ c) (w : World) : (Instr.slice 23 (.slice (some ⟨g, 0, none⟩) n c) (some (.int .i64 (k : Int))) none none).run Tryz.prog w = .ok (.slice (some ⟨g, k, none⟩) (n - k) (c - k)) w := by
 have hk : k ≤ n := Nat.le_of_lt hk'
 have h1 : (Instr.sliceBounds true n c (some (.int .i64 k)) none none).run Tryz.prog w = .ok (k, n, c) w := by
  simp [Instr.sliceBounds, run_sliceBound, hk, hc]
 have h2 : (sizeOf 9).run Tryz.prog w = .ok 1 w := by kernel_rfl
 unfold Instr.slice
 simp only [Sem.run_bind, run_underlying Tryz.underlying23, Result.andThen_ok, h1, h2, Sem.run_pure]
 have ha : (⟨g, 0, none⟩ : Addr).add (k * 1) = ⟨g, k * 1, none⟩ := add_off g _
 simp only [Nat.mul_one] at ha
 simp [ha]
 intro e
 omega
theorem slice_uptoS (g n c k : Nat) (hk : k ≤ c) (w : World) : (Instr.slice 23 (.slice (some ⟨g, 0, none⟩) n c) none (some (.int .i64 (k : Int))) none).run Tryz.prog w = .ok (.slice (some ⟨g, 0, none⟩) k c) w := by
 have h1 : (Instr.sliceBounds true n c none (some (.int .i64 k)) none).run Tryz.prog w = .ok (0, k, c) w := by
  simp [Instr.sliceBounds, run_sliceBound, hk]
 have h2 : (sizeOf 9).run Tryz.prog w = .ok 1 w := by kernel_rfl
 unfold Instr.slice
 simp only [Sem.run_bind, run_underlying Tryz.underlying23, Result.andThen_ok, h1, h2, Sem.run_pure]
 have ha : (⟨g, 0, none⟩ : Addr).add 0 = ⟨g, 0, none⟩ := add_off g _
 simp [ha]
theorem setCells_bk {g : Nat} {t : TypeId} : ∀ (vs : List Value) (o : Nat) (w : World), (∃ cs, Bk w g t cs) → ∃ cs, Bk (w.setCells g o vs) g t cs
 | [], _, _, h => h
 | v :: r, o, w, ⟨cs, h⟩ => setCells_bk r (o + 1) _ ⟨_, h.set o v⟩
theorem clear_strs {w : World} {g : Nat} {c p : LL} (h : RowS w g (c ++ p.drop c.length)) (hc : c.length < p.length) (cap : Nat) :
  ∃ W, (∀ ty, (Builtin.clear_ #[23] ty #[.slice (some ⟨g, c.length, none⟩) (p.length - c.length) cap]).run Tryz.prog w = .ok (.tuple #[]) W) ∧ RowS W g c ∧ w.grownBy W (some g) := by
 have hz : ∀ w, (zeroValue 9).run Tryz.prog w = .ok (.string ⟨#[]⟩) w := fun w => by kernel_rfl
 obtain ⟨n, hn⟩ : ∃ n, p.length - c.length = n + 1 := ⟨p.length - c.length - 1, by omega⟩
 rw [hn]
 generalize hV : (Builtin.zeroCells #[(.string ⟨#[]⟩ : Value)] (n + 1)).toList = V
 have hVl : V.length = n + 1 := by rw [← hV]; simp [Builtin.zeroCells]
 have hV1 : ∀ v ∈ V, v.oneCell' = true := by
  intro v hv
  rw [← hV] at hv
  simp [Builtin.zeroCells] at hv
  obtain ⟨i, _, rfl⟩ := hv
  simp [Nat.mod_one, Value.oneCell']
 have hst := run_storeCells_cells (P := Tryz.prog) g c.length V 0 w
  (by
   intro j hj
   have hd : (c ++ p.drop c.length)[c.length + j]? = some (p[c.length + j]'(by omega)) := by
    rw [List.getElem?_append_right (by omega), List.getElem?_drop, show c.length + (c.length + j - c.length) = c.length + j by omega]; exact List.getElem?_eq_getElem (by omega)
   rw [Nat.add_zero, (h.at_ _ _ hd).1]; rfl)
  (by
   intro j hj
   have hd : (c ++ p.drop c.length)[c.length + j]? = some (p[c.length + j]'(by omega)) := by
    rw [List.getElem?_append_right (by omega), List.getElem?_drop, show c.length + (c.length + j - c.length) = c.length + j by omega]; exact List.getElem?_eq_getElem (by omega)
   rw [Nat.add_zero]
   exact (h.at_ _ _ hd).2) hV1
 simp only [Nat.add_zero] at hst
 have hg := setCells_grown g V c.length w
 refine ⟨w.setCells g c.length V, fun ty => ?_, ⟨setCells_bk V _ w h.bk, fun j x hj => ?_⟩, hg⟩
 ·simp [Builtin.clear_, run_underlying Tryz.underlying23, hz, Value.cells, hV, hst]
 ·have hjl : j < c.length := (List.getElem?_eq_some_iff.1 hj).1
  have hx := h.at_ j x (by rw [List.getElem?_append_left hjl]; exact hj)
  rw [World.cell?_setCells_out g V _ w _ (fun _ _ => .inl (by show j < _; omega)), World.frozen?_setCells]
  exact hx
def idxI (xs : LL) (P : LU → Bool) : Int := match xs.findIdx? P with
 | none => -1
 | some k => k
theorem idx_step {xs : LL} {P : LU → Bool} {k : Nat} (hk : k < xs.length) (hb : ∀ x ∈ xs.take k, P x = false) (hp : P xs[k] = true) : idxI xs P = k := by
 have : xs.findIdx? P = some k := by
  rw [List.findIdx?_eq_some_iff_getElem]
  refine ⟨hk, hp, fun j hj => ?_⟩
  have := hb xs[j] (by rw [List.mem_take_iff_getElem]; exact ⟨j, by omega, rfl⟩)
  rw [this]; simp
 unfold idxI
 rw [this]
theorem idx_none {xs : LL} {P : LU → Bool} (hb : ∀ x ∈ xs, P x = false) : idxI xs P = -1 := by
 have : xs.findIdx? P = none := by
  rw [List.findIdx?_eq_none_iff]
  exact hb
 unfold idxI
 rw [this]
structure AskG (w : World) (g : Option Nat) (f : FuncId) (cap : Array Value) (xs : LL) (P : LU → Bool) : Prop where
 call : ∀ x ∈ xs, ∀ W, w.grownBy W g → Calls Tryz.prog f (#[.string ⟨x.toArray⟩] ++ cap) W fun e W' => e = .returned (.bool (P x)) ∧ W = W'
 enter : ∀ (args : Array Value) (W : World), (callFunc f args).run Tryz.prog W = .ok (.enter f args) W
theorem IndexFuncS_i (f : FuncId) (cap : Array Value) (xs : LL) (v : Value) (g0 : Option Nat) (w : World) (hv : Texts w v xs) (hl : xs.length ≤ 1000000) (P : LU → Bool) (hF : AskG w g0 f cap xs P) :
  Calls Tryz.prog 85 #[v, .func (.func f) #[] cap] w fun e w' => e = .returned (.int .i64 (idxI xs P)) ∧ w = w' := by
 have HF := hiD hF.call
 have hent := hF.enter
 clear hF
 have HV := hiD hv
 obtain ⟨A, n, c, rfl⟩ := hv.isSlice
 have hn : n = xs.length := by
  rcases hv with ⟨rfl, h⟩ | ⟨b, c', h, _⟩
  ·cases h; rfl
  ·cases h; rfl
 subst hn
 clear hv
 go_enter Tryz.func85, Tryz.ntmps85
 go_wp2_with fail
 go_loopg [8] xs.length (fun gk i wr => ∃ k : Nat, k ≤ xs.length ∧ i = .int .i64 k ∧ Aside (k + gk = xs.length) ∧ w = wr ∧ Aside (∀ x ∈ xs.take k, P x = false))
 case atStart => exact ⟨0, by omega, rfl, by show _ = _; omega, rfl, by show ∀ x ∈ _, _; simp⟩
 case round =>
  obtain ⟨k, hk, rfl, AG, rfl, AS⟩ := hrel
  by_cases hlt : k < xs.length
  ·obtain ⟨q, rfl⟩ : ∃ q, gk = q + 1 := ⟨gk - 1, by have := AG.out; omega⟩
   obtain ⟨g, hg, hcell⟩ : ∃ g, A = some ⟨g, 0, none⟩ ∧ w.cell? ⟨g, k, none⟩ = some (.string ⟨xs[k].toArray⟩) := by
    rcases HV.out with ⟨h, _⟩ | ⟨b, c', h, _, _, hx⟩
    ·rw [h] at hlt; simp at hlt
    ·cases h; exact ⟨b, rfl, hx k hlt⟩
   subst hg
   have hC := HF.out xs[k] (List.getElem_mem hlt) w (World.grownBy.refl _ _)
   cases hP : P xs[k]
   all_goals
    have HP := hiD hP
    rw [hP] at hC
    have HC := hiD hC
    clear hP hC
   ·go_wp2_with ((with_reducible refine HC.out.mono ?_); rintro e w2 ⟨rfl, rfl⟩)
    go_roundg q
    case measure => omega
    case rel =>
     refine ⟨k + 1, by omega, by go_num, by have := AG.out; show _ = _; omega, rfl, ?_⟩
     show ∀ x ∈ _, _
     intro x hx
     rw [List.take_succ_eq_append_getElem hlt] at hx
     rcases List.mem_append.1 hx with hx | hx
     ·exact AS.out x hx
     ·rw [List.mem_singleton.1 hx]; exact HP.out
   ·go_wp2_with ((with_reducible refine HC.out.mono ?_); rintro e w2 ⟨rfl, rfl⟩)
    go_ret
    exact ⟨by rw [idx_step hlt AS.out HP.out]; try rfl, rfl⟩
  ·obtain rfl : k = xs.length := by omega
   have hs : idxI xs P = -1 := idx_none (by have := AS.out; rw [List.take_length] at this; exact this)
   have Hs := hiD hs
   clear hs AS
   go_wp2_with fail
   go_ret
   exact ⟨by rw [Hs.out]; try rfl, rfl⟩
end Go.Proofs.YtkkbbhlihilnpaaGreatDoor
