/- Contracts: what classes name, the superiors' first, each once. -/
import Derived.Test.YtcjobpcbppcdnaaGreatDoorWx6
import Derived.Test.YtcjobpcbppcdnaaGreatDoorWx8
import Derived.Test.YtcjobpcbppcdnaaGreatDoorWx3
import Derived.Test.YtcjobpcbppcdnaaGreatDoorWx7
import Derived.Deep.RegionLaw
set_option linter.all false
namespace Go.Proofs.YtcjobpcbppcdnaaGreatDoor
open Go.RowKit

theorem Own.keep2 {B : Nat} {w w' : World} {v : Value} {xs : List (List UInt8)} (h : Own B w v xs) {r : Option Nat} (hg : w.grownBy w' r) (hr : ∀ k, v.ownBlock = some k → r ≠ some k) : Own B w' v xs := by
  refine ⟨h.1.kept hg ?_, Nat.le_trans h.2 hg.size⟩
  rcases hv : v.ownBlock with _ | g
  · exact .inl rfl
  · refine .inr ?_
    intro he
    exact hr g hv he.symm
/-- A set of definitions, as the map holds it. -/
def seenP (ps l : List Nat) : List (Nat × Value) := l.map fun i => (pAt ps i, Value.agg #[])
def SeenP (w : World) (m : Nat) (ps l : List Nat) : Prop := ∃ es c, w.heap[m]? = some (.map es c) ∧ MapR ptrV es (seenP ps l)
theorem SeenP.lt {w : World} {m : Nat} {ps l : List Nat} (h : SeenP w m ps l) : m < w.heap.size := by
  obtain ⟨es, c, h1, _⟩ := h
  exact (Array.getElem?_eq_some_iff.1 h1).1
theorem SeenP.keep {w w' : World} {m : Nat} {ps l : List Nat} (h : SeenP w m ps l) (he : w'.heap[m]? = w.heap[m]?) : SeenP w' m ps l := by
  obtain ⟨es, c, h1, h2⟩ := h
  exact ⟨es, c, he.trans h1, h2⟩
theorem SeenP.below {w w' : World} {m : Nat} {ps l : List Nat} (h : SeenP w m ps l) (hb : Below w.heap.size w w') : SeenP w' m ps l := h.keep (hb.block m h.lt)
theorem SeenP.noown {B : Nat} {w w' : World} {m : Nat} {ps l : List Nat} {v : Value} {xs : List (List UInt8)} (h : SeenP w m ps l) (ho : Own B w v xs) (hg : w.grownBy w' v.ownBlock) : SeenP w' m ps l := by
  refine h.keep (hg.block m h.lt ?_)
  intro e
  obtain ⟨es, c, h1, _⟩ := h
  obtain ⟨⟨_, h2⟩, _⟩ := ho
  rcases h2 with ⟨rfl, hn⟩ | ⟨g, cap, cur, rfl, r2, r3, _⟩
  · simp [Value.ownBlock] at e
  · have : g = m := by simpa [Value.ownBlock] using e.symm
    subst this
    rw [h1] at r3
    cases r3
theorem SeenP.made (w : World) (ps : List Nat) : SeenP (w.alloc (.map #[] 0)) w.heap.size ps [] := ⟨_, _, heap_alloc_new w _, rfl⟩
theorem seenP_some {ps : List Nat} (hn : ps.Nodup) {l : List Nat} (hl : ∀ v ∈ l, v < ps.length) {i : Nat} (hi : i < ps.length) : (look (seenP ps l) (pAt ps i)).isSome = l.contains i := by
  rw [← contains_map hn hl hi]
  clear hl hi
  unfold seenP
  induction l with
  | nil => rfl
  | cons x t ih =>
    rw [List.map_cons, look, List.map_cons, List.contains_cons]
    by_cases h : pAt ps i = pAt ps x
    · simp [h]
    · rw [if_neg h, ih]
      have : (pAt ps i == pAt ps x) = false := by simpa using h
      rw [this, Bool.false_or]
theorem seenP_val (ps l : List Nat) (p : Nat) : (look (seenP ps l) p).getD (.agg #[]) = .agg #[] := by
  unfold seenP
  induction l with
  | nil => rfl
  | cons x t ih =>
    rw [List.map_cons, look]
    split
    · rfl
    · exact ih
theorem equal_def {w : World} {p q : Nat} {cp cq : Array Value} (hp : Bk w p 78 cp) (hq : Bk w q 78 cq) :
    (Op.equal 55 (ptrV p) (ptrV q)).run Tryz.prog w = .ok (decide (p = q)) w := by
  obtain ⟨j, h1, h2⟩ := infoDef
  have hu := Tryz.underlying55
  unfold ptrV
  by_cases h : p = q
  · subst h
    have h : ∀ d : Nat, (Op.equalIn (d + 1) 55 (.pointer (some ⟨p, 0, none⟩)) (.pointer (some ⟨p, 0, none⟩))).run Tryz.prog w = .ok true w := fun d => by
      simp [Op.equalIn, run_underlying hu, sizeOf, typeInfo, h1, run_sameAddr_same]
    simp [Op.equal, Op.maxDepth, h 9999]
  · have hne : (⟨p, 0, none⟩ : Addr) ≠ ⟨q, 0, none⟩ := fun e => h (congrArg Addr.block e)
    have h' : ∀ d : Nat, (Op.equalIn (d + 1) 55 (.pointer (some ⟨p, 0, none⟩)) (.pointer (some ⟨q, 0, none⟩))).run Tryz.prog w = .ok false w := fun d => by
      simp [Op.equalIn, run_underlying hu, sizeOf, typeInfo, h1, h2, run_sameAddr_other w hne hp hq]
    simp [Op.equal, Op.maxDepth, h' 9999, h]
section
variable {P : Program} {κ : Type} [DecidableEq κ]
/-- A search that is known in this world alone. -/
theorem asking_at {K : TypeId} {kv : κ → Value} (w : World) (k : κ) : ∀ (es : List MapEntry) (R : List (κ × Value)) (i : Nat), (∀ x ∈ R, (Op.equal K (kv k) (kv x.1)).run P w = .ok (decide (k = x.1)) w) → es.map (fun e => (e.key, e.val)) = R.map (fun x => (kv x.1, x.2)) →
    ∃ r, (Instr.findAsking K (kv k) es i).run P w = .ok r w ∧ r.map (·.2) = look R k
  | [], [], i, _, _ => ⟨none, rfl, rfl⟩
  | [], _ :: _, i, _, h => by simp at h
  | _ :: _, [], i, _, h => by simp at h
  | e :: es, x :: R, i, hEq, h => by
    simp only [List.map_cons, List.cons.injEq, Prod.mk.injEq] at h
    obtain ⟨r, hr, hm⟩ := asking_at w k es R (i + 1) (fun y hy => hEq y (List.mem_cons_of_mem _ hy)) h.2
    have h0 := hEq x (List.mem_cons_self ..)
    simp only [Instr.findAsking, Sem.run_bind, h.1.1, h0, Result.andThen_ok, look]
    by_cases hx : k = x.1
    · simp only [hx, decide_true, if_true]
      exact ⟨some (i, e.val), rfl, by simp [h.1.2]⟩
    · simp only [hx, decide_false, Bool.false_eq_true, if_false]
      exact ⟨r, hr, hm⟩
theorem find_at {K : TypeId} {kv : κ → Value} {D : TypeDesc} (hU : P.underlying K = some D) (hNow : ∀ a b, Instr.sameNow D (kv a) (kv b) = none) (w : World) (k : κ) (es : Array MapEntry) (R : List (κ × Value)) (hEq : ∀ x ∈ R, (Op.equal K (kv k) (kv x.1)).run P w = .ok (decide (k = x.1)) w) (h : MapR kv es R) :
    ∃ q, (Instr.findKey K (kv k) es.toList).run P w = .ok q w ∧ q.map (·.2) = look R k := by
  unfold MapR at h
  obtain ⟨es⟩ := es
  dsimp only at h ⊢
  unfold Instr.findKey
  simp only [Sem.run_bind, run_underlying hU, Result.andThen_ok]
  cases es with
  | nil =>
    cases R with
    | nil => exact ⟨none, rfl, rfl⟩
    | cons _ _ => simp at h
  | cons e es =>
    cases R with
    | nil => simp at h
    | cons x R =>
      have hk : e.key = kv x.1 := by
        simp only [List.map_cons, List.cons.injEq, Prod.mk.injEq] at h
        exact h.1.1
      have : Instr.findNow D (kv k) (e :: es) 0 = none := by simp only [Instr.findNow, hk, hNow]
      rw [this]
      exact asking_at w k _ _ 0 hEq h
end
theorem check_ptr (b : Bool) (w : World) (p : Nat) : (Instr.checkKey b 10000 55 (ptrV p)).run Tryz.prog w = .ok () w := by
  unfold ptrV
  cases b <;> kernel_rfl
theorem seenP_find {w0 w : World} {s m : Nat} {ps l : List Nat} {L : List DefS} (hS : SchAt w0 s ps L) (hb : Below w0.heap.size w0 w) (hl : ∀ x ∈ l, x < L.length) {i : Nat} (hi : i < L.length) {es : Array MapEntry} (h : MapR ptrV es (seenP ps l)) :
    ∃ q, (Instr.findKey 55 (ptrV (pAt ps i)) es.toList).run Tryz.prog w = .ok q w ∧ q.map (·.2) = look (seenP ps l) (pAt ps i) := by
  refine find_at Tryz.underlying55 (fun a b => rfl) w (pAt ps i) es _ ?_ h
  intro x hx
  unfold seenP at hx
  obtain ⟨j, hj, rfl⟩ := List.mem_map.1 hx
  obtain ⟨ci, hbi⟩ := hS.bkAt hi
  obtain ⟨cj, hbj⟩ := hS.bkAt (hl j hj)
  exact equal_def (hbi.below hb) (hbj.below hb)
theorem seenP_ask {w0 w : World} {s m : Nat} {ps l : List Nat} {L : List DefS} (hS : SchAt w0 s ps L) (hb : Below w0.heap.size w0 w) (hl : ∀ x ∈ l, x < L.length) {i : Nat} (hi : i < L.length) (h : SeenP w m ps l) :
    (Instr.lookup 81 (.map (some m)) (.pointer (some ⟨pAt ps i, 0, none⟩)) true).run Tryz.prog w = .ok (.tuple #[.agg #[], .bool (l.contains i)]) w := by
  obtain ⟨es, c, hw, hR⟩ := h
  obtain ⟨q, hq, hm⟩ := seenP_find (m := m) hS hb hl hi hR
  have h1 := seenP_some hS.nodup (fun x hx => by rw [hS.len]; exact hl x hx) (show i < ps.length by rw [hS.len]; exact hi)
  have h2 := seenP_val ps l (pAt ps i)
  rw [← h1]
  have hz : ∀ w, (zeroValue 93).run Tryz.prog w = .ok (.agg #[]) w := fun w => by kernel_rfl
  have hC := check_ptr es.isEmpty w (pAt ps i)
  unfold ptrV at hq hC
  unfold Instr.lookup
  simp only [Sem.run_bind, run_underlying Tryz.underlying81, Result.andThen_ok]
  simp only [getObj, Sem.run, Sem.run_bind, hw, Result.andThen_ok, hC, hq, pure, Sem.run_pure]
  rw [← hm] at h2 ⊢
  cases q with
  | none =>
    simp only [Sem.run_bind, hz, Result.andThen_ok]
    rfl
  | some x =>
    simp only [Option.map_some, Option.getD_some] at h2
    simp only [Option.map_some]
    rw [show x.2 = .agg #[] from h2]
    rfl
theorem seenP_put {w0 w : World} {s m : Nat} {ps l : List Nat} {L : List DefS} (hS : SchAt w0 s ps L) (hb : Below w0.heap.size w0 w) (hl : ∀ x ∈ l, x < L.length) {i : Nat} (hi : i < L.length) (h : SeenP w m ps l) (hn : l.contains i = false) :
    ∃ W, (Instr.mapUpdate 81 (.map (some m)) (.pointer (some ⟨pAt ps i, 0, none⟩)) (.agg #[])).run Tryz.prog w = .ok () W ∧ SeenP W m ps (l ++ [i]) ∧ w.grownBy W (some m) := by
  obtain ⟨es, c, hw, hR⟩ := h
  obtain ⟨q, hq, hm⟩ := seenP_find (m := m) hS hb hl hi hR
  have h1 := seenP_some hS.nodup (fun x hx => by rw [hS.len]; exact hl x hx) (show i < ps.length by rw [hS.len]; exact hi)
  rw [hn] at h1
  have hl0 : look (seenP ps l) (pAt ps i) = none := by simpa using h1
  rw [hl0] at hm
  obtain rfl : q = none := by simpa using hm
  have hC := check_ptr false w (pAt ps i)
  have hp := hR.push (pAt ps i) (.agg #[]) c
  refine ⟨World.setMap w m (es.push { key := ptrV (pAt ps i), val := .agg #[], born := c }) (c + 1), ?_, ⟨_, _, setMap_heap (Array.getElem?_eq_some_iff.1 hw).1, ?_⟩, setMap_grown _ _ _ _⟩
  · unfold ptrV at hq hC
    unfold Instr.mapUpdate
    simp only [Sem.run_bind, run_underlying Tryz.underlying81, Result.andThen_ok]
    simp only [getObj, Sem.run, Sem.run_bind, hw, Result.andThen_ok, hC, hq, setObj, World.setMap]
    rfl
  · unfold seenP at hp ⊢
    rw [List.map_append]
    exact hp
/-- Names, each once. -/
structure NmOK (L : List DefS) (l : List (List UInt8)) : Prop where
  nodup : l.Nodup
  of : ∀ x ∈ l, x ∈ L.map DefS.name
theorem NmOK.nil (L : List DefS) : NmOK L [] := ⟨by simp, fun x hx => by simp at hx⟩
theorem sub_len6 {α : Type} [DecidableEq α] : ∀ (l M : List α), l.Nodup → (∀ x ∈ l, x ∈ M) → l.length ≤ M.length
  | [], M, _, _ => Nat.zero_le _
  | x :: t, M, hn, h => by
    rw [List.nodup_cons] at hn
    have hx := h x (by simp)
    have h1 := sub_len6 t (M.erase x) hn.2 (fun y hy => (List.mem_erase_of_ne (by rintro rfl; exact hn.1 hy)).2 (h y (by simp [hy])))
    have h2 := List.length_erase_of_mem hx
    have h3 : 0 < M.length := List.length_pos_of_mem hx
    simp only [List.length_cons]
    omega
theorem NmOK.len {L : List DefS} {l : List (List UInt8)} (h : NmOK L l) : l.length ≤ L.length := by
  have := sub_len6 l (L.map DefS.name) h.nodup h.of
  simpa using this
theorem addN_cases {L : List DefS} {l : List (List UInt8)} {nm : List UInt8} {j : Nat} (hj : findD L false nm = some j) : ∃ e, L[j]? = some e ∧ addN L l nm = if l.contains e.name then l else l ++ [e.name] := by
  obtain ⟨e, h1, _⟩ := findD_at hj
  refine ⟨e, h1, ?_⟩
  unfold addN
  rw [hj]
  simp only [h1]
theorem NmOK.add {L : List DefS} {l : List (List UInt8)} (h : NmOK L l) {e : DefS} (he : e ∈ L) (hc : l.contains e.name = false) : NmOK L (l ++ [e.name]) := by
  refine ⟨?_, ?_⟩
  · rw [List.nodup_append]
    refine ⟨h.nodup, by simp, fun a ha b hb => ?_⟩
    have hb' : b = e.name := by simpa using hb
    subst hb'
    rintro rfl
    rw [List.contains_iff_mem.2 ha] at hc
    cases hc
  · intro x hx
    rcases List.mem_append.1 hx with hx | hx
    · exact h.of x hx
    · rw [List.mem_singleton.1 hx]
      exact List.mem_map_of_mem he
/-- The step of the loop over the superiors. -/
def upA (L : List DefS) (of : DefS → List (List UInt8)) (n : Nat) (st : List Nat × List (List UInt8)) (nm : List UInt8) : List Nat × List (List UInt8) := match findD L true nm with
  | none => st
  | some j => allF L of n j st
theorem allF_up {L : List DefS} {of : DefS → List (List UInt8)} {i : Nat} {d : DefS} (n : Nat) (st : List Nat × List (List UInt8)) (hd : L[i]? = some d) :
    allF L of (n + 1) i st = if st.1.contains i then st else ((d.sup.foldl (upA L of n) (st.1 ++ [i], st.2)).1, (of d).foldl (addN L) (d.sup.foldl (upA L of n) (st.1 ++ [i], st.2)).2) := by
  rw [allF, hd]
  rfl
/-- A function value that tells texts of a definition. -/
structure OfOK (w0 : World) (ps : List Nat) (L : List DefS) (of : DefS → List (List UInt8)) (f : FuncId) : Prop where
  call : ∀ i d, L[i]? = some d → ∃ v, Texts w0 v (of d) ∧ ∀ W, Below w0.heap.size w0 W → Calls Tryz.prog f #[ptrV (pAt ps i)] W fun e w' => e = .returned v ∧ W = w'
  short : ∀ d ∈ L, (of d).length ≤ 1000000 ∧ ∀ x ∈ of d, x.length ≤ 1000000
  enter : ∀ (args : Array Value) (W : World), (callFunc f args).run Tryz.prog W = .ok (.enter f args) W
def AllRet (B : Nat) (w : World) (m : Nat) (ps : List Nat) (L : List DefS) (R : List Nat × List (List UInt8)) (e : Ending) (w' : World) : Prop := Below B w w' ∧ NmOK L R.2 ∧ SeenP w' m ps R.1 ∧ ∃ v, e = .returned v ∧ Own B w' v R.2
structure AJ6 (L : List DefS) (of : DefS → List (List UInt8)) (n : Nat) (d : DefS) (w0 : World) (m : Nat) (ps : List Nat) (len : Nat) (R : List Nat × List (List UInt8)) (k : Nat) (v : Value) (wr : World) (st : List Nat × List (List UInt8)) : Prop where
  own : Own w0.heap.size wr v st.2
  seen : SeenP wr m ps st.1
  bel : Below w0.heap.size w0 wr
  nodup : st.1.Nodup
  lt : ∀ x ∈ st.1, x < L.length
  more : len ≤ st.1.length
  nm : NmOK L st.2
  rest : (d.sup.drop k).foldl (upA L of n) st = R
structure BJ6 (L : List DefS) (xs : List (List UInt8)) (w0 : World) (m : Nat) (ps : List Nat) (R : List Nat × List (List UInt8)) (k : Nat) (v : Value) (wr : World) (acc : List (List UInt8)) : Prop where
  own : Own w0.heap.size wr v acc
  seen : SeenP wr m ps R.1
  bel : Below w0.heap.size w0 wr
  nm : NmOK L acc
  rest : (xs.drop k).foldl (addN L) acc = R.2
theorem name_short {L : List DefS} (hlim : ∀ d ∈ L, DefLim d) {d : DefS} (hd : d ∈ L) : d.name.length ≤ 1000000 := by
  have h := hlim d hd
  unfold DefS.name
  cases hn : d.names with
  | nil => exact h.oid
  | cons x t => exact h.names.2 x (by rw [hn]; simp)
end Go.Proofs.YtcjobpcbppcdnaaGreatDoor
/- Contracts: slices.DeleteFunc over texts. -/
namespace Go.Proofs.YtcjobpcbppcdnaaGreatDoor
open Go.RowKit

/-- Texts in a block, none of them frozen. -/
structure RowS (w : World) (g : Nat) (l : List (List UInt8)) : Prop where
  bk : ∃ cs, Bk w g 9 cs
  at_ : ∀ j x, l[j]? = some x → w.cell? ⟨g, j, none⟩ = some (.string ⟨x.toArray⟩) ∧ w.frozen? ⟨g, j, none⟩ = false
theorem RowS.lt {w : World} {g : Nat} {l : List (List UInt8)} (h : RowS w g l) : g < w.heap.size := by
  obtain ⟨cs, hb⟩ := h.bk
  exact hb.lt
theorem Own.row {B : Nat} {w : World} {v : Value} {xs : List (List UInt8)} (h : Own B w v xs) : (v = .slice none 0 0 ∧ xs = []) ∨ ∃ g c, v = .slice (some ⟨g, 0, none⟩) xs.length c ∧ xs.length ≤ c ∧ B ≤ g ∧ v.ownBlock = some g ∧ RowS w g xs := by
  obtain ⟨⟨h1, h2⟩, _⟩ := id h
  rcases h2 with ⟨rfl, hn⟩ | ⟨g, cap, cur, rfl, r2, r3, r4, r5, r6, r7⟩
  · exact .inl ⟨rfl, List.eq_nil_of_length_eq_zero hn⟩
  · refine .inr ⟨g, cap, rfl, r4, r2, rfl, ⟨cur, r3⟩, fun j x hj => ?_⟩
    have hjl : j < xs.length := (List.getElem?_eq_some_iff.1 hj).1
    have hc : (cur.toList.take (xs.length * 1))[j]? = some (strV x) := by rw [r7]; simp [hj]
    rw [List.getElem?_take] at hc
    constructor
    · simp only [World.cell?, r3]
      simpa [hjl, strV] using hc
    · have hB : Bk w g 9 cur := r3
      exact hB.frozen j
theorem RowS.grown {w w' : World} {g : Nat} {l : List (List UInt8)} (h : RowS w g l) {r : Option Nat} (hg : w.grownBy w' r) (hr : r ≠ some g) : RowS w' g l := by
  have hb := hg.block g h.lt (fun e => hr e.symm)
  obtain ⟨cs, hk⟩ := h.bk
  refine ⟨⟨cs, hb.trans hk⟩, fun j x hj => ?_⟩
  have := h.at_ j x hj
  simp only [World.cell?, World.frozen?, hb] at this ⊢
  exact this
theorem RowS.set {w : World} {g : Nat} {l : List (List UInt8)} (h : RowS w g l) {j : Nat} (hj : j < l.length) (x : List UInt8) : RowS (w.setCell ⟨g, j, none⟩ (.string ⟨x.toArray⟩)) g (l.set j x) := by
  have hc0 := (h.at_ j _ (List.getElem?_eq_getElem hj)).1
  obtain ⟨cs, hk⟩ := h.bk
  refine ⟨⟨_, hk.set j _⟩, fun i y hi => ?_⟩
  rw [World.frozen?_setCell]
  rw [List.getElem?_set] at hi
  by_cases hij : j = i
  · subst hij
    rw [if_pos rfl, if_pos hj] at hi
    cases hi
    exact ⟨set_same _ _ _ _ _ hc0, (h.at_ j _ (List.getElem?_eq_getElem hj)).2⟩
  · rw [if_neg hij] at hi
    have hx := h.at_ i y hi
    exact ⟨(set_other _ _ _ _ _ hij).trans hx.1, hx.2⟩
theorem set_midS {α : Type} (c p : List α) (x : α) (h : c.length < p.length) : (c ++ p.drop c.length).set c.length x = (c ++ [x]) ++ p.drop (c ++ [x]).length := set_mid c p x h
theorem slice_fromS (g n c k : Nat) (hk' : k < n) (hc : n ≤ c) (w : World) : (Instr.slice 22 (.slice (some ⟨g, 0, none⟩) n c) (some (.int .i64 (k : Int))) none none).run Tryz.prog w = .ok (.slice (some ⟨g, k, none⟩) (n - k) (c - k)) w := by
  have hk : k ≤ n := Nat.le_of_lt hk'
  have h1 : (Instr.sliceBounds true n c (some (.int .i64 k)) none none).run Tryz.prog w = .ok (k, n, c) w := by
    simp [Instr.sliceBounds, run_sliceBound, hk, hc]
  have h2 : (sizeOf 9).run Tryz.prog w = .ok 1 w := by kernel_rfl
  unfold Instr.slice
  simp only [Sem.run_bind, run_underlying Tryz.underlying22, Result.andThen_ok, h1, h2, Sem.run_pure]
  have ha : (⟨g, 0, none⟩ : Addr).add (k * 1) = ⟨g, k * 1, none⟩ := add_off g _
  simp only [Nat.mul_one] at ha
  simp [ha]
  intro e
  omega
theorem slice_uptoS (g n c k : Nat) (hk : k ≤ c) (w : World) : (Instr.slice 22 (.slice (some ⟨g, 0, none⟩) n c) none (some (.int .i64 (k : Int))) none).run Tryz.prog w = .ok (.slice (some ⟨g, 0, none⟩) k c) w := by
  have h1 : (Instr.sliceBounds true n c none (some (.int .i64 k)) none).run Tryz.prog w = .ok (0, k, c) w := by
    simp [Instr.sliceBounds, run_sliceBound, hk]
  have h2 : (sizeOf 9).run Tryz.prog w = .ok 1 w := by kernel_rfl
  unfold Instr.slice
  simp only [Sem.run_bind, run_underlying Tryz.underlying22, Result.andThen_ok, h1, h2, Sem.run_pure]
  have ha : (⟨g, 0, none⟩ : Addr).add 0 = ⟨g, 0, none⟩ := add_off g _
  simp [ha]
theorem setCells_bk {g : Nat} {t : TypeId} : ∀ (vs : List Value) (o : Nat) (w : World), (∃ cs, Bk w g t cs) → ∃ cs, Bk (w.setCells g o vs) g t cs
  | [], _, _, h => h
  | v :: r, o, w, ⟨cs, h⟩ => setCells_bk r (o + 1) _ ⟨_, h.set o v⟩
/-- 'clear(s[k:])' over texts. -/
theorem clear_strs {w : World} {g : Nat} {c p : List (List UInt8)} (h : RowS w g (c ++ p.drop c.length)) (hc : c.length < p.length) (cap : Nat) :
    ∃ W, (∀ ty, (Builtin.clear_ #[22] ty #[.slice (some ⟨g, c.length, none⟩) (p.length - c.length) cap]).run Tryz.prog w = .ok (.tuple #[]) W) ∧ RowS W g c ∧ w.grownBy W (some g) := by
  have hz : ∀ w, (zeroValue 9).run Tryz.prog w = .ok (.string ⟨#[]⟩) w := fun w => by kernel_rfl
  obtain ⟨n, hn⟩ : ∃ n, p.length - c.length = n + 1 := ⟨p.length - c.length - 1, by omega⟩
  rw [hn]
  generalize hV : (Builtin.zeroCells #[(.string ⟨#[]⟩ : Value)] (n + 1)).toList = V
  have hVl : V.length = n + 1 := by rw [← hV]; simp [Builtin.zeroCells]
  have hV1 : ∀ v ∈ V, v.oneCell' = true := by
    intro v hv
    rw [← hV] at hv
    simp [Builtin.zeroCells] at hv
    obtain ⟨i, _, rfl⟩ := hv
    simp [Nat.mod_one, Value.oneCell']
  have hst := run_storeCells_cells (P := Tryz.prog) g c.length V 0 w
    (by
      intro j hj
      have hd : (c ++ p.drop c.length)[c.length + j]? = some (p[c.length + j]'(by omega)) := by
        rw [List.getElem?_append_right (by omega), List.getElem?_drop, show c.length + (c.length + j - c.length) = c.length + j by omega]; exact List.getElem?_eq_getElem (by omega)
      rw [Nat.add_zero, (h.at_ _ _ hd).1]; rfl)
    (by
      intro j hj
      have hd : (c ++ p.drop c.length)[c.length + j]? = some (p[c.length + j]'(by omega)) := by
        rw [List.getElem?_append_right (by omega), List.getElem?_drop, show c.length + (c.length + j - c.length) = c.length + j by omega]; exact List.getElem?_eq_getElem (by omega)
      rw [Nat.add_zero]
      exact (h.at_ _ _ hd).2) hV1
  simp only [Nat.add_zero] at hst
  have hg := setCells_grown g V c.length w
  refine ⟨w.setCells g c.length V, fun ty => ?_, ⟨setCells_bk V _ w h.bk, fun j x hj => ?_⟩, hg⟩
  · simp [Builtin.clear_, run_underlying Tryz.underlying22, hz, Value.cells, hV, hst]
  · have hjl : j < c.length := (List.getElem?_eq_some_iff.1 hj).1
    have hx := h.at_ j x (by rw [List.getElem?_append_left hjl]; exact hj)
    rw [World.cell?_setCells_out g V _ w _ (fun _ _ => .inl (by show j < _; omega)), World.frozen?_setCells]
    exact hx
def idxI (xs : List (List UInt8)) (P : List UInt8 → Bool) : Int := match xs.findIdx? P with
  | none => -1
  | some k => k
theorem idx_step {xs : List (List UInt8)} {P : List UInt8 → Bool} {k : Nat} (hk : k < xs.length) (hb : ∀ x ∈ xs.take k, P x = false) (hp : P xs[k] = true) : idxI xs P = k := by
  have : xs.findIdx? P = some k := by
    rw [List.findIdx?_eq_some_iff_getElem]
    refine ⟨hk, hp, fun j hj => ?_⟩
    have := hb xs[j] (by rw [List.mem_take_iff_getElem]; exact ⟨j, by omega, rfl⟩)
    rw [this]; simp
  unfold idxI
  rw [this]
theorem idx_none {xs : List (List UInt8)} {P : List UInt8 → Bool} (hb : ∀ x ∈ xs, P x = false) : idxI xs P = -1 := by
  have : xs.findIdx? P = none := by
    rw [List.findIdx?_eq_none_iff]
    exact hb
  unfold idxI
  rw [this]
/-- A function value that is asked about a text and leaves all as it is, in all worlds that differ in one block alone. -/
structure AskG (w : World) (g : Option Nat) (f : FuncId) (cap : Array Value) (xs : List (List UInt8)) (P : List UInt8 → Bool) : Prop where
  call : ∀ x ∈ xs, ∀ W, w.grownBy W g → Calls Tryz.prog f (#[.string ⟨x.toArray⟩] ++ cap) W fun e W' => e = .returned (.bool (P x)) ∧ W = W'
  enter : ∀ (args : Array Value) (W : World), (callFunc f args).run Tryz.prog W = .ok (.enter f args) W
set_option maxRecDepth 10000 in
set_option maxHeartbeats 1000000 in
theorem IndexFuncS_i (f : FuncId) (cap : Array Value) (xs : List (List UInt8)) (v : Value) (g0 : Option Nat) (w : World) (hv : Texts w v xs) (hl : xs.length ≤ 1000000) (P : List UInt8 → Bool) (hF : AskG w g0 f cap xs P) :
    Calls Tryz.prog 77 #[v, .func (.func f) #[] cap] w fun e w' => e = .returned (.int .i64 (idxI xs P)) ∧ w = w' := by
  have HF := Lib.hid hF.call
  have hent := hF.enter
  clear hF
  have HV := Lib.hid hv
  obtain ⟨A, n, c, rfl⟩ := hv.isSlice
  have hn : n = xs.length := by
    rcases hv with ⟨rfl, h⟩ | ⟨b, c', h, _⟩
    · cases h; rfl
    · cases h; rfl
  subst hn
  clear hv
  go_enter Tryz.func77, Tryz.ntmps77
  go_wp2_with fail
  go_loopg [8] xs.length (fun gk i wr => ∃ k : Nat, k ≤ xs.length ∧ i = .int .i64 k ∧ Aside (k + gk = xs.length) ∧ w = wr ∧ Aside (∀ x ∈ xs.take k, P x = false))
  case atStart => exact ⟨0, by omega, rfl, by show _ = _; omega, rfl, by show ∀ x ∈ _, _; simp⟩
  case round =>
    obtain ⟨k, hk, rfl, AG, rfl, AS⟩ := hrel
    by_cases hlt : k < xs.length
    · obtain ⟨q, rfl⟩ : ∃ q, gk = q + 1 := ⟨gk - 1, by have := AG.out; omega⟩
      obtain ⟨g, hg, hcell⟩ : ∃ g, A = some ⟨g, 0, none⟩ ∧ w.cell? ⟨g, k, none⟩ = some (.string ⟨xs[k].toArray⟩) := by
        rcases HV.out with ⟨h, _⟩ | ⟨b, c', h, _, _, hx⟩
        · rw [h] at hlt; simp at hlt
        · cases h; exact ⟨b, rfl, hx k hlt⟩
      subst hg
      have hC := HF.out xs[k] (List.getElem_mem hlt) w (World.grownBy.refl _ _)
      cases hP : P xs[k]
      all_goals
        have HP := Lib.hid hP
        rw [hP] at hC
        have HC := Lib.hid hC
        clear hP hC
      · go_wp2_with ((with_reducible refine HC.out.mono ?_); rintro e w2 ⟨rfl, rfl⟩)
        go_roundg q
        case measure => omega
        case rel =>
          refine ⟨k + 1, by omega, by go_num, by have := AG.out; show _ = _; omega, rfl, ?_⟩
          show ∀ x ∈ _, _
          intro x hx
          rw [List.take_succ_eq_append_getElem hlt] at hx
          rcases List.mem_append.1 hx with hx | hx
          · exact AS.out x hx
          · rw [List.mem_singleton.1 hx]; exact HP.out
      · go_wp2_with ((with_reducible refine HC.out.mono ?_); rintro e w2 ⟨rfl, rfl⟩)
        go_ret
        exact ⟨by rw [idx_step hlt AS.out HP.out]; try rfl, rfl⟩
    · obtain rfl : k = xs.length := by omega
      have hs : idxI xs P = -1 := idx_none (by have := AS.out; rw [List.take_length] at this; exact this)
      have Hs := Lib.hid hs
      clear hs AS
      go_wp2_with fail
      go_ret
      exact ⟨by rw [Hs.out]; try rfl, rfl⟩
end Go.Proofs.YtcjobpcbppcdnaaGreatDoor
/- Contracts: slices.DeleteFunc over texts: the walk. -/
namespace Go.Proofs.YtcjobpcbppcdnaaGreatDoor
open Go.RowKit

theorem AskG.mono {w w1 : World} {g : Option Nat} {f : FuncId} {cap : Array Value} {xs : List (List UInt8)} {P : List UInt8 → Bool} (h : AskG w g f cap xs P) (hg : w.grownBy w1 g) : AskG w1 g f cap xs P := ⟨fun x hx W hW => h.call x hx W (World.grownBy.trans hg hW), h.enter⟩
theorem filter_take_none {xs : List (List UInt8)} {P : List UInt8 → Bool} {k : Nat} (hb : ∀ x ∈ xs.take k, P x = false) : (xs.take k).filter (fun x => !P x) = xs.take k := by
  rw [List.filter_eq_self]
  intro x hx
  rw [hb x hx]; rfl
theorem idx_cases (xs : List (List UInt8)) (P : List UInt8 → Bool) : (idxI xs P = -1 ∧ xs.filter (fun x => !P x) = xs) ∨ ∃ (k : Nat) (hk : k < xs.length), idxI xs P = k ∧ (xs.take (k + 1)).filter (fun x => !P x) = xs.take k := by
  unfold idxI
  cases h : xs.findIdx? P with
  | none =>
    rw [List.findIdx?_eq_none_iff] at h
    exact .inl ⟨rfl, by rw [List.filter_eq_self]; intro x hx; rw [h x hx]; rfl⟩
  | some k =>
    rw [List.findIdx?_eq_some_iff_getElem] at h
    obtain ⟨hk, hp, hb⟩ := h
    refine .inr ⟨k, hk, rfl, ?_⟩
    rw [List.take_succ_eq_append_getElem hk, List.filter_append]
    have h1 : (xs.take k).filter (fun x => !P x) = xs.take k := filter_take_none (fun x hx => by
      rw [List.mem_take_iff_getElem] at hx
      obtain ⟨j, hj, rfl⟩ := hx
      have := hb j (by omega)
      simpa using this)
    rw [h1]
    simp [hp]
theorem row_texts {w : World} {g c : Nat} {xs : List (List UInt8)} (h : RowS w g xs) (hc : xs.length ≤ c) : Texts w (.slice (some ⟨g, 0, none⟩) xs.length c) xs :=
  .inr ⟨g, c, rfl, hc, h.lt, fun j hj => (h.at_ j _ (List.getElem?_eq_getElem hj)).1⟩
set_option maxRecDepth 10000 in
set_option maxHeartbeats 2000000 in
theorem DeleteRow_c (f : FuncId) (cp : Array Value) (xs : List (List UInt8)) (g cap : Nat) (w : World) (hr : RowS w g xs) (hl : xs.length ≤ 1000000) (hc : xs.length ≤ cap) (P : List UInt8 → Bool) (hF : AskG w (some g) f cp xs P) :
    Calls Tryz.prog 44 #[.slice (some ⟨g, 0, none⟩) xs.length cap, .func (.func f) #[] cp] w fun e w' => ∃ n, e = .returned (.slice (some ⟨g, 0, none⟩) n cap) ∧ n = (xs.filter (fun x => !P x)).length ∧ RowS w' g (xs.filter (fun x => !P x)) ∧ w.grownBy w' (some g) := by
  have hI := IndexFuncS_i f cp xs _ (some g) w (row_texts hr hc) hl P hF
  rcases idx_cases xs P with ⟨h1, h2⟩ | ⟨k0, hk0, h1, h2⟩
  · rw [h1] at hI
    have HI := Lib.hid hI
    have HR := Lib.hid hr
    rw [h2]
    clear hI hr hF h1 h2
    go_enter Tryz.func44, Tryz.ntmps44
    go_wp2_with (go_at_call 77; refine HI.out.mono ?_; rintro e w1 ⟨rfl, rfl⟩)
    go_ret
    exact ⟨_, rfl, rfl, HR.out, World.grownBy.refl _ _⟩
  · rw [h1] at hI
    have HI := Lib.hid hI
    have HF := Lib.hid hF.call
    have hent := hF.enter
    have H0 : Hid (RowS w g (xs.take k0 ++ xs.drop (xs.take k0).length)) := Lib.hid (by
      rw [List.length_take, Nat.min_eq_left (by omega), List.take_append_drop]; exact hr)
    have H2 := Lib.hid h2
    have hk1 : ((k0 : Int) == -1) = false := beq_eq_false_iff_ne.2 (by omega)
    have hlk : (xs.take k0).length = k0 := by rw [List.length_take, Nat.min_eq_left (by omega)]
    have HLK := Lib.hid hlk
    clear hI hr hF h1 h2 hlk
    go_enter Tryz.func44, Tryz.ntmps44
    go_wp2_with (go_at_call 77; refine HI.out.mono ?_; rintro e w1 ⟨rfl, rfl⟩)
    go_loopg [5, 6] (xs.length - k0) (fun gk i j wr => ∃ (m : Nat) (c : List (List UInt8)), m + 1 ≤ xs.length ∧ i = .int .i64 c.length ∧ j = .int .i64 ((m : Int) + 1) ∧ Aside (m + 1 + gk = xs.length + 1) ∧ c.length ≤ m ∧ Aside (c = (xs.take (m + 1)).filter (fun x => !P x)) ∧ Hid (RowS wr g (c ++ xs.drop c.length)) ∧ Aside (w.grownBy wr (some g)))
    case atStart => exact ⟨k0, xs.take k0, by omega, by rw [HLK.out], rfl, by show _ = _; omega, by rw [HLK.out]; exact Nat.le_refl _, H2.out.symm, H0, World.grownBy.refl _ _⟩
    case round =>
      clear H0 H2 HLK HI
      obtain ⟨m, c, hm, rfl, rfl, AG, hcl, AC, HR, AW⟩ := hrel
      by_cases hlt : m + 1 < xs.length
      · obtain ⟨q, rfl⟩ : ∃ q, gk = q + 1 := ⟨gk - 1, by have := AG.out; omega⟩
        have gX : (c ++ xs.drop c.length)[m + 1]? = some xs[m + 1] := by
          rw [List.getElem?_append_right (by omega), List.getElem?_drop, show c.length + (m + 1 - c.length) = m + 1 by omega]; exact List.getElem?_eq_getElem hlt
        have x0 := (HR.out.at_ _ _ gX).1
        have hk0 : (0 : Int) ≤ (m : Int) + 1 := by omega
        have hk1 : (m : Int) + 1 < (xs.length : Int) := by omega
        have hk4 : ((m : Int) + 1).toNat = m + 1 := by omega
        have hC := HF.out xs[m + 1] (List.getElem_mem hlt) wr AW.out
        have hstep : (xs.take (m + 1 + 1)).filter (fun x => !P x) = c ++ (if P xs[m + 1] then [] else [xs[m + 1]]) := by
          rw [List.take_succ_eq_append_getElem hlt, List.filter_append, AC.out]
          congr 1
          cases hq : P xs[m + 1] <;> simp [hq]
        have hcn : c.length < xs.length := by omega
        have gZ : (c ++ xs.drop c.length)[c.length]? = some xs[c.length] := by
          rw [List.getElem?_append_right (Nat.le_refl _), List.getElem?_drop, Nat.sub_self, Nat.add_zero]; exact List.getElem?_eq_getElem hcn
        have hll : c.length < (c ++ xs.drop c.length).length := by simp; omega
        have rZ := HR.out.at_ _ _ gZ
        have HS := Lib.hid (HR.out.set hll xs[m + 1])
        have HLS := Lib.hid (set_midS c xs xs[m + 1] hcn)
        clear gX gZ
        obtain ⟨X, hX⟩ : ∃ X, xs[m + 1] = X := ⟨_, rfl⟩
        obtain ⟨Z, hZ⟩ : ∃ Z, xs[c.length] = Z := ⟨_, rfl⟩
        rw [hX] at x0 hC hstep HS HLS
        rw [hZ] at rZ
        obtain ⟨z0, z1⟩ := rZ
        have hci : (c.length : Int) < (xs.length : Int) := by omega
        cases hP : P X
        · rw [hP] at hC hstep
          have HC := Lib.hid hC
          have HST := Lib.hid hstep
          clear hC hstep hP hX hZ
          go_wp2_with ((with_reducible refine HC.out.mono ?_); rintro e w2 ⟨rfl, rfl⟩)
          go_roundg q
          case measure => omega
          case rel => exact ⟨m + 1, c ++ [X], by omega, by simp, by go_num, by have := AG.out; show _ = _; omega, by simp; omega, HST.out.symm, by rw [← HLS.out]; exact HS, World.grownBy.trans AW.out (setCell_grown _ _ _ _)⟩
        · rw [hP] at hC hstep
          have HC := Lib.hid hC
          have HST := Lib.hid hstep
          clear hC hstep hP hX hZ z0 z1 HS HLS
          go_wp2_with ((with_reducible refine HC.out.mono ?_); rintro e w2 ⟨rfl, rfl⟩)
          go_roundg q
          case measure => omega
          case rel => exact ⟨m + 1, c, by omega, rfl, by go_num, by have := AG.out; show _ = _; omega, by omega, by have := HST.out; simp at this; exact this.symm, HR, AW⟩
      · have hjn : m + 1 = xs.length := by omega
        have hfin : xs.filter (fun x => !P x) = c := by have := AC.out; rw [hjn, List.take_length] at this; exact this.symm
        have Hf := Lib.hid hfin
        have hcn : c.length < xs.length := by omega
        have hs1 : ∀ W, (Instr.slice 22 (.slice (some ⟨g, 0, none⟩) xs.length cap) (some (.int .i64 (c.length : Int))) none none).run Tryz.prog W = .ok (.slice (some ⟨g, c.length, none⟩) (xs.length - c.length) (cap - c.length)) W := fun W => slice_fromS g xs.length cap c.length hcn hc W
        have hs2 : ∀ W, (Instr.slice 22 (.slice (some ⟨g, 0, none⟩) xs.length cap) none (some (.int .i64 (c.length : Int))) none).run Tryz.prog W = .ok (.slice (some ⟨g, 0, none⟩) c.length cap) W := fun W => slice_uptoS g xs.length cap c.length (by omega) W
        obtain ⟨W3, hcl3, hW3, hg3⟩ := clear_strs HR.out hcn (cap - c.length)
        clear hfin
        have hkk : ¬ ((m : Int) + 1 < (xs.length : Int)) := by omega
        go_wp2_with fail
        go_ret
        exact ⟨_, rfl, by rw [Hf.out], by rw [Hf.out]; exact hW3, World.grownBy.trans AW.out hg3⟩
set_option maxRecDepth 10000 in
theorem DeleteNil_c (f : FuncId) (cp : Array Value) (w : World) (P : List UInt8 → Bool) (hF : AskG w none f cp [] P) :
    Calls Tryz.prog 44 #[.slice none 0 0, .func (.func f) #[] cp] w fun e w' => e = .returned (.slice none 0 0) ∧ w = w' := by
  have hI := IndexFuncS_i f cp [] _ none w (.inl ⟨rfl, rfl⟩) (by simp) P hF
  have HI : Hid (Calls Tryz.prog 77 #[.slice none 0 0, .func (.func f) #[] cp] w fun e w' => e = .returned (.int .i64 (-1)) ∧ w = w') := Lib.hid hI
  clear hI hF
  go_enter Tryz.func44, Tryz.ntmps44
  go_wp2_with (go_at_call 77; refine HI.out.mono ?_; rintro e w1 ⟨rfl, rfl⟩)
  go_ret
  exact ⟨rfl, rfl⟩
/-- Texts in a row that holds texts alone. -/
def TextsT (w : World) (v : Value) (xs : List (List UInt8)) : Prop := Texts w v xs ∧ ∀ k, v.ownBlock = some k → ∃ cs, Bk w k 9 cs
theorem Own.textsT {B : Nat} {w : World} {v : Value} {xs : List (List UInt8)} (h : Own B w v xs) : TextsT w v xs := ⟨h.texts, fun _ hk => h.ty hk⟩
theorem TextsT.far {w w' : World} {g : Nat} {v : Value} {xs : List (List UInt8)} {t : TypeId} {cs : Array Value} (h : TextsT w v xs) (hg : Bk w g t cs) (ht : t ≠ 9) (hw : w.grownBy w' (some g)) : TextsT w' v xs := by
  obtain ⟨h, hty⟩ := h
  rcases h with ⟨rfl, rfl⟩ | ⟨b, c, rfl, hc, hlt, hx⟩
  · exact ⟨.inl ⟨rfl, rfl⟩, fun k hk => by simp [Value.ownBlock] at hk⟩
  · obtain ⟨cs', hb⟩ := hty b rfl
    have hne : g ≠ b := bk_ne hg hb ht
    have hkb := hw.block b hlt (by intro e; exact hne (Option.some.inj e).symm)
    refine ⟨.inr ⟨b, c, rfl, hc, Nat.lt_of_lt_of_le hlt hw.size, fun j hj => ?_⟩, fun k hk => ?_⟩
    · rw [World.cell?_of_block (w := w) (w' := w') (a := ⟨b, j, none⟩) hkb]
      exact hx j hj
    · have : b = k := by simpa [Value.ownBlock] using hk
      subst this
      exact ⟨cs', hkb.trans hb⟩
theorem DeleteFunc_c (f : FuncId) (cp : Array Value) (xs : List (List UInt8)) (B : Nat) (v : Value) (w : World) (ho : Own B w v xs) (hl : xs.length ≤ 1000000) (P : List UInt8 → Bool) (hF : AskG w v.ownBlock f cp xs P) :
    Calls Tryz.prog 44 #[v, .func (.func f) #[] cp] w fun e w' => ∃ A n c, e = .returned (.slice A n c) ∧ TextsT w' (.slice A n c) (xs.filter (fun x => !P x)) ∧ w.grownBy w' v.ownBlock := by
  rcases ho.row with ⟨rfl, rfl⟩ | ⟨g, c, rfl, hc, hB, hob, hr⟩
  · refine (DeleteNil_c f cp w P hF).mono ?_
    rintro e w' ⟨rfl, rfl⟩
    exact ⟨_, _, _, rfl, ⟨.inl ⟨rfl, rfl⟩, fun k hk => by simp [Value.ownBlock] at hk⟩, World.grownBy.refl _ _⟩
  · rw [hob] at hF ⊢
    refine (DeleteRow_c f cp xs g c w hr hl hc P hF).mono ?_
    rintro e w' ⟨n, rfl, rfl, hw, hg⟩
    refine ⟨_, _, _, rfl, ⟨row_texts hw (Nat.le_trans (List.length_filter_le _ _) hc), fun k hk => ?_⟩, hg⟩
    have : g = k := by simpa [Value.ownBlock] using hk
    subst this
    exact hw.bk
end Go.Proofs.YtcjobpcbppcdnaaGreatDoor
/- Contracts: Above. -/
namespace Go.Proofs.YtcjobpcbppcdnaaGreatDoor
open Go.RowKit

set_option maxRecDepth 100000 in
set_option maxHeartbeats 4000000 in
theorem Above_c (s : Nat) (ps : List Nat) (L : List DefS) (x : List UInt8) (i : Nat) (w : World) (hS : SchAt w s ps L) (hlim : ∀ d ∈ L, DefLim d) (hN : L.length ≤ 1000) (hk : ∀ d ∈ L, ∀ n ∈ d.sup, (findD L d.cls n).isSome = true) (hx : x.length ≤ 1000000) (hf : findD L true x = some i) :
    Calls Tryz.prog 20 #[ptrV s, .string ⟨x.toArray⟩] w fun e w' => ∃ v, e = .returned v ∧ Below w.heap.size w w' ∧ Own w.heap.size w' v (aboveN L i) := by
  have hi := findD_lt hf
  have hF := find_c s ps L true x w hS hx
  rw [hf] at hF
  have HF : Hid (Calls Tryz.prog 29 #[.pointer (some ⟨s, 0, none⟩), .bool true, .string ⟨x.toArray⟩] w fun e w' => e = .returned (.pointer (some ⟨pAt ps i, 0, none⟩)) ∧ Below w.heap.size w w') := Lib.hid hF
  have hsays := aboveD_says L i hi
  have HAB : Hid (∀ W : World, Below w.heap.size w W → Calls Tryz.prog 32 #[.pointer (some ⟨s, 0, none⟩), .pointer (some ⟨pAt ps i, 0, none⟩), .slice none 0 0] W (AbRet w.heap.size W ps (aboveD L i []))) := Lib.hid (fun W h => above_c w s ps L hS hlim hN hk (L.length + 1) i [] (.slice none 0 0) W h (by simp) (by simp) hi (by simp) (OwnP.nil h.size))
  have hlen := nodup_bound _ _ hsays.nodup hsays.lt
  have hltR := hsays.lt
  have hab : aboveN L i = (aboveD L i []).map (nameOf L) := rfl
  rw [hab]
  generalize aboveD L i [] = R at HAB hlen hltR ⊢
  have HD : Hid (∀ (j : Nat) (hj : j < R.length) (W : World), Below w.heap.size w W → Calls Tryz.prog 41 #[.pointer (some ⟨pAt ps R[j], 0, none⟩)] W fun e w' => e = .returned (.string ⟨(nameOf L R[j]).toArray⟩) ∧ W = w') := Lib.hid fun j hj W hW => by
    have hl := hltR _ (List.getElem_mem hj)
    have hLj : L[R[j]]? = some L[R[j]] := List.getElem?_eq_getElem hl
    have e : nameOf L R[j] = L[R[j]].name := by unfold nameOf; rw [hLj]
    rw [e]
    exact dname_c _ _ W ((hS.below hW).defAt hLj)
  clear hF hS hlim hk hsays hab hltR hf
  unfold ptrV
  go_enter Tryz.func20, Tryz.ntmps20
  go_wp2_with (first | (go_at_call 29; refine HF.out.mono ?_; rintro e w1 ⟨rfl, hb1⟩) | (go_at_call 32; refine (HAB.out _ hb1).mono ?_; rintro e w4 ⟨hb4, v4, rfl, hO4⟩; have hB4 := hb1.trans hb4; obtain ⟨A4, c4, rfl, hc4, hx4⟩ := hO4.reads))
  have hmap : (R.map (pAt ps)).length = R.length := by simp
  rw [hmap] at hc4
  have HX : Hid (∀ j (hj : j < R.length), ∃ g, A4 = some ⟨g, 0, none⟩ ∧ w4.cell? ⟨g, j, none⟩ = some (.pointer (some ⟨pAt ps R[j], 0, none⟩))) := Lib.hid fun j hj => by
    rcases hx4 with h | ⟨g, rfl, h⟩
    · have : R.length = 0 := by rw [← hmap, h]; rfl
      omega
    · exact ⟨g, rfl, h j _ (by simp [hj])⟩
  clear hO4 hx4 HAB HF hmap
  go_loopg [6, 18] R.length (fun gk v i2 wr => ∃ (k : Nat) (acc : List (List UInt8)), k ≤ R.length ∧ i2 = .int .i64 k ∧ Aside (k + gk = R.length) ∧ Below w4.heap.size w4 wr ∧ Own w4.heap.size wr v acc ∧ Aside (acc = (R.take k).map (nameOf L)))
  case atStart => exact ⟨0, [], Nat.zero_le _, rfl, by show _ = _; omega, Below.refl _ _, Own.nil (Nat.le_refl _), rfl⟩
  case round =>
    obtain ⟨k, acc, hk, rfl, AG, hB, hO, AL⟩ := hrel
    obtain ⟨Ao, co, rfl, hco⟩ := hO.isSlice
    by_cases hlt : k < R.length
    · obtain ⟨q, rfl⟩ : ∃ q, gk = q + 1 := ⟨gk - 1, by have := AG.out; omega⟩
      obtain ⟨g, rfl, ck0⟩ := HX.out k hlt
      have ck : wr.cell? ⟨g, k, none⟩ = some (.pointer (some ⟨pAt ps R[k], 0, none⟩)) := (hB.cell (p := ⟨g, k, none⟩) (cell_lt ck0)).trans ck0
      have HN : Hid (Calls Tryz.prog 41 #[.pointer (some ⟨pAt ps R[k], 0, none⟩)] wr fun e w' => e = .returned (.string ⟨(nameOf L R[k]).toArray⟩) ∧ wr = w') := Lib.hid (HD.out k hlt wr (hB4.trans (hB.mono hB4.size)))
      have hal : acc.length < 4398046511104 := by rw [AL.out]; simp; omega
      have hstep : (R.take (k + 1)).map (nameOf L) = acc ++ [nameOf L R[k]] := by
        rw [List.take_succ_eq_append_getElem hlt, List.map_append, AL.out]; rfl
      have HST := Lib.hid hstep
      clear hstep ck0
      generalize nameOf L R[k] = nm at HN HST
      go_wp2_with (first | (go_at_call 41; refine HN.out.mono ?_; rintro e w2 ⟨rfl, rfl⟩) | (at_builtin; refine own_one (c := nm) rfl _ _ rfl rfl hO rfl rfl hal ?_; intro v' w5 hO5 hg5))
      go_roundg q
      case measure => omega
      case rel => exact ⟨k + 1, acc ++ [nm], by omega, by go_num, by have := AG.out; show _ = _; omega, hB.grown hg5 hB.size (fun k hk => (hO.lt k hk).1), hO5, HST.out.symm⟩
    · obtain rfl : k = R.length := by omega
      have hfin : acc = R.map (nameOf L) := by rw [AL.out, List.take_length]
      have HFI := Lib.hid hfin
      clear hfin
      go_wp2_with fail
      go_ret
      rw [← HFI.out]
      exact ⟨_, rfl, hB4.trans (hB.mono hB4.size), hO.lower hB4.size⟩
end Go.Proofs.YtcjobpcbppcdnaaGreatDoor
/- Contracts: what a class and its superiors name: the walk. -/
namespace Go.Proofs.YtcjobpcbppcdnaaGreatDoor
open Go.RowKit

set_option maxRecDepth 100000 in
set_option maxHeartbeats 8000000 in
theorem all_c (w0 : World) (s m : Nat) (ps : List Nat) (L : List DefS) (of : DefS → List (List UInt8)) (f : FuncId) (hS : SchAt w0 s ps L) (hlim : ∀ d ∈ L, DefLim d) (hN : L.length ≤ 1000) (hm0 : w0.heap.size ≤ m) (hk : ∀ d ∈ L, ∀ n ∈ d.sup, (findD L d.cls n).isSome = true) (hkf : ∀ d ∈ L, ∀ n ∈ of d, (findD L false n).isSome = true) (hof : OfOK w0 ps L of f) :
    ∀ (n i : Nat) (st : List Nat × List (List UInt8)) (v : Value) (w : World), Below w0.heap.size w0 w → st.1.Nodup → (∀ x ∈ st.1, x < L.length) → i < L.length → (∀ d, L[i]? = some d → d.cls = true) → L.length + 1 ≤ n + st.1.length → Own w0.heap.size w v st.2 → SeenP w m ps st.1 → NmOK L st.2 →
    Calls Tryz.prog 42 #[ptrV s, ptrV (pAt ps i), v, .map (some m), .func (.func f) #[] #[]] w (AllRet w0.heap.size w m ps L (allF L of n i st)) := by
  intro n
  induction n with
  | zero =>
    intro i st v w hb hn hl hi hcl hf ho hse hnm
    have := nodup_bound _ st.1 hn hl
    omega
  | succ n ih =>
    intro i st v w hb hn hl hi hcl hf ho hse hnm
    have hask := seenP_ask hS hb hl hi hse
    have hB0 : Below w.heap.size w (w.alloc (.cells #[] 93)) := (Below.refl _ _).alloc (Nat.le_refl _) _
    have hB1 : Below w0.heap.size w0 (w.alloc (.cells #[] 93)) := hb.trans (hB0.mono hb.size)
    have HO := Lib.hid ho
    have HSE := Lib.hid hse
    obtain ⟨A, c, rfl, hc⟩ := ho.isSlice
    have IH := Lib.hid ih
    have HB := Lib.hid hb
    have hdL : L[i]? = some L[i] := List.getElem?_eq_getElem hi
    obtain ⟨d, hd⟩ : ∃ d, L[i]? = some d := ⟨_, hdL⟩
    have hdc := hcl d hd
    rw [allF_up n st hd]
    cases hcon : st.1.contains i
    · have hcn := hcon
      rw [hcon] at hask
      have hmem : d ∈ L := List.mem_of_getElem? hd
      simp only [Bool.false_eq_true, if_false]
      obtain ⟨W1, hup, hse1, hg1⟩ := seenP_put hS hB1 hl hi (hse.below hB0) hcon
      have hbW : Below w0.heap.size w0 W1 := hB1.grown hg1 hB1.size (fun k hk => by cases hk; exact hm0)
      have hbw1 : Below w0.heap.size w W1 := (hB0.mono hb.size).grown hg1 hB1.size (fun k hk => by cases hk; exact hm0)
      have hoW : Own w0.heap.size W1 (.slice A st.2.length c) st.2 := by
        refine (ho.below hB0).keep2 hg1 ?_
        intro k hk e
        have e' : m = k := Option.some.inj e
        subst e'
        obtain ⟨⟨_, h2⟩, _⟩ := ho
        obtain ⟨es, cl, h1, _⟩ := hse
        rcases h2 with ⟨h2, hn'⟩ | ⟨g, cap, cur, h2, r2, r3, _⟩
        · rw [h2] at hk; simp [Value.ownBlock] at hk
        · rw [h2] at hk
          have : g = m := by simpa [Value.ownBlock] using hk
          subst this
          rw [h1] at r3
          cases r3
      obtain ⟨vn, vs, vm, vy, hBK, _, ht, _⟩ := hS.defAt hd
      obtain ⟨As, ns, cs, rfl⟩ := ht.isSlice
      obtain ⟨rfl, hcs⟩ := texts_len ht
      have hsl := (hlim d hmem).sup
      have hBW := hBK.below hbW
      have c3 : W1.cell? ⟨pAt ps i, 3, none⟩ = some (.slice As d.sup.length cs) := hBW.cell 3
      obtain ⟨R1, hR1⟩ : ∃ R1, d.sup.foldl (upA L of n) (st.1 ++ [i], st.2) = R1 := ⟨_, rfl⟩
      rw [hR1]
      obtain ⟨vo, hvo, hOF⟩ := hof.call i d hd
      have hofs := hof.short d hmem
      have hent := hof.enter
      have HT := Lib.hid ht
      have HVO := Lib.hid hvo
      have HOF := Lib.hid hOF
      have hni : i ∉ st.1 := by
        intro h
        rw [List.contains_iff_mem.2 h] at hcn
        cases hcn
      have HJ0 : Hid (AJ6 L of n d w0 m ps (st.1.length + 1) R1 0 (.slice A st.2.length c) W1 (st.1 ++ [i], st.2) ∧ Below w0.heap.size w W1) := Lib.hid (by
        refine ⟨⟨hoW, hse1, hbW, ?_, ?_, by simp, hnm, hR1⟩, hbw1⟩
        · rw [List.nodup_append]
          refine ⟨hn, by simp, fun a ha b hb => ?_⟩
          have : b = i := by simpa using hb
          subst this
          rintro rfl
          exact hni ha
        · intro x hx
          rcases List.mem_append.1 hx with h | h
          · exact hl x h
          · have : x = i := by simpa using h
            omega)
      have hkd : ∀ k (h : k < d.sup.length), (findD L true d.sup[k]).isSome = true := fun k h => by
        have := hk d hmem _ (List.getElem_mem h)
        rw [hdc] at this
        exact this
      have hko : ∀ k (h : k < (of d).length), (findD L false (of d)[k]).isSome = true := fun k h => hkf d hmem _ (List.getElem_mem h)
      have HKD := Lib.hid hkd
      have HKO := Lib.hid hko
      obtain ⟨xs, hxs⟩ : ∃ xs, of d = xs := ⟨_, rfl⟩
      rw [hxs] at HVO HKO hofs
      have HXS := Lib.hid hxs
      have HS := Lib.hid hS
      have HLIM := Lib.hid hlim
      have HDC := Lib.hid hdc
      have HD := Lib.hid hd
      clear hR1 hdL hBK ht hni hcn hcon hBW hoW hbW hbw1 hg1 hse1 hse hnm ho hb ih hvo hOF hkd hko hk hkf hof hxs hS hlim hB0 hB1 hdc hd hcl
      unfold ptrV
      go_enter Tryz.func42, Tryz.ntmps42
      go_wp2_with fail
      go_loopg [2, 34] d.sup.length (fun gk v i2 wr => ∃ (k : Nat) (st' : List Nat × List (List UInt8)), k ≤ d.sup.length ∧ i2 = .int .i64 k ∧ Aside (k + gk = d.sup.length) ∧ Aside (AJ6 L of n d w0 m ps (st.1.length + 1) R1 k v wr st') ∧ Aside (Below w0.heap.size w wr))
      case atStart => exact ⟨0, (st.1 ++ [i], st.2), Nat.zero_le _, rfl, by show _ = _; omega, HJ0.out.1, HJ0.out.2⟩
      case round =>
        clear HJ0
        obtain ⟨k, st', hk2, rfl, AG, AJ, AB⟩ := hrel
        by_cases hlt : k < d.sup.length
        · obtain ⟨q, rfl⟩ : ∃ q, gk = q + 1 := ⟨gk - 1, by have := AG.out; omega⟩
          obtain ⟨g, rfl, ck⟩ := texts_at (HT.out.below AJ.out.bel) hlt
          have hkn := HKD.out k hlt
          obtain ⟨j, hj⟩ := Option.isSome_iff_exists.1 hkn
          have hF := find_c s ps L true d.sup[k] wr (HS.out.below AJ.out.bel) (hsl.2 _ (List.getElem_mem hlt))
          rw [hj] at hF
          have HF : Hid (Calls Tryz.prog 29 #[.pointer (some ⟨s, 0, none⟩), .bool true, .string ⟨d.sup[k].toArray⟩] wr fun e w' => e = .returned (.pointer (some ⟨pAt ps j, 0, none⟩)) ∧ Below wr.heap.size wr w') := Lib.hid hF
          have hj2 := findD_lt hj
          have hjc : ∀ d', L[j]? = some d' → d'.cls = true := by
            intro d' hd'
            obtain ⟨d2, g1, g2, _⟩ := findD_at hj
            rw [g1] at hd'
            cases hd'
            exact g2
          have hfuel : L.length + 1 ≤ n + st'.1.length := by have := AJ.out.more; omega
          have hA := allF_says L of n j st' hjc AJ.out.nodup AJ.out.lt hj2 hfuel
          have HA := Lib.hid hA
          have hrest := AJ.out.rest
          rw [List.drop_eq_getElem_cons hlt, List.foldl_cons, show upA L of n st' d.sup[k] = allF L of n j st' by unfold upA; rw [hj]] at hrest
          have HRS := Lib.hid hrest
          have HIJ : Hid (∀ w3, Below wr.heap.size wr w3 → Calls Tryz.prog 42 #[.pointer (some ⟨s, 0, none⟩), .pointer (some ⟨pAt ps j, 0, none⟩), u2, .map (some m), .func (.func f) #[] #[]] w3 (AllRet w0.heap.size w3 m ps L (allF L of n j st'))) := Lib.hid fun w3 hb3 =>
            IH.out j st' u2 w3 (AJ.out.bel.trans (hb3.mono AJ.out.bel.size)) AJ.out.nodup AJ.out.lt hj2 hjc hfuel (AJ.out.own.below hb3) (AJ.out.seen.below hb3) AJ.out.nm
          clear hA hrest hF hkn hj IH
          go_wp2_with (first | (go_at_call 29; refine HF.out.mono ?_; rintro e w3 ⟨rfl, hb3⟩) | (go_at_call 42; refine (HIJ.out _ hb3).mono ?_; rintro e w4 ⟨hb4, hn4, hse4, v4, rfl, hO4⟩))
          go_roundg q
          case measure => omega
          case rel =>
            refine ⟨k + 1, allF L of n j st', by omega, by go_num, by have := AG.out; show _ = _; omega, ?_, ?_⟩
            · obtain ⟨t1, ht1⟩ := HA.out.grown
              exact (⟨hO4, hse4, (AJ.out.bel.trans (hb3.mono AJ.out.bel.size)).trans hb4, HA.out.nodup, HA.out.lt, by have := AJ.out.more; rw [ht1]; simp; omega, hn4, HRS.out⟩ : AJ6 L of n d w0 m ps (st.1.length + 1) R1 (k + 1) v4 w4 (allF L of n j st'))
            · exact (AB.out.trans (hb3.mono AJ.out.bel.size)).trans hb4
        · obtain rfl : k = d.sup.length := by omega
          have hR2 : st' = R1 := by rw [← AJ.out.rest, List.drop_length]; rfl
          subst hR2
          clear IH HKD HT
          have HC : Hid (Calls Tryz.prog f #[.pointer (some ⟨pAt ps i, 0, none⟩)] wr fun e w' => e = .returned vo ∧ wr = w') := Lib.hid (HOF.out wr AJ.out.bel)
          obtain ⟨Ao, no, co, rfl⟩ := HVO.out.isSlice
          obtain ⟨hno, hco⟩ := texts_len HVO.out
          subst hno
          go_wp2_with ((with_reducible refine HC.out.mono ?_); rintro e w2 ⟨rfl, rfl⟩)
          obtain ⟨we, hwe⟩ : ∃ x, x = wr := ⟨_, rfl⟩
          subst hwe
          go_loopg [2, 51] xs.length (fun gk v i2 wr => ∃ (k : Nat) (acc : List (List UInt8)), k ≤ xs.length ∧ i2 = .int .i64 k ∧ Aside (k + gk = xs.length) ∧ Aside (BJ6 L xs w0 m ps (st'.1, xs.foldl (addN L) st'.2) k v wr acc) ∧ Aside (Below w0.heap.size w wr))
          case atStart => exact ⟨0, st'.2, Nat.zero_le _, rfl, by show _ = _; omega, ⟨AJ.out.own, AJ.out.seen, AJ.out.bel, AJ.out.nm, rfl⟩, AB.out⟩
          case round =>
            clear AJ AB HC HOF AG
            obtain ⟨k, acc, hk2, rfl, AG, BJ, AB⟩ := hrel
            by_cases hlt : k < xs.length
            · obtain ⟨q, rfl⟩ : ∃ q, gk = q + 1 := ⟨gk - 1, by have := AG.out; omega⟩
              obtain ⟨g, hgA, ck⟩ := texts_at (HVO.out.below BJ.out.bel) hlt
              subst hgA
              obtain ⟨j, hj⟩ := Option.isSome_iff_exists.1 (HKO.out k hlt)
              have hF := find_c s ps L false xs[k] wr (HS.out.below BJ.out.bel) (hofs.2 _ (List.getElem_mem hlt))
              rw [hj] at hF
              have HF : Hid (Calls Tryz.prog 29 #[.pointer (some ⟨s, 0, none⟩), .bool false, .string ⟨xs[k].toArray⟩] wr fun e w' => e = .returned (.pointer (some ⟨pAt ps j, 0, none⟩)) ∧ Below wr.heap.size wr w') := Lib.hid hF
              obtain ⟨e6, he6, hadd⟩ := addN_cases (l := acc) hj
              have hem := List.mem_of_getElem? he6
              have hnl := name_short HLIM.out hem
              have HNM : Hid (∀ w3, Below wr.heap.size wr w3 → Calls Tryz.prog 41 #[.pointer (some ⟨pAt ps j, 0, none⟩)] w3 fun e w' => e = .returned (.string ⟨e6.name.toArray⟩) ∧ w3 = w') := Lib.hid fun w3 hb3 =>
                dname_c (pAt ps j) e6 w3 ((HS.out.below (BJ.out.bel.trans (hb3.mono BJ.out.bel.size))).defAt he6)
              have hacl : acc.length ≤ 1000 := Nat.le_trans BJ.out.nm.len hN
              have hrest := BJ.out.rest
              rw [List.drop_eq_getElem_cons hlt, List.foldl_cons, hadd] at hrest
              obtain ⟨Ak, ck2, hu, hck2⟩ := BJ.out.own.isSlice
              subst hu
              have HCN : Hid (∀ w3, Below wr.heap.size wr w3 → Calls Tryz.prog 47 #[.slice Ak acc.length ck2, .string ⟨e6.name.toArray⟩] w3 fun e w' => e = .returned (.bool (acc.contains e6.name)) ∧ w3 = w') := Lib.hid fun w3 hb3 =>
                ContainsS_c e6.name acc _ w3 (BJ.out.own.below hb3).texts (by omega)
              have HO3 : Hid (∀ w3, Below wr.heap.size wr w3 → Own w0.heap.size w3 (.slice Ak acc.length ck2) acc) := Lib.hid fun w3 hb3 => BJ.out.own.below hb3
              have HEM := Lib.hid hem
              clear hF hj he6 hadd hem
              obtain ⟨nm6, hnm6⟩ : ∃ x, e6.name = x := ⟨_, rfl⟩
              cases hct : acc.contains e6.name
              · rw [hct] at HCN hrest
                simp only [Bool.false_eq_true, if_false] at hrest
                have HRS := Lib.hid hrest
                have HCT := Lib.hid hct
                rw [hnm6] at HNM HCN HRS HCT hnl
                have HNE := Lib.hid hnm6
                clear hrest hct hnm6
                go_wp2_with (first | (go_at_call 29; refine HF.out.mono ?_; rintro e w3 ⟨rfl, hb3⟩; have hO3 := HO3.out _ hb3) | (go_at_call 41; refine (HNM.out _ hb3).mono ?_; rintro e w4 ⟨rfl, rfl⟩) | (go_at_call 47; refine (HCN.out _ hb3).mono ?_; rintro e w4 ⟨rfl, rfl⟩) | (at_builtin; refine own_one (c := nm6) rfl _ _ rfl rfl hO3 rfl rfl (by omega) ?_; intro v' w5 hO5 hg5))
                go_roundg q
                case measure => omega
                case rel =>
                  have hb5 := (BJ.out.bel.trans (hb3.mono BJ.out.bel.size)).grown hg5 hO3.2 (fun k hk => (hO3.lt k hk).1)
                  refine ⟨k + 1, acc ++ [nm6], by omega, by go_num, by have := AG.out; show _ = _; omega, ?_, ?_⟩
                  · exact (⟨hO5, (BJ.out.seen.below hb3).noown hO3 hg5, hb5, by have := BJ.out.nm.add HEM.out (by rw [HNE.out]; exact HCT.out); rw [HNE.out] at this; exact this, HRS.out⟩ : BJ6 L xs w0 m ps _ (k + 1) v' w5 (acc ++ [nm6]))
                  · exact (AB.out.trans (hb3.mono BJ.out.bel.size)).grown hg5 hO3.2 (fun k hk => (hO3.lt k hk).1)
              · rw [hct] at HCN hrest
                simp only [if_true] at hrest
                have HRS := Lib.hid hrest
                rw [hnm6] at HNM HCN hnl
                clear hrest hct hnm6
                go_wp2_with (first | (go_at_call 29; refine HF.out.mono ?_; rintro e w3 ⟨rfl, hb3⟩; have hO3 := HO3.out _ hb3) | (go_at_call 41; refine (HNM.out _ hb3).mono ?_; rintro e w4 ⟨rfl, rfl⟩) | (go_at_call 47; refine (HCN.out _ hb3).mono ?_; rintro e w4 ⟨rfl, rfl⟩))
                go_roundg q
                case measure => omega
                case rel =>
                  refine ⟨k + 1, acc, by omega, by go_num, by have := AG.out; show _ = _; omega, ?_, ?_⟩
                  · exact (⟨hO3, BJ.out.seen.below hb3, BJ.out.bel.trans (hb3.mono BJ.out.bel.size), BJ.out.nm, HRS.out⟩ : BJ6 L xs w0 m ps _ (k + 1) _ _ acc)
                  · exact AB.out.trans (hb3.mono BJ.out.bel.size)
            · obtain rfl : k = xs.length := by omega
              have hR2 : acc = xs.foldl (addN L) st'.2 := by have := BJ.out.rest; rw [List.drop_length] at this; exact this
              have HR2 := Lib.hid hR2
              clear hR2
              go_wp2_with fail
              go_ret
              rw [HXS.out, ← HR2.out]
              exact ⟨AB.out, BJ.out.nm, BJ.out.seen, _, rfl, BJ.out.own⟩
    · rw [hcon] at hask
      simp only [if_true]
      have hb2 : Below w0.heap.size w (w.alloc (.cells #[] 93)) := hB0.mono hb.size
      have HR : Hid (NmOK L st.2 ∧ SeenP (w.alloc (.cells #[] 93)) m ps st.1 ∧ Own w0.heap.size (w.alloc (.cells #[] 93)) (.slice A st.2.length c) st.2) := Lib.hid ⟨hnm, hse.below hB0, ho.below hB0⟩
      clear hnm hse ho ih hof hkf hk hlim hS hcon hb hB0 hB1
      unfold ptrV
      go_enter Tryz.func42, Tryz.ntmps42
      go_wp2_with fail
      go_ret
      exact ⟨hb2, HR.out.1, HR.out.2.1, _, rfl, HR.out.2.2⟩
end Go.Proofs.YtcjobpcbppcdnaaGreatDoor
/- Contracts: Class. -/
namespace Go.Proofs.YtcjobpcbppcdnaaGreatDoor
open Go.RowKit

/-- What a definition names lies in its block. -/
theorem of_must (w0 : World) (s : Nat) (ps : List Nat) (L : List DefS) (hS : SchAt w0 s ps L) (hlim : ∀ d ∈ L, DefLim d) : OfOK w0 ps L DefS.must 43 := by
  refine ⟨fun i d hd => ?_, fun d hd => (hlim d hd).must, fun _ _ => by kernel_rfl⟩
  obtain ⟨vn, vs, vm, vy, hBK, _, _, hm, _⟩ := hS.defAt hd
  refine ⟨vm, hm, fun W hW => ?_⟩
  obtain ⟨A, n, c, rfl⟩ := hm.isSlice
  have c4 : W.cell? ⟨pAt ps i, 4, none⟩ = some (.slice A n c) := (hBK.below hW).cell 4
  clear hBK hm hd hW hS hlim
  unfold ptrV
  go_enter Tryz.func43, Tryz.ntmps43
  go_wp2_with fail
  go_ret
  exact ⟨rfl, rfl⟩
theorem of_may (w0 : World) (s : Nat) (ps : List Nat) (L : List DefS) (hS : SchAt w0 s ps L) (hlim : ∀ d ∈ L, DefLim d) : OfOK w0 ps L DefS.may 45 := by
  refine ⟨fun i d hd => ?_, fun d hd => (hlim d hd).may, fun _ _ => by kernel_rfl⟩
  obtain ⟨vn, vs, vm, vy, hBK, _, _, _, hm⟩ := hS.defAt hd
  refine ⟨vy, hm, fun W hW => ?_⟩
  obtain ⟨A, n, c, rfl⟩ := hm.isSlice
  have c4 : W.cell? ⟨pAt ps i, 5, none⟩ = some (.slice A n c) := (hBK.below hW).cell 5
  clear hBK hm hd hW hS hlim
  unfold ptrV
  go_enter Tryz.func45, Tryz.ntmps45
  go_wp2_with fail
  go_ret
  exact ⟨rfl, rfl⟩
/-- Whether a Name is among those that must be there. -/
theorem notmust_c (g : Nat) (cs : Array Value) (xs : List (List UInt8)) (v : Value) (x : List UInt8) (w : World) (hb : Bk w g 45 cs) (h5 : cs[5]? = some v) (hv : Texts w v xs) (hl : xs.length ≤ 1000000) :
    Calls Tryz.prog 46 #[.string ⟨x.toArray⟩, .pointer (some ⟨g, 0, none⟩)] w fun e w' => e = .returned (.bool (xs.contains x)) ∧ w = w' := by
  have HC := Lib.hid (ContainsS_c x xs v w hv hl)
  obtain ⟨A, n, c, rfl⟩ := hv.isSlice
  have c5 : w.cell? ⟨g, 5, none⟩ = some (.slice A n c) := (hb.cell 5).trans h5
  clear hb hv h5
  generalize xs.contains x = r at HC ⊢
  go_enter Tryz.func46, Tryz.ntmps46
  go_wp2_with (go_at_call 47; refine HC.out.mono ?_; rintro e w1 ⟨rfl, rfl⟩)
  go_ret
  exact ⟨rfl, rfl⟩
def clsCells (d : DefS) (vn vs vm vy : Value) : Array Value := #[.string ⟨d.oid.toArray⟩, .string ⟨d.name.toArray⟩, vn, vs, .int .i64 d.kind, vm, vy]
abbrev zeroCls : Obj := .cells #[.string ⟨#[]⟩, .string ⟨#[]⟩, .slice none 0 0, .slice none 0 0, .int .i64 0, .slice none 0 0, .slice none 0 0] 45
/-- What is told of a class, under way. -/
structure CJ (w wx : World) (g B : Nat) (d : DefS) (vn vs vm vy : Value) (sups : List (List UInt8)) : Prop where
  bk : Bk wx g 45 (clsCells d vn vs vm vy)
  out : Bk wx w.heap.size 45 (#[.string ⟨#[]⟩, .string ⟨#[]⟩, .slice none 0 0, .slice none 0 0, .int .i64 0, .slice none 0 0, .slice none 0 0] : Array Value)
  bel : Below w.heap.size w wx
  names : Own w.heap.size wx vn d.names
  sup : Own B wx vs sups
  ge : w.heap.size < g
  gB : g < B
  nlt : ∀ k, vn.ownBlock = some k → k < B
def clsV (d : DefS) (vn vs vm vy : Value) : Value := .agg (clsCells d vn vs vm vy)
def ClassRet (w : World) (L : List DefS) (i : Nat) (d : DefS) (e : Ending) (w' : World) : Prop := Below w.heap.size w w' ∧ ∃ vn vs vm vy, e = .returned (.tuple #[clsV d vn vs vm vy, .int .i64 0]) ∧ Texts w' vn d.names ∧ Texts w' vs (supNames L d) ∧ Texts w' vm (mustD L i) ∧ Texts w' vy (mayD L i) ∧ (mustD L i).length ≤ 1000000 ∧ (mayD L i).length ≤ 1000000
end Go.Proofs.YtcjobpcbppcdnaaGreatDoor
/- Contracts: Class: the walk. -/
namespace Go.Proofs.YtcjobpcbppcdnaaGreatDoor
open Go.RowKit

section
variable {ops : Array Oper} {o : Oper} {a : Act} {K : Act → World → Prop} {Q : Exit → Act → World → Prop} {E : Prop}
/-- 'append(own, text)' at the end of a region that draws. -/
theorem step_own_one (hgd : o.guard = none) (s x : Operand) (ho : o.op = .call { callee := .builtin .append, args := #[s, x], argTypes := #[22, 22] })
    {v : Value} {xs : List (List UInt8)} {B : Nat} {w0 : World} {c : List UInt8} (hs : a.eval s = v) (hb : Own B w0 v xs)
    (hx : a.eval x = .slice (some ⟨w0.heap.size, 0, none⟩) 1 1) (hlen : xs.length < 4398046511104)
    (h : ∀ v' w', Own B w' v' (xs ++ [c]) → w0.grownBy w' v.ownBlock → K (a.put o.dst v') w') :
    if Region.wanted o (yielded ops a.tmps) = true then Oper.wp Tryz.prog o a (w0.alloc (.cells #[.string ⟨c.toArray⟩] 9)) K Q else E := by
  obtain ⟨i, h1, h2, h3, h4⟩ := infoStr
  have hb' := hb.keep (World.grownBy_alloc w0 (.cells #[.string ⟨c.toArray⟩] 9) none) (fun k hk => by cases hk)
  refine step_append_own hgd s x 22 ho B 9 i (.string ⟨#[]⟩) 1 16 Tryz.underlying22 h1 h2 h3 h4 rfl (by decide) v _ _ hs hb'.1 ⟨w0.heap.size, 0, none⟩ 1 1 [.string ⟨c.toArray⟩] hx rfl ?_ ?_ (by unfold maxLen; omega) (by omega) hb'.2 ?_
  · intro j u hj
    match j, hj with
    | 0, hj => simp at hj; subst hj; simp [Addr.add]
    | (j + 1), hj => simp at hj
  · intro u hu; simp at hu; subst hu; rfl
  · intro v' w' ho' hg
    refine h v' w' ⟨?_, Nat.le_trans hb'.2 hg.size⟩ (World.grownBy.trans (World.grownBy_alloc _ _ _) hg)
    simpa [strV] using ho'
end
theorem bk_set7 {g : Nat} {w : World} {t : TypeId} (c0 c1 c2 c3 c4 c5 c6 v0 v1 v2 v3 v4 v5 v6 : Value) (h : Bk w g t #[c0, c1, c2, c3, c4, c5, c6]) : Bk (((((((w.setCell ⟨g, 0, none⟩ v0).setCell ⟨g, 1, none⟩ v1).setCell ⟨g, 2, none⟩ v2).setCell ⟨g, 3, none⟩ v3).setCell ⟨g, 4, none⟩ v4).setCell ⟨g, 5, none⟩ v5).setCell ⟨g, 6, none⟩ v6) g t #[v0, v1, v2, v3, v4, v5, v6] := by
  simpa using ((((((h.set 0 v0).set 1 v1).set 2 v2).set 3 v3).set 4 v4).set 5 v5).set 6 v6
theorem below_set7 {B g : Nat} {a w : World} (h : Below B a w) (hg : B ≤ g) (v0 v1 v2 v3 v4 v5 v6 : Value) : Below B a (((((((w.setCell ⟨g, 0, none⟩ v0).setCell ⟨g, 1, none⟩ v1).setCell ⟨g, 2, none⟩ v2).setCell ⟨g, 3, none⟩ v3).setCell ⟨g, 4, none⟩ v4).setCell ⟨g, 5, none⟩ v5).setCell ⟨g, 6, none⟩ v6) :=
  ((((((h.setCell hg v0).setCell hg v1).setCell hg v2).setCell hg v3).setCell hg v4).setCell hg v5).setCell hg v6
theorem grown_set7 (w : World) (g : Nat) (v0 v1 v2 v3 v4 v5 v6 : Value) : w.grownBy (((((((w.setCell ⟨g, 0, none⟩ v0).setCell ⟨g, 1, none⟩ v1).setCell ⟨g, 2, none⟩ v2).setCell ⟨g, 3, none⟩ v3).setCell ⟨g, 4, none⟩ v4).setCell ⟨g, 5, none⟩ v5).setCell ⟨g, 6, none⟩ v6) (some g) :=
  World.grownBy.trans (World.grownBy.trans (World.grownBy.trans (World.grownBy.trans (World.grownBy.trans (World.grownBy.trans (setCell_grown _ _ _ _) (setCell_grown _ _ _ _)) (setCell_grown _ _ _ _)) (setCell_grown _ _ _ _)) (setCell_grown _ _ _ _)) (setCell_grown _ _ _ _)) (setCell_grown _ _ _ _)
theorem Own.apart {B g : Nat} {w : World} {v : Value} {xs : List (List UInt8)} {t : TypeId} {cs : Array Value} (h : Own B w v xs) (hg : Bk w g t cs) (ht : t ≠ 9) : ∀ k, v.ownBlock = some k → (some g : Option Nat) ≠ some k := by
  intro k hk e
  cases e
  obtain ⟨cs', h'⟩ := h.ty hk
  exact bk_ne hg h' ht rfl
theorem supNames_succ (L : List DefS) (d : DefS) {k j : Nat} (h : k < d.sup.length) (hj : findD L true d.sup[k] = some j) : (supNames L d).take (k + 1) = (supNames L d).take k ++ [nameOf L j] := by
  have hl : k < (supNames L d).length := by unfold supNames; simpa using h
  have e : (supNames L d)[k]? = some (nameOf L j) := by
    unfold supNames
    rw [List.getElem?_map, List.getElem?_eq_getElem h]
    simp [hj]
  rw [List.getElem?_eq_getElem hl] at e
  rw [List.take_succ_eq_append_getElem hl, Option.some.inj e]
theorem cj_late {w w3 : World} {d : DefS} {A3 : Option Addr} {c3 : Nat} (hb : Below w.heap.size w w3) (ho : Bk w3 w.heap.size 45 #[.string ⟨#[]⟩, .string ⟨#[]⟩, .slice none 0 0, .slice none 0 0, .int .i64 0, .slice none 0 0, .slice none 0 0]) (hT : Own w.heap.size w3 (.slice A3 d.names.length c3) d.names) :
    CJ w (w3.alloc (.cells #[.string ⟨d.oid.toArray⟩, .string ⟨d.name.toArray⟩, .slice A3 d.names.length c3, .slice none 0 0, .int .i64 d.kind, .slice none 0 0, .slice none 0 0] 45)) w3.heap.size (w3.heap.size + 1) d (.slice A3 d.names.length c3) (.slice none 0 0) (.slice none 0 0) (.slice none 0 0) [] :=
  ⟨Bk.new w3 _ _, ho.alloc _, hb.alloc hb.size _, hT.below ((Below.refl _ _).alloc (Nat.le_refl _) _), Own.nil (by rw [World.size_alloc]; exact Nat.le_refl _), ho.lt, Nat.lt_succ_self _, fun k hk => Nat.lt_succ_of_lt (hT.lt k hk).2⟩
theorem cj_early {w w3 : World} {g : Nat} {d : DefS} {A3 : Option Addr} {c3 : Nat} (hg : w.heap.size < g) (hb : Below w.heap.size w w3) (ho : Bk w3 w.heap.size 45 #[.string ⟨#[]⟩, .string ⟨#[]⟩, .slice none 0 0, .slice none 0 0, .int .i64 0, .slice none 0 0, .slice none 0 0]) (hk : Bk w3 g 45 #[.string ⟨#[]⟩, .string ⟨#[]⟩, .slice none 0 0, .slice none 0 0, .int .i64 0, .slice none 0 0, .slice none 0 0]) (hT : Own w.heap.size w3 (.slice A3 d.names.length c3) d.names) :
    CJ w (((((((w3.setCell ⟨g, 0, none⟩ (.string ⟨d.oid.toArray⟩)).setCell ⟨g, 1, none⟩ (.string ⟨d.name.toArray⟩)).setCell ⟨g, 2, none⟩ (.slice A3 d.names.length c3)).setCell ⟨g, 3, none⟩ (.slice none 0 0)).setCell ⟨g, 4, none⟩ (.int .i64 d.kind)).setCell ⟨g, 5, none⟩ (.slice none 0 0)).setCell ⟨g, 6, none⟩ (.slice none 0 0)) g w3.heap.size d (.slice A3 d.names.length c3) (.slice none 0 0) (.slice none 0 0) (.slice none 0 0) [] := by
  have hgr := grown_set7 w3 g (.string ⟨d.oid.toArray⟩) (.string ⟨d.name.toArray⟩) (.slice A3 d.names.length c3) (.slice none 0 0) (.int .i64 d.kind) (.slice none 0 0) (.slice none 0 0)
  refine ⟨bk_set7 _ _ _ _ _ _ _ _ _ _ _ _ _ _ hk, ho.grown hgr (by intro e; have := Option.some.inj e; omega), below_set7 hb (by omega) _ _ _ _ _ _ _, hT.keep2 hgr (hT.apart hk (by decide)), Own.nil hgr.size, hg, hk.lt, fun k hk => (hT.lt k hk).2⟩
/-- A superior more. -/
theorem CJ.more {w w5 w6 : World} {g B : Nat} {d : DefS} {vn vs vs' vm vy : Value} {sups sups' : List (List UInt8)} (h : CJ w w5 g B d vn vs vm vy sups) (hg : w5.grownBy w6 vs.ownBlock) (hs : Own B w6 vs' sups') :
    Bk w6 g 45 (clsCells d vn vs vm vy) ∧ CJ w (w6.setCell ⟨g, 3, none⟩ vs') g B d vn vs' vm vy sups' := by
  have hge := h.ge
  have hgB := h.gB
  have hs5 := h.sup.lt
  have hk : Bk w6 g 45 (clsCells d vn vs vm vy) := h.bk.grown hg (by intro e; have := (hs5 g e.symm).1; omega)
  have hr := setCell_grown w6 g 3 vs'
  have hn : Own w.heap.size w6 vn d.names := h.names.keep2 hg (by intro k hk e; have := h.nlt k hk; have := (hs5 k e).1; omega)
  refine ⟨hk, ?_, (h.out.grown hg (by intro e; have := (hs5 _ e.symm).1; omega)).far (by omega) _, (h.bel.grown hg h.bel.size (fun k hk => by have := (hs5 k hk).1; omega)).setCell (by simp; omega) _, hn.keep2 hr (hn.apart hk (by decide)), hs.keep2 hr (hs.apart hk (by decide)), hge, hgB, h.nlt⟩
  exact hk.set 3 vs'
theorem CJ.below {w wx W : World} {g B : Nat} {d : DefS} {vn vs vm vy : Value} {sups : List (List UInt8)} (h : CJ w wx g B d vn vs vm vy sups) (hb : Below wx.heap.size wx W) : CJ w W g B d vn vs vm vy sups :=
  ⟨h.bk.below hb, h.out.below hb, h.bel.trans (hb.mono h.bel.size), h.names.below hb, h.sup.below hb, h.ge, h.gB, h.nlt⟩
/-- What must be there is told. -/
theorem CJ.must {w wx : World} {g B : Nat} {d : DefS} {vn vs vm vy : Value} {sups : List (List UInt8)} (h : CJ w wx g B d vn vs vm vy sups) (vm' : Value) : CJ w (wx.setCell ⟨g, 5, none⟩ vm') g B d vn vs vm' vy sups := by
  have hge := h.ge
  have hgr := setCell_grown wx g 5 vm'
  exact ⟨h.bk.set 5 vm', h.out.far (by omega) _, h.bel.setCell (by simp; omega) _, h.names.keep2 hgr (h.names.apart h.bk (by decide)), h.sup.keep2 hgr (h.sup.apart h.bk (by decide)), hge, h.gB, h.nlt⟩
theorem CJ.may {w wx : World} {g B : Nat} {d : DefS} {vn vs vm vy : Value} {sups : List (List UInt8)} (h : CJ w wx g B d vn vs vm vy sups) (vy' : Value) : CJ w (wx.setCell ⟨g, 6, none⟩ vy') g B d vn vs vm vy' sups := by
  have hge := h.ge
  have hgr := setCell_grown wx g 6 vy'
  exact ⟨h.bk.set 6 vy', h.out.far (by omega) _, h.bel.setCell (by simp; omega) _, h.names.keep2 hgr (h.names.apart h.bk (by decide)), h.sup.keep2 hgr (h.sup.apart h.bk (by decide)), hge, h.gB, h.nlt⟩
/-- What grows is a block that was not yet there. -/
theorem CJ.grown {w wx W : World} {g B : Nat} {d : DefS} {vn vs vm vy : Value} {sups : List (List UInt8)} (h : CJ w wx g B d vn vs vm vy sups) {r : Option Nat} {N : Nat} (hg : wx.grownBy W r) (hN : wx.heap.size ≤ N) (hr : ∀ k, r = some k → N ≤ k) : CJ w W g B d vn vs vm vy sups :=
  h.below ⟨hg.os, hg.tape, hg.output, hg.size, fun k hk => hg.block k hk (by intro e; have := hr k e.symm; omega)⟩
/-- What may be there, without what must be there. -/
theorem del_c {w w3 : World} {g B BM BY : Nat} {d : DefS} {vn vs vm vy : Value} {sups mu my : List (List UInt8)} {Am : Option Addr} {cm : Nat} (hC : CJ w w3 g B d vn vs vm vy sups) (hvm : vm = .slice Am mu.length cm) (hm : Own BM w3 (.slice Am mu.length cm) mu) (hml : mu.length ≤ 1000000) {Ay : Option Addr} {cy : Nat} (hy : Own BY w3 (.slice Ay my.length cy) my) (hyl : my.length ≤ 1000000) (hgY : g < BY ∧ B ≤ BY ∧ (∀ k, vs.ownBlock = some k → k < BY)) (hlt : ∀ k, (Value.slice Am mu.length cm).ownBlock = some k → k < BY) :
    Calls Tryz.prog 44 #[.slice Ay my.length cy, .func (.func 46) #[] #[.pointer (some ⟨g, 0, none⟩)]] w3 fun e w' => ∃ A n c, e = .returned (.slice A n c) ∧ CJ w w' g B d vn vs vm vy sups ∧ Own BM w' (.slice Am mu.length cm) mu ∧ TextsT w' (.slice A n c) (my.filter fun n => !mu.contains n) := by
  obtain ⟨hg, hB, hvs⟩ := hgY
  have hyo := hy.lt
  have hF : AskG w3 (Value.slice Ay my.length cy).ownBlock 46 #[.pointer (some ⟨g, 0, none⟩)] my (fun n => mu.contains n) := by
    refine ⟨fun x hx W hW => ?_, fun _ _ => by kernel_rfl⟩
    have hbW : Bk W g 45 (clsCells d vn vs vm vy) := hC.bk.grown hW (by intro e; have := (hyo g e.symm).1; omega)
    have hmW := hm.keep2 hW (by intro k hk e; have := hlt k hk; have := (hyo k e).1; omega)
    have := notmust_c g _ mu (.slice Am mu.length cm) x W hbW (by rw [← hvm]; rfl) hmW.texts hml
    exact this
  refine (DeleteFunc_c _ _ my BY _ w3 hy hyl _ hF).mono ?_
  rintro e w' ⟨A, n, c, rfl, hT, hgr⟩
  refine ⟨A, n, c, rfl, ?_, hm.keep2 hgr (by intro k hk e; have := hlt k hk; have := (hyo k e).1; omega), hT⟩
  have hgw := hC.ge
  refine ⟨hC.bk.grown hgr (by intro e; have := (hyo g e.symm).1; omega), hC.out.grown hgr (by intro e; have := (hyo _ e.symm).1; omega), hC.bel.grown hgr hC.bel.size (fun k hk => by have := (hyo k hk).1; omega), hC.names.keep2 hgr (by intro k hk e; have := hC.nlt k hk; have := (hyo k e).1; omega), hC.sup.keep2 hgr (by intro k hk e; have := hvs k hk; have := (hyo k e).1; omega), hC.ge, hC.gB, hC.nlt⟩
theorem class_out {w W : World} {L : List DefS} {i : Nat} {d : DefS} {vn vs vm vy : Value} {tmps : Array Value} (hz : Bk W w.heap.size 45 (clsCells d vn vs vm vy)) (h4 : tmps[4]? = some (.pointer (some ⟨w.heap.size, 0, none⟩))) (h5 : tmps[5]? = some (.int .i64 0))
    (h : ClassRet w L i d (.returned (.tuple #[clsV d vn vs vm vy, .int .i64 0])) W) :
    bodyPost Tryz.prog Tryz.f19 (ClassRet w L i d) .ret { tmps := tmps, defers := [] } W := by
  have e4 : tmps[4]?.getD undef = .pointer (some ⟨w.heap.size, 0, none⟩) := by rw [h4]; rfl
  have e5 : tmps[5]?.getD undef = .int .i64 0 := by rw [h5]; rfl
  have c0 := hz.cell 0
  have c1 := hz.cell 1
  have c2 := hz.cell 2
  have c3 := hz.cell 3
  have c4 := hz.cell 4
  have c5 := hz.cell 5
  have c6 := hz.cell 6
  simp only [clsCells, List.getElem?_toArray, List.getElem?_cons_zero, List.getElem?_cons_succ] at c0 c1 c2 c3 c4 c5 c6
  refine bodyPost_ret (v := .tuple #[clsV d vn vs vm vy, .int .i64 0]) ?_ rfl h
  simp [results, Tryz.results19, go_sem, e4, e5, c0, c1, c2, c3, c4, c5, c6, clsV, clsCells]
set_option maxRecDepth 100000 in
set_option maxHeartbeats 8000000 in
theorem Class_c (s : Nat) (ps : List Nat) (L : List DefS) (x : List UInt8) (i : Nat) (d : DefS) (w : World) (hS : SchAt w s ps L) (hlim : ∀ d ∈ L, DefLim d) (hN : L.length ≤ 1000) (hk : ∀ d ∈ L, ∀ n ∈ d.sup, (findD L d.cls n).isSome = true) (hkm : ∀ d ∈ L, ∀ n ∈ d.must, (findD L false n).isSome = true) (hky : ∀ d ∈ L, ∀ n ∈ d.may, (findD L false n).isSome = true) (hx : x.length ≤ 1000000) (hf : findD L true x = some i) (hd : L[i]? = some d) :
    Calls Tryz.prog 19 #[ptrV s, .string ⟨x.toArray⟩] w (ClassRet w L i d) := by
  have hi := findD_lt hf
  have hdc : d.cls = true := by
    obtain ⟨d', h1, h2, _⟩ := findD_at hf
    rw [hd] at h1
    cases h1
    exact h2
  have hmem : d ∈ L := List.mem_of_getElem? hd
  have hb0 : Below w.heap.size w (w.alloc zeroCls) := (Below.refl _ _).alloc (Nat.le_refl _) _
  have hk0 : Bk (w.alloc zeroCls) w.heap.size 45 #[.string ⟨#[]⟩, .string ⟨#[]⟩, .slice none 0 0, .slice none 0 0, .int .i64 0, .slice none 0 0, .slice none 0 0] := Bk.new w _ _
  have hF := find_c s ps L true x _ (hS.below hb0) hx
  rw [hf] at hF
  have HF : Hid (Calls Tryz.prog 29 #[.pointer (some ⟨s, 0, none⟩), .bool true, .string ⟨x.toArray⟩] (w.alloc zeroCls) fun e w' => e = .returned (.pointer (some ⟨pAt ps i, 0, none⟩)) ∧ Below w.heap.size w w' ∧ Bk w' w.heap.size 45 #[.string ⟨#[]⟩, .string ⟨#[]⟩, .slice none 0 0, .slice none 0 0, .int .i64 0, .slice none 0 0, .slice none 0 0]) := Lib.hid (hF.mono fun e w' ⟨h1, h2⟩ => ⟨h1, hb0.trans (h2.mono hb0.size), hk0.below h2⟩)
  have hdf := hS.defAt hd
  have hl := hlim d hmem
  obtain ⟨vn, vs, vm, vy, hBK, hvn, hvs, _⟩ := id hdf
  have HN : Hid (∀ W : World, Below w.heap.size w W → Calls Tryz.prog 41 #[.pointer (some ⟨pAt ps i, 0, none⟩)] W fun e w' => e = .returned (.string ⟨d.name.toArray⟩) ∧ W = w') := Lib.hid fun W hb => dname_c (pAt ps i) d W (hdf.below hb)
  have HC := Lib.hid (fun (W : World) (hb : Below w.heap.size w W) => CloneS_c d.names vn W (hvn.below hb) hl.names.1)
  obtain ⟨An, nn, cn, rfl⟩ := hvn.isSlice
  obtain ⟨As, ns, cs, rfl⟩ := hvs.isSlice
  obtain ⟨rfl, hcs⟩ := texts_len hvs
  have HK : Hid (∀ W : World, Below w.heap.size w W → W.cell? ⟨pAt ps i, 1, none⟩ = some (.string ⟨d.oid.toArray⟩) ∧ W.cell? ⟨pAt ps i, 2, none⟩ = some (.slice An nn cn) ∧ W.cell? ⟨pAt ps i, 13, none⟩ = some (.int .i64 d.kind)) := Lib.hid fun W hb => by
    have hB2 := hBK.below hb
    exact ⟨hB2.cell 1, hB2.cell 2, hB2.cell 13⟩
  have HK3 : Hid (∀ W : World, Below w.heap.size w W → W.cell? ⟨pAt ps i, 3, none⟩ = some (.slice As d.sup.length cs)) := Lib.hid fun W hb => (hBK.below hb).cell 3
  have hsl := hl.sup
  have HSU : Hid (∀ k (h : k < d.sup.length), ∃ j, findD L true d.sup[k] = some j ∧ (∃ g, As = some ⟨g, 0, none⟩ ∧ ∀ W : World, Below w.heap.size w W → W.cell? ⟨g, k, none⟩ = some (.string ⟨d.sup[k].toArray⟩)) ∧ (∀ W : World, Below w.heap.size w W → Calls Tryz.prog 29 #[.pointer (some ⟨s, 0, none⟩), .bool true, .string ⟨d.sup[k].toArray⟩] W fun e w' => e = .returned (.pointer (some ⟨pAt ps j, 0, none⟩)) ∧ Below W.heap.size W w') ∧ (∀ W : World, Below w.heap.size w W → Calls Tryz.prog 41 #[.pointer (some ⟨pAt ps j, 0, none⟩)] W fun e w' => e = .returned (.string ⟨(nameOf L j).toArray⟩) ∧ W = w')) := Lib.hid fun k h => by
    have h1 := hk d hmem _ (List.getElem_mem h)
    rw [hdc] at h1
    obtain ⟨j, hj⟩ := Option.isSome_iff_exists.1 h1
    obtain ⟨e, he, _⟩ := findD_at hj
    have hne : nameOf L j = e.name := by unfold nameOf; rw [he]
    obtain ⟨g, hg, hck⟩ := texts_at hvs h
    refine ⟨j, hj, ⟨g, hg, fun W hW => (hW.cell (p := ⟨g, k, none⟩) (cell_lt hck)).trans hck⟩, fun W hW => ?_, fun W hW => ?_⟩
    · have := find_c s ps L true d.sup[k] W (hS.below hW) (hsl.2 _ (List.getElem_mem h))
      rw [hj] at this
      exact this
    · rw [hne]
      exact dname_c _ e W ((hS.below hW).defAt he)
  have HAM : Hid (∀ (W : World) (m : Nat), m = W.heap.size → Below w.heap.size w W → Calls Tryz.prog 42 #[.pointer (some ⟨s, 0, none⟩), .pointer (some ⟨pAt ps i, 0, none⟩), .slice none 0 0, .map (some m), .func (.func 43) #[] #[]] (W.alloc (.map #[] 0)) fun e w' => ∃ A c, e = .returned (.slice A (mustD L i).length c) ∧ Below W.heap.size W w' ∧ Own W.heap.size w' (.slice A (mustD L i).length c) (mustD L i) ∧ (mustD L i).length ≤ 1000) := Lib.hid fun W m hm hW => by
    subst hm
    have hSW := hS.below hW
    have := all_c W s W.heap.size ps L DefS.must _ hSW hlim hN (Nat.le_refl _) hk hkm (of_must W s ps L hSW hlim) (L.length + 1) i ([], []) (.slice none 0 0) (W.alloc (.map #[] 0)) ((Below.refl _ _).alloc (Nat.le_refl _) _) (by simp) (by simp) hi (fun d' h' => by rw [hd] at h'; cases h'; exact hdc) (by simp) (Own.nil (by rw [World.size_alloc]; omega)) (SeenP.made W ps) (NmOK.nil L)
    refine this.mono ?_
    rintro e w' ⟨h1, h2, h3, v, rfl, h4⟩
    obtain ⟨A, c, rfl, _⟩ := h4.isSlice
    exact ⟨A, c, rfl, ((Below.refl _ _).alloc (Nat.le_refl _) _).trans h1, h4, Nat.le_trans h2.len hN⟩
  have HAY : Hid (∀ (W : World) (m : Nat), m = W.heap.size → Below w.heap.size w W → Calls Tryz.prog 42 #[.pointer (some ⟨s, 0, none⟩), .pointer (some ⟨pAt ps i, 0, none⟩), .slice none 0 0, .map (some m), .func (.func 45) #[] #[]] (W.alloc (.map #[] 0)) fun e w' => ∃ A c, e = .returned (.slice A (allD L DefS.may i).length c) ∧ Below W.heap.size W w' ∧ Own W.heap.size w' (.slice A (allD L DefS.may i).length c) (allD L DefS.may i) ∧ (allD L DefS.may i).length ≤ 1000) := Lib.hid fun W m hm hW => by
    subst hm
    have hSW := hS.below hW
    have := all_c W s W.heap.size ps L DefS.may _ hSW hlim hN (Nat.le_refl _) hk hky (of_may W s ps L hSW hlim) (L.length + 1) i ([], []) (.slice none 0 0) (W.alloc (.map #[] 0)) ((Below.refl _ _).alloc (Nat.le_refl _) _) (by simp) (by simp) hi (fun d' h' => by rw [hd] at h'; cases h'; exact hdc) (by simp) (Own.nil (by rw [World.size_alloc]; omega)) (SeenP.made W ps) (NmOK.nil L)
    refine this.mono ?_
    rintro e w' ⟨h1, h2, h3, v, rfl, h4⟩
    obtain ⟨A, c, rfl, _⟩ := h4.isSlice
    exact ⟨A, c, rfl, ((Below.refl _ _).alloc (Nat.le_refl _) _).trans h1, h4, Nat.le_trans h2.len hN⟩
  have hyd : mayD L i = (allD L DefS.may i).filter fun n => !(mustD L i).contains n := rfl
  obtain ⟨my, hmy⟩ : ∃ m, allD L DefS.may i = m := ⟨_, rfl⟩
  obtain ⟨mu, hmu⟩ : ∃ m, mustD L i = m := ⟨_, rfl⟩
  rw [hmy, hmu] at hyd
  rw [hmy] at HAY
  rw [hmu] at HAM
  have HYD := Lib.hid hyd
  have HMU := Lib.hid hmu
  clear hmy hmu
  clear hF hS hdf hl hvn hvs hBK hk hkm hky hlim hyd hk0 hb0 hf
  unfold ptrV
  go_enter Tryz.func19, Tryz.ntmps19
  go_upto_region 4 with (go_at_call 29; refine HF.out.mono ?_; rintro e w1 ⟨rfl, hb1, hz1⟩)
  have a1 : Below w.heap.size w w1.drew := hb1.drew
  have a2 : Below w.heap.size w (w1.alloc zeroCls).drew := (hb1.alloc hb1.size _).drew
  have a1n : Bk w1 w.heap.size 45 #[.string ⟨#[]⟩, .string ⟨#[]⟩, .slice none 0 0, .slice none 0 0, .int .i64 0, .slice none 0 0, .slice none 0 0] := hz1
  have a2o : Bk (w1.alloc zeroCls) w.heap.size 45 #[.string ⟨#[]⟩, .string ⟨#[]⟩, .slice none 0 0, .slice none 0 0, .int .i64 0, .slice none 0 0, .slice none 0 0] := hz1.alloc _
  have a2n : Bk (w1.alloc zeroCls) w1.heap.size 45 #[.string ⟨#[]⟩, .string ⟨#[]⟩, .slice none 0 0, .slice none 0 0, .int .i64 0, .slice none 0 0, .slice none 0 0] := Bk.new w1 _ _
  have hgw : w.heap.size < w1.heap.size := hz1.lt
  go_cut [7] (fun s7 wx => ∃ (g B : Nat) (A : Option Addr) (n c : Nat), s7 = .pointer (some ⟨g, 0, none⟩) ∧ Aside (CJ w wx g B d (.slice A n c) (.slice none 0 0) (.slice none 0 0) (.slice none 0 0) []))
  case first =>
   go_region_held3 (fun W => W.cell? ⟨pAt ps i, 1, none⟩ = some (.string ⟨d.oid.toArray⟩) ∧ W.cell? ⟨pAt ps i, 2, none⟩ = some (.slice An nn cn) ∧ W.cell? ⟨pAt ps i, 13, none⟩ = some (.int .i64 d.kind))
    (first | (with_reducible exact HK.out _ a1) | (with_reducible exact HK.out _ a2) | (with_reducible exact HK.out _ hB3) | (with_reducible exact HK.out _ (hB3.alloc hB3.size _)) | (with_reducible exact HK.out _ (below_set7 hB3 (Nat.le_of_lt hgw) _ _ _ _ _ _ _)) | fail)
    (first
      | (go_at_call 41; refine (HN.out _ (by first | (with_reducible exact a1) | (with_reducible exact a2))).mono ?_; rintro e w' ⟨rfl, rfl⟩)
      | (go_at_call 22; refine (HC.out _ (by first | (with_reducible exact a1) | (with_reducible exact a2))).mono ?_; rintro e w3 ⟨v3, rfl, hO3, hb3⟩; obtain ⟨A3, c3, rfl, hc3⟩ := hO3.isSlice; have hB3 : Below w.heap.size w w3 := (by first | (with_reducible exact a1.trans (hb3.mono a1.size)) | (with_reducible exact a2.trans (hb3.mono a2.size))); have KO := Lib.hid (show Bk w3 w.heap.size 45 #[.string ⟨#[]⟩, .string ⟨#[]⟩, .slice none 0 0, .slice none 0 0, .int .i64 0, .slice none 0 0, .slice none 0 0] from (by first | (with_reducible exact a1n.below (below_undrew hb3)) | (with_reducible exact a2o.below (below_undrew hb3)))); (first | (have KK := Lib.hid (a2n.below (below_undrew (w := w1.alloc zeroCls) hb3)); have kc0 : w3.cell? ⟨w1.heap.size, 0, none⟩ = some (.string ⟨#[]⟩) := KK.out.cell 0; have kc1 : w3.cell? ⟨w1.heap.size, 1, none⟩ = some (.string ⟨#[]⟩) := KK.out.cell 1; have kc2 : w3.cell? ⟨w1.heap.size, 2, none⟩ = some (.slice none 0 0) := KK.out.cell 2; have kc3 : w3.cell? ⟨w1.heap.size, 3, none⟩ = some (.slice none 0 0) := KK.out.cell 3; have kc4 : w3.cell? ⟨w1.heap.size, 4, none⟩ = some (.int .i64 0) := KK.out.cell 4; have kc5 : w3.cell? ⟨w1.heap.size, 5, none⟩ = some (.slice none 0 0) := KK.out.cell 5; have kc6 : w3.cell? ⟨w1.heap.size, 6, none⟩ = some (.slice none 0 0) := KK.out.cell 6; have fz0 : w3.frozen? ⟨w1.heap.size, 0, none⟩ = false := KK.out.frozen 0; have fz1 : w3.frozen? ⟨w1.heap.size, 1, none⟩ = false := KK.out.frozen 1; have fz2 : w3.frozen? ⟨w1.heap.size, 2, none⟩ = false := KK.out.frozen 2; have fz3 : w3.frozen? ⟨w1.heap.size, 3, none⟩ = false := KK.out.frozen 3; have fz4 : w3.frozen? ⟨w1.heap.size, 4, none⟩ = false := KK.out.frozen 4; have fz5 : w3.frozen? ⟨w1.heap.size, 5, none⟩ = false := KK.out.frozen 5; have fz6 : w3.frozen? ⟨w1.heap.size, 6, none⟩ = false := KK.out.frozen 6; have HFI := Lib.hid (cj_early (d := d) hgw hB3 KO.out KK.out (hO3.lower (by simp <;> omega))); clear KK) | (have HFI := Lib.hid (cj_late (d := d) hB3 KO.out (hO3.lower (by simp <;> omega)))))))
   all_goals
    go_wp2_with fail
    go_meet
    exact ⟨_, _, A3, d.names.length, c3, rfl, HFI.out⟩
  case rest =>
   clear a1 a2 a1n a2o a2n hgw hb1 hz1 HN HC HK HF
   obtain ⟨g, B, A, n, c, rfl, HC5⟩ := hcut
   have c3 := HK3.out wc HC5.out.bel
   have H5 := Lib.hid HC5.out
   clear HC5
   go_wp2_with fail
   go_loopg [37] d.sup.length (fun gk i2 wr => ∃ (k : Nat) (vs : Value), k ≤ d.sup.length ∧ i2 = .int .i64 k ∧ Aside (k + gk = d.sup.length) ∧ Aside (CJ w wr g B d (.slice A n c) vs (.slice none 0 0) (.slice none 0 0) ((supNames L d).take k)))
   case atStart => exact ⟨0, .slice none 0 0, Nat.zero_le _, rfl, by show _ = _; omega, H5.out⟩
   case round =>
    clear H5 c3
    obtain ⟨k, vs, hk, rfl, AG, AC⟩ := hrel
    by_cases hlt : k < d.sup.length
    · obtain ⟨q, rfl⟩ : ∃ q, gk = q + 1 := ⟨gk - 1, by have := AG.out; omega⟩
      obtain ⟨j, hj, ⟨gs, rfl, hck⟩, hFj, hNj⟩ := HSU.out k hlt
      have ck := hck wr AC.out.bel
      have hstep := supNames_succ L d hlt hj
      generalize nameOf L j = nm at hNj hstep
      have HFJ := Lib.hid (hFj _ AC.out.bel.drew)
      have HNJ := Lib.hid hNj
      have HST := Lib.hid hstep
      obtain ⟨Av, cv, rfl, hcv⟩ := AC.out.sup.isSlice
      have HAC := Lib.hid AC.out
      have hml : ((supNames L d).take k).length < 4398046511104 := by have := hsl.1; unfold supNames; simp; omega
      generalize hts : (supNames L d).take k = tk at *
      have g3 : wr.cell? ⟨g, 3, none⟩ = some (.slice Av tk.length cv) := HAC.out.bk.cell 3
      clear hck hFj hNj hstep hj AC
      generalize d.sup[k] = sk at ck HFJ
      go_wp2_with fail
      go_region_law (first
        | (go_simp; go_at_call 29; refine HFJ.out.mono ?_; rintro e w5 ⟨rfl, hb5x⟩; have hb5 := below_undrew hb5x; clear hb5x; have hC5 := HAC.out.below hb5; have g5 : w5.cell? ⟨g, 3, none⟩ = some (.slice Av tk.length cv) := hC5.bk.cell 3; have g5a : (w5.alloc (.cells #[.string ⟨nm.toArray⟩] 9)).cell? ⟨g, 3, none⟩ = some (.slice Av tk.length cv) := (World.cell?_alloc_lt _ _ _ hC5.bk.lt).trans g5; have HC5 := Lib.hid hC5; have HO5 := Lib.hid hC5.sup; have HN5 := Lib.hid (HNJ.out w5 hC5.bel); clear hC5)
        | (go_simp; go_at_call 41; refine HN5.out.mono ?_; rintro e w' ⟨rfl, rfl⟩)
        | (refine step_own_one (c := nm) (by rfl) _ _ (by rfl) rfl HO5.out rfl hml ?_; intro v' w6 hO6 hg6; obtain ⟨A6, n6, c6, rfl⟩ : ∃ A n c, v' = .slice A n c := (by obtain ⟨A, c, h, _⟩ := hO6.isSlice; exact ⟨A, _, c, h⟩); obtain ⟨hk6, hC6⟩ := HC5.out.more hg6 hO6; have g6 : w6.cell? ⟨g, 3, none⟩ = some (.slice Av tk.length cv) := hk6.cell 3; have f6 := hk6.frozen 3; have HC6 := Lib.hid hC6; clear hC6))
      all_goals
        go_wp2_with fail
        go_roundg q
        case measure => omega
        case rel => exact ⟨k + 1, _, by omega, by go_num, by have := AG.out; show _ = _; omega, by rw [HST.out]; exact HC6.out⟩
    · obtain rfl : k = d.sup.length := by omega
      have hsf : (supNames L d).take d.sup.length = supNames L d := by
        rw [List.take_of_length_le]
        unfold supNames; simp
      obtain ⟨Av, cv, rfl, hcv⟩ := AC.out.sup.isSlice
      have HAC := Lib.hid AC.out
      rw [hsf] at HAC
      clear AC hsf HSU
      have hmm := @run_makeMap Tryz.prog
      have hmf : ∀ (fn : Fn) (first cap : Array Value) (w : World), (Instr.makeFunc fn first cap).run Tryz.prog w = .ok (.func fn first cap) w := fun _ _ _ _ => rfl
      go_upto_region 12 with (first
        | (go_at_call 42; (with_reducible refine (HAM.out _ _ rfl HAC.out.bel).mono ?_); rintro e w2 ⟨Am, cm, rfl, hb2, hO2, hl2⟩; have HC2 := Lib.hid (HAC.out.below hb2); have k5 := HC2.out.bk.cell 5; have f5 := HC2.out.bk.frozen 5; have HC2m := Lib.hid (HC2.out.must (.slice Am mu.length cm)); have HO2m := Lib.hid (hO2.keep2 (setCell_grown w2 g 5 (.slice Am mu.length cm)) (hO2.apart HC2.out.bk (by decide))); have hz2 : (w2.setCell ⟨g, 5, none⟩ (.slice Am mu.length cm)).heap.size = w2.heap.size := (by simp [World.setCell]))
        | (go_at_call 42; (with_reducible refine (HAY.out _ _ hz2.symm HC2m.out.bel).mono ?_); rintro e w3 ⟨Ay, cy, rfl, hb3, hO3, hl3⟩; have HC3 := Lib.hid (HC2m.out.below hb3); have HO3m := Lib.hid (HO2m.out.below hb3); have HDF := Lib.hid (del_c (mu := mu) (my := my) HC3.out rfl HO3m.out (by omega) hO3 (by omega) ⟨HC2m.out.bk.lt, Nat.le_trans HC2m.out.sup.2 (Nat.le_refl _), fun k hk => (HC2m.out.sup.lt k hk).2⟩ (fun k hk => (HO2m.out.lt k hk).2)))
        | (go_at_call 44; refine HDF.out.mono ?_; rintro e w4 ⟨A4, n4, c4, rfl, hC4, hO4, hT4⟩; have k6 := hC4.bk.cell 6; have f6 := hC4.bk.frozen 6))
      have hC5 := hC4.may (.slice A4 n4 c4)
      have hT5 := hT4.far hC4.bk (by decide) (setCell_grown w4 g 6 (.slice A4 n4 c4))
      have hM5 := hO4.keep2 (setCell_grown w4 g 6 (.slice A4 n4 c4)) (hO4.apart hC4.bk (by decide))
      have hc0 := hC5.bk.cell 0
      have hc1 := hC5.bk.cell 1
      have hc2 := hC5.bk.cell 2
      have hc3 := hC5.bk.cell 3
      have hc4 := hC5.bk.cell 4
      have hc5 := hC5.bk.cell 5
      have hc6 := hC5.bk.cell 6
      simp only [clsCells, List.getElem?_toArray, List.getElem?_cons_zero, List.getElem?_cons_succ] at hc0 hc1 hc2 hc3 hc4 hc5 hc6
      have oc0 := hC5.out.cell 0
      have oc1 := hC5.out.cell 1
      have oc2 := hC5.out.cell 2
      have oc3 := hC5.out.cell 3
      have oc4 := hC5.out.cell 4
      have oc5 := hC5.out.cell 5
      have oc6 := hC5.out.cell 6
      simp only [List.getElem?_toArray, List.getElem?_cons_zero, List.getElem?_cons_succ] at oc0 oc1 oc2 oc3 oc4 oc5 oc6
      have of := fun i => hC5.out.frozen i
      have HC5 := Lib.hid hC5
      have HT5 := Lib.hid hT5
      have HM5 := Lib.hid hM5
      clear hC5 hT5 hM5 hC4 hO4 hT4
      generalize (w4.setCell ⟨g, 6, none⟩ (.slice A4 n4 c4)) = w5 at *
      go_wp2_with fail
      have hz := bk_set7 _ _ _ _ _ _ _ (.string ⟨d.oid.toArray⟩) (.string ⟨d.name.toArray⟩) (.slice A n c) (.slice Av (supNames L d).length cv) (.int .i64 d.kind) (.slice Am mu.length cm) (.slice A4 n4 c4) HC5.out.out
      have hgr := grown_set7 w5 w.heap.size (.string ⟨d.oid.toArray⟩) (.string ⟨d.name.toArray⟩) (.slice A n c) (.slice Av (supNames L d).length cv) (.int .i64 d.kind) (.slice Am mu.length cm) (.slice A4 n4 c4)
      exact class_out (L := L) (i := i) (d := d) hz rfl rfl (by
        unfold ClassRet
        rw [HYD.out, HMU.out]
        exact ⟨below_set7 HC5.out.bel (Nat.le_refl _) _ _ _ _ _ _ _, _, _, _, _, rfl, (HC5.out.names.keep2 hgr (HC5.out.names.apart HC5.out.out (by decide))).texts, (HC5.out.sup.keep2 hgr (HC5.out.sup.apart HC5.out.out (by decide))).texts, (HM5.out.keep2 hgr (HM5.out.apart HC5.out.out (by decide))).texts, (HT5.out.far HC5.out.out (by decide) hgr).1, by omega, by have := List.length_filter_le (fun n => !mu.contains n) my; omega⟩)
end Go.Proofs.YtcjobpcbppcdnaaGreatDoor
/- Contracts: light, made, has (chapter 6's law); rows of texts at any place. -/
namespace Go.Proofs.YtcjobpcbppcdnaaGreatDoor
open Go.RowKit

/-- Texts as they read, at any place. -/
def TextsA (w : World) (v : Value) (xs : List (List UInt8)) : Prop :=
  (xs = [] ∧ v = .slice none 0 0) ∨ ∃ (a : Addr) (c : Nat), v = .slice (some a) xs.length c ∧ xs.length ≤ c ∧ ∀ j (hj : j < xs.length), w.cell? (a.add j) = some (.string ⟨xs[j].toArray⟩)
theorem addr_block (a : Addr) (j : Nat) : (a.add j).block = a.block := by unfold Addr.add; split <;> rfl
theorem TextsA.below {w w' : World} {v : Value} {xs : List (List UInt8)} (h : TextsA w v xs) (hb : Below w.heap.size w w') : TextsA w' v xs := by
  rcases h with h | ⟨a, c, rfl, hc, hx⟩
  · exact .inl h
  · exact .inr ⟨a, c, rfl, hc, fun j hj => (hb.cell (cell_lt (hx j hj))).trans (hx j hj)⟩
theorem texts_toA {w : World} {v : Value} {xs : List (List UInt8)} (h : Texts w v xs) : TextsA w v xs := by
  rcases h with ⟨rfl, rfl⟩ | ⟨b, c, rfl, hc, hlt, hx⟩
  · exact .inl ⟨rfl, rfl⟩
  · exact .inr ⟨⟨b, 0, none⟩, c, rfl, hc, fun j hj => by rw [add_off]; exact hx j hj⟩
theorem TextsA.at {w : World} {v : Value} {xs : List (List UInt8)} (h : TextsA w v xs) : ∃ A c, v = .slice A xs.length c ∧ xs.length ≤ c ∧ (∀ j (hj : j < xs.length), ∃ a, A = some a ∧ w.cell? (a.add j) = some (.string ⟨xs[j].toArray⟩)) := by
  rcases h with ⟨rfl, rfl⟩ | ⟨a, c, rfl, hc, hcell⟩
  · exact ⟨_, _, rfl, Nat.zero_le _, fun j hj => by simp at hj⟩
  · exact ⟨_, _, rfl, hc, fun j hj => ⟨a, rfl, hcell j hj⟩⟩
theorem own_moreA {ops : Array Oper} {rest : List Oper} {o : Oper} {a : Act} {Q : Exit → Act → World → Prop} {w : World} (hgd : o.guard = none) (s x : Operand) (ho : o.op = .call { callee := .builtin .append, args := #[s, x], argTypes := #[22, 22] })
    {v xv : Value} {xs ys : List (List UInt8)} {B : Nat} (hs : a.eval s = v) (hb : Own B w v xs)
    (hx : a.eval x = xv) (hy : TextsA w xv ys) (hlen : xs.length + ys.length < 4398046511104)
    (h : ∀ v' w', Own B w' v' (xs ++ ys) → w.grownBy w' v.ownBlock → wpList Tryz.prog ops Q rest (a.put o.dst v') w') : wpList Tryz.prog ops Q (o :: rest) a w := by
  obtain ⟨i, h1, h2, h3, h4⟩ := infoStr
  rcases hy with ⟨rfl, rfl⟩ | ⟨b, c, rfl, hc, hcell⟩
  · refine wpList_append_own_none hgd s x 22 ho B 9 i 1 Tryz.underlying22 h1 v _ _ hs hb.1 hx ?_
    exact h v w (by simpa using hb) (World.grownBy.refl _ _)
  · refine wpList_append_own _ hgd s x 22 ho B 9 i (.string ⟨#[]⟩) 1 16 Tryz.underlying22 h1 h2 h3 h4 rfl (by decide) v _ _ hs hb.1 b ys.length c (ys.map strV) hx (by simp) ?_ ?_ (by unfold maxLen; omega) (by omega) hb.2 ?_
    · intro j u hj
      have hjl : j < ys.length := by simpa using (List.getElem?_eq_some_iff.1 hj).1
      rw [hcell j hjl]
      simp [hjl] at hj
      rw [← hj]; rfl
    · intro u hu
      simp at hu
      obtain ⟨q, _, rfl⟩ := hu
      rfl
    · intro v' w' ho' hg _
      exact h v' w' ⟨by simpa using ho', Nat.le_trans hb.2 hg.size⟩ hg
theorem texts_apart {w w' : World} {v : Value} {x y : List UInt8} {xs : List (List UInt8)} {k : Nat} (h : Texts w v (x :: xs)) (hk : w.cell? ⟨k, 0, none⟩ = some (.string ⟨y.toArray⟩)) (hne : x ≠ y) (hg : w.grownBy w' (some k)) : Texts w' v (x :: xs) := by
  rcases h with ⟨h, _⟩ | ⟨b, c, rfl, hc, hlt, hx⟩
  · cases h
  · have h0 := hx 0 (by simp)
    have hbk : b ≠ k := by
      rintro rfl
      rw [hk] at h0
      simp at h0
      exact hne h0.symm
    refine .inr ⟨b, c, rfl, hc, Nat.lt_of_lt_of_le hlt hg.size, fun j hj => ?_⟩
    rw [World.cell?_of_block (w := w) (w' := w') (a := ⟨b, j, none⟩) (hg.block b hlt (by intro e; exact hbk (Option.some.inj e)))]
    exact hx j hj
theorem bases_differ : bA0 ≠ bC0 := by decide
/-- How many bytes some texts have together. -/
def sumL (xs : List (List UInt8)) : Nat := (xs.map List.length).sum
def lightL (xa xc : List (List UInt8)) : Bool := decide (xa.length + xc.length ≤ 320) && decide (sumL xa + sumL xc ≤ 40000)
theorem sum_succ {xs : List (List UInt8)} {k : Nat} (h : k < xs.length) : sumL (xs.take (k + 1)) = sumL (xs.take k) + xs[k].length := by
  unfold sumL
  rw [List.take_succ_eq_append_getElem h, List.map_append, List.sum_append]
  simp
theorem sum_take (xs : List (List UInt8)) : ∀ k, sumL (xs.take k) ≤ sumL xs := by
  intro k
  have : xs = xs.take k ++ xs.drop k := (List.take_append_drop k xs).symm
  unfold sumL
  conv => rhs; rw [this]
  rw [List.map_append, List.sum_append]
  omega
theorem sum_mem {xs : List (List UInt8)} {x : List UInt8} (h : x ∈ xs) : x.length ≤ sumL xs := by
  unfold sumL
  induction xs with
  | nil => simp at h
  | cons y t ih =>
    rw [List.map_cons, List.sum_cons]
    rcases List.mem_cons.1 h with rfl | h
    · omega
    · have := ih h; omega
set_option maxRecDepth 100000 in
set_option maxHeartbeats 4000000 in
theorem light_c (xa xc : List (List UInt8)) (va vb : Value) (w : World) (hva : TextsA w va xa) (hvb : TextsA w vb xc) (hsz : xa.length + sumL xa + (xc.length + sumL xc) ≤ 1048576) :
    Calls Tryz.prog 10 #[va, vb] w fun e w' => e = .returned (.bool (lightL xa xc)) ∧ w = w' := by
  obtain ⟨Aa, ca, rfl, hca, hcellA⟩ := hva.at
  obtain ⟨Ac, cc, rfl, hcc, hcellC⟩ := hvb.at
  have HCA := Lib.hid hcellA
  have HCC := Lib.hid hcellC
  obtain ⟨R, hR⟩ : ∃ R, lightL xa xc = R := ⟨_, rfl⟩
  rw [hR]
  have HR0 := Lib.hid hR
  clear hva hvb hcellA hcellC hR
  go_enter Tryz.func10, Tryz.ntmps10
  go_wp2_with fail
  go_loopg [5, 6] xa.length (fun gk n i wr => ∃ k : Nat, k ≤ xa.length ∧ n = .int .i64 (sumL (xa.take k) : Nat) ∧ i = .int .i64 k ∧ Aside (k + gk = xa.length) ∧ w = wr)
  case atStart => exact ⟨0, Nat.zero_le _, rfl, rfl, by show _ = _; omega, rfl⟩
  case round =>
    obtain ⟨k, hk, rfl, rfl, AG, rfl⟩ := hrel
    by_cases hlt : k < xa.length
    · obtain ⟨q, rfl⟩ : ∃ q, gk = q + 1 := ⟨gk - 1, by have := AG.out; omega⟩
      obtain ⟨a, rfl, ck⟩ := HCA.out k hlt
      have h1 := sum_succ hlt
      have h2 := sum_take xa (k + 1)
      have HS := Lib.hid h1
      obtain ⟨m, hm⟩ : ∃ m, sumL (xa.take k) = m := ⟨_, rfl⟩
      obtain ⟨y, hy⟩ : ∃ y, xa[k] = y := ⟨_, rfl⟩
      rw [hm, hy] at h1
      rw [hy] at ck
      rw [hm]
      have hml : m + y.length ≤ 1048576 := by omega
      have HE := Lib.hid h1
      clear h1 h2 hm hy
      go_wp2_with fail
      go_roundg q
      case measure => omega
      case rel => exact ⟨k + 1, by omega, by rw [HE.out]; go_num, by go_num, by have := AG.out; show _ = _; omega, rfl⟩
    · obtain rfl : k = xa.length := by omega
      rw [List.take_length]
      have hm0 : sumL xa ≤ 1048576 := by omega
      clear HCA AG
      go_wp2_with fail
      go_loopg [5, 7] xc.length (fun gk n i wr => ∃ k : Nat, k ≤ xc.length ∧ n = .int .i64 (sumL xa + sumL (xc.take k) : Nat) ∧ i = .int .i64 k ∧ Aside (k + gk = xc.length) ∧ w = wr)
      case atStart => exact ⟨0, Nat.zero_le _, rfl, rfl, by show _ = _; omega, rfl⟩
      case round =>
        obtain ⟨k2, hk2, rfl, rfl, AG, rfl⟩ := hrel
        by_cases hlt : k2 < xc.length
        · obtain ⟨q, rfl⟩ : ∃ q, gk = q + 1 := ⟨gk - 1, by have := AG.out; omega⟩
          obtain ⟨a, rfl, ck⟩ := HCC.out k2 hlt
          have h1 := sum_succ hlt
          have h2 := sum_take xc (k2 + 1)
          obtain ⟨m, hm⟩ : ∃ m, sumL xa + sumL (xc.take k2) = m := ⟨_, rfl⟩
          obtain ⟨y, hy⟩ : ∃ y, xc[k2] = y := ⟨_, rfl⟩
          rw [hy] at h1 ck
          have h3 : sumL xa + sumL (xc.take (k2 + 1)) = m + y.length := by omega
          have hml : m + y.length ≤ 1048576 := by omega
          rw [hm]
          have HE := Lib.hid h3
          clear h1 h2 h3 hm hy
          go_wp2_with fail
          go_roundg q
          case measure => omega
          case rel => exact ⟨k2 + 1, by omega, by rw [HE.out]; go_num, by go_num, by have := AG.out; show _ = _; omega, rfl⟩
        · obtain rfl : k2 = xc.length := by omega
          rw [List.take_length]
          clear HCC AG
          have hl : R = (decide (xa.length + xc.length ≤ 320) && decide (sumL xa + sumL xc ≤ 40000)) := HR0.out.symm
          obtain ⟨n2, hn2⟩ : ∃ n, sumL xa + sumL xc = n := ⟨_, rfl⟩
          rw [hn2] at hl ⊢
          have hb2 : n2 ≤ 1048576 := by omega
          clear hn2 HR0
          by_cases h320 : xa.length + xc.length ≤ 320
          · have g1 : (xa.length : Int) + (xc.length : Int) ≤ 320 := by omega
            rw [decide_eq_true h320] at hl
            by_cases h4 : n2 ≤ 40000
            · rw [decide_eq_true h4] at hl
              have g2 : (n2 : Int) ≤ 40000 := by omega
              have HL := Lib.hid hl
              clear hl
              go_wp2_with fail
              all_goals
                go_ret
                exact ⟨by rw [HL.out]; rfl, rfl⟩
            · rw [decide_eq_false h4] at hl
              have g2 : ¬ (n2 : Int) ≤ 40000 := by omega
              have HL := Lib.hid hl
              clear hl
              go_wp2_with fail
              all_goals
                go_ret
                exact ⟨by rw [HL.out]; rfl, rfl⟩
          · have g1 : ¬ (xa.length : Int) + (xc.length : Int) ≤ 320 := by omega
            rw [decide_eq_false h320] at hl
            have HL := Lib.hid hl
            clear hl
            go_wp2_with fail
            all_goals
              go_ret
              exact ⟨by rw [HL.out]; rfl, rfl⟩
/-- What made hands back. -/
def MadeRet (w : World) (o : (Int × Nat) ⊕ List DefS) (e : Ending) (w' : World) : Prop := Below w.heap.size w w' ∧ match o with
  | .inl _ => e = .returned (.pointer none)
  | .inr L => ∃ s ps, e = .returned (ptrV s) ∧ SchAt w' s ps L
theorem readAll_err {na i : Nat} {xs : List (List UInt8)} {L : List DefS} {x : Int × Nat} (h : readAll na i xs L = .inl x) : x.1 ≠ 0 := by
  induction xs generalizing i L with
  | nil => rw [readAll] at h; cases h
  | cons s xs ih =>
    rw [readAll] at h
    split at h
    · cases h; simp
    · split at h
      · exact ih h
      · cases h; simp
theorem newL_err {a c : List (List UInt8)} {x : Int × Nat} (h : newL a c = .inl x) : x.1 ≠ 0 := by
  unfold newL at h
  split at h
  · cases h; simp
  · split at h
    · next y hr => cases h; exact readAll_err hr
    · split at h
      · cases h; simp
      · split at h
        · cases h; simp
        · split at h
          · cases h; simp
          · cases h
set_option maxRecDepth 100000 in
set_option maxHeartbeats 4000000 in
theorem made_c (xa xc : List (List UInt8)) (va vb : Value) (w : World) (hw : Env w) (hva : TextsA w va xa) (hvb : TextsA w vb xc) (hl : xa.length + xc.length ≤ 1000) (hs : ∀ x ∈ xa ++ xc, x.length ≤ 1000000) :
    Calls Tryz.prog 11 #[va, vb] w (MadeRet w (newL (baseA ++ xa) (baseC ++ xc))) := by
  have HBs := Lib.hid (Base_c w)
  have hsA : ∀ x ∈ (baseA ++ xa) ++ (baseC ++ xc), x.length ≤ 1000000 := by
    intro x hx
    have hb : ∀ x ∈ baseA ++ baseC, x.length ≤ 1000000 := fun x hx => Nat.le_trans (base_short x hx) (by decide)
    simp only [List.mem_append] at hx hb hs
    rcases hx with (h | h) | (h | h)
    · exact hb x (.inl h)
    · exact hs x (.inl h)
    · exact hb x (.inr h)
    · exact hs x (.inr h)
  have HNw : Hid (∀ (u1 u2 : Value) (W : World), Below w.heap.size w W → Texts W u1 (baseA ++ xa) → Texts W u2 (baseC ++ xc) → Calls Tryz.prog 9 #[u1, u2] W (NewRet W (newL (baseA ++ xa) (baseC ++ xc)))) := Lib.hid fun u1 u2 W h h1 h2 => New_c u1 u2 _ _ W (hw.keep h) h1 h2 (by simp [baseA_len, baseC_len]; omega) hsA
  have HA := Lib.hid hva
  have HC := Lib.hid hvb
  have HER := Lib.hid (fun x => newL_err (a := baseA ++ xa) (c := baseC ++ xc) (x := x))
  clear hva hvb hsA hs hw
  generalize newL (baseA ++ xa) (baseC ++ xc) = R at HNw HER ⊢
  obtain ⟨Aa, na, ca, rfl⟩ : ∃ A n c, va = .slice A n c := by obtain ⟨A, c, h, _⟩ := HA.out.at; exact ⟨A, _, c, h⟩
  obtain ⟨Ac, nc, cc, rfl⟩ : ∃ A n c, vb = .slice A n c := by obtain ⟨A, c, h, _⟩ := HC.out.at; exact ⟨A, _, c, h⟩
  cases R with
  | inl x =>
    obtain ⟨er, i⟩ := x
    have hne := HER.out _ rfl
    simp only at hne
    have hq : ((er : Int) != 0) = true := bne_iff_ne.2 hne
    clear HER hne
    go_enter Tryz.func11, Tryz.ntmps11
    go_wp2_with (first | (go_at_call 7; refine HBs.out.mono ?_; rintro e w1 ⟨rfl, hb1, hA1, hC1⟩; have ha1 := HA.out.below hb1) | (at_builtin; refine own_moreA rfl _ _ rfl rfl hA1 rfl ha1 (by rw [baseA_len]; omega) ?_; intro v2 w2 hO2 hg2; have hB2 := hb1.grown hg2 hb1.size (fun k hk => (hA1.lt k hk).1); have hC2 := hC1.keep hg2 (fun k hk => by have : w.heap.size = k := Option.some.inj hk; omega); have hc2 := HC.out.below hB2) | (at_builtin; refine own_moreA rfl _ _ rfl rfl hC2 rfl hc2 (by rw [baseC_len]; omega) ?_; intro v3 w3 hO3 hg3; have hB3 := hB2.grown hg3 hB2.size (fun k hk => by have := (hC2.lt k hk).1; omega); have ht3 := texts_apart (x := bA0) (y := bC0) hO2.texts (texts_at2 hC2.texts (j := 0) (by decide)) bases_differ hg3) | (go_at_call 9; refine (HNw.out _ _ _ hB3 ht3 hO3.texts).mono ?_; rintro e w4 ⟨hb4, rfl⟩))
    all_goals
      go_ret
      exact ⟨hB3.trans (hb4.mono hB3.size), rfl⟩
  | inr L =>
    clear HER
    go_enter Tryz.func11, Tryz.ntmps11
    go_wp2_with (first | (go_at_call 7; refine HBs.out.mono ?_; rintro e w1 ⟨rfl, hb1, hA1, hC1⟩; have ha1 := HA.out.below hb1) | (at_builtin; refine own_moreA rfl _ _ rfl rfl hA1 rfl ha1 (by rw [baseA_len]; omega) ?_; intro v2 w2 hO2 hg2; have hB2 := hb1.grown hg2 hb1.size (fun k hk => (hA1.lt k hk).1); have hC2 := hC1.keep hg2 (fun k hk => by have : w.heap.size = k := Option.some.inj hk; omega); have hc2 := HC.out.below hB2) | (at_builtin; refine own_moreA rfl _ _ rfl rfl hC2 rfl hc2 (by rw [baseC_len]; omega) ?_; intro v3 w3 hO3 hg3; have hB3 := hB2.grown hg3 hB2.size (fun k hk => by have := (hC2.lt k hk).1; omega); have ht3 := texts_apart (x := bA0) (y := bC0) hO2.texts (texts_at2 hC2.texts (j := 0) (by decide)) bases_differ hg3) | (go_at_call 9; refine (HNw.out _ _ _ hB3 ht3 hO3.texts).mono ?_; rintro e w4 ⟨hb4, s, ps, rfl, hS4⟩))
    all_goals
      go_ret
      exact ⟨hB3.trans (hb4.mono hB3.size), s, ps, rfl, hS4⟩
set_option maxRecDepth 100000 in
set_option maxHeartbeats 4000000 in
theorem has_c (xs : List (List UInt8)) (x : List UInt8) (v : Value) (w : World) (hv : TextsA w v xs) (hl : xs.length ≤ 1000000) :
    Calls Tryz.prog 21 #[v, .string ⟨x.toArray⟩] w fun e w' => e = .returned (.bool (xs.contains x)) ∧ w = w' := by
  obtain ⟨A, c, rfl, hc, hcell⟩ := hv.at
  have HC := Lib.hid hcell
  clear hv hcell
  obtain ⟨R, hR⟩ : ∃ R, xs.contains x = R := ⟨_, rfl⟩
  rw [hR]
  go_enter Tryz.func21, Tryz.ntmps21
  go_wp2_with fail
  go_loopg [5] xs.length (fun gk i wr => ∃ k : Nat, k ≤ xs.length ∧ i = .int .i64 k ∧ Aside (k + gk = xs.length) ∧ w = wr ∧ Aside (R = (xs.drop k).contains x))
  case atStart => exact ⟨0, Nat.zero_le _, rfl, by show _ = _; omega, rfl, hR.symm⟩
  case round =>
    clear hR
    obtain ⟨k, hk, rfl, AG, rfl, AR⟩ := hrel
    by_cases hlt : k < xs.length
    · obtain ⟨q, rfl⟩ : ∃ q, gk = q + 1 := ⟨gk - 1, by have := AG.out; omega⟩
      obtain ⟨a, rfl, ck⟩ := HC.out k hlt
      have hr := AR.out
      rw [List.drop_eq_getElem_cons hlt, List.contains_cons] at hr
      have HR := Lib.hid hr
      clear hr AR
      obtain ⟨y, hy⟩ : ∃ y, xs[k] = y := ⟨_, rfl⟩
      rw [hy] at ck HR
      clear hy
      by_cases hxy : y = x
      · subst hxy
        have hfin : R = true := by rw [HR.out]; simp
        have HF := Lib.hid hfin
        clear hfin HR
        go_wp2_with fail
        all_goals
          go_ret
          exact ⟨by rw [HF.out]; try rfl, rfl⟩
      · have hb1 : (y == x) = false := beq_eq_false_iff_ne.2 hxy
        have hfin : R = (xs.drop (k + 1)).contains x := by rw [HR.out, beq_eq_false_iff_ne.2 (Ne.symm hxy)]; rfl
        have HF := Lib.hid hfin
        clear hfin HR
        go_wp2_with fail
        go_roundg q
        case measure => omega
        case rel => exact ⟨k + 1, by omega, by go_num, by have := AG.out; show _ = _; omega, rfl, HF.out⟩
    · obtain rfl : k = xs.length := by omega
      have hfin : R = false := by rw [AR.out, List.drop_length]; rfl
      have HF := Lib.hid hfin
      clear hfin AR HC
      go_wp2_with fail
      go_ret
      exact ⟨by rw [HF.out]; try rfl, rfl⟩
end Go.Proofs.YtcjobpcbppcdnaaGreatDoor
/- Plain: the Names of all definitions of a kind, and whose they are; SchemaOrder's tests. -/
namespace Go.Proofs.YtcjobpcbppcdnaaGreatDoor

/-- Where the definitions of a kind stand. -/
def idxs (L : List DefS) (c : Bool) : List Nat := (List.range L.length).filter fun i => match L[i]? with
  | none => false
  | some d => d.cls == c
theorem idxs_app (L : List DefS) (d : DefS) (c : Bool) : idxs (L ++ [d]) c = idxs L c ++ (if d.cls == c then [L.length] else []) := by
  unfold idxs
  rw [List.length_append, List.length_singleton, List.range_succ, List.filter_append]
  congr 1
  · apply List.filter_congr
    intro i hi
    have hi' : i < L.length := List.mem_range.1 hi
    rw [List.getElem?_append_left hi']
  · simp only [List.filter_cons, List.filter_nil, List.getElem?_concat_length]
theorem nameOf_app {L : List DefS} (d : DefS) {i : Nat} (h : i < L.length) : nameOf (L ++ [d]) i = nameOf L i := by
  unfold nameOf
  rw [List.getElem?_append_left h]
theorem idxs_lt {L : List DefS} {c : Bool} {i : Nat} (h : i ∈ idxs L c) : ∃ d, L[i]? = some d ∧ d.cls = c := by
  unfold idxs at h
  rw [List.mem_filter] at h
  cases hd : L[i]? with
  | none => rw [hd] at h; simp at h
  | some d => rw [hd] at h; exact ⟨d, rfl, by simpa using h.2⟩
theorem snoc_cases {α : Type} (P : List α → Prop) (h0 : P []) (h1 : ∀ l x, P l → P (l ++ [x])) (l : List α) : P l := by
  have : ∀ n (l : List α), l.length = n → P l := by
    intro n
    induction n with
    | zero => intro l h; rw [List.eq_nil_of_length_eq_zero h]; exact h0
    | succ n ih =>
      intro l h
      have hne : l ≠ [] := by rintro rfl; simp at h
      rw [← List.dropLast_concat_getLast hne]
      exact h1 _ _ (ih _ (by simp [h]))
  exact this _ l rfl
theorem listed_idxs (c : Bool) (L : List DefS) : listedL L c = (idxs L c).map (nameOf L) := by
  refine snoc_cases (fun L => listedL L c = (idxs L c).map (nameOf L)) rfl ?_ L
  intro L d ih
  have e1 : listedL (L ++ [d]) c = listedL L c ++ (if d.cls == c then [d.name] else []) := by
    unfold listedL
    rw [List.filter_append, List.map_append]
    congr 1
    by_cases hc : (d.cls == c) = true
    · rw [if_pos hc]; simp [hc]
    · rw [if_neg hc]; simp [hc]
  rw [e1, idxs_app, List.map_append, ih]
  congr 1
  · apply List.map_congr_left
    intro i hi
    obtain ⟨e, he, _⟩ := idxs_lt hi
    exact (nameOf_app d (List.getElem?_eq_some_iff.1 he).1).symm
  · by_cases hc : (d.cls == c) = true
    · rw [if_pos hc, if_pos hc]
      simp [nameOf]
    · rw [if_neg hc, if_neg hc]; rfl
theorem idxs_nodup (L : List DefS) (c : Bool) : (idxs L c).Nodup := (List.nodup_range (n := L.length)).sublist List.filter_sublist
theorem nodup_inj {l : List Nat} (h : l.Nodup) {i k : Nat} (hi : i < l.length) (hk : k < l.length) (he : l[i] = l[k]) : i = k := by
  rw [List.nodup_iff_pairwise_ne, List.pairwise_iff_getElem] at h
  rcases Nat.lt_trichotomy i k with h1 | h1 | h1
  · exact absurd he (h i k hi hk h1)
  · exact h1
  · exact absurd he.symm (h k i hk hi h1)
/-- Who has the i-th Name. -/
theorem listed_at {L : List DefS} {c : Bool} {i : Nat} (h : i < (listedL L c).length) : ∃ x d, (idxs L c)[i]? = some x ∧ L[x]? = some d ∧ d.cls = c ∧ (listedL L c)[i] = d.name := by
  have hl : (listedL L c).length = (idxs L c).length := by rw [listed_idxs, List.length_map]
  have hi : i < (idxs L c).length := by omega
  obtain ⟨d, hd, hc⟩ := idxs_lt (List.getElem_mem hi)
  refine ⟨(idxs L c)[i], d, List.getElem?_eq_getElem hi, hd, hc, ?_⟩
  have e : (listedL L c)[i]? = ((idxs L c).map (nameOf L))[i]? := by rw [listed_idxs]
  rw [List.getElem?_eq_getElem h, List.getElem?_map, List.getElem?_eq_getElem hi] at e
  have e2 := Option.some.inj e
  rw [e2]
  unfold nameOf
  rw [hd]
/-- What SchemaOrder asks of the i-th and the k-th Name. -/
theorem order_at {L : List DefS} (h : NewSays L) {i : Nat} (hi : i < (listedL L false).length) : ∃ x a, findD L false (listedL L false)[i] = some x ∧ countsD L x = some a ∧
    isSubD L (listedL L false)[i] (listedL L false)[i] = true ∧ (a.sup ≠ [] → isSubD L (listedL L false)[i] a.sup = true) ∧ isSubD L a.oid (listedL L false)[i] = true ∧
    ∀ k (hk : k < (listedL L false).length), (i ≠ k → isSubD L (listedL L false)[i] (listedL L false)[k] = true → isSubD L (listedL L false)[k] (listedL L false)[i] = false) ∧
      (a.sup ≠ [] → isSubD L a.sup (listedL L false)[k] = true → isSubD L (listedL L false)[i] (listedL L false)[k] = true) := by
  obtain ⟨x, d, hx, hd, hc, hn⟩ := listed_at hi
  obtain ⟨a, ha⟩ := h.counts hd hc
  have hf := h.named hd
  rw [hc] at hf
  obtain ⟨o1, o2, o3, o4⟩ := order_law h hd hc ha
  rw [hn]
  refine ⟨x, a, hf, ha, o1, o2, o3, fun k hk => ?_⟩
  obtain ⟨y, e, hy, he, hce, hm⟩ := listed_at hk
  rw [hm]
  obtain ⟨q1, q2⟩ := o4 y e he hce
  refine ⟨fun hik h1 => ?_, q2⟩
  have hxy : x ≠ y := by
    rintro rfl
    obtain ⟨l1, e1⟩ := List.getElem?_eq_some_iff.1 hx
    obtain ⟨l2, e2⟩ := List.getElem?_eq_some_iff.1 hy
    exact hik (nodup_inj (idxs_nodup L false) l1 l2 (e1.trans e2.symm))
  have := q1 hxy
  rw [← Bool.not_eq_true]
  exact fun h2 => this ⟨h1, h2⟩
end Go.Proofs.YtcjobpcbppcdnaaGreatDoor
/- Plain: how long what SchemaOrder and SchemaClasses ask about is. -/
namespace Go.Proofs.YtcjobpcbppcdnaaGreatDoor
open Go.RowKit

theorem light_sums {xa xc : List (List UInt8)} (h : lightL xa xc = true) : sumL xa ≤ 40000 ∧ sumL xc ≤ 40000 ∧ xa.length + xc.length ≤ 320 := by
  unfold lightL at h
  rw [Bool.and_eq_true, decide_eq_true_eq, decide_eq_true_eq] at h
  omega
theorem listed_short {L : List DefS} (hL : Sound L) (c : Bool) : ∀ x ∈ listedL L c, x.length ≤ 1000000 := by
  intro x hx
  unfold listedL at hx
  obtain ⟨d, hd, rfl⟩ := List.mem_map.1 hx
  have h := hL.lim d (List.mem_filter.1 hd).1
  unfold DefS.name
  cases hn : d.names with
  | nil => exact h.oid
  | cons x t => exact h.names.2 x (by rw [hn]; simp)
theorem attr_short {L : List DefS} (hL : Sound L) {x : Nat} {a : AttrS} (ha : countsD L x = some a) : a.oid.length ≤ 1000000 ∧ a.sup.length ≤ 1000000 := by
  have hname : ∀ d ∈ L, d.name.length ≤ 1000000 := by
    intro d hd
    have h := hL.lim d hd
    unfold DefS.name
    cases hn : d.names with
    | nil => exact h.oid
    | cons x t => exact h.names.2 x (by rw [hn]; simp)
  cases hd : L[x]? with
  | none => unfold countsD at ha; rw [countsF, hd] at ha; cases ha
  | some d =>
    obtain ⟨e1, _, e3⟩ := countsF_sup _ hd ha
    refine ⟨by rw [e1]; exact (hL.lim d (List.mem_of_getElem? hd)).oid, ?_⟩
    rcases e3 with ⟨_, e⟩ | ⟨_, _, _, u, _, _, hu, e⟩
    · rw [e]; simp
    · rw [e]; exact hname u (List.mem_of_getElem? hu)
end Go.Proofs.YtcjobpcbppcdnaaGreatDoor
/- Plain and contracts: what SchemaClasses asks. -/
namespace Go.Proofs.YtcjobpcbppcdnaaGreatDoor
open Go.RowKit

/-- What is asked of a class above another. -/
def AboveAt (L : List DefS) (must may up : List (List UInt8)) (k : Nat) (n : List UInt8) : Prop := ∃ y e, findD L true n = some y ∧ L[y]? = some e ∧ (up.take k).contains n = false ∧ (∀ s ∈ mustD L y, must.contains s = true ∧ may.contains s = false) ∧ (∀ s ∈ mayD L y, must.contains s = false → may.contains s = true)
/-- What SchemaClasses asks of a Name. -/
def ClassAt (L : List DefS) (n : List UInt8) : Prop := ∃ x d, findD L true n = some x ∧ L[x]? = some d ∧ (∃ t, aboveN L x = n :: t) ∧ (aboveN L x).Nodup ∧ ∀ (k : Nat) (hk : k < (aboveN L x).length), AboveAt L (mustD L x) (mayD L x) (aboveN L x) k (aboveN L x)[k]
theorem take_fresh {α : Type} [BEq α] [LawfulBEq α] {l : List α} (h : l.Nodup) {k : Nat} (hk : k < l.length) : (l.take k).contains l[k] = false := by
  rw [← Bool.not_eq_true, List.contains_iff_mem, List.mem_take_iff_getElem]
  rintro ⟨j, hj, he⟩
  rw [List.nodup_iff_pairwise_ne, List.pairwise_iff_getElem] at h
  exact h j k (by omega) hk (by omega) he
theorem class_at {L : List DefS} (hL : Sound L) {i : Nat} (hi : i < (listedL L true).length) : ClassAt L (listedL L true)[i] := by
  obtain ⟨x, d, hx, hd, hc, hn⟩ := listed_at hi
  have hf := hL.says.named hd
  rw [hc] at hf
  obtain ⟨h1, h2, h3⟩ := classes_law hL.says hd hc
  rw [hn]
  refine ⟨x, d, hf, hd, h1, h2, fun k hk => ?_⟩
  obtain ⟨y, hy, h4, h5⟩ := h3 _ (List.getElem_mem hk)
  obtain ⟨e, he, _⟩ := findD_at hy
  refine ⟨y, e, hy, he, take_fresh h2 hk, fun s hs => ?_, fun s hs hm => ?_⟩
  · obtain ⟨q1, q2⟩ := h4 s hs
    exact ⟨List.contains_iff_mem.2 q1, by rw [← Bool.not_eq_true, List.contains_iff_mem]; exact q2⟩
  · rcases h5 s hs with q | q
    · rw [List.contains_iff_mem.2 q] at hm
      cases hm
    · exact List.contains_iff_mem.2 q
theorem above_len {L : List DefS} {x : Nat} (h : x < L.length) : (aboveN L x).length ≤ L.length := by
  have hS := aboveD_says L x h
  have := nodup_bound _ _ hS.nodup hS.lt
  unfold aboveN
  rw [List.length_map]
  exact this
theorem above_short {L : List DefS} (hL : Sound L) {x : Nat} (h : x < L.length) : ∀ n ∈ aboveN L x, n.length ≤ 1000000 := by
  intro n hn
  unfold aboveN at hn
  obtain ⟨v, hv, rfl⟩ := List.mem_map.1 hn
  have hvl := (aboveD_says L x h).lt v hv
  have he : L[v]? = some L[v] := List.getElem?_eq_getElem hvl
  unfold nameOf
  rw [he]
  exact name_short hL.lim (List.getElem_mem hvl)
def ClsOut (W : World) (L : List DefS) (i : Nat) (d : DefS) (e : Ending) (w' : World) : Prop := ∃ A1 n1 c1 A2 n2 c2 Am nm cm Ay ny cy, e = .returned (.tuple #[.agg #[.string ⟨d.oid.toArray⟩, .string ⟨d.name.toArray⟩, .slice A1 n1 c1, .slice A2 n2 c2, .int .i64 d.kind, .slice Am nm cm, .slice Ay ny cy], .int .i64 0]) ∧ Below W.heap.size W w' ∧ Texts w' (.slice Am nm cm) (mustD L i) ∧ Texts w' (.slice Ay ny cy) (mayD L i) ∧ (mustD L i).length ≤ 1000000 ∧ (mayD L i).length ≤ 1000000
theorem Class_o {L : List DefS} (hL : Sound L) (s : Nat) (ps : List Nat) (t : List UInt8) (i : Nat) (d : DefS) (W : World) (hS : SchAt W s ps L) (h1 : t.length ≤ 1000000) (h2 : findD L true t = some i) (h3 : L[i]? = some d) :
    Calls Tryz.prog 19 #[.pointer (some ⟨s, 0, none⟩), .string ⟨t.toArray⟩] W (ClsOut W L i d) := by
  have hk := fun d hd => hL.says.known d hd
  refine (Class_c s ps L t i d W hS hL.lim (by have := hL.says.len; omega) hL.says.sup_known (fun d hd n hn => ?_) (fun d hd n hn => ?_) h1 h2 h3).mono ?_
  · have := hk d hd
    unfold knownD at this
    simp only [Bool.and_eq_true, List.all_eq_true] at this
    exact this.1.2 n hn
  · have := hk d hd
    unfold knownD at this
    simp only [Bool.and_eq_true, List.all_eq_true] at this
    exact this.2 n hn
  · rintro e w' ⟨hb, vn, vs, vm, vy, rfl, t1, t2, t3, t4, l1, l2⟩
    obtain ⟨A1, n1, c1, rfl⟩ := t1.isSlice
    obtain ⟨A2, n2, c2, rfl⟩ := t2.isSlice
    obtain ⟨Am, nm, cm, rfl⟩ := t3.isSlice
    obtain ⟨Ay, ny, cy, rfl⟩ := t4.isSlice
    exact ⟨A1, n1, c1, A2, n2, c2, Am, nm, cm, Ay, ny, cy, rfl, hb, t3, t4, l1, l2⟩
end Go.Proofs.YtcjobpcbppcdnaaGreatDoor
