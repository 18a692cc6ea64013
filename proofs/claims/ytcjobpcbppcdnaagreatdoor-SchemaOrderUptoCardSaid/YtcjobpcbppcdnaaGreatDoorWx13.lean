/- Contracts: Attr. -/
import Derived.Test.YtcjobpcbppcdnaaGreatDoorWx7
import Derived.Test.YtcjobpcbppcdnaaGreatDoorWx4
import Derived.Lib.TrimAscii
import Derived.Lib.ValidLaws
set_option linter.all false
namespace Go.Proofs.YtcjobpcbppcdnaaGreatDoor
open Go.RowKit

def noAttr : AttrS := ⟨[], [], [], [], [], [], [], [], false, false, false⟩
/-- What counts of the type of a name. -/
def attrL (L : List DefS) (t : List UInt8) : Option AttrS := match findD L false t with
  | none => none
  | some j => countsD L j
def AttrRet (w : World) (o : Option AttrS) (e : Ending) (w' : World) : Prop := Below w.heap.size w w' ∧ match o with
  | none => e = .returned (.tuple #[attrV noAttr (.slice none 0 0), .int .i64 52])
  | some a => ∃ nv, e = .returned (.tuple #[attrV a nv, .int .i64 0]) ∧ Own w.heap.size w' nv a.names
theorem attr_out2 {w W : World} {a : AttrS} {nv : Value} {tmps : Array Value} {o : Option AttrS} {er : Int} (hz : Bk W w.heap.size 36 (attrCells a nv)) (h4 : tmps[4]? = some (.pointer (some ⟨w.heap.size, 0, none⟩))) (h5 : tmps[5]? = some (.int .i64 er))
    (h : AttrRet w o (.returned (.tuple #[attrV a nv, .int .i64 er])) W) :
    bodyPost Tryz.prog Tryz.f13 (AttrRet w o) .ret { tmps := tmps, defers := [] } W := by
  have e4 : tmps[4]?.getD undef = .pointer (some ⟨w.heap.size, 0, none⟩) := by rw [h4]; rfl
  have e5 : tmps[5]?.getD undef = .int .i64 er := by rw [h5]; rfl
  have c0 := hz.cell 0
  have c1 := hz.cell 1
  have c2 := hz.cell 2
  have c3 := hz.cell 3
  have c4 := hz.cell 4
  have c5 := hz.cell 5
  have c6 := hz.cell 6
  have c7 := hz.cell 7
  have c8 := hz.cell 8
  have c9 := hz.cell 9
  have c10 := hz.cell 10
  simp only [attrCells, List.getElem?_toArray, List.getElem?_cons_zero, List.getElem?_cons_succ] at c0 c1 c2 c3 c4 c5 c6 c7 c8 c9 c10
  refine bodyPost_ret (v := .tuple #[attrV a nv, .int .i64 er]) ?_ rfl h
  simp [results, Tryz.results13, go_sem, e4, e5, c0, c1, c2, c3, c4, c5, c6, c7, c8, c9, c10, attrV, attrCells]
set_option maxRecDepth 100000 in
set_option maxHeartbeats 4000000 in
theorem Attr_none (s : Nat) (ps : List Nat) (L : List DefS) (x : List UInt8) (w : World) (hS : SchAt w s ps L) (hx : x.length ≤ 1000000) (hf : findD L false x = none) :
    Calls Tryz.prog 13 #[ptrV s, .string ⟨x.toArray⟩] w (AttrRet w none) := by
  have hb0 : Below w.heap.size w (w.alloc zeroAttr) := (Below.refl _ _).alloc (Nat.le_refl _) _
  have hF := find_c s ps L false x _ (hS.below hb0) hx
  rw [hf] at hF
  have HF : Hid (Calls Tryz.prog 29 #[.pointer (some ⟨s, 0, none⟩), .bool false, .string ⟨x.toArray⟩] (w.alloc zeroAttr) fun e w' => e = .returned (.pointer none) ∧ Below (w.alloc zeroAttr).heap.size (w.alloc zeroAttr) w') := Lib.hid hF
  have hk : Bk (w.alloc zeroAttr) w.heap.size 36 #[.string ⟨#[]⟩, .string ⟨#[]⟩, .string ⟨#[]⟩, .slice none 0 0, .string ⟨#[]⟩, .string ⟨#[]⟩, .string ⟨#[]⟩, .string ⟨#[]⟩, .bool false, .bool false, .bool false] := Bk.new w _ _
  have HK := Lib.hid hk
  clear hF hS hf hk
  unfold ptrV
  go_enter Tryz.func13, Tryz.ntmps13
  go_wp2_with (go_at_call 29; refine HF.out.mono ?_; rintro e w1 ⟨rfl, hb1⟩; have hk1 := HK.out.below hb1; have oc0 := hk1.cell 0; have oc1 := hk1.cell 1; have oc2 := hk1.cell 2; have oc3 := hk1.cell 3; have oc4 := hk1.cell 4; have oc5 := hk1.cell 5; have oc6 := hk1.cell 6; have oc7 := hk1.cell 7; have oc8 := hk1.cell 8; have oc9 := hk1.cell 9; have oc10 := hk1.cell 10; simp only [List.getElem?_toArray, List.getElem?_cons_zero, List.getElem?_cons_succ] at oc0 oc1 oc2 oc3 oc4 oc5 oc6 oc7 oc8 oc9 oc10; have of := fun i => hk1.frozen i)
  have hz := bk_set11 _ _ _ _ _ _ _ _ _ _ _ (.string ⟨#[]⟩) (.string ⟨#[]⟩) (.string ⟨#[]⟩) (.slice none 0 0) (.string ⟨#[]⟩) (.string ⟨#[]⟩) (.string ⟨#[]⟩) (.string ⟨#[]⟩) (.bool false) (.bool false) (.bool false) hk1
  exact attr_out2 (a := noAttr) (nv := .slice none 0 0) (er := 52) hz rfl rfl ⟨below_set11 (hb0.trans (hb1.mono hb0.size)) (Nat.le_refl _) _ _ _ _ _ _ _ _ _ _ _, rfl⟩
set_option maxRecDepth 100000 in
set_option maxHeartbeats 4000000 in
theorem Attr_some (s : Nat) (ps : List Nat) (L : List DefS) (hlim : ∀ d ∈ L, DefLim d) (x : List UInt8) (j : Nat) (a : AttrS) (w : World) (hS : SchAt w s ps L) (hx : x.length ≤ 1000000) (hf : findD L false x = some j) (ha : countsD L j = some a) :
    Calls Tryz.prog 13 #[ptrV s, .string ⟨x.toArray⟩] w (AttrRet w (some a)) := by
  have hb0 : Below w.heap.size w (w.alloc zeroAttr) := (Below.refl _ _).alloc (Nat.le_refl _) _
  have hF := find_c s ps L false x _ (hS.below hb0) hx
  rw [hf] at hF
  have HF : Hid (Calls Tryz.prog 29 #[.pointer (some ⟨s, 0, none⟩), .bool false, .string ⟨x.toArray⟩] (w.alloc zeroAttr) fun e w' => e = .returned (.pointer (some ⟨pAt ps j, 0, none⟩)) ∧ Below (w.alloc zeroAttr).heap.size (w.alloc zeroAttr) w') := Lib.hid hF
  have HC : Hid (∀ W : World, Below w.heap.size w W → Calls Tryz.prog 30 #[.pointer (some ⟨s, 0, none⟩), .pointer (some ⟨pAt ps j, 0, none⟩)] W fun e w' => ∃ A n c, e = .returned (attrV a (.slice A n c)) ∧ Below W.heap.size W w' ∧ Own W.heap.size w' (.slice A n c) a.names) := Lib.hid (fun W h => (counts_c s ps L hlim (L.length + 1) j a W (hS.below h) ha).mono (by
    rintro e w' ⟨h1, nv, rfl, h2⟩
    obtain ⟨A, c, rfl, _⟩ := h2.isSlice
    exact ⟨A, _, c, rfl, h1, h2⟩))
  have hk : Bk (w.alloc zeroAttr) w.heap.size 36 #[.string ⟨#[]⟩, .string ⟨#[]⟩, .string ⟨#[]⟩, .slice none 0 0, .string ⟨#[]⟩, .string ⟨#[]⟩, .string ⟨#[]⟩, .string ⟨#[]⟩, .bool false, .bool false, .bool false] := Bk.new w _ _
  have HK := Lib.hid hk
  clear hF hS hf hk ha hlim
  unfold ptrV
  go_enter Tryz.func13, Tryz.ntmps13
  go_wp2_with (first | (go_at_call 29; refine HF.out.mono ?_; rintro e w1 ⟨rfl, hb1⟩; have hB1 := hb0.trans (hb1.mono hb0.size); have hk1 := HK.out.below hb1) | (go_at_call 30; refine (HC.out _ hB1).mono ?_; unfold attrV attrCells; rintro e w2 ⟨A, n, c, rfl, hb2, hO2⟩; have hk2 := hk1.below hb2; have oc0 := hk2.cell 0; have oc1 := hk2.cell 1; have oc2 := hk2.cell 2; have oc3 := hk2.cell 3; have oc4 := hk2.cell 4; have oc5 := hk2.cell 5; have oc6 := hk2.cell 6; have oc7 := hk2.cell 7; have oc8 := hk2.cell 8; have oc9 := hk2.cell 9; have oc10 := hk2.cell 10; simp only [List.getElem?_toArray, List.getElem?_cons_zero, List.getElem?_cons_succ] at oc0 oc1 oc2 oc3 oc4 oc5 oc6 oc7 oc8 oc9 oc10; have of := fun i => hk2.frozen i))
  have hz := bk_set11 _ _ _ _ _ _ _ _ _ _ _ (.string ⟨a.oid.toArray⟩) (.string ⟨a.name.toArray⟩) (.string ⟨a.sup.toArray⟩) (.slice A n c) (.string ⟨a.form.toArray⟩) (.string ⟨a.eqr.toArray⟩) (.string ⟨a.ordr.toArray⟩) (.string ⟨a.subs.toArray⟩) (.bool a.single) (.bool a.fixed) (.bool a.oper) hk2
  exact attr_out2 (a := a) (nv := .slice A n c) (er := 0) hz rfl rfl ⟨below_set11 (hB1.trans (hb2.mono hB1.size)) (Nat.le_refl _) _ _ _ _ _ _ _ _ _ _ _, _, rfl, (hO2.lower hB1.size).far11 hk2 (by decide) _ _ _ _ _ _ _ _ _ _ _⟩
end Go.Proofs.YtcjobpcbppcdnaaGreatDoor
/- Plain: what counts of a class (chapter 6). -/
namespace Go.Proofs.YtcjobpcbppcdnaaGreatDoor

/-- A name that is told once. -/
def addN (L : List DefS) (l : List (List UInt8)) (nm : List UInt8) : List (List UInt8) := match findD L false nm with
  | none => l
  | some j => match L[j]? with
    | none => l
    | some e => if l.contains e.name then l else l ++ [e.name]
def allF (L : List DefS) (of : DefS → List (List UInt8)) : Nat → Nat → List Nat × List (List UInt8) → List Nat × List (List UInt8)
  | 0, _, st => st
  | n + 1, i, st => if st.1.contains i then st else match L[i]? with
    | none => (st.1 ++ [i], st.2)
    | some d => ((d.sup.foldl (fun st nm => match findD L true nm with
        | none => st
        | some j => allF L of n j st) (st.1 ++ [i], st.2)).1, (of d).foldl (addN L) (d.sup.foldl (fun st nm => match findD L true nm with
        | none => st
        | some j => allF L of n j st) (st.1 ++ [i], st.2)).2)
def allD (L : List DefS) (of : DefS → List (List UInt8)) (i : Nat) : List (List UInt8) := (allF L of (L.length + 1) i ([], [])).2
/-- What a class names itself. -/
def owns (L : List DefS) (of : DefS → List (List UInt8)) (i : Nat) (x : List UInt8) : Prop := ∃ d s j e, L[i]? = some d ∧ s ∈ of d ∧ findD L false s = some j ∧ L[j]? = some e ∧ x = e.name
theorem addN_mem {L : List DefS} {l : List (List UInt8)} {nm x : List UInt8} : x ∈ addN L l nm ↔ x ∈ l ∨ ∃ j e, findD L false nm = some j ∧ L[j]? = some e ∧ x = e.name := by
  unfold addN
  cases hf : findD L false nm with
  | none => simp
  | some j =>
    simp only
    cases hj : L[j]? with
    | none => simp [hj]
    | some e =>
      simp only
      constructor
      · intro h
        split at h
        · exact .inl h
        · rcases List.mem_append.1 h with h | h
          · exact .inl h
          · exact .inr ⟨j, e, rfl, hj, by simpa using h⟩
      · rintro (h | ⟨j', e', h1, h2, rfl⟩)
        · split
          · exact h
          · exact List.mem_append_left _ h
        · cases h1
          rw [hj] at h2
          cases h2
          split
          · next hc => simpa using hc
          · simp
theorem addN_all {L : List DefS} {x : List UInt8} : ∀ (ns : List (List UInt8)) (l : List (List UInt8)), x ∈ ns.foldl (addN L) l ↔ x ∈ l ∨ ∃ s ∈ ns, ∃ j e, findD L false s = some j ∧ L[j]? = some e ∧ x = e.name
  | [], l => by simp
  | n :: ns, l => by
    rw [List.foldl_cons, addN_all ns, addN_mem]
    constructor
    · rintro ((h | h) | ⟨s, hs, h⟩)
      · exact .inl h
      · exact .inr ⟨n, by simp, h⟩
      · exact .inr ⟨s, by simp [hs], h⟩
    · rintro (h | ⟨s, hs, h⟩)
      · exact .inl (.inl h)
      · rcases List.mem_cons.1 hs with rfl | hs
        · exact .inl (.inr h)
        · exact .inr ⟨s, hs, h⟩
theorem foldl_succs2 {α : Type} (f : Nat → α → α) (g : List UInt8 → Option Nat) : ∀ (s : List (List UInt8)) (acc : α),
    s.foldl (fun l nm => match g nm with
      | none => l
      | some j => f j l) acc = (s.filterMap g).foldl (fun l j => f j l) acc
  | [], acc => rfl
  | x :: s, acc => by
    rw [List.foldl_cons, List.filterMap_cons]
    cases hg : g x with
    | none => exact foldl_succs2 f g s acc
    | some j => exact foldl_succs2 f g s _
structure AllSays (L : List DefS) (of : DefS → List (List UInt8)) (i : Nat) (st R : List Nat × List (List UInt8)) : Prop where
  grown : ∃ t, R.1 = st.1 ++ t
  keeps : ∀ x ∈ st.2, x ∈ R.2
  nodup : R.1.Nodup
  lt : ∀ v ∈ R.1, v < L.length
  self : i ∈ R.1
  closed : ∀ v ∈ R.1, v ∉ st.1 → (∀ u ∈ succs L v, u ∈ R.1) ∧ ∀ x, owns L of v x → x ∈ R.2
  reach : ∀ v ∈ R.1, v ∈ st.1 ∨ Reach L i v
  only : ∀ x ∈ R.2, x ∈ st.2 ∨ ∃ v, Reach L i v ∧ owns L of v x
theorem allF_says (L : List DefS) (of : DefS → List (List UInt8)) : ∀ (n i : Nat) (st : List Nat × List (List UInt8)), (∀ d, L[i]? = some d → d.cls = true) → st.1.Nodup → (∀ v ∈ st.1, v < L.length) → i < L.length → L.length + 1 ≤ n + st.1.length → AllSays L of i st (allF L of n i st)
  | 0, i, st, _, hn, hl, hi, hf => by
    have := nodup_bound _ st.1 hn hl
    omega
  | n + 1, i, st, hcl, hn, hl, hi, hf => by
    have hLi : L[i]? = some L[i] := List.getElem?_eq_getElem hi
    have hci := hcl _ hLi
    rw [allF, hLi]
    simp only
    rw [foldl_succs2 (fun j st => allF L of n j st) (findD L true)]
    have hsu : L[i].sup.filterMap (findD L true) = succs L i := by
      unfold succs
      rw [hLi]
      simp only [hci]
    rw [hsu]
    split
    · next hc =>
      have hm : i ∈ st.1 := by simpa using hc
      exact ⟨⟨[], by simp⟩, fun x h => h, hn, hl, hm, fun v hv hnv => absurd hv hnv, fun v hv => .inl hv, fun x hx => .inl hx⟩
    · next hc =>
      have hm : i ∉ st.1 := by simpa using hc
      have hn1 : (st.1 ++ [i]).Nodup := by
        rw [List.nodup_append]
        refine ⟨hn, by simp, ?_⟩
        intro a ha b hb
        have hb' : b = i := by simpa using hb
        subst hb'
        rintro rfl
        exact hm ha
      have key : ∀ (S : List Nat) (R : List Nat × List (List UInt8)), (∀ j ∈ S, j ∈ succs L i) → (∃ t, R.1 = st.1 ++ [i] ++ t) → (∀ x ∈ st.2, x ∈ R.2) → R.1.Nodup → (∀ v ∈ R.1, v < L.length) → (∀ v ∈ R.1, v ∉ st.1 → v ≠ i → (∀ u ∈ succs L v, u ∈ R.1) ∧ ∀ x, owns L of v x → x ∈ R.2) → (∀ v ∈ R.1, v ∈ st.1 ∨ Reach L i v) → (∀ x ∈ R.2, x ∈ st.2 ∨ ∃ v, Reach L i v ∧ owns L of v x) →
          ∃ R', S.foldl (fun l j => allF L of n j l) R = R' ∧ (∃ t, R'.1 = R.1 ++ t) ∧ (∀ x ∈ R.2, x ∈ R'.2) ∧ R'.1.Nodup ∧ (∀ v ∈ R'.1, v < L.length) ∧ (∀ j ∈ S, j ∈ R'.1) ∧
          (∀ v ∈ R'.1, v ∉ st.1 → v ≠ i → (∀ u ∈ succs L v, u ∈ R'.1) ∧ ∀ x, owns L of v x → x ∈ R'.2) ∧ (∀ v ∈ R'.1, v ∈ st.1 ∨ Reach L i v) ∧ (∀ x ∈ R'.2, x ∈ st.2 ∨ ∃ v, Reach L i v ∧ owns L of v x) := by
        intro S
        induction S with
        | nil => intro R _ _ _ h2 h3 h4 h5 h6; exact ⟨R, rfl, ⟨[], by simp⟩, fun x h => h, h2, h3, fun j hj => (by simp at hj), h4, h5, h6⟩
        | cons j S ih =>
          intro R h0 h1 hk h2 h3 h4 h5 h6
          obtain ⟨t1, ht1⟩ := h1
          have hj := h0 j (by simp)
          have hjc : ∀ d, L[j]? = some d → d.cls = true := by
            intro d hd
            rw [← hsu] at hj
            obtain ⟨s, _, hs⟩ := List.mem_filterMap.1 hj
            obtain ⟨d', g1, g2, _⟩ := findD_at hs
            rw [g1] at hd
            cases hd
            exact g2
          have hA := allF_says L of n j R hjc h2 h3 (succs_lt hj) (by rw [ht1]; simp only [List.length_append, List.length_cons, List.length_nil]; omega)
          obtain ⟨t2, ht2⟩ := hA.grown
          rw [List.foldl_cons]
          generalize allF L of n j R = R2 at *
          have hsub : ∀ v ∈ R.1, v ∈ R2.1 := fun v hv => by rw [ht2]; exact List.mem_append_left _ hv
          obtain ⟨R', e', ⟨t3, ht3⟩, gk, g2, g3, g4, g5, g6, g7⟩ := ih R2 (fun x hx => h0 x (by simp [hx])) ⟨t1 ++ t2, by rw [ht2, ht1]; simp⟩ (fun x hx => hA.keeps x (hk x hx)) hA.nodup hA.lt
            (fun v hv hvl hvi => by
              by_cases hvR : v ∈ R.1
              · obtain ⟨p1, p2⟩ := h4 v hvR hvl hvi
                exact ⟨fun u hu => hsub u (p1 u hu), fun x hx => hA.keeps x (p2 x hx)⟩
              · exact hA.closed v hv hvR)
            (fun v hv => by
              rcases hA.reach v hv with h | h
              · exact h5 v h
              · exact .inr (.step hj h))
            (fun x hx => by
              rcases hA.only x hx with h | ⟨v, h, h'⟩
              · exact h6 x h
              · exact .inr ⟨v, .step hj h, h'⟩)
          refine ⟨R', e', ⟨t2 ++ t3, by rw [ht3, ht2]; simp⟩, fun x hx => gk x (hA.keeps x hx), g2, g3, ?_, g5, g6, g7⟩
          intro x hx
          rcases List.mem_cons.1 hx with rfl | hx
          · rw [ht3]; exact List.mem_append_left _ hA.self
          · exact g4 x hx
      obtain ⟨R', e', ⟨t, ht⟩, gk, g2, g3, g4, g5, g6, g7⟩ := key (succs L i) (st.1 ++ [i], st.2) (fun j hj => hj) ⟨[], by simp⟩ (fun x hx => hx) hn1
        (fun v hv => by
          rcases List.mem_append.1 hv with h | h
          · exact hl v h
          · have : v = i := by simpa using h
            omega)
        (fun v hv hvl hvi => absurd (List.mem_append.1 hv) (by simp [hvl, hvi]))
        (fun v hv => by
          rcases List.mem_append.1 hv with h | h
          · exact .inl h
          · have : v = i := by simpa using h
            subst this
            exact .inr (.refl _))
        (fun x hx => .inl hx)
      rw [e']
      have hown : ∀ x, owns L of i x ↔ ∃ s ∈ of L[i], ∃ j e, findD L false s = some j ∧ L[j]? = some e ∧ x = e.name := by
        intro x
        constructor
        · rintro ⟨d, s, j, e, h1, h2, h3⟩
          rw [hLi] at h1
          cases h1
          exact ⟨s, h2, j, e, h3⟩
        · rintro ⟨s, h2, j, e, h3⟩
          exact ⟨_, s, j, e, hLi, h2, h3⟩
      refine ⟨⟨[i] ++ t, by rw [ht]; simp⟩, fun x hx => (addN_all _ _).2 (.inl (gk x hx)), g2, g3, by rw [ht]; simp, ?_, g6, ?_⟩
      · intro v hv hvl
        by_cases hvi : v = i
        · subst hvi
          exact ⟨g4, fun x hx => (addN_all _ _).2 (.inr ((hown x).1 hx))⟩
        · obtain ⟨p1, p2⟩ := g5 v hv hvl hvi
          exact ⟨p1, fun x hx => (addN_all _ _).2 (.inl (p2 x hx))⟩
      · intro x hx
        rcases (addN_all _ _).1 hx with h | h
        · exact g7 x h
        · exact .inr ⟨i, .refl _, (hown x).2 h⟩
theorem allD_iff {L : List DefS} {of : DefS → List (List UInt8)} {i : Nat} {d : DefS} (hd : L[i]? = some d) (hc : d.cls = true) (x : List UInt8) : x ∈ allD L of i ↔ ∃ v, Reach L i v ∧ owns L of v x := by
  have hi : i < L.length := (List.getElem?_eq_some_iff.1 hd).1
  have h := allF_says L of (L.length + 1) i ([], []) (fun d' h => by rw [hd] at h; cases h; exact hc) (by simp) (by simp) hi (by simp)
  constructor
  · intro hx
    rcases h.only x hx with h' | h'
    · simp at h'
    · exact h'
  · rintro ⟨v, hr, ho⟩
    exact (h.closed v (reach_in (fun v hv u hu => (h.closed v hv (by simp)).1 u hu) hr h.self) (by simp)).2 x ho
/-- What counts of a class. -/
structure ClassS where
  oid : List UInt8
  name : List UInt8
  names : List (List UInt8)
  sup : List (List UInt8)
  kind : Int
  must : List (List UInt8)
  may : List (List UInt8)
def nameOf (L : List DefS) (i : Nat) : List UInt8 := match L[i]? with
  | none => []
  | some d => d.name
def supNames (L : List DefS) (d : DefS) : List (List UInt8) := d.sup.map fun n => match findD L true n with
  | none => []
  | some j => nameOf L j
def mustD (L : List DefS) (i : Nat) : List (List UInt8) := allD L DefS.must i
def mayD (L : List DefS) (i : Nat) : List (List UInt8) := (allD L DefS.may i).filter fun n => !(mustD L i).contains n
def classD (L : List DefS) (i : Nat) : Option ClassS := match L[i]? with
  | none => none
  | some d => some ⟨d.oid, d.name, d.names, supNames L d, d.kind, mustD L i, mayD L i⟩
def aboveN (L : List DefS) (i : Nat) : List (List UInt8) := (aboveD L i []).map (nameOf L)
theorem aboveF_pre (L : List DefS) (n i : Nat) (l : List Nat) : ∃ t, aboveF L n i l = l ++ t := by
  induction n generalizing i l with
  | zero => exact ⟨[], by simp [aboveF]⟩
  | succ n ih =>
    rw [aboveF_succ]
    split
    · exact ⟨[], by simp⟩
    · have key : ∀ (S : List Nat) (R : List Nat), ∃ t, S.foldl (fun l j => aboveF L n j l) R = R ++ t := by
        intro S
        induction S with
        | nil => intro R; exact ⟨[], by simp⟩
        | cons j S ih2 =>
          intro R
          obtain ⟨t1, h1⟩ := ih j R
          obtain ⟨t2, h2⟩ := ih2 (aboveF L n j R)
          exact ⟨t1 ++ t2, by rw [List.foldl_cons, h2, h1]; simp⟩
      obtain ⟨t, ht⟩ := key (succs L i) (l ++ [i])
      exact ⟨[i] ++ t, by rw [ht]; simp⟩
theorem aboveD_head (L : List DefS) (i : Nat) : ∃ t, aboveD L i [] = i :: t := by
  unfold aboveD
  rw [aboveF_succ, if_neg (by simp)]
  have key : ∀ (S : List Nat) (R : List Nat), ∃ t, S.foldl (fun l j => aboveF L L.length j l) R = R ++ t := by
    intro S
    induction S with
    | nil => intro R; exact ⟨[], by simp⟩
    | cons j S ih2 =>
      intro R
      obtain ⟨t1, h1⟩ := aboveF_pre L L.length j R
      obtain ⟨t2, h2⟩ := ih2 (aboveF L L.length j R)
      exact ⟨t1 ++ t2, by rw [List.foldl_cons, h2, h1]; simp⟩
  obtain ⟨t, ht⟩ := key (succs L i) ([] ++ [i])
  exact ⟨t, by rw [ht]; simp⟩
theorem reach_cls {L : List DefS} {i j : Nat} (h : Reach L i j) : ∀ d e, L[i]? = some d → L[j]? = some e → d.cls = e.cls := by
  induction h with
  | refl => intro d e h1 h2; rw [h1] at h2; cases h2; rfl
  | @step i u j hu t ih =>
    intro d e h1 h2
    unfold succs at hu
    rw [h1] at hu
    obtain ⟨s, _, hs⟩ := List.mem_filterMap.1 hu
    obtain ⟨d', g1, g2, _⟩ := findD_at hs
    rw [← g2]
    exact ih d' e g1 h2
theorem NewSays.named {L : List DefS} (h : NewSays L) {x : Nat} {d : DefS} (hd : L[x]? = some d) : findD L d.cls d.name = some x := findD_of h.keys hd (name_key d)
/-- SchemaClasses, plainly. -/
theorem classes_law {L : List DefS} (h : NewSays L) {x : Nat} {d : DefS} (hd : L[x]? = some d) (hc : d.cls = true) :
    (∃ t, aboveN L x = d.name :: t) ∧ (aboveN L x).Nodup ∧ ∀ n ∈ aboveN L x, ∃ y, findD L true n = some y ∧ (∀ s ∈ mustD L y, s ∈ mustD L x ∧ s ∉ mayD L x) ∧ (∀ s ∈ mayD L y, s ∈ mustD L x ∨ s ∈ mayD L x) := by
  have hx : x < L.length := (List.getElem?_eq_some_iff.1 hd).1
  have hS := aboveD_says L x hx
  have named : ∀ v ∈ aboveD L x [], ∃ e, L[v]? = some e ∧ e.cls = true ∧ nameOf L v = e.name ∧ findD L true (nameOf L v) = some v := by
    intro v hv
    have hvl := hS.lt v hv
    have hr := (aboveD_iff hx v).1 hv
    have he : L[v]? = some L[v] := List.getElem?_eq_getElem hvl
    have hce := reach_cls hr d _ hd he
    rw [hc] at hce
    have hn : nameOf L v = L[v].name := by unfold nameOf; rw [he]
    refine ⟨L[v], he, hce.symm, hn, ?_⟩
    have := h.named he
    rw [← hce] at this
    rw [hn]
    exact this
  refine ⟨?_, ?_, ?_⟩
  · obtain ⟨t, ht⟩ := aboveD_head L x
    exact ⟨t.map (nameOf L), by unfold aboveN; rw [ht, List.map_cons]; simp [nameOf, hd]⟩
  · unfold aboveN
    rw [List.nodup_iff_pairwise_ne, List.pairwise_map]
    have hp := hS.nodup
    rw [List.nodup_iff_pairwise_ne] at hp
    refine hp.imp_of_mem ?_
    intro a b ha hb hab e
    obtain ⟨_, _, _, _, h1⟩ := named a ha
    obtain ⟨_, _, _, _, h2⟩ := named b hb
    rw [e, h2] at h1
    exact hab (Option.some.inj h1).symm
  · intro n hn
    unfold aboveN at hn
    obtain ⟨v, hv, rfl⟩ := List.mem_map.1 hn
    obtain ⟨e, g1, g2, g3, g4⟩ := named v hv
    have hr := (aboveD_iff hx v).1 hv
    have sub : ∀ (of : DefS → List (List UInt8)) s, s ∈ allD L of v → s ∈ allD L of x := by
      intro of s hs
      obtain ⟨u, h1, h2⟩ := (allD_iff g1 g2 s).1 hs
      exact (allD_iff hd hc s).2 ⟨u, hr.trans h1, h2⟩
    refine ⟨v, g4, ?_, ?_⟩
    · intro s hs
      have h1 := sub _ s hs
      refine ⟨h1, ?_⟩
      unfold mayD
      rw [List.mem_filter]
      rintro ⟨_, h2⟩
      simp only [Bool.not_eq_true', List.contains_eq_mem, decide_eq_false_iff_not] at h2
      exact h2 h1
    · intro s hs
      unfold mayD at hs
      have h1 := sub _ s (List.mem_filter.1 hs).1
      by_cases hm : s ∈ mustD L x
      · exact .inl hm
      · right
        unfold mayD
        rw [List.mem_filter]
        exact ⟨h1, by simpa using hm⟩
end Go.Proofs.YtcjobpcbppcdnaaGreatDoor
/- Plain: the definitions that every directory begins with. (Printed by gen_m3.py.) -/
namespace Go.Proofs.YtcjobpcbppcdnaaGreatDoor
def bA0 : List UInt8 := [40, 32, 50, 46, 53, 46, 52, 46, 48, 32, 78, 65, 77, 69, 32, 39, 111, 98, 106, 101, 99, 116, 67, 108, 97, 115, 115, 39, 32, 69, 81, 85, 65, 76, 73, 84, 89, 32, 111, 98, 106, 101, 99, 116, 73, 100, 101, 110, 116, 105, 102, 105, 101, 114, 77, 97, 116, 99, 104, 32, 83, 89, 78, 84, 65, 88, 32, 49, 46, 51, 46, 54, 46, 49, 46, 52, 46, 49, 46, 49, 52, 54, 54, 46, 49, 49, 53, 46, 49, 50, 49, 46, 49, 46, 51, 56, 32, 41]
def bA1 : List UInt8 := [40, 32, 50, 46, 53, 46, 52, 46, 52, 49, 32, 78, 65, 77, 69, 32, 39, 110, 97, 109, 101, 39, 32, 69, 81, 85, 65, 76, 73, 84, 89, 32, 99, 97, 115, 101, 73, 103, 110, 111, 114, 101, 77, 97, 116, 99, 104, 32, 79, 82, 68, 69, 82, 73, 78, 71, 32, 99, 97, 115, 101, 73, 103, 110, 111, 114, 101, 79, 114, 100, 101, 114, 105, 110, 103, 77, 97, 116, 99, 104, 32, 83, 85, 66, 83, 84, 82, 32, 99, 97, 115, 101, 73, 103, 110, 111, 114, 101, 83, 117, 98, 115, 116, 114, 105, 110, 103, 115, 77, 97, 116, 99, 104, 32, 83, 89, 78, 84, 65, 88, 32, 49, 46, 51, 46, 54, 46, 49, 46, 52, 46, 49, 46, 49, 52, 54, 54, 46, 49, 49, 53, 46, 49, 50, 49, 46, 49, 46, 49, 53, 32, 41]
def bA2 : List UInt8 := [40, 32, 50, 46, 53, 46, 52, 46, 51, 32, 78, 65, 77, 69, 32, 40, 32, 39, 99, 110, 39, 32, 39, 99, 111, 109, 109, 111, 110, 78, 97, 109, 101, 39, 32, 41, 32, 83, 85, 80, 32, 110, 97, 109, 101, 32, 41]
def bA3 : List UInt8 := [40, 32, 50, 46, 53, 46, 52, 46, 52, 32, 78, 65, 77, 69, 32, 40, 32, 39, 115, 110, 39, 32, 39, 115, 117, 114, 110, 97, 109, 101, 39, 32, 41, 32, 83, 85, 80, 32, 110, 97, 109, 101, 32, 41]
def bA4 : List UInt8 := [40, 32, 50, 46, 53, 46, 52, 46, 49, 48, 32, 78, 65, 77, 69, 32, 40, 32, 39, 111, 39, 32, 39, 111, 114, 103, 97, 110, 105, 122, 97, 116, 105, 111, 110, 78, 97, 109, 101, 39, 32, 41, 32, 83, 85, 80, 32, 110, 97, 109, 101, 32, 41]
def bA5 : List UInt8 := [40, 32, 50, 46, 53, 46, 52, 46, 49, 49, 32, 78, 65, 77, 69, 32, 40, 32, 39, 111, 117, 39, 32, 39, 111, 114, 103, 97, 110, 105, 122, 97, 116, 105, 111, 110, 97, 108, 85, 110, 105, 116, 78, 97, 109, 101, 39, 32, 41, 32, 83, 85, 80, 32, 110, 97, 109, 101, 32, 41]
def bA6 : List UInt8 := [40, 32, 50, 46, 53, 46, 52, 46, 49, 51, 32, 78, 65, 77, 69, 32, 39, 100, 101, 115, 99, 114, 105, 112, 116, 105, 111, 110, 39, 32, 69, 81, 85, 65, 76, 73, 84, 89, 32, 99, 97, 115, 101, 73, 103, 110, 111, 114, 101, 77, 97, 116, 99, 104, 32, 83, 85, 66, 83, 84, 82, 32, 99, 97, 115, 101, 73, 103, 110, 111, 114, 101, 83, 117, 98, 115, 116, 114, 105, 110, 103, 115, 77, 97, 116, 99, 104, 32, 83, 89, 78, 84, 65, 88, 32, 49, 46, 51, 46, 54, 46, 49, 46, 52, 46, 49, 46, 49, 52, 54, 54, 46, 49, 49, 53, 46, 49, 50, 49, 46, 49, 46, 49, 53, 32, 41]
def bA7 : List UInt8 := [40, 32, 48, 46, 57, 46, 50, 51, 52, 50, 46, 49, 57, 50, 48, 48, 51, 48, 48, 46, 49, 48, 48, 46, 49, 46, 50, 53, 32, 78, 65, 77, 69, 32, 40, 32, 39, 100, 99, 39, 32, 39, 100, 111, 109, 97, 105, 110, 67, 111, 109, 112, 111, 110, 101, 110, 116, 39, 32, 41, 32, 69, 81, 85, 65, 76, 73, 84, 89, 32, 99, 97, 115, 101, 73, 103, 110, 111, 114, 101, 77, 97, 116, 99, 104, 32, 83, 89, 78, 84, 65, 88, 32, 49, 46, 51, 46, 54, 46, 49, 46, 52, 46, 49, 46, 49, 52, 54, 54, 46, 49, 49, 53, 46, 49, 50, 49, 46, 49, 46, 50, 54, 32, 83, 73, 78, 71, 76, 69, 45, 86, 65, 76, 85, 69, 32, 41]
def bA8 : List UInt8 := [40, 32, 48, 46, 57, 46, 50, 51, 52, 50, 46, 49, 57, 50, 48, 48, 51, 48, 48, 46, 49, 48, 48, 46, 49, 46, 49, 32, 78, 65, 77, 69, 32, 40, 32, 39, 117, 105, 100, 39, 32, 39, 117, 115, 101, 114, 105, 100, 39, 32, 41, 32, 69, 81, 85, 65, 76, 73, 84, 89, 32, 99, 97, 115, 101, 73, 103, 110, 111, 114, 101, 77, 97, 116, 99, 104, 32, 83, 85, 66, 83, 84, 82, 32, 99, 97, 115, 101, 73, 103, 110, 111, 114, 101, 83, 117, 98, 115, 116, 114, 105, 110, 103, 115, 77, 97, 116, 99, 104, 32, 83, 89, 78, 84, 65, 88, 32, 49, 46, 51, 46, 54, 46, 49, 46, 52, 46, 49, 46, 49, 52, 54, 54, 46, 49, 49, 53, 46, 49, 50, 49, 46, 49, 46, 49, 53, 32, 41]
def bA9 : List UInt8 := [40, 32, 48, 46, 57, 46, 50, 51, 52, 50, 46, 49, 57, 50, 48, 48, 51, 48, 48, 46, 49, 48, 48, 46, 49, 46, 51, 32, 78, 65, 77, 69, 32, 40, 32, 39, 109, 97, 105, 108, 39, 32, 39, 114, 102, 99, 56, 50, 50, 77, 97, 105, 108, 98, 111, 120, 39, 32, 41, 32, 69, 81, 85, 65, 76, 73, 84, 89, 32, 99, 97, 115, 101, 73, 103, 110, 111, 114, 101, 77, 97, 116, 99, 104, 32, 83, 89, 78, 84, 65, 88, 32, 49, 46, 51, 46, 54, 46, 49, 46, 52, 46, 49, 46, 49, 52, 54, 54, 46, 49, 49, 53, 46, 49, 50, 49, 46, 49, 46, 50, 54, 32, 41]
def bA10 : List UInt8 := [40, 32, 50, 46, 53, 46, 52, 46, 51, 53, 32, 78, 65, 77, 69, 32, 39, 117, 115, 101, 114, 80, 97, 115, 115, 119, 111, 114, 100, 39, 32, 69, 81, 85, 65, 76, 73, 84, 89, 32, 111, 99, 116, 101, 116, 83, 116, 114, 105, 110, 103, 77, 97, 116, 99, 104, 32, 83, 89, 78, 84, 65, 88, 32, 49, 46, 51, 46, 54, 46, 49, 46, 52, 46, 49, 46, 49, 52, 54, 54, 46, 49, 49, 53, 46, 49, 50, 49, 46, 49, 46, 52, 48, 32, 41]
def bA11 : List UInt8 := [40, 32, 50, 46, 53, 46, 52, 46, 51, 49, 32, 78, 65, 77, 69, 32, 39, 109, 101, 109, 98, 101, 114, 39, 32, 69, 81, 85, 65, 76, 73, 84, 89, 32, 100, 105, 115, 116, 105, 110, 103, 117, 105, 115, 104, 101, 100, 78, 97, 109, 101, 77, 97, 116, 99, 104, 32, 83, 89, 78, 84, 65, 88, 32, 49, 46, 51, 46, 54, 46, 49, 46, 52, 46, 49, 46, 49, 52, 54, 54, 46, 49, 49, 53, 46, 49, 50, 49, 46, 49, 46, 49, 50, 32, 41]
def bA12 : List UInt8 := [40, 32, 50, 46, 53, 46, 52, 46, 51, 52, 32, 78, 65, 77, 69, 32, 39, 115, 101, 101, 65, 108, 115, 111, 39, 32, 69, 81, 85, 65, 76, 73, 84, 89, 32, 100, 105, 115, 116, 105, 110, 103, 117, 105, 115, 104, 101, 100, 78, 97, 109, 101, 77, 97, 116, 99, 104, 32, 83, 89, 78, 84, 65, 88, 32, 49, 46, 51, 46, 54, 46, 49, 46, 52, 46, 49, 46, 49, 52, 54, 54, 46, 49, 49, 53, 46, 49, 50, 49, 46, 49, 46, 49, 50, 32, 41]
def bA13 : List UInt8 := [40, 32, 49, 46, 50, 46, 56, 52, 48, 46, 49, 49, 51, 53, 53, 54, 46, 49, 46, 50, 46, 49, 48, 50, 32, 78, 65, 77, 69, 32, 39, 109, 101, 109, 98, 101, 114, 79, 102, 39, 32, 69, 81, 85, 65, 76, 73, 84, 89, 32, 100, 105, 115, 116, 105, 110, 103, 117, 105, 115, 104, 101, 100, 78, 97, 109, 101, 77, 97, 116, 99, 104, 32, 83, 89, 78, 84, 65, 88, 32, 49, 46, 51, 46, 54, 46, 49, 46, 52, 46, 49, 46, 49, 52, 54, 54, 46, 49, 49, 53, 46, 49, 50, 49, 46, 49, 46, 49, 50, 32, 78, 79, 45, 85, 83, 69, 82, 45, 77, 79, 68, 73, 70, 73, 67, 65, 84, 73, 79, 78, 32, 85, 83, 65, 71, 69, 32, 100, 105, 114, 101, 99, 116, 111, 114, 121, 79, 112, 101, 114, 97, 116, 105, 111, 110, 32, 41]
def bA14 : List UInt8 := [40, 32, 50, 46, 49, 54, 46, 56, 52, 48, 46, 49, 46, 49, 49, 51, 55, 51, 48, 46, 51, 46, 49, 46, 51, 32, 78, 65, 77, 69, 32, 39, 101, 109, 112, 108, 111, 121, 101, 101, 78, 117, 109, 98, 101, 114, 39, 32, 69, 81, 85, 65, 76, 73, 84, 89, 32, 105, 110, 116, 101, 103, 101, 114, 77, 97, 116, 99, 104, 32, 79, 82, 68, 69, 82, 73, 78, 71, 32, 105, 110, 116, 101, 103, 101, 114, 79, 114, 100, 101, 114, 105, 110, 103, 77, 97, 116, 99, 104, 32, 83, 89, 78, 84, 65, 88, 32, 49, 46, 51, 46, 54, 46, 49, 46, 52, 46, 49, 46, 49, 52, 54, 54, 46, 49, 49, 53, 46, 49, 50, 49, 46, 49, 46, 50, 55, 32, 83, 73, 78, 71, 76, 69, 45, 86, 65, 76, 85, 69, 32, 41]
def bA15 : List UInt8 := [40, 32, 50, 46, 53, 46, 49, 56, 46, 49, 32, 78, 65, 77, 69, 32, 39, 99, 114, 101, 97, 116, 101, 84, 105, 109, 101, 115, 116, 97, 109, 112, 39, 32, 69, 81, 85, 65, 76, 73, 84, 89, 32, 103, 101, 110, 101, 114, 97, 108, 105, 122, 101, 100, 84, 105, 109, 101, 77, 97, 116, 99, 104, 32, 79, 82, 68, 69, 82, 73, 78, 71, 32, 103, 101, 110, 101, 114, 97, 108, 105, 122, 101, 100, 84, 105, 109, 101, 79, 114, 100, 101, 114, 105, 110, 103, 77, 97, 116, 99, 104, 32, 83, 89, 78, 84, 65, 88, 32, 49, 46, 51, 46, 54, 46, 49, 46, 52, 46, 49, 46, 49, 52, 54, 54, 46, 49, 49, 53, 46, 49, 50, 49, 46, 49, 46, 50, 52, 32, 83, 73, 78, 71, 76, 69, 45, 86, 65, 76, 85, 69, 32, 78, 79, 45, 85, 83, 69, 82, 45, 77, 79, 68, 73, 70, 73, 67, 65, 84, 73, 79, 78, 32, 85, 83, 65, 71, 69, 32, 100, 105, 114, 101, 99, 116, 111, 114, 121, 79, 112, 101, 114, 97, 116, 105, 111, 110, 32, 41]
def bA16 : List UInt8 := [40, 32, 50, 46, 53, 46, 49, 56, 46, 50, 32, 78, 65, 77, 69, 32, 39, 109, 111, 100, 105, 102, 121, 84, 105, 109, 101, 115, 116, 97, 109, 112, 39, 32, 69, 81, 85, 65, 76, 73, 84, 89, 32, 103, 101, 110, 101, 114, 97, 108, 105, 122, 101, 100, 84, 105, 109, 101, 77, 97, 116, 99, 104, 32, 79, 82, 68, 69, 82, 73, 78, 71, 32, 103, 101, 110, 101, 114, 97, 108, 105, 122, 101, 100, 84, 105, 109, 101, 79, 114, 100, 101, 114, 105, 110, 103, 77, 97, 116, 99, 104, 32, 83, 89, 78, 84, 65, 88, 32, 49, 46, 51, 46, 54, 46, 49, 46, 52, 46, 49, 46, 49, 52, 54, 54, 46, 49, 49, 53, 46, 49, 50, 49, 46, 49, 46, 50, 52, 32, 83, 73, 78, 71, 76, 69, 45, 86, 65, 76, 85, 69, 32, 78, 79, 45, 85, 83, 69, 82, 45, 77, 79, 68, 73, 70, 73, 67, 65, 84, 73, 79, 78, 32, 85, 83, 65, 71, 69, 32, 100, 105, 114, 101, 99, 116, 111, 114, 121, 79, 112, 101, 114, 97, 116, 105, 111, 110, 32, 41]
def bA17 : List UInt8 := [40, 32, 49, 46, 51, 46, 54, 46, 49, 46, 52, 46, 49, 46, 57, 57, 57, 57, 46, 49, 32, 78, 65, 77, 69, 32, 39, 115, 101, 116, 116, 105, 110, 103, 39, 32, 69, 81, 85, 65, 76, 73, 84, 89, 32, 99, 97, 115, 101, 69, 120, 97, 99, 116, 77, 97, 116, 99, 104, 32, 83, 89, 78, 84, 65, 88, 32, 49, 46, 51, 46, 54, 46, 49, 46, 52, 46, 49, 46, 49, 52, 54, 54, 46, 49, 49, 53, 46, 49, 50, 49, 46, 49, 46, 49, 53, 32, 41]
def bC0 : List UInt8 := [40, 32, 50, 46, 53, 46, 54, 46, 48, 32, 78, 65, 77, 69, 32, 39, 116, 111, 112, 39, 32, 65, 66, 83, 84, 82, 65, 67, 84, 32, 77, 85, 83, 84, 32, 111, 98, 106, 101, 99, 116, 67, 108, 97, 115, 115, 32, 41]
def bC1 : List UInt8 := [40, 32, 50, 46, 53, 46, 54, 46, 54, 32, 78, 65, 77, 69, 32, 39, 112, 101, 114, 115, 111, 110, 39, 32, 83, 85, 80, 32, 116, 111, 112, 32, 83, 84, 82, 85, 67, 84, 85, 82, 65, 76, 32, 77, 85, 83, 84, 32, 40, 32, 115, 110, 32, 36, 32, 99, 110, 32, 41, 32, 77, 65, 89, 32, 40, 32, 117, 115, 101, 114, 80, 97, 115, 115, 119, 111, 114, 100, 32, 36, 32, 115, 101, 101, 65, 108, 115, 111, 32, 36, 32, 100, 101, 115, 99, 114, 105, 112, 116, 105, 111, 110, 32, 41, 32, 41]
def bC2 : List UInt8 := [40, 32, 50, 46, 53, 46, 54, 46, 55, 32, 78, 65, 77, 69, 32, 39, 111, 114, 103, 97, 110, 105, 122, 97, 116, 105, 111, 110, 97, 108, 80, 101, 114, 115, 111, 110, 39, 32, 83, 85, 80, 32, 112, 101, 114, 115, 111, 110, 32, 83, 84, 82, 85, 67, 84, 85, 82, 65, 76, 32, 77, 65, 89, 32, 111, 117, 32, 41]
def bC3 : List UInt8 := [40, 32, 50, 46, 49, 54, 46, 56, 52, 48, 46, 49, 46, 49, 49, 51, 55, 51, 48, 46, 51, 46, 50, 46, 50, 32, 78, 65, 77, 69, 32, 39, 105, 110, 101, 116, 79, 114, 103, 80, 101, 114, 115, 111, 110, 39, 32, 83, 85, 80, 32, 111, 114, 103, 97, 110, 105, 122, 97, 116, 105, 111, 110, 97, 108, 80, 101, 114, 115, 111, 110, 32, 83, 84, 82, 85, 67, 84, 85, 82, 65, 76, 32, 77, 65, 89, 32, 40, 32, 117, 105, 100, 32, 36, 32, 109, 97, 105, 108, 32, 36, 32, 101, 109, 112, 108, 111, 121, 101, 101, 78, 117, 109, 98, 101, 114, 32, 41, 32, 41]
def bC4 : List UInt8 := [40, 32, 50, 46, 53, 46, 54, 46, 52, 32, 78, 65, 77, 69, 32, 39, 111, 114, 103, 97, 110, 105, 122, 97, 116, 105, 111, 110, 39, 32, 83, 85, 80, 32, 116, 111, 112, 32, 83, 84, 82, 85, 67, 84, 85, 82, 65, 76, 32, 77, 85, 83, 84, 32, 111, 32, 77, 65, 89, 32, 100, 101, 115, 99, 114, 105, 112, 116, 105, 111, 110, 32, 41]
def bC5 : List UInt8 := [40, 32, 50, 46, 53, 46, 54, 46, 53, 32, 78, 65, 77, 69, 32, 39, 111, 114, 103, 97, 110, 105, 122, 97, 116, 105, 111, 110, 97, 108, 85, 110, 105, 116, 39, 32, 83, 85, 80, 32, 116, 111, 112, 32, 83, 84, 82, 85, 67, 84, 85, 82, 65, 76, 32, 77, 85, 83, 84, 32, 111, 117, 32, 77, 65, 89, 32, 40, 32, 100, 101, 115, 99, 114, 105, 112, 116, 105, 111, 110, 32, 36, 32, 115, 101, 101, 65, 108, 115, 111, 32, 41, 32, 41]
def bC6 : List UInt8 := [40, 32, 50, 46, 53, 46, 54, 46, 57, 32, 78, 65, 77, 69, 32, 39, 103, 114, 111, 117, 112, 79, 102, 78, 97, 109, 101, 115, 39, 32, 83, 85, 80, 32, 116, 111, 112, 32, 83, 84, 82, 85, 67, 84, 85, 82, 65, 76, 32, 77, 85, 83, 84, 32, 99, 110, 32, 77, 65, 89, 32, 40, 32, 109, 101, 109, 98, 101, 114, 32, 36, 32, 100, 101, 115, 99, 114, 105, 112, 116, 105, 111, 110, 32, 41, 32, 41]
def bC7 : List UInt8 := [40, 32, 49, 46, 51, 46, 54, 46, 49, 46, 52, 46, 49, 46, 49, 52, 54, 54, 46, 51, 52, 52, 32, 78, 65, 77, 69, 32, 39, 100, 99, 79, 98, 106, 101, 99, 116, 39, 32, 83, 85, 80, 32, 116, 111, 112, 32, 65, 85, 88, 73, 76, 73, 65, 82, 89, 32, 77, 85, 83, 84, 32, 100, 99, 32, 41]
def bC8 : List UInt8 := [40, 32, 49, 46, 51, 46, 54, 46, 49, 46, 52, 46, 49, 46, 57, 57, 57, 57, 46, 50, 32, 78, 65, 77, 69, 32, 39, 117, 105, 100, 79, 98, 106, 101, 99, 116, 39, 32, 83, 85, 80, 32, 116, 111, 112, 32, 65, 85, 88, 73, 76, 73, 65, 82, 89, 32, 77, 85, 83, 84, 32, 117, 105, 100, 32, 41]
def bC9 : List UInt8 := [40, 32, 49, 46, 51, 46, 54, 46, 49, 46, 52, 46, 49, 46, 57, 57, 57, 57, 46, 51, 32, 78, 65, 77, 69, 32, 39, 99, 111, 110, 102, 105, 103, 79, 98, 106, 101, 99, 116, 39, 32, 83, 85, 80, 32, 116, 111, 112, 32, 83, 84, 82, 85, 67, 84, 85, 82, 65, 76, 32, 77, 85, 83, 84, 32, 99, 110, 32, 77, 65, 89, 32, 115, 101, 116, 116, 105, 110, 103, 32, 41]
def baseA : List (List UInt8) := [bA0, bA1, bA2, bA3, bA4, bA5, bA6, bA7, bA8, bA9, bA10, bA11, bA12, bA13, bA14, bA15, bA16, bA17]
def baseC : List (List UInt8) := [bC0, bC1, bC2, bC3, bC4, bC5, bC6, bC7, bC8, bC9]
def baseL : List DefS := match readAll 18 0 (baseA ++ baseC) [] with
  | .inl _ => []
  | .inr L => L
theorem base_read : readAll 18 0 (baseA ++ baseC) [] = .inr baseL := by decide +kernel
theorem base_len : baseL.length = 28 := by decide +kernel
theorem base_new : newL baseA baseC = .inr baseL := by decide +kernel
end Go.Proofs.YtcjobpcbppcdnaaGreatDoor
/- Plain laws: a normal form is its own, and of the value's form. -/
namespace Go.Proofs.YtcjobpcbppcdnaaGreatDoor
open Go.RowKit Go.Sort

theorem ascii_mem : ∀ (v : List UInt8), asciiL v = true → ∀ b ∈ v, b.toNat < 128
  | [], _, b, hb => by cases hb
  | c :: r, h, b, hb => by
    simp only [asciiL, Bool.and_eq_true, decide_eq_true_eq] at h
    rcases List.mem_cons.1 hb with rfl | hb
    · exact h.1
    · exact ascii_mem r h.2 b hb
theorem ascii_runes : ∀ (n : Nat) (v : List UInt8), (∀ b ∈ v, b.toNat < 128) → ∀ r ∈ runesF n v, 0 ≤ r ∧ r < 128
  | 0, v, _, r, hr => by cases v <;> cases hr
  | n + 1, [], _, r, hr => by cases hr
  | n + 1, b :: l, h, r, hr => by
    have hb := h b (List.mem_cons_self ..)
    rw [runesF, Lib.decodeL_ascii b l hb] at hr
    rcases List.mem_cons.1 hr with rfl | hr
    · simp only; omega
    · exact ascii_runes n l (fun x hx => h x (List.mem_cons_of_mem _ hx)) r hr
theorem tab_kinds : ∀ x ∈ tab, x.2.2.2 = .self ∨ x.2.2 = ([fText, fAscii], .text false) ∨ x.2.2 = ([fText, fAscii], .text true) ∨ x.2.2 = ([fName], .name) ∨ x.2.2 = ([fOid], .oid) := by decide +kernel
theorem norm_parts {x : RowT} {v s : List UInt8} (h : normS x v = some s) : v.length ≤ 1024 ∧ (∃ f ∈ x.2.2.1, validL f v = true) ∧ applyN x.2.2.2 v = some s := by
  unfold normS at h
  split at h
  · next hc =>
    rw [Bool.and_eq_true, decide_eq_true_eq, List.any_eq_true] at hc
    exact ⟨hc.1, hc.2, h⟩
  · cases h
theorem norm_mk {x : RowT} {v s : List UInt8} (hl : v.length ≤ 1024) {f : List UInt8} (hf : f ∈ x.2.2.1) (hv : validL f v = true) (ha : applyN x.2.2.2 v = some s) : normS x v = some s := by
  unfold normS
  rw [if_pos, ha]
  rw [Bool.and_eq_true, decide_eq_true_eq, List.any_eq_true]
  exact ⟨hl, f, hf, hv⟩
theorem text_twice (fold : Bool) (n : List UInt8) (k : Int) {v s : List UInt8} (h : normS (n, k, [fText, fAscii], .text fold) v = some s) (hl : s.length ≤ 1024) : normS (n, k, [fText, fAscii], .text fold) s = some s := by
  obtain ⟨h1, h2, h3⟩ := norm_parts h
  have hp : prepL v fold = some s := h3
  have hi := prep_idem hp
  by_cases hv : v = []
  · subst hv
    obtain rfl := prep_nil hp
    exact norm_mk (f := fAscii) hl (by simp) (by decide +kernel) hi
  · have hs := prep_ne hp hv
    refine norm_mk (f := fText) hl (by simp) ?_ hi
    unfold validL
    rw [decide_eq_true hl, Bool.true_and]
    have h4 : (prepL s false).isSome = true := by rw [prep_some false fold, hi]; rfl
    have h5 : s.isEmpty = false := by cases s with | nil => exact absurd rfl hs | cons _ _ => rfl
    show formOk fText s = true
    unfold formOk
    rw [if_neg (by decide), if_pos rfl]
    unfold textL
    rw [h4, h5]; rfl
theorem norm_twice {x : RowT} (hx : x ∈ tab) {v s : List UInt8} (h : normS x v = some s) (hl : s.length ≤ 1024) : normS x s = some s := by
  have hk := tab_kinds x hx
  obtain ⟨n, k, fs, nf⟩ := x
  simp only at hk
  rcases hk with hk | hk | hk | hk | hk
  · subst hk
    obtain ⟨h1, h2, h3⟩ := norm_parts h
    obtain rfl : v = s := Option.some.inj h3
    exact h
  · cases hk; exact text_twice false n k h hl
  · cases hk; exact text_twice true n k h hl
  · cases hk
    obtain ⟨h1, h2, h3⟩ := norm_parts h
    have hn : nameN s = some s := nameN_idem h3
    refine norm_mk (f := fName) hl (by simp) ?_ hn
    unfold validL
    rw [decide_eq_true hl, Bool.true_and]
    have hp : (parseL s).1 = 0 := by
      unfold nameN at hn
      split at hn
      · next e => exact e
      · cases hn
    show formOk fName s = true
    have : formOk fName s = ((parseL s).1 == 0) := rfl
    rw [this, hp]; rfl
  · cases hk
    obtain ⟨h1, ⟨f, hf, hv⟩, h3⟩ := norm_parts h
    obtain rfl : smallL v = s := Option.some.inj h3
    obtain rfl : f = fOid := by simpa using hf
    refine norm_mk (f := fOid) hl (by simp) ?_ (by show some (smallL (smallL v)) = _; rw [small_idem])
    unfold validL at hv ⊢
    rw [decide_eq_true hl, Bool.true_and]
    rw [decide_eq_true h1, Bool.true_and] at hv
    have e : ∀ l, formOk fOid l = isTypeL l := fun _ => rfl
    rw [e] at hv ⊢
    exact type_small hv
theorem same_twice {x : RowT} (hx : x ∈ tab) {v s : List UInt8} (h : normS x v = some s) (hl : s.length ≤ 1024) : bothS x v s = some (s, s) := by
  unfold bothS
  rw [h, norm_twice hx h hl]
theorem ascii_of : ∀ (v : List UInt8), (∀ b ∈ v, b.toNat < 128) → asciiL v = true
  | [], _ => rfl
  | c :: r, h => by
    rw [asciiL, Bool.and_eq_true, decide_eq_true_eq]
    exact ⟨h c (by simp), ascii_of r (fun b hb => h b (by simp [hb]))⟩
theorem map_ascii (fold : Bool) : ∀ (rs acc a : List Int), (∀ r ∈ rs, 0 ≤ r ∧ r < 128) → (∀ x ∈ acc, 0 ≤ x ∧ x < 128) → mapRR fold rs acc = some a → ∀ x ∈ a, 0 ≤ x ∧ x < 128
  | [], acc, a, _, h, e => by rw [mapRR] at e; cases e; exact h
  | r :: rs, acc, a, hr, h, e => by
    rw [mapRR] at e
    cases hs : stepR fold acc r with
    | none => rw [hs] at e; cases e
    | some b =>
      rw [hs, Option.bind_some] at e
      refine map_ascii fold rs b a (fun x hx => hr x (by simp [hx])) ?_ e
      have h0 := hr r (by simp)
      have hm : 0 ≤ (mapR r).1 ∧ (mapR r).1 < 128 := by
        unfold mapR
        repeat' split
        all_goals simp only
        all_goals omega
      have hf : 0 ≤ foldR (mapR r).1 ∧ foldR (mapR r).1 < 128 := by
        unfold foldR
        repeat' split
        all_goals omega
      unfold stepR at hs
      split at hs
      · cases hs
      · split at hs
        · cases hs; exact h
        · split at hs
          · cases hs; exact h
          · cases hs
            intro x hx
            rcases List.mem_append.1 hx with hx | hx
            · exact h x hx
            · have hx' : x = if fold then foldR (mapR r).1 else (mapR r).1 := by simpa using hx
              rw [hx']
              split
              · exact hf
              · exact hm
theorem cat_ascii : ∀ rs : List Int, (∀ r ∈ rs, 0 ≤ r ∧ r < 128) → asciiL (cat rs) = true
  | [], _ => rfl
  | r :: rs, h => by
    have h0 := h r (by simp)
    rw [cat_cons]
    rcases enc_cases (r := r) (by unfold VR; omega) with ⟨a1, a2, e⟩ | ⟨a1, a2, e⟩ | ⟨a1, a2, e⟩ | ⟨a1, a2, e⟩
    · rw [e, List.singleton_append, asciiL, cat_ascii rs (fun x hx => h x (by simp [hx])), Bool.and_true, decide_eq_true_eq, ofN (by omega)]
      omega
    all_goals omega
theorem prep_ascii {v m : List UInt8} {fold : Bool} (h : prepL v fold = some m) (ha : asciiL v = true) : asciiL m = true := by
  obtain ⟨hv, L, hm, _, _, hp⟩ := prep_form h
  have hL := map_ascii fold _ _ _ (ascii_runes _ v (ascii_mem v ha)) (by simp) hm
  rcases hp with ⟨_, _, rfl⟩ | ⟨_, rfl⟩
  · decide
  · refine cat_ascii _ (fun r hr => hL r ?_)
    obtain ⟨a, b, hab⟩ := trimI_infix L
    rw [hab]
    simp [hr]
/-- A normal form is of the value's form. -/
theorem norm_valid {x : RowT} (hx : x ∈ tab) {f v s : List UInt8} (hf : f ∈ x.2.2.1) (hv : validL f v = true) (h : normS x v = some s) (hl : s.length ≤ 1024) : validL f s = true := by
  have hk := tab_kinds x hx
  have h2 := norm_twice hx h hl
  obtain ⟨n, k, fs, nf⟩ := x
  simp only at hk hf
  have hvl : v.length ≤ 1024 := by unfold validL at hv; rw [Bool.and_eq_true, decide_eq_true_eq] at hv; exact hv.1
  have one : ∀ g, fs = [g] → validL f s = true := by
    intro g hg
    subst hg
    obtain ⟨_, ⟨f', hf', hv'⟩, _⟩ := norm_parts h2
    have e1 : f = g := by simpa using hf
    have e2 : f' = g := by simpa using hf'
    rw [e1, ← e2]
    exact hv'
  have txt : ∀ fold, fs = [fText, fAscii] → prepL v fold = some s → validL f s = true := by
    intro fold hfs hp
    subst hfs
    unfold validL at hv ⊢
    rw [decide_eq_true hl, Bool.true_and]
    rw [decide_eq_true hvl, Bool.true_and] at hv
    have e1 : ∀ l, formOk fText l = textL l := fun _ => rfl
    have e2 : ∀ l, formOk fAscii l = asciiL l := fun _ => rfl
    rcases List.mem_cons.1 hf with rfl | hf
    · rw [e1] at hv ⊢
      unfold textL at hv ⊢
      rw [Bool.and_eq_true] at hv
      have hne : v ≠ [] := by rintro rfl; simp at hv
      have hs := prep_ne hp hne
      have h4 : (prepL s false).isSome = true := by rw [prep_some false fold, prep_idem hp]; rfl
      have h5 : s.isEmpty = false := by cases s with | nil => exact absurd rfl hs | cons _ _ => rfl
      rw [h4, h5]
      rfl
    · have : f = fAscii := by simpa using hf
      subst this
      rw [e2] at hv ⊢
      exact prep_ascii hp hv
  rcases hk with hk | hk | hk | hk | hk
  · subst hk
    obtain ⟨_, _, h3⟩ := norm_parts h
    obtain rfl : v = s := Option.some.inj h3
    exact hv
  · cases hk
    exact txt false rfl (norm_parts h).2.2
  · cases hk
    exact txt true rfl (norm_parts h).2.2
  · cases hk; exact one _ rfl
  · cases hk; exact one _ rfl
end Go.Proofs.YtcjobpcbppcdnaaGreatDoor
/- Plain: the key of a name (chapter 6). -/
namespace Go.Proofs.YtcjobpcbppcdnaaGreatDoor

/-- syntax.Norm, plainly. -/
def normE (r v : List UInt8) : Int × List UInt8 := match askT (smallL r) 0 with
  | none => (41, [])
  | some x => match normS x v with
    | none => (40, [])
    | some m => (0, m)
/-- The schema's Norm. -/
def normTy (L : List DefS) (t v : List UInt8) : Int × List UInt8 := match findD L false t with
  | none => (52, [])
  | some i => match countsD L i with
    | none => (52, [])
    | some a => if validL a.form v then (if a.eqr == [] then (0, v) else normE a.eqr v) else (40, [])
def nameTy (L : List DefS) (t : List UInt8) : List UInt8 := match findD L false t with
  | none => []
  | some i => nameOf L i
/-- The first of some that fails, or what each gives. -/
def mapK {α β : Type} (f : α → Int × β) : List α → Int × List β
  | [] => (0, [])
  | x :: t => if (f x).1 ≠ 0 then ((f x).1, []) else (if (mapK f t).1 ≠ 0 then ((mapK f t).1, []) else (0, (f x).2 :: (mapK f t).2))
def avaK (L : List DefS) (x : List UInt8 × List UInt8) : Int × (List UInt8 × List UInt8) := ((normTy L x.1 x.2).1, (smallL (nameTy L x.1), (normTy L x.1 x.2).2))
def partK (L : List DefS) (p : List (List UInt8 × List UInt8)) : Int × List (List UInt8 × List UInt8) := ((mapK (avaK L) p).1, partN (mapK (avaK L) p).2)
/-- The key of a name: what offends, or the key. -/
def keyS (L : List DefS) (s : List UInt8) : Int × List UInt8 :=
  if (parseL s).1 ≠ 0 then ((parseL s).1, [])
  else if (mapK (partK L) (parseL s).2).1 ≠ 0 then ((mapK (partK L) (parseL s).2).1, [])
  else printL (mapK (partK L) (parseL s).2).2
theorem mapK_ok {α β : Type} {f : α → Int × β} : ∀ {l : List α}, (mapK f l).1 = 0 → (∀ x ∈ l, (f x).1 = 0) ∧ (mapK f l).2 = l.map (fun x => (f x).2)
  | [], _ => by simp [mapK]
  | x :: t, h => by
    rw [mapK] at h
    by_cases h1 : (f x).1 = 0
    · rw [if_neg (by simpa using h1)] at h
      by_cases h2 : (mapK f t).1 = 0
      · obtain ⟨g1, g2⟩ := mapK_ok h2
        refine ⟨?_, ?_⟩
        · intro y hy
          rcases List.mem_cons.1 hy with rfl | hy
          · exact h1
          · exact g1 y hy
        · rw [mapK, if_neg (by simpa using h1), if_neg (by simpa using h2), List.map_cons, g2]
      · rw [if_pos h2] at h
        exact absurd h h2
    · rw [if_pos h1] at h
      exact absurd h h1
theorem mapK_mk {α β : Type} {f : α → Int × β} : ∀ {l : List α}, (∀ x ∈ l, (f x).1 = 0) → mapK f l = (0, l.map (fun x => (f x).2))
  | [], _ => by simp [mapK]
  | x :: t, h => by
    have ih := mapK_mk (f := f) (l := t) (fun y hy => h y (by simp [hy]))
    have h1 := h x (by simp)
    rw [mapK, if_neg (by simpa using h1), ih, if_neg (by simp)]
    simp
/-- What the types of a schema are good for: their names are types, and a normal form stays one. -/
structure Goods (L : List DefS) : Prop where
  typ : ∀ d ∈ L, d.cls = false → isTypeL (smallL d.name) = true
  again : ∀ t v m, normTy L t v = (0, m) → m.length ≤ 1024 → normTy L (smallL (nameTy L t)) m = (0, m) ∧ nameTy L (smallL (nameTy L t)) = nameTy L t ∧ isTypeL (smallL (nameTy L t)) = true
theorem ava_again {L : List DefS} (hG : Goods L) {x : List UInt8 × List UInt8} (h : (avaK L x).1 = 0) (hl : (avaK L x).2.2.length ≤ 1024) : avaK L (avaK L x).2 = (0, (avaK L x).2) ∧ isTypeL (avaK L x).2.1 = true := by
  unfold avaK at h hl ⊢
  simp only at h hl ⊢
  have e : normTy L x.1 x.2 = (0, (normTy L x.1 x.2).2) := by rw [← h]
  obtain ⟨h1, h2, h3⟩ := hG.again _ _ _ e hl
  rw [h1, h2]
  exact ⟨rfl, h3⟩
theorem part_again {L : List DefS} (hG : Goods L) {p : List (List UInt8 × List UInt8)} (h : (partK L p).1 = 0) (hl : ∀ y ∈ (partK L p).2, y.2.length ≤ 1024) : partK L (partK L p).2 = (0, (partK L p).2) := by
  unfold partK at h hl ⊢
  simp only at h hl ⊢
  obtain ⟨g1, g2⟩ := mapK_ok h
  rw [g2] at hl ⊢
  have key : ∀ y ∈ partN (p.map fun x => (avaK L x).2), avaK L y = (0, y) := by
    intro y hy
    have hyl := hl y hy
    rw [partN_iff] at hy
    obtain ⟨x, hx, rfl⟩ := List.mem_map.1 hy
    exact (ava_again hG (g1 x hx) hyl).1
  have e : mapK (avaK L) (partN (p.map fun x => (avaK L x).2)) = (0, partN (p.map fun x => (avaK L x).2)) := by
    rw [mapK_mk (fun y hy => by rw [key y hy])]
    congr 1
    refine (List.map_congr_left (fun y hy => ?_)).trans (List.map_id _)
    rw [key y hy]
    rfl
  rw [e]
  simp only
  rw [partN_id (partN_ss _)]
theorem tooLong_vals {d : List (List (List UInt8 × List UInt8))} (h : tooLongL d = false) : ∀ p ∈ d, ∀ y ∈ p, y.2.length ≤ 1024 := by
  intro p hp y hy
  unfold tooLongL at h
  rw [Bool.or_eq_false_iff, List.any_eq_false] at h
  have h1 := h.2 p hp
  unfold rdnLongB at h1
  rw [Bool.or_eq_true, not_or] at h1
  have h2 := List.any_eq_false.1 (by simpa using h1.2 : p.any avaLongB = false) y hy
  unfold avaLongB at h2
  simp only [decide_eq_true_eq] at h2
  omega
theorem print_long {d : List (List (List UInt8 × List UInt8))} (h : (printL d).1 = 0) : tooLongL d = false := by
  unfold printL at h
  split at h
  · simp at h
  · split at h
    · simp at h
    · next hl => simpa using hl
/-- The parts of a key. -/
structure KeySays (L : List DefS) (s k : List UInt8) (d n : List (List (List UInt8 × List UInt8))) : Prop where
  parse : parseL s = (0, d)
  parts : n = d.map (fun p => (partK L p).2)
  print : printL n = (0, k)
  back : parseL k = (0, n)
  ok : ∀ p ∈ d, (partK L p).1 = 0
theorem key_says {L : List DefS} {s k : List UInt8} (h : keyS L s = (0, k)) : ∃ d n, KeySays L s k d n := by
  unfold keyS at h
  split at h
  · next h1 => rw [Prod.mk.injEq] at h; exact absurd h.1 h1
  · next h1 =>
    split at h
    · next h2 => rw [Prod.mk.injEq] at h; exact absurd h.1 h2
    · next h2 =>
      have h1' : (parseL s).1 = 0 := by simpa using h1
      have h2' : (mapK (partK L) (parseL s).2).1 = 0 := by simpa using h2
      obtain ⟨g1, g2⟩ := mapK_ok h2'
      refine ⟨(parseL s).2, (mapK (partK L) (parseL s).2).2, by rw [← h1'], g2, h, ?_, g1⟩
      have := parse_print (d := (mapK (partK L) (parseL s).2).2) (by rw [h])
      rw [h] at this
      exact this
theorem key_again {L : List DefS} (hG : Goods L) {s k : List UInt8} {d n : List (List (List UInt8 × List UInt8))} (h : KeySays L s k d n) : keyS L k = (0, k) := by
  have hl := tooLong_vals (print_long (d := n) (by rw [h.print]))
  have hp : mapK (partK L) n = (0, n) := by
    have key : ∀ p ∈ n, partK L p = (0, p) := by
      intro q hq
      have hql := hl q hq
      rw [h.parts] at hq
      obtain ⟨p, hp, rfl⟩ := List.mem_map.1 hq
      exact part_again hG (h.ok p hp) hql
    rw [mapK_mk (fun p hp => by rw [key p hp])]
    congr 1
    refine (List.map_congr_left (fun p hp => ?_)).trans (List.map_id _)
    rw [key p hp]
    rfl
  unfold keyS
  rw [h.back]
  simp only [ne_eq, not_true_eq_false, if_false]
  rw [hp]
  simp only [ne_eq, not_true_eq_false, if_false]
  exact h.print
/-- The schema's Under and Depth. -/
def underS (a b : List UInt8) : Bool := (parseL a).1 == 0 && (parseL b).1 == 0 && decide ((parseL b).2.length ≤ (parseL a).2.length) && ((parseL a).2.drop ((parseL a).2.length - (parseL b).2.length) == (parseL b).2)
def depthS (a : List UInt8) : Int := if (parseL a).1 = 0 then (parseL a).2.length else -1
theorem parse_nil : parseL [] = (0, []) := by decide +kernel
theorem print_nil : printL [] = (0, []) := by decide +kernel
theorem goods_of {L : List DefS} (hN : NewSays L) (ht : ∀ d ∈ L, d.cls = false → isTypeL (smallL d.name) = true) : Goods L := by
  refine ⟨ht, ?_⟩
  intro t v m h hl
  unfold normTy at h
  cases hf : findD L false t with
  | none => rw [hf] at h; cases h
  | some i =>
    rw [hf] at h
    simp only at h
    obtain ⟨d, hd, hc, _⟩ := findD_at hf
    obtain ⟨a, ha⟩ := hN.counts hd hc
    rw [ha] at h
    simp only at h
    have hn : nameTy L t = d.name := by unfold nameTy nameOf; rw [hf]; simp only; rw [hd]
    have hf2 : findD L false (smallL d.name) = some i := by
      have h1 := hN.named hd
      rw [hc] at h1
      unfold findD at h1 ⊢
      rw [small_idem]
      exact h1
    have hdm : d ∈ L := List.mem_of_getElem? hd
    refine ⟨?_, ?_, by rw [hn]; exact ht d hdm hc⟩
    · rw [hn]
      unfold normTy
      rw [hf2]
      simp only
      rw [ha]
      simp only
      split at h
      · next hv =>
        split at h
        · next he =>
          cases h
          rw [if_pos hv, if_pos he]
        · next he =>
          unfold normE at h
          cases hask : askT (smallL a.eqr) 0 with
          | none => rw [hask] at h; cases h
          | some x =>
            rw [hask] at h
            simp only at h
            cases hs : normS x v with
            | none => rw [hs] at h; cases h
            | some m' =>
              rw [hs] at h
              cases h
              -- the rule is of the form
              have hfit := hN.fits i d hd
              unfold fitsD at hfit
              rw [hc, ha] at hfit
              simp only [Bool.false_eq_true, if_false, Bool.and_eq_true, List.all_eq_true] at hfit
              have hr := hfit.1 a.eqr (by simp)
              rw [Bool.or_eq_true] at hr
              have hr2 : fitsRule a.eqr a.form = true := by
                rcases hr with hr | hr
                · exact absurd hr he
                · exact hr
              unfold askT at hask
              unfold fitsRule at hr2
              cases hru : ruleT (smallL a.eqr) with
              | none => rw [hru] at hask; cases hask
              | some y =>
                have hxy : x = y := by
                  have hk := hask
                  rw [hru] at hk
                  simp only [Option.filter] at hk
                  split at hk
                  · exact (Option.some.inj hk).symm
                  · cases hk
                subst hxy
                rw [hru] at hr2
                simp only at hr2
                have hfm : a.form ∈ x.2.2.1 := by simpa using hr2
                have hxt : x ∈ tab := ruleT_mem hru
                have hv2 := norm_valid hxt hfm hv hs hl
                rw [if_pos hv2, if_neg he]
                unfold normE askT
                rw [hru]
                have hk0 := hask
                rw [hru] at hk0
                rw [hk0]
                simp only
                rw [norm_twice hxt hs hl]
      · cases h
    · rw [hn]
      unfold nameTy
      rw [hf2]
      unfold nameOf
      simp only
      rw [hd]
end Go.Proofs.YtcjobpcbppcdnaaGreatDoor
/- Contracts: the schema's Norm. -/
namespace Go.Proofs.YtcjobpcbppcdnaaGreatDoor
open Go.RowKit

theorem normV_eq (r v : List UInt8) : normV r v = .tuple #[.string ⟨(normE r v).2.toArray⟩, .int .i64 (normE r v).1] := by
  unfold normV normE
  cases askT (smallL r) 0 with
  | none => rfl
  | some x =>
    simp only
    cases normS x v <;> rfl
set_option maxRecDepth 100000 in
set_option maxHeartbeats 4000000 in
theorem NormTy_none (s : Nat) (ps : List Nat) (L : List DefS) (x v : List UInt8) (w : World) (hS : SchAt w s ps L) (hx : x.length ≤ 1000000) (hf : findD L false x = none) :
    Calls Tryz.prog 34 #[ptrV s, .string ⟨x.toArray⟩, .string ⟨v.toArray⟩] w fun e w' => e = .returned (.tuple #[.string ⟨(normTy L x v).2.toArray⟩, .int .i64 (normTy L x v).1]) ∧ Below w.heap.size w w' := by
  have hn : normTy L x v = (52, []) := by unfold normTy; rw [hf]
  rw [hn]
  have HA : Hid (Calls Tryz.prog 13 #[.pointer (some ⟨s, 0, none⟩), .string ⟨x.toArray⟩] w fun e w' => e = .returned (.tuple #[attrV noAttr (.slice none 0 0), .int .i64 52]) ∧ Below w.heap.size w w') := Lib.hid ((Attr_none s ps L x w hS hx hf).mono (by
    rintro e w' ⟨h1, h2⟩
    exact ⟨h2, h1⟩))
  clear hS hf hn
  unfold ptrV
  unfold attrV attrCells noAttr at HA
  go_enter Tryz.func34, Tryz.ntmps34
  go_wp2_with (go_at_call 13; refine HA.out.mono ?_; rintro e w1 ⟨rfl, hb1⟩)
  all_goals
    go_ret2
    exact ⟨rfl, by first | exact hb1 | exact hb1.alloc hb1.size _ | assumption⟩
set_option maxRecDepth 100000 in
set_option maxHeartbeats 4000000 in
theorem NormTy_some (s : Nat) (ps : List Nat) (L : List DefS) (hlim : ∀ d ∈ L, DefLim d) (x v : List UInt8) (i : Nat) (a : AttrS) (w : World) (hw : Env w) (hS : SchAt w s ps L) (hx : x.length ≤ 1000000) (hf : findD L false x = some i) (ha : countsD L i = some a) (hel : a.eqr.length ≤ 1000000) :
    Calls Tryz.prog 34 #[ptrV s, .string ⟨x.toArray⟩, .string ⟨v.toArray⟩] w fun e w' => e = .returned (.tuple #[.string ⟨(normTy L x v).2.toArray⟩, .int .i64 (normTy L x v).1]) ∧ Below w.heap.size w w' := by
  have hn : normTy L x v = (if validL a.form v then (if a.eqr == [] then (0, v) else normE a.eqr v) else (40, [])) := by
    unfold normTy
    rw [hf]
    simp only
    rw [ha]
  rw [hn]
  have HA : Hid (Calls Tryz.prog 13 #[.pointer (some ⟨s, 0, none⟩), .string ⟨x.toArray⟩] w fun e w' => ∃ A n c, e = .returned (.tuple #[attrV a (.slice A n c), .int .i64 0]) ∧ Below w.heap.size w w') := Lib.hid ((Attr_some s ps L hlim x i a w hS hx hf ha).mono (by
    rintro e w' ⟨h1, nv, rfl, h2⟩
    obtain ⟨A, c, rfl, _⟩ := h2.isSlice
    exact ⟨A, _, c, rfl, h1⟩))
  have HV : Hid (∀ W : World, Below w.heap.size w W → Calls Tryz.prog 66 #[.string ⟨a.form.toArray⟩, .string ⟨v.toArray⟩] W fun e w' => e = .returned (.bool (validL a.form v)) ∧ Below W.heap.size W w') := Lib.hid fun W h => Valid_c a.form v W (hw.keep h)
  have HN : Hid (∀ W : World, Below w.heap.size w W → Calls Tryz.prog 67 #[.string ⟨a.eqr.toArray⟩, .string ⟨v.toArray⟩] W fun e w' => e = .returned (.tuple #[.string ⟨(normE a.eqr v).2.toArray⟩, .int .i64 (normE a.eqr v).1]) ∧ Below W.heap.size W w') := Lib.hid fun W h => by
    rw [← normV_eq]
    exact Norm_c a.eqr v W (hw.keep h) (by omega)
  clear hS hlim hf ha hn hw
  unfold ptrV
  unfold attrV attrCells at HA
  obtain ⟨f, hfm⟩ : ∃ f, a.form = f := ⟨_, rfl⟩
  obtain ⟨r, hr⟩ : ∃ r, a.eqr = r := ⟨_, rfl⟩
  rw [hfm, hr] at HA
  rw [hfm] at HV ⊢
  rw [hr] at HN hel ⊢
  clear hfm hr
  cases hv : validL f v with
  | false =>
    rw [hv] at HV
    simp only [Bool.false_eq_true, if_false]
    clear hv HN
    go_enter Tryz.func34, Tryz.ntmps34
    go_wp2_with (first | (go_at_call 13; refine HA.out.mono ?_; rintro e w1 ⟨A, n, c, rfl, hb1⟩) | (go_at_call 66; refine (HV.out _ (hb1.alloc hb1.size _)).mono ?_; rintro e w3 ⟨rfl, hb3⟩))
    all_goals
      go_ret2
      exact ⟨rfl, (hb1.alloc hb1.size _).trans (hb3.mono (hb1.alloc hb1.size _).size)⟩
  | true =>
    rw [hv] at HV
    simp only [if_true]
    clear hv
    rcases r with _ | ⟨r0, rt⟩
    · clear HN
      go_enter Tryz.func34, Tryz.ntmps34
      go_wp2_with (first | (go_at_call 13; refine HA.out.mono ?_; rintro e w1 ⟨A, n, c, rfl, hb1⟩) | (go_at_call 66; refine (HV.out _ (hb1.alloc hb1.size _)).mono ?_; rintro e w3 ⟨rfl, hb3⟩; have f5 := (hb3.cell (p := ⟨w1.heap.size, 5, none⟩) (by show w1.heap.size < _; rw [World.size_alloc]; omega)).trans ((Bk.new w1 _ _).cell 5); simp only [List.getElem?_toArray, List.getElem?_cons_zero, List.getElem?_cons_succ] at f5))
      all_goals
        go_ret2
        exact ⟨rfl, (hb1.alloc hb1.size _).trans (hb3.mono (hb1.alloc hb1.size _).size)⟩
    · generalize normE (r0 :: rt) v = nr at HN ⊢
      obtain ⟨ne, ns⟩ := nr
      simp only at HN
      go_enter Tryz.func34, Tryz.ntmps34
      go_wp2_with (first | (go_at_call 13; refine HA.out.mono ?_; rintro e w1 ⟨A, n, c, rfl, hb1⟩) | (go_at_call 66; refine (HV.out _ (hb1.alloc hb1.size _)).mono ?_; rintro e w3 ⟨rfl, hb3⟩; have f5 := (hb3.cell (p := ⟨w1.heap.size, 5, none⟩) (by show w1.heap.size < _; rw [World.size_alloc]; omega)).trans ((Bk.new w1 _ _).cell 5); simp only [List.getElem?_toArray, List.getElem?_cons_zero, List.getElem?_cons_succ] at f5; have hB3 := (hb1.alloc hb1.size _).trans (hb3.mono (hb1.alloc hb1.size _).size)) | (go_at_call 67; refine (HN.out _ hB3).mono ?_; rintro e w4 ⟨rfl, hb4⟩))
      all_goals
        go_ret2
        exact ⟨rfl, hB3.trans (hb4.mono hB3.size)⟩
theorem NormTy_c (s : Nat) (ps : List Nat) (L : List DefS) (hlim : ∀ d ∈ L, DefLim d) (hrl : ∀ d ∈ L, RuleLim d) (hk : ∀ t i, findD L false t = some i → ∃ a, countsD L i = some a) (x v : List UInt8) (w : World) (hw : Env w) (hS : SchAt w s ps L) (hx : x.length ≤ 1000000) :
    Calls Tryz.prog 34 #[ptrV s, .string ⟨x.toArray⟩, .string ⟨v.toArray⟩] w fun e w' => e = .returned (.tuple #[.string ⟨(normTy L x v).2.toArray⟩, .int .i64 (normTy L x v).1]) ∧ Below w.heap.size w w' := by
  cases hf : findD L false x with
  | none => exact NormTy_none s ps L x v w hS hx hf
  | some i =>
    obtain ⟨a, ha⟩ := hk x i hf
    exact NormTy_some s ps L hlim x v i a w hw hS hx hf ha (countsF_lim hrl _ _ _ ha).1
end Go.Proofs.YtcjobpcbppcdnaaGreatDoor
/- Plain: the key of a name, step by step. -/
namespace Go.Proofs.YtcjobpcbppcdnaaGreatDoor

theorem mapK_fail {α β : Type} {f : α → Int × β} : ∀ {l : List α} {k : Nat} {x : α}, (∀ y ∈ l.take k, (f y).1 = 0) → l[k]? = some x → (f x).1 ≠ 0 → mapK f l = ((f x).1, [])
  | [], k, x, _, h, _ => by simp at h
  | y :: t, 0, x, _, h, hx => by
    simp at h
    subst h
    rw [mapK, if_pos hx]
  | y :: t, k + 1, x, h0, h, hx => by
    have h1 : (f y).1 = 0 := h0 y (by simp)
    have ih := mapK_fail (f := f) (l := t) (k := k) (x := x) (fun z hz => h0 z (by simp [hz])) (by simpa using h) hx
    rw [mapK, if_neg (by simpa using h1), ih, if_pos hx]
/-- The first ones done. -/
def uptoF {α : Type} (f : α → α) (p : List α) (j : Nat) : List α := (p.take j).map f ++ p.drop j
theorem uptoF_len {α : Type} (f : α → α) (p : List α) (j : Nat) : (uptoF f p j).length = p.length := by simp [uptoF]; omega
theorem uptoF_zero {α : Type} (f : α → α) (p : List α) : uptoF f p 0 = p := by simp [uptoF]
theorem uptoF_all {α : Type} (f : α → α) (p : List α) : uptoF f p p.length = p.map f := by simp [uptoF]
theorem uptoF_at {α : Type} (f : α → α) (p : List α) (j : Nat) (h : j < p.length) : (uptoF f p j)[j]? = some p[j] := by
  unfold uptoF
  rw [List.getElem?_append_right (by simp; omega)]
  simp [Nat.min_eq_left (Nat.le_of_lt h)]
theorem uptoF_succ {α : Type} (f : α → α) (p : List α) (j : Nat) (h : j < p.length) : (uptoF f p j).set j (f p[j]) = uptoF f p (j + 1) := by
  have hl : ((p.take j).map f).length = j := by simp; omega
  unfold uptoF
  rw [List.set_append_right _ _ (by omega), hl, Nat.sub_self, List.drop_eq_getElem_cons h, List.set_cons_zero, List.take_succ_eq_append_getElem h, List.map_append, List.append_assoc]
  rfl
theorem take_all_succ {α : Type} {P : α → Prop} {p : List α} {j : Nat} (h : j < p.length) (h0 : ∀ y ∈ p.take j, P y) (h1 : P p[j]) : ∀ y ∈ p.take (j + 1), P y := by
  intro y hy
  rw [List.take_succ_eq_append_getElem h] at hy
  rcases List.mem_append.1 hy with hy | hy
  · exact h0 y hy
  · have : y = p[j] := by simpa using hy
    rw [this]
    exact h1
/-- The pairs of a part, done. -/
def avaN (L : List DefS) (x : List UInt8 × List UInt8) : List UInt8 × List UInt8 := (avaK L x).2
def partF (L : List DefS) (p : List (List UInt8 × List UInt8)) : List (List UInt8 × List UInt8) := partN (p.map (avaN L))
theorem partK_ok {L : List DefS} {p : List (List UInt8 × List UInt8)} (h : ∀ x ∈ p, (avaK L x).1 = 0) : partK L p = (0, partF L p) := by
  unfold partK
  rw [mapK_mk h]
  rfl
theorem partK_fail {L : List DefS} {p : List (List UInt8 × List UInt8)} {j : Nat} (hj : j < p.length) (h0 : ∀ y ∈ p.take j, (avaK L y).1 = 0) (h : (avaK L p[j]).1 ≠ 0) : (partK L p).1 = (avaK L p[j]).1 := by
  unfold partK
  rw [mapK_fail h0 (List.getElem?_eq_getElem hj) h]
theorem key_bad {L : List DefS} {s : List UInt8} (h : (parseL s).1 ≠ 0) : keyS L s = ((parseL s).1, []) := by unfold keyS; rw [if_pos h]
theorem key_fail {L : List DefS} {s : List UInt8} {d : List (List (List UInt8 × List UInt8))} {k : Nat} (h : parseL s = (0, d)) (hk : k < d.length) (h0 : ∀ y ∈ d.take k, (partK L y).1 = 0) (h1 : (partK L d[k]).1 ≠ 0) : keyS L s = ((partK L d[k]).1, []) := by
  unfold keyS
  rw [h]
  simp only [ne_eq, not_true_eq_false, if_false]
  rw [mapK_fail h0 (List.getElem?_eq_getElem hk) h1, if_pos h1]
theorem key_ok {L : List DefS} {s : List UInt8} {d : List (List (List UInt8 × List UInt8))} (h : parseL s = (0, d)) (h0 : ∀ y ∈ d, ∀ x ∈ y, (avaK L x).1 = 0) : keyS L s = printL (d.map (partF L)) := by
  unfold keyS
  rw [h]
  simp only [ne_eq, not_true_eq_false, if_false]
  have e : mapK (partK L) d = (0, d.map (partF L)) := by
    rw [mapK_mk (fun y hy => by rw [partK_ok (h0 y hy)])]
    congr 1
    exact List.map_congr_left (fun y hy => by rw [partK_ok (h0 y hy)])
  rw [e]
  simp
theorem avaK_eq (L : List DefS) (x : List UInt8 × List UInt8) : avaK L x = ((normTy L x.1 x.2).1, (smallL (nameTy L x.1), (normTy L x.1 x.2).2)) := rfl
/-- The name of a type that is known. -/
theorem counts_name {L : List DefS} {i : Nat} {d : DefS} {a : AttrS} (hd : L[i]? = some d) (ha : countsD L i = some a) : a.name = d.name := by
  unfold countsD at ha
  rw [countsF, hd] at ha
  simp only at ha
  split at ha
  · cases ha; rfl
  · split at ha
    · cases ha
    · rw [Option.map_eq_some_iff] at ha
      obtain ⟨u, _, rfl⟩ := ha
      rfl
theorem nameTy_of {L : List DefS} {t : List UInt8} {i : Nat} {a : AttrS} (hf : findD L false t = some i) (ha : countsD L i = some a) : nameTy L t = a.name := by
  obtain ⟨d, hd, _⟩ := findD_at hf
  unfold nameTy nameOf
  rw [hf]
  simp only
  rw [hd, counts_name hd ha]
theorem normTy_none {L : List DefS} {t v : List UInt8} (hf : findD L false t = none) : normTy L t v = (52, []) := by unfold normTy; rw [hf]
end Go.Proofs.YtcjobpcbppcdnaaGreatDoor
/- Contracts: Key. -/
namespace Go.Proofs.YtcjobpcbppcdnaaGreatDoor
open Go.RowKit Go.Sort

theorem parse_fits {s : List UInt8} {d : List (List (List UInt8 × List UInt8))} (h : parseL s = (0, d)) : tooLongL d = false := by
  unfold parseL at h
  split at h
  · simp at h
  · next h1 =>
    split at h
    · simp at h
    · next d' hd =>
      split at h
      · simp at h
      · next h2 =>
        cases h
        simpa using h2
theorem store_ava (w : World) (g j : Nat) (l : List (List UInt8 × List UInt8)) (h : RowA w g l) (hj : j < l.length) (u : Value) :
    w.cell? ⟨g, j * 2, none⟩ = some (.string ⟨l[j].1.toArray⟩) ∧ w.frozen? ⟨g, j * 2, none⟩ = false ∧ (w.setCell ⟨g, j * 2, none⟩ u).cell? ⟨g, j * 2 + 1, none⟩ = some (.string ⟨l[j].2.toArray⟩) ∧ (w.setCell ⟨g, j * 2, none⟩ u).frozen? ⟨g, j * 2 + 1, none⟩ = false := by
  have a := h.at2 (List.getElem?_eq_getElem hj)
  refine ⟨a.1, a.2.2.1, (set_other _ _ _ _ _ (by omega)).trans a.2.1, ?_⟩
  rw [World.frozen?_setCell]
  exact a.2.2.2
theorem name_bound {L : List DefS} (hlim : ∀ d ∈ L, DefLim d) (t : List UInt8) : (nameTy L t).length ≤ 1000000 := by
  unfold nameTy
  cases hf : findD L false t with
  | none => simp
  | some i =>
    simp only
    unfold nameOf
    cases hd : L[i]? with
    | none => simp
    | some d =>
      simp only
      have h := hlim d (List.mem_of_getElem? hd)
      unfold DefS.name
      cases hn : d.names with
      | nil => exact h.oid
      | cons x t => exact h.names.2 x (by rw [hn]; simp)
set_option maxRecDepth 100000 in
set_option maxHeartbeats 4000000 in
theorem Key_bad (s : Nat) (L : List DefS) (x : List UInt8) (w : World) (hw : Env w) (her : (parseL x).1 ≠ 0) :
    Calls Tryz.prog 15 #[ptrV s, .string ⟨x.toArray⟩] w fun e w' => e = .returned (intStr (keyS L x)) ∧ Below w.heap.size w w' := by
  rw [key_bad her]
  have hP := Parse_c x w hw
  generalize parseL x = ps at *
  obtain ⟨er, d⟩ := ps
  have hbn : ((er : Int) != 0) = true := bne_iff_ne.2 her
  have HP := Lib.hid hP
  clear hP her
  unfold ptrV
  go_enter Tryz.func15, Tryz.ntmps15
  go_wp2_with (go_at_call 33; refine HP.out.mono ?_; rintro e w1 ⟨hb1, v, rfl, hd⟩; obtain ⟨A0, c0, rfl, hc0⟩ := hd.isSlice)
  go_ret2
  exact ⟨rfl, hb1⟩
set_option maxRecDepth 100000 in
set_option maxHeartbeats 8000000 in
theorem Key_ok (s : Nat) (ps : List Nat) (L : List DefS) (hlim : ∀ d ∈ L, DefLim d) (hrl : ∀ d ∈ L, RuleLim d) (hk : ∀ t i, findD L false t = some i → ∃ a, countsD L i = some a) (x : List UInt8) (w : World) (hw : Env w) (hS : SchAt w s ps L) (d : List (List (List UInt8 × List UInt8))) (hp : parseL x = (0, d)) :
    Calls Tryz.prog 15 #[ptrV s, .string ⟨x.toArray⟩] w fun e w' => e = .returned (intStr (keyS L x)) ∧ Below w.heap.size w w' := by
  have htl := parse_fits hp
  have hP := Parse_c x w hw
  have hne := parseL_ne (s := x)
  have hty := parse_type (s := x)
  rw [hp] at hP hne hty
  simp only at hne hty
  have hbn : ((0 : Int) != 0) = false := by decide
  have HP := Lib.hid hP
  have HNE := Lib.hid hne
  have hd20 : d.length ≤ 20 := by unfold tooLongL at htl; simp at htl; omega
  have HSM : Hid (∀ p ∈ d, p.length ≤ 4 ∧ ∀ x ∈ p, x.1.length ≤ 64 ∧ x.2.length ≤ 1024) := by
    refine Lib.hid fun p hp => ?_
    unfold tooLongL at htl
    rw [Bool.or_eq_false_iff] at htl
    have h1 := List.any_eq_false.1 htl.2 p hp
    unfold rdnLongB at h1
    simp only [Bool.or_eq_true, decide_eq_true_eq, not_or] at h1
    refine ⟨by omega, fun x hx => ?_⟩
    have h2 : p.any avaLongB = false := by simpa using h1.2
    have h3 := List.any_eq_false.1 h2 x hx
    unfold avaLongB at h3
    simp at h3
    refine ⟨?_, h3⟩
    have h4 := hty p hp x hx
    unfold isTypeL at h4
    split at h4
    · simp at h4
    · next e => rw [e]; simp only [Bool.and_eq_true, decide_eq_true_eq] at h4; exact h4.1
  have HAN : Hid (∀ (t : List UInt8) (W : World), Below w.heap.size w W → t.length ≤ 64 → findD L false t = none → Calls Tryz.prog 13 #[.pointer (some ⟨s, 0, none⟩), .string ⟨t.toArray⟩] W fun e w' => e = .returned (.tuple #[attrV noAttr (.slice none 0 0), .int .i64 52]) ∧ Below W.heap.size W w') := Lib.hid fun t W h hl hf => (Attr_none s ps L t W (hS.below h) (by omega) hf).mono (by
    rintro e w' ⟨h1, h2⟩
    exact ⟨h2, h1⟩)
  have HAS : Hid (∀ (t : List UInt8) (i : Nat) (a : AttrS) (W : World), Below w.heap.size w W → t.length ≤ 64 → findD L false t = some i → countsD L i = some a → Calls Tryz.prog 13 #[.pointer (some ⟨s, 0, none⟩), .string ⟨t.toArray⟩] W fun e w' => ∃ A n c, e = .returned (.tuple #[attrV a (.slice A n c), .int .i64 0]) ∧ Below W.heap.size W w') := Lib.hid fun t i a W h hl hf ha => (Attr_some s ps L hlim t i a W (hS.below h) (by omega) hf ha).mono (by
    rintro e w' ⟨h1, nv, rfl, h2⟩
    obtain ⟨A, c, rfl, _⟩ := h2.isSlice
    exact ⟨A, _, c, rfl, h1⟩)
  have HNT : Hid (∀ (t v : List UInt8) (W : World), Below w.heap.size w W → t.length ≤ 64 → Calls Tryz.prog 34 #[.pointer (some ⟨s, 0, none⟩), .string ⟨t.toArray⟩, .string ⟨v.toArray⟩] W fun e w' => e = .returned (.tuple #[.string ⟨(normTy L t v).2.toArray⟩, .int .i64 (normTy L t v).1]) ∧ Below W.heap.size W w') := Lib.hid fun t v W h hl => NormTy_c s ps L hlim hrl hk t v W (hw.keep h) (hS.below h) (by omega)
  have HNM := Lib.hid (name_bound hlim)
  have HK := Lib.hid hk
  have HKF : Hid (∀ (k : Nat) (hk : k < d.length) (p : List (List UInt8 × List UInt8)) (j : Nat) (hj : j < p.length), d[k] = p → (∀ y ∈ d.take k, ∀ z ∈ y, (avaK L z).1 = 0) → (∀ y ∈ p.take j, (avaK L y).1 = 0) → (avaK L p[j]).1 ≠ 0 → keyS L x = ((avaK L p[j]).1, [])) := Lib.hid fun k hk p j hj he h0 h1 h2 => by
    subst he
    have h3 := partK_fail hj h1 h2
    have h4 := key_fail (L := L) hp hk (fun y hy => by rw [partK_ok (h0 y hy)]) (by rw [h3]; exact h2)
    rw [h4, h3]
  have HKO : Hid ((∀ y ∈ d, ∀ z ∈ y, (avaK L z).1 = 0) → keyS L x = printL (d.map (partF L))) := Lib.hid fun h => key_ok hp h
  clear hP hne hty htl hS hlim hrl hk hp
  unfold ptrV
  unfold attrV attrCells noAttr at HAN
  go_enter Tryz.func15, Tryz.ntmps15
  go_wp2_with fail
  refine HP.out.mono ?_
  rintro e w1 ⟨hb1, v, rfl, hd⟩
  change DnAt w.heap.size w1 v d at hd
  obtain ⟨A0, c0, rfl, hc0⟩ := hd.isSlice
  by_cases hdn : d = []
  · subst hdn
    have hPr := Print_c [] (.slice A0 0 c0) w1 (hw.keep hb1) hd.reads (by simp) (by simp)
    rw [show printL [] = (0, []) by decide] at hPr
    simp only [intStr] at hPr
    have HPr := Lib.hid hPr
    have hfin : keyS L x = (0, []) := by rw [HKO.out (by simp), List.map_nil]; decide
    have HF := Lib.hid hfin
    clear hPr hfin
    simp only [List.length_nil]
    go_wp2_with fail
    go_loopg [25] 0 (fun gk i wr => i = .int .i64 0 ∧ wr = w1)
    case atStart => exact ⟨rfl, rfl⟩
    case round =>
      obtain ⟨rfl, rfl⟩ := hrel
      go_wp2_with (go_at_call 37; refine HPr.out.mono ?_; rintro e w2 ⟨rfl, hb2⟩)
      go_ret2
      rw [HF.out]
      exact ⟨rfl, hb1.trans (hb2.mono hb1.size)⟩
  · have hlpos : 0 < d.length := List.length_pos_iff.2 hdn
    obtain ⟨gd, rfl⟩ : ∃ gd, A0 = some ⟨gd, 0, none⟩ := by
      obtain ⟨vs, ⟨h1, h2⟩, _⟩ := hd
      rcases h2 with ⟨hv, hn⟩ | ⟨g, cap, cur, hv, _⟩
      · have := (Value.slice.inj hv).2.1; omega
      · have := (Value.slice.inj hv).1; exact ⟨g, this⟩
    have hS0 : NState w.heap.size w1 gd d := hd.nm HNE.out
    clear hd
    go_wp2_with fail
    go_loopg [25] d.length (fun gk i wr => ∃ k : Nat, k ≤ d.length ∧ i = .int .i64 k ∧ Aside (k + gk = d.length) ∧ Below w.heap.size w wr ∧ NState w.heap.size wr gd (uptoF (partF L) d k) ∧ Aside (∀ y ∈ d.take k, ∀ z ∈ y, (avaK L z).1 = 0))
    case atStart => exact ⟨0, by omega, rfl, by show _ = _; omega, hb1, by rw [uptoF_zero]; exact hS0, fun y hy => by simp at hy⟩
    case round =>
      obtain ⟨k, hk, rfl, AG, hB, hS, AD⟩ := hrel
      obtain ⟨wo, hwo⟩ : ∃ wo, wo = wr := ⟨_, rfl⟩
      subst hwo
      by_cases hlt : k < d.length
      · obtain ⟨q, rfl⟩ : ∃ q, gk = q + 1 := ⟨gk - 1, by have := AG.out; omega⟩
        obtain ⟨LM, hL, hNM⟩ := hS
        have hLlen : LM.length = d.length := by have := congrArg List.length hL; rw [List.length_map, uptoF_len] at this; exact this
        obtain ⟨⟨g, cap, p⟩, hLk⟩ : ∃ x, LM[k]? = some x := ⟨_, List.getElem?_eq_getElem (by omega)⟩
        have hpk : d[k] = p := by
          have h1 : (LM.map (·.2.2))[k]? = some p := by rw [List.getElem?_map, hLk]; rfl
          rw [hL, uptoF_at _ _ _ hlt] at h1
          exact Option.some.inj h1
        have hpm : p ∈ d := hpk ▸ List.getElem_mem hlt
        have hx := hNM.2.2.2 k _ hLk
        simp only at hx
        obtain ⟨x1, x2, x3, x4, x5, x6⟩ := hx
        obtain ⟨hp4, hpx⟩ := HSM.out p hpm
        have HL := Lib.hid hL
        have HLK := Lib.hid hLk
        have HPX := Lib.hid hpx
        have HPK := Lib.hid hpk
        have hgd := hNM.1
        clear hL hLk hpx hpk
        go_wp2_with fail
        go_loopg [32] p.length (fun gk i wi => ∃ j : Nat, j ≤ p.length ∧ i = .int .i64 j ∧ Aside (j + gk = p.length) ∧ wo.grownBy wi (some g) ∧ RowA wi g (uptoF (avaN L) p j) ∧ Aside (∀ y ∈ p.take j, (avaK L y).1 = 0))
        case atStart => exact ⟨0, by omega, rfl, by show _ = _; omega, World.grownBy.refl _ _, by rw [uptoF_zero]; exact x3, fun y hy => by simp at hy⟩
        case round =>
          obtain ⟨j, hj, rfl, AG2, hgi, hR, AP⟩ := hrel
          by_cases hjl : j < p.length
          · obtain ⟨q2, rfl⟩ : ∃ q2, gk = q2 + 1 := ⟨gk - 1, by have := AG2.out; omega⟩
            have hAt := uptoF_at (avaN L) p j hjl
            have ha := hR.at2 hAt
            obtain ⟨d0, d1, z0, z1⟩ := ha
            obtain ⟨l64, l1024⟩ := HPX.out p[j] (List.getElem_mem hjl)
            have hlen := uptoF_len (avaN L) p j
            have HSU := Lib.hid (uptoF_succ (avaN L) p j hjl)
            have HR := Lib.hid hR
            have HGI := Lib.hid hgi
            have hglt : g < wr.heap.size := cell_lt d0
            have hBr : Below w.heap.size w wr := hB.grown hgi hB.size (fun k hk => by cases hk; exact x5)
            have hBA := hBr.alloc hBr.size (.cells #[.string ⟨p[j].1.toArray⟩, .string ⟨p[j].2.toArray⟩] 70)
            have kA := Bk.new wr 70 #[.string ⟨p[j].1.toArray⟩, .string ⟨p[j].2.toArray⟩]
            have HBA := Lib.hid hBA
            have HKA := Lib.hid kA
            have HFAIL : Hid ((avaK L p[j]).1 ≠ 0 → keyS L x = ((avaK L p[j]).1, [])) := Lib.hid fun h => HKF.out k hlt p j hjl HPK.out AD.out AP.out h
            clear hR hgi hBr hBA kA
            cases hf : findD L false p[j].1 with
            | none =>
              have hfail : keyS L x = (52, []) := by
                have he : (avaK L p[j]).1 = 52 := by rw [avaK_eq, normTy_none hf]
                rw [HFAIL.out (by rw [he]; decide), he]
              have HF := Lib.hid hfail
              have HC := Lib.hid (HAN.out p[j].1 _ HBA.out l64 hf)
              clear hfail hf
              go_wp2_with (go_at_call 13; refine HC.out.mono ?_; rintro e w2 ⟨rfl, hb2⟩)
              go_ret2
              rw [HF.out]
              exact ⟨rfl, HBA.out.trans ((hb2.alloc hb2.size _).mono HBA.out.size)⟩
            | some i =>
              obtain ⟨a, hca⟩ := HK.out _ _ hf
              have hnm : nameTy L p[j].1 = a.name := nameTy_of hf hca
              have hnl : a.name.length ≤ 1000000 := by rw [← hnm]; exact HNM.out _
              have hav : avaK L p[j] = ((normTy L p[j].1 p[j].2).1, (smallL a.name, (normTy L p[j].1 p[j].2).2)) := by rw [avaK_eq, hnm]
              have hNT := fun W h => HNT.out p[j].1 p[j].2 W h l64
              have HC := Lib.hid (HAS.out p[j].1 i a _ HBA.out l64 hf hca)
              unfold attrV attrCells at HC
              generalize normTy L p[j].1 p[j].2 = nr at hav hNT
              obtain ⟨ne, ns⟩ := nr
              simp only at hav hNT
              have HNT2 := Lib.hid hNT
              have HAV := Lib.hid hav
              clear hNT hav hnm hf hca
              by_cases hne : ne = 0
              · subst hne
                go_wp2_with (first | (go_at_call 13; refine HC.out.mono ?_; rintro e w2 ⟨A, n, c, rfl, hb2⟩; have kA2 := HKA.out.below hb2; have hB2 := HBA.out.trans (hb2.mono HBA.out.size); have f0 := fun z => (kA2.alloc z).cell 0; have f1 := fun z => (kA2.alloc z).cell 1; simp only [List.getElem?_toArray, List.getElem?_cons_zero, List.getElem?_cons_succ] at f0 f1) | (go_at_call 34; refine (HNT2.out _ (hB2.alloc hB2.size _)).mono ?_; rintro e w4 ⟨rfl, hb4⟩; have hB4 := (hB2.alloc hB2.size _).trans (hb4.mono (hB2.alloc hB2.size _).size); have n4 := (hb4.cell (p := ⟨w2.heap.size, 1, none⟩) (by show w2.heap.size < _; rw [World.size_alloc]; omega)).trans ((Bk.new w2 _ _).cell 1); simp only [List.getElem?_toArray, List.getElem?_cons_zero, List.getElem?_cons_succ] at n4; have g4 : wr.grownBy w4 none := World.grownBy.trans (World.grownBy_alloc _ _ _) (World.grownBy.trans (grown_below hb2 none) (World.grownBy.trans (World.grownBy_alloc _ _ _) (grown_below hb4 none)))) | (go_at_call 35; refine (Small_c _ _ (by omega)).mono ?_; rintro e w5 ⟨rfl, hb5⟩; have g5 := World.grownBy.trans g4 (grown_below hb5 none); have hR5 := HR.out.keep g5 (by simp); have ss := store_ava w5 g j _ hR5 (by omega); have s0 := (ss (.string ⟨(smallL a.name).toArray⟩)).1; have s1 := (ss (.string ⟨(smallL a.name).toArray⟩)).2.1; have s2 := (ss (.string ⟨(smallL a.name).toArray⟩)).2.2.1; have s3 := (ss (.string ⟨(smallL a.name).toArray⟩)).2.2.2))
                go_roundg q2
                case measure => omega
                case rel =>
                  refine ⟨j + 1, by omega, by go_num, by have := AG2.out; show _ = _; omega, World.grownBy.trans HGI.out (World.grownBy.trans (grown_any g5 _) (World.grownBy.trans (setCell_grown _ _ _ _) (setCell_grown _ _ _ _))), ?_, ?_⟩
                  · have h := hR5.set (j := j) (by omega) (smallL a.name, ns)
                    rw [← HSU.out, show avaN L p[j] = (smallL a.name, ns) by unfold avaN; rw [HAV.out]]
                    exact h
                  · exact take_all_succ hjl AP.out (by rw [HAV.out])
              · have hfail : keyS L x = (ne, []) := by
                  have he : (avaK L p[j]).1 = ne := by rw [HAV.out]
                  rw [HFAIL.out (by rw [he]; exact hne), he]
                have HF := Lib.hid hfail
                have hq : ((ne : Int) != 0) = true := bne_iff_ne.2 hne
                clear hfail hne
                go_wp2_with (first | (go_at_call 13; refine HC.out.mono ?_; rintro e w2 ⟨A, n, c, rfl, hb2⟩; have kA2 := HKA.out.below hb2; have hB2 := HBA.out.trans (hb2.mono HBA.out.size); have f0 := fun z => (kA2.alloc z).cell 0; have f1 := fun z => (kA2.alloc z).cell 1; simp only [List.getElem?_toArray, List.getElem?_cons_zero, List.getElem?_cons_succ] at f0 f1) | (go_at_call 34; refine (HNT2.out _ (hB2.alloc hB2.size _)).mono ?_; rintro e w4 ⟨rfl, hb4⟩))
                go_ret2
                rw [HF.out]
                exact ⟨rfl, (hB2.alloc hB2.size _).trans (hb4.mono (hB2.alloc hB2.size _).size)⟩
          · obtain rfl : j = p.length := by omega
            have hRp : RowA wr g (p.map (avaN L)) := by rw [uptoF_all] at hR; exact hR
            have hPart := Part_c (p.map (avaN L)) g cap wr hRp (by simp; omega) (by simp; exact x4)
            rw [List.length_map] at hPart
            have hPart' : Calls Tryz.prog 36 #[.slice (some ⟨g, 0, none⟩) p.length cap] wr fun e w' => e = .returned (.slice (some ⟨g, 0, none⟩) (partF L p).length cap) ∧ RowA w' g (partF L p) ∧ wr.grownBy w' (some g) := hPart
            have hnl : (partF L p).length ≤ p.length := by have := partN_len (p.map (avaN L)); rw [List.length_map] at this; exact this
            have HGI := Lib.hid hgi
            have HAP : Hid (∀ z ∈ p, (avaK L z).1 = 0) := Lib.hid (by have := AP.out; rw [List.take_length] at this; exact this)
            clear hRp hPart hR hgi AP
            go_wp2_with fail
            refine hPart'.mono ?_
            rintro e w7 ⟨rfl, hR7, hg7⟩
            have g7 := World.grownBy.trans HGI.out hg7
            have c7 : w7.cell? ⟨gd, k, none⟩ = some (.slice (some ⟨g, 0, none⟩) p.length cap) := g7.cell x1 (by intro e; exact x6 (Option.some.inj e).symm)
            have z7 : w7.frozen? ⟨gd, k, none⟩ = false := (World.frozen?_of_block (a := ⟨gd, k, none⟩) (g7.block gd hgd (by intro e; exact x6 (Option.some.inj e).symm))).trans x2
            have hNM7 := hNM.part HLK.out g7 hR7 (Nat.le_trans hnl x4)
            have hB7 : Below w.heap.size w w7 := hB.grown g7 hB.size (fun k hk => by cases hk; exact x5)
            have hgdB := hNM.2.1
            have HNM7 := Lib.hid hNM7
            have HB7 := Lib.hid hB7
            clear hNM7 hB7
            go_wp2_with fail
            go_roundg q
            case measure => omega
            case rel =>
              refine ⟨k + 1, by omega, by go_num, by have := AG.out; show _ = _; omega, HB7.out.setCell hgdB _, ⟨_, ?_, HNM7.out⟩, ?_⟩
              · rw [List.map_set, HL.out]
                show (uptoF (partF L) d k).set k (partF L p) = _
                rw [← HPK.out]
                exact uptoF_succ (partF L) d k hlt
              · exact take_all_succ (P := fun y => ∀ z ∈ y, (avaK L z).1 = 0) hlt AD.out (by rw [HPK.out]; exact HAP.out)
      · obtain rfl : k = d.length := by omega
        obtain ⟨LM, hL, hNM⟩ := hS
        rw [uptoF_all] at hL
        have hLlen : LM.length = d.length := by have := congrArg List.length hL; simpa using this
        have hall : ∀ y ∈ d, ∀ z ∈ y, (avaK L z).1 = 0 := by have := AD.out; rw [List.take_length] at this; exact this
        have hfin := HKO.out hall
        have hdr := hNM.dnR (c := c0) (by omega)
        rw [hL, hLlen] at hdr
        have hPr := Print_c (d.map (partF L)) (.slice (some ⟨gd, 0, none⟩) d.length c0) wo (hw.keep hB) hdr (by simp; omega) (fun p hp => by
          obtain ⟨p0, hp0, rfl⟩ := List.mem_map.1 hp
          obtain ⟨h4, hx⟩ := HSM.out p0 hp0
          have := partN_len (p0.map (avaN L))
          rw [List.length_map] at this
          refine ⟨by unfold partF; omega, fun x hx' => ?_⟩
          have := partN_mem _ x hx'
          obtain ⟨y, hy, rfl⟩ := List.mem_map.1 this
          show (smallL (nameTy L y.1)).length ≤ _
          rw [smallL_len]
          exact HNM.out _)
        rw [← hfin] at hPr
        obtain ⟨pr, hpr⟩ : ∃ pr, keyS L x = pr := ⟨_, rfl⟩
        rw [hpr] at hPr
        have HF := Lib.hid hpr
        clear hpr
        obtain ⟨pe, ps⟩ := pr
        simp only [intStr] at hPr
        have HPr := Lib.hid hPr
        clear hPr hdr hL hNM hfin hall AD
        go_wp2_with (go_at_call 37; refine HPr.out.mono ?_; rintro e w2 ⟨rfl, hb2⟩)
        go_ret2
        rw [HF.out]
        exact ⟨rfl, hB.trans (hb2.mono hB.size)⟩
end Go.Proofs.YtcjobpcbppcdnaaGreatDoor
/- Contracts: the Names of all definitions of a kind. -/
namespace Go.Proofs.YtcjobpcbppcdnaaGreatDoor
open Go.RowKit

def listedL (L : List DefS) (c : Bool) : List (List UInt8) := (L.filter (fun d => d.cls == c)).map DefS.name
theorem listed_succ {L : List DefS} {c : Bool} {j : Nat} (h : j < L.length) : listedL (L.take (j + 1)) c = listedL (L.take j) c ++ (if L[j].cls == c then [L[j].name] else []) := by
  unfold listedL
  rw [List.take_succ_eq_append_getElem h, List.filter_append, List.map_append]
  congr 1
  by_cases hc : (L[j].cls == c) = true
  · rw [if_pos hc]; simp [hc]
  · rw [if_neg hc]; simp [hc]
theorem listed_len (L : List DefS) (c : Bool) : (listedL L c).length ≤ L.length := by
  unfold listedL
  rw [List.length_map]
  exact List.length_filter_le _ _
set_option maxRecDepth 100000 in
set_option maxHeartbeats 4000000 in
theorem listed_c (s : Nat) (ps : List Nat) (L : List DefS) (c : Bool) (w : World) (hS : SchAt w s ps L) (hN : L.length ≤ 1000000) :
    Calls Tryz.prog 28 #[ptrV s, .bool c] w fun e w' => ∃ v, e = .returned v ∧ Below w.heap.size w w' ∧ Own w.heap.size w' v (listedL L c) := by
  obtain ⟨⟨lv, m, es, cn, h1, h2, h3, h4⟩, h5, h6, h7⟩ := id hS
  obtain ⟨Al, cl, rfl, hcl, hpc⟩ := h2
  have cs0 : w.cell? ⟨s, 0, none⟩ = some (.slice Al ps.length cl) := h1.cell 0
  have hslt := h1.lt
  have HPC := Lib.hid hpc
  have HSA := Lib.hid hS
  have HLEN := Lib.hid h5
  have hpl : ps.length ≤ 1000000 := by rw [h5]; exact hN
  clear hS hpc h1 h3 h4 h5 h6 h7
  unfold ptrV
  go_enter Tryz.func28, Tryz.ntmps28
  go_wp2_with fail
  go_loopg [5, 15] ps.length (fun gk v i wr => ∃ (j : Nat) (acc : List (List UInt8)), j ≤ ps.length ∧ i = .int .i64 j ∧ Aside (j + gk = ps.length) ∧ Below w.heap.size w wr ∧ Own w.heap.size wr v acc ∧ Aside (acc = listedL (L.take j) c))
  case atStart => exact ⟨0, [], Nat.zero_le _, rfl, by show _ = _; omega, Below.refl _ _, Own.nil (Nat.le_refl _), rfl⟩
  case round =>
    obtain ⟨j, acc, hj, rfl, AG, hB, hO, AL⟩ := hrel
    obtain ⟨Ao, co, rfl, hco⟩ := hO.isSlice
    by_cases hjl : j < ps.length
    · obtain ⟨q, rfl⟩ : ∃ q, gk = q + 1 := ⟨gk - 1, by have := AG.out; omega⟩
      have hjL : j < L.length := by rw [← HLEN.out]; exact hjl
      have hLj : L[j]? = some L[j] := List.getElem?_eq_getElem hjL
      obtain ⟨g2, rfl, hcells⟩ := HPC.out.resolve_left (by rintro rfl; simp at hjl)
      have cj : w.cell? ⟨g2, j, none⟩ = some (.pointer (some ⟨pAt ps j, 0, none⟩)) := hcells j _ (pAt_get hjl)
      have cq : wr.cell? ⟨g2, j, none⟩ = some (.pointer (some ⟨pAt ps j, 0, none⟩)) := (hB.cell (p := ⟨g2, j, none⟩) (cell_lt cj)).trans cj
      have hD := (HSA.out.below hB).defAt hLj
      obtain ⟨vn, vs, vm, vy, hBK, _⟩ := id hD
      have c0 : wr.cell? ⟨pAt ps j, 0, none⟩ = some (.bool L[j].cls) := hBK.cell 0
      have hNm := dname_c (pAt ps j) L[j] wr hD
      have hsu := listed_succ (c := c) hjL
      have hal : acc.length < 4398046511104 := by
        rw [AL.out]
        have := listed_len (L.take j) c
        simp at this
        omega
      unfold ptrV at hNm
      have HNm := Lib.hid hNm
      clear hcells cj hD hBK hNm hLj
      obtain ⟨b, hb⟩ : ∃ b, L[j].cls = b := ⟨_, rfl⟩
      rw [hb] at c0 hsu
      have HSU := Lib.hid hsu
      clear hb hsu
      cases b <;> cases c
      case false.false | true.true =>
        go_wp2_with (first | (go_at_call 41; refine HNm.out.mono ?_; rintro e w2 ⟨rfl, rfl⟩) | (at_builtin; refine own_one (c := L[j].name) rfl _ _ rfl rfl hO rfl rfl hal ?_; intro v' w4 hO4 hg4))
        go_roundg q
        case measure => omega
        case rel =>
          refine ⟨j + 1, acc ++ [L[j].name], by omega, by go_num, by have := AG.out; show _ = _; omega, hB.grown hg4 hB.size (fun k hk => (hO.lt k hk).1), hO4, ?_⟩
          show _ = _
          rw [HSU.out, ← AL.out]
          rfl
      case false.true | true.false =>
        go_wp2_with fail
        go_roundg q
        case measure => omega
        case rel =>
          refine ⟨j + 1, acc, by omega, by go_num, by have := AG.out; show _ = _; omega, hB, hO, ?_⟩
          show _ = _
          rw [HSU.out, ← AL.out]
          simp
    · obtain rfl : j = ps.length := by omega
      have hfin : acc = listedL L c := by
        rw [AL.out, HLEN.out, List.take_length]
      have HF := Lib.hid hfin
      clear hfin
      go_wp2_with fail
      go_ret
      rw [← HF.out]
      exact ⟨_, rfl, hB, hO⟩
set_option maxRecDepth 100000 in
theorem Attrs_c (s : Nat) (ps : List Nat) (L : List DefS) (w : World) (hS : SchAt w s ps L) (hN : L.length ≤ 1000000) :
    Calls Tryz.prog 12 #[ptrV s] w fun e w' => ∃ v, e = .returned v ∧ Below w.heap.size w w' ∧ Own w.heap.size w' v (listedL L false) := by
  have HC := Lib.hid (listed_c s ps L false w hS hN)
  clear hS
  unfold ptrV at HC ⊢
  go_enter Tryz.func12, Tryz.ntmps12
  go_wp2_with (go_at_call 28; refine HC.out.mono ?_; rintro e w1 ⟨v, rfl, hb, ho⟩)
  go_ret
  exact ⟨_, rfl, hb, ho⟩
set_option maxRecDepth 100000 in
theorem Classes_c (s : Nat) (ps : List Nat) (L : List DefS) (w : World) (hS : SchAt w s ps L) (hN : L.length ≤ 1000000) :
    Calls Tryz.prog 18 #[ptrV s] w fun e w' => ∃ v, e = .returned v ∧ Below w.heap.size w w' ∧ Own w.heap.size w' v (listedL L true) := by
  have HC := Lib.hid (listed_c s ps L true w hS hN)
  clear hS
  unfold ptrV at HC ⊢
  go_enter Tryz.func18, Tryz.ntmps18
  go_wp2_with (go_at_call 28; refine HC.out.mono ?_; rintro e w1 ⟨v, rfl, hb, ho⟩)
  go_ret
  exact ⟨_, rfl, hb, ho⟩
end Go.Proofs.YtcjobpcbppcdnaaGreatDoor
/- Contracts: Base. -/
namespace Go.Proofs.YtcjobpcbppcdnaaGreatDoor
open Go.RowKit

/-- A row of texts that has just been made. -/
theorem own_new {B : Nat} (w : World) (hB : B ≤ w.heap.size) (xs : List (List UInt8)) (hx : xs.length ≤ 1000000) : Own B (w.alloc (.cells (xs.map strV).toArray 9)) (.slice (some ⟨w.heap.size, 0, none⟩) xs.length xs.length) xs := by
  refine ⟨⟨by simp, .inr ⟨w.heap.size, xs.length, (xs.map strV).toArray, rfl, hB, heap_alloc_new w _, Nat.le_refl _, by unfold maxLen; omega, by simp, ?_⟩⟩, by rw [World.size_alloc]; omega⟩
  show (List.take (xs.length * 1) _) = _
  rw [List.take_of_length_le (by simp)]
set_option maxRecDepth 1000000 in
set_option maxHeartbeats 4000000 in
theorem Base_w (w : World) : Calls Tryz.prog 7 #[] w fun e w' => e = .returned (.tuple #[.slice (some ⟨w.heap.size, 0, none⟩) 18 18, .slice (some ⟨w.heap.size + 1, 0, none⟩) 10 10]) ∧ (w.alloc (.cells (baseA.map strV).toArray 9)).alloc (.cells (baseC.map strV).toArray 9) = w' := by
  go_enter Tryz.func7, Tryz.ntmps7
  go_wp2_with fail
  go_ret2
  exact ⟨rfl, rfl⟩
theorem Base_c (w : World) : Calls Tryz.prog 7 #[] w fun e w' => e = .returned (.tuple #[.slice (some ⟨w.heap.size, 0, none⟩) 18 18, .slice (some ⟨w.heap.size + 1, 0, none⟩) 10 10]) ∧ Below w.heap.size w w' ∧ Own w.heap.size w' (.slice (some ⟨w.heap.size, 0, none⟩) 18 18) baseA ∧ Own (w.heap.size + 1) w' (.slice (some ⟨w.heap.size + 1, 0, none⟩) 10 10) baseC := by
  refine (Base_w w).mono ?_
  rintro e w' ⟨rfl, rfl⟩
  have h1 := own_new (B := w.heap.size) w (Nat.le_refl _) baseA (by decide)
  have h2 := own_new (B := w.heap.size + 1) (w.alloc (.cells (baseA.map strV).toArray 9)) (by rw [World.size_alloc]; omega) baseC (by decide)
  rw [World.size_alloc] at h2
  exact ⟨rfl, ((Below.refl _ _).alloc (Nat.le_refl _) _).alloc (by simp) _, h1.below ((Below.refl _ _).alloc (Nat.le_refl _) _), h2⟩
end Go.Proofs.YtcjobpcbppcdnaaGreatDoor
/- Contracts: alive, of chapter 6. -/
namespace Go.Proofs.YtcjobpcbppcdnaaGreatDoor
open Go.RowKit

/-- What is known of a schema that New has made. -/
structure Sound (L : List DefS) : Prop where
  says : NewSays L
  lim : ∀ d ∈ L, DefLim d
  rul : ∀ d ∈ L, RuleLim d
theorem Sound.counts {L : List DefS} (h : Sound L) (t : List UInt8) (i : Nat) (hf : findD L false t = some i) : ∃ a, countsD L i = some a := by
  obtain ⟨d, hd, hc, _⟩ := findD_at hf
  exact h.says.counts hd hc
theorem newL_read {a c : List (List UInt8)} {L : List DefS} (h : newL a c = .inr L) : readAll a.length 0 (a ++ c) [] = .inr L := by
  unfold newL at h
  split at h
  · cases h
  · split at h
    · cases h
    · next L' hr =>
      split at h
      · cases h
      · split at h
        · cases h
        · split at h
          · cases h
          · cases h
            exact hr
theorem sound_of {a c : List (List UInt8)} {L : List DefS} (h : newL a c = .inr L) (hs : ∀ x ∈ a ++ c, x.length ≤ 1000000) : Sound L := by
  have hl := readAll_lim _ _ _ _ _ hs (fun d hd => by simp at hd) (newL_read h)
  exact ⟨newL_says h, fun d hd => (hl.1 d hd).1, fun d hd => (hl.1 d hd).2⟩
theorem texts_at2 {w : World} {b n c : Nat} {xs : List (List UInt8)} (h : Texts w (.slice (some ⟨b, 0, none⟩) n c) xs) {j : Nat} (hj : j < xs.length) : w.cell? ⟨b, j, none⟩ = some (.string ⟨xs[j].toArray⟩) := by
  obtain ⟨g, e, h2⟩ := texts_at h hj
  cases e
  exact h2
theorem base_short : ∀ x ∈ baseA ++ baseC, x.length ≤ 1000 := by decide +kernel
theorem baseA_len : baseA.length = 18 := rfl
theorem baseC_len : baseC.length = 10 := rfl
theorem base_sound : Sound baseL := sound_of base_new (fun x hx => Nat.le_trans (base_short x hx) (by decide))
def keyIn : List UInt8 := [79, 85, 61, 32, 88, 32, 43, 99, 111, 109, 109, 111, 110, 78, 97, 109, 101, 61, 89, 44, 68, 67, 61, 90]
def keyOut : List UInt8 := [99, 110, 61, 121, 43, 111, 117, 61, 120, 44, 100, 99, 61, 122]
theorem key_alive : keyS baseL keyIn = (0, keyOut) := by decide +kernel
theorem sub_alive : isSubD baseL [115, 110] [110, 97, 109, 101] = true := by decide +kernel
set_option maxRecDepth 100000 in
set_option maxHeartbeats 4000000 in
theorem Key_c (s : Nat) (ps : List Nat) (L : List DefS) (hL : Sound L) (x : List UInt8) (w : World) (hw : Env w) (hS : SchAt w s ps L) :
    Calls Tryz.prog 15 #[ptrV s, .string ⟨x.toArray⟩] w fun e w' => e = .returned (intStr (keyS L x)) ∧ Below w.heap.size w w' := by
  by_cases h : (parseL x).1 = 0
  · exact Key_ok s ps L hL.lim hL.rul hL.counts x w hw hS (parseL x).2 (by rw [← h])
  · exact Key_bad s L x w hw h
theorem IsSub_s (s : Nat) (ps : List Nat) (L : List DefS) (hL : Sound L) (a b : List UInt8) (w : World) (hS : SchAt w s ps L) (ha : a.length ≤ 1000000) (hb : b.length ≤ 1000000) :
    Calls Tryz.prog 14 #[ptrV s, .string ⟨a.toArray⟩, .string ⟨b.toArray⟩] w fun e w' => e = .returned (.bool (isSubD L a b)) ∧ Below w.heap.size w w' :=
  IsSub_c s ps L a b w hS hL.lim (by have := hL.says.len; omega) (fun d hd n hn => knownD_sup (hL.says.known d hd) n hn) ha hb
set_option maxRecDepth 100000 in
set_option maxHeartbeats 4000000 in
theorem alive_c (w : World) (hw : Env w) : Calls Tryz.prog 8 #[] w fun e w' => e = .returned (.bool true) ∧ Below w.heap.size w w' := by
  have HBs := Lib.hid (Base_c w)
  have HNw : Hid (∀ (va vb : Value) (W : World), Below w.heap.size w W → Texts W va baseA → Texts W vb baseC → Calls Tryz.prog 9 #[va, vb] W fun e w' => Below W.heap.size W w' ∧ ∃ s ps, e = .returned (.tuple #[.pointer (some ⟨s, 0, none⟩), .int .i64 0, .int .i64 0]) ∧ SchAt w' s ps baseL) := Lib.hid fun va vb W h h1 h2 => by
    have := New_c va vb baseA baseC W (hw.keep h) h1 h2 (by rw [baseA_len, baseC_len]; omega) (fun x hx => Nat.le_trans (base_short x hx) (by decide))
    rw [base_new] at this
    exact this
  have HKy : Hid (∀ (s : Nat) (ps : List Nat) (W : World), Below w.heap.size w W → SchAt W s ps baseL → Calls Tryz.prog 15 #[.pointer (some ⟨s, 0, none⟩), .string ⟨#[79, 85, 61, 32, 88, 32, 43, 99, 111, 109, 109, 111, 110, 78, 97, 109, 101, 61, 89, 44, 68, 67, 61, 90]⟩] W fun e w' => e = .returned (.tuple #[.string ⟨#[99, 110, 61, 121, 43, 111, 117, 61, 120, 44, 100, 99, 61, 122]⟩, .int .i64 0]) ∧ Below W.heap.size W w') := Lib.hid fun s ps W h hS => by
    have := Key_c s ps baseL base_sound keyIn W (hw.keep h) hS
    rw [key_alive] at this
    exact this
  have HSu : Hid (∀ (s : Nat) (ps : List Nat) (W : World), SchAt W s ps baseL → Calls Tryz.prog 14 #[.pointer (some ⟨s, 0, none⟩), .string ⟨#[115, 110]⟩, .string ⟨#[110, 97, 109, 101]⟩] W fun e w' => e = .returned (.bool true) ∧ Below W.heap.size W w') := Lib.hid fun s ps W hS => by
    have := IsSub_s s ps baseL base_sound [115, 110] [110, 97, 109, 101] W hS (by decide) (by decide)
    rw [sub_alive] at this
    exact this
  clear hw
  go_enter Tryz.func8, Tryz.ntmps8
  go_wp2_with (first | (go_at_call 7; refine HBs.out.mono ?_; rintro e w1 ⟨rfl, hb1, hA1, hC1⟩) | (go_at_call 9; refine (HNw.out _ _ _ hb1 hA1.texts hC1.texts).mono ?_; rintro e w2 ⟨hb2, s, ps, rfl, hS2⟩; have hB2 := hb1.trans (hb2.mono hb1.size)) | (go_at_call 15; refine (HKy.out s ps _ hB2 hS2).mono ?_; rintro e w3 ⟨rfl, hb3⟩; have hB3 := hB2.trans (hb3.mono hB2.size); have hS3 := hS2.below hb3) | (go_at_call 14; refine (HSu.out s ps _ hS3).mono ?_; rintro e w4 ⟨rfl, hb4⟩))
  all_goals
    go_ret
    exact ⟨rfl, hB3.trans (hb4.mono hB3.size)⟩
end Go.Proofs.YtcjobpcbppcdnaaGreatDoor
