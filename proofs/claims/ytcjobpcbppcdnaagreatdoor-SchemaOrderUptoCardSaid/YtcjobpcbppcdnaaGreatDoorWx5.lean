/- Contracts: what is done at a rule's, a syntax's, a usage's word. -/
import Derived.Test.YtcjobpcbppcdnaaGreatDoorWx4
import Derived.Test.YtcjobpcbppcdnaaGreatDoorWx2
import Derived.Deep.RegionHeld3
import Derived.WalkMore
import Derived.Test.YtcjobpcbppcdnaaGreatDoorWx1
import Derived.ScopeJumps
set_option linter.all false
namespace Go.Proofs.YtcjobpcbppcdnaaGreatDoor
open Go.RowKit

theorem rule_w (s : List UInt8) (w : World) (hs : s.length ≤ 1000000) :
    Calls Tryz.prog 134 #[.string ⟨s.toArray⟩] w fun e w' => (∃ (own : List UInt8) (k er : Int), e = .returned (.tuple #[.string ⟨own.toArray⟩, .int .i64 k, .int .i64 er]) ∧ (ruleT (smallL s) = none → er = 41) ∧ (∀ x, ruleT (smallL s) = some x → own = x.1 ∧ k = x.2.1 ∧ er = 0)) ∧ Below w.heap.size w w' := by
  refine (Rule_c s w (by omega)).mono ?_
  rintro e w' ⟨rfl, hb⟩
  refine ⟨?_, hb⟩
  unfold ruleV
  cases ruleT (smallL s) with
  | none => exact ⟨[], 0, 41, rfl, (fun _ => rfl), (fun _ h => by cases h)⟩
  | some x => exact ⟨x.1, x.2.1, 0, rfl, (fun h => by cases h), (fun _ h => by cases h; exact ⟨rfl, rfl, rfl⟩)⟩
theorem plain_n (r : Nat) (l : List Wd) (w : World) (hw : Env w) (h : RdW w r l) (hn : rPlain l = none) :
    Calls Tryz.prog 50 #[.pointer (some ⟨r, 0, none⟩)] w fun e w' => e = .returned (strBool [] false) ∧ w = w' := by
  match l, h with
  | [], h => exact plain_nil r w h
  | (t, true) :: l, h => exact plain_text r t l w h
  | (t, false) :: l, h =>
    cases hc : Lib.contains [40, 41, 36] t
    · simp [rPlain, hc] at hn
    · exact plain_no r t l w hw h hc
/-- As one_w, with the word's length. -/
theorem plain_s (r : Nat) (l : List Wd) (w : World) (hw : Env w) (h : RdW w r l) (hs : Shorts l) :
    Calls Tryz.prog 50 #[.pointer (some ⟨r, 0, none⟩)] w fun e w' => ∃ s : List UInt8, s.length ≤ 1000000 ∧ e = .returned (.tuple #[.string ⟨s.toArray⟩, .bool (rPlain l).isSome]) ∧ Mods [r] w w' ∧ (∀ x, rPlain l = some x → s = x.1 ∧ RdW w' r x.2) := by
  have hp := plain_w r l w hw h
  cases ho : rPlain l with
  | some x =>
    have := one_short (fun _ _ _ => rPlain_cons) hs ho
    refine (one_w 50 rPlain r l w hp).mono ?_
    rintro e w' ⟨s, rfl, hm, hx⟩
    have h1 := (hx x ho).1
    rw [ho] at hx ⊢
    exact ⟨s, by rw [h1]; exact this, rfl, hm, hx⟩
  | none =>
    have h0 := plain_n r l w hw h ho
    refine h0.mono ?_
    rintro e w' ⟨rfl, rfl⟩
    exact ⟨[], by simp, rfl, Mods.refl _ _, fun _ h => by cases h⟩
theorem mods_two {r p : Nat} {w w1 w2 : World} (h : Mods [r] w w1) (hb : Below w1.heap.size w1 w2) : Mods [r, p] w w2 := mods_r (h.trans (Mods.of_below hb _))
theorem set_cell_far {w : World} {p i b : Nat} {v u : Value} (h : w.cell? ⟨b, 0, none⟩ = some u) (hne : b ≠ p) : (w.setCell ⟨p, i, none⟩ v).cell? ⟨b, 0, none⟩ = some u := by
  rw [show (w.setCell ⟨p, i, none⟩ v).cell? ⟨b, 0, none⟩ = w.cell? ⟨b, 0, none⟩ from World.cell?_of_block (Below.heap_setCell _ _ _ _ (fun e => hne e))]
  exact h
def isRule (o : Option (List UInt8 × Int × List (List UInt8) × NormFn)) (k : Int) : Bool := match o with
  | none => false
  | some x => x.2.1 == k
set_option maxRecDepth 100000 in
set_option maxHeartbeats 1000000 in
theorem doRule_w (b1 b2 b3 r p i : Nat) (k : Int) (l : List Wd) (d : DefS) (w : World) (hw : Env w) (hO : Off r) (h1 : w.cell? ⟨b1, 0, none⟩ = some (ptrV r)) (h2 : w.cell? ⟨b2, 0, none⟩ = some (.pointer (some ⟨p, i, none⟩))) (h3 : w.cell? ⟨b3, 0, none⟩ = some (.int .i64 k)) (hb : b2 ≠ r) (hb3 : b3 ≠ r) (hb3p : b3 ≠ p) (hp : p ≠ r)
    (hd : DefAt w p d) (hci : ∀ vn vs vm vy, ∃ v, (defCells d vn vs vm vy)[i]? = some v) (hR : RdW w r l) (hs : Shorts l) :
    Calls Tryz.prog 133 #[ptrV b1, ptrV b2, ptrV b3] w (fun e w' => ∃ (w1 : World) (own : List UInt8), Mods [r] w w1 ∧ w' = w1.setCell ⟨p, i, none⟩ (.string ⟨own.toArray⟩) ∧ match rPlain l with
      | none => e = .returned (.bool false)
      | some x => e = .returned (.bool (isRule (ruleT (smallL x.1)) k)) ∧ RdW w1 r x.2 ∧ (∀ y, ruleT (smallL x.1) = some y → own = y.1)) := by
  have HL := Lib.hid (plain_s r l w hw hR hs)
  have h1' : w.cell? ⟨b1, 0, none⟩ = some (.pointer (some ⟨r, 0, none⟩)) := h1
  have HF := Lib.hid (show ∀ w1, Mods [r] w w1 → w1.frozen? ⟨p, i, none⟩ = false ∧ ∃ v, w1.cell? ⟨p, i, none⟩ = some v from fun w1 hm => by
    obtain ⟨vn, vs, vm, vy, hB, _⟩ := hd
    obtain ⟨v, hv⟩ := hci vn vs vm vy
    have hB1 := hm.bk hB (by simpa using hp)
    exact ⟨hB1.frozen i, v, (hB1.cell i).trans hv⟩)
  have hb' : b2 ∉ [r] := by simpa using hb
  have hb3' : b3 ∉ [r] := by simpa using hb3
  clear h1 hR hd hci
  unfold ptrV
  cases ho : rPlain l with
  | none =>
    rw [ho] at HL
    simp only [Option.isSome_none] at HL
    go_enter Tryz.func133, Tryz.ntmps133
    go_wp2_with (first | (go_at_call 50; refine HL.out.mono ?_; rintro e w1 ⟨s, hsl, rfl, hm, hx⟩; clear hx) | (go_at_call 134; refine (rule_w s _ hsl).mono ?_; rintro e w2 ⟨⟨own, k2, er, rfl, q1, q2⟩, hb2⟩; clear q1 q2; have hm2 := hm.trans (Mods.of_below hb2 _); have c2 := hm2.cell h2 hb'; obtain ⟨c4, v3, c3⟩ := HF.out _ hm2; have c5 := set_cell_far (i := i) (v := .string ⟨own.toArray⟩) (hm2.cell h3 hb3') hb3p))
    go_ret
    exact ⟨w2, own, hm2, rfl, rfl⟩
  | some x =>
    obtain ⟨s, t⟩ := x
    have hsl := one_short (fun _ _ _ => rPlain_cons) hs ho
    simp only at hsl
    have HP : Hid (Calls Tryz.prog 50 #[.pointer (some ⟨r, 0, none⟩)] w fun e w' => e = .returned (.tuple #[.string ⟨s.toArray⟩, .bool true]) ∧ Mods [r] w w' ∧ RdW w' r t) := Lib.hid (HL.out.mono (by
      rintro e w' ⟨s', _, rfl, hm, hx⟩
      obtain ⟨rfl, hr⟩ := hx _ ho
      rw [ho]
      exact ⟨rfl, hm, hr⟩))
    clear HL ho hs
    simp only
    cases hr : ruleT (smallL s) with
    | none =>
      go_enter Tryz.func133, Tryz.ntmps133
      go_wp2_with (first | (go_at_call 50; refine HP.out.mono ?_; rintro e w1 ⟨rfl, hm, hrd⟩) | (go_at_call 134; refine (rule_w s _ hsl).mono ?_; rintro e w2 ⟨⟨own, k2, er, rfl, q1, q2⟩, hb2⟩; obtain rfl := q1 hr; clear q1 q2; have hm2 := hm.trans (Mods.of_below hb2 _); have c2 := hm2.cell h2 hb'; obtain ⟨c4, v3, c3⟩ := HF.out _ hm2; have c5 := set_cell_far (i := i) (v := .string ⟨own.toArray⟩) (hm2.cell h3 hb3') hb3p))
      go_ret
      exact ⟨w2, own, hm2, rfl, rfl, hrd.below hb2, fun _ h => by cases h⟩
    | some y =>
      have HR := Lib.hid hr
      clear hr
      cases hk : (y.2.1 == k)
      all_goals
        have hk2 : isRule (some y) k = _ := hk
        have HK := Lib.hid hk2
        clear hk2
        go_enter Tryz.func133, Tryz.ntmps133
        go_wp2_with (first | (go_at_call 50; refine HP.out.mono ?_; rintro e w1 ⟨rfl, hm, hrd⟩) | (go_at_call 134; refine (rule_w s _ hsl).mono ?_; rintro e w2 ⟨⟨own, k2, er, rfl, q1, q2⟩, hb2⟩; obtain ⟨rfl, rfl, rfl⟩ := q2 _ HR.out; clear q1 q2; have hm2 := hm.trans (Mods.of_below hb2 _); have c2 := hm2.cell h2 hb'; obtain ⟨c4, v3, c3⟩ := HF.out _ hm2; have c5 := set_cell_far (i := i) (v := .string ⟨y.1.toArray⟩) (hm2.cell h3 hb3') hb3p))
        go_ret
        rw [HK.out]
        exact ⟨w2, y.1, hm2, rfl, rfl, hrd.below hb2, fun _ h => by cases h; rfl⟩
theorem rRule_eq (k : Int) (l : List Wd) : rRule k l = match rPlain l with
      | none => none
      | some x => if isRule (ruleT (smallL x.1)) k then (match ruleT (smallL x.1) with
        | none => none
        | some y => some (y.1, x.2)) else none := by
  unfold rRule isRule
  cases rPlain l with
  | none => rfl
  | some x =>
    simp only
    cases ruleT (smallL x.1) <;> rfl
theorem doRule_c (b1 b2 b3 r p i : Nat) (k : Int) (l : List Wd) (d : DefS) (w : World) (hw : Env w) (hO : Off r) (h1 : w.cell? ⟨b1, 0, none⟩ = some (ptrV r)) (h2 : w.cell? ⟨b2, 0, none⟩ = some (.pointer (some ⟨p, i, none⟩))) (h3 : w.cell? ⟨b3, 0, none⟩ = some (.int .i64 k)) (hb : b2 ≠ r) (hb3 : b3 ≠ r) (hb3p : b3 ≠ p) (hp : p ≠ r)
    (hd : DefAt w p d) (hci : ∀ vn vs vm vy, ∃ v, (defCells d vn vs vm vy)[i]? = some v) (hR : RdW w r l) (hs : Shorts l) (F : List UInt8 → DefS) (hF : ∀ w1 x, DefAt w1 p d → DefAt (w1.setCell ⟨p, i, none⟩ (.string ⟨x.toArray⟩)) p (F x)) :
    Calls Tryz.prog 133 #[ptrV b1, ptrV b2, ptrV b3] w (FieldRet w r p ((rRule k l).map fun x => (F x.1, x.2))) := by
  refine (doRule_w b1 b2 b3 r p i k l d w hw hO h1 h2 h3 hb hb3 hb3p hp hd hci hR hs).mono ?_
  rintro e w' ⟨w1, own, hm, rfl, ho⟩
  have hd1 := hd.modr hR hp hm
  refine ⟨mods_set (mods_r hm) _, ?_⟩
  rw [rRule_eq]
  cases hp : rPlain l with
  | none => rw [hp] at ho; exact ho
  | some x =>
    rw [hp] at ho
    obtain ⟨rfl, hr, hy⟩ := ho
    simp only
    cases hr2 : ruleT (smallL x.1) with
    | none => rfl
    | some y =>
      obtain rfl := hy y hr2
      cases hk : isRule (some y) k
      · rfl
      · exact ⟨rfl, rd_set hr hd1 (by assumption) _, hF _ _ hd1⟩
set_option maxRecDepth 100000 in
set_option maxHeartbeats 1000000 in
theorem doSyntax_w (b1 b2 r p : Nat) (l : List Wd) (d : DefS) (w : World) (hw : Env w) (hO : Off r) (h1 : w.cell? ⟨b1, 0, none⟩ = some (ptrV r)) (h2 : w.cell? ⟨b2, 0, none⟩ = some (ptrV p)) (hb : b2 ≠ r) (hp : p ≠ r)
    (hd : DefAt w p d) (hR : RdW w r l) (hs : Shorts l) :
    Calls Tryz.prog 96 #[ptrV b1, ptrV b2] w (fun e w' => ∃ (w1 : World) (f : List UInt8), Mods [r] w w1 ∧ w' = w1.setCell ⟨p, 6, none⟩ (.string ⟨f.toArray⟩) ∧ match rPlain l with
      | none => e = .returned (.bool false)
      | some x => e = .returned (.bool (formE x.1 == 0)) ∧ RdW w1 r x.2 ∧ f = formF x.1) := by
  have HL := Lib.hid (plain_s r l w hw hR hs)
  have h1' : w.cell? ⟨b1, 0, none⟩ = some (.pointer (some ⟨r, 0, none⟩)) := h1
  have h2' : w.cell? ⟨b2, 0, none⟩ = some (.pointer (some ⟨p, 0, none⟩)) := h2
  have HF := Lib.hid (show ∀ w1, Mods [r] w w1 → w1.frozen? ⟨p, 6, none⟩ = false ∧ ∃ v, w1.cell? ⟨p, 6, none⟩ = some v from fun w1 hm => by
    obtain ⟨vn, vs, vm, vy, hB, _⟩ := hd
    have hB1 := hm.bk hB (by simpa using hp)
    exact ⟨hB1.frozen 6, _, (hB1.cell 6).trans rfl⟩)
  have hb' : b2 ∉ [r] := by simpa using hb
  clear h1 h2 hR hd
  unfold ptrV
  cases ho : rPlain l with
  | none =>
    rw [ho] at HL
    simp only [Option.isSome_none] at HL
    go_enter Tryz.func96, Tryz.ntmps96
    go_wp2_with (first | (go_at_call 50; refine HL.out.mono ?_; rintro e w1 ⟨s, hsl, rfl, hm, hx⟩; clear hx; have c2 := hm.cell h2' hb'; obtain ⟨c4, v3, c3⟩ := HF.out _ hm) | (go_at_call 97; refine (sForm_c s _).mono ?_; unfold strE; rintro e w2 ⟨rfl, rfl⟩))
    go_ret
    exact ⟨w1, formF s, hm, rfl, rfl⟩
  | some x =>
    obtain ⟨s, t⟩ := x
    have HP : Hid (Calls Tryz.prog 50 #[.pointer (some ⟨r, 0, none⟩)] w fun e w' => e = .returned (.tuple #[.string ⟨s.toArray⟩, .bool true]) ∧ Mods [r] w w' ∧ RdW w' r t) := Lib.hid (HL.out.mono (by
      rintro e w' ⟨s', _, rfl, hm, hx⟩
      obtain ⟨rfl, hr⟩ := hx _ ho
      rw [ho]
      exact ⟨rfl, hm, hr⟩))
    clear HL ho hs
    simp only
    go_enter Tryz.func96, Tryz.ntmps96
    go_wp2_with (first | (go_at_call 50; refine HP.out.mono ?_; rintro e w1 ⟨rfl, hm, hrd⟩; have c2 := hm.cell h2' hb'; obtain ⟨c4, v3, c3⟩ := HF.out _ hm) | (go_at_call 97; refine (sForm_c s _).mono ?_; unfold strE; rintro e w2 ⟨rfl, rfl⟩))
    go_ret
    exact ⟨w1, formF s, hm, rfl, rfl, hrd, rfl⟩
theorem doSyntax_c (b1 b2 r p : Nat) (l : List Wd) (d : DefS) (w : World) (hw : Env w) (hO : Off r) (h1 : w.cell? ⟨b1, 0, none⟩ = some (ptrV r)) (h2 : w.cell? ⟨b2, 0, none⟩ = some (ptrV p)) (hb : b2 ≠ r) (hp : p ≠ r)
    (hd : DefAt w p d) (hR : RdW w r l) (hs : Shorts l) :
    Calls Tryz.prog 96 #[ptrV b1, ptrV b2] w (FieldRet w r p (match rPlain l with
    | none => none
    | some (s, t) => if formE s == 0 then some ({ d with form := formF s }, t) else none)) := by
  refine (doSyntax_w b1 b2 r p l d w hw hO h1 h2 hb hp hd hR hs).mono ?_
  rintro e w' ⟨w1, f, hm, rfl, ho⟩
  have hd1 := hd.modr hR hp hm
  refine ⟨mods_set (mods_r hm) _, ?_⟩
  cases hq : rPlain l with
  | none => rw [hq] at ho; exact ho
  | some x =>
    rw [hq] at ho
    obtain ⟨rfl, hr, rfl⟩ := ho
    simp only
    cases hk : formE x.1 == 0
    · rfl
    · exact ⟨rfl, rd_set hr hd1 hp _, set_form hd1 _⟩
set_option maxRecDepth 100000 in
set_option maxHeartbeats 1000000 in
theorem doUsage_w (b1 b2 r p : Nat) (l : List Wd) (d : DefS) (w : World) (hw : Env w) (hO : Off r) (h1 : w.cell? ⟨b1, 0, none⟩ = some (ptrV r)) (h2 : w.cell? ⟨b2, 0, none⟩ = some (ptrV p)) (hb : b2 ≠ r) (hbp : b2 ≠ p) (hp : p ≠ r)
    (hd : DefAt w p d) (hR : RdW w r l) (hs : Shorts l) :
    Calls Tryz.prog 99 #[ptrV b1, ptrV b2] w (fun e w' => ∃ (w1 : World) (q : Bool), Mods [r] w w1 ∧ w' = w1.setCell ⟨p, 12, none⟩ (.bool q) ∧ match rPlain l with
      | none => e = .returned (.bool false)
      | some x => e = .returned (.bool (x.1 == wDirectoryoperation || x.1 == wUserapplications)) ∧ RdW w1 r x.2 ∧ q = (x.1 == wDirectoryoperation)) := by
  have HL := Lib.hid (plain_s r l w hw hR hs)
  have h1' : w.cell? ⟨b1, 0, none⟩ = some (.pointer (some ⟨r, 0, none⟩)) := h1
  have h2' : w.cell? ⟨b2, 0, none⟩ = some (.pointer (some ⟨p, 0, none⟩)) := h2
  have HF := Lib.hid (show ∀ w1, Mods [r] w w1 → w1.frozen? ⟨p, 12, none⟩ = false ∧ (∃ v, w1.cell? ⟨p, 12, none⟩ = some v) ∧ (∀ u, (w1.setCell ⟨p, 12, none⟩ u).cell? ⟨p, 12, none⟩ = some u) from fun w1 hm => by
    obtain ⟨vn, vs, vm, vy, hB, _⟩ := hd
    have hB1 := hm.bk hB (by simpa using hp)
    refine ⟨hB1.frozen 12, ⟨_, (hB1.cell 12).trans rfl⟩, fun u => ?_⟩
    rw [(hB1.set 12 u).cell 12]
    simp [defCells])
  have hb' : b2 ∉ [r] := by simpa using hb
  clear h1 h2 hR hd
  unfold ptrV
  cases ho : rPlain l with
  | none =>
    rw [ho] at HL
    simp only [Option.isSome_none] at HL
    go_enter Tryz.func99, Tryz.ntmps99
    go_wp2_with (go_at_call 50; refine HL.out.mono ?_; rintro e w1 ⟨s, hsl, rfl, hm, hx⟩; clear hx; have c2 := hm.cell h2' hb'; obtain ⟨c4, ⟨v3, c3⟩, c5⟩ := HF.out _ hm; clear c5)
    go_ret
    exact ⟨w1, _, hm, rfl, rfl⟩
  | some x =>
    obtain ⟨s, t⟩ := x
    have HP : Hid (Calls Tryz.prog 50 #[.pointer (some ⟨r, 0, none⟩)] w fun e w' => e = .returned (.tuple #[.string ⟨s.toArray⟩, .bool true]) ∧ Mods [r] w w' ∧ RdW w' r t) := Lib.hid (HL.out.mono (by
      rintro e w' ⟨s', _, rfl, hm, hx⟩
      obtain ⟨rfl, hr⟩ := hx _ ho
      rw [ho]
      exact ⟨rfl, hm, hr⟩))
    clear HL ho hs
    simp only
    cases hq1 : s == wDirectoryoperation <;> cases hq2 : s == wUserapplications
    all_goals
      unfold wDirectoryoperation at hq1
      unfold wUserapplications at hq2
      go_enter Tryz.func99, Tryz.ntmps99
      go_wp2_with (go_at_call 50; refine HP.out.mono ?_; rintro e w1 ⟨rfl, hm, hrd⟩; have c2 := hm.cell h2' hb'; obtain ⟨c4, ⟨v3, c3⟩, c5⟩ := HF.out _ hm; have c6 := c5 (.bool true); have c7 := c5 (.bool false); have c8 := fun v => set_cell_far (i := 12) (v := v) c2 hbp; clear c5)
      go_ret
      exact ⟨w1, _, hm, rfl, rfl, hrd, rfl⟩
theorem doUsage_c (b1 b2 r p : Nat) (l : List Wd) (d : DefS) (w : World) (hw : Env w) (hO : Off r) (h1 : w.cell? ⟨b1, 0, none⟩ = some (ptrV r)) (h2 : w.cell? ⟨b2, 0, none⟩ = some (ptrV p)) (hb : b2 ≠ r) (hbp : b2 ≠ p) (hp : p ≠ r)
    (hd : DefAt w p d) (hR : RdW w r l) (hs : Shorts l) :
    Calls Tryz.prog 99 #[ptrV b1, ptrV b2] w (FieldRet w r p (match rPlain l with
    | none => none
    | some (s, t) => if s == wDirectoryoperation || s == wUserapplications then some ({ d with oper := s == wDirectoryoperation }, t) else none)) := by
  refine (doUsage_w b1 b2 r p l d w hw hO h1 h2 hb hbp hp hd hR hs).mono ?_
  rintro e w' ⟨w1, q, hm, rfl, ho⟩
  have hd1 := hd.modr hR hp hm
  refine ⟨mods_set (mods_r hm) _, ?_⟩
  cases hq : rPlain l with
  | none => rw [hq] at ho; exact ho
  | some x =>
    rw [hq] at ho
    obtain ⟨rfl, hr, rfl⟩ := ho
    simp only
    cases hk : (x.1 == wDirectoryoperation || x.1 == wUserapplications)
    · rfl
    · exact ⟨rfl, rd_set hr hd1 hp _, set_oper hd1 _⟩
end Go.Proofs.YtcjobpcbppcdnaaGreatDoor
/- Contracts: the fields that a definition may have. -/
namespace Go.Proofs.YtcjobpcbppcdnaaGreatDoor
open Go.RowKit

theorem setMap_setMap (w : World) (r c c' : Nat) (es es' : Array MapEntry) : World.setMap (World.setMap w r es c) r es' c' = World.setMap w r es' c' := by
  simp [World.setMap]
/-- A map of texts: each entry is younger than the clock. -/
structure MapS (w : World) (m : Nat) (es : Array MapEntry) (c : Nat) (R : List (List UInt8 × Value)) : Prop where
  at_ : w.heap[m]? = some (.map es c)
  has : MapR strV es R
  born : ∀ e ∈ es.toList, e.born < c
theorem now_str (a b : List UInt8) : Instr.sameNow (.string) (strV a) (strV b) = some (decide (a = b)) := by
  simp only [Instr.sameNow, strV]
  congr 1
  show (a.toArray == b.toArray) = decide (a = b)
  rw [Bool.eq_iff_iff, beq_iff_eq, decide_eq_true_iff]
  exact ⟨List.toArray_inj, fun h => by rw [h]⟩
theorem finds_str : Finds Tryz.prog 9 strV := finds_now (D := .string) Tryz.underlying9 now_str
theorem check_str (b : Bool) (w : World) (k : List UInt8) : (Instr.checkKey b 10000 9 (strV k)).run Tryz.prog w = .ok () w := by
  unfold strV
  kernel_rfl
theorem MapS.lt {w : World} {m c : Nat} {es : Array MapEntry} {R : List (List UInt8 × Value)} (h : MapS w m es c R) : m < w.heap.size := (Array.getElem?_eq_some_iff.1 h.at_).1
theorem MapS.put {w : World} {m c : Nat} {es : Array MapEntry} {R : List (List UInt8 × Value)} (h : MapS w m es c R) (k : List UInt8) (v : Value) : MapS (World.setMap w m (es.push { key := strV k, val := v, born := c }) (c + 1)) m (es.push { key := strV k, val := v, born := c }) (c + 1) (R ++ [(k, v)]) := by
  refine ⟨setMap_heap h.lt, h.has.push k v c, ?_⟩
  intro e he
  simp only [Array.toList_push, List.mem_append, List.mem_singleton] at he
  rcases he with he | rfl
  · have := h.born e he; omega
  · simp
theorem MapS.keep {w w' : World} {m c : Nat} {es : Array MapEntry} {R : List (List UInt8 × Value)} (h : MapS w m es c R) (he : w'.heap[m]? = w.heap[m]?) : MapS w' m es c R := ⟨he.trans h.at_, h.has, h.born⟩
theorem MapS.alloc {w : World} {m c : Nat} {es : Array MapEntry} {R : List (List UInt8 × Value)} (h : MapS w m es c R) (o : Obj) : MapS (w.alloc o) m es c R := h.keep (Below.heap_alloc w o m h.lt)
theorem MapS.made (w : World) : MapS (w.alloc (.map #[] 0)) w.heap.size #[] 0 [] := ⟨heap_alloc_new w _, rfl, fun e he => by simp at he⟩
section
variable {w : World} {T E : TypeId} {m c : Nat} {es : Array MapEntry} {R : List (List UInt8 × Value)} {k : List UInt8}
theorem MapS.update (hT : Tryz.prog.underlying T = some (.map 9 E)) (h : MapS w m es c R) (v : Value) (hn : look R k = none) :
    (Instr.mapUpdate T (.map (some m)) (strV k) v).run Tryz.prog w = .ok () (World.setMap w m (es.push { key := strV k, val := v, born := c }) (c + 1)) :=
  map_put hT finds_str check_str w m c es R h.at_ h.has k v hn
theorem MapS.entry (hT : Tryz.prog.underlying T = some (.map 9 E)) {z : Value} (hz : ∀ w, (zeroValue E).run Tryz.prog w = .ok z w) (h : MapS w m es c R) (hn : look R k = none) :
    (Instr.mapEntry T (.map (some m)) (strV k)).run Tryz.prog w = .ok (.tuple #[z, .int .i64 c]) (World.setMap w m (es.push { key := strV k, val := z, born := c }) (c + 1)) := by
  obtain ⟨q, hq, hm⟩ := finds_str w k es R h.has
  rw [hn] at hm
  obtain rfl : q = none := by simpa using hm
  unfold Instr.mapEntry
  simp only [Sem.run_bind, run_underlying hT, Result.andThen_ok]
  simp only [getObj, Sem.run, Sem.run_bind, h.at_, Result.andThen_ok, check_str, hq, hz, setObj, World.setMap, pure]
  rfl
theorem MapS.store (h : MapS w m es c R) (z v : Value) :
    (Instr.entryStore T (.map (some m)) (.int .i64 c) v).run Tryz.prog (World.setMap w m (es.push { key := strV k, val := z, born := c }) (c + 1)) = .ok () (World.setMap w m (es.push { key := strV k, val := v, born := c }) (c + 1)) := by
  have hs := setMap_heap (w := w) (c := c + 1) (es := es.push { key := strV k, val := z, born := c }) h.lt
  have hf : (es.push { key := strV k, val := z, born := c }).findIdx? (fun e => (e.born : Int) == (c : Int)) = some es.size := by
    rw [Array.findIdx?_eq_some_iff_getElem]
    refine ⟨by simp, by simp, ?_⟩
    intro j hj
    have hje : j < es.size := hj
    have := h.born es[j] (by simp)
    rw [Array.getElem_push_lt hje]
    simp
    omega
  have ha : ∀ W : World, (asInt (.int .i64 (c : Int))).run Tryz.prog W = .ok (c : Int) W := fun _ => rfl
  unfold Instr.entryStore
  simp only [Sem.run_bind, getObj, Sem.run, hs, Result.andThen_ok, ha, hf, setObj]
  have e1 : (es.push { key := strV k, val := z, born := c }).modify es.size (fun e => { e with val := v }) = es.push { key := strV k, val := v, born := c } := by
    apply Array.ext
    · simp
    · intro i h1 h2
      rw [Array.getElem_modify]
      by_cases hi : i = es.size
      · subst hi; simp
      · have hlt : i < es.size := by simp at h2; omega
        rw [if_neg (Ne.symm hi), Array.getElem_push_lt hlt, Array.getElem_push_lt hlt]
  rw [e1]
  show Result.ok () _ = _
  congr 1
  have := setMap_setMap w m (c + 1) (c + 1) (es.push { key := strV k, val := z, born := c }) (es.push { key := strV k, val := v, born := c })
  rw [← this]
  rfl
theorem MapS.ask (hT : Tryz.prog.underlying T = some (.map 9 E)) {z : Value} (hz : ∀ w, (zeroValue E).run Tryz.prog w = .ok z w) (h : MapS w m es c R) :
    (Instr.lookup T (.map (some m)) (strV k) true).run Tryz.prog w = .ok (.tuple #[(look R k).getD z, .bool (look R k).isSome]) w :=
  map_look2 hT finds_str check_str hz w m c es R h.at_ h.has k
end
theorem zeroDo (w : World) : (zeroValue 25).run Tryz.prog w = .ok .nilFunc w := by kernel_rfl
theorem underDo : Tryz.prog.underlying 96 = some (.map 9 25) := Tryz.underlying96
def fnV (f : FuncId) (cap : Array Value) : Value := .func (.func f) #[] cap
/-- What the closures of a definition's fields have caught: the boxes of r, of d; and what is done at each word. -/
def fieldsC (br bd b1 b2 b3 : Nat) : List (List UInt8 × Value) := [
  (wName, fnV 91 #[ptrV br, ptrV bd]), (wDesc, fnV 93 #[ptrV br]),
  (wSup, fnV 88 #[ptrV br, ptrV b1]), (wMust, fnV 88 #[ptrV br, ptrV b2]), (wMay, fnV 88 #[ptrV br, ptrV b3])]
set_option maxRecDepth 100000 in
set_option maxHeartbeats 1000000 in
theorem listFn_c (br p i : Nat) (w : World) :
    Calls Tryz.prog 87 #[.pointer (some ⟨p, i, none⟩), .pointer (some ⟨br, 0, none⟩)] w fun e w' => e = .returned (.func (.func 88) #[] #[.pointer (some ⟨br, 0, none⟩), .pointer (some ⟨w.heap.size, 0, none⟩)]) ∧ w' = w.alloc (.cells #[.pointer (some ⟨p, i, none⟩)] 127) := by
  have hmf : ∀ (fn : Fn) (first cap : Array Value) (w : World), (Instr.makeFunc fn first cap).run Tryz.prog w = .ok (.func fn first cap) w := fun _ _ _ _ => rfl
  go_enter Tryz.func87, Tryz.ntmps87
  go_wp2_with fail
  go_ret
  exact ⟨rfl, rfl⟩
set_option maxRecDepth 100000 in
set_option maxHeartbeats 1000000 in
theorem flagFn_c (p i : Nat) (w : World) :
    Calls Tryz.prog 98 #[.pointer (some ⟨p, i, none⟩)] w fun e w' => e = .returned (.func (.func 136) #[] #[.pointer (some ⟨w.heap.size, 0, none⟩)]) ∧ w' = w.alloc (.cells #[.pointer (some ⟨p, i, none⟩)] 133) := by
  have hmf : ∀ (fn : Fn) (first cap : Array Value) (w : World), (Instr.makeFunc fn first cap).run Tryz.prog w = .ok (.func fn first cap) w := fun _ _ _ _ => rfl
  go_enter Tryz.func98, Tryz.ntmps98
  go_wp2_with fail
  go_ret
  exact ⟨rfl, rfl⟩
set_option maxRecDepth 100000 in
set_option maxHeartbeats 1000000 in
theorem ruleFn_c (r p i : Nat) (k : Int) (w : World) :
    Calls Tryz.prog 95 #[.pointer (some ⟨r, 0, none⟩), .pointer (some ⟨p, i, none⟩), .int .i64 k] w fun e w' => e = .returned (.func (.func 133) #[] #[.pointer (some ⟨w.heap.size, 0, none⟩), .pointer (some ⟨w.heap.size + 1, 0, none⟩), .pointer (some ⟨w.heap.size + 1 + 1, 0, none⟩)]) ∧ w' = ((w.alloc (.cells #[.pointer (some ⟨r, 0, none⟩)] 87)).alloc (.cells #[.pointer (some ⟨p, i, none⟩)] 104)).alloc (.cells #[.int .i64 k] 3) := by
  have hmf : ∀ (fn : Fn) (first cap : Array Value) (w : World), (Instr.makeFunc fn first cap).run Tryz.prog w = .ok (.func fn first cap) w := fun _ _ _ _ => rfl
  go_enter Tryz.func95, Tryz.ntmps95
  go_wp2_with fail
  go_ret
  exact ⟨rfl, rfl⟩
theorem setMap_grown (w : World) (m c : Nat) (es : Array MapEntry) : w.grownBy (World.setMap w m es c) (some m) :=
  ⟨rfl, rfl, rfl, by rw [setMap_size]; exact Nat.le_refl _, fun k _ hne => setMap_other (by rintro rfl; exact hne rfl)⟩
theorem MapS.upd {w : World} {m c : Nat} {es : Array MapEntry} {R : List (List UInt8 × Value)} (h : MapS w m es c R) (k : List UInt8) (v : Value) (hn : look R k = none) :
    ∃ W es', (Instr.mapUpdate 96 (.map (some m)) (.string ⟨k.toArray⟩) v).run Tryz.prog w = .ok () W ∧ MapS W m es' (c + 1) (R ++ [(k, v)]) ∧ w.grownBy W (some m) :=
  ⟨_, _, h.update underDo v hn, h.put k v, setMap_grown _ _ _ _⟩
theorem MapS.pair {w : World} {m c : Nat} {es : Array MapEntry} {R : List (List UInt8 × Value)} (h : MapS w m es c R) (k : List UInt8) (v : Value) (hn : look R k = none) :
    ∃ W1 W2 es', (Instr.mapEntry 96 (.map (some m)) (.string ⟨k.toArray⟩)).run Tryz.prog w = .ok (.tuple #[.nilFunc, .int .i64 c]) W1 ∧
      (Instr.entryStore 96 (.map (some m)) (.int .i64 c) v).run Tryz.prog W1 = .ok () W2 ∧ MapS W2 m es' (c + 1) (R ++ [(k, v)]) ∧ w.grownBy W1 (some m) ∧ w.grownBy W2 (some m) :=
  ⟨_, _, _, h.entry underDo zeroDo hn, h.store .nilFunc v, h.put k v, setMap_grown _ _ _ _, setMap_grown _ _ _ _⟩
/-- The closures of a class' fields, and their boxes. -/
structure BoxC (w : World) (B r p br bd b1 b2 b3 : Nat) : Prop where
  r : w.cell? ⟨br, 0, none⟩ = some (ptrV r)
  d : w.cell? ⟨bd, 0, none⟩ = some (ptrV p)
  c1 : w.cell? ⟨b1, 0, none⟩ = some (.pointer (some ⟨p, 3, none⟩))
  c2 : w.cell? ⟨b2, 0, none⟩ = some (.pointer (some ⟨p, 4, none⟩))
  c3 : w.cell? ⟨b3, 0, none⟩ = some (.pointer (some ⟨p, 5, none⟩))
  le : B ≤ br ∧ B ≤ bd ∧ B ≤ b1 ∧ B ≤ b2 ∧ B ≤ b3
/-- What fields hands back, for a class. -/
def FieldsCRet (w : World) (r p : Nat) (e : Ending) (w' : World) : Prop := ∃ m es c br bd b1 b2 b3, e = .returned (.map (some m)) ∧ MapS w' m es c (fieldsC br bd b1 b2 b3) ∧ BoxC w' w.heap.size r p br bd b1 b2 b3 ∧ Below w.heap.size w w'
set_option maxRecDepth 100000 in
set_option maxHeartbeats 2000000 in
theorem fieldsC_c (r p : Nat) (d : DefS) (w : World) (hd : DefAt w p d) (hc : d.cls = true) :
    Calls Tryz.prog 53 #[ptrV p, ptrV r] w (FieldsCRet w r p) := by
  have hmf : ∀ (fn : Fn) (first cap : Array Value) (w : World), (Instr.makeFunc fn first cap).run Tryz.prog w = .ok (.func fn first cap) w := fun _ _ _ _ => rfl
  have hmm := @run_makeMap Tryz.prog
  obtain ⟨vn, vs, vm, vy, hB⟩ := hd.bk
  have hplt := hB.lt
  have hm0 : MapS (((w.alloc (.cells #[.pointer (some ⟨p, 0, none⟩)] 55)).alloc (.cells #[.pointer (some ⟨r, 0, none⟩)] 87)).alloc (.map #[] 0)) (w.heap.size + 1 + 1) #[] 0 [] := by
    have := MapS.made ((w.alloc (.cells #[.pointer (some ⟨p, 0, none⟩)] 55)).alloc (.cells #[.pointer (some ⟨r, 0, none⟩)] 87))
    simpa using this
  obtain ⟨W1, es1, hu1, hm1, hg1⟩ := hm0.upd wName (fnV 91 #[ptrV (w.heap.size + 1), ptrV w.heap.size]) rfl
  obtain ⟨W2, es2, hu2, hm2, hg2⟩ := hm1.upd wDesc (fnV 93 #[ptrV (w.heap.size + 1)]) rfl
  unfold wName fnV ptrV at hu1
  unfold wDesc fnV ptrV at hu2
  have hgg := World.grownBy.trans hg1 hg2
  have jd := (((Bk.new w 55 #[.pointer (some ⟨p, 0, none⟩)]).alloc (.cells #[.pointer (some ⟨r, 0, none⟩)] 87)).alloc (.map #[] 0)).grown hgg (by simp; omega)
  have jr := Bk.new (w.alloc (.cells #[.pointer (some ⟨p, 0, none⟩)] 55)) 87 #[.pointer (some ⟨r, 0, none⟩)]
  rw [World.size_alloc] at jr
  have jr := (jr.alloc (.map #[] 0)).grown hgg (by simp)
  have jp := (((hB.alloc (.cells #[.pointer (some ⟨p, 0, none⟩)] 55)).alloc (.cells #[.pointer (some ⟨r, 0, none⟩)] 87)).alloc (.map #[] 0)).grown hgg (by simp; omega)
  have kd : W2.cell? ⟨w.heap.size, 0, none⟩ = some (.pointer (some ⟨p, 0, none⟩)) := jd.cell 0
  have kr : W2.cell? ⟨w.heap.size + 1, 0, none⟩ = some (.pointer (some ⟨r, 0, none⟩)) := jr.cell 0
  have k0 : W2.cell? ⟨p, 0, none⟩ = some (.bool true) := by rw [jp.cell 0]; simp [defCells, hc]
  have hbel : Below w.heap.size w W2 := ((((Below.refl _ _).alloc (Nat.le_refl _) _).alloc (by simp) _).alloc (by simp; omega) _).grown hgg (by simp; omega) (by intro k hk; cases hk; omega)
  have HB := Lib.hid hbel
  have HM := Lib.hid (hm2 : MapS W2 (w.heap.size + 1 + 1) es2 2 [(wName, fnV 91 #[ptrV (w.heap.size + 1), ptrV w.heap.size]), (wDesc, fnV 93 #[ptrV (w.heap.size + 1)])])
  have HJ := Lib.hid (And.intro jd jr)
  obtain ⟨H, hH⟩ : ∃ H, H = W2.heap.size := ⟨_, rfl⟩
  have hHl : w.heap.size + 1 + 1 < W2.heap.size := hm2.lt
  have hmD : MapS (((W2.alloc (.cells #[.pointer (some ⟨p, 3, none⟩)] 127)).alloc (.cells #[.pointer (some ⟨p, 4, none⟩)] 127)).alloc (.cells #[.pointer (some ⟨p, 5, none⟩)] 127)).drew (w.heap.size + 1 + 1) es2 2 [(wName, fnV 91 #[ptrV (w.heap.size + 1), ptrV w.heap.size]), (wDesc, fnV 93 #[ptrV (w.heap.size + 1)])] := (((hm2.alloc _).alloc _).alloc _).keep rfl
  obtain ⟨W3a, W3, es3, hu3a, hu3, hm3, hg3a, hg3⟩ := hmD.pair wSup (fnV 88 #[ptrV (w.heap.size + 1), ptrV H]) rfl
  obtain ⟨W4a, W4, es4, hu4a, hu4, hm4, hg4a, hg4⟩ := hm3.pair wMust (fnV 88 #[ptrV (w.heap.size + 1), ptrV (H + 1)]) rfl
  obtain ⟨W5a, W5, es5, hu5a, hu5, hm5, hg5a, hg5⟩ := hm4.pair wMay (fnV 88 #[ptrV (w.heap.size + 1), ptrV (H + 1 + 1)]) rfl
  have hgD := World.grownBy.trans (World.grownBy.trans hg3 hg4) hg5
  have s1 : (W2.alloc (.cells #[.pointer (some ⟨p, 3, none⟩)] 127)).cell? ⟨w.heap.size, 0, none⟩ = some (.pointer (some ⟨p, 0, none⟩)) := (jd.alloc _).cell 0
  have s2 : ((W2.alloc (.cells #[.pointer (some ⟨p, 3, none⟩)] 127)).alloc (.cells #[.pointer (some ⟨p, 4, none⟩)] 127)).cell? ⟨w.heap.size, 0, none⟩ = some (.pointer (some ⟨p, 0, none⟩)) := ((jd.alloc _).alloc _).cell 0
  have jD : Bk (((W2.alloc (.cells #[.pointer (some ⟨p, 3, none⟩)] 127)).alloc (.cells #[.pointer (some ⟨p, 4, none⟩)] 127)).alloc (.cells #[.pointer (some ⟨p, 5, none⟩)] 127)).drew _ _ _ := ((jd.alloc _).alloc _).alloc _
  have s3 : (((W2.alloc (.cells #[.pointer (some ⟨p, 3, none⟩)] 127)).alloc (.cells #[.pointer (some ⟨p, 4, none⟩)] 127)).alloc (.cells #[.pointer (some ⟨p, 5, none⟩)] 127)).drew.cell? ⟨w.heap.size, 0, none⟩ = some (.pointer (some ⟨p, 0, none⟩)) := jD.cell 0
  have s4 : W3a.cell? ⟨w.heap.size, 0, none⟩ = some (.pointer (some ⟨p, 0, none⟩)) := (jD.grown hg3a (by simp; omega)).cell 0
  have j3 := jD.grown hg3 (by simp; omega)
  have s5 : W3.cell? ⟨w.heap.size, 0, none⟩ = some (.pointer (some ⟨p, 0, none⟩)) := j3.cell 0
  have s6 : W4a.cell? ⟨w.heap.size, 0, none⟩ = some (.pointer (some ⟨p, 0, none⟩)) := (j3.grown hg4a (by simp; omega)).cell 0
  have j4 := j3.grown hg4 (by simp; omega)
  have s7 : W4.cell? ⟨w.heap.size, 0, none⟩ = some (.pointer (some ⟨p, 0, none⟩)) := j4.cell 0
  have s8 : W5a.cell? ⟨w.heap.size, 0, none⟩ = some (.pointer (some ⟨p, 0, none⟩)) := (j4.grown hg5a (by simp; omega)).cell 0
  have s9 : W5.cell? ⟨w.heap.size, 0, none⟩ = some (.pointer (some ⟨p, 0, none⟩)) := (j4.grown hg5 (by simp; omega)).cell 0
  have hfin : FieldsCRet w r p (.returned (.map (some (w.heap.size + 1 + 1)))) W5 := by
    subst hH
    refine ⟨_, _, _, _, _, _, _, _, rfl, hm5, ?_, ?_⟩
    · have b1 := Bk.new W2 127 #[.pointer (some ⟨p, 3, none⟩)]
      have b2 := Bk.new (W2.alloc (.cells #[.pointer (some ⟨p, 3, none⟩)] 127)) 127 #[.pointer (some ⟨p, 4, none⟩)]
      have b3 := Bk.new ((W2.alloc (.cells #[.pointer (some ⟨p, 3, none⟩)] 127)).alloc (.cells #[.pointer (some ⟨p, 4, none⟩)] 127)) 127 #[.pointer (some ⟨p, 5, none⟩)]
      rw [World.size_alloc] at b2
      rw [World.size_alloc, World.size_alloc] at b3
      have c1 := (((b1.alloc (.cells #[.pointer (some ⟨p, 4, none⟩)] 127)).alloc (.cells #[.pointer (some ⟨p, 5, none⟩)] 127)).drewN 1).grown hgD (by simp; omega)
      have c2 := ((b2.alloc (.cells #[.pointer (some ⟨p, 5, none⟩)] 127)).drewN 1).grown hgD (by simp; omega)
      have c3 := (b3.drewN 1).grown hgD (by simp; omega)
      have cr := ((((jr.alloc (.cells #[.pointer (some ⟨p, 3, none⟩)] 127)).alloc (.cells #[.pointer (some ⟨p, 4, none⟩)] 127)).alloc (.cells #[.pointer (some ⟨p, 5, none⟩)] 127)).drewN 1).grown hgD (by simp)
      exact ⟨cr.cell 0, s9, c1.cell 0, c2.cell 0, c3.cell 0, by omega⟩
    · have h0 : Below w.heap.size w (((W2.alloc (.cells #[.pointer (some ⟨p, 3, none⟩)] 127)).alloc (.cells #[.pointer (some ⟨p, 4, none⟩)] 127)).alloc (.cells #[.pointer (some ⟨p, 5, none⟩)] 127)).drew := ((((hbel.alloc (by omega) _).alloc (by simp; omega) _).alloc (by simp; omega) _).drew)
      exact h0.grown hgD (by simp; omega) (by intro k hk; cases hk; omega)
  have HFIN := Lib.hid hfin
  unfold wSup at hu3a
  unfold fnV ptrV at hu3
  rw [show ((2 : Nat) : Int) = 2 from rfl] at hu3a hu3
  unfold wMust at hu4a
  unfold fnV ptrV at hu4
  rw [show ((2 + 1 : Nat) : Int) = 3 from rfl] at hu4a hu4
  unfold wMay at hu5a
  unfold fnV ptrV at hu5
  rw [show ((2 + 1 + 1 : Nat) : Int) = 4 from rfl] at hu5a hu5
  subst hH
  clear hm2 hm1 hm0 hbel hg1 hg2 hgg hB hd jd jr jp hmD hm3 hm4 hm5 hgD hg3 hg4 hg5 hg3a hg4a hg5a jD j3 j4 hfin HB HM HJ
  unfold ptrV
  go_enter Tryz.func53, Tryz.ntmps53
  go_wp2_with fail
  clear hu1 hu2 hmm hmf
  go_region_held3 (fun w' => w'.cell? ⟨w.heap.size, 0, none⟩ = some (.pointer (some ⟨p, 0, none⟩))) (first | exact kd | exact s1 | exact s2 | exact s3 | exact s4 | exact s5 | exact s6 | exact s7 | exact s8 | exact s9) (first
    | (go_at_call 87; (with_reducible refine (listFn_c (w.heap.size + 1) p 3 _).mono ?_); rintro e w3 ⟨rfl, rfl⟩)
    | (go_at_call 87; (with_reducible refine (listFn_c (w.heap.size + 1) p 4 _).mono ?_); rintro e w4 ⟨rfl, rfl⟩)
    | (go_at_call 87; (with_reducible refine (listFn_c (w.heap.size + 1) p 5 _).mono ?_); rintro e w5 ⟨rfl, rfl⟩))
  all_goals
    go_wp2_with fail
    go_ret
    exact HFIN.out
end Go.Proofs.YtcjobpcbppcdnaaGreatDoor
/- Contracts: the fields that an attribute type may have. (Printed by gen_mr.py.) -/
namespace Go.Proofs.YtcjobpcbppcdnaaGreatDoor
open Go.RowKit

/-- What is done at each word, and what the closures have caught. -/
def fieldsA (br bd : Nat) (e o s : Nat × Nat × Nat) (f1 f2 : Nat) : List (List UInt8 × Value) := [
  (wName, fnV 91 #[ptrV br, ptrV bd]), (wDesc, fnV 93 #[ptrV br]),
  (wSup, fnV 94 #[ptrV br, ptrV bd]),
  (wEquality, fnV 133 #[ptrV e.1, ptrV e.2.1, ptrV e.2.2]), (wOrdering, fnV 133 #[ptrV o.1, ptrV o.2.1, ptrV o.2.2]), (wSubstr, fnV 133 #[ptrV s.1, ptrV s.2.1, ptrV s.2.2]),
  (wSyntax, fnV 96 #[ptrV br, ptrV bd]), (wSingleValue, fnV 136 #[ptrV f1]), (wNoUserModification, fnV 136 #[ptrV f2]),
  (wUsage, fnV 99 #[ptrV br, ptrV bd])]
structure BoxRule (w : World) (B r p i : Nat) (k : Int) (b : Nat × Nat × Nat) : Prop where
  cr : w.cell? ⟨b.1, 0, none⟩ = some (ptrV r)
  ct : w.cell? ⟨b.2.1, 0, none⟩ = some (.pointer (some ⟨p, i, none⟩))
  ck : w.cell? ⟨b.2.2, 0, none⟩ = some (.int .i64 k)
  le : B ≤ b.1 ∧ B ≤ b.2.1 ∧ B ≤ b.2.2
structure BoxA (w : World) (B r p br bd : Nat) (e o s : Nat × Nat × Nat) (f1 f2 : Nat) : Prop where
  cr : w.cell? ⟨br, 0, none⟩ = some (ptrV r)
  cd : w.cell? ⟨bd, 0, none⟩ = some (ptrV p)
  ce : BoxRule w B r p 7 0 e
  co : BoxRule w B r p 8 1 o
  cs : BoxRule w B r p 9 2 s
  c1 : w.cell? ⟨f1, 0, none⟩ = some (.pointer (some ⟨p, 10, none⟩))
  c2 : w.cell? ⟨f2, 0, none⟩ = some (.pointer (some ⟨p, 11, none⟩))
  le : B ≤ br ∧ B ≤ bd ∧ B ≤ f1 ∧ B ≤ f2
def FieldsARet (w : World) (r p : Nat) (e : Ending) (w' : World) : Prop := ∃ m es c br bd eb ob sb f1 f2, e = .returned (.map (some m)) ∧ MapS w' m es c (fieldsA br bd eb ob sb f1 f2) ∧ BoxA w' w.heap.size r p br bd eb ob sb f1 f2 ∧ Below w.heap.size w w'
set_option maxRecDepth 100000 in
set_option maxHeartbeats 4000000 in
theorem fieldsA_c (r p : Nat) (d : DefS) (w : World) (hd : DefAt w p d) (hc : d.cls = false) :
    Calls Tryz.prog 53 #[ptrV p, ptrV r] w (FieldsARet w r p) := by
  have hmf : ∀ (fn : Fn) (first cap : Array Value) (w : World), (Instr.makeFunc fn first cap).run Tryz.prog w = .ok (.func fn first cap) w := fun _ _ _ _ => rfl
  have hmm := @run_makeMap Tryz.prog
  obtain ⟨vn, vs, vm, vy, hB⟩ := hd.bk
  have hplt := hB.lt
  have hm0 : MapS (((w.alloc (.cells #[.pointer (some ⟨p, 0, none⟩)] 55)).alloc (.cells #[.pointer (some ⟨r, 0, none⟩)] 87)).alloc (.map #[] 0)) (w.heap.size + 1 + 1) #[] 0 [] := by
    have := MapS.made ((w.alloc (.cells #[.pointer (some ⟨p, 0, none⟩)] 55)).alloc (.cells #[.pointer (some ⟨r, 0, none⟩)] 87))
    simpa using this
  obtain ⟨W1, es1, hu1, hm1, hg1⟩ := hm0.upd wName (fnV 91 #[ptrV (w.heap.size + 1), ptrV w.heap.size]) rfl
  obtain ⟨W2, es2, hu2, hm2, hg2⟩ := hm1.upd wDesc (fnV 93 #[ptrV (w.heap.size + 1)]) rfl
  obtain ⟨W3, es3, hu3, hm3, hg3⟩ := hm2.upd wSup (fnV 94 #[ptrV (w.heap.size + 1), ptrV w.heap.size]) rfl
  have hg12 := World.grownBy.trans hg1 hg2
  have hgg := World.grownBy.trans hg12 hg3
  have i1 := ((Bk.new w 55 #[.pointer (some ⟨p, 0, none⟩)]).alloc (.cells #[.pointer (some ⟨r, 0, none⟩)] 87)).alloc (.map #[] 0)
  have jd2 := i1.grown hg12 (by simp; omega)
  have jd := i1.grown hgg (by simp; omega)
  have i2 := Bk.new (w.alloc (.cells #[.pointer (some ⟨p, 0, none⟩)] 55)) 87 #[.pointer (some ⟨r, 0, none⟩)]
  rw [World.size_alloc] at i2
  have i2 := i2.alloc (.map #[] 0)
  have jr2 := i2.grown hg12 (by simp)
  have jr := i2.grown hgg (by simp)
  have jp := (((hB.alloc (.cells #[.pointer (some ⟨p, 0, none⟩)] 55)).alloc (.cells #[.pointer (some ⟨r, 0, none⟩)] 87)).alloc (.map #[] 0)).grown hg12 (by simp; omega)
  have k0 : W2.cell? ⟨p, 0, none⟩ = some (.bool false) := by rw [jp.cell 0]; simp [defCells, hc]
  have d2 : W2.cell? ⟨w.heap.size, 0, none⟩ = some (.pointer (some ⟨p, 0, none⟩)) := jd2.cell 0
  have r2 : W2.cell? ⟨w.heap.size + 1, 0, none⟩ = some (.pointer (some ⟨r, 0, none⟩)) := jr2.cell 0
  have d3 : W3.cell? ⟨w.heap.size, 0, none⟩ = some (.pointer (some ⟨p, 0, none⟩)) := jd.cell 0
  have r3 : W3.cell? ⟨w.heap.size + 1, 0, none⟩ = some (.pointer (some ⟨r, 0, none⟩)) := jr.cell 0
  have hbel : Below w.heap.size w W3 := ((((Below.refl _ _).alloc (Nat.le_refl _) _).alloc (by simp) _).alloc (by simp; omega) _).grown hgg (by simp; omega) (by intro k hk; cases hk; omega)
  have hHl : w.heap.size + 1 + 1 < W3.heap.size := hm3.lt
  have d3x : (((W3.alloc (.cells #[.pointer (some ⟨r, 0, none⟩)] 87)).alloc (.cells #[.pointer (some ⟨p, 7, none⟩)] 104)).alloc (.cells #[.int .i64 0] 3)).cell? ⟨w.heap.size, 0, none⟩ = some (.pointer (some ⟨p, 0, none⟩)) := (((jd.alloc _).alloc _).alloc _).cell 0
  have r3x : (((W3.alloc (.cells #[.pointer (some ⟨r, 0, none⟩)] 87)).alloc (.cells #[.pointer (some ⟨p, 7, none⟩)] 104)).alloc (.cells #[.int .i64 0] 3)).cell? ⟨w.heap.size + 1, 0, none⟩ = some (.pointer (some ⟨r, 0, none⟩)) := (((jr.alloc _).alloc _).alloc _).cell 0
  have d3y : ((((((W3.alloc (.cells #[.pointer (some ⟨r, 0, none⟩)] 87)).alloc (.cells #[.pointer (some ⟨p, 7, none⟩)] 104)).alloc (.cells #[.int .i64 0] 3)).alloc (.cells #[.pointer (some ⟨r, 0, none⟩)] 87)).alloc (.cells #[.pointer (some ⟨p, 8, none⟩)] 104)).alloc (.cells #[.int .i64 1] 3)).cell? ⟨w.heap.size, 0, none⟩ = some (.pointer (some ⟨p, 0, none⟩)) := ((((((jd.alloc _).alloc _).alloc _).alloc _).alloc _).alloc _).cell 0
  have r3y : ((((((W3.alloc (.cells #[.pointer (some ⟨r, 0, none⟩)] 87)).alloc (.cells #[.pointer (some ⟨p, 7, none⟩)] 104)).alloc (.cells #[.int .i64 0] 3)).alloc (.cells #[.pointer (some ⟨r, 0, none⟩)] 87)).alloc (.cells #[.pointer (some ⟨p, 8, none⟩)] 104)).alloc (.cells #[.int .i64 1] 3)).cell? ⟨w.heap.size + 1, 0, none⟩ = some (.pointer (some ⟨r, 0, none⟩)) := ((((((jr.alloc _).alloc _).alloc _).alloc _).alloc _).alloc _).cell 0
  have jdD : Bk (((((((((W3.alloc (.cells #[.pointer (some ⟨r, 0, none⟩)] 87)).alloc (.cells #[.pointer (some ⟨p, 7, none⟩)] 104)).alloc (.cells #[.int .i64 0] 3)).alloc (.cells #[.pointer (some ⟨r, 0, none⟩)] 87)).alloc (.cells #[.pointer (some ⟨p, 8, none⟩)] 104)).alloc (.cells #[.int .i64 1] 3)).alloc (.cells #[.pointer (some ⟨r, 0, none⟩)] 87)).alloc (.cells #[.pointer (some ⟨p, 9, none⟩)] 104)).alloc (.cells #[.int .i64 2] 3)).drew _ _ _ := (((((((((jd.alloc _).alloc _).alloc _).alloc _).alloc _).alloc _).alloc _).alloc _).alloc _)
  have jrD : Bk (((((((((W3.alloc (.cells #[.pointer (some ⟨r, 0, none⟩)] 87)).alloc (.cells #[.pointer (some ⟨p, 7, none⟩)] 104)).alloc (.cells #[.int .i64 0] 3)).alloc (.cells #[.pointer (some ⟨r, 0, none⟩)] 87)).alloc (.cells #[.pointer (some ⟨p, 8, none⟩)] 104)).alloc (.cells #[.int .i64 1] 3)).alloc (.cells #[.pointer (some ⟨r, 0, none⟩)] 87)).alloc (.cells #[.pointer (some ⟨p, 9, none⟩)] 104)).alloc (.cells #[.int .i64 2] 3)).drew _ _ _ := (((((((((jr.alloc _).alloc _).alloc _).alloc _).alloc _).alloc _).alloc _).alloc _).alloc _)
  have d3z : (((((((((W3.alloc (.cells #[.pointer (some ⟨r, 0, none⟩)] 87)).alloc (.cells #[.pointer (some ⟨p, 7, none⟩)] 104)).alloc (.cells #[.int .i64 0] 3)).alloc (.cells #[.pointer (some ⟨r, 0, none⟩)] 87)).alloc (.cells #[.pointer (some ⟨p, 8, none⟩)] 104)).alloc (.cells #[.int .i64 1] 3)).alloc (.cells #[.pointer (some ⟨r, 0, none⟩)] 87)).alloc (.cells #[.pointer (some ⟨p, 9, none⟩)] 104)).alloc (.cells #[.int .i64 2] 3)).drew.cell? ⟨w.heap.size, 0, none⟩ = some (.pointer (some ⟨p, 0, none⟩)) := jdD.cell 0
  have r3z : (((((((((W3.alloc (.cells #[.pointer (some ⟨r, 0, none⟩)] 87)).alloc (.cells #[.pointer (some ⟨p, 7, none⟩)] 104)).alloc (.cells #[.int .i64 0] 3)).alloc (.cells #[.pointer (some ⟨r, 0, none⟩)] 87)).alloc (.cells #[.pointer (some ⟨p, 8, none⟩)] 104)).alloc (.cells #[.int .i64 1] 3)).alloc (.cells #[.pointer (some ⟨r, 0, none⟩)] 87)).alloc (.cells #[.pointer (some ⟨p, 9, none⟩)] 104)).alloc (.cells #[.int .i64 2] 3)).drew.cell? ⟨w.heap.size + 1, 0, none⟩ = some (.pointer (some ⟨r, 0, none⟩)) := jrD.cell 0
  have hmD : MapS (((((((((W3.alloc (.cells #[.pointer (some ⟨r, 0, none⟩)] 87)).alloc (.cells #[.pointer (some ⟨p, 7, none⟩)] 104)).alloc (.cells #[.int .i64 0] 3)).alloc (.cells #[.pointer (some ⟨r, 0, none⟩)] 87)).alloc (.cells #[.pointer (some ⟨p, 8, none⟩)] 104)).alloc (.cells #[.int .i64 1] 3)).alloc (.cells #[.pointer (some ⟨r, 0, none⟩)] 87)).alloc (.cells #[.pointer (some ⟨p, 9, none⟩)] 104)).alloc (.cells #[.int .i64 2] 3)).drew (w.heap.size + 1 + 1) es3 3 (_ : List (List UInt8 × Value)) := ((((((((((hm3.alloc _).alloc _).alloc _).alloc _).alloc _).alloc _).alloc _).alloc _).alloc _)).keep rfl
  obtain ⟨W4a, W4, es4, hu4a, hu4, hm4, hg4a, hg4⟩ := hmD.pair wEquality (fnV 133 #[ptrV (W3.heap.size), ptrV (W3.heap.size + 1), ptrV (W3.heap.size + 1 + 1)]) rfl
  obtain ⟨W5a, W5, es5, hu5a, hu5, hm5, hg5a, hg5⟩ := hm4.pair wOrdering (fnV 133 #[ptrV (W3.heap.size + 1 + 1 + 1), ptrV (W3.heap.size + 1 + 1 + 1 + 1), ptrV (W3.heap.size + 1 + 1 + 1 + 1 + 1)]) rfl
  obtain ⟨W6a, W6, es6, hu6a, hu6, hm6, hg6a, hg6⟩ := hm5.pair wSubstr (fnV 133 #[ptrV (W3.heap.size + 1 + 1 + 1 + 1 + 1 + 1), ptrV (W3.heap.size + 1 + 1 + 1 + 1 + 1 + 1 + 1), ptrV (W3.heap.size + 1 + 1 + 1 + 1 + 1 + 1 + 1 + 1)]) rfl
  have hg456 := World.grownBy.trans (World.grownBy.trans hg4 hg5) hg6
  have d4a : W4a.cell? ⟨w.heap.size, 0, none⟩ = some (.pointer (some ⟨p, 0, none⟩)) := (jdD.grown hg4a (by simp; omega)).cell 0
  have r4a : W4a.cell? ⟨w.heap.size + 1, 0, none⟩ = some (.pointer (some ⟨r, 0, none⟩)) := (jrD.grown hg4a (by simp)).cell 0
  have jd4 := jdD.grown hg4 (by simp; omega)
  have jr4 := jrD.grown hg4 (by simp)
  have d4 : W4.cell? ⟨w.heap.size, 0, none⟩ = some (.pointer (some ⟨p, 0, none⟩)) := jd4.cell 0
  have r4 : W4.cell? ⟨w.heap.size + 1, 0, none⟩ = some (.pointer (some ⟨r, 0, none⟩)) := jr4.cell 0
  have d5a : W5a.cell? ⟨w.heap.size, 0, none⟩ = some (.pointer (some ⟨p, 0, none⟩)) := (jd4.grown hg5a (by simp; omega)).cell 0
  have r5a : W5a.cell? ⟨w.heap.size + 1, 0, none⟩ = some (.pointer (some ⟨r, 0, none⟩)) := (jr4.grown hg5a (by simp)).cell 0
  have jd5 := jd4.grown hg5 (by simp; omega)
  have jr5 := jr4.grown hg5 (by simp)
  have d5 : W5.cell? ⟨w.heap.size, 0, none⟩ = some (.pointer (some ⟨p, 0, none⟩)) := jd5.cell 0
  have r5 : W5.cell? ⟨w.heap.size + 1, 0, none⟩ = some (.pointer (some ⟨r, 0, none⟩)) := jr5.cell 0
  have d6a : W6a.cell? ⟨w.heap.size, 0, none⟩ = some (.pointer (some ⟨p, 0, none⟩)) := (jd5.grown hg6a (by simp; omega)).cell 0
  have r6a : W6a.cell? ⟨w.heap.size + 1, 0, none⟩ = some (.pointer (some ⟨r, 0, none⟩)) := (jr5.grown hg6a (by simp)).cell 0
  have jd6 := jd5.grown hg6 (by simp; omega)
  have jr6 := jr5.grown hg6 (by simp)
  have d6 : W6.cell? ⟨w.heap.size, 0, none⟩ = some (.pointer (some ⟨p, 0, none⟩)) := jd6.cell 0
  have r6 : W6.cell? ⟨w.heap.size + 1, 0, none⟩ = some (.pointer (some ⟨r, 0, none⟩)) := jr6.cell 0
  obtain ⟨W7, es7, hu7, hm7, hg7⟩ := hm6.upd wSyntax (fnV 96 #[ptrV (w.heap.size + 1), ptrV w.heap.size]) rfl
  have jd7 := jd6.grown hg7 (by simp; omega)
  have jr7 := jr6.grown hg7 (by simp)
  have d7 : W7.cell? ⟨w.heap.size, 0, none⟩ = some (.pointer (some ⟨p, 0, none⟩)) := jd7.cell 0
  have r7 : W7.cell? ⟨w.heap.size + 1, 0, none⟩ = some (.pointer (some ⟨r, 0, none⟩)) := jr7.cell 0
  have hH7 : w.heap.size + 1 + 1 < W7.heap.size := hm7.lt
  have d7x : (W7.alloc (.cells #[.pointer (some ⟨p, 10, none⟩)] 133)).cell? ⟨w.heap.size, 0, none⟩ = some (.pointer (some ⟨p, 0, none⟩)) := (jd7.alloc _).cell 0
  have r7x : (W7.alloc (.cells #[.pointer (some ⟨p, 10, none⟩)] 133)).cell? ⟨w.heap.size + 1, 0, none⟩ = some (.pointer (some ⟨r, 0, none⟩)) := (jr7.alloc _).cell 0
  have jdE : Bk ((W7.alloc (.cells #[.pointer (some ⟨p, 10, none⟩)] 133)).alloc (.cells #[.pointer (some ⟨p, 11, none⟩)] 133)).drew _ _ _ := ((jd7.alloc _).alloc _)
  have jrE : Bk ((W7.alloc (.cells #[.pointer (some ⟨p, 10, none⟩)] 133)).alloc (.cells #[.pointer (some ⟨p, 11, none⟩)] 133)).drew _ _ _ := ((jr7.alloc _).alloc _)
  have d7y : ((W7.alloc (.cells #[.pointer (some ⟨p, 10, none⟩)] 133)).alloc (.cells #[.pointer (some ⟨p, 11, none⟩)] 133)).drew.cell? ⟨w.heap.size, 0, none⟩ = some (.pointer (some ⟨p, 0, none⟩)) := jdE.cell 0
  have r7y : ((W7.alloc (.cells #[.pointer (some ⟨p, 10, none⟩)] 133)).alloc (.cells #[.pointer (some ⟨p, 11, none⟩)] 133)).drew.cell? ⟨w.heap.size + 1, 0, none⟩ = some (.pointer (some ⟨r, 0, none⟩)) := jrE.cell 0
  have hmE : MapS ((W7.alloc (.cells #[.pointer (some ⟨p, 10, none⟩)] 133)).alloc (.cells #[.pointer (some ⟨p, 11, none⟩)] 133)).drew (w.heap.size + 1 + 1) es7 7 (_ : List (List UInt8 × Value)) := (((hm7.alloc _).alloc _)).keep rfl
  obtain ⟨W8a, W8, es8, hu8a, hu8, hm8, hg8a, hg8⟩ := hmE.pair wSingleValue (fnV 136 #[ptrV W7.heap.size]) rfl
  obtain ⟨W9a, W9, es9, hu9a, hu9, hm9, hg9a, hg9⟩ := hm8.pair wNoUserModification (fnV 136 #[ptrV (W7.heap.size + 1)]) rfl
  have d8a : W8a.cell? ⟨w.heap.size, 0, none⟩ = some (.pointer (some ⟨p, 0, none⟩)) := (jdE.grown hg8a (by simp; omega)).cell 0
  have r8a : W8a.cell? ⟨w.heap.size + 1, 0, none⟩ = some (.pointer (some ⟨r, 0, none⟩)) := (jrE.grown hg8a (by simp)).cell 0
  have jd8 := jdE.grown hg8 (by simp; omega)
  have jr8 := jrE.grown hg8 (by simp)
  have d8 : W8.cell? ⟨w.heap.size, 0, none⟩ = some (.pointer (some ⟨p, 0, none⟩)) := jd8.cell 0
  have r8 : W8.cell? ⟨w.heap.size + 1, 0, none⟩ = some (.pointer (some ⟨r, 0, none⟩)) := jr8.cell 0
  have d9a : W9a.cell? ⟨w.heap.size, 0, none⟩ = some (.pointer (some ⟨p, 0, none⟩)) := (jd8.grown hg9a (by simp; omega)).cell 0
  have r9a : W9a.cell? ⟨w.heap.size + 1, 0, none⟩ = some (.pointer (some ⟨r, 0, none⟩)) := (jr8.grown hg9a (by simp)).cell 0
  have jd9 := jd8.grown hg9 (by simp; omega)
  have jr9 := jr8.grown hg9 (by simp)
  have d9 : W9.cell? ⟨w.heap.size, 0, none⟩ = some (.pointer (some ⟨p, 0, none⟩)) := jd9.cell 0
  have r9 : W9.cell? ⟨w.heap.size + 1, 0, none⟩ = some (.pointer (some ⟨r, 0, none⟩)) := jr9.cell 0
  obtain ⟨W10, es10, hu10, hm10, hg10⟩ := hm9.upd wUsage (fnV 99 #[ptrV (w.heap.size + 1), ptrV w.heap.size]) rfl
  have hgE := World.grownBy.trans (World.grownBy.trans hg8 hg9) hg10
  have hfin : FieldsARet w r p (.returned (.map (some (w.heap.size + 1 + 1)))) W10 := by
    refine ⟨_, _, _, w.heap.size + 1, w.heap.size, (W3.heap.size, W3.heap.size + 1, W3.heap.size + 1 + 1), (W3.heap.size + 1 + 1 + 1, W3.heap.size + 1 + 1 + 1 + 1, W3.heap.size + 1 + 1 + 1 + 1 + 1), (W3.heap.size + 1 + 1 + 1 + 1 + 1 + 1, W3.heap.size + 1 + 1 + 1 + 1 + 1 + 1 + 1, W3.heap.size + 1 + 1 + 1 + 1 + 1 + 1 + 1 + 1), W7.heap.size, W7.heap.size + 1, rfl, hm10, ?_, ?_⟩
    · have hs7 : W3.heap.size + 9 ≤ W7.heap.size := by
        have q1 := hg456.size
        have q2 := hg7.size
        simp at q1
        omega
      have b0 := Bk.new W3 87 #[.pointer (some ⟨r, 0, none⟩)]
      have c0 := ((((((((((((b0.alloc (.cells #[.pointer (some ⟨p, 7, none⟩)] 104)).alloc (.cells #[.int .i64 0] 3)).alloc (.cells #[.pointer (some ⟨r, 0, none⟩)] 87)).alloc (.cells #[.pointer (some ⟨p, 8, none⟩)] 104)).alloc (.cells #[.int .i64 1] 3)).alloc (.cells #[.pointer (some ⟨r, 0, none⟩)] 87)).alloc (.cells #[.pointer (some ⟨p, 9, none⟩)] 104)).alloc (.cells #[.int .i64 2] 3)).drewN 1).grown hg456 (by simp; omega)).grown hg7 (by simp; omega)))
      have e0 := (((c0.alloc (.cells #[.pointer (some ⟨p, 10, none⟩)] 133)).alloc (.cells #[.pointer (some ⟨p, 11, none⟩)] 133)).drewN 1).grown hgE (by simp; omega)
      have b1 := Bk.new (W3.alloc (.cells #[.pointer (some ⟨r, 0, none⟩)] 87)) 104 #[.pointer (some ⟨p, 7, none⟩)]
      rw [World.size_alloc] at b1
      have c1 := (((((((((((b1.alloc (.cells #[.int .i64 0] 3)).alloc (.cells #[.pointer (some ⟨r, 0, none⟩)] 87)).alloc (.cells #[.pointer (some ⟨p, 8, none⟩)] 104)).alloc (.cells #[.int .i64 1] 3)).alloc (.cells #[.pointer (some ⟨r, 0, none⟩)] 87)).alloc (.cells #[.pointer (some ⟨p, 9, none⟩)] 104)).alloc (.cells #[.int .i64 2] 3)).drewN 1).grown hg456 (by simp; omega)).grown hg7 (by simp; omega)))
      have e1 := (((c1.alloc (.cells #[.pointer (some ⟨p, 10, none⟩)] 133)).alloc (.cells #[.pointer (some ⟨p, 11, none⟩)] 133)).drewN 1).grown hgE (by simp; omega)
      have b2 := Bk.new ((W3.alloc (.cells #[.pointer (some ⟨r, 0, none⟩)] 87)).alloc (.cells #[.pointer (some ⟨p, 7, none⟩)] 104)) 3 #[.int .i64 0]
      rw [World.size_alloc, World.size_alloc] at b2
      have c2 := ((((((((((b2.alloc (.cells #[.pointer (some ⟨r, 0, none⟩)] 87)).alloc (.cells #[.pointer (some ⟨p, 8, none⟩)] 104)).alloc (.cells #[.int .i64 1] 3)).alloc (.cells #[.pointer (some ⟨r, 0, none⟩)] 87)).alloc (.cells #[.pointer (some ⟨p, 9, none⟩)] 104)).alloc (.cells #[.int .i64 2] 3)).drewN 1).grown hg456 (by simp; omega)).grown hg7 (by simp; omega)))
      have e2 := (((c2.alloc (.cells #[.pointer (some ⟨p, 10, none⟩)] 133)).alloc (.cells #[.pointer (some ⟨p, 11, none⟩)] 133)).drewN 1).grown hgE (by simp; omega)
      have b3 := Bk.new (((W3.alloc (.cells #[.pointer (some ⟨r, 0, none⟩)] 87)).alloc (.cells #[.pointer (some ⟨p, 7, none⟩)] 104)).alloc (.cells #[.int .i64 0] 3)) 87 #[.pointer (some ⟨r, 0, none⟩)]
      rw [World.size_alloc, World.size_alloc, World.size_alloc] at b3
      have c3 := (((((((((b3.alloc (.cells #[.pointer (some ⟨p, 8, none⟩)] 104)).alloc (.cells #[.int .i64 1] 3)).alloc (.cells #[.pointer (some ⟨r, 0, none⟩)] 87)).alloc (.cells #[.pointer (some ⟨p, 9, none⟩)] 104)).alloc (.cells #[.int .i64 2] 3)).drewN 1).grown hg456 (by simp; omega)).grown hg7 (by simp; omega)))
      have e3 := (((c3.alloc (.cells #[.pointer (some ⟨p, 10, none⟩)] 133)).alloc (.cells #[.pointer (some ⟨p, 11, none⟩)] 133)).drewN 1).grown hgE (by simp; omega)
      have b4 := Bk.new ((((W3.alloc (.cells #[.pointer (some ⟨r, 0, none⟩)] 87)).alloc (.cells #[.pointer (some ⟨p, 7, none⟩)] 104)).alloc (.cells #[.int .i64 0] 3)).alloc (.cells #[.pointer (some ⟨r, 0, none⟩)] 87)) 104 #[.pointer (some ⟨p, 8, none⟩)]
      rw [World.size_alloc, World.size_alloc, World.size_alloc, World.size_alloc] at b4
      have c4 := ((((((((b4.alloc (.cells #[.int .i64 1] 3)).alloc (.cells #[.pointer (some ⟨r, 0, none⟩)] 87)).alloc (.cells #[.pointer (some ⟨p, 9, none⟩)] 104)).alloc (.cells #[.int .i64 2] 3)).drewN 1).grown hg456 (by simp; omega)).grown hg7 (by simp; omega)))
      have e4 := (((c4.alloc (.cells #[.pointer (some ⟨p, 10, none⟩)] 133)).alloc (.cells #[.pointer (some ⟨p, 11, none⟩)] 133)).drewN 1).grown hgE (by simp; omega)
      have b5 := Bk.new (((((W3.alloc (.cells #[.pointer (some ⟨r, 0, none⟩)] 87)).alloc (.cells #[.pointer (some ⟨p, 7, none⟩)] 104)).alloc (.cells #[.int .i64 0] 3)).alloc (.cells #[.pointer (some ⟨r, 0, none⟩)] 87)).alloc (.cells #[.pointer (some ⟨p, 8, none⟩)] 104)) 3 #[.int .i64 1]
      rw [World.size_alloc, World.size_alloc, World.size_alloc, World.size_alloc, World.size_alloc] at b5
      have c5 := (((((((b5.alloc (.cells #[.pointer (some ⟨r, 0, none⟩)] 87)).alloc (.cells #[.pointer (some ⟨p, 9, none⟩)] 104)).alloc (.cells #[.int .i64 2] 3)).drewN 1).grown hg456 (by simp; omega)).grown hg7 (by simp; omega)))
      have e5 := (((c5.alloc (.cells #[.pointer (some ⟨p, 10, none⟩)] 133)).alloc (.cells #[.pointer (some ⟨p, 11, none⟩)] 133)).drewN 1).grown hgE (by simp; omega)
      have b6 := Bk.new ((((((W3.alloc (.cells #[.pointer (some ⟨r, 0, none⟩)] 87)).alloc (.cells #[.pointer (some ⟨p, 7, none⟩)] 104)).alloc (.cells #[.int .i64 0] 3)).alloc (.cells #[.pointer (some ⟨r, 0, none⟩)] 87)).alloc (.cells #[.pointer (some ⟨p, 8, none⟩)] 104)).alloc (.cells #[.int .i64 1] 3)) 87 #[.pointer (some ⟨r, 0, none⟩)]
      rw [World.size_alloc, World.size_alloc, World.size_alloc, World.size_alloc, World.size_alloc, World.size_alloc] at b6
      have c6 := ((((((b6.alloc (.cells #[.pointer (some ⟨p, 9, none⟩)] 104)).alloc (.cells #[.int .i64 2] 3)).drewN 1).grown hg456 (by simp; omega)).grown hg7 (by simp; omega)))
      have e6 := (((c6.alloc (.cells #[.pointer (some ⟨p, 10, none⟩)] 133)).alloc (.cells #[.pointer (some ⟨p, 11, none⟩)] 133)).drewN 1).grown hgE (by simp; omega)
      have b7 := Bk.new (((((((W3.alloc (.cells #[.pointer (some ⟨r, 0, none⟩)] 87)).alloc (.cells #[.pointer (some ⟨p, 7, none⟩)] 104)).alloc (.cells #[.int .i64 0] 3)).alloc (.cells #[.pointer (some ⟨r, 0, none⟩)] 87)).alloc (.cells #[.pointer (some ⟨p, 8, none⟩)] 104)).alloc (.cells #[.int .i64 1] 3)).alloc (.cells #[.pointer (some ⟨r, 0, none⟩)] 87)) 104 #[.pointer (some ⟨p, 9, none⟩)]
      rw [World.size_alloc, World.size_alloc, World.size_alloc, World.size_alloc, World.size_alloc, World.size_alloc, World.size_alloc] at b7
      have c7 := (((((b7.alloc (.cells #[.int .i64 2] 3)).drewN 1).grown hg456 (by simp; omega)).grown hg7 (by simp; omega)))
      have e7 := (((c7.alloc (.cells #[.pointer (some ⟨p, 10, none⟩)] 133)).alloc (.cells #[.pointer (some ⟨p, 11, none⟩)] 133)).drewN 1).grown hgE (by simp; omega)
      have b8 := Bk.new ((((((((W3.alloc (.cells #[.pointer (some ⟨r, 0, none⟩)] 87)).alloc (.cells #[.pointer (some ⟨p, 7, none⟩)] 104)).alloc (.cells #[.int .i64 0] 3)).alloc (.cells #[.pointer (some ⟨r, 0, none⟩)] 87)).alloc (.cells #[.pointer (some ⟨p, 8, none⟩)] 104)).alloc (.cells #[.int .i64 1] 3)).alloc (.cells #[.pointer (some ⟨r, 0, none⟩)] 87)).alloc (.cells #[.pointer (some ⟨p, 9, none⟩)] 104)) 3 #[.int .i64 2]
      rw [World.size_alloc, World.size_alloc, World.size_alloc, World.size_alloc, World.size_alloc, World.size_alloc, World.size_alloc, World.size_alloc] at b8
      have c8 := ((((b8.drewN 1).grown hg456 (by simp; omega)).grown hg7 (by simp; omega)))
      have e8 := (((c8.alloc (.cells #[.pointer (some ⟨p, 10, none⟩)] 133)).alloc (.cells #[.pointer (some ⟨p, 11, none⟩)] 133)).drewN 1).grown hgE (by simp; omega)
      have f0 := Bk.new W7 133 #[.pointer (some ⟨p, 10, none⟩)]
      have f1 := Bk.new (W7.alloc (.cells #[.pointer (some ⟨p, 10, none⟩)] 133)) 133 #[.pointer (some ⟨p, 11, none⟩)]
      rw [World.size_alloc] at f1
      have g0 := ((f0.alloc (.cells #[.pointer (some ⟨p, 11, none⟩)] 133)).drewN 1).grown hgE (by simp; omega)
      have g1 := (f1.drewN 1).grown hgE (by simp; omega)
      exact ⟨(jr9.grown hg10 (by simp)).cell 0, (jd9.grown hg10 (by simp; omega)).cell 0, ⟨e0.cell 0, e1.cell 0, e2.cell 0, by simp only; omega⟩, ⟨e3.cell 0, e4.cell 0, e5.cell 0, by simp only; omega⟩, ⟨e6.cell 0, e7.cell 0, e8.cell 0, by simp only; omega⟩, g0.cell 0, g1.cell 0, by omega⟩
    · have h0 : Below w.heap.size w (((((((((W3.alloc (.cells #[.pointer (some ⟨r, 0, none⟩)] 87)).alloc (.cells #[.pointer (some ⟨p, 7, none⟩)] 104)).alloc (.cells #[.int .i64 0] 3)).alloc (.cells #[.pointer (some ⟨r, 0, none⟩)] 87)).alloc (.cells #[.pointer (some ⟨p, 8, none⟩)] 104)).alloc (.cells #[.int .i64 1] 3)).alloc (.cells #[.pointer (some ⟨r, 0, none⟩)] 87)).alloc (.cells #[.pointer (some ⟨p, 9, none⟩)] 104)).alloc (.cells #[.int .i64 2] 3)).drew := (((((((((hbel.alloc (by omega) _).alloc (by simp; omega) _).alloc (by simp; omega) _).alloc (by simp; omega) _).alloc (by simp; omega) _).alloc (by simp; omega) _).alloc (by simp; omega) _).alloc (by simp; omega) _).alloc (by simp; omega) _).drew
      have q1 := hg456.size
      have q2 := hg7.size
      simp at q1
      have h1 := (h0.grown hg456 (by simp; omega) (by intro k hk; cases hk; omega)).grown hg7 (by omega) (by intro k hk; cases hk; omega)
      have h2 : Below w.heap.size w ((W7.alloc (.cells #[.pointer (some ⟨p, 10, none⟩)] 133)).alloc (.cells #[.pointer (some ⟨p, 11, none⟩)] 133)).drew := (((h1.alloc (by omega) _).alloc (by simp; omega) _)).drew
      exact h2.grown hgE (by simp; omega) (by intro k hk; cases hk; omega)
  have HFIN := Lib.hid hfin
  unfold wName fnV ptrV at hu1
  unfold wDesc fnV ptrV at hu2
  unfold wSup fnV ptrV at hu3
  unfold wSyntax fnV ptrV at hu7
  unfold wUsage fnV ptrV at hu10
  unfold wEquality at hu4a
  unfold fnV ptrV at hu4
  rw [show ((3 : Nat) : Int) = 3 from rfl] at hu4a hu4
  unfold wOrdering at hu5a
  unfold fnV ptrV at hu5
  rw [show ((3 + 1 : Nat) : Int) = 4 from rfl] at hu5a hu5
  unfold wSubstr at hu6a
  unfold fnV ptrV at hu6
  rw [show ((3 + 1 + 1 : Nat) : Int) = 5 from rfl] at hu6a hu6
  unfold wSingleValue at hu8a
  unfold fnV ptrV at hu8
  rw [show ((7 : Nat) : Int) = 7 from rfl] at hu8a hu8
  unfold wNoUserModification at hu9a
  unfold fnV ptrV at hu9
  rw [show ((7 + 1 : Nat) : Int) = 8 from rfl] at hu9a hu9
  clear hfin hm0 hm1 hm2 hm3 hmD hm4 hm5 hm6 hm7 hmE hm8 hm9 hm10 hbel hg1 hg2 hg3 hg12 hgg hg4 hg4a hg5 hg5a hg6 hg6a hg7 hg8 hg8a hg9 hg9a hg10 hgE hg456 hB hd jd jr jd2 jr2 i1 i2 jp jdD jrD jd4 jr4 jd5 jr5 jd6 jr6 jd7 jr7 jdE jrE jd8 jr8 jd9 jr9
  have s2 := And.intro d2 r2
  have s3 := And.intro d3 r3
  have s3x := And.intro d3x r3x
  have s3y := And.intro d3y r3y
  have s3z := And.intro d3z r3z
  have s4a := And.intro d4a r4a
  have s4 := And.intro d4 r4
  have s5a := And.intro d5a r5a
  have s5 := And.intro d5 r5
  have s6a := And.intro d6a r6a
  have s6 := And.intro d6 r6
  have s7 := And.intro d7 r7
  have s7x := And.intro d7x r7x
  have s7y := And.intro d7y r7y
  have s8a := And.intro d8a r8a
  have s8 := And.intro d8 r8
  have s9a := And.intro d9a r9a
  have s9 := And.intro d9 r9
  clear d3x r3x d3y r3y d3z r3z d4a r4a d4 r4 d5a r5a d5 r5 d6a r6a d7x r7x d7y r7y d8a r8a d8 r8 d9a r9a
  unfold ptrV
  go_enter Tryz.func53, Tryz.ntmps53
  go_wp2_with fail
  go_region_held3 (fun w' => w'.cell? ⟨w.heap.size, 0, none⟩ = some (.pointer (some ⟨p, 0, none⟩)) ∧ w'.cell? ⟨w.heap.size + 1, 0, none⟩ = some (.pointer (some ⟨r, 0, none⟩))) (first | exact s2 | exact s3 | exact s3x | exact s3y | exact s3z | exact s4a | exact s4 | exact s5a | exact s5 | exact s6a | exact s6 | exact s7 | exact s7x | exact s7y | exact s8a | exact s8 | exact s9a | exact s9) (first | (go_at_call 95; (with_reducible refine (ruleFn_c r p 7 0 _).mono ?_); rintro e w' ⟨rfl, rfl⟩) | (go_at_call 95; (with_reducible refine (ruleFn_c r p 8 1 _).mono ?_); rintro e w' ⟨rfl, rfl⟩) | (go_at_call 95; (with_reducible refine (ruleFn_c r p 9 2 _).mono ?_); rintro e w' ⟨rfl, rfl⟩))
  all_goals
    go_wp2_with fail
    go_region_held3 (fun w' => w'.cell? ⟨w.heap.size, 0, none⟩ = some (.pointer (some ⟨p, 0, none⟩)) ∧ w'.cell? ⟨w.heap.size + 1, 0, none⟩ = some (.pointer (some ⟨r, 0, none⟩))) (first | exact s2 | exact s3 | exact s3x | exact s3y | exact s3z | exact s4a | exact s4 | exact s5a | exact s5 | exact s6a | exact s6 | exact s7 | exact s7x | exact s7y | exact s8a | exact s8 | exact s9a | exact s9) (first | (go_at_call 98; (with_reducible refine (flagFn_c p 10 _).mono ?_); rintro e w' ⟨rfl, rfl⟩) | (go_at_call 98; (with_reducible refine (flagFn_c p 11 _).mono ?_); rintro e w' ⟨rfl, rfl⟩))
    all_goals
      go_wp2_with fail
      go_ret
      exact HFIN.out
end Go.Proofs.YtcjobpcbppcdnaaGreatDoor
/- Plain: what is left of the words; which words are fields. -/
namespace Go.Proofs.YtcjobpcbppcdnaaGreatDoor
open Go.RowKit

theorem wordsF_bound : ∀ (n : Nat) (r : List UInt8) (acc l : List Wd), wordsF n r acc = some l → (∀ x ∈ l, x ∈ acc ∨ x.1.length ≤ r.length) ∧ l.length ≤ acc.length + r.length
  | 0, r, acc, l, h => by
    rw [wordsF] at h
    cases h
    exact ⟨fun x hx => .inl hx, by omega⟩
  | n + 1, r, acc, l, h => by
    have hd : (r.dropWhile sBlank).length ≤ r.length := (List.dropWhile_sublist _).length_le
    rw [wordsF] at h
    cases hr : r.dropWhile sBlank with
    | nil =>
      rw [hr] at h
      cases h
      exact ⟨fun x hx => .inl hx, by omega⟩
    | cons c t =>
      rw [hr] at h hd
      simp only [List.length_cons] at hd
      simp only at h
      have key : ∀ (u : List UInt8) (x : Wd), u.length ≤ t.length → x.1.length ≤ t.length + 1 → wordsF n u (acc ++ [x]) = some l → (∀ x ∈ l, x ∈ acc ∨ x.1.length ≤ r.length) ∧ l.length ≤ acc.length + r.length := by
        intro u x hu hx hw
        obtain ⟨h1, h2⟩ := wordsF_bound n u _ l hw
        simp only [List.length_append, List.length_cons, List.length_nil] at h2
        refine ⟨fun y hy => ?_, by omega⟩
        rcases h1 y hy with h3 | h3
        · rcases List.mem_append.1 h3 with h4 | h4
          · exact .inl h4
          · have : y = x := by simpa using h4
            subst this
            exact .inr (by omega)
        · exact .inr (by omega)
      split at h
      · split at h
        · refine key _ _ ?_ ?_ h
          · have := (List.dropWhile_sublist (fun x : UInt8 => x != 39) (l := t)).length_le
            rw [List.length_tail]
            omega
          · have := (List.takeWhile_sublist (fun x : UInt8 => x != 39) (l := t)).length_le
            simp only
            omega
        · cases h
      · split at h
        · exact key _ _ (Nat.le_refl _) (by simp) h
        · refine key _ _ ?_ ?_ h
          · exact (List.dropWhile_sublist (fun c : UInt8 => !sStop c) (l := t)).length_le
          · have := (List.takeWhile_sublist (fun c : UInt8 => !sStop c) (l := t)).length_le
            simp only [List.length_cons]
            omega
theorem wordsL_bound {s : List UInt8} {l : List Wd} (h : wordsL s = some l) : (∀ x ∈ l, x.1.length ≤ s.length) ∧ l.length ≤ s.length := by
  obtain ⟨h1, h2⟩ := wordsF_bound _ _ _ _ h
  simp only [List.length_nil] at h2
  refine ⟨fun x hx => ?_, by omega⟩
  rcases h1 x hx with h3 | h3
  · cases h3
  · exact h3
theorem one_suffix {one : List Wd → Option (List UInt8 × List Wd)} (hc : ∀ (l t : List Wd) (s : List UInt8), one l = some (s, t) → ∃ q, l = (s, q) :: t) {l : List Wd} {x : List UInt8 × List Wd} (h : one l = some x) : x.2 <:+ l := by
  obtain ⟨q, hq⟩ := hc l x.2 x.1 h
  rw [hq]
  exact List.suffix_cons _ _
theorem listF_suffix {sign : List UInt8} {one : List Wd → Option (List UInt8 × List Wd)} (hc : ∀ (l t : List Wd) (s : List UInt8), one l = some (s, t) → ∃ q, l = (s, q) :: t) {many : Bool} : ∀ (n : Nat) (l : List Wd) (acc : List (List UInt8)) (x : List (List UInt8) × List Wd), listF sign one many n l acc = some x → x.2 <:+ l
  | 0, l, acc, x, h => by rw [listF] at h; cases h
  | n + 1, l, acc, x, h => by
    cases ho : one l with
    | none => rw [listF_none ho] at h; cases h
    | some y =>
      have h0 := one_suffix hc ho
      obtain ⟨s, t⟩ := y
      rw [listF_some ho] at h
      simp only at h0
      split at h
      · split at h
        · cases h; exact h0
        · split at h
          · cases h; exact (List.tail_suffix _).trans h0
          · split at h
            · exact (listF_suffix hc n _ _ _ h).trans h0
            · split at h
              · exact ((listF_suffix hc n _ _ _ h).trans (List.tail_suffix _)).trans h0
              · cases h
      · cases h
theorem rList_suffix {sign : List UInt8} {one : List Wd → Option (List UInt8 × List Wd)} (hc : ∀ (l t : List Wd) (s : List UInt8), one l = some (s, t) → ∃ q, l = (s, q) :: t) {l : List Wd} {x : List (List UInt8) × List Wd} (h : rList sign one l = some x) : x.2 <:+ l := by
  have := listF_suffix hc _ _ _ _ h
  split at this
  · exact this.trans (List.tail_suffix _)
  · exact this
theorem rRule_suffix {k : Int} {l : List Wd} {x : List UInt8 × List Wd} (h : rRule k l = some x) : x.2 <:+ l := by
  unfold rRule at h
  split at h
  · cases h
  · next s t hp =>
    split at h
    · cases h
    · split at h
      · have h9 := one_suffix (one := rPlain) (fun _ _ _ => rPlain_cons) hp
        cases h
        exact h9
      · cases h
theorem map_suffix {α : Type} {o : Option (α × List Wd)} {l : List Wd} (hs : ∀ x, o = some x → x.2 <:+ l) {F : α → DefS} {y : DefS × List Wd} (h : (o.map fun x => (F x.1, x.2)) = some y) : y.2 <:+ l ∧ ∃ a, y.1 = F a := by
  cases o with
  | none => cases h
  | some x => cases h; exact ⟨hs x rfl, x.1, rfl⟩
theorem fieldL_suffix {d : DefS} {f : List UInt8} {l : List Wd} {y : DefS × List Wd} (h : fieldL d f l = some y) : y.2 <:+ l ∧ y.1.cls = d.cls := by
  have hp : ∀ x, rPlain l = some x → x.2 <:+ l := fun x hx => one_suffix (fun _ _ _ => rPlain_cons) hx
  have hq : ∀ x, rQuoted l = some x → x.2 <:+ l := fun x hx => one_suffix (fun _ _ _ => rQuoted_cons) hx
  have hn : ∀ x, rName l = some x → x.2 <:+ l := fun x hx => one_suffix (fun _ _ _ => rName_cons) hx
  have hln : ∀ x, rList [36] rName l = some x → x.2 <:+ l := fun x hx => rList_suffix (fun _ _ _ => rName_cons) hx
  have hlq : ∀ x, rList [] rQuoted l = some x → x.2 <:+ l := fun x hx => rList_suffix (fun _ _ _ => rQuoted_cons) hx
  unfold fieldL at h
  split at h
  · unfold fieldC at h
    split at h
    · obtain ⟨h1, a, h2⟩ := map_suffix hlq (F := fun a => { d with names := a }) h; exact ⟨h1, by rw [h2]⟩
    split at h
    · obtain ⟨h1, a, h2⟩ := map_suffix hq (F := fun _ => d) h; exact ⟨h1, by rw [h2]⟩
    split at h
    · obtain ⟨h1, a, h2⟩ := map_suffix hln (F := fun a => { d with sup := a }) h; exact ⟨h1, by rw [h2]⟩
    split at h
    · obtain ⟨h1, a, h2⟩ := map_suffix hln (F := fun a => { d with must := a }) h; exact ⟨h1, by rw [h2]⟩
    split at h
    · obtain ⟨h1, a, h2⟩ := map_suffix hln (F := fun a => { d with may := a }) h; exact ⟨h1, by rw [h2]⟩
    · cases h
  · unfold fieldA at h
    by_cases g0 : f = wName
    · rw [if_pos g0] at h; obtain ⟨h1, a, h2⟩ := map_suffix hlq (F := fun a => { d with names := a }) h; exact ⟨h1, by rw [h2]⟩
    rw [if_neg g0] at h
    by_cases g1 : f = wDesc
    · rw [if_pos g1] at h; obtain ⟨h1, a, h2⟩ := map_suffix hq (F := fun _ => d) h; exact ⟨h1, by rw [h2]⟩
    rw [if_neg g1] at h
    by_cases g2 : f = wSup
    · rw [if_pos g2] at h; obtain ⟨h1, a, h2⟩ := map_suffix hn (F := fun a => { d with sup := [a] }) h; exact ⟨h1, by rw [h2]⟩
    rw [if_neg g2] at h
    by_cases g3 : f = wEquality
    · rw [if_pos g3] at h; obtain ⟨h1, a, h2⟩ := map_suffix (fun x => rRule_suffix) (F := fun a => { d with eqr := a }) h; exact ⟨h1, by rw [h2]⟩
    rw [if_neg g3] at h
    by_cases g4 : f = wOrdering
    · rw [if_pos g4] at h; obtain ⟨h1, a, h2⟩ := map_suffix (fun x => rRule_suffix) (F := fun a => { d with ordr := a }) h; exact ⟨h1, by rw [h2]⟩
    rw [if_neg g4] at h
    by_cases g5 : f = wSubstr
    · rw [if_pos g5] at h; obtain ⟨h1, a, h2⟩ := map_suffix (fun x => rRule_suffix) (F := fun a => { d with subs := a }) h; exact ⟨h1, by rw [h2]⟩
    rw [if_neg g5] at h
    by_cases g6 : f = wSyntax
    · rw [if_pos g6] at h
      cases hpp : rPlain l with
      | none => rw [hpp] at h; cases h
      | some x =>
        rw [hpp] at h
        simp only at h
        by_cases q : (formE x.1 == 0) = true
        · rw [if_pos q] at h; cases h; exact ⟨hp _ hpp, rfl⟩
        · rw [if_neg q] at h; cases h
    rw [if_neg g6] at h
    by_cases g7 : f = wSingleValue
    · rw [if_pos g7] at h; cases h; exact ⟨List.suffix_refl _, rfl⟩
    rw [if_neg g7] at h
    by_cases g8 : f = wNoUserModification
    · rw [if_pos g8] at h; cases h; exact ⟨List.suffix_refl _, rfl⟩
    rw [if_neg g8] at h
    by_cases g9 : f = wUsage
    · rw [if_pos g9] at h
      cases hpp : rPlain l with
      | none => rw [hpp] at h; cases h
      | some x =>
        rw [hpp] at h
        simp only at h
        by_cases q : (x.1 == wDirectoryoperation || x.1 == wUserapplications) = true
        · rw [if_pos q] at h; cases h; exact ⟨hp _ hpp, rfl⟩
        · rw [if_neg q] at h; cases h
    rw [if_neg g9] at h
    cases h
theorem Shorts.suffix {l t : List Wd} (h : Shorts l) (hs : t <:+ l) : Shorts t := fun x hx => h x (hs.subset hx)
/-- The words that are fields. -/
def wordsC : List (List UInt8) := [wName, wDesc, wSup, wMust, wMay]
def wordsA : List (List UInt8) := [wName, wDesc, wSup, wEquality, wOrdering, wSubstr, wSyntax, wSingleValue, wNoUserModification, wUsage]
def isField (cls : Bool) (f : List UInt8) : Bool := if cls then wordsC.contains f else wordsA.contains f
theorem look_mem {R : List (List UInt8 × Value)} {k : List UInt8} : (look R k).isSome = (R.map (·.1)).contains k := by
  induction R with
  | nil => rfl
  | cons x R ih =>
    rw [look, List.map_cons, List.contains_cons]
    by_cases h : k = x.1
    · subst h; simp
    · have : (k == x.1) = false := beq_eq_false_iff_ne.2 h
      rw [if_neg h, this, ih]
      rfl
theorem not_field {l : List (List UInt8)} {f : List UInt8} (h : l.contains f = false) : ∀ w ∈ l, ¬ f = w := by
  rintro w hw rfl
  rw [List.contains_eq_mem] at h
  simp [hw] at h
theorem fieldL_no {d : DefS} {f : List UInt8} (h : isField d.cls f = false) (l : List Wd) : fieldL d f l = none := by
  unfold isField at h
  unfold fieldL
  split
  · next hc =>
    rw [if_pos hc] at h
    have hn := not_field h
    have m : ∀ i (h : i < wordsC.length), ¬ f = wordsC[i] := fun i h => hn _ (List.getElem_mem h)
    have h1 : ¬ f = wName := m 0 (by decide)
    have h2 : ¬ f = wDesc := m 1 (by decide)
    have h3 : ¬ f = wSup := m 2 (by decide)
    have h4 : ¬ f = wMust := m 3 (by decide)
    have h5 : ¬ f = wMay := m 4 (by decide)
    unfold fieldC
    rw [if_neg h1, if_neg h2, if_neg h3, if_neg h4, if_neg h5]
  · next hc =>
    rw [if_neg hc] at h
    have hn := not_field h
    have m : ∀ i (h : i < wordsA.length), ¬ f = wordsA[i] := fun i h => hn _ (List.getElem_mem h)
    have h1 : ¬ f = wName := m 0 (by decide)
    have h2 : ¬ f = wDesc := m 1 (by decide)
    have h3 : ¬ f = wSup := m 2 (by decide)
    have h4 : ¬ f = wEquality := m 3 (by decide)
    have h5 : ¬ f = wOrdering := m 4 (by decide)
    have h6 : ¬ f = wSubstr := m 5 (by decide)
    have h7 : ¬ f = wSyntax := m 6 (by decide)
    have h8 : ¬ f = wSingleValue := m 7 (by decide)
    have h9 : ¬ f = wNoUserModification := m 8 (by decide)
    have h10 : ¬ f = wUsage := m 9 (by decide)
    unfold fieldA
    rw [if_neg h1, if_neg h2, if_neg h3, if_neg h4, if_neg h5, if_neg h6, if_neg h7, if_neg h8, if_neg h9, if_neg h10]
end Go.Proofs.YtcjobpcbppcdnaaGreatDoor
/- Contracts: what a field's word asks for. -/
namespace Go.Proofs.YtcjobpcbppcdnaaGreatDoor
open Go.RowKit

/-- What is done at a field's word. -/
def DoIs (w : World) (r p : Nat) (d : DefS) (f : List UInt8) (v : Value) : Prop :=
  ∃ (fid : FuncId) (cap : Array Value), v = .func (.func fid) #[] cap ∧ (∀ (args : Array Value) (W : World), (callFunc fid args).run Tryz.prog W = .ok (.enter fid args) W) ∧
    ∀ l, RdW w r l → Shorts l → l.length ≤ 1000000 → Calls Tryz.prog fid cap w (FieldRet w r p (fieldL d f l))
theorem look_do {R : List (List UInt8 × Value)} {f : List UInt8} {w : World} {m c : Nat} {es : Array MapEntry} (hm : MapS w m es c R) :
    (Instr.lookup 96 (.map (some m)) (.string ⟨f.toArray⟩) true).run Tryz.prog w = .ok (.tuple #[(look R f).getD .nilFunc, .bool (look R f).isSome]) w := hm.ask underDo zeroDo
section
variable {w : World} {B r p br bd b1 b2 b3 : Nat} {d : DefS}
theorem doName_is (hw : Env w) (hO : Off r) (h1 : w.cell? ⟨br, 0, none⟩ = some (ptrV r)) (h2 : w.cell? ⟨bd, 0, none⟩ = some (ptrV p)) (hb : bd ≠ r) (hp : p ≠ r) (hd : DefAt w p d) (hf : ∀ l, fieldL d wName l = (rList [] rQuoted l).map fun x => ({ d with names := x.1 }, x.2)) :
    DoIs w r p d wName (fnV 91 #[ptrV br, ptrV bd]) :=
  ⟨_, _, rfl, fun _ _ => by kernel_rfl, fun l hR hs hl => by rw [hf]; exact doName_c br bd r p l d w hw hO h1 h2 hb hp hd hR hs hl⟩
theorem doDesc_is (h1 : w.cell? ⟨br, 0, none⟩ = some (ptrV r)) (hp : p ≠ r) (hd : DefAt w p d) (hf : ∀ l, fieldL d wDesc l = (rQuoted l).map fun x => (d, x.2)) :
    DoIs w r p d wDesc (fnV 93 #[ptrV br]) :=
  ⟨_, _, rfl, fun _ _ => by kernel_rfl, fun l hR _ _ => by rw [hf]; exact doDesc_c br r p l d w h1 hp hd hR⟩
theorem doList_is (f : List UInt8) (i : Nat) (F : List (List UInt8) → DefS) (hF : ∀ w1 v xs, DefAt w1 p d → Texts w1 v xs → DefAt (w1.setCell ⟨p, i, none⟩ v) p (F xs)) (hci : ∀ vn vs vm vy, ∃ v, (defCells d vn vs vm vy)[i]? = some v)
    (hw : Env w) (hO : Off r) (h1 : w.cell? ⟨br, 0, none⟩ = some (ptrV r)) (h2 : w.cell? ⟨b1, 0, none⟩ = some (.pointer (some ⟨p, i, none⟩))) (hb : b1 ≠ r) (hp : p ≠ r) (hd : DefAt w p d) (hf : ∀ l, fieldL d f l = (rList [36] rName l).map fun x => (F x.1, x.2)) :
    DoIs w r p d f (fnV 88 #[ptrV br, ptrV b1]) :=
  ⟨_, _, rfl, fun _ _ => by kernel_rfl, fun l hR hs hl => by
    rw [hf]
    obtain ⟨vn, vs, vm, vy, hB⟩ := hd.bk
    obtain ⟨v, hv⟩ := hci vn vs vm vy
    exact (listTo_c br b1 r p i l d v w hw hO h1 h2 hb hp hd ((hB.cell i).trans hv) hR hs hl).mono fun e w' h => list_set hd hR hp h F hF⟩
theorem doSup_is (hw : Env w) (hO : Off r) (h1 : w.cell? ⟨br, 0, none⟩ = some (ptrV r)) (h2 : w.cell? ⟨bd, 0, none⟩ = some (ptrV p)) (hb : bd ≠ r) (hp : p ≠ r) (hd : DefAt w p d) (hf : ∀ l, fieldL d wSup l = (rName l).map fun x => ({ d with sup := [x.1] }, x.2)) :
    DoIs w r p d wSup (fnV 94 #[ptrV br, ptrV bd]) :=
  ⟨_, _, rfl, fun _ _ => by kernel_rfl, fun l hR hs _ => by rw [hf]; exact doSup_c br bd r p l d w hw hO h1 h2 hb hp hd hR hs⟩
theorem doRule_is (f : List UInt8) (i : Nat) (k : Int) (b : Nat × Nat × Nat) (F : List UInt8 → DefS) (hF : ∀ w1 x, DefAt w1 p d → DefAt (w1.setCell ⟨p, i, none⟩ (.string ⟨x.toArray⟩)) p (F x)) (hci : ∀ vn vs vm vy, ∃ v, (defCells d vn vs vm vy)[i]? = some v)
    (hw : Env w) (hO : Off r) (hx : BoxRule w B r p i k b) (hr : r < B) (hpB : p < B) (hp : p ≠ r) (hd : DefAt w p d) (hf : ∀ l, fieldL d f l = (rRule k l).map fun x => (F x.1, x.2)) :
    DoIs w r p d f (fnV 133 #[ptrV b.1, ptrV b.2.1, ptrV b.2.2]) :=
  ⟨_, _, rfl, fun _ _ => by kernel_rfl, fun l hR hs _ => by
    rw [hf]
    have := hx.le
    exact doRule_c b.1 b.2.1 b.2.2 r p i k l d w hw hO hx.cr hx.ct hx.ck (by omega) (by omega) (by omega) hp hd hci hR hs F hF⟩
theorem doSyntax_is (hw : Env w) (hO : Off r) (h1 : w.cell? ⟨br, 0, none⟩ = some (ptrV r)) (h2 : w.cell? ⟨bd, 0, none⟩ = some (ptrV p)) (hb : bd ≠ r) (hp : p ≠ r) (hd : DefAt w p d) (hf : ∀ l, fieldL d wSyntax l = (match rPlain l with
    | none => none
    | some (s, t) => if formE s == 0 then some ({ d with form := formF s }, t) else none)) :
    DoIs w r p d wSyntax (fnV 96 #[ptrV br, ptrV bd]) :=
  ⟨_, _, rfl, fun _ _ => by kernel_rfl, fun l hR hs _ => by rw [hf]; exact doSyntax_c br bd r p l d w hw hO h1 h2 hb hp hd hR hs⟩
theorem doUsage_is (hw : Env w) (hO : Off r) (h1 : w.cell? ⟨br, 0, none⟩ = some (ptrV r)) (h2 : w.cell? ⟨bd, 0, none⟩ = some (ptrV p)) (hb : bd ≠ r) (hbp : bd ≠ p) (hp : p ≠ r) (hd : DefAt w p d) (hf : ∀ l, fieldL d wUsage l = (match rPlain l with
    | none => none
    | some (s, t) => if s == wDirectoryoperation || s == wUserapplications then some ({ d with oper := s == wDirectoryoperation }, t) else none)) :
    DoIs w r p d wUsage (fnV 99 #[ptrV br, ptrV bd]) :=
  ⟨_, _, rfl, fun _ _ => by kernel_rfl, fun l hR hs _ => by rw [hf]; exact doUsage_c br bd r p l d w hw hO h1 h2 hb hbp hp hd hR hs⟩
theorem doFlag_is (f : List UInt8) (i : Nat) (d' : DefS) (v0 : Bool) (hs : ∀ w1, DefAt w1 p d → DefAt (w1.setCell ⟨p, i, none⟩ (.bool true)) p d') (hci : ∀ vn vs vm vy, (defCells d vn vs vm vy)[i]? = some (.bool v0)) (h1 : w.cell? ⟨br, 0, none⟩ = some (.pointer (some ⟨p, i, none⟩))) (hp : p ≠ r) (hd : DefAt w p d) (hf : ∀ l, fieldL d f l = some (d', l)) :
    DoIs w r p d f (fnV 136 #[ptrV br]) :=
  ⟨_, _, rfl, fun _ _ => by kernel_rfl, fun l hR _ _ => by
    rw [hf]
    obtain ⟨vn, vs, vm, vy, hB⟩ := hd.bk
    exact doFlag_c br r p i l d d' v0 w h1 hp hd hR ((hB.cell i).trans (hci _ _ _ _)) (hs w hd)⟩
end
/-- All words that are fields of a class. -/
theorem doC {w : World} {B r p br bd b1 b2 b3 : Nat} {d : DefS} (hw : Env w) (hO : Off r) (hx : BoxC w B r p br bd b1 b2 b3) (hr : r < B) (hpB : p < B) (hp : p ≠ r) (hd : DefAt w p d) (hc : d.cls = true) {f : List UInt8} (hf : f ∈ wordsC) :
    ∃ v, look (fieldsC br bd b1 b2 b3) f = some v ∧ DoIs w r p d f v := by
  have hle := hx.le
  have hfl : ∀ f l, fieldL d f l = fieldC d f l := fun f l => by unfold fieldL; rw [if_pos hc]
  rcases List.mem_cons.1 hf with rfl | hf
  · exact ⟨_, rfl, doName_is hw hO hx.r hx.d (by omega) hp hd (fun l => (hfl _ l).trans rfl)⟩
  rcases List.mem_cons.1 hf with rfl | hf
  · exact ⟨_, rfl, doDesc_is hx.r hp hd (fun l => (hfl _ l).trans rfl)⟩
  rcases List.mem_cons.1 hf with rfl | hf
  · exact ⟨_, rfl, doList_is wSup 3 (fun xs => { d with sup := xs }) (fun w1 v xs h1 h2 => set_sup h1 h2) (fun _ _ _ _ => ⟨_, rfl⟩) hw hO hx.r hx.c1 (by omega) hp hd (fun l => (hfl _ l).trans rfl)⟩
  rcases List.mem_cons.1 hf with rfl | hf
  · exact ⟨_, rfl, doList_is wMust 4 (fun xs => { d with must := xs }) (fun w1 v xs h1 h2 => set_must h1 h2) (fun _ _ _ _ => ⟨_, rfl⟩) hw hO hx.r hx.c2 (by omega) hp hd (fun l => (hfl _ l).trans rfl)⟩
  rcases List.mem_cons.1 hf with rfl | hf
  · exact ⟨_, rfl, doList_is wMay 5 (fun xs => { d with may := xs }) (fun w1 v xs h1 h2 => set_may h1 h2) (fun _ _ _ _ => ⟨_, rfl⟩) hw hO hx.r hx.c3 (by omega) hp hd (fun l => (hfl _ l).trans rfl)⟩
  cases hf
theorem doA {w : World} {B r p br bd : Nat} {e o s : Nat × Nat × Nat} {f1 f2 : Nat} {d : DefS} (hw : Env w) (hO : Off r) (hx : BoxA w B r p br bd e o s f1 f2) (hr : r < B) (hpB : p < B) (hp : p ≠ r) (hd : DefAt w p d) (hc : d.cls = false) {f : List UInt8} (hf : f ∈ wordsA) :
    ∃ v, look (fieldsA br bd e o s f1 f2) f = some v ∧ DoIs w r p d f v := by
  have hle := hx.le
  have hfl : ∀ f l, fieldL d f l = fieldA d f l := fun f l => by unfold fieldL; rw [if_neg (by rw [hc]; simp)]
  rcases List.mem_cons.1 hf with rfl | hf
  · exact ⟨_, rfl, doName_is hw hO hx.cr hx.cd (by omega) hp hd (fun l => (hfl _ l).trans rfl)⟩
  rcases List.mem_cons.1 hf with rfl | hf
  · exact ⟨_, rfl, doDesc_is hx.cr hp hd (fun l => (hfl _ l).trans rfl)⟩
  rcases List.mem_cons.1 hf with rfl | hf
  · exact ⟨_, rfl, doSup_is hw hO hx.cr hx.cd (by omega) hp hd (fun l => (hfl _ l).trans rfl)⟩
  rcases List.mem_cons.1 hf with rfl | hf
  · exact ⟨_, rfl, doRule_is wEquality 7 0 e (fun x => { d with eqr := x }) (fun w1 x h1 => set_eqr h1 x) (fun _ _ _ _ => ⟨_, rfl⟩) hw hO hx.ce hr hpB hp hd (fun l => (hfl _ l).trans rfl)⟩
  rcases List.mem_cons.1 hf with rfl | hf
  · exact ⟨_, rfl, doRule_is wOrdering 8 1 o (fun x => { d with ordr := x }) (fun w1 x h1 => set_ordr h1 x) (fun _ _ _ _ => ⟨_, rfl⟩) hw hO hx.co hr hpB hp hd (fun l => (hfl _ l).trans rfl)⟩
  rcases List.mem_cons.1 hf with rfl | hf
  · exact ⟨_, rfl, doRule_is wSubstr 9 2 s (fun x => { d with subs := x }) (fun w1 x h1 => set_subs h1 x) (fun _ _ _ _ => ⟨_, rfl⟩) hw hO hx.cs hr hpB hp hd (fun l => (hfl _ l).trans rfl)⟩
  rcases List.mem_cons.1 hf with rfl | hf
  · exact ⟨_, rfl, doSyntax_is hw hO hx.cr hx.cd (by omega) hp hd (fun l => (hfl _ l).trans rfl)⟩
  rcases List.mem_cons.1 hf with rfl | hf
  · exact ⟨_, rfl, doFlag_is wSingleValue 10 { d with single := true } d.single (fun w1 h1 => set_single h1 true) (fun _ _ _ _ => rfl) hx.c1 hp hd (fun l => (hfl _ l).trans rfl)⟩
  rcases List.mem_cons.1 hf with rfl | hf
  · exact ⟨_, rfl, doFlag_is wNoUserModification 11 { d with fixed := true } d.fixed (fun w1 h1 => set_fixed h1 true) (fun _ _ _ _ => rfl) hx.c2 hp hd (fun l => (hfl _ l).trans rfl)⟩
  rcases List.mem_cons.1 hf with rfl | hf
  · exact ⟨_, rfl, doUsage_is hw hO hx.cr hx.cd (by omega) (by omega) hp hd (fun l => (hfl _ l).trans rfl)⟩
  cases hf
/-- fields, and its answer at a word. -/
def FieldAsk (w : World) (r p : Nat) (d : DefS) (f : List UInt8) (e : Ending) (w' : World) : Prop :=
  ∃ m v, e = .returned (.map (some m)) ∧ Below w.heap.size w w' ∧ (Instr.lookup 96 (.map (some m)) (.string ⟨f.toArray⟩) true).run Tryz.prog w' = .ok (.tuple #[v, .bool (isField d.cls f)]) w' ∧ (isField d.cls f = true → DoIs w' r p d f v)
theorem fields_c (r p : Nat) (d : DefS) (f : List UInt8) (w : World) (hw : Env w) (hO : Off r) (hr : r < w.heap.size) (hp : p ≠ r) (hd : DefAt w p d) :
    Calls Tryz.prog 53 #[ptrV p, ptrV r] w (FieldAsk w r p d f) := by
  cases hc : d.cls
  · refine (fieldsA_c r p d w hd hc).mono ?_
    rintro e w' ⟨m, es, c, br, bd, eb, ob, sb, f1, f2, rfl, hm, hx, hb⟩
    have hl := look_do (f := f) hm
    have hi : (look (fieldsA br bd eb ob sb f1 f2) f).isSome = isField d.cls f := by rw [look_mem, hc]; rfl
    rw [hi] at hl
    refine ⟨m, _, rfl, hb, hl, fun h => ?_⟩
    have hf : f ∈ wordsA := by rw [hc] at h; simpa [isField] using h
    obtain ⟨v, hv, hdo⟩ := doA (hw.keep hb) hO hx hr hd.lt hp (hd.below hb) hc hf
    rw [hv]
    exact hdo
  · refine (fieldsC_c r p d w hd hc).mono ?_
    rintro e w' ⟨m, es, c, br, bd, b1, b2, b3, rfl, hm, hx, hb⟩
    have hl := look_do (f := f) hm
    have hi : (look (fieldsC br bd b1 b2 b3) f).isSome = isField d.cls f := by rw [look_mem, hc]; rfl
    rw [hi] at hl
    refine ⟨m, _, rfl, hb, hl, fun h => ?_⟩
    have hf : f ∈ wordsC := by rw [hc] at h; simpa [isField] using h
    obtain ⟨v, hv, hdo⟩ := doC (hw.keep hb) hO hx hr hd.lt hp (hd.below hb) hc hf
    rw [hv]
    exact hdo
end Go.Proofs.YtcjobpcbppcdnaaGreatDoor
/- Contracts: strings.IndexRune, strings.IndexAny at the bytes that end a word. -/
namespace Go.Proofs.YtcjobpcbppcdnaaGreatDoor
open Go.RowKit

theorem enc_more {r : Int} (h : VR r) (h1 : 128 ≤ r) : ∃ b : UInt8, 128 ≤ b.toNat ∧ ((∃ x, Utf8.encode r = ⟨#[x, b]⟩) ∨ (∃ x y, Utf8.encode r = ⟨#[x, y, b]⟩) ∨ (∃ x y z, Utf8.encode r = ⟨#[x, y, z, b]⟩)) := by
  have mk : ∀ l : List UInt8, encR r = l → Utf8.encode r = ⟨l.toArray⟩ := by
    intro l hl
    rw [← encR_mk, hl]
  rcases enc_cases h with ⟨a1, a2, e⟩ | ⟨a1, a2, e⟩ | ⟨a1, a2, e⟩ | ⟨a1, a2, e⟩
  · omega
  · exact ⟨_, by rw [ofN (by omega)]; omega, .inl ⟨_, mk _ e⟩⟩
  · exact ⟨_, by rw [ofN (by omega)]; omega, .inr (.inl ⟨_, _, mk _ e⟩)⟩
  · exact ⟨_, by rw [ofN (by omega)]; omega, .inr (.inr ⟨_, _, _, mk _ e⟩)⟩
theorem idx_high {l : List UInt8} {b : UInt8} (hb : 128 ≤ b.toNat) (h : l.all (fun c => decide (c.toNat < 128)) = true) : Lib.indexByte l b = -1 := by
  apply idxB_none
  rw [← Bool.not_eq_true, List.contains_iff_mem]
  intro hm
  have := List.all_eq_true.1 h b hm
  simp at this
  omega
set_option maxRecDepth 100000 in
set_option maxHeartbeats 2000000 in
theorem IndexRune_err (w : World) :
    Calls Tryz.prog 125 #[.string ⟨stopCs.toArray⟩, .int .i32 65533] w fun e w' => e = .returned (.int .i64 (-1)) ∧ Below w.heap.size w w' := by
  unfold stopCs
  go_enter Tryz.func125, Tryz.ntmps125
  go_wp2_with fail
  go_loopg [5, 6] 8 (fun gk _ _ wx => ∃ i : Nat, i ≤ 8 ∧ Aside (i + gk = 8) ∧ Aside (wx = w.iter ⟨#[32, 9, 10, 13, 40, 41, 36, 39]⟩ i))
  case atStart => exact ⟨0, by omega, by show _ = _; omega, rfl⟩
  case round =>
    obtain ⟨i, hi8, AG, AW⟩ := hrel
    obtain rfl : wr = w.iter ⟨#[32, 9, 10, 13, 40, 41, 36, 39]⟩ i := AW.out
    by_cases hlt : i < 8
    · obtain ⟨q, rfl⟩ : ∃ q, gk = q + 1 := ⟨gk - 1, by have := AG.out; omega⟩
      have hi : i < (⟨#[32, 9, 10, 13, 40, 41, 36, 39]⟩ : ByteArray).size := hlt
      have hx128 : ((⟨#[32, 9, 10, 13, 40, 41, 36, 39]⟩ : ByteArray)[i]'hi).toNat < 128 := by
        have : ∀ j : Fin 8, ((⟨#[32, 9, 10, 13, 40, 41, 36, 39]⟩ : ByteArray)[j.val]'j.isLt).toNat < 128 := by decide
        exact this ⟨i, hlt⟩
      have hnx := fun ty => run_next_ascii (P := Tryz.prog) w ⟨#[32, 9, 10, 13, 40, 41, 36, 39]⟩ i ty hi hx128
      generalize ((⟨#[32, 9, 10, 13, 40, 41, 36, 39]⟩ : ByteArray)[i]'hi).toNat = x at *
      have hz : ((x : Int) == 65533) = false := by rw [beq_eq_false_iff_ne]; omega
      go_wp2_with fail
      go_roundg q
      case measure => omega
      case rel => exact ⟨i + 1, by omega, by have := AG.out; show _ = _; omega, rfl⟩
    · obtain rfl : i = 8 := by omega
      have hnx := fun ty => run_next_end (P := Tryz.prog) w ⟨#[32, 9, 10, 13, 40, 41, 36, 39]⟩ 8 ty (by decide)
      go_wp2_with fail
      go_ret
      exact ⟨rfl, (Below.refl _ _).alloc (Nat.le_refl _) _⟩
set_option maxRecDepth 100000 in
set_option maxHeartbeats 2000000 in
theorem IndexRune_more (r : Int) (w : World) (hr : VR r) (h1 : 128 ≤ r) (h2 : r ≠ 65533) :
    Calls Tryz.prog 125 #[.string ⟨stopCs.toArray⟩, .int .i32 r] w fun e w' => e = .returned (.int .i64 (-1)) ∧ Below w.heap.size w w' := by
  have hv : Lib.validRune r = true := by unfold Lib.validRune; unfold VR at hr; simp; omega
  have hz : (r == 65533) = false := beq_eq_false_iff_ne.2 h2
  have h0 : 0 ≤ r := by omega
  have h128 : ¬ r < 128 := by omega
  unfold stopCs
  clear h2
  go_enter Tryz.func125, Tryz.ntmps125
  go_wp2_with (go_at_call 160; refine (Tryz.utf8_ValidRune _ _).mono ?_; rintro e w' ⟨rfl, rfl⟩; rw [hv])
  go_step3
  go_wp2_with fail
  obtain ⟨b, hb, hE⟩ := enc_more hr h1
  have HI : ∀ (l : List UInt8) W, l.all (fun c => decide (c.toNat < 128)) = true → Calls Tryz.prog 79 #[.string ⟨l.toArray⟩, .int .u8 b.toNat] W fun e w' => e = .returned (.int .i64 (-1)) ∧ w' = W := fun l W hl => (IndexByte_c l b W).mono fun e w' ⟨he, hw⟩ => ⟨by rw [he, idx_high hb hl], hw.symm⟩
  have HH := Lib.hid HI
  have n9 : ((9 : Int) != (b.toNat : Int)) = true := by rw [bne_iff_ne]; omega
  have n10 : ((10 : Int) != (b.toNat : Int)) = true := by rw [bne_iff_ne]; omega
  have n13 : ((13 : Int) != (b.toNat : Int)) = true := by rw [bne_iff_ne]; omega
  have hext := ba_ext
  have hget := ba_get
  clear HI hr h1 hz h0 h128 hv hb
  rcases hE with ⟨x, e⟩ | ⟨x, y, e⟩ | ⟨x, y, z, e⟩
  · rw [e]
    clear e
    rw [show wrap64 (((⟨#[x, b]⟩ : ByteArray).size : Int) - 1) = 1 from (show wrap64 ((2 : Int) - 1) = 1 by simp [wrap64])]
    go_loopg [9, 10] 1 (fun gk t f wx => t = .int .i64 1 ∧ f = .int .i64 0 ∧ Aside (wx = w'))
    case atStart => exact ⟨rfl, rfl, rfl⟩
    case round =>
      obtain ⟨rfl, rfl, AW⟩ := hrel
      obtain rfl : wr = w' := AW.out
      go_wp2_with fail
      go_step3
      go_wp2_with fail
      go_quiet (fail)
      have hB2 : Below wr.heap.size wr (wr.drewN nq) := below_drewN (Below.refl _ _) nq
      generalize wr.drewN nq = w2 at *
      go_wp2_with fail
      go_quiet ((go_at_call 79; exact Calls.quiet_of_same (HH.out _ _ (by decide))))
      have hB3 := below_drewN hB2 nq
      go_wp2_with fail
      rw [Exit.noGoto_ret]
      simp only [Exit.inBlock, Exit.then]
      rw [Exit.noGoto_ret]
      try simp only [Exit.inBlock, Exit.then]
      go_ret
      exact ⟨rfl, hB3⟩
  · rw [e]
    clear e
    rw [show wrap64 (((⟨#[x, y, b]⟩ : ByteArray).size : Int) - 1) = 2 from (show wrap64 ((3 : Int) - 1) = 2 by simp [wrap64])]
    go_loopg [9, 10] 1 (fun gk t f wx => t = .int .i64 2 ∧ f = .int .i64 0 ∧ Aside (wx = w'))
    case atStart => exact ⟨rfl, rfl, rfl⟩
    case round =>
      obtain ⟨rfl, rfl, AW⟩ := hrel
      obtain rfl : wr = w' := AW.out
      go_wp2_with fail
      go_step3
      go_wp2_with fail
      go_quiet (fail)
      have hB2 : Below wr.heap.size wr (wr.drewN nq) := below_drewN (Below.refl _ _) nq
      generalize wr.drewN nq = w2 at *
      go_wp2_with fail
      go_quiet ((go_at_call 79; exact Calls.quiet_of_same (HH.out _ _ (by decide))))
      have hB3 := below_drewN hB2 nq
      go_wp2_with fail
      rw [Exit.noGoto_ret]
      simp only [Exit.inBlock, Exit.then]
      rw [Exit.noGoto_ret]
      try simp only [Exit.inBlock, Exit.then]
      go_ret
      exact ⟨rfl, hB3⟩
  · rw [e]
    clear e
    rw [show wrap64 (((⟨#[x, y, z, b]⟩ : ByteArray).size : Int) - 1) = 3 from (show wrap64 ((4 : Int) - 1) = 3 by simp [wrap64])]
    go_loopg [9, 10] 1 (fun gk t f wx => t = .int .i64 3 ∧ f = .int .i64 0 ∧ Aside (wx = w'))
    case atStart => exact ⟨rfl, rfl, rfl⟩
    case round =>
      obtain ⟨rfl, rfl, AW⟩ := hrel
      obtain rfl : wr = w' := AW.out
      go_wp2_with fail
      go_step3
      go_wp2_with fail
      go_quiet (fail)
      have hB2 : Below wr.heap.size wr (wr.drewN nq) := below_drewN (Below.refl _ _) nq
      generalize wr.drewN nq = w2 at *
      go_wp2_with fail
      go_quiet ((go_at_call 79; exact Calls.quiet_of_same (HH.out _ _ (by decide))))
      have hB3 := below_drewN hB2 nq
      go_wp2_with fail
      rw [Exit.noGoto_ret]
      simp only [Exit.inBlock, Exit.then]
      rw [Exit.noGoto_ret]
      try simp only [Exit.inBlock, Exit.then]
      go_ret
      exact ⟨rfl, hB3⟩
end Go.Proofs.YtcjobpcbppcdnaaGreatDoor
/- Contracts: strings.IndexAny at the bytes that end a word. -/
namespace Go.Proofs.YtcjobpcbppcdnaaGreatDoor
open Go.RowKit

/-- Where one of the bytes stands, seen from a place on. -/
def IdxFrom (l : List UInt8) (k : Nat) : Prop := Lib.indexAny l stopCs = if Lib.indexAny (l.drop k) stopCs = -1 then -1 else (k : Int) + Lib.indexAny (l.drop k) stopCs
theorem IdxFrom.zero (l : List UInt8) : IdxFrom l 0 := by
  unfold IdxFrom
  rw [List.drop_zero]
  split
  · next h => exact h
  · simp
theorem idx_cons (b : UInt8) (l : List UInt8) : Lib.indexAny (b :: l) stopCs = if stopCs.contains b then 0 else if Lib.indexAny l stopCs = -1 then -1 else Lib.indexAny l stopCs + 1 := by
  rw [Lib.indexAny]
  split
  · rfl
  · simp only [beq_iff_eq]
theorem IdxFrom.one {l : List UInt8} {k : Nat} (h : IdxFrom l k) (hk : k < l.length) (hn : stopCs.contains l[k] = false) : IdxFrom l (k + 1) := by
  unfold IdxFrom at h ⊢
  rw [List.drop_eq_getElem_cons hk, idx_cons, hn] at h
  have hg := Lib.indexAny_ge stopCs (l.drop (k + 1))
  simp only [Bool.false_eq_true, if_false] at h
  generalize Lib.indexAny (l.drop (k + 1)) stopCs = z at *
  by_cases h1 : z = -1
  · simp only [h1, if_true] at h ⊢
    exact h
  · rw [if_neg h1, if_neg (by omega)] at h
    rw [if_neg h1, h]
    push_cast
    omega
theorem IdxFrom.more {l : List UInt8} {k : Nat} (h : IdxFrom l k) : ∀ n, k + n ≤ l.length → (∀ j (hj : j < l.length), k ≤ j → j < k + n → stopCs.contains l[j] = false) → IdxFrom l (k + n)
  | 0, _, _ => h
  | n + 1, hn, hs => (IdxFrom.more h n (by omega) (fun j hj h1 h2 => hs j hj h1 (by omega))).one (by omega) (hs (k + n) (by omega) (by omega) (by omega))
theorem IdxFrom.hit {l : List UInt8} {k : Nat} (h : IdxFrom l k) (hk : k < l.length) (hn : stopCs.contains l[k] = true) : Lib.indexAny l stopCs = k := by
  unfold IdxFrom at h
  rw [List.drop_eq_getElem_cons hk, idx_cons, hn] at h
  simpa using h
theorem IdxFrom.none {l : List UInt8} (h : IdxFrom l l.length) : Lib.indexAny l stopCs = -1 := by
  unfold IdxFrom at h
  rw [List.drop_length] at h
  exact h
theorem decode_high (l : List UInt8) (h : 128 ≤ (l.getD 0 0).toNat) : 128 ≤ (Lib.decodeL l).1 ∧ ∀ j, j < (Lib.decodeL l).2 → 128 ≤ (l.getD j 0).toNat := by
  have key : 128 ≤ (Lib.decodeL l).1 ∧ (Lib.decodeL l).2 ≤ 4 ∧ (1 < (Lib.decodeL l).2 → 128 ≤ (l.getD 1 0).toNat) ∧ (2 < (Lib.decodeL l).2 → 128 ≤ (l.getD 2 0).toNat) ∧ (3 < (Lib.decodeL l).2 → 128 ≤ (l.getD 3 0).toNat) := by
    rw [Lib.decodeL_N]
    generalize (l.getD 0 0).toNat = b0 at *
    generalize (l.getD 1 0).toNat = b1 at *
    generalize (l.getD 2 0).toNat = b2 at *
    generalize (l.getD 3 0).toNat = b3 at *
    unfold Lib.decodeN
    repeat' split
    all_goals dsimp only
    all_goals refine ⟨?_, ?_, ?_, ?_, ?_⟩
    all_goals omega
  obtain ⟨k1, k2, k3, k4, k5⟩ := key
  refine ⟨k1, fun j hj => ?_⟩
  match j, hj with
  | 0, _ => exact h
  | 1, hj => exact k3 hj
  | 2, hj => exact k4 hj
  | 3, hj => exact k5 hj
  | j + 4, hj => omega
theorem high_stop (b : UInt8) (h : 128 ≤ b.toNat) : stopCs.contains b = false := by
  rw [← Bool.not_eq_true, List.contains_iff_mem]
  intro hm
  have : ∀ c ∈ stopCs, c.toNat < 128 := by decide
  have := this b hm
  omega
/-- What the next character tells: where it is one of the bytes; or that the search goes on behind it. -/
theorem rune_step (l : List UInt8) (k : Nat) (hk : k < l.length) (h : IdxFrom l k) : ∃ z : Int, (∀ W, Calls Tryz.prog 125 #[.string ⟨#[32, 9, 10, 13, 40, 41, 36, 39]⟩, .int .i32 ((Lib.decodeL (l.drop k)).1 : Int)] W fun e w' => e = .returned (.int .i64 z) ∧ Below W.heap.size W w') ∧
    ((0 ≤ z ∧ Lib.indexAny l stopCs = k) ∨ (z < 0 ∧ IdxFrom l (k + (Lib.decodeL (l.drop k)).2))) := by
  have hd : l.drop k = l[k] :: l.drop (k + 1) := List.drop_eq_getElem_cons hk
  by_cases hb : l[k].toNat < 128
  · rw [hd, Lib.decodeL_ascii _ _ hb]
    simp only
    refine ⟨Lib.indexByte stopCs l[k], fun W => ?_, ?_⟩
    · refine (Tryz.strings_IndexRune_ascii ⟨#[32, 9, 10, 13, 40, 41, 36, 39]⟩ (l[k].toNat : Int) W (by omega) (by omega)).mono ?_
      rintro e w' ⟨rfl, rfl⟩
      exact ⟨by simp [stopCs], Below.refl _ _⟩
    · have hm := idx_mem stopCs l[k]
      cases hc : stopCs.contains l[k]
      · right
        refine ⟨?_, h.one hk hc⟩
        have : ¬ 0 ≤ Lib.indexByte stopCs l[k] := by rw [hm]; simpa using hc
        omega
      · left
        exact ⟨hm.2 (by simpa using hc), h.hit hk hc⟩
  · have hg0 : (l.drop k).getD 0 0 = l[k] := by rw [hd]; rfl
    have hne : l.drop k ≠ [] := by rw [hd]; exact List.cons_ne_nil _ _
    obtain ⟨d1, d2⟩ := decode_high (l.drop k) (by rw [hg0]; omega)
    obtain ⟨n1, n2, n3, n4⟩ := decodeL_ok (l.drop k) hne
    have hV := VR_of n4
    rw [List.length_drop] at n2
    refine ⟨-1, fun W => ?_, .inr ⟨by omega, h.more _ (by omega) ?_⟩⟩
    · by_cases he : ((Lib.decodeL (l.drop k)).1 : Int) = 65533
      · rw [he]; exact IndexRune_err W
      · exact IndexRune_more _ W hV (by omega) he
    · intro j hj h1 h2
      apply high_stop
      have := d2 (j - k) (by omega)
      have e : (l.drop k).getD (j - k) 0 = l[j] := by
        rw [List.getD_eq_getElem?_getD, List.getElem?_drop, show k + (j - k) = j by omega, List.getElem?_eq_getElem hj]
        rfl
      rw [e] at this
      exact this
set_option maxRecDepth 100000 in
set_option maxHeartbeats 2000000 in
theorem IndexAny_short (l : List UInt8) (w : World) (h8 : l.length ≤ 8) :
    Calls Tryz.prog 81 #[.string ⟨l.toArray⟩, .string ⟨#[32, 9, 10, 13, 40, 41, 36, 39]⟩] w fun e w' => e = .returned (.int .i64 (Lib.indexAny l stopCs)) ∧ Below w.heap.size w w' := by
  obtain ⟨R, hR⟩ : ∃ R, Lib.indexAny l stopCs = R := ⟨_, rfl⟩
  rw [hR]
  have HR := Lib.hid hR
  clear hR
  have h8z : decide ((8 : Int) < (l.length : Int)) = false := decide_eq_false (by omega)
  go_enter Tryz.func81, Tryz.ntmps81
  go_wp2_with (go_at_call 126; refine (Tryz.strings_shouldUseASCIISet _ _).mono ?_; rintro e w' ⟨rfl, rfl⟩; rw [h8z])
  go_loopg [9, 10] l.length (fun gk _ _ wr => ∃ k : Nat, k ≤ l.length ∧ Aside (k + gk = l.length) ∧ Aside (wr.heap[w'.heap.size]? = some (.stringIter ⟨l.toArray⟩ k)) ∧ Below w'.heap.size w' wr ∧ Aside (IdxFrom l k))
  case atStart => exact ⟨0, Nat.zero_le _, Nat.zero_add _, World.iter_heap _ _ _, (Below.refl _ _).alloc (Nat.le_refl _) _, IdxFrom.zero l⟩
  case round =>
    obtain ⟨k, hk, AG, AI, hB, AX⟩ := hrel
    by_cases hlt : k < l.length
    · have hne : l.drop k ≠ [] := by intro h; have := congrArg List.length h; simp at this; omega
      obtain ⟨hn1, hn2, _, _⟩ := decodeL_ok _ hne
      have hd := decode_pos l k hlt
      have hnx := fun ty => Lib.run_next_any_at (P := Tryz.prog) wr w'.heap.size ⟨l.toArray⟩ k ty AI.out hlt
      rw [hd] at hnx
      obtain ⟨z, hI, hz⟩ := rune_step l k hlt AX.out
      have HI := Lib.hid hI
      have AI' : Aside ((wr.iterAt w'.heap.size ⟨l.toArray⟩ (k + (Lib.decodeL (l.drop k)).2)).heap[w'.heap.size]? = some (.stringIter ⟨l.toArray⟩ (k + (Lib.decodeL (l.drop k)).2))) := Lib.iterAt_heap _ _ _ _ _ AI.out
      have hB' : Below w'.heap.size w' (wr.iterAt w'.heap.size ⟨l.toArray⟩ (k + (Lib.decodeL (l.drop k)).2)) := Lib.below_iterAt hB (Nat.le_refl _) _ _
      rw [List.length_drop] at hn2
      clear hd hne AX AI hI
      generalize (Lib.decodeL (l.drop k)).2 = n at *
      generalize (((Lib.decodeL (l.drop k)).1 : Nat) : Int) = r at *
      generalize wr.iterAt w'.heap.size ⟨l.toArray⟩ (k + n) = W at *
      rcases hz with ⟨hz, hR⟩ | ⟨hz, hX⟩
      · have hzb : decide (0 ≤ z) = true := decide_eq_true hz
        rw [HR.out] at hR
        subst hR
        go_wp2_with (go_at_call 125; refine (HI.out _).mono ?_; rintro e w2 ⟨rfl, hb2⟩)
        go_ret
        exact ⟨rfl, hB'.trans (hb2.mono hB'.size)⟩
      · have hz' : ¬ 0 ≤ z := by omega
        have hzb : decide (0 ≤ z) = false := decide_eq_false hz'
        have HX := Lib.hid hX
        have hlW : w'.heap.size < W.heap.size := (Array.getElem?_eq_some_iff.1 AI'.out).1
        clear hX
        go_wp2_with (go_at_call 125; refine (HI.out _).mono ?_; rintro e w2 ⟨rfl, hb2⟩)
        go_roundg (gk - n)
        case measure => have := AG.out; omega
        case rel => exact ⟨k + n, by omega, by have := AG.out; show _ = _; omega, (hb2.block _ hlW).trans AI'.out, hB'.trans (hb2.mono hB'.size), HX.out⟩
    · obtain rfl : k = l.length := by omega
      have hnx := fun ty => Lib.run_next_end_at (P := Tryz.prog) wr w'.heap.size ⟨l.toArray⟩ l.length ty AI.out (by simp [ByteArray.size])
      have hx := IdxFrom.none AX.out
      rw [HR.out] at hx
      subst hx
      go_wp2_with fail
      go_ret
      exact ⟨rfl, hB⟩
theorem IndexAny_c (l : List UInt8) (w : World) (hl : l.length < 4294967281) :
    Calls Tryz.prog 81 #[.string ⟨l.toArray⟩, .string ⟨#[32, 9, 10, 13, 40, 41, 36, 39]⟩] w fun e w' => e = .returned (.int .i64 (Lib.indexAny l stopCs)) ∧ Below w.heap.size w w' := by
  by_cases h8 : l.length ≤ 8
  · exact IndexAny_short l w h8
  · refine (Tryz.strings_IndexAny_long (zero_of_info (n := 256) (by kernel_rfl)).1 ⟨l.toArray⟩ ⟨#[32, 9, 10, 13, 40, 41, 36, 39]⟩ w (by decide) (by show 8 < l.toArray.size; simp; omega) (by show l.toArray.size < _; simpa using hl) (by decide) ?_).mono ?_
    · intro j b hj
      have hb : b ∈ stopCs := List.mem_of_getElem? hj
      have : ∀ c ∈ stopCs, c.toNat < 128 := by decide
      exact this b hb
    · rintro e w' ⟨rfl, rfl⟩
      exact ⟨rfl, ((Below.refl _ _).alloc (Nat.le_refl _) _).alloc (by simp) _⟩
end Go.Proofs.YtcjobpcbppcdnaaGreatDoor
/- Contracts: the words of a definition. (Printed by gen_words.py.) -/
namespace Go.Proofs.YtcjobpcbppcdnaaGreatDoor
open Go.RowKit

def WordsRet (w : World) (o : Option (List Wd)) (e : Ending) (w' : World) : Prop := Below w.heap.size w w' ∧ ∃ v, e = .returned (.tuple #[v, .bool o.isSome]) ∧ Wds w.heap.size w' v (o.getD [])
/-- What holds where the next word begins. -/
structure WJ (w : World) (s : List UInt8) (R : Option (List Wd)) (k : Nat) (acc : List Wd) (out : Value) (w' : World) : Prop where
  le : k ≤ s.length
  own : Wds w.heap.size w' out acc
  num : acc.length ≤ k
  bel : Below w.heap.size w w'
  rest : wordsF (s.length + 1) (s.drop k) acc = R
theorem sub_to_end (l : List UInt8) (k : Nat) : sub l k l.length = l.drop k := by unfold sub; exact List.take_of_length_le (by simp)
theorem sub_add (l : List UInt8) (k q : Nat) : sub l k (k + q) = (l.drop k).take q := by unfold sub; rw [show k + q - k = q by omega]
theorem IndexByte_q (cs : List UInt8) (w : World) : Calls Tryz.prog 79 #[.string ⟨cs.toArray⟩, .int .u8 39] w fun e w' => e = .returned (.int .i64 (Lib.indexByte cs 39)) ∧ w = w' := IndexByte_c cs 39 w
/-- A scope whose code, from the label on, has been looked at once. -/
theorem wp_scope_jumps1 {P : Program} {a : Act} {w : World} {Q : Exit → Act → World → Prop} {c rest : Code} (l : Nat) (J : Act → World → Prop) (μ : Act → World → Nat) (hf : findLabel c l = some (Code.skip.seq rest))
    (first : ∀ Q', (∀ a w, J a w → rest.wp P Q' a w) → c.wp P Q' a w)
    (pass : ∀ a w, J a w → rest.wp P (Exit.jump l (fun a' w' => J a' w' ∧ μ a' w' < μ a w) Q) a w) : (Code.scope c).wp P Q a w := by
  refine wp_scope_jumps l J μ hf (first _ fun a w h => Code.wp_mono ?_ (pass a w h)) (fun a w h => wp_seq (wp_skip (pass a w h)))
  intro e a' w' he
  cases e with
  | goto l' => exact ⟨he.1, he.2.1⟩
  | _ => exact he
theorem wj_skip {s : List UInt8} {k m : Nat} (hlt : m < s.length) (hb : sBlank s[m] = true) (h : (s.drop k).dropWhile sBlank = (s.drop m).dropWhile sBlank) : (s.drop k).dropWhile sBlank = (s.drop (m + 1)).dropWhile sBlank := by
  rw [h, List.drop_eq_getElem_cons hlt, List.dropWhile_cons, if_pos hb]
theorem wj_stop {s : List UInt8} {k m : Nat} (hlt : m < s.length) (hb : ¬ sBlank s[m] = true) (h : (s.drop k).dropWhile sBlank = (s.drop m).dropWhile sBlank) : (s.drop k).dropWhile sBlank = s[m] :: s.drop (m + 1) := by
  rw [h, List.drop_eq_getElem_cons hlt, List.dropWhile_cons, if_neg hb]
theorem wj_end {s : List UInt8} {k : Nat} (h : (s.drop k).dropWhile sBlank = (s.drop s.length).dropWhile sBlank) : (s.drop k).dropWhile sBlank = [] := by
  rw [h, List.drop_length]; rfl
/-- A quoted word. -/
theorem wj_quote {w w' w'' : World} {s : List UInt8} {R : Option (List Wd)} {k m : Nat} {acc : List Wd} {out out' : Value} (h : WJ w s R k acc out w') (hkm : k ≤ m) (hlt : m < s.length) (hd : (s.drop k).dropWhile sBlank = s[m] :: s.drop (m + 1)) (hc : s[m] = 39) (hq : (s.drop (m + 1)).contains 39 = true)
    (ho : Wds w.heap.size w'' out' (acc ++ [((s.drop (m + 1)).takeWhile (· != 39), true)])) (hb : Below w.heap.size w w'') : WJ w s R (m + (((s.drop (m + 1)).takeWhile (· != 39)).length + 2)) (acc ++ [((s.drop (m + 1)).takeWhile (· != 39), true)]) out' w'' := by
  have hl := (idxB_some _ _ hq).2
  rw [List.length_drop] at hl
  refine ⟨by omega, ho, by have := h.num; simp; omega, hb, ?_⟩
  have hr := h.rest
  rw [wordsF_go _ acc (by rw [List.length_drop]; omega) hd, hc, if_pos (show ((39 : UInt8) == 39) = true from rfl), if_pos hq] at hr
  rw [← hr]
  congr 1
  rw [← drop_take_len, List.tail_drop, List.drop_drop]
  congr 1
  omega
theorem wj_noquote {w w' : World} {s : List UInt8} {R : Option (List Wd)} {k m : Nat} {acc : List Wd} {out : Value} (h : WJ w s R k acc out w') (hlt : m < s.length) (hd : (s.drop k).dropWhile sBlank = s[m] :: s.drop (m + 1)) (hc : s[m] = 39) (hq : (s.drop (m + 1)).contains 39 = false) : R = none := by
  have hr := h.rest
  rw [wordsF_go _ acc (by rw [List.length_drop]; omega) hd, hc, if_pos (show ((39 : UInt8) == 39) = true from rfl), hq] at hr
  exact hr.symm
theorem wj_alone {w w' w'' : World} {s : List UInt8} {R : Option (List Wd)} {k m : Nat} {acc : List Wd} {out out' : Value} (h : WJ w s R k acc out w') (hkm : k ≤ m) (hlt : m < s.length) (hd : (s.drop k).dropWhile sBlank = s[m] :: s.drop (m + 1)) (hc : s[m] ≠ 39) (ha : sAlone s[m] = true)
    (ho : Wds w.heap.size w'' out' (acc ++ [([s[m]], false)])) (hb : Below w.heap.size w w'') : WJ w s R (m + 1) (acc ++ [([s[m]], false)]) out' w'' := by
  refine ⟨by omega, ho, by have := h.num; simp; omega, hb, ?_⟩
  have hr := h.rest
  rw [wordsF_go _ acc (by rw [List.length_drop]; omega) hd, if_neg (by simpa using hc), if_pos ha] at hr
  exact hr
theorem wj_plain {w w' w'' : World} {s : List UInt8} {R : Option (List Wd)} {k m : Nat} {acc : List Wd} {out out' : Value} (h : WJ w s R k acc out w') (hkm : k ≤ m) (hlt : m < s.length) (hd : (s.drop k).dropWhile sBlank = s[m] :: s.drop (m + 1)) (hc : s[m] ≠ 39) (ha : ¬ sAlone s[m] = true) {q : Nat} (hq : q = ((s.drop m).takeWhile (fun c => !sStop c)).length)
    (hs : sStop s[m] = false) (ho : Wds w.heap.size w'' out' (acc ++ [((s.drop m).take q, false)])) (hb : Below w.heap.size w w'') : 0 < q ∧ WJ w s R (m + q) (acc ++ [((s.drop m).take q, false)]) out' w'' := by
  have hle : q ≤ s.length - m := by
    rw [hq, ← List.length_drop]
    exact (List.takeWhile_sublist _).length_le
  have hdm : s.drop m = s[m] :: s.drop (m + 1) := List.drop_eq_getElem_cons hlt
  have htw : (s.drop m).takeWhile (fun c => !sStop c) = s[m] :: (s.drop (m + 1)).takeWhile (fun c => !sStop c) := by
    rw [hdm, List.takeWhile_cons, hs]
    simp
  have hq1 : q = ((s.drop (m + 1)).takeWhile (fun c => !sStop c)).length + 1 := by rw [hq, htw]; rfl
  refine ⟨by omega, by omega, ho, by have := h.num; simp; omega, hb, ?_⟩
  have hr := h.rest
  rw [wordsF_go _ acc (by rw [List.length_drop]; omega) hd, if_neg (by simpa using hc), if_neg ha] at hr
  rw [← hr]
  have e1 : (s.drop m).take q = s[m] :: (s.drop (m + 1)).takeWhile (fun c => !sStop c) := by rw [hq, take_take_len, htw]
  have e2 : s.drop (m + q) = (s.drop (m + 1)).dropWhile (fun c => !sStop c) := by
    rw [← drop_take_len, List.drop_drop, hq1]
    congr 1
    omega
  rw [e1, e2]
/-- What holds where the next word begins: of the whole frame. -/
def WordsJ (w : World) (s : List UInt8) (R : Option (List Wd)) (a' : Act) (w' : World) : Prop := ∃ (k : Nat) (acc : List Wd) (out : Value) (u6 u7 u8 u9 u10 u11 u12 u13 u14 u15 u16 u17 u18 u19 u20 u21 u22 u23 u24 u25 u26 u27 u28 u29 u30 u31 u32 u33 u34 u35 u36 u37 u38 u39 u40 u41 u42 u43 u44 u45 u46 u47 u48 u49 u50 u51 u52 u53 u54 u55 u56 u57 u58 u59 u60 u61 u62 u63 u64 u65 u66 u67 u68 u69 u70 u71 u72 u73 u74 u75 u76 u77 u78 u79 u80 u81 u82 u83 u84 u85 u86 u87 u88 u89 u90 u91 u92 u93 u94 u95 u96 : Value), a' = { tmps := #[.string ⟨s.toArray⟩, undef, .slice none 0 0, .bool false, out, .int .i64 k, u6, u7, u8, u9, u10, u11, u12, u13, u14, u15, u16, u17, u18, u19, u20, u21, u22, u23, u24, u25, u26, u27, u28, u29, u30, u31, u32, u33, u34, u35, u36, u37, u38, u39, u40, u41, u42, u43, u44, u45, u46, u47, u48, u49, u50, u51, u52, u53, u54, u55, u56, u57, u58, u59, u60, u61, u62, u63, u64, u65, u66, u67, u68, u69, u70, u71, u72, u73, u74, u75, u76, u77, u78, u79, u80, u81, u82, u83, u84, u85, u86, u87, u88, u89, u90, u91, u92, u93, u94, u95, u96], defers := [] } ∧ WJ w s R k acc out w'
def WordsM (s : List UInt8) (a' : Act) : Nat := s.length - (intOf (a'.tmps.getD 5 undef)).toNat
theorem jump_ret {l : Nat} {J : Act → World → Prop} {Q : Exit → Act → World → Prop} {a : Act} {w : World} : Exit.jump l J Q .ret a w = Q .ret a w := rfl
theorem jump_goto {l : Nat} {J : Act → World → Prop} {Q : Exit → Act → World → Prop} {a : Act} {w : World} (h : J a w) : Exit.jump l J Q (.goto l) a w := ⟨rfl, h⟩
theorem wds_grown {B : Nat} {W w w' : World} {v : Value} {l : List Wd} (hb : Below B W w) (hO : Wds B w v l) (hg : w.grownBy w' v.ownBlock) : Below B W w' := hb.grown hg hO.2 (fun k hk => (hO.lt k hk).1)
theorem sub_one (s : List UInt8) (m : Nat) (h : m < s.length) : sub s m (m + 1) = [s[m]] := by
  rw [sub_add, List.drop_eq_getElem_cons h]
  rfl
set_option maxRecDepth 100000 in
set_option maxHeartbeats 8000000 in
theorem words_c (s : List UInt8) (w : World) (hs : s.length ≤ 1000000) :
    Calls Tryz.prog 48 #[.string ⟨s.toArray⟩] w (WordsRet w (wordsL s)) := by
  obtain ⟨R, hR⟩ : ∃ R, wordsL s = R := ⟨_, rfl⟩
  rw [hR]
  have HR0 := Lib.hid hR
  clear hR
  have hget := ba_get
  have hext := ba_ext
  go_enter Tryz.func48, Tryz.ntmps48
  go_wp2_with fail
  refine wp_scope_jumps1 0 (WordsJ w s R) (fun a' _ => WordsM s a') rfl ?_ ?_
  · intro Q' HQ
    have HQ1 := Lib.hid HQ
    clear HQ
    go_wp2_with fail
    go_step3
    rename_i K hK
    refine hK _ _ (HQ1.out _ _ ?_)
    exact ⟨0, [], _, _, _, _, _, _, _, _, _, _, _, _, _, _, _, _, _, _, _, _, _, _, _, _, _, _, _, _, _, _, _, _, _, _, _, _, _, _, _, _, _, _, _, _, _, _, _, _, _, _, _, _, _, _, _, _, _, _, _, _, _, _, _, _, _, _, _, _, _, _, _, _, _, _, _, _, _, _, _, _, _, _, _, _, _, _, _, _, _, _, _, _, rfl, ⟨Nat.zero_le _, Wds.nil (Nat.le_refl _), by simp, Below.refl _ _, by rw [List.drop_zero]; exact HR0.out⟩⟩
  · rintro a' wj ⟨k, acc, out, u6, u7, u8, u9, u10, u11, u12, u13, u14, u15, u16, u17, u18, u19, u20, u21, u22, u23, u24, u25, u26, u27, u28, u29, u30, u31, u32, u33, u34, u35, u36, u37, u38, u39, u40, u41, u42, u43, u44, u45, u46, u47, u48, u49, u50, u51, u52, u53, u54, u55, u56, u57, u58, u59, u60, u61, u62, u63, u64, u65, u66, u67, u68, u69, u70, u71, u72, u73, u74, u75, u76, u77, u78, u79, u80, u81, u82, u83, u84, u85, u86, u87, u88, u89, u90, u91, u92, u93, u94, u95, u96, rfl, hJ⟩
    have HJ := Lib.hid hJ
    have hkl := hJ.le
    have hnum := hJ.num
    obtain ⟨Ao, co, rfl, hco⟩ := hJ.own.isSlice
    have HB := Lib.hid hJ.bel
    clear hJ HR0
    go_wp2_with fail
    go_loopg [5] (s.length - k) (fun gk t wr2 => ∃ m : Nat, k ≤ m ∧ m ≤ s.length ∧ t = .int .i64 m ∧ Aside (m + gk = s.length) ∧ Aside (wr2 = wj) ∧ Aside ((s.drop k).dropWhile sBlank = (s.drop m).dropWhile sBlank))
    case atStart => exact ⟨k, Nat.le_refl _, hkl, rfl, by show _ = _; omega, rfl, rfl⟩
    case round =>
      obtain ⟨m, hkm, hm, rfl, AG, AW, AD⟩ := hrel
      obtain rfl : wr = wj := AW.out
      clear AW
      by_cases hlt : m < s.length
      · by_cases hb : sBlank s[m] = true
        · obtain ⟨q, rfl⟩ : ∃ q, gk = q + 1 := ⟨gk - 1, by have := AG.out; omega⟩
          have hge := (sBlank_idx s[m]).1 hb
          have HD := Lib.hid (wj_skip hlt hb AD.out)
          clear AD hb
          go_wp2_with (go_at_call 79; (with_reducible refine (IndexByte_c [32, 9, 10, 13] s[m] _).mono ?_); rintro e w1 ⟨rfl, rfl⟩)
          go_roundg q
          case measure => omega
          case rel => exact ⟨m + 1, by omega, by omega, by go_num, by have := AG.out; show _ = _; omega, rfl, HD.out⟩
        · have hge : ¬ 0 ≤ Lib.indexByte [32, 9, 10, 13] s[m] := fun h => hb ((sBlank_idx s[m]).2 h)
          have HD := Lib.hid (wj_stop hlt hb AD.out)
          have hne : ((m : Int) == (s.length : Int)) = false := by rw [beq_eq_false_iff_ne]; omega
          have HBL := Lib.hid hb
          clear AD AG hb
          by_cases hq : s[m] = 39
          · have hqi : ((s[m].toNat : Int) == 39) = true := by rw [hq]; rfl
            have he := sub_to_end s (m + 1)
            have HQ := Lib.hid hq
            clear hq
            cases hc : (s.drop (m + 1)).contains 39
            · have hix := idxB_none _ _ hc
              have HR := Lib.hid (wj_noquote HJ.out hlt HD.out HQ.out hc)
              clear hc
              go_wp2_with (first | (go_at_call 79; (with_reducible refine (IndexByte_c [32, 9, 10, 13] s[m] _).mono ?_); rintro e w1 ⟨rfl, rfl⟩) | (go_at_call 79; (with_reducible refine (IndexByte_q (s.drop (m + 1)) _).mono ?_); rintro e w1 ⟨rfl, rfl⟩))
              rw [jump_ret]
              go_ret2
              rw [HR.out]
              exact ⟨HB.out, _, rfl, Wds.nil HB.out.size⟩
            · obtain ⟨hix, hl2⟩ := idxB_some _ _ hc
              have HC := Lib.hid hc
              obtain ⟨W, hW⟩ : ∃ W, (s.drop (m + 1)).takeWhile (· != 39) = W := ⟨_, rfl⟩
              rw [hW] at hix hl2
              have he2 : sub s (m + 1) (m + 1 + W.length) = W := by rw [sub_add, ← hW, take_take_len]
              rw [List.length_drop] at hl2
              have HW := Lib.hid hW
              clear hc hW
              go_wp2_with (first | (go_at_call 79; (with_reducible refine (IndexByte_c [32, 9, 10, 13] s[m] _).mono ?_); rintro e w1 ⟨rfl, rfl⟩) | (go_at_call 79; (with_reducible refine (IndexByte_q (s.drop (m + 1)) _).mono ?_); rintro e w1 ⟨rfl, rfl⟩) | (go_at_call 80; refine (Clone_c W _ (by omega)).mono ?_; rintro e w2 ⟨rfl, hb2⟩; have hO2 := HJ.out.own.below hb2; have hB2 := HB.out.trans (hb2.mono HB.out.size)) | (at_builtin; refine wds_one (t := W) (q := true) rfl _ _ rfl rfl hO2 rfl rfl (by omega) ?_; intro v' w3 hO3 hg3) | go_step3)
              have hWJ := wj_quote (w'' := w3) (out' := v') HJ.out hkm hlt HD.out HQ.out HC.out (by rw [HW.out]; exact hO3) (wds_grown hB2 hO2 hg3)
              rw [HW.out] at hWJ
              have e5 : Value.int .i64 ((m : Int) + ((W.length : Int) + 2)) = .int .i64 ((m + (W.length + 2) : Nat) : Int) := by go_num
              rw [e5]
              exact jump_goto ⟨⟨_, _, _, _, _, _, _, _, _, _, _, _, _, _, _, _, _, _, _, _, _, _, _, _, _, _, _, _, _, _, _, _, _, _, _, _, _, _, _, _, _, _, _, _, _, _, _, _, _, _, _, _, _, _, _, _, _, _, _, _, _, _, _, _, _, _, _, _, _, _, _, _, _, _, _, _, _, _, _, _, _, _, _, _, _, _, _, _, _, _, _, _, _, _, rfl, hWJ⟩, by simp [WordsM, intOf]; omega⟩
          · have hqi : ((s[m].toNat : Int) == 39) = false := by
              rw [beq_eq_false_iff_ne]
              intro h
              exact hq (UInt8.toNat.inj (by show _ = 39; omega))
            by_cases ha : sAlone s[m] = true
            · have hai := (sAlone_idx s[m]).1 ha
              have he3 := sub_one s m hlt
              have HQ := Lib.hid hq
              have HA := Lib.hid ha
              clear hq ha
              have hO2 := HJ.out.own
              go_wp2_with (first | (go_at_call 79; (with_reducible refine (IndexByte_c [32, 9, 10, 13] s[m] _).mono ?_); rintro e w1 ⟨rfl, rfl⟩) | (go_at_call 79; (with_reducible refine (IndexByte_c [40, 41, 36] s[m] _).mono ?_); rintro e w1 ⟨rfl, rfl⟩) | (at_builtin; refine wds_one (t := [s[m]]) (q := false) rfl _ _ rfl rfl hO2 rfl rfl (by omega) ?_; intro v' w3 hO3 hg3) | go_step3)
              have hWJ := wj_alone (w'' := w3) (out' := v') HJ.out hkm hlt HD.out HQ.out HA.out hO3 (wds_grown HB.out hO2 hg3)
              have e5 : Value.int .i64 ((m : Int) + 1) = .int .i64 ((m + 1 : Nat) : Int) := by go_num
              rw [e5]
              exact jump_goto ⟨⟨_, _, _, _, _, _, _, _, _, _, _, _, _, _, _, _, _, _, _, _, _, _, _, _, _, _, _, _, _, _, _, _, _, _, _, _, _, _, _, _, _, _, _, _, _, _, _, _, _, _, _, _, _, _, _, _, _, _, _, _, _, _, _, _, _, _, _, _, _, _, _, _, _, _, _, _, _, _, _, _, _, _, _, _, _, _, _, _, _, _, _, _, _, _, rfl, hWJ⟩, by simp [WordsM, intOf]; omega⟩
            · have hai : ¬ 0 ≤ Lib.indexByte [40, 41, 36] s[m] := fun h => ha ((sAlone_idx s[m]).2 h)
              have he := sub_to_end s m
              have hst : sStop s[m] = false := by
                have h1 : sBlank s[m] = false := by simpa using HBL.out
                have h2 : sAlone s[m] = false := by simpa using ha
                have h3 : (s[m] == 39) = false := beq_eq_false_iff_ne.2 hq
                unfold sStop
                rw [h1, h2, h3]
                rfl
              obtain ⟨q, hqd⟩ : ∃ q, q = ((s.drop m).takeWhile (fun c => !sStop c)).length := ⟨_, rfl⟩
              have hqle : q ≤ s.length - m := by rw [hqd, ← List.length_drop]; exact (List.takeWhile_sublist _).length_le
              have he2 : sub s m (m + q) = (s.drop m).take q := sub_add s m q
              have hlq : ((s.drop m).take q).length ≤ 1000000 := by simp; omega
              have HQ := Lib.hid hq
              have HA := Lib.hid ha
              have HST := Lib.hid hst
              have HQD := Lib.hid hqd
              have hIA := fun W => IndexAny_c (s.drop m) W (by simp; omega)
              have HIA := Lib.hid hIA
              clear hq ha hst hIA
              cases hc : (s.drop m).any stopCs.contains
              · have hx := idxA_none stopCs _ hc
                rw [← stop_fun] at hx
                have hqe : q = s.length - m := by rw [hqd, hx.2, List.length_drop]
                have hix := hx.1
                clear hx hqd hc
                subst hqe
                have htk : (s.drop m).take (s.length - m) = s.drop m := List.take_of_length_le (by simp)
                have HTK := Lib.hid htk
                rw [htk] at he2 hlq
                clear htk
                go_wp2_with (first | (go_at_call 79; (with_reducible refine (IndexByte_c [32, 9, 10, 13] s[m] _).mono ?_); rintro e w1 ⟨rfl, rfl⟩) | (go_at_call 79; (with_reducible refine (IndexByte_c [40, 41, 36] s[m] _).mono ?_); rintro e w1 ⟨rfl, rfl⟩) | (go_at_call 81; refine (HIA.out _).mono ?_; rintro e w1 ⟨rfl, hb1⟩; have hO1 := HJ.out.own.below hb1; have hB1 := HB.out.trans (hb1.mono HB.out.size)) | (go_at_call 80; refine (Clone_c (s.drop m) _ (by omega)).mono ?_; rintro e w2 ⟨rfl, hb2⟩; have hO2 := hO1.below hb2; have hB2 := hB1.trans (hb2.mono hB1.size)) | (at_builtin; refine wds_one (t := s.drop m) (q := false) rfl _ _ rfl rfl hO2 rfl rfl (by omega) ?_; intro v' w3 hO3 hg3) | go_step3)
                obtain ⟨hq0, hWJ⟩ := wj_plain (w'' := w3) (out' := v') HJ.out hkm hlt HD.out HQ.out HA.out HQD.out HST.out (by rw [HTK.out]; exact hO3) (wds_grown hB2 hO2 hg3)
                have e5 : Value.int .i64 ((m : Int) + ((s.length : Int) - (m : Int))) = .int .i64 ((m + (s.length - m) : Nat) : Int) := by congr 1; omega
                rw [e5]
                exact jump_goto ⟨⟨_, _, _, _, _, _, _, _, _, _, _, _, _, _, _, _, _, _, _, _, _, _, _, _, _, _, _, _, _, _, _, _, _, _, _, _, _, _, _, _, _, _, _, _, _, _, _, _, _, _, _, _, _, _, _, _, _, _, _, _, _, _, _, _, _, _, _, _, _, _, _, _, _, _, _, _, _, _, _, _, _, _, _, _, _, _, _, _, _, _, _, _, _, _, rfl, by rw [HTK.out] at hWJ; exact hWJ⟩, by simp [WordsM, intOf]; omega⟩
              · obtain ⟨hix, hql⟩ := idxA_some stopCs _ hc
                rw [← stop_fun, ← hqd] at hix hql
                clear hqd hc
                go_wp2_with (first | (go_at_call 79; (with_reducible refine (IndexByte_c [32, 9, 10, 13] s[m] _).mono ?_); rintro e w1 ⟨rfl, rfl⟩) | (go_at_call 79; (with_reducible refine (IndexByte_c [40, 41, 36] s[m] _).mono ?_); rintro e w1 ⟨rfl, rfl⟩) | (go_at_call 81; refine (HIA.out _).mono ?_; rintro e w1 ⟨rfl, hb1⟩; have hO1 := HJ.out.own.below hb1; have hB1 := HB.out.trans (hb1.mono HB.out.size)) | (go_at_call 80; refine (Clone_c ((s.drop m).take q) _ (by omega)).mono ?_; rintro e w2 ⟨rfl, hb2⟩; have hO2 := hO1.below hb2; have hB2 := hB1.trans (hb2.mono hB1.size)) | (at_builtin; refine wds_one (t := (s.drop m).take q) (q := false) rfl _ _ rfl rfl hO2 rfl rfl (by omega) ?_; intro v' w3 hO3 hg3) | go_step3)
                obtain ⟨hq0, hWJ⟩ := wj_plain (w'' := w3) (out' := v') HJ.out hkm hlt HD.out HQ.out HA.out HQD.out HST.out hO3 (wds_grown hB2 hO2 hg3)
                have e5 : Value.int .i64 ((m : Int) + (q : Int)) = .int .i64 ((m + q : Nat) : Int) := by go_num
                rw [e5]
                exact jump_goto ⟨⟨_, _, _, _, _, _, _, _, _, _, _, _, _, _, _, _, _, _, _, _, _, _, _, _, _, _, _, _, _, _, _, _, _, _, _, _, _, _, _, _, _, _, _, _, _, _, _, _, _, _, _, _, _, _, _, _, _, _, _, _, _, _, _, _, _, _, _, _, _, _, _, _, _, _, _, _, _, _, _, _, _, _, _, _, _, _, _, _, _, _, _, _, _, _, rfl, hWJ⟩, by simp [WordsM, intOf]; omega⟩
      · obtain rfl : m = s.length := by omega
        have hw0 := wj_end AD.out
        have hR : R = some acc := by rw [← HJ.out.rest, wordsF_nil _ _ hw0]
        have HR := Lib.hid hR
        clear hR AD AG hw0
        go_wp2_with fail
        rw [jump_ret]
        go_ret2
        rw [HR.out]
        exact ⟨HB.out, _, rfl, HJ.out.own⟩
end Go.Proofs.YtcjobpcbppcdnaaGreatDoor
/- Contracts: find, a definition's name, the kind that a word says. -/
namespace Go.Proofs.YtcjobpcbppcdnaaGreatDoor
open Go.RowKit

theorem eq_kvS (W : World) (a b : Bool × List UInt8) : (Op.equal 99 (kvS a) (kvS b)).run Tryz.prog W = .ok (decide (a = b)) W := by
  obtain ⟨p, a⟩ := a
  obtain ⟨q, b⟩ := b
  have u9 := Tryz.underlying9
  have a9 := Tryz.isAgg9
  have z9 := Tryz.sizeOf9
  have u4 := Tryz.underlying4
  have a4 := Tryz.isAgg4
  have z4 := Tryz.sizeOf4
  have hS : Tryz.prog.underlying 99 = some (.struct (Tryz.prog.fieldsOf 99)) := by kernel_rfl
  have hp : Tryz.prog.stoodInHeld 99 = false := by kernel_rfl
  unfold Op.equal Op.maxDepth kvS
  rw [run_equalIn_agg W 9999 99 _ _ hS hp]
  simp only [Program.fieldsOf, Tryz.underlying99]
  go_simp
  by_cases h1 : a = b <;> by_cases h2 : p = q <;> simp [h1, h2]
theorem check_kvS (b : Bool) (w : World) (k : Bool × List UInt8) : (Instr.checkKey b 10000 99 (kvS k)).run Tryz.prog w = .ok () w := by
  unfold kvS
  kernel_rfl
theorem finds_kvS : Finds Tryz.prog 99 kvS := finds_asking Tryz.underlying99 (fun a b => by simp [Instr.sameNow]) eq_kvS
theorem look_kvS (w : World) (m c : Nat) (es : Array MapEntry) (R : List ((Bool × List UInt8) × Value)) (hw : w.heap[m]? = some (.map es c)) (h : MapR kvS es R) (k : Bool × List UInt8) :
    (Instr.lookup 50 (.map (some m)) (kvS k) false).run Tryz.prog w = .ok ((look R k).getD (.pointer none)) w :=
  map_look Tryz.underlying50 finds_kvS check_kvS (fun w => by kernel_rfl) w m c es R hw h k
theorem below_undrew {w w' : World} (h : Below w.drew.heap.size w.drew w') : Below w.heap.size w w' := ⟨h.os, h.tape, h.output, h.size, h.block⟩
def findV (ps : List Nat) (o : Option Nat) : Value := match o with
  | none => .pointer none
  | some j => ptrV (ps.getD j 0)
set_option maxRecDepth 100000 in
set_option maxHeartbeats 1000000 in
theorem find_map (s m c : Nat) (lv : Value) (es : Array MapEntry) (R : List ((Bool × List UInt8) × Value)) (cl : Bool) (n : List UInt8) (w : World) (hB : Bk w s 53 #[lv, .map (some m)]) (hm : w.heap[m]? = some (.map es c)) (h : MapR kvS es R) (hn : n.length ≤ 1000000) :
    Calls Tryz.prog 29 #[ptrV s, .bool cl, .string ⟨n.toArray⟩] w fun e w' => e = .returned ((look R (cl, smallL n)).getD (.pointer none)) ∧ Below w.heap.size w w' := by
  have c1 : w.cell? ⟨s, 1, none⟩ = some (.map (some m)) := hB.cell 1
  have hlt := hB.lt
  have HLK := Lib.hid (fun (W : World) (hb : Below w.heap.size w W) => look_kvS W m c es R ((hb.block m (Array.getElem?_eq_some_iff.1 hm).1).trans hm) h (cl, smallL n))
  unfold kvS at HLK
  generalize (look R (cl, smallL n)).getD (.pointer none) = V at HLK ⊢
  clear hm h hB
  unfold ptrV
  go_enter Tryz.func29, Tryz.ntmps29
  go_wp2_with fail
  go_region_held3 (fun w' => w'.cell? ⟨s, 1, none⟩ = some (.map (some m))) (first | exact c1 | exact c1') ((go_at_call 35; refine (Small_c n _ (by omega)).mono ?_; rintro e w2 ⟨rfl, hb2x⟩; have hb2 := below_undrew hb2x; clear hb2x; have c1' : w2.cell? ⟨s, 1, none⟩ = some (.map (some m)) := (hb2.cell (p := ⟨s, 1, none⟩) hlt).trans c1; have hlk := HLK.out w2 hb2))
  all_goals
    go_wp2_with fail
    go_ret
    exact ⟨rfl, hb2⟩
theorem find_c (s : Nat) (ps : List Nat) (L : List DefS) (c : Bool) (n : List UInt8) (w : World) (h : SchAt w s ps L) (hn : n.length ≤ 1000000) :
    Calls Tryz.prog 29 #[ptrV s, .bool c, .string ⟨n.toArray⟩] w fun e w' => e = .returned (findV ps (findD L c n)) ∧ Below w.heap.size w w' := by
  obtain ⟨⟨lv, m, es, cn, h1, h2, h3, h4⟩, h5, h6, h7⟩ := h
  have := find_map s m cn lv es _ c n w h1 h3 h4 hn
  rw [look_keys ps L h5 c n] at this
  cases hf : findD L c n <;> rw [hf] at this <;> exact this
/-- The first of a definition's names. -/
theorem dname_c (p : Nat) (d : DefS) (w : World) (h : DefAt w p d) : Calls Tryz.prog 41 #[ptrV p] w fun e w' => e = .returned (.string ⟨d.name.toArray⟩) ∧ w = w' := by
  obtain ⟨vn, vs, vm, vy, hB, h2, _⟩ := h
  have c1 : w.cell? ⟨p, 1, none⟩ = some (.string ⟨d.oid.toArray⟩) := hB.cell 1
  have c2 : w.cell? ⟨p, 2, none⟩ = some vn := hB.cell 2
  clear hB
  unfold ptrV DefS.name
  cases hn : d.names with
  | nil =>
    rw [hn] at h2
    rcases h2 with ⟨_, rfl⟩ | ⟨b, c, rfl, hc, hlt, hx⟩
    · go_enter Tryz.func41, Tryz.ntmps41
      go_wp2_with fail
      go_ret
      exact ⟨rfl, rfl⟩
    · clear hx
      simp only [List.length_nil] at c2
      go_enter Tryz.func41, Tryz.ntmps41
      go_wp2_with fail
      go_ret
      exact ⟨rfl, rfl⟩
  | cons x t =>
    rw [hn] at h2
    obtain ⟨b, c, rfl, hc, hlt, hx⟩ := h2.cons
    have c3 := hx.out 0 (by simp)
    simp only [List.getElem_cons_zero] at c3
    have hl : (x :: t).length = t.length + 1 := rfl
    rw [hl] at c2 hc
    have hl0 : (0 : Int) < (t.length : Int) + 1 := by omega
    clear hx hl
    go_enter Tryz.func41, Tryz.ntmps41
    go_wp2_with fail
    go_ret
    exact ⟨rfl, rfl⟩
theorem kind_cases (s : List UInt8) : s = wAbstract ∨ s = wStructural ∨ s = wAuxiliary ∨ ((s == wAbstract) = false ∧ (s == wStructural) = false ∧ (s == wAuxiliary) = false ∧ kindL s = -1) := by
  by_cases h0 : s = wAbstract
  · exact .inl h0
  by_cases h1 : s = wStructural
  · exact .inr (.inl h1)
  by_cases h2 : s = wAuxiliary
  · exact .inr (.inr (.inl h2))
  exact .inr (.inr (.inr ⟨beq_eq_false_iff_ne.2 h0, beq_eq_false_iff_ne.2 h1, beq_eq_false_iff_ne.2 h2, by unfold kindL; rw [if_neg h0, if_neg h1, if_neg h2]⟩))
set_option maxRecDepth 100000 in
set_option maxHeartbeats 1000000 in
theorem kindOf_c (s : List UInt8) (w : World) : Calls Tryz.prog 52 #[.string ⟨s.toArray⟩] w fun e w' => e = .returned (.int .i64 (kindL s)) ∧ w = w' := by
  rcases kind_cases s with rfl | rfl | rfl | ⟨h0, h1, h2, h3⟩
  · go_enter Tryz.func52, Tryz.ntmps52
    unfold wAbstract
    go_wp2_with fail
    go_ret
    exact ⟨rfl, rfl⟩
  · go_enter Tryz.func52, Tryz.ntmps52
    unfold wStructural
    go_wp2_with fail
    go_ret
    exact ⟨rfl, rfl⟩
  · go_enter Tryz.func52, Tryz.ntmps52
    unfold wAuxiliary
    go_wp2_with fail
    go_ret
    exact ⟨rfl, rfl⟩
  · rw [h3]
    unfold wAbstract at h0
    unfold wStructural at h1
    unfold wAuxiliary at h2
    go_enter Tryz.func52, Tryz.ntmps52
    go_wp2_with fail
    go_ret
    exact ⟨rfl, rfl⟩
end Go.Proofs.YtcjobpcbppcdnaaGreatDoor
/- Contracts: a definition is read. -/
namespace Go.Proofs.YtcjobpcbppcdnaaGreatDoor
open Go.RowKit

def ReadRet (w : World) (o : Option DefS) (e : Ending) (w' : World) : Prop := Below w.heap.size w w' ∧ match o with
  | none => e = .returned (.pointer none)
  | some d => ∃ p, e = .returned (ptrV p) ∧ w.heap.size ≤ p ∧ DefAt w' p d
theorem words_no (s : List UInt8) (w : World) (hs : s.length ≤ 1000000) (hn : wordsL s = none) :
    Calls Tryz.prog 48 #[.string ⟨s.toArray⟩] w fun e w' => (∃ A n c, e = .returned (.tuple #[.slice A n c, .bool false])) ∧ Below w.heap.size w w' := by
  refine (words_c s w hs).mono ?_
  rw [hn]
  rintro e w' ⟨hb, v, rfl, hv⟩
  obtain ⟨A, c, rfl, _⟩ := hv.isSlice
  exact ⟨⟨A, _, c, rfl⟩, hb⟩
theorem words_yes (s : List UInt8) (l : List Wd) (w : World) (hs : s.length ≤ 1000000) (hn : wordsL s = some l) :
    Calls Tryz.prog 48 #[.string ⟨s.toArray⟩] w fun e w' => (∃ A c, e = .returned (.tuple #[.slice A l.length c, .bool true]) ∧ WdsR w' (.slice A l.length c) l) ∧ Below w.heap.size w w' := by
  refine (words_c s w hs).mono ?_
  rw [hn]
  rintro e w' ⟨hb, v, rfl, hv⟩
  obtain ⟨A, c, rfl, _⟩ := hv.isSlice
  exact ⟨⟨A, c, rfl, hv.reads⟩, hb⟩
theorem plain_some (r : Nat) (l t : List Wd) (s : List UInt8) (w : World) (hw : Env w) (h : RdW w r l) (hn : rPlain l = some (s, t)) :
    Calls Tryz.prog 50 #[.pointer (some ⟨r, 0, none⟩)] w fun e w' => e = .returned (.tuple #[.string ⟨s.toArray⟩, .bool true]) ∧ RdW w' r t ∧ Mods [r] w w' := by
  have hp := plain_w r l w hw h
  rw [hn] at hp
  exact hp
theorem plain_none (r : Nat) (l : List Wd) (w : World) (hw : Env w) (h : RdW w r l) (hn : rPlain l = none) :
    Calls Tryz.prog 50 #[.pointer (some ⟨r, 0, none⟩)] w fun e w' => e = .returned (.tuple #[.string ⟨#[]⟩, .bool false]) ∧ w = w' := plain_n r l w hw h hn
/-- The reader and the definition, made. -/
abbrev newDef (cls : Bool) : Obj := .cells #[.bool cls, .string ⟨#[]⟩, .slice none 0 0, .slice none 0 0, .slice none 0 0, .slice none 0 0, .string ⟨#[]⟩, .string ⟨#[]⟩, .string ⟨#[]⟩, .string ⟨#[]⟩, .bool false, .bool false, .bool false, .int .i64 1] 78
theorem start_at {w1 : World} {A : Option Addr} {c : Nat} {l : List Wd} (h : WdsR w1 (.slice A l.length c) l) (cls : Bool) :
    RdW ((w1.alloc (.cells #[.slice A l.length c] 89)).alloc (newDef cls)) w1.heap.size l ∧ DefAt ((w1.alloc (.cells #[.slice A l.length c] 89)).alloc (newDef cls)) (w1.heap.size + 1) (DefS.new cls []) ∧ Below w1.heap.size w1 ((w1.alloc (.cells #[.slice A l.length c] 89)).alloc (newDef cls)) := by
  have hb : Below w1.heap.size w1 ((w1.alloc (.cells #[.slice A l.length c] 89)).alloc (newDef cls)) := ((Below.refl _ _).alloc (Nat.le_refl _) _).alloc (by simp) _
  refine ⟨⟨_, (Bk.new w1 _ _).alloc _, h.below hb⟩, ?_, hb⟩
  have h2 := Bk.new (w1.alloc (.cells #[.slice A l.length c] 89)) 78 (defCells (DefS.new cls []) (.slice none 0 0) (.slice none 0 0) (.slice none 0 0) (.slice none 0 0))
  rw [World.size_alloc] at h2
  exact ⟨_, _, _, _, h2, .inl ⟨rfl, rfl⟩, .inl ⟨rfl, rfl⟩, .inl ⟨rfl, rfl⟩, .inl ⟨rfl, rfl⟩⟩
set_option maxRecDepth 100000 in
set_option maxHeartbeats 2000000 in
theorem read_nowords (s : List UInt8) (cls : Bool) (w : World) (hs : s.length ≤ 1000000) (hn : wordsL s = none) :
    Calls Tryz.prog 23 #[.string ⟨s.toArray⟩, .bool cls] w (ReadRet w none) := by
  have HW := Lib.hid (words_no s w hs hn)
  clear hn
  go_enter Tryz.func23, Tryz.ntmps23
  go_wp2_with (go_at_call 48; refine HW.out.mono ?_; rintro e w1 ⟨⟨A, n, c, rfl⟩, hb1⟩)
  go_ret
  exact ⟨(hb1.alloc hb1.size _).alloc (by have := hb1.size; simp; omega) _, rfl⟩
theorem read_world (w w1 : World) (o1 o2 : Obj) (hb : Below w.heap.size w w1) : Below w.heap.size w ((w1.alloc o1).alloc o2) := (hb.alloc hb.size _).alloc (by have := hb.size; simp; omega) _
/-- What is below the call's own blocks stays. -/
theorem Mods.bel {w w1 w2 : World} {S : List Nat} (hb : Below w.heap.size w w1) (hm : Mods S w1 w2) (hS : ∀ x ∈ S, w.heap.size ≤ x) : Below w.heap.size w w2 := hb.trans (hm.below hb.size hS)
set_option maxRecDepth 100000 in
set_option maxHeartbeats 2000000 in
theorem read_notake (s : List UInt8) (cls : Bool) (l : List Wd) (w : World) (hs : s.length ≤ 1000000) (hn : wordsL s = some l) (h40 : rIs l [40] = false) :
    Calls Tryz.prog 23 #[.string ⟨s.toArray⟩, .bool cls] w (ReadRet w none) := by
  have HW := Lib.hid (words_yes s l w hs hn)
  have H40 := Lib.hid h40
  clear hn h40
  go_enter Tryz.func23, Tryz.ntmps23
  go_wp2_with (first | (go_at_call 48; refine HW.out.mono ?_; rintro e w1 ⟨⟨A, c, rfl, hx⟩, hb1⟩; have HX := Lib.hid (start_at hx cls); clear hx) | (go_at_call 49; (with_reducible refine (take_no _ l [40] _ HX.out.1 H40.out).mono ?_); rintro e w2 ⟨rfl, rfl⟩))
  go_ret
  exact ⟨read_world _ _ _ _ hb1, rfl⟩
set_option maxRecDepth 100000 in
set_option maxHeartbeats 2000000 in
theorem read_noplain (s : List UInt8) (cls : Bool) (l : List Wd) (w : World) (hw : Env w) (hs : s.length ≤ 1000000) (hn : wordsL s = some l) (h40 : rIs l [40] = true) (hp : rPlain l.tail = none) :
    Calls Tryz.prog 23 #[.string ⟨s.toArray⟩, .bool cls] w (ReadRet w none) := by
  have HW := Lib.hid (words_yes s l w hs hn)
  have H40 := Lib.hid h40
  have HP := Lib.hid hp
  clear hn h40 hp
  go_enter Tryz.func23, Tryz.ntmps23
  go_wp2_with (first | (go_at_call 48; refine HW.out.mono ?_; rintro e w1 ⟨⟨A, c, rfl, hx⟩, hb1⟩; have HX := Lib.hid (start_at hx cls); clear hx) | (go_at_call 49; (with_reducible refine (take_true _ l [40] _ HX.out.1 H40.out).mono ?_); rintro e w2 ⟨rfl, hr2, hg2⟩; have hb2 := Mods.bel (read_world _ _ _ _ hb1) (Mods.of_grown hg2 (List.mem_singleton_self _)) (by have := hb1.size; simpa using this)) | (go_at_call 50; (with_reducible refine (plain_none _ l.tail _ (hw.keep hb2) hr2 HP.out).mono ?_); rintro e w3 ⟨rfl, rfl⟩))
  go_ret
  exact ⟨hb2, rfl⟩
set_option maxRecDepth 100000 in
set_option maxHeartbeats 4000000 in
theorem read_nooid (s : List UInt8) (cls : Bool) (l t : List Wd) (oid : List UInt8) (w : World) (hw : Env w) (hs : s.length ≤ 1000000) (hn : wordsL s = some l) (h40 : rIs l [40] = true) (hp : rPlain l.tail = some (oid, t)) (ho : (isTypeL oid && digit0 oid) = false) :
    Calls Tryz.prog 23 #[.string ⟨s.toArray⟩, .bool cls] w (ReadRet w none) := by
  have hol : oid.length ≤ 1000000 := by
    obtain ⟨q, hq⟩ := rPlain_cons hp
    have := (wordsL_bound hn).1 (oid, q) (List.mem_of_mem_tail (by rw [hq]; simp))
    simp only at this
    omega
  have HW := Lib.hid (words_yes s l w hs hn)
  have H40 := Lib.hid h40
  have HP := Lib.hid hp
  have hget := ba_get
  clear hn h40 hp
  cases hT : isTypeL oid
  · have HT := Lib.hid hT
    clear hT ho
    go_enter Tryz.func23, Tryz.ntmps23
    go_wp2_with (first | (go_at_call 48; refine HW.out.mono ?_; rintro e w1 ⟨⟨A, c, rfl, hx⟩, hb1⟩; have HX := Lib.hid (start_at hx cls); clear hx) | (go_at_call 49; (with_reducible refine (take_true _ l [40] _ HX.out.1 H40.out).mono ?_); rintro e w2 ⟨rfl, hr2, hg2⟩; have hb2 := Mods.bel (read_world _ _ _ _ hb1) (Mods.of_grown hg2 (List.mem_singleton_self _)) (by have := hb1.size; simpa using this)) | (go_at_call 50; (with_reducible refine (plain_some _ l.tail t oid _ (hw.keep hb2) hr2 HP.out).mono ?_); rintro e w3 ⟨rfl, hr3, hm3⟩; have hb3 := Mods.bel hb2 hm3 (by have := hb1.size; simpa using this)) | (go_at_call 51; refine (IsType_c oid _ (hw.keep hb3) (by omega)).mono ?_; rw [HT.out]; rintro e w4 ⟨rfl, hb4⟩))
    go_ret
    exact ⟨hb3.trans (hb4.mono hb3.size), rfl⟩
  · rw [hT, Bool.true_and] at ho
    have HT := Lib.hid hT
    clear hT
    cases oid with
    | nil => exact absurd HT.out (by decide)
    | cons x xs =>
      have hx : (x.toNat : Int) < 48 ∨ (48 ≤ (x.toNat : Int) ∧ 57 < (x.toNat : Int)) := by
        unfold digit0 at ho
        simp only [Bool.and_eq_false_iff, decide_eq_false_iff_not, UInt8.le_iff_toNat_le] at ho
        have e1 : (48 : UInt8).toNat = 48 := rfl
        have e2 : (57 : UInt8).toNat = 57 := rfl
        omega
      have hl0 : (0 : Int) < (xs.length : Int) + 1 := by omega
      clear ho
      rcases hx with hx | ⟨hx0, hx⟩
      all_goals
        go_enter Tryz.func23, Tryz.ntmps23
        go_wp2_with (first | (go_at_call 48; refine HW.out.mono ?_; rintro e w1 ⟨⟨A, c, rfl, hx⟩, hb1⟩; have HX := Lib.hid (start_at hx cls); clear hx) | (go_at_call 49; (with_reducible refine (take_true _ l [40] _ HX.out.1 H40.out).mono ?_); rintro e w2 ⟨rfl, hr2, hg2⟩; have hb2 := Mods.bel (read_world _ _ _ _ hb1) (Mods.of_grown hg2 (List.mem_singleton_self _)) (by have := hb1.size; simpa using this)) | (go_at_call 50; (with_reducible refine (plain_some _ l.tail t (x :: xs) _ (hw.keep hb2) hr2 HP.out).mono ?_); rintro e w3 ⟨rfl, hr3, hm3⟩; have hb3 := Mods.bel hb2 hm3 (by have := hb1.size; simpa using this)) | (go_at_call 51; refine (IsType_c (x :: xs) _ (hw.keep hb3) (by omega)).mono ?_; rw [HT.out]; rintro e w4 ⟨rfl, hb4⟩))
        go_ret
        exact ⟨hb3.trans (hb4.mono hb3.size), rfl⟩
end Go.Proofs.YtcjobpcbppcdnaaGreatDoor
