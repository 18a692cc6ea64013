import Derived.SizedLaws
import Derived.Carry
import Derived.SliceStrings
import Derived.Deep.Slices
import Derived.Deep.Strs
import Derived.Lib.SmallJoins
import Derived.Test.YtbjmpmgiigombaaGreatDoorWve7
set_option linter.all false
set_option maxHeartbeats 8000000
namespace Go.Proofs.YtbjmpmgiigombaaGreatDoor
open Go.ChangeShapes Go.WideShapes Go.ChangeAt Go.RowKit Go.Lib Go.Shelf Go.Deep Go.Joins
theorem list3 {α : Type} {l : List α} (h : l.length = 3) : ∃ a b c, l = [a, b, c] := by
 match l, h with
 | [a, b, c], _ => exact ⟨a, b, c, rfl⟩
theorem list4 {α : Type} {l : List α} (h : l.length = 4) : ∃ a b c d, l = [a, b, c, d] := by
 match l, h with
 | [a, b, c, d], _ => exact ⟨a, b, c, d, rfl⟩
theorem bulkAll_strs {H : Type} : ∀ (ss : List ByteArray), Rows.uptoBulkAll (strs (H := H) ss) = ss.length + ((ss.map fun s => s.data.toList).map List.length).sum
 | [] => rfl
 | s :: ss => by
  have ih := bulkAll_strs (H := H) ss
  have e : strs (H := H) (s :: ss) = DataW.lit (.string s.data.toList) :: strs ss := rfl
  rw [e]
  simp only [Rows.uptoBulkAll, Rows.uptoBulk, ih, List.map_cons, List.sum_cons, List.length_cons]
  omega
theorem texts_row {W : World} {a : Addr} {len cap : Nat} {ss : List ByteArray} (hl : len ≤ cap) (hz : ss.length = cap) (hcell : ∀ i, i < ss.length → W.cell? (a.add i) = some (.string (ss.getD i ByteArray.empty))) :
  TextsA W (.slice (some a) len cap) ((ss.take len).map fun s => s.data.toList) := by
 have hlen : ((ss.take len).map fun s => s.data.toList).length = len := by simp; omega
 refine .inr ⟨a, cap, by rw [hlen], by omega, fun j hj => ?_⟩
 have hj' : j < len := by omega
 rw [hcell j (by omega)]
 congr 2
 simp only [List.getElem_map, List.getElem_take]
 rw [List.getD_eq_getElem?_getD, List.getElem?_eq_getElem (by omega)]
 rfl
section
variable {H : Type} {enc : TypeId × Value → H} {W : World} {base : Nat} {fuel : Nat} {cs : List Value} {x : DataW H × List MemPlace}
theorem texts_opened (h : DataW.trod enc Tryz.prog W base (fun _ => true) true fuel 44 cs = some x) : ∃ v xs, cs = [v] ∧ TextsA W v xs ∧ xs.length + (xs.map List.length).sum + 1 ≤ Rows.uptoBulk x.1 := by
 rcases open_strings Tryz.underlying44 Tryz.underlying9 (by kernel_rfl) h with ⟨rfl, rfl⟩ | ⟨a, len', cap', ss, rfl, _, hl, hm, hz, rfl, hcell, hsz⟩
 ·exact ⟨_, [], rfl, .inl ⟨rfl, rfl⟩, by simp [Rows.uptoBulk]⟩
 ·simp only [if_true] at hz
  refine ⟨_, _, rfl, texts_row hl hz hcell, ?_⟩
  simp only [Rows.uptoBulk, bulkAll_strs, List.length_map]
  omega
theorem bulkAll_range (D : Nat → DataW H) (f : Nat → Nat) : ∀ (l : List Nat), (∀ i ∈ l, f i ≤ Rows.uptoBulk (D i)) → (l.map f).sum ≤ Rows.uptoBulkAll (l.map D)
 | [], _ => by simp
 | i :: l, h => by
  have ih := bulkAll_range D f l (fun j hj => h j (List.mem_cons_of_mem _ hj))
  have h0 := h i (List.mem_cons_self ..)
  simp only [List.map_cons, List.sum_cons, Rows.uptoBulkAll]
  omega
instance : Inhabited GrantS := ⟨⟨0, [], 0⟩⟩
theorem grants_open (h : DataW.trod enc Tryz.prog W base (fun _ => true) true fuel 45 cs = some x) : ∃ v gs, cs = [v] ∧ GrantsA W v gs ∧ (gs.map fun g => 2 + g.name.length).sum + 1 ≤ Rows.uptoBulk x.1 := by
 rcases open_slice Tryz.underlying45 h with ⟨rfl, rfl⟩ | ⟨a, len, cap, m, n, D, Pl, rfl, hb, hl, hm, hmm, rfl, hx⟩
 ·exact ⟨_, [], rfl, ⟨none, 0, rfl, Nat.le_refl _, fun j hj => absurd hj (by simp)⟩, by simp [Rows.uptoBulk]⟩
 simp only [if_true] at hmm
 subst hmm
 rw [show Tryz.prog.cellsOf 61 = 3 by kernel_rfl] at hx
 have each : ∀ i, i < m → ∃ g : GrantS, W.cell? (a.add (i * 3)) = some (.int .i64 g.who) ∧ W.cell? ((a.add (i * 3)).add 1) = some (.string ⟨g.name.toArray⟩) ∧ W.cell? ((a.add (i * 3)).add 2) = some (.int .i64 g.level) ∧ 2 + g.name.length ≤ Rows.uptoBulk (D i) := by
  intro i hi
  obtain ⟨cs', h1, h2⟩ := hx i hi
  obtain ⟨_, hlen, hcell⟩ := World.cells?_some h1
  obtain ⟨y0, y1, y2, k, hxy, _, u0, u1, u2⟩ := trod_struct3 Tryz.underlying61 h2
  obtain ⟨v0, v1, v2, rfl⟩ := list3 hlen
  ·skip
   simp only [show Tryz.prog.cellsOf 3 = 1 by kernel_rfl, show Tryz.prog.cellsOf 9 = 1 by kernel_rfl, List.drop, List.take] at u0 u1 u2
   obtain ⟨q, e0, d0, _⟩ := DataW.trod_int Tryz.underlying3 u0
   obtain ⟨⟨⟨s⟩⟩, e1, d1, _⟩ := DataW.trod_string Tryz.underlying9 u1
   obtain ⟨p, e2, d2, _⟩ := DataW.trod_int Tryz.underlying3 u2
   simp only [List.cons.injEq, and_true] at e0 e1 e2
   subst e0; subst e1; subst e2
   have c0 := hcell 0 (by omega)
   have c1 := hcell 1 (by omega)
   have c2 := hcell 2 (by omega)
   simp only [Prod.mk.injEq] at hxy
   refine ⟨⟨q, s, p⟩, by simpa [Addr.add] using c0, by simpa using c1, by simpa using c2, ?_⟩
   rw [hxy.1, d0, d1, d2]
   simp only [Rows.uptoBulk, Rows.uptoBulkAll]
   omega
 obtain ⟨q, hq⟩ := choose_lt each
 refine ⟨_, (List.range len).map q, rfl, ⟨some a, m, by simp, by simp; omega, fun j hj => ?_⟩, ?_⟩
 ·have hj' : j < len := by simpa using hj
  obtain ⟨c0, c1, c2, _⟩ := hq j (by omega)
  have hsp : a.spot = none := by
   cases hs : a.spot with
   | none => rfl
   | some k =>
    have h0 := hq 0 (by omega)
    have h1 := h0.1
    unfold World.cell? Addr.add at h1
    simp [hs] at h1
    split at h1 <;> cases h1
  obtain ⟨b, o, sp⟩ := a
  subst hsp
  refine ⟨b, o, rfl, ?_, ?_, ?_⟩
  ·rw [add_at3] at c0; simpa using c0
  ·rw [add_at3, add_at3] at c1; simpa using c1
  ·rw [add_at3, add_at3] at c2; simpa using c2
 ·simp only [Rows.uptoBulk]
  have := bulkAll_range D (fun i => 2 + (q i).name.length) (List.range len) (fun i hi => (hq i (by have := List.mem_range.1 hi; omega)).2.2.2)
  rw [List.map_map]
  show ((List.range len).map fun i => 2 + (q i).name.length).sum + 1 ≤ _
  omega
def ruleW (r : RuleS) : Nat := r.name.length + (r.attrs.length + (r.attrs.map List.length).sum) + (r.grants.map fun g => 2 + g.name.length).sum
instance : Inhabited (RuleS × Value × Value) := ⟨(⟨0, [], [], []⟩, .bool false, .bool false)⟩
theorem rules_open (h : DataW.trod enc Tryz.prog W base (fun _ => true) true fuel 53 cs = some x) : ∃ v rs, cs = [v] ∧ RulesA W v rs ∧ (∀ c, v = .slice none rs.length c → c = 0) ∧ (rs.map fun r => 1 + ruleW r).sum + 1 ≤ Rows.uptoBulk x.1 := by
 rcases open_slice Tryz.underlying53 h with ⟨rfl, rfl⟩ | ⟨a, len, cap, m, n, D, Pl, rfl, hb, hl, hm, hmm, rfl, hx⟩
 ·exact ⟨_, [], rfl, ⟨none, 0, rfl, Nat.le_refl _, fun j hj => absurd hj (by simp)⟩, fun c h => (by cases h; rfl), by simp [Rows.uptoBulk]⟩
 simp only [if_true] at hmm
 subst hmm
 rw [show Tryz.prog.cellsOf 47 = 4 by kernel_rfl] at hx
 have each : ∀ i, i < m → ∃ r : RuleS × Value × Value, (W.cell? (a.add (i * 4)) = some (.int .i64 r.1.what) ∧ W.cell? ((a.add (i * 4)).add 1) = some (.string ⟨r.1.name.toArray⟩) ∧ W.cell? ((a.add (i * 4)).add 2) = some r.2.1 ∧ W.cell? ((a.add (i * 4)).add 3) = some r.2.2 ∧ TextsA W r.2.1 r.1.attrs ∧ GrantsA W r.2.2 r.1.grants) ∧ 1 + ruleW r.1 ≤ Rows.uptoBulk (D i) := by
  intro i hi
  obtain ⟨cs', h1, h2⟩ := hx i hi
  obtain ⟨_, hlen, hcell⟩ := World.cells?_some h1
  obtain ⟨y0, y1, y2, y3, k, hxy, _, u0, u1, u2, u3⟩ := trod_struct4 Tryz.underlying47 h2
  obtain ⟨v0, v1, v2, v3, rfl⟩ := list4 hlen
  ·skip
   simp only [show Tryz.prog.cellsOf 3 = 1 by kernel_rfl, show Tryz.prog.cellsOf 9 = 1 by kernel_rfl, show Tryz.prog.cellsOf 44 = 1 by kernel_rfl, show Tryz.prog.cellsOf 45 = 1 by kernel_rfl, List.drop, List.take] at u0 u1 u2 u3
   obtain ⟨q, e0, d0, _⟩ := DataW.trod_int Tryz.underlying3 u0
   obtain ⟨⟨⟨s⟩⟩, e1, d1, _⟩ := DataW.trod_string Tryz.underlying9 u1
   obtain ⟨va, ats, e2, ta, b2⟩ := texts_opened u2
   obtain ⟨vg, gs, e3, ga, b3⟩ := grants_open u3
   simp only [List.cons.injEq, and_true] at e0 e1 e2 e3
   subst e0; subst e1; subst e2; subst e3
   have c0 := hcell 0 (by omega)
   have c1 := hcell 1 (by omega)
   have c2 := hcell 2 (by omega)
   have c3 := hcell 3 (by omega)
   simp only [Prod.mk.injEq] at hxy
   refine ⟨(⟨q, s, ats, gs⟩, _, _), ⟨by simpa [Addr.add] using c0, by simpa using c1, by simpa using c2, by simpa using c3, ta, ga⟩, ?_⟩
   rw [hxy.1, d0, d1]
   simp only [Rows.uptoBulk, Rows.uptoBulkAll, ruleW]
   omega
 obtain ⟨q, hq⟩ := choose_lt each
 refine ⟨_, (List.range len).map fun i => (q i).1, rfl, ⟨some a, m, by simp, by simp; omega, fun j hj => ?_⟩, fun c h => (by cases h), ?_⟩
 ·have hj' : j < len := by simpa using hj
  obtain ⟨⟨c0, c1, c2, c3, c4, c5⟩, _⟩ := hq j (by omega)
  have hsp : a.spot = none := by
   cases hs : a.spot with
   | none => rfl
   | some k =>
    have h0 := hq 0 (by omega)
    have h1 := h0.1.1
    unfold World.cell? Addr.add at h1
    simp [hs] at h1
    split at h1 <;> cases h1
  obtain ⟨b, o, sp⟩ := a
  subst hsp
  refine ⟨b, o, (q j).2.1, (q j).2.2, rfl, ?_, ?_, ?_, ?_, ?_, ?_⟩
  ·rw [add_at4] at c0; simpa using c0
  ·rw [add_at4, add_at4] at c1; simpa using c1
  ·rw [add_at4, add_at4] at c2; simpa using c2
  ·rw [add_at4, add_at4] at c3; simpa using c3
  ·simpa using c4
  ·simpa using c5
 ·simp only [Rows.uptoBulk]
  have := bulkAll_range D (fun i => 1 + ruleW (q i).1) (List.range len) (fun i hi => (hq i (by have := List.mem_range.1 hi; omega)).2)
  rw [List.map_map]
  show ((List.range len).map fun i => 1 + ruleW (q i).1).sum + 1 ≤ _
  omega
end
theorem le_sum_mem {x : Nat} : ∀ {l : List Nat}, x ∈ l → x ≤ l.sum
 | y :: l, h => by
  rw [List.sum_cons]
  rcases List.mem_cons.1 h with rfl | h
  ·omega
  ·have := le_sum_mem h; omega
theorem joinL_le (xs : List (List UInt8)) : (joinL [44] xs).length ≤ (xs.map List.length).sum + xs.length := by
 match xs with
 | [] => simp [joinL]
 | [a] => simp [joinL]
 | a :: b :: t =>
  have ih := joinL_le (b :: t)
  simp only [joinL, List.length_append, List.length_cons, List.map_cons, List.sum_cons, List.length_nil] at ih ⊢
  omega
theorem lim_of {r : RuleS} (h : ruleW r ≤ 1048576) : AclLim r := by
 unfold ruleW at h
 have hj := joinL_le r.attrs
 refine ⟨by omega, by omega, by omega, ?_, fun g hg => ?_⟩
 ·have : ∀ l : List GrantS, 2 * l.length ≤ (l.map fun g => 2 + g.name.length).sum := by
   intro l
   induction l with
   | nil => simp
   | cons g l ih => simp only [List.length_cons, List.map_cons, List.sum_cons]; omega
  have := this r.grants
  omega
 ·have : 2 + g.name.length ≤ (r.grants.map fun g => 2 + g.name.length).sum := by
   have hm : 2 + g.name.length ∈ r.grants.map fun g => 2 + g.name.length := List.mem_map.2 ⟨g, hg, rfl⟩
   exact le_sum_mem hm
  omega
theorem lim_all {rs : List RuleS} (h : (rs.map fun r => 1 + ruleW r).sum ≤ 1048576) : ∀ r ∈ rs, AclLim r := fun r hr => by
 have hm : 1 + ruleW r ∈ rs.map fun r => 1 + ruleW r := List.mem_map.2 ⟨r, hr, rfl⟩
 have := le_sum_mem hm
 exact lim_of (by omega)
theorem rules_arg {H : Type} {enc : TypeId × Value → H} {W : World} {base : Nat} {a0 : Option Addr} {len0 cap0 : Nat} {d : DataW H} {p : List MemPlace} (h : DataW.Trod enc Tryz.prog W base (fun _ => true) true 53 (.slice a0 len0 cap0) d p) :
  ∃ rs, RulesA W (.slice a0 len0 cap0) rs ∧ (∀ c, Value.slice a0 len0 cap0 = .slice none rs.length c → c = 0) ∧ (rs.map fun r => 1 + ruleW r).sum + 1 ≤ Rows.uptoBulk d := by
 obtain ⟨fuel, hf⟩ := h
 obtain ⟨v, rs, hcs, h1, h2, h3⟩ := rules_open hf
 have he : Value.slice a0 len0 cap0 = v := by simpa [Value.cells] using hcs
 rw [he]
 exact ⟨rs, h1, h2, h3⟩
set_option maxRecDepth 100000 in
theorem rule_arg {H : Type} {enc : TypeId × Value → H} {W : World} {base b0 : Nat} {rc : Go.Reach} {v : Value} {d : DataW H} {p : List MemPlace} (hv : Value.okWide Tryz.prog W rc b0 47 v) (h : DataW.Trod enc Tryz.prog W base (fun _ => true) true 47 v d p) :
  ∃ r va vg, v = ruleArg r va vg ∧ TextsA W va r.attrs ∧ GrantsA W vg r.grants ∧ 1 + ruleW r ≤ Rows.uptoBulk d := by
 obtain ⟨v0, v1, v2, v3, y0, y1, y2, y3, n, rfl, rfl, rfl, u0, u1, u2, u3⟩ := open_agg4 Tryz.underlying47 (by kernel_rfl) (by kernel_rfl) hv h
 obtain ⟨q, e0, d0, _⟩ := DataW.trod_int Tryz.underlying3 u0
 obtain ⟨⟨⟨s⟩⟩, e1, d1, _⟩ := DataW.trod_string Tryz.underlying9 u1
 obtain ⟨va, ats, e2, ta, b2⟩ := texts_opened u2
 obtain ⟨vg, gs, e3, ga, b3⟩ := grants_open u3
 simp only [List.cons.injEq, and_true] at e0 e1 e2 e3
 subst e0; subst e1; subst e2; subst e3
 refine ⟨⟨q, s, ats, gs⟩, _, _, rfl, ta, ga, ?_⟩
 rw [d0, d1]
 simp only [Rows.uptoBulk, Rows.uptoBulkAll, ruleW]
 omega
theorem sum_len {rs : List RuleS} : rs.length ≤ (rs.map fun r => 1 + ruleW r).sum := by
 induction rs with
 | nil => simp
 | cons r l ih => simp only [List.length_cons, List.map_cons, List.sum_cons]; omega
end Go.Proofs.YtbjmpmgiigombaaGreatDoor
