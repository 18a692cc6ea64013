/- For every input of bulk at most 1048576 chancerylaw's SchemaOrder returns true, and its arguments read as before; the two tables of unicode/utf8 that the row lists hold what Go's library lays there. -/
import Derived.Test.YtcjobpcbppcdnaaGreatDoorWx1
import Derived.SizedLaws
import Derived.Carry
import Derived.SliceStrings
import Derived.Test.YtcjobpcbppcdnaaGreatDoorWx12
set_option linter.all false
namespace Go.Proofs.YtcjobpcbppcdnaaGreatDoor.schemaOrder
open Go.ChangeShapes Go.WideShapes Go.ChangeAt Go.RowKit Go.Lib Go.Shelf
open Go.ChangeMaps (open_string shut_string)

theorem bulk_strs {H : Type} : ∀ (ss : List ByteArray), Rows.uptoBulkAll (strs (H := H) ss) = ss.length + sumL (ss.map fun s => s.data.toList)
  | [] => rfl
  | s :: ss => by
    have ih := bulk_strs (H := H) ss
    have e : strs (H := H) (s :: ss) = DataW.lit (.string s.data.toList) :: strs ss := rfl
    rw [e]
    simp only [Rows.uptoBulkAll, Rows.uptoBulk, ih]
    unfold sumL
    simp only [List.map_cons, List.sum_cons, List.length_cons]
    omega
theorem txs_of {W : World} {a : Addr} {len cap : Nat} {ss : List ByteArray} (hl : len ≤ cap) (hz : ss.length = cap) (hcell : ∀ i, i < ss.length → W.cell? (a.add i) = some (.string (ss.getD i ByteArray.empty))) :
    TextsA W (.slice (some a) len cap) ((ss.take len).map fun s => s.data.toList) := by
  have hlen : ((ss.take len).map fun s => s.data.toList).length = len := by simp; omega
  refine .inr ⟨a, cap, by rw [hlen], by omega, fun j hj => ?_⟩
  have hj' : j < len := by omega
  rw [hcell j (by omega)]
  congr 2
  simp only [List.getElem_map, List.getElem_take]
  rw [List.getD_eq_getElem?_getD, List.getElem?_eq_getElem (by omega)]
  rfl
theorem opened {H : Type} {enc : TypeId × Value → H} {W : World} {a0 : Option Addr} {len0 cap0 : Nat} {d2 : DataW H} {p2 : List MemPlace} {base : Nat} (h2 : DataW.Trod enc Tryz.prog W base (fun _ => true) true 22 (.slice a0 len0 cap0) d2 p2) : ∃ xs, TextsA W (.slice a0 len0 cap0) xs ∧ xs.length + sumL xs + 1 ≤ Rows.uptoBulk d2 := by
  obtain ⟨fuel, hf⟩ := h2
  rcases open_strings Tryz.underlying22 Tryz.underlying9 (by kernel_rfl) hf with ⟨hcs, hx⟩ | ⟨a, len', cap', ss, hcs, _, hl, hm, hz, hx, hcell, hsz⟩
  · have he : Value.slice a0 len0 cap0 = .slice none 0 0 := by simpa [Value.cells] using hcs
    have hd2 : d2 = .nil := congrArg Prod.fst hx
    rw [he, hd2]
    exact ⟨[], .inl ⟨rfl, rfl⟩, by simp [Rows.uptoBulk, sumL]⟩
  · have he : Value.slice a0 len0 cap0 = .slice (some a) len' cap' := by simpa [Value.cells] using hcs
    rw [he]
    simp only [if_true] at hz
    have hd2 : d2 = .slice (strs (ss.take len')) (strs (ss.drop len')) := congrArg Prod.fst hx
    refine ⟨_, txs_of hl hz hcell, ?_⟩
    rw [hd2]
    simp only [Rows.uptoBulk, bulk_strs, List.length_map]
    omega
theorem row_laid : Rows.schemaOrderUptoRow.laid = laidL := by kernel_rfl
theorem reads (os : Os) {H : Type} (enc : TypeId × Value → H) : ∃ places, DataW.whole enc Tryz.prog ((laidWorld os).forCall (fun _ _ => 0) ⟨#[], #[.slice none 0 0, .slice none 0 0], []⟩).memory Tryz.f4.params.toList Rows.schemaOrderSpec.vars false (#[.slice none 0 0, .slice none 0 0] : Array Value).toList 8 = some ([.nil, .nil], [], places) :=
  ⟨[], by kernel_rfl⟩
theorem laidOut : laidOutB Tryz.prog = true := by kernel_rfl
set_option maxRecDepth 100000 in
theorem lifted (os : Os) (started : os.Started) (H : Type) (enc : TypeId × Value → H) (F : Stop.Interp) :
    ReturnsInHanded {} Tryz.checked os 4 .any ((Rows.OpenSpec.upto Rows.schemaOrderSpec).preRow enc Tryz.prog Tryz.f4 Rows.schemaOrderUptoRow.domain false Rows.schemaOrderUptoRow.laid) (((Rows.OpenSpec.upto Rows.schemaOrderSpec).at F).post enc Tryz.prog Tryz.f4 false true false false) := by
  obtain ⟨places, hx⟩ := reads os enc
  rw [row_laid]
  refine returnsInHanded_of_row (C := Tryz.checked) (s := Rows.OpenSpec.upto Rows.schemaOrderSpec) own started (by kernel_rfl) Tryz.func4
    (witness_row_atRef (enc := enc) (C := Tryz.checked) false (laidWorld os) #[.slice none 0 0, .slice none 0 0] rfl (by kernel_rfl) (by kernel_rfl) (by kernel_rfl)
      (OpenSpec.preRow_of_cond 8 hx (by kernel_rfl) (fun k hk => by cases hk; kernel_rfl) (by kernel_rfl) (laid_met os _))) ?_
  intro W base args ds gs before hval0 hW _ hcond hsz hL hsh _
  have hk : Rows.uptoSmall H (ds ++ gs) = true := hcond _ rfl
  have hval : ∀ (j : Nat) t v, Tryz.f4.params[j]? = some t → args[j]? = some v → Value.okWide Tryz.prog W .any base t v := hval0
  have hW' := hW
  obtain ⟨p, q, hA0, hV0, rfl, _, _⟩ := hW
  have hA : DataW.TrodAll enc Tryz.prog W 0 (fun _ => true) true Tryz.f4.params.toList args.toList ds p := hA0
  rw [Tryz.params4] at hA hval
  obtain ⟨v0, v1, d0, d1, p0, p1, rfl, rfl, rfl, h0, h1⟩ := trodAll_two hA
  obtain ⟨rfl, rfl⟩ := trodVars_none hV0
  have hlt0 : ∀ x ∈ p0, x.block < W.heap.size := fun x hx => hW'.lt x (by simp [hx])
  have hlt1 : ∀ x ∈ p1, x.block < W.heap.size := fun x hx => hW'.lt x (by simp [hx])
  obtain ⟨a0, len0, cap0, rfl⟩ := okWide_slice Tryz.underlying22 (hval 0 22 v0 rfl rfl)
  obtain ⟨a1, len1, cap1, rfl⟩ := okWide_slice Tryz.underlying22 (hval 1 22 v1 rfl rfl)
  obtain ⟨xa, hxa, hba⟩ := opened h0
  obtain ⟨xc, hxc, hbc⟩ := opened h1
  have hbk : xa.length + sumL xa + (xc.length + sumL xc) ≤ 1048576 := by
    have hb : Rows.uptoBulkAll ([d0, d1] ++ ([] : List (DataW H))) ≤ 1048576 := of_decide_eq_true hk
    simp only [List.append_nil, Rows.uptoBulkAll] at hb
    omega
  clear hA0 hV0 hval0
  refine (orders6_c xa xc _ _ W (env_of hL hsh) hxa hxc hbk).mono ?_
  rintro e W' ⟨rfl, bel⟩
  refine ⟨_, rfl, _, _, _, [], p0 ++ p1, [], hW', ?_, ?_, ?_, bel.frame _, fun h => by cases h⟩
  · exact trodAll_mk1 (shut_bool Tryz.underlying4 _)
  · exact trodAll_mk2 (Below.trod laidOut (by kernel_rfl) (of_decide_eq_true (by kernel_rfl)) h0 bel hlt0) (Below.trod laidOut (by kernel_rfl) (of_decide_eq_true (by kernel_rfl)) h1 bel hlt1)
  · rfl
theorem said : Rows.SchemaOrderUptoSaid :=
  OpenClaim.holds_of_cond 4 Tryz.f4 rfl rfl rfl rfl rfl rfl rfl ⟨rfl, rfl, rfl, rfl, rfl⟩ rfl rfl rfl rfl rfl (by kernel_rfl) Tryz.func4 (by kernel_rfl)
    (of_decide_eq_true (by kernel_rfl)) (by unfold Func.isWrapper; first | (rw [if_pos (by decide +kernel)]; kernel_rfl) | (rw [if_neg (by decide +kernel)]; exact ⟨rfl, rfl⟩))
    (fun os started H enc _ F => by rw [OpenClaim.pre_eq_preRow]; exact lifted os started H enc F)
theorem plain (f : FuncId) (fn : Func) (hf : Tryz.pinned.checked.prog.funcNamed "chancery/chancerylaw6.SchemaOrder" = some f) (hfn : Tryz.pinned.checked.prog.funcs[f]? = some fn) :
    true = Tryz.pinned.checked.prog.looks [] ∧ ∀ (j : Nat) t, fn.params[j]? = some t → Tryz.pinned.checked.prog.wantsStandIn t = false := by
  obtain rfl : f = 4 := Option.some.inj ((show Tryz.prog.funcNamed "chancery/chancerylaw6.SchemaOrder" = some 4 by kernel_rfl).symm.trans hf) |>.symm
  obtain rfl : fn = Tryz.f4 := (Option.some.inj (Tryz.func4.symm.trans hfn)).symm
  refine ⟨by kernel_rfl, fun j t ht => ?_⟩
  rw [Tryz.params4] at ht
  have hm := Array.mem_of_getElem? ht
  have hall : ∀ t ∈ #[22, 22], Tryz.prog.wantsStandIn t = false := by
    intro t h
    have : t = 22 := by simpa using h
    subst this
    exact (show Tryz.prog.wantsStandIn 22 = false by kernel_rfl)
  exact hall t hm
/-- THE CARD -/
theorem card : Rows.SchemaOrderUptoCardSaid :=
  Claim7.holds_tied_plain_at .later [] _ _ _ _ said (fun _ h => by cases h) (by kernel_rfl) (fun _ h => by cases h) schemaOrderUpto_row_tie rfl ⟨rfl, rfl⟩ (by kernel_rfl) rfl plain (by kernel_rfl)
end Go.Proofs.YtcjobpcbppcdnaaGreatDoor.schemaOrder
