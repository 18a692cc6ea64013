/- For every input of bulk at most 1048576 chancerylaw5's SyntaxPieces returns true, and its arguments read as before; the two tables of unicode/utf8 that the row lists hold what Go's library lays there. -/
import Derived.Test.YtgpecklibcgifaaGreatDoorWq
import Derived.SizedLaws
import Derived.Carry
import Derived.SliceStrings
import Derived.Test.YtgpecklibcgifaaGreatDoorWu1
set_option linter.all false
namespace Go.Proofs.YtgpecklibcgifaaGreatDoor.syntaxPieces
open Go.ChangeShapes Go.WideShapes Go.ChangeAt Go.RowKit Go.Lib Go.Shelf
open Go.ChangeMaps (open_string shut_string)

theorem bulk_mem {H : Type} {d : DataW H} : ∀ {l : List (DataW H)}, d ∈ l → Rows.uptoBulk d ≤ Rows.uptoBulkAll l
  | x :: r, h => by
    simp only [Rows.uptoBulkAll]
    rcases List.mem_cons.1 h with rfl | h
    · omega
    · have := bulk_mem h; omega
theorem bulk_strs {H : Type} {ss : List ByteArray} {sp : List (DataW H)} {s : ByteArray} (h : s ∈ ss) : s.data.toList.length ≤ Rows.uptoBulk (DataW.slice (H := H) (strs ss) sp) := by
  have h1 : Rows.uptoBulk (DataW.lit (H := H) (.string s.data.toList)) ≤ Rows.uptoBulkAll (strs ss) := bulk_mem (List.mem_map.2 ⟨s, h, rfl⟩)
  simp only [Rows.uptoBulk] at h1 ⊢
  omega
theorem txa_of {W : World} {a : Addr} {len cap : Nat} {ss : List ByteArray} (hl : len ≤ cap) (hz : ss.length = cap) (hcell : ∀ i, i < ss.length → W.cell? (a.add i) = some (.string (ss.getD i ByteArray.empty))) :
    TxA W (.slice (some a) len cap) ((ss.take len).map fun s => s.data.toList) := by
  refine .inr ⟨a, cap, by simp; omega, by simp; omega, fun j hj => ?_⟩
  have hj' : j < len := by simp at hj; omega
  rw [hcell j (by omega)]
  congr 2
  simp only [List.getElem_map, List.getElem_take]
  rw [List.getD_eq_getElem?_getD, List.getElem?_eq_getElem (by omega)]
  rfl
theorem row_laid : Rows.syntaxPiecesUptoRow.laid = laidL := by kernel_rfl
theorem reads (os : Os) {H : Type} (enc : TypeId × Value → H) : ∃ places, DataW.whole enc Tryz.prog ((laidWorld os).forCall (fun _ _ => 0) ⟨#[], #[.string ⟨#[]⟩, .string ⟨#[]⟩, .slice none 0 0, .string ⟨#[]⟩], []⟩).memory Tryz.f9.params.toList Rows.syntaxPiecesSpec.vars false (#[.string ⟨#[]⟩, .string ⟨#[]⟩, .slice none 0 0, .string ⟨#[]⟩] : Array Value).toList 8 = some ([.lit (.string []), .lit (.string []), .nil, .lit (.string [])], [], places) :=
  ⟨[], by kernel_rfl⟩
theorem laidOut : laidOutB Tryz.prog = true := by kernel_rfl
set_option maxRecDepth 100000 in
theorem lifted (os : Os) (started : os.Started) (H : Type) (enc : TypeId × Value → H) (F : Stop.Interp) :
    ReturnsInHanded {} Tryz.checked os 9 .any ((Rows.OpenSpec.upto Rows.syntaxPiecesSpec).preRow enc Tryz.prog Tryz.f9 Rows.syntaxPiecesUptoRow.domain false Rows.syntaxPiecesUptoRow.laid) (((Rows.OpenSpec.upto Rows.syntaxPiecesSpec).at F).post enc Tryz.prog Tryz.f9 false true false false) := by
  obtain ⟨places, hx⟩ := reads os enc
  rw [row_laid]
  refine returnsInHanded_of_row (C := Tryz.checked) (s := Rows.OpenSpec.upto Rows.syntaxPiecesSpec) own started (by kernel_rfl) Tryz.func9
    (witness_row_atRef (enc := enc) (C := Tryz.checked) false (laidWorld os) #[.string ⟨#[]⟩, .string ⟨#[]⟩, .slice none 0 0, .string ⟨#[]⟩] rfl (by kernel_rfl) (by kernel_rfl) (by kernel_rfl)
      (OpenSpec.preRow_of_cond 8 hx (by kernel_rfl) (fun k hk => by cases hk; kernel_rfl) (by kernel_rfl) (laid_met os _))) ?_
  intro W base args ds gs before hval0 hW _ hcond hsz hL hsh _
  have hk : Rows.uptoSmall H (ds ++ gs) = true := hcond _ rfl
  have hval : ∀ (j : Nat) t v, Tryz.f9.params[j]? = some t → args[j]? = some v → Value.okWide Tryz.prog W .any base t v := hval0
  have hW' := hW
  obtain ⟨p, q, hA0, hV0, rfl, _, _⟩ := hW
  have hA : DataW.TrodAll enc Tryz.prog W 0 (fun _ => true) true Tryz.f9.params.toList args.toList ds p := hA0
  rw [Tryz.params9] at hA hval
  obtain ⟨v0, v1, v2, v3, d0, d1, d2, d3, p0, p1, p2, p3, rfl, rfl, rfl, h0, h1, h2, h3⟩ := trodAll_four hA
  obtain ⟨rfl, rfl⟩ := trodVars_none hV0
  obtain ⟨⟨⟨s0⟩⟩, rfl, rfl, rfl, ws0⟩ := open_string Tryz.underlying9 (hval 0 9 v0 rfl rfl) h0
  obtain ⟨⟨⟨s1⟩⟩, rfl, rfl, rfl, ws1⟩ := open_string Tryz.underlying9 (hval 1 9 v1 rfl rfl) h1
  obtain ⟨⟨⟨s3⟩⟩, rfl, rfl, rfl, ws3⟩ := open_string Tryz.underlying9 (hval 3 9 v3 rfl rfl) h3
  have h2k := h2
  have hlt : ∀ x ∈ p2, x.block < W.heap.size := fun x hx => hW'.lt x (by simp [hx])
  obtain ⟨a0, len0, cap0, rfl⟩ := okWide_slice Tryz.underlying29 (hval 2 29 v2 rfl rfl)
  obtain ⟨fuel, hf⟩ := h2
  have hbk : Rows.uptoBulk (DataW.lit (H := H) (.string s1)) + Rows.uptoBulk d2 + Rows.uptoBulk (DataW.lit (H := H) (.string s3)) ≤ 1048576 := by
    have hb : Rows.uptoBulkAll ([DataW.lit (.string s0), DataW.lit (.string s1), d2, DataW.lit (.string s3)] ++ ([] : List (DataW H))) ≤ 1048576 := of_decide_eq_true hk
    simp only [List.append_nil, Rows.uptoBulkAll] at hb
    omega
  have hTx : ∃ xs, TxA W (.slice a0 len0 cap0) xs ∧ ∀ x ∈ xs, x.length ≤ 1048576 := by
    rcases open_strings Tryz.underlying29 Tryz.underlying9 (by kernel_rfl) hf with ⟨hcs, hx⟩ | ⟨a, len', cap', ss, hcs, _, hl, hm, hz, hx, hcell, hsz⟩
    · have he : Value.slice a0 len0 cap0 = .slice none 0 0 := by simpa [Value.cells] using hcs
      rw [he]
      exact ⟨[], .inl ⟨rfl, rfl⟩, fun x hx => by cases hx⟩
    · have he : Value.slice a0 len0 cap0 = .slice (some a) len' cap' := by simpa [Value.cells] using hcs
      rw [he]
      simp only [if_true] at hz
      have hd2 : d2 = .slice (strs (ss.take len')) (strs (ss.drop len')) := congrArg Prod.fst hx
      refine ⟨_, txa_of hl hz hcell, fun x hx => ?_⟩
      obtain ⟨s, hs, rfl⟩ := List.mem_map.1 hx
      have := bulk_strs (H := H) (sp := strs (ss.drop len')) hs
      rw [← hd2] at this
      omega
  obtain ⟨xs, hTx, hxl⟩ := hTx
  clear hA0 hV0 hval0
  refine (pieces_c s0 s1 s3 xs _ W (env_of hL hsh) hTx ?_).mono ?_
  · intro x hx
    simp only [Rows.uptoBulk] at hbk
    rcases List.mem_append.1 hx with hx | hx
    · rcases List.mem_append.1 hx with hx | hx
      · rw [List.mem_singleton.1 hx]; omega
      · have := hxl x hx; omega
    · rw [List.mem_singleton.1 hx]; omega
  rintro e W' ⟨rfl, bel⟩
  refine ⟨_, rfl, _, _, _, [], [] ++ ([] ++ (p2 ++ [])), [], hW', ?_, ?_, ?_, bel.frame _, fun h => by cases h⟩
  · exact trodAll_mk1 (shut_bool Tryz.underlying4 _)
  · exact trodAll_mk4 (shut_string Tryz.underlying9 ws0) (shut_string Tryz.underlying9 ws1) (Below.trod laidOut (by kernel_rfl) (of_decide_eq_true (by kernel_rfl)) h2k bel hlt) (shut_string Tryz.underlying9 ws3)
  · rfl
theorem said : Rows.SyntaxPiecesUptoSaid :=
  OpenClaim.holds_of_cond 9 Tryz.f9 rfl rfl rfl rfl rfl rfl rfl ⟨rfl, rfl, rfl, rfl, rfl⟩ rfl rfl rfl rfl rfl (by kernel_rfl) Tryz.func9 (by kernel_rfl)
    (of_decide_eq_true (by kernel_rfl)) (by unfold Func.isWrapper; first | (rw [if_pos (by decide +kernel)]; kernel_rfl) | (rw [if_neg (by decide +kernel)]; exact ⟨rfl, rfl⟩))
    (fun os started H enc _ F => by rw [OpenClaim.pre_eq_preRow]; exact lifted os started H enc F)
theorem plain (f : FuncId) (fn : Func) (hf : Tryz.pinned.checked.prog.funcNamed "chancery/chancerylaw5.SyntaxPieces" = some f) (hfn : Tryz.pinned.checked.prog.funcs[f]? = some fn) :
    true = Tryz.pinned.checked.prog.looks [] ∧ ∀ (j : Nat) t, fn.params[j]? = some t → Tryz.pinned.checked.prog.wantsStandIn t = false := by
  obtain rfl : f = 9 := Option.some.inj ((show Tryz.prog.funcNamed "chancery/chancerylaw5.SyntaxPieces" = some 9 by kernel_rfl).symm.trans hf) |>.symm
  obtain rfl : fn = Tryz.f9 := (Option.some.inj (Tryz.func9.symm.trans hfn)).symm
  refine ⟨by kernel_rfl, fun j t ht => ?_⟩
  rw [Tryz.params9] at ht
  have hm := Array.mem_of_getElem? ht
  have hall : ∀ t ∈ #[9, 9, 29, 9], Tryz.prog.wantsStandIn t = false := by
    intro t h
    have : t = 9 ∨ t = 29 := by
      simp only [List.mem_toArray, List.mem_cons, List.not_mem_nil, or_false] at h
      rcases h with h | h | h | h
      · exact .inl h
      · exact .inl h
      · exact .inr h
      · exact .inl h
    rcases this with rfl | rfl
    · exact (show Tryz.prog.wantsStandIn 9 = false by kernel_rfl)
    · exact (show Tryz.prog.wantsStandIn 29 = false by kernel_rfl)
  exact hall t hm
/-- THE CARD -/
theorem card : Rows.SyntaxPiecesUptoCardSaid :=
  Claim7.holds_tied_plain_at .later [] _ _ _ _ said (fun _ h => by cases h) (by kernel_rfl) (fun _ h => by cases h) syntaxPiecesUpto_row_tie rfl ⟨rfl, rfl⟩ (by kernel_rfl) rfl plain (by kernel_rfl)
end Go.Proofs.YtgpecklibcgifaaGreatDoor.syntaxPieces
