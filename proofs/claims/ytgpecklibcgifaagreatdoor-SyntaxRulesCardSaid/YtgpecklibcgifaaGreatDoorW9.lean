/- The law's own small functions: alive, text. -/
import Derived.Test.YtgpecklibcgifaaGreatDoorW7
import Derived.Test.YtgpecklibcgifaaGreatDoorW8
set_option linter.all false
namespace Go.Proofs.YtgpecklibcgifaaGreatDoor
open Go.RowKit Go.Sort

def nDn : List UInt8 := [100, 105, 115, 116, 105, 110, 103, 117, 105, 115, 104, 101, 100, 78, 97, 109, 101, 77, 97, 116, 99, 104]
def sAlive : List UInt8 := [83, 78, 61, 98, 43, 67, 78, 61, 32, 65, 32, 44, 68, 67, 61, 88]
def nAlive : List UInt8 := [99, 110, 61, 97, 43, 115, 110, 61, 98, 44, 100, 99, 61, 120]
theorem name_alive : nameN sAlive = some nAlive := by
  have h1 : parseL sAlive = (0, [[([83, 78], [98]), ([67, 78], [65])], [([68, 67], [88])]]) := by decide +kernel
  have h2 : normP [([83, 78], [98]), ([67, 78], [65])] = [([99, 110], [97]), ([115, 110], [98])] := by
    unfold normP
    have e : ([([83, 78], [98]), ([67, 78], [65])] : List (List UInt8 × List UInt8)).map normA = [([115, 110], [98]), ([99, 110], [97])] := by decide +kernel
    rw [e]
    refine SS.unique avaCmp_ord _ _ (partN_ss _) ?_ ?_
    · unfold SS; simp; decide +kernel
    · intro x; rw [partN_iff]; simp; exact or_comm
  have h3 : normP [([68, 67], [88])] = [([100, 99], [120])] := by
    unfold normP
    have e : ([([68, 67], [88])] : List (List UInt8 × List UInt8)).map normA = [([100, 99], [120])] := by decide +kernel
    rw [e]
    exact partN_id (by unfold SS; simp)
  have h4 : ([[([83, 78], [98]), ([67, 78], [65])], [([68, 67], [88])]] : List (List (List UInt8 × List UInt8))).map normP = [[([99, 110], [97]), ([115, 110], [98])], [([100, 99], [120])]] := by
    simp only [List.map_cons, List.map_nil, h2, h3]
  have h5 : printL [[([99, 110], [97]), ([115, 110], [98])], [([100, 99], [120])]] = (0, nAlive) := by decide +kernel
  unfold nameN
  rw [h1]
  simp only [if_true]
  rw [h4, h5]
  rfl
theorem ask_dn : askT (smallL nDn) 0 = some (nDn, 0, [fName], .name) := by decide +kernel
theorem ask_int : askT (smallL nIntOrd) 1 = some (nIntOrd, 1, [fInteger], .self) := by decide +kernel
theorem norm_alive : normV nDn sAlive = .tuple #[.string ⟨nAlive.toArray⟩, .int .i64 0] := by
  unfold normV
  rw [ask_dn]
  have hv : normS (nDn, 0, [fName], .name) sAlive = some nAlive := by
    unfold normS
    rw [if_pos (by decide +kernel)]
    exact name_alive
  simp only [hv]
  rfl
theorem order_alive : orderP nIntOrd [49, 48] [57] = (1, 0) := by
  unfold orderP
  rw [ask_int]
  decide +kernel
theorem valid_alive : validL fTime [50, 48, 50, 52, 48, 50, 50, 57, 48, 48, 48, 48, 48, 48, 90] = true := by decide +kernel
set_option maxRecDepth 100000 in
set_option maxHeartbeats 1000000 in
theorem alive_c (w : World) (hw : Env w) : Calls Tryz.prog 10 #[] w fun e w' => e = .returned (.bool true) ∧ Below w.heap.size w w' := by
  have h1 : Calls Tryz.prog 15 #[.string ⟨#[100, 105, 115, 116, 105, 110, 103, 117, 105, 115, 104, 101, 100, 78, 97, 109, 101, 77, 97, 116, 99, 104]⟩, .string ⟨#[83, 78, 61, 98, 43, 67, 78, 61, 32, 65, 32, 44, 68, 67, 61, 88]⟩] w fun e w' => e = .returned (.tuple #[.string ⟨#[99, 110, 61, 97, 43, 115, 110, 61, 98, 44, 100, 99, 61, 120]⟩, .int .i64 0]) ∧ Below w.heap.size w w' := by
    have h := Norm_c nDn sAlive w hw (by decide)
    rw [norm_alive] at h
    exact h
  have H2 : Hid (∀ W, Env W → Calls Tryz.prog 11 #[.string ⟨#[105, 110, 116, 101, 103, 101, 114, 79, 114, 100, 101, 114, 105, 110, 103, 77, 97, 116, 99, 104]⟩, .string ⟨#[49, 48]⟩, .string ⟨#[57]⟩] W fun e w' => e = .returned (.tuple #[.int .i64 1, .int .i64 0]) ∧ Below W.heap.size W w') := Lib.hid fun W hW => by
    have h := Order_c nIntOrd [49, 48] [57] W hW (by decide)
    rw [order_alive] at h
    exact h
  have H3 : Hid (∀ W, Env W → Calls Tryz.prog 13 #[.string ⟨#[116, 105, 109, 101]⟩, .string ⟨#[50, 48, 50, 52, 48, 50, 50, 57, 48, 48, 48, 48, 48, 48, 90]⟩] W fun e w' => e = .returned (.bool true) ∧ Below W.heap.size W w') := Lib.hid fun W hW => by
    have h := Valid_c fTime [50, 48, 50, 52, 48, 50, 50, 57, 48, 48, 48, 48, 48, 48, 90] W hW
    rw [valid_alive] at h
    exact h
  go_enter Tryz.func10, Tryz.ntmps10
  go_wp2_with (first | (go_at_call 15; refine h1.mono ?_; rintro e w1 ⟨rfl, hb1⟩) | (go_at_call 11; refine (H2.out _ (hw.keep hb1)).mono ?_; rintro e w2 ⟨rfl, hb2⟩; have hb2' := hb1.trans (hb2.mono hb1.size)) | (go_at_call 13; refine (H3.out _ (hw.keep hb2')).mono ?_; rintro e w3 ⟨rfl, hb3⟩))
  go_ret
  exact ⟨rfl, hb2'.trans (hb3.mono hb2'.size)⟩
end Go.Proofs.YtgpecklibcgifaaGreatDoor
