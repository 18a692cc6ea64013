import Derived.Test.YtkkbbhlihilnpaaGreatDoorWvb4
import Derived.Lib.TrimAscii
set_option linter.all false
set_option maxHeartbeats 8000000
set_option maxRecDepth 100000
namespace Go.Proofs.YtkkbbhlihilnpaaGreatDoor
open Go.RowKit Go.Sort
abbrev RowT := List UInt8 × Int × List (List UInt8) × NormFn
def applyN : NormFn → List UInt8 → Option (List UInt8)
 | .self, v => some v
 | .text fold, v => prepL v fold
 | .name, v => nameN v
 | .oid, v => some (smallL v)
def normS (x : RowT) (v : List UInt8) : Option (List UInt8) := if decide (v.length ≤ 1024) && x.2.2.1.any (fun f => validL f v) then applyN x.2.2.2 v else none
def NormalRet (w : World) (o : Option (List UInt8)) (e : Ending) (w' : World) : Prop := e = .returned (strOr 40 o) ∧ Below w.heap.size w w'
set_option maxRecDepth 100000 in
theorem normal_long (x : RowT) (b : Nat) (v : List UInt8) (w : World) (h : RowAt w b x) (hv : ¬ v.length ≤ 1024) :
  Calls Tryz.prog 84 #[.pointer (some ⟨b, 0, none⟩), .string ⟨v.toArray⟩] w (NormalRet w none) := by
 have hv' : 1024 < v.length := by omega
 clear h
 go_enter Tryz.func84, Tryz.ntmps84
 go_wp2
 go_ret2
 exact ⟨rfl, (Below.refl _ _).alloc (Nat.le_refl _) _⟩
theorem RowAt.any {w W : World} {b : Nat} {x : RowT} {v : List UInt8} (h : RowAt w b x) (hfl : x.2.2.1.length ≤ 2) (hw : Env w) (hW : W = w.alloc (.cells #[.string ⟨v.toArray⟩] 9)) {fA : Option Addr} {fN fC : Nat} (hT : Texts w (.slice fA fN fC) x.2.2.1) :
  Calls Tryz.prog 42 #[.slice fA fN fC, .func (.func 142) #[] #[.pointer (some ⟨w.heap.size, 0, none⟩)]] W fun e w' => e = .returned (.bool (x.2.2.1.any (fun f => validL f v))) ∧ Below W.heap.size W w' := by
 subst hW
 have hb := (Below.refl w.heap.size w).alloc (Nat.le_refl _) (.cells #[.string ⟨v.toArray⟩] 9)
 have hc := Bk.new w 9 #[.string ⟨v.toArray⟩]
 exact forms_any x.2.2.1 _ _ (hT.below hb) (by omega) w.heap.size (fun f => validL f v) (fun f _ W' hB => normal1_c f v w.heap.size W' ((hw.keep hb).keep hB) ((hc.below hB).cell 0))
set_option maxRecDepth 100000 in
theorem normal_none (x : RowT) (b : Nat) (v : List UInt8) (w : World) (hw : Env w) (h : RowAt w b x) (hfl : x.2.2.1.length ≤ 2) (hv : v.length ≤ 1024) (ha : x.2.2.1.any (fun f => validL f v) = false) :
  Calls Tryz.prog 84 #[.pointer (some ⟨b, 0, none⟩), .string ⟨v.toArray⟩] w (NormalRet w none) := by
 have hlt := h.lt
 have h0 := h
 obtain ⟨fA, fN, fC, nF, n1, n2, h1, h2, h3⟩ := h
 have hA := h0.any (v := v) hfl hw rfl h2
 rw [ha] at hA
 have hcell : (w.alloc (.cells #[.string ⟨v.toArray⟩] 9)).cell? ⟨b, 2, none⟩ = some (.slice fA fN fC) := (World.cell?_alloc_lt _ _ _ hlt).trans (by simp [World.cell?, h1])
 have hmf := mkFunc
 clear h0 h1 h2 h3 ha
 go_enter Tryz.func84, Tryz.ntmps84
 go_wp2_with (go_at_call 42; refine hA.mono ?_; rintro e w2 ⟨rfl, hb2⟩)
 go_ret2
 exact ⟨rfl, ((Below.refl _ _).alloc (Nat.le_refl _) _).trans (hb2.mono (by simp))⟩
set_option maxRecDepth 100000 in
theorem normal_self (x : RowT) (b : Nat) (v : List UInt8) (w : World) (hw : Env w) (h : RowAt w b x) (hfl : x.2.2.1.length ≤ 2) (hv : v.length ≤ 1024) (ha : x.2.2.1.any (fun f => validL f v) = true) (hn : x.2.2.2 = NormFn.self) (o : Option (List UInt8)) (ho : o = some v) :
  Calls Tryz.prog 84 #[.pointer (some ⟨b, 0, none⟩), .string ⟨v.toArray⟩] w (NormalRet w o) := by
 have hlt := h.lt
 have h0 := h
 obtain ⟨fA, fN, fC, nF, n1, n2, h1, h2, h3⟩ := h
 have hA := h0.any (v := v) hfl hw rfl h2
 rw [ha] at hA
 rw [hn] at h3
 obtain ⟨rfl, rfl, rfl⟩ : nF = .func 248 ∧ n1 = #[] ∧ n2 = #[] := by have h3' : Value.func nF n1 n2 = .func (.func 248) #[] #[] := h3; cases h3'; exact ⟨rfl, rfl, rfl⟩
 have hbw := (Below.refl w.heap.size w).alloc (Nat.le_refl _) (.cells #[.string ⟨v.toArray⟩] 9)
 have kV := Bk.new w 9 #[.string ⟨v.toArray⟩]
 have HC : Hid (∀ W, Below w.heap.size w W → Calls Tryz.prog 248 #[.string ⟨v.toArray⟩] W (NormRet W o)) := Lib.hid fun W hW => by rw [ho]; exact self_c v W
 have hcell : (w.alloc (.cells #[.string ⟨v.toArray⟩] 9)).cell? ⟨b, 2, none⟩ = some (.slice fA fN fC) := (World.cell?_alloc_lt _ _ _ hlt).trans (by simp [World.cell?, h1])
 have hcell3 : (w.alloc (.cells #[.string ⟨v.toArray⟩] 9)).cell? ⟨b, 3, none⟩ = some (.func (.func 248) #[] #[]) := (World.cell?_alloc_lt _ _ _ hlt).trans (by simp [World.cell?, h1])
 have hsz : (w.alloc (.cells #[.string ⟨v.toArray⟩] 9)).heap.size = w.heap.size + 1 := by simp
 have HSZ := Lib.hid hsz
 have HC3 := Lib.hid hcell3
 have HKV := Lib.hid kV
 have hmf := mkFunc
 have HO := Lib.hid ho
 clear h0 h1 h2 h3 ha hn ho hsz hcell3 kV
 go_enter Tryz.func84, Tryz.ntmps84
 go_wp2_with (go_at_call 42; refine hA.mono ?_; rintro e w2 ⟨rfl, hb2⟩)
 have f1 : w2.cell? ⟨b, 3, none⟩ = some (.func (.func 248) #[] #[]) := (hb2.cell (p := ⟨b, 3, none⟩) (by have := HSZ.out; simp; omega)).trans HC3.out
 have f2 : w2.cell? ⟨w.heap.size, 0, none⟩ = some (.string ⟨v.toArray⟩) := (HKV.out.below hb2).cell 0
 have hB2 : Below w.heap.size w w2 := hbw.trans (hb2.mono (by have := HSZ.out; omega))
 have HB2 := Lib.hid hB2
 clear hA hcell hb2 hB2 hmf
 go_region_held3 (fun w' => w'.cell? ⟨b, 3, none⟩ = some (.func (.func 248) #[] #[]) ∧ w'.cell? ⟨w.heap.size, 0, none⟩ = some (.string ⟨v.toArray⟩)) (first | exact ⟨f1, f2⟩ | exact ⟨f1', f2'⟩) (first | (go_at_call 248; refine (HC.out _ (HB2.out.trans ((Below.refl _ _).drew.mono HB2.out.size))).mono ?_; rintro e w4 ⟨hb4, r, rfl, hr⟩; have Hr := Lib.hid hr; clear hr; have f1' : w4.cell? ⟨b, 3, none⟩ = some (.func (.func 248) #[] #[]) := (hb4.cell (p := ⟨b, 3, none⟩) (by have := HB2.out.size; simp; omega)).trans f1; have f2' : w4.cell? ⟨w.heap.size, 0, none⟩ = some (.string ⟨v.toArray⟩) := (hb4.cell (p := ⟨w.heap.size, 0, none⟩) (by simp; exact cell_lt f2)).trans f2))
 all_goals
  have hfin : Below w.heap.size w w4 := HB2.out.trans ((show Below w2.heap.size w2 w4 from ((Below.refl _ _).drew.trans hb4)).mono HB2.out.size)
  cases o with
  | none =>
   go_wp2_with fail
   go_ret2
   exact ⟨rfl, hfin⟩
  | some m =>
   obtain rfl := Hr.out m rfl
   go_wp2_with fail
   go_ret2
   exact ⟨rfl, hfin⟩
set_option maxRecDepth 100000 in
theorem normal_oid (x : RowT) (b : Nat) (v : List UInt8) (w : World) (hw : Env w) (h : RowAt w b x) (hfl : x.2.2.1.length ≤ 2) (hv : v.length ≤ 1024) (ha : x.2.2.1.any (fun f => validL f v) = true) (hn : x.2.2.2 = NormFn.oid) (o : Option (List UInt8)) (ho : o = some (smallL v)) :
  Calls Tryz.prog 84 #[.pointer (some ⟨b, 0, none⟩), .string ⟨v.toArray⟩] w (NormalRet w o) := by
 have hlt := h.lt
 have h0 := h
 obtain ⟨fA, fN, fC, nF, n1, n2, h1, h2, h3⟩ := h
 have hA := h0.any (v := v) hfl hw rfl h2
 rw [ha] at hA
 rw [hn] at h3
 obtain ⟨rfl, rfl, rfl⟩ : nF = .func 251 ∧ n1 = #[] ∧ n2 = #[] := by have h3' : Value.func nF n1 n2 = .func (.func 251) #[] #[] := h3; cases h3'; exact ⟨rfl, rfl, rfl⟩
 have hbw := (Below.refl w.heap.size w).alloc (Nat.le_refl _) (.cells #[.string ⟨v.toArray⟩] 9)
 have kV := Bk.new w 9 #[.string ⟨v.toArray⟩]
 have HC : Hid (∀ W, Below w.heap.size w W → Calls Tryz.prog 251 #[.string ⟨v.toArray⟩] W (NormRet W o)) := Lib.hid fun W hW => by rw [ho]; exact oid_c v W hv
 have hcell : (w.alloc (.cells #[.string ⟨v.toArray⟩] 9)).cell? ⟨b, 2, none⟩ = some (.slice fA fN fC) := (World.cell?_alloc_lt _ _ _ hlt).trans (by simp [World.cell?, h1])
 have hcell3 : (w.alloc (.cells #[.string ⟨v.toArray⟩] 9)).cell? ⟨b, 3, none⟩ = some (.func (.func 251) #[] #[]) := (World.cell?_alloc_lt _ _ _ hlt).trans (by simp [World.cell?, h1])
 have hsz : (w.alloc (.cells #[.string ⟨v.toArray⟩] 9)).heap.size = w.heap.size + 1 := by simp
 have HSZ := Lib.hid hsz
 have HC3 := Lib.hid hcell3
 have HKV := Lib.hid kV
 have hmf := mkFunc
 have HO := Lib.hid ho
 clear h0 h1 h2 h3 ha hn ho hsz hcell3 kV
 go_enter Tryz.func84, Tryz.ntmps84
 go_wp2_with (go_at_call 42; refine hA.mono ?_; rintro e w2 ⟨rfl, hb2⟩)
 have f1 : w2.cell? ⟨b, 3, none⟩ = some (.func (.func 251) #[] #[]) := (hb2.cell (p := ⟨b, 3, none⟩) (by have := HSZ.out; simp; omega)).trans HC3.out
 have f2 : w2.cell? ⟨w.heap.size, 0, none⟩ = some (.string ⟨v.toArray⟩) := (HKV.out.below hb2).cell 0
 have hB2 : Below w.heap.size w w2 := hbw.trans (hb2.mono (by have := HSZ.out; omega))
 have HB2 := Lib.hid hB2
 clear hA hcell hb2 hB2 hmf
 go_region_held3 (fun w' => w'.cell? ⟨b, 3, none⟩ = some (.func (.func 251) #[] #[]) ∧ w'.cell? ⟨w.heap.size, 0, none⟩ = some (.string ⟨v.toArray⟩)) (first | exact ⟨f1, f2⟩ | exact ⟨f1', f2'⟩) (first | (go_at_call 251; refine (HC.out _ (HB2.out.trans ((Below.refl _ _).drew.mono HB2.out.size))).mono ?_; rintro e w4 ⟨hb4, r, rfl, hr⟩; have Hr := Lib.hid hr; clear hr; have f1' : w4.cell? ⟨b, 3, none⟩ = some (.func (.func 251) #[] #[]) := (hb4.cell (p := ⟨b, 3, none⟩) (by have := HB2.out.size; simp; omega)).trans f1; have f2' : w4.cell? ⟨w.heap.size, 0, none⟩ = some (.string ⟨v.toArray⟩) := (hb4.cell (p := ⟨w.heap.size, 0, none⟩) (by simp; exact cell_lt f2)).trans f2))
 all_goals
  have hfin : Below w.heap.size w w4 := HB2.out.trans ((show Below w2.heap.size w2 w4 from ((Below.refl _ _).drew.trans hb4)).mono HB2.out.size)
  cases o with
  | none =>
   go_wp2_with fail
   go_ret2
   exact ⟨rfl, hfin⟩
  | some m =>
   obtain rfl := Hr.out m rfl
   go_wp2_with fail
   go_ret2
   exact ⟨rfl, hfin⟩
set_option maxRecDepth 100000 in
theorem normal_name (x : RowT) (b : Nat) (v : List UInt8) (w : World) (hw : Env w) (h : RowAt w b x) (hfl : x.2.2.1.length ≤ 2) (hv : v.length ≤ 1024) (ha : x.2.2.1.any (fun f => validL f v) = true) (hn : x.2.2.2 = NormFn.name) (o : Option (List UInt8)) (ho : o = nameN v) :
  Calls Tryz.prog 84 #[.pointer (some ⟨b, 0, none⟩), .string ⟨v.toArray⟩] w (NormalRet w o) := by
 have hlt := h.lt
 have h0 := h
 obtain ⟨fA, fN, fC, nF, n1, n2, h1, h2, h3⟩ := h
 have hA := h0.any (v := v) hfl hw rfl h2
 rw [ha] at hA
 rw [hn] at h3
 obtain ⟨rfl, rfl, rfl⟩ : nF = .func 250 ∧ n1 = #[] ∧ n2 = #[] := by have h3' : Value.func nF n1 n2 = .func (.func 250) #[] #[] := h3; cases h3'; exact ⟨rfl, rfl, rfl⟩
 have hbw := (Below.refl w.heap.size w).alloc (Nat.le_refl _) (.cells #[.string ⟨v.toArray⟩] 9)
 have kV := Bk.new w 9 #[.string ⟨v.toArray⟩]
 have HC : Hid (∀ W, Below w.heap.size w W → Calls Tryz.prog 250 #[.string ⟨v.toArray⟩] W (NormRet W o)) := Lib.hid fun W hW => by rw [ho]; exact name_c v W (hw.keep hW)
 have hcell : (w.alloc (.cells #[.string ⟨v.toArray⟩] 9)).cell? ⟨b, 2, none⟩ = some (.slice fA fN fC) := (World.cell?_alloc_lt _ _ _ hlt).trans (by simp [World.cell?, h1])
 have hcell3 : (w.alloc (.cells #[.string ⟨v.toArray⟩] 9)).cell? ⟨b, 3, none⟩ = some (.func (.func 250) #[] #[]) := (World.cell?_alloc_lt _ _ _ hlt).trans (by simp [World.cell?, h1])
 have hsz : (w.alloc (.cells #[.string ⟨v.toArray⟩] 9)).heap.size = w.heap.size + 1 := by simp
 have HSZ := Lib.hid hsz
 have HC3 := Lib.hid hcell3
 have HKV := Lib.hid kV
 have hmf := mkFunc
 have HO := Lib.hid ho
 clear h0 h1 h2 h3 ha hn ho hsz hcell3 kV
 go_enter Tryz.func84, Tryz.ntmps84
 go_wp2_with (go_at_call 42; refine hA.mono ?_; rintro e w2 ⟨rfl, hb2⟩)
 have f1 : w2.cell? ⟨b, 3, none⟩ = some (.func (.func 250) #[] #[]) := (hb2.cell (p := ⟨b, 3, none⟩) (by have := HSZ.out; simp; omega)).trans HC3.out
 have f2 : w2.cell? ⟨w.heap.size, 0, none⟩ = some (.string ⟨v.toArray⟩) := (HKV.out.below hb2).cell 0
 have hB2 : Below w.heap.size w w2 := hbw.trans (hb2.mono (by have := HSZ.out; omega))
 have HB2 := Lib.hid hB2
 clear hA hcell hb2 hB2 hmf
 go_region_held3 (fun w' => w'.cell? ⟨b, 3, none⟩ = some (.func (.func 250) #[] #[]) ∧ w'.cell? ⟨w.heap.size, 0, none⟩ = some (.string ⟨v.toArray⟩)) (first | exact ⟨f1, f2⟩ | exact ⟨f1', f2'⟩) (first | (go_at_call 250; refine (HC.out _ (HB2.out.trans ((Below.refl _ _).drew.mono HB2.out.size))).mono ?_; rintro e w4 ⟨hb4, r, rfl, hr⟩; have Hr := Lib.hid hr; clear hr; have f1' : w4.cell? ⟨b, 3, none⟩ = some (.func (.func 250) #[] #[]) := (hb4.cell (p := ⟨b, 3, none⟩) (by have := HB2.out.size; simp; omega)).trans f1; have f2' : w4.cell? ⟨w.heap.size, 0, none⟩ = some (.string ⟨v.toArray⟩) := (hb4.cell (p := ⟨w.heap.size, 0, none⟩) (by simp; exact cell_lt f2)).trans f2))
 all_goals
  have hfin : Below w.heap.size w w4 := HB2.out.trans ((show Below w2.heap.size w2 w4 from ((Below.refl _ _).drew.trans hb4)).mono HB2.out.size)
  cases o with
  | none =>
   go_wp2_with fail
   go_ret2
   exact ⟨rfl, hfin⟩
  | some m =>
   obtain rfl := Hr.out m rfl
   go_wp2_with fail
   go_ret2
   exact ⟨rfl, hfin⟩
set_option maxRecDepth 100000 in
theorem normal_text (x : RowT) (b : Nat) (v : List UInt8) (w : World) (hw : Env w) (h : RowAt w b x) (hfl : x.2.2.1.length ≤ 2) (hv : v.length ≤ 1024) (ha : x.2.2.1.any (fun f => validL f v) = true) (fold : Bool) (hn : x.2.2.2 = NormFn.text fold) (o : Option (List UInt8)) (ho : o = prepL v fold) :
  Calls Tryz.prog 84 #[.pointer (some ⟨b, 0, none⟩), .string ⟨v.toArray⟩] w (NormalRet w o) := by
 have hlt := h.lt
 have h0 := h
 obtain ⟨fA, fN, fC, nF, n1, n2, h1, h2, h3⟩ := h
 have hA := h0.any (v := v) hfl hw rfl h2
 rw [ha] at hA
 rw [hn] at h3
 obtain ⟨a, hfa, hca⟩ := h3
 obtain ⟨rfl, rfl, rfl⟩ : nF = .func 270 ∧ n1 = #[] ∧ n2 = #[.pointer (some ⟨a, 0, none⟩)] := by cases hfa; exact ⟨rfl, rfl, rfl⟩
 have HCA := Lib.hid hca
 clear hca hfa
 have h3 := trivial
 have hbw := (Below.refl w.heap.size w).alloc (Nat.le_refl _) (.cells #[.string ⟨v.toArray⟩] 9)
 have kV := Bk.new w 9 #[.string ⟨v.toArray⟩]
 have HC : Hid (∀ W, Below w.heap.size w W → Calls Tryz.prog 270 #[.string ⟨v.toArray⟩, .pointer (some ⟨a, 0, none⟩)] W (NormRet W o)) := Lib.hid fun W hW => by rw [ho]; exact text1_c v fold a W (hw.keep hW) ((hW.cell (p := ⟨a, 0, none⟩) (cell_lt HCA.out)).trans HCA.out) hv
 have hcell : (w.alloc (.cells #[.string ⟨v.toArray⟩] 9)).cell? ⟨b, 2, none⟩ = some (.slice fA fN fC) := (World.cell?_alloc_lt _ _ _ hlt).trans (by simp [World.cell?, h1])
 have hcell3 : (w.alloc (.cells #[.string ⟨v.toArray⟩] 9)).cell? ⟨b, 3, none⟩ = some (.func (.func 270) #[] #[.pointer (some ⟨a, 0, none⟩)]) := (World.cell?_alloc_lt _ _ _ hlt).trans (by simp [World.cell?, h1])
 have hsz : (w.alloc (.cells #[.string ⟨v.toArray⟩] 9)).heap.size = w.heap.size + 1 := by simp
 have HSZ := Lib.hid hsz
 have HC3 := Lib.hid hcell3
 have HKV := Lib.hid kV
 have hmf := mkFunc
 have HO := Lib.hid ho
 clear h0 h1 h2 h3 ha hn ho hsz hcell3 kV
 go_enter Tryz.func84, Tryz.ntmps84
 go_wp2_with (go_at_call 42; refine hA.mono ?_; rintro e w2 ⟨rfl, hb2⟩)
 have f1 : w2.cell? ⟨b, 3, none⟩ = some (.func (.func 270) #[] #[.pointer (some ⟨a, 0, none⟩)]) := (hb2.cell (p := ⟨b, 3, none⟩) (by have := HSZ.out; simp; omega)).trans HC3.out
 have f2 : w2.cell? ⟨w.heap.size, 0, none⟩ = some (.string ⟨v.toArray⟩) := (HKV.out.below hb2).cell 0
 have hB2 : Below w.heap.size w w2 := hbw.trans (hb2.mono (by have := HSZ.out; omega))
 have HB2 := Lib.hid hB2
 clear hA hcell hb2 hB2 hmf
 go_region_held3 (fun w' => w'.cell? ⟨b, 3, none⟩ = some (.func (.func 270) #[] #[.pointer (some ⟨a, 0, none⟩)]) ∧ w'.cell? ⟨w.heap.size, 0, none⟩ = some (.string ⟨v.toArray⟩)) (first | exact ⟨f1, f2⟩ | exact ⟨f1', f2'⟩) (first | (go_at_call 270; refine (HC.out _ (HB2.out.trans ((Below.refl _ _).drew.mono HB2.out.size))).mono ?_; rintro e w4 ⟨hb4, r, rfl, hr⟩; have Hr := Lib.hid hr; clear hr; have f1' : w4.cell? ⟨b, 3, none⟩ = some (.func (.func 270) #[] #[.pointer (some ⟨a, 0, none⟩)]) := (hb4.cell (p := ⟨b, 3, none⟩) (by have := HB2.out.size; simp; omega)).trans f1; have f2' : w4.cell? ⟨w.heap.size, 0, none⟩ = some (.string ⟨v.toArray⟩) := (hb4.cell (p := ⟨w.heap.size, 0, none⟩) (by simp; exact cell_lt f2)).trans f2))
 all_goals
  have hfin : Below w.heap.size w w4 := HB2.out.trans ((show Below w2.heap.size w2 w4 from ((Below.refl _ _).drew.trans hb4)).mono HB2.out.size)
  cases o with
  | none =>
   go_wp2_with fail
   go_ret2
   exact ⟨rfl, hfin⟩
  | some m =>
   obtain rfl := Hr.out m rfl
   go_wp2_with fail
   go_ret2
   exact ⟨rfl, hfin⟩
theorem normal_c (x : RowT) (b : Nat) (v : List UInt8) (w : World) (hw : Env w) (h : RowAt w b x) (hfl : x.2.2.1.length ≤ 2) :
  Calls Tryz.prog 84 #[.pointer (some ⟨b, 0, none⟩), .string ⟨v.toArray⟩] w (NormalRet w (normS x v)) := by
 unfold normS
 by_cases hv : v.length ≤ 1024
 ·cases ha : x.2.2.1.any (fun f => validL f v)
  ·simp only [Bool.and_false, Bool.false_eq_true, if_false]
   exact normal_none x b v w hw h hfl hv ha
  ·simp only [decide_eq_true hv, Bool.and_true, if_true]
   cases hn : x.2.2.2 with
   | self => exact normal_self x b v w hw h hfl hv ha hn _ rfl
   | text fold => exact normal_text x b v w hw h hfl hv ha fold hn _ rfl
   | name => exact normal_name x b v w hw h hfl hv ha hn _ rfl
   | oid => exact normal_oid x b v w hw h hfl hv ha hn _ rfl
 ·simp only [decide_eq_false hv, Bool.false_and, Bool.false_eq_true, if_false]
  exact normal_long x b v w h hv
open Go.RowKit Go.Sort
theorem findT_mem {n : List UInt8} {k : Int} {x : RowT} : ∀ {T : List RowT}, findT n k T = some x → x ∈ T
 | [], h => by cases h
 | y :: T, h => by
  rw [findT] at h
  split at h
  ·cases h; simp
  ·simp [findT_mem h]
theorem ruleT_mem {n : List UInt8} {x : RowT} (h : ruleT n = some x) : x ∈ tab := by
 unfold ruleT at h
 rw [Option.or_eq_some_iff] at h
 rcases h with h | ⟨_, h⟩
 ·exact findT_mem h
 ·rw [Option.or_eq_some_iff] at h
  rcases h with h | ⟨_, h⟩
  ·exact findT_mem h
  ·exact findT_mem h
theorem askT_mem {n : List UInt8} {k : Int} {x : RowT} (h : askT n k = some x) : x ∈ tab := ruleT_mem (Option.filter_eq_some_iff.1 h).1
theorem tab_forms : ∀ x ∈ tab, x.2.2.1.length ≤ 2 := by decide
theorem askT_forms {n : List UInt8} {k : Int} {x : RowT} (h : askT n k = some x) : x.2.2.1.length ≤ 2 := tab_forms x (askT_mem h)
def normV (rule v : List UInt8) : Value := match askT (smallL rule) 0 with
 | none => .tuple #[.string ⟨#[]⟩, .int .i64 41]
 | some x => strOr 40 (normS x v)
set_option maxRecDepth 100000 in
theorem Norm_c (rule v : List UInt8) (w : World) (hw : Env w) (hl : rule.length ≤ 140737488351232) :
  Calls Tryz.prog 41 #[.string ⟨rule.toArray⟩, .string ⟨v.toArray⟩] w fun e w' => e = .returned (normV rule v) ∧ Below w.heap.size w w' := by
 have hc := asked_c rule 0 w hl
 cases ha : askT (smallL rule) 0 with
 | none =>
  rw [ha] at hc
  rw [show normV rule v = .tuple #[.string ⟨#[]⟩, .int .i64 41] by unfold normV; rw [ha]]
  clear ha
  go_enter Tryz.func41, Tryz.ntmps41
  go_wp2_with (go_at_call 83; refine hc.mono ?_; rintro e w1 ⟨hb, rfl⟩)
  go_ret2
  exact ⟨rfl, hb⟩
 | some x =>
  have hfl := askT_forms ha
  rw [ha] at hc
  have HN := Lib.hid (fun b W (hW : Env W) hR => normal_c x b v W hW hR hfl)
  rw [show normV rule v = strOr 40 (normS x v) by unfold normV; rw [ha]]
  clear ha
  generalize normS x v = o at *
  cases o
  ·simp only [strOr]
   go_enter Tryz.func41, Tryz.ntmps41
   go_wp2_with (first | (go_at_call 83; refine hc.mono ?_; rintro e w1 ⟨hb, b, rfl, hbb, hrow⟩) | (go_at_call 84; refine (HN.out _ _ (hw.keep hb) hrow).mono ?_; rintro e w2 ⟨rfl, hb2⟩; simp only [strOr]))
   go_ret2
   exact ⟨rfl, hb.trans (hb2.mono hb.size)⟩
  ·simp only [strOr]
   go_enter Tryz.func41, Tryz.ntmps41
   go_wp2_with (first | (go_at_call 83; refine hc.mono ?_; rintro e w1 ⟨hb, b, rfl, hbb, hrow⟩) | (go_at_call 84; refine (HN.out _ _ (hw.keep hb) hrow).mono ?_; rintro e w2 ⟨rfl, hb2⟩; simp only [strOr]))
   go_ret2
   exact ⟨rfl, hb.trans (hb2.mono hb.size)⟩
open Go.RowKit
def VR (r : Int) : Prop := (0 ≤ r ∧ r < 55296) ∨ (57344 ≤ r ∧ r ≤ 1114111)
theorem VR_of {r : Int} (h : Lib.validRune r = true) : VR r := by
 unfold Lib.validRune at h; simp at h; unfold VR; omega
theorem enc_cases {r : Int} (h : VR r) :
  (0 ≤ r ∧ r < 128 ∧ encR r = [UInt8.ofNat r.toNat]) ∨
  (128 ≤ r ∧ r < 2048 ∧ encR r = [UInt8.ofNat (192 + r.toNat / 64), UInt8.ofNat (128 + r.toNat % 64)]) ∨
  (2048 ≤ r ∧ r < 65536 ∧ encR r = [UInt8.ofNat (224 + r.toNat / 4096), UInt8.ofNat (128 + r.toNat / 64 % 64), UInt8.ofNat (128 + r.toNat % 64)]) ∨
  (65536 ≤ r ∧ r ≤ 1114111 ∧ encR r = [UInt8.ofNat (240 + r.toNat / 262144), UInt8.ofNat (128 + r.toNat / 4096 % 64), UInt8.ofNat (128 + r.toNat / 64 % 64), UInt8.ofNat (128 + r.toNat % 64)]) := by
 have hv : Utf8.valid r = true := by unfold VR at h; unfold Utf8.valid; simp; omega
 unfold encR Utf8.encode
 rw [hv]
 simp only [if_true]
 by_cases h1 : r.toNat < 128
 ·left; refine ⟨by unfold VR at h; omega, by omega, ?_⟩; rw [if_pos h1]
 ·rw [if_neg h1]
  right
  by_cases h2 : r.toNat < 2048
  ·left; refine ⟨by omega, by omega, ?_⟩; rw [if_pos h2]
  ·rw [if_neg h2]
   right
   by_cases h3 : r.toNat < 65536
   ·left; refine ⟨by omega, by omega, ?_⟩; rw [if_pos h3]
   ·rw [if_neg h3]
    right
    refine ⟨by omega, by unfold VR at h; omega, rfl⟩
theorem ofN {n : Nat} (h : n < 256) : (UInt8.ofNat n).toNat = n := by simp; omega
/-! ### what becomes of characters -/
def stepR (fold : Bool) (acc : List Int) (r : Int) : Option (List Int) :=
 if (mapR r).2.2 then none
 else if !(mapR r).2.1 then some acc
 else if (mapR r).1 = 32 ∧ acc.getLast? = some 32 then some acc
 else some (acc ++ [if fold then foldR (mapR r).1 else (mapR r).1])
def mapRR (fold : Bool) : List Int → List Int → Option (List Int)
 | [], acc => some acc
 | r :: rs, acc => (stepR fold acc r).bind (mapRR fold rs)
open Go.RowKit
theorem dropW_id {α : Type} [BEq α] [LawfulBEq α] (c : α) : ∀ l : List α, l.head? ≠ some c → l.dropWhile (· == c) = l
 | [], _ => rfl
 | x :: l, h => by
  have : (x == c) = false := by rw [beq_eq_false_iff_ne]; intro e; apply h; simp [e]
  rw [List.dropWhile_cons, this]; simp
theorem map_some (f g : Bool) : ∀ (rs acc acc' : List Int), (mapRR f rs acc).isSome = (mapRR g rs acc').isSome
 | [], _, _ => rfl
 | r :: rs, acc, acc' => by
  rw [mapRR, mapRR]
  have hs : ∀ (f : Bool) (acc : List Int), (mapR r).2.2 = false → ∃ a, stepR f acc r = some a := by
   intro f acc h
   unfold stepR
   rw [h]
   simp only [Bool.false_eq_true, if_false]
   split
   ·exact ⟨_, rfl⟩
   ·split
    ·exact ⟨_, rfl⟩
    ·exact ⟨_, rfl⟩
  cases h : (mapR r).2.2
  ·obtain ⟨a, ha⟩ := hs f acc h
   obtain ⟨b, hb⟩ := hs g acc' h
   rw [ha, hb]
   exact map_some f g rs a b
  ·have : ∀ (f : Bool) (acc : List Int), stepR f acc r = none := by intro f acc; unfold stepR; rw [h]; rfl
   rw [this, this]; rfl
open Go.RowKit Go.Sort
def SS {α : Type} (f : α → α → Int) (l : List α) : Prop := l.Pairwise (fun a b => f a b < 0)
theorem SS.unique {α : Type} {f : α → α → Int} (hf : Ord f) : ∀ l l' : List α, SS f l → SS f l' → (∀ x, x ∈ l ↔ x ∈ l') → l = l'
 | [], [], _, _, _ => rfl
 | [], y :: l', _, _, h => by have := (h y).2 (by simp); simp at this
 | x :: l, [], _, _, h => by have := (h x).1 (by simp); simp at this
 | x :: l, y :: l', h1, h2, h => by
  unfold SS at h1 h2
  rw [List.pairwise_cons] at h1 h2
  have hxy : x = y := by
   have a := (h x).1 (by simp)
   have b := (h y).2 (by simp)
   rw [List.mem_cons] at a b
   rcases a with a | a
   ·exact a
   ·rcases b with b | b
    ·exact b.symm
    ·have c := h1.1 y b
     have d := h2.1 x a
     have e := hf.swap x y
     omega
  subst hxy
  have hx := (hf.zero x x).2 rfl
  rw [SS.unique hf l l' h1.2 h2.2 (fun z => ?_)]
  constructor
  ·intro hz
   have := (h z).1 (by simp [hz])
   rw [List.mem_cons] at this
   rcases this with e | e
   ·have := h1.1 z hz; rw [e] at this; omega
   ·exact e
  ·intro hz
   have := (h z).2 (by simp [hz])
   rw [List.mem_cons] at this
   rcases this with e | e
   ·have := h2.1 z hz; rw [e] at this; omega
   ·exact e
open Go.RowKit Go.Sort
open Go.RowKit Go.Sort
def Stop (r : List UInt8) : Prop := ∀ x t, r = x :: t → x = 43 ∨ x = 44
theorem idx_mem (l : List UInt8) (c : UInt8) : 0 ≤ Lib.indexByte l c ↔ c ∈ l := by
 have := Lib.contains_iff_indexByte l c
 rw [Bool.eq_iff_iff] at this
 simpa using this.symm
theorem blk_id (l : List UInt8) (h : ∀ x t, l = x :: t → x ≠ 32) : blk l = l := by
 unfold blk
 apply dropW_id
 cases l with
 | nil => simp
 | cons x t => simp; exact h x t rfl
theorem Stop.blk {r : List UInt8} (h : Stop r) : blk r = r := blk_id r (fun x t e => by rcases h x t e with rfl | rfl <;> decide)
open Go.RowKit Go.Sort
def normE (r v : List UInt8) : Int × List UInt8 := match askT (smallL r) 0 with
 | none => (41, [])
 | some x => match normS x v with
  | none => (40, [])
  | some m => (0, m)
def normTy (L : List DefS) (t v : List UInt8) : Int × List UInt8 := match findD L false t with
 | none => (52, [])
 | some i => match countsD L i with
  | none => (52, [])
  | some a => if validL a.form v then (if a.eqr == [] then (0, v) else normE a.eqr v) else (40, [])
def nameTy (L : List DefS) (t : List UInt8) : List UInt8 := match findD L false t with
 | none => []
 | some i => nameOf L i
def mapK {α β : Type} (f : α → Int × β) : List α → Int × List β
 | [] => (0, [])
 | x :: t => if (f x).1 ≠ 0 then ((f x).1, []) else (if (mapK f t).1 ≠ 0 then ((mapK f t).1, []) else (0, (f x).2 :: (mapK f t).2))
def avaK (L : List DefS) (x : List UInt8 × List UInt8) : Int × (List UInt8 × List UInt8) := ((normTy L x.1 x.2).1, (smallL (nameTy L x.1), (normTy L x.1 x.2).2))
def partK (L : List DefS) (p : List (List UInt8 × List UInt8)) : Int × List (List UInt8 × List UInt8) := ((mapK (avaK L) p).1, partN (mapK (avaK L) p).2)
def keyS (L : List DefS) (s : List UInt8) : Int × List UInt8 :=
 if (parseL s).1 ≠ 0 then ((parseL s).1, [])
 else if (mapK (partK L) (parseL s).2).1 ≠ 0 then ((mapK (partK L) (parseL s).2).1, [])
 else printL (mapK (partK L) (parseL s).2).2
end Go.Proofs.YtkkbbhlihilnpaaGreatDoor
