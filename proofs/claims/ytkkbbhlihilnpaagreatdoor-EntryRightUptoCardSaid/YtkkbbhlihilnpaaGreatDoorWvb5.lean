import Derived.Test.YtkkbbhlihilnpaaGreatDoorWvb4
set_option linter.all false
set_option maxHeartbeats 8000000
namespace Go.Proofs.YtkkbbhlihilnpaaGreatDoor
open Go.RowKit Go.Sort
abbrev RowT := List UInt8 × Int × List (List UInt8) × NormFn
def applyN : NormFn → List UInt8 → Option (List UInt8)
 | .self, v => some v
 | .text fold, v => prepL v fold
 | .name, v => nameN v
 | .oid, v => some (smallL v)
def normS (x : RowT) (v : List UInt8) : Option (List UInt8) := if decide (v.length ≤ 1024) && x.2.2.1.any (fun f => validL f v) then applyN x.2.2.2 v else none
def NormalRet (w : World) (o : Option (List UInt8)) (e : Ending) (w' : World) : Prop := e = .returned (strOr 40 o) ∧ Below w.heap.size w w'
set_option maxRecDepth 100000 in
theorem normal_long (x : RowT) (b : Nat) (v : List UInt8) (w : World) (h : RowAt w b x) (hv : ¬ v.length ≤ 1024) :
  Calls Tryz.prog 84 #[.pointer (some ⟨b, 0, none⟩), .string ⟨v.toArray⟩] w (NormalRet w none) := by
 have hv' : 1024 < v.length := by omega
 clear h
 go_enter Tryz.func84, Tryz.ntmps84
 go_wp2
 go_ret2
 exact ⟨rfl, (Below.refl _ _).alloc (Nat.le_refl _) _⟩
theorem RowAt.any {w W : World} {b : Nat} {x : RowT} {v : List UInt8} (h : RowAt w b x) (hfl : x.2.2.1.length ≤ 2) (hw : Env w) (hW : W = w.alloc (.cells #[.string ⟨v.toArray⟩] 9)) {fA : Option Addr} {fN fC : Nat} (hT : Texts w (.slice fA fN fC) x.2.2.1) :
  Calls Tryz.prog 42 #[.slice fA fN fC, .func (.func 142) #[] #[.pointer (some ⟨w.heap.size, 0, none⟩)]] W fun e w' => e = .returned (.bool (x.2.2.1.any (fun f => validL f v))) ∧ Below W.heap.size W w' := by
 subst hW
 have hb := (Below.refl w.heap.size w).alloc (Nat.le_refl _) (.cells #[.string ⟨v.toArray⟩] 9)
 have hc := Bk.new w 9 #[.string ⟨v.toArray⟩]
 exact forms_any x.2.2.1 _ _ (hT.below hb) (by omega) w.heap.size (fun f => validL f v) (fun f _ W' hB => normal1_c f v w.heap.size W' ((hw.keep hb).keep hB) ((hc.below hB).cell 0))
set_option maxRecDepth 100000 in
theorem normal_none (x : RowT) (b : Nat) (v : List UInt8) (w : World) (hw : Env w) (h : RowAt w b x) (hfl : x.2.2.1.length ≤ 2) (hv : v.length ≤ 1024) (ha : x.2.2.1.any (fun f => validL f v) = false) :
  Calls Tryz.prog 84 #[.pointer (some ⟨b, 0, none⟩), .string ⟨v.toArray⟩] w (NormalRet w none) := by
 have hlt := h.lt
 have h0 := h
 obtain ⟨fA, fN, fC, nF, n1, n2, h1, h2, h3⟩ := h
 have hA := h0.any (v := v) hfl hw rfl h2
 rw [ha] at hA
 have hcell : (w.alloc (.cells #[.string ⟨v.toArray⟩] 9)).cell? ⟨b, 2, none⟩ = some (.slice fA fN fC) := (World.cell?_alloc_lt _ _ _ hlt).trans (by simp [World.cell?, h1])
 have hmf := mkFunc
 clear h0 h1 h2 h3 ha
 go_enter Tryz.func84, Tryz.ntmps84
 go_wp2_with (go_at_call 42; refine hA.mono ?_; rintro e w2 ⟨rfl, hb2⟩)
 go_ret2
 exact ⟨rfl, ((Below.refl _ _).alloc (Nat.le_refl _) _).trans (hb2.mono (by simp))⟩
set_option maxRecDepth 100000 in
theorem normal_self (x : RowT) (b : Nat) (v : List UInt8) (w : World) (hw : Env w) (h : RowAt w b x) (hfl : x.2.2.1.length ≤ 2) (hv : v.length ≤ 1024) (ha : x.2.2.1.any (fun f => validL f v) = true) (hn : x.2.2.2 = NormFn.self) (o : Option (List UInt8)) (ho : o = some v) :
  Calls Tryz.prog 84 #[.pointer (some ⟨b, 0, none⟩), .string ⟨v.toArray⟩] w (NormalRet w o) := by
 have hlt := h.lt
 have h0 := h
 obtain ⟨fA, fN, fC, nF, n1, n2, h1, h2, h3⟩ := h
 have hA := h0.any (v := v) hfl hw rfl h2
 rw [ha] at hA
 rw [hn] at h3
 obtain ⟨rfl, rfl, rfl⟩ : nF = .func 248 ∧ n1 = #[] ∧ n2 = #[] := by have h3' : Value.func nF n1 n2 = .func (.func 248) #[] #[] := h3; cases h3'; exact ⟨rfl, rfl, rfl⟩
 have hbw := (Below.refl w.heap.size w).alloc (Nat.le_refl _) (.cells #[.string ⟨v.toArray⟩] 9)
 have kV := Bk.new w 9 #[.string ⟨v.toArray⟩]
 have HC : Hid (∀ W, Below w.heap.size w W → Calls Tryz.prog 248 #[.string ⟨v.toArray⟩] W (NormRet W o)) := Lib.hid fun W hW => by rw [ho]; exact self_c v W
 have hcell : (w.alloc (.cells #[.string ⟨v.toArray⟩] 9)).cell? ⟨b, 2, none⟩ = some (.slice fA fN fC) := (World.cell?_alloc_lt _ _ _ hlt).trans (by simp [World.cell?, h1])
 have hcell3 : (w.alloc (.cells #[.string ⟨v.toArray⟩] 9)).cell? ⟨b, 3, none⟩ = some (.func (.func 248) #[] #[]) := (World.cell?_alloc_lt _ _ _ hlt).trans (by simp [World.cell?, h1])
 have hsz : (w.alloc (.cells #[.string ⟨v.toArray⟩] 9)).heap.size = w.heap.size + 1 := by simp
 have HSZ := Lib.hid hsz
 have HC3 := Lib.hid hcell3
 have HKV := Lib.hid kV
 have hmf := mkFunc
 have HO := Lib.hid ho
 clear h0 h1 h2 h3 ha hn ho hsz hcell3 kV
 go_enter Tryz.func84, Tryz.ntmps84
 go_wp2_with (go_at_call 42; refine hA.mono ?_; rintro e w2 ⟨rfl, hb2⟩)
 have f1 : w2.cell? ⟨b, 3, none⟩ = some (.func (.func 248) #[] #[]) := (hb2.cell (p := ⟨b, 3, none⟩) (by have := HSZ.out; simp; omega)).trans HC3.out
 have f2 : w2.cell? ⟨w.heap.size, 0, none⟩ = some (.string ⟨v.toArray⟩) := (HKV.out.below hb2).cell 0
 have hB2 : Below w.heap.size w w2 := hbw.trans (hb2.mono (by have := HSZ.out; omega))
 have HB2 := Lib.hid hB2
 clear hA hcell hb2 hB2 hmf
 go_region_held3 (fun w' => w'.cell? ⟨b, 3, none⟩ = some (.func (.func 248) #[] #[]) ∧ w'.cell? ⟨w.heap.size, 0, none⟩ = some (.string ⟨v.toArray⟩)) (first | exact ⟨f1, f2⟩ | exact ⟨f1', f2'⟩) (first | (go_at_call 248; refine (HC.out _ (HB2.out.trans ((Below.refl _ _).drew.mono HB2.out.size))).mono ?_; rintro e w4 ⟨hb4, r, rfl, hr⟩; have Hr := Lib.hid hr; clear hr; have f1' : w4.cell? ⟨b, 3, none⟩ = some (.func (.func 248) #[] #[]) := (hb4.cell (p := ⟨b, 3, none⟩) (by have := HB2.out.size; simp; omega)).trans f1; have f2' : w4.cell? ⟨w.heap.size, 0, none⟩ = some (.string ⟨v.toArray⟩) := (hb4.cell (p := ⟨w.heap.size, 0, none⟩) (by simp; exact cell_lt f2)).trans f2))
 all_goals
  have hfin : Below w.heap.size w w4 := HB2.out.trans ((show Below w2.heap.size w2 w4 from ((Below.refl _ _).drew.trans hb4)).mono HB2.out.size)
  cases o with
  | none =>
   go_wp2_with fail
   go_ret2
   exact ⟨rfl, hfin⟩
  | some m =>
   obtain rfl := Hr.out m rfl
   go_wp2_with fail
   go_ret2
   exact ⟨rfl, hfin⟩
set_option maxRecDepth 100000 in
theorem normal_oid (x : RowT) (b : Nat) (v : List UInt8) (w : World) (hw : Env w) (h : RowAt w b x) (hfl : x.2.2.1.length ≤ 2) (hv : v.length ≤ 1024) (ha : x.2.2.1.any (fun f => validL f v) = true) (hn : x.2.2.2 = NormFn.oid) (o : Option (List UInt8)) (ho : o = some (smallL v)) :
  Calls Tryz.prog 84 #[.pointer (some ⟨b, 0, none⟩), .string ⟨v.toArray⟩] w (NormalRet w o) := by
 have hlt := h.lt
 have h0 := h
 obtain ⟨fA, fN, fC, nF, n1, n2, h1, h2, h3⟩ := h
 have hA := h0.any (v := v) hfl hw rfl h2
 rw [ha] at hA
 rw [hn] at h3
 obtain ⟨rfl, rfl, rfl⟩ : nF = .func 251 ∧ n1 = #[] ∧ n2 = #[] := by have h3' : Value.func nF n1 n2 = .func (.func 251) #[] #[] := h3; cases h3'; exact ⟨rfl, rfl, rfl⟩
 have hbw := (Below.refl w.heap.size w).alloc (Nat.le_refl _) (.cells #[.string ⟨v.toArray⟩] 9)
 have kV := Bk.new w 9 #[.string ⟨v.toArray⟩]
 have HC : Hid (∀ W, Below w.heap.size w W → Calls Tryz.prog 251 #[.string ⟨v.toArray⟩] W (NormRet W o)) := Lib.hid fun W hW => by rw [ho]; exact oid_c v W hv
 have hcell : (w.alloc (.cells #[.string ⟨v.toArray⟩] 9)).cell? ⟨b, 2, none⟩ = some (.slice fA fN fC) := (World.cell?_alloc_lt _ _ _ hlt).trans (by simp [World.cell?, h1])
 have hcell3 : (w.alloc (.cells #[.string ⟨v.toArray⟩] 9)).cell? ⟨b, 3, none⟩ = some (.func (.func 251) #[] #[]) := (World.cell?_alloc_lt _ _ _ hlt).trans (by simp [World.cell?, h1])
 have hsz : (w.alloc (.cells #[.string ⟨v.toArray⟩] 9)).heap.size = w.heap.size + 1 := by simp
 have HSZ := Lib.hid hsz
 have HC3 := Lib.hid hcell3
 have HKV := Lib.hid kV
 have hmf := mkFunc
 have HO := Lib.hid ho
 clear h0 h1 h2 h3 ha hn ho hsz hcell3 kV
 go_enter Tryz.func84, Tryz.ntmps84
 go_wp2_with (go_at_call 42; refine hA.mono ?_; rintro e w2 ⟨rfl, hb2⟩)
 have f1 : w2.cell? ⟨b, 3, none⟩ = some (.func (.func 251) #[] #[]) := (hb2.cell (p := ⟨b, 3, none⟩) (by have := HSZ.out; simp; omega)).trans HC3.out
 have f2 : w2.cell? ⟨w.heap.size, 0, none⟩ = some (.string ⟨v.toArray⟩) := (HKV.out.below hb2).cell 0
 have hB2 : Below w.heap.size w w2 := hbw.trans (hb2.mono (by have := HSZ.out; omega))
 have HB2 := Lib.hid hB2
 clear hA hcell hb2 hB2 hmf
 go_region_held3 (fun w' => w'.cell? ⟨b, 3, none⟩ = some (.func (.func 251) #[] #[]) ∧ w'.cell? ⟨w.heap.size, 0, none⟩ = some (.string ⟨v.toArray⟩)) (first | exact ⟨f1, f2⟩ | exact ⟨f1', f2'⟩) (first | (go_at_call 251; refine (HC.out _ (HB2.out.trans ((Below.refl _ _).drew.mono HB2.out.size))).mono ?_; rintro e w4 ⟨hb4, r, rfl, hr⟩; have Hr := Lib.hid hr; clear hr; have f1' : w4.cell? ⟨b, 3, none⟩ = some (.func (.func 251) #[] #[]) := (hb4.cell (p := ⟨b, 3, none⟩) (by have := HB2.out.size; simp; omega)).trans f1; have f2' : w4.cell? ⟨w.heap.size, 0, none⟩ = some (.string ⟨v.toArray⟩) := (hb4.cell (p := ⟨w.heap.size, 0, none⟩) (by simp; exact cell_lt f2)).trans f2))
 all_goals
  have hfin : Below w.heap.size w w4 := HB2.out.trans ((show Below w2.heap.size w2 w4 from ((Below.refl _ _).drew.trans hb4)).mono HB2.out.size)
  cases o with
  | none =>
   go_wp2_with fail
   go_ret2
   exact ⟨rfl, hfin⟩
  | some m =>
   obtain rfl := Hr.out m rfl
   go_wp2_with fail
   go_ret2
   exact ⟨rfl, hfin⟩
set_option maxRecDepth 100000 in
theorem normal_name (x : RowT) (b : Nat) (v : List UInt8) (w : World) (hw : Env w) (h : RowAt w b x) (hfl : x.2.2.1.length ≤ 2) (hv : v.length ≤ 1024) (ha : x.2.2.1.any (fun f => validL f v) = true) (hn : x.2.2.2 = NormFn.name) (o : Option (List UInt8)) (ho : o = nameN v) :
  Calls Tryz.prog 84 #[.pointer (some ⟨b, 0, none⟩), .string ⟨v.toArray⟩] w (NormalRet w o) := by
 have hlt := h.lt
 have h0 := h
 obtain ⟨fA, fN, fC, nF, n1, n2, h1, h2, h3⟩ := h
 have hA := h0.any (v := v) hfl hw rfl h2
 rw [ha] at hA
 rw [hn] at h3
 obtain ⟨rfl, rfl, rfl⟩ : nF = .func 250 ∧ n1 = #[] ∧ n2 = #[] := by have h3' : Value.func nF n1 n2 = .func (.func 250) #[] #[] := h3; cases h3'; exact ⟨rfl, rfl, rfl⟩
 have hbw := (Below.refl w.heap.size w).alloc (Nat.le_refl _) (.cells #[.string ⟨v.toArray⟩] 9)
 have kV := Bk.new w 9 #[.string ⟨v.toArray⟩]
 have HC : Hid (∀ W, Below w.heap.size w W → Calls Tryz.prog 250 #[.string ⟨v.toArray⟩] W (NormRet W o)) := Lib.hid fun W hW => by rw [ho]; exact name_c v W (hw.keep hW)
 have hcell : (w.alloc (.cells #[.string ⟨v.toArray⟩] 9)).cell? ⟨b, 2, none⟩ = some (.slice fA fN fC) := (World.cell?_alloc_lt _ _ _ hlt).trans (by simp [World.cell?, h1])
 have hcell3 : (w.alloc (.cells #[.string ⟨v.toArray⟩] 9)).cell? ⟨b, 3, none⟩ = some (.func (.func 250) #[] #[]) := (World.cell?_alloc_lt _ _ _ hlt).trans (by simp [World.cell?, h1])
 have hsz : (w.alloc (.cells #[.string ⟨v.toArray⟩] 9)).heap.size = w.heap.size + 1 := by simp
 have HSZ := Lib.hid hsz
 have HC3 := Lib.hid hcell3
 have HKV := Lib.hid kV
 have hmf := mkFunc
 have HO := Lib.hid ho
 clear h0 h1 h2 h3 ha hn ho hsz hcell3 kV
 go_enter Tryz.func84, Tryz.ntmps84
 go_wp2_with (go_at_call 42; refine hA.mono ?_; rintro e w2 ⟨rfl, hb2⟩)
 have f1 : w2.cell? ⟨b, 3, none⟩ = some (.func (.func 250) #[] #[]) := (hb2.cell (p := ⟨b, 3, none⟩) (by have := HSZ.out; simp; omega)).trans HC3.out
 have f2 : w2.cell? ⟨w.heap.size, 0, none⟩ = some (.string ⟨v.toArray⟩) := (HKV.out.below hb2).cell 0
 have hB2 : Below w.heap.size w w2 := hbw.trans (hb2.mono (by have := HSZ.out; omega))
 have HB2 := Lib.hid hB2
 clear hA hcell hb2 hB2 hmf
 go_region_held3 (fun w' => w'.cell? ⟨b, 3, none⟩ = some (.func (.func 250) #[] #[]) ∧ w'.cell? ⟨w.heap.size, 0, none⟩ = some (.string ⟨v.toArray⟩)) (first | exact ⟨f1, f2⟩ | exact ⟨f1', f2'⟩) (first | (go_at_call 250; refine (HC.out _ (HB2.out.trans ((Below.refl _ _).drew.mono HB2.out.size))).mono ?_; rintro e w4 ⟨hb4, r, rfl, hr⟩; have Hr := Lib.hid hr; clear hr; have f1' : w4.cell? ⟨b, 3, none⟩ = some (.func (.func 250) #[] #[]) := (hb4.cell (p := ⟨b, 3, none⟩) (by have := HB2.out.size; simp; omega)).trans f1; have f2' : w4.cell? ⟨w.heap.size, 0, none⟩ = some (.string ⟨v.toArray⟩) := (hb4.cell (p := ⟨w.heap.size, 0, none⟩) (by simp; exact cell_lt f2)).trans f2))
 all_goals
  have hfin : Below w.heap.size w w4 := HB2.out.trans ((show Below w2.heap.size w2 w4 from ((Below.refl _ _).drew.trans hb4)).mono HB2.out.size)
  cases o with
  | none =>
   go_wp2_with fail
   go_ret2
   exact ⟨rfl, hfin⟩
  | some m =>
   obtain rfl := Hr.out m rfl
   go_wp2_with fail
   go_ret2
   exact ⟨rfl, hfin⟩
set_option maxRecDepth 100000 in
theorem normal_text (x : RowT) (b : Nat) (v : List UInt8) (w : World) (hw : Env w) (h : RowAt w b x) (hfl : x.2.2.1.length ≤ 2) (hv : v.length ≤ 1024) (ha : x.2.2.1.any (fun f => validL f v) = true) (fold : Bool) (hn : x.2.2.2 = NormFn.text fold) (o : Option (List UInt8)) (ho : o = prepL v fold) :
  Calls Tryz.prog 84 #[.pointer (some ⟨b, 0, none⟩), .string ⟨v.toArray⟩] w (NormalRet w o) := by
 have hlt := h.lt
 have h0 := h
 obtain ⟨fA, fN, fC, nF, n1, n2, h1, h2, h3⟩ := h
 have hA := h0.any (v := v) hfl hw rfl h2
 rw [ha] at hA
 rw [hn] at h3
 obtain ⟨a, hfa, hca⟩ := h3
 obtain ⟨rfl, rfl, rfl⟩ : nF = .func 270 ∧ n1 = #[] ∧ n2 = #[.pointer (some ⟨a, 0, none⟩)] := by cases hfa; exact ⟨rfl, rfl, rfl⟩
 have HCA := Lib.hid hca
 clear hca hfa
 have h3 := trivial
 have hbw := (Below.refl w.heap.size w).alloc (Nat.le_refl _) (.cells #[.string ⟨v.toArray⟩] 9)
 have kV := Bk.new w 9 #[.string ⟨v.toArray⟩]
 have HC : Hid (∀ W, Below w.heap.size w W → Calls Tryz.prog 270 #[.string ⟨v.toArray⟩, .pointer (some ⟨a, 0, none⟩)] W (NormRet W o)) := Lib.hid fun W hW => by rw [ho]; exact text1_c v fold a W (hw.keep hW) ((hW.cell (p := ⟨a, 0, none⟩) (cell_lt HCA.out)).trans HCA.out) hv
 have hcell : (w.alloc (.cells #[.string ⟨v.toArray⟩] 9)).cell? ⟨b, 2, none⟩ = some (.slice fA fN fC) := (World.cell?_alloc_lt _ _ _ hlt).trans (by simp [World.cell?, h1])
 have hcell3 : (w.alloc (.cells #[.string ⟨v.toArray⟩] 9)).cell? ⟨b, 3, none⟩ = some (.func (.func 270) #[] #[.pointer (some ⟨a, 0, none⟩)]) := (World.cell?_alloc_lt _ _ _ hlt).trans (by simp [World.cell?, h1])
 have hsz : (w.alloc (.cells #[.string ⟨v.toArray⟩] 9)).heap.size = w.heap.size + 1 := by simp
 have HSZ := Lib.hid hsz
 have HC3 := Lib.hid hcell3
 have HKV := Lib.hid kV
 have hmf := mkFunc
 have HO := Lib.hid ho
 clear h0 h1 h2 h3 ha hn ho hsz hcell3 kV
 go_enter Tryz.func84, Tryz.ntmps84
 go_wp2_with (go_at_call 42; refine hA.mono ?_; rintro e w2 ⟨rfl, hb2⟩)
 have f1 : w2.cell? ⟨b, 3, none⟩ = some (.func (.func 270) #[] #[.pointer (some ⟨a, 0, none⟩)]) := (hb2.cell (p := ⟨b, 3, none⟩) (by have := HSZ.out; simp; omega)).trans HC3.out
 have f2 : w2.cell? ⟨w.heap.size, 0, none⟩ = some (.string ⟨v.toArray⟩) := (HKV.out.below hb2).cell 0
 have hB2 : Below w.heap.size w w2 := hbw.trans (hb2.mono (by have := HSZ.out; omega))
 have HB2 := Lib.hid hB2
 clear hA hcell hb2 hB2 hmf
 go_region_held3 (fun w' => w'.cell? ⟨b, 3, none⟩ = some (.func (.func 270) #[] #[.pointer (some ⟨a, 0, none⟩)]) ∧ w'.cell? ⟨w.heap.size, 0, none⟩ = some (.string ⟨v.toArray⟩)) (first | exact ⟨f1, f2⟩ | exact ⟨f1', f2'⟩) (first | (go_at_call 270; refine (HC.out _ (HB2.out.trans ((Below.refl _ _).drew.mono HB2.out.size))).mono ?_; rintro e w4 ⟨hb4, r, rfl, hr⟩; have Hr := Lib.hid hr; clear hr; have f1' : w4.cell? ⟨b, 3, none⟩ = some (.func (.func 270) #[] #[.pointer (some ⟨a, 0, none⟩)]) := (hb4.cell (p := ⟨b, 3, none⟩) (by have := HB2.out.size; simp; omega)).trans f1; have f2' : w4.cell? ⟨w.heap.size, 0, none⟩ = some (.string ⟨v.toArray⟩) := (hb4.cell (p := ⟨w.heap.size, 0, none⟩) (by simp; exact cell_lt f2)).trans f2))
 all_goals
  have hfin : Below w.heap.size w w4 := HB2.out.trans ((show Below w2.heap.size w2 w4 from ((Below.refl _ _).drew.trans hb4)).mono HB2.out.size)
  cases o with
  | none =>
   go_wp2_with fail
   go_ret2
   exact ⟨rfl, hfin⟩
  | some m =>
   obtain rfl := Hr.out m rfl
   go_wp2_with fail
   go_ret2
   exact ⟨rfl, hfin⟩
theorem normal_c (x : RowT) (b : Nat) (v : List UInt8) (w : World) (hw : Env w) (h : RowAt w b x) (hfl : x.2.2.1.length ≤ 2) :
  Calls Tryz.prog 84 #[.pointer (some ⟨b, 0, none⟩), .string ⟨v.toArray⟩] w (NormalRet w (normS x v)) := by
 unfold normS
 by_cases hv : v.length ≤ 1024
 ·cases ha : x.2.2.1.any (fun f => validL f v)
  ·simp only [Bool.and_false, Bool.false_eq_true, if_false]
   exact normal_none x b v w hw h hfl hv ha
  ·simp only [decide_eq_true hv, Bool.and_true, if_true]
   cases hn : x.2.2.2 with
   | self => exact normal_self x b v w hw h hfl hv ha hn _ rfl
   | text fold => exact normal_text x b v w hw h hfl hv ha fold hn _ rfl
   | name => exact normal_name x b v w hw h hfl hv ha hn _ rfl
   | oid => exact normal_oid x b v w hw h hfl hv ha hn _ rfl
 ·simp only [decide_eq_false hv, Bool.false_and, Bool.false_eq_true, if_false]
  exact normal_long x b v w h hv
end Go.Proofs.YtkkbbhlihilnpaaGreatDoor
