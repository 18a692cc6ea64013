import Derived.Test.YtconnibnpckadaaGreatDoorWvd0
set_option linter.all false
set_option maxHeartbeats 8000000
set_option maxRecDepth 100000
namespace Go.Proofs.YtconnibnpckadaaGreatDoor
open Go.RowKit
theorem SchB.at {B : Nat} {w : World} {s m : Nat} {ps : List Nat} {L : List DefS} (h : SchB B w s m ps L) : SchAt w s ps L := by
 obtain ⟨⟨lv, h1, h2⟩, ⟨es, c, h3, h4⟩, h5, h6, h7, _⟩ := h
 exact ⟨⟨lv, m, es, c, h1, h2.reads, h3, h4⟩, h5, h6, h7⟩
set_option maxRecDepth 100000 in
theorem unk_c (bs bc s : Nat) (ps : List Nat) (L : List DefS) (c : Bool) (x : List UInt8) (w : World) (hS : SchAt w s ps L) (h1 : w.cell? ⟨bs, 0, none⟩ = some (ptrV s)) (h2 : w.cell? ⟨bc, 0, none⟩ = some (.bool c)) (hx : x.length ≤ 1000000) :
  Calls Tryz.prog 41 #[.string ⟨x.toArray⟩, ptrV bs, ptrV bc] w fun e w' => e = .returned (.bool (findD L c x).isNone) ∧ Below w.heap.size w w' := by
 have HF := Lib.hid (find_c s ps L c x w hS hx)
 have h1' : w.cell? ⟨bs, 0, none⟩ = some (.pointer (some ⟨s, 0, none⟩)) := h1
 clear hS h1
 unfold ptrV at HF ⊢
 cases hf : findD L c x
 all_goals
  rw [hf] at HF
  unfold findV at HF
  simp only [ptrV] at HF
  go_enter Tryz.func41, Tryz.ntmps41
  go_wp2_with (go_at_call 42; refine HF.out.mono ?_; rintro e w1 ⟨rfl, hb⟩)
  go_ret
  exact ⟨rfl, hb⟩
set_option maxRecDepth 100000 in
theorem knownFn_c (bs : Nat) (c : Bool) (w : World) :
  Calls Tryz.prog 40 #[.bool c, .pointer (some ⟨bs, 0, none⟩)] w fun e w' => e = .returned (.func (.func 41) #[] #[.pointer (some ⟨bs, 0, none⟩), .pointer (some ⟨w.heap.size, 0, none⟩)]) ∧ w' = w.alloc (.cells #[.bool c] 4) := by
 have hmf : ∀ (fn : Fn) (first cap : Array Value) (w : World), (Instr.makeFunc fn first cap).run Tryz.prog w = .ok (.func fn first cap) w := fun _ _ _ _ => rfl
 go_enter Tryz.func40, Tryz.ntmps40
 go_wp2_with fail
 go_ret
 exact ⟨rfl, rfl⟩
def unkD (L : List DefS) (c : Bool) (xs : List (List UInt8)) : Bool := xs.any fun n => (findD L c n).isNone
theorem unks_c (bs bc s : Nat) (ps : List Nat) (L : List DefS) (c : Bool) (xs : List (List UInt8)) (v : Value) (w : World) (hv : Texts w v xs) (hS : SchAt w s ps L) (h1 : w.cell? ⟨bs, 0, none⟩ = some (ptrV s)) (h2 : w.cell? ⟨bc, 0, none⟩ = some (.bool c)) (hx : xs.length ≤ 1000000 ∧ ∀ x ∈ xs, x.length ≤ 1000000) :
  Calls Tryz.prog 43 #[v, .func (.func 41) #[] #[ptrV bs, ptrV bc]] w fun e w' => e = .returned (.bool (unkD L c xs)) ∧ Below w.heap.size w w' :=
 ContainsFuncS_c 41 #[ptrV bs, ptrV bc] xs v w hv hx.1 (fun n => (findD L c n).isNone)
  ⟨fun x hxx W hb => unk_c bs bc s ps L c x W (hS.below hb) ((hb.cell (p := ⟨bs, 0, none⟩) (cell_lt h1)).trans h1) ((hb.cell (p := ⟨bc, 0, none⟩) (cell_lt h2)).trans h2) (hx.2 x hxx), fun _ _ => by kernel_rfl⟩
theorem knownD_eq (L : List DefS) (d : DefS) : knownD L d = (!unkD L d.cls d.sup && !unkD L false d.must && !unkD L false d.may) := by
 unfold knownD unkD
 have h : ∀ (c : Bool) (xs : List (List UInt8)), xs.all (fun n => (findD L c n).isSome) = !(xs.any fun n => (findD L c n).isNone) := by
  intro c xs
  induction xs with
  | nil => rfl
  | cons x xs ih =>
   rw [List.all_cons, List.any_cons, ih]
   cases findD L c x <;> simp
 rw [h, h, h]
set_option maxRecDepth 100000 in
theorem known_c (s p : Nat) (ps : List Nat) (L : List DefS) (d : DefS) (w : World) (hS : SchAt w s ps L) (hd : DefAt w p d) (hl : DefLim d) :
  Calls Tryz.prog 21 #[ptrV s, ptrV p] w fun e w' => e = .returned (.bool (knownD L d)) ∧ Below w.heap.size w w' := by
 rw [knownD_eq]
 have hmf : ∀ (fn : Fn) (first cap : Array Value) (w : World), (Instr.makeFunc fn first cap).run Tryz.prog w = .ok (.func fn first cap) w := fun _ _ _ _ => rfl
 obtain ⟨vn, vs, vm, vy, hB, _, t3, t4, t5⟩ := id hd
 obtain ⟨A3, n3, c3, rfl⟩ := t3.isSlice
 obtain ⟨A4, n4, c4, rfl⟩ := t4.isSlice
 obtain ⟨A5, n5, c5, rfl⟩ := t5.isSlice
 have KEEP : ∀ W, Below (w.heap.size + 1) (w.alloc (.cells #[.pointer (some ⟨s, 0, none⟩)] 38)) W → W.cell? ⟨p, 0, none⟩ = some (.bool d.cls) ∧ W.cell? ⟨p, 3, none⟩ = some (.slice A3 n3 c3) ∧ W.cell? ⟨p, 4, none⟩ = some (.slice A4 n4 c4) ∧ W.cell? ⟨p, 5, none⟩ = some (.slice A5 n5 c5) ∧ Below (w.heap.size + 1) (w.alloc (.cells #[.pointer (some ⟨s, 0, none⟩)] 38)) W := by
  intro W hb
  have hB2 := (hB.alloc (.cells #[.pointer (some ⟨s, 0, none⟩)] 38)).below (hb.mono (by simp))
  exact ⟨hB2.cell 0, hB2.cell 3, hB2.cell 4, hB2.cell 5, hb⟩
 have hba : Below w.heap.size w (w.alloc (.cells #[.pointer (some ⟨s, 0, none⟩)] 38)) := (Below.refl _ _).alloc (Nat.le_refl _) _
 have UNK : ∀ (c : Bool) (xs : List (List UInt8)) (v : Value), Texts w v xs → (xs.length ≤ 1000000 ∧ ∀ x ∈ xs, x.length ≤ 1000000) → ∀ (W : World) (bc : Nat), Below (w.heap.size + 1) (w.alloc (.cells #[.pointer (some ⟨s, 0, none⟩)] 38)) W → W.cell? ⟨bc, 0, none⟩ = some (.bool c) →
   Calls Tryz.prog 43 #[v, .func (.func 41) #[] #[.pointer (some ⟨w.heap.size, 0, none⟩), .pointer (some ⟨bc, 0, none⟩)]] W fun e w' => e = .returned (.bool (unkD L c xs)) ∧ Below W.heap.size W w' := by
  intro c xs v hv hx W bc hb hc
  have hb' : Below w.heap.size w W := hba.trans (hb.mono (by simp))
  refine unks_c w.heap.size bc s ps L c xs v W (hv.below hb') (hS.below hb') ?_ hc hx
  have := (Bk.new w 38 #[.pointer (some ⟨s, 0, none⟩)]).below (hb.mono (by simp))
  exact this.cell 0
 have U1 := UNK d.cls d.sup _ t3 hl.sup
 have U2 := UNK false d.must _ t4 hl.must
 have U3 := UNK false d.may _ t5 hl.may
 generalize unkD L d.cls d.sup = a1 at U1 ⊢
 generalize unkD L false d.must = a2 at U2 ⊢
 generalize unkD L false d.may = a3 at U3 ⊢
 have HU1 := Lib.hid U1
 have HU2 := Lib.hid U2
 have HU3 := Lib.hid U3
 have HK := Lib.hid KEEP
 have hk0 := KEEP _ (Below.refl _ _)
 have hk1 := hk0.1
 have hk2 := hk0.2.1
 have hk3 := hk0.2.2.1
 have hk4 := hk0.2.2.2.1
 clear UNK U1 U2 U3 KEEP t3 t4 t5 hB hd hS hl hk0
 unfold ptrV
 cases a1
 ·cases a2
  ·cases a3
   all_goals
    go_enter Tryz.func21, Tryz.ntmps21
    go_wp2_with fail
    go_region_held3 (fun W => W.cell? ⟨p, 0, none⟩ = some (.bool d.cls) ∧ W.cell? ⟨p, 3, none⟩ = some (.slice A3 n3 c3) ∧ W.cell? ⟨p, 4, none⟩ = some (.slice A4 n4 c4) ∧ W.cell? ⟨p, 5, none⟩ = some (.slice A5 n5 c5) ∧ Below (w.heap.size + 1) (w.alloc (.cells #[.pointer (some ⟨s, 0, none⟩)] 38)) W) (first | exact HK.out _ (Below.refl _ _) | exact HK.out _ (Below.refl _ _).drew | exact HK.out _ ((Below.refl _ _).alloc (by simp) _) | exact HK.out _ (((Below.refl _ _).alloc (by simp) _).drew) | exact HK.out _ hB2 | exact HK.out _ (hB2.alloc hz2 _) | exact HK.out _ hB3 | exact HK.out _ (hB3.alloc hz3 _) | (exact HK.out _ hB4) | fail) (first
       | (go_at_call 40; (with_reducible refine (knownFn_c _ _ _).mono ?_); rintro e w' ⟨rfl, rfl⟩)
       | (go_at_call 43; (with_reducible refine (HU1.out _ _ (((Below.refl _ _).alloc (by simp) _).drew) (by simp)).mono ?_); rintro e w2 ⟨rfl, hb2⟩; have hB2 : Below (w.heap.size + 1) (w.alloc (.cells #[.pointer (some ⟨s, 0, none⟩)] 38)) w2 := ((Below.refl _ _).alloc (by simp) _).drew.trans (hb2.mono (by simp)); have hz2 : w.heap.size + 1 ≤ w2.heap.size := (by have := hB2.size; simpa using this))
       | (go_at_call 43; (with_reducible refine (HU2.out _ _ (hB2.alloc hz2 _) (by simp)).mono ?_); rintro e w3 ⟨rfl, hb3⟩; have hB3 : Below (w.heap.size + 1) (w.alloc (.cells #[.pointer (some ⟨s, 0, none⟩)] 38)) w3 := (hB2.alloc hz2 _).trans (hb3.mono (by simp; omega)); have hz3 : w.heap.size + 1 ≤ w3.heap.size := (by have := hB3.size; simpa using this))
       | (go_at_call 43; (with_reducible refine (HU3.out _ _ (hB3.alloc hz3 _) (by simp)).mono ?_); rintro e w4 ⟨rfl, hb4⟩; have hB4 : Below (w.heap.size + 1) (w.alloc (.cells #[.pointer (some ⟨s, 0, none⟩)] 38)) w4 := (hB3.alloc hz3 _).trans (hb4.mono (by simp; omega))))
    all_goals
     go_wp2_with fail
     go_ret
     exact ⟨rfl, hba.trans (hB4.mono (by simp))⟩
  ·clear HU3
   go_enter Tryz.func21, Tryz.ntmps21
   go_wp2_with fail
   refine wp_region_noPanic ?_
   refine wp_region_held_drew (S := (fun W => W.cell? ⟨p, 0, none⟩ = some (.bool d.cls) ∧ W.cell? ⟨p, 3, none⟩ = some (.slice A3 n3 c3) ∧ W.cell? ⟨p, 4, none⟩ = some (.slice A4 n4 c4) ∧ W.cell? ⟨p, 5, none⟩ = some (.slice A5 n5 c5) ∧ Below (w.heap.size + 1) (w.alloc (.cells #[.pointer (some ⟨s, 0, none⟩)] 38)) W)) (by kernel_rfl) ?_ (fun hHeld => ?_)
   ·exact HK.out _ (Below.refl _ _).drew
   refine wpAnyH_take (i := 0) (v := ?v0) rfl (by kernel_rfl) (by kernel_rfl) (by kernel_rfl) (fun _ _ _ h => h) (Or.inl ⟨by rfl, ?y0⟩) hHeld ?_
   case y0 => (intro w hSw; (try dsimp only at hSw); go_simp; first | done | (with_reducible rfl))
   simp only [gsx, Act.put]
   refine wpAnyH_take (i := 1) (v := ?v1) rfl (by kernel_rfl) (by kernel_rfl) (by kernel_rfl) (fun _ _ _ h => h) (Or.inl ⟨by rfl, ?y1⟩) hHeld ?_
   case y1 => (intro w hSw; (try dsimp only at hSw); go_simp; first | done | (with_reducible rfl))
   simp only [gsx, Act.put]
   refine wpAnyH_take (i := 2) (v := ?v2) rfl (by kernel_rfl) (by kernel_rfl) (by kernel_rfl) (fun _ _ _ h => h) (Or.inl ⟨by rfl, ?y2⟩) hHeld ?_
   case y2 => (intro w hSw; (try dsimp only at hSw); go_simp; first | done | (with_reducible rfl))
   simp only [gsx, Act.put]
   refine wpAnyH_take (i := 3) (v := ?v3) rfl (by kernel_rfl) (by kernel_rfl) (by kernel_rfl) (fun _ _ _ h => h) (Or.inl ⟨by rfl, ?y3⟩) hHeld ?_
   case y3 => (intro w hSw; (try dsimp only at hSw); go_simp; first | done | (with_reducible rfl))
   simp only [gsx, Act.put]
   refine wpAnyH_take (i := 4) (v := ?v4) rfl (by kernel_rfl) (by kernel_rfl) (by kernel_rfl) (fun _ _ _ h => h) (Or.inl ⟨by rfl, ?y4⟩) hHeld ?_
   case y4 => (intro w hSw; (try dsimp only at hSw); go_simp; first | done | (with_reducible rfl))
   simp only [gsx, Act.put]
   refine wpAnyH_take (i := 5) (v := ?v5) rfl (by kernel_rfl) (by kernel_rfl) (by kernel_rfl) (fun _ _ _ h => h) (Or.inl ⟨by rfl, ?y5⟩) hHeld ?_
   case y5 => (intro w hSw; (try dsimp only at hSw); go_simp; first | done | (with_reducible rfl))
   simp only [gsx, Act.put]
   refine wpAnyH_take (i := 6) (v := ?v6) rfl (by kernel_rfl) (by kernel_rfl) (by kernel_rfl) (fun _ _ _ h => h) (Or.inl ⟨by rfl, ?y6⟩) hHeld ?_
   case y6 => (intro w hSw; (try dsimp only at hSw); go_simp; first | done | (with_reducible rfl))
   simp only [gsx, Act.put]
   refine wpAnyH_take (i := 7) (v := ?v7) rfl (by kernel_rfl) (by kernel_rfl) (by kernel_rfl) (fun _ _ _ h => h) (Or.inl ⟨by rfl, ?y7⟩) hHeld ?_
   case y7 => (intro w hSw; (try dsimp only at hSw); go_simp; first | done | (with_reducible rfl))
   simp only [gsx, Act.put]
   refine wpAnyH_take (i := 8) (v := ?v8) rfl (by kernel_rfl) (by kernel_rfl) (by kernel_rfl) (fun _ _ _ h => h) (Or.inl ⟨by rfl, ?y8⟩) hHeld ?_
   case y8 => (intro w hSw; (try dsimp only at hSw); go_simp; first | done | (with_reducible rfl))
   simp only [gsx, Act.put]
   refine wpAnyH_ready (rs := [9]) (by kernel_rfl) (by simp) ?_
   refine AllReadyH.cons rfl (fun K hK => ?_) AllReadyH.nil
   go_simp
   (refine (knownFn_c _ _ _).mono ?_; rintro e w' ⟨rfl, rfl⟩)
   (try go_wp2_with fail)
   refine hK.out _ _ ?_ (fun hHeld => ?_)
   ·exact HK.out _ (((Below.refl _ _).alloc (by simp) _).drew)
   clear hK K
   try simp only [gsx, Act.put]
   refine wpAnyH_ready (rs := [10]) (by kernel_rfl) (by simp) ?_
   refine AllReadyH.cons rfl (fun K hK => ?_) AllReadyH.nil
   go_simp
   (refine (HU1.out _ _ (((Below.refl _ _).alloc (by simp) _).drew) (by simp)).mono ?_; rintro e w2 ⟨rfl, hb2⟩; have hB2 : Below (w.heap.size + 1) (w.alloc (.cells #[.pointer (some ⟨s, 0, none⟩)] 38)) w2 := ((Below.refl _ _).alloc (by simp) _).drew.trans (hb2.mono (by simp)); have hz2 : w.heap.size + 1 ≤ w2.heap.size := (by have := hB2.size; simpa using this))
   (try go_wp2_with fail)
   refine hK.out _ _ ?_ (fun hHeld => ?_)
   ·exact HK.out _ hB2
   clear hK K
   try simp only [gsx, Act.put]
   refine wpAnyH_take (i := 11) (v := ?v11) rfl (by kernel_rfl) (by kernel_rfl) (by kernel_rfl) (fun _ _ _ h => h) (Or.inl ⟨by rfl, ?y11⟩) hHeld ?_
   case y11 => (intro w hSw; (try dsimp only at hSw); go_simp; first | done | (with_reducible rfl))
   simp only [gsx, Act.put]
   refine wpAnyH_take (i := 12) (v := ?v12) rfl (by kernel_rfl) (by kernel_rfl) (by kernel_rfl) (fun _ _ _ h => h) (Or.inl ⟨by rfl, ?y12⟩) hHeld ?_
   case y12 => (intro w hSw; (try dsimp only at hSw); go_simp; first | done | (with_reducible rfl))
   simp only [gsx, Act.put]
   refine wpAnyH_take (i := 13) (v := ?v13) rfl (by kernel_rfl) (by kernel_rfl) (by kernel_rfl) (fun _ _ _ h => h) (Or.inl ⟨by rfl, ?y13⟩) hHeld ?_
   case y13 => (intro w hSw; (try dsimp only at hSw); go_simp; first | done | (with_reducible rfl))
   simp only [gsx, Act.put]
   refine wpAnyH_take (i := 14) (v := ?v14) rfl (by kernel_rfl) (by kernel_rfl) (by kernel_rfl) (fun _ _ _ h => h) (Or.inl ⟨by rfl, ?y14⟩) hHeld ?_
   case y14 => (intro w hSw; (try dsimp only at hSw); go_simp; first | done | (with_reducible rfl))
   simp only [gsx, Act.put]
   refine wpAnyH_take (i := 15) (v := ?v15) rfl (by kernel_rfl) (by kernel_rfl) (by kernel_rfl) (fun _ _ _ h => h) (Or.inl ⟨by rfl, ?y15⟩) hHeld ?_
   case y15 => (intro w hSw; (try dsimp only at hSw); go_simp; first | done | (with_reducible rfl))
   simp only [gsx, Act.put]
   refine wpAnyH_take (i := 16) (v := ?v16) rfl (by kernel_rfl) (by kernel_rfl) (by kernel_rfl) (fun _ _ _ h => h) (Or.inl ⟨by rfl, ?y16⟩) hHeld ?_
   case y16 => (intro w hSw; (try dsimp only at hSw); go_simp; first | done | (with_reducible rfl))
   simp only [gsx, Act.put]
   refine wpAnyH_take (i := 17) (v := ?v17) rfl (by kernel_rfl) (by kernel_rfl) (by kernel_rfl) (fun _ _ _ h => h) (Or.inl ⟨by rfl, ?y17⟩) hHeld ?_
   case y17 => (intro w hSw; (try dsimp only at hSw); go_simp; first | done | (with_reducible rfl))
   simp only [gsx, Act.put]
   refine wpAnyH_ready (rs := [18]) (by kernel_rfl) (by simp) ?_
   refine AllReadyH.cons rfl (fun K hK => ?_) AllReadyH.nil
   go_simp
   (refine (knownFn_c _ _ _).mono ?_; rintro e w' ⟨rfl, rfl⟩)
   (try go_wp2_with fail)
   refine hK.out _ _ ?_ (fun hHeld => ?_)
   ·exact HK.out _ (hB2.alloc hz2 _)
   clear hK K
   try simp only [gsx, Act.put]
   refine wpAnyH_ready (rs := [19]) (by kernel_rfl) (by simp) ?_
   refine AllReadyH.cons rfl (fun K hK => ?_) AllReadyH.nil
   go_simp
   (refine (HU2.out _ _ (hB2.alloc hz2 _) (by simp)).mono ?_; rintro e w3 ⟨rfl, hb3⟩; have hB3 : Below (w.heap.size + 1) (w.alloc (.cells #[.pointer (some ⟨s, 0, none⟩)] 38)) w3 := (hB2.alloc hz2 _).trans (hb3.mono (by simp; omega)))
   (try go_wp2_with fail)
   refine hK.out _ _ ?_ (fun hHeld => ?_)
   ·exact HK.out _ hB3
   clear hK K
   try simp only [gsx, Act.put]
   refine wpAnyH_take (i := 20) (v := .bool false) rfl (by kernel_rfl) (by kernel_rfl) (by kernel_rfl) (fun _ _ _ h => h) (Or.inl ⟨by rfl, ?y20⟩) hHeld ?_
   case y20 => (intro w hSw; (try dsimp only at hSw); go_simp; first | done | (with_reducible rfl))
   simp only [gsx, Act.put]
   refine wpAnyH_take (i := 21) (v := ?v21) rfl (by kernel_rfl) (by kernel_rfl) (by kernel_rfl) (fun _ _ _ h => h) (Or.inl ⟨by rfl, ?y21⟩) hHeld ?_
   case y21 => (intro w hSw; (try dsimp only at hSw); go_simp; first | done | (with_reducible rfl))
   simp only [gsx, Act.put]
   refine wpAnyH_take (i := 22) (v := ?v22) rfl (by kernel_rfl) (by kernel_rfl) (by kernel_rfl) (fun _ _ _ h => h) (Or.inl ⟨by rfl, ?y22⟩) hHeld ?_
   case y22 => (intro w hSw; (try dsimp only at hSw); go_simp; first | done | (with_reducible rfl))
   simp only [gsx, Act.put]
   refine wpAnyH_take (i := 23) (v := undef) rfl (by kernel_rfl) (by kernel_rfl) (by kernel_rfl) (fun _ _ _ h => h) (Or.inr ⟨by rfl, rfl⟩) hHeld ?_
   simp only [gsx, Act.put]
   refine wpAnyH_take (i := 24) (v := undef) rfl (by kernel_rfl) (by kernel_rfl) (by kernel_rfl) (fun _ _ _ h => h) (Or.inr ⟨by rfl, rfl⟩) hHeld ?_
   simp only [gsx, Act.put]
   refine wpAnyH_take (i := 25) (v := undef) rfl (by kernel_rfl) (by kernel_rfl) (by kernel_rfl) (fun _ _ _ h => h) (Or.inr ⟨by rfl, rfl⟩) hHeld ?_
   simp only [gsx, Act.put]
   refine wpAnyH_take (i := 26) (v := undef) rfl (by kernel_rfl) (by kernel_rfl) (by kernel_rfl) (fun _ _ _ h => h) (Or.inr ⟨by rfl, rfl⟩) hHeld ?_
   simp only [gsx, Act.put]
   refine wpAnyH_take (i := 27) (v := undef) rfl (by kernel_rfl) (by kernel_rfl) (by kernel_rfl) (fun _ _ _ h => h) (Or.inr ⟨by rfl, rfl⟩) hHeld ?_
   simp only [gsx, Act.put]
   refine wpAnyH_take (i := 28) (v := undef) rfl (by kernel_rfl) (by kernel_rfl) (by kernel_rfl) (fun _ _ _ h => h) (Or.inr ⟨by rfl, rfl⟩) hHeld ?_
   simp only [gsx, Act.put]
   refine wpAnyH_take (i := 29) (v := undef) rfl (by kernel_rfl) (by kernel_rfl) (by kernel_rfl) (fun _ _ _ h => h) (Or.inr ⟨by rfl, rfl⟩) hHeld ?_
   simp only [gsx, Act.put]
   refine wpAnyH_take (i := 30) (v := undef) rfl (by kernel_rfl) (by kernel_rfl) (by kernel_rfl) (fun _ _ _ h => h) (Or.inr ⟨by rfl, rfl⟩) hHeld ?_
   simp only [gsx, Act.put]
   refine wpAnyH_take (i := 31) (v := ?v31) rfl (by kernel_rfl) (by kernel_rfl) (by kernel_rfl) (fun _ _ _ h => h) (Or.inl ⟨by rfl, ?y31⟩) hHeld ?_
   case y31 => (intro w hSw; (try dsimp only at hSw); go_simp; first | done | (with_reducible rfl))
   simp only [gsx, Act.put]
   refine wpAnyH_take (i := 32) (v := ?v32) rfl (by kernel_rfl) (by kernel_rfl) (by kernel_rfl) (fun _ _ _ h => h) (Or.inl ⟨by rfl, ?y32⟩) hHeld ?_
   case y32 => (intro w hSw; (try dsimp only at hSw); go_simp; first | done | (with_reducible rfl))
   simp only [gsx, Act.put]
   refine wpAnyH_done (by kernel_rfl) ?_ _
   refine NoPanic.normal ?_
   go_wp2_with fail
   go_ret
   exact ⟨rfl, hba.trans (hB3.mono (by simp))⟩
 ·clear HU2 HU3
  go_enter Tryz.func21, Tryz.ntmps21
  go_wp2_with fail
  refine wp_region_noPanic ?_
  refine wp_region_held_drew (S := (fun W => W.cell? ⟨p, 0, none⟩ = some (.bool d.cls) ∧ W.cell? ⟨p, 3, none⟩ = some (.slice A3 n3 c3) ∧ W.cell? ⟨p, 4, none⟩ = some (.slice A4 n4 c4) ∧ W.cell? ⟨p, 5, none⟩ = some (.slice A5 n5 c5) ∧ Below (w.heap.size + 1) (w.alloc (.cells #[.pointer (some ⟨s, 0, none⟩)] 38)) W)) (by kernel_rfl) ?_ (fun hHeld => ?_)
  ·exact HK.out _ (Below.refl _ _).drew
  refine wpAnyH_take (i := 0) (v := ?v0) rfl (by kernel_rfl) (by kernel_rfl) (by kernel_rfl) (fun _ _ _ h => h) (Or.inl ⟨by rfl, ?y0⟩) hHeld ?_
  case y0 => (intro w hSw; (try dsimp only at hSw); go_simp; first | done | (with_reducible rfl))
  simp only [gsx, Act.put]
  refine wpAnyH_take (i := 1) (v := ?v1) rfl (by kernel_rfl) (by kernel_rfl) (by kernel_rfl) (fun _ _ _ h => h) (Or.inl ⟨by rfl, ?y1⟩) hHeld ?_
  case y1 => (intro w hSw; (try dsimp only at hSw); go_simp; first | done | (with_reducible rfl))
  simp only [gsx, Act.put]
  refine wpAnyH_take (i := 2) (v := ?v2) rfl (by kernel_rfl) (by kernel_rfl) (by kernel_rfl) (fun _ _ _ h => h) (Or.inl ⟨by rfl, ?y2⟩) hHeld ?_
  case y2 => (intro w hSw; (try dsimp only at hSw); go_simp; first | done | (with_reducible rfl))
  simp only [gsx, Act.put]
  refine wpAnyH_take (i := 3) (v := ?v3) rfl (by kernel_rfl) (by kernel_rfl) (by kernel_rfl) (fun _ _ _ h => h) (Or.inl ⟨by rfl, ?y3⟩) hHeld ?_
  case y3 => (intro w hSw; (try dsimp only at hSw); go_simp; first | done | (with_reducible rfl))
  simp only [gsx, Act.put]
  refine wpAnyH_take (i := 4) (v := ?v4) rfl (by kernel_rfl) (by kernel_rfl) (by kernel_rfl) (fun _ _ _ h => h) (Or.inl ⟨by rfl, ?y4⟩) hHeld ?_
  case y4 => (intro w hSw; (try dsimp only at hSw); go_simp; first | done | (with_reducible rfl))
  simp only [gsx, Act.put]
  refine wpAnyH_take (i := 5) (v := ?v5) rfl (by kernel_rfl) (by kernel_rfl) (by kernel_rfl) (fun _ _ _ h => h) (Or.inl ⟨by rfl, ?y5⟩) hHeld ?_
  case y5 => (intro w hSw; (try dsimp only at hSw); go_simp; first | done | (with_reducible rfl))
  simp only [gsx, Act.put]
  refine wpAnyH_take (i := 6) (v := ?v6) rfl (by kernel_rfl) (by kernel_rfl) (by kernel_rfl) (fun _ _ _ h => h) (Or.inl ⟨by rfl, ?y6⟩) hHeld ?_
  case y6 => (intro w hSw; (try dsimp only at hSw); go_simp; first | done | (with_reducible rfl))
  simp only [gsx, Act.put]
  refine wpAnyH_take (i := 7) (v := ?v7) rfl (by kernel_rfl) (by kernel_rfl) (by kernel_rfl) (fun _ _ _ h => h) (Or.inl ⟨by rfl, ?y7⟩) hHeld ?_
  case y7 => (intro w hSw; (try dsimp only at hSw); go_simp; first | done | (with_reducible rfl))
  simp only [gsx, Act.put]
  refine wpAnyH_take (i := 8) (v := ?v8) rfl (by kernel_rfl) (by kernel_rfl) (by kernel_rfl) (fun _ _ _ h => h) (Or.inl ⟨by rfl, ?y8⟩) hHeld ?_
  case y8 => (intro w hSw; (try dsimp only at hSw); go_simp; first | done | (with_reducible rfl))
  simp only [gsx, Act.put]
  refine wpAnyH_ready (rs := [9]) (by kernel_rfl) (by simp) ?_
  refine AllReadyH.cons rfl (fun K hK => ?_) AllReadyH.nil
  go_simp
  (refine (knownFn_c _ _ _).mono ?_; rintro e w' ⟨rfl, rfl⟩)
  (try go_wp2_with fail)
  refine hK.out _ _ ?_ (fun hHeld => ?_)
  ·exact HK.out _ (((Below.refl _ _).alloc (by simp) _).drew)
  clear hK K
  try simp only [gsx, Act.put]
  refine wpAnyH_ready (rs := [10]) (by kernel_rfl) (by simp) ?_
  refine AllReadyH.cons rfl (fun K hK => ?_) AllReadyH.nil
  go_simp
  (refine (HU1.out _ _ (((Below.refl _ _).alloc (by simp) _).drew) (by simp)).mono ?_; rintro e w2 ⟨rfl, hb2⟩; have hB2 : Below (w.heap.size + 1) (w.alloc (.cells #[.pointer (some ⟨s, 0, none⟩)] 38)) w2 := ((Below.refl _ _).alloc (by simp) _).drew.trans (hb2.mono (by simp)); have hz2 : w.heap.size + 1 ≤ w2.heap.size := (by have := hB2.size; simpa using this))
  (try go_wp2_with fail)
  refine hK.out _ _ ?_ (fun hHeld => ?_)
  ·exact HK.out _ hB2
  clear hK K
  try simp only [gsx, Act.put]
  refine wpAnyH_take (i := 11) (v := .bool false) rfl (by kernel_rfl) (by kernel_rfl) (by kernel_rfl) (fun _ _ _ h => h) (Or.inl ⟨by rfl, ?y11⟩) hHeld ?_
  case y11 => (intro w hSw; (try dsimp only at hSw); go_simp; first | done | (with_reducible rfl))
  simp only [gsx, Act.put]
  refine wpAnyH_take (i := 12) (v := .bool false) rfl (by kernel_rfl) (by kernel_rfl) (by kernel_rfl) (fun _ _ _ h => h) (Or.inl ⟨by rfl, ?y12⟩) hHeld ?_
  case y12 => (intro w hSw; (try dsimp only at hSw); go_simp; first | done | (with_reducible rfl))
  simp only [gsx, Act.put]
  refine wpAnyH_take (i := 13) (v := undef) rfl (by kernel_rfl) (by kernel_rfl) (by kernel_rfl) (fun _ _ _ h => h) (Or.inr ⟨by rfl, rfl⟩) hHeld ?_
  simp only [gsx, Act.put]
  refine wpAnyH_take (i := 14) (v := undef) rfl (by kernel_rfl) (by kernel_rfl) (by kernel_rfl) (fun _ _ _ h => h) (Or.inr ⟨by rfl, rfl⟩) hHeld ?_
  simp only [gsx, Act.put]
  refine wpAnyH_take (i := 15) (v := undef) rfl (by kernel_rfl) (by kernel_rfl) (by kernel_rfl) (fun _ _ _ h => h) (Or.inr ⟨by rfl, rfl⟩) hHeld ?_
  simp only [gsx, Act.put]
  refine wpAnyH_take (i := 16) (v := undef) rfl (by kernel_rfl) (by kernel_rfl) (by kernel_rfl) (fun _ _ _ h => h) (Or.inr ⟨by rfl, rfl⟩) hHeld ?_
  simp only [gsx, Act.put]
  refine wpAnyH_take (i := 17) (v := undef) rfl (by kernel_rfl) (by kernel_rfl) (by kernel_rfl) (fun _ _ _ h => h) (Or.inr ⟨by rfl, rfl⟩) hHeld ?_
  simp only [gsx, Act.put]
  refine wpAnyH_take (i := 18) (v := undef) rfl (by kernel_rfl) (by kernel_rfl) (by kernel_rfl) (fun _ _ _ h => h) (Or.inr ⟨by rfl, rfl⟩) hHeld ?_
  simp only [gsx, Act.put]
  refine wpAnyH_take (i := 19) (v := undef) rfl (by kernel_rfl) (by kernel_rfl) (by kernel_rfl) (fun _ _ _ h => h) (Or.inr ⟨by rfl, rfl⟩) hHeld ?_
  simp only [gsx, Act.put]
  refine wpAnyH_take (i := 20) (v := undef) rfl (by kernel_rfl) (by kernel_rfl) (by kernel_rfl) (fun _ _ _ h => h) (Or.inr ⟨by rfl, rfl⟩) hHeld ?_
  simp only [gsx, Act.put]
  refine wpAnyH_take (i := 21) (v := .bool false) rfl (by kernel_rfl) (by kernel_rfl) (by kernel_rfl) (fun _ _ _ h => h) (Or.inl ⟨by rfl, ?y21⟩) hHeld ?_
  case y21 => (intro w hSw; (try dsimp only at hSw); go_simp; first | done | (with_reducible rfl))
  simp only [gsx, Act.put]
  refine wpAnyH_take (i := 22) (v := .bool false) rfl (by kernel_rfl) (by kernel_rfl) (by kernel_rfl) (fun _ _ _ h => h) (Or.inl ⟨by rfl, ?y22⟩) hHeld ?_
  case y22 => (intro w hSw; (try dsimp only at hSw); go_simp; first | done | (with_reducible rfl))
  simp only [gsx, Act.put]
  refine wpAnyH_take (i := 23) (v := undef) rfl (by kernel_rfl) (by kernel_rfl) (by kernel_rfl) (fun _ _ _ h => h) (Or.inr ⟨by rfl, rfl⟩) hHeld ?_
  simp only [gsx, Act.put]
  refine wpAnyH_take (i := 24) (v := undef) rfl (by kernel_rfl) (by kernel_rfl) (by kernel_rfl) (fun _ _ _ h => h) (Or.inr ⟨by rfl, rfl⟩) hHeld ?_
  simp only [gsx, Act.put]
  refine wpAnyH_take (i := 25) (v := undef) rfl (by kernel_rfl) (by kernel_rfl) (by kernel_rfl) (fun _ _ _ h => h) (Or.inr ⟨by rfl, rfl⟩) hHeld ?_
  simp only [gsx, Act.put]
  refine wpAnyH_take (i := 26) (v := undef) rfl (by kernel_rfl) (by kernel_rfl) (by kernel_rfl) (fun _ _ _ h => h) (Or.inr ⟨by rfl, rfl⟩) hHeld ?_
  simp only [gsx, Act.put]
  refine wpAnyH_take (i := 27) (v := undef) rfl (by kernel_rfl) (by kernel_rfl) (by kernel_rfl) (fun _ _ _ h => h) (Or.inr ⟨by rfl, rfl⟩) hHeld ?_
  simp only [gsx, Act.put]
  refine wpAnyH_take (i := 28) (v := undef) rfl (by kernel_rfl) (by kernel_rfl) (by kernel_rfl) (fun _ _ _ h => h) (Or.inr ⟨by rfl, rfl⟩) hHeld ?_
  simp only [gsx, Act.put]
  refine wpAnyH_take (i := 29) (v := undef) rfl (by kernel_rfl) (by kernel_rfl) (by kernel_rfl) (fun _ _ _ h => h) (Or.inr ⟨by rfl, rfl⟩) hHeld ?_
  simp only [gsx, Act.put]
  refine wpAnyH_take (i := 30) (v := undef) rfl (by kernel_rfl) (by kernel_rfl) (by kernel_rfl) (fun _ _ _ h => h) (Or.inr ⟨by rfl, rfl⟩) hHeld ?_
  simp only [gsx, Act.put]
  refine wpAnyH_take (i := 31) (v := .bool false) rfl (by kernel_rfl) (by kernel_rfl) (by kernel_rfl) (fun _ _ _ h => h) (Or.inl ⟨by rfl, ?y31⟩) hHeld ?_
  case y31 => (intro w hSw; (try dsimp only at hSw); go_simp; first | done | (with_reducible rfl))
  simp only [gsx, Act.put]
  refine wpAnyH_take (i := 32) (v := .bool false) rfl (by kernel_rfl) (by kernel_rfl) (by kernel_rfl) (fun _ _ _ h => h) (Or.inl ⟨by rfl, ?y32⟩) hHeld ?_
  case y32 => (intro w hSw; (try dsimp only at hSw); go_simp; first | done | (with_reducible rfl))
  simp only [gsx, Act.put]
  refine wpAnyH_done (by kernel_rfl) ?_ _
  refine NoPanic.normal ?_
  go_wp2_with fail
  go_ret
  exact ⟨rfl, hba.trans (hB2.mono (by simp))⟩
end Go.Proofs.YtconnibnpckadaaGreatDoor
