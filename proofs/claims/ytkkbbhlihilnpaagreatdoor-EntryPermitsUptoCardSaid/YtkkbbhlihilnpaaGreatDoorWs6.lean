import Derived.Test.YtkkbbhlihilnpaaGreatDoorWs1
set_option linter.all false
set_option maxHeartbeats 8000000
set_option maxRecDepth 100000
namespace Go.Proofs.YtkkbbhlihilnpaaGreatDoor
open Go.RowKit
theorem OwnAt.low {B B' : Nat} {w : World} {v : Value} {qs : List AttrQ} (h : OwnAt B w v qs) (hB : B' ≤ B) : OwnAt B' w v qs := by
 obtain ⟨⟨h1, h2⟩, h3⟩ := h
 refine ⟨⟨h1, ?_⟩, Nat.le_trans hB h3⟩
 rcases h2 with h2 | ⟨g, cap, cur, r1, r2, r⟩
 ·exact .inl h2
 ·exact .inr ⟨g, cap, cur, r1, Nat.le_trans hB r2, r⟩
theorem Copy_c (l : List Ent.AttrE) (vl : Value) (w : World) (hv : AttrsA w vl l) (hl : l.length ≤ 1000) (hlv : ∀ a ∈ l, a.vals.length ≤ 1000) :
  Calls Tryz.prog 95 #[vl] w fun r w' => Below w.heap.size w w' ∧ ∃ A c qs, r = .returned (.slice A l.length c) ∧ qs.map (·.1) = l ∧ OwnAt w.heap.size w' (.slice A l.length c) qs ∧ AQOwn w' qs := by
 obtain ⟨Al, cl, rfl, hcl, hcell⟩ := hv.at
 have HV := hiD hcell
 have HLV := hiD hlv
 have hadd := add_at2
 clear hv hcell hlv
 go_enter Tryz.func95, Tryz.ntmps95
 go_wp2_with fail
 go_loopg [3, 8] l.length (fun gk out i wr => ∃ (k : Nat) (qs : List AttrQ) (A : Option Addr) (c : Nat), k ≤ l.length ∧ i = .int .i64 k ∧ out = .slice A qs.length c ∧ Aside (k + gk = l.length) ∧ Aside (qs.map (·.1) = l.take k) ∧ Aside (Below w.heap.size w wr ∧ OwnAt w.heap.size wr (.slice A qs.length c) qs ∧ AQOwn wr qs))
 case atStart => exact ⟨0, [], none, 0, by omega, rfl, rfl, by show _ = _; omega, rfl, ⟨Below.refl _ _, OwnAt.nil (Nat.le_refl _), AQOwn.nil _⟩⟩
 case round =>
  obtain ⟨k, qs, A, c, hk, rfl, rfl, AG, AQ, AB⟩ := hrel
  by_cases hlt : k < l.length
  ·obtain ⟨q, rfl⟩ : ∃ q, gk = q + 1 := ⟨gk - 1, by have := AG.out; omega⟩
   obtain ⟨b, o, va, rfl, c0, c1, hta⟩ := HV.out k hlt
   obtain ⟨Av, nv, cv, rfl⟩ : ∃ A n c, va = .slice A n c := by
    obtain ⟨A, c, h, _⟩ := hta.at
    exact ⟨A, _, c, h⟩
   have d0 := (AB.out.1.cell (cell_lt c0)).trans c0
   have d1 := (AB.out.1.cell (cell_lt c1)).trans c1
   have hlv := HLV.out _ (List.getElem_mem hlt)
   have HT : Hid (l.take (k + 1) = l.take k ++ [l[k]]) := hiD (List.take_succ_eq_append_getElem hlt)
   have hql : qs.length < 1000000 := by have := congrArg List.length AQ.out; rw [List.length_map, List.length_take] at this; omega
   have hba := bel_one wr (.cells #[.string ⟨l[k].typ.toArray⟩, .slice Av nv cv] 46)
   have hka := Bk.new wr 46 #[.string ⟨l[k].typ.toArray⟩, .slice Av nv cv]
   clear c0 c1
   generalize l[k] = x at *
   obtain ⟨typ, vals⟩ := x
   simp only at d0 d1 hta hlv hba hka
   go_upto_region 5 with fail
   have hBa := AB.out.1.trans (hba.mono AB.out.1.size)
   have hOa := AB.out.2.1.below hba
   have hQa := AB.out.2.2.below hba
   have hTa := hta.below hBa
   generalize wr.alloc (.cells #[.string ⟨typ.toArray⟩, .slice Av nv cv] 46) = W1 at *
   have hd : Below W1.heap.size W1 W1.drew := (Below.refl _ _).drew
   have hBd := hBa.trans (hd.mono hBa.size)
   have HKA : Hid (∀ W, Below W1.heap.size W1 W → W.cell? ⟨wr.heap.size, 0, none⟩ = some (.string ⟨typ.toArray⟩) ∧ W.cell? ⟨wr.heap.size, 1, none⟩ = some (.slice Av nv cv)) := hiD fun W h => ⟨(hka.below h).cell 0, (hka.below h).cell 1⟩
   have hCl := CloneA_c vals _ W1.drew (hTa.below hd) (by omega)
   have hne : (some wr.heap.size : Option Nat) ≠ (Value.slice A qs.length c).ownBlock := fun e => by
    have := (AB.out.2.1.lt _ e.symm).2
    omega
   go_region_held3 (fun w' => w'.cell? ⟨wr.heap.size, 0, none⟩ = some (.string ⟨typ.toArray⟩) ∧ w'.cell? ⟨wr.heap.size, 1, none⟩ = some (.slice Av nv cv)) (first | exact HKA.out _ hd | exact HKA.out _ hb13 | exact HKA.out _ hb14 | exact ⟨y0, y1⟩ | fail) (first
    | (go_at_call 55; (with_reducible refine hCl.mono ?_); rintro r w3 ⟨v3, rfl, hO3, hb3⟩; obtain ⟨A3, c3, rfl, _⟩ := hO3.isSlice; have hb13 := hd.trans (hb3.mono hd.size); have hbb := bel_one w3 (.cells #[.string ⟨typ.toArray⟩, .slice A3 vals.length c3] 46); have hkb := Bk.new w3 46 #[.string ⟨typ.toArray⟩, .slice A3 vals.length c3]; have hb14 := hb13.trans (hbb.mono hb13.size); have hO4 := hOa.below hb14; have hQ4 := AQOwn.app (hQa.below hb14) (AQOwn.one (t := typ) ((hO3.lower (Nat.zero_le _)).below hbb)); have hB4 := hBa.trans (hb14.mono hBa.size); have x0 := hkb.cell 0; have x1 := hkb.cell 1; simp only [gs3] at x0 x1)
    | (refine step_attr_one (N := w3.heap.size) (t := typ) (vals := vals) (by rfl) _ _ (by rfl) rfl rfl hO4 rfl x0 x1 hql ?_; intro v5 w5 hO5 hg5; obtain ⟨A5, c5, rfl, _⟩ := hO5.isSlice; have hka5 := (hka.below hb14).grown hg5 hne; have y0 := hka5.cell 0; have y1 := hka5.cell 1; simp only [gs3] at y0 y1)
    | fail)
   all_goals
    go_wp2_with fail
    go_roundg q
    case measure => omega
    case rel => exact ⟨k + 1, qs ++ [(⟨typ, vals⟩, .slice A3 vals.length c3)], A5, c5, by omega, by go_num, by first | rfl | simp, by have := AG.out; show _ = _; omega, by show _ = _; rw [List.map_append, AQ.out, HT.out]; rfl, ⟨OwnAt.bel hB4 hO4 hg5, by simpa using hO5, AQOwn.grown hQ4 hO4 hg5⟩⟩
  ·obtain rfl : k = l.length := by omega
   have hq : qs.map (·.1) = l := by have := AQ.out; rw [List.take_length] at this; exact this
   have hn : qs.length = l.length := by rw [← hq, List.length_map]
   go_wp2_with fail
   go_ret
   have h2 := AB.out.2.1
   rw [hn] at h2
   exact ⟨AB.out.1, A, c, qs, by show Ending.returned (.slice A qs.length c) = _; rw [hn], hq, h2, AB.out.2.2⟩
theorem copied_out {w W : World} {r0 r1 : Value} {tmps : Array Value} {Q : Ending → World → Prop} (hz : Bk W (w.heap.size + 1) 37 #[r0, r1]) (h2 : tmps[2]? = some (.pointer (some ⟨w.heap.size + 1, 0, none⟩)))
  (h : Q (.returned (.agg #[r0, r1])) W) :
  bodyPost Tryz.prog Tryz.f52 Q .ret { tmps := tmps, defers := [] } W := by
 have e2 : tmps[2]?.getD undef = .pointer (some ⟨w.heap.size + 1, 0, none⟩) := by rw [h2]; rfl
 have c0 := hz.cell 0
 have c1 := hz.cell 1
 simp only [gs3] at c0 c1
 refine bodyPost_ret (v := .agg #[r0, r1]) ?_ rfl h
 simp [results, Tryz.results52, go_sem, e2, c0, c1]
theorem copied_c (dn : LU) (l : List Ent.AttrE) (vl : Value) (w : World) (hv : AttrsA w vl l) (hl : l.length ≤ 1000) (hlv : ∀ a ∈ l, a.vals.length ≤ 1000) :
  Calls Tryz.prog 52 #[.agg #[.string ⟨dn.toArray⟩, vl]] w fun r w' => Below w.heap.size w w' ∧ ∃ A c qs, r = .returned (.agg #[.string ⟨dn.toArray⟩, .slice A l.length c]) ∧ qs.map (·.1) = l ∧ OwnAt w.heap.size w' (.slice A l.length c) qs ∧ AQOwn w' qs := by
 have hb1 := bel_one w (.cells #[.string ⟨dn.toArray⟩, vl] 37)
 have hk1 := Bk.new w 37 #[.string ⟨dn.toArray⟩, vl]
 have hb2 := bel_one (w.alloc (.cells #[.string ⟨dn.toArray⟩, vl] 37)) (.cells #[.string ⟨#[]⟩, .slice none 0 0] 37)
 have hk2 := hk1.below hb2
 have hk3 := Bk.new (w.alloc (.cells #[.string ⟨dn.toArray⟩, vl] 37)) 37 #[.string ⟨#[]⟩, .slice none 0 0]
 rw [World.size_alloc] at hk3
 have hB2 := hb1.trans (hb2.mono hb1.size)
 have HC := hiD (Copy_c l vl _ (hv.below hB2) hl hlv)
 have x1 := hk2.cell 1
 obtain ⟨Al, cl, rfl, _⟩ := hv.isSlice
 simp only [gs3] at x1
 clear hv hl hlv
 go_enter Tryz.func52, Tryz.ntmps52
 go_wp2_with (go_at_call 95; (with_reducible refine HC.out.mono ?_); rintro r w3 ⟨hb3, A, c, qs, rfl, hq, hO, hQ⟩; have hB3 := hB2.trans (hb3.mono hB2.size); have hE3 := hk2.below hb3; have hR3 := hk3.below hb3; have e1 := hE3.cell 1; have e0 := hE3.cell 0; have r0 := hR3.cell 0; have r1 := hR3.cell 1; have oe := fun i => hE3.frozen i; have orr := fun i => hR3.frozen i; simp only [gs3] at e0 e1 r0 r1)
 have hs1 := setCell_grown w3 w.heap.size 1 (.slice A l.length c)
 have hR4 := hR3.grown hs1 (by intro e; have := Option.some.inj e; omega)
 have hz := bk_set2 _ _ (.string ⟨dn.toArray⟩) (.slice A l.length c) hR4
 have hs2 := grown_set2 (w3.setCell ⟨w.heap.size, 1, none⟩ (.slice A l.length c)) (w.heap.size + 1) (.string ⟨dn.toArray⟩) (.slice A l.length c)
 have hO4 := (OwnAt.low (B' := w.heap.size) hO (by rw [World.size_alloc, World.size_alloc]; omega)).keep2 hs1 (OwnAt.apart (OwnAt.low (B' := w.heap.size) hO (by rw [World.size_alloc, World.size_alloc]; omega)) hE3 (by decide))
 exact copied_out hz rfl ⟨below_set2 (hB3.setCell (Nat.le_refl _) _) (Nat.le_succ _) _ _, A, c, qs, rfl, hq, hO4.keep2 hs2 (hO4.apart hR4 (by decide)), (hQ.far hE3 (by decide) hs1).far hR4 (by decide) hs2⟩
end Go.Proofs.YtkkbbhlihilnpaaGreatDoor
namespace Go.Proofs.YtkkbbhlihilnpaaGreatDoor.Ent
section
variable {S : SchE} {P : BL → Prop}
def AllV (P : BL → Prop) (e : EntryE) : Prop := ∀ a ∈ e.attrs, ∀ v ∈ a.vals, P v
theorem AllV.values {e : EntryE} (h : AllV P e) (t : BL) : ∀ v ∈ valuesE e t, P v := by
 unfold valuesE
 intro v hv
 cases hf : e.attrs.find? (fun a => a.typ == t) with
 | none => rw [hf] at hv; cases hv
 | some a =>
  rw [hf] at hv
  exact h a (List.mem_of_find?_eq_some hf) v hv
theorem AllV.set {e : EntryE} (h : AllV P e) {t : BL} {us : List BL} (hu : ∀ v ∈ us, P v) : AllV P (setE e t us) := by
 unfold setE
 split
 ·split
  ·exact fun a ha => h a (List.mem_of_mem_eraseIdx ha)
  ·intro a ha
   rcases List.mem_or_eq_of_mem_set ha with ha | rfl
   ·exact h a ha
   ·exact hu
 ·split
  ·exact h
  ·intro a ha
   rcases List.mem_append.1 ha with ha | ha
   ·exact h a ha
   ·rw [List.mem_singleton.1 ha]; exact hu
theorem add_mem {perm : Bool} {had : List BL} {t : BL} : ∀ (vs l us : List BL), addF S perm had t vs l = .inr us → (∀ v ∈ l, P v) → (∀ v ∈ vs, P v) → ∀ v ∈ us, P v
 | [], l, us, h, hl, _ => by cases h; exact hl
 | v :: vs, l, us, h, hl, hv => by
  rw [addF] at h
  have hv' := fun x hx => hv x (List.mem_cons_of_mem _ hx)
  split at h
  ·exact add_mem vs _ us h (fun x hx => (List.mem_append.1 hx).elim (hl x) (fun hx => by rw [List.mem_singleton.1 hx]; exact hv v (List.mem_cons_self ..))) hv'
  ·split at h
   ·cases h
   ·exact add_mem vs _ us h hl hv'
theorem remove_mem {perm : Bool} : ∀ (ns l had us : List BL), removeF perm ns l had = .inr us → (∀ v ∈ l, P v) → ∀ v ∈ us, P v
 | [], l, had, us, h, hl => by cases h; exact hl
 | n :: ns, l, had, us, h, hl => by
  rw [removeF] at h
  split at h
  ·exact remove_mem ns _ _ us h (fun x hx => hl x (List.mem_of_mem_eraseIdx hx))
  ·split at h
   ·cases h
   ·exact remove_mem ns _ _ us h hl
theorem taken_mem {perm : Bool} {t : BL} : ∀ (vs seen out us : List BL), takenF S perm t vs seen out = .inr us → (∀ v ∈ out, P v) → (∀ v ∈ vs, P v) → ∀ v ∈ us, P v
 | [], _, out, us, h, hl, _ => by cases h; exact hl
 | v :: vs, seen, out, us, h, hl, hv => by
  rw [takenF] at h
  have hv' := fun x hx => hv x (List.mem_cons_of_mem _ hx)
  split at h
  ·exact taken_mem vs _ _ us h (fun x hx => (List.mem_append.1 hx).elim (hl x) (fun hx => by rw [List.mem_singleton.1 hx]; exact hv v (List.mem_cons_self ..))) hv'
  ·split at h
   ·cases h
   ·exact taken_mem vs _ _ us h hl hv'
theorem AllV.one {perm : Bool} {e e' : EntryE} {m : ModE} (h : AllV P e) (hm : ∀ v ∈ m.vals, P v) (ho : oneE S perm e m = .inr e') : AllV P e' := by
 unfold oneE at ho
 split at ho
 ·cases ho
 ·split at ho
  ·cases ho
  ·next d hd =>
   split at ho
   ·cases ho
   ·split at ho
    ·cases ho
    ·split at ho
     ·cases ho
     ·next vs hvs =>
      have hv : ∀ v ∈ vs, P v := by
       unfold takenE at hvs
       split at hvs
       ·exact taken_mem _ _ _ _ hvs (fun v hv => by cases hv) hm
       ·cases hvs
      split at ho
      ·cases ho
      ·next e2 he2 =>
       split at ho
       ·cases ho
       ·cases ho
        unfold doE at he2
        split at he2
        ·unfold addE at he2
         split at he2
         ·cases he2
         ·next l hl => cases he2; exact h.set (add_mem _ _ _ hl (h.values _) hv)
        ·split at he2
         ·unfold removeE at he2
          split at he2
          ·split at he2
           ·cases he2
           ·cases he2; exact h.set (fun v hv => by cases hv)
          ·split at he2
           ·cases he2
           ·next l hl => cases he2; exact h.set (remove_mem _ _ _ _ hl (h.values _))
         ·cases he2; exact h.set hv
theorem AllV.mods {perm : Bool} : ∀ (ms : List ModE) (e e' : EntryE), AllV P e → (∀ m ∈ ms, ∀ v ∈ m.vals, P v) → modsE S perm ms e = .inr e' → AllV P e'
 | [], e, e', h, _, ho => by cases ho; exact h
 | m :: ms, e, e', h, hm, ho => by
  rw [modsE] at ho
  split at ho
  ·cases ho
  ·next e2 h2 => exact AllV.mods ms e2 e' (h.one (hm m (List.mem_cons_self ..)) h2) (fun x hx => hm x (List.mem_cons_of_mem _ hx)) ho
theorem AllV.find {e : EntryE} (h : AllV P e) (t : BL) : ∀ x ∈ findE S e t, P x := by
 intro x hx
 unfold findE at hx
 obtain ⟨a, ha, hx⟩ := List.mem_flatMap.1 hx
 split at hx
 ·exact h a ha x hx
 ·cases hx
theorem makeF_vals : ∀ (l acc ats : List AttrE), (∀ a ∈ acc, ∀ v ∈ a.vals, P v) → (∀ a ∈ l, ∀ v ∈ a.vals, P v) → makeF S l acc = .inr ats → ∀ a ∈ ats, ∀ v ∈ a.vals, P v
 | [], acc, ats, h, _, ho => by cases ho; exact h
 | a :: l, acc, ats, h, hl, ho => by
  rw [makeF] at ho
  split at ho
  ·cases ho
  ·next b hb =>
   refine makeF_vals l _ ats (fun x hx => ?_) (fun x hx => hl x (List.mem_cons_of_mem _ hx)) ho
   rcases List.mem_append.1 hx with hx | hx
   ·exact h x hx
   ·rw [List.mem_singleton.1 hx]
    have : b.vals = a.vals := by
     unfold attrE at hb
     split at hb
     ·cases hb
     ·split at hb
      ·cases hb
      ·split at hb
       ·cases hb
       ·split at hb
        ·cases hb
        ·split at hb
         ·cases hb
         ·cases hb; rfl
    rw [this]
    exact hl a (List.mem_cons_self ..)
theorem make_vals {nm : BL} {l : List AttrE} (hl : ∀ a ∈ l, ∀ v ∈ a.vals, P v) : AllV P (makeE S nm l).2 := by
 unfold makeE
 split
 ·exact fun a ha => by cases ha
 ·split
  ·exact fun a ha => by cases ha
  ·split
   ·exact fun a ha => by cases ha
   ·next ats has =>
    split
    ·exact makeF_vals l [] ats (fun a ha => by cases ha) hl has
    ·exact fun a ha => by cases ha
end
end Go.Proofs.YtkkbbhlihilnpaaGreatDoor.Ent
