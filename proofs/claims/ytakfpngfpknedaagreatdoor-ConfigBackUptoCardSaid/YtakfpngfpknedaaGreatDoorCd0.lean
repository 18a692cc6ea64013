/- What stands under the later laws and the base lacks. -/
import Derived.Test.YtakfpngfpknedaaGreatDoorC13
set_option linter.all false
set_option maxHeartbeats 8000000
set_option maxRecDepth 100000
set_option linter.all false
set_option maxHeartbeats 8000000
set_option maxRecDepth 100000
namespace Go.Proofs
open Go.Shelf
def Tryz.laysM246_ren : Go.Shelf.Ren := ⟨fun | 246 => 89 | 283 => 152 | 284 => 153 | 285 => 154 | 286 => 155 | 129 => 217 | 317 => 216 | 318 => 218 | 319 => 219 | 320 => 220 | 337 => 259 | 338 => 260 | n => n, fun | 2 => 2 | 3 => 3 | 9 => 9 | 4 => 4 | 171 => 196 | 0 => 0 | 53 => 197 | 37 => 103 | 5 => 5 | 173 => 200 | 212 => 245 | 51 => 212 | 20 => 20 | 213 => 246 | 46 => 153 | 232 => 300 | 233 => 301 | n => n, fun | 17 => 1 | 18 => 6 | 19 => 7 | n => n⟩
def Tryz.laysM243_ren : Go.Shelf.Ren := ⟨fun | 243 => 61 | 246 => 89 | 283 => 152 | 284 => 153 | 285 => 154 | 286 => 155 | 129 => 217 | 317 => 216 | 318 => 218 | 319 => 219 | 320 => 220 | 337 => 259 | 338 => 260 | n => n, fun | 3 => 3 | 9 => 9 | 2 => 2 | 4 => 4 | 171 => 196 | 0 => 0 | 53 => 197 | 37 => 103 | 5 => 5 | 173 => 200 | 212 => 245 | 51 => 212 | 20 => 20 | 213 => 246 | 46 => 153 | 232 => 300 | 233 => 301 | n => n, fun | 17 => 1 | 18 => 6 | 19 => 7 | n => n⟩
def Tryz.laysM171_ren : Go.Shelf.Ren := ⟨fun | 171 => 33 | 243 => 61 | 246 => 89 | 283 => 152 | 284 => 153 | 285 => 154 | 286 => 155 | 129 => 217 | 317 => 216 | 318 => 218 | 319 => 219 | 320 => 220 | 337 => 259 | 338 => 260 | n => n, fun | 3 => 3 | 9 => 9 | 2 => 2 | 4 => 4 | 171 => 196 | 0 => 0 | 53 => 197 | 37 => 103 | 5 => 5 | 173 => 200 | 212 => 245 | 51 => 212 | 20 => 20 | 213 => 246 | 46 => 153 | 232 => 300 | 233 => 301 | n => n, fun | 17 => 1 | 18 => 6 | 19 => 7 | n => n⟩
theorem Tryz.laysM171 : Go.Proofs.LaysM.n171 Tryz.prog Tryz.laysM171_ren := {
  mixed := by kernel_rfl
  f129 := Tryz.func217.trans (congrArg some (by kernel_rfl))
  f171 := Tryz.func33.trans (congrArg some (by kernel_rfl))
  f243 := Tryz.func61.trans (congrArg some (by kernel_rfl))
  f246 := Tryz.func89.trans (congrArg some (by kernel_rfl))
  f283 := Tryz.func152.trans (congrArg some (by kernel_rfl))
  f284 := Tryz.func153.trans (congrArg some (by kernel_rfl))
  f285 := Tryz.func154.trans (congrArg some (by kernel_rfl))
  f286 := Tryz.func155.trans (congrArg some (by kernel_rfl))
  f317 := Tryz.func216.trans (congrArg some (by kernel_rfl))
  f318 := Tryz.func218.trans (congrArg some (by kernel_rfl))
  f319 := Tryz.func219.trans (congrArg some (by kernel_rfl))
  f320 := Tryz.func220.trans (congrArg some (by kernel_rfl))
  f337 := Tryz.func259.trans (congrArg some (by kernel_rfl))
  f338 := Tryz.func260.trans (congrArg some (by kernel_rfl))
  t0 := Tryz.underlying0
  a0 := Tryz.isAgg0
  z0 := Tryz.sizeOf0
  v0 := Tryz.zeroValue0
  t2 := Tryz.underlying2
  a2 := Tryz.isAgg2
  z2 := Tryz.sizeOf2
  v2 := Tryz.zeroValue2
  t3 := Tryz.underlying3
  a3 := Tryz.isAgg3
  z3 := Tryz.sizeOf3
  v3 := Tryz.zeroValue3
  t4 := Tryz.underlying4
  a4 := Tryz.isAgg4
  z4 := Tryz.sizeOf4
  v4 := Tryz.zeroValue4
  t5 := Tryz.underlying5
  a5 := Tryz.isAgg5
  z5 := Tryz.sizeOf5
  v5 := Tryz.zeroValue5
  t9 := Tryz.underlying9
  a9 := Tryz.isAgg9
  z9 := Tryz.sizeOf9
  v9 := Tryz.zeroValue9
  t20 := Tryz.underlying20
  a20 := Tryz.isAgg20
  z20 := Tryz.sizeOf20
  v20 := Tryz.zeroValue20
  t37 := Tryz.underlying103
  a37 := Tryz.isAgg103
  z37 := Tryz.sizeOf103
  v37 := Tryz.zeroValue103
  t46 := Tryz.underlying153
  a46 := Tryz.isAgg153
  z46 := Tryz.sizeOf153
  v46 := Tryz.zeroValue153
  t51 := Tryz.underlying212
  a51 := Tryz.isAgg212
  z51 := Tryz.sizeOf212
  v51 := Tryz.zeroValue212
  t53 := Tryz.underlying197
  a53 := Tryz.isAgg197
  z53 := Tryz.sizeOf197
  v53 := Tryz.zeroValue197
  t171 := Tryz.underlying196
  a171 := Tryz.isAgg196
  z171 := Tryz.sizeOf196
  v171 := Tryz.zeroValue196
  t173 := Tryz.underlying200
  a173 := Tryz.isAgg200
  z173 := Tryz.sizeOf200
  v173 := Tryz.zeroValue200
  t212 := Tryz.underlying245
  a212 := Tryz.isAgg245
  z212 := Tryz.sizeOf245
  v212 := Tryz.zeroValue245
  t213 := Tryz.underlying246
  a213 := Tryz.isAgg246
  z213 := Tryz.sizeOf246
  t232 := Tryz.underlying300
  a232 := Tryz.isAgg300
  z232 := Tryz.sizeOf300
  v232 := Tryz.zeroValue300
  t233 := Tryz.underlying301
  a233 := Tryz.isAgg301
  z233 := Tryz.sizeOf301
  v233 := Tryz.zeroValue301
  g17 := by kernel_rfl
  g18 := by kernel_rfl
  g19 := by kernel_rfl
  i0 := by kernel_rfl
  i2 := by kernel_rfl
  i3 := by kernel_rfl
  i4 := by kernel_rfl
  i5 := by kernel_rfl
  i9 := by kernel_rfl
  i20 := by kernel_rfl
  i37 := by kernel_rfl
  i46 := by kernel_rfl
  i51 := by kernel_rfl
  i53 := by kernel_rfl
  i171 := by kernel_rfl
  i173 := by kernel_rfl
  i212 := by kernel_rfl
  i232 := by kernel_rfl
  i233 := by kernel_rfl
  m17 := by kernel_rfl
  m18 := by kernel_rfl
  m19 := by kernel_rfl }
open Go.RowKit Go.Sort Go.Lib in
/-- strconv.Itoa: "Itoa is equivalent to FormatInt(int64(i), 10).": i's DECIMAL NUMERAL ('Lib.itoa': a '-' where i is negative, then the digits), FOR EVERY int. The world behind the call: the world before it, new blocks behind the heap (the library's 'var a [24]byte'), draws. (LAID: no walk: one application.) -/
theorem Tryz.strconv_Itoa (n : Int) (h0 : -9223372036854775808 ≤ n) (h1 : n ≤ 9223372036854775807) (w : World) (htab : Lib.TabIs Tryz.prog w "internal/strconv.uint64pow10" .u64 Lib.pow10Tab) :
    Calls Tryz.prog 33 #[.int .i64 n] w fun e w' => e = .returned (.string ⟨(Lib.itoa n).toArray⟩) ∧ ∃ k os, w' = grow (w.drewN k) os := Any.strconv_Itoa Tryz.laysM171 n h0 h1 w htab
end Go.Proofs
namespace Go.Proofs.YtakfpngfpknedaaGreatDoor.Cfg
open Go.RowKit
theorem valN_snoc (l : List UInt8) (x : UInt8) : valN (l ++ [x]) = valN l * 10 + (x.toNat - 48) := by
  unfold valN
  rw [List.foldl_append]
  rfl
theorem dig_nat (d : Nat) (hd : d < 10) : (UInt8.ofNat (48 + d)).toNat = 48 + d := by
  rw [UInt8.toNat_ofNat']
  omega
theorem dec_facts (u : Nat) : valN (Lib.decDigits u) = u ∧ (Lib.decDigits u).all digB = true ∧ Lib.decDigits u ≠ [] ∧ (10 ≤ u → (Lib.decDigits u).headD 0 ≠ 48) := by
  induction u using Nat.strongRecOn with
  | _ u ih =>
    rw [Lib.decDigits]
    by_cases h : u < 10
    · rw [dif_pos h]
      refine ⟨?_, ?_, by simp, by omega⟩
      · show 0 * 10 + ((UInt8.ofNat (48 + u)).toNat - 48) = u
        rw [dig_nat u h]; omega
      · simp only [List.all_cons, List.all_nil, Bool.and_true, digB, dig_nat u h, decide_eq_true_eq]
        omega
    · rw [dif_neg h]
      obtain ⟨h1, h2, h3, h4⟩ := ih (u / 10) (by omega)
      have hm : u % 10 < 10 := Nat.mod_lt _ (by decide)
      refine ⟨?_, ?_, by simp, fun _ => ?_⟩
      · rw [valN_snoc, h1, dig_nat _ hm]; omega
      · rw [List.all_append, h2]
        simp only [List.all_cons, List.all_nil, Bool.and_true, Bool.true_and, digB, dig_nat _ hm, decide_eq_true_eq]
        omega
      · by_cases h10 : 10 ≤ u / 10
        · have := h4 h10
          cases hd : Lib.decDigits (u / 10) with
          | nil => exact absurd hd h3
          | cons a t => rw [hd] at this; exact this
        · have hs : u / 10 < 10 := by omega
          rw [Lib.decDigits, dif_pos hs]
          show UInt8.ofNat (48 + u / 10) ≠ 48
          intro e
          have := congrArg UInt8.toNat e
          rw [dig_nat _ hs] at this
          have h48 : (48 : UInt8).toNat = 48 := rfl
          omega
theorem nDigits_le : ∀ (k u : Nat), u < 10 ^ (k + 1) → Lib.nDigits u ≤ k + 1
  | 0, u, h => by rw [Lib.nDigits_small (by simpa using h)]; exact Nat.le_refl _
  | k + 1, u, h => by
    by_cases h10 : u < 10
    · rw [Lib.nDigits_small h10]; omega
    · rw [Lib.nDigits_big h10]
      have := nDigits_le k (u / 10) (by rw [Nat.pow_succ] at h; omega)
      omega
theorem numS_itoa (n : Int) (h0 : 0 ≤ n) (h1 : n ≤ 2147483647) : numS (Lib.itoa n) = (n, true) := by
  obtain ⟨u, rfl⟩ : ∃ u : Nat, n = (u : Int) := ⟨n.toNat, by omega⟩
  have he : Lib.itoa (u : Int) = Lib.decDigits u := by unfold Lib.itoa; rw [if_neg (by omega)]; simp
  obtain ⟨hv, ha, hn, hh⟩ := dec_facts u
  have hl : (Lib.decDigits u).length ≤ 10 := by
    rw [Lib.decDigits_length]
    exact nDigits_le 9 u (by have : (10 : Nat) ^ (9 + 1) = 10000000000 := by decide
                             omega)
  rw [he]
  unfold numS
  rw [if_neg, hv]
  · rw [decide_eq_true (by omega)]
  · rintro (h | h | ⟨h, h2⟩ | h)
    · exact hn h
    · omega
    · have : 10 ≤ u := by
        apply Nat.le_of_not_lt
        intro hs
        rw [Lib.decDigits_length, Lib.nDigits_small hs] at h
        omega
      exact hh this h2
    · rw [ha] at h; cases h
theorem itoa_ne (n : Int) : Lib.itoa n ≠ [] := by
  unfold Lib.itoa
  split
  · simp
  · exact (dec_facts _).2.2.1
theorem go_raw (c : ConfE) (h : Good c) : ∃ i, goC (rawP c) 0 zeroC [] (-1) = goC [] i c [] (-1) := by
  have hw : ∀ w ∈ [wSuffix, wRoot, wSecret, wSize, wAttr, wClass, wAcl, wIndex, wMember, wAudit, wRef, wUnique], ∀ x ∈ w, x ≠ 32 := by decide
  obtain ⟨s1, r1, m1⟩ := Runs.line (hw wSuffix (by decide)) (k := .suffix) (by decide) c.suffix zeroC { zeroC with suffix := c.suffix } [] (fun e => by rw [e]; rfl) (fun _ => rfl) (fun _ => by simp)
  obtain ⟨s2, r2, m2⟩ := Runs.line (hw wRoot (by decide)) (k := .root) (by decide) c.root { zeroC with suffix := c.suffix } { zeroC with suffix := c.suffix, root := c.root } s1 (fun e => by rw [e]; rfl) (fun _ => rfl) (fun _ hx => by
    rcases m1 _ hx with e | e
    · exact absurd e (by decide)
    · simp at e)
  obtain ⟨s3, r3, m3⟩ := Runs.line (hw wSecret (by decide)) (k := .secret) (by decide) c.secret { zeroC with suffix := c.suffix, root := c.root } { zeroC with suffix := c.suffix, root := c.root, secret := c.secret } s2 (fun e => by rw [e]; rfl) (fun _ => rfl) (fun _ hx => by
    rcases m2 _ hx with e | e
    · exact absurd e (by decide)
    rcases m1 _ e with e | e
    · exact absurd e (by decide)
    · simp at e)
  have n3 : ∀ x ∈ s3, x = wSuffix ∨ x = wRoot ∨ x = wSecret := fun x hx => by
    rcases m3 _ hx with e | e
    · exact .inr (.inr e)
    rcases m2 _ e with e | e
    · exact .inr (.inl e)
    rcases m1 _ e with e | e
    · exact .inl e
    · simp at e
  obtain ⟨s4, r4, n4⟩ : ∃ s4, Runs (sizeL c.size) { zeroC with suffix := c.suffix, root := c.root, secret := c.secret } s3 { zeroC with suffix := c.suffix, root := c.root, secret := c.secret, size := c.size } s4 ∧ ∀ x ∈ s4, x = wSuffix ∨ x = wRoot ∨ x = wSecret ∨ x = wSize := by
    unfold sizeL
    by_cases hz : c.size = 0
    · rw [if_pos hz, hz]
      exact ⟨s3, Runs.nil _ _, fun x hx => by rcases n3 x hx with e | e | e <;> simp [e]⟩
    · rw [if_neg hz]
      obtain ⟨s4, r4, m4⟩ := Runs.line (hw wSize (by decide)) (k := .size) (by decide) (Lib.itoa c.size) { zeroC with suffix := c.suffix, root := c.root, secret := c.secret } { zeroC with suffix := c.suffix, root := c.root, secret := c.secret, size := c.size } s3 (fun e => absurd e (itoa_ne _)) (fun _ => by simp only [takeK, numS_itoa c.size h.size.1 h.size.2]) (fun _ hx => by
        rcases n3 _ hx with e | e | e <;> exact absurd e (by decide))
      exact ⟨s4, r4, fun x hx => by rcases m4 x hx with e | e; · simp [e]
                                    rcases n3 x e with e | e | e <;> simp [e]⟩
  have fold_at : ∀ (l : List (List UInt8)) (d : ConfE), l.foldl (fun c a => { c with attrs := c.attrs ++ [a] }) d = { d with attrs := d.attrs ++ l } := by
    intro l; induction l with
    | nil => intro d; simp
    | cons a l ih => intro d; rw [List.foldl_cons, ih]; simp
  have fold_cl : ∀ (l : List (List UInt8)) (d : ConfE), l.foldl (fun c a => { c with classes := c.classes ++ [a] }) d = { d with classes := d.classes ++ l } := by
    intro l; induction l with
    | nil => intro d; simp
    | cons a l ih => intro d; rw [List.foldl_cons, ih]; simp
  have fold_ac : ∀ (l : List (List UInt8)) (d : ConfE), l.foldl (fun c a => { c with acls := c.acls ++ [a] }) d = { d with acls := d.acls ++ l } := by
    intro l; induction l with
    | nil => intro d; simp
    | cons a l ih => intro d; rw [List.foldl_cons, ih]; simp
  have fold_re : ∀ (l : List (List UInt8)) (d : ConfE), l.foldl (fun c a => { c with refs := c.refs ++ [a] }) d = { d with refs := d.refs ++ l } := by
    intro l; induction l with
    | nil => intro d; simp
    | cons a l ih => intro d; rw [List.foldl_cons, ih]; simp
  have fold_un : ∀ (l : List (List UInt8)) (d : ConfE), l.foldl (fun c a => { c with unique := c.unique ++ [a] }) d = { d with unique := d.unique ++ l } := by
    intro l; induction l with
    | nil => intro d; simp
    | cons a l ih => intro d; rw [List.foldl_cons, ih]; simp
  have fold_ix : ∀ (l : List IndexE) (d : ConfE), (∀ x ∈ l, indexS (textI x) = (x, true)) → (l.map textI).foldl (fun c a => { c with indexes := c.indexes ++ [(indexS a).1] }) d = { d with indexes := d.indexes ++ l } := by
    intro l; induction l with
    | nil => intro d _; simp
    | cons a l ih => intro d hd; rw [List.map_cons, List.foldl_cons, ih _ (fun x hx => hd x (List.mem_cons_of_mem _ hx)), hd a (List.mem_cons_self ..)]; simp
  obtain ⟨s5, r5, m5⟩ := Runs.lines (hw wAttr (by decide)) (k := .attr) (by decide) rfl (fun c a => { c with attrs := c.attrs ++ [a] }) c.attrs { zeroC with suffix := c.suffix, root := c.root, secret := c.secret, size := c.size } s4 (fun a ha => ⟨h.attrs a ha, fun _ => rfl⟩)
  rw [fold_at] at r5
  obtain ⟨s6, r6, m6⟩ := Runs.lines (hw wClass (by decide)) (k := .class) (by decide) rfl (fun c a => { c with classes := c.classes ++ [a] }) c.classes _ s5 (fun a ha => ⟨h.classes a ha, fun _ => rfl⟩)
  have r6 := r5.app r6
  rw [fold_cl] at r6
  obtain ⟨s7, r7, m7⟩ := Runs.lines (hw wAcl (by decide)) (k := .acl) (by decide) rfl (fun c a => { c with acls := c.acls ++ [a] }) c.acls _ s6 (fun a ha => ⟨h.acls a ha, fun _ => rfl⟩)
  have r7 := r6.app r7
  rw [fold_ac] at r7
  obtain ⟨s8, r8, m8⟩ := Runs.lines (hw wIndex (by decide)) (k := .index) (by decide) rfl (fun c a => { c with indexes := c.indexes ++ [(indexS a).1] }) (c.indexes.map textI) _ s7 (fun a ha => by
    obtain ⟨x, hx, rfl⟩ := List.mem_map.1 ha
    refine ⟨(h.indexes x hx).1, fun c => ?_⟩
    simp only [takeK, (h.indexes x hx).2])
  have r8 := r7.app r8
  rw [fold_ix _ _ (fun x hx => (h.indexes x hx).2)] at r8
  have n8 : ∀ x ∈ s8, x ∉ [wMember, wAudit] := fun x hx => by
    have h8 : x = wIndex ∨ x = wAcl ∨ x = wClass ∨ x = wAttr ∨ x = wSuffix ∨ x = wRoot ∨ x = wSecret ∨ x = wSize := by
      rcases m8 x hx with e | e
      · exact .inl e
      rcases m7 x e with e | e
      · exact .inr (.inl e)
      rcases m6 x e with e | e
      · exact .inr (.inr (.inl e))
      rcases m5 x e with e | e
      · exact .inr (.inr (.inr (.inl e)))
      · exact .inr (.inr (.inr (.inr (n4 x e))))
    rcases h8 with e | e | e | e | e | e | e | e <;> subst e <;> decide
  obtain ⟨s9, r9, m9⟩ : ∃ s9, Runs (onL wMember c.memberof) { zeroC with suffix := c.suffix, root := c.root, secret := c.secret, size := c.size, attrs := [] ++ c.attrs, classes := [] ++ c.classes, acls := [] ++ c.acls, indexes := [] ++ c.indexes } s8 { zeroC with suffix := c.suffix, root := c.root, secret := c.secret, size := c.size, attrs := [] ++ c.attrs, classes := [] ++ c.classes, acls := [] ++ c.acls, indexes := [] ++ c.indexes, memberof := c.memberof } s9 ∧ ∀ x ∈ s9, x = wMember ∨ x ∈ s8 := by
    unfold onL
    cases hm : c.memberof
    · exact ⟨s8, Runs.nil _ _, fun x hx => .inr hx⟩
    · exact Runs.line (hw wMember (by decide)) (k := .memberof) (by decide) onB _ _ s8 (fun e => absurd e (by decide)) (fun _ => rfl) (fun _ hx => n8 _ hx (by decide))
  have r9 := r8.app r9
  obtain ⟨s10, r10, m10⟩ : ∃ s10, Runs (onL wAudit c.audit) { zeroC with suffix := c.suffix, root := c.root, secret := c.secret, size := c.size, attrs := [] ++ c.attrs, classes := [] ++ c.classes, acls := [] ++ c.acls, indexes := [] ++ c.indexes, memberof := c.memberof } s9 { zeroC with suffix := c.suffix, root := c.root, secret := c.secret, size := c.size, attrs := [] ++ c.attrs, classes := [] ++ c.classes, acls := [] ++ c.acls, indexes := [] ++ c.indexes, memberof := c.memberof, audit := c.audit } s10 ∧ ∀ x ∈ s10, x = wAudit ∨ x ∈ s9 := by
    unfold onL
    cases hm : c.audit
    · exact ⟨s9, Runs.nil _ _, fun x hx => .inr hx⟩
    · exact Runs.line (hw wAudit (by decide)) (k := .audit) (by decide) onB _ _ s9 (fun e => absurd e (by decide)) (fun _ => rfl) (fun _ hx => by
        rcases m9 _ hx with e | e
        · exact absurd e (by decide)
        · exact n8 _ e (by decide))
  have r10 := r9.app r10
  obtain ⟨s11, r11, _⟩ := Runs.lines (hw wRef (by decide)) (k := .ref) (by decide) rfl (fun c a => { c with refs := c.refs ++ [a] }) c.refs _ s10 (fun a ha => ⟨(h.refs a ha).1, fun _ => by simp only [takeK, (h.refs a ha).2]⟩)
  have r11 := r10.app r11
  rw [fold_re] at r11
  obtain ⟨s12, r12, _⟩ := Runs.lines (hw wUnique (by decide)) (k := .unique) (by decide) rfl (fun c a => { c with unique := c.unique ++ [a] }) c.unique _ s11 (fun a ha => ⟨(h.unique a ha).1, fun _ => by simp only [takeK, (h.unique a ha).2]⟩)
  have r12 := ((r1.app r2).app (r3.app r4)).app (r11.app r12)
  rw [fold_un] at r12
  obtain ⟨i, hi⟩ := r12 [] 0
  refine ⟨i, ?_⟩
  have e1 : rawP c = (line wSuffix c.suffix ++ line wRoot c.root ++ (line wSecret c.secret ++ sizeL c.size) ++ (lines wAttr c.attrs ++ lines wClass c.classes ++ lines wAcl c.acls ++ lines wIndex (c.indexes.map textI) ++ onL wMember c.memberof ++ onL wAudit c.audit ++ lines wRef c.refs ++ lines wUnique c.unique)) ++ [] := by
    unfold rawP
    simp only [List.append_assoc, List.append_nil]
  rw [e1, hi]
  simp only [goC]
  rw [if_neg (by decide), if_neg (by decide)]
  obtain ⟨a1, a2, a3, a4, a5, a6, a7, a8, a9, a10, a11, a12⟩ := c
  rfl
/-- What settings have said is said again. -/
theorem parse_raw {l : List (List UInt8)} {d : ConfE} {at' : Int} (h : parseC l = (d, 0, at')) : parseC (rawP d) = (d, 0, 0) := by
  unfold parseC at h
  split at h
  · cases h
  · next hl =>
    obtain ⟨hg, hr⟩ := go_good l 0 zeroC [] (-1) d at' h good_zero (by decide)
    obtain ⟨i, hi⟩ := go_raw d hg
    unfold parseC
    rw [if_neg (by omega), hi]
    simp only [goC]
    rw [if_neg (by decide)]
theorem print_back {l : List (List UInt8)} {d : ConfE} {at' : Int} (h : parseC l = (d, 0, at')) : parseC (printC d) = (d, 0, 0) := by
  unfold printC
  rw [parse_raw h, if_pos ⟨rfl, rfl⟩, parse_raw h]
theorem print_says {c : ConfE} (h : printC c ≠ []) : (parseC (printC c)).2.1 = 0 ∧ (parseC (printC c)).1 = c := by
  unfold printC at h ⊢
  split at h
  · next hc => rw [if_pos hc]; exact hc
  · exact absurd rfl h
end Go.Proofs.YtakfpngfpknedaaGreatDoor.Cfg
