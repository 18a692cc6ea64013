import Derived.Test.YtconnibnpckadaaGreatDoorWva3
set_option linter.all false
set_option maxHeartbeats 8000000
set_option maxRecDepth 100000
namespace Go.Proofs.YtconnibnpckadaaGreatDoor
open Go.RowKit
theorem mkFunc (fn : Fn) (first cap : Array Value) (w : World) : (Instr.makeFunc fn first cap).run Tryz.prog w = .ok (.func fn first cap) w := rfl
set_option maxRecDepth 10000 in
theorem text_c (fold : Bool) (w : World) :
  Calls Tryz.prog 154 #[.bool fold] w fun e w' => e = .returned (.func (.func 180) #[] #[.pointer (some ⟨w.heap.size, 0, none⟩)]) ∧ w.alloc (.cells #[.bool fold] 4) = w' := by
 have hmf := mkFunc
 go_enter Tryz.func154, Tryz.ntmps154
 go_wp2
 go_ret
 exact ⟨rfl, rfl⟩
inductive NormFn where
 | self
 | text (fold : Bool)
 | name
 | oid
 deriving DecidableEq
def normIs (w : World) (v : Value) : NormFn → Prop
 | .self => v = .func (.func 153) #[] #[]
 | .text fold => ∃ a, v = .func (.func 180) #[] #[.pointer (some ⟨a, 0, none⟩)] ∧ w.cell? ⟨a, 0, none⟩ = some (.bool fold)
 | .name => v = .func (.func 155) #[] #[]
 | .oid => v = .func (.func 156) #[] #[]
theorem normIs.below {w w' : World} {v : Value} {n : NormFn} (h : normIs w v n) (hb : Below w.heap.size w w') : normIs w' v n := by
 cases n with
 | text fold =>
  obtain ⟨a, h1, h2⟩ := h
  exact ⟨a, h1, (hb.cell (p := ⟨a, 0, none⟩) (cell_lt h2)).trans h2⟩
 | _ => exact h
def bOctetString : List UInt8 := [111, 99, 116, 101, 116, 83, 116, 114, 105, 110, 103]
def bCaseExact : List UInt8 := [99, 97, 115, 101, 69, 120, 97, 99, 116]
def bCaseIgnore : List UInt8 := [99, 97, 115, 101, 73, 103, 110, 111, 114, 101]
def bInteger : List UInt8 := [105, 110, 116, 101, 103, 101, 114]
def bBoolean : List UInt8 := [98, 111, 111, 108, 101, 97, 110]
def bDistinguishedName : List UInt8 := [100, 105, 115, 116, 105, 110, 103, 117, 105, 115, 104, 101, 100, 78, 97, 109, 101]
def bObjectIdentifier : List UInt8 := [111, 98, 106, 101, 99, 116, 73, 100, 101, 110, 116, 105, 102, 105, 101, 114]
def bGeneralizedTime : List UInt8 := [103, 101, 110, 101, 114, 97, 108, 105, 122, 101, 100, 84, 105, 109, 101]
def fOctets : List UInt8 := [111, 99, 116, 101, 116, 115]
def fText : List UInt8 := [116, 101, 120, 116]
def fAscii : List UInt8 := [97, 115, 99, 105, 105]
def fInteger : List UInt8 := [105, 110, 116, 101, 103, 101, 114]
def fBoolean : List UInt8 := [98, 111, 111, 108, 101, 97, 110]
def fName : List UInt8 := [110, 97, 109, 101]
def fOid : List UInt8 := [111, 105, 100]
def fTime : List UInt8 := [116, 105, 109, 101]
def bases : List (List UInt8 × List (List UInt8) × NormFn × List (List UInt8)) := [
 (bOctetString, [fOctets], .self, [kOrdering]),
 (bCaseExact, [fText, fAscii], .text false, [kOrdering, kSubstrings]),
 (bCaseIgnore, [fText, fAscii], .text true, [kOrdering, kSubstrings]),
 (bInteger, [fInteger], .self, [kOrdering]),
 (bBoolean, [fBoolean], .self, []),
 (bDistinguishedName, [fName], .name, []),
 (bObjectIdentifier, [fOid], .oid, []),
 (bGeneralizedTime, [fTime], .self, [kOrdering])]
def tab : List (List UInt8 × Int × List (List UInt8) × NormFn) :=
 bases.flatMap fun b => (kMatch :: b.2.2.2).map fun k => (b.1 ++ k, kindOf k, b.2.1, b.2.2.1)
inductive Stand (w : World) : List (List UInt8 × Int × Value) → List (List UInt8 × Int × List (List UInt8) × NormFn) → Prop
 | nil : Stand w [] []
 | cons {R : List (List UInt8 × Int × Value)} {T : List (List UInt8 × Int × List (List UInt8) × NormFn)} {n : List UInt8} {k : Int} {f : List (List UInt8)} {nf : NormFn} {fo nv : Value} (hf : Texts w fo f) (hn : normIs w nv nf) (h : Stand w R T) :
   Stand w ((smallL n, k, .agg #[.string ⟨n.toArray⟩, .int .i64 k, fo, nv]) :: R) ((n, k, f, nf) :: T)
theorem Stand.append {w : World} {R R' : List (List UInt8 × Int × Value)} {T T' : List (List UInt8 × Int × List (List UInt8) × NormFn)} (h : Stand w R T) (h' : Stand w R' T') : Stand w (R ++ R') (T ++ T') := by
 induction h with
 | nil => exact h'
 | cons hf hn _ ih => exact .cons hf hn ih
theorem Stand.news {w : World} (base : List UInt8) {fo nv : Value} {f : List (List UInt8)} {nf : NormFn} (hf : Texts w fo f) (hn : normIs w nv nf) (ks : List (List UInt8)) : Stand w (ks.map (newRow base fo nv)) (ks.map fun k => (base ++ k, kindOf k, f, nf)) := by
 induction ks with
 | nil => exact .nil
 | cons k ks ih => exact .cons hf hn ih
theorem Stand.keep {w w' : World} {R : List (List UInt8 × Int × Value)} {T : List (List UInt8 × Int × List (List UInt8) × NormFn)} (h : Stand w R T) (hk : ∀ v f, Texts w v f → Texts w' v f) (hn : ∀ v f, normIs w v f → normIs w' v f) : Stand w' R T := by
 induction h with
 | nil => exact .nil
 | cons hf hn' _ ih => exact .cons (hk _ _ hf) (hn _ _ hn') ih
theorem cell_new1 (w : World) (v : Value) (t : TypeId) : (w.alloc (.cells #[v] t)).cell? ⟨w.heap.size, 0, none⟩ = some v := by simp
theorem Texts.new1 (w : World) (x : List UInt8) : Texts (w.alloc (.cells #[.string ⟨x.toArray⟩] 9)) (.slice (some ⟨w.heap.size, 0, none⟩) 1 1) [x] :=
 .inr ⟨w.heap.size, 1, rfl, Nat.le_refl _, by simp, fun j hj => by
  match j, hj with
  | 0, _ => simp⟩
theorem Texts.new2 (w : World) (x y : List UInt8) : Texts (w.alloc (.cells #[.string ⟨x.toArray⟩, .string ⟨y.toArray⟩] 9)) (.slice (some ⟨w.heap.size, 0, none⟩) 2 2) [x, y] :=
 .inr ⟨w.heap.size, 2, rfl, Nat.le_refl _, by simp, fun j hj => by
  match j, hj with
  | 0, _ => simp
  | 1, _ => simp⟩
theorem Texts.alloc {w : World} {v : Value} {xs : List (List UInt8)} (h : Texts w v xs) (o : Obj) : Texts (w.alloc o) v xs := h.below ((Below.refl _ _).alloc (Nat.le_refl _) o)
theorem Texts.new1' (w : World) (o : Obj) (x : List UInt8) : Texts ((w.alloc o).alloc (.cells #[.string ⟨x.toArray⟩] 9)) (.slice (some ⟨w.heap.size + 1, 0, none⟩) 1 1) [x] := by
 have := Texts.new1 (w.alloc o) x
 rwa [World.size_alloc] at this
theorem Texts.new2' (w : World) (o : Obj) (x y : List UInt8) : Texts ((w.alloc o).alloc (.cells #[.string ⟨x.toArray⟩, .string ⟨y.toArray⟩] 9)) (.slice (some ⟨w.heap.size + 1, 0, none⟩) 2 2) [x, y] := by
 have := Texts.new2 (w.alloc o) x y
 rwa [World.size_alloc] at this
theorem Texts.none (w : World) : Texts w (.slice none 0 0) [] := .inl ⟨rfl, rfl⟩
structure RS (w : World) (tv : Value) (p r : Nat) (W : World) (T : List (List UInt8 × Int × List (List UInt8) × NormFn)) : Prop where
 below : Below w.heap.size w W
 hp : w.heap.size ≤ p
 hr : w.heap.size ≤ r
 cell : W.cell? ⟨p, 0, Option.none⟩ = some (.map (some r))
 tt : Texts W tv [fText, fAscii]
 map : ∃ es c R, W.heap[r]? = some (.map es c) ∧ RulesAre es R ∧ Stand W R T
theorem RS.grow {w : World} {tv : Value} {p r : Nat} {W W' : World} {T : List (List UInt8 × Int × List (List UInt8) × NormFn)} (h : RS w tv p r W T) (hb : Below W.heap.size W W') : RS w tv p r W' T := by
 obtain ⟨h1, h2, h3, h4, htt, es, c, R, h5, h6, h7⟩ := h
 have hrl : r < W.heap.size := (Array.getElem?_eq_some_iff.1 h5).1
 exact ⟨h1.trans (hb.mono h1.size), h2, h3, (hb.cell (p := ⟨p, 0, Option.none⟩) (cell_lt h4)).trans h4, htt.below hb, es, c, R, (hb.block r hrl).trans h5, h6, h7.keep (fun _ _ h => h.below hb) (fun _ _ h => h.below hb)⟩
theorem RS.alloc {w : World} {tv : Value} {p r : Nat} {W : World} {T : List (List UInt8 × Int × List (List UInt8) × NormFn)} (h : RS w tv p r W T) (o : Obj) : RS w tv p r (W.alloc o) T := h.grow ((Below.refl _ _).alloc (Nat.le_refl _) o)
def findT (n : List UInt8) (k : Int) : List (List UInt8 × Int × List (List UInt8) × NormFn) → Option (List UInt8 × Int × List (List UInt8) × NormFn)
 | [] => .none
 | x :: T => if n == smallL x.1 && k == x.2.1 then some x else findT n k T
theorem find_stand {w : World} {R : List (List UInt8 × Int × Value)} {T : List (List UInt8 × Int × List (List UInt8) × NormFn)} (h : Stand w R T) (n : List UInt8) (k : Int) :
  (findT n k T = .none ∧ findR n k R = .none) ∨ ∃ x fo nv, findT n k T = some x ∧ findR n k R = some (.agg #[.string ⟨x.1.toArray⟩, .int .i64 x.2.1, fo, nv]) ∧ Texts w fo x.2.2.1 ∧ normIs w nv x.2.2.2 := by
 induction h with
 | nil => exact .inl ⟨rfl, rfl⟩
 | @cons R T n' k' f nf fo nv hf hn _ ih =>
  simp only [findT, findR]
  by_cases hx : (n == smallL n' && k == k') = true
  ·rw [if_pos hx, if_pos hx]
   exact .inr ⟨_, fo, nv, rfl, rfl, hf, hn⟩
  ·rw [if_neg hx, if_neg hx]
   exact ih
def freshT (base : List UInt8) (ks : List (List UInt8)) (T : List (List UInt8 × Int × List (List UInt8) × NormFn)) : Bool :=
 (List.range (ks.length + 1)).all fun i => match ((kMatch :: ks)[i]?) with
  | .none => true
  | some k => (findT (smallL (base ++ k)) (kindOf k) (T ++ (((kMatch :: ks).take i).map fun k => (base ++ k, kindOf k, [], NormFn.self)))) |>.isNone
theorem stand_keys {w : World} {R : List (List UInt8 × Int × Value)} {T : List (List UInt8 × Int × List (List UInt8) × NormFn)} (h : Stand w R T) : R.map (fun x => (x.1, x.2.1)) = T.map (fun x => (smallL x.1, x.2.1)) := by
 induction h with
 | nil => rfl
 | cons _ _ _ ih => simp [ih]
theorem findT_R (T : List (List UInt8 × Int × List (List UInt8) × NormFn)) (R : List (List UInt8 × Int × Value)) (n : List UInt8) (k : Int) (h : R.map (fun x => (x.1, x.2.1)) = T.map (fun x => (smallL x.1, x.2.1))) : (findR n k R).isNone = (findT n k T).isNone := by
 induction R generalizing T with
 | nil => cases T with | nil => rfl | cons _ _ => simp at h
 | cons x R ih =>
  cases T with
  | nil => simp at h
  | cons y T =>
   simp only [List.map_cons, List.cons.injEq, Prod.mk.injEq] at h
   simp only [findR, findT, h.1.1, h.1.2]
   split
   ·rfl
   ·exact ih _ h.2
theorem put_step {w : World} {tv : Value} {p r : Nat} {W : World} {T : List (List UInt8 × Int × List (List UInt8) × NormFn)} (h : RS w tv p r W T) (base : List UInt8) {fA : Option Addr} {fN fC : Nat} {nF : Fn} {n1 n2 : Array Value} {kvv : Value} {f : List (List UInt8)} {nf : NormFn} {ks : List (List UInt8)}
  (hf : Texts W (.slice fA fN fC) f) (hn : normIs W (.func nF n1 n2) nf) (hks : Texts W kvv ks) (hkl : ks.length ≤ 2) (hbl : base.length ≤ 100) (hkk : ks.all (fun k => decide (k.length ≤ 100)) = true) (hfr : freshT base ks T = true) :
  Calls Tryz.prog 152 #[.string ⟨base.toArray⟩, .slice fA fN fC, .func nF n1 n2, kvv, .pointer (some ⟨p, 0, Option.none⟩)] W fun e W' => e = .returned (.tuple #[]) ∧
   RS w tv p r W' (T ++ (kMatch :: ks).map fun k => (base ++ k, kindOf k, f, nf)) := by
 obtain ⟨h1, h2, h3, h4, htt, es, c, R, h5, h6, h7⟩ := h
 have hrl : r < W.heap.size := (Array.getElem?_eq_some_iff.1 h5).1
 refine (put_c base fA fN fC nF n1 n2 _ _ kvv rfl rfl ks p r c es R W h4 h5 h6 hks hkl hbl (fun k hk => by simpa using List.all_eq_true.1 hkk k hk) ?_).mono ?_
 ·intro i x hx
  unfold newRows at hx ⊢
  rw [List.getElem?_map] at hx
  obtain ⟨k, hk, rfl⟩ := Option.map_eq_some_iff.1 hx
  have hi : i < ks.length + 1 := by simpa using (List.getElem?_eq_some_iff.1 hk).1
  unfold freshT at hfr
  have := List.all_eq_true.1 hfr i (List.mem_range.2 hi)
  rw [hk] at this
  dsimp only at this
  rw [← findT_R _ (R ++ ((kMatch :: ks).map (newRow base (.slice fA fN fC) (.func nF n1 n2))).take i)] at this
  ·simpa [newRow] using this
  ·rw [List.map_append, List.map_append, stand_keys h7, ← List.map_take, List.map_map, List.map_map]
   rfl
 ·rintro e W' ⟨rfl, es', c', g1, g2, g3⟩
  have hT : ∀ v xs, Texts W v xs → Texts W' v xs := by
   intro v xs hx
   rcases hx with hx | ⟨b, c, rfl, hc, hlt, hcell⟩
   ·exact .inl hx
   ·rcases xs with _ | ⟨x, xs⟩
    ·exact .inr ⟨b, c, rfl, hc, Nat.lt_of_lt_of_le hlt g3.size, fun j hj => absurd hj (by simp)⟩
    ·have hb : b ≠ r := by
      rintro rfl
      have := hcell 0 (by simp)
      simp [World.cell?, h5] at this
     exact .inr ⟨b, c, rfl, hc, Nat.lt_of_lt_of_le hlt g3.size, fun j hj => g3.cell (hcell j hj) (by simpa using hb)⟩
  have hN : ∀ v f, normIs W v f → normIs W' v f := by
   intro v f hx
   cases f with
   | text fold =>
    obtain ⟨a, e1, e2⟩ := hx
    have hb : a ≠ r := by rintro rfl; simp [World.cell?, h5] at e2
    exact ⟨a, e1, g3.cell e2 (by simpa using hb)⟩
   | _ => exact hx
  have hpr : p ≠ r := by rintro rfl; simp [World.cell?, h5] at h4
  refine ⟨rfl, ⟨?_, h2, h3, g3.cell h4 (by simpa using hpr), hT _ _ htt, es', c', _, g1, g2, ?_⟩⟩
  ·exact h1.grown g3 h1.size (fun k hk => by cases hk; exact h3)
  ·exact (h7.keep hT hN).append (Stand.news base (hT _ _ hf) (hN _ _ hn) (kMatch :: ks))
set_option maxRecDepth 10000 in
theorem rules_c (w : World) :
  Calls Tryz.prog 125 #[] w fun e w' => ∃ r es c R, e = .returned (.map (some r)) ∧ w'.heap[r]? = some (.map es c) ∧ RulesAre es R ∧ Stand w' R tab ∧ Below w.heap.size w w' := by
 have hmm := @run_makeMap Tryz.prog
 have hmf := mkFunc
 go_enter Tryz.func125, Tryz.ntmps125
 go_wp2_with fail
 obtain ⟨W0, hW0⟩ : ∃ W0 : World, ((w.alloc (.cells #[.string ⟨#[116, 101, 120, 116]⟩, .string ⟨#[97, 115, 99, 105, 105]⟩] 9)).alloc (.map #[] 0)).alloc (.cells #[.map (some (w.heap.size + 1))] 169) = W0 := ⟨_, rfl⟩
 rw [hW0]
 have hsz : w.heap.size + 1 + 1 + 1 = W0.heap.size := by rw [← hW0]; simp
 rw [hsz]
 have hRS : RS w (.slice (some ⟨w.heap.size, 0, Option.none⟩) 2 2) (w.heap.size + 1 + 1) (w.heap.size + 1) W0 [] := by
  rw [← hW0]
  refine ⟨(((Below.refl _ _).alloc (Nat.le_refl _) _).alloc (by simp) _).alloc (by simp; omega) _, by omega, by omega, ?_, ((Texts.new2 w fText fAscii).alloc _).alloc _, #[], 0, [], ?_, rfl, .nil⟩
  ·have := cell_new1 ((w.alloc (.cells #[.string ⟨#[116, 101, 120, 116]⟩, .string ⟨#[97, 115, 99, 105, 105]⟩] 9)).alloc (.map #[] 0)) (.map (some (w.heap.size + 1))) 169
   rwa [World.size_alloc, World.size_alloc] at this
  rw [Below.heap_alloc _ _ _ (by simp)]
  have := heap_alloc_new (w.alloc (.cells #[.string ⟨#[116, 101, 120, 116]⟩, .string ⟨#[97, 115, 99, 105, 105]⟩] 9)) (.map #[] 0)
  rwa [World.size_alloc] at this
 clear hsz
 clear hW0
 generalize w.heap.size + 1 + 1 = p at *
 generalize w.heap.size + 1 = r at *
 refine (put_step ((hRS.alloc _).alloc _) bOctetString (nf := .self) ((Texts.new1 W0 fOctets).alloc _) rfl (Texts.new1' W0 _ kOrdering) (by decide) (by decide) (by decide) (by decide +kernel)).mono ?_
 rintro e W1 ⟨rfl, h1⟩
 clear hRS
 go_wp2_with fail
 refine (text_c _ _).mono ?_
 rintro e w2 ⟨rfl, rfl⟩
 go_wp2_with fail
 refine (put_step ((h1.alloc _).alloc _) bCaseExact (nf := .text false) ((h1.tt.alloc _).alloc _) ⟨_, rfl, by simp⟩ (Texts.new2' W1 _ kOrdering kSubstrings) (by decide) (by decide) (by decide) (by decide +kernel)).mono ?_
 rintro e W2 ⟨rfl, h2⟩
 clear h1
 go_wp2_with fail
 refine (text_c _ _).mono ?_
 rintro e w2 ⟨rfl, rfl⟩
 go_wp2_with fail
 refine (put_step ((h2.alloc _).alloc _) bCaseIgnore (nf := .text true) ((h2.tt.alloc _).alloc _) ⟨_, rfl, by simp⟩ (Texts.new2' W2 _ kOrdering kSubstrings) (by decide) (by decide) (by decide) (by decide +kernel)).mono ?_
 rintro e W3 ⟨rfl, h3⟩
 clear h2
 go_wp2_with fail
 refine (put_step ((h3.alloc _).alloc _) bInteger (nf := .self) ((Texts.new1 W3 fInteger).alloc _) rfl (Texts.new1' W3 _ kOrdering) (by decide) (by decide) (by decide) (by decide +kernel)).mono ?_
 rintro e W4 ⟨rfl, h4⟩
 clear h3
 go_wp2_with fail
 refine (put_step (h4.alloc _) bBoolean (nf := .self) (Texts.new1 W4 fBoolean) rfl (Texts.none _) (by decide) (by decide) (by decide) (by decide +kernel)).mono ?_
 rintro e W5 ⟨rfl, h5⟩
 clear h4
 go_wp2_with fail
 refine (put_step (h5.alloc _) bDistinguishedName (nf := .name) (Texts.new1 W5 fName) rfl (Texts.none _) (by decide) (by decide) (by decide) (by decide +kernel)).mono ?_
 rintro e W6 ⟨rfl, h6⟩
 clear h5
 go_wp2_with fail
 refine (put_step (h6.alloc _) bObjectIdentifier (nf := .oid) (Texts.new1 W6 fOid) rfl (Texts.none _) (by decide) (by decide) (by decide) (by decide +kernel)).mono ?_
 rintro e W7 ⟨rfl, h7⟩
 clear h6
 go_wp2_with fail
 refine (put_step ((h7.alloc _).alloc _) bGeneralizedTime (nf := .self) ((Texts.new1 W7 fTime).alloc _) rfl (Texts.new1' W7 _ kOrdering) (by decide) (by decide) (by decide) (by decide +kernel)).mono ?_
 rintro e W8 ⟨rfl, h8⟩
 clear h7
 obtain ⟨g1, g2, g3, g4, g5, es, c, R, g6, g7, g8⟩ := h8
 have G6 := Lib.hid g6
 clear g6
 go_wp2_with fail
 go_ret
 exact ⟨r, es, c, R, rfl, G6.out, g7, g8, g1⟩
end Go.Proofs.YtconnibnpckadaaGreatDoor
