/- Contracts: a definition is read: its fields. -/
import Derived.Test.YtcjobpcbppcdnaaGreatDoorWx5
import Derived.LaidEqlPtr
import Derived.Lib.SliceRun
import Derived.Test.YtcjobpcbppcdnaaGreatDoorWx4
set_option linter.all false
namespace Go.Proofs.YtcjobpcbppcdnaaGreatDoor
open Go.RowKit

/-- The words that have been seen, as the map holds them. -/
def seenR (seen : List (List UInt8)) : List (List UInt8 × Value) := seen.reverse.map fun k => (k, .agg #[])
theorem seenR_cons (k : List UInt8) (seen : List (List UInt8)) : seenR (k :: seen) = seenR seen ++ [(k, .agg #[])] := by simp [seenR]
theorem seenR_some (seen : List (List UInt8)) (k : List UInt8) : (look (seenR seen) k).isSome = seen.contains k := by
  rw [look_mem]
  unfold seenR
  rw [List.map_map]
  have : (Prod.fst ∘ fun k : List UInt8 => (k, Value.agg #[])) = id := rfl
  rw [this, List.map_id, Bool.eq_iff_iff]
  simp
theorem seenR_val (seen : List (List UInt8)) (k : List UInt8) : (look (seenR seen) k).getD (.agg #[]) = .agg #[] := by
  unfold seenR
  generalize seen.reverse = l
  induction l with
  | nil => rfl
  | cons x l ih =>
    rw [List.map_cons, look]
    split
    · rfl
    · exact ih
theorem zeroUnit (w : World) : (zeroValue 93).run Tryz.prog w = .ok (.agg #[]) w := by kernel_rfl
theorem underSeen : Tryz.prog.underlying 92 = some (.map 9 93) := Tryz.underlying92
theorem seen_ask {w : World} {m c : Nat} {es : Array MapEntry} {seen : List (List UInt8)} (h : MapS w m es c (seenR seen)) (k : List UInt8) :
    (Instr.lookup 92 (.map (some m)) (.string ⟨k.toArray⟩) true).run Tryz.prog w = .ok (.tuple #[.agg #[], .bool (seen.contains k)]) w := by
  have := h.ask underSeen zeroUnit (k := k)
  rw [seenR_val, seenR_some] at this
  exact this
theorem seen_put {w : World} {m c : Nat} {es : Array MapEntry} {seen : List (List UInt8)} (h : MapS w m es c (seenR seen)) {k : List UInt8} (hn : seen.contains k = false) :
    ∃ W es', (Instr.mapUpdate 92 (.map (some m)) (.string ⟨k.toArray⟩) (.agg #[])).run Tryz.prog w = .ok () W ∧ MapS W m es' (c + 1) (seenR (k :: seen)) ∧ w.grownBy W (some m) := by
  have hl : look (seenR seen) k = none := by
    have := seenR_some seen k
    rw [hn] at this
    simpa using this
  have h2 := h.put k (.agg #[])
  rw [← seenR_cons] at h2
  exact ⟨_, _, h.update underSeen (.agg #[]) hl, h2, setMap_grown _ _ _ _⟩
/-- What holds ahead of the next field. -/
structure RJ (w : World) (r p m : Nat) (cls : Bool) (R : Option DefS) (gk : Nat) (wr : World) (d : DefS) (seen : List (List UInt8)) (l : List Wd) : Prop where
  fuel : l.length < gk
  rd : RdW wr r l
  df : DefAt wr p d
  dc : d.cls = cls
  mp : ∃ es c, MapS wr m es c (seenR seen)
  bel : Below w.heap.size w wr
  rest : readF gk d seen l = R
  short : Shorts l
  num : l.length ≤ 1000000
  new : w.heap.size ≤ r ∧ w.heap.size ≤ p ∧ w.heap.size ≤ m ∧ p ≠ r ∧ m ≠ r ∧ m ≠ p
theorem RJ.env {w : World} {r p m : Nat} {cls : Bool} {R : Option DefS} {gk : Nat} {wr : World} {d : DefS} {seen : List (List UInt8)} {l : List Wd} (h : RJ w r p m cls R gk wr d seen l) (hw : Env w) : Env wr := hw.keep h.bel
theorem MapS.mods {w w' : World} {S : List Nat} {m c : Nat} {es : Array MapEntry} {R : List (List UInt8 × Value)} (h : MapS w m es c R) (hm : Mods S w w') (hn : m ∉ S) : MapS w' m es c R := h.keep (hm.block m h.lt hn)
theorem MapS.below {w w' : World} {m c : Nat} {es : Array MapEntry} {R : List (List UInt8 × Value)} (h : MapS w m es c R) (hb : Below w.heap.size w w') : MapS w' m es c R := h.mods (Mods.of_below hb []) (by simp)
theorem NoWord.of_map {w : World} {m c : Nat} {es : Array MapEntry} (h : w.heap[m]? = some (.map es c)) : NoWord w [m] := by
  intro k hk cs z
  have : k = m := by simpa using hk
  subst this
  rw [h]
  intro e
  cases e
theorem NoText.of_map {w : World} {m c : Nat} {es : Array MapEntry} (h : w.heap[m]? = some (.map es c)) : NoText w [m] := by
  intro k hk s
  have : k = m := by simpa using hk
  subst this
  simp [World.cell?, h]
theorem readF_end {n : Nat} {d : DefS} {seen : List (List UInt8)} {l : List Wd} (h : rIs l [41] = true) : readF (n + 1) d seen l = if l.tail = [] then some d else none := by
  rw [readF, if_pos h]
theorem readF_none {n : Nat} {d : DefS} {seen : List (List UInt8)} {l : List Wd} (h : rIs l [41] = false) (hp : rPlain l = none) : readF (n + 1) d seen l = none := by
  rw [readF, if_neg (by rw [h]; simp), hp]
theorem readF_some {n : Nat} {d : DefS} {cls : Bool} {seen : List (List UInt8)} {l t : List Wd} {f : List UInt8} (hc : d.cls = cls) (h : rIs l [41] = false) (hp : rPlain l = some (f, t)) : readF (n + 1) d seen l =
        (if cls && decide (0 ≤ kindL f) then (if seen.contains wAKind then none else readF n { d with kind := kindL f } (wAKind :: seen) t)
        else if seen.contains f then none
        else match fieldL d f t with
          | none => none
          | some (d', t') => readF n d' (f :: seen) t') := by
  subst hc
  rw [readF, if_neg (by rw [h]; simp), hp]
  rfl
theorem mods_set3 {w w' : World} {r p m i : Nat} (h : Mods [r] w w') (v : Value) : Mods [r, p, m] w (w'.setCell ⟨p, i, none⟩ v) := (h.mono (by simp)).setCell (by simp) v
/-- A word is put among those that have been seen. -/
theorem seen_step {B r p m c : Nat} {wr w6 : World} {d' : DefS} {seen : List (List UInt8)} {k : List UInt8} {t : List Wd} {es : Array MapEntry} (hn : B ≤ r ∧ B ≤ p ∧ B ≤ m ∧ p ≠ r ∧ m ≠ r ∧ m ≠ p) (hm6 : Mods [r, p, m] wr w6) (hr6 : RdW w6 r t) (hd6 : DefAt w6 p d') (hms : MapS w6 m es c (seenR seen)) (hs : seen.contains k = false) :
    ∃ W es', (Instr.mapUpdate 92 (.map (some m)) (.string ⟨k.toArray⟩) (.agg #[])).run Tryz.prog (w6.alloc (.cells #[] 93)) = .ok () W ∧ MapS W m es' (c + 1) (seenR (k :: seen)) ∧ Mods [r, p, m] wr W ∧ RdW W r t ∧ DefAt W p d' := by
  have hb : Below w6.heap.size w6 (w6.alloc (.cells #[] 93)) := (Below.refl _ _).alloc (Nat.le_refl _) _
  have hma := hms.alloc (.cells #[] 93)
  obtain ⟨W, es', hu, hm, hg⟩ := seen_put hma hs
  have hmm : Mods [m] (w6.alloc (.cells #[] 93)) W := Mods.of_grown hg (by simp)
  refine ⟨W, es', hu, hm, (hm6.alloc _).trans (hmm.mono (by simp)), (hr6.below hb).mods hmm (by simp; omega) (NoWord.of_map hma.at_), (hd6.below hb).mods hmm (by simp; omega) (NoText.of_map hma.at_)⟩
theorem rPlain_len {l t : List Wd} {f : List UInt8} (h : rPlain l = some (f, t)) : l.length = t.length + 1 ∧ t <:+ l := by
  obtain ⟨q, rfl⟩ := rPlain_cons h
  exact ⟨rfl, List.suffix_cons _ _⟩
theorem kind_ne {f : List UInt8} (h : 0 ≤ kindL f) : ([97, 32, 107, 105, 110, 100] == f) = false := by
  rcases kind_cases f with rfl | rfl | rfl | ⟨_, _, _, h3⟩
  · decide
  · decide
  · decide
  · rw [h3] at h; exact absurd h (by decide)
/-- The next field's state, behind the words taken, and the map's turn. -/
theorem RJ.go {w wr w1 : World} {r p m : Nat} {cls : Bool} {R : Option DefS} {gk q : Nat} {d d' : DefS} {seen seen' : List (List UInt8)} {l l' : List Wd} (h : RJ w r p m cls R gk wr d seen l) (hq : l'.length < q) (hsu : l' <:+ l) (hcl : d'.cls = cls)
    (hm : Mods [r, p, m] wr w1) (hrd : RdW w1 r l') (hdf : DefAt w1 p d') (hmp : ∃ es c, MapS w1 m es c (seenR seen')) (hR : readF q d' seen' l' = R) : RJ w r p m cls R q w1 d' seen' l' := by
  have hn := h.new
  refine ⟨hq, hrd, hdf, hcl, hmp, Mods.bel h.bel hm (by intro x hx; simp at hx; omega), hR, h.short.suffix hsu, Nat.le_trans hsu.sublist.length_le h.num, hn⟩
set_option maxRecDepth 100000 in
set_option maxHeartbeats 8000000 in
theorem read_go (s : List UInt8) (cls : Bool) (l t : List Wd) (oid : List UInt8) (w : World) (hw : Env w) (hs : s.length ≤ 1000000) (hn : wordsL s = some l) (h40 : rIs l [40] = true) (hp : rPlain l.tail = some (oid, t)) (hT0 : isTypeL oid = true) (hd0 : digit0 oid = true) :
    Calls Tryz.prog 23 #[.string ⟨s.toArray⟩, .bool cls] w (ReadRet w (readF (t.length + 1) (DefS.new cls oid) [] t)) := by
  obtain ⟨R, hR⟩ : ∃ R, readF (t.length + 1) (DefS.new cls oid) [] t = R := ⟨_, rfl⟩
  rw [hR]
  have HR := Lib.hid hR
  have hwb := wordsL_bound hn
  have hlt : l.tail = (oid, false) :: t ∨ ∃ q, l.tail = (oid, q) :: t := by
    obtain ⟨q, hq⟩ := rPlain_cons hp
    exact .inr ⟨q, hq⟩
  have hlq : ∃ q, l.tail = (oid, q) :: t := rPlain_cons hp
  have hol : oid.length ≤ 1000000 := by
    obtain ⟨q, hq⟩ := hlq
    have := hwb.1 (oid, q) (List.mem_of_mem_tail (by rw [hq]; simp))
    simp only at this
    omega
  have HSH : Hid (Shorts t ∧ t.length ≤ 1000000) := Lib.hid (by
    obtain ⟨q, hq⟩ := hlq
    refine ⟨fun x hx => ?_, ?_⟩
    · have := hwb.1 x (List.mem_of_mem_tail (by rw [hq]; exact List.mem_cons_of_mem _ hx))
      omega
    · have h1 : l.tail.length ≤ l.length := by simp
      rw [hq] at h1
      simp only [List.length_cons] at h1
      omega)
  have HW := Lib.hid (words_yes s l w hs hn)
  have H40 := Lib.hid h40
  have HP := Lib.hid hp
  have hget := ba_get
  have HT := Lib.hid hT0
  clear hn h40 hp hR hT0 hlt hlq hwb
  cases oid with
  | nil => exact absurd HT.out (by decide)
  | cons x xs =>
    have hx : 48 ≤ (x.toNat : Int) ∧ (x.toNat : Int) ≤ 57 := by
      unfold digit0 at hd0
      simp only [Bool.and_eq_true, decide_eq_true_eq, UInt8.le_iff_toNat_le] at hd0
      have e1 : (48 : UInt8).toNat = 48 := rfl
      have e2 : (57 : UInt8).toNat = 57 := rfl
      omega
    have hl0 : (0 : Int) < (xs.length : Int) + 1 := by omega
    obtain ⟨hx1, hx2⟩ := hx
    have hmm := @run_makeMap Tryz.prog
    clear hd0
    go_enter Tryz.func23, Tryz.ntmps23
    go_wp2_with (first | (go_at_call 48; refine HW.out.mono ?_; rintro e w1 ⟨⟨A, c, rfl, hx⟩, hb1⟩; have HX := Lib.hid (start_at hx cls); clear hx) | (go_at_call 49; (with_reducible refine (take_true _ l [40] _ HX.out.1 H40.out).mono ?_); rintro e w2 ⟨rfl, hr2, hg2⟩; have hb2 := Mods.bel (read_world _ _ _ _ hb1) (Mods.of_grown hg2 (List.mem_singleton_self _)) (by have := hb1.size; simpa using this)) | (go_at_call 50; (with_reducible refine (plain_some _ l.tail t (x :: xs) _ (hw.keep hb2) hr2 HP.out).mono ?_); rintro e w3 ⟨rfl, hr3, hm3⟩; have hb3 := Mods.bel hb2 hm3 (by have := hb1.size; simpa using this)) | (go_at_call 51; refine (IsType_c (x :: xs) _ (hw.keep hb3) (by omega)).mono ?_; rw [HT.out]; rintro e w4 ⟨rfl, hb4⟩; have hm4 : Mods [w1.heap.size] ((w1.alloc (.cells #[.slice A l.length c] 89)).alloc (newDef cls)) w4 := ((Mods.of_grown hg2 (List.mem_singleton_self _)).trans hm3).trans (Mods.of_below hb4 _); have hd4 : DefAt w4 (w1.heap.size + 1) (DefS.new cls []) := HX.out.2.1.modr HX.out.1 (by omega) hm4; obtain ⟨vn, vs, vm, vy, hB4⟩ := id hd4; have c4 : w4.cell? ⟨w1.heap.size + 1, 1, none⟩ = some (.string ⟨#[]⟩) := hB4.1.cell 1; have f4 := hB4.1.frozen 1))
    have hnew : w.heap.size ≤ w1.heap.size ∧ w1.heap.size + 1 + 1 ≤ w4.heap.size := by
      have h1 := hb1.size
      have h2 := hm4.size
      simp at h2
      omega
    have J0 : RJ w w1.heap.size (w1.heap.size + 1) w4.heap.size cls R (t.length + 1) ((w4.setCell ⟨w1.heap.size + 1, 1, none⟩ (.string ⟨(x :: xs).toArray⟩)).alloc (.map #[] 0)) (DefS.new cls (x :: xs)) [] t := by
      have hsz : (w4.setCell ⟨w1.heap.size + 1, 1, none⟩ (.string ⟨(x :: xs).toArray⟩)).heap.size = w4.heap.size := by simp [World.setCell]
      have hr5 := rd_set (i := 1) (hr3.below hb4) hd4 (by omega) (.string ⟨(x :: xs).toArray⟩)
      have hd5 := set_oid hd4 (x :: xs)
      have hb5 : Below w.heap.size w (w4.setCell ⟨w1.heap.size + 1, 1, none⟩ (.string ⟨(x :: xs).toArray⟩)) := (hb3.trans (hb4.mono hb3.size)).setCell (by simp; omega) _
      have hal : Below (w4.setCell ⟨w1.heap.size + 1, 1, none⟩ (.string ⟨(x :: xs).toArray⟩)).heap.size (w4.setCell ⟨w1.heap.size + 1, 1, none⟩ (.string ⟨(x :: xs).toArray⟩)) ((w4.setCell ⟨w1.heap.size + 1, 1, none⟩ (.string ⟨(x :: xs).toArray⟩)).alloc (.map #[] 0)) := (Below.refl _ _).alloc (Nat.le_refl _) _
      have hmd := MapS.made (w4.setCell ⟨w1.heap.size + 1, 1, none⟩ (.string ⟨(x :: xs).toArray⟩))
      rw [hsz] at hmd
      exact ⟨Nat.lt_succ_self _, hr5.below hal, hd5.below hal, rfl, ⟨_, _, hmd⟩, hb5.trans (hal.mono hb5.size), HR.out, HSH.out.1, HSH.out.2, by omega⟩
    have HJ0 := Lib.hid J0
    clear J0 hnew HR HSH HX HW H40 HP HT hB4 c4 f4 hd4 hm4 hb4 hb3 hm3 hr3 hb2 hg2 hr2 hb1 hmm
    generalize (w4.setCell ⟨w1.heap.size + 1, 1, none⟩ (.string ⟨(x :: xs).toArray⟩)).alloc (.map #[] 0) = W at HJ0 ⊢
    generalize w1.heap.size + 1 = p at HJ0 ⊢
    generalize w1.heap.size = r at HJ0 ⊢
    generalize w4.heap.size = m at HJ0 ⊢
    go_loopg [11] (t.length + 1) (fun gk _ wr => ∃ (d : DefS) (seen : List (List UInt8)) (l' : List Wd), Aside (RJ w r p m cls R gk wr d seen l'))
    case atStart => exact ⟨_, [], t, HJ0.out⟩
    case round =>
      clear HJ0
      obtain ⟨d, seen, l', AJ⟩ := hrel
      obtain ⟨q, rfl⟩ : ∃ q, gk = q + 1 := ⟨gk - 1, by have := AJ.out.fuel; omega⟩
      cases h41 : rIs l' [41]
      · have H41 := Lib.hid h41
        cases hp : rPlain l' with
        | none =>
          have hfin : R = none := by rw [← AJ.out.rest, readF_none h41 hp]
          have Hf := Lib.hid hfin
          have HP := Lib.hid hp
          clear hfin hp h41
          go_wp2_with (first | (go_at_call 49; (with_reducible refine (take_no r l' [41] _ AJ.out.rd H41.out).mono ?_); rintro e w5 ⟨rfl, rfl⟩) | (go_at_call 50; (with_reducible refine (plain_none r l' _ (AJ.out.env hw) AJ.out.rd HP.out).mono ?_); rintro e w6 ⟨rfl, rfl⟩))
          go_ret
          rw [Hf.out]
          exact ⟨AJ.out.bel, rfl⟩
        | some y =>
          obtain ⟨f, t'⟩ := y
          have hstep := readF_some (n := q) (d := d) (seen := seen) AJ.out.dc h41 hp
          rw [AJ.out.rest] at hstep
          obtain ⟨hlen, hsuf⟩ := rPlain_len hp
          have hfuel := AJ.out.fuel
          have HS := Lib.hid hstep
          have HP := Lib.hid hp
          have HSU := Lib.hid hsuf
          have HF6 := Lib.hid (show ∀ w6, Mods [r] wr w6 → DefAt w6 p d ∧ (∃ v, w6.cell? ⟨p, 13, none⟩ = some v) ∧ w6.frozen? ⟨p, 13, none⟩ = false ∧ ∃ es c, MapS w6 m es c (seenR seen) from fun w6 hm => by
            have hn := AJ.out.new
            have hd6 := AJ.out.df.modr AJ.out.rd hn.2.2.2.1 hm
            obtain ⟨vn, vs, vm, vy, hB⟩ := hd6.bk
            obtain ⟨es, c, hmp⟩ := AJ.out.mp
            exact ⟨hd6, ⟨_, (hB.cell 13).trans rfl⟩, hB.frozen 13, es, c, hmp.mods hm (by simpa using hn.2.2.2.2.1)⟩)
          clear hstep hp h41 hsuf
          have hnum := AJ.out.num
          have HN3 := Lib.hid (show ∀ x ∈ [r, p, m], w.heap.size ≤ x from by have := AJ.out.new; intro x hx; simp at hx; omega)
          have HRL : Hid (r < wr.heap.size) := Lib.hid (by obtain ⟨v, hb, _⟩ := AJ.out.rd; exact hb.lt)
          have HO := Lib.hid (off_new hw AJ.out.new.1)
          cases cls
          · rw [Bool.false_and] at HS
            simp only [Bool.false_eq_true, if_false] at HS
            cases hsn : seen.contains f
            · rw [hsn] at HS
              simp only [Bool.false_eq_true, if_false] at HS
              have HSN := Lib.hid hsn
              clear hsn
              cases hF : isField d.cls f
              · have hR0 : R = none := by rw [HS.out, fieldL_no hF]
                have Hf := Lib.hid hR0
                have HF := Lib.hid hF
                clear hF hR0 HS
                go_wp2_with (first | (go_at_call 49; (with_reducible refine (take_no r l' [41] _ AJ.out.rd H41.out).mono ?_); rintro e w5 ⟨rfl, rfl⟩) | (go_at_call 50; (with_reducible refine (plain_some r l' t' f _ (AJ.out.env hw) AJ.out.rd HP.out).mono ?_); rintro e w6 ⟨rfl, hr6, hm6⟩; obtain ⟨hd6, ⟨v13, c13⟩, f13, es6, cl6, hms6⟩ := HF6.out w6 hm6; have HM6 := Lib.hid hms6; have HD6 := Lib.hid hd6; clear hms6 hd6; have ha6 := seen_ask HM6.out f; rw [HSN.out] at ha6; obtain ⟨W8, es8, hu8, hms8, hm8, hr8, hd8⟩ := seen_step AJ.out.new (hm6.mono (S' := [r, p, m]) (by simp)) hr6 HD6.out HM6.out HSN.out; have HM8 := Lib.hid hms8; have HR8 := Lib.hid hr8; have HD8 := Lib.hid hd8; have HMM8 := Lib.hid hm8; have HB8 := Lib.hid (Mods.bel AJ.out.bel hm8 HN3.out); clear hms8 hr8 hd8 hm8) | (go_at_call 53; refine (fields_c r p d f _ (hw.keep HB8.out) HO.out (Nat.lt_of_lt_of_le HRL.out HMM8.out.size) AJ.out.new.2.2.2.1 HD8.out).mono ?_; rintro e w9 ⟨m2, v2, rfl, hb9, hlk9, hdo⟩; rw [HF.out] at hlk9; clear hdo))
                go_ret
                rw [Hf.out]
                exact ⟨HB8.out.trans (hb9.mono HB8.out.size), rfl⟩
              · have HF := Lib.hid hF
                clear hF
                cases hfl : fieldL d f t' with
                | none =>
                  have hR0 : R = none := by rw [HS.out, hfl]
                  have Hf := Lib.hid hR0
                  have HFL := Lib.hid hfl
                  clear hR0 HS hfl
                  go_wp2_with (first | (go_at_call 49; (with_reducible refine (take_no r l' [41] _ AJ.out.rd H41.out).mono ?_); rintro e w5 ⟨rfl, rfl⟩) | (go_at_call 50; (with_reducible refine (plain_some r l' t' f _ (AJ.out.env hw) AJ.out.rd HP.out).mono ?_); rintro e w6 ⟨rfl, hr6, hm6⟩; obtain ⟨hd6, ⟨v13, c13⟩, f13, es6, cl6, hms6⟩ := HF6.out w6 hm6; have HM6 := Lib.hid hms6; have HD6 := Lib.hid hd6; clear hms6 hd6; have ha6 := seen_ask HM6.out f; rw [HSN.out] at ha6; obtain ⟨W8, es8, hu8, hms8, hm8, hr8, hd8⟩ := seen_step AJ.out.new (hm6.mono (S' := [r, p, m]) (by simp)) hr6 HD6.out HM6.out HSN.out; have HM8 := Lib.hid hms8; have HR8 := Lib.hid hr8; have HD8 := Lib.hid hd8; have HMM8 := Lib.hid hm8; have HB8 := Lib.hid (Mods.bel AJ.out.bel hm8 HN3.out); clear hms8 hr8 hd8 hm8) | (go_at_call 53; refine (fields_c r p d f _ (hw.keep HB8.out) HO.out (Nat.lt_of_lt_of_le HRL.out HMM8.out.size) AJ.out.new.2.2.2.1 HD8.out).mono ?_; rintro e w9 ⟨m2, v2, rfl, hb9, hlk9, hdo⟩; rw [HF.out] at hlk9; obtain ⟨fid, cap, rfl, hent, hcall⟩ := hdo HF.out; have HC := Lib.hid (hcall t' (HR8.out.below hb9) (AJ.out.short.suffix HSU.out) (by omega)); rw [HFL.out] at HC; clear hdo hcall) | ((with_reducible refine HC.out.mono ?_); rintro e w10 ⟨hm10, hx10⟩; obtain rfl := hx10))
                  go_ret
                  rw [Hf.out]
                  exact ⟨Mods.bel (HB8.out.trans (hb9.mono HB8.out.size)) hm10 (by have := AJ.out.new; intro x hx; simp at hx; omega), rfl⟩
                | some z =>
                  obtain ⟨d', t''⟩ := z
                  have hR0 : R = readF q d' (f :: seen) t'' := by rw [HS.out, hfl]
                  have hfs := fieldL_suffix hfl
                  have Hf := Lib.hid hR0
                  have HFL := Lib.hid hfl
                  have HFS := Lib.hid hfs
                  clear hR0 HS hfl hfs
                  go_wp2_with (first | (go_at_call 49; (with_reducible refine (take_no r l' [41] _ AJ.out.rd H41.out).mono ?_); rintro e w5 ⟨rfl, rfl⟩) | (go_at_call 50; (with_reducible refine (plain_some r l' t' f _ (AJ.out.env hw) AJ.out.rd HP.out).mono ?_); rintro e w6 ⟨rfl, hr6, hm6⟩; obtain ⟨hd6, ⟨v13, c13⟩, f13, es6, cl6, hms6⟩ := HF6.out w6 hm6; have HM6 := Lib.hid hms6; have HD6 := Lib.hid hd6; clear hms6 hd6; have ha6 := seen_ask HM6.out f; rw [HSN.out] at ha6; obtain ⟨W8, es8, hu8, hms8, hm8, hr8, hd8⟩ := seen_step AJ.out.new (hm6.mono (S' := [r, p, m]) (by simp)) hr6 HD6.out HM6.out HSN.out; have HM8 := Lib.hid hms8; have HR8 := Lib.hid hr8; have HD8 := Lib.hid hd8; have HMM8 := Lib.hid hm8; have HB8 := Lib.hid (Mods.bel AJ.out.bel hm8 HN3.out); clear hms8 hr8 hd8 hm8) | (go_at_call 53; refine (fields_c r p d f _ (hw.keep HB8.out) HO.out (Nat.lt_of_lt_of_le HRL.out HMM8.out.size) AJ.out.new.2.2.2.1 HD8.out).mono ?_; rintro e w9 ⟨m2, v2, rfl, hb9, hlk9, hdo⟩; rw [HF.out] at hlk9; obtain ⟨fid, cap, rfl, hent, hcall⟩ := hdo HF.out; have HC := Lib.hid (hcall t' (HR8.out.below hb9) (AJ.out.short.suffix HSU.out) (by omega)); rw [HFL.out] at HC; clear hdo hcall) | ((with_reducible refine HC.out.mono ?_); rintro e w10 ⟨hm10, hx10⟩; obtain ⟨rfl, hr10, hd10⟩ := hx10))
                  go_roundg q
                  case measure => omega
                  case rel =>
                    refine ⟨d', f :: seen, t'', ?_⟩
                    have hl2 : t''.length ≤ t'.length := HFS.out.1.sublist.length_le
                    have hnn := AJ.out.new
                    exact AJ.out.go (by omega) (HFS.out.1.trans HSU.out) (HFS.out.2.trans AJ.out.dc) ((HMM8.out.trans (Mods.of_below hb9 _)).trans (hm10.mono (by simp))) hr10 hd10 ⟨_, _, (HM8.out.below hb9).mods hm10 (by simp; omega)⟩ Hf.out.symm
            · rw [hsn] at HS
              simp only [if_true] at HS
              have HSN := Lib.hid hsn
              clear hsn
              go_wp2_with (first | (go_at_call 49; (with_reducible refine (take_no r l' [41] _ AJ.out.rd H41.out).mono ?_); rintro e w5 ⟨rfl, rfl⟩) | (go_at_call 50; (with_reducible refine (plain_some r l' t' f _ (AJ.out.env hw) AJ.out.rd HP.out).mono ?_); rintro e w6 ⟨rfl, hr6, hm6⟩; obtain ⟨hd6, ⟨v13, c13⟩, f13, es6, cl6, hms6⟩ := HF6.out w6 hm6; have HM6 := Lib.hid hms6; have HD6 := Lib.hid hd6; clear hms6 hd6; have ha6 := seen_ask HM6.out f; rw [HSN.out] at ha6))
              go_ret
              rw [HS.out]
              exact ⟨Mods.bel AJ.out.bel (hm6.alloc _) (by have := AJ.out.new; intro x hx; simp at hx; omega), rfl⟩
          · rw [Bool.true_and] at HS
            by_cases hk : 0 ≤ kindL f
            · rw [decide_eq_true hk] at HS
              simp only [if_true] at HS
              have hke := kind_ne hk
              cases hsn : seen.contains wAKind
              · rw [hsn] at HS
                simp only [Bool.false_eq_true, if_false] at HS
                have HSN := Lib.hid hsn
                clear hsn
                go_wp2_with (first | (go_at_call 49; (with_reducible refine (take_no r l' [41] _ AJ.out.rd H41.out).mono ?_); rintro e w5 ⟨rfl, rfl⟩) | (go_at_call 50; (with_reducible refine (plain_some r l' t' f _ (AJ.out.env hw) AJ.out.rd HP.out).mono ?_); rintro e w6 ⟨rfl, hr6, hm6⟩; obtain ⟨hd6, ⟨v13, c13⟩, f13, es6, cl6, hms6⟩ := HF6.out w6 hm6; have HM6 := Lib.hid hms6; have HD6 := Lib.hid hd6; clear hms6 hd6; have hms6k := HM6.out.mods ((Mods.refl [p] _).setCell (p := ⟨p, 13, none⟩) (List.mem_singleton_self _) (.int .i64 (kindL f))) (by have := AJ.out.new; simp; omega); have ha6 := seen_ask hms6k wAKind; rw [HSN.out] at ha6; unfold wAKind at ha6; have HM6k := Lib.hid hms6k; clear hms6k; obtain ⟨W8, es8, hu8, hms8, hm8, hr8, hd8⟩ := seen_step AJ.out.new (mods_set3 hm6 (.int .i64 (kindL f))) (rd_set hr6 HD6.out AJ.out.new.2.2.2.1 (.int .i64 (kindL f))) (set_kind HD6.out (kindL f)) HM6k.out HSN.out; unfold wAKind at hu8; have HM8 := Lib.hid hms8; have HR8 := Lib.hid hr8; have HD8 := Lib.hid hd8; have HMM8 := Lib.hid hm8; clear hms8 hr8 hd8 hm8) | (go_at_call 52; refine (kindOf_c f _).mono ?_; rintro e w7 ⟨rfl, rfl⟩))
                go_roundg q
                case measure => omega
                case rel => exact ⟨_, _, t', AJ.out.go (d' := { d with kind := kindL f }) (by omega) HSU.out AJ.out.dc HMM8.out HR8.out HD8.out ⟨_, _, HM8.out⟩ HS.out.symm⟩
              · rw [hsn] at HS
                simp only [if_true] at HS
                have HSN := Lib.hid hsn
                clear hsn
                go_wp2_with (first | (go_at_call 49; (with_reducible refine (take_no r l' [41] _ AJ.out.rd H41.out).mono ?_); rintro e w5 ⟨rfl, rfl⟩) | (go_at_call 50; (with_reducible refine (plain_some r l' t' f _ (AJ.out.env hw) AJ.out.rd HP.out).mono ?_); rintro e w6 ⟨rfl, hr6, hm6⟩; obtain ⟨hd6, ⟨v13, c13⟩, f13, es6, cl6, hms6⟩ := HF6.out w6 hm6; have HM6 := Lib.hid hms6; have HD6 := Lib.hid hd6; clear hms6 hd6; have hms6k := HM6.out.mods ((Mods.refl [p] _).setCell (p := ⟨p, 13, none⟩) (List.mem_singleton_self _) (.int .i64 (kindL f))) (by have := AJ.out.new; simp; omega); have ha6 := seen_ask hms6k wAKind; rw [HSN.out] at ha6; unfold wAKind at ha6; have HM6k := Lib.hid hms6k; clear hms6k) | (go_at_call 52; refine (kindOf_c f _).mono ?_; rintro e w7 ⟨rfl, rfl⟩))
                go_ret
                rw [HS.out]
                exact ⟨Mods.bel AJ.out.bel ((mods_set3 (m := m) hm6 _).alloc _) HN3.out, rfl⟩
            · have hkd : decide (0 ≤ kindL f) = false := decide_eq_false hk
              rw [hkd] at HS
              simp only [Bool.false_eq_true, if_false] at HS
              cases hsn : seen.contains f
              · rw [hsn] at HS
                simp only [Bool.false_eq_true, if_false] at HS
                have HSN := Lib.hid hsn
                clear hsn
                cases hF : isField d.cls f
                · have hR0 : R = none := by rw [HS.out, fieldL_no hF]
                  have Hf := Lib.hid hR0
                  have HF := Lib.hid hF
                  clear hF hR0 HS
                  go_wp2_with (first | (go_at_call 49; (with_reducible refine (take_no r l' [41] _ AJ.out.rd H41.out).mono ?_); rintro e w5 ⟨rfl, rfl⟩) | (go_at_call 50; (with_reducible refine (plain_some r l' t' f _ (AJ.out.env hw) AJ.out.rd HP.out).mono ?_); rintro e w6 ⟨rfl, hr6, hm6⟩; obtain ⟨hd6, ⟨v13, c13⟩, f13, es6, cl6, hms6⟩ := HF6.out w6 hm6; have HM6 := Lib.hid hms6; have HD6 := Lib.hid hd6; clear hms6 hd6; have ha6 := seen_ask HM6.out f; rw [HSN.out] at ha6; obtain ⟨W8, es8, hu8, hms8, hm8, hr8, hd8⟩ := seen_step AJ.out.new (hm6.mono (S' := [r, p, m]) (by simp)) hr6 HD6.out HM6.out HSN.out; have HM8 := Lib.hid hms8; have HR8 := Lib.hid hr8; have HD8 := Lib.hid hd8; have HMM8 := Lib.hid hm8; have HB8 := Lib.hid (Mods.bel AJ.out.bel hm8 HN3.out); clear hms8 hr8 hd8 hm8) | (go_at_call 52; refine (kindOf_c f _).mono ?_; rintro e w7 ⟨rfl, rfl⟩) | (go_at_call 53; refine (fields_c r p d f _ (hw.keep HB8.out) HO.out (Nat.lt_of_lt_of_le HRL.out HMM8.out.size) AJ.out.new.2.2.2.1 HD8.out).mono ?_; rintro e w9 ⟨m2, v2, rfl, hb9, hlk9, hdo⟩; rw [HF.out] at hlk9; clear hdo))
                  go_ret
                  rw [Hf.out]
                  exact ⟨HB8.out.trans (hb9.mono HB8.out.size), rfl⟩
                · have HF := Lib.hid hF
                  clear hF
                  cases hfl : fieldL d f t' with
                  | none =>
                    have hR0 : R = none := by rw [HS.out, hfl]
                    have Hf := Lib.hid hR0
                    have HFL := Lib.hid hfl
                    clear hR0 HS hfl
                    go_wp2_with (first | (go_at_call 49; (with_reducible refine (take_no r l' [41] _ AJ.out.rd H41.out).mono ?_); rintro e w5 ⟨rfl, rfl⟩) | (go_at_call 50; (with_reducible refine (plain_some r l' t' f _ (AJ.out.env hw) AJ.out.rd HP.out).mono ?_); rintro e w6 ⟨rfl, hr6, hm6⟩; obtain ⟨hd6, ⟨v13, c13⟩, f13, es6, cl6, hms6⟩ := HF6.out w6 hm6; have HM6 := Lib.hid hms6; have HD6 := Lib.hid hd6; clear hms6 hd6; have ha6 := seen_ask HM6.out f; rw [HSN.out] at ha6; obtain ⟨W8, es8, hu8, hms8, hm8, hr8, hd8⟩ := seen_step AJ.out.new (hm6.mono (S' := [r, p, m]) (by simp)) hr6 HD6.out HM6.out HSN.out; have HM8 := Lib.hid hms8; have HR8 := Lib.hid hr8; have HD8 := Lib.hid hd8; have HMM8 := Lib.hid hm8; have HB8 := Lib.hid (Mods.bel AJ.out.bel hm8 HN3.out); clear hms8 hr8 hd8 hm8) | (go_at_call 52; refine (kindOf_c f _).mono ?_; rintro e w7 ⟨rfl, rfl⟩) | (go_at_call 53; refine (fields_c r p d f _ (hw.keep HB8.out) HO.out (Nat.lt_of_lt_of_le HRL.out HMM8.out.size) AJ.out.new.2.2.2.1 HD8.out).mono ?_; rintro e w9 ⟨m2, v2, rfl, hb9, hlk9, hdo⟩; rw [HF.out] at hlk9; obtain ⟨fid, cap, rfl, hent, hcall⟩ := hdo HF.out; have HC := Lib.hid (hcall t' (HR8.out.below hb9) (AJ.out.short.suffix HSU.out) (by omega)); rw [HFL.out] at HC; clear hdo hcall) | ((with_reducible refine HC.out.mono ?_); rintro e w10 ⟨hm10, hx10⟩; obtain rfl := hx10))
                    go_ret
                    rw [Hf.out]
                    exact ⟨Mods.bel (HB8.out.trans (hb9.mono HB8.out.size)) hm10 (by have := AJ.out.new; intro x hx; simp at hx; omega), rfl⟩
                  | some z =>
                    obtain ⟨d', t''⟩ := z
                    have hR0 : R = readF q d' (f :: seen) t'' := by rw [HS.out, hfl]
                    have hfs := fieldL_suffix hfl
                    have Hf := Lib.hid hR0
                    have HFL := Lib.hid hfl
                    have HFS := Lib.hid hfs
                    clear hR0 HS hfl hfs
                    go_wp2_with (first | (go_at_call 49; (with_reducible refine (take_no r l' [41] _ AJ.out.rd H41.out).mono ?_); rintro e w5 ⟨rfl, rfl⟩) | (go_at_call 50; (with_reducible refine (plain_some r l' t' f _ (AJ.out.env hw) AJ.out.rd HP.out).mono ?_); rintro e w6 ⟨rfl, hr6, hm6⟩; obtain ⟨hd6, ⟨v13, c13⟩, f13, es6, cl6, hms6⟩ := HF6.out w6 hm6; have HM6 := Lib.hid hms6; have HD6 := Lib.hid hd6; clear hms6 hd6; have ha6 := seen_ask HM6.out f; rw [HSN.out] at ha6; obtain ⟨W8, es8, hu8, hms8, hm8, hr8, hd8⟩ := seen_step AJ.out.new (hm6.mono (S' := [r, p, m]) (by simp)) hr6 HD6.out HM6.out HSN.out; have HM8 := Lib.hid hms8; have HR8 := Lib.hid hr8; have HD8 := Lib.hid hd8; have HMM8 := Lib.hid hm8; have HB8 := Lib.hid (Mods.bel AJ.out.bel hm8 HN3.out); clear hms8 hr8 hd8 hm8) | (go_at_call 52; refine (kindOf_c f _).mono ?_; rintro e w7 ⟨rfl, rfl⟩) | (go_at_call 53; refine (fields_c r p d f _ (hw.keep HB8.out) HO.out (Nat.lt_of_lt_of_le HRL.out HMM8.out.size) AJ.out.new.2.2.2.1 HD8.out).mono ?_; rintro e w9 ⟨m2, v2, rfl, hb9, hlk9, hdo⟩; rw [HF.out] at hlk9; obtain ⟨fid, cap, rfl, hent, hcall⟩ := hdo HF.out; have HC := Lib.hid (hcall t' (HR8.out.below hb9) (AJ.out.short.suffix HSU.out) (by omega)); rw [HFL.out] at HC; clear hdo hcall) | ((with_reducible refine HC.out.mono ?_); rintro e w10 ⟨hm10, hx10⟩; obtain ⟨rfl, hr10, hd10⟩ := hx10))
                    go_roundg q
                    case measure => omega
                    case rel =>
                      refine ⟨d', f :: seen, t'', ?_⟩
                      have hl2 : t''.length ≤ t'.length := HFS.out.1.sublist.length_le
                      have hnn := AJ.out.new
                      exact AJ.out.go (by omega) (HFS.out.1.trans HSU.out) (HFS.out.2.trans AJ.out.dc) ((HMM8.out.trans (Mods.of_below hb9 _)).trans (hm10.mono (by simp))) hr10 hd10 ⟨_, _, (HM8.out.below hb9).mods hm10 (by simp; omega)⟩ Hf.out.symm
              · rw [hsn] at HS
                simp only [if_true] at HS
                have HSN := Lib.hid hsn
                clear hsn
                go_wp2_with (first | (go_at_call 49; (with_reducible refine (take_no r l' [41] _ AJ.out.rd H41.out).mono ?_); rintro e w5 ⟨rfl, rfl⟩) | (go_at_call 50; (with_reducible refine (plain_some r l' t' f _ (AJ.out.env hw) AJ.out.rd HP.out).mono ?_); rintro e w6 ⟨rfl, hr6, hm6⟩; obtain ⟨hd6, ⟨v13, c13⟩, f13, es6, cl6, hms6⟩ := HF6.out w6 hm6; have HM6 := Lib.hid hms6; have HD6 := Lib.hid hd6; clear hms6 hd6; have ha6 := seen_ask HM6.out f; rw [HSN.out] at ha6) | (go_at_call 52; refine (kindOf_c f _).mono ?_; rintro e w7 ⟨rfl, rfl⟩))
                go_ret
                rw [HS.out]
                exact ⟨Mods.bel AJ.out.bel (hm6.alloc _) (by have := AJ.out.new; intro x hx; simp at hx; omega), rfl⟩
      · have H41 := Lib.hid h41
        have hend := readF_end (n := q) (d := d) (seen := seen) h41
        rw [AJ.out.rest] at hend
        clear h41
        by_cases ht : l'.tail = []
        · rw [if_pos ht] at hend
          have Hf := Lib.hid hend
          have HTL := Lib.hid ht
          have HNN := Lib.hid AJ.out.new
          clear hend ht
          go_wp2_with (first | (go_at_call 49; (with_reducible refine (take_true r l' [41] _ AJ.out.rd H41.out).mono ?_); rintro e w5 ⟨rfl, hr5, hg5⟩; have hr5' : RdW w5 r [] := (by rw [← HTL.out]; exact hr5); obtain ⟨A5, c5, hB5, _, _⟩ := hr5'.at; have c50 := hB5.cell 0; simp at c50; have HR5 := Lib.hid hr5'; clear hr5' hB5 hr5))
          go_ret
          rw [Hf.out]
          have hm5 : Mods [r] wr w5 := Mods.of_grown hg5 (List.mem_singleton_self _)
          exact ⟨Mods.bel AJ.out.bel hm5 (by have := HNN.out; intro x hx; simp at hx; omega), p, rfl, HNN.out.2.1, AJ.out.df.modr AJ.out.rd HNN.out.2.2.2.1 hm5⟩
        · rw [if_neg ht] at hend
          have Hf := Lib.hid hend
          have hlp : 0 < l'.tail.length := List.length_pos_iff.2 ht
          obtain ⟨tl, htl⟩ : ∃ tl, l'.tail = tl := ⟨_, rfl⟩
          rw [htl] at hlp
          have HTL := Lib.hid htl
          have hlp2 : (0 : Int) < (tl.length : Int) := by omega
          clear hend ht htl
          go_wp2_with (first | (go_at_call 49; (with_reducible refine (take_true r l' [41] _ AJ.out.rd H41.out).mono ?_); rintro e w5 ⟨rfl, hr5, hg5⟩; rw [HTL.out] at hr5; obtain ⟨A5, c5, hB5, _, _⟩ := hr5.at; have c50 := hB5.cell 0; simp only [List.getElem?_toArray, List.getElem?_cons_zero] at c50; clear hB5 hr5))
          go_ret
          rw [Hf.out]
          exact ⟨Mods.bel AJ.out.bel (Mods.of_grown hg5 (List.mem_singleton_self _)) (by have := AJ.out.new; intro x hx; simp at hx; omega), rfl⟩
end Go.Proofs.YtcjobpcbppcdnaaGreatDoor
/- Contracts: slices of texts, of pointers to definitions: where something stands, copies; a definition is read. -/
namespace Go.Proofs.YtcjobpcbppcdnaaGreatDoor
open Go.RowKit

theorem read_c (s : List UInt8) (cls : Bool) (w : World) (hw : Env w) (hs : s.length ≤ 1000000) :
    Calls Tryz.prog 23 #[.string ⟨s.toArray⟩, .bool cls] w (ReadRet w (readL s cls)) := by
  unfold readL
  cases hn : wordsL s with
  | none => exact read_nowords s cls w hs hn
  | some l =>
    simp only
    cases h40 : rIs l [40]
    · exact read_notake s cls l w hs hn h40
    · simp only [if_true]
      cases hp : rPlain l.tail with
      | none => exact read_noplain s cls l w hw hs hn h40 hp
      | some x =>
        obtain ⟨oid, t⟩ := x
        simp only
        cases ho : isTypeL oid && digit0 oid
        · exact read_nooid s cls l t oid w hw hs hn h40 hp ho
        · rw [Bool.and_eq_true] at ho
          exact read_go s cls l t oid w hw hs hn h40 hp ho.1 ho.2
/-- A function value that is asked about a text. -/
structure AskS (w : World) (f : FuncId) (cap : Array Value) (xs : List (List UInt8)) (P : List UInt8 → Bool) : Prop where
  call : ∀ x ∈ xs, ∀ W, Below w.heap.size w W → Calls Tryz.prog f (#[.string ⟨x.toArray⟩] ++ cap) W fun e W' => e = .returned (.bool (P x)) ∧ Below W.heap.size W W'
  enter : ∀ (args : Array Value) (W : World), (callFunc f args).run Tryz.prog W = .ok (.enter f args) W
set_option maxRecDepth 10000 in
set_option maxHeartbeats 1000000 in
theorem IndexFuncS_c (f : FuncId) (cap : Array Value) (xs : List (List UInt8)) (v : Value) (w : World) (hv : Texts w v xs) (hl : xs.length ≤ 1000000) (P : List UInt8 → Bool) (hF : AskS w f cap xs P) :
    Calls Tryz.prog 77 #[v, .func (.func f) #[] cap] w fun e w' => (∃ i : Int, e = .returned (.int .i64 i) ∧ decide (0 ≤ i) = xs.any P) ∧ Below w.heap.size w w' := by
  have HF := Lib.hid hF.call
  have hent := hF.enter
  clear hF
  have HV := Lib.hid hv
  obtain ⟨A, n, c, rfl⟩ := hv.isSlice
  have hn : n = xs.length := by
    rcases hv with ⟨rfl, h⟩ | ⟨b, c', h, _⟩
    · cases h; rfl
    · cases h; rfl
  subst hn
  clear hv
  go_enter Tryz.func77, Tryz.ntmps77
  go_wp2_with fail
  go_loopg [8] xs.length (fun gk i wr => ∃ k : Nat, k ≤ xs.length ∧ i = .int .i64 k ∧ Aside (k + gk = xs.length) ∧ Below w.heap.size w wr ∧ Aside (xs.any P = (xs.drop k).any P))
  case atStart => exact ⟨0, by omega, rfl, by show _ = _; omega, Below.refl _ _, rfl⟩
  case round =>
    obtain ⟨k, hk, rfl, AG, hB, AS⟩ := hrel
    by_cases hlt : k < xs.length
    · obtain ⟨q, rfl⟩ : ∃ q, gk = q + 1 := ⟨gk - 1, by have := AG.out; omega⟩
      obtain ⟨g, hg, hcell⟩ : ∃ g, A = some ⟨g, 0, none⟩ ∧ w.cell? ⟨g, k, none⟩ = some (.string ⟨xs[k].toArray⟩) := by
        rcases HV.out with ⟨h, _⟩ | ⟨b, c', h, _, _, hx⟩
        · rw [h] at hlt; simp at hlt
        · cases h; exact ⟨b, rfl, hx k hlt⟩
      subst hg
      have AS' : Aside (xs.any P = (P xs[k] || (xs.drop (k + 1)).any P)) := by have := AS.out; rw [List.drop_eq_getElem_cons hlt] at this; exact this
      have c0 : wr.cell? ⟨g, k, none⟩ = some (.string ⟨xs[k].toArray⟩) := (hB.cell (p := ⟨g, k, none⟩) (cell_lt hcell)).trans hcell
      have hC := HF.out xs[k] (List.getElem_mem hlt) wr hB
      clear AS hcell
      cases hP : P xs[k]
      all_goals
        have HP := Lib.hid hP
        rw [hP] at hC
        have HC := Lib.hid hC
        clear hP hC
      · go_wp2_with ((with_reducible refine HC.out.mono ?_); rintro e w2 ⟨rfl, hb2⟩)
        go_roundg q
        case measure => omega
        case rel => exact ⟨k + 1, by omega, by go_num, by have := AG.out; show _ = _; omega, hB.trans (hb2.mono hB.size), by have := AS'.out; rw [HP.out] at this; exact this⟩
      · go_wp2_with ((with_reducible refine HC.out.mono ?_); rintro e w2 ⟨rfl, hb2⟩)
        go_ret
        exact ⟨⟨k, rfl, by rw [AS'.out, HP.out]; simp⟩, hB.trans (hb2.mono hB.size)⟩
    · obtain rfl : k = xs.length := by omega
      have hs : xs.any P = false := by have := AS.out; rw [List.drop_length] at this; exact this
      have Hs := Lib.hid hs
      clear hs AS
      go_wp2_with fail
      go_ret
      exact ⟨⟨-1, rfl, by rw [Hs.out]; rfl⟩, hB⟩
set_option maxHeartbeats 400000 in
theorem ContainsFuncS_c (f : FuncId) (cap : Array Value) (xs : List (List UInt8)) (v : Value) (w : World) (hv : Texts w v xs) (hl : xs.length ≤ 1000000) (P : List UInt8 → Bool) (hF : AskS w f cap xs P) :
    Calls Tryz.prog 56 #[v, .func (.func f) #[] cap] w fun e w' => e = .returned (.bool (xs.any P)) ∧ Below w.heap.size w w' := by
  have hI := IndexFuncS_c f cap xs v w hv hl P hF
  obtain ⟨A, n, c, rfl⟩ := hv.isSlice
  clear hF hv
  go_enter Tryz.func56, Tryz.ntmps56
  go_wp2_with (go_at_call 77; refine hI.mono ?_; rintro e w1 ⟨⟨i, rfl, hi⟩, hb1⟩; have Hi := Lib.hid hi; clear hi)
  all_goals
    go_ret
    exact ⟨retb (by rw [← Hi.out]), hb1⟩
/-- A function value that is asked about a pointer. -/
structure AskP (w : World) (f : FuncId) (cap : Array Value) (ps : List Nat) (P : Nat → Bool) : Prop where
  call : ∀ x ∈ ps, ∀ W, Below w.heap.size w W → Calls Tryz.prog f (#[ptrV x] ++ cap) W fun e W' => e = .returned (.bool (P x)) ∧ Below W.heap.size W W'
  enter : ∀ (args : Array Value) (W : World), (callFunc f args).run Tryz.prog W = .ok (.enter f args) W
set_option maxRecDepth 10000 in
set_option maxHeartbeats 1000000 in
theorem IndexFuncP_c (f : FuncId) (cap : Array Value) (ps : List Nat) (v : Value) (w : World) (hv : PtrsR w v ps) (hl : ps.length ≤ 1000000) (P : Nat → Bool) (hF : AskP w f cap ps P) :
    Calls Tryz.prog 100 #[v, .func (.func f) #[] cap] w fun e w' => (∃ i : Int, e = .returned (.int .i64 i) ∧ decide (0 ≤ i) = ps.any P) ∧ Below w.heap.size w w' := by
  have HF := Lib.hid hF.call
  have hent := hF.enter
  clear hF
  obtain ⟨A, c, rfl, hc, hx⟩ := hv
  go_enter Tryz.func100, Tryz.ntmps100
  go_wp2_with fail
  go_loopg [8] ps.length (fun gk i wr => ∃ k : Nat, k ≤ ps.length ∧ i = .int .i64 k ∧ Aside (k + gk = ps.length) ∧ Below w.heap.size w wr ∧ Aside (ps.any P = (ps.drop k).any P))
  case atStart => exact ⟨0, by omega, rfl, by show _ = _; omega, Below.refl _ _, rfl⟩
  case round =>
    obtain ⟨k, hk, rfl, AG, hB, AS⟩ := hrel
    by_cases hlt : k < ps.length
    · obtain ⟨q, rfl⟩ : ∃ q, gk = q + 1 := ⟨gk - 1, by have := AG.out; omega⟩
      obtain ⟨g, rfl, hcells⟩ := hx.resolve_left (by intro h; rw [h] at hlt; simp at hlt)
      have hcell : w.cell? ⟨g, k, none⟩ = some (.pointer (some ⟨ps[k], 0, none⟩)) := hcells k ps[k] (List.getElem?_eq_getElem hlt)
      have AS' : Aside (ps.any P = (P ps[k] || (ps.drop (k + 1)).any P)) := by have := AS.out; rw [List.drop_eq_getElem_cons hlt] at this; exact this
      have c0 : wr.cell? ⟨g, k, none⟩ = some (.pointer (some ⟨ps[k], 0, none⟩)) := (hB.cell (p := ⟨g, k, none⟩) (cell_lt hcell)).trans hcell
      have hC := HF.out ps[k] (List.getElem_mem hlt) wr hB
      unfold ptrV at hC
      clear AS hcell hcells
      cases hP : P ps[k]
      all_goals
        have HP := Lib.hid hP
        rw [hP] at hC
        have HC := Lib.hid hC
        clear hP hC
      · go_wp2_with ((with_reducible refine HC.out.mono ?_); rintro e w2 ⟨rfl, hb2⟩)
        go_roundg q
        case measure => omega
        case rel => exact ⟨k + 1, by omega, by go_num, by have := AG.out; show _ = _; omega, hB.trans (hb2.mono hB.size), by have := AS'.out; rw [HP.out] at this; exact this⟩
      · go_wp2_with ((with_reducible refine HC.out.mono ?_); rintro e w2 ⟨rfl, hb2⟩)
        go_ret
        exact ⟨⟨k, rfl, by rw [AS'.out, HP.out]; simp⟩, hB.trans (hb2.mono hB.size)⟩
    · obtain rfl : k = ps.length := by omega
      have hs : ps.any P = false := by have := AS.out; rw [List.drop_length] at this; exact this
      have Hs := Lib.hid hs
      clear hs AS
      go_wp2_with fail
      go_ret
      exact ⟨⟨-1, rfl, by rw [Hs.out]; rfl⟩, hB⟩
set_option maxHeartbeats 400000 in
theorem ContainsFuncP_c (f : FuncId) (cap : Array Value) (ps : List Nat) (v : Value) (w : World) (hv : PtrsR w v ps) (hl : ps.length ≤ 1000000) (P : Nat → Bool) (hF : AskP w f cap ps P) :
    Calls Tryz.prog 57 #[v, .func (.func f) #[] cap] w fun e w' => e = .returned (.bool (ps.any P)) ∧ Below w.heap.size w w' := by
  have hI := IndexFuncP_c f cap ps v w hv hl P hF
  obtain ⟨A, c, rfl, hc, hx⟩ := hv
  clear hF hx
  go_enter Tryz.func57, Tryz.ntmps57
  go_wp2_with (go_at_call 100; refine hI.mono ?_; rintro e w1 ⟨⟨i, rfl, hi⟩, hb1⟩; have Hi := Lib.hid hi; clear hi)
  all_goals
    go_ret
    exact ⟨retb (by rw [← Hi.out]), hb1⟩
/-- Where a pointer stands among pointers. -/
def eqPtrs (w : World) (p : Nat) (ps : List Nat) : Prop := ∀ q ∈ ps, (binOp .eql 55 (.pointer (some ⟨p, 0, none⟩)) (.pointer (some ⟨q, 0, none⟩))).run Tryz.prog w = .ok (.bool (p == q)) w
theorem infoDef : ∃ j, Tryz.prog.info? 78 = some j ∧ j.size ≠ 0 := by
  obtain ⟨j, h1, h2⟩ : ∃ j, Tryz.prog.info? 78 = some j ∧ j.size = 14 := by
    have h : (Tryz.prog.info? 78).map (·.size) = some 14 := by kernel_rfl
    cases hj : Tryz.prog.info? 78 with
    | none => rw [hj] at h; cases h
    | some j => rw [hj] at h; exact ⟨j, rfl, by simpa using h⟩
  exact ⟨j, h1, by omega⟩
theorem eql_def {w : World} {p q : Nat} {cp cq : Array Value} (hp : Bk w p 78 cp) (hq : Bk w q 78 cq) :
    (binOp .eql 55 (.pointer (some ⟨p, 0, none⟩)) (.pointer (some ⟨q, 0, none⟩))).run Tryz.prog w = .ok (.bool (p == q)) w := by
  obtain ⟨j, h1, h2⟩ := infoDef
  by_cases h : p = q
  · subst h
    rw [run_eql_ptr_same w _ Tryz.underlying55 h1]
    simp
  · rw [run_eql_ptr_other (a := ⟨p, 0, none⟩) (b := ⟨q, 0, none⟩) w Tryz.underlying55 h1 h2 (by intro e; exact h (congrArg Addr.block e)) hp hq]
    have : (p == q) = false := beq_eq_false_iff_ne.2 h
    rw [this]
set_option maxRecDepth 10000 in
set_option maxHeartbeats 1000000 in
theorem IndexP_c (p : Nat) (ps : List Nat) (v : Value) (w : World) (hv : PtrsR w v ps) (hl : ps.length ≤ 1000000) (hE : eqPtrs w p ps) :
    Calls Tryz.prog 62 #[v, ptrV p] w fun e w' => (∃ i : Int, e = .returned (.int .i64 i) ∧ decide (0 ≤ i) = ps.contains p) ∧ w = w' := by
  have HE := Lib.hid hE
  clear hE
  obtain ⟨A, c, rfl, hc, hx⟩ := hv
  unfold ptrV
  go_enter Tryz.func62, Tryz.ntmps62
  go_wp2_with fail
  go_loopg [8] ps.length (fun gk i wr => ∃ k : Nat, k ≤ ps.length ∧ i = .int .i64 k ∧ Aside (k + gk = ps.length) ∧ Aside (wr = w) ∧ Aside (ps.contains p = (ps.drop k).contains p))
  case atStart => exact ⟨0, by omega, rfl, by show _ = _; omega, rfl, rfl⟩
  case round =>
    obtain ⟨k, hk, rfl, AG, AW, AS⟩ := hrel
    obtain rfl : wr = w := AW.out
    clear AW
    by_cases hlt : k < ps.length
    · obtain ⟨q, rfl⟩ : ∃ q, gk = q + 1 := ⟨gk - 1, by have := AG.out; omega⟩
      obtain ⟨g, rfl, hcells⟩ := hx.resolve_left (by intro h; rw [h] at hlt; simp at hlt)
      have hcell : wr.cell? ⟨g, k, none⟩ = some (.pointer (some ⟨ps[k], 0, none⟩)) := hcells k ps[k] (List.getElem?_eq_getElem hlt)
      have hq := HE.out ps[k] (List.getElem_mem hlt)
      have AS' : Aside (ps.contains p = ((p == ps[k]) || (ps.drop (k + 1)).contains p)) := by have := AS.out; rw [List.drop_eq_getElem_cons hlt, List.contains_cons] at this; exact this
      clear AS hcells
      cases hP : p == ps[k]
      all_goals
        have HP := Lib.hid hP
        rw [hP] at hq
        clear hP
      · go_wp2_with fail
        go_roundg q
        case measure => omega
        case rel => exact ⟨k + 1, by omega, by go_num, by have := AG.out; show _ = _; omega, rfl, by have := AS'.out; rw [HP.out] at this; exact this⟩
      · go_wp2_with fail
        go_ret
        exact ⟨⟨k, rfl, by rw [AS'.out, HP.out]; simp⟩, rfl⟩
    · obtain rfl : k = ps.length := by omega
      have hs : ps.contains p = false := by have := AS.out; rw [List.drop_length] at this; exact this
      have Hs := Lib.hid hs
      clear hs AS
      go_wp2_with fail
      go_ret
      exact ⟨⟨-1, rfl, by rw [Hs.out]; rfl⟩, rfl⟩
set_option maxHeartbeats 400000 in
theorem ContainsP_c (p : Nat) (ps : List Nat) (v : Value) (w : World) (hv : PtrsR w v ps) (hl : ps.length ≤ 1000000) (hE : eqPtrs w p ps) :
    Calls Tryz.prog 31 #[v, ptrV p] w fun e w' => e = .returned (.bool (ps.contains p)) ∧ w = w' := by
  have hI := IndexP_c p ps v w hv hl hE
  obtain ⟨A, c, rfl, hc, hx⟩ := hv
  clear hE hx
  unfold ptrV at hI ⊢
  go_enter Tryz.func31, Tryz.ntmps31
  go_wp2_with (go_at_call 62; refine hI.mono ?_; rintro e w1 ⟨⟨i, rfl, hi⟩, rfl⟩; have Hi := Lib.hid hi; clear hi)
  all_goals
    go_ret
    exact ⟨retb (by rw [← Hi.out]), rfl⟩
theorem texts_len {w : World} {A : Option Addr} {n c : Nat} {xs : List (List UInt8)} (h : Texts w (.slice A n c) xs) : n = xs.length ∧ xs.length ≤ c := by
  rcases h with ⟨rfl, h⟩ | ⟨b, c', h, hc, _⟩
  · cases h; exact ⟨rfl, Nat.le_refl _⟩
  · cases h; exact ⟨rfl, hc⟩
theorem texts_at {w : World} {A : Option Addr} {n c : Nat} {xs : List (List UInt8)} (h : Texts w (.slice A n c) xs) {k : Nat} (hk : k < xs.length) : ∃ g, A = some ⟨g, 0, none⟩ ∧ w.cell? ⟨g, k, none⟩ = some (.string ⟨xs[k].toArray⟩) := by
  rcases h with ⟨h, _⟩ | ⟨b, c', h, _, _, hx⟩
  · rw [h] at hk; simp at hk
  · cases h; exact ⟨b, rfl, hx k hk⟩
set_option maxRecDepth 10000 in
set_option maxHeartbeats 1000000 in
theorem IndexS_c (x : List UInt8) (xs : List (List UInt8)) (v : Value) (w : World) (hv : Texts w v xs) (hl : xs.length ≤ 1000000) :
    Calls Tryz.prog 78 #[v, .string ⟨x.toArray⟩] w fun e w' => (∃ i : Int, e = .returned (.int .i64 i) ∧ decide (0 ≤ i) = xs.contains x) ∧ w = w' := by
  have HV := Lib.hid hv
  obtain ⟨A, n, c, rfl⟩ := hv.isSlice
  obtain ⟨rfl, hc⟩ := texts_len hv
  clear hv
  go_enter Tryz.func78, Tryz.ntmps78
  go_wp2_with fail
  go_loopg [8] xs.length (fun gk i wr => ∃ k : Nat, k ≤ xs.length ∧ i = .int .i64 k ∧ Aside (k + gk = xs.length) ∧ Aside (wr = w) ∧ Aside (xs.contains x = (xs.drop k).contains x))
  case atStart => exact ⟨0, by omega, rfl, by show _ = _; omega, rfl, rfl⟩
  case round =>
    obtain ⟨k, hk, rfl, AG, AW, AS⟩ := hrel
    obtain rfl : wr = w := AW.out
    clear AW
    by_cases hlt : k < xs.length
    · obtain ⟨q, rfl⟩ : ∃ q, gk = q + 1 := ⟨gk - 1, by have := AG.out; omega⟩
      obtain ⟨g, rfl, hcell⟩ := texts_at HV.out hlt
      have AS' : Aside (xs.contains x = ((x == xs[k]) || (xs.drop (k + 1)).contains x)) := by have := AS.out; rw [List.drop_eq_getElem_cons hlt, List.contains_cons] at this; exact this
      clear AS
      cases hP : x == xs[k]
      · have HP := Lib.hid hP
        go_wp2_with fail
        go_roundg q
        case measure => omega
        case rel => exact ⟨k + 1, by omega, by go_num, by have := AG.out; show _ = _; omega, rfl, by have := AS'.out; rw [HP.out] at this; exact this⟩
      · have HP := Lib.hid hP
        go_wp2_with fail
        go_ret
        exact ⟨⟨k, rfl, by rw [AS'.out, HP.out]; simp⟩, rfl⟩
    · obtain rfl : k = xs.length := by omega
      have hs : xs.contains x = false := by have := AS.out; rw [List.drop_length] at this; exact this
      have Hs := Lib.hid hs
      clear hs AS
      go_wp2_with fail
      go_ret
      exact ⟨⟨-1, rfl, by rw [Hs.out]; rfl⟩, rfl⟩
set_option maxHeartbeats 400000 in
theorem ContainsS_c (x : List UInt8) (xs : List (List UInt8)) (v : Value) (w : World) (hv : Texts w v xs) (hl : xs.length ≤ 1000000) :
    Calls Tryz.prog 47 #[v, .string ⟨x.toArray⟩] w fun e w' => e = .returned (.bool (xs.contains x)) ∧ w = w' := by
  have hI := IndexS_c x xs v w hv hl
  obtain ⟨A, n, c, rfl⟩ := hv.isSlice
  clear hv
  go_enter Tryz.func47, Tryz.ntmps47
  go_wp2_with (go_at_call 78; refine hI.mono ?_; rintro e w1 ⟨⟨i, rfl, hi⟩, rfl⟩; have Hi := Lib.hid hi; clear hi)
  all_goals
    go_ret
    exact ⟨retb (by rw [← Hi.out]), rfl⟩
theorem own_more {ops : Array Oper} {rest : List Oper} {o : Oper} {a : Act} {Q : Exit → Act → World → Prop} {w : World} (hgd : o.guard = none) (s x : Operand) (ho : o.op = .call { callee := .builtin .append, args := #[s, x], argTypes := #[22, 22] })
    {v xv : Value} {xs ys : List (List UInt8)} {B : Nat} (hs : a.eval s = v) (hb : Own B w v xs)
    (hx : a.eval x = xv) (hy : Texts w xv ys) (hlen : xs.length + ys.length < 4398046511104)
    (h : ∀ v' w', Own B w' v' (xs ++ ys) → w.grownBy w' v.ownBlock → wpList Tryz.prog ops Q rest (a.put o.dst v') w') : wpList Tryz.prog ops Q (o :: rest) a w := by
  obtain ⟨i, h1, h2, h3, h4⟩ := infoStr
  rcases hy with ⟨rfl, rfl⟩ | ⟨b, c, rfl, hc, hlt, hcell⟩
  · refine wpList_append_own_none hgd s x 22 ho B 9 i 1 Tryz.underlying22 h1 v _ _ hs hb.1 hx ?_
    exact h v w (by simpa using hb) (World.grownBy.refl _ _)
  · refine wpList_append_own _ hgd s x 22 ho B 9 i (.string ⟨#[]⟩) 1 16 Tryz.underlying22 h1 h2 h3 h4 rfl (by decide) v _ _ hs hb.1 ⟨b, 0, none⟩ ys.length c (ys.map strV) hx (by simp) ?_ ?_ (by unfold maxLen; omega) (by omega) hb.2 ?_
    · intro j u hj
      rw [add_off]
      have hjl : j < ys.length := by simpa using (List.getElem?_eq_some_iff.1 hj).1
      rw [hcell j hjl]
      simp [hjl] at hj
      rw [← hj]; rfl
    · intro u hu
      simp at hu
      obtain ⟨q, _, rfl⟩ := hu
      rfl
    · intro v' w' ho' hg _
      exact h v' w' ⟨by simpa using ho', Nat.le_trans hb.2 hg.size⟩ hg
theorem own_empty (w : World) : Own w.heap.size (w.alloc (.cells #[] 9)) (.slice (some ⟨w.heap.size, 0, none⟩) 0 0) [] :=
  ⟨⟨rfl, .inr ⟨w.heap.size, 0, #[], rfl, Nat.le_refl _, heap_alloc_new w _, Nat.le_refl _, by decide, rfl, rfl⟩⟩, by simp⟩
theorem Own.bel {B : Nat} {W w w' : World} {v : Value} {xs : List (List UInt8)} (hb : Below B W w) (hO : Own B w v xs) (hg : w.grownBy w' v.ownBlock) : Below B W w' := hb.grown hg hO.2 (fun k hk => (hO.lt k hk).1)
set_option maxRecDepth 10000 in
set_option maxHeartbeats 1000000 in
theorem CloneS_c (xs : List (List UInt8)) (v : Value) (w : World) (hv : Texts w v xs) (hl : xs.length ≤ 1000000) :
    Calls Tryz.prog 22 #[v] w fun e w' => ∃ v', e = .returned v' ∧ Own w.heap.size w' v' xs ∧ Below w.heap.size w w' := by
  have hb0 : Below w.heap.size w (w.alloc (.cells #[] 9)) := (Below.refl _ _).alloc (Nat.le_refl _) _
  have hv1 := hv.below hb0
  have ho := own_empty w
  have hq := fun (a : Option Addr) (n c : Nat) => Lib.run_eql_slice_nil (P := Tryz.prog) w 22 9 a n c 0 0 Tryz.underlying22
  rcases id hv with ⟨rfl, rfl⟩ | ⟨b, c, rfl, hc, hlt, hx⟩
  · go_enter Tryz.func22, Tryz.ntmps22
    go_wp2_with fail
    go_ret
    exact ⟨_, rfl, Own.nil (Nat.le_refl _), Below.refl _ _⟩
  · clear hx hv
    go_enter Tryz.func22, Tryz.ntmps22
    go_wp2_with (at_builtin; refine own_more rfl _ _ rfl rfl ho rfl hv1 (by simp; omega) ?_; intro v' w1 hO1 hg1)
    go_ret
    exact ⟨_, rfl, by simpa using hO1, Own.bel hb0 ho hg1⟩
end Go.Proofs.YtcjobpcbppcdnaaGreatDoor
/- Contracts: a definition is put into a schema. -/
namespace Go.Proofs.YtcjobpcbppcdnaaGreatDoor
open Go.RowKit

section
variable {ops : Array Oper} {o : Oper} {a : Act} {K : Act → World → Prop} {Q : Exit → Act → World → Prop} {E : Prop}
/-- 'append(own, texts...)' in a region that draws. -/
theorem step_own_more {w : World} (hgd : o.guard = none) (s x : Operand) (ho : o.op = .call { callee := .builtin .append, args := #[s, x], argTypes := #[22, 22] })
    {v xv : Value} {xs ys : List (List UInt8)} {B : Nat} (hs : a.eval s = v) (hb : Own B w v xs)
    (hx : a.eval x = xv) (hy : Texts w xv ys) (hlen : xs.length + ys.length < 4398046511104)
    (h : ∀ v' w', Own B w' v' (xs ++ ys) → w.grownBy w' v.ownBlock → K (a.put o.dst v') w') :
    if Region.wanted o (yielded ops a.tmps) = true then Oper.wp Tryz.prog o a w K Q else E := by
  obtain ⟨i, h1, h2, h3, h4⟩ := infoStr
  rcases hy with ⟨rfl, rfl⟩ | ⟨b, c, rfl, hc, hlt, hcell⟩
  · have hw : Region.wanted o (yielded ops a.tmps) = true := by simp [Region.wanted, hgd]
    rw [if_pos hw]
    have hr : (Builtin.append_ #[22, 22] o.type #[v, .slice none 0 0]).run Tryz.prog w = .ok v w := by
      rcases hb.1.2 with ⟨rfl, _⟩ | ⟨g, cap, cur, rfl, _, _, hnc, _⟩
      · simp [Builtin.append_, run_underlying Tryz.underlying22, sizeOf, typeInfo, h1, Builtin.lenOf, Builtin.firstCells]
      · simp [Builtin.append_, run_underlying Tryz.underlying22, sizeOf, typeInfo, h1, Builtin.lenOf, Builtin.firstCells, hnc, storeCells]
    unfold Oper.wp execOp
    simp only [ho, resolve, invoke, builtin, Sem.run_bind, Sem.run_pure, Result.andThen_ok, List.map_toArray, List.map_cons, List.map_nil, hs, hx, hr]
    exact h v w (by simpa using hb) (World.grownBy.refl _ _)
  · refine step_append_own hgd s x 22 ho B 9 i (.string ⟨#[]⟩) 1 16 Tryz.underlying22 h1 h2 h3 h4 rfl (by decide) v _ _ hs hb.1 ⟨b, 0, none⟩ ys.length c (ys.map strV) hx (by simp) ?_ ?_ (by unfold maxLen; omega) (by omega) hb.2 ?_
    · intro j u hj
      rw [add_off]
      have hjl : j < ys.length := by simpa using (List.getElem?_eq_some_iff.1 hj).1
      rw [hcell j hjl]
      simp [hjl] at hj
      rw [← hj]; rfl
    · intro u hu
      simp at hu
      obtain ⟨q, _, rfl⟩ := hu
      rfl
    · intro v' w' ho' hg
      exact h v' w' ⟨by simpa using ho', Nat.le_trans hb.2 hg.size⟩ hg
end
theorem grown_undrew {w w' : World} {r : Option Nat} (h : w.drew.grownBy w' r) : w.grownBy w' r := ⟨h.os, h.tape, h.output, h.size, h.block⟩
/-- A definition is not beyond what a machine holds. -/
structure DefLim (d : DefS) : Prop where
  oid : d.oid.length ≤ 1000000
  names : d.names.length ≤ 1000000 ∧ ∀ x ∈ d.names, x.length ≤ 1000000
  sup : d.sup.length ≤ 1000000 ∧ ∀ x ∈ d.sup, x.length ≤ 1000000
  must : d.must.length ≤ 1000000 ∧ ∀ x ∈ d.must, x.length ≤ 1000000
  may : d.may.length ≤ 1000000 ∧ ∀ x ∈ d.may, x.length ≤ 1000000
/-- Pointers in a row of the call's own. -/
def OwnP (B : Nat) (w : World) (v : Value) (ps : List Nat) : Prop := w.ownsRow B 55 1 v ps.length (ps.map ptrV) ∧ B ≤ w.heap.size ∧ (ps = [] → v = .slice none 0 0)
theorem OwnP.nil {B : Nat} {w : World} (hB : B ≤ w.heap.size) : OwnP B w (.slice none 0 0) [] := ⟨World.ownsRow_nil _ _ _ _, hB, fun _ => rfl⟩
theorem OwnP.lt {B : Nat} {w : World} {v : Value} {ps : List Nat} (h : OwnP B w v ps) : ∀ k, v.ownBlock = some k → B ≤ k ∧ k < w.heap.size := fun k hk => h.1.lt k hk
theorem OwnP.keep {B : Nat} {w w' : World} {v : Value} {ps : List Nat} (h : OwnP B w v ps) {r : Option Nat} (hg : w.grownBy w' r) (hr : ∀ k, v.ownBlock = some k → r ≠ some k) : OwnP B w' v ps := by
  refine ⟨h.1.kept hg ?_, Nat.le_trans h.2.1 hg.size, h.2.2⟩
  rcases hv : v.ownBlock with _ | g
  · exact .inl rfl
  · exact .inr (fun he => hr g hv he.symm)
theorem OwnP.below {B : Nat} {w w' : World} {v : Value} {ps : List Nat} (h : OwnP B w v ps) (hb : Below w.heap.size w w') : OwnP B w' v ps := h.keep (grown_below hb none) (fun k _ he => by cases he)
theorem OwnP.isSlice {B : Nat} {w : World} {v : Value} {ps : List Nat} (h : OwnP B w v ps) : ∃ A c, v = .slice A ps.length c ∧ ps.length ≤ c := by
  obtain ⟨⟨h1, h2⟩, _⟩ := h
  rcases h2 with ⟨rfl, hn⟩ | ⟨g, cap, cur, rfl, r2, r3, r4, _⟩
  · exact ⟨none, 0, by rw [hn], by omega⟩
  · exact ⟨_, cap, rfl, r4⟩
theorem OwnP.ty {B : Nat} {w : World} {v : Value} {ps : List Nat} (h : OwnP B w v ps) {k : Nat} (hk : v.ownBlock = some k) : ∃ cs, Bk w k 55 cs := by
  obtain ⟨⟨h1, h2⟩, _⟩ := h
  rcases h2 with ⟨rfl, hn⟩ | ⟨g, cap, cur, rfl, r2, r3, r4, r5, r6, r7⟩
  · simp [Value.ownBlock] at hk
  · have hgk : g = k := by simpa [Value.ownBlock] using hk
    subst hgk
    exact ⟨cur, r3⟩
theorem bk_ne {w : World} {g g' : Nat} {t t' : TypeId} {cs cs' : Array Value} (h : Bk w g t cs) (h' : Bk w g' t' cs') (hne : t ≠ t') : g ≠ g' := by
  rintro rfl
  unfold Bk at h h'
  rw [h] at h'
  cases h'
  exact hne rfl
theorem OwnP.reads {B : Nat} {w : World} {v : Value} {ps : List Nat} (h : OwnP B w v ps) : PtrsR w v ps := by
  obtain ⟨⟨h1, h2⟩, _⟩ := h
  rcases h2 with ⟨rfl, hn⟩ | ⟨g, cap, cur, rfl, r2, r3, r4, r5, r6, r7⟩
  · exact ⟨none, 0, by rw [hn], by omega, .inl (List.eq_nil_of_length_eq_zero hn)⟩
  · refine ⟨_, cap, rfl, r4, .inr ⟨g, rfl, fun j p hj => ?_⟩⟩
    have hjl : j < ps.length := (List.getElem?_eq_some_iff.1 hj).1
    simp only [World.cell?, r3]
    have : (cur.toList.take (ps.length * 1))[j]? = some (ptrV p) := by rw [r7]; simp [hj]
    rw [List.getElem?_take] at this
    simpa [hjl] using this
theorem OwnP.notext {B : Nat} {w : World} {v : Value} {ps : List Nat} (h : OwnP B w v ps) {k : Nat} (hk : v.ownBlock = some k) : NoText w [k] := by
  intro x hx u hu
  have : x = k := by simpa using hx
  subst this
  obtain ⟨A', c', rfl, _, hx'⟩ := h.reads
  cases ps with
  | nil =>
    rw [h.2.2 rfl] at hk
    simp [Value.ownBlock] at hk
  | cons p t =>
    rcases hx' with hx' | ⟨g', rfl, hcl⟩
    · cases hx'
    · have hgk : g' = x := by simpa [Value.ownBlock] using hk
      subst hgk
      rw [hcl 0 p rfl] at hu
      cases hu
theorem infoPtr : ∃ i, Tryz.prog.info? 55 = some i ∧ i.zero = some (.pointer none) ∧ i.size = 1 ∧ i.bytes = 8 := by
  obtain ⟨i, h1, h2, h3, h4⟩ := info_parts (show (Tryz.prog.info? 55).map (fun i => (i.zero, i.size, i.bytes)) = some (some (.pointer none), 1, 8) by kernel_rfl)
  exact ⟨i, h1, h2, h3, h4⟩
theorem ptr_one {ops : Array Oper} {rest : List Oper} {o : Oper} {a : Act} {Q : Exit → Act → World → Prop} (hgd : o.guard = none) (s x : Operand) (ho : o.op = .call { callee := .builtin .append, args := #[s, x], argTypes := #[51, 51] })
    {v : Value} {ps : List Nat} {B N : Nat} {w0 : World} {p : Nat} (hs : a.eval s = v) (hb : OwnP B w0 v ps)
    (hx : a.eval x = .slice (some ⟨N, 0, none⟩) 1 1) (hN : N = w0.heap.size) (hlen : ps.length < 4398046511104)
    (h : ∀ v' w', OwnP B w' v' (ps ++ [p]) → w0.grownBy w' v.ownBlock → wpList Tryz.prog ops Q rest (a.put o.dst v') w') : wpList Tryz.prog ops Q (o :: rest) a (w0.alloc (.cells #[.pointer (some ⟨p, 0, none⟩)] 55)) := by
  subst hN
  obtain ⟨i, h1, h2, h3, h4⟩ := infoPtr
  have hb' := hb.below ((Below.refl _ _).alloc (Nat.le_refl _) (.cells #[.pointer (some ⟨p, 0, none⟩)] 55))
  refine wpList_append_own _ hgd s x 51 ho B 55 i (.pointer none) 1 8 Tryz.underlying51 h1 h2 h3 h4 rfl (by decide) v _ _ hs hb'.1 ⟨w0.heap.size, 0, none⟩ 1 1 [ptrV p] hx rfl ?_ ?_ (by unfold maxLen; omega) (by omega) hb'.2.1 ?_
  · intro j u hj
    match j, hj with
    | 0, hj => simp at hj; subst hj; simp [Addr.add, ptrV]
    | (j + 1), hj => simp at hj
  · intro u hu; simp at hu; subst hu; rfl
  · intro v' w' ho' hg _
    refine h v' w' ⟨?_, Nat.le_trans hb'.2.1 hg.size, fun he => absurd he (by simp)⟩ (World.grownBy.trans (World.grownBy_alloc _ _ _) hg)
    simpa using ho'
theorem OwnP.bel {B : Nat} {W w w' : World} {v : Value} {ps : List Nat} (hb : Below B W w) (hO : OwnP B w v ps) (hg : w.grownBy w' v.ownBlock) : Below B W w' := hb.grown hg hO.2.1 (fun k hk => (hO.lt k hk).1)
/-- A schema that is under way: its blocks are the call's own. -/
structure SchB (B : Nat) (w : World) (s m : Nat) (ps : List Nat) (L : List DefS) : Prop where
  head : ∃ lv, Bk w s 53 #[lv, .map (some m)] ∧ OwnP B w lv ps
  map : ∃ es c, w.heap[m]? = some (.map es c) ∧ MapR kvS es (keysR ps L)
  len : ps.length = L.length
  nodup : ps.Nodup
  defs : ∀ (i p : Nat) (d : DefS), ps[i]? = some p → L[i]? = some d → DefAt w p d
  new : B ≤ s ∧ B ≤ m
theorem keysR_val : ∀ (ps : List Nat) (L : List DefS) (k : Bool × List UInt8) (v : Value), look (keysR ps L) k = some v → ∃ q, v = ptrV q
  | [], _, k, v, h => by simp [keysR, look] at h
  | _ :: _, [], k, v, h => by simp [keysR, look] at h
  | p :: ps, d :: L, k, v, h => by
    rw [keysR, look_app, look_map] at h
    split at h
    · simp at h; exact ⟨p, h.symm⟩
    · exact keysR_val ps L k v (by simpa using h)
/-- What the map holds while a definition's names are put in. -/
def keysJ (ps : List Nat) (L : List DefS) (p : Nat) (ks : List (Bool × List UInt8)) : List ((Bool × List UInt8) × Value) := keysR ps L ++ ks.map fun k => (k, ptrV p)
theorem keysJ_snoc (ps : List Nat) (L : List DefS) (p : Nat) (ks : List (Bool × List UInt8)) (k : Bool × List UInt8) : keysJ ps L p (ks ++ [k]) = keysJ ps L p ks ++ [(k, ptrV p)] := by
  simp [keysJ]
theorem keysJ_look {ps : List Nat} {L : List DefS} (hl : ps.length = L.length) (p : Nat) (ks : List (Bool × List UInt8)) (k : Bool × List UInt8) :
    ((L.flatMap DefS.keys ++ ks).contains k = false → look (keysJ ps L p ks) k = none) ∧ ((L.flatMap DefS.keys ++ ks).contains k = true → ∃ q, look (keysJ ps L p ks) k = some (ptrV q)) := by
  unfold keysJ
  rw [look_app, look_map]
  have hk := keysR_keys ps L hl
  constructor
  · intro h
    have h' : k ∉ L.flatMap DefS.keys ∧ k ∉ ks := by
      rw [List.contains_eq_mem, decide_eq_false_iff_not, List.mem_append, not_or] at h
      exact h
    have h1 : look (keysR ps L) k = none := by
      rw [look_none]
      rintro x hx rfl
      exact h'.1 (by rw [← hk]; exact List.mem_map_of_mem hx)
    rw [h1, if_neg h'.2]
    rfl
  · intro h
    cases hl1 : look (keysR ps L) k with
    | some v =>
      obtain ⟨q, rfl⟩ := keysR_val ps L k v hl1
      exact ⟨q, rfl⟩
    | none =>
      have h1 : k ∉ L.flatMap DefS.keys := by
        intro hm
        rw [← hk] at hm
        obtain ⟨x, hx, hx2⟩ := List.mem_map.1 hm
        exact look_none.1 hl1 x hx hx2
      have h2 : k ∈ ks := by
        rw [List.contains_eq_mem, decide_eq_true_eq, List.mem_append] at h
        exact h.resolve_left h1
      rw [if_pos h2]
      exact ⟨p, rfl⟩
theorem okPut_step {M ks : List (Bool × List UInt8)} {k : Bool × List UInt8} (hk : M.contains k = false) : okPut M (k :: ks) = okPut (M ++ [k]) ks := by
  rw [okPut, hk]; rfl
theorem okPut_stop {M ks : List (Bool × List UInt8)} {k : Bool × List UInt8} (hk : M.contains k = true) : okPut M (k :: ks) = false := by
  rw [okPut, hk]; rfl
theorem update_kvS (w : World) (m c : Nat) (es : Array MapEntry) (R : List ((Bool × List UInt8) × Value)) (hw : w.heap[m]? = some (.map es c)) (h : MapR kvS es R) (k : Bool × List UInt8) (v : Value) (hn : look R k = none) :
    ∃ W es' c', (Instr.mapUpdate 50 (.map (some m)) (.agg #[.bool k.1, .string ⟨k.2.toArray⟩]) v).run Tryz.prog w = .ok () W ∧ W.heap[m]? = some (.map es' c') ∧ MapR kvS es' (R ++ [(k, v)]) ∧ w.grownBy W (some m) :=
  ⟨_, _, _, map_put Tryz.underlying50 finds_kvS check_kvS w m c es R hw h k v hn, setMap_heap (Array.getElem?_eq_some_iff.1 hw).1, h.push k v c, setMap_grown _ _ _ _⟩
/-- What holds ahead of the next name. -/
structure PJ (w1 : World) (m p : Nat) (ps : List Nat) (L : List DefS) (c : Bool) (ns : List (List UInt8)) (R : Bool) (wr : World) (k : Nat) : Prop where
  map : ∃ es cl, wr.heap[m]? = some (.map es cl) ∧ MapR kvS es (keysJ ps L p ((ns.take k).map fun n => (c, smallL n)))
  mods : Mods [m] w1 wr
  rest : okPut (L.flatMap DefS.keys ++ (ns.take k).map fun n => (c, smallL n)) ((ns.drop k).map fun n => (c, smallL n)) = R
/-- A key in memory. -/
structure KeyAt (wr W : World) (kb : Nat) (c : Bool) (n : List UInt8) : Prop where
  bk : Bk W kb 99 #[.bool c, .string ⟨n.toArray⟩]
  bel : Below wr.heap.size wr W
  ge : wr.heap.size ≤ kb
def PutRet (B : Nat) (w : World) (s m : Nat) (ps : List Nat) (L : List DefS) (p : Nat) (d : DefS) (e : Ending) (w' : World) : Prop := Below B w w' ∧ match okPut (L.flatMap DefS.keys) d.keys with
  | true => e = .returned (.bool true) ∧ SchB B w' s m (ps ++ [p]) (L ++ [d]) ∧ ∀ v xs, Texts w v xs → Texts w' v xs
  | false => e = .returned (.bool false)
theorem map_ne {w : World} {m p : Nat} {t : TypeId} {cs : Array Value} {es : Array MapEntry} {c : Nat} (hm : w.heap[m]? = some (.map es c)) (hp : Bk w p t cs) : p ≠ m := by
  rintro rfl
  unfold Bk at hp
  rw [hm] at hp
  cases hp
set_option maxRecDepth 100000 in
set_option maxHeartbeats 4000000 in
theorem put_c6 (B s m p : Nat) (ps : List Nat) (L : List DefS) (d : DefS) (w : World) (hS : SchB B w s m ps L) (hB0 : B ≤ w.heap.size) (hpsl : ps.length < 4398046511104) (hpn : p ∉ ps) (hd : DefAt w p d) (hl : DefLim d) :
    Calls Tryz.prog 24 #[ptrV s, ptrV p] w (PutRet B w s m ps L p d) := by
  have hd0 := Lib.hid hd
  obtain ⟨vn, vs, vm, vy, hB, hvn, _⟩ := id hd
  have c0 : w.cell? ⟨p, 0, none⟩ = some (.bool d.cls) := hB.cell 0
  have c1 : w.cell? ⟨p, 1, none⟩ = some (.string ⟨d.oid.toArray⟩) := hB.cell 1
  have c2 : w.cell? ⟨p, 2, none⟩ = some vn := hB.cell 2
  have hplt := hB.lt
  have hbo : Below w.heap.size w (w.alloc (.cells #[.string ⟨d.oid.toArray⟩] 9)) := (Below.refl _ _).alloc (Nat.le_refl _) _
  have ho1 : Own w.heap.size (w.alloc (.cells #[.string ⟨d.oid.toArray⟩] 9)) (.slice (some ⟨w.heap.size, 0, none⟩) 1 1) [d.oid] := by
    have := Strs.made1 w d.oid
    exact ⟨this.1, this.2.2⟩
  have hy1 := hvn.below hbo
  obtain ⟨An, nn, cn, rfl⟩ := hvn.isSlice
  have hln : [d.oid].length + d.names.length < 4398046511104 := by have := hl.names.1; simp; omega
  have HO := Lib.hid ho1
  have HY := Lib.hid hy1
  have HL := Lib.hid hl
  have s1 : (w.alloc (.cells #[.string ⟨d.oid.toArray⟩] 9)).cell? ⟨p, 1, none⟩ = some (.string ⟨d.oid.toArray⟩) := (hB.alloc _).cell 1
  have s2 : (w.alloc (.cells #[.string ⟨d.oid.toArray⟩] 9)).cell? ⟨p, 2, none⟩ = some (.slice An nn cn) := (hB.alloc _).cell 2
  have HBK := Lib.hid (hB.alloc (.cells #[.string ⟨d.oid.toArray⟩] 9))
  clear ho1 hy1 hvn hB hd hl hbo
  unfold ptrV
  go_enter Tryz.func24, Tryz.ntmps24
  go_wp2_with fail
  go_region_held3 (fun w' => w'.cell? ⟨p, 1, none⟩ = some (.string ⟨d.oid.toArray⟩) ∧ w'.cell? ⟨p, 2, none⟩ = some (.slice An nn cn)) (first | exact ⟨c1, c2⟩ | exact ⟨s1, s2⟩ | exact s3) ((refine step_own_more (v := .slice (some ⟨w.heap.size, 0, none⟩) 1 1) (xv := .slice An nn cn) (xs := [d.oid]) (ys := d.names) (B := w.heap.size) (by rfl) _ _ (by rfl) rfl HO.out rfl HY.out hln ?_; intro v1 w1 hO1 hg0; have hg1 := grown_undrew hg0; have hB1 := HBK.out.grown hg1 (by simp [Value.ownBlock]; omega); have s3 : w1.cell? ⟨p, 1, none⟩ = some (.string ⟨d.oid.toArray⟩) ∧ w1.cell? ⟨p, 2, none⟩ = some (.slice An nn cn) := ⟨hB1.cell 1, hB1.cell 2⟩; obtain ⟨A1, cp1, rfl, hcp1⟩ := hO1.isSlice))
  all_goals
    have hb1 : Below w.heap.size w w1 := ((Below.refl _ _).alloc (Nat.le_refl _) _).grown hg1 (by simp) (by intro k hk; simp [Value.ownBlock] at hk; omega)
    have HB1 := Lib.hid hb1
    have HBP := Lib.hid hB1
    obtain ⟨es0, cl0, hm0, hM0⟩ := hS.map
    obtain ⟨lv, hs0, hown⟩ := hS.head
    obtain ⟨Al, cl1, rfl, hcl1⟩ := hown.isSlice
    have HOWN := Lib.hid hown
    have hmlt := (Array.getElem?_eq_some_iff.1 hm0).1
    have hm1 : w1.heap[m]? = some (.map es0 cl0) := (hb1.block m hmlt).trans hm0
    have HS1 := Lib.hid (hs0.below hb1)
    have HMW : Hid (∃ es cl, w1.heap[m]? = some (.map es cl)) := Lib.hid ⟨_, _, hm1⟩
    have HPM := Lib.hid (map_ne hm1 hB1)
    have HSM := Lib.hid (map_ne hm1 (hs0.below hb1))
    have HO1 := Lib.hid hO1
    obtain ⟨R, hR⟩ : ∃ R, okPut (L.flatMap DefS.keys) d.keys = R := ⟨_, rfl⟩
    obtain ⟨ns, hns⟩ : ∃ ns, [d.oid] ++ d.names = ns := ⟨_, rfl⟩
    have hkeys : d.keys = ns.map fun n => (d.cls, smallL n) := by rw [← hns]; rfl
    have hnsl : ∀ x ∈ ns, x.length ≤ 1000000 := by
      intro x hx
      rw [← hns] at hx
      rcases List.mem_append.1 hx with h | h
      · have : x = d.oid := by simpa using h
        rw [this]
        exact HL.out.oid
      · exact HL.out.names.2 x h
    have hlen : (d.names.length : Int) + 1 = (ns.length : Int) := by rw [← hns]; simp
    have hnl : ns.length ≤ 1000001 := by rw [← hns]; have := HL.out.names.1; simp; omega
    rw [hns] at HO1 hcp1
    have J0 : PJ w1 m p ps L d.cls ns R w1 0 := ⟨⟨es0, cl0, hm1, by simpa [keysJ] using hM0⟩, Mods.refl _ _, by rw [List.take_zero, List.drop_zero, List.map_nil, List.append_nil, ← hkeys]; exact hR⟩
    have HJ0 := Lib.hid J0
    have HR := Lib.hid hR
    have HNS := Lib.hid hnsl
    have HKE := Lib.hid hkeys
    clear J0 hR hnsl hkeys hm1 hmlt hm0 hM0 hown hs0 hb1 hg0 hg1 s3 s1 s2 c1 c2 c0 hO1 hB1 hln
    go_wp2_with fail
    rw [hns, hlen]
    clear hlen hns
    go_loopg [19] ns.length (fun gk i wr => ∃ k : Nat, k ≤ ns.length ∧ i = .int .i64 k ∧ Aside (k + gk = ns.length) ∧ Aside (PJ w1 m p ps L d.cls ns R wr k))
    case atStart => exact ⟨0, Nat.zero_le _, rfl, by show _ = _; omega, HJ0.out⟩
    case round =>
      clear HJ0
      obtain ⟨k, hk, rfl, AG, AJ⟩ := hrel
      by_cases hlt : k < ns.length
      · obtain ⟨q, rfl⟩ : ∃ q, gk = q + 1 := ⟨gk - 1, by have := AG.out; omega⟩
        have hT : Texts wr (.slice A1 ns.length cp1) ns := by
          obtain ⟨es, cl, hm, hM⟩ := AJ.out.map
          obtain ⟨esx, clx, hmx⟩ := HMW.out
          exact HO1.out.texts.mods AJ.out.mods (NoText.of_map hmx)
        obtain ⟨g, rfl, ck⟩ := texts_at hT hlt
        have cp0 : wr.cell? ⟨p, 0, none⟩ = some (.bool d.cls) := (AJ.out.mods.bk HBP.out (by simpa using HPM.out)).cell 0
        have hpl : p < wr.heap.size := (AJ.out.mods.bk HBP.out (by simpa using HPM.out)).lt
        have cs1 : wr.cell? ⟨s, 1, none⟩ = some (.map (some m)) := (AJ.out.mods.bk HS1.out (by simpa using HSM.out)).cell 1
        have hpne : p ≠ wr.heap.size := by omega
        have hnk := HNS.out ns[k] (List.getElem_mem hlt)
        clear hT
        go_wp2_with fail
        go_region_held3 (fun w' => w'.cell? ⟨p, 0, none⟩ = some (.bool d.cls)) (first | exact cp0 | exact cp2 | exact set_cell_far (set_cell_far cp2 hpne) hpne | go_keep) ((go_at_call 35; refine (Small_c ns[k] _ (by omega)).mono ?_; rintro e w2 ⟨rfl, hb2⟩; have cp2 : w2.cell? ⟨p, 0, none⟩ = some (.bool d.cls) := (hb2.cell (p := ⟨p, 0, none⟩) (by simp; omega)).trans (by first | exact cp0 | exact (World.cell?_alloc_lt _ _ _ hpl).trans cp0); (first | (have hb2a : Below (wr.alloc (.cells #[.bool false, .string ⟨#[]⟩] 99)).heap.size (wr.alloc (.cells #[.bool false, .string ⟨#[]⟩] 99)) w2 := below_undrew hb2; have kk2 := (Bk.new wr 99 #[.bool false, .string ⟨#[]⟩]).below hb2a; have kf0 := kk2.frozen 0; have kf1 := kk2.frozen 1; have kc0 : w2.cell? ⟨wr.heap.size, 0, none⟩ = some (.bool false) := kk2.cell 0; have kc1 : w2.cell? ⟨wr.heap.size, 1, none⟩ = some (.string ⟨#[]⟩) := kk2.cell 1) | skip)))
        all_goals
          first
          | (have HK := Lib.hid (⟨Bk.new w2 _ _, (below_undrew hb2).alloc hb2.size _, hb2.size⟩ : KeyAt wr (w2.alloc (.cells #[.bool d.cls, .string ⟨(smallL ns[k]).toArray⟩] 99)) w2.heap.size d.cls (smallL ns[k]))
             generalize w2.alloc (.cells #[.bool d.cls, .string ⟨(smallL ns[k]).toArray⟩] 99) = W4 at *
             generalize w2.heap.size = kb at *)
          | (have HK := Lib.hid (⟨(kk2.set 0 (.bool d.cls)).set 1 (.string ⟨(smallL ns[k]).toArray⟩), ((((Below.refl _ _).alloc (Nat.le_refl _) _).trans (hb2a.mono (by simp))).setCell (Nat.le_refl _) _).setCell (Nat.le_refl _) _, Nat.le_refl _⟩ : KeyAt wr ((w2.setCell ⟨wr.heap.size, 0, none⟩ (.bool d.cls)).setCell ⟨wr.heap.size, 1, none⟩ (.string ⟨(smallL ns[k]).toArray⟩)) wr.heap.size d.cls (smallL ns[k]))
             generalize (w2.setCell ⟨wr.heap.size, 0, none⟩ (.bool d.cls)).setCell ⟨wr.heap.size, 1, none⟩ (.string ⟨(smallL ns[k]).toArray⟩) = W4 at *
             clear kk2 kf0 kf1 kc0 kc1 hb2a
             generalize wr.heap.size = kb at HK ⊢)
          clear hb2 cp2
          have cs4 : W4.cell? ⟨s, 1, none⟩ = some (.map (some m)) := ((AJ.out.mods.bk HS1.out (by simpa using HSM.out)).below HK.out.bel).cell 1
          have ck0 : W4.cell? ⟨kb, 0, none⟩ = some (.bool d.cls) := HK.out.bk.cell 0
          have ck1 : W4.cell? ⟨kb, 1, none⟩ = some (.string ⟨(smallL ns[k]).toArray⟩) := HK.out.bk.cell 1
          obtain ⟨es, cl, hmm, hM⟩ := AJ.out.map
          have hm4 : W4.heap[m]? = some (.map es cl) := (HK.out.bel.block m (Array.getElem?_eq_some_iff.1 hmm).1).trans hmm
          have hrest := AJ.out.rest
          rw [List.drop_eq_getElem_cons hlt, List.map_cons] at hrest
          obtain ⟨l1, l2⟩ := keysJ_look hS.len p ((ns.take k).map fun n => (d.cls, smallL n)) (d.cls, smallL ns[k])
          have hlk := look_kvS W4.drew m cl es _ hm4 hM (d.cls, smallL ns[k])
          unfold kvS at hlk
          cases hcon : (L.flatMap DefS.keys ++ (ns.take k).map fun n => (d.cls, smallL n)).contains (d.cls, smallL ns[k])
          · have hup := update_kvS W4.drew.drew m cl es _ hm4 hM (d.cls, smallL ns[k]) (ptrV p) (l1 hcon)
            rw [l1 hcon] at hlk
            rw [okPut_step hcon] at hrest
            obtain ⟨W6, es6, c6, hu6, hm6, hM6, hg6⟩ := hup
            have hmlt := (Array.getElem?_eq_some_iff.1 hmm).1
            have hkm : kb ≠ m := by have := HK.out.ge; omega
            have cs6 : W6.cell? ⟨s, 1, none⟩ = some (.map (some m)) := hg6.cell cs4 (by simpa using HSM.out)
            have ck60 : W6.cell? ⟨kb, 0, none⟩ = some (.bool d.cls) := hg6.cell ck0 (by simpa using hkm)
            have ck61 : W6.cell? ⟨kb, 1, none⟩ = some (.string ⟨(smallL ns[k]).toArray⟩) := hg6.cell ck1 (by simpa using hkm)
            have hmods : Mods [m] w1 W6 := (AJ.out.mods.trans (Mods.of_below HK.out.bel _)).drew.drew.trans (Mods.of_grown hg6 (List.mem_singleton_self m))
            have hmap : ∃ es cl, W6.heap[m]? = some (.map es cl) ∧ MapR kvS es (keysJ ps L p ((ns.take (k + 1)).map fun n => (d.cls, smallL n))) := by
              rw [List.take_succ_eq_append_getElem hlt, List.map_append, List.map_cons, List.map_nil, keysJ_snoc]
              exact ⟨_, _, hm6, hM6⟩
            have hrest2 : okPut (L.flatMap DefS.keys ++ (ns.take (k + 1)).map fun n => (d.cls, smallL n)) ((ns.drop (k + 1)).map fun n => (d.cls, smallL n)) = R := by
              rw [List.take_succ_eq_append_getElem hlt, List.map_append, List.map_cons, List.map_nil, ← List.append_assoc]
              exact hrest
            have HJ2 := Lib.hid (⟨hmap, hmods, hrest2⟩ : PJ w1 m p ps L d.cls ns R W6 (k + 1))
            clear hmods hmap hrest2 hkm hmlt hg6
            clear hrest hm6 hM6 hcon l1 l2 hM hmm hm4
            simp only [Option.getD_none] at hlk
            unfold ptrV at hu6
            go_wp2_with fail
            go_region_held3 (fun w' => w'.cell? ⟨s, 1, none⟩ = some (.map (some m)) ∧ w'.cell? ⟨kb, 0, none⟩ = some (.bool d.cls) ∧ w'.cell? ⟨kb, 1, none⟩ = some (.string ⟨(smallL ns[k]).toArray⟩)) (exact ⟨cs4, ck0, ck1⟩) (fail)
            go_wp2_with fail
            go_region_held3 (fun w' => w'.cell? ⟨s, 1, none⟩ = some (.map (some m)) ∧ w'.cell? ⟨kb, 0, none⟩ = some (.bool d.cls) ∧ w'.cell? ⟨kb, 1, none⟩ = some (.string ⟨(smallL ns[k]).toArray⟩)) (first | exact ⟨cs4, ck0, ck1⟩ | exact ⟨cs6, ck60, ck61⟩) (fail)
            go_wp2_with fail
            go_roundg q
            case measure => omega
            case rel => exact ⟨k + 1, by omega, by go_num, by have := AG.out; show _ = _; omega, HJ2.out⟩
          · obtain ⟨qp, hqp⟩ := l2 hcon
            rw [hqp] at hlk
            rw [okPut_stop hcon] at hrest
            have HREST := Lib.hid hrest
            have hBW : Below B w W4.drew := by
              have h1 := HB1.out
              have h2 : Below B w1 wr := AJ.out.mods.below (Nat.le_trans hB0 h1.size) (by intro x hx; simp at hx; rw [hx]; exact hS.new.2)
              exact (((h1.mono hB0).trans h2).trans (HK.out.bel.mono (Nat.le_trans (Nat.le_trans hB0 h1.size) AJ.out.mods.size))).drew
            have HBW := Lib.hid hBW
            clear hrest hcon l1 l2 hM hmm hm4 hqp hBW
            simp only [Option.getD_some] at hlk
            unfold ptrV at hlk
            go_wp2_with fail
            go_region_held3 (fun w' => w'.cell? ⟨s, 1, none⟩ = some (.map (some m)) ∧ w'.cell? ⟨kb, 0, none⟩ = some (.bool d.cls) ∧ w'.cell? ⟨kb, 1, none⟩ = some (.string ⟨(smallL ns[k]).toArray⟩)) (exact ⟨cs4, ck0, ck1⟩) (fail)
            go_wp2_with fail
            go_ret
            unfold PutRet
            rw [HR.out, ← HREST.out]
            exact ⟨HBW.out, rfl⟩
      · obtain rfl : k = ns.length := by omega
        have hR1 : R = true := by rw [← AJ.out.rest, List.drop_length]; rfl
        have HR1 := Lib.hid hR1
        have hs2 := AJ.out.mods.bk HS1.out (by simpa using HSM.out)
        have cs0 : wr.cell? ⟨s, 0, none⟩ = some (.slice Al ps.length cl1) := hs2.cell 0
        obtain ⟨es1, cl2, hm2, hM2⟩ := AJ.out.map
        obtain ⟨esw, clw, hmw⟩ := HMW.out
        have ho1 := HOWN.out.below HB1.out
        have ho2 : OwnP B wr (.slice Al ps.length cl1) ps := ho1.keep (r := some m) ⟨AJ.out.mods.os, AJ.out.mods.tape, AJ.out.mods.output, AJ.out.mods.size, fun j hj hne => AJ.out.mods.block j hj (by intro hx; apply hne; simp at hx; rw [hx])⟩ (fun j hj he => by
          cases he
          obtain ⟨cs, hcs⟩ := ho1.ty hj
          exact map_ne hmw hcs rfl)
        have hslt := hs2.lt
        have HS2 := Lib.hid hs2
        have HO2 := Lib.hid ho2
        have HM2 := Lib.hid (And.intro hm2 hM2)
        have hpl : ps.length < 4398046511104 := hpsl
        have hbr : Below B w wr := ((HB1.out.mono hB0).trans (AJ.out.mods.below (Nat.le_trans hB0 HB1.out.size) (by intro x hx; simp at hx; rw [hx]; exact hS.new.2)))
        have HBR := Lib.hid hbr
        clear hm2 hM2 hmw ho1 ho2 hs2 hR1 hbr
        go_wp2_with (at_builtin; refine ptr_one (v := .slice Al ps.length cl1) (p := p) rfl _ _ rfl rfl HO2.out rfl rfl hpl ?_; intro v7 w7 hO7 hg7; have hne7 : (Value.slice Al ps.length cl1).ownBlock ≠ some s := (fun he => by obtain ⟨cs, hcs⟩ := HO2.out.ty he; exact bk_ne hcs HS2.out (by decide) rfl); have hs7 := HS2.out.grown hg7 (Ne.symm hne7); have cs7 : w7.cell? ⟨s, 0, none⟩ = some (.slice Al ps.length cl1) := hs7.cell 0; have fs7 := hs7.frozen 0; obtain ⟨A7, c7, rfl, hc7⟩ := hO7.isSlice)
        go_ret
        unfold PutRet
        rw [HR.out, HR1.out]
        have hl1 : (ps ++ [p]).length = ps.length + 1 := by simp
        rw [hl1] at hO7
        obtain ⟨hm2, hM2⟩ := HM2.out
        obtain ⟨esw, clw, hmw⟩ := HMW.out
        have hs8 : Bk (w7.setCell ⟨s, 0, none⟩ (.slice A7 (ps.length + 1) c7)) s 53 #[.slice A7 (ps.length + 1) c7, .map (some m)] := by simpa using hs7.set 0 (.slice A7 (ps.length + 1) c7)
        have hb7 : Below B w w7 := OwnP.bel HBR.out HO2.out hg7
        have hom : (Value.slice Al ps.length cl1).ownBlock ≠ some m := fun he => by
          obtain ⟨cs, hcs⟩ := HO2.out.ty he
          exact map_ne hm2 hcs rfl
        have hm7 : w7.heap[m]? = some (.map es1 cl2) := (hg7.block m (Array.getElem?_eq_some_iff.1 hm2).1 (Ne.symm hom)).trans hm2
        have hkeep : ∀ q e, DefAt w q e → DefAt (w7.setCell ⟨s, 0, none⟩ (.slice A7 (ps.length + 1) c7)) q e := by
          intro q e hq
          have q1 := hq.below HB1.out
          obtain ⟨_, _, _, _, qb1⟩ := q1.bk
          have q2 := q1.mods AJ.out.mods (by simpa using map_ne hmw qb1) (NoText.of_map hmw)
          obtain ⟨_, _, _, _, qb2⟩ := q2.bk
          have q3 : DefAt w7 q e := by
            rcases hv : (Value.slice Al ps.length cl1).ownBlock with _ | g7
            · rw [hv] at hg7
              exact q2.below ⟨hg7.os, hg7.tape, hg7.output, hg7.size, fun j hj => hg7.block j hj (by simp)⟩
            · rw [hv] at hg7
              obtain ⟨cs, hcs⟩ := HO2.out.ty hv
              refine q2.mods (Mods.of_grown hg7 (List.mem_singleton_self _)) (by simpa using (bk_ne qb2 hcs (by decide))) ?_
              exact HO2.out.notext hv
          obtain ⟨_, _, _, _, qb3⟩ := q3.bk
          refine q3.mods ((Mods.refl [s] w7).setCell (List.mem_singleton_self s) _) (by simpa using (bk_ne qb3 hs7 (by decide))) ?_
          intro x hx u hu
          have : x = s := by simpa using hx
          subst this
          rw [cs7] at hu
          cases hu
        have hkeepT : ∀ v xs, Texts w v xs → Texts (w7.setCell ⟨s, 0, none⟩ (.slice A7 (ps.length + 1) c7)) v xs := by
          intro v xs hq
          have q1 := hq.below HB1.out
          have q2 := q1.mods AJ.out.mods (NoText.of_map hmw)
          have q3 : Texts w7 v xs := by
            rcases hv : (Value.slice Al ps.length cl1).ownBlock with _ | g7
            · rw [hv] at hg7
              exact q2.below ⟨hg7.os, hg7.tape, hg7.output, hg7.size, fun j hj => hg7.block j hj (by simp)⟩
            · rw [hv] at hg7
              exact q2.mods (Mods.of_grown hg7 (List.mem_singleton_self _)) (HO2.out.notext hv)
          refine q3.mods ((Mods.refl [s] w7).setCell (List.mem_singleton_self s) _) ?_
          intro x hx u hu
          have : x = s := by simpa using hx
          subst this
          rw [cs7] at hu
          cases hu
        have ho8 : OwnP B (w7.setCell ⟨s, 0, none⟩ (.slice A7 (ps.length + 1) c7)) (.slice A7 (ps.length + 1) c7) (ps ++ [p]) := hO7.keep (setCell_grown w7 s 0 _) (fun j hj he => by
          cases he
          obtain ⟨cs, hcs⟩ := hO7.ty hj
          exact bk_ne hcs hs7 (by decide) rfl)
        have hmap : (w7.setCell ⟨s, 0, none⟩ (.slice A7 (ps.length + 1) c7)).heap[m]? = some (.map es1 cl2) := (Below.heap_setCell _ _ _ _ HSM.out.symm).trans hm7
        have hkr : keysR (ps ++ [p]) (L ++ [d]) = keysJ ps L p (ns.map fun n => (d.cls, smallL n)) := by
          rw [keysR_snoc ps L p d hS.len, HKE.out]
          rfl
        rw [List.take_length] at hM2
        refine ⟨hb7.setCell hS.new.1 _, rfl, ⟨⟨_, hs8, ho8⟩, ⟨_, _, hmap, by rw [hkr]; exact hM2⟩, by simp [hS.len], ?_, ?_, hS.new⟩, hkeepT⟩
        · rw [List.nodup_append]
          exact ⟨hS.nodup, by simp, fun a ha b hb => by
            have : b = p := by simpa using hb
            subst this
            rintro rfl
            exact hpn ha⟩
        · intro i q e hq he
          rw [List.getElem?_append] at hq he
          rw [hS.len] at hq
          split at hq
          · next hi =>
            rw [if_pos hi] at he
            exact hkeep q e (hS.defs i q e hq he)
          · next hi =>
            rw [if_neg hi] at he
            cases hj : i - L.length with
            | zero =>
              rw [hj] at hq he
              simp at hq he
              subst hq he
              exact hkeep _ _ hd0.out
            | succ j =>
              rw [hj] at hq
              simp at hq
end Go.Proofs.YtcjobpcbppcdnaaGreatDoor
/- Contracts: whether all that a definition names is there. -/
set_option linter.unusedSimpArgs false
namespace Go.Proofs.YtcjobpcbppcdnaaGreatDoor
open Go.RowKit

theorem SchB.at {B : Nat} {w : World} {s m : Nat} {ps : List Nat} {L : List DefS} (h : SchB B w s m ps L) : SchAt w s ps L := by
  obtain ⟨⟨lv, h1, h2⟩, ⟨es, c, h3, h4⟩, h5, h6, h7, _⟩ := h
  exact ⟨⟨lv, m, es, c, h1, h2.reads, h3, h4⟩, h5, h6, h7⟩
set_option maxRecDepth 100000 in
set_option maxHeartbeats 1000000 in
theorem unk_c (bs bc s : Nat) (ps : List Nat) (L : List DefS) (c : Bool) (x : List UInt8) (w : World) (hS : SchAt w s ps L) (h1 : w.cell? ⟨bs, 0, none⟩ = some (ptrV s)) (h2 : w.cell? ⟨bc, 0, none⟩ = some (.bool c)) (hx : x.length ≤ 1000000) :
    Calls Tryz.prog 55 #[.string ⟨x.toArray⟩, ptrV bs, ptrV bc] w fun e w' => e = .returned (.bool (findD L c x).isNone) ∧ Below w.heap.size w w' := by
  have HF := Lib.hid (find_c s ps L c x w hS hx)
  have h1' : w.cell? ⟨bs, 0, none⟩ = some (.pointer (some ⟨s, 0, none⟩)) := h1
  clear hS h1
  unfold ptrV at HF ⊢
  cases hf : findD L c x
  all_goals
    rw [hf] at HF
    unfold findV at HF
    simp only [ptrV] at HF
    go_enter Tryz.func55, Tryz.ntmps55
    go_wp2_with (go_at_call 29; refine HF.out.mono ?_; rintro e w1 ⟨rfl, hb⟩)
    go_ret
    exact ⟨rfl, hb⟩
set_option maxRecDepth 100000 in
set_option maxHeartbeats 1000000 in
theorem knownFn_c (bs : Nat) (c : Bool) (w : World) :
    Calls Tryz.prog 54 #[.bool c, .pointer (some ⟨bs, 0, none⟩)] w fun e w' => e = .returned (.func (.func 55) #[] #[.pointer (some ⟨bs, 0, none⟩), .pointer (some ⟨w.heap.size, 0, none⟩)]) ∧ w' = w.alloc (.cells #[.bool c] 4) := by
  have hmf : ∀ (fn : Fn) (first cap : Array Value) (w : World), (Instr.makeFunc fn first cap).run Tryz.prog w = .ok (.func fn first cap) w := fun _ _ _ _ => rfl
  go_enter Tryz.func54, Tryz.ntmps54
  go_wp2_with fail
  go_ret
  exact ⟨rfl, rfl⟩
/-- Some name of a list is unknown. -/
def unkD (L : List DefS) (c : Bool) (xs : List (List UInt8)) : Bool := xs.any fun n => (findD L c n).isNone
theorem unks_c (bs bc s : Nat) (ps : List Nat) (L : List DefS) (c : Bool) (xs : List (List UInt8)) (v : Value) (w : World) (hv : Texts w v xs) (hS : SchAt w s ps L) (h1 : w.cell? ⟨bs, 0, none⟩ = some (ptrV s)) (h2 : w.cell? ⟨bc, 0, none⟩ = some (.bool c)) (hx : xs.length ≤ 1000000 ∧ ∀ x ∈ xs, x.length ≤ 1000000) :
    Calls Tryz.prog 56 #[v, .func (.func 55) #[] #[ptrV bs, ptrV bc]] w fun e w' => e = .returned (.bool (unkD L c xs)) ∧ Below w.heap.size w w' :=
  ContainsFuncS_c 55 #[ptrV bs, ptrV bc] xs v w hv hx.1 (fun n => (findD L c n).isNone)
    ⟨fun x hxx W hb => unk_c bs bc s ps L c x W (hS.below hb) ((hb.cell (p := ⟨bs, 0, none⟩) (cell_lt h1)).trans h1) ((hb.cell (p := ⟨bc, 0, none⟩) (cell_lt h2)).trans h2) (hx.2 x hxx), fun _ _ => by kernel_rfl⟩
theorem knownD_eq (L : List DefS) (d : DefS) : knownD L d = (!unkD L d.cls d.sup && !unkD L false d.must && !unkD L false d.may) := by
  unfold knownD unkD
  have h : ∀ (c : Bool) (xs : List (List UInt8)), xs.all (fun n => (findD L c n).isSome) = !(xs.any fun n => (findD L c n).isNone) := by
    intro c xs
    induction xs with
    | nil => rfl
    | cons x xs ih =>
      rw [List.all_cons, List.any_cons, ih]
      cases findD L c x <;> simp
  rw [h, h, h]
set_option maxRecDepth 100000 in
set_option maxHeartbeats 4000000 in
theorem known_c (s p : Nat) (ps : List Nat) (L : List DefS) (d : DefS) (w : World) (hS : SchAt w s ps L) (hd : DefAt w p d) (hl : DefLim d) :
    Calls Tryz.prog 25 #[ptrV s, ptrV p] w fun e w' => e = .returned (.bool (knownD L d)) ∧ Below w.heap.size w w' := by
  rw [knownD_eq]
  have hmf : ∀ (fn : Fn) (first cap : Array Value) (w : World), (Instr.makeFunc fn first cap).run Tryz.prog w = .ok (.func fn first cap) w := fun _ _ _ _ => rfl
  obtain ⟨vn, vs, vm, vy, hB, _, t3, t4, t5⟩ := id hd
  obtain ⟨A3, n3, c3, rfl⟩ := t3.isSlice
  obtain ⟨A4, n4, c4, rfl⟩ := t4.isSlice
  obtain ⟨A5, n5, c5, rfl⟩ := t5.isSlice
  have KEEP : ∀ W, Below (w.heap.size + 1) (w.alloc (.cells #[.pointer (some ⟨s, 0, none⟩)] 27)) W → W.cell? ⟨p, 0, none⟩ = some (.bool d.cls) ∧ W.cell? ⟨p, 3, none⟩ = some (.slice A3 n3 c3) ∧ W.cell? ⟨p, 4, none⟩ = some (.slice A4 n4 c4) ∧ W.cell? ⟨p, 5, none⟩ = some (.slice A5 n5 c5) ∧ Below (w.heap.size + 1) (w.alloc (.cells #[.pointer (some ⟨s, 0, none⟩)] 27)) W := by
    intro W hb
    have hB2 := (hB.alloc (.cells #[.pointer (some ⟨s, 0, none⟩)] 27)).below (hb.mono (by simp))
    exact ⟨hB2.cell 0, hB2.cell 3, hB2.cell 4, hB2.cell 5, hb⟩
  have hba : Below w.heap.size w (w.alloc (.cells #[.pointer (some ⟨s, 0, none⟩)] 27)) := (Below.refl _ _).alloc (Nat.le_refl _) _
  have UNK : ∀ (c : Bool) (xs : List (List UInt8)) (v : Value), Texts w v xs → (xs.length ≤ 1000000 ∧ ∀ x ∈ xs, x.length ≤ 1000000) → ∀ (W : World) (bc : Nat), Below (w.heap.size + 1) (w.alloc (.cells #[.pointer (some ⟨s, 0, none⟩)] 27)) W → W.cell? ⟨bc, 0, none⟩ = some (.bool c) →
      Calls Tryz.prog 56 #[v, .func (.func 55) #[] #[.pointer (some ⟨w.heap.size, 0, none⟩), .pointer (some ⟨bc, 0, none⟩)]] W fun e w' => e = .returned (.bool (unkD L c xs)) ∧ Below W.heap.size W w' := by
    intro c xs v hv hx W bc hb hc
    have hb' : Below w.heap.size w W := hba.trans (hb.mono (by simp))
    refine unks_c w.heap.size bc s ps L c xs v W (hv.below hb') (hS.below hb') ?_ hc hx
    have := (Bk.new w 27 #[.pointer (some ⟨s, 0, none⟩)]).below (hb.mono (by simp))
    exact this.cell 0
  have U1 := UNK d.cls d.sup _ t3 hl.sup
  have U2 := UNK false d.must _ t4 hl.must
  have U3 := UNK false d.may _ t5 hl.may
  generalize unkD L d.cls d.sup = a1 at U1 ⊢
  generalize unkD L false d.must = a2 at U2 ⊢
  generalize unkD L false d.may = a3 at U3 ⊢
  have HU1 := Lib.hid U1
  have HU2 := Lib.hid U2
  have HU3 := Lib.hid U3
  have HK := Lib.hid KEEP
  have hk0 := KEEP _ (Below.refl _ _)
  have hk1 := hk0.1
  have hk2 := hk0.2.1
  have hk3 := hk0.2.2.1
  have hk4 := hk0.2.2.2.1
  clear UNK U1 U2 U3 KEEP t3 t4 t5 hB hd hS hl hk0
  unfold ptrV
  cases a1
  · cases a2
    · cases a3
      all_goals
        go_enter Tryz.func25, Tryz.ntmps25
        go_wp2_with fail
        go_region_held3 (fun W => W.cell? ⟨p, 0, none⟩ = some (.bool d.cls) ∧ W.cell? ⟨p, 3, none⟩ = some (.slice A3 n3 c3) ∧ W.cell? ⟨p, 4, none⟩ = some (.slice A4 n4 c4) ∧ W.cell? ⟨p, 5, none⟩ = some (.slice A5 n5 c5) ∧ Below (w.heap.size + 1) (w.alloc (.cells #[.pointer (some ⟨s, 0, none⟩)] 27)) W) (first | exact HK.out _ (Below.refl _ _) | exact HK.out _ (Below.refl _ _).drew | exact HK.out _ ((Below.refl _ _).alloc (by simp) _) | exact HK.out _ (((Below.refl _ _).alloc (by simp) _).drew) | exact HK.out _ hB2 | exact HK.out _ (hB2.alloc hz2 _) | exact HK.out _ hB3 | exact HK.out _ (hB3.alloc hz3 _) | (exact HK.out _ hB4) | fail) (first
              | (go_at_call 54; (with_reducible refine (knownFn_c _ _ _).mono ?_); rintro e w' ⟨rfl, rfl⟩)
              | (go_at_call 56; (with_reducible refine (HU1.out _ _ (((Below.refl _ _).alloc (by simp) _).drew) (by simp)).mono ?_); rintro e w2 ⟨rfl, hb2⟩; have hB2 : Below (w.heap.size + 1) (w.alloc (.cells #[.pointer (some ⟨s, 0, none⟩)] 27)) w2 := ((Below.refl _ _).alloc (by simp) _).drew.trans (hb2.mono (by simp)); have hz2 : w.heap.size + 1 ≤ w2.heap.size := (by have := hB2.size; simpa using this))
              | (go_at_call 56; (with_reducible refine (HU2.out _ _ (hB2.alloc hz2 _) (by simp)).mono ?_); rintro e w3 ⟨rfl, hb3⟩; have hB3 : Below (w.heap.size + 1) (w.alloc (.cells #[.pointer (some ⟨s, 0, none⟩)] 27)) w3 := (hB2.alloc hz2 _).trans (hb3.mono (by simp; omega)); have hz3 : w.heap.size + 1 ≤ w3.heap.size := (by have := hB3.size; simpa using this))
              | (go_at_call 56; (with_reducible refine (HU3.out _ _ (hB3.alloc hz3 _) (by simp)).mono ?_); rintro e w4 ⟨rfl, hb4⟩; have hB4 : Below (w.heap.size + 1) (w.alloc (.cells #[.pointer (some ⟨s, 0, none⟩)] 27)) w4 := (hB3.alloc hz3 _).trans (hb4.mono (by simp; omega))))
        all_goals
          go_wp2_with fail
          go_ret
          exact ⟨rfl, hba.trans (hB4.mono (by simp))⟩
    · clear HU3
      go_enter Tryz.func25, Tryz.ntmps25
      go_wp2_with fail
      refine wp_region_noPanic ?_
      refine wp_region_held_drew (S := (fun W => W.cell? ⟨p, 0, none⟩ = some (.bool d.cls) ∧ W.cell? ⟨p, 3, none⟩ = some (.slice A3 n3 c3) ∧ W.cell? ⟨p, 4, none⟩ = some (.slice A4 n4 c4) ∧ W.cell? ⟨p, 5, none⟩ = some (.slice A5 n5 c5) ∧ Below (w.heap.size + 1) (w.alloc (.cells #[.pointer (some ⟨s, 0, none⟩)] 27)) W)) (by kernel_rfl) ?_ (fun hHeld => ?_)
      · exact HK.out _ (Below.refl _ _).drew
      refine wpAnyH_take (i := 0) (v := ?v0) rfl (by kernel_rfl) (by kernel_rfl) (by kernel_rfl) (fun _ _ _ h => h) (Or.inl ⟨by rfl, ?y0⟩) hHeld ?_
      case y0 => (intro w hSw; (try dsimp only at hSw); go_simp; first | done | (with_reducible rfl))
      simp only [List.getElem_toArray, List.getElem_cons_zero, List.getElem_cons_succ, Act.put, List.setIfInBounds_toArray, List.set_cons_zero, List.set_cons_succ]
      refine wpAnyH_take (i := 1) (v := ?v1) rfl (by kernel_rfl) (by kernel_rfl) (by kernel_rfl) (fun _ _ _ h => h) (Or.inl ⟨by rfl, ?y1⟩) hHeld ?_
      case y1 => (intro w hSw; (try dsimp only at hSw); go_simp; first | done | (with_reducible rfl))
      simp only [List.getElem_toArray, List.getElem_cons_zero, List.getElem_cons_succ, Act.put, List.setIfInBounds_toArray, List.set_cons_zero, List.set_cons_succ]
      refine wpAnyH_take (i := 2) (v := ?v2) rfl (by kernel_rfl) (by kernel_rfl) (by kernel_rfl) (fun _ _ _ h => h) (Or.inl ⟨by rfl, ?y2⟩) hHeld ?_
      case y2 => (intro w hSw; (try dsimp only at hSw); go_simp; first | done | (with_reducible rfl))
      simp only [List.getElem_toArray, List.getElem_cons_zero, List.getElem_cons_succ, Act.put, List.setIfInBounds_toArray, List.set_cons_zero, List.set_cons_succ]
      refine wpAnyH_take (i := 3) (v := ?v3) rfl (by kernel_rfl) (by kernel_rfl) (by kernel_rfl) (fun _ _ _ h => h) (Or.inl ⟨by rfl, ?y3⟩) hHeld ?_
      case y3 => (intro w hSw; (try dsimp only at hSw); go_simp; first | done | (with_reducible rfl))
      simp only [List.getElem_toArray, List.getElem_cons_zero, List.getElem_cons_succ, Act.put, List.setIfInBounds_toArray, List.set_cons_zero, List.set_cons_succ]
      refine wpAnyH_take (i := 4) (v := ?v4) rfl (by kernel_rfl) (by kernel_rfl) (by kernel_rfl) (fun _ _ _ h => h) (Or.inl ⟨by rfl, ?y4⟩) hHeld ?_
      case y4 => (intro w hSw; (try dsimp only at hSw); go_simp; first | done | (with_reducible rfl))
      simp only [List.getElem_toArray, List.getElem_cons_zero, List.getElem_cons_succ, Act.put, List.setIfInBounds_toArray, List.set_cons_zero, List.set_cons_succ]
      refine wpAnyH_take (i := 5) (v := ?v5) rfl (by kernel_rfl) (by kernel_rfl) (by kernel_rfl) (fun _ _ _ h => h) (Or.inl ⟨by rfl, ?y5⟩) hHeld ?_
      case y5 => (intro w hSw; (try dsimp only at hSw); go_simp; first | done | (with_reducible rfl))
      simp only [List.getElem_toArray, List.getElem_cons_zero, List.getElem_cons_succ, Act.put, List.setIfInBounds_toArray, List.set_cons_zero, List.set_cons_succ]
      refine wpAnyH_take (i := 6) (v := ?v6) rfl (by kernel_rfl) (by kernel_rfl) (by kernel_rfl) (fun _ _ _ h => h) (Or.inl ⟨by rfl, ?y6⟩) hHeld ?_
      case y6 => (intro w hSw; (try dsimp only at hSw); go_simp; first | done | (with_reducible rfl))
      simp only [List.getElem_toArray, List.getElem_cons_zero, List.getElem_cons_succ, Act.put, List.setIfInBounds_toArray, List.set_cons_zero, List.set_cons_succ]
      refine wpAnyH_take (i := 7) (v := ?v7) rfl (by kernel_rfl) (by kernel_rfl) (by kernel_rfl) (fun _ _ _ h => h) (Or.inl ⟨by rfl, ?y7⟩) hHeld ?_
      case y7 => (intro w hSw; (try dsimp only at hSw); go_simp; first | done | (with_reducible rfl))
      simp only [List.getElem_toArray, List.getElem_cons_zero, List.getElem_cons_succ, Act.put, List.setIfInBounds_toArray, List.set_cons_zero, List.set_cons_succ]
      refine wpAnyH_take (i := 8) (v := ?v8) rfl (by kernel_rfl) (by kernel_rfl) (by kernel_rfl) (fun _ _ _ h => h) (Or.inl ⟨by rfl, ?y8⟩) hHeld ?_
      case y8 => (intro w hSw; (try dsimp only at hSw); go_simp; first | done | (with_reducible rfl))
      simp only [List.getElem_toArray, List.getElem_cons_zero, List.getElem_cons_succ, Act.put, List.setIfInBounds_toArray, List.set_cons_zero, List.set_cons_succ]
      refine wpAnyH_ready (rs := [9]) (by kernel_rfl) (by simp) ?_
      refine AllReadyH.cons rfl (fun K hK => ?_) AllReadyH.nil
      go_simp
      (refine (knownFn_c _ _ _).mono ?_; rintro e w' ⟨rfl, rfl⟩)
      (try go_wp2_with fail)
      refine hK.out _ _ ?_ (fun hHeld => ?_)
      · exact HK.out _ (((Below.refl _ _).alloc (by simp) _).drew)
      clear hK K
      try simp only [List.getElem_toArray, List.getElem_cons_zero, List.getElem_cons_succ, Act.put, List.setIfInBounds_toArray, List.set_cons_zero, List.set_cons_succ]
      refine wpAnyH_ready (rs := [10]) (by kernel_rfl) (by simp) ?_
      refine AllReadyH.cons rfl (fun K hK => ?_) AllReadyH.nil
      go_simp
      (refine (HU1.out _ _ (((Below.refl _ _).alloc (by simp) _).drew) (by simp)).mono ?_; rintro e w2 ⟨rfl, hb2⟩; have hB2 : Below (w.heap.size + 1) (w.alloc (.cells #[.pointer (some ⟨s, 0, none⟩)] 27)) w2 := ((Below.refl _ _).alloc (by simp) _).drew.trans (hb2.mono (by simp)); have hz2 : w.heap.size + 1 ≤ w2.heap.size := (by have := hB2.size; simpa using this))
      (try go_wp2_with fail)
      refine hK.out _ _ ?_ (fun hHeld => ?_)
      · exact HK.out _ hB2
      clear hK K
      try simp only [List.getElem_toArray, List.getElem_cons_zero, List.getElem_cons_succ, Act.put, List.setIfInBounds_toArray, List.set_cons_zero, List.set_cons_succ]
      refine wpAnyH_take (i := 11) (v := ?v11) rfl (by kernel_rfl) (by kernel_rfl) (by kernel_rfl) (fun _ _ _ h => h) (Or.inl ⟨by rfl, ?y11⟩) hHeld ?_
      case y11 => (intro w hSw; (try dsimp only at hSw); go_simp; first | done | (with_reducible rfl))
      simp only [List.getElem_toArray, List.getElem_cons_zero, List.getElem_cons_succ, Act.put, List.setIfInBounds_toArray, List.set_cons_zero, List.set_cons_succ]
      refine wpAnyH_take (i := 12) (v := ?v12) rfl (by kernel_rfl) (by kernel_rfl) (by kernel_rfl) (fun _ _ _ h => h) (Or.inl ⟨by rfl, ?y12⟩) hHeld ?_
      case y12 => (intro w hSw; (try dsimp only at hSw); go_simp; first | done | (with_reducible rfl))
      simp only [List.getElem_toArray, List.getElem_cons_zero, List.getElem_cons_succ, Act.put, List.setIfInBounds_toArray, List.set_cons_zero, List.set_cons_succ]
      refine wpAnyH_take (i := 13) (v := ?v13) rfl (by kernel_rfl) (by kernel_rfl) (by kernel_rfl) (fun _ _ _ h => h) (Or.inl ⟨by rfl, ?y13⟩) hHeld ?_
      case y13 => (intro w hSw; (try dsimp only at hSw); go_simp; first | done | (with_reducible rfl))
      simp only [List.getElem_toArray, List.getElem_cons_zero, List.getElem_cons_succ, Act.put, List.setIfInBounds_toArray, List.set_cons_zero, List.set_cons_succ]
      refine wpAnyH_take (i := 14) (v := ?v14) rfl (by kernel_rfl) (by kernel_rfl) (by kernel_rfl) (fun _ _ _ h => h) (Or.inl ⟨by rfl, ?y14⟩) hHeld ?_
      case y14 => (intro w hSw; (try dsimp only at hSw); go_simp; first | done | (with_reducible rfl))
      simp only [List.getElem_toArray, List.getElem_cons_zero, List.getElem_cons_succ, Act.put, List.setIfInBounds_toArray, List.set_cons_zero, List.set_cons_succ]
      refine wpAnyH_take (i := 15) (v := ?v15) rfl (by kernel_rfl) (by kernel_rfl) (by kernel_rfl) (fun _ _ _ h => h) (Or.inl ⟨by rfl, ?y15⟩) hHeld ?_
      case y15 => (intro w hSw; (try dsimp only at hSw); go_simp; first | done | (with_reducible rfl))
      simp only [List.getElem_toArray, List.getElem_cons_zero, List.getElem_cons_succ, Act.put, List.setIfInBounds_toArray, List.set_cons_zero, List.set_cons_succ]
      refine wpAnyH_take (i := 16) (v := ?v16) rfl (by kernel_rfl) (by kernel_rfl) (by kernel_rfl) (fun _ _ _ h => h) (Or.inl ⟨by rfl, ?y16⟩) hHeld ?_
      case y16 => (intro w hSw; (try dsimp only at hSw); go_simp; first | done | (with_reducible rfl))
      simp only [List.getElem_toArray, List.getElem_cons_zero, List.getElem_cons_succ, Act.put, List.setIfInBounds_toArray, List.set_cons_zero, List.set_cons_succ]
      refine wpAnyH_take (i := 17) (v := ?v17) rfl (by kernel_rfl) (by kernel_rfl) (by kernel_rfl) (fun _ _ _ h => h) (Or.inl ⟨by rfl, ?y17⟩) hHeld ?_
      case y17 => (intro w hSw; (try dsimp only at hSw); go_simp; first | done | (with_reducible rfl))
      simp only [List.getElem_toArray, List.getElem_cons_zero, List.getElem_cons_succ, Act.put, List.setIfInBounds_toArray, List.set_cons_zero, List.set_cons_succ]
      refine wpAnyH_ready (rs := [18]) (by kernel_rfl) (by simp) ?_
      refine AllReadyH.cons rfl (fun K hK => ?_) AllReadyH.nil
      go_simp
      (refine (knownFn_c _ _ _).mono ?_; rintro e w' ⟨rfl, rfl⟩)
      (try go_wp2_with fail)
      refine hK.out _ _ ?_ (fun hHeld => ?_)
      · exact HK.out _ (hB2.alloc hz2 _)
      clear hK K
      try simp only [List.getElem_toArray, List.getElem_cons_zero, List.getElem_cons_succ, Act.put, List.setIfInBounds_toArray, List.set_cons_zero, List.set_cons_succ]
      refine wpAnyH_ready (rs := [19]) (by kernel_rfl) (by simp) ?_
      refine AllReadyH.cons rfl (fun K hK => ?_) AllReadyH.nil
      go_simp
      (refine (HU2.out _ _ (hB2.alloc hz2 _) (by simp)).mono ?_; rintro e w3 ⟨rfl, hb3⟩; have hB3 : Below (w.heap.size + 1) (w.alloc (.cells #[.pointer (some ⟨s, 0, none⟩)] 27)) w3 := (hB2.alloc hz2 _).trans (hb3.mono (by simp; omega)))
      (try go_wp2_with fail)
      refine hK.out _ _ ?_ (fun hHeld => ?_)
      · exact HK.out _ hB3
      clear hK K
      try simp only [List.getElem_toArray, List.getElem_cons_zero, List.getElem_cons_succ, Act.put, List.setIfInBounds_toArray, List.set_cons_zero, List.set_cons_succ]
      refine wpAnyH_take (i := 20) (v := .bool false) rfl (by kernel_rfl) (by kernel_rfl) (by kernel_rfl) (fun _ _ _ h => h) (Or.inl ⟨by rfl, ?y20⟩) hHeld ?_
      case y20 => (intro w hSw; (try dsimp only at hSw); go_simp; first | done | (with_reducible rfl))
      simp only [List.getElem_toArray, List.getElem_cons_zero, List.getElem_cons_succ, Act.put, List.setIfInBounds_toArray, List.set_cons_zero, List.set_cons_succ]
      refine wpAnyH_take (i := 21) (v := ?v21) rfl (by kernel_rfl) (by kernel_rfl) (by kernel_rfl) (fun _ _ _ h => h) (Or.inl ⟨by rfl, ?y21⟩) hHeld ?_
      case y21 => (intro w hSw; (try dsimp only at hSw); go_simp; first | done | (with_reducible rfl))
      simp only [List.getElem_toArray, List.getElem_cons_zero, List.getElem_cons_succ, Act.put, List.setIfInBounds_toArray, List.set_cons_zero, List.set_cons_succ]
      refine wpAnyH_take (i := 22) (v := ?v22) rfl (by kernel_rfl) (by kernel_rfl) (by kernel_rfl) (fun _ _ _ h => h) (Or.inl ⟨by rfl, ?y22⟩) hHeld ?_
      case y22 => (intro w hSw; (try dsimp only at hSw); go_simp; first | done | (with_reducible rfl))
      simp only [List.getElem_toArray, List.getElem_cons_zero, List.getElem_cons_succ, Act.put, List.setIfInBounds_toArray, List.set_cons_zero, List.set_cons_succ]
      refine wpAnyH_take (i := 23) (v := undef) rfl (by kernel_rfl) (by kernel_rfl) (by kernel_rfl) (fun _ _ _ h => h) (Or.inr ⟨by rfl, rfl⟩) hHeld ?_
      simp only [List.getElem_toArray, List.getElem_cons_zero, List.getElem_cons_succ, Act.put, List.setIfInBounds_toArray, List.set_cons_zero, List.set_cons_succ]
      refine wpAnyH_take (i := 24) (v := undef) rfl (by kernel_rfl) (by kernel_rfl) (by kernel_rfl) (fun _ _ _ h => h) (Or.inr ⟨by rfl, rfl⟩) hHeld ?_
      simp only [List.getElem_toArray, List.getElem_cons_zero, List.getElem_cons_succ, Act.put, List.setIfInBounds_toArray, List.set_cons_zero, List.set_cons_succ]
      refine wpAnyH_take (i := 25) (v := undef) rfl (by kernel_rfl) (by kernel_rfl) (by kernel_rfl) (fun _ _ _ h => h) (Or.inr ⟨by rfl, rfl⟩) hHeld ?_
      simp only [List.getElem_toArray, List.getElem_cons_zero, List.getElem_cons_succ, Act.put, List.setIfInBounds_toArray, List.set_cons_zero, List.set_cons_succ]
      refine wpAnyH_take (i := 26) (v := undef) rfl (by kernel_rfl) (by kernel_rfl) (by kernel_rfl) (fun _ _ _ h => h) (Or.inr ⟨by rfl, rfl⟩) hHeld ?_
      simp only [List.getElem_toArray, List.getElem_cons_zero, List.getElem_cons_succ, Act.put, List.setIfInBounds_toArray, List.set_cons_zero, List.set_cons_succ]
      refine wpAnyH_take (i := 27) (v := undef) rfl (by kernel_rfl) (by kernel_rfl) (by kernel_rfl) (fun _ _ _ h => h) (Or.inr ⟨by rfl, rfl⟩) hHeld ?_
      simp only [List.getElem_toArray, List.getElem_cons_zero, List.getElem_cons_succ, Act.put, List.setIfInBounds_toArray, List.set_cons_zero, List.set_cons_succ]
      refine wpAnyH_take (i := 28) (v := undef) rfl (by kernel_rfl) (by kernel_rfl) (by kernel_rfl) (fun _ _ _ h => h) (Or.inr ⟨by rfl, rfl⟩) hHeld ?_
      simp only [List.getElem_toArray, List.getElem_cons_zero, List.getElem_cons_succ, Act.put, List.setIfInBounds_toArray, List.set_cons_zero, List.set_cons_succ]
      refine wpAnyH_take (i := 29) (v := undef) rfl (by kernel_rfl) (by kernel_rfl) (by kernel_rfl) (fun _ _ _ h => h) (Or.inr ⟨by rfl, rfl⟩) hHeld ?_
      simp only [List.getElem_toArray, List.getElem_cons_zero, List.getElem_cons_succ, Act.put, List.setIfInBounds_toArray, List.set_cons_zero, List.set_cons_succ]
      refine wpAnyH_take (i := 30) (v := undef) rfl (by kernel_rfl) (by kernel_rfl) (by kernel_rfl) (fun _ _ _ h => h) (Or.inr ⟨by rfl, rfl⟩) hHeld ?_
      simp only [List.getElem_toArray, List.getElem_cons_zero, List.getElem_cons_succ, Act.put, List.setIfInBounds_toArray, List.set_cons_zero, List.set_cons_succ]
      refine wpAnyH_take (i := 31) (v := ?v31) rfl (by kernel_rfl) (by kernel_rfl) (by kernel_rfl) (fun _ _ _ h => h) (Or.inl ⟨by rfl, ?y31⟩) hHeld ?_
      case y31 => (intro w hSw; (try dsimp only at hSw); go_simp; first | done | (with_reducible rfl))
      simp only [List.getElem_toArray, List.getElem_cons_zero, List.getElem_cons_succ, Act.put, List.setIfInBounds_toArray, List.set_cons_zero, List.set_cons_succ]
      refine wpAnyH_take (i := 32) (v := ?v32) rfl (by kernel_rfl) (by kernel_rfl) (by kernel_rfl) (fun _ _ _ h => h) (Or.inl ⟨by rfl, ?y32⟩) hHeld ?_
      case y32 => (intro w hSw; (try dsimp only at hSw); go_simp; first | done | (with_reducible rfl))
      simp only [List.getElem_toArray, List.getElem_cons_zero, List.getElem_cons_succ, Act.put, List.setIfInBounds_toArray, List.set_cons_zero, List.set_cons_succ]
      refine wpAnyH_done (by kernel_rfl) ?_ _
      refine NoPanic.normal ?_
      go_wp2_with fail
      go_ret
      exact ⟨rfl, hba.trans (hB3.mono (by simp))⟩
  · clear HU2 HU3
    go_enter Tryz.func25, Tryz.ntmps25
    go_wp2_with fail
    refine wp_region_noPanic ?_
    refine wp_region_held_drew (S := (fun W => W.cell? ⟨p, 0, none⟩ = some (.bool d.cls) ∧ W.cell? ⟨p, 3, none⟩ = some (.slice A3 n3 c3) ∧ W.cell? ⟨p, 4, none⟩ = some (.slice A4 n4 c4) ∧ W.cell? ⟨p, 5, none⟩ = some (.slice A5 n5 c5) ∧ Below (w.heap.size + 1) (w.alloc (.cells #[.pointer (some ⟨s, 0, none⟩)] 27)) W)) (by kernel_rfl) ?_ (fun hHeld => ?_)
    · exact HK.out _ (Below.refl _ _).drew
    refine wpAnyH_take (i := 0) (v := ?v0) rfl (by kernel_rfl) (by kernel_rfl) (by kernel_rfl) (fun _ _ _ h => h) (Or.inl ⟨by rfl, ?y0⟩) hHeld ?_
    case y0 => (intro w hSw; (try dsimp only at hSw); go_simp; first | done | (with_reducible rfl))
    simp only [List.getElem_toArray, List.getElem_cons_zero, List.getElem_cons_succ, Act.put, List.setIfInBounds_toArray, List.set_cons_zero, List.set_cons_succ]
    refine wpAnyH_take (i := 1) (v := ?v1) rfl (by kernel_rfl) (by kernel_rfl) (by kernel_rfl) (fun _ _ _ h => h) (Or.inl ⟨by rfl, ?y1⟩) hHeld ?_
    case y1 => (intro w hSw; (try dsimp only at hSw); go_simp; first | done | (with_reducible rfl))
    simp only [List.getElem_toArray, List.getElem_cons_zero, List.getElem_cons_succ, Act.put, List.setIfInBounds_toArray, List.set_cons_zero, List.set_cons_succ]
    refine wpAnyH_take (i := 2) (v := ?v2) rfl (by kernel_rfl) (by kernel_rfl) (by kernel_rfl) (fun _ _ _ h => h) (Or.inl ⟨by rfl, ?y2⟩) hHeld ?_
    case y2 => (intro w hSw; (try dsimp only at hSw); go_simp; first | done | (with_reducible rfl))
    simp only [List.getElem_toArray, List.getElem_cons_zero, List.getElem_cons_succ, Act.put, List.setIfInBounds_toArray, List.set_cons_zero, List.set_cons_succ]
    refine wpAnyH_take (i := 3) (v := ?v3) rfl (by kernel_rfl) (by kernel_rfl) (by kernel_rfl) (fun _ _ _ h => h) (Or.inl ⟨by rfl, ?y3⟩) hHeld ?_
    case y3 => (intro w hSw; (try dsimp only at hSw); go_simp; first | done | (with_reducible rfl))
    simp only [List.getElem_toArray, List.getElem_cons_zero, List.getElem_cons_succ, Act.put, List.setIfInBounds_toArray, List.set_cons_zero, List.set_cons_succ]
    refine wpAnyH_take (i := 4) (v := ?v4) rfl (by kernel_rfl) (by kernel_rfl) (by kernel_rfl) (fun _ _ _ h => h) (Or.inl ⟨by rfl, ?y4⟩) hHeld ?_
    case y4 => (intro w hSw; (try dsimp only at hSw); go_simp; first | done | (with_reducible rfl))
    simp only [List.getElem_toArray, List.getElem_cons_zero, List.getElem_cons_succ, Act.put, List.setIfInBounds_toArray, List.set_cons_zero, List.set_cons_succ]
    refine wpAnyH_take (i := 5) (v := ?v5) rfl (by kernel_rfl) (by kernel_rfl) (by kernel_rfl) (fun _ _ _ h => h) (Or.inl ⟨by rfl, ?y5⟩) hHeld ?_
    case y5 => (intro w hSw; (try dsimp only at hSw); go_simp; first | done | (with_reducible rfl))
    simp only [List.getElem_toArray, List.getElem_cons_zero, List.getElem_cons_succ, Act.put, List.setIfInBounds_toArray, List.set_cons_zero, List.set_cons_succ]
    refine wpAnyH_take (i := 6) (v := ?v6) rfl (by kernel_rfl) (by kernel_rfl) (by kernel_rfl) (fun _ _ _ h => h) (Or.inl ⟨by rfl, ?y6⟩) hHeld ?_
    case y6 => (intro w hSw; (try dsimp only at hSw); go_simp; first | done | (with_reducible rfl))
    simp only [List.getElem_toArray, List.getElem_cons_zero, List.getElem_cons_succ, Act.put, List.setIfInBounds_toArray, List.set_cons_zero, List.set_cons_succ]
    refine wpAnyH_take (i := 7) (v := ?v7) rfl (by kernel_rfl) (by kernel_rfl) (by kernel_rfl) (fun _ _ _ h => h) (Or.inl ⟨by rfl, ?y7⟩) hHeld ?_
    case y7 => (intro w hSw; (try dsimp only at hSw); go_simp; first | done | (with_reducible rfl))
    simp only [List.getElem_toArray, List.getElem_cons_zero, List.getElem_cons_succ, Act.put, List.setIfInBounds_toArray, List.set_cons_zero, List.set_cons_succ]
    refine wpAnyH_take (i := 8) (v := ?v8) rfl (by kernel_rfl) (by kernel_rfl) (by kernel_rfl) (fun _ _ _ h => h) (Or.inl ⟨by rfl, ?y8⟩) hHeld ?_
    case y8 => (intro w hSw; (try dsimp only at hSw); go_simp; first | done | (with_reducible rfl))
    simp only [List.getElem_toArray, List.getElem_cons_zero, List.getElem_cons_succ, Act.put, List.setIfInBounds_toArray, List.set_cons_zero, List.set_cons_succ]
    refine wpAnyH_ready (rs := [9]) (by kernel_rfl) (by simp) ?_
    refine AllReadyH.cons rfl (fun K hK => ?_) AllReadyH.nil
    go_simp
    (refine (knownFn_c _ _ _).mono ?_; rintro e w' ⟨rfl, rfl⟩)
    (try go_wp2_with fail)
    refine hK.out _ _ ?_ (fun hHeld => ?_)
    · exact HK.out _ (((Below.refl _ _).alloc (by simp) _).drew)
    clear hK K
    try simp only [List.getElem_toArray, List.getElem_cons_zero, List.getElem_cons_succ, Act.put, List.setIfInBounds_toArray, List.set_cons_zero, List.set_cons_succ]
    refine wpAnyH_ready (rs := [10]) (by kernel_rfl) (by simp) ?_
    refine AllReadyH.cons rfl (fun K hK => ?_) AllReadyH.nil
    go_simp
    (refine (HU1.out _ _ (((Below.refl _ _).alloc (by simp) _).drew) (by simp)).mono ?_; rintro e w2 ⟨rfl, hb2⟩; have hB2 : Below (w.heap.size + 1) (w.alloc (.cells #[.pointer (some ⟨s, 0, none⟩)] 27)) w2 := ((Below.refl _ _).alloc (by simp) _).drew.trans (hb2.mono (by simp)); have hz2 : w.heap.size + 1 ≤ w2.heap.size := (by have := hB2.size; simpa using this))
    (try go_wp2_with fail)
    refine hK.out _ _ ?_ (fun hHeld => ?_)
    · exact HK.out _ hB2
    clear hK K
    try simp only [List.getElem_toArray, List.getElem_cons_zero, List.getElem_cons_succ, Act.put, List.setIfInBounds_toArray, List.set_cons_zero, List.set_cons_succ]
    refine wpAnyH_take (i := 11) (v := .bool false) rfl (by kernel_rfl) (by kernel_rfl) (by kernel_rfl) (fun _ _ _ h => h) (Or.inl ⟨by rfl, ?y11⟩) hHeld ?_
    case y11 => (intro w hSw; (try dsimp only at hSw); go_simp; first | done | (with_reducible rfl))
    simp only [List.getElem_toArray, List.getElem_cons_zero, List.getElem_cons_succ, Act.put, List.setIfInBounds_toArray, List.set_cons_zero, List.set_cons_succ]
    refine wpAnyH_take (i := 12) (v := .bool false) rfl (by kernel_rfl) (by kernel_rfl) (by kernel_rfl) (fun _ _ _ h => h) (Or.inl ⟨by rfl, ?y12⟩) hHeld ?_
    case y12 => (intro w hSw; (try dsimp only at hSw); go_simp; first | done | (with_reducible rfl))
    simp only [List.getElem_toArray, List.getElem_cons_zero, List.getElem_cons_succ, Act.put, List.setIfInBounds_toArray, List.set_cons_zero, List.set_cons_succ]
    refine wpAnyH_take (i := 13) (v := undef) rfl (by kernel_rfl) (by kernel_rfl) (by kernel_rfl) (fun _ _ _ h => h) (Or.inr ⟨by rfl, rfl⟩) hHeld ?_
    simp only [List.getElem_toArray, List.getElem_cons_zero, List.getElem_cons_succ, Act.put, List.setIfInBounds_toArray, List.set_cons_zero, List.set_cons_succ]
    refine wpAnyH_take (i := 14) (v := undef) rfl (by kernel_rfl) (by kernel_rfl) (by kernel_rfl) (fun _ _ _ h => h) (Or.inr ⟨by rfl, rfl⟩) hHeld ?_
    simp only [List.getElem_toArray, List.getElem_cons_zero, List.getElem_cons_succ, Act.put, List.setIfInBounds_toArray, List.set_cons_zero, List.set_cons_succ]
    refine wpAnyH_take (i := 15) (v := undef) rfl (by kernel_rfl) (by kernel_rfl) (by kernel_rfl) (fun _ _ _ h => h) (Or.inr ⟨by rfl, rfl⟩) hHeld ?_
    simp only [List.getElem_toArray, List.getElem_cons_zero, List.getElem_cons_succ, Act.put, List.setIfInBounds_toArray, List.set_cons_zero, List.set_cons_succ]
    refine wpAnyH_take (i := 16) (v := undef) rfl (by kernel_rfl) (by kernel_rfl) (by kernel_rfl) (fun _ _ _ h => h) (Or.inr ⟨by rfl, rfl⟩) hHeld ?_
    simp only [List.getElem_toArray, List.getElem_cons_zero, List.getElem_cons_succ, Act.put, List.setIfInBounds_toArray, List.set_cons_zero, List.set_cons_succ]
    refine wpAnyH_take (i := 17) (v := undef) rfl (by kernel_rfl) (by kernel_rfl) (by kernel_rfl) (fun _ _ _ h => h) (Or.inr ⟨by rfl, rfl⟩) hHeld ?_
    simp only [List.getElem_toArray, List.getElem_cons_zero, List.getElem_cons_succ, Act.put, List.setIfInBounds_toArray, List.set_cons_zero, List.set_cons_succ]
    refine wpAnyH_take (i := 18) (v := undef) rfl (by kernel_rfl) (by kernel_rfl) (by kernel_rfl) (fun _ _ _ h => h) (Or.inr ⟨by rfl, rfl⟩) hHeld ?_
    simp only [List.getElem_toArray, List.getElem_cons_zero, List.getElem_cons_succ, Act.put, List.setIfInBounds_toArray, List.set_cons_zero, List.set_cons_succ]
    refine wpAnyH_take (i := 19) (v := undef) rfl (by kernel_rfl) (by kernel_rfl) (by kernel_rfl) (fun _ _ _ h => h) (Or.inr ⟨by rfl, rfl⟩) hHeld ?_
    simp only [List.getElem_toArray, List.getElem_cons_zero, List.getElem_cons_succ, Act.put, List.setIfInBounds_toArray, List.set_cons_zero, List.set_cons_succ]
    refine wpAnyH_take (i := 20) (v := undef) rfl (by kernel_rfl) (by kernel_rfl) (by kernel_rfl) (fun _ _ _ h => h) (Or.inr ⟨by rfl, rfl⟩) hHeld ?_
    simp only [List.getElem_toArray, List.getElem_cons_zero, List.getElem_cons_succ, Act.put, List.setIfInBounds_toArray, List.set_cons_zero, List.set_cons_succ]
    refine wpAnyH_take (i := 21) (v := .bool false) rfl (by kernel_rfl) (by kernel_rfl) (by kernel_rfl) (fun _ _ _ h => h) (Or.inl ⟨by rfl, ?y21⟩) hHeld ?_
    case y21 => (intro w hSw; (try dsimp only at hSw); go_simp; first | done | (with_reducible rfl))
    simp only [List.getElem_toArray, List.getElem_cons_zero, List.getElem_cons_succ, Act.put, List.setIfInBounds_toArray, List.set_cons_zero, List.set_cons_succ]
    refine wpAnyH_take (i := 22) (v := .bool false) rfl (by kernel_rfl) (by kernel_rfl) (by kernel_rfl) (fun _ _ _ h => h) (Or.inl ⟨by rfl, ?y22⟩) hHeld ?_
    case y22 => (intro w hSw; (try dsimp only at hSw); go_simp; first | done | (with_reducible rfl))
    simp only [List.getElem_toArray, List.getElem_cons_zero, List.getElem_cons_succ, Act.put, List.setIfInBounds_toArray, List.set_cons_zero, List.set_cons_succ]
    refine wpAnyH_take (i := 23) (v := undef) rfl (by kernel_rfl) (by kernel_rfl) (by kernel_rfl) (fun _ _ _ h => h) (Or.inr ⟨by rfl, rfl⟩) hHeld ?_
    simp only [List.getElem_toArray, List.getElem_cons_zero, List.getElem_cons_succ, Act.put, List.setIfInBounds_toArray, List.set_cons_zero, List.set_cons_succ]
    refine wpAnyH_take (i := 24) (v := undef) rfl (by kernel_rfl) (by kernel_rfl) (by kernel_rfl) (fun _ _ _ h => h) (Or.inr ⟨by rfl, rfl⟩) hHeld ?_
    simp only [List.getElem_toArray, List.getElem_cons_zero, List.getElem_cons_succ, Act.put, List.setIfInBounds_toArray, List.set_cons_zero, List.set_cons_succ]
    refine wpAnyH_take (i := 25) (v := undef) rfl (by kernel_rfl) (by kernel_rfl) (by kernel_rfl) (fun _ _ _ h => h) (Or.inr ⟨by rfl, rfl⟩) hHeld ?_
    simp only [List.getElem_toArray, List.getElem_cons_zero, List.getElem_cons_succ, Act.put, List.setIfInBounds_toArray, List.set_cons_zero, List.set_cons_succ]
    refine wpAnyH_take (i := 26) (v := undef) rfl (by kernel_rfl) (by kernel_rfl) (by kernel_rfl) (fun _ _ _ h => h) (Or.inr ⟨by rfl, rfl⟩) hHeld ?_
    simp only [List.getElem_toArray, List.getElem_cons_zero, List.getElem_cons_succ, Act.put, List.setIfInBounds_toArray, List.set_cons_zero, List.set_cons_succ]
    refine wpAnyH_take (i := 27) (v := undef) rfl (by kernel_rfl) (by kernel_rfl) (by kernel_rfl) (fun _ _ _ h => h) (Or.inr ⟨by rfl, rfl⟩) hHeld ?_
    simp only [List.getElem_toArray, List.getElem_cons_zero, List.getElem_cons_succ, Act.put, List.setIfInBounds_toArray, List.set_cons_zero, List.set_cons_succ]
    refine wpAnyH_take (i := 28) (v := undef) rfl (by kernel_rfl) (by kernel_rfl) (by kernel_rfl) (fun _ _ _ h => h) (Or.inr ⟨by rfl, rfl⟩) hHeld ?_
    simp only [List.getElem_toArray, List.getElem_cons_zero, List.getElem_cons_succ, Act.put, List.setIfInBounds_toArray, List.set_cons_zero, List.set_cons_succ]
    refine wpAnyH_take (i := 29) (v := undef) rfl (by kernel_rfl) (by kernel_rfl) (by kernel_rfl) (fun _ _ _ h => h) (Or.inr ⟨by rfl, rfl⟩) hHeld ?_
    simp only [List.getElem_toArray, List.getElem_cons_zero, List.getElem_cons_succ, Act.put, List.setIfInBounds_toArray, List.set_cons_zero, List.set_cons_succ]
    refine wpAnyH_take (i := 30) (v := undef) rfl (by kernel_rfl) (by kernel_rfl) (by kernel_rfl) (fun _ _ _ h => h) (Or.inr ⟨by rfl, rfl⟩) hHeld ?_
    simp only [List.getElem_toArray, List.getElem_cons_zero, List.getElem_cons_succ, Act.put, List.setIfInBounds_toArray, List.set_cons_zero, List.set_cons_succ]
    refine wpAnyH_take (i := 31) (v := .bool false) rfl (by kernel_rfl) (by kernel_rfl) (by kernel_rfl) (fun _ _ _ h => h) (Or.inl ⟨by rfl, ?y31⟩) hHeld ?_
    case y31 => (intro w hSw; (try dsimp only at hSw); go_simp; first | done | (with_reducible rfl))
    simp only [List.getElem_toArray, List.getElem_cons_zero, List.getElem_cons_succ, Act.put, List.setIfInBounds_toArray, List.set_cons_zero, List.set_cons_succ]
    refine wpAnyH_take (i := 32) (v := .bool false) rfl (by kernel_rfl) (by kernel_rfl) (by kernel_rfl) (fun _ _ _ h => h) (Or.inl ⟨by rfl, ?y32⟩) hHeld ?_
    case y32 => (intro w hSw; (try dsimp only at hSw); go_simp; first | done | (with_reducible rfl))
    simp only [List.getElem_toArray, List.getElem_cons_zero, List.getElem_cons_succ, Act.put, List.setIfInBounds_toArray, List.set_cons_zero, List.set_cons_succ]
    refine wpAnyH_done (by kernel_rfl) ?_ _
    refine NoPanic.normal ?_
    go_wp2_with fail
    go_ret
    exact ⟨rfl, hba.trans (hB2.mono (by simp))⟩
end Go.Proofs.YtcjobpcbppcdnaaGreatDoor
/- Contracts: what stands above a definition. -/
namespace Go.Proofs.YtcjobpcbppcdnaaGreatDoor
open Go.RowKit

/-- Where a definition lies. -/
def pAt (ps : List Nat) (i : Nat) : Nat := ps.getD i 0
theorem pAt_get {ps : List Nat} {i : Nat} (h : i < ps.length) : ps[i]? = some (pAt ps i) := by
  unfold pAt
  rw [List.getD_eq_getElem?_getD, List.getElem?_eq_getElem h]
  rfl
theorem pAt_inj {ps : List Nat} (hn : ps.Nodup) {i j : Nat} (hi : i < ps.length) (hj : j < ps.length) (h : pAt ps i = pAt ps j) : i = j := by
  have h1 := pAt_get hi
  have h2 := pAt_get hj
  rw [h] at h1
  exact (List.getElem?_inj hi hn).1 (h1.trans h2.symm)
theorem SchAt.defAt {w : World} {s : Nat} {ps : List Nat} {L : List DefS} (h : SchAt w s ps L) {i : Nat} {d : DefS} (hd : L[i]? = some d) : DefAt w (pAt ps i) d :=
  h.defs i _ d (pAt_get (by rw [h.len]; exact (List.getElem?_eq_some_iff.1 hd).1)) hd
theorem SchAt.bkAt {w : World} {s : Nat} {ps : List Nat} {L : List DefS} (h : SchAt w s ps L) {i : Nat} (hi : i < L.length) : ∃ cs, Bk w (pAt ps i) 78 cs := by
  obtain ⟨vn, vs, vm, vy, hB⟩ := (h.defAt (List.getElem?_eq_getElem hi)).bk
  exact ⟨_, hB⟩
theorem contains_map {ps : List Nat} (hn : ps.Nodup) {l : List Nat} (hl : ∀ v ∈ l, v < ps.length) {i : Nat} (hi : i < ps.length) : (l.map (pAt ps)).contains (pAt ps i) = l.contains i := by
  rw [Bool.eq_iff_iff, List.contains_iff_mem, List.contains_iff_mem, List.mem_map]
  constructor
  · rintro ⟨j, hj, he⟩
    rw [← pAt_inj hn (hl j hj) hi he]
    exact hj
  · intro h
    exact ⟨i, h, rfl⟩
def AbRet (B : Nat) (w : World) (ps : List Nat) (R : List Nat) (e : Ending) (w' : World) : Prop := Below B w w' ∧ ∃ v, e = .returned v ∧ OwnP B w' v (R.map (pAt ps))
theorem eqPtrs_at {w0 w : World} {s : Nat} {ps : List Nat} {L : List DefS} (hS : SchAt w0 s ps L) (hb : Below w0.heap.size w0 w) {i : Nat} (hi : i < L.length) {l : List Nat} (hl : ∀ v ∈ l, v < L.length) : eqPtrs w (pAt ps i) (l.map (pAt ps)) := by
  intro q hq
  obtain ⟨j, hj, rfl⟩ := List.mem_map.1 hq
  obtain ⟨ci, hbi⟩ := hS.bkAt hi
  obtain ⟨cj, hbj⟩ := hS.bkAt (hl j hj)
  exact eql_def (hbi.below hb) (hbj.below hb)
/-- The step of the loop over the superiors. -/
def upF6 (L : List DefS) (n : Nat) (c : Bool) (l : List Nat) (nm : List UInt8) : List Nat := match findD L c nm with
  | none => l
  | some j => aboveF L n j l
theorem aboveF_up {L : List DefS} {i : Nat} {d : DefS} (n : Nat) (l : List Nat) (hd : L[i]? = some d) : aboveF L (n + 1) i l = if l.contains i then l else d.sup.foldl (upF6 L n d.cls) (l ++ [i]) := by
  rw [aboveF, hd]
  rfl
structure UJ (L : List DefS) (n : Nat) (d : DefS) (w0 : World) (ps : List Nat) (len : Nat) (R : List Nat) (k : Nat) (v : Value) (wr : World) (acc : List Nat) : Prop where
  own : OwnP w0.heap.size wr v (acc.map (pAt ps))
  bel : Below w0.heap.size w0 wr
  nodup : acc.Nodup
  lt : ∀ x ∈ acc, x < L.length
  more : len ≤ acc.length
  rest : (d.sup.drop k).foldl (upF6 L n d.cls) acc = R
set_option maxRecDepth 100000 in
set_option maxHeartbeats 4000000 in
theorem above_c (w0 : World) (s : Nat) (ps : List Nat) (L : List DefS) (hS : SchAt w0 s ps L) (hlim : ∀ d ∈ L, DefLim d) (hN : L.length ≤ 1000) (hk : ∀ d ∈ L, ∀ n ∈ d.sup, (findD L d.cls n).isSome = true) :
    ∀ (n i : Nat) (l : List Nat) (v : Value) (w : World), Below w0.heap.size w0 w → l.Nodup → (∀ x ∈ l, x < L.length) → i < L.length → L.length + 1 ≤ n + l.length → OwnP w0.heap.size w v (l.map (pAt ps)) →
    Calls Tryz.prog 32 #[ptrV s, ptrV (pAt ps i), v] w (AbRet w0.heap.size w ps (aboveF L n i l)) := by
  intro n
  induction n with
  | zero =>
    intro i l v w hb hn hl hi hf ho
    have := nodup_bound _ l hn hl
    omega
  | succ n ih =>
    intro i l v w hb hn hl hi hf ho
    have hll := nodup_bound _ l hn hl
    have HC := Lib.hid (ContainsP_c (pAt ps i) (l.map (pAt ps)) v w ho.reads (by simp; omega) (eqPtrs_at hS hb hi hl))
    rw [contains_map hS.nodup (fun x hx => by rw [hS.len]; exact hl x hx) (by rw [hS.len]; exact hi)] at HC
    have HO := Lib.hid ho
    obtain ⟨A, c, rfl, hc⟩ := ho.isSlice
    have IH := Lib.hid ih
    have HB := Lib.hid hb
    clear ih ho hb
    unfold ptrV at HC IH ⊢
    simp only [List.length_map] at HC HO hc ⊢
    have hdL : L[i]? = some L[i] := List.getElem?_eq_getElem hi
    obtain ⟨d, hd⟩ : ∃ d, L[i]? = some d := ⟨_, hdL⟩
    rw [aboveF_up n l hd]
    cases hcon : l.contains i
    · have hcn := hcon
      rw [hcon] at HC
      have hmem : d ∈ L := List.mem_of_getElem? hd
      have hdf := hS.defAt hd
      simp only [Bool.false_eq_true, if_false]
      obtain ⟨vn, vs, vm, vy, hBK, _, ht, _⟩ := id hdf
      obtain ⟨As, ns, cs, rfl⟩ := ht.isSlice
      obtain ⟨rfl, hcs⟩ := texts_len ht
      obtain ⟨R, hR⟩ : ∃ R, d.sup.foldl (upF6 L n d.cls) (l ++ [i]) = R := ⟨_, rfl⟩
      rw [hR]
      have hsl := (hlim d hmem).sup
      have HT := Lib.hid ht
      have HBK := Lib.hid hBK
      have hni : i ∉ l := by
        intro h
        rw [List.contains_iff_mem.2 h] at hcn
        cases hcn
      have HNI := Lib.hid hni
      have hpl : (l.map (pAt ps)).length < 4398046511104 := by simp; omega
      have HR1 := Lib.hid hR
      clear hR hdL hBK ht hdf hni hcn hcon
      go_enter Tryz.func32, Tryz.ntmps32
      go_wp2_with (first | (go_at_call 31; refine HC.out.mono ?_; rintro e w1 ⟨rfl, rfl⟩) | (at_builtin; refine ptr_one (v := .slice A l.length c) (p := pAt ps i) rfl _ _ rfl rfl HO.out rfl rfl hpl ?_; intro v2 w2 hO2 hg2; have hb2 := OwnP.bel (HB.out.mono (Nat.le_refl _)) HO.out hg2; have hB2 := HBK.out.below hb2; have c3 : w2.cell? ⟨pAt ps i, 3, none⟩ = some (.slice As d.sup.length cs) := hB2.cell 3; have c0 : w2.cell? ⟨pAt ps i, 0, none⟩ = some (.bool d.cls) := hB2.cell 0))
      have hb2' : Below w0.heap.size w w2 := OwnP.bel (Below.refl _ _) HO.out hg2
      have hJ0 : UJ L n d w0 ps (l.length + 1) R 0 v2 w2 (l ++ [i]) := by
        refine ⟨by rw [List.map_append]; exact hO2, hb2, ?_, ?_, by simp, HR1.out⟩
        · rw [List.nodup_append]
          refine ⟨hn, by simp, fun a ha b hb => ?_⟩
          have : b = i := by simpa using hb
          subst this
          rintro rfl
          exact HNI.out ha
        · intro x hx
          rcases List.mem_append.1 hx with h | h
          · exact hl x h
          · have : x = i := by simpa using h
            omega
      have HJ0 := Lib.hid (And.intro hJ0 hb2')
      clear hJ0 hb2' hb2 hO2 hg2 hB2 c0 HR1 HNI HO HC
      go_loopg [2, 22] d.sup.length (fun gk v i2 wr => ∃ (k : Nat) (acc : List Nat), k ≤ d.sup.length ∧ i2 = .int .i64 k ∧ Aside (k + gk = d.sup.length) ∧ Aside (UJ L n d w0 ps (l.length + 1) R k v wr acc) ∧ Aside (Below w0.heap.size w wr))
      case atStart => exact ⟨0, l ++ [i], Nat.zero_le _, rfl, by show _ = _; omega, HJ0.out.1, HJ0.out.2⟩
      case round =>
        clear HJ0
        obtain ⟨k, acc, hk2, rfl, AG, AJ, AB⟩ := hrel
        by_cases hlt : k < d.sup.length
        · obtain ⟨q, rfl⟩ : ∃ q, gk = q + 1 := ⟨gk - 1, by have := AG.out; omega⟩
          obtain ⟨g, rfl, ck⟩ := texts_at (HT.out.below AJ.out.bel) hlt
          have hB2 := HBK.out.below AJ.out.bel
          have c0 : wr.cell? ⟨pAt ps i, 0, none⟩ = some (.bool d.cls) := hB2.cell 0
          have hkn := hk d hmem d.sup[k] (List.getElem_mem hlt)
          obtain ⟨j, hj⟩ := Option.isSome_iff_exists.1 hkn
          have hF := find_c s ps L d.cls d.sup[k] wr (hS.below AJ.out.bel) (hsl.2 _ (List.getElem_mem hlt))
          rw [hj] at hF
          have HF : Hid (Calls Tryz.prog 29 #[.pointer (some ⟨s, 0, none⟩), .bool d.cls, .string ⟨d.sup[k].toArray⟩] wr fun e w' => e = .returned (.pointer (some ⟨pAt ps j, 0, none⟩)) ∧ Below wr.heap.size wr w') := Lib.hid hF
          have hj2 := findD_lt hj
          have hfuel : L.length + 1 ≤ n + acc.length := by have := AJ.out.more; omega
          have hA := aboveF_says L n j acc AJ.out.nodup AJ.out.lt hj2 hfuel
          have HA := Lib.hid hA
          have hrest := AJ.out.rest
          rw [List.drop_eq_getElem_cons hlt, List.foldl_cons, show upF6 L n d.cls acc d.sup[k] = aboveF L n j acc by unfold upF6; rw [hj]] at hrest
          have HRS := Lib.hid hrest
          clear hA hrest hF hB2 hkn hj
          go_wp2_with (first | (go_at_call 29; refine HF.out.mono ?_; rintro e w3 ⟨rfl, hb3⟩) | (go_at_call 32; refine (IH.out j acc u2 _ (AJ.out.bel.trans (hb3.mono AJ.out.bel.size)) AJ.out.nodup AJ.out.lt hj2 hfuel (AJ.out.own.below hb3)).mono ?_; rintro e w4 ⟨hb4, v4, rfl, hO4⟩))
          go_roundg q
          case measure => omega
          case rel =>
            refine ⟨k + 1, aboveF L n j acc, by omega, by go_num, by have := AG.out; show _ = _; omega, ?_, ?_⟩
            · obtain ⟨⟨t1, ht1⟩, h2, h3, _⟩ := HA.out
              have hb5 := (AJ.out.bel.trans (hb3.mono AJ.out.bel.size)).trans hb4
              exact (⟨hO4, hb5, h2, h3, by have := AJ.out.more; rw [ht1]; simp; omega, HRS.out⟩ : UJ L n d w0 ps (l.length + 1) R (k + 1) v4 w4 (aboveF L n j acc))
            · exact (AB.out.trans (hb3.mono AJ.out.bel.size)).trans hb4
        · obtain rfl : k = d.sup.length := by omega
          have hR2 : R = acc := by rw [← AJ.out.rest, List.drop_length]; rfl
          have HR2 := Lib.hid hR2
          clear hR2
          go_wp2_with fail
          go_ret
          rw [HR2.out]
          exact ⟨AB.out, _, rfl, AJ.out.own⟩
    · rw [hcon] at HC
      simp only [if_true]
      go_enter Tryz.func32, Tryz.ntmps32
      go_wp2_with (go_at_call 31; refine HC.out.mono ?_; rintro e w1 ⟨rfl, rfl⟩)
      go_ret
      exact ⟨Below.refl _ _, _, rfl, HO.out⟩
end Go.Proofs.YtcjobpcbppcdnaaGreatDoor
/- Contracts: whether a definition's superiors lead back to it. -/
namespace Go.Proofs.YtcjobpcbppcdnaaGreatDoor
open Go.RowKit

theorem ptr_beq {ps : List Nat} (hn : ps.Nodup) {i j : Nat} (hi : i < ps.length) (hj : j < ps.length) : (pAt ps j == pAt ps i) = (j == i) := by
  by_cases h : j = i
  · subst h; simp
  · have : pAt ps j ≠ pAt ps i := fun e => h (pAt_inj hn hj hi e)
    rw [beq_eq_false_iff_ne.2 this, beq_eq_false_iff_ne.2 h]
theorem eql_nil_def (w : World) (q : Nat) : (binOp .eql 55 (.pointer none) (.pointer (some ⟨q, 0, none⟩))).run Tryz.prog w = .ok (.bool false) w := by
  obtain ⟨j, h1, h2⟩ := infoDef
  have hp := Tryz.underlying55
  have h : ∀ d : Nat, (Op.equalIn (d + 1) 55 (.pointer none) (.pointer (some ⟨q, 0, none⟩))).run Tryz.prog w = .ok false w := fun d => by
    simp [Op.equalIn, run_underlying hp]
  simp only [binOp]
  simp [Op.equal, Op.maxDepth, h 9999]
set_option maxRecDepth 100000 in
set_option maxHeartbeats 1000000 in
theorem leads_c (bs bd s i : Nat) (ps : List Nat) (L : List DefS) (d : DefS) (n : List UInt8) (w : World) (hS : SchAt w s ps L) (hd : L[i]? = some d) (h1 : w.cell? ⟨bs, 0, none⟩ = some (ptrV s)) (h2 : w.cell? ⟨bd, 0, none⟩ = some (ptrV (pAt ps i))) (hn : n.length ≤ 1000000) :
    Calls Tryz.prog 59 #[.string ⟨n.toArray⟩, ptrV bs, ptrV bd] w fun e w' => e = .returned (.bool (findD L d.cls n == some i)) ∧ Below w.heap.size w w' := by
  have hi : i < L.length := (List.getElem?_eq_some_iff.1 hd).1
  have HF0 := fun (W : World) (hb : Below w.heap.size w W) => find_c s ps L d.cls n W (hS.below hb) hn
  have h1' : w.cell? ⟨bs, 0, none⟩ = some (.pointer (some ⟨s, 0, none⟩)) := h1
  have h2' : w.cell? ⟨bd, 0, none⟩ = some (.pointer (some ⟨pAt ps i, 0, none⟩)) := h2
  obtain ⟨vn, vs, vm, vy, hB⟩ := (hS.defAt hd).bk
  have c0 : w.cell? ⟨pAt ps i, 0, none⟩ = some (.bool d.cls) := hB.cell 0
  have HK := Lib.hid (fun (W : World) (hb : Below w.heap.size w W) => (⟨(hb.cell (p := ⟨bs, 0, none⟩) (cell_lt h1)).trans h1', (hb.cell (p := ⟨bd, 0, none⟩) (cell_lt h2)).trans h2', (hb.cell (p := ⟨pAt ps i, 0, none⟩) (cell_lt c0)).trans c0⟩ : W.cell? ⟨bs, 0, none⟩ = some (.pointer (some ⟨s, 0, none⟩)) ∧ W.cell? ⟨bd, 0, none⟩ = some (.pointer (some ⟨pAt ps i, 0, none⟩)) ∧ W.cell? ⟨pAt ps i, 0, none⟩ = some (.bool d.cls)))
  unfold ptrV at HF0 ⊢
  cases hf : findD L d.cls n with
  | none =>
    rw [hf] at HF0
    have HF : Hid (∀ W : World, Below w.heap.size w W → Calls Tryz.prog 29 #[.pointer (some ⟨s, 0, none⟩), .bool d.cls, .string ⟨n.toArray⟩] W fun e w' => e = .returned (.pointer none) ∧ Below W.heap.size W w') := Lib.hid HF0
    have heq := fun W => eql_nil_def W (pAt ps i)
    have c1 := (HK.out _ (Below.refl _ _)).1
    have c2 := (HK.out _ (Below.refl _ _)).2.1
    clear HF0 hS hB hd h1 h2
    go_enter Tryz.func59, Tryz.ntmps59
    go_wp2_with fail
    go_region_held3 (fun W => W.cell? ⟨bs, 0, none⟩ = some (.pointer (some ⟨s, 0, none⟩)) ∧ W.cell? ⟨bd, 0, none⟩ = some (.pointer (some ⟨pAt ps i, 0, none⟩)) ∧ W.cell? ⟨pAt ps i, 0, none⟩ = some (.bool d.cls)) (first | exact HK.out _ (Below.refl _ _).drew | exact HK.out _ hb2 | fail) ((go_at_call 29; refine (HF.out _ (Below.refl _ _).drew).mono ?_; rintro e w2 ⟨rfl, hb2x⟩; have hb2 := below_undrew hb2x; clear hb2x))
    all_goals
      go_wp2_with fail
      go_ret
      exact ⟨rfl, hb2⟩
  | some j =>
    rw [hf] at HF0
    have HF : Hid (∀ W : World, Below w.heap.size w W → Calls Tryz.prog 29 #[.pointer (some ⟨s, 0, none⟩), .bool d.cls, .string ⟨n.toArray⟩] W fun e w' => e = .returned (.pointer (some ⟨pAt ps j, 0, none⟩)) ∧ Below W.heap.size W w') := Lib.hid HF0
    have hj := findD_lt hf
    have HE := Lib.hid (fun (W : World) (hb : Below w.heap.size w W) => (by
      obtain ⟨cj, hbj⟩ := hS.bkAt hj
      have := eql_def (hbj.below hb) (hB.below hb)
      rw [ptr_beq hS.nodup (by rw [hS.len]; exact hi) (by rw [hS.len]; exact hj)] at this
      exact this : (binOp .eql 55 (.pointer (some ⟨pAt ps j, 0, none⟩)) (.pointer (some ⟨pAt ps i, 0, none⟩))).run Tryz.prog W = .ok (.bool (j == i)) W))
    have hjs : (some j == some i) = (j == i) := rfl
    rw [hjs]
    have c1 := (HK.out _ (Below.refl _ _)).1
    have c2 := (HK.out _ (Below.refl _ _)).2.1
    clear HF0 hS hB hd h1 h2 hf
    generalize (j == i) = b at HE ⊢
    have HK2 := Lib.hid (fun (W : World) (hb : Below w.heap.size w W) => (⟨(HK.out W hb).1, (HK.out W hb).2.1, (HK.out W hb).2.2, HE.out W hb⟩ : W.cell? ⟨bs, 0, none⟩ = some (.pointer (some ⟨s, 0, none⟩)) ∧ W.cell? ⟨bd, 0, none⟩ = some (.pointer (some ⟨pAt ps i, 0, none⟩)) ∧ W.cell? ⟨pAt ps i, 0, none⟩ = some (.bool d.cls) ∧ (binOp .eql 55 (.pointer (some ⟨pAt ps j, 0, none⟩)) (.pointer (some ⟨pAt ps i, 0, none⟩))).run Tryz.prog W = .ok (.bool b) W))
    go_enter Tryz.func59, Tryz.ntmps59
    go_wp2_with fail
    go_region_held3 (fun W => W.cell? ⟨bs, 0, none⟩ = some (.pointer (some ⟨s, 0, none⟩)) ∧ W.cell? ⟨bd, 0, none⟩ = some (.pointer (some ⟨pAt ps i, 0, none⟩)) ∧ W.cell? ⟨pAt ps i, 0, none⟩ = some (.bool d.cls) ∧ (binOp .eql 55 (.pointer (some ⟨pAt ps j, 0, none⟩)) (.pointer (some ⟨pAt ps i, 0, none⟩))).run Tryz.prog W = .ok (.bool b) W) (first | exact HK2.out _ (Below.refl _ _).drew | exact HK2.out _ hb2 | fail) ((go_at_call 29; refine (HF.out _ (Below.refl _ _).drew).mono ?_; rintro e w2 ⟨rfl, hb2x⟩; have hb2 := below_undrew hb2x; clear hb2x))
    all_goals
      go_wp2_with fail
      go_ret
      exact ⟨rfl, hb2⟩
/-- The superiors of one lead to a definition. -/
def leadsD (L : List DefS) (c : Bool) (i : Nat) (xs : List (List UInt8)) : Bool := xs.any fun n => findD L c n == some i
theorem leadsAll_c (bs bd s i : Nat) (ps : List Nat) (L : List DefS) (d : DefS) (xs : List (List UInt8)) (v : Value) (w : World) (hv : Texts w v xs) (hS : SchAt w s ps L) (hd : L[i]? = some d) (h1 : w.cell? ⟨bs, 0, none⟩ = some (ptrV s)) (h2 : w.cell? ⟨bd, 0, none⟩ = some (ptrV (pAt ps i))) (hx : xs.length ≤ 1000000 ∧ ∀ x ∈ xs, x.length ≤ 1000000) :
    Calls Tryz.prog 56 #[v, .func (.func 59) #[] #[ptrV bs, ptrV bd]] w fun e w' => e = .returned (.bool (leadsD L d.cls i xs)) ∧ Below w.heap.size w w' :=
  ContainsFuncS_c 59 #[ptrV bs, ptrV bd] xs v w hv hx.1 (fun n => findD L d.cls n == some i)
    ⟨fun x hxx W hb => leads_c bs bd s i ps L d x W (hS.below hb) hd ((hb.cell (p := ⟨bs, 0, none⟩) (cell_lt h1)).trans h1) ((hb.cell (p := ⟨bd, 0, none⟩) (cell_lt h2)).trans h2) (hx.2 x hxx), fun _ _ => by kernel_rfl⟩
set_option maxRecDepth 100000 in
set_option maxHeartbeats 1000000 in
theorem loops1_c (bs bd s i a : Nat) (ps : List Nat) (L : List DefS) (d da : DefS) (w : World) (hS : SchAt w s ps L) (hd : L[i]? = some d) (ha : L[a]? = some da) (hl : DefLim da) (h1 : w.cell? ⟨bs, 0, none⟩ = some (ptrV s)) (h2 : w.cell? ⟨bd, 0, none⟩ = some (ptrV (pAt ps i))) :
    Calls Tryz.prog 58 #[ptrV (pAt ps a), ptrV bs, ptrV bd] w fun e w' => e = .returned (.bool (leadsD L d.cls i da.sup)) ∧ Below w.heap.size w w' := by
  have hmf : ∀ (fn : Fn) (first cap : Array Value) (w : World), (Instr.makeFunc fn first cap).run Tryz.prog w = .ok (.func fn first cap) w := fun _ _ _ _ => rfl
  obtain ⟨vn, vs, vm, vy, hB, _, ht, _⟩ := hS.defAt ha
  have c3 : w.cell? ⟨pAt ps a, 3, none⟩ = some vs := hB.cell 3
  have HA := Lib.hid (leadsAll_c bs bd s i ps L d da.sup vs w ht hS hd h1 h2 hl.sup)
  obtain ⟨A, n, c, rfl⟩ := ht.isSlice
  clear hS hd ha hB ht h1 h2
  unfold ptrV at HA ⊢
  go_enter Tryz.func58, Tryz.ntmps58
  go_wp2_with (go_at_call 56; refine HA.out.mono ?_; rintro e w1 ⟨rfl, hb⟩)
  go_ret
  exact ⟨rfl, hb⟩
theorem reach_cls6 {L : List DefS} {i j : Nat} (h : Reach L i j) {d e : DefS} (hd : L[i]? = some d) (he : L[j]? = some e) : e.cls = d.cls := by
  induction h generalizing d with
  | refl => rw [hd] at he; cases he; rfl
  | step hu _ ih =>
    unfold succs at hu
    rw [hd] at hu
    obtain ⟨n, _, hf⟩ := List.mem_filterMap.1 hu
    obtain ⟨d', h1, h2, _⟩ := findD_at hf
    rw [ih h1 he, h2]
/-- Which definition lies there. -/
def atP (ps : List Nat) (q : Nat) : Nat := (ps.findIdx? (· == q)).getD 0
theorem atP_pAt {ps : List Nat} (hn : ps.Nodup) {i : Nat} (hi : i < ps.length) : atP ps (pAt ps i) = i := by
  have h : ps.findIdx? (· == pAt ps i) = some i := by
    rw [List.findIdx?_eq_some_iff_getElem]
    have hg : ps[i] = pAt ps i := by
      have := pAt_get hi
      rw [List.getElem?_eq_getElem hi] at this
      exact Option.some.inj this
    refine ⟨hi, by rw [hg]; simp, fun j hj => ?_⟩
    have hjl : j < ps.length := by omega
    have hg2 : ps[j] = pAt ps j := by
      have := pAt_get hjl
      rw [List.getElem?_eq_getElem hjl] at this
      exact Option.some.inj this
    rw [hg2, ptr_beq hn hi hjl]
    simp
    omega
  unfold atP
  rw [h]
  rfl
theorem any_same {α : Type} {f g : α → Bool} : ∀ {l : List α}, (∀ a ∈ l, f a = g a) → l.any f = l.any g
  | [], _ => rfl
  | x :: l, h => by rw [List.any_cons, List.any_cons, h x (List.mem_cons_self ..), any_same (fun a ha => h a (List.mem_cons_of_mem _ ha))]
def loopP (L : List DefS) (c : Bool) (i : Nat) (a : Nat) : Bool := match L[a]? with
  | none => false
  | some d => leadsD L c i d.sup
set_option maxRecDepth 100000 in
set_option maxHeartbeats 1000000 in
theorem loops_c (s i : Nat) (ps : List Nat) (L : List DefS) (d : DefS) (w : World) (hS : SchAt w s ps L) (hlim : ∀ d ∈ L, DefLim d) (hN : L.length ≤ 1000) (hk : ∀ d ∈ L, ∀ n ∈ d.sup, (findD L d.cls n).isSome = true) (hd : L[i]? = some d) :
    Calls Tryz.prog 26 #[ptrV s, ptrV (pAt ps i)] w fun e w' => e = .returned (.bool (loopsD L i)) ∧ Below w.heap.size w w' := by
  have hmf : ∀ (fn : Fn) (first cap : Array Value) (w : World), (Instr.makeFunc fn first cap).run Tryz.prog w = .ok (.func fn first cap) w := fun _ _ _ _ => rfl
  have hi : i < L.length := (List.getElem?_eq_some_iff.1 hd).1
  have hb0 : Below w.heap.size w ((w.alloc (.cells #[.pointer (some ⟨s, 0, none⟩)] 27)).alloc (.cells #[.pointer (some ⟨pAt ps i, 0, none⟩)] 55)) := ((Below.refl _ _).alloc (Nat.le_refl _) _).alloc (by simp) _
  have k1 := (Bk.new w 27 #[.pointer (some ⟨s, 0, none⟩)]).alloc (.cells #[.pointer (some ⟨pAt ps i, 0, none⟩)] 55)
  have k2 := Bk.new (w.alloc (.cells #[.pointer (some ⟨s, 0, none⟩)] 27)) 55 #[.pointer (some ⟨pAt ps i, 0, none⟩)]
  rw [World.size_alloc] at k2
  have hA := above_c _ s ps L (hS.below hb0) hlim hN hk (L.length + 1) i [] (.slice none 0 0) _ (Below.refl _ _) (by simp) (by simp) hi (by simp) (OwnP.nil (Nat.le_refl _))
  have hsays := aboveD_says L i hi
  change Calls _ _ _ _ (AbRet _ _ ps (aboveD L i [])) at hA
  have hloop : loopsD L i = (aboveD L i []).any (loopP L d.cls i) := by
    unfold loopsD
    rw [Bool.eq_iff_iff, List.any_eq_true, List.any_eq_true]
    have hcl : ∀ a ∈ aboveD L i [], ∀ e, L[a]? = some e → e.cls = d.cls := fun a ha e he => reach_cls6 ((aboveD_iff hi a).1 ha) hd he
    constructor
    · rintro ⟨a, ha, h⟩
      refine ⟨a, ha, ?_⟩
      unfold loopP leadsD
      cases he : L[a]? with
      | none => rw [he] at h; exact h
      | some e => rw [he] at h; simp only at h ⊢; rw [← hcl a ha e he]; exact h
    · rintro ⟨a, ha, h⟩
      refine ⟨a, ha, ?_⟩
      unfold loopP leadsD at h
      cases he : L[a]? with
      | none => rw [he] at h; exact h
      | some e => rw [he] at h; simp only at h ⊢; rw [hcl a ha e he]; exact h
  rw [hloop]
  have hany : ((aboveD L i []).map (pAt ps)).any (fun q => loopP L d.cls i (atP ps q)) = (aboveD L i []).any (loopP L d.cls i) := by
    rw [List.any_map]
    exact any_same (fun a ha => by
      show loopP L d.cls i (atP ps (pAt ps a)) = _
      rw [atP_pAt hS.nodup (by rw [hS.len]; exact hsays.lt a ha)])
  rw [← hany]
  obtain ⟨R, hR⟩ : ∃ R, aboveD L i [] = R := ⟨_, rfl⟩
  rw [hR] at hA hsays ⊢
  have hRlen : (R.map (pAt ps)).length ≤ 1000000 := by
    have := nodup_bound _ R hsays.nodup hsays.lt
    simp
    omega
  have HC := Lib.hid (fun (v : Value) (w1 : World) (hb : Below (w.heap.size + 1 + 1) ((w.alloc (.cells #[.pointer (some ⟨s, 0, none⟩)] 27)).alloc (.cells #[.pointer (some ⟨pAt ps i, 0, none⟩)] 55)) w1) (hv : PtrsR w1 v (R.map (pAt ps))) =>
    ContainsFuncP_c 58 #[ptrV w.heap.size, ptrV (w.heap.size + 1)] (R.map (pAt ps)) v w1 hv hRlen (fun q => loopP L d.cls i (atP ps q))
      ⟨fun q hq W hW => by
        obtain ⟨a, ha, rfl⟩ := List.mem_map.1 hq
        have hal := hsays.lt a ha
        have haL : L[a]? = some L[a] := List.getElem?_eq_getElem hal
        have hb1 : Below w.heap.size w W := (hb0.trans (hb.mono (by omega))).trans (hW.mono (by have := hb.size; simp at this; omega))
        have hz : w.heap.size + 1 + 1 ≤ w1.heap.size := by have := hb.size; simpa using this
        have q1 := ((k1.below (hb.mono (by simp))).below hW).cell 0
        have q2 := ((k2.below (hb.mono (by simp))).below hW).cell 0
        have := loops1_c w.heap.size (w.heap.size + 1) s i a ps L d L[a] W (hS.below hb1) hd haL (hlim _ (List.getElem_mem hal)) q1 q2
        rw [atP_pAt hS.nodup (by rw [hS.len]; exact hal)]
        unfold loopP
        rw [haL]
        exact this, fun _ _ => by kernel_rfl⟩)
  have HA := Lib.hid hA
  clear hA hany hloop hR k1 k2 hS hk hlim hsays
  generalize ((R.map (pAt ps)).any fun q => loopP L d.cls i (atP ps q)) = b at HC ⊢
  unfold ptrV at HA HC ⊢
  go_enter Tryz.func26, Tryz.ntmps26
  go_wp2_with (first | (go_at_call 32; refine HA.out.mono ?_; rintro e w1 ⟨hb1, v1, rfl, hO1⟩; have hb1' : Below (w.heap.size + 1 + 1) ((w.alloc (.cells #[.pointer (some ⟨s, 0, none⟩)] 27)).alloc (.cells #[.pointer (some ⟨pAt ps i, 0, none⟩)] 55)) w1 := hb1.mono (by simp)) | (go_at_call 57; refine (HC.out _ _ hb1' hO1.reads).mono ?_; rintro e w2 ⟨rfl, hb2⟩))
  go_ret
  exact ⟨rfl, (hb0.trans (hb1'.mono (by omega))).trans (hb2.mono (by have := hb1'.size; simp at this; omega))⟩
end Go.Proofs.YtcjobpcbppcdnaaGreatDoor
