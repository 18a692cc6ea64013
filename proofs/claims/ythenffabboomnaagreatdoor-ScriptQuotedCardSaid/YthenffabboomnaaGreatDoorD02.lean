import Derived.Test.YthenffabboomnaaGreatDoorD01
import Derived.Lib.SlTrimSet
import Derived.Lib.IndexAny
set_option linter.all false
set_option maxHeartbeats 8000000
set_option maxRecDepth 100000
namespace Go.Proofs.YthenffabboomnaaGreatDoor.Scr
open Go.RowKit
def qc (c : UInt8) : List UInt8 := if c = 34 ∨ c = 92 then [92, c] else if 32 ≤ c.toNat ∧ c.toNat ≤ 126 then [c] else 92 :: hexL [c]
theorem qc_eq (c : UInt8) : qc c = if c = 34 ∨ c = 92 then [92, c] else if 32 ≤ c.toNat ∧ c.toNat ≤ 126 then [c] else 92 :: hexL [c] := rfl
def quoteL (s : List UInt8) : List UInt8 := 34 :: (s.flatMap qc ++ [34])
def unqG : List UInt8 → List UInt8 → Option (List UInt8 × List UInt8)
 | _, [] => none
 | b, c :: t =>
  if c = 34 then some (b, t)
  else if c.toNat < 32 ∨ 126 < c.toNat then none
  else if c ≠ 92 then unqG (b ++ [c]) t
  else match t with
   | [] => none
   | d :: t1 =>
    if d = 34 ∨ d = 92 then unqG (b ++ [d]) t1
    else match t1 with
     | [] => none
     | e :: t2 => match unhexL [d, e] with
      | some x => unqG (b ++ x) t2
      | none => none
theorem unqG_nil (b : List UInt8) : unqG b [] = none := by rw [unqG.eq_def]
theorem unqG_end (b t : List UInt8) : unqG b (34 :: t) = some (b, t) := by
 rw [unqG.eq_def]
 try rfl
theorem unqG_bad (b t : List UInt8) (c : UInt8) (h : c.toNat < 32 ∨ 126 < c.toNat) : unqG b (c :: t) = none := by
 have h1 : c ≠ 34 := by rintro rfl; revert h; decide
 rw [unqG.eq_def]
 simp only [h1, if_false, if_pos h]
theorem unqG_plain (b t : List UInt8) (c : UInt8) (h1 : c ≠ 34) (h2 : ¬ (c.toNat < 32 ∨ 126 < c.toNat)) (h3 : c ≠ 92) : unqG b (c :: t) = unqG (b ++ [c]) t := by
 rw [unqG.eq_def]
 simp only [h1, if_false, if_neg h2, ne_eq, h3, not_false_eq_true, if_true]
theorem unqG_esc (b t : List UInt8) (d : UInt8) (h : d = 34 ∨ d = 92) : unqG b (92 :: d :: t) = unqG (b ++ [d]) t := by
 rw [unqG.eq_def]
 have h1 : ¬ ((92 : UInt8) = 34) := by decide
 have h2 : ¬ ((92 : UInt8).toNat < 32 ∨ 126 < (92 : UInt8).toNat) := by decide
 simp only [h1, if_false, if_neg h2, ne_eq, not_true_eq_false, if_pos h]
theorem unqG_short (b t : List UInt8) (h : t = [] ∨ ∃ d, t = [d] ∧ ¬ (d = 34 ∨ d = 92)) : unqG b (92 :: t) = none := by
 rw [unqG.eq_def]
 have h1 : ¬ ((92 : UInt8) = 34) := by decide
 have h2 : ¬ ((92 : UInt8).toNat < 32 ∨ 126 < (92 : UInt8).toNat) := by decide
 rcases h with rfl | ⟨d, rfl, hd⟩
 ·simp only [h1, if_false, if_neg h2, ne_eq, not_true_eq_false]
 ·simp only [h1, if_false, if_neg h2, ne_eq, not_true_eq_false, if_neg hd]
theorem unqG_hex (b t : List UInt8) (d e : UInt8) (h : ¬ (d = 34 ∨ d = 92)) : unqG b (92 :: d :: e :: t) = match unhexL [d, e] with
  | some x => unqG (b ++ x) t
  | none => none := by
 rw [unqG.eq_def]
 have h1 : ¬ ((92 : UInt8) = 34) := by decide
 have h2 : ¬ ((92 : UInt8).toNat < 32 ∨ 126 < (92 : UInt8).toNat) := by decide
 simp only [h1, if_false, if_neg h2, ne_eq, not_true_eq_false, if_neg h]
theorem unhex_hex1 : ∀ x : UInt8, unhexL (hexL [x]) = some [x] := by
 have h : ∀ n : Fin 256, unhexL (hexL [UInt8.ofNat n.val]) = some [UInt8.ofNat n.val] := by decide +kernel
 intro x
 have := h ⟨x.toNat, x.toNat_lt⟩
 simpa using this
theorem hex_digits : ∀ x : UInt8, ∃ p q, hexL [x] = [p, q] ∧ (32 ≤ p.toNat ∧ p.toNat ≤ 126 ∧ p ≠ 34 ∧ p ≠ 92) ∧ (32 ≤ q.toNat ∧ q.toNat ≤ 126) := by
 have h : ∀ n : Fin 16, (32 ≤ (hexD n.val).toNat ∧ (hexD n.val).toNat ≤ 126 ∧ hexD n.val ≠ 34 ∧ hexD n.val ≠ 92) := by decide +kernel
 intro x
 have h1 := h ⟨x.toNat / 16, by have := x.toNat_lt; omega⟩
 have h2 := h ⟨x.toNat % 16, by omega⟩
 exact ⟨_, _, rfl, h1, h2.1, h2.2.1⟩
theorem unq_quoted : ∀ (s b r : List UInt8), unqG b (s.flatMap qc ++ 34 :: r) = some (b ++ s, r)
 | [], b, r => by rw [List.flatMap_nil, List.nil_append, List.append_nil, unqG_end]
 | c :: s, b, r => by
  rw [List.flatMap_cons, List.append_assoc, qc_eq c]
  by_cases h1 : c = 34 ∨ c = 92
  ·rw [if_pos h1, List.cons_append, List.cons_append, List.nil_append, unqG_esc _ _ _ h1]
   rw [unq_quoted s, List.append_assoc]
   rfl
  ·rw [if_neg h1]
   by_cases h2 : 32 ≤ c.toNat ∧ c.toNat ≤ 126
   ·rw [if_pos h2, List.cons_append, List.nil_append, unqG_plain _ _ _ (fun e => h1 (.inl e)) (by omega) (fun e => h1 (.inr e)), unq_quoted s, List.append_assoc]
    rfl
   ·rw [if_neg h2]
    obtain ⟨p, q, hpq, hp, hq⟩ := hex_digits c
    have hu := unhex_hex1 c
    rw [hpq] at hu ⊢
    rw [List.cons_append, List.cons_append, List.cons_append, List.nil_append, unqG_hex _ _ _ _ (by rintro (e | e); exact hp.2.2.1 e; exact hp.2.2.2 e), hu]
    show unqG (b ++ [c]) _ = _
    rw [unq_quoted s, List.append_assoc]
    rfl
theorem quote_fair (s : List UInt8) : ∀ c ∈ quoteL s, 32 ≤ c.toNat ∧ c.toNat ≤ 126 := by
 intro c hc
 unfold quoteL at hc
 rcases List.mem_cons.1 hc with rfl | hc
 ·decide
 rcases List.mem_append.1 hc with hc | hc
 ·obtain ⟨x, _, hx⟩ := List.mem_flatMap.1 hc
  unfold qc at hx
  split at hx
  ·next h =>
   rcases List.mem_cons.1 hx with rfl | hx
   ·exact ⟨by decide, by decide⟩
   ·rw [List.mem_singleton] at hx
    rw [hx]
    rcases h with h | h <;> rw [h] <;> exact ⟨by decide, by decide⟩
  ·split at hx
   ·next h => rw [List.mem_singleton] at hx; subst hx; exact h
   ·obtain ⟨p, q, hpq, hp, hq⟩ := hex_digits x
    rw [hpq] at hx
    rcases List.mem_cons.1 hx with rfl | hx
    ·exact ⟨by decide, by decide⟩
    rcases List.mem_cons.1 hx with rfl | hx
    ·exact ⟨hp.1, hp.2.1⟩
    ·rw [List.mem_singleton] at hx
     subst hx
     exact hq
 ·rw [List.mem_singleton] at hc; subst hc; decide
theorem qc_len (c : UInt8) : (qc c).length ≤ 3 ∧ 1 ≤ (qc c).length := by
 unfold qc
 split
 ·exact ⟨by simp, by simp⟩
 ·split
  ·exact ⟨by simp, by simp⟩
  ·exact ⟨by simp [hexL], by simp⟩
theorem quoted_len : ∀ s : List UInt8, (s.flatMap qc).length ≤ 3 * s.length
 | [] => by simp
 | c :: s => by
  have := quoted_len s
  have := (qc_len c).1
  rw [List.flatMap_cons, List.length_append, List.length_cons]
  omega
theorem quote_len (s : List UInt8) : (quoteL s).length ≤ 3 * s.length + 2 := by
 have := quoted_len s
 unfold quoteL
 rw [List.length_cons, List.length_append, List.length_singleton]
 omega
abbrev WordP := List UInt8 × Bool
def isCut (c : UInt8) : Bool := c == 32 || c == 34
def wordsF : Nat → List UInt8 → List WordP → Option (List WordP)
 | 0, _, _ => none
 | n + 1, s, acc => match s.dropWhile (· == 32) with
  | [] => some acc
  | c :: t =>
   if c = 34 then match unqG [] t with
    | none => none
    | some (q, r) => if r ≠ [] ∧ r.head? ≠ some 32 then none else wordsF n r (acc ++ [(q, true)])
   else if ((c :: t).dropWhile (fun x => !isCut x)).head? = some 34 then none
   else wordsF n ((c :: t).dropWhile (fun x => !isCut x)) (acc ++ [((c :: t).takeWhile (fun x => !isCut x), false)])
def wordsL (s : List UInt8) : Option (List WordP) := wordsF (s.length + 1) s []
theorem unqG_len : ∀ (n : Nat) (t b q r : List UInt8), t.length ≤ n → unqG b t = some (q, r) → r.length < t.length
 | 0, t, b, q, r, hn, h => by
  obtain rfl : t = [] := List.eq_nil_of_length_eq_zero (by omega)
  rw [unqG_nil] at h
  cases h
 | n + 1, [], b, q, r, hn, h => by
  rw [unqG_nil] at h
  cases h
 | n + 1, c :: t, b, q, r, hn, h => by
  simp only [List.length_cons] at hn ⊢
  by_cases h1 : c = 34
  ·subst h1
   rw [unqG_end] at h
   cases h
   exact Nat.lt_succ_self _
  by_cases h2 : c.toNat < 32 ∨ 126 < c.toNat
  ·rw [unqG_bad _ _ _ h2] at h
   cases h
  by_cases h3 : c = 92
  ·subst h3
   match t, hn, h with
   | [], hn, h => rw [unqG_short _ _ (.inl rfl)] at h; cases h
   | [d], hn, h =>
    by_cases hd : d = 34 ∨ d = 92
    ·rw [unqG_esc _ _ _ hd, unqG_nil] at h
     cases h
    ·rw [unqG_short _ _ (.inr ⟨d, rfl, hd⟩)] at h
     cases h
   | d :: e :: t2, hn, h =>
    simp only [List.length_cons] at hn ⊢
    by_cases hd : d = 34 ∨ d = 92
    ·rw [unqG_esc _ _ _ hd] at h
     have := unqG_len n (e :: t2) _ q r (by simp only [List.length_cons]; omega) h
     simp only [List.length_cons] at this
     omega
    ·rw [unqG_hex _ _ _ _ hd] at h
     cases hu : unhexL [d, e] with
     | none => rw [hu] at h; cases h
     | some x =>
      rw [hu] at h
      have := unqG_len n t2 _ q r (by omega) h
      omega
  ·rw [unqG_plain _ _ _ h1 h2 h3] at h
   have := unqG_len n t _ q r (by omega) h
   omega
section
variable {n : Nat} {s t : List UInt8} {acc : List WordP} {c : UInt8}
theorem wordsF_nil (h : s.dropWhile (· == 32) = []) : wordsF (n + 1) s acc = some acc := by
 rw [wordsF, h]
theorem wordsF_noq (h : s.dropWhile (· == 32) = 34 :: t) (hq : unqG [] t = none) : wordsF (n + 1) s acc = none := by
 rw [wordsF, h]
 simp only [if_true, hq]
theorem wordsF_near (h : s.dropWhile (· == 32) = 34 :: t) {q r : List UInt8} (hq : unqG [] t = some (q, r)) (hr : r ≠ []) (hr2 : r.head? ≠ some 32) : wordsF (n + 1) s acc = none := by
 rw [wordsF, h]
 simp only [if_true, hq]
 rw [if_pos ⟨hr, hr2⟩]
theorem wordsF_quo (h : s.dropWhile (· == 32) = 34 :: t) {q r : List UInt8} (hq : unqG [] t = some (q, r)) (hr : r = [] ∨ r.head? = some 32) : wordsF (n + 1) s acc = wordsF n r (acc ++ [(q, true)]) := by
 rw [wordsF, h]
 simp only [if_true, hq]
 rw [if_neg (by rintro ⟨h1, h2⟩; exact hr.elim h1 h2)]
theorem wordsF_glued (h : s.dropWhile (· == 32) = c :: t) (hc : c ≠ 34) (hr : ((c :: t).dropWhile (fun x => !isCut x)).head? = some 34) : wordsF (n + 1) s acc = none := by
 rw [wordsF, h]
 simp only [hc, if_false]
 rw [if_pos hr]
theorem wordsF_plain (h : s.dropWhile (· == 32) = c :: t) (hc : c ≠ 34) (hr : ((c :: t).dropWhile (fun x => !isCut x)).head? ≠ some 34) : wordsF (n + 1) s acc = wordsF n ((c :: t).dropWhile (fun x => !isCut x)) (acc ++ [((c :: t).takeWhile (fun x => !isCut x), false)]) := by
 rw [wordsF, h]
 simp only [hc, if_false]
 rw [if_neg hr]
end
theorem drop_blank {s : List UInt8} {c : UInt8} {t : List UInt8} (h : s.dropWhile (· == 32) = c :: t) : c ≠ 32 := by
 intro hc
 have := List.head?_dropWhile_not (· == (32 : UInt8)) s
 rw [h] at this
 simp [hc] at this
theorem cut_ways : ∀ l : List UInt8, (Lib.indexAny l [32, 34] = -1 ∧ l.takeWhile (fun x => !isCut x) = l ∧ l.dropWhile (fun x => !isCut x) = []) ∨
  ∃ i, ∃ h : i < l.length, Lib.indexAny l [32, 34] = (i : Int) ∧ l.takeWhile (fun x => !isCut x) = l.take i ∧ l.dropWhile (fun x => !isCut x) = l.drop i ∧ isCut l[i] = true
 | [] => .inl ⟨rfl, rfl, rfl⟩
 | b :: l => by
  have hcut : isCut b = ([32, 34] : List UInt8).contains b := by simp [isCut, Bool.beq_eq_decide_eq]
  have hidx : Lib.indexAny (b :: l) [32, 34] = if ([32, 34] : List UInt8).contains b then 0 else if Lib.indexAny l [32, 34] = -1 then -1 else Lib.indexAny l [32, 34] + 1 := by
   rw [Lib.indexAny]
   split
   ·rfl
   ·simp only [beq_iff_eq]
  by_cases hb : isCut b = true
  ·right
   refine ⟨0, by simp, ?_, ?_, ?_, hb⟩
   ·rw [hidx, ← hcut, if_pos hb]; rfl
   ·rw [List.takeWhile_cons, if_neg (by simp [hb])]; rfl
   ·rw [List.dropWhile_cons, if_neg (by simp [hb])]; rfl
  ·have hbf : isCut b = false := by simpa using hb
   have hnb : (!isCut b) = true := by rw [hbf]; rfl
   rw [← hcut, hbf, if_neg (by decide)] at hidx
   rcases cut_ways l with ⟨h1, h2, h3⟩ | ⟨i, hi, h1, h2, h3, h4⟩
   ·left
    refine ⟨by rw [hidx, if_pos h1], ?_, ?_⟩
    ·rw [List.takeWhile_cons, if_pos hnb, h2]
    ·rw [List.dropWhile_cons, if_pos hnb, h3]
   ·right
    refine ⟨i + 1, by simpa using hi, ?_, ?_, ?_, by simpa using h4⟩
    ·rw [hidx, if_neg (by omega), h1]; rfl
    ·rw [List.takeWhile_cons, if_pos hnb, h2, List.take_succ_cons]
    ·rw [List.dropWhile_cons, if_pos hnb, h3, List.drop_succ_cons]
def linesL : List UInt8 → List (List UInt8)
 | [] => [[]]
 | c :: t => if c = 10 then [] :: linesL t else match linesL t with
  | [] => [[c]]
  | x :: l => (c :: x) :: l
theorem linesL_ne : ∀ l : List UInt8, linesL l ≠ []
 | [] => by simp [linesL]
 | c :: t => by
  rw [linesL]
  split
  ·simp
  ·split <;> simp
theorem linesL_none : ∀ l : List UInt8, 10 ∉ l → linesL l = [l]
 | [], _ => rfl
 | c :: t, h => by
  simp only [List.mem_cons, not_or] at h
  rw [linesL, if_neg (by simpa using fun hc => h.1 hc.symm), linesL_none t h.2]
theorem linesL_cut : ∀ (a b : List UInt8), 10 ∉ a → linesL (a ++ 10 :: b) = a :: linesL b
 | [], b, _ => by rw [List.nil_append, linesL, if_pos (by rfl)]
 | c :: a, b, h => by
  simp only [List.mem_cons, not_or] at h
  rw [List.cons_append, linesL, if_neg (by simpa using fun hc => h.1 hc.symm), linesL_cut a b h.2]
end Go.Proofs.YthenffabboomnaaGreatDoor.Scr
namespace Go.Proofs.YthenffabboomnaaGreatDoor
open Go.RowKit
section
variable {P : Program} {κ : Type} [DecidableEq κ]
def MapR (kv : κ → Value) (es : Array MapEntry) (R : List (κ × Value)) : Prop := es.toList.map (fun e => (e.key, e.val)) = R.map (fun x => (kv x.1, x.2))
def look (R : List (κ × Value)) (k : κ) : Option Value := match R with
 | [] => none
 | x :: R => if k = x.1 then some x.2 else look R k
theorem MapR.push {kv : κ → Value} {es : Array MapEntry} {R : List (κ × Value)} (h : MapR kv es R) (k : κ) (v : Value) (b : Nat) : MapR kv (es.push { key := kv k, val := v, born := b }) (R ++ [(k, v)]) := by
 unfold MapR at h ⊢
 simp [h]
theorem MapR.nil (kv : κ → Value) : MapR kv #[] [] := rfl
def Finds (P : Program) (K : TypeId) (kv : κ → Value) : Prop := ∀ (w : World) (k : κ) (es : Array MapEntry) (R : List (κ × Value)), MapR kv es R → ∃ q, (Instr.findKey K (kv k) es.toList).run P w = .ok q w ∧ q.map (·.2) = look R k
theorem asking_run {K : TypeId} {kv : κ → Value} (hEq : ∀ w a b, (Op.equal K (kv a) (kv b)).run P w = .ok (decide (a = b)) w) (w : World) (k : κ) : ∀ (es : List MapEntry) (R : List (κ × Value)) (i : Nat), es.map (fun e => (e.key, e.val)) = R.map (fun x => (kv x.1, x.2)) →
  ∃ r, (Instr.findAsking K (kv k) es i).run P w = .ok r w ∧ r.map (·.2) = look R k
 | [], [], i, _ => ⟨none, rfl, rfl⟩
 | [], _ :: _, i, h => by simp at h
 | _ :: _, [], i, h => by simp at h
 | e :: es, x :: R, i, h => by
  simp only [List.map_cons, List.cons.injEq, Prod.mk.injEq] at h
  obtain ⟨r, hr, hm⟩ := asking_run hEq w k es R (i + 1) h.2
  simp only [Instr.findAsking, Sem.run_bind, h.1.1, hEq, Result.andThen_ok, look]
  by_cases hx : k = x.1
  ·simp only [hx, decide_true, if_true]
   exact ⟨some (i, e.val), rfl, by simp [h.1.2]⟩
  ·simp only [hx, decide_false, Bool.false_eq_true, if_false]
   exact ⟨r, hr, hm⟩
theorem now_run {kv : κ → Value} {D : TypeDesc} (hNow : ∀ a b, Instr.sameNow D (kv a) (kv b) = some (decide (a = b))) (k : κ) : ∀ (es : List MapEntry) (R : List (κ × Value)) (i : Nat), es.map (fun e => (e.key, e.val)) = R.map (fun x => (kv x.1, x.2)) →
  ∃ r, Instr.findNow D (kv k) es i = some r ∧ r.map (·.2) = look R k
 | [], [], i, _ => ⟨none, rfl, rfl⟩
 | [], _ :: _, i, h => by simp at h
 | _ :: _, [], i, h => by simp at h
 | e :: es, x :: R, i, h => by
  simp only [List.map_cons, List.cons.injEq, Prod.mk.injEq] at h
  obtain ⟨r, hr, hm⟩ := now_run hNow k es R (i + 1) h.2
  simp only [Instr.findNow, h.1.1, hNow, look]
  by_cases hx : k = x.1
  ·simp only [hx, decide_true, if_true]
   exact ⟨some (i, e.val), rfl, by simp [h.1.2]⟩
  ·simp only [hx, decide_false, if_false]
   exact ⟨r, hr, hm⟩
theorem finds_now {K : TypeId} {kv : κ → Value} {D : TypeDesc} (hU : P.underlying K = some D) (hNow : ∀ a b, Instr.sameNow D (kv a) (kv b) = some (decide (a = b))) : Finds P K kv := by
 intro w k es R h
 obtain ⟨r, hr, hm⟩ := now_run hNow k es.toList R 0 h
 unfold Instr.findKey
 simp only [Sem.run_bind, run_underlying hU, Result.andThen_ok, hr]
 exact ⟨r, rfl, hm⟩
theorem map_put {T K E : TypeId} {kv : κ → Value} (hT : P.underlying T = some (.map K E)) (hF : Finds P K kv) (hC : ∀ (b : Bool) w k, (Instr.checkKey b 10000 K (kv k)).run P w = .ok () w)
  (w : World) (r c : Nat) (es : Array MapEntry) (R : List (κ × Value)) (hw : w.heap[r]? = some (.map es c)) (h : MapR kv es R) (k : κ) (v : Value) (hn : look R k = none) :
  (Instr.mapUpdate T (.map (some r)) (kv k) v).run P w = .ok () (World.setMap w r (es.push { key := kv k, val := v, born := c }) (c + 1)) := by
 obtain ⟨q, hq, hm⟩ := hF w k es R h
 rw [hn] at hm
 obtain rfl : q = none := by simpa using hm
 unfold Instr.mapUpdate
 simp only [Sem.run_bind, run_underlying hT, Result.andThen_ok]
 simp only [getObj, Sem.run, Sem.run_bind, hw, Result.andThen_ok, hC, hq, setObj, World.setMap]
theorem map_look2 {T K E : TypeId} {kv : κ → Value} (hT : P.underlying T = some (.map K E)) (hF : Finds P K kv) (hC : ∀ (b : Bool) w k, (Instr.checkKey b 10000 K (kv k)).run P w = .ok () w) {z : Value} (hz : ∀ w, (zeroValue E).run P w = .ok z w)
  (w : World) (r c : Nat) (es : Array MapEntry) (R : List (κ × Value)) (hw : w.heap[r]? = some (.map es c)) (h : MapR kv es R) (k : κ) :
  (Instr.lookup T (.map (some r)) (kv k) true).run P w = .ok (.tuple #[(look R k).getD z, .bool (look R k).isSome]) w := by
 obtain ⟨q, hq, hm⟩ := hF w k es R h
 unfold Instr.lookup
 simp only [Sem.run_bind, run_underlying hT, Result.andThen_ok]
 simp only [getObj, Sem.run, Sem.run_bind, hw, Result.andThen_ok, hC, hq, pure, Sem.run_pure]
 rw [← hm]
 cases q with
 | none =>
  simp only [Sem.run_bind, hz, Result.andThen_ok]
  rfl
 | some x => rfl
end
open Go.RowKit
structure Mods (S : List Nat) (w w' : World) : Prop where
 os : w'.os = w.os
 tape : w'.tape = w.tape
 output : w'.output = w.output
 size : w.heap.size ≤ w'.heap.size
 block : ∀ k, k < w.heap.size → k ∉ S → w'.heap[k]? = w.heap[k]?
theorem Mods.refl (S : List Nat) (w : World) : Mods S w w := ⟨rfl, rfl, rfl, Nat.le_refl _, fun _ _ _ => rfl⟩
theorem Mods.trans {S : List Nat} {a b c : World} (h : Mods S a b) (k : Mods S b c) : Mods S a c :=
 ⟨k.os.trans h.os, k.tape.trans h.tape, k.output.trans h.output, Nat.le_trans h.size k.size, fun i hi hn => (k.block i (Nat.lt_of_lt_of_le hi h.size) hn).trans (h.block i hi hn)⟩
theorem Mods.mono {S S' : List Nat} {w w' : World} (h : Mods S w w') (hs : ∀ x ∈ S, x ∈ S') : Mods S' w w' := ⟨h.os, h.tape, h.output, h.size, fun k hk hn => h.block k hk (fun hx => hn (hs k hx))⟩
theorem Mods.news {S S' : List Nat} {w w' : World} (h : Mods S w w') (hs : ∀ x ∈ S, x ∈ S' ∨ w.heap.size ≤ x) : Mods S' w w' := ⟨h.os, h.tape, h.output, h.size, fun k hk hn => h.block k hk (fun hx => by
 rcases hs k hx with h1 | h1
 ·exact hn h1
 ·omega)⟩
theorem Mods.of_below {w w' : World} (h : Below w.heap.size w w') (S : List Nat) : Mods S w w' := ⟨h.os, h.tape, h.output, h.size, fun k hk _ => h.block k hk⟩
theorem Mods.drew {S : List Nat} {a w : World} (h : Mods S a w) : Mods S a w.drew := ⟨h.os, h.tape, h.output, h.size, h.block⟩
theorem Mods.drewN {S : List Nat} {a w : World} (h : Mods S a w) (n : Nat) : Mods S a (w.drewN n) := ⟨h.os, h.tape, h.output, h.size, h.block⟩
theorem Mods.alloc {S : List Nat} {a w : World} (h : Mods S a w) (o : Obj) : Mods S a (w.alloc o) := h.trans (Mods.of_below ((Below.refl _ _).alloc (Nat.le_refl _) o) S)
theorem Mods.setCell {S : List Nat} {a w : World} (h : Mods S a w) {p : Addr} (hp : p.block ∈ S) (u : Value) : Mods S a (w.setCell p u) :=
 h.trans ⟨rfl, rfl, rfl, by simp [World.setCell], fun k hk hn => Below.heap_setCell _ _ _ _ (by rintro rfl; exact hn hp)⟩
theorem Mods.setMap {S : List Nat} {a w : World} (h : Mods S a w) {r : Nat} (hr : r ∈ S) (es : Array MapEntry) (c : Nat) : Mods S a (World.setMap w r es c) :=
 h.trans ⟨rfl, rfl, rfl, by rw [setMap_size]; exact Nat.le_refl _, fun k hk hn => setMap_other (by rintro rfl; exact hn hr)⟩
theorem Mods.below {S : List Nat} {B : Nat} {w w' : World} (h : Mods S w w') (hB : B ≤ w.heap.size) (hS : ∀ x ∈ S, B ≤ x) : Below B w w' :=
 ⟨h.os, h.tape, h.output, h.size, fun k hk => h.block k (Nat.lt_of_lt_of_le hk hB) (fun hx => by have := hS k hx; omega)⟩
theorem Mods.same {S : List Nat} {w w' : World} (h : Mods S w w') {g : Nat} {o : Obj} (ho : w.heap[g]? = some o) (hg : g ∉ S) : w'.heap[g]? = some o :=
 (h.block g (Array.getElem?_eq_some_iff.1 ho).1 hg).trans ho
theorem Mods.bk {S : List Nat} {w w' : World} (h : Mods S w w') {g : Nat} {t : TypeId} {cs : Array Value} (hb : Bk w g t cs) (hg : g ∉ S) : Bk w' g t cs := Mods.same h hb hg
theorem Mods.cell {S : List Nat} {w w' : World} (h : Mods S w w') {g o : Nat} {v : Value} (hc : w.cell? ⟨g, o, none⟩ = some v) (hg : g ∉ S) : w'.cell? ⟨g, o, none⟩ = some v := by
 rw [World.cell?_of_block (w := w) (h.block g (cell_lt hc) hg)]
 exact hc
def NoText (w : World) (S : List Nat) : Prop := ∀ g ∈ S, ∀ s, w.cell? ⟨g, 0, none⟩ ≠ some (.string s)
theorem Texts.mods {S : List Nat} {w w' : World} {v : Value} {xs : List (List UInt8)} (h : Texts w v xs) (hm : Mods S w w') (hS : NoText w S) : Texts w' v xs := by
 rcases h with h | ⟨b, c, rfl, hc, hlt, hcell⟩
 ·exact .inl h
 ·refine .inr ⟨b, c, rfl, hc, Nat.lt_of_lt_of_le hlt hm.size, fun j hj => hm.cell (hcell j hj) (fun hb => ?_)⟩
  exact hS b hb _ (hcell 0 (by omega))
open Go.RowKit
def wdsC (x : Scr.WordP) : List Value := [.string ⟨x.1.toArray⟩, .bool x.2]
def WdsS (B : Nat) (w : World) (v : Value) (l : List Scr.WordP) : Prop := w.ownsRow B 78 2 v l.length (l.flatMap wdsC) ∧ B ≤ w.heap.size
theorem WdsS.lt {B : Nat} {w : World} {v : Value} {l : List Scr.WordP} (h : WdsS B w v l) : ∀ k, v.ownBlock = some k → B ≤ k ∧ k < w.heap.size := fun k hk => h.1.lt k hk
theorem WdsS.keep {B : Nat} {w w' : World} {v : Value} {l : List Scr.WordP} (h : WdsS B w v l) {r : Option Nat} (hg : w.grownBy w' r) (hr : ∀ k, r = some k → k < B) : WdsS B w' v l := by
 refine ⟨h.1.kept hg ?_, Nat.le_trans h.2 hg.size⟩
 rcases hv : v.ownBlock with _ | g
 ·exact .inl rfl
 ·refine .inr ?_
  intro he
  have := hr g he.symm
  have := (h.1.lt g hv).1
  omega
theorem WdsS.below {B : Nat} {w w' : World} {v : Value} {l : List Scr.WordP} (h : WdsS B w v l) (hb : Below w.heap.size w w') : WdsS B w' v l := h.keep (grown_below hb none) (fun k hk => by cases hk)
theorem WdsS.nil {B : Nat} {w : World} (hB : B ≤ w.heap.size) : WdsS B w (.slice none 0 0) [] := ⟨World.ownsRow_nil _ _ _ _, hB⟩
theorem WdsS.isSlice {B : Nat} {w : World} {v : Value} {l : List Scr.WordP} (h : WdsS B w v l) : ∃ A c, v = .slice A l.length c ∧ l.length ≤ c := by
 obtain ⟨⟨h1, h2⟩, h3⟩ := h
 rcases h2 with ⟨rfl, hn⟩ | ⟨g, cap, cur, rfl, r2, r3, r4, _⟩
 ·exact ⟨none, 0, by rw [hn], by omega⟩
 ·exact ⟨_, cap, rfl, r4⟩
theorem infoWordS : ∃ i, Tryz.prog.info? 78 = some i ∧ i.zero = some (.agg #[.string ⟨#[]⟩, .bool false]) ∧ i.size = 2 ∧ i.bytes = 24 := by
 obtain ⟨i, h1, h2, h3, h4⟩ := info_parts (show (Tryz.prog.info? 78).map (fun i => (i.zero, i.size, i.bytes)) = some (some (.agg #[.string ⟨#[]⟩, .bool false]), 2, 24) by kernel_rfl)
 exact ⟨i, h1, h2, h3, h4⟩
theorem wdsS_one {ops : Array Oper} {rest : List Oper} {o : Oper} {a : Act} {Q : Exit → Act → World → Prop} (hgd : o.guard = none) (s x : Operand) (ho : o.op = .call { callee := .builtin .append, args := #[s, x], argTypes := #[48, 48] })
  {v : Value} {l : List Scr.WordP} {B N : Nat} {w0 : World} {t : List UInt8} {q : Bool} (hs : a.eval s = v) (hb : WdsS B w0 v l)
  (hx : a.eval x = .slice (some ⟨N, 0, none⟩) 1 1) (hN : N = w0.heap.size) (hlen : l.length < 1000000)
  (h : ∀ v' w', WdsS B w' v' (l ++ [(t, q)]) → w0.grownBy w' v.ownBlock → wpList Tryz.prog ops Q rest (a.put o.dst v') w') : wpList Tryz.prog ops Q (o :: rest) a (w0.alloc (.cells #[.string ⟨t.toArray⟩, .bool q] 78)) := by
 subst hN
 obtain ⟨i, h1, h2, h3, h4⟩ := infoWordS
 have hb' := hb.keep (World.grownBy_alloc w0 (.cells #[.string ⟨t.toArray⟩, .bool q] 78) none) (fun k hk => by cases hk)
 refine wpList_append_own _ hgd s x 48 ho B 78 i (.agg #[.string ⟨#[]⟩, .bool false]) 2 24 Tryz.underlying48 h1 h2 h3 h4 rfl (by decide) v _ _ hs hb'.1 ⟨w0.heap.size, 0, none⟩ 1 1 (wdsC (t, q)) hx rfl ?_ ?_ (by unfold maxLen; omega) (by omega) hb'.2 ?_
 ·intro j y hj
  match j, hj with
  | 0, hj => simp [wdsC] at hj; subst hj; simp [Addr.add]
  | 1, hj => simp [wdsC] at hj; subst hj; simp [Addr.add]
  | (j + 2), hj => simp [wdsC] at hj
 ·intro y hy; simp [wdsC] at hy; rcases hy with rfl | rfl <;> rfl
 ·intro v' w' ho' hg _
  refine h v' w' ⟨?_, Nat.le_trans hb'.2 hg.size⟩ (World.grownBy.trans (World.grownBy_alloc _ _ _) hg)
  simpa using ho'
theorem wflatS_get : ∀ (l : List Scr.WordP) (j : Nat) (x : Scr.WordP), l[j]? = some x → (l.flatMap wdsC)[2 * j]? = some (.string ⟨x.1.toArray⟩) ∧ (l.flatMap wdsC)[2 * j + 1]? = some (.bool x.2)
 | [], j, x, h => by simp at h
 | y :: l, 0, x, h => by
  simp at h; subst h
  simp [wdsC]
 | y :: l, j + 1, x, h => by
  have := wflatS_get l j x (by simpa using h)
  simp only [List.flatMap_cons, wdsC, List.cons_append, List.nil_append]
  rw [show 2 * (j + 1) = 2 * j + 1 + 1 by omega]
  simpa using this
def WdsT (w : World) (v : Value) (l : List Scr.WordP) : Prop :=
 ∃ A c, v = .slice A l.length c ∧ l.length ≤ c ∧ (l = [] ∨ ∃ g o, A = some ⟨g, o, none⟩ ∧ (∃ cs z, w.heap[g]? = some (.cells cs 78 z)) ∧ ∀ j x, l[j]? = some x → w.cell? ⟨g, o + 2 * j, none⟩ = some (.string ⟨x.1.toArray⟩) ∧ w.cell? ⟨g, o + 2 * j + 1, none⟩ = some (.bool x.2))
theorem WdsS.reads {B : Nat} {w : World} {v : Value} {l : List Scr.WordP} (h : WdsS B w v l) : WdsT w v l := by
 obtain ⟨⟨h1, h2⟩, h3⟩ := h
 rcases h2 with ⟨rfl, hn⟩ | ⟨g, cap, cur, rfl, r2, r3, r4, r5, r6, r7⟩
 ·exact ⟨none, 0, by rw [hn], by omega, .inl (List.eq_nil_of_length_eq_zero hn)⟩
 ·refine ⟨_, cap, rfl, r4, ?_⟩
  have key : ∀ j x, l[j]? = some x → w.cell? ⟨g, 2 * j, none⟩ = some (.string ⟨x.1.toArray⟩) ∧ w.cell? ⟨g, 2 * j + 1, none⟩ = some (.bool x.2) := by
   intro j x hj
   have hf := wflatS_get l j x hj
   have hjl : j < l.length := (List.getElem?_eq_some_iff.1 hj).1
   rw [← r7, List.getElem?_take, List.getElem?_take, if_pos (by omega), if_pos (by omega)] at hf
   simp only [World.cell?, r3]
   simpa using hf
  cases l with
  | nil => exact .inl rfl
  | cons y t => exact .inr ⟨g, 0, rfl, ⟨_, _, r3⟩, fun j x hj => by rw [Nat.zero_add]; exact key j x hj⟩
def NoWordS (w : World) (S : List Nat) : Prop := ∀ g ∈ S, ∀ cs z, w.heap[g]? ≠ some (.cells cs 78 z)
theorem NoWordS.of_bk {w : World} {g : Nat} {t : TypeId} {cs : Array Value} (h : Bk w g t cs) (ht : t ≠ 78) : NoWordS w [g] := by
 intro k hk cs' z
 have : k = g := by simpa using hk
 subst this
 unfold Bk at h
 rw [h]
 intro e
 cases e
 exact ht rfl
theorem WdsT.mods {S : List Nat} {w w' : World} {v : Value} {l : List Scr.WordP} (h : WdsT w v l) (hm : Mods S w w') (hS : NoWordS w S) : WdsT w' v l := by
 obtain ⟨A, c, rfl, hc, h⟩ := h
 refine ⟨A, c, rfl, hc, h.imp id ?_⟩
 rintro ⟨g, o, rfl, ⟨cs, z, hs⟩, hx⟩
 have hg : g ∉ S := fun hg => hS g hg cs z hs
 exact ⟨g, o, rfl, ⟨cs, z, hm.same hs hg⟩, fun j x hj => ⟨hm.cell (hx j x hj).1 hg, hm.cell (hx j x hj).2 hg⟩⟩
theorem WdsT.below {w w' : World} {v : Value} {l : List Scr.WordP} (h : WdsT w v l) (hb : Below w.heap.size w w') : WdsT w' v l := h.mods (Mods.of_below hb []) (fun g hg => by cases hg)
theorem WdsT.uncons {w : World} {A : Option Addr} {n c : Nat} {x : Scr.WordP} {l : List Scr.WordP} (h : WdsT w (.slice A n c) (x :: l)) : ∃ g o, A = some ⟨g, o, none⟩ ∧ n = l.length + 1 ∧ l.length + 1 ≤ c ∧ w.cell? ⟨g, o, none⟩ = some (.string ⟨x.1.toArray⟩) ∧ w.cell? ⟨g, o + 1, none⟩ = some (.bool x.2) ∧
  ∀ A' c', l.length ≤ c' → (1 < c → A' = some ⟨g, o + 2, none⟩) → WdsT w (.slice A' l.length c') l := by
 obtain ⟨A0, c0, e, hc, h⟩ := h
 cases e
 rcases h with h | ⟨g, o, rfl, hs, hx⟩
 ·cases h
 ·refine ⟨g, o, rfl, rfl, hc, (hx 0 x rfl).1, (hx 0 x rfl).2, ?_⟩
  intro A' c' hc' h1
  refine ⟨A', c', rfl, hc', ?_⟩
  cases l with
  | nil => exact .inl rfl
  | cons y t =>
   simp only [List.length_cons] at hc
   refine .inr ⟨g, o + 2, h1 (by omega), hs, fun j z hj => ?_⟩
   have := hx (j + 1) z (by simpa using hj)
   rw [show o + 2 * (j + 1) = o + 2 + 2 * j by omega] at this
   exact this
def RdS (w : World) (r : Nat) (l : List Scr.WordP) : Prop := ∃ v, Bk w r 83 #[v] ∧ WdsT w v l
theorem RdS.mods {S : List Nat} {w w' : World} {r : Nat} {l : List Scr.WordP} (h : RdS w r l) (hm : Mods S w w') (hr : r ∉ S) (hS : NoWordS w S) : RdS w' r l := by
 obtain ⟨v, hb, hw⟩ := h
 exact ⟨v, hm.bk hb hr, hw.mods hm hS⟩
theorem RdS.below {w w' : World} {r : Nat} {l : List Scr.WordP} (h : RdS w r l) (hb : Below w.heap.size w w') : RdS w' r l := h.mods (Mods.of_below hb []) (by simp) (fun g hg => by cases hg)
open Go.RowKit
end Go.Proofs.YthenffabboomnaaGreatDoor
