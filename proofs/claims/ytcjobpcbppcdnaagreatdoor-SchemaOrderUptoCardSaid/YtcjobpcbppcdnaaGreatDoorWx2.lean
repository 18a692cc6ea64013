/- Plain: what a definition says (chapter 6). (Printed by gen_m0.py.) -/
import Derived.Test.YtcjobpcbppcdnaaGreatDoorWx1
import Derived.StillTailTactics
set_option linter.all false
namespace Go.Proofs.YtcjobpcbppcdnaaGreatDoor
def wName : List UInt8 := [78, 65, 77, 69]
def wDesc : List UInt8 := [68, 69, 83, 67]
def wSup : List UInt8 := [83, 85, 80]
def wMust : List UInt8 := [77, 85, 83, 84]
def wMay : List UInt8 := [77, 65, 89]
def wEquality : List UInt8 := [69, 81, 85, 65, 76, 73, 84, 89]
def wOrdering : List UInt8 := [79, 82, 68, 69, 82, 73, 78, 71]
def wSubstr : List UInt8 := [83, 85, 66, 83, 84, 82]
def wSyntax : List UInt8 := [83, 89, 78, 84, 65, 88]
def wSingleValue : List UInt8 := [83, 73, 78, 71, 76, 69, 45, 86, 65, 76, 85, 69]
def wNoUserModification : List UInt8 := [78, 79, 45, 85, 83, 69, 82, 45, 77, 79, 68, 73, 70, 73, 67, 65, 84, 73, 79, 78]
def wUsage : List UInt8 := [85, 83, 65, 71, 69]
def wAbstract : List UInt8 := [65, 66, 83, 84, 82, 65, 67, 84]
def wStructural : List UInt8 := [83, 84, 82, 85, 67, 84, 85, 82, 65, 76]
def wAuxiliary : List UInt8 := [65, 85, 88, 73, 76, 73, 65, 82, 89]
def wDirectoryoperation : List UInt8 := [100, 105, 114, 101, 99, 116, 111, 114, 121, 79, 112, 101, 114, 97, 116, 105, 111, 110]
def wUserapplications : List UInt8 := [117, 115, 101, 114, 65, 112, 112, 108, 105, 99, 97, 116, 105, 111, 110, 115]
def wAKind : List UInt8 := [97, 32, 107, 105, 110, 100]

/-- A word, and whether it stood between quotes. -/
abbrev Wd := List UInt8 × Bool
def sBlank (c : UInt8) : Bool := c == 32 || c == 9 || c == 10 || c == 13
def sAlone (c : UInt8) : Bool := c == 40 || c == 41 || c == 36
def sStop (c : UInt8) : Bool := sBlank c || sAlone c || c == 39
/-- The words of a text. -/
def wordsF : Nat → List UInt8 → List Wd → Option (List Wd)
  | 0, _, acc => some acc
  | n + 1, r, acc => match r.dropWhile sBlank with
    | [] => some acc
    | c :: t =>
      if c == 39 then (if t.contains 39 then wordsF n (t.dropWhile (· != 39)).tail (acc ++ [(t.takeWhile (· != 39), true)]) else none)
      else if sAlone c then wordsF n t (acc ++ [([c], false)])
      else wordsF n (t.dropWhile (fun c => !sStop c)) (acc ++ [(c :: t.takeWhile (fun c => !sStop c), false)])
def wordsL (s : List UInt8) : Option (List Wd) := wordsF (s.length + 1) s []

/-- The reader of words. -/
def rIs (l : List Wd) (s : List UInt8) : Bool := match l with
  | [] => false
  | (x, q) :: _ => x == s && !q
def rPlain (l : List Wd) : Option (List UInt8 × List Wd) := match l with
  | [] => none
  | (x, q) :: t => if q || Lib.contains [40, 41, 36] x then none else some (x, t)
def rQuoted (l : List Wd) : Option (List UInt8 × List Wd) := match l with
  | [] => none
  | (x, q) :: t => if q then some (x, t) else none
def rName (l : List Wd) : Option (List UInt8 × List Wd) := match rPlain l with
  | none => none
  | some (s, t) => if isTypeL s then some (s, t) else none
def listF (sign : List UInt8) (one : List Wd → Option (List UInt8 × List Wd)) (many : Bool) : Nat → List Wd → List (List UInt8) → Option (List (List UInt8) × List Wd)
  | 0, _, _ => none
  | n + 1, l, acc => match one l with
    | none => none
    | some (s, t) =>
      if isTypeL s then
        (if !many then some (acc ++ [s], t)
         else if rIs t [41] then some (acc ++ [s], t.tail)
         else if sign == [] then listF sign one many n t (acc ++ [s])
         else if rIs t sign then listF sign one many n t.tail (acc ++ [s]) else none)
      else none
def rList (sign : List UInt8) (one : List Wd → Option (List UInt8 × List Wd)) (l : List Wd) : Option (List (List UInt8) × List Wd) :=
  listF sign one (rIs l [40]) (l.length + 1) (if rIs l [40] then l.tail else l) []

/-- A definition. -/
structure DefS where
  cls : Bool
  oid : List UInt8
  names : List (List UInt8)
  sup : List (List UInt8)
  must : List (List UInt8)
  may : List (List UInt8)
  form : List UInt8
  eqr : List UInt8
  ordr : List UInt8
  subs : List UInt8
  single : Bool
  fixed : Bool
  oper : Bool
  kind : Int
  deriving DecidableEq
def DefS.new (cls : Bool) (oid : List UInt8) : DefS := ⟨cls, oid, [], [], [], [], [], [], [], [], false, false, false, 1⟩
/-- A rule of a kind. -/
def rRule (k : Int) (l : List Wd) : Option (List UInt8 × List Wd) := match rPlain l with
  | none => none
  | some (s, t) => match ruleT (smallL s) with
    | none => none
    | some x => if x.2.1 == k then some (x.1, t) else none
/-- What a field's word wants. -/
def fieldC (d : DefS) (f : List UInt8) (l : List Wd) : Option (DefS × List Wd) :=
  if f = wName then (rList [] rQuoted l).map fun x => ({ d with names := x.1 }, x.2)
  else if f = wDesc then (rQuoted l).map fun x => (d, x.2)
  else if f = wSup then (rList [36] rName l).map fun x => ({ d with sup := x.1 }, x.2)
  else if f = wMust then (rList [36] rName l).map fun x => ({ d with must := x.1 }, x.2)
  else if f = wMay then (rList [36] rName l).map fun x => ({ d with may := x.1 }, x.2)
  else none
def fieldA (d : DefS) (f : List UInt8) (l : List Wd) : Option (DefS × List Wd) :=
  if f = wName then (rList [] rQuoted l).map fun x => ({ d with names := x.1 }, x.2)
  else if f = wDesc then (rQuoted l).map fun x => (d, x.2)
  else if f = wSup then (rName l).map fun x => ({ d with sup := [x.1] }, x.2)
  else if f = wEquality then (rRule 0 l).map fun x => ({ d with eqr := x.1 }, x.2)
  else if f = wOrdering then (rRule 1 l).map fun x => ({ d with ordr := x.1 }, x.2)
  else if f = wSubstr then (rRule 2 l).map fun x => ({ d with subs := x.1 }, x.2)
  else if f = wSyntax then (match rPlain l with
    | none => none
    | some (s, t) => if formE s == 0 then some ({ d with form := formF s }, t) else none)
  else if f = wSingleValue then some ({ d with single := true }, l)
  else if f = wNoUserModification then some ({ d with fixed := true }, l)
  else if f = wUsage then (match rPlain l with
    | none => none
    | some (s, t) => if s == wDirectoryoperation || s == wUserapplications then some ({ d with oper := s == wDirectoryoperation }, t) else none)
  else none
def fieldL (d : DefS) (f : List UInt8) (l : List Wd) : Option (DefS × List Wd) := if d.cls then fieldC d f l else fieldA d f l
def kindL (s : List UInt8) : Int := if s = wAbstract then 0 else if s = wStructural then 1 else if s = wAuxiliary then 2 else -1
/-- The fields of a definition, till the bracket that closes it. -/
def readF : Nat → DefS → List (List UInt8) → List Wd → Option DefS
  | 0, _, _, _ => none
  | n + 1, d, seen, l =>
    if rIs l [41] then (if l.tail = [] then some d else none)
    else match rPlain l with
      | none => none
      | some (f, t) =>
        if d.cls && decide (0 ≤ kindL f) then (if seen.contains wAKind then none else readF n { d with kind := kindL f } (wAKind :: seen) t)
        else if seen.contains f then none
        else match fieldL d f t with
          | none => none
          | some (d', t') => readF n d' (f :: seen) t'
def digit0 (s : List UInt8) : Bool := match s with
  | [] => false
  | c :: _ => 48 ≤ c && c ≤ 57
def readL (s : List UInt8) (cls : Bool) : Option DefS := match wordsL s with
  | none => none
  | some l => if rIs l [40] then (match rPlain l.tail with
    | none => none
    | some (oid, t) => if isTypeL oid && digit0 oid then readF (t.length + 1) (DefS.new cls oid) [] t else none) else none

/-- The keys of a definition. -/
def DefS.keys (d : DefS) : List (Bool × List UInt8) := (d.oid :: d.names).map fun n => (d.cls, smallL n)
def okPut : List (Bool × List UInt8) → List (Bool × List UInt8) → Bool
  | _, [] => true
  | M, k :: ks => !M.contains k && okPut (M ++ [k]) ks
/-- Which definition has a name. -/
def findD (L : List DefS) (cls : Bool) (n : List UInt8) : Option Nat := L.findIdx? fun d => d.keys.contains (cls, smallL n)
/-- Definitions read and put in; otherwise what offends, and where. -/
def readAll : Nat → Nat → List (List UInt8) → List DefS → (Int × Nat) ⊕ List DefS
  | _, _, [], L => .inr L
  | na, i, s :: rest, L => match readL s (decide (na ≤ i)) with
    | none => .inl (50, i)
    | some d => if okPut (L.flatMap DefS.keys) d.keys then readAll na (i + 1) rest (L ++ [d]) else .inl (51, i)
def knownD (L : List DefS) (d : DefS) : Bool := d.sup.all (fun n => (findD L d.cls n).isSome) && d.must.all (fun n => (findD L false n).isSome) && d.may.all (fun n => (findD L false n).isSome)
def aboveF (L : List DefS) : Nat → Nat → List Nat → List Nat
  | 0, _, l => l
  | n + 1, i, l => if l.contains i then l else match L[i]? with
    | none => l ++ [i]
    | some d => d.sup.foldl (fun l nm => match findD L d.cls nm with
      | none => l
      | some j => aboveF L n j l) (l ++ [i])
def aboveD (L : List DefS) (i : Nat) (l : List Nat) : List Nat := aboveF L (L.length + 1) i l
def loopsD (L : List DefS) (i : Nat) : Bool := (aboveD L i []).any fun a => match L[a]? with
  | none => false
  | some d => d.sup.any fun n => findD L d.cls n == some i
def DefS.name (d : DefS) : List UInt8 := match d.names with
  | [] => d.oid
  | n :: _ => n
/-- What counts of a type. -/
structure AttrS where
  oid : List UInt8
  name : List UInt8
  sup : List UInt8
  names : List (List UInt8)
  form : List UInt8
  eqr : List UInt8
  ordr : List UInt8
  subs : List UInt8
  single : Bool
  fixed : Bool
  oper : Bool
  deriving DecidableEq
def DefS.attr (d : DefS) : AttrS := ⟨d.oid, d.name, [], d.names, d.form, d.eqr, d.ordr, d.subs, d.single, d.fixed, d.oper⟩
def orL (a b : List UInt8) : List UInt8 := if a = [] then b else a
def AttrS.under (a up : AttrS) : AttrS := { a with sup := up.name, form := orL a.form up.form, eqr := orL a.eqr up.eqr, ordr := orL a.ordr up.ordr, subs := orL a.subs up.subs }
def countsF (L : List DefS) : Nat → Nat → Option AttrS
  | 0, _ => none
  | n + 1, i => match L[i]? with
    | none => none
    | some d => match d.sup with
      | [] => some d.attr
      | s :: _ => match findD L false s with
        | none => none
        | some j => (countsF L n j).map d.attr.under
def countsD (L : List DefS) (i : Nat) : Option AttrS := countsF L (L.length + 1) i
/-- syntax.Fits -/
def fitsRule (r form : List UInt8) : Bool := match ruleT (smallL r) with
  | none => false
  | some x => x.2.2.1.contains form
def fitsD (L : List DefS) (d : DefS) (i : Nat) : Bool :=
  if d.cls then !d.sup.any (fun n => match findD L true n with
    | none => false
    | some j => match L[j]? with
      | none => false
      | some u => u.kind != 0 && u.kind != d.kind)
  else match countsD L i with
    | none => false
    | some a => [a.eqr, a.ordr, a.subs].all (fun r => r == [] || fitsRule r a.form) && !(a.form == [])
/-- New: the definitions, or what offends, and where. -/
def newL (attrs classes : List (List UInt8)) : (Int × Nat) ⊕ List DefS :=
  if 300 < attrs.length + classes.length then .inl (2, 0)
  else match readAll attrs.length 0 (attrs ++ classes) [] with
    | .inl x => .inl x
    | .inr L => match L.findIdx? (fun d => !knownD L d) with
      | some i => .inl (52, i)
      | none => match (List.range L.length).find? (fun i => loopsD L i) with
        | some i => .inl (53, i)
        | none => match (List.range L.length).find? (fun i => !((L[i]?).map (fun d => fitsD L d i)).getD false) with
          | some i => .inl (50, i)
          | none => .inr L
end Go.Proofs.YtcjobpcbppcdnaaGreatDoor
/- Maps that the program makes: keys of any kind whose equality is known. -/
namespace Go.Proofs.YtcjobpcbppcdnaaGreatDoor
open Go.RowKit

section
variable {P : Program} {κ : Type} [DecidableEq κ]
/-- What a map holds: keys and values, in the order in which they were put in. -/
def MapR (kv : κ → Value) (es : Array MapEntry) (R : List (κ × Value)) : Prop := es.toList.map (fun e => (e.key, e.val)) = R.map (fun x => (kv x.1, x.2))
def look (R : List (κ × Value)) (k : κ) : Option Value := match R with
  | [] => none
  | x :: R => if k = x.1 then some x.2 else look R k
theorem look_app (R R' : List (κ × Value)) (k : κ) : look (R ++ R') k = (look R k).or (look R' k) := by
  induction R with
  | nil => simp [look]
  | cons x R ih =>
    simp only [List.cons_append, look]
    split
    · rfl
    · exact ih
theorem look_none {R : List (κ × Value)} {k : κ} : look R k = none ↔ ∀ x ∈ R, x.1 ≠ k := by
  induction R with
  | nil => simp [look]
  | cons x R ih =>
    simp only [look, List.mem_cons, forall_eq_or_imp]
    by_cases h : k = x.1
    · simp [h]
    · rw [if_neg h, ih]
      constructor
      · intro h'; exact ⟨fun e => h e.symm, h'⟩
      · intro h'; exact h'.2
theorem MapR.push {kv : κ → Value} {es : Array MapEntry} {R : List (κ × Value)} (h : MapR kv es R) (k : κ) (v : Value) (b : Nat) : MapR kv (es.push { key := kv k, val := v, born := b }) (R ++ [(k, v)]) := by
  unfold MapR at h ⊢
  simp [h]
theorem MapR.nil (kv : κ → Value) : MapR kv #[] [] := rfl
/-- The map's search, as it must be. -/
def Finds (P : Program) (K : TypeId) (kv : κ → Value) : Prop := ∀ (w : World) (k : κ) (es : Array MapEntry) (R : List (κ × Value)), MapR kv es R → ∃ q, (Instr.findKey K (kv k) es.toList).run P w = .ok q w ∧ q.map (·.2) = look R k
theorem asking_run {K : TypeId} {kv : κ → Value} (hEq : ∀ w a b, (Op.equal K (kv a) (kv b)).run P w = .ok (decide (a = b)) w) (w : World) (k : κ) : ∀ (es : List MapEntry) (R : List (κ × Value)) (i : Nat), es.map (fun e => (e.key, e.val)) = R.map (fun x => (kv x.1, x.2)) →
    ∃ r, (Instr.findAsking K (kv k) es i).run P w = .ok r w ∧ r.map (·.2) = look R k
  | [], [], i, _ => ⟨none, rfl, rfl⟩
  | [], _ :: _, i, h => by simp at h
  | _ :: _, [], i, h => by simp at h
  | e :: es, x :: R, i, h => by
    simp only [List.map_cons, List.cons.injEq, Prod.mk.injEq] at h
    obtain ⟨r, hr, hm⟩ := asking_run hEq w k es R (i + 1) h.2
    simp only [Instr.findAsking, Sem.run_bind, h.1.1, hEq, Result.andThen_ok, look]
    by_cases hx : k = x.1
    · simp only [hx, decide_true, if_true]
      exact ⟨some (i, e.val), rfl, by simp [h.1.2]⟩
    · simp only [hx, decide_false, Bool.false_eq_true, if_false]
      exact ⟨r, hr, hm⟩
/-- Keys that are asked about by their equality: structs, pointers. -/
theorem finds_asking {K : TypeId} {kv : κ → Value} {D : TypeDesc} (hU : P.underlying K = some D) (hNow : ∀ a b, Instr.sameNow D (kv a) (kv b) = none) (hEq : ∀ w a b, (Op.equal K (kv a) (kv b)).run P w = .ok (decide (a = b)) w) : Finds P K kv := by
  intro w k es R h
  unfold MapR at h
  obtain ⟨es⟩ := es
  dsimp only at h ⊢
  unfold Instr.findKey
  simp only [Sem.run_bind, run_underlying hU, Result.andThen_ok]
  cases es with
  | nil =>
    cases R with
    | nil => exact ⟨none, rfl, rfl⟩
    | cons _ _ => simp at h
  | cons e es =>
    cases R with
    | nil => simp at h
    | cons x R =>
      have hk : e.key = kv x.1 := by
        simp only [List.map_cons, List.cons.injEq, Prod.mk.injEq] at h
        exact h.1.1
      have : Instr.findNow D (kv k) (e :: es) 0 = none := by simp only [Instr.findNow, hk, hNow]
      rw [this]
      exact asking_run hEq w k _ _ 0 h
theorem now_run {kv : κ → Value} {D : TypeDesc} (hNow : ∀ a b, Instr.sameNow D (kv a) (kv b) = some (decide (a = b))) (k : κ) : ∀ (es : List MapEntry) (R : List (κ × Value)) (i : Nat), es.map (fun e => (e.key, e.val)) = R.map (fun x => (kv x.1, x.2)) →
    ∃ r, Instr.findNow D (kv k) es i = some r ∧ r.map (·.2) = look R k
  | [], [], i, _ => ⟨none, rfl, rfl⟩
  | [], _ :: _, i, h => by simp at h
  | _ :: _, [], i, h => by simp at h
  | e :: es, x :: R, i, h => by
    simp only [List.map_cons, List.cons.injEq, Prod.mk.injEq] at h
    obtain ⟨r, hr, hm⟩ := now_run hNow k es R (i + 1) h.2
    simp only [Instr.findNow, h.1.1, hNow, look]
    by_cases hx : k = x.1
    · simp only [hx, decide_true, if_true]
      exact ⟨some (i, e.val), rfl, by simp [h.1.2]⟩
    · simp only [hx, decide_false, if_false]
      exact ⟨r, hr, hm⟩
/-- Keys that are held against one another at once: texts. -/
theorem finds_now {K : TypeId} {kv : κ → Value} {D : TypeDesc} (hU : P.underlying K = some D) (hNow : ∀ a b, Instr.sameNow D (kv a) (kv b) = some (decide (a = b))) : Finds P K kv := by
  intro w k es R h
  obtain ⟨r, hr, hm⟩ := now_run hNow k es.toList R 0 h
  unfold Instr.findKey
  simp only [Sem.run_bind, run_underlying hU, Result.andThen_ok, hr]
  exact ⟨r, rfl, hm⟩
theorem map_put {T K E : TypeId} {kv : κ → Value} (hT : P.underlying T = some (.map K E)) (hF : Finds P K kv) (hC : ∀ (b : Bool) w k, (Instr.checkKey b 10000 K (kv k)).run P w = .ok () w)
    (w : World) (r c : Nat) (es : Array MapEntry) (R : List (κ × Value)) (hw : w.heap[r]? = some (.map es c)) (h : MapR kv es R) (k : κ) (v : Value) (hn : look R k = none) :
    (Instr.mapUpdate T (.map (some r)) (kv k) v).run P w = .ok () (World.setMap w r (es.push { key := kv k, val := v, born := c }) (c + 1)) := by
  obtain ⟨q, hq, hm⟩ := hF w k es R h
  rw [hn] at hm
  obtain rfl : q = none := by simpa using hm
  unfold Instr.mapUpdate
  simp only [Sem.run_bind, run_underlying hT, Result.andThen_ok]
  simp only [getObj, Sem.run, Sem.run_bind, hw, Result.andThen_ok, hC, hq, setObj, World.setMap]
theorem map_look {T K E : TypeId} {kv : κ → Value} (hT : P.underlying T = some (.map K E)) (hF : Finds P K kv) (hC : ∀ (b : Bool) w k, (Instr.checkKey b 10000 K (kv k)).run P w = .ok () w) {z : Value} (hz : ∀ w, (zeroValue E).run P w = .ok z w)
    (w : World) (r c : Nat) (es : Array MapEntry) (R : List (κ × Value)) (hw : w.heap[r]? = some (.map es c)) (h : MapR kv es R) (k : κ) :
    (Instr.lookup T (.map (some r)) (kv k) false).run P w = .ok ((look R k).getD z) w := by
  obtain ⟨q, hq, hm⟩ := hF w k es R h
  unfold Instr.lookup
  simp only [Sem.run_bind, run_underlying hT, Result.andThen_ok]
  simp only [getObj, Sem.run, Sem.run_bind, hw, Result.andThen_ok, hC, hq, pure, Sem.run_pure]
  rw [← hm]
  cases q with
  | none =>
    simp only [Sem.run_bind, hz, Result.andThen_ok]
    rfl
  | some x => rfl
theorem map_look2 {T K E : TypeId} {kv : κ → Value} (hT : P.underlying T = some (.map K E)) (hF : Finds P K kv) (hC : ∀ (b : Bool) w k, (Instr.checkKey b 10000 K (kv k)).run P w = .ok () w) {z : Value} (hz : ∀ w, (zeroValue E).run P w = .ok z w)
    (w : World) (r c : Nat) (es : Array MapEntry) (R : List (κ × Value)) (hw : w.heap[r]? = some (.map es c)) (h : MapR kv es R) (k : κ) :
    (Instr.lookup T (.map (some r)) (kv k) true).run P w = .ok (.tuple #[(look R k).getD z, .bool (look R k).isSome]) w := by
  obtain ⟨q, hq, hm⟩ := hF w k es R h
  unfold Instr.lookup
  simp only [Sem.run_bind, run_underlying hT, Result.andThen_ok]
  simp only [getObj, Sem.run, Sem.run_bind, hw, Result.andThen_ok, hC, hq, pure, Sem.run_pure]
  rw [← hm]
  cases q with
  | none =>
    simp only [Sem.run_bind, hz, Result.andThen_ok]
    rfl
  | some x => rfl
end
end Go.Proofs.YtcjobpcbppcdnaaGreatDoor
/- Contracts: the reader of names: ended, is, blanks. -/
namespace Go.Proofs.YtcjobpcbppcdnaaGreatDoor
open Go.RowKit

/-- The reader in block b stands at byte i of s. -/
def Rd (w : World) (b : Nat) (s : List UInt8) (i : Nat) : Prop := w.heap[b]? = some (.cells #[.string ⟨s.toArray⟩, .int .i64 i] 111 (0, 0))
theorem Rd.lt {w : World} {b i : Nat} {s : List UInt8} (h : Rd w b s i) : b < w.heap.size := (Array.getElem?_eq_some_iff.1 h).1
theorem Rd.c0 {w : World} {b i : Nat} {s : List UInt8} (h : Rd w b s i) : w.cell? ⟨b, 0, none⟩ = some (.string ⟨s.toArray⟩) := by unfold Rd at h; simp [World.cell?, h]
theorem Rd.c1 {w : World} {b i : Nat} {s : List UInt8} (h : Rd w b s i) : w.cell? ⟨b, 1, none⟩ = some (.int .i64 i) := by unfold Rd at h; simp [World.cell?, h]
theorem Rd.f1 {w : World} {b i : Nat} {s : List UInt8} (h : Rd w b s i) : w.frozen? ⟨b, 1, none⟩ = false := by unfold Rd at h; simp [World.frozen?, h]
theorem Rd.set {w : World} {b i : Nat} {s : List UInt8} (h : Rd w b s i) (j : Nat) : Rd (w.setCell ⟨b, 1, none⟩ (.int .i64 j)) b s j := by
  unfold Rd at h ⊢
  simp [World.setCell, Array.getElem?_modify, h]
theorem Rd.below {w w' : World} {b i : Nat} {s : List UInt8} (h : Rd w b s i) (hb : Below w.heap.size w w') : Rd w' b s i := (hb.block b h.lt).trans h
theorem Rd.drewN {w : World} {b i : Nat} {s : List UInt8} (h : Rd w b s i) (n : Nat) : Rd (w.drewN n) b s i := h
theorem grown_set {w : World} {b o : Nat} (v : Value) : w.grownBy (w.setCell ⟨b, o, none⟩ v) (some b) :=
  ⟨rfl, rfl, rfl, by simp [World.setCell], fun k _ hne => Below.heap_setCell _ _ _ _ (by simpa using hne)⟩
theorem grown_below {w w' : World} (hb : Below w.heap.size w w') (r : Option Nat) : w.grownBy w' r := ⟨hb.os, hb.tape, hb.output, hb.size, fun k hk _ => hb.block k hk⟩
theorem grown_drewN (w : World) (n : Nat) (r : Option Nat) : w.grownBy (w.drewN n) r := ⟨rfl, rfl, rfl, Nat.le_refl _, fun _ _ _ => rfl⟩

set_option maxHeartbeats 400000 in
theorem ended_c (b : Nat) (s : List UInt8) (i : Nat) (w : World) (h : Rd w b s i) :
    Calls Tryz.prog 104 #[.pointer (some ⟨b, 0, none⟩)] w fun e w' => e = .returned (.bool ((i : Int) == (s.length : Int))) ∧ ∃ n, w' = w.drewN n := by
  have h0 := h.c0
  have h1 := h.c1
  go_enter Tryz.func104, Tryz.ntmps104
  go_wp2
  go_quiet (fail)
  go_wp2
  go_ret
  exact ⟨rfl, nq, rfl⟩

def isC (s : List UInt8) (i : Nat) (c : Int) : Bool := match s[i]? with
  | some x => (x.toNat : Int) == c
  | none => false

set_option maxRecDepth 10000 in
set_option maxHeartbeats 1000000 in
theorem is_c (b : Nat) (s : List UInt8) (i : Nat) (c : Int) (w : World) (h : Rd w b s i) (hi : i ≤ s.length) :
    Calls Tryz.prog 103 #[.pointer (some ⟨b, 0, none⟩), .int .u8 c] w fun e w' => e = .returned (.bool (isC s i c)) ∧ ∃ n, w' = w.drewN n := by
  have hget := ba_get
  have h0 := h.c0
  have h1 := h.c1
  have hE := fun w' (hR : Rd w' b s i) => ended_c b s i w' hR
  unfold isC
  by_cases hlt : i < s.length
  · have hb : ((i : Int) == (s.length : Int)) = false := by rw [beq_eq_false_iff_ne]; omega
    rw [hb] at hE
    rw [List.getElem?_eq_getElem hlt]
    clear hb
    dsimp only
    have HR := Lib.hid h
    clear h
    have hi0 : (0 : Int) ≤ (i : Int) := by omega
    have hi1 : (i : Int) < (s.length : Int) := by omega
    go_enter Tryz.func103, Tryz.ntmps103
    go_wp2
    go_quiet ((go_at_call 104; exact Calls.quiet_of (hE _ (HR.out.drewN _))))
    go_wp2
    go_ret
    exact ⟨rfl, nq, rfl⟩
  · obtain rfl : i = s.length := by omega
    rw [List.getElem?_eq_none (Nat.le_refl _)]
    dsimp only
    have hb : ((s.length : Int) == (s.length : Int)) = true := by simp
    rw [hb] at hE
    have HR := Lib.hid h
    clear h hb
    go_enter Tryz.func103, Tryz.ntmps103
    go_wp2
    go_quiet ((go_at_call 104; exact Calls.quiet_of (hE _ (HR.out.drewN _))))
    go_wp2
    go_ret
    exact ⟨rfl, nq, rfl⟩
end Go.Proofs.YtcjobpcbppcdnaaGreatDoor
/- Contracts: the reader of names: blanks, typ. -/
namespace Go.Proofs.YtcjobpcbppcdnaaGreatDoor
open Go.RowKit

/-- The reader stands ahead of r. -/
def RdAt (w : World) (b : Nat) (s r : List UInt8) : Prop := ∃ i, i ≤ s.length ∧ s.drop i = r ∧ Rd w b s i
theorem RdAt.lt {w : World} {b : Nat} {s r : List UInt8} (h : RdAt w b s r) : b < w.heap.size := by obtain ⟨i, _, _, h⟩ := h; exact h.lt
theorem RdAt.below {w w' : World} {b : Nat} {s r : List UInt8} (h : RdAt w b s r) (hb : Below w.heap.size w w') : RdAt w' b s r := by
  obtain ⟨i, h1, h2, h3⟩ := h; exact ⟨i, h1, h2, h3.below hb⟩
theorem RdAt.drewN {w : World} {b : Nat} {s r : List UInt8} (h : RdAt w b s r) (n : Nat) : RdAt (w.drewN n) b s r := h

theorem isC_drop {s : List UInt8} {i : Nat} (c : Int) : isC s i c = match s.drop i with | [] => false | x :: _ => (x.toNat : Int) == c := by
  unfold isC
  rw [← List.head?_drop]
  cases s.drop i <;> rfl
/-- Does r begin with c? -/
def hd (r : List UInt8) (c : Int) : Bool := match r with | [] => false | x :: _ => (x.toNat : Int) == c
theorem is_at (b : Nat) (s r : List UInt8) (c : Int) (w : World) (h : RdAt w b s r) :
    Calls Tryz.prog 103 #[.pointer (some ⟨b, 0, none⟩), .int .u8 c] w fun e w' => e = .returned (.bool (hd r c)) ∧ ∃ n, w' = w.drewN n := by
  obtain ⟨i, h1, rfl, h3⟩ := h
  refine (is_c b s i c w h3 h1).mono ?_
  rintro e w' ⟨rfl, h⟩
  exact ⟨retb ((isC_drop c).trans rfl), h⟩
theorem drop_succ {s r : List UInt8} {x : UInt8} {i : Nat} (h : s.drop i = x :: r) : i < s.length ∧ s.drop (i + 1) = r := by
  have hi : i < s.length := by
    rcases Nat.lt_or_ge i s.length with h' | h'
    · exact h'
    · rw [List.drop_eq_nil_of_le h'] at h; cases h
  rw [List.drop_eq_getElem_cons hi] at h
  exact ⟨hi, (List.cons.inj h).2⟩

set_option maxRecDepth 10000 in
set_option maxHeartbeats 1000000 in
theorem blanks_c (b : Nat) (s r : List UInt8) (w : World) (h : RdAt w b s r) (hs : s.length ≤ 1099511627776) :
    Calls Tryz.prog 177 #[.pointer (some ⟨b, 0, none⟩)] w fun e w' => e = .returned (.tuple #[]) ∧ RdAt w' b s (r.dropWhile (· == 32)) ∧ w.grownBy w' (some b) := by
  have H := Lib.hid h
  clear h
  go_enter Tryz.func177, Tryz.ntmps177
  go_wp2_with fail
  go_loopg [] r.length (fun gk wr => ∃ r', r'.length ≤ gk ∧ RdAt wr b s r' ∧ Aside (r.dropWhile (· == 32) = r'.dropWhile (· == 32)) ∧ w.grownBy wr (some b))
  case atStart => exact ⟨r, Nat.le_refl _, H.out, rfl, World.grownBy.refl _ _⟩
  case round =>
    obtain ⟨r', hlen, hR, AD, hg⟩ := hrel
    have hI := is_at b s r' 32 wr hR
    obtain ⟨i, hi, hd', hRd⟩ := hR
    cases hh : hd r' 32
    · rw [hh] at hI
      have hfin : r'.dropWhile (· == 32) = r' := by
        cases r' with
        | nil => rfl
        | cons x t =>
          have : (x == 32) = false := by
            rw [beq_eq_false_iff_ne]; intro h; subst h; simp [hd] at hh
          simp [List.dropWhile_cons, this]
      have Hf := Lib.hid hfin
      have Hd := Lib.hid hd'
      clear hh hfin hd'
      go_wp2_with (go_at_call 103; refine hI.mono ?_; rintro e w1 ⟨rfl, n, rfl⟩)
      go_end0
      exact ⟨rfl, by rw [AD.out, Hf.out]; exact ⟨i, hi, Hd.out, hRd⟩, World.grownBy.trans hg (grown_drewN _ _ _)⟩
    · rw [hh] at hI
      obtain ⟨t, rfl⟩ : ∃ t, r' = 32 :: t := by
        cases r' with
        | nil => cases hh
        | cons x t =>
          refine ⟨t, ?_⟩
          simp [hd] at hh
          rw [UInt8.toNat_inj.1 (show x.toNat = (32 : UInt8).toNat from by show _ = 32; omega)]
      have ⟨hlt, hdt⟩ := drop_succ hd'
      have hc1 := hRd.c1
      have hf1 := hRd.f1
      have HR := Lib.hid hRd
      have Hd := Lib.hid hdt
      simp only [List.length_cons] at hlen
      clear hh hd' hdt hRd
      go_wp2_with (go_at_call 103; refine hI.mono ?_; rintro e w1 ⟨rfl, n, rfl⟩)
      go_roundg t.length
      case measure => omega
      case rel =>
        refine ⟨t, Nat.le_refl _, ⟨i + 1, by omega, Hd.out, ?_⟩, by have := AD.out; show _ = _; rw [this]; rfl, ?_⟩
        · exact (HR.out.drewN n).set (i + 1)
        · exact World.grownBy.trans hg (World.grownBy.trans (grown_drewN _ _ _) (grown_set _))
end Go.Proofs.YtcjobpcbppcdnaaGreatDoor
/- Contracts: the reader of names: typ. -/
namespace Go.Proofs.YtcjobpcbppcdnaaGreatDoor
open Go.RowKit

/-- How the reader gives up. -/
def dnPanic : List PanicEntry := [{ v := .iface 28 (.int .i64 30), recovered := false }]
/-- What a method of the reader does: it gives up, or hands back a value and stands further on. -/
def RdRet (w : World) (b : Nat) (s : List UInt8) (o : Option (Value × List UInt8)) (e : Ending) (w' : World) : Prop :=
  w.grownBy w' (some b) ∧ match o with
    | none => e = .panicked dnPanic
    | some (v, r) => e = .returned v ∧ RdAt w' b s r

theorem Clone_c (l : List UInt8) (w : World) (hl : l.length ≤ 1099511627776) :
    Calls Tryz.prog 80 #[.string ⟨l.toArray⟩] w fun e w' => e = .returned (.string ⟨l.toArray⟩) ∧ Below w.heap.size w w' := by
  have hc := Tryz.stringslite_Clone ⟨l.toArray⟩ w (by simp [ByteArray.size]; omega)
  go_enter Tryz.func80, Tryz.ntmps80
  go_wp2_with (go_at_call 124; refine hc.mono ?_; rintro e w1 ⟨rfl, hb⟩)
  go_ret
  exact ⟨rfl, hb⟩

def inTy (c : UInt8) : Bool := inTypeB c.toNat
def typR (r : List UInt8) : Option (List UInt8 × List UInt8) := if isTypeL (r.takeWhile inTy) then some (r.takeWhile inTy, r.dropWhile inTy) else none
theorem quiet_of' {P : Program} {f : FuncId} {args : Array Value} {w : World} {n : Nat} {v : Value}
    (h : Calls P f args (w.drewN n) fun e w' => e = .returned v ∧ ∃ m, w' = (w.drewN n).drewN m) : Calls P f args (w.drewN n) fun e w'' => e = .returned v ∧ ∃ m, w'' = w.drewN m := Calls.quiet_of h
theorem takeWhile_cut {p : UInt8 → Bool} : ∀ (r r' : List UInt8), (∃ k, r' = r.drop k ∧ (r.take k).all p = true) → r'.takeWhile p = [] → r.takeWhile p = r.take (r.length - r'.length) ∧ r.dropWhile p = r'
  | r, r', ⟨k, h1, h2⟩, h3 => by
    subst h1
    have hsplit : r = r.take k ++ r.drop k := (List.take_append_drop k r).symm
    have hdw : (r.drop k).dropWhile p = r.drop k := by
      cases hd : r.drop k with
      | nil => rfl
      | cons x t =>
        rw [hd] at h3
        have : p x = false := by
          cases hx : p x
          · rfl
          · simp [List.takeWhile_cons, hx] at h3
        simp [List.dropWhile_cons, this]
    have ht : ∀ (a c : List UInt8), a.all p = true → (a ++ c).takeWhile p = a ++ c.takeWhile p ∧ (a ++ c).dropWhile p = c.dropWhile p := by
      intro a c ha
      induction a with
      | nil => simp
      | cons y a ih =>
        simp only [List.all_cons, Bool.and_eq_true] at ha
        have := ih ha.2
        simp [List.takeWhile_cons, List.dropWhile_cons, ha.1, this]
    have := ht (r.take k) (r.drop k) h2
    rw [← hsplit, h3, hdw] at this
    refine ⟨?_, this.2⟩
    rw [this.1, List.append_nil, List.length_drop]
    by_cases hk : k ≤ r.length
    · congr 1; omega
    · rw [List.take_of_length_le (by omega), List.take_of_length_le (by omega)]

set_option maxRecDepth 10000 in
set_option maxHeartbeats 1000000 in
theorem typ_c (b : Nat) (s r : List UInt8) (w : World) (hw : Env w) (h : RdAt w b s r) (hs : s.length ≤ 65536) (hE : ∀ W, w.grownBy W (some b) → Env W) :
    Calls Tryz.prog 178 #[.pointer (some ⟨b, 0, none⟩)] w (RdRet w b s ((typR r).map fun x => (.string ⟨x.1.toArray⟩, x.2))) := by
  have hget := ba_get
  have hext := ba_ext
  obtain ⟨i, hi, rfl, hRd⟩ := h
  have hc1 := hRd.c1
  have HR := Lib.hid hRd
  have HE := Lib.hid hE
  clear hRd hE
  go_enter Tryz.func178, Tryz.ntmps178
  go_wp2_with fail
  clear hc1
  go_loopg [] (s.length - i) (fun gk wr => ∃ j, i ≤ j ∧ j ≤ s.length ∧ s.length - j ≤ gk ∧ Rd wr b s j ∧ Aside ((sub s i j).all inTy = true) ∧ w.grownBy wr (some b))
  case atStart => exact ⟨i, Nat.le_refl _, hi, Nat.le_refl _, HR.out, by show _ = _; simp [sub], World.grownBy.refl _ _⟩
  case round =>
    obtain ⟨j, hij, hj, hgk, hRd, AT, hg⟩ := hrel
    have h0 := hRd.c0
    have h1 := hRd.c1
    have hf1 := hRd.f1
    have hEn := fun w' (hR : Rd w' b s j) => ended_c b s j w' hR
    have HRj := Lib.hid hRd
    clear hRd
    have hsl : (sub s i j).length ≤ 1099511627776 := by rw [sub_len]; omega
    have hi0 : (0 : Int) ≤ (i : Int) := by omega
    have hij' : (i : Int) ≤ (j : Int) := by omega
    have hjl' : (j : Int) ≤ (s.length : Int) := by omega
    by_cases hc : ∃ hlt : j < s.length, inTypeB s[j].toNat = true
    · obtain ⟨hlt, hty⟩ := hc
      have hb : ((j : Int) == (s.length : Int)) = false := by rw [beq_eq_false_iff_ne]; omega
      rw [hb] at hEn
      have hj1 : (j : Int) < (s.length : Int) := by omega
      have hIT := fun w => inType_c (s[j].toNat) w
      rw [hty] at hIT
      have AT' : Aside ((sub s i (j + 1)).all inTy = true) := by
        have := AT.out
        show _ = _
        rw [show sub s i (j + 1) = sub s i j ++ [s[j]] by
          unfold sub
          rw [show j + 1 - i = (j - i) + 1 by omega, List.take_add_one, List.getElem?_drop, show i + (j - i) = j by omega, List.getElem?_eq_getElem hlt]; rfl]
        simp only [List.all_append, this, Bool.true_and, List.all_cons, List.all_nil, Bool.and_true]
        exact hty
      have HEn := Lib.hid hEn
      clear hEn hb hty AT
      go_wp2_with fail
      go_quiet (first | (go_at_call 104; exact quiet_of' (HEn.out _ (HRj.out.drewN _))) | (go_at_call 86; exact quiet_l (hIT _)))
      go_wp2_with fail
      go_roundg (s.length - (j + 1))
      case measure => omega
      case rel => exact ⟨j + 1, by omega, by omega, Nat.le_refl _, (HRj.out.drewN nq).set (j + 1), AT'.out, World.grownBy.trans hg (World.grownBy.trans (grown_drewN _ _ _) (grown_set _))⟩
    · have hstop : (s.drop j).takeWhile inTy = [] := by
        cases hd' : s.drop j with
        | nil => rfl
        | cons x t =>
          have ⟨hlt, _⟩ := drop_succ hd'
          have hx : s[j] = x := by rw [List.drop_eq_getElem_cons hlt] at hd'; exact (List.cons.inj hd').1
          have : inTy x = false := by
            cases h : inTy x
            · rfl
            · exact absurd ⟨hlt, by rw [hx]; exact h⟩ hc
          simp [this]
      have hcut := takeWhile_cut (p := inTy) (s.drop i) (s.drop j) ⟨j - i, by rw [List.drop_drop]; congr 1; omega, by have := AT.out; unfold sub at this; exact this⟩ hstop
      have htyp : typR (s.drop i) = if isTypeL (sub s i j) then some (sub s i j, s.drop j) else none := by
        unfold typR
        rw [hcut.1, hcut.2]
        have : (s.drop i).take ((s.drop i).length - (s.drop j).length) = sub s i j := by unfold sub; congr 1; simp; omega
        rw [this]
      have HT := Lib.hid htyp
      clear htyp hcut hstop AT
      have hEW : ∀ n w2, Below wr.heap.size (wr.drewN n) w2 → w.grownBy w2 (some b) := fun n w2 hb => World.grownBy.trans hg (World.grownBy.trans (grown_drewN _ n _) (grown_below hb _))
      have HEW := Lib.hid hEW
      have hE0 := fun n => HE.out (wr.drewN n) (World.grownBy.trans hg (grown_drewN _ n _))
      have HE0 := Lib.hid hE0
      clear hEW hE0
      by_cases hlt : j < s.length
      · have hb : ((j : Int) == (s.length : Int)) = false := by rw [beq_eq_false_iff_ne]; omega
        rw [hb] at hEn
        have hj1 : (j : Int) < (s.length : Int) := by omega
        have hIT := fun w => inType_c (s[j].toNat) w
        have hty : inTypeB s[j].toNat = false := by
          cases h : inTypeB s[j].toNat
          · rfl
          · exact absurd ⟨hlt, h⟩ hc
        rw [hty] at hIT
        have HEn := Lib.hid hEn
        clear hEn hb hty hc
        go_wp2_with fail
        go_quiet (first | (go_at_call 104; exact quiet_of' (HEn.out _ (HRj.out.drewN _))) | (go_at_call 86; exact quiet_l (hIT _)))
        go_wp2_with fail
        cases hT : isTypeL (sub s i j)
        · have hty : typR (s.drop i) = none := by rw [HT.out, hT]; rfl
          have Hty := Lib.hid hty
          clear hty
          go_region_held3 (fun w' => w'.cell? ⟨b, 0, none⟩ = some (.string ⟨s.toArray⟩) ∧ w'.cell? ⟨b, 1, none⟩ = some (.int .i64 j)) (first | exact ⟨h0, h1⟩ | exact ⟨hc0', hc1'⟩) (first | (go_at_call 51; refine (IsType_c _ _ (HE0.out (nq + 1)) hsl).mono ?_; rintro e w2 ⟨rfl, hb2⟩; rw [hT]; have hR2 := (HRj.out.drewN (nq + 1)).below hb2; have hc0' := hR2.c0; have hc1' := hR2.c1))
          clear HRj
          go_wp2_with fail
          refine ⟨rfl, ?_⟩
          rw [Hty.out]
          exact ⟨HEW.out _ _ hb2, rfl⟩
        · have hty : typR (s.drop i) = some (sub s i j, s.drop j) := by rw [HT.out, hT]; rfl
          have Hty := Lib.hid hty
          clear hty
          go_region_held3 (fun w' => w'.cell? ⟨b, 0, none⟩ = some (.string ⟨s.toArray⟩) ∧ w'.cell? ⟨b, 1, none⟩ = some (.int .i64 j)) (first | exact ⟨h0, h1⟩ | exact ⟨hc0', hc1'⟩) (first | (go_at_call 51; refine (IsType_c _ _ (HE0.out (nq + 1)) hsl).mono ?_; rintro e w2 ⟨rfl, hb2⟩; rw [hT]; have hR2 := (HRj.out.drewN (nq + 1)).below hb2; have hc0' := hR2.c0; have hc1' := hR2.c1))
          have HR2 := Lib.hid hR2
          have HB2 := Lib.hid hb2
          clear HRj h0 h1 hR2 hb2
          go_wp2_with fail
          go_region_held3 (fun w' => w'.cell? ⟨b, 0, none⟩ = some (.string ⟨s.toArray⟩) ∧ w'.cell? ⟨b, 1, none⟩ = some (.int .i64 j)) (first | exact ⟨hc0', hc1'⟩ | exact ⟨hc0'', hc1''⟩) (first | (go_at_call 80; refine (Clone_c _ _ hsl).mono ?_; rintro e w3 ⟨rfl, hb3⟩; have hR3 := (HR2.out.drewN 1).below hb3; have hc0'' := hR3.c0; have hc1'' := hR3.c1))
          go_wp2_with fail
          go_ret
          rw [Hty.out]
          exact ⟨World.grownBy.trans (HEW.out _ _ HB2.out) (World.grownBy.trans (grown_drewN _ 1 _) (grown_below hb3 _)), rfl, j, hj, rfl, hR3⟩
      · obtain rfl : j = s.length := by omega
        have hb : ((s.length : Int) == (s.length : Int)) = true := by simp
        rw [hb] at hEn
        have HEn := Lib.hid hEn
        clear hEn hb hc
        go_wp2_with fail
        go_quiet (first | (go_at_call 104; exact quiet_of' (HEn.out _ (HRj.out.drewN _))))
        go_wp2_with fail
        cases hT : isTypeL (sub s i s.length)
        · have hty : typR (s.drop i) = none := by rw [HT.out, hT]; rfl
          have Hty := Lib.hid hty
          clear hty
          go_region_held3 (fun w' => w'.cell? ⟨b, 0, none⟩ = some (.string ⟨s.toArray⟩) ∧ w'.cell? ⟨b, 1, none⟩ = some (.int .i64 s.length)) (first | exact ⟨h0, h1⟩ | exact ⟨hc0', hc1'⟩) (first | (go_at_call 51; refine (IsType_c _ _ (HE0.out (nq + 1)) hsl).mono ?_; rintro e w2 ⟨rfl, hb2⟩; rw [hT]; have hR2 := (HRj.out.drewN (nq + 1)).below hb2; have hc0' := hR2.c0; have hc1' := hR2.c1))
          clear HRj
          go_wp2_with fail
          refine ⟨rfl, ?_⟩
          rw [Hty.out]
          exact ⟨HEW.out _ _ hb2, rfl⟩
        · have hty : typR (s.drop i) = some (sub s i s.length, s.drop s.length) := by rw [HT.out, hT]; rfl
          have Hty := Lib.hid hty
          clear hty
          go_region_held3 (fun w' => w'.cell? ⟨b, 0, none⟩ = some (.string ⟨s.toArray⟩) ∧ w'.cell? ⟨b, 1, none⟩ = some (.int .i64 s.length)) (first | exact ⟨h0, h1⟩ | exact ⟨hc0', hc1'⟩) (first | (go_at_call 51; refine (IsType_c _ _ (HE0.out (nq + 1)) hsl).mono ?_; rintro e w2 ⟨rfl, hb2⟩; rw [hT]; have hR2 := (HRj.out.drewN (nq + 1)).below hb2; have hc0' := hR2.c0; have hc1' := hR2.c1))
          have HR2 := Lib.hid hR2
          have HB2 := Lib.hid hb2
          clear HRj h0 h1 hR2 hb2
          go_wp2_with fail
          go_region_held3 (fun w' => w'.cell? ⟨b, 0, none⟩ = some (.string ⟨s.toArray⟩) ∧ w'.cell? ⟨b, 1, none⟩ = some (.int .i64 s.length)) (first | exact ⟨hc0', hc1'⟩ | exact ⟨hc0'', hc1''⟩) (first | (go_at_call 80; refine (Clone_c _ _ hsl).mono ?_; rintro e w3 ⟨rfl, hb3⟩; have hR3 := (HR2.out.drewN 1).below hb3; have hc0'' := hR3.c0; have hc1'' := hR3.c1))
          go_wp2_with fail
          go_ret
          rw [Hty.out]
          exact ⟨World.grownBy.trans (HEW.out _ _ HB2.out) (World.grownBy.trans (grown_drewN _ 1 _) (grown_below hb3 _)), rfl, s.length, hj, rfl, hR3⟩
end Go.Proofs.YtcjobpcbppcdnaaGreatDoor
/- Contracts: octet.Unhex. -/
namespace Go.Proofs.YtcjobpcbppcdnaaGreatDoor
open Go.RowKit

def hexByte (a b : Int) : UInt8 := UInt8.ofNat (16 * a + b).toNat
def unhexL : List UInt8 → Option (List UInt8)
  | [] => some []
  | [_] => none
  | a :: b :: t => if digitV a.toNat < 0 ∨ digitV b.toNat < 0 then none else (unhexL t).map (hexByte (digitV a.toNat) (digitV b.toNat) :: ·)
theorem digitV_rng (c : Int) : -1 ≤ digitV c ∧ digitV c ≤ 15 := by
  unfold digitV
  repeat' split
  all_goals omega

theorem hexByte_fin : ∀ x y : Fin 16, (bits BinOp.or IntKind.i64 ((x.val : Int) * 16) (y.val : Int)) % 256 = ((hexByte (x.val : Int) (y.val : Int)).toNat : Int) := by decide +kernel
theorem hexByte_bits (x y : Int) (h1 : 0 ≤ x) (h2 : x ≤ 15) (h3 : 0 ≤ y) (h4 : y ≤ 15) : bits BinOp.or IntKind.i64 (x * 16) y % 256 = ((hexByte x y).toNat : Int) := by
  obtain ⟨a, rfl⟩ := Int.eq_ofNat_of_zero_le h1
  obtain ⟨b, rfl⟩ := Int.eq_ofNat_of_zero_le h3
  exact hexByte_fin ⟨a, by omega⟩ ⟨b, by omega⟩
set_option maxRecDepth 10000 in
set_option maxHeartbeats 1000000 in
theorem Unhex_c (l : List UInt8) (w : World) (hl : l.length ≤ 1099511627776) :
    Calls Tryz.prog 212 #[.string ⟨l.toArray⟩] w fun e w' => e = .returned (strOr 11 (unhexL l)) ∧ Below w.heap.size w w' := by
  have hget := ba_get
  by_cases hodd : l.length % 2 = 0
  · have h1 : (((l.length : Int) % 2) != 0) = false := by simp; omega
    go_enter Tryz.func212, Tryz.ntmps212
    go_wp2_with (at_make; refine buf_make rfl _ _ rfl (l.length / 2) _ rfl rfl (by simp) (by omega) ?_; intro w1 hb1)
    go_loopg [4, 5] l.length (fun gk v i wr => ∃ (p : Nat) (acc : List UInt8), p ≤ l.length ∧ i = .int .i64 p ∧ l.length - p ≤ gk ∧ Aside (p % 2 = 0) ∧ Buf w wr v acc ∧ acc.length ≤ p ∧ Aside (unhexL l = (unhexL (l.drop p)).map (acc ++ ·)))
    case atStart => exact ⟨0, [], by omega, rfl, by omega, rfl, hb1, by simp, by show _ = _; simp⟩
    case round =>
      obtain ⟨p, acc, hp, rfl, hgk, AP, hbuf, hacc, AU⟩ := hrel
      by_cases hlt : p < l.length
      · have hlt1 : p + 1 < l.length := by have := AP.out; omega
        have hdr : l.drop p = l[p] :: l[p + 1] :: l.drop (p + 2) := by
          rw [List.drop_eq_getElem_cons hlt, List.drop_eq_getElem_cons hlt1]
        have hra := digitV_rng l[p].toNat
        have hrb := digitV_rng l[p + 1].toNat
        have HDD := Lib.hid (fun (c : Int) (w : World) (h0 : 0 ≤ c) (h1 : c < 256) => Digit_c c w h0 h1)
        have ha8 : (l[p].toNat : Int) < 256 := by have := UInt8.toNat_lt l[p]; omega
        have hb8 : (l[p + 1].toNat : Int) < 256 := by have := UInt8.toNat_lt l[p + 1]; omega
        have hk0 : (0 : Int) ≤ (p : Int) := by omega
        have hk1 : (p : Int) < (l.length : Int) := by omega
        have hk2 : (p : Int) + 1 < (l.length : Int) := by omega
        have hk3 : ((p : Int) + 1).toNat = p + 1 := by omega
        have hk4 : (0 : Int) ≤ (p : Int) + 1 := by omega
        have hk5 : IntKind.i64.wrap ((p : Int) + 1) = (p : Int) + 1 := IntWalk.i64_in _ (by omega)
        have AU' : Aside (unhexL l = (if digitV l[p].toNat < 0 ∨ digitV l[p + 1].toNat < 0 then none else (unhexL (l.drop (p + 2))).map (hexByte (digitV l[p].toNat) (digitV l[p + 1].toNat) :: ·)).map (acc ++ ·)) := by
          have := AU.out
          rw [hdr, unhexL] at this
          exact this
        clear hdr AU
        go_wp2_with fail
        go_quiet ((go_at_call 211; exact quiet_l (HDD.out _ _ (by omega) (by omega))))
        clear hk5
        generalize digitV l[p].toNat = x at hra AU' ⊢
        generalize digitV l[p + 1].toNat = y at hrb AU' ⊢
        by_cases hneg : x < 0 ∨ y < 0
        · have hno : unhexL l = none := by have := AU'.out; rw [if_pos hneg] at this; exact this
          have Hno := Lib.hid hno
          clear hno
          have hB := hbuf.below
          rcases hneg with h | h
          · go_wp2_with fail
            go_ret2
            exact ⟨by rw [Hno.out]; rfl, below_drewN hB _⟩
          · go_wp2_with fail
            all_goals
              go_ret2
              exact ⟨by rw [Hno.out]; rfl, below_drewN hB _⟩
        · have hx0 : 0 ≤ x := by omega
          have hy0 : 0 ≤ y := by omega
          have AU2 : Aside (unhexL l = (unhexL (l.drop (p + 2))).map ((acc ++ [hexByte x y]) ++ ·)) := by
            have := AU'.out
            rw [if_neg hneg, Option.map_map] at this
            show _ = _
            rw [this]
            congr 1
            funext z
            simp
          have hx15 : x ≤ 15 := hra.2
          have hy15 : y ≤ 15 := hrb.2
          clear hneg hra hrb AU'
          have hbits := hexByte_bits x y hx0 hx15 hy0 hy15
          have hbufN := hbuf.drewN nq
          go_wp2_with (at_builtin; refine buf_byte rfl _ _ rfl rfl hbufN rfl (by omega) ?_; intro v' w2 hb2 hg2)
          go_roundg (l.length - (p + 2))
          case measure => omega
          case rel => exact ⟨p + 2, _, by omega, by go_num, Nat.le_refl _, by have := AP.out; show _ = _; omega, hb2, by simp; omega, AU2.out⟩
      · have hfin : unhexL l = some acc := by
          have := AU.out
          rw [List.drop_eq_nil_of_le (by omega), unhexL] at this
          simpa using this
        have Hf := Lib.hid hfin
        have hst := buf_string hbuf
        have hB := hbuf.below
        clear AU hfin
        go_wp2
        go_ret2
        exact ⟨by rw [Hf.out]; rfl, hB⟩
  · have h1 : (((l.length : Int) % 2) != 0) = true := by simp; omega
    have hno : ∀ (n : Nat) (l : List UInt8), l.length ≤ n → l.length % 2 ≠ 0 → unhexL l = none := by
      intro n
      induction n with
      | zero => intro l h1 h2; omega
      | succ n ih =>
        intro l h1 h2
        match l, h1, h2 with
        | [], _, h2 => simp at h2
        | [_], _, _ => rfl
        | a :: b :: t, h1, h2 =>
          rw [unhexL, ih t (by simp at h1; omega) (by simp at h2; omega)]
          split <;> rfl
    rw [hno l.length l (Nat.le_refl _) hodd]
    clear hno
    go_enter Tryz.func212, Tryz.ntmps212
    go_wp2
    go_ret2
    exact ⟨rfl, Below.refl _ _⟩
end Go.Proofs.YtcjobpcbppcdnaaGreatDoor
/- Contracts: the reader of names: hex. (Printed by gen_hex.py.) -/
namespace Go.Proofs.YtcjobpcbppcdnaaGreatDoor
open Go.RowKit

def isHex (c : UInt8) : Bool := decide (0 ≤ digitV c.toNat)
/-- What stands behind '#'. -/
def hexR (t : List UInt8) : Option (List UInt8 × List UInt8) := match unhexL (t.takeWhile isHex) with
  | none => none
  | some v => if v = [] then none else some (v, t.dropWhile isHex)

set_option maxRecDepth 10000 in
set_option maxHeartbeats 1000000 in
theorem hex_c (b : Nat) (s t : List UInt8) (x : UInt8) (w : World) (h : RdAt w b s (x :: t)) (hs : s.length ≤ 65536) :
    Calls Tryz.prog 200 #[.pointer (some ⟨b, 0, none⟩)] w (RdRet w b s ((hexR t).map fun x => (.string ⟨x.1.toArray⟩, x.2))) := by
  have hget := ba_get
  have hext := ba_ext
  obtain ⟨i0, hi0, hd0, hRd0⟩ := h
  have ⟨hlt0, hdt⟩ := drop_succ hd0
  subst hdt
  clear hd0
  have hc1 := hRd0.c1
  have hf1 := hRd0.f1
  have HR0 := Lib.hid hRd0
  clear hRd0
  go_enter Tryz.func200, Tryz.ntmps200
  go_wp2_with fail
  have hRd1 : Rd (w.setCell ⟨b, 1, none⟩ (.int .i64 ((i0 : Int) + 1))) b s (i0 + 1) := HR0.out.set (i0 + 1)
  have hg1 : w.grownBy (w.setCell ⟨b, 1, none⟩ (.int .i64 ((i0 : Int) + 1))) (some b) := grown_set _
  generalize w.setCell ⟨b, 1, none⟩ (.int .i64 ((i0 : Int) + 1)) = w0 at *
  clear hc1 hf1
  have hc1 := hRd1.c1
  have ec : ((i0 + 1 : Nat) : Int) = (i0 : Int) + 1 := by omega
  rw [ec] at hc1
  clear ec
  go_wp2_with fail
  clear hc1
  rw [show ((i0 : Int) + 1) = ((i0 + 1 : Nat) : Int) from by omega]
  obtain ⟨i, rfl⟩ : ∃ i, i = i0 + 1 := ⟨_, rfl⟩
  generalize hie : i0 + 1 = i at *
  have hi : i ≤ s.length := by omega
  have HRi := Lib.hid hRd1
  have HIE := Lib.hid hie
  clear hRd1 hie
  go_loopg [] (s.length - i) (fun gk wr => ∃ j, i ≤ j ∧ j ≤ s.length ∧ s.length - j ≤ gk ∧ Rd wr b s j ∧ Aside ((sub s i j).all isHex = true) ∧ w.grownBy wr (some b))
  case atStart => exact ⟨i, Nat.le_refl _, hi, Nat.le_refl _, HRi.out, by show _ = _; simp [sub], hg1⟩
  case round =>
    obtain ⟨j, hij, hj, hgk, hRd, AT, hg⟩ := hrel
    have h0 := hRd.c0
    have h1 := hRd.c1
    have hf1 := hRd.f1
    have hEn := fun w' (hR : Rd w' b s j) => ended_c b s j w' hR
    have HRj := Lib.hid hRd
    clear hRd
    have hsl : (sub s i j).length ≤ 1099511627776 := by rw [sub_len]; omega
    have hi0 : (0 : Int) ≤ (i : Int) := by omega
    have hij' : (i : Int) ≤ (j : Int) := by omega
    have hjl' : (j : Int) ≤ (s.length : Int) := by omega
    by_cases hc : ∃ hlt : j < s.length, 0 ≤ digitV s[j].toNat
    · obtain ⟨hlt, hty⟩ := hc
      have hb : ((j : Int) == (s.length : Int)) = false := by rw [beq_eq_false_iff_ne]; omega
      rw [hb] at hEn
      have hj1 : (j : Int) < (s.length : Int) := by omega
      have hIT := fun w => Digit_c (s[j].toNat) w (by omega) (by have := UInt8.toNat_lt s[j]; omega)
      have AT' : Aside ((sub s i (j + 1)).all isHex = true) := by
        have := AT.out
        show _ = _
        rw [show sub s i (j + 1) = sub s i j ++ [s[j]] by
          unfold sub
          rw [show j + 1 - i = (j - i) + 1 by omega, List.take_add_one, List.getElem?_drop, show i + (j - i) = j by omega, List.getElem?_eq_getElem hlt]; rfl]
        simp only [List.all_append, this, Bool.true_and, List.all_cons, List.all_nil, Bool.and_true]
        exact decide_eq_true hty
      have HEn := Lib.hid hEn
      clear hEn hb AT
      go_wp2_with fail
      go_quiet (first | (go_at_call 104; exact quiet_of' (HEn.out _ (HRj.out.drewN _))) | (go_at_call 211; exact quiet_l (hIT _)))
      go_wp2_with fail
      go_roundg (s.length - (j + 1))
      case measure => omega
      case rel => exact ⟨j + 1, by omega, by omega, Nat.le_refl _, (HRj.out.drewN nq).set (j + 1), AT'.out, World.grownBy.trans hg (World.grownBy.trans (grown_drewN _ _ _) (grown_set _))⟩
    · have hstop : (s.drop j).takeWhile isHex = [] := by
        cases hd' : s.drop j with
        | nil => rfl
        | cons x t =>
          have ⟨hlt, _⟩ := drop_succ hd'
          have hx : s[j] = x := by rw [List.drop_eq_getElem_cons hlt] at hd'; exact (List.cons.inj hd').1
          have : isHex x = false := by
            cases h : isHex x
            · rfl
            · exact absurd ⟨hlt, by rw [hx]; exact of_decide_eq_true h⟩ hc
          simp [this]
      have hcut := takeWhile_cut (p := isHex) (s.drop i) (s.drop j) ⟨j - i, by rw [List.drop_drop]; congr 1; omega, by have := AT.out; unfold sub at this; exact this⟩ hstop
      have htyp : hexR (s.drop i) = match unhexL (sub s i j) with | none => none | some v => if v = [] then none else some (v, s.drop j) := by
        unfold hexR
        rw [hcut.1, hcut.2]
        have : (s.drop i).take ((s.drop i).length - (s.drop j).length) = sub s i j := by unfold sub; congr 1; simp; omega
        rw [this]
      have HT := Lib.hid htyp
      clear htyp hcut hstop AT
      have hEW : ∀ n w2, Below wr.heap.size (wr.drewN n) w2 → w.grownBy w2 (some b) := fun n w2 hb => World.grownBy.trans hg (World.grownBy.trans (grown_drewN _ n _) (grown_below hb _))
      have HEW := Lib.hid hEW
      clear hEW
      by_cases hlt : j < s.length
      · have hb : ((j : Int) == (s.length : Int)) = false := by rw [beq_eq_false_iff_ne]; omega
        rw [hb] at hEn
        have hj1 : (j : Int) < (s.length : Int) := by omega
        have hIT := fun w => Digit_c (s[j].toNat) w (by omega) (by have := UInt8.toNat_lt s[j]; omega)
        have hty : ¬ 0 ≤ digitV s[j].toNat := fun h => hc ⟨hlt, h⟩
        have hty' : digitV s[j].toNat < 0 := by omega
        have HEn := Lib.hid hEn
        clear hEn hb hty hc
        go_wp2_with fail
        go_quiet (first | (go_at_call 104; exact quiet_of' (HEn.out _ (HRj.out.drewN _))) | (go_at_call 211; exact quiet_l (hIT _)))
        go_wp2_with fail
        rcases hT : unhexL (sub s i j) with _ | v
        · have hty : hexR (s.drop i) = none := by rw [HT.out, hT]
          have Hty := Lib.hid hty
          clear hty
          go_region_held3 (fun w' => w'.cell? ⟨b, 0, none⟩ = some (.string ⟨s.toArray⟩) ∧ w'.cell? ⟨b, 1, none⟩ = some (.int .i64 j)) (first | exact ⟨h0, h1⟩ | exact ⟨hc0', hc1'⟩) (first | (go_at_call 212; refine (Unhex_c _ _ hsl).mono ?_; rintro e w2 ⟨rfl, hb2⟩; rw [hT]; simp only [strOr]; have hR2 := (HRj.out.drewN (nq + 1)).below hb2; have hc0' := hR2.c0; have hc1' := hR2.c1))
          have HR2 := Lib.hid hR2
          clear HRj h0 h1 hR2
          go_wp2_with fail
          refine ⟨rfl, ?_⟩
          rw [HIE.out, Hty.out]
          exact ⟨HEW.out _ _ hb2, rfl⟩
        · by_cases hv : v = []
          · have hty : hexR (s.drop i) = none := by rw [HT.out, hT]; dsimp only; rw [if_pos hv]
            have Hty := Lib.hid hty
            subst hv
            clear hty
            go_region_held3 (fun w' => w'.cell? ⟨b, 0, none⟩ = some (.string ⟨s.toArray⟩) ∧ w'.cell? ⟨b, 1, none⟩ = some (.int .i64 j)) (first | exact ⟨h0, h1⟩ | exact ⟨hc0', hc1'⟩) (first | (go_at_call 212; refine (Unhex_c _ _ hsl).mono ?_; rintro e w2 ⟨rfl, hb2⟩; rw [hT]; simp only [strOr]; have hR2 := (HRj.out.drewN (nq + 1)).below hb2; have hc0' := hR2.c0; have hc1' := hR2.c1))
            have HR2 := Lib.hid hR2
            clear HRj h0 h1 hR2
            go_wp2_with fail
            refine ⟨rfl, ?_⟩
            rw [HIE.out, Hty.out]
            exact ⟨HEW.out _ _ hb2, rfl⟩
          · have hty : hexR (s.drop i) = some (v, s.drop j) := by rw [HT.out, hT]; dsimp only; rw [if_neg hv]
            have Hty := Lib.hid hty
            have hve : v.isEmpty = false := by cases v <;> simp_all
            clear hty
            go_region_held3 (fun w' => w'.cell? ⟨b, 0, none⟩ = some (.string ⟨s.toArray⟩) ∧ w'.cell? ⟨b, 1, none⟩ = some (.int .i64 j)) (first | exact ⟨h0, h1⟩ | exact ⟨hc0', hc1'⟩) (first | (go_at_call 212; refine (Unhex_c _ _ hsl).mono ?_; rintro e w2 ⟨rfl, hb2⟩; rw [hT]; simp only [strOr]; have hR2 := (HRj.out.drewN (nq + 1)).below hb2; have hc0' := hR2.c0; have hc1' := hR2.c1))
            have HR2 := Lib.hid hR2
            clear HRj h0 h1 hR2
            go_wp2_with fail
            go_ret
            rw [HIE.out, Hty.out]
            exact ⟨HEW.out _ _ hb2, rfl, j, hj, rfl, HR2.out⟩
      · obtain rfl : j = s.length := by omega
        have hb : ((s.length : Int) == (s.length : Int)) = true := by simp
        rw [hb] at hEn
        have HEn := Lib.hid hEn
        clear hEn hb hc
        go_wp2_with fail
        go_quiet (first | (go_at_call 104; exact quiet_of' (HEn.out _ (HRj.out.drewN _))))
        go_wp2_with fail
        rcases hT : unhexL (sub s i s.length) with _ | v
        · have hty : hexR (s.drop i) = none := by rw [HT.out, hT]
          have Hty := Lib.hid hty
          clear hty
          go_region_held3 (fun w' => w'.cell? ⟨b, 0, none⟩ = some (.string ⟨s.toArray⟩) ∧ w'.cell? ⟨b, 1, none⟩ = some (.int .i64 s.length)) (first | exact ⟨h0, h1⟩ | exact ⟨hc0', hc1'⟩) (first | (go_at_call 212; refine (Unhex_c _ _ hsl).mono ?_; rintro e w2 ⟨rfl, hb2⟩; rw [hT]; simp only [strOr]; have hR2 := (HRj.out.drewN (nq + 1)).below hb2; have hc0' := hR2.c0; have hc1' := hR2.c1))
          have HR2 := Lib.hid hR2
          clear HRj h0 h1 hR2
          go_wp2_with fail
          refine ⟨rfl, ?_⟩
          rw [HIE.out, Hty.out]
          exact ⟨HEW.out _ _ hb2, rfl⟩
        · by_cases hv : v = []
          · have hty : hexR (s.drop i) = none := by rw [HT.out, hT]; dsimp only; rw [if_pos hv]
            have Hty := Lib.hid hty
            subst hv
            clear hty
            go_region_held3 (fun w' => w'.cell? ⟨b, 0, none⟩ = some (.string ⟨s.toArray⟩) ∧ w'.cell? ⟨b, 1, none⟩ = some (.int .i64 s.length)) (first | exact ⟨h0, h1⟩ | exact ⟨hc0', hc1'⟩) (first | (go_at_call 212; refine (Unhex_c _ _ hsl).mono ?_; rintro e w2 ⟨rfl, hb2⟩; rw [hT]; simp only [strOr]; have hR2 := (HRj.out.drewN (nq + 1)).below hb2; have hc0' := hR2.c0; have hc1' := hR2.c1))
            have HR2 := Lib.hid hR2
            clear HRj h0 h1 hR2
            go_wp2_with fail
            refine ⟨rfl, ?_⟩
            rw [HIE.out, Hty.out]
            exact ⟨HEW.out _ _ hb2, rfl⟩
          · have hty : hexR (s.drop i) = some (v, s.drop s.length) := by rw [HT.out, hT]; dsimp only; rw [if_neg hv]
            have Hty := Lib.hid hty
            have hve : v.isEmpty = false := by cases v <;> simp_all
            clear hty
            go_region_held3 (fun w' => w'.cell? ⟨b, 0, none⟩ = some (.string ⟨s.toArray⟩) ∧ w'.cell? ⟨b, 1, none⟩ = some (.int .i64 s.length)) (first | exact ⟨h0, h1⟩ | exact ⟨hc0', hc1'⟩) (first | (go_at_call 212; refine (Unhex_c _ _ hsl).mono ?_; rintro e w2 ⟨rfl, hb2⟩; rw [hT]; simp only [strOr]; have hR2 := (HRj.out.drewN (nq + 1)).below hb2; have hc0' := hR2.c0; have hc1' := hR2.c1))
            have HR2 := Lib.hid hR2
            clear HRj h0 h1 hR2
            go_wp2_with fail
            go_ret
            rw [HIE.out, Hty.out]
            exact ⟨HEW.out _ _ hb2, rfl, s.length, hj, rfl, HR2.out⟩
end Go.Proofs.YtcjobpcbppcdnaaGreatDoor
/- Contracts: the reader of names: escape. -/
namespace Go.Proofs.YtcjobpcbppcdnaaGreatDoor
open Go.RowKit

theorem IndexByte_c (cs : List UInt8) (x : UInt8) (w : World) :
    Calls Tryz.prog 79 #[.string ⟨cs.toArray⟩, .int .u8 x.toNat] w fun e w' => e = .returned (.int .i64 (Lib.indexByte cs x)) ∧ w = w' := by
  refine (Tryz.strings_IndexByte ⟨cs.toArray⟩ x.toNat w).mono ?_
  rintro e w' ⟨rfl, rfl⟩
  exact ⟨by simp, rfl⟩
def escCs : List UInt8 := [34, 43, 44, 59, 60, 62, 92, 61, 35, 32]
def specCs : List UInt8 := [34, 43, 44, 59, 60, 62, 92]
def esc2 (c : UInt8) : List UInt8 → Option (UInt8 × List UInt8)
  | [] => none
  | d :: t => if digitV c.toNat < 0 ∨ digitV d.toNat < 0 then none else some (hexByte (digitV c.toNat) (digitV d.toNat), t)
/-- What stands behind a backslash. -/
def escR : List UInt8 → Option (UInt8 × List UInt8)
  | [] => none
  | c :: t => if 0 ≤ Lib.indexByte escCs c then some (c, t) else esc2 c t
theorem quiet_al {P : Program} {f : FuncId} {args : Array Value} {w : World} {a n : Nat} {v : Value}
    (h : Calls P f args (w.drewN (a + n)) fun e w' => e = .returned v ∧ w.drewN (a + n) = w') :
    Calls P f args (w.drewN (a + n)) fun e w'' => e = .returned v ∧ ∃ m, w'' = w.drewN (a + m) :=
  h.mono fun _ _ ⟨he, hm⟩ => ⟨he, n, hm.symm⟩

set_option maxRecDepth 100000 in
set_option maxHeartbeats 1000000 in
theorem escape_c (b : Nat) (s t : List UInt8) (x : UInt8) (w : World) (h : RdAt w b s (x :: t)) (hs : s.length ≤ 65536) :
    Calls Tryz.prog 201 #[.pointer (some ⟨b, 0, none⟩)] w (RdRet w b s ((escR t).map fun x => (.int .u8 x.1.toNat, x.2))) := by
  have hget := ba_get
  obtain ⟨i, hi, hd0, hRd⟩ := h
  have ⟨hlt, hdt⟩ := drop_succ hd0
  clear hd0 hi
  have h0 := hRd.c0
  have h1 := hRd.c1
  have hf1 := hRd.f1
  have HR := Lib.hid hRd
  clear hRd
  have hi0 : (0 : Int) ≤ (i : Int) := by omega
  have hk3 : ((i : Int) + 1).toNat = i + 1 := by omega
  have hk4 : (0 : Int) ≤ (i : Int) + 1 := by omega
  have hk5 : IntKind.i64.wrap ((i : Int) + 1) = (i : Int) + 1 := IntWalk.i64_in _ (by omega)
  cases t with
  | nil =>
    have hl : i + 1 = s.length := by
      have := congrArg List.length hdt
      simp at this; omega
    have hd1 : decide ((i : Int) + 1 < (s.length : Int)) = false := by rw [decide_eq_false_iff_not]; omega
    have HL := Lib.hid hl
    clear hl hdt
    go_enter Tryz.func201, Tryz.ntmps201
    go_wp2_with fail
    go_quiet (fail)
    have hw2 : IntKind.i64.wrap ((i : Int) + 2) = (i : Int) + 2 := IntWalk.i64_in _ (by omega)
    have hge : (s.length : Int) ≤ (i : Int) + 2 := by have := HL.out; omega
    clear hk5
    go_wp2_with fail
    go_quiet (fail)
    clear hw2
    go_wp2_with fail
    exact ⟨rfl, grown_drewN _ _ _, rfl⟩
  | cons c t =>
    have hl : i + 1 < s.length := by
      have := congrArg List.length hdt
      simp at this; omega
    have hsc : s[i + 1] = c := by rw [List.drop_eq_getElem_cons hl] at hdt; exact (List.cons.inj hdt).1
    have hdt2 : s.drop (i + 2) = t := by rw [List.drop_eq_getElem_cons hl] at hdt; exact (List.cons.inj hdt).2
    have hd1 : (i : Int) + 1 < (s.length : Int) := by omega
    have hIB := fun w => IndexByte_c escCs s[i + 1] w
    have HE : Hid (escR (c :: t) = if 0 ≤ Lib.indexByte escCs c then some (c, t) else esc2 c t) := Lib.hid rfl
    have HIB := Lib.hid hIB
    clear hdt hIB
    have HSC := Lib.hid hsc
    have HD2 := Lib.hid hdt2
    clear hsc hdt2
    by_cases hix : 0 ≤ Lib.indexByte escCs s[i + 1]
    · have hes : escR (c :: t) = some (c, t) := by rw [HE.out, if_pos (by rw [← HSC.out]; exact hix)]
      have Hes := Lib.hid hes
      clear hes
      go_enter Tryz.func201, Tryz.ntmps201
      go_wp2_with fail
      go_quiet ((go_at_call 79; exact quiet_l (HIB.out _)))
      clear hk5
      go_wp2_with fail
      have hR2 : Rd ((w.drewN nq).setCell ⟨b, 1, none⟩ (.int .i64 ((i : Int) + 2))) b s (i + 2) := (HR.out.drewN nq).set (i + 2)
      have hg2 : w.grownBy ((w.drewN nq).setCell ⟨b, 1, none⟩ (.int .i64 ((i : Int) + 2))) (some b) := World.grownBy.trans (grown_drewN _ _ _) (grown_set _)
      generalize (w.drewN nq).setCell ⟨b, 1, none⟩ (.int .i64 ((i : Int) + 2)) = W at *
      have c0 := hR2.c0
      have c1 : W.cell? ⟨b, 1, none⟩ = some (.int .i64 ((i : Int) + 2)) := hR2.c1
      have hm1 : IntKind.i64.wrap ((i : Int) + 2 - 1) = (i : Int) + 1 := by rw [show (i : Int) + 2 - 1 = (i : Int) + 1 by omega]; exact IntWalk.i64_in _ (by omega)
      have HR2 := Lib.hid hR2
      clear h0 h1 hf1 hR2
      go_quiet (fail)
      clear hm1
      go_wp2_with fail
      go_ret
      rw [Hes.out]
      refine ⟨World.grownBy.trans hg2 (grown_drewN _ _ _), ?_, i + 2, by omega, HD2.out, HR2.out⟩
      show Ending.returned (.int .u8 s[i + 1].toNat) = _
      rw [HSC.out]
    · have hes : escR (c :: t) = esc2 c t := by rw [HE.out, if_neg (by rw [← HSC.out]; exact hix)]
      have Hes := Lib.hid hes
      clear hes
      have hix' : Lib.indexByte escCs s[i + 1] < 0 := by omega
      have hq3 : ((i : Int) + 2).toNat = i + 2 := by omega
      have hq4 : (0 : Int) ≤ (i : Int) + 2 := by omega
      clear hix
      cases t with
      | nil =>
        have hl2 : s.length ≤ i + 2 := by have := congrArg List.length HD2.out; simp at this; omega
        have hge : (s.length : Int) ≤ (i : Int) + 2 := by omega
        go_enter Tryz.func201, Tryz.ntmps201
        go_wp2_with fail
        go_quiet ((go_at_call 79; exact quiet_l (HIB.out _)))
        have hw2 : IntKind.i64.wrap ((i : Int) + 2) = (i : Int) + 2 := IntWalk.i64_in _ (by omega)
        clear hk5
        go_wp2_with fail
        go_quiet (fail)
        clear hw2
        go_wp2_with fail
        refine ⟨rfl, ?_⟩
        rw [Hes.out]
        exact ⟨grown_drewN _ _ _, rfl⟩
      | cons d t =>
        have hl2 : i + 2 < s.length := by have := congrArg List.length HD2.out; simp at this; omega
        have hlt2 : (i : Int) + 2 < (s.length : Int) := by omega
        have hsd : s[i + 2] = d := by have := HD2.out; rw [List.drop_eq_getElem_cons hl2] at this; exact (List.cons.inj this).1
        have hdt3 : s.drop (i + 3) = t := by have := HD2.out; rw [List.drop_eq_getElem_cons hl2] at this; exact (List.cons.inj this).2
        have HSD := Lib.hid hsd
        have HD3 := Lib.hid hdt3
        have HDD := Lib.hid (fun (c : Int) (w : World) (h0 : 0 ≤ c) (h1 : c < 256) => Digit_c c w h0 h1)
        have ha8 : (s[i + 1].toNat : Int) < 256 := by have := UInt8.toNat_lt s[i + 1]; omega
        have hb8 : (s[i + 2].toNat : Int) < 256 := by have := UInt8.toNat_lt s[i + 2]; omega
        clear hsd hdt3
        go_enter Tryz.func201, Tryz.ntmps201
        go_wp2_with fail
        go_quiet ((go_at_call 79; exact quiet_l (HIB.out _)))
        have hw2 : IntKind.i64.wrap ((i : Int) + 2) = (i : Int) + 2 := IntWalk.i64_in _ (by omega)
        go_wp2_with fail
        go_quiet (fail)
        go_wp2_with fail
        go_quiet ((go_at_call 211; exact quiet_al (HDD.out _ _ (by omega) (by omega))))
        have hra := digitV_rng s[i + 1].toNat
        have hrb := digitV_rng s[i + 2].toNat
        have h2 : esc2 c (d :: t) = if digitV s[i + 1].toNat < 0 ∨ digitV s[i + 2].toNat < 0 then none else some (hexByte (digitV s[i + 1].toNat) (digitV s[i + 2].toNat), t) := by rw [HSC.out, HSD.out]; rfl
        have H2 := Lib.hid h2
        clear h2 hw2 hk5
        generalize digitV s[i + 1].toNat = p at hra H2 ⊢
        generalize digitV s[i + 2].toNat = q at hrb H2 ⊢
        by_cases hneg : p < 0 ∨ q < 0
        · have hno : esc2 c (d :: t) = none := by rw [H2.out, if_pos hneg]
          have Hno := Lib.hid hno
          clear hno
          rcases hneg with h | h
          · go_wp2_with fail
            refine ⟨rfl, ?_⟩
            rw [Hes.out, Hno.out]
            exact ⟨grown_drewN _ _ _, rfl⟩
          · go_wp2_with fail
            all_goals
              refine ⟨rfl, ?_⟩
              rw [Hes.out, Hno.out]
              exact ⟨grown_drewN _ _ _, rfl⟩
        · have hyes : esc2 c (d :: t) = some (hexByte p q, t) := by rw [H2.out, if_neg hneg]
          have Hyes := Lib.hid hyes
          have hx0 : 0 ≤ p := by omega
          have hy0 : 0 ≤ q := by omega
          have hx15 : p ≤ 15 := hra.2
          have hy15 : q ≤ 15 := hrb.2
          have hbits := hexByte_bits p q hx0 hx15 hy0 hy15
          clear hneg hyes hra hrb
          go_wp2_with fail
          go_ret
          rw [Hes.out, Hyes.out]
          exact ⟨World.grownBy.trans (grown_drewN _ _ _) (grown_set _), reti hbits, i + 3, by omega, HD3.out, (HR.out.drewN _).set (i + 3)⟩
end Go.Proofs.YtcjobpcbppcdnaaGreatDoor
/- Buffers beside a block that is written. -/
namespace Go.Proofs.YtcjobpcbppcdnaaGreatDoor
open Go.RowKit

/-- A buffer of bytes in a block from B on. -/
def BufO (B : Nat) (w : World) (v : Value) (l : List UInt8) : Prop := w.ownsRowF B 5 1 v l.length (Lib.byteCells l) ∧ B ≤ w.heap.size
theorem BufO.nil (w : World) : BufO w.heap.size w (.slice none 0 0) [] := ⟨World.ownsRowF_nil _ _ _ _, Nat.le_refl _⟩
theorem BufO.lt {B : Nat} {w : World} {v : Value} {l : List UInt8} (h : BufO B w v l) : ∀ k, v.ownBlock = some k → B ≤ k ∧ k < w.heap.size := fun k hk => h.1.lt k hk
theorem BufO.keep {B : Nat} {w w' : World} {v : Value} {l : List UInt8} (h : BufO B w v l) {r : Option Nat} (hg : w.grownBy w' r) (hr : ∀ k, r = some k → k < B) : BufO B w' v l := by
  refine ⟨h.1.kept hg ?_, Nat.le_trans h.2 hg.size⟩
  rcases hv : v.ownBlock with _ | g
  · exact .inl rfl
  · refine .inr ?_
    intro he
    have h1 := hr g he.symm
    have h2 := (h.lt g hv).1
    omega
theorem BufO.string {B : Nat} {w : World} {v : Value} {l : List UInt8} (h : BufO B w v l) : (convert 26 9 v).run Tryz.prog w = .ok (.string ⟨l.toArray⟩) w := row_string h.1
theorem BufO.alloc {B : Nat} {w : World} {v : Value} {l : List UInt8} (h : BufO B w v l) (o : Obj) : BufO B (w.alloc o) v l := h.keep (World.grownBy_alloc w o none) (fun k hk => by cases hk)
theorem BufO.drewN {B : Nat} {w : World} {v : Value} {l : List UInt8} (h : BufO B w v l) (n : Nat) : BufO B (w.drewN n) v l := h
theorem BufO.stringTake {B : Nat} {w : World} {v : Value} {l : List UInt8} (h : BufO B w v l) {k : Nat} (hk : k ≤ l.length) : ∃ A c, v = .slice A l.length c ∧ l.length ≤ c ∧ (convert 26 9 (.slice A k c)).run Tryz.prog w = .ok (.string ⟨(l.take k).toArray⟩) w := by
  by_cases hl : l = []
  · subst hl
    obtain ⟨⟨h1, h2⟩, h3⟩ := h
    obtain rfl : k = 0 := by simpa using hk
    rcases h2 with ⟨rfl, hn⟩ | ⟨g, cap, cur, fz, rfl, r2, r3, r4, r5, r6, r7, r8⟩
    · refine ⟨none, 0, rfl, by simp, ?_⟩
      rw [run_convert_bytes_nil (w := w) (P := Tryz.prog) 26 5 Tryz.underlying26 Tryz.underlying5 0 0 9 Tryz.underlying9]
      rfl
    · exact ⟨some ⟨g, 0, none⟩, cap, rfl, r5, run_convert_bytes_back w 26 9 5 ⟨g, 0, none⟩ cap [] Tryz.underlying26 Tryz.underlying5 Tryz.underlying9 (fun j hj => absurd hj (by simp))⟩
  · obtain ⟨g, cap, rfl, hc, _, _, hcell⟩ := row_cell h.1 hl
    refine ⟨some ⟨g, 0, none⟩, cap, rfl, hc, ?_⟩
    have hkl : (l.take k).length = k := by simp; omega
    have := run_convert_bytes_back (P := Tryz.prog) w 26 9 5 ⟨g, 0, none⟩ cap (l.take k) Tryz.underlying26 Tryz.underlying5 Tryz.underlying9 (fun j hj => by
      rw [hkl] at hj
      rw [add_off, hcell j (by omega)]
      simp)
    rwa [hkl] at this
section
variable {ops : Array Oper} {rest : List Oper} {o : Oper} {a : Act} {Q : Exit → Act → World → Prop}
theorem bufo_byte (hgd : o.guard = none) (s x : Operand) (ho : o.op = .call { callee := .builtin .append, args := #[s, x], argTypes := #[26, 26] })
    {v : Value} {l : List UInt8} {B : Nat} {w0 : World} {c : UInt8} (hs : a.eval s = v) (hb : BufO B w0 v l)
    (hx : a.eval x = .slice (some ⟨w0.heap.size, 0, none⟩) 1 1) (hlen : l.length < 140737488355328)
    (h : ∀ v' w', BufO B w' v' (l ++ [c]) → w0.grownBy w' v.ownBlock → wpList Tryz.prog ops Q rest (a.put o.dst v') w') : wpList Tryz.prog ops Q (o :: rest) a (w0.alloc (.cells #[.int .u8 c.toNat] 5)) := by
  obtain ⟨i, h1, h2, h3, h4⟩ := infoByte
  have hb' := hb.alloc (.cells #[.int .u8 c.toNat] 5)
  refine wpList_append_ownF _ hgd s x 26 ho B 5 i (.int .u8 0) 1 1 Tryz.underlying26 h1 h2 h3 h4 rfl (by decide) v _ _ hs hb'.1 ⟨w0.heap.size, 0, none⟩ 1 1 [.int .u8 c.toNat] hx rfl ?_ ?_ (by unfold maxLen; omega) (by omega) hb'.2 ?_
  · intro j u hj
    match j, hj with
    | 0, hj => simp at hj; subst hj; simp [Addr.add]
    | (j + 1), hj => simp at hj
  · intro u hu; simp at hu; subst hu; rfl
  · intro v' w' ho' hg _
    refine h v' w' ⟨?_, Nat.le_trans hb'.2 hg.size⟩ (World.grownBy.trans (World.grownBy_alloc _ _ _) hg)
    simpa [Lib.byteCells] using ho'
end
/-- Behind an append the reader stands where it stood, and nothing else that was there has turned. -/
theorem BufO.rd {w0 w w' : World} {v : Value} {l s : List UInt8} {b i : Nat} (h : BufO w0.heap.size w v l) (hg : w.grownBy w' v.ownBlock) (hb : b < w0.heap.size) (hR : Rd w b s i) : Rd w' b s i := by
  unfold Rd at hR ⊢
  rw [hg.block b (Array.getElem?_eq_some_iff.1 hR).1]
  · exact hR
  · intro e
    have := (h.lt b e.symm).1
    omega
theorem BufO.grown {w0 w w' : World} {v : Value} {l : List UInt8} {r : Option Nat} (h : BufO w0.heap.size w v l) (hg0 : w0.grownBy w r) (hg : w.grownBy w' v.ownBlock) : w0.grownBy w' r :=
  ⟨hg.os.trans hg0.os, hg.tape.trans hg0.tape, hg.output.trans hg0.output, Nat.le_trans hg0.size hg.size, fun k hk hne => by
    rw [hg.block k (Nat.lt_of_lt_of_le hk hg0.size)]
    · exact hg0.block k hk hne
    · intro e
      have := (h.lt k e.symm).1
      omega⟩
end Go.Proofs.YtcjobpcbppcdnaaGreatDoor
/- Contracts: the reader of names: value. -/
namespace Go.Proofs.YtcjobpcbppcdnaaGreatDoor
open Go.RowKit

theorem ended_at (b : Nat) (s r : List UInt8) (w : World) (h : RdAt w b s r) :
    Calls Tryz.prog 104 #[.pointer (some ⟨b, 0, none⟩)] w fun e w' => e = .returned (.bool r.isEmpty) ∧ ∃ n, w' = w.drewN n := by
  obtain ⟨i, h1, rfl, h3⟩ := h
  refine (ended_c b s i w h3).mono ?_
  rintro e w' ⟨rfl, h⟩
  refine ⟨retb ?_, h⟩
  rw [Bool.eq_iff_iff]
  simp
  omega

theorem slice_to (A : Option Addr) (n c k : Nat) (hk : k ≤ c) (w : World) : (Instr.slice 26 (.slice A n c) none (some (.int .i64 k)) none).run Tryz.prog w = .ok (.slice A k c) w := by
  have h1 : (Instr.sliceBounds true n c none (some (.int .i64 k)) none).run Tryz.prog w = .ok (0, k, c) w := by
    simp [Instr.sliceBounds, run_sliceBound, hk]
  have h2 : (sizeOf 5).run Tryz.prog w = .ok 1 w := by kernel_rfl
  unfold Instr.slice
  simp only [Sem.run_bind, run_underlying Tryz.underlying26, Result.andThen_ok, h1, h2, Sem.run_pure]
  have ha : ∀ x : Addr, x.add 0 = x := fun x => by simp [Addr.add]
  cases A with
  | none => simp
  | some x => simp; intro _; exact ha x
theorem BufO.stringTakeN {B : Nat} {w : World} {v : Value} {l : List UInt8} (h : BufO B w v l) {k : Nat} (hk : k ≤ l.length) : ∃ A c, v = .slice A l.length c ∧ l.length ≤ c ∧ ∀ q, (convert 26 9 (.slice A k c)).run Tryz.prog (w.drewN q) = .ok (.string ⟨(l.take k).toArray⟩) (w.drewN q) := by
  obtain ⟨A, c, rfl, hc, _⟩ := h.stringTake hk
  refine ⟨A, c, rfl, hc, fun q => ?_⟩
  obtain ⟨A', c', hv, _, hr⟩ := (h.drewN q).stringTake hk
  cases hv
  exact hr
theorem bufo_byteN {ops : Array Oper} {rest : List Oper} {o : Oper} {a : Act} {Q : Exit → Act → World → Prop} (hgd : o.guard = none) (s x : Operand) (ho : o.op = .call { callee := .builtin .append, args := #[s, x], argTypes := #[26, 26] })
    {v : Value} {l : List UInt8} {B N : Nat} {w0 : World} {c : UInt8} (hs : a.eval s = v) (hb : BufO B w0 v l)
    (hx : a.eval x = .slice (some ⟨N, 0, none⟩) 1 1) (hN : N = w0.heap.size) (hlen : l.length < 140737488355328)
    (h : ∀ v' w', BufO B w' v' (l ++ [c]) → w0.grownBy w' v.ownBlock → wpList Tryz.prog ops Q rest (a.put o.dst v') w') : wpList Tryz.prog ops Q (o :: rest) a (w0.alloc (.cells #[.int .u8 c.toNat] 5)) := by
  subst hN
  exact bufo_byte hgd s x ho hs hb hx hlen h
def valL : Nat → List UInt8 → List UInt8 → Nat → Option (List UInt8 × List UInt8)
  | _, [], acc, long => some (acc.take long, [])
  | 0, _ :: _, _, _ => none
  | n + 1, c :: t, acc, long =>
    if (c.toNat : Int) = 44 ∨ (c.toNat : Int) = 43 then some (acc.take long, c :: t)
    else if (c.toNat : Int) = 92 then match escR t with
      | none => none
      | some (x, t') => valL n t' (acc ++ [x]) (acc.length + 1)
    else if (c.toNat : Int) = 0 ∨ 0 ≤ Lib.indexByte specCs c then none
    else valL n t (acc ++ [c]) (if (c.toNat : Int) = 32 then long else acc.length + 1)
/-- What a value says. -/
def valueR (r : List UInt8) : Option (List UInt8 × List UInt8) := if hd r 35 then hexR r.tail else valL r.length r [] 0
theorem escR_len {t t' : List UInt8} {x : UInt8} (h : escR t = some (x, t')) : t'.length < t.length := by
  cases t with
  | nil => cases h
  | cons c t =>
    rw [escR] at h
    split at h
    · cases h; simp
    · cases t with
      | nil => cases h
      | cons d t =>
        rw [esc2] at h
        split at h
        · cases h
        · cases h; simp; omega
theorem valL_fuel : ∀ (n m : Nat) (r acc : List UInt8) (long : Nat), r.length ≤ n → r.length ≤ m → valL n r acc long = valL m r acc long
  | _, _, [], _, _, _, _ => by simp [valL]
  | 0, _, _ :: _, _, _, h, _ => absurd h (by simp)
  | _, 0, _ :: _, _, _, _, h => absurd h (by simp)
  | n + 1, m + 1, c :: t, acc, long, h1, h2 => by
    simp only [List.length_cons] at h1 h2
    simp only [valL]
    split
    · rfl
    · split
      · cases he : escR t with
        | none => rfl
        | some y =>
          obtain ⟨x, t'⟩ := y
          have := escR_len he
          exact valL_fuel n m t' _ _ (by omega) (by omega)
      · split
        · rfl
        · exact valL_fuel n m t _ _ (by omega) (by omega)

theorem RdAt.cellsX {w : World} {b : Nat} {s t : List UInt8} {c : UInt8} (h : RdAt w b s (c :: t)) : ∃ i, ∃ hlt : i < s.length, s[i] = c ∧ s.drop (i + 1) = t ∧ Rd w b s i := by
  obtain ⟨i, h1, h2, h3⟩ := h
  have ⟨hlt, hdt⟩ := drop_succ h2
  refine ⟨i, hlt, ?_, hdt, h3⟩
  rw [List.drop_eq_getElem_cons hlt] at h2
  exact (List.cons.inj h2).1

set_option maxRecDepth 100000 in
set_option maxHeartbeats 1000000 in
theorem value_c (b : Nat) (s r : List UInt8) (w : World) (h : RdAt w b s r) (hs : s.length ≤ 65536) :
    Calls Tryz.prog 179 #[.pointer (some ⟨b, 0, none⟩)] w (RdRet w b s ((valueR r).map fun x => (.string ⟨x.1.toArray⟩, x.2))) := by
  have hI := is_at b s r 35 w h
  have hbw := h.lt
  have HR := Lib.hid h
  clear h
  cases h35 : hd r 35
  · have hv : valueR r = valL r.length r [] 0 := by unfold valueR; rw [h35]; rfl
    rw [hv]
    rw [h35] at hI
    clear hv h35
    generalize hV : valL r.length r [] 0 = V
    have HV := Lib.hid hV
    clear hV
    go_enter Tryz.func179, Tryz.ntmps179
    go_wp2_with (go_at_call 103; refine hI.mono ?_; rintro e w1 ⟨rfl, n1, rfl⟩)
    go_loopg [3, 4] r.length (fun gk v lg wr => ∃ (r' acc : List UInt8) (long : Nat), r'.length ≤ gk ∧ lg = .int .i64 long ∧ long ≤ acc.length ∧ acc.length + r'.length ≤ s.length ∧ RdAt wr b s r' ∧ BufO w.heap.size wr v acc ∧ Aside (valL r'.length r' acc long = V) ∧ w.grownBy wr (some b))
    case atStart =>
      refine ⟨r, [], 0, Nat.le_refl _, rfl, Nat.le_refl _, ?_, HR.out, BufO.nil w, HV.out, grown_drewN _ _ _⟩
      obtain ⟨i, hi, hd', _⟩ := HR.out
      rw [← hd']; simp
    case round =>
      obtain ⟨r', acc, long, hlen, rfl, hlong, hacc, hRr, hbuf, AV, hg⟩ := hrel
      have hEn := fun w' (hR : RdAt w' b s r') => ended_at b s r' w' hR
      have hIs := fun c w' (hR : RdAt w' b s r') => is_at b s r' c w' hR
      cases r' with
      | nil =>
        obtain ⟨A, cp, rfl, hcp, hst⟩ := hbuf.stringTakeN hlong
        have hfin : some (acc.take long, []) = V := by have := AV.out; simpa [valL] using this
        have Hf := Lib.hid hfin
        have HRr := Lib.hid hRr
        have HEn := Lib.hid hEn
        have hsl := slice_to A acc.length cp long (by omega)
        clear hfin AV hRr hEn
        go_wp2_with (go_at_call 104; refine (HEn.out _ (by exact HRr.out)).mono ?_; rintro e w1 ⟨rfl, n2, rfl⟩)
        go_ret
        rw [← Hf.out]
        exact ⟨World.grownBy.trans hg (grown_drewN _ _ _), rfl, HRr.out⟩
      | cons c t =>
        simp only [List.length_cons] at hlen hacc
        obtain ⟨i, hlt, hsc, hdt, hRd⟩ := hRr.cellsX
        have hAV : valL (t.length + 1) (c :: t) acc long = V := AV.out
        rw [valL] at hAV
        have HAV := Lib.hid hAV
        have HRr := Lib.hid hRr
        have HEn := Lib.hid hEn
        have HIs := Lib.hid hIs
        have HRd := Lib.hid hRd
        clear AV hAV hRr hEn hIs
        have h44d : hd (c :: t) 44 = decide ((c.toNat : Int) = 44) := by
          show ((c.toNat : Int) == 44) = _
          rw [Bool.eq_iff_iff]; simp
        have h43d : hd (c :: t) 43 = decide ((c.toNat : Int) = 43) := by
          show ((c.toNat : Int) == 43) = _
          rw [Bool.eq_iff_iff]; simp
        by_cases h44 : (c.toNat : Int) = 44
        · obtain ⟨A, cp, rfl, hcp, hst⟩ := hbuf.stringTakeN hlong
          have hfin : some (acc.take long, c :: t) = V := by rw [← HAV.out, if_pos (.inl h44)]
          have Hf := Lib.hid hfin
          rw [decide_eq_true h44] at h44d
          have H44 := Lib.hid h44d
          have hsl := slice_to A acc.length cp long (by omega)
          clear hfin h44d h43d h44 hRd hdt hsc
          go_wp2_with (first | (go_at_call 104; refine (HEn.out _ (by exact HRr.out)).mono ?_; rintro e w1 ⟨rfl, n2, rfl⟩) | (go_at_call 103; refine (HIs.out _ _ (by exact HRr.out)).mono ?_; rintro e w1 ⟨rfl, n2, rfl⟩; rw [H44.out]))
          go_ret
          rw [← Hf.out]
          exact ⟨World.grownBy.trans hg (grown_drewN _ _ _), rfl, HRr.out⟩
        · rw [decide_eq_false h44] at h44d
          have H44 := Lib.hid h44d
          clear h44d
          by_cases h43 : (c.toNat : Int) = 43
          · obtain ⟨A, cp, rfl, hcp, hst⟩ := hbuf.stringTakeN hlong
            have hfin : some (acc.take long, c :: t) = V := by rw [← HAV.out, if_pos (.inr h43)]
            have Hf := Lib.hid hfin
            rw [decide_eq_true h43] at h43d
            have H43 := Lib.hid h43d
            have hsl := slice_to A acc.length cp long (by omega)
            clear hfin h43d h44 h43 hRd hdt hsc
            go_wp2_with (first | (go_at_call 104; refine (HEn.out _ (by exact HRr.out)).mono ?_; rintro e w1 ⟨rfl, n2, rfl⟩) | (go_at_call 103; refine (HIs.out _ _ (by exact HRr.out)).mono ?_; rintro e w1 ⟨rfl, n2, rfl⟩; first | rw [H44.out] | rw [H43.out]))
            go_ret
            rw [← Hf.out]
            exact ⟨World.grownBy.trans hg (grown_drewN _ _ _), rfl, HRr.out⟩
          · rw [decide_eq_false h43] at h43d
            have H43 := Lib.hid h43d
            have hAV2 := HAV.out
            rw [if_neg (fun h => h.elim h44 h43)] at hAV2
            have HAV2 := Lib.hid hAV2
            subst hsc
            have c0 := hRd.c0
            have c1 := hRd.c1
            have f1 := hRd.f1
            have hget := ba_get
            have hi0 : (0 : Int) ≤ (i : Int) := by omega
            have hi1 : (i : Int) < (s.length : Int) := by omega
            have HDT := Lib.hid hdt
            clear h43d hAV2 h44 h43 hRd hdt HAV
            by_cases h92 : (s[i].toNat : Int) = 92
            · have h92' : ((s[i].toNat : Int) == 92) = true := by simp [h92]
              have hE := fun w' (hR : RdAt w' b s (s[i] :: t)) => escape_c b s t s[i] w' hR hs
              have hAV3 := HAV2.out
              rw [if_pos h92] at hAV3
              rcases hesc : escR t with _ | ⟨x, t'⟩
              · rw [hesc] at hE hAV3
                have HE := Lib.hid hE
                have Hf := Lib.hid hAV3
                clear hE hAV3 HAV2 h92
                go_wp2_with (first | (go_at_call 104; refine (HEn.out _ (by exact HRr.out)).mono ?_; rintro e w1 ⟨rfl, n2, rfl⟩) | (go_at_call 103; refine (HIs.out _ _ (by exact HRr.out)).mono ?_; rintro e w1 ⟨rfl, n2, rfl⟩; first | rw [H44.out] | rw [H43.out]))
                go_quiet (fail)
                go_wp2_with (go_at_call 201; refine (HE.out _ (by exact HRr.out)).mono ?_; rintro e w3 ⟨hg3, rfl⟩)
                refine ⟨rfl, ?_⟩
                rw [← Hf.out]
                exact ⟨World.grownBy.trans hg (World.grownBy.trans (grown_drewN _ _ _) hg3), rfl⟩
              · have hel := escR_len hesc
                rw [hesc] at hE hAV3
                have hAV4 : valL t'.length t' (acc ++ [x]) (acc.length + 1) = V := by
                  rw [← hAV3]
                  exact valL_fuel _ _ _ _ _ (Nat.le_refl _) (by omega)
                have HE := Lib.hid hE
                have Hf := Lib.hid hAV4
                clear hE hAV3 hAV4 HAV2 h92 hesc
                go_wp2_with (first | (go_at_call 104; refine (HEn.out _ (by exact HRr.out)).mono ?_; rintro e w1 ⟨rfl, n2, rfl⟩) | (go_at_call 103; refine (HIs.out _ _ (by exact HRr.out)).mono ?_; rintro e w1 ⟨rfl, n2, rfl⟩; first | rw [H44.out] | rw [H43.out]))
                go_quiet (fail)
                go_wp2_with (first | (go_at_call 201; refine (HE.out _ (by exact HRr.out)).mono ?_; rintro e w3 ⟨hg3, rfl, hR3⟩; have hb3 := (hbuf.drewN _).keep hg3 (fun k hk => by cases hk; exact hbw)) | (at_builtin; refine bufo_byte rfl _ _ rfl rfl hb3 rfl (by omega) ?_; intro v' w4 hb4 hg4; obtain ⟨A4, cp4, rfl, hcp4⟩ := row_len hb4.1))
                go_roundg t'.length
                case measure => omega
                case rel =>
                  obtain ⟨j, hj1, hj2, hj3⟩ := hR3
                  exact ⟨t', acc ++ [x], acc.length + 1, Nat.le_refl _, by simp, by simp, by simp; omega, ⟨j, hj1, hj2, hb3.rd hg4 hbw hj3⟩, by simpa using hb4, Hf.out, hb3.grown (World.grownBy.trans hg (World.grownBy.trans (grown_drewN _ _ _) hg3)) hg4⟩
            · have h92' : ((s[i].toNat : Int) == 92) = false := by simp [h92]
              have hAV3 := HAV2.out
              rw [if_neg h92] at hAV3
              have hIB := fun w => IndexByte_c specCs s[i] w
              have HIB := Lib.hid hIB
              clear h92 HAV2 hIB
              by_cases hz : (s[i].toNat : Int) = 0
              · have hz' : ((s[i].toNat : Int) == 0) = true := beq_iff_eq.2 hz
                rw [if_pos (.inl hz)] at hAV3
                have Hf := Lib.hid hAV3
                clear hAV3 hz
                go_wp2_with (first | (go_at_call 104; refine (HEn.out _ (by exact HRr.out)).mono ?_; rintro e w1 ⟨rfl, n2, rfl⟩) | (go_at_call 103; refine (HIs.out _ _ (by exact HRr.out)).mono ?_; rintro e w1 ⟨rfl, n2, rfl⟩; first | rw [H44.out] | rw [H43.out]))
                go_quiet (fail)
                go_wp2_with fail
                refine ⟨rfl, ?_⟩
                rw [← Hf.out]
                exact ⟨World.grownBy.trans hg (grown_drewN _ _ _), rfl⟩
              · have hz' : ((s[i].toNat : Int) == 0) = false := beq_eq_false_iff_ne.2 hz
                by_cases hsp : 0 ≤ Lib.indexByte specCs s[i]
                · rw [if_pos (.inr hsp)] at hAV3
                  have Hf := Lib.hid hAV3
                  clear hAV3 hz
                  go_wp2_with (first | (go_at_call 104; refine (HEn.out _ (by exact HRr.out)).mono ?_; rintro e w1 ⟨rfl, n2, rfl⟩) | (go_at_call 103; refine (HIs.out _ _ (by exact HRr.out)).mono ?_; rintro e w1 ⟨rfl, n2, rfl⟩; first | rw [H44.out] | rw [H43.out]))
                  go_quiet (fail)
                  go_wp2_with (go_at_call 79; refine (HIB.out _).mono ?_; rintro e w3 ⟨rfl, rfl⟩)
                  refine ⟨rfl, ?_⟩
                  rw [← Hf.out]
                  exact ⟨World.grownBy.trans hg (grown_drewN _ _ _), rfl⟩
                · rw [if_neg (fun h => h.elim hz hsp)] at hAV3
                  have hsp' : Lib.indexByte specCs s[i] < 0 := by omega
                  clear hz hsp
                  by_cases h32 : (s[i].toNat : Int) = 32
                  · have h32' : ((s[i].toNat : Int) != 32) = false := bne_eq_false_iff_eq.2 h32
                    rw [if_pos h32] at hAV3
                    have Hf := Lib.hid hAV3
                    clear hAV3 h32
                    go_wp2_with (first | (go_at_call 104; refine (HEn.out _ (by exact HRr.out)).mono ?_; rintro e w1 ⟨rfl, n2, rfl⟩) | (go_at_call 103; refine (HIs.out _ _ (by exact HRr.out)).mono ?_; rintro e w1 ⟨rfl, n2, rfl⟩; first | rw [H44.out] | rw [H43.out]))
                    go_quiet (fail)
                    go_wp2_with (first | (go_at_call 79; refine (HIB.out _).mono ?_; rintro e w3 ⟨rfl, rfl⟩) | (at_builtin; refine bufo_byteN rfl _ _ rfl rfl (hbuf.keep (World.grownBy.trans (grown_drewN _ _ _) (grown_set _)) (fun k hk => by cases hk; exact hbw)) rfl (by simp [World.setCell]) (by omega) ?_; intro v' w4 hb4 hg4; obtain ⟨A4, cp4, rfl, hcp4⟩ := row_len hb4.1))
                    go_roundg t.length
                    case measure => omega
                    case rel =>
                      refine ⟨t, acc ++ [s[i]], long, Nat.le_refl _, by simp, by simp; try omega, by simp; omega, ⟨i + 1, by omega, HDT.out, ?_⟩, by simpa using hb4, Hf.out, ?_⟩
                      · exact (hbuf.keep (World.grownBy.trans (grown_drewN _ _ _) (grown_set _)) (fun k hk => by cases hk; exact hbw)).rd hg4 hbw ((HRd.out.drewN _).set (i + 1))
                      · exact (hbuf.keep (World.grownBy.trans (grown_drewN _ _ _) (grown_set _)) (fun k hk => by cases hk; exact hbw)).grown (World.grownBy.trans hg (World.grownBy.trans (grown_drewN _ _ _) (grown_set _))) hg4
                  · have h32' : ((s[i].toNat : Int) != 32) = true := bne_iff_ne.2 h32
                    rw [if_neg h32] at hAV3
                    have Hf := Lib.hid hAV3
                    clear hAV3 h32
                    go_wp2_with (first | (go_at_call 104; refine (HEn.out _ (by exact HRr.out)).mono ?_; rintro e w1 ⟨rfl, n2, rfl⟩) | (go_at_call 103; refine (HIs.out _ _ (by exact HRr.out)).mono ?_; rintro e w1 ⟨rfl, n2, rfl⟩; first | rw [H44.out] | rw [H43.out]))
                    go_quiet (fail)
                    go_wp2_with (first | (go_at_call 79; refine (HIB.out _).mono ?_; rintro e w3 ⟨rfl, rfl⟩) | (at_builtin; refine bufo_byteN rfl _ _ rfl rfl (hbuf.keep (World.grownBy.trans (grown_drewN _ _ _) (grown_set _)) (fun k hk => by cases hk; exact hbw)) rfl (by simp [World.setCell]) (by omega) ?_; intro v' w4 hb4 hg4; obtain ⟨A4, cp4, rfl, hcp4⟩ := row_len hb4.1))
                    go_roundg t.length
                    case measure => omega
                    case rel =>
                      refine ⟨t, acc ++ [s[i]], acc.length + 1, Nat.le_refl _, by simp, by simp; try omega, by simp; omega, ⟨i + 1, by omega, HDT.out, ?_⟩, by simpa using hb4, Hf.out, ?_⟩
                      · exact (hbuf.keep (World.grownBy.trans (grown_drewN _ _ _) (grown_set _)) (fun k hk => by cases hk; exact hbw)).rd hg4 hbw ((HRd.out.drewN _).set (i + 1))
                      · exact (hbuf.keep (World.grownBy.trans (grown_drewN _ _ _) (grown_set _)) (fun k hk => by cases hk; exact hbw)).grown (World.grownBy.trans hg (World.grownBy.trans (grown_drewN _ _ _) (grown_set _))) hg4
  · have hv : valueR r = hexR r.tail := by unfold valueR; rw [h35]; rfl
    rw [hv]
    rw [h35] at hI
    obtain ⟨c, t, rfl⟩ : ∃ c t, r = c :: t := by
      cases r with
      | nil => cases h35
      | cons c t => exact ⟨c, t, rfl⟩
    have hH := fun w' (hR : RdAt w' b s (c :: t)) => hex_c b s t c w' hR hs
    simp only [List.tail_cons]
    rcases hhx : hexR t with _ | y
    · rw [hhx] at hH
      have HH := Lib.hid hH
      clear hH hv h35 hhx
      go_enter Tryz.func179, Tryz.ntmps179
      go_wp2_with (first | (go_at_call 103; refine hI.mono ?_; rintro e w1 ⟨rfl, n1, rfl⟩) | (go_at_call 200; refine (HH.out _ (by exact HR.out)).mono ?_; rintro e w3 ⟨hg3, rfl⟩))
      exact ⟨rfl, World.grownBy.trans (grown_drewN _ _ _) hg3, rfl⟩
    · rw [hhx] at hH
      have HH := Lib.hid hH
      clear hH hv h35 hhx
      go_enter Tryz.func179, Tryz.ntmps179
      go_wp2_with (first | (go_at_call 103; refine hI.mono ?_; rintro e w1 ⟨rfl, n1, rfl⟩) | (go_at_call 200; refine (HH.out _ (by exact HR.out)).mono ?_; rintro e w3 ⟨hg3, rfl, hR3⟩))
      go_ret
      exact ⟨World.grownBy.trans (grown_drewN _ _ _) hg3, rfl, hR3⟩
end Go.Proofs.YtcjobpcbppcdnaaGreatDoor
/- Contracts: the reader of names: pair. -/
namespace Go.Proofs.YtcjobpcbppcdnaaGreatDoor
open Go.RowKit

/-- b is none of the variables that the library reads. -/
def Off (b : Nat) : Prop := b ≠ 1 ∧ b ≠ 2 ∧ b ≠ 0
theorem Env.grown {w W : World} {b : Nat} (h : Env w) (hb : Off b) (hg : w.grownBy W (some b)) : Env W := by
  obtain ⟨⟨h1, h2⟩, m, hm⟩ := h
  obtain ⟨b1, b2, b3⟩ := hb
  refine ⟨⟨fun c hc => hg.cell (h1 c hc) (by simpa using b1.symm), fun i hi => ⟨hg.cell (h2 i hi).1 (by simpa using b2.symm), hg.cell (h2 i hi).2 (by simpa using b2.symm)⟩⟩, m, hg.cell hm (by simpa using b3.symm)⟩

/-- A block known whole. -/
def Bk (w : World) (g : Nat) (t : TypeId) (cs : Array Value) : Prop := w.heap[g]? = some (.cells cs t (0, 0))
theorem Bk.lt {w : World} {g : Nat} {t : TypeId} {cs : Array Value} (h : Bk w g t cs) : g < w.heap.size := (Array.getElem?_eq_some_iff.1 h).1
theorem Bk.cell {w : World} {g : Nat} {t : TypeId} {cs : Array Value} (h : Bk w g t cs) (i : Nat) : w.cell? ⟨g, i, none⟩ = cs[i]? := by unfold Bk at h; simp [World.cell?, h]
theorem Bk.frozen {w : World} {g : Nat} {t : TypeId} {cs : Array Value} (h : Bk w g t cs) (i : Nat) : w.frozen? ⟨g, i, none⟩ = false := by unfold Bk at h; simp [World.frozen?, h]
theorem Bk.new (w : World) (t : TypeId) (cs : Array Value) : Bk (w.alloc (.cells cs t)) w.heap.size t cs := heap_alloc_new w _
theorem Bk.grown {w w' : World} {g : Nat} {t : TypeId} {cs : Array Value} {r : Option Nat} (h : Bk w g t cs) (hg : w.grownBy w' r) (hne : some g ≠ r) : Bk w' g t cs := (hg.block g h.lt hne).trans h
theorem Bk.below {w w' : World} {g : Nat} {t : TypeId} {cs : Array Value} (h : Bk w g t cs) (hb : Below w.heap.size w w') : Bk w' g t cs := (hb.block g h.lt).trans h
theorem Bk.alloc {w : World} {g : Nat} {t : TypeId} {cs : Array Value} (h : Bk w g t cs) (o : Obj) : Bk (w.alloc o) g t cs := h.grown (World.grownBy_alloc w o none) (by simp)
theorem Bk.drewN {w : World} {g : Nat} {t : TypeId} {cs : Array Value} (h : Bk w g t cs) (n : Nat) : Bk (w.drewN n) g t cs := h
theorem Bk.set {w : World} {g : Nat} {t : TypeId} {cs : Array Value} (h : Bk w g t cs) (i : Nat) (u : Value) : Bk (w.setCell ⟨g, i, none⟩ u) g t (cs.setIfInBounds i u) := by
  unfold Bk at h ⊢
  simp [World.setCell, Array.getElem?_modify, h]
theorem Bk.far {w : World} {g g' i : Nat} {t : TypeId} {cs : Array Value} (h : Bk w g t cs) (hne : g ≠ g') (u : Value) : Bk (w.setCell ⟨g', i, none⟩ u) g t cs := (Below.heap_setCell w _ u g hne).trans h
theorem RdAt.grown {w w' : World} {b : Nat} {s r : List UInt8} {k : Option Nat} (h : RdAt w b s r) (hg : w.grownBy w' k) (hne : some b ≠ k) : RdAt w' b s r := by
  obtain ⟨i, h1, h2, h3⟩ := h
  exact ⟨i, h1, h2, (hg.block b h3.lt hne).trans h3⟩
theorem RdAt.next {w : World} {b : Nat} {s t : List UInt8} {c : UInt8} (h : RdAt w b s (c :: t)) : ∃ i : Nat, i < s.length ∧ w.cell? ⟨b, 1, none⟩ = some (.int .i64 i) ∧ w.frozen? ⟨b, 1, none⟩ = false ∧ RdAt (w.setCell ⟨b, 1, none⟩ (.int .i64 ((i : Int) + 1))) b s t := by
  obtain ⟨i, h1, h2, h3⟩ := h
  have ⟨hlt, hdt⟩ := drop_succ h2
  exact ⟨i, hlt, h3.c1, h3.f1, i + 1, by omega, hdt, h3.set (i + 1)⟩
/-- What was there stays but for b; what is above the floor is free. -/
theorem grown_own {w w1 w2 : World} {b g : Nat} (h : w.grownBy w1 (some b)) (hg : w1.grownBy w2 (some g)) (hge : w.heap.size ≤ g) : w.grownBy w2 (some b) :=
  ⟨hg.os.trans h.os, hg.tape.trans h.tape, hg.output.trans h.output, Nat.le_trans h.size hg.size, fun k hk hne => by
    rw [hg.block k (Nat.lt_of_lt_of_le hk h.size) (by intro e; cases e; omega)]
    exact h.block k hk hne⟩

def blk (r : List UInt8) : List UInt8 := r.dropWhile (· == 32)
/-- A pair: its type and its value. -/
def pairR (r : List UInt8) : Option ((List UInt8 × List UInt8) × List UInt8) :=
  match typR (blk r) with
  | none => none
  | some (t, r2) => if hd (blk r2) 61 then (match valueR (blk (blk r2).tail) with
      | none => none
      | some (v, r5) => some ((t, v), blk r5)) else none
def avaV (x : List UInt8 × List UInt8) : Value := .agg #[.string ⟨x.1.toArray⟩, .string ⟨x.2.toArray⟩]

set_option maxRecDepth 100000 in
set_option maxHeartbeats 1000000 in
theorem pair_c (b : Nat) (s r : List UInt8) (w : World) (hw : Env w) (hO : Off b) (h : RdAt w b s r) (hs : s.length ≤ 65536) :
    Calls Tryz.prog 138 #[.pointer (some ⟨b, 0, none⟩)] w (RdRet w b s ((pairR r).map fun x => (avaV x.1, x.2))) := by
  have hbw := h.lt
  have HR := Lib.hid h
  clear h
  have hz : (zeroValue 70).run Tryz.prog w = .ok (.agg #[.string ⟨#[]⟩, .string ⟨#[]⟩]) w := by kernel_rfl
  go_enter Tryz.func138, Tryz.ntmps138
  go_wp2_with fail
  have e0 : Env ((w.alloc (.cells #[.string ⟨#[]⟩, .string ⟨#[]⟩] 70)).alloc (.cells #[.string ⟨#[]⟩, .string ⟨#[]⟩] 70)) := (hw.keep ((Below.refl _ _).alloc (Nat.le_refl _) _)).keep ((Below.refl _ _).alloc (Nat.le_refl _) _)
  have k0 : Bk ((w.alloc (.cells #[.string ⟨#[]⟩, .string ⟨#[]⟩] 70)).alloc (.cells #[.string ⟨#[]⟩, .string ⟨#[]⟩] 70)) w.heap.size 70 #[.string ⟨#[]⟩, .string ⟨#[]⟩] := (Bk.new w _ _).alloc _
  have k1 : Bk ((w.alloc (.cells #[.string ⟨#[]⟩, .string ⟨#[]⟩] 70)).alloc (.cells #[.string ⟨#[]⟩, .string ⟨#[]⟩] 70)) (w.heap.size + 1) 70 #[.string ⟨#[]⟩, .string ⟨#[]⟩] := by
    have := Bk.new (w.alloc (.cells #[.string ⟨#[]⟩, .string ⟨#[]⟩] 70)) 70 #[.string ⟨#[]⟩, .string ⟨#[]⟩]
    rwa [World.size_alloc] at this
  have g0 : w.grownBy ((w.alloc (.cells #[.string ⟨#[]⟩, .string ⟨#[]⟩] 70)).alloc (.cells #[.string ⟨#[]⟩, .string ⟨#[]⟩] 70)) (some b) := World.grownBy.trans (World.grownBy_alloc _ _ _) (World.grownBy_alloc _ _ _)
  have r0 : RdAt ((w.alloc (.cells #[.string ⟨#[]⟩, .string ⟨#[]⟩] 70)).alloc (.cells #[.string ⟨#[]⟩, .string ⟨#[]⟩] 70)) b s r := (HR.out.below ((Below.refl _ _).alloc (Nat.le_refl _) _)).below ((Below.refl _ _).alloc (Nat.le_refl _) _)
  generalize (w.alloc (.cells #[.string ⟨#[]⟩, .string ⟨#[]⟩] 70)).alloc (.cells #[.string ⟨#[]⟩, .string ⟨#[]⟩] 70) = W0 at *
  have hn0 : some w.heap.size ≠ some b := by simp; omega
  have hn1 : some (w.heap.size + 1) ≠ some b := by simp; omega
  clear hz
  refine (blanks_c b s r W0 r0 (by omega)).mono ?_
  rintro e W1 ⟨rfl, r1, h1⟩
  have e1 := e0.grown hO h1
  have g1 := World.grownBy.trans g0 h1
  have K0 := Lib.hid (k0.grown h1 hn0)
  have K1 := Lib.hid (k1.grown h1 hn1)
  clear e0 g0 k0 k1 r0 h1 HR
  have hT := typ_c b s (blk r) W1 e1 r1 hs (fun W hg => e1.grown hO hg)
  rcases hty : typR (blk r) with _ | ⟨t, r2⟩
  · have hp : pairR r = none := by unfold pairR; rw [hty]
    rw [hty] at hT
    have Hp := Lib.hid hp
    clear hp hty
    go_wp2_with fail
    refine hT.mono ?_
    rintro e W2 ⟨h2, rfl⟩
    refine ⟨rfl, ?_⟩
    rw [Hp.out]
    exact ⟨World.grownBy.trans g1 h2, rfl⟩
  · rw [hty] at hT
    have HTy := Lib.hid hty
    clear hty
    go_wp2_with fail
    refine hT.mono ?_
    rintro e W2 ⟨h2, rfl, r2'⟩
    have e2 := e1.grown hO h2
    have g2 := World.grownBy.trans g1 h2
    have k0 := K0.out.grown h2 hn0
    have k1 := K1.out.grown h2 hn1
    have c10 := k1.cell 0
    have c11 := k1.cell 1
    have f10 := k1.frozen 0
    simp at c10 c11
    clear hT e1 g1 r1 K0 K1 h2
    have K0 := Lib.hid k0
    have K1 := Lib.hid k1
    clear k0 k1
    go_wp2_with fail
    have k0 := K0.out.far (g' := w.heap.size + 1) (i := 0) (by omega) (.string ⟨t.toArray⟩)
    have k1 := K1.out.set 0 (.string ⟨t.toArray⟩)
    have g3 : w.grownBy (W2.setCell ⟨w.heap.size + 1, 0, none⟩ (.string ⟨t.toArray⟩)) (some b) := grown_own g2 (grown_set _) (by omega)
    have hgs : W2.grownBy (W2.setCell ⟨w.heap.size + 1, 0, none⟩ (.string ⟨t.toArray⟩)) (some (w.heap.size + 1)) := grown_set _
    have e3 : Env (W2.setCell ⟨w.heap.size + 1, 0, none⟩ (.string ⟨t.toArray⟩)) := hw.grown hO g3
    have r3 := r2'.grown hgs (Ne.symm hn1)
    generalize W2.setCell ⟨w.heap.size + 1, 0, none⟩ (.string ⟨t.toArray⟩) = W3 at *
    refine (blanks_c b s r2 W3 r3 (by omega)).mono ?_
    rintro e W4 ⟨rfl, r4, h4⟩
    have g4 := World.grownBy.trans g3 h4
    have K0 := Lib.hid (k0.grown h4 hn0)
    have K1 := Lib.hid (k1.grown h4 hn1)
    clear c10 c11 f10 r2' r3 g2 g3 e2 e3 h4 k0 k1 hgs
    have hI := is_at b s (blk r2) 61 W4 r4
    cases h61 : hd (blk r2) 61
    · have hp : pairR r = none := by unfold pairR; rw [HTy.out]; dsimp only; rw [h61]; rfl
      rw [h61] at hI
      have Hp := Lib.hid hp
      clear hp h61
      go_wp2_with fail
      refine hI.mono ?_
      rintro e W5 ⟨rfl, n5, rfl⟩
      go_wp2_with fail
      refine ⟨rfl, ?_⟩
      rw [Hp.out]
      exact ⟨World.grownBy.trans g4 (grown_drewN _ _ _), rfl⟩
    · rw [h61] at hI
      obtain ⟨c, r3, hr3⟩ : ∃ c t, blk r2 = c :: t := by
        cases hb : blk r2 with
        | nil => rw [hb] at h61; cases h61
        | cons c t => exact ⟨c, t, rfl⟩
      have HR3 := Lib.hid hr3
      have H61 := Lib.hid h61
      have r4' : RdAt W4 b s (c :: r3) := by rw [← hr3]; exact r4
      clear hr3 h61 r4
      go_wp2_with fail
      refine hI.mono ?_
      rintro e W5 ⟨rfl, n5, rfl⟩
      obtain ⟨i, hi, c1, f1, r5⟩ := (r4'.drewN n5).next
      have c1' : W4.cell? ⟨b, 1, none⟩ = some (.int .i64 i) := c1
      have f1' : W4.frozen? ⟨b, 1, none⟩ = false := f1
      clear c1 f1
      go_wp2_with fail
      have g5 : w.grownBy ((W4.drewN n5).setCell ⟨b, 1, none⟩ (.int .i64 ((i : Int) + 1))) (some b) := World.grownBy.trans g4 (World.grownBy.trans (grown_drewN _ _ _) (grown_set _))
      have k0 := (K0.out.drewN n5).grown (grown_set (b := b) (o := 1) (.int .i64 ((i : Int) + 1))) hn0
      have k1 := (K1.out.drewN n5).grown (grown_set (b := b) (o := 1) (.int .i64 ((i : Int) + 1))) hn1
      have hEQ : (W4.setCell ⟨b, 1, none⟩ (.int .i64 ((i : Int) + 1))).drewN n5 = (W4.drewN n5).setCell ⟨b, 1, none⟩ (.int .i64 ((i : Int) + 1)) := rfl
      try rw [hEQ]
      clear hEQ
      generalize (W4.drewN n5).setCell ⟨b, 1, none⟩ (.int .i64 ((i : Int) + 1)) = W6 at *
      refine (blanks_c b s r3 W6 r5 (by omega)).mono ?_
      rintro e W7 ⟨rfl, r7, h7⟩
      have g7 := World.grownBy.trans g5 h7
      have K0 := Lib.hid (k0.grown h7 hn0)
      have K1 := Lib.hid (k1.grown h7 hn1)
      clear c1' f1' k0 k1 r5 g4 g5 h7 hI r4'
      have hV := value_c b s (blk r3) W7 r7 hs
      rcases hva : valueR (blk r3) with _ | ⟨v, r8⟩
      · have hp : pairR r = none := by unfold pairR; rw [HTy.out]; dsimp only; rw [H61.out, if_pos rfl, HR3.out]; simp only [List.tail_cons]; rw [hva]
        rw [hva] at hV
        have Hp := Lib.hid hp
        clear hp hva
        go_wp2_with fail
        refine hV.mono ?_
        rintro e W8 ⟨h8, rfl⟩
        refine ⟨rfl, ?_⟩
        rw [Hp.out]
        exact ⟨World.grownBy.trans g7 h8, rfl⟩
      · have hp : pairR r = some ((t, v), blk r8) := by unfold pairR; rw [HTy.out]; dsimp only; rw [H61.out, if_pos rfl, HR3.out]; simp only [List.tail_cons]; rw [hva]
        rw [hva] at hV
        have Hp := Lib.hid hp
        clear hp hva
        go_wp2_with fail
        refine hV.mono ?_
        rintro e W8 ⟨h8, rfl, r8'⟩
        have g8 := World.grownBy.trans g7 h8
        have k0 := K0.out.grown h8 hn0
        have k1 := K1.out.grown h8 hn1
        have c10 := k1.cell 0
        have c11 := k1.cell 1
        have f11 := k1.frozen 1
        simp at c10 c11
        have K0 := Lib.hid k0
        have K1 := Lib.hid k1
        clear hV g7 r7 h8 k0 k1
        go_wp2_with fail
        have k0 := K0.out.far (g' := w.heap.size + 1) (i := 1) (by omega) (.string ⟨v.toArray⟩)
        have k1 := K1.out.set 1 (.string ⟨v.toArray⟩)
        have g9 : w.grownBy (W8.setCell ⟨w.heap.size + 1, 1, none⟩ (.string ⟨v.toArray⟩)) (some b) := grown_own g8 (grown_set _) (by omega)
        have hgs : W8.grownBy (W8.setCell ⟨w.heap.size + 1, 1, none⟩ (.string ⟨v.toArray⟩)) (some (w.heap.size + 1)) := grown_set _
        have r9 := r8'.grown hgs (Ne.symm hn1)
        generalize W8.setCell ⟨w.heap.size + 1, 1, none⟩ (.string ⟨v.toArray⟩) = W9 at *
        refine (blanks_c b s r8 W9 r9 (by omega)).mono ?_
        rintro e W10 ⟨rfl, r10, h10⟩
        have g10 := World.grownBy.trans g9 h10
        have k0 := k0.grown h10 hn0
        have k1 := k1.grown h10 hn1
        clear c10 c11 f11 hgs
        have c10 := k1.cell 0
        have c11 := k1.cell 1
        have c00 := k0.cell 0
        have c01 := k0.cell 1
        have f00 := k0.frozen 0
        have f01 := k0.frozen 1
        simp at c10 c11 c00 c01
        have K0 := Lib.hid k0
        clear k0 k1 g8 g9 r8' r9 h10
        go_wp2_with fail
        have hs1 : W10.grownBy (W10.setCell ⟨w.heap.size, 0, none⟩ (.string ⟨t.toArray⟩)) (some w.heap.size) := grown_set _
        have hs2 : (W10.setCell ⟨w.heap.size, 0, none⟩ (.string ⟨t.toArray⟩)).grownBy ((W10.setCell ⟨w.heap.size, 0, none⟩ (.string ⟨t.toArray⟩)).setCell ⟨w.heap.size, 1, none⟩ (.string ⟨v.toArray⟩)) (some w.heap.size) := grown_set _
        have kf := (K0.out.set 0 (.string ⟨t.toArray⟩)).set 1 (.string ⟨v.toArray⟩)
        have cf0 := kf.cell 0
        have cf1 := kf.cell 1
        simp at cf0 cf1
        refine bodyPost_ret (v := .agg #[.string ⟨t.toArray⟩, .string ⟨v.toArray⟩]) (by simp [results, Tryz.results138, go_sem, cf0, cf1]) rfl ?_
        rw [Hp.out]
        exact ⟨grown_own (grown_own g10 hs1 (Nat.le_refl _)) hs2 (Nat.le_refl _), rfl, (r10.grown hs1 (Ne.symm hn0)).grown hs2 (Ne.symm hn0)⟩
end Go.Proofs.YtcjobpcbppcdnaaGreatDoor
/- What a call may have turned: some blocks, and new ones. -/
namespace Go.Proofs.YtcjobpcbppcdnaaGreatDoor
open Go.RowKit

/-- But for the blocks of S all that was there is as it was. -/
structure Mods (S : List Nat) (w w' : World) : Prop where
  os : w'.os = w.os
  tape : w'.tape = w.tape
  output : w'.output = w.output
  size : w.heap.size ≤ w'.heap.size
  block : ∀ k, k < w.heap.size → k ∉ S → w'.heap[k]? = w.heap[k]?
theorem Mods.refl (S : List Nat) (w : World) : Mods S w w := ⟨rfl, rfl, rfl, Nat.le_refl _, fun _ _ _ => rfl⟩
theorem Mods.trans {S : List Nat} {a b c : World} (h : Mods S a b) (k : Mods S b c) : Mods S a c :=
  ⟨k.os.trans h.os, k.tape.trans h.tape, k.output.trans h.output, Nat.le_trans h.size k.size, fun i hi hn => (k.block i (Nat.lt_of_lt_of_le hi h.size) hn).trans (h.block i hi hn)⟩
theorem Mods.mono {S S' : List Nat} {w w' : World} (h : Mods S w w') (hs : ∀ x ∈ S, x ∈ S') : Mods S' w w' := ⟨h.os, h.tape, h.output, h.size, fun k hk hn => h.block k hk (fun hx => hn (hs k hx))⟩
/-- Blocks that are new to the first world need not be named. -/
theorem Mods.news {S S' : List Nat} {w w' : World} (h : Mods S w w') (hs : ∀ x ∈ S, x ∈ S' ∨ w.heap.size ≤ x) : Mods S' w w' := ⟨h.os, h.tape, h.output, h.size, fun k hk hn => h.block k hk (fun hx => by
  rcases hs k hx with h1 | h1
  · exact hn h1
  · omega)⟩
theorem Mods.of_below {w w' : World} (h : Below w.heap.size w w') (S : List Nat) : Mods S w w' := ⟨h.os, h.tape, h.output, h.size, fun k hk _ => h.block k hk⟩
theorem Mods.of_grown {w w' : World} {r : Nat} (h : w.grownBy w' (some r)) {S : List Nat} (hr : r ∈ S) : Mods S w w' := ⟨h.os, h.tape, h.output, h.size, fun k hk hn => h.block k hk (fun e => by cases e; exact hn hr)⟩
theorem Mods.of_grown' {w w' : World} {r : Option Nat} (h : w.grownBy w' r) {S : List Nat} (hr : ∀ k, r = some k → k ∈ S) : Mods S w w' := ⟨h.os, h.tape, h.output, h.size, fun k hk hn => h.block k hk (fun e => hn (hr k e.symm))⟩
theorem Mods.drew {S : List Nat} {a w : World} (h : Mods S a w) : Mods S a w.drew := ⟨h.os, h.tape, h.output, h.size, h.block⟩
theorem Mods.drewN {S : List Nat} {a w : World} (h : Mods S a w) (n : Nat) : Mods S a (w.drewN n) := ⟨h.os, h.tape, h.output, h.size, h.block⟩
theorem Mods.alloc {S : List Nat} {a w : World} (h : Mods S a w) (o : Obj) : Mods S a (w.alloc o) := h.trans (Mods.of_below ((Below.refl _ _).alloc (Nat.le_refl _) o) S)
theorem Mods.setCell {S : List Nat} {a w : World} (h : Mods S a w) {p : Addr} (hp : p.block ∈ S) (u : Value) : Mods S a (w.setCell p u) :=
  h.trans ⟨rfl, rfl, rfl, by simp [World.setCell], fun k hk hn => Below.heap_setCell _ _ _ _ (by rintro rfl; exact hn hp)⟩
theorem Mods.setMap {S : List Nat} {a w : World} (h : Mods S a w) {r : Nat} (hr : r ∈ S) (es : Array MapEntry) (c : Nat) : Mods S a (World.setMap w r es c) :=
  h.trans ⟨rfl, rfl, rfl, by rw [setMap_size]; exact Nat.le_refl _, fun k hk hn => setMap_other (by rintro rfl; exact hn hr)⟩
/-- To a call whose own blocks those of S are nothing has turned. -/
theorem Mods.below {S : List Nat} {B : Nat} {w w' : World} (h : Mods S w w') (hB : B ≤ w.heap.size) (hS : ∀ x ∈ S, B ≤ x) : Below B w w' :=
  ⟨h.os, h.tape, h.output, h.size, fun k hk => h.block k (Nat.lt_of_lt_of_le hk hB) (fun hx => by have := hS k hx; omega)⟩
theorem Mods.same {S : List Nat} {w w' : World} (h : Mods S w w') {g : Nat} {o : Obj} (ho : w.heap[g]? = some o) (hg : g ∉ S) : w'.heap[g]? = some o :=
  (h.block g (Array.getElem?_eq_some_iff.1 ho).1 hg).trans ho
theorem Mods.bk {S : List Nat} {w w' : World} (h : Mods S w w') {g : Nat} {t : TypeId} {cs : Array Value} (hb : Bk w g t cs) (hg : g ∉ S) : Bk w' g t cs := Mods.same h hb hg
theorem Mods.cell {S : List Nat} {w w' : World} (h : Mods S w w') {g o : Nat} {v : Value} (hc : w.cell? ⟨g, o, none⟩ = some v) (hg : g ∉ S) : w'.cell? ⟨g, o, none⟩ = some v := by
  rw [World.cell?_of_block (w := w) (h.block g (cell_lt hc) hg)]
  exact hc
/-- Lists of texts lie in no block of S where no block of S begins with a text. -/
def NoText (w : World) (S : List Nat) : Prop := ∀ g ∈ S, ∀ s, w.cell? ⟨g, 0, none⟩ ≠ some (.string s)
theorem Texts.mods {S : List Nat} {w w' : World} {v : Value} {xs : List (List UInt8)} (h : Texts w v xs) (hm : Mods S w w') (hS : NoText w S) : Texts w' v xs := by
  rcases h with h | ⟨b, c, rfl, hc, hlt, hcell⟩
  · exact .inl h
  · refine .inr ⟨b, c, rfl, hc, Nat.lt_of_lt_of_le hlt hm.size, fun j hj => hm.cell (hcell j hj) (fun hb => ?_)⟩
    exact hS b hb _ (hcell 0 (by omega))
end Go.Proofs.YtcjobpcbppcdnaaGreatDoor
/- The words of a definition in memory. -/
namespace Go.Proofs.YtcjobpcbppcdnaaGreatDoor
open Go.RowKit

def wdCells (x : Wd) : List Value := [.string ⟨x.1.toArray⟩, .bool x.2]
/-- Words in a row of the call's own. -/
def Wds (B : Nat) (w : World) (v : Value) (l : List Wd) : Prop := w.ownsRow B 125 2 v l.length (l.flatMap wdCells) ∧ B ≤ w.heap.size
theorem Wds.lt {B : Nat} {w : World} {v : Value} {l : List Wd} (h : Wds B w v l) : ∀ k, v.ownBlock = some k → B ≤ k ∧ k < w.heap.size := fun k hk => h.1.lt k hk
theorem Wds.keep {B : Nat} {w w' : World} {v : Value} {l : List Wd} (h : Wds B w v l) {r : Option Nat} (hg : w.grownBy w' r) (hr : ∀ k, r = some k → k < B) : Wds B w' v l := by
  refine ⟨h.1.kept hg ?_, Nat.le_trans h.2 hg.size⟩
  rcases hv : v.ownBlock with _ | g
  · exact .inl rfl
  · refine .inr ?_
    intro he
    have := hr g he.symm
    have := (h.1.lt g hv).1
    omega
theorem Wds.below {B : Nat} {w w' : World} {v : Value} {l : List Wd} (h : Wds B w v l) (hb : Below w.heap.size w w') : Wds B w' v l := h.keep (grown_below hb none) (fun k hk => by cases hk)
theorem Wds.nil {B : Nat} {w : World} (hB : B ≤ w.heap.size) : Wds B w (.slice none 0 0) [] := ⟨World.ownsRow_nil _ _ _ _, hB⟩
theorem Wds.isSlice {B : Nat} {w : World} {v : Value} {l : List Wd} (h : Wds B w v l) : ∃ A c, v = .slice A l.length c ∧ l.length ≤ c := by
  obtain ⟨⟨h1, h2⟩, h3⟩ := h
  rcases h2 with ⟨rfl, hn⟩ | ⟨g, cap, cur, rfl, r2, r3, r4, _⟩
  · exact ⟨none, 0, by rw [hn], by omega⟩
  · exact ⟨_, cap, rfl, r4⟩
theorem infoWord : ∃ i, Tryz.prog.info? 125 = some i ∧ i.zero = some (.agg #[.string ⟨#[]⟩, .bool false]) ∧ i.size = 2 ∧ i.bytes = 24 := by
  obtain ⟨i, h1, h2, h3, h4⟩ := info_parts (show (Tryz.prog.info? 125).map (fun i => (i.zero, i.size, i.bytes)) = some (some (.agg #[.string ⟨#[]⟩, .bool false]), 2, 24) by kernel_rfl)
  exact ⟨i, h1, h2, h3, h4⟩
theorem wds_one {ops : Array Oper} {rest : List Oper} {o : Oper} {a : Act} {Q : Exit → Act → World → Prop} (hgd : o.guard = none) (s x : Operand) (ho : o.op = .call { callee := .builtin .append, args := #[s, x], argTypes := #[84, 84] })
    {v : Value} {l : List Wd} {B N : Nat} {w0 : World} {t : List UInt8} {q : Bool} (hs : a.eval s = v) (hb : Wds B w0 v l)
    (hx : a.eval x = .slice (some ⟨N, 0, none⟩) 1 1) (hN : N = w0.heap.size) (hlen : l.length < 1000000)
    (h : ∀ v' w', Wds B w' v' (l ++ [(t, q)]) → w0.grownBy w' v.ownBlock → wpList Tryz.prog ops Q rest (a.put o.dst v') w') : wpList Tryz.prog ops Q (o :: rest) a (w0.alloc (.cells #[.string ⟨t.toArray⟩, .bool q] 125)) := by
  subst hN
  obtain ⟨i, h1, h2, h3, h4⟩ := infoWord
  have hb' := hb.keep (World.grownBy_alloc w0 (.cells #[.string ⟨t.toArray⟩, .bool q] 125) none) (fun k hk => by cases hk)
  refine wpList_append_own _ hgd s x 84 ho B 125 i (.agg #[.string ⟨#[]⟩, .bool false]) 2 24 Tryz.underlying84 h1 h2 h3 h4 rfl (by decide) v _ _ hs hb'.1 ⟨w0.heap.size, 0, none⟩ 1 1 (wdCells (t, q)) hx rfl ?_ ?_ (by unfold maxLen; omega) (by omega) hb'.2 ?_
  · intro j y hj
    match j, hj with
    | 0, hj => simp [wdCells] at hj; subst hj; simp [Addr.add]
    | 1, hj => simp [wdCells] at hj; subst hj; simp [Addr.add]
    | (j + 2), hj => simp [wdCells] at hj
  · intro y hy; simp [wdCells] at hy; rcases hy with rfl | rfl <;> rfl
  · intro v' w' ho' hg _
    refine h v' w' ⟨?_, Nat.le_trans hb'.2 hg.size⟩ (World.grownBy.trans (World.grownBy_alloc _ _ _) hg)
    simpa using ho'
theorem wflat_get : ∀ (l : List Wd) (j : Nat) (x : Wd), l[j]? = some x → (l.flatMap wdCells)[2 * j]? = some (.string ⟨x.1.toArray⟩) ∧ (l.flatMap wdCells)[2 * j + 1]? = some (.bool x.2)
  | [], j, x, h => by simp at h
  | y :: l, 0, x, h => by
    simp at h; subst h
    simp [wdCells]
  | y :: l, j + 1, x, h => by
    have := wflat_get l j x (by simpa using h)
    simp only [List.flatMap_cons, wdCells, List.cons_append, List.nil_append]
    rw [show 2 * (j + 1) = 2 * j + 1 + 1 by omega]
    simpa using this
/-- Words as they read. -/
def WdsR (w : World) (v : Value) (l : List Wd) : Prop :=
  ∃ A c, v = .slice A l.length c ∧ l.length ≤ c ∧ (l = [] ∨ ∃ g o, A = some ⟨g, o, none⟩ ∧ (∃ cs z, w.heap[g]? = some (.cells cs 125 z)) ∧ ∀ j x, l[j]? = some x → w.cell? ⟨g, o + 2 * j, none⟩ = some (.string ⟨x.1.toArray⟩) ∧ w.cell? ⟨g, o + 2 * j + 1, none⟩ = some (.bool x.2))
theorem Wds.reads {B : Nat} {w : World} {v : Value} {l : List Wd} (h : Wds B w v l) : WdsR w v l := by
  obtain ⟨⟨h1, h2⟩, h3⟩ := h
  rcases h2 with ⟨rfl, hn⟩ | ⟨g, cap, cur, rfl, r2, r3, r4, r5, r6, r7⟩
  · exact ⟨none, 0, by rw [hn], by omega, .inl (List.eq_nil_of_length_eq_zero hn)⟩
  · refine ⟨_, cap, rfl, r4, ?_⟩
    have key : ∀ j x, l[j]? = some x → w.cell? ⟨g, 2 * j, none⟩ = some (.string ⟨x.1.toArray⟩) ∧ w.cell? ⟨g, 2 * j + 1, none⟩ = some (.bool x.2) := by
      intro j x hj
      have hf := wflat_get l j x hj
      have hjl : j < l.length := (List.getElem?_eq_some_iff.1 hj).1
      rw [← r7, List.getElem?_take, List.getElem?_take, if_pos (by omega), if_pos (by omega)] at hf
      simp only [World.cell?, r3]
      simpa using hf
    cases l with
    | nil => exact .inl rfl
    | cons y t => exact .inr ⟨g, 0, rfl, ⟨_, _, r3⟩, fun j x hj => by rw [Nat.zero_add]; exact key j x hj⟩
/-- None of the blocks has words. -/
def NoWord (w : World) (S : List Nat) : Prop := ∀ g ∈ S, ∀ cs z, w.heap[g]? ≠ some (.cells cs 125 z)
theorem NoWord.of_bk {w : World} {g : Nat} {t : TypeId} {cs : Array Value} (h : Bk w g t cs) (ht : t ≠ 125) : NoWord w [g] := by
  intro k hk cs' z
  have : k = g := by simpa using hk
  subst this
  unfold Bk at h
  rw [h]
  intro e
  cases e
  exact ht rfl
theorem WdsR.mods {S : List Nat} {w w' : World} {v : Value} {l : List Wd} (h : WdsR w v l) (hm : Mods S w w') (hS : NoWord w S) : WdsR w' v l := by
  obtain ⟨A, c, rfl, hc, h⟩ := h
  refine ⟨A, c, rfl, hc, h.imp id ?_⟩
  rintro ⟨g, o, rfl, ⟨cs, z, hs⟩, hx⟩
  have hg : g ∉ S := fun hg => hS g hg cs z hs
  exact ⟨g, o, rfl, ⟨cs, z, hm.same hs hg⟩, fun j x hj => ⟨hm.cell (hx j x hj).1 hg, hm.cell (hx j x hj).2 hg⟩⟩
theorem WdsR.below {w w' : World} {v : Value} {l : List Wd} (h : WdsR w v l) (hb : Below w.heap.size w w') : WdsR w' v l := h.mods (Mods.of_below hb []) (fun g hg => by cases hg)
/-- The first word, and what is behind it. -/
theorem WdsR.uncons {w : World} {A : Option Addr} {n c : Nat} {x : Wd} {l : List Wd} (h : WdsR w (.slice A n c) (x :: l)) : ∃ g o, A = some ⟨g, o, none⟩ ∧ n = l.length + 1 ∧ l.length + 1 ≤ c ∧ w.cell? ⟨g, o, none⟩ = some (.string ⟨x.1.toArray⟩) ∧ w.cell? ⟨g, o + 1, none⟩ = some (.bool x.2) ∧
    ∀ A' c', l.length ≤ c' → (1 < c → A' = some ⟨g, o + 2, none⟩) → WdsR w (.slice A' l.length c') l := by
  obtain ⟨A0, c0, e, hc, h⟩ := h
  cases e
  rcases h with h | ⟨g, o, rfl, hs, hx⟩
  · cases h
  · refine ⟨g, o, rfl, rfl, hc, (hx 0 x rfl).1, (hx 0 x rfl).2, ?_⟩
    intro A' c' hc' h1
    refine ⟨A', c', rfl, hc', ?_⟩
    cases l with
    | nil => exact .inl rfl
    | cons y t =>
      simp only [List.length_cons] at hc
      refine .inr ⟨g, o + 2, h1 (by omega), hs, fun j z hj => ?_⟩
      have := hx (j + 1) z (by simpa using hj)
      rw [show o + 2 * (j + 1) = o + 2 + 2 * j by omega] at this
      exact this
/-- The reader. -/
def RdW (w : World) (r : Nat) (l : List Wd) : Prop := ∃ v, Bk w r 89 #[v] ∧ WdsR w v l
theorem RdW.notext {w : World} {r : Nat} {l : List Wd} (h : RdW w r l) : NoText w [r] := by
  obtain ⟨v, hb, A, c, rfl, _⟩ := h
  intro g hg s
  have : g = r := by simpa using hg
  subst this
  rw [hb.cell 0]
  simp
theorem RdW.noword {w : World} {r : Nat} {l : List Wd} (h : RdW w r l) : NoWord w [r] := by
  obtain ⟨v, hb, _⟩ := h
  exact NoWord.of_bk hb (by decide)
theorem RdW.mods {S : List Nat} {w w' : World} {r : Nat} {l : List Wd} (h : RdW w r l) (hm : Mods S w w') (hr : r ∉ S) (hS : NoWord w S) : RdW w' r l := by
  obtain ⟨v, hb, hw⟩ := h
  exact ⟨v, hm.bk hb hr, hw.mods hm hS⟩
theorem RdW.below {w w' : World} {r : Nat} {l : List Wd} (h : RdW w r l) (hb : Below w.heap.size w w') : RdW w' r l := h.mods (Mods.of_below hb []) (by simp) (fun g hg => by cases hg)
end Go.Proofs.YtcjobpcbppcdnaaGreatDoor
/- Contracts: the reader of names: part. -/
namespace Go.Proofs.YtcjobpcbppcdnaaGreatDoor
open Go.RowKit

def avaCells (x : List UInt8 × List UInt8) : List Value := [.string ⟨x.1.toArray⟩, .string ⟨x.2.toArray⟩]
/-- A list of pairs in a block of the call's own, from B on. -/
def Avas (B : Nat) (w : World) (v : Value) (l : List (List UInt8 × List UInt8)) : Prop := w.ownsRow B 70 2 v l.length (l.flatMap avaCells) ∧ B ≤ w.heap.size
theorem Avas.lt {B : Nat} {w : World} {v : Value} {l : List (List UInt8 × List UInt8)} (h : Avas B w v l) : ∀ k, v.ownBlock = some k → B ≤ k ∧ k < w.heap.size := fun k hk => h.1.lt k hk
theorem Avas.keep {B : Nat} {w w' : World} {v : Value} {l : List (List UInt8 × List UInt8)} (h : Avas B w v l) {r : Option Nat} (hg : w.grownBy w' r) (hr : ∀ k, r = some k → k < B) : Avas B w' v l := by
  refine ⟨h.1.kept hg ?_, Nat.le_trans h.2 hg.size⟩
  rcases hv : v.ownBlock with _ | g
  · exact .inl rfl
  · refine .inr ?_
    intro he
    have h1 := hr g he.symm
    have h2 := (h.lt g hv).1
    omega
theorem Avas.made1 {B : Nat} {w : World} (x : List UInt8 × List UInt8) (hB : B ≤ w.heap.size) : Avas B (w.alloc (.cells #[.string ⟨x.1.toArray⟩, .string ⟨x.2.toArray⟩] 70)) (.slice (some ⟨w.heap.size, 0, none⟩) 1 1) [x] := by
  refine ⟨⟨by simp [avaCells], .inr ⟨w.heap.size, 1, #[.string ⟨x.1.toArray⟩, .string ⟨x.2.toArray⟩], rfl, hB, heap_alloc_new w _, Nat.le_refl _, by decide, rfl, by simp [avaCells]⟩⟩, by simp; omega⟩
theorem infoAva : ∃ i, Tryz.prog.info? 70 = some i ∧ i.zero = some (.agg #[.string ⟨#[]⟩, .string ⟨#[]⟩]) ∧ i.size = 2 ∧ i.bytes = 32 := by
  obtain ⟨i, h1, h2, h3, h4⟩ := info_parts (show (Tryz.prog.info? 70).map (fun i => (i.zero, i.size, i.bytes)) = some (some (.agg #[.string ⟨#[]⟩, .string ⟨#[]⟩]), 2, 32) by kernel_rfl)
  exact ⟨i, h1, h2, h3, h4⟩
theorem avas_one {ops : Array Oper} {rest : List Oper} {o : Oper} {a : Act} {Q : Exit → Act → World → Prop} (hgd : o.guard = none) (s x : Operand) (ho : o.op = .call { callee := .builtin .append, args := #[s, x], argTypes := #[68, 68] })
    {v : Value} {l : List (List UInt8 × List UInt8)} {B N : Nat} {w0 : World} {t u : List UInt8} (hs : a.eval s = v) (hb : Avas B w0 v l)
    (hx : a.eval x = .slice (some ⟨N, 0, none⟩) 1 1) (hN : N = w0.heap.size) (hlen : l.length < 1000000)
    (h : ∀ v' w', Avas B w' v' (l ++ [(t, u)]) → w0.grownBy w' v.ownBlock → wpList Tryz.prog ops Q rest (a.put o.dst v') w') : wpList Tryz.prog ops Q (o :: rest) a (w0.alloc (.cells #[.string ⟨t.toArray⟩, .string ⟨u.toArray⟩] 70)) := by
  subst hN
  obtain ⟨i, h1, h2, h3, h4⟩ := infoAva
  have hb' := hb.keep (World.grownBy_alloc w0 (.cells #[.string ⟨t.toArray⟩, .string ⟨u.toArray⟩] 70) none) (fun k hk => by cases hk)
  refine wpList_append_own _ hgd s x 68 ho B 70 i (.agg #[.string ⟨#[]⟩, .string ⟨#[]⟩]) 2 32 Tryz.underlying68 h1 h2 h3 h4 rfl (by decide) v _ _ hs hb'.1 ⟨w0.heap.size, 0, none⟩ 1 1 (avaCells (t, u)) hx rfl ?_ ?_ (by unfold maxLen; omega) (by omega) hb'.2 ?_
  · intro j y hj
    match j, hj with
    | 0, hj => simp [avaCells] at hj; subst hj; simp [Addr.add]
    | 1, hj => simp [avaCells] at hj; subst hj; simp [Addr.add]
    | (j + 2), hj => simp [avaCells] at hj
  · intro y hy; simp [avaCells] at hy; rcases hy with rfl | rfl <;> rfl
  · intro v' w' ho' hg _
    refine h v' w' ⟨?_, Nat.le_trans hb'.2 hg.size⟩ (World.grownBy.trans (World.grownBy_alloc _ _ _) hg)
    simpa using ho'
theorem Avas.rd {w0 w w' : World} {v : Value} {l : List (List UInt8 × List UInt8)} {s r : List UInt8} {b : Nat} (h : Avas w0.heap.size w v l) (hg : w.grownBy w' v.ownBlock) (hb : b < w0.heap.size) (hR : RdAt w b s r) : RdAt w' b s r :=
  hR.grown hg (fun e => by have := (h.lt b e.symm).1; omega)
theorem Avas.grown {w0 w w' : World} {v : Value} {l : List (List UInt8 × List UInt8)} {r : Option Nat} (h : Avas w0.heap.size w v l) (hg0 : w0.grownBy w r) (hg : w.grownBy w' v.ownBlock) : w0.grownBy w' r :=
  ⟨hg.os.trans hg0.os, hg.tape.trans hg0.tape, hg.output.trans hg0.output, Nat.le_trans hg0.size hg.size, fun k hk hne => by
    rw [hg.block k (Nat.lt_of_lt_of_le hk hg0.size)]
    · exact hg0.block k hk hne
    · intro e
      have := (h.lt k e.symm).1
      omega⟩

def partL : Nat → List UInt8 → List (List UInt8 × List UInt8) → Option (List (List UInt8 × List UInt8) × List UInt8)
  | 0, r, acc => if hd r 43 then none else some (acc, r)
  | n + 1, r, acc => if hd r 43 then (match pairR r.tail with
    | none => none
    | some (x, r') => partL n r' (acc ++ [x])) else some (acc, r)
/-- A part: its pairs. -/
def partR (r : List UInt8) : Option (List (List UInt8 × List UInt8) × List UInt8) := match pairR r with
  | none => none
  | some (x, r') => partL r'.length r' [x]
theorem dropWhile_le (p : UInt8 → Bool) (l : List UInt8) : (l.dropWhile p).length ≤ l.length := (List.dropWhile_sublist p).length_le
theorem hexR_len {r r' v : List UInt8} (h : hexR r = some (v, r')) : r'.length ≤ r.length := by
  unfold hexR at h
  split at h
  · cases h
  · split at h
    · cases h
    · cases h; exact dropWhile_le _ _
theorem valL_len : ∀ (n : Nat) (r acc : List UInt8) (long : Nat) (v r' : List UInt8), valL n r acc long = some (v, r') → r'.length ≤ r.length
  | _, [], _, _, v, r', h => by simp [valL] at h; simp [h.2]
  | 0, _ :: _, _, _, v, r', h => by simp [valL] at h
  | n + 1, c :: t, acc, long, v, r', h => by
    rw [valL] at h
    split at h
    · cases h; exact Nat.le_refl _
    · split at h
      · split at h
        · cases h
        · next x t' he =>
          have := escR_len he
          have := valL_len n t' _ _ v r' h
          simp; omega
      · split at h
        · cases h
        · have := valL_len n t _ _ v r' h
          simp; omega
theorem valueR_len {r r' v : List UInt8} (h : valueR r = some (v, r')) : r'.length ≤ r.length := by
  unfold valueR at h
  split at h
  · have := hexR_len h
    simp at this; omega
  · exact valL_len _ _ _ _ _ _ h
theorem pairR_len {r r' : List UInt8} {x : List UInt8 × List UInt8} (h : pairR r = some (x, r')) : r'.length < r.length := by
  unfold pairR at h
  split at h
  · cases h
  · next t r2 ht =>
    split at h
    · next h61 =>
      split at h
      · cases h
      · next v r5 hv =>
        cases h
        have h1 := dropWhile_le (· == 32) r5
        have h2 := valueR_len hv
        have h3 := dropWhile_le (· == 32) (blk r2).tail
        have h4 : (blk r2).tail.length < (blk r2).length := by
          cases hb : blk r2 with
          | nil => rw [hb] at h61; cases h61
          | cons c t => simp
        have h5 := dropWhile_le (· == 32) r2
        have h6 : r2.length ≤ (blk r).length := by
          unfold typR at ht
          split at ht
          · cases ht; exact dropWhile_le _ _
          · cases ht
        have h7 := dropWhile_le (· == 32) r
        unfold blk at *
        omega
    · cases h
theorem partL_fuel : ∀ (n m : Nat) (r : List UInt8) (acc : List (List UInt8 × List UInt8)), r.length ≤ n → r.length ≤ m → partL n r acc = partL m r acc
  | 0, m, r, acc, h, _ => by
    obtain rfl : r = [] := List.eq_nil_of_length_eq_zero (by omega)
    cases m <;> rfl
  | n + 1, 0, r, acc, _, h => by
    obtain rfl : r = [] := List.eq_nil_of_length_eq_zero (by omega)
    rfl
  | n + 1, m + 1, r, acc, h1, h2 => by
    rw [partL, partL]
    split
    · cases hp : pairR r.tail with
      | none => rfl
      | some y =>
        obtain ⟨x, r'⟩ := y
        have h3 := pairR_len hp
        have h4 : r.tail.length ≤ r.length := by simp
        exact partL_fuel n m r' _ (by omega) (by omega)
    · rfl
end Go.Proofs.YtcjobpcbppcdnaaGreatDoor
/- Contracts: the reader of names: part. -/
namespace Go.Proofs.YtcjobpcbppcdnaaGreatDoor
open Go.RowKit

def PartRet (w : World) (b : Nat) (s : List UInt8) (o : Option (List (List UInt8 × List UInt8) × List UInt8)) (e : Ending) (w' : World) : Prop :=
  w.grownBy w' (some b) ∧ match o with
    | none => e = .panicked dnPanic
    | some (l, r) => ∃ v, e = .returned v ∧ Avas w.heap.size w' v l ∧ RdAt w' b s r

set_option maxRecDepth 100000 in
set_option maxHeartbeats 1000000 in
theorem part_c (b : Nat) (s r : List UInt8) (w : World) (hw : Env w) (hO : Off b) (h : RdAt w b s r) (hs : s.length ≤ 65536) :
    Calls Tryz.prog 102 #[.pointer (some ⟨b, 0, none⟩)] w (PartRet w b s (partR r)) := by
  have hbw := h.lt
  have hP := pair_c b s r w hw hO h hs
  have hrl : r.length ≤ s.length := by obtain ⟨i, _, hd', _⟩ := h; rw [← hd']; simp
  rcases hp : pairR r with _ | ⟨⟨t, u⟩, r1⟩
  · have hq : partR r = none := by unfold partR; rw [hp]
    rw [hp] at hP
    have Hq := Lib.hid hq
    clear hq hp h
    go_enter Tryz.func102, Tryz.ntmps102
    go_wp2_with (go_at_call 138; refine hP.mono ?_; rintro e w1 ⟨h1, rfl⟩)
    refine ⟨rfl, ?_⟩
    rw [Hq.out]
    exact ⟨h1, rfl⟩
  · have hq : partR r = partL r1.length r1 [(t, u)] := by unfold partR; rw [hp]
    have hr1 := pairR_len hp
    rw [hp] at hP
    generalize hV : partR r = V
    rw [hq] at hV
    have HV := Lib.hid hV
    simp only [Option.map_some, avaV] at hP
    clear hq hp h hV
    go_enter Tryz.func102, Tryz.ntmps102
    go_wp2_with (go_at_call 138; refine hP.mono ?_; rintro e w1 ⟨h1, rfl, r1'⟩)
    have hsz := h1.size
    clear hP
    go_loopg [3] r1.length (fun gk v wr => ∃ (r' : List UInt8) (acc : List (List UInt8 × List UInt8)), r'.length ≤ gk ∧ acc.length + r'.length ≤ s.length + 1 ∧ RdAt wr b s r' ∧ Avas w.heap.size wr v acc ∧ Aside (partL r'.length r' acc = V) ∧ w.grownBy wr (some b))
    case atStart =>
      exact ⟨r1, [(t, u)], Nat.le_refl _, by simp; omega, r1'.below ((Below.refl _ _).alloc (Nat.le_refl _) _), Avas.made1 (t, u) hsz, HV.out, World.grownBy.trans h1 (World.grownBy_alloc _ _ _)⟩
    case round =>
      obtain ⟨r', acc, hlen, hal, hR, hA, AV, hg⟩ := hrel
      have hI := is_at b s r' 43 wr hR
      cases h43 : hd r' 43
      · rw [h43] at hI
        have hfin : some (acc, r') = V := by
          have := AV.out
          cases hn : r'.length with
          | zero => rw [hn, partL, h43] at this; exact this
          | succ n => rw [hn, partL, h43] at this; exact this
        have Hf := Lib.hid hfin
        clear hfin AV h43
        go_wp2_with (go_at_call 103; refine hI.mono ?_; rintro e w2 ⟨rfl, n2, rfl⟩)
        go_ret
        rw [← Hf.out]
        exact ⟨World.grownBy.trans hg (grown_drewN _ _ _), _, rfl, hA, hR⟩
      · rw [h43] at hI
        obtain ⟨c, t', rfl⟩ : ∃ c t', r' = c :: t' := by
          cases r' with
          | nil => cases h43
          | cons c t' => exact ⟨c, t', rfl⟩
        simp only [List.length_cons] at hlen hal
        have hAV : partL (t'.length + 1) (c :: t') acc = V := AV.out
        rw [partL, h43, if_pos rfl] at hAV
        simp only [List.tail_cons] at hAV
        obtain ⟨i, hi, c1, f1, hnx⟩ := hR.next
        have HAV := Lib.hid hAV
        clear AV h43 hR hAV
        go_wp2_with (go_at_call 103; refine hI.mono ?_; rintro e w2 ⟨rfl, n2, rfl⟩)
        have g2 : w.grownBy ((wr.drewN n2).setCell ⟨b, 1, none⟩ (.int .i64 ((i : Int) + 1))) (some b) := World.grownBy.trans hg (World.grownBy.trans (grown_drewN _ _ _) (grown_set _))
        have a2 : Avas w.heap.size ((wr.drewN n2).setCell ⟨b, 1, none⟩ (.int .i64 ((i : Int) + 1))) u3 acc := hA.keep (World.grownBy.trans (grown_drewN _ n2 _) (grown_set (b := b) _)) (fun k hk => by cases hk; exact hbw)
        have r2 : RdAt ((wr.drewN n2).setCell ⟨b, 1, none⟩ (.int .i64 ((i : Int) + 1))) b s t' := hnx
        have hEQ : (wr.setCell ⟨b, 1, none⟩ (.int .i64 ((i : Int) + 1))).drewN n2 = (wr.drewN n2).setCell ⟨b, 1, none⟩ (.int .i64 ((i : Int) + 1)) := rfl
        try rw [hEQ]
        clear hEQ hnx
        generalize (wr.drewN n2).setCell ⟨b, 1, none⟩ (.int .i64 ((i : Int) + 1)) = W2 at *
        have hP := pair_c b s t' W2 (hw.grown hO g2) hO r2 hs
        rcases hp : pairR t' with _ | ⟨⟨x, y⟩, r3⟩
        · rw [hp] at hP
          have hf : none = V := by have := HAV.out; rw [hp] at this; exact this
          have Hf := Lib.hid hf
          clear hf hp
          refine hP.mono ?_
          rintro e w3 ⟨h3, rfl⟩
          refine ⟨rfl, ?_⟩
          rw [← Hf.out]
          exact ⟨World.grownBy.trans g2 h3, rfl⟩
        · have hr3 := pairR_len hp
          rw [hp] at hP
          have hf : partL r3.length r3 (acc ++ [(x, y)]) = V := by
            have := HAV.out
            rw [hp] at this
            dsimp only at this
            rw [← this]
            exact partL_fuel _ _ _ _ (Nat.le_refl _) (by omega)
          have Hf := Lib.hid hf
          simp only [Option.map_some, avaV] at hP
          clear hf hp
          refine hP.mono ?_
          rintro e w3 ⟨h3, rfl, r3'⟩
          have a3 := a2.keep h3 (fun k hk => by cases hk; exact hbw)
          have g3 := World.grownBy.trans g2 h3
          clear hP c1 f1 a2 g2 r2 h3
          go_wp2_with (at_builtin; refine avas_one rfl _ _ rfl rfl a3 rfl rfl (by omega) ?_; intro v' w4 a4 h4)
          go_roundg r3.length
          case measure => omega
          case rel => exact ⟨r3, _, Nat.le_refl _, by simp; omega, a3.rd h4 hbw r3', a4, Hf.out, a3.grown g3 h4⟩
end Go.Proofs.YtcjobpcbppcdnaaGreatDoor
/- Contracts: the reader of names: name. -/
namespace Go.Proofs.YtcjobpcbppcdnaaGreatDoor
open Go.RowKit

/-- Values that are the parts of a name, each in a block of its own. -/
inductive PartsAre (B : Nat) (w : World) : List Value → List (List (List UInt8 × List UInt8)) → Prop
  | nil : PartsAre B w [] []
  | cons {v : Value} {p : List (List UInt8 × List UInt8)} {vs : List Value} {d : List (List (List UInt8 × List UInt8))} (h : Avas B w v p) (t : PartsAre B w vs d) : PartsAre B w (v :: vs) (p :: d)
theorem PartsAre.len {B : Nat} {w : World} {vs : List Value} {d : List (List (List UInt8 × List UInt8))} (h : PartsAre B w vs d) : vs.length = d.length := by
  induction h with
  | nil => rfl
  | cons _ _ ih => simp [ih]
theorem PartsAre.snoc {B : Nat} {w : World} {vs : List Value} {d : List (List (List UInt8 × List UInt8))} {v : Value} {p : List (List UInt8 × List UInt8)} (h : PartsAre B w vs d) (hv : Avas B w v p) : PartsAre B w (vs ++ [v]) (d ++ [p]) := by
  induction h with
  | nil => exact .cons hv .nil
  | cons h _ ih => exact .cons h ih
theorem PartsAre.imp {B B' : Nat} {w w' : World} {vs : List Value} {d : List (List (List UInt8 × List UInt8))} (h : PartsAre B w vs d) (hi : ∀ v p, v ∈ vs → Avas B w v p → Avas B' w' v p) : PartsAre B' w' vs d := by
  induction h with
  | nil => exact .nil
  | cons h _ ih => exact .cons (hi _ _ (by simp) h) (ih fun v p hv => hi v p (by simp [hv]))
theorem PartsAre.get {B : Nat} {w : World} {vs : List Value} {d : List (List (List UInt8 × List UInt8))} (h : PartsAre B w vs d) : ∀ (i : Nat) (p : List (List UInt8 × List UInt8)), d[i]? = some p → ∃ v, vs[i]? = some v ∧ Avas B w v p := by
  induction h with
  | nil => intro i p hp; simp at hp
  | cons h _ ih =>
    intro i p hp
    cases i with
    | zero => simp at hp; subst hp; exact ⟨_, rfl, h⟩
    | succ i => exact ih i p hp
theorem Avas.lower {B B' : Nat} {w : World} {v : Value} {l : List (List UInt8 × List UInt8)} (h : Avas B w v l) (hB : B' ≤ B) : Avas B' w v l := by
  obtain ⟨⟨h1, h2⟩, h3⟩ := h
  refine ⟨⟨h1, h2.imp id ?_⟩, by omega⟩
  rintro ⟨g, cap, cur, r1, r2, r3⟩
  exact ⟨g, cap, cur, r1, by omega, r3⟩
theorem Avas.isSlice {B : Nat} {w : World} {v : Value} {l : List (List UInt8 × List UInt8)} (h : Avas B w v l) : ∃ A c, v = .slice A l.length c ∧ l.length ≤ c := by
  obtain ⟨⟨h1, h2⟩, h3⟩ := h
  rcases h2 with ⟨rfl, hn⟩ | ⟨g, cap, cur, rfl, r2, r3, r4, _⟩
  · exact ⟨none, 0, by rw [hn], by omega⟩
  · exact ⟨_, cap, rfl, r4⟩
theorem PartsAre.mem {B : Nat} {w : World} {vs : List Value} {d : List (List (List UInt8 × List UInt8))} (h : PartsAre B w vs d) {u : Value} (hu : u ∈ vs) : ∃ q, Avas B w u q := by
  induction h with
  | nil => simp at hu
  | cons hA _ ih =>
    rcases List.mem_cons.1 hu with rfl | hu
    · exact ⟨_, hA⟩
    · exact ih hu
/-- A name in blocks of the call's own, from B on: the list of its parts, and its parts. -/
def DnV (B : Nat) (w : World) (v : Value) (d : List (List (List UInt8 × List UInt8))) (vs : List Value) : Prop :=
  w.ownsRow B 68 1 v d.length vs ∧ B ≤ w.heap.size ∧ PartsAre B w vs d ∧ vs.Pairwise (fun a b => a.ownBlock = none ∨ a.ownBlock ≠ b.ownBlock)
def DnAt (B : Nat) (w : World) (v : Value) (d : List (List (List UInt8 × List UInt8))) : Prop := ∃ vs, DnV B w v d vs
theorem infoRdn : ∃ i, Tryz.prog.info? 68 = some i ∧ i.zero = some (.slice none 0 0) ∧ i.size = 1 ∧ i.bytes = 24 := by
  obtain ⟨i, h1, h2, h3, h4⟩ := info_parts (show (Tryz.prog.info? 68).map (fun i => (i.zero, i.size, i.bytes)) = some (some (.slice none 0 0), 1, 24) by kernel_rfl)
  exact ⟨i, h1, h2, h3, h4⟩
theorem row_ne_avas {B : Nat} {w : World} {v u : Value} {n : Nat} {xs : List Value} {p : List (List UInt8 × List UInt8)} (h : w.ownsRow B 68 1 v n xs) (hu : Avas B w u p) : u.ownBlock = none ∨ u.ownBlock ≠ v.ownBlock := by
  rcases h.2 with ⟨rfl, _⟩ | ⟨g, cap, cur, rfl, _, hg, _⟩
  · rcases hu.1.2 with ⟨rfl, _⟩ | ⟨g', cap', cur', rfl, _, hg', _⟩
    · exact .inl rfl
    · exact .inr (by simp [Value.ownBlock])
  · rcases hu.1.2 with ⟨rfl, _⟩ | ⟨g', cap', cur', rfl, _, hg', _⟩
    · exact .inl rfl
    · refine .inr ?_
      intro e
      have : g' = g := by simpa [Value.ownBlock] using e
      subst this
      rw [hg] at hg'
      injection hg' with hg'
      injection hg' with _ ht
      exact absurd ht (by decide)
theorem avas_grown {B : Nat} {w w' : World} {u : Value} {p : List (List UInt8 × List UInt8)} {r : Option Nat} (hu : Avas B w u p) (hg : w.grownBy w' r) (hne : u.ownBlock = none ∨ u.ownBlock ≠ r) : Avas B w' u p :=
  ⟨hu.1.kept hg hne, Nat.le_trans hu.2 hg.size⟩
theorem DnV.lt {B : Nat} {w : World} {v : Value} {d : List (List (List UInt8 × List UInt8))} {vs : List Value} (h : DnV B w v d vs) : ∀ u ∈ vs, ∀ k, u.ownBlock = some k → k < w.heap.size := by
  intro u hu k hk
  obtain ⟨q, hq⟩ := h.2.2.1.mem hu
  exact (hq.lt k hk).2
theorem DnV.own {B : Nat} {w : World} {v : Value} {d : List (List (List UInt8 × List UInt8))} {vs : List Value} (h : DnV B w v d vs) : ∀ k, v.ownBlock = some k → B ≤ k ∧ k < w.heap.size := fun k hk => h.1.lt k hk
theorem DnV.keep {B : Nat} {w w' : World} {v : Value} {d : List (List (List UInt8 × List UInt8))} {vs : List Value} (h : DnV B w v d vs) {r : Option Nat} (hg : w.grownBy w' r) (hr : ∀ k, r = some k → k < B) : DnV B w' v d vs := by
  obtain ⟨h1, h2, h3, h4⟩ := h
  refine ⟨h1.kept hg ?_, Nat.le_trans h2 hg.size, h3.imp fun u q _ hu => hu.keep hg hr, h4⟩
  rcases hv : v.ownBlock with _ | g
  · exact .inl rfl
  · refine .inr ?_
    intro he
    have := hr g he.symm
    have := (h1.lt g hv).1
    omega
/-- The list of parts grows by a part whose block is new. -/
theorem dn_one {ops : Array Oper} {rest : List Oper} {o : Oper} {a : Act} {Q : Exit → Act → World → Prop} (hgd : o.guard = none) (s x : Operand) (ho : o.op = .call { callee := .builtin .append, args := #[s, x], argTypes := #[64, 64] })
    {v pv : Value} {d : List (List (List UInt8 × List UInt8))} {vs : List Value} {p : List (List UInt8 × List UInt8)} {B B' N : Nat} {w0 : World} (hs : a.eval s = v) (hd : DnV B w0 v d vs) (hp : Avas B' w0 pv p) (hB' : B ≤ B')
    (hold : ∀ u ∈ vs, ∀ k, u.ownBlock = some k → k < B')
    (hx : a.eval x = .slice (some ⟨N, 0, none⟩) 1 1) (hN : N = w0.heap.size) (hlen : d.length < 1000000)
    (h : ∀ v' w', DnV B w' v' (d ++ [p]) (vs ++ [pv]) → w0.grownBy w' v.ownBlock → wpList Tryz.prog ops Q rest (a.put o.dst v') w') : wpList Tryz.prog ops Q (o :: rest) a (w0.alloc (.cells #[pv] 68)) := by
  subst hN
  obtain ⟨i, h1, h2, h3, h4⟩ := infoRdn
  obtain ⟨d1, d2, d3, d4⟩ := hd
  have d1' := d1.alloc (.cells #[pv] 68)
  refine wpList_append_own _ hgd s x 64 ho B 68 i (.slice none 0 0) 1 24 Tryz.underlying64 h1 h2 h3 h4 rfl (by decide) v _ _ hs d1' ⟨w0.heap.size, 0, none⟩ 1 1 [pv] hx rfl ?_ ?_ (by unfold maxLen; omega) (by omega) (by simp; omega) ?_
  · intro j y hj
    match j, hj with
    | 0, hj => simp at hj; subst hj; simp [Addr.add]
    | (j + 1), hj => simp at hj
  · intro y hy
    simp at hy
    subst hy
    obtain ⟨A, c, rfl, _⟩ := hp.isSlice
    rfl
  · intro v' w' ho' hg _
    have hg' : w0.grownBy w' v.ownBlock := World.grownBy.trans (World.grownBy_alloc _ _ _) hg
    refine h v' w' ⟨by simpa using ho', Nat.le_trans d2 hg'.size, ?_, ?_⟩ hg'
    · refine PartsAre.snoc (d3.imp fun u q _ hu => avas_grown hu hg' (row_ne_avas d1 hu)) ?_
      exact avas_grown (hp.lower hB') hg' (row_ne_avas d1 (hp.lower hB'))
    · rw [List.pairwise_append]
      refine ⟨d4, by simp, ?_⟩
      intro u hu y hy
      simp at hy
      subst hy
      rcases hub : u.ownBlock with _ | k
      · exact .inl rfl
      · refine .inr ?_
        intro e
        have h5 := hold u hu k hub
        have h6 := (hp.lt k e.symm).1
        omega
theorem DnV.made1 {B B' : Nat} {w : World} {pv : Value} {p : List (List UInt8 × List UInt8)} (hp : Avas B' w pv p) (hB' : B ≤ B') : DnV B (w.alloc (.cells #[pv] 68)) (.slice (some ⟨w.heap.size, 0, none⟩) 1 1) [p] [pv] := by
  have hle := hp.2
  refine ⟨⟨rfl, .inr ⟨w.heap.size, 1, #[pv], rfl, by omega, heap_alloc_new w _, Nat.le_refl _, by decide, rfl, rfl⟩⟩, by simp; omega, .cons ?_ .nil, by simp⟩
  exact (avas_grown hp (World.grownBy_alloc w _ none) (by rcases pv.ownBlock with _ | g; exact .inl rfl; exact .inr (by simp))).lower hB'
theorem DnV.rd {w0 w w' : World} {v : Value} {d : List (List (List UInt8 × List UInt8))} {vs : List Value} {s r : List UInt8} {b : Nat} (h : DnV w0.heap.size w v d vs) (hg : w.grownBy w' v.ownBlock) (hb : b < w0.heap.size) (hR : RdAt w b s r) : RdAt w' b s r :=
  hR.grown hg (fun e => by have := (h.own b e.symm).1; omega)
theorem DnV.grown {w0 w w' : World} {v : Value} {d : List (List (List UInt8 × List UInt8))} {vs : List Value} {r : Option Nat} (h : DnV w0.heap.size w v d vs) (hg0 : w0.grownBy w r) (hg : w.grownBy w' v.ownBlock) : w0.grownBy w' r :=
  ⟨hg.os.trans hg0.os, hg.tape.trans hg0.tape, hg.output.trans hg0.output, Nat.le_trans hg0.size hg.size, fun k hk hne => by
    rw [hg.block k (Nat.lt_of_lt_of_le hk hg0.size)]
    · exact hg0.block k hk hne
    · intro e
      have := (h.own k e.symm).1
      omega⟩

def nameL : Nat → List UInt8 → List (List (List UInt8 × List UInt8)) → Option (List (List (List UInt8 × List UInt8)) × List UInt8)
  | 0, r, acc => if hd r 44 then none else some (acc, r)
  | n + 1, r, acc => if hd r 44 then (match partR r.tail with
    | none => none
    | some (x, r') => nameL n r' (acc ++ [x])) else some (acc, r)
def nameFin : Option (List (List (List UInt8 × List UInt8)) × List UInt8) → Option (List (List (List UInt8 × List UInt8)))
  | none => none
  | some (d, r') => if r' = [] then some d else none
def nameGo : Option (List (List UInt8 × List UInt8) × List UInt8) → Option (List (List (List UInt8 × List UInt8)))
  | none => none
  | some (p, r) => nameFin (nameL r.length r [p])
/-- A name's text. -/
def nameR (s : List UInt8) : Option (List (List (List UInt8 × List UInt8))) := if s = [] then some [] else nameGo (partR s)
theorem partL_len : ∀ (n : Nat) (r r' : List UInt8) (acc l : List (List UInt8 × List UInt8)), partL n r acc = some (l, r') → r'.length ≤ r.length
  | 0, r, r', acc, l, h => by
    rw [partL] at h
    split at h
    · cases h
    · cases h; exact Nat.le_refl _
  | n + 1, r, r', acc, l, h => by
    rw [partL] at h
    split at h
    · split at h
      · cases h
      · next x r2 hp =>
        have h1 := pairR_len hp
        have h2 := partL_len n r2 r' _ l h
        have h3 : r.tail.length ≤ r.length := by simp
        omega
    · cases h; exact Nat.le_refl _
theorem partR_len {r r' : List UInt8} {l : List (List UInt8 × List UInt8)} (h : partR r = some (l, r')) : r'.length < r.length := by
  unfold partR at h
  split at h
  · cases h
  · next x r2 hp =>
    have h1 := pairR_len hp
    have h2 := partL_len _ _ _ _ _ h
    omega
theorem nameL_fuel : ∀ (n m : Nat) (r : List UInt8) (acc : List (List (List UInt8 × List UInt8))), r.length ≤ n → r.length ≤ m → nameL n r acc = nameL m r acc
  | 0, m, r, acc, h, _ => by
    obtain rfl : r = [] := List.eq_nil_of_length_eq_zero (by omega)
    cases m <;> rfl
  | n + 1, 0, r, acc, _, h => by
    obtain rfl : r = [] := List.eq_nil_of_length_eq_zero (by omega)
    rfl
  | n + 1, m + 1, r, acc, h1, h2 => by
    rw [nameL, nameL]
    split
    · cases hp : partR r.tail with
      | none => rfl
      | some y =>
        obtain ⟨x, r'⟩ := y
        have h3 := partR_len hp
        have h4 : r.tail.length ≤ r.length := by simp
        exact nameL_fuel n m r' _ (by omega) (by omega)
    · rfl
end Go.Proofs.YtcjobpcbppcdnaaGreatDoor
/- Contracts: the reader of names: name. -/
namespace Go.Proofs.YtcjobpcbppcdnaaGreatDoor
open Go.RowKit

def NameRet (w : World) (b : Nat) (o : Option (List (List (List UInt8 × List UInt8)))) (e : Ending) (w' : World) : Prop :=
  w.grownBy w' (some b) ∧ match o with
    | none => e = .panicked dnPanic
    | some d => ∃ v, e = .returned v ∧ DnAt w.heap.size w' v d

set_option maxRecDepth 100000 in
set_option maxHeartbeats 1000000 in
theorem rdname_c (b : Nat) (s : List UInt8) (w : World) (hw : Env w) (hO : Off b) (h : RdAt w b s s) (hs : s.length ≤ 65536) :
    Calls Tryz.prog 64 #[.pointer (some ⟨b, 0, none⟩)] w (NameRet w b (nameR s)) := by
  have hbw := h.lt
  have c0 : w.cell? ⟨b, 0, none⟩ = some (.string ⟨s.toArray⟩) := by obtain ⟨i, _, _, hR⟩ := h; exact hR.c0
  by_cases hse : s = []
  · subst hse
    go_enter Tryz.func64, Tryz.ntmps64
    go_wp2_with fail
    go_ret
    exact ⟨World.grownBy.refl _ _, _, rfl, [], World.ownsRow_nil _ _ _ _, Nat.le_refl _, .nil, by simp⟩
  · have hie : s.isEmpty = false := by cases s <;> simp_all
    have hP := part_c b s s w hw hO h hs
    have hnm : nameR s = nameGo (partR s) := by unfold nameR; rw [if_neg hse]
    have HNM := Lib.hid hnm
    clear hnm hse
    rcases hp : partR s with _ | ⟨p, r⟩
    · rw [hp] at hP
      have hq : nameR s = none := by rw [HNM.out, hp]; rfl
      have Hq := Lib.hid hq
      clear hq hp h
      go_enter Tryz.func64, Tryz.ntmps64
      go_wp2_with (go_at_call 102; refine hP.mono ?_; rintro e w1 ⟨h1, rfl⟩)
      refine ⟨rfl, ?_⟩
      rw [Hq.out]
      exact ⟨h1, rfl⟩
    · rw [hp] at hP
      have hr1 := partR_len hp
      have hq : nameR s = nameFin (nameL r.length r [p]) := by rw [HNM.out, hp]; rfl
      generalize hV : nameL r.length r [p] = V at hq
      have HQ := Lib.hid hq
      have HV := Lib.hid hV
      clear hq hp h hV HNM
      go_enter Tryz.func64, Tryz.ntmps64
      go_wp2_with (go_at_call 102; refine hP.mono ?_; rintro e w1 ⟨h1, pv, rfl, ha1, r1'⟩; obtain ⟨A1, cp1, rfl, hcp1⟩ := ha1.isSlice)
      clear hP c0
      go_loopg [3] r.length (fun gk v wr => ∃ (r' : List UInt8) (acc : List (List (List UInt8 × List UInt8))), r'.length ≤ gk ∧ acc.length + r'.length ≤ s.length + 1 ∧ RdAt wr b s r' ∧ DnAt w.heap.size wr v acc ∧ Aside (nameL r'.length r' acc = V) ∧ w.grownBy wr (some b))
      case atStart =>
        exact ⟨r, [p], Nat.le_refl _, by simp; omega, r1'.below ((Below.refl _ _).alloc (Nat.le_refl _) _), ⟨_, DnV.made1 ha1 (Nat.le_refl _)⟩, HV.out, World.grownBy.trans h1 (World.grownBy_alloc _ _ _)⟩
      case round =>
        obtain ⟨r', acc, hlen, hal, hR, ⟨vs, hD⟩, AV, hg⟩ := hrel
        have hI := is_at b s r' 44 wr hR
        cases h44 : hd r' 44
        · rw [h44] at hI
          have hfin : some (acc, r') = V := by
            have := AV.out
            cases hn : r'.length with
            | zero => rw [hn, nameL, h44] at this; exact this
            | succ n => rw [hn, nameL, h44] at this; exact this
          have Hf := Lib.hid hfin
          have hEn := fun w' (hR : RdAt w' b s r') => ended_at b s r' w' hR
          have HR := Lib.hid hR
          cases r' with
          | nil =>
            have HEn := Lib.hid hEn
            clear hfin AV h44 hEn hR
            go_wp2_with (first | (go_at_call 103; refine hI.mono ?_; rintro e w2 ⟨rfl, n2, rfl⟩) | (go_at_call 104; refine (HEn.out _ (by exact HR.out)).mono ?_; rintro e w2 ⟨rfl, n3, rfl⟩))
            go_ret
            rw [HQ.out, ← Hf.out]
            exact ⟨World.grownBy.trans hg (grown_drewN _ _ _), _, rfl, vs, hD.keep (grown_drewN _ _ none) (fun k hk => by cases hk)⟩
          | cons c t =>
            have HEn := Lib.hid hEn
            clear hfin AV h44 hEn hR
            go_wp2_with (first | (go_at_call 103; refine hI.mono ?_; rintro e w2 ⟨rfl, n2, rfl⟩) | (go_at_call 104; refine (HEn.out _ (by exact HR.out)).mono ?_; rintro e w2 ⟨rfl, n3, rfl⟩))
            refine ⟨rfl, ?_⟩
            rw [HQ.out, ← Hf.out]
            exact ⟨World.grownBy.trans hg (grown_drewN _ _ _), rfl⟩
        · rw [h44] at hI
          obtain ⟨c, t', rfl⟩ : ∃ c t', r' = c :: t' := by
            cases r' with
            | nil => cases h44
            | cons c t' => exact ⟨c, t', rfl⟩
          simp only [List.length_cons] at hlen hal
          have hAV : nameL (t'.length + 1) (c :: t') acc = V := AV.out
          rw [nameL, h44, if_pos rfl] at hAV
          simp only [List.tail_cons] at hAV
          obtain ⟨i, hi, c1, f1, hnx⟩ := hR.next
          have HAV := Lib.hid hAV
          clear AV h44 hR hAV
          go_wp2_with (go_at_call 103; refine hI.mono ?_; rintro e w2 ⟨rfl, n2, rfl⟩)
          have g2 : w.grownBy ((wr.drewN n2).setCell ⟨b, 1, none⟩ (.int .i64 ((i : Int) + 1))) (some b) := World.grownBy.trans hg (World.grownBy.trans (grown_drewN _ _ _) (grown_set _))
          have a2 : DnV w.heap.size ((wr.drewN n2).setCell ⟨b, 1, none⟩ (.int .i64 ((i : Int) + 1))) u3 acc vs := hD.keep (World.grownBy.trans (grown_drewN _ n2 _) (grown_set (b := b) _)) (fun k hk => by cases hk; exact hbw)
          have r2 : RdAt ((wr.drewN n2).setCell ⟨b, 1, none⟩ (.int .i64 ((i : Int) + 1))) b s t' := hnx
          have hEQ : (wr.setCell ⟨b, 1, none⟩ (.int .i64 ((i : Int) + 1))).drewN n2 = (wr.drewN n2).setCell ⟨b, 1, none⟩ (.int .i64 ((i : Int) + 1)) := rfl
          try rw [hEQ]
          clear hEQ hnx
          generalize (wr.drewN n2).setCell ⟨b, 1, none⟩ (.int .i64 ((i : Int) + 1)) = W2 at *
          have hP := part_c b s t' W2 (hw.grown hO g2) hO r2 hs
          have hsz2 := g2.size
          rcases hp : partR t' with _ | ⟨q, r3⟩
          · rw [hp] at hP
            have hf : none = V := by have := HAV.out; rw [hp] at this; exact this
            have Hf := Lib.hid hf
            clear hf hp
            refine hP.mono ?_
            rintro e w3 ⟨h3, rfl⟩
            refine ⟨rfl, ?_⟩
            rw [HQ.out, ← Hf.out]
            exact ⟨World.grownBy.trans g2 h3, rfl⟩
          · have hr3 := partR_len hp
            rw [hp] at hP
            have hf : nameL r3.length r3 (acc ++ [q]) = V := by
              have := HAV.out
              rw [hp] at this
              dsimp only at this
              rw [← this]
              exact nameL_fuel _ _ _ _ (Nat.le_refl _) (by omega)
            have Hf := Lib.hid hf
            clear hf hp
            refine hP.mono ?_
            rintro e w3 ⟨h3, pv, rfl, ha3, r3'⟩
            have hold := a2.lt
            have Hold := Lib.hid hold
            have a3 := a2.keep h3 (fun k hk => by cases hk; exact hbw)
            have g3 := World.grownBy.trans g2 h3
            clear hP c1 f1 a2 g2 r2 h3 hold
            obtain ⟨A3, cp3, rfl, hcp3⟩ := ha3.isSlice
            go_wp2_with (at_builtin; refine dn_one rfl _ _ rfl rfl a3 ha3 hsz2 Hold.out rfl rfl (by omega) ?_; intro v' w4 a4 h4)
            go_roundg r3.length
            case measure => omega
            case rel => exact ⟨r3, _, Nat.le_refl _, by simp; omega, a3.rd h4 hbw r3', ⟨_, a4⟩, Hf.out, a3.grown g3 h4⟩
end Go.Proofs.YtcjobpcbppcdnaaGreatDoor
