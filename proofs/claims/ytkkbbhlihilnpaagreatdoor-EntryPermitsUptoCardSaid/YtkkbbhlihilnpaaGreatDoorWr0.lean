import Init
import Derived.Test.YtkkbbhlihilnpaaGreatDoorWvd5
set_option linter.all false
set_option maxHeartbeats 8000000
set_option maxRecDepth 100000
namespace Go.Proofs.YtkkbbhlihilnpaaGreatDoor.Ent
abbrev BL := List UInt8
structure InfoE where
 name : BL
 oid : BL
 eqr : BL
 single : Bool
 fixed : Bool
 oper : Bool
structure AttrE where
 typ : BL
 vals : List BL
 deriving DecidableEq
structure EntryE where
 dn : BL
 attrs : List AttrE
 deriving DecidableEq
structure ClassE where
 name : BL
 kind : Int
 must : List BL
 may : List BL
structure ModE where
 op : Int
 typ : BL
 vals : List BL
structure SchE where
 attr : BL → Option InfoE
 norm : BL → BL → Int × BL
 sub : BL → BL → Bool
 eqn : BL → BL → Int × BL
 first : BL → Option (List (BL × BL))
 named : BL → Bool
 cls : BL → Option ClassE
 above : BL → List BL
structure SchLaw (S : SchE) : Prop where
 nameSame : ∀ t d, S.attr t = some d → S.attr d.name = some d
 oidSame : ∀ t d, S.attr t = some d → S.attr d.oid = some d
 normSame : ∀ t u v, S.attr t = S.attr u → S.norm t v = S.norm u v
 normAttr : ∀ t v, (S.norm t v).1 = 0 → (S.attr t).isSome = true
 subSame : ∀ t u d, S.attr t = some d → S.attr u = some d → S.sub t u = true
 eqNone : ∀ t d v, S.attr t = some d → d.eqr = [] → (S.norm t v).1 = 0 → (S.norm t v).2 = v
 eqSome : ∀ t d v, S.attr t = some d → d.eqr ≠ [] → (S.norm t v).1 = 0 → S.norm t v = S.eqn d.eqr v
def zeroE : EntryE := ⟨[], []⟩
section
variable (S : SchE)
def nameE (t : BL) : BL := match S.attr t with
 | some d => d.name
 | none => []
def normF (t v : BL) : BL := (S.norm t v).2
def okF (t v : BL) : Bool := (S.norm t v).1 == 0
def formsE (t : BL) (vs : List BL) : Option (List BL) := if vs.all (okF S t) then some (vs.map (normF S t)) else none
def twiceE : List BL → Bool
 | [] => false
 | x :: l => l.contains x || twiceE l
def haveE (e : EntryE) : List (BL × BL) := e.attrs.flatMap fun a => ((formsE S a.typ a.vals).getD []).map fun n => (a.typ, n)
def ownE (e : EntryE) : Bool := match S.first e.dn with
 | none => false
 | some ps => ps.all fun p => (haveE S e).contains (nameE S p.1, normF S p.1 p.2)
def attrE (a : AttrE) (had : List AttrE) : Int ⊕ AttrE := match S.attr a.typ with
 | none => .inl 17
 | some d => if a.vals.isEmpty then .inl 2 else if 200 < a.vals.length then .inl 19 else match formsE S d.name a.vals with
  | none => .inl 21
  | some l => if had.any (fun b => b.typ == d.name) || twiceE l then .inl 20 else .inr ⟨d.name, a.vals⟩
def makeF : List AttrE → List AttrE → Int ⊕ List AttrE
 | [], acc => .inr acc
 | a :: l, acc => match attrE S a acc with
  | .inl c => .inl c
  | .inr b => makeF l (acc ++ [b])
def makeE (nm : BL) (l : List AttrE) : Int × EntryE := if !S.named nm then (34, zeroE) else if 100 < l.length then (19, zeroE) else match makeF S l [] with
 | .inl c => (c, zeroE)
 | .inr ats => if ownE S ⟨nm, ats⟩ then (0, ⟨nm, ats⟩) else (64, zeroE)
def findE (e : EntryE) (t : BL) : List BL := e.attrs.flatMap fun a => if S.sub a.typ t then a.vals else []
def hasOne (q want v : BL) : Bool := if q.isEmpty then v == want else (S.eqn q v).1 == 0 && (S.eqn q v).2 == want
def eqrE (t : BL) : BL := match S.attr t with
 | some d => d.eqr
 | none => []
def hasE (e : EntryE) (t v : BL) : Bool := okF S t v && (findE S e t).any (hasOne S (eqrE S t) (normF S t v))
def wObj : BL := [111, 98, 106, 101, 99, 116, 67, 108, 97, 115, 115]
def lowL (e : EntryE) : List BL := (findE S e wObj).filterMap fun c => match S.cls c with
 | some d => if d.kind == 1 then some d.name else none
 | none => none
def lowestE (e : EntryE) : BL := ((lowL S e).find? fun c => !((lowL S e).any fun o => !(S.above c).contains o)).getD []
def mustMayE : List BL → List BL → List BL → Option (List BL × List BL)
 | [], must, may => some (must, may)
 | c :: l, must, may => match S.cls c with
  | none => none
  | some d => mustMayE l (must ++ d.must) (may ++ d.may)
def operE (t : BL) : Bool := match S.attr t with
 | some d => d.oper
 | none => false
def singleE (t : BL) : Bool := match S.attr t with
 | some d => d.single
 | none => false
def checkF (must may : List BL) : List AttrE → Int
 | [] => 0
 | a :: l => if !operE S a.typ && !must.contains (nameE S a.typ) && !may.contains (nameE S a.typ) then 65 else if singleE S a.typ && decide (1 < a.vals.length) then 19 else checkF must may l
def checkE (e : EntryE) : Int := match mustMayE S (findE S e wObj) [] [] with
 | none => 65
 | some (must, may) => if (lowestE S e).isEmpty || must.any (fun t => (findE S e t).isEmpty) then 65 else checkF S must may e.attrs
def atE (e : EntryE) (t : BL) : Option Nat := e.attrs.findIdx? fun a => a.typ == t
def valuesE (e : EntryE) (t : BL) : List BL := match e.attrs.find? (fun a => a.typ == t) with
 | some a => a.vals
 | none => []
def setE (e : EntryE) (t : BL) (vs : List BL) : EntryE := match atE e t with
 | some i => if vs.isEmpty then ⟨e.dn, e.attrs.eraseIdx i⟩ else ⟨e.dn, e.attrs.set i ⟨t, vs⟩⟩
 | none => if vs.isEmpty then e else ⟨e.dn, e.attrs ++ [⟨t, vs⟩]⟩
def addF (perm : Bool) (had : List BL) (t : BL) : List BL → List BL → Int ⊕ List BL
 | [], l => .inr l
 | v :: vs, l => if !had.contains (normF S t v) then addF perm had t vs (l ++ [v]) else if !perm then .inl 20 else addF perm had t vs l
def addE (perm : Bool) (e : EntryE) (t : BL) (vs : List BL) : Int ⊕ EntryE := match addF S perm ((valuesE e t).map (normF S t)) t vs (valuesE e t) with
 | .inl c => .inl c
 | .inr l => .inr (setE e t l)
def removeF (perm : Bool) : List BL → List BL → List BL → Int ⊕ List BL
 | [], l, _ => .inr l
 | n :: ns, l, had => match had.findIdx? (· == n) with
  | some i => removeF perm ns (l.eraseIdx i) (had.eraseIdx i)
  | none => if !perm then .inl 16 else removeF perm ns l had
def removeE (perm : Bool) (e : EntryE) (t : BL) (vs : List BL) : Int ⊕ EntryE := if vs.isEmpty then (if (atE e t).isNone && !perm then .inl 16 else .inr (setE e t [])) else match removeF perm (vs.map (normF S t)) (valuesE e t) ((valuesE e t).map (normF S t)) with
 | .inl c => .inl c
 | .inr l => .inr (setE e t l)
def takenF (perm : Bool) (t : BL) : List BL → List BL → List BL → Int ⊕ List BL
 | [], _, out => .inr out
 | v :: vs, seen, out => if !seen.contains (normF S t v) then takenF perm t vs (seen ++ [normF S t v]) (out ++ [v]) else if !perm then .inl 20 else takenF perm t vs seen out
def takenE (perm : Bool) (t : BL) (vs : List BL) : Int ⊕ List BL := if vs.all (okF S t) then takenF S perm t vs [] [] else .inl 21
def doE (perm : Bool) (op : Int) (e : EntryE) (t : BL) (vs : List BL) : Int ⊕ EntryE := if op == 0 then addE S perm e t vs else if op == 1 then removeE S perm e t vs else .inr (setE e t vs)
def oneE (perm : Bool) (e : EntryE) (m : ModE) : Int ⊕ EntryE :=
 if !(m.op == 0 || m.op == 1 || m.op == 2) then .inl 2 else match S.attr m.typ with
 | none => .inl 17
 | some d => if d.fixed then .inl 19 else if m.op == 0 && m.vals.isEmpty then .inl 2 else match takenE S perm d.name m.vals with
  | .inl c => .inl c
  | .inr vs => match doE S perm m.op e d.name vs with
   | .inl c => .inl c
   | .inr e' => if 200 < (valuesE e' d.name).length ∨ 100 < e'.attrs.length then .inl 19 else .inr e'
def modsE (perm : Bool) : List ModE → EntryE → Int ⊕ EntryE
 | [], e => .inr e
 | m :: ms, e => match oneE S perm e m with
  | .inl c => .inl c
  | .inr e' => modsE perm ms e'
def applyE (e : EntryE) (ms : List ModE) (perm : Bool) : Int × EntryE := match modsE S perm ms e with
 | .inl c => (c, zeroE)
 | .inr e' => if !ownE S e' then (67, zeroE) else if checkE S e' != 0 then (checkE S e', zeroE) else (0, e')
structure RightA (a : AttrE) : Prop where
 known : ∃ d, S.attr a.typ = some d ∧ d.name = a.typ
 some : a.vals ≠ []
 ok : ∀ v ∈ a.vals, okF S a.typ v = true
 once : (a.vals.map (normF S a.typ)).Nodup
 few : a.vals.length ≤ 200
structure RightE (e : EntryE) : Prop where
 all : ∀ a ∈ e.attrs, RightA S a
 once : (e.attrs.map AttrE.typ).Nodup
 few : e.attrs.length ≤ 100
variable {S}
theorem forms_some {t : BL} {vs l : List BL} (h : formsE S t vs = some l) : (∀ v ∈ vs, okF S t v = true) ∧ l = vs.map (normF S t) := by
 unfold formsE at h
 split at h
 ·next h1 => cases h; exact ⟨List.all_eq_true.1 h1, rfl⟩
 ·cases h
theorem forms_mk {t : BL} {vs : List BL} (h : ∀ v ∈ vs, okF S t v = true) : formsE S t vs = some (vs.map (normF S t)) := by
 unfold formsE
 rw [if_pos (List.all_eq_true.2 h)]
theorem twice_iff : ∀ l : List BL, twiceE l = false ↔ l.Nodup
 | [] => by simp [twiceE]
 | x :: l => by
  rw [twiceE, Bool.or_eq_false_iff, twice_iff l, List.nodup_cons]
  constructor
  ·rintro ⟨h1, h2⟩
   exact ⟨by simpa using h1, h2⟩
  ·rintro ⟨h1, h2⟩
   exact ⟨by simpa using h1, h2⟩
theorem attr_right (hS : SchLaw S) {a b : AttrE} {had : List AttrE} (h : attrE S a had = .inr b) : RightA S b ∧ b.typ ∉ had.map AttrE.typ := by
 unfold attrE at h
 split at h
 ·cases h
 ·next d hd =>
  split at h
  ·cases h
  ·next h1 =>
   split at h
   ·cases h
   ·next h2 =>
    split at h
    ·cases h
    ·next l hl =>
     split at h
     ·cases h
     ·next h3 =>
      cases h
      obtain ⟨f1, f2⟩ := forms_some hl
      rw [Bool.or_eq_true, not_or] at h3
      refine ⟨⟨⟨d, hS.nameSame _ _ hd, rfl⟩, by intro h; exact h1 (by simp only at h; rw [h]; rfl), f1, ?_, by simp only; omega⟩, ?_⟩
      ·have := (twice_iff l).1 (by simpa using h3.2)
       rw [f2] at this
       exact this
      ·intro hm
       obtain ⟨b, hb, hbt⟩ := List.mem_map.1 hm
       exact h3.1 (List.any_eq_true.2 ⟨b, hb, by simp only at hbt; rw [hbt]; simp⟩)
theorem attr_again {a : AttrE} (ha : RightA S a) {had : List AttrE} (h : a.typ ∉ had.map AttrE.typ) : attrE S a had = .inr a := by
 obtain ⟨d, hd, hn⟩ := ha.known
 unfold attrE
 rw [hd]
 simp only
 rw [if_neg (by intro hx; exact ha.some (List.isEmpty_iff.1 hx)), if_neg (by have := ha.few; omega), hn, forms_mk ha.ok]
 simp only
 rw [if_neg]
 rw [Bool.or_eq_true, not_or]
 refine ⟨?_, by rw [(twice_iff _).2 ha.once]; simp⟩
 intro hx
 obtain ⟨b, hb, hbt⟩ := List.any_eq_true.1 hx
 exact h (List.mem_map.2 ⟨b, hb, by simpa using hbt⟩)
theorem makeF_right (hS : SchLaw S) : ∀ (l acc ats : List AttrE), (∀ a ∈ acc, RightA S a) → (acc.map AttrE.typ).Nodup → makeF S l acc = .inr ats → (∀ a ∈ ats, RightA S a) ∧ (ats.map AttrE.typ).Nodup ∧ ats.length = acc.length + l.length
 | [], acc, ats, h1, h2, h => by
  cases h
  exact ⟨h1, h2, by simp⟩
 | a :: l, acc, ats, h1, h2, h => by
  rw [makeF] at h
  split at h
  ·cases h
  ·next b hb =>
   obtain ⟨r1, r2⟩ := attr_right hS hb
   have := makeF_right hS l (acc ++ [b]) ats (by
    intro x hx
    rcases List.mem_append.1 hx with hx | hx
    ·exact h1 x hx
    ·rw [List.mem_singleton.1 hx]; exact r1) (by
    rw [List.map_append, List.nodup_append]
    refine ⟨h2, by simp, ?_⟩
    intro x hx y hy
    simp only [List.map_cons, List.map_nil, List.mem_singleton] at hy
    rw [hy]
    intro he
    exact r2 (he ▸ hx)) h
   refine ⟨this.1, this.2.1, ?_⟩
   rw [this.2.2]
   simp only [List.length_append, List.length_cons, List.length_nil]
   omega
theorem makeF_again : ∀ (l acc : List AttrE), (∀ a ∈ l, RightA S a) → ((acc ++ l).map AttrE.typ).Nodup → makeF S l acc = .inr (acc ++ l)
 | [], acc, _, _ => by rw [makeF, List.append_nil]
 | a :: l, acc, h1, h2 => by
  have hn : a.typ ∉ acc.map AttrE.typ := by
   rw [List.map_append, List.nodup_append] at h2
   intro hm
   exact h2.2.2 _ hm _ (List.mem_map.2 ⟨a, List.mem_cons_self .., rfl⟩) rfl
  rw [makeF, attr_again (h1 a (List.mem_cons_self ..)) hn]
  simp only
  rw [makeF_again l (acc ++ [a]) (fun x hx => h1 x (List.mem_cons_of_mem _ hx)) (by rw [List.append_assoc]; exact h2), List.append_assoc]
  rfl
theorem make_right (hS : SchLaw S) {nm : BL} {l : List AttrE} {e : EntryE} (h : makeE S nm l = (0, e)) : RightE S e ∧ ownE S e = true ∧ e.dn = nm ∧ S.named nm = true := by
 unfold makeE at h
 split at h
 ·cases h
 ·next h0 =>
  split at h
  ·cases h
  ·next h1 =>
   split at h
   ·next c hc =>
    exfalso
    have hz : c = 0 := by cases h; rfl
    subst hz
    have : ∀ (l acc : List AttrE), makeF S l acc ≠ .inl 0 := by
     intro l
     induction l with
     | nil => intro acc h; cases h
     | cons a l ih =>
      intro acc h
      rw [makeF] at h
      split at h
      ·next c hc =>
       cases h
       unfold attrE at hc
       split at hc
       ·cases hc
       ·split at hc
        ·cases hc
        ·split at hc
         ·cases hc
         ·split at hc
          ·cases hc
          ·split at hc <;> cases hc
      ·exact ih _ h
    exact this _ _ hc
   ·next ats has =>
    split at h
    ·next ho =>
     cases h
     obtain ⟨r1, r2, r3⟩ := makeF_right hS l [] ats (by simp) (by simp) has
     refine ⟨⟨r1, r2, ?_⟩, ho, rfl, by simpa using h0⟩
     simp only [List.length_nil] at r3 ⊢
     omega
    ·cases h
theorem make_again {e : EntryE} (hr : RightE S e) (ho : ownE S e = true) (hn : S.named e.dn = true) : makeE S e.dn e.attrs = (0, e) := by
 unfold makeE
 rw [if_neg (by rw [hn]; simp), if_neg (by have := hr.few; omega), makeF_again e.attrs [] hr.all (by simpa using hr.once)]
 simp only [List.nil_append]
 rw [if_pos ho]
structure Right0 (S : SchE) (e : EntryE) : Prop where
 all : ∀ a ∈ e.attrs, RightA S a
 once : (e.attrs.map AttrE.typ).Nodup
theorem RightE.r0 {e : EntryE} (h : RightE S e) : Right0 S e := ⟨h.all, h.once⟩
theorem hit_or (l : List AttrE) (t : BL) : (∃ l1 a l2, l = l1 ++ a :: l2 ∧ a.typ = t ∧ t ∉ l1.map AttrE.typ) ∨ t ∉ l.map AttrE.typ := by
 induction l with
 | nil => exact .inr (by simp)
 | cons b l ih =>
  by_cases hb : b.typ = t
  ·exact .inl ⟨[], b, l, rfl, hb, by simp⟩
  ·rcases ih with ⟨l1, a, l2, rfl, h1, h2⟩ | h
   ·refine .inl ⟨b :: l1, a, l2, rfl, h1, ?_⟩
    simp only [List.map_cons, List.mem_cons, not_or]
    exact ⟨fun h => hb h.symm, h2⟩
   ·refine .inr ?_
    simp only [List.map_cons, List.mem_cons, not_or]
    exact ⟨fun h => hb h.symm, h⟩
theorem at_hit {dn t : BL} {l1 l2 : List AttrE} {a : AttrE} (ha : a.typ = t) (h1 : t ∉ l1.map AttrE.typ) : atE ⟨dn, l1 ++ a :: l2⟩ t = some l1.length ∧ valuesE ⟨dn, l1 ++ a :: l2⟩ t = a.vals := by
 unfold atE valuesE
 simp only
 induction l1 with
 | nil => refine ⟨?_, ?_⟩ <;> simp [List.findIdx?_cons, ha]
 | cons b l ih =>
  simp only [List.map_cons, List.mem_cons, not_or] at h1
  have hb : (b.typ == t) = false := beq_eq_false_iff_ne.2 (fun h => h1.1 h.symm)
  obtain ⟨i1, i2⟩ := ih h1.2
  rw [List.cons_append, List.findIdx?_cons, List.find?_cons, hb, i1]
  simp only [Bool.false_eq_true, if_false]
  exact ⟨rfl, i2⟩
theorem at_miss {e : EntryE} {t : BL} (h : t ∉ e.attrs.map AttrE.typ) : atE e t = none ∧ valuesE e t = [] := by
 unfold atE valuesE
 have hx : ∀ a ∈ e.attrs, (a.typ == t) = false := fun a ha => beq_eq_false_iff_ne.2 (fun he => h (List.mem_map.2 ⟨a, ha, he⟩))
 refine ⟨?_, ?_⟩
 ·rw [List.findIdx?_eq_none_iff]
  exact fun a ha => by rw [hx a ha]
 ·have : e.attrs.find? (fun a => a.typ == t) = none := by
   rw [List.find?_eq_none]
   exact fun a ha => by rw [hx a ha]; simp
  rw [this]
def oneL (t : BL) (vs : List BL) : List AttrE := if vs.isEmpty then [] else [⟨t, vs⟩]
theorem set_hit {dn t : BL} {l1 l2 : List AttrE} {a : AttrE} (ha : a.typ = t) (h1 : t ∉ l1.map AttrE.typ) (vs : List BL) : setE ⟨dn, l1 ++ a :: l2⟩ t vs = ⟨dn, l1 ++ oneL t vs ++ l2⟩ := by
 unfold setE oneL
 rw [(at_hit ha h1).1]
 simp only
 split
 ·congr 1
  rw [List.eraseIdx_append_of_length_le (Nat.le_refl _)]
  simp
 ·congr 1
  rw [List.set_append_right _ _ (Nat.le_refl _)]
  simp
theorem set_miss {e : EntryE} {t : BL} (h : t ∉ e.attrs.map AttrE.typ) (vs : List BL) : setE e t vs = ⟨e.dn, e.attrs ++ oneL t vs⟩ := by
 unfold setE oneL
 rw [(at_miss h).1]
 simp only
 split
 ·simp
 ·rfl
theorem set_dn (e : EntryE) (t : BL) (vs : List BL) : (setE e t vs).dn = e.dn := by
 unfold setE
 split
 ·split <;> rfl
 ·split <;> rfl
theorem one_right {t : BL} {vs : List BL} (h : vs ≠ [] → RightA S ⟨t, vs⟩) : ∀ a ∈ oneL t vs, RightA S a := by
 unfold oneL
 split
 ·simp
 ·next hv =>
  intro a ha
  rw [List.mem_singleton.1 ha]
  exact h (fun hx => hv (by rw [hx]; rfl))
theorem one_typ {t : BL} {vs : List BL} : (oneL t vs).map AttrE.typ = if vs.isEmpty then [] else [t] := by
 unfold oneL
 split <;> rfl
theorem set_right {e : EntryE} {t : BL} {vs : List BL} (hr : Right0 S e) (h : vs ≠ [] → RightA S ⟨t, vs⟩) : Right0 S (setE e t vs) ∧ valuesE (setE e t vs) t = vs := by
 obtain ⟨dn, ats⟩ := e
 obtain ⟨ha, hn⟩ := hr
 simp only at ha hn
 rcases hit_or ats t with ⟨l1, a, l2, rfl, h1, h2⟩ | hm
 ·rw [set_hit h1 h2]
  have hno : t ∉ l2.map AttrE.typ := by
   rw [List.map_append, List.map_cons, List.nodup_append, List.nodup_cons, h1] at hn
   exact hn.2.1.1
  refine ⟨⟨?_, ?_⟩, ?_⟩
  ·intro x hx
   simp only [List.mem_append] at hx
   rcases hx with (hx | hx) | hx
   ·exact ha x (by simp [hx])
   ·exact one_right h x hx
   ·exact ha x (by simp [hx])
  ·simp only [List.map_append, one_typ]
   rw [List.map_append, List.map_cons, h1] at hn
   split
   ·rw [List.append_nil]
    exact hn.sublist ((List.Sublist.refl _).append (List.sublist_cons_self _ _))
   ·rw [List.append_assoc]; exact hn
  ·by_cases hv : vs = []
   ·subst hv
    have : oneL t [] = [] := rfl
    rw [this, List.append_nil]
    refine (at_miss ?_).2
    simp only [List.map_append, List.mem_append, not_or]
    exact ⟨h2, hno⟩
   ·have : oneL t vs = [⟨t, vs⟩] := by unfold oneL; rw [if_neg (fun hx => hv (List.isEmpty_iff.1 hx))]
    rw [this, List.append_assoc]
    exact (at_hit (a := ⟨t, vs⟩) rfl h2).2
 ·rw [set_miss hm]
  simp only at hm ⊢
  refine ⟨⟨?_, ?_⟩, ?_⟩
  ·intro x hx
   simp only [List.mem_append] at hx
   rcases hx with hx | hx
   ·exact ha x hx
   ·exact one_right h x hx
  ·simp only [List.map_append, one_typ]
   split
   ·rw [List.append_nil]; exact hn
   ·rw [List.nodup_append]
    refine ⟨hn, by simp, ?_⟩
    intro x hx y hy
    rw [List.mem_singleton.1 hy]
    intro he
    exact hm (he ▸ hx)
  ·by_cases hv : vs = []
   ·subst hv
    have : oneL t [] = [] := rfl
    rw [this, List.append_nil]
    exact (at_miss hm).2
   ·have : oneL t vs = [⟨t, vs⟩] := by unfold oneL; rw [if_neg (fun hx => hv (List.isEmpty_iff.1 hx))]
    rw [this]
    exact (at_hit (a := ⟨t, vs⟩) rfl hm).2
theorem set_self {e : EntryE} {t : BL} (hr : Right0 S e) : setE e t (valuesE e t) = e := by
 obtain ⟨dn, ats⟩ := e
 rcases hit_or ats t with ⟨l1, a, l2, rfl, h1, h2⟩ | hm
 ·rw [set_hit h1 h2, (at_hit h1 h2).2]
  have hv := (hr.all a (by simp)).some
  unfold oneL
  rw [if_neg (fun hx => hv (List.isEmpty_iff.1 hx)), List.append_assoc]
  obtain ⟨ty, vs⟩ := a
  simp only at h1 ⊢
  rw [h1]
  rfl
 ·rw [set_miss hm, (at_miss hm).2]
  show (⟨dn, ats ++ []⟩ : EntryE) = _
  rw [List.append_nil]
theorem set_set {e : EntryE} {t : BL} {vs us : List BL} (hr : Right0 S e) (hv : valuesE e t = us) (hnv : vs ≠ []) : setE (setE e t vs) t us = e := by
 obtain ⟨dn, ats⟩ := e
 have e1 : oneL t vs = [⟨t, vs⟩] := by unfold oneL; rw [if_neg (fun hx => hnv (List.isEmpty_iff.1 hx))]
 rcases hit_or ats t with ⟨l1, a, l2, rfl, h1, h2⟩ | hm
 ·rw [(at_hit h1 h2).2] at hv
  have ha := (hr.all a (by simp)).some
  rw [set_hit h1 h2, e1, List.append_assoc]
  show setE ⟨dn, l1 ++ (⟨t, vs⟩ : AttrE) :: l2⟩ t us = _
  rw [set_hit (a := ⟨t, vs⟩) rfl h2, ← hv]
  unfold oneL
  rw [if_neg (fun hx => ha (List.isEmpty_iff.1 hx)), List.append_assoc]
  obtain ⟨ty, vs'⟩ := a
  simp only at h1 ⊢
  rw [h1]
  rfl
 ·rw [(at_miss hm).2] at hv
  rw [show setE ⟨dn, ats⟩ t vs = ⟨dn, ats ++ oneL t vs⟩ from set_miss hm vs, e1]
  show setE ⟨dn, ats ++ (⟨t, vs⟩ : AttrE) :: []⟩ t us = _
  rw [set_hit (a := ⟨t, vs⟩) rfl hm, ← hv]
  show (⟨dn, ats ++ [] ++ []⟩ : EntryE) = _
  rw [List.append_nil, List.append_nil]
theorem values_right {e : EntryE} {t : BL} (hr : Right0 S e) : (∀ v ∈ valuesE e t, okF S t v = true) ∧ ((valuesE e t).map (normF S t)).Nodup ∧ (valuesE e t).length ≤ 200 := by
 obtain ⟨dn, ats⟩ := e
 rcases hit_or ats t with ⟨l1, a, l2, rfl, h1, h2⟩ | hm
 ·rw [(at_hit h1 h2).2]
  have ha := hr.all a (by simp)
  rw [← h1]
  exact ⟨ha.ok, ha.once, ha.few⟩
 ·rw [(at_miss hm).2]
  exact ⟨by simp, by simp, by simp⟩
theorem taken_says {perm : Bool} {t : BL} : ∀ (vs seen out us : List BL), out.map (normF S t) = seen → seen.Nodup → takenF S perm t vs seen out = .inr us → (us.map (normF S t)).Nodup ∧ (∀ u ∈ us, u ∈ out ∨ u ∈ vs) ∧ (∀ v ∈ out, v ∈ us)
 | [], seen, out, us, h1, h2, h => by
  cases h
  exact ⟨by rw [h1]; exact h2, fun u hu => .inl hu, fun v hv => hv⟩
 | v :: vs, seen, out, us, h1, h2, h => by
  rw [takenF] at h
  split at h
  ·next hc =>
   obtain ⟨r1, r2, r3⟩ := taken_says vs _ _ us (by rw [List.map_append, h1]; rfl) (by
    rw [List.nodup_append]
    refine ⟨h2, by simp, ?_⟩
    intro x hx y hy
    rw [List.mem_singleton.1 hy]
    intro he
    subst he
    simp at hc
    exact hc hx) h
   refine ⟨r1, fun u hu => ?_, fun x hx => r3 x (by simp [hx])⟩
   rcases r2 u hu with hx | hx
   ·rcases List.mem_append.1 hx with hx | hx
    ·exact .inl hx
    ·exact .inr (by rw [List.mem_singleton.1 hx]; exact List.mem_cons_self ..)
   ·exact .inr (List.mem_cons_of_mem _ hx)
  ·split at h
   ·cases h
   ·obtain ⟨r1, r2, r3⟩ := taken_says vs _ _ us h1 h2 h
    exact ⟨r1, fun u hu => (r2 u hu).imp id (List.mem_cons_of_mem _), r3⟩
theorem takenE_says {perm : Bool} {t : BL} {vs us : List BL} (h : takenE S perm t vs = .inr us) : (us.map (normF S t)).Nodup ∧ (∀ u ∈ us, okF S t u = true) := by
 unfold takenE at h
 split at h
 ·next ha =>
  obtain ⟨r1, r2, _⟩ := taken_says vs [] [] us rfl (by simp) h
  exact ⟨r1, fun u hu => List.all_eq_true.1 ha u ((r2 u hu).elim (fun hx => by cases hx) id)⟩
 ·cases h
theorem add_says {perm : Bool} {t : BL} {had : List BL} : ∀ (vs l us : List BL), addF S perm had t vs l = .inr us → us = l ++ vs.filter (fun v => !had.contains (normF S t v))
 | [], l, us, h => by cases h; simp
 | v :: vs, l, us, h => by
  rw [addF] at h
  split at h
  ·next hc =>
   rw [add_says vs _ us h, List.filter_cons, if_pos hc]
   simp
  ·next hc =>
   split at h
   ·cases h
   ·rw [add_says vs _ us h, List.filter_cons, if_neg hc]
theorem add_idle {t : BL} {had : List BL} : ∀ (vs l : List BL), (∀ v ∈ vs, had.contains (normF S t v) = true) → addF S true had t vs l = .inr l
 | [], l, _ => rfl
 | v :: vs, l, h => by
  rw [addF, if_neg (by rw [h v (List.mem_cons_self ..)]; simp), if_neg (by simp)]
  exact add_idle vs l (fun x hx => h x (List.mem_cons_of_mem _ hx))
theorem map_erase {α β : Type} (f : α → β) : ∀ (l : List α) (i : Nat), (l.eraseIdx i).map f = (l.map f).eraseIdx i
 | [], i => rfl
 | a :: l, 0 => rfl
 | a :: l, i + 1 => by
  show f a :: (l.eraseIdx i).map f = f a :: (l.map f).eraseIdx i
  rw [map_erase f l i]
theorem remove_says {perm : Bool} {t : BL} : ∀ (ns l had us : List BL), had = l.map (normF S t) → had.Nodup → removeF perm ns l had = .inr us → (us.map (normF S t)).Nodup ∧ (∀ u ∈ us, u ∈ l) ∧ us.length ≤ l.length ∧ ∀ n ∈ ns, n ∉ us.map (normF S t)
 | [], l, had, us, h1, h2, h => by
  cases h
  exact ⟨h1 ▸ h2, fun u hu => hu, Nat.le_refl _, by simp⟩
 | n :: ns, l, had, us, h1, h2, h => by
  rw [removeF] at h
  split at h
  ·next i hi =>
   have hlt : i < had.length := by
    rw [List.findIdx?_eq_some_iff_getElem] at hi
    exact hi.1
   have hget : had[i] = n := by
    rw [List.findIdx?_eq_some_iff_getElem] at hi
    simpa using hi.2.1
   have hm : (l.eraseIdx i).map (normF S t) = had.eraseIdx i := by rw [h1]; exact map_erase _ _ _
   have hnd : (had.eraseIdx i).Nodup := h2.sublist (List.eraseIdx_sublist _ _)
   obtain ⟨r1, r2, r3, r4⟩ := remove_says ns _ _ us hm.symm hnd h
   refine ⟨r1, fun u hu => List.mem_of_mem_eraseIdx (r2 u hu), ?_, ?_⟩
   ·have := (List.eraseIdx_sublist l i).length_le
    omega
   ·intro x hx
    rcases List.mem_cons.1 hx with rfl | hx
    ·intro hin
     obtain ⟨u, hu, hux⟩ := List.mem_map.1 hin
     have : x ∈ had.eraseIdx i := by
      rw [← hm, ← hux]
      exact List.mem_map.2 ⟨u, r2 u hu, rfl⟩
     rw [List.mem_eraseIdx_iff_getElem] at this
     obtain ⟨k, hk, hne, hke⟩ := this
     have := (List.getElem_inj (h₀ := hk) (h₁ := hlt) h2).1 (by rw [hke, hget])
     exact hne this
    ·exact r4 x hx
  ·next hi =>
   split at h
   ·cases h
   ·obtain ⟨r1, r2, r3, r4⟩ := remove_says ns _ _ us h1 h2 h
    refine ⟨r1, r2, r3, ?_⟩
    intro x hx
    rcases List.mem_cons.1 hx with rfl | hx
    ·rw [List.findIdx?_eq_none_iff] at hi
     intro hin
     obtain ⟨u, hu, hux⟩ := List.mem_map.1 hin
     have : x ∈ had := by rw [h1, ← hux]; exact List.mem_map.2 ⟨u, r2 u hu, rfl⟩
     have := hi x this
     simp at this
    ·exact r4 x hx
theorem remove_idle : ∀ (ns l had : List BL), (∀ n ∈ ns, n ∉ had) → removeF true ns l had = .inr l
 | [], l, had, _ => rfl
 | n :: ns, l, had, h => by
  have : had.findIdx? (· == n) = none := by
   rw [List.findIdx?_eq_none_iff]
   intro x hx
   exact beq_eq_false_iff_ne.2 (fun he => h n (List.mem_cons_self ..) (he ▸ hx))
  rw [removeF, this]
  simp only
  rw [if_neg (by simp)]
  exact remove_idle ns l had (fun x hx => h x (List.mem_cons_of_mem _ hx))
theorem do_says {perm : Bool} {op : Int} {e e' : EntryE} {d : InfoE} {vs : List BL} (hr : Right0 S e) (hv : (vs.map (normF S d.name)).Nodup ∧ ∀ u ∈ vs, okF S d.name u = true) (h : doE S perm op e d.name vs = .inr e') :
  ∃ us, e' = setE e d.name us ∧ (us.map (normF S d.name)).Nodup ∧ (∀ u ∈ us, okF S d.name u = true) := by
 obtain ⟨o1, o2, o3⟩ := values_right (t := d.name) hr
 unfold doE at h
 split at h
 ·unfold addE at h
  split at h
  ·cases h
  ·next l hl =>
   cases h
   have := add_says _ _ _ hl
   refine ⟨l, rfl, ?_, ?_⟩
   ·rw [this, List.map_append, List.nodup_append]
    refine ⟨o2, hv.1.sublist (List.Sublist.map _ List.filter_sublist), ?_⟩
    intro x hx y hy he
    subst he
    obtain ⟨v, hvm, hve⟩ := List.mem_map.1 hy
    have := (List.mem_filter.1 hvm).2
    rw [hve] at this
    simp at this
    obtain ⟨z, hz, hze⟩ := List.mem_map.1 hx
    exact this z hz hze
   ·rw [this]
    intro u hu
    rcases List.mem_append.1 hu with hu | hu
    ·exact o1 u hu
    ·exact hv.2 u (List.mem_filter.1 hu).1
 ·split at h
  ·unfold removeE at h
   split at h
   ·split at h
    ·cases h
    ·cases h
     exact ⟨[], rfl, by simp, by simp⟩
   ·split at h
    ·cases h
    ·next l hl =>
     cases h
     obtain ⟨r1, r2, _, _⟩ := remove_says _ _ _ _ rfl o2 hl
     exact ⟨l, rfl, r1, fun u hu => o1 u (r2 u hu)⟩
  ·cases h
   exact ⟨vs, rfl, hv.1, hv.2⟩
theorem one_says (hS : SchLaw S) {perm : Bool} {e e' : EntryE} {m : ModE} (hr : Right0 S e) (h : oneE S perm e m = .inr e') : RightE S e' ∧ e'.dn = e.dn := by
 unfold oneE at h
 split at h
 ·cases h
 ·split at h
  ·cases h
  ·next d hd =>
   split at h
   ·cases h
   ·split at h
    ·cases h
    ·split at h
     ·cases h
     ·next vs hvs =>
      split at h
      ·cases h
      ·next e2 he2 =>
       split at h
       ·cases h
       ·next hlim =>
        cases h
        obtain ⟨us, rfl, h1, h2⟩ := do_says hr (takenE_says hvs) he2
        rw [not_or] at hlim
        have hA : us ≠ [] → us.length ≤ 200 → RightA S ⟨d.name, us⟩ := fun hu hl => ⟨⟨d, hS.nameSame _ _ hd, rfl⟩, hu, h2, h1, hl⟩
        have hval : valuesE (setE e d.name us) d.name = us := by
         obtain ⟨dn, ats⟩ := e
         by_cases hu : us = []
         ·subst hu
          exact (set_right hr (fun hx => absurd rfl hx)).2
         ·have e1 : oneL d.name us = [⟨d.name, us⟩] := by unfold oneL; rw [if_neg (fun hx => hu (List.isEmpty_iff.1 hx))]
          rcases hit_or ats d.name with ⟨l1, a, l2, rfl, h1, h2⟩ | hm
          ·rw [set_hit h1 h2, e1, List.append_assoc]
           exact (at_hit (a := ⟨d.name, us⟩) rfl h2).2
          ·rw [set_miss hm, e1]
           exact (at_hit (a := ⟨d.name, us⟩) rfl hm).2
        rw [hval] at hlim
        have := (set_right hr (fun hu => hA hu (by omega))).1
        exact ⟨⟨this.all, this.once, by omega⟩, set_dn _ _ _⟩
theorem mods_right (hS : SchLaw S) {perm : Bool} : ∀ (ms : List ModE) (e e' : EntryE), RightE S e → modsE S perm ms e = .inr e' → RightE S e' ∧ e'.dn = e.dn
 | [], e, e', hr, h => by cases h; exact ⟨hr, rfl⟩
 | m :: ms, e, e', hr, h => by
  rw [modsE] at h
  split at h
  ·cases h
  ·next e2 h2 =>
   obtain ⟨r1, r2⟩ := one_says hS hr.r0 h2
   obtain ⟨r3, r4⟩ := mods_right hS ms e2 e' r1 h
   exact ⟨r3, r4.trans r2⟩
theorem apply_ok {e x : EntryE} {ms : List ModE} {perm : Bool} (h : applyE S e ms perm = (0, x)) (hz : ∀ c, modsE S perm ms e = .inl c → c ≠ 0) : modsE S perm ms e = .inr x ∧ ownE S x = true ∧ checkE S x = 0 := by
 unfold applyE at h
 split at h
 ·next c hc => cases h; exact absurd rfl (hz 0 hc)
 ·next e' he =>
  split at h
  ·cases h
  ·next ho =>
   split at h
   ·next hk =>
    exfalso
    have : checkE S e' = 0 := congrArg Prod.fst h
    rw [this] at hk
    simp at hk
   ·next hk =>
    cases h
    exact ⟨he, by simpa using ho, by simpa using hk⟩
theorem apply_mk {e x : EntryE} {ms : List ModE} {perm : Bool} (h1 : modsE S perm ms e = .inr x) (h2 : ownE S x = true) (h3 : checkE S x = 0) : applyE S e ms perm = (0, x) := by
 unfold applyE
 rw [h1]
 simp only
 rw [if_neg (by rw [h2]; simp), if_neg (by rw [h3]; simp)]
theorem taken_code {perm : Bool} {t : BL} : ∀ (vs seen out : List BL), takenF S perm t vs seen out ≠ .inl 0
 | [], _, _ => by intro h; cases h
 | v :: vs, seen, out => by
  rw [takenF]
  split
  ·exact taken_code vs _ _
  ·split
   ·intro h; cases h
   ·exact taken_code vs _ _
theorem add_code {perm : Bool} {t : BL} {had : List BL} : ∀ (vs l : List BL), addF S perm had t vs l ≠ .inl 0
 | [], _ => by intro h; cases h
 | v :: vs, l => by
  rw [addF]
  split
  ·exact add_code vs _
  ·split
   ·intro h; cases h
   ·exact add_code vs _
theorem remove_code {perm : Bool} : ∀ (ns l had : List BL), removeF perm ns l had ≠ .inl 0
 | [], _, _ => by intro h; cases h
 | n :: ns, l, had => by
  rw [removeF]
  split
  ·exact remove_code ns _ _
  ·split
   ·intro h; cases h
   ·exact remove_code ns _ _
theorem one_code {perm : Bool} {e : EntryE} {m : ModE} : oneE S perm e m ≠ .inl 0 := by
 unfold oneE
 split
 ·intro h; cases h
 ·split
  ·intro h; cases h
  ·split
   ·intro h; cases h
   ·split
    ·intro h; cases h
    ·split
     ·next c hc =>
      intro h
      cases h
      unfold takenE at hc
      split at hc
      ·exact taken_code _ _ _ hc
      ·cases hc
     ·split
      ·next c hc =>
       intro h
       cases h
       unfold doE at hc
       split at hc
       ·unfold addE at hc
        split at hc
        ·next c hc2 => cases hc; exact add_code _ _ hc2
        ·cases hc
       ·split at hc
        ·unfold removeE at hc
         split at hc
         ·split at hc <;> cases hc
         ·split at hc
          ·next c hc2 => cases hc; exact remove_code _ _ _ hc2
          ·cases hc
        ·cases hc
      ·split <;> (intro h; cases h)
theorem mods_code {perm : Bool} : ∀ (ms : List ModE) (e : EntryE) (c : Int), modsE S perm ms e = .inl c → c ≠ 0
 | [], e, c, h => by cases h
 | m :: ms, e, c, h => by
  rw [modsE] at h
  split at h
  ·next c' hc => cases h; intro hz; subst hz; exact one_code hc
  ·exact mods_code ms _ c h
theorem apply_code {e : EntryE} {ms : List ModE} {perm : Bool} (h : (applyE S e ms perm).1 ≠ 0) : (applyE S e ms perm).2 = zeroE := by
 unfold applyE at h ⊢
 split
 ·rfl
 ·split
  ·rfl
  ·split
   ·rfl
   ·next h1 h2 h3 => simp_all
theorem passes_law (hS : SchLaw S) {nm : BL} {l : List AttrE} {e x : EntryE} {ms : List ModE} {perm : Bool} (he : makeE S nm l = (0, e)) (hx : applyE S e ms perm = (0, x)) : makeE S x.dn x.attrs = (0, x) ∧ checkE S x = 0 ∧ x.dn = e.dn := by
 obtain ⟨r1, r2, r3, r4⟩ := make_right hS he
 obtain ⟨m1, m2, m3⟩ := apply_ok hx (mods_code ms e)
 obtain ⟨q1, q2⟩ := mods_right hS ms e x r1 m1
 refine ⟨make_again q1 m2 (by rw [q2, r3]; exact r4), m3, q2⟩
theorem add_perm {t : BL} {had : List BL} : ∀ (vs l us : List BL), addF S false had t vs l = .inr us → addF S true had t vs l = .inr us
 | [], l, us, h => h
 | v :: vs, l, us, h => by
  rw [addF] at h ⊢
  split at h
  ·next hc => rw [if_pos hc]; exact add_perm vs _ us h
  ·rw [if_pos (by rfl)] at h; cases h
theorem remove_perm : ∀ (ns l had us : List BL), removeF false ns l had = .inr us → removeF true ns l had = .inr us
 | [], l, had, us, h => h
 | n :: ns, l, had, us, h => by
  rw [removeF] at h ⊢
  split at h
  ·next i hi => exact remove_perm ns _ _ us h
  ·rw [if_pos (by rfl)] at h; cases h
theorem taken_perm {t : BL} : ∀ (vs seen out us : List BL), takenF S false t vs seen out = .inr us → takenF S true t vs seen out = .inr us
 | [], seen, out, us, h => h
 | v :: vs, seen, out, us, h => by
  rw [takenF] at h ⊢
  split at h
  ·next hc => rw [if_pos hc]; exact taken_perm vs _ _ us h
  ·rw [if_pos (by rfl)] at h; cases h
theorem takenE_perm {t : BL} {vs us : List BL} (h : takenE S false t vs = .inr us) : takenE S true t vs = .inr us := by
 unfold takenE at h ⊢
 split at h
 ·next ha => rw [if_pos ha]; exact taken_perm _ _ _ _ h
 ·cases h
theorem do_perm {op : Int} {e e' : EntryE} {t : BL} {vs : List BL} (h : doE S false op e t vs = .inr e') : doE S true op e t vs = .inr e' := by
 unfold doE at h ⊢
 split at h
 ·next h0 =>
  rw [if_pos h0]
  unfold addE at h ⊢
  split at h
  ·cases h
  ·next l hl => rw [add_perm _ _ _ hl]; exact h
 ·next h0 =>
  rw [if_neg h0]
  split at h
  ·next h1 =>
   rw [if_pos h1]
   unfold removeE at h ⊢
   split at h
   ·next h2 =>
    rw [if_pos h2]
    split at h
    ·cases h
    ·rw [if_neg (by simp)]; exact h
   ·next h2 =>
    rw [if_neg h2]
    split at h
    ·cases h
    ·next l hl => rw [remove_perm _ _ _ _ hl]; exact h
  ·next h1 => rw [if_neg h1]; exact h
theorem one_perm {e e' : EntryE} {m : ModE} (h : oneE S false e m = .inr e') : oneE S true e m = .inr e' := by
 unfold oneE at h ⊢
 split at h
 ·cases h
 ·next h0 =>
  rw [if_neg h0]
  split at h
  ·cases h
  ·next d hd =>
   split at h
   ·cases h
   ·next h1 =>
    rw [if_neg h1]
    split at h
    ·cases h
    ·next h2 =>
     rw [if_neg h2]
     split at h
     ·cases h
     ·next vs hvs =>
      rw [takenE_perm hvs]
      simp only
      split at h
      ·cases h
      ·next e2 he2 =>
       rw [do_perm he2]
       exact h
theorem mods_perm : ∀ (ms : List ModE) (e e' : EntryE), modsE S false ms e = .inr e' → modsE S true ms e = .inr e'
 | [], e, e', h => h
 | m :: ms, e, e', h => by
  rw [modsE] at h ⊢
  split at h
  ·cases h
  ·next e2 h2 => rw [one_perm h2]; exact mods_perm ms e2 e' h
theorem one_twice {e y : EntryE} {m : ModE} (hr : Right0 S e) (hy : Right0 S y) (h : oneE S true e m = .inr y) : oneE S true y m = .inr y := by
 have hcopy := h
 unfold oneE at h ⊢
 split at h
 ·cases h
 ·next h0 =>
  rw [if_neg h0]
  split at h
  ·cases h
  ·next d hd =>
   split at h
   ·cases h
   ·next h1 =>
    rw [if_neg h1]
    split at h
    ·cases h
    ·next h2 =>
     rw [if_neg h2]
     split at h
     ·cases h
     ·next vs hvs =>
      split at h
      ·cases h
      ·next e2 he2 =>
       split at h
       ·cases h
       ·next hlim =>
        cases h
        obtain ⟨o1, o2, o3⟩ := values_right (t := d.name) hr
        have hval : ∀ us, y = setE e d.name us → valuesE y d.name = us := by
         rintro us rfl
         obtain ⟨dn, ats⟩ := e
         by_cases hu : us = []
         ·subst hu
          exact (set_right hr (fun hx => absurd rfl hx)).2
         ·have e1 : oneL d.name us = [⟨d.name, us⟩] := by unfold oneL; rw [if_neg (fun hx => hu (List.isEmpty_iff.1 hx))]
          rcases hit_or ats d.name with ⟨l1, a, l2, rfl, h1, h2⟩ | hm
          ·rw [set_hit h1 h2, e1, List.append_assoc]
           exact (at_hit (a := ⟨d.name, us⟩) rfl h2).2
          ·rw [set_miss hm, e1]
           exact (at_hit (a := ⟨d.name, us⟩) rfl hm).2
        have hdo : doE S true m.op y d.name vs = .inr y := by
         unfold doE at he2 ⊢
         split at he2
         ·next hop =>
          rw [if_pos hop]
          unfold addE at he2 ⊢
          split at he2
          ·cases he2
          ·next l hl =>
           have hyl : y = setE e d.name l := by cases he2; rfl
           have hv := hval l hyl
           have hadd := add_says _ _ _ hl
           rw [hv, add_idle vs l (fun v hvm => ?_)]
           ·simp only
            have := set_self (t := d.name) hy
            rw [hv] at this
            rw [this]
           ·by_cases hc : ((valuesE e d.name).map (normF S d.name)).contains (normF S d.name v) = true
            ·rw [hadd, List.map_append]
             simp only [List.contains_iff_mem, List.mem_append] at hc ⊢
             exact .inl hc
            ·rw [hadd, List.map_append]
             simp only [List.contains_iff_mem, List.mem_append]
             refine .inr (List.mem_map.2 ⟨v, List.mem_filter.2 ⟨hvm, ?_⟩, rfl⟩)
             rw [Bool.eq_false_iff.2 hc]
             rfl
         ·next hop =>
          rw [if_neg hop]
          split at he2
          ·next hop1 =>
           rw [if_pos hop1]
           unfold removeE at he2 ⊢
           split at he2
           ·next hem =>
            rw [if_pos hem, if_neg (by simp)]
            rw [if_neg (by simp)] at he2
            have hyl : y = setE e d.name [] := by cases he2; rfl
            have hv := hval [] hyl
            have := set_self (t := d.name) hy
            rw [hv] at this
            rw [this]
           ·next hem =>
            rw [if_neg hem]
            split at he2
            ·cases he2
            ·next l hl =>
             have hyl : y = setE e d.name l := by cases he2; rfl
             have hv := hval l hyl
             obtain ⟨_, _, _, r4⟩ := remove_says _ _ _ _ rfl o2 hl
             rw [hv, remove_idle _ _ _ r4]
             simp only
             have := set_self (t := d.name) hy
             rw [hv] at this
             rw [this]
          ·next hop1 =>
           rw [if_neg hop1]
           have hyl : y = setE e d.name vs := by cases he2; rfl
           have hv := hval vs hyl
           have := set_self (t := d.name) hy
           rw [hv] at this
           rw [this]
        rw [hdo]
        simp only
        rw [if_neg hlim]
theorem permits_law (hS : SchLaw S) {nm : BL} {l : List AttrE} {e : EntryE} (he : makeE S nm l = (0, e)) (ms : List ModE) :
  (∀ x, applyE S e ms false = (0, x) → applyE S e ms true = (0, x)) ∧ ∀ y, ms.length = 1 → applyE S e ms true = (0, y) → applyE S y ms true = (0, y) := by
 obtain ⟨r1, r2, r3, r4⟩ := make_right hS he
 refine ⟨?_, ?_⟩
 ·intro x hx
  obtain ⟨m1, m2, m3⟩ := apply_ok hx (mods_code _ e)
  exact apply_mk (mods_perm _ _ _ m1) m2 m3
 ·intro y hl hy
  obtain ⟨m1, m2, m3⟩ := apply_ok hy (mods_code _ e)
  obtain ⟨q1, q2⟩ := mods_right hS ms e y r1 m1
  match ms, hl with
  | [m], _ =>
   have h1 : oneE S true e m = .inr y := by
    rw [modsE] at m1
    split at m1
    ·cases m1
    ·next e2 h2 => rw [h2]; rw [modsE] at m1; exact m1
   exact apply_mk (by rw [modsE, one_twice r1.r0 q1.r0 h1]; rfl) m2 m3
end
end Go.Proofs.YtkkbbhlihilnpaaGreatDoor.Ent
namespace Go.Proofs.YtkkbbhlihilnpaaGreatDoor
open Ent
def infoE (a : AttrS) : InfoE := ⟨a.name, a.oid, a.eqr, a.single, a.fixed, a.oper⟩
def classE (c : ClassS) : ClassE := ⟨c.name, c.kind, c.must, c.may⟩
def schE (L : List DefS) : SchE where
 attr t := (attrL L t).map infoE
 norm := normTy L
 sub := isSubD L
 eqn := normE
 first dn := if (parseL dn).1 = 0 then (parseL dn).2.head? else none
 named nm := (keyS L nm).1 == 0
 cls c := (findD L true c).bind fun i => (classD L i).map classE
 above c := match findD L true c with
  | some i => aboveN L i
  | none => []
theorem attr_at {L : List DefS} {t : LU} {a : AttrS} (h : attrL L t = some a) : ∃ j d, findD L false t = some j ∧ L[j]? = some d ∧ d.cls = false ∧ countsD L j = some a ∧ a.oid = d.oid ∧ a.name = d.name := by
 unfold attrL at h
 split at h
 ·cases h
 ·next j hj =>
  obtain ⟨d, hd, hc, _⟩ := findD_at hj
  obtain ⟨e1, e2, _⟩ := countsF_sup _ hd h
  exact ⟨j, d, hj, hd, hc, h, e1, e2⟩
theorem attr_name {L : List DefS} (hN : NewSays L) {j : Nat} {d : DefS} (hd : L[j]? = some d) (hc : d.cls = false) : findD L false d.name = some j ∧ findD L false d.oid = some j :=
 ⟨findD_of hN.keys hd (by have := name_key d; rw [hc] at this; exact this), findD_of hN.keys hd (by have := oid_key d; rw [hc] at this; exact this)⟩
theorem schE_law {L : List DefS} (hN : NewSays L) : SchLaw (schE L) := by
 have one : ∀ t d, (schE L).attr t = some d → ∃ a j D, attrL L t = some a ∧ d = infoE a ∧ findD L false t = some j ∧ L[j]? = some D ∧ D.cls = false ∧ countsD L j = some a ∧ a.oid = D.oid ∧ a.name = D.name := by
  intro t d h
  obtain ⟨a, ha, hd⟩ := Option.map_eq_some_iff.1 h
  obtain ⟨j, D, h1, h2, h3, h4, h5, h6⟩ := attr_at ha
  exact ⟨a, j, D, ha, hd.symm, h1, h2, h3, h4, h5, h6⟩
 have same : ∀ t u d, (schE L).attr t = some d → (schE L).attr u = some d → findD L false t = findD L false u := by
  intro t u d h1 h2
  obtain ⟨a, j, D, _, ha, f1, f2, f3, _, f5, _⟩ := one t d h1
  obtain ⟨b, k, E, _, hb, g1, g2, g3, _, g5, _⟩ := one u d h2
  have ho : D.oid = E.oid := by
   have : d.oid = a.oid := by rw [ha]; rfl
   have : d.oid = b.oid := by rw [hb]; rfl
   rw [← f5, ← g5]
   simp_all
  have q1 := (attr_name hN f2 f3).2
  have q2 := (attr_name hN g2 g3).2
  rw [ho, q2] at q1
  rw [f1, g1]
  exact q1.symm
 refine ⟨?_, ?_, ?_, ?_, ?_, ?_, ?_⟩
 ·intro t d h
  obtain ⟨a, j, D, _, ha, f1, f2, f3, f4, f5, f6⟩ := one t d h
  have q := (attr_name hN f2 f3).1
  rw [ha]
  show (attrL L a.name).map infoE = _
  unfold attrL
  rw [f6, q]
  simp only
  rw [f4]
  rfl
 ·intro t d h
  obtain ⟨a, j, D, _, ha, f1, f2, f3, f4, f5, f6⟩ := one t d h
  have q := (attr_name hN f2 f3).2
  rw [ha]
  show (attrL L a.oid).map infoE = _
  unfold attrL
  rw [f5, q]
  simp only
  rw [f4]
  rfl
 ·intro t u v h
  show normTy L t v = normTy L u v
  cases ht : (schE L).attr t with
  | some d =>
   unfold normTy
   rw [same t u d ht (h ▸ ht)]
  | none =>
   have hu : (schE L).attr u = none := h ▸ ht
   have no : ∀ x, (schE L).attr x = none → normTy L x v = (52, []) := by
    intro x hx
    have hx' : attrL L x = none := Option.map_eq_none_iff.1 hx
    unfold attrL at hx'
    unfold normTy
    cases hf : findD L false x with
    | none => rfl
    | some i =>
     rw [hf] at hx'
     simp only at hx' ⊢
     rw [hx']
   rw [no t ht, no u hu]
 ·intro t v h
  change (normTy L t v).1 = 0 at h
  show ((attrL L t).map infoE).isSome = true
  unfold normTy at h
  unfold attrL
  cases hf : findD L false t with
  | none => rw [hf] at h; cases h
  | some i =>
   rw [hf] at h
   simp only at h ⊢
   cases hc : countsD L i with
   | none => rw [hc] at h; cases h
   | some a => rfl
 ·intro t u d h1 h2
  obtain ⟨a, j, D, _, ha, f1, f2, f3, f4, f5, f6⟩ := one t d h1
  have hs := same t u d h1 h2
  show isSubD L t u = true
  unfold isSubD
  rw [← hs, f1]
  simp only
  rw [List.contains_iff_mem]
  exact (aboveD_iff (findD_lt f1) j).2 (.refl _)
 ·intro t d v h hq hok
  obtain ⟨a, j, D, _, ha, f1, f2, f3, f4, f5, f6⟩ := one t d h
  change (normTy L t v).1 = 0 at hok
  show (normTy L t v).2 = v
  unfold normTy at hok ⊢
  rw [f1] at hok ⊢
  simp only at hok ⊢
  rw [f4] at hok ⊢
  simp only at hok ⊢
  have hq' : a.eqr = [] := by rw [ha] at hq; exact hq
  split
  ·next hv => rw [if_pos (by rw [hq']; rfl)]
  ·next hv => rw [if_neg hv] at hok; cases hok
 ·intro t d v h hq hok
  obtain ⟨a, j, D, _, ha, f1, f2, f3, f4, f5, f6⟩ := one t d h
  change (normTy L t v).1 = 0 at hok
  show normTy L t v = normE d.eqr v
  unfold normTy at hok ⊢
  rw [f1] at hok ⊢
  simp only at hok ⊢
  rw [f4] at hok ⊢
  simp only at hok ⊢
  have hq' : a.eqr ≠ [] := by rw [ha] at hq; exact hq
  split
  ·next hv =>
   rw [if_neg (by simpa using hq'), ha]
   rfl
  ·next hv => rw [if_neg hv] at hok; cases hok
end Go.Proofs.YtkkbbhlihilnpaaGreatDoor
