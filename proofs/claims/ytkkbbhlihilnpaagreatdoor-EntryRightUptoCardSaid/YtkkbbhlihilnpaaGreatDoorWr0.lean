import Init
import Derived.Test.YtkkbbhlihilnpaaGreatDoorWvd5
set_option linter.all false
set_option maxHeartbeats 8000000
namespace Go.Proofs.YtkkbbhlihilnpaaGreatDoor.Ent
abbrev BL := List UInt8
structure InfoE where
 name : BL
 oid : BL
 eqr : BL
 single : Bool
 fixed : Bool
 oper : Bool
structure AttrE where
 typ : BL
 vals : List BL
 deriving DecidableEq
structure EntryE where
 dn : BL
 attrs : List AttrE
 deriving DecidableEq
structure ClassE where
 name : BL
 kind : Int
 must : List BL
 may : List BL
structure ModE where
 op : Int
 typ : BL
 vals : List BL
structure SchE where
 attr : BL → Option InfoE
 norm : BL → BL → Int × BL
 sub : BL → BL → Bool
 eqn : BL → BL → Int × BL
 first : BL → Option (List (BL × BL))
 named : BL → Bool
 cls : BL → Option ClassE
 above : BL → List BL
structure SchLaw (S : SchE) : Prop where
 nameSame : ∀ t d, S.attr t = some d → S.attr d.name = some d
 oidSame : ∀ t d, S.attr t = some d → S.attr d.oid = some d
 normSame : ∀ t u v, S.attr t = S.attr u → S.norm t v = S.norm u v
 normAttr : ∀ t v, (S.norm t v).1 = 0 → (S.attr t).isSome = true
 subSame : ∀ t u d, S.attr t = some d → S.attr u = some d → S.sub t u = true
 eqNone : ∀ t d v, S.attr t = some d → d.eqr = [] → (S.norm t v).1 = 0 → (S.norm t v).2 = v
 eqSome : ∀ t d v, S.attr t = some d → d.eqr ≠ [] → (S.norm t v).1 = 0 → S.norm t v = S.eqn d.eqr v
def zeroE : EntryE := ⟨[], []⟩
section
variable (S : SchE)
def nameE (t : BL) : BL := match S.attr t with
 | some d => d.name
 | none => []
def normF (t v : BL) : BL := (S.norm t v).2
def okF (t v : BL) : Bool := (S.norm t v).1 == 0
def formsE (t : BL) (vs : List BL) : Option (List BL) := if vs.all (okF S t) then some (vs.map (normF S t)) else none
def twiceE : List BL → Bool
 | [] => false
 | x :: l => l.contains x || twiceE l
def haveE (e : EntryE) : List (BL × BL) := e.attrs.flatMap fun a => ((formsE S a.typ a.vals).getD []).map fun n => (a.typ, n)
def ownE (e : EntryE) : Bool := match S.first e.dn with
 | none => false
 | some ps => ps.all fun p => (haveE S e).contains (nameE S p.1, normF S p.1 p.2)
def attrE (a : AttrE) (had : List AttrE) : Int ⊕ AttrE := match S.attr a.typ with
 | none => .inl 17
 | some d => if a.vals.isEmpty then .inl 2 else if 200 < a.vals.length then .inl 19 else match formsE S d.name a.vals with
  | none => .inl 21
  | some l => if had.any (fun b => b.typ == d.name) || twiceE l then .inl 20 else .inr ⟨d.name, a.vals⟩
def makeF : List AttrE → List AttrE → Int ⊕ List AttrE
 | [], acc => .inr acc
 | a :: l, acc => match attrE S a acc with
  | .inl c => .inl c
  | .inr b => makeF l (acc ++ [b])
def makeE (nm : BL) (l : List AttrE) : Int × EntryE := if !S.named nm then (34, zeroE) else if 100 < l.length then (19, zeroE) else match makeF S l [] with
 | .inl c => (c, zeroE)
 | .inr ats => if ownE S ⟨nm, ats⟩ then (0, ⟨nm, ats⟩) else (64, zeroE)
def findE (e : EntryE) (t : BL) : List BL := e.attrs.flatMap fun a => if S.sub a.typ t then a.vals else []
def hasOne (q want v : BL) : Bool := if q.isEmpty then v == want else (S.eqn q v).1 == 0 && (S.eqn q v).2 == want
def eqrE (t : BL) : BL := match S.attr t with
 | some d => d.eqr
 | none => []
def hasE (e : EntryE) (t v : BL) : Bool := okF S t v && (findE S e t).any (hasOne S (eqrE S t) (normF S t v))
def wObj : BL := [111, 98, 106, 101, 99, 116, 67, 108, 97, 115, 115]
def lowL (e : EntryE) : List BL := (findE S e wObj).filterMap fun c => match S.cls c with
 | some d => if d.kind == 1 then some d.name else none
 | none => none
def lowestE (e : EntryE) : BL := ((lowL S e).find? fun c => !((lowL S e).any fun o => !(S.above c).contains o)).getD []
def mustMayE : List BL → List BL → List BL → Option (List BL × List BL)
 | [], must, may => some (must, may)
 | c :: l, must, may => match S.cls c with
  | none => none
  | some d => mustMayE l (must ++ d.must) (may ++ d.may)
def operE (t : BL) : Bool := match S.attr t with
 | some d => d.oper
 | none => false
def singleE (t : BL) : Bool := match S.attr t with
 | some d => d.single
 | none => false
def checkF (must may : List BL) : List AttrE → Int
 | [] => 0
 | a :: l => if !operE S a.typ && !must.contains (nameE S a.typ) && !may.contains (nameE S a.typ) then 65 else if singleE S a.typ && decide (1 < a.vals.length) then 19 else checkF must may l
def checkE (e : EntryE) : Int := match mustMayE S (findE S e wObj) [] [] with
 | none => 65
 | some (must, may) => if (lowestE S e).isEmpty || must.any (fun t => (findE S e t).isEmpty) then 65 else checkF S must may e.attrs
def atE (e : EntryE) (t : BL) : Option Nat := e.attrs.findIdx? fun a => a.typ == t
def valuesE (e : EntryE) (t : BL) : List BL := match e.attrs.find? (fun a => a.typ == t) with
 | some a => a.vals
 | none => []
def setE (e : EntryE) (t : BL) (vs : List BL) : EntryE := match atE e t with
 | some i => if vs.isEmpty then ⟨e.dn, e.attrs.eraseIdx i⟩ else ⟨e.dn, e.attrs.set i ⟨t, vs⟩⟩
 | none => if vs.isEmpty then e else ⟨e.dn, e.attrs ++ [⟨t, vs⟩]⟩
structure RightA (a : AttrE) : Prop where
 known : ∃ d, S.attr a.typ = some d ∧ d.name = a.typ
 some : a.vals ≠ []
 ok : ∀ v ∈ a.vals, okF S a.typ v = true
 once : (a.vals.map (normF S a.typ)).Nodup
 few : a.vals.length ≤ 200
structure RightE (e : EntryE) : Prop where
 all : ∀ a ∈ e.attrs, RightA S a
 once : (e.attrs.map AttrE.typ).Nodup
 few : e.attrs.length ≤ 100
variable {S}
theorem forms_some {t : BL} {vs l : List BL} (h : formsE S t vs = some l) : (∀ v ∈ vs, okF S t v = true) ∧ l = vs.map (normF S t) := by
 unfold formsE at h
 split at h
 ·next h1 => cases h; exact ⟨List.all_eq_true.1 h1, rfl⟩
 ·cases h
theorem forms_mk {t : BL} {vs : List BL} (h : ∀ v ∈ vs, okF S t v = true) : formsE S t vs = some (vs.map (normF S t)) := by
 unfold formsE
 rw [if_pos (List.all_eq_true.2 h)]
theorem twice_iff : ∀ l : List BL, twiceE l = false ↔ l.Nodup
 | [] => by simp [twiceE]
 | x :: l => by
  rw [twiceE, Bool.or_eq_false_iff, twice_iff l, List.nodup_cons]
  constructor
  ·rintro ⟨h1, h2⟩
   exact ⟨by simpa using h1, h2⟩
  ·rintro ⟨h1, h2⟩
   exact ⟨by simpa using h1, h2⟩
theorem attr_right (hS : SchLaw S) {a b : AttrE} {had : List AttrE} (h : attrE S a had = .inr b) : RightA S b ∧ b.typ ∉ had.map AttrE.typ := by
 unfold attrE at h
 split at h
 ·cases h
 ·next d hd =>
  split at h
  ·cases h
  ·next h1 =>
   split at h
   ·cases h
   ·next h2 =>
    split at h
    ·cases h
    ·next l hl =>
     split at h
     ·cases h
     ·next h3 =>
      cases h
      obtain ⟨f1, f2⟩ := forms_some hl
      rw [Bool.or_eq_true, not_or] at h3
      refine ⟨⟨⟨d, hS.nameSame _ _ hd, rfl⟩, by intro h; exact h1 (by simp only at h; rw [h]; rfl), f1, ?_, by simp only; omega⟩, ?_⟩
      ·have := (twice_iff l).1 (by simpa using h3.2)
       rw [f2] at this
       exact this
      ·intro hm
       obtain ⟨b, hb, hbt⟩ := List.mem_map.1 hm
       exact h3.1 (List.any_eq_true.2 ⟨b, hb, by simp only at hbt; rw [hbt]; simp⟩)
theorem attr_again {a : AttrE} (ha : RightA S a) {had : List AttrE} (h : a.typ ∉ had.map AttrE.typ) : attrE S a had = .inr a := by
 obtain ⟨d, hd, hn⟩ := ha.known
 unfold attrE
 rw [hd]
 simp only
 rw [if_neg (by intro hx; exact ha.some (List.isEmpty_iff.1 hx)), if_neg (by have := ha.few; omega), hn, forms_mk ha.ok]
 simp only
 rw [if_neg]
 rw [Bool.or_eq_true, not_or]
 refine ⟨?_, by rw [(twice_iff _).2 ha.once]; simp⟩
 intro hx
 obtain ⟨b, hb, hbt⟩ := List.any_eq_true.1 hx
 exact h (List.mem_map.2 ⟨b, hb, by simpa using hbt⟩)
theorem makeF_right (hS : SchLaw S) : ∀ (l acc ats : List AttrE), (∀ a ∈ acc, RightA S a) → (acc.map AttrE.typ).Nodup → makeF S l acc = .inr ats → (∀ a ∈ ats, RightA S a) ∧ (ats.map AttrE.typ).Nodup ∧ ats.length = acc.length + l.length
 | [], acc, ats, h1, h2, h => by
  cases h
  exact ⟨h1, h2, by simp⟩
 | a :: l, acc, ats, h1, h2, h => by
  rw [makeF] at h
  split at h
  ·cases h
  ·next b hb =>
   obtain ⟨r1, r2⟩ := attr_right hS hb
   have := makeF_right hS l (acc ++ [b]) ats (by
    intro x hx
    rcases List.mem_append.1 hx with hx | hx
    ·exact h1 x hx
    ·rw [List.mem_singleton.1 hx]; exact r1) (by
    rw [List.map_append, List.nodup_append]
    refine ⟨h2, by simp, ?_⟩
    intro x hx y hy
    simp only [List.map_cons, List.map_nil, List.mem_singleton] at hy
    rw [hy]
    intro he
    exact r2 (he ▸ hx)) h
   refine ⟨this.1, this.2.1, ?_⟩
   rw [this.2.2]
   simp only [List.length_append, List.length_cons, List.length_nil]
   omega
theorem makeF_again : ∀ (l acc : List AttrE), (∀ a ∈ l, RightA S a) → ((acc ++ l).map AttrE.typ).Nodup → makeF S l acc = .inr (acc ++ l)
 | [], acc, _, _ => by rw [makeF, List.append_nil]
 | a :: l, acc, h1, h2 => by
  have hn : a.typ ∉ acc.map AttrE.typ := by
   rw [List.map_append, List.nodup_append] at h2
   intro hm
   exact h2.2.2 _ hm _ (List.mem_map.2 ⟨a, List.mem_cons_self .., rfl⟩) rfl
  rw [makeF, attr_again (h1 a (List.mem_cons_self ..)) hn]
  simp only
  rw [makeF_again l (acc ++ [a]) (fun x hx => h1 x (List.mem_cons_of_mem _ hx)) (by rw [List.append_assoc]; exact h2), List.append_assoc]
  rfl
theorem make_right (hS : SchLaw S) {nm : BL} {l : List AttrE} {e : EntryE} (h : makeE S nm l = (0, e)) : RightE S e ∧ ownE S e = true ∧ e.dn = nm ∧ S.named nm = true := by
 unfold makeE at h
 split at h
 ·cases h
 ·next h0 =>
  split at h
  ·cases h
  ·next h1 =>
   split at h
   ·next c hc =>
    exfalso
    have hz : c = 0 := by cases h; rfl
    subst hz
    have : ∀ (l acc : List AttrE), makeF S l acc ≠ .inl 0 := by
     intro l
     induction l with
     | nil => intro acc h; cases h
     | cons a l ih =>
      intro acc h
      rw [makeF] at h
      split at h
      ·next c hc =>
       cases h
       unfold attrE at hc
       split at hc
       ·cases hc
       ·split at hc
        ·cases hc
        ·split at hc
         ·cases hc
         ·split at hc
          ·cases hc
          ·split at hc <;> cases hc
      ·exact ih _ h
    exact this _ _ hc
   ·next ats has =>
    split at h
    ·next ho =>
     cases h
     obtain ⟨r1, r2, r3⟩ := makeF_right hS l [] ats (by simp) (by simp) has
     refine ⟨⟨r1, r2, ?_⟩, ho, rfl, by simpa using h0⟩
     simp only [List.length_nil] at r3 ⊢
     omega
    ·cases h
theorem make_code {nm : BL} {l : List AttrE} (h : (makeE S nm l).1 ≠ 0) : (makeE S nm l).2 = zeroE := by
 unfold makeE at h ⊢
 split
 ·rfl
 ·split
  ·rfl
  ·split
   ·rfl
   ·next ats has =>
    split
    ·next ho => simp_all
    ·rfl
theorem make_again {e : EntryE} (hr : RightE S e) (ho : ownE S e = true) (hn : S.named e.dn = true) : makeE S e.dn e.attrs = (0, e) := by
 unfold makeE
 rw [if_neg (by rw [hn]; simp), if_neg (by have := hr.few; omega), makeF_again e.attrs [] hr.all (by simpa using hr.once)]
 simp only [List.nil_append]
 rw [if_pos ho]
theorem ok_norm {t v : BL} : okF S t v = true ↔ (S.norm t v).1 = 0 := by unfold okF; simp
theorem has_of (hS : SchLaw S) {e : EntryE} {a : AttrE} {d : InfoE} {t v u : BL} (ha : a ∈ e.attrs) (hd : S.attr a.typ = some d) (ht : S.attr t = some d) (hu : u ∈ a.vals) (hok : okF S t u = true) (hv : okF S t v = true) (hsame : normF S t u = normF S t v) : hasE S e t v = true := by
 unfold hasE
 rw [hv, Bool.true_and]
 refine List.any_eq_true.2 ⟨u, ?_, ?_⟩
 ·unfold findE
  refine List.mem_flatMap.2 ⟨a, ha, ?_⟩
  rw [if_pos (hS.subSame _ _ _ hd ht)]
  exact hu
 ·have he : eqrE S t = d.eqr := by unfold eqrE; rw [ht]
  unfold hasOne
  rw [he]
  by_cases hq : d.eqr = []
  ·rw [if_pos (by rw [hq]; rfl)]
   have := hS.eqNone t d u ht hq (ok_norm.1 hok)
   unfold normF at hsame ⊢
   rw [← hsame, this]
   simp
  ·rw [if_neg (by intro h; exact hq (List.isEmpty_iff.1 h)), ← hS.eqSome t d u ht hq (ok_norm.1 hok)]
   unfold normF at hsame ⊢
   rw [ok_norm.1 hok, hsame]
   simp
structure Right0 (S : SchE) (e : EntryE) : Prop where
 all : ∀ a ∈ e.attrs, RightA S a
 once : (e.attrs.map AttrE.typ).Nodup
theorem RightE.r0 {e : EntryE} (h : RightE S e) : Right0 S e := ⟨h.all, h.once⟩
theorem hit_or (l : List AttrE) (t : BL) : (∃ l1 a l2, l = l1 ++ a :: l2 ∧ a.typ = t ∧ t ∉ l1.map AttrE.typ) ∨ t ∉ l.map AttrE.typ := by
 induction l with
 | nil => exact .inr (by simp)
 | cons b l ih =>
  by_cases hb : b.typ = t
  ·exact .inl ⟨[], b, l, rfl, hb, by simp⟩
  ·rcases ih with ⟨l1, a, l2, rfl, h1, h2⟩ | h
   ·refine .inl ⟨b :: l1, a, l2, rfl, h1, ?_⟩
    simp only [List.map_cons, List.mem_cons, not_or]
    exact ⟨fun h => hb h.symm, h2⟩
   ·refine .inr ?_
    simp only [List.map_cons, List.mem_cons, not_or]
    exact ⟨fun h => hb h.symm, h⟩
theorem at_hit {dn t : BL} {l1 l2 : List AttrE} {a : AttrE} (ha : a.typ = t) (h1 : t ∉ l1.map AttrE.typ) : atE ⟨dn, l1 ++ a :: l2⟩ t = some l1.length ∧ valuesE ⟨dn, l1 ++ a :: l2⟩ t = a.vals := by
 unfold atE valuesE
 simp only
 induction l1 with
 | nil => refine ⟨?_, ?_⟩ <;> simp [List.findIdx?_cons, ha]
 | cons b l ih =>
  simp only [List.map_cons, List.mem_cons, not_or] at h1
  have hb : (b.typ == t) = false := beq_eq_false_iff_ne.2 (fun h => h1.1 h.symm)
  obtain ⟨i1, i2⟩ := ih h1.2
  rw [List.cons_append, List.findIdx?_cons, List.find?_cons, hb, i1]
  simp only [Bool.false_eq_true, if_false]
  exact ⟨rfl, i2⟩
theorem at_miss {e : EntryE} {t : BL} (h : t ∉ e.attrs.map AttrE.typ) : atE e t = none ∧ valuesE e t = [] := by
 unfold atE valuesE
 have hx : ∀ a ∈ e.attrs, (a.typ == t) = false := fun a ha => beq_eq_false_iff_ne.2 (fun he => h (List.mem_map.2 ⟨a, ha, he⟩))
 refine ⟨?_, ?_⟩
 ·rw [List.findIdx?_eq_none_iff]
  exact fun a ha => by rw [hx a ha]
 ·have : e.attrs.find? (fun a => a.typ == t) = none := by
   rw [List.find?_eq_none]
   exact fun a ha => by rw [hx a ha]; simp
  rw [this]
def oneL (t : BL) (vs : List BL) : List AttrE := if vs.isEmpty then [] else [⟨t, vs⟩]
theorem set_hit {dn t : BL} {l1 l2 : List AttrE} {a : AttrE} (ha : a.typ = t) (h1 : t ∉ l1.map AttrE.typ) (vs : List BL) : setE ⟨dn, l1 ++ a :: l2⟩ t vs = ⟨dn, l1 ++ oneL t vs ++ l2⟩ := by
 unfold setE oneL
 rw [(at_hit ha h1).1]
 simp only
 split
 ·congr 1
  rw [List.eraseIdx_append_of_length_le (Nat.le_refl _)]
  simp
 ·congr 1
  rw [List.set_append_right _ _ (Nat.le_refl _)]
  simp
theorem set_miss {e : EntryE} {t : BL} (h : t ∉ e.attrs.map AttrE.typ) (vs : List BL) : setE e t vs = ⟨e.dn, e.attrs ++ oneL t vs⟩ := by
 unfold setE oneL
 rw [(at_miss h).1]
 simp only
 split
 ·simp
 ·rfl
theorem set_set {e : EntryE} {t : BL} {vs us : List BL} (hr : Right0 S e) (hv : valuesE e t = us) (hnv : vs ≠ []) : setE (setE e t vs) t us = e := by
 obtain ⟨dn, ats⟩ := e
 have e1 : oneL t vs = [⟨t, vs⟩] := by unfold oneL; rw [if_neg (fun hx => hnv (List.isEmpty_iff.1 hx))]
 rcases hit_or ats t with ⟨l1, a, l2, rfl, h1, h2⟩ | hm
 ·rw [(at_hit h1 h2).2] at hv
  have ha := (hr.all a (by simp)).some
  rw [set_hit h1 h2, e1, List.append_assoc]
  show setE ⟨dn, l1 ++ (⟨t, vs⟩ : AttrE) :: l2⟩ t us = _
  rw [set_hit (a := ⟨t, vs⟩) rfl h2, ← hv]
  unfold oneL
  rw [if_neg (fun hx => ha (List.isEmpty_iff.1 hx)), List.append_assoc]
  obtain ⟨ty, vs'⟩ := a
  simp only at h1 ⊢
  rw [h1]
  rfl
 ·rw [(at_miss hm).2] at hv
  rw [show setE ⟨dn, ats⟩ t vs = ⟨dn, ats ++ oneL t vs⟩ from set_miss hm vs, e1]
  show setE ⟨dn, ats ++ (⟨t, vs⟩ : AttrE) :: []⟩ t us = _
  rw [set_hit (a := ⟨t, vs⟩) rfl hm, ← hv]
  show (⟨dn, ats ++ [] ++ []⟩ : EntryE) = _
  rw [List.append_nil, List.append_nil]
theorem right_law (hS : SchLaw S) {nm : BL} {l : List AttrE} {e : EntryE} (he : makeE S nm l = (0, e)) : RightE S e ∧ makeE S e.dn e.attrs = (0, e) ∧ ∀ a ∈ e.attrs, ∀ d, S.attr a.typ = some d → ∀ v ∈ a.vals, hasE S e d.oid v = true := by
 obtain ⟨r1, r2, r3, r4⟩ := make_right hS he
 refine ⟨r1, make_again r1 r2 (by rw [r3]; exact r4), ?_⟩
 intro a ha d hd v hv
 have hod := hS.oidSame _ _ hd
 have hok := (r1.all a ha).ok v hv
 have hns : S.norm d.oid v = S.norm a.typ v := hS.normSame _ _ _ (by rw [hod, hd])
 have hok2 : okF S d.oid v = true := by unfold okF at hok ⊢; rw [hns]; exact hok
 exact has_of hS ha hd hod hv hok2 hok2 rfl
end
end Go.Proofs.YtkkbbhlihilnpaaGreatDoor.Ent
namespace Go.Proofs.YtkkbbhlihilnpaaGreatDoor
open Ent
def infoE (a : AttrS) : InfoE := ⟨a.name, a.oid, a.eqr, a.single, a.fixed, a.oper⟩
def classE (c : ClassS) : ClassE := ⟨c.name, c.kind, c.must, c.may⟩
def schE (L : List DefS) : SchE where
 attr t := (attrL L t).map infoE
 norm := normTy L
 sub := isSubD L
 eqn := normE
 first dn := if (parseL dn).1 = 0 then (parseL dn).2.head? else none
 named nm := (keyS L nm).1 == 0
 cls c := (findD L true c).bind fun i => (classD L i).map classE
 above c := match findD L true c with
  | some i => aboveN L i
  | none => []
theorem attr_at {L : List DefS} {t : List UInt8} {a : AttrS} (h : attrL L t = some a) : ∃ j d, findD L false t = some j ∧ L[j]? = some d ∧ d.cls = false ∧ countsD L j = some a ∧ a.oid = d.oid ∧ a.name = d.name := by
 unfold attrL at h
 split at h
 ·cases h
 ·next j hj =>
  obtain ⟨d, hd, hc, _⟩ := findD_at hj
  obtain ⟨e1, e2, _⟩ := countsF_sup _ hd h
  exact ⟨j, d, hj, hd, hc, h, e1, e2⟩
theorem attr_name {L : List DefS} (hN : NewSays L) {j : Nat} {d : DefS} (hd : L[j]? = some d) (hc : d.cls = false) : findD L false d.name = some j ∧ findD L false d.oid = some j :=
 ⟨findD_of hN.keys hd (by have := name_key d; rw [hc] at this; exact this), findD_of hN.keys hd (by have := oid_key d; rw [hc] at this; exact this)⟩
theorem schE_law {L : List DefS} (hN : NewSays L) : SchLaw (schE L) := by
 have one : ∀ t d, (schE L).attr t = some d → ∃ a j D, attrL L t = some a ∧ d = infoE a ∧ findD L false t = some j ∧ L[j]? = some D ∧ D.cls = false ∧ countsD L j = some a ∧ a.oid = D.oid ∧ a.name = D.name := by
  intro t d h
  obtain ⟨a, ha, hd⟩ := Option.map_eq_some_iff.1 h
  obtain ⟨j, D, h1, h2, h3, h4, h5, h6⟩ := attr_at ha
  exact ⟨a, j, D, ha, hd.symm, h1, h2, h3, h4, h5, h6⟩
 have same : ∀ t u d, (schE L).attr t = some d → (schE L).attr u = some d → findD L false t = findD L false u := by
  intro t u d h1 h2
  obtain ⟨a, j, D, _, ha, f1, f2, f3, _, f5, _⟩ := one t d h1
  obtain ⟨b, k, E, _, hb, g1, g2, g3, _, g5, _⟩ := one u d h2
  have ho : D.oid = E.oid := by
   have : d.oid = a.oid := by rw [ha]; rfl
   have : d.oid = b.oid := by rw [hb]; rfl
   rw [← f5, ← g5]
   simp_all
  have q1 := (attr_name hN f2 f3).2
  have q2 := (attr_name hN g2 g3).2
  rw [ho, q2] at q1
  rw [f1, g1]
  exact q1.symm
 refine ⟨?_, ?_, ?_, ?_, ?_, ?_, ?_⟩
 ·intro t d h
  obtain ⟨a, j, D, _, ha, f1, f2, f3, f4, f5, f6⟩ := one t d h
  have q := (attr_name hN f2 f3).1
  rw [ha]
  show (attrL L a.name).map infoE = _
  unfold attrL
  rw [f6, q]
  simp only
  rw [f4]
  rfl
 ·intro t d h
  obtain ⟨a, j, D, _, ha, f1, f2, f3, f4, f5, f6⟩ := one t d h
  have q := (attr_name hN f2 f3).2
  rw [ha]
  show (attrL L a.oid).map infoE = _
  unfold attrL
  rw [f5, q]
  simp only
  rw [f4]
  rfl
 ·intro t u v h
  show normTy L t v = normTy L u v
  cases ht : (schE L).attr t with
  | some d =>
   unfold normTy
   rw [same t u d ht (h ▸ ht)]
  | none =>
   have hu : (schE L).attr u = none := h ▸ ht
   have no : ∀ x, (schE L).attr x = none → normTy L x v = (52, []) := by
    intro x hx
    have hx' : attrL L x = none := Option.map_eq_none_iff.1 hx
    unfold attrL at hx'
    unfold normTy
    cases hf : findD L false x with
    | none => rfl
    | some i =>
     rw [hf] at hx'
     simp only at hx' ⊢
     rw [hx']
   rw [no t ht, no u hu]
 ·intro t v h
  change (normTy L t v).1 = 0 at h
  show ((attrL L t).map infoE).isSome = true
  unfold normTy at h
  unfold attrL
  cases hf : findD L false t with
  | none => rw [hf] at h; cases h
  | some i =>
   rw [hf] at h
   simp only at h ⊢
   cases hc : countsD L i with
   | none => rw [hc] at h; cases h
   | some a => rfl
 ·intro t u d h1 h2
  obtain ⟨a, j, D, _, ha, f1, f2, f3, f4, f5, f6⟩ := one t d h1
  have hs := same t u d h1 h2
  show isSubD L t u = true
  unfold isSubD
  rw [← hs, f1]
  simp only
  rw [List.contains_iff_mem]
  exact (aboveD_iff (findD_lt f1) j).2 (.refl _)
 ·intro t d v h hq hok
  obtain ⟨a, j, D, _, ha, f1, f2, f3, f4, f5, f6⟩ := one t d h
  change (normTy L t v).1 = 0 at hok
  show (normTy L t v).2 = v
  unfold normTy at hok ⊢
  rw [f1] at hok ⊢
  simp only at hok ⊢
  rw [f4] at hok ⊢
  simp only at hok ⊢
  have hq' : a.eqr = [] := by rw [ha] at hq; exact hq
  split
  ·next hv => rw [if_pos (by rw [hq']; rfl)]
  ·next hv => rw [if_neg hv] at hok; cases hok
 ·intro t d v h hq hok
  obtain ⟨a, j, D, _, ha, f1, f2, f3, f4, f5, f6⟩ := one t d h
  change (normTy L t v).1 = 0 at hok
  show normTy L t v = normE d.eqr v
  unfold normTy at hok ⊢
  rw [f1] at hok ⊢
  simp only at hok ⊢
  rw [f4] at hok ⊢
  simp only at hok ⊢
  have hq' : a.eqr ≠ [] := by rw [ha] at hq; exact hq
  split
  ·next hv =>
   rw [if_neg (by simpa using hq'), ha]
   rfl
  ·next hv => rw [if_neg hv] at hok; cases hok
end Go.Proofs.YtkkbbhlihilnpaaGreatDoor
