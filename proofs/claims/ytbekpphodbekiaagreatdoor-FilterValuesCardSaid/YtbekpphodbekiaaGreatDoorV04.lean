import Derived.Test.YtbekpphodbekiaaGreatDoorV03
import Derived.StillTailTactics
set_option linter.all false
set_option maxHeartbeats 8000000
set_option maxRecDepth 100000
namespace Go.Proofs.YtbekpphodbekiaaGreatDoor
theorem qu_:∀ (N:Nat) (l:List Nat),l.Nodup→(∀ x∈l,x<N)→l.length≤N
 |0,l,_,h=>by
  cases l with
  |nil=>simp
  |cons x t=>exact absurd (h x (by simp)) (by omega)
 |N+1,l,hn,h=>by
  by_cases hm:N∈l
  ·have h1:=qu_ N (l.erase N) (hn.erase N) (fun x hx=>by
    have h2:=h x (List.mem_of_mem_erase hx)
    have h3:x≠N:=by
     intro e
     subst e
     exact(hn.not_mem_erase) hx
    omega)
   have h4:=List.length_erase_of_mem hm
   omega
  ·have h1:=qu_ N l hn (fun x hx=>by
    have h2:=h x hx
    have h3:x≠N:=by rintro rfl;exact hm hx
    omega)
   omega
def ks_ (L:List DefS) (i:Nat):List Nat:=match L[i]? with
 |none=>[]
 |some d=>d.sup.filterMap fun nm=>zg_ L d.cls nm
theorem vq_ (f:Nat→List Nat→List Nat) (g:LU→Option Nat):∀ (s:LL) (acc:List Nat),
  s.foldl (fun l nm=>match g nm with
   |none=>l
   |some j=>f j l) acc=(s.filterMap g).foldl (fun l j=>f j l) acc
 |[],acc=>rfl
 |x::s,acc=>by
  rw[List.foldl_cons,List.filterMap_cons]
  cases hg:g x with
  |none=>exact vq_ f g s acc
  |some j=>exact vq_ f g s _
theorem zbv_ (L:List DefS) (n i:Nat) (l:List Nat):j2_ L (n+1) i l=if l.contains i then l else (ks_ L i).foldl (fun l j=>j2_ L n j l) (l++[i]):=by
 rw[j2_]
 split
 ·rfl
 ·unfold ks_
  cases L[i]? with
  |none=>rfl
  |some d=>exact vq_ (fun j l=>j2_ L n j l) (fun nm=>zg_ L d.cls nm) d.sup _
theorem y4_ {L:List DefS} {c:Bool} {n:LU} {j:Nat} (h:zg_ L c n=some j):j<L.length:=by
 unfold zg_ at h
 exact(List.findIdx?_eq_some_iff_getElem.1 h).1
theorem zd6_ {L:List DefS} {i j:Nat} (h:j∈ks_ L i):j<L.length:=by
 unfold ks_ at h
 split at h
 ·simp at h
 ·obtain⟨n,_,hf⟩:=List.mem_filterMap.1 h
  exact y4_ hf
inductive Reach (L:List DefS):Nat→Nat→Prop
 |refl (i:Nat):Reach L i i
 |step {i u j:Nat} (h:u∈ks_ L i) (t:Reach L u j):Reach L i j
theorem Reach.trans {L:List DefS} {i j k:Nat} (h:Reach L i j) (t:Reach L j k):Reach L i k:=by
 induction h with
 |refl=>exact t
 |step h _ ih=>exact .step h (ih t)
theorem Reach.lt {L:List DefS} {i j:Nat} (h:Reach L i j) (hi:i<L.length):j<L.length:=by
 induction h with
 |refl=>exact hi
 |step h _ ih=>exact ih (zd6_ h)
structure AboveSays (L:List DefS) (i:Nat) (l R:List Nat):Prop where
 grown:∃ t,R=l++t
 nodup:R.Nodup
 lt:∀ v∈R,v<L.length
 self:i∈R
 closed:∀ v∈R,v ∉ l→∀ u∈ks_ L v,u∈R
 reach:∀ v∈R,v∈l∨Reach L i v
theorem z00_ (L:List DefS):∀ (n i:Nat) (l:List Nat),l.Nodup→(∀ v∈l,v<L.length)→i<L.length→L.length+1≤n+l.length→AboveSays L i l (j2_ L n i l)
 |0,i,l,hn,hl,hi,hf=>by
  have:=qu_ _ l hn hl
  omega
 |n+1,i,l,hn,hl,hi,hf=>by
  rw[zbv_]
  split
  ·next hc=>
   have hm:i∈l:=by simpa using hc
   exact⟨⟨[],by simp⟩,hn,hl,hm,fun v hv hnv=>absurd hv hnv,fun v hv=> .inl hv⟩
  ·next hc=>
   have hm:i ∉ l:=by simpa using hc
   have hn1:(l++[i]).Nodup:=by
    rw[List.nodup_append]
    refine⟨hn,by simp,?_⟩
    intro a ha b hb
    have hb':b=i:=by simpa using hb
    subst hb'
    rintro rfl
    exact hm ha
   have key:∀ (S:List Nat) (R:List Nat),(∀ j∈S,j∈ks_ L i)→(∃ t,R=l++[i]++t)→R.Nodup→(∀ v∈R,v<L.length)→(∀ v∈R,v ∉ l→v≠i→∀ u∈ks_ L v,u∈R)→(∀ v∈R,v∈l∨Reach L i v)→
     (∃ t,S.foldl (fun l j=>j2_ L n j l) R=R++t)∧(S.foldl (fun l j=>j2_ L n j l) R).Nodup∧(∀ v∈S.foldl (fun l j=>j2_ L n j l) R,v<L.length)∧(∀ j∈S,j∈S.foldl (fun l j=>j2_ L n j l) R)∧
     (∀ v∈S.foldl (fun l j=>j2_ L n j l) R,v ∉ l→v≠i→∀ u∈ks_ L v,u∈S.foldl (fun l j=>j2_ L n j l) R)∧(∀ v∈S.foldl (fun l j=>j2_ L n j l) R,v∈l∨Reach L i v):=by
    intro S
    induction S with
    |nil=>intro R _ _ h2 h3 h4 h5;exact⟨⟨[],by simp⟩,h2,h3,fun j hj=>(by simp at hj),h4,h5⟩
    |cons j S ih=>
     intro R h0 h1 h2 h3 h4 h5
     obtain⟨t1,ht1⟩:=h1
     have hj:=h0 j (by simp)
     have hA:=z00_ L n j R h2 h3 (zd6_ hj) (by rw[ht1];simp only[List.length_append,List.length_cons,List.length_nil];omega)
     obtain⟨t2,ht2⟩:=hA.grown
     rw[List.foldl_cons]
     generalize j2_ L n j R=R2 at *
     have hsub:∀ v∈R,v∈R2:=fun v hv=>by rw[ht2];exact List.mem_append_left _ hv
     obtain⟨⟨t3,ht3⟩,g2,g3,g4,g5,g6⟩:=ih R2 (fun x hx=>h0 x (by simp [hx])) ⟨t1++t2,by rw[ht2,ht1];simp⟩ hA.nodup hA.lt
      (fun v hv hvl hvi u hu=>by
       by_cases hvR:v∈R
       ·exact hsub u (h4 v hvR hvl hvi u hu)
       ·exact hA.closed v hv hvR u hu)
      (fun v hv=>by
       rcases hA.reach v hv with h|h
       ·exact h5 v h
       ·exact .inr (.step hj h))
     refine⟨⟨t2++t3,by rw[ht3,ht2];simp⟩,g2,g3,?_,g5,g6⟩
     intro x hx
     rcases List.mem_cons.1 hx with rfl|hx
     ·rw[ht3];exact List.mem_append_left _ hA.self
     ·exact g4 x hx
   obtain⟨⟨t,ht⟩,g2,g3,g4,g5,g6⟩:=key (ks_ L i) (l++[i]) (fun j hj=>hj) ⟨[],by simp⟩ hn1
    (fun v hv=>by
     rcases List.mem_append.1 hv with h|h
     ·exact hl v h
     ·have:v=i:=by simpa using h
      omega)
    (fun v hv hvl hvi=>absurd (List.mem_append.1 hv) (by simp [hvl,hvi]))
    (fun v hv=>by
     rcases List.mem_append.1 hv with h|h
     ·exact .inl h
     ·have:v=i:=by simpa using h
      subst this
      exact .inr (.refl _))
   refine⟨⟨[i]++t,by rw[ht];simp⟩,g2,g3,by rw[ht];simp,?_,g6⟩
   intro v hv hvl u hu
   by_cases hvi:v=i
   ·subst hvi;exact g4 u hu
   ·exact g5 v hv hvl hvi u hu
theorem z02_ (L:List DefS) (i:Nat) (hi:i<L.length):AboveSays L i [] (j9_ L i []):=z00_ L _ i [] (by simp) (by simp) hi (by simp)
theorem zn1_ {L:List DefS} {S:List Nat} (hc:∀ v∈S,∀ u∈ks_ L v,u∈S) {a j:Nat} (hr:Reach L a j) (ha:a∈S):j∈S:=by
 induction hr with
 |refl=>exact ha
 |step hu _ ih=>exact ih (hc _ ha _ hu)
theorem z1a_ {L:List DefS} {i:Nat} (hi:i<L.length) (j:Nat):j∈j9_ L i []↔Reach L i j:=by
 have h:=z02_ L i hi
 constructor
 ·intro hj
  rcases h.reach j hj with h'|h'
  ·simp at h'
  ·exact h'
 ·intro hr
  exact zn1_ (fun v hv u hu=>h.closed v hv (by simp) u hu) hr h.self
def Acyc (L:List DefS):Prop:=∀ i j,i<L.length→Reach L i j→i ∉ ks_ L j
theorem zil_ {L:List DefS} (h:∀ i,i<L.length→k6_ L i=false):Acyc L:=by
 intro i j hi hr hs
 have hl:=h i hi
 unfold k6_ at hl
 rw[List.any_eq_false] at hl
 have:=hl j ((z1a_ hi j).2 hr)
 unfold ks_ at hs
 cases hL:L[j]? with
 |none=>rw[hL] at hs;simp at hs
 |some d=>
  rw[hL] at this hs
  apply this
  obtain⟨n,hn,hf⟩:=List.mem_filterMap.1 hs
  simp only[List.any_eq_true]
  exact⟨n,hn,by simp [hf]⟩
theorem kx_ {L:List DefS} {c:Bool} {n:LU} {j:Nat} (h:zg_ L c n=some j):∃ d,L[j]?=some d∧d.cls=c∧(c,z2_ n)∈d.keys:=by
 unfold zg_ at h
 obtain⟨h1,h2,_⟩:=List.findIdx?_eq_some_iff_getElem.1 h
 refine⟨L[j],List.getElem?_eq_getElem h1,?_,by simpa using h2⟩
 have h3:(c,z2_ n)∈L[j].keys:=by simpa using h2
 unfold DefS.keys at h3
 obtain⟨_,_,e⟩:=List.mem_map.1 h3
 exact congrArg Prod.fst e
theorem z1w_ {L:List DefS} (hA:Acyc L) (hk:∀ d∈L,d.cls=false→∀ s∈d.sup,(zg_ L false s).isSome=true):∀ (n i:Nat) (l:List Nat),(∀ d,L[i]?=some d→d.cls=false)→l.Nodup→(∀ v∈l,v<L.length∧∃ u,Reach L v u∧i∈ks_ L u)→i<L.length→L.length+1≤n+l.length→(qv_ L n i).isSome=true
 |0,i,l,_,hn,hl,hi,hf=>by
  have:=qu_ _ l hn (fun v hv=>(hl v hv).1)
  omega
 |n+1,i,l,hcl,hn,hl,hi,hf=>by
  rw[qv_]
  have hLi:L[i]?=some L[i]:=List.getElem?_eq_getElem hi
  rw[hLi]
  simp only
  have hcf:L[i].cls=false:=hcl _ hLi
  split
  ·rfl
  ·next s rest hs=>
   have hk1:=hk L[i] (List.getElem_mem _) hcf s (by rw[hs];simp)
   cases hfd:zg_ L false s with
   |none=>rw[hfd] at hk1;cases hk1
   |some j=>
    simp only[Option.isSome_map]
    have hji:j∈ks_ L i:=by
     unfold ks_
     rw[hLi]
     exact List.mem_filterMap.2 ⟨s,by rw[hs];simp,by rw[hcf];exact hfd⟩
    have hil:i ∉ l:=by
     intro hil
     obtain⟨_,u,hr,hu⟩:=hl i hil
     exact hA i u hi hr hu
    refine z1w_ hA hk n j (l++[i]) ?_ ?_ ?_ (y4_ hfd) (by simp only[List.length_append,List.length_cons,List.length_nil];omega)
    ·intro d hd
     obtain⟨d',h1,h2,_⟩:=kx_ hfd
     rw[h1] at hd
     cases hd
     exact h2
    ·rw[List.nodup_append]
     refine⟨hn,by simp,?_⟩
     intro a ha b hb
     have hb':b=i:=by simpa using hb
     subst hb'
     rintro rfl
     exact hil ha
    ·intro v hv
     rcases List.mem_append.1 hv with hv|hv
     ·obtain⟨h1,u,hr,hu⟩:=hl v hv
      exact⟨h1,i,hr.trans (.step hu (.refl _)),hji⟩
     ·have:v=i:=by simpa using hv
      subst this
      exact⟨hi,v,.refl _,hji⟩
theorem z29_ {L:List DefS} (hA:Acyc L) (hk:∀ d∈L,d.cls=false→∀ s∈d.sup,(zg_ L false s).isSome=true) {i:Nat} {d:DefS} (hd:L[i]?=some d) (hc:d.cls=false):∃ a,q6_ L i=some a:=by
 have hi:i<L.length:=(List.getElem?_eq_some_iff.1 hd).1
 exact Option.isSome_iff_exists.1 (z1w_ hA hk (L.length+1) i [] (fun d' h=>by rw[hd] at h;cases h;exact hc) (by simp) (by simp) hi (by simp))
theorem z8i_:∀ (M ks:List (Bool × LU)),vv_ M ks=true↔ks.Nodup∧∀ k∈ks,k ∉ M
 |M,[]=>by simp [vv_]
 |M,k::ks=>by
  rw[vv_,Bool.and_eq_true,z8i_ (M++[k]) ks,List.nodup_cons]
  simp only[Bool.not_eq_true',List.contains_eq_mem,decide_eq_false_iff_not,List.mem_append,List.mem_cons,List.not_mem_nil,or_false,not_or]
  constructor
  ·rintro⟨h1,h2,h3⟩
   refine⟨⟨fun hk=>(h3 k hk).2 rfl,h2⟩,fun x hx=>?_⟩
   rcases hx with rfl|hx
   ·exact h1
   ·exact(h3 x hx).1
  ·rintro⟨⟨h1,h2⟩,h3⟩
   exact⟨h3 k (.inl rfl),h2,fun x hx=>⟨h3 x (.inr hx),fun e=>h1 (e ▸ hx)⟩⟩
theorem z1z_:∀ (na i:Nat) (xs:LL) (L L':List DefS),(L.flatMap DefS.keys).Nodup→ql_ na i xs L= .inr L'→(L'.flatMap DefS.keys).Nodup
 |na,i,[],L,L',h,e=>by
  rw[ql_] at e
  cases e
  exact h
 |na,i,s::xs,L,L',h,e=>by
  rw[ql_] at e
  split at e
  ·cases e
  ·next d hd=>
   split at e
   ·next hp=>
    refine z1z_ na (i+1) xs _ L' ?_ e
    rw[z8i_] at hp
    rw[List.flatMap_append,List.nodup_append]
    refine⟨h,by simpa using hp.1,?_⟩
    intro a ha b hb
    have hb':b∈d.keys:=by simpa using hb
    rintro rfl
    exact hp.2 a hb' ha
   ·cases e
theorem z7k_ {L:List DefS} (hN:(L.flatMap DefS.keys).Nodup) {x:Nat} {d:DefS} (hd:L[x]?=some d) {c:Bool} {n:LU} (hk:(c,z2_ n)∈d.keys):zg_ L c n=some x:=by
 have hx:x<L.length:=(List.getElem?_eq_some_iff.1 hd).1
 have hdx:L[x]=d:=(List.getElem?_eq_some_iff.1 hd).2
 unfold zg_
 rw[List.findIdx?_eq_some_iff_getElem]
 refine⟨hx,by rw[hdx];simpa using hk,?_⟩
 intro j hj
 have hjl:j<L.length:=by omega
 rw[Bool.not_eq_true,← Bool.not_eq_true']
 simp only[Bool.not_eq_true',List.contains_eq_mem,decide_eq_false_iff_not]
 intro hm
 have hsplit:L=L.take x++d::L.drop (x+1):=by
  rw[← hdx]
  simp
 rw[hsplit,List.flatMap_append,List.nodup_append] at hN
 have h1:(c,z2_ n)∈(L.take x).flatMap DefS.keys:=by
  rw[List.mem_flatMap]
  refine⟨L[j],?_,hm⟩
  rw[List.mem_take_iff_getElem]
  exact⟨j,by omega,rfl⟩
 have h2:(c,z2_ n)∈(d::L.drop (x+1)).flatMap DefS.keys:=by
  rw[List.flatMap_cons]
  exact List.mem_append_left _ hk
 exact hN.2.2 _ h1 _ h2 rfl
theorem zqv_ (d:DefS):(d.cls,z2_ d.oid)∈d.keys:=by unfold DefS.keys;simp
theorem zcv_ (d:DefS):(d.cls,z2_ d.name)∈d.keys:=by
 unfold DefS.keys DefS.name
 cases d.names with
 |nil=>simp
 |cons n t=>simp
structure NewSays (L:List DefS):Prop where
 keys:(L.flatMap DefS.keys).Nodup
 known:∀ d∈L,xq_ L d=true
 acyc:Acyc L
 fits:∀ i d,L[i]?=some d→z14_ L d i=true
 len:L.length≤300
theorem z36_:∀ (na i:Nat) (xs:LL) (L L':List DefS),ql_ na i xs L= .inr L'→L'.length=L.length+xs.length
 |na,i,[],L,L',e=>by rw[ql_] at e;cases e;simp
 |na,i,s::xs,L,L',e=>by
  rw[ql_] at e
  split at e
  ·cases e
  ·split at e
   ·have:=z36_ na (i+1) xs _ L' e
    simp at this ⊢
    omega
   ·cases e
theorem zjn_ {attrs classes:LL} {L:List DefS} (h:zdw_ attrs classes= .inr L):NewSays L:=by
 unfold zdw_ at h
 split at h
 ·cases h
 ·next hl=>
  split at h
  ·cases h
  ·next L' hr=>
   split at h
   ·cases h
   ·next hk=>
    split at h
    ·cases h
    ·next hlo=>
     split at h
     ·cases h
     ·next hf=>
      cases h
      have hlen:=z36_ _ _ _ _ _ hr
      rw[List.findIdx?_eq_none_iff] at hk
      rw[List.find?_eq_none] at hlo hf
      refine⟨z1z_ _ _ _ [] _ (by simp) hr,fun d hd=>by simpa using hk d hd,zil_ (fun i hi=>by simpa using hlo i (by simpa using hi)),?_,by simp at hlen;omega⟩
      intro i d hd
      have hi:i<L.length:=(List.getElem?_eq_some_iff.1 hd).1
      have:=hf i (by simpa using hi)
      rw[hd] at this
      simpa using this
def k8_ (L:List DefS) (a b:LU):Bool:=match zg_ L false a with
 |none=>false
 |some x=>match zg_ L false b with
  |none=>false
  |some y=>(j9_ L x []).contains y
theorem NewSays.sup_known {L:List DefS} (h:NewSays L):∀ d∈L,∀ s∈d.sup,(zg_ L d.cls s).isSome=true:=by
 intro d hd s hs
 have:=h.known d hd
 unfold xq_ at this
 rw[Bool.and_eq_true,Bool.and_eq_true,List.all_eq_true] at this
 exact this.1.1 s hs
theorem NewSays.counts {L:List DefS} (h:NewSays L) {i:Nat} {d:DefS} (hd:L[i]?=some d) (hc:d.cls=false):∃ a,q6_ L i=some a:=
 z29_ h.acyc (fun d hd hc s hs=>by rw[← hc];exact h.sup_known d hd s hs) hd hc
theorem zbw_ {L:List DefS} (n:Nat) {i:Nat} {d:DefS} {a:AttrS} (hd:L[i]?=some d) (h:qv_ L n i=some a):
  a.oid=d.oid∧a.name=d.name∧((d.sup=[]∧a.sup=[])∨∃ s t j u,d.sup=s::t∧zg_ L false s=some j∧L[j]?=some u∧a.sup=u.name):=by
 cases n with
 |zero=>rw[qv_] at h;cases h
 |succ n=>
  rw[qv_,hd] at h
  simp only at h
  split at h
  ·next hs=>cases h;exact⟨rfl,rfl,.inl ⟨hs,rfl⟩⟩
  ·next s t hs=>
   split at h
   ·cases h
   ·next j hj=>
    rw[Option.map_eq_some_iff] at h
    obtain⟨up,hup,rfl⟩:=h
    obtain⟨u,hu,_⟩:=kx_ hj
    refine⟨rfl,rfl,.inr ⟨s,t,j,u,hs,hj,hu,?_⟩⟩
    show up.name=u.name
    cases n with
    |zero=>rw[qv_] at hup;cases hup
    |succ n=>
     rw[qv_,hu] at hup
     simp only at hup
     split at hup
     ·cases hup;rfl
     ·split at hup
      ·cases hup
      ·rw[Option.map_eq_some_iff] at hup
       obtain⟨_,_,rfl⟩:=hup
       rfl
def addN (L:List DefS) (l:LL) (nm:LU):LL:=match zg_ L false nm with
 |none=>l
 |some j=>match L[j]? with
  |none=>l
  |some e=>if l.contains e.name then l else l++[e.name]
def allF (L:List DefS) (of:DefS→LL):Nat→Nat→List Nat × LL→List Nat × LL
 |0,_,st=>st
 |n+1,i,st=>if st.1.contains i then st else match L[i]? with
  |none=>(st.1++[i],st.2)
  |some d=>((d.sup.foldl (fun st nm=>match zg_ L true nm with
    |none=>st
    |some j=>allF L of n j st) (st.1++[i],st.2)).1,(of d).foldl (addN L) (d.sup.foldl (fun st nm=>match zg_ L true nm with
    |none=>st
    |some j=>allF L of n j st) (st.1++[i],st.2)).2)
def allD (L:List DefS) (of:DefS→LL) (i:Nat):LL:=(allF L of (L.length+1) i ([],[])).2
structure ClassS where
 oid:LU
 name:LU
 names:LL
 sup:LL
 kind:Int
 must:LL
 may:LL
def z9t_ (L:List DefS) (i:Nat):LU:=match L[i]? with
 |none=>[]
 |some d=>d.name
def zni_ (L:List DefS) (d:DefS):LL:=d.sup.map fun n=>match zg_ L true n with
 |none=>[]
 |some j=>z9t_ L j
def mustD (L:List DefS) (i:Nat):LL:=allD L DefS.must i
def mayD (L:List DefS) (i:Nat):LL:=(allD L DefS.may i).filter fun n=>!(mustD L i).contains n
def classD (L:List DefS) (i:Nat):Option ClassS:=match L[i]? with
 |none=>none
 |some d=>some ⟨d.oid,d.name,d.names,zni_ L d,d.kind,mustD L i,mayD L i⟩
def aboveN (L:List DefS) (i:Nat):LL:=(j9_ L i []).map (z9t_ L)
theorem NewSays.named {L:List DefS} (h:NewSays L) {x:Nat} {d:DefS} (hd:L[x]?=some d):zg_ L d.cls d.name=some x:=z7k_ h.keys hd (zcv_ d)
def bA0:LU:=[40,32,50,46,53,46,52,46,48,32,78,65,77,69,32,39,111,98,106,101,99,116,67,108,97,115,115,39,32,69,81,85,65,76,73,84,89,32,111,98,106,101,99,116,73,100,101,110,116,105,102,105,101,114,77,97,116,99,104,32,83,89,78,84,65,88,32,49,46,51,46,54,46,49,46,52,46,49,46,49,52,54,54,46,49,49,53,46,49,50,49,46,49,46,51,56,32,41]
def bA1:LU:=[40,32,50,46,53,46,52,46,52,49,32,78,65,77,69,32,39,110,97,109,101,39,32,69,81,85,65,76,73,84,89,32,99,97,115,101,73,103,110,111,114,101,77,97,116,99,104,32,79,82,68,69,82,73,78,71,32,99,97,115,101,73,103,110,111,114,101,79,114,100,101,114,105,110,103,77,97,116,99,104,32,83,85,66,83,84,82,32,99,97,115,101,73,103,110,111,114,101,83,117,98,115,116,114,105,110,103,115,77,97,116,99,104,32,83,89,78,84,65,88,32,49,46,51,46,54,46,49,46,52,46,49,46,49,52,54,54,46,49,49,53,46,49,50,49,46,49,46,49,53,32,41]
def bA2:LU:=[40,32,50,46,53,46,52,46,51,32,78,65,77,69,32,40,32,39,99,110,39,32,39,99,111,109,109,111,110,78,97,109,101,39,32,41,32,83,85,80,32,110,97,109,101,32,41]
def bA3:LU:=[40,32,50,46,53,46,52,46,52,32,78,65,77,69,32,40,32,39,115,110,39,32,39,115,117,114,110,97,109,101,39,32,41,32,83,85,80,32,110,97,109,101,32,41]
def bA4:LU:=[40,32,50,46,53,46,52,46,49,48,32,78,65,77,69,32,40,32,39,111,39,32,39,111,114,103,97,110,105,122,97,116,105,111,110,78,97,109,101,39,32,41,32,83,85,80,32,110,97,109,101,32,41]
def bA5:LU:=[40,32,50,46,53,46,52,46,49,49,32,78,65,77,69,32,40,32,39,111,117,39,32,39,111,114,103,97,110,105,122,97,116,105,111,110,97,108,85,110,105,116,78,97,109,101,39,32,41,32,83,85,80,32,110,97,109,101,32,41]
def bA6:LU:=[40,32,50,46,53,46,52,46,49,51,32,78,65,77,69,32,39,100,101,115,99,114,105,112,116,105,111,110,39,32,69,81,85,65,76,73,84,89,32,99,97,115,101,73,103,110,111,114,101,77,97,116,99,104,32,83,85,66,83,84,82,32,99,97,115,101,73,103,110,111,114,101,83,117,98,115,116,114,105,110,103,115,77,97,116,99,104,32,83,89,78,84,65,88,32,49,46,51,46,54,46,49,46,52,46,49,46,49,52,54,54,46,49,49,53,46,49,50,49,46,49,46,49,53,32,41]
def bA7:LU:=[40,32,48,46,57,46,50,51,52,50,46,49,57,50,48,48,51,48,48,46,49,48,48,46,49,46,50,53,32,78,65,77,69,32,40,32,39,100,99,39,32,39,100,111,109,97,105,110,67,111,109,112,111,110,101,110,116,39,32,41,32,69,81,85,65,76,73,84,89,32,99,97,115,101,73,103,110,111,114,101,77,97,116,99,104,32,83,89,78,84,65,88,32,49,46,51,46,54,46,49,46,52,46,49,46,49,52,54,54,46,49,49,53,46,49,50,49,46,49,46,50,54,32,83,73,78,71,76,69,45,86,65,76,85,69,32,41]
def bA8:LU:=[40,32,48,46,57,46,50,51,52,50,46,49,57,50,48,48,51,48,48,46,49,48,48,46,49,46,49,32,78,65,77,69,32,40,32,39,117,105,100,39,32,39,117,115,101,114,105,100,39,32,41,32,69,81,85,65,76,73,84,89,32,99,97,115,101,73,103,110,111,114,101,77,97,116,99,104,32,83,85,66,83,84,82,32,99,97,115,101,73,103,110,111,114,101,83,117,98,115,116,114,105,110,103,115,77,97,116,99,104,32,83,89,78,84,65,88,32,49,46,51,46,54,46,49,46,52,46,49,46,49,52,54,54,46,49,49,53,46,49,50,49,46,49,46,49,53,32,41]
def bA9:LU:=[40,32,48,46,57,46,50,51,52,50,46,49,57,50,48,48,51,48,48,46,49,48,48,46,49,46,51,32,78,65,77,69,32,40,32,39,109,97,105,108,39,32,39,114,102,99,56,50,50,77,97,105,108,98,111,120,39,32,41,32,69,81,85,65,76,73,84,89,32,99,97,115,101,73,103,110,111,114,101,77,97,116,99,104,32,83,89,78,84,65,88,32,49,46,51,46,54,46,49,46,52,46,49,46,49,52,54,54,46,49,49,53,46,49,50,49,46,49,46,50,54,32,41]
def bA10:LU:=[40,32,50,46,53,46,52,46,51,53,32,78,65,77,69,32,39,117,115,101,114,80,97,115,115,119,111,114,100,39,32,69,81,85,65,76,73,84,89,32,111,99,116,101,116,83,116,114,105,110,103,77,97,116,99,104,32,83,89,78,84,65,88,32,49,46,51,46,54,46,49,46,52,46,49,46,49,52,54,54,46,49,49,53,46,49,50,49,46,49,46,52,48,32,41]
def bA11:LU:=[40,32,50,46,53,46,52,46,51,49,32,78,65,77,69,32,39,109,101,109,98,101,114,39,32,69,81,85,65,76,73,84,89,32,100,105,115,116,105,110,103,117,105,115,104,101,100,78,97,109,101,77,97,116,99,104,32,83,89,78,84,65,88,32,49,46,51,46,54,46,49,46,52,46,49,46,49,52,54,54,46,49,49,53,46,49,50,49,46,49,46,49,50,32,41]
def bA12:LU:=[40,32,50,46,53,46,52,46,51,52,32,78,65,77,69,32,39,115,101,101,65,108,115,111,39,32,69,81,85,65,76,73,84,89,32,100,105,115,116,105,110,103,117,105,115,104,101,100,78,97,109,101,77,97,116,99,104,32,83,89,78,84,65,88,32,49,46,51,46,54,46,49,46,52,46,49,46,49,52,54,54,46,49,49,53,46,49,50,49,46,49,46,49,50,32,41]
def bA13:LU:=[40,32,49,46,50,46,56,52,48,46,49,49,51,53,53,54,46,49,46,50,46,49,48,50,32,78,65,77,69,32,39,109,101,109,98,101,114,79,102,39,32,69,81,85,65,76,73,84,89,32,100,105,115,116,105,110,103,117,105,115,104,101,100,78,97,109,101,77,97,116,99,104,32,83,89,78,84,65,88,32,49,46,51,46,54,46,49,46,52,46,49,46,49,52,54,54,46,49,49,53,46,49,50,49,46,49,46,49,50,32,78,79,45,85,83,69,82,45,77,79,68,73,70,73,67,65,84,73,79,78,32,85,83,65,71,69,32,100,105,114,101,99,116,111,114,121,79,112,101,114,97,116,105,111,110,32,41]
def bA14:LU:=[40,32,50,46,49,54,46,56,52,48,46,49,46,49,49,51,55,51,48,46,51,46,49,46,51,32,78,65,77,69,32,39,101,109,112,108,111,121,101,101,78,117,109,98,101,114,39,32,69,81,85,65,76,73,84,89,32,105,110,116,101,103,101,114,77,97,116,99,104,32,79,82,68,69,82,73,78,71,32,105,110,116,101,103,101,114,79,114,100,101,114,105,110,103,77,97,116,99,104,32,83,89,78,84,65,88,32,49,46,51,46,54,46,49,46,52,46,49,46,49,52,54,54,46,49,49,53,46,49,50,49,46,49,46,50,55,32,83,73,78,71,76,69,45,86,65,76,85,69,32,41]
def bA15:LU:=[40,32,50,46,53,46,49,56,46,49,32,78,65,77,69,32,39,99,114,101,97,116,101,84,105,109,101,115,116,97,109,112,39,32,69,81,85,65,76,73,84,89,32,103,101,110,101,114,97,108,105,122,101,100,84,105,109,101,77,97,116,99,104,32,79,82,68,69,82,73,78,71,32,103,101,110,101,114,97,108,105,122,101,100,84,105,109,101,79,114,100,101,114,105,110,103,77,97,116,99,104,32,83,89,78,84,65,88,32,49,46,51,46,54,46,49,46,52,46,49,46,49,52,54,54,46,49,49,53,46,49,50,49,46,49,46,50,52,32,83,73,78,71,76,69,45,86,65,76,85,69,32,78,79,45,85,83,69,82,45,77,79,68,73,70,73,67,65,84,73,79,78,32,85,83,65,71,69,32,100,105,114,101,99,116,111,114,121,79,112,101,114,97,116,105,111,110,32,41]
def bA16:LU:=[40,32,50,46,53,46,49,56,46,50,32,78,65,77,69,32,39,109,111,100,105,102,121,84,105,109,101,115,116,97,109,112,39,32,69,81,85,65,76,73,84,89,32,103,101,110,101,114,97,108,105,122,101,100,84,105,109,101,77,97,116,99,104,32,79,82,68,69,82,73,78,71,32,103,101,110,101,114,97,108,105,122,101,100,84,105,109,101,79,114,100,101,114,105,110,103,77,97,116,99,104,32,83,89,78,84,65,88,32,49,46,51,46,54,46,49,46,52,46,49,46,49,52,54,54,46,49,49,53,46,49,50,49,46,49,46,50,52,32,83,73,78,71,76,69,45,86,65,76,85,69,32,78,79,45,85,83,69,82,45,77,79,68,73,70,73,67,65,84,73,79,78,32,85,83,65,71,69,32,100,105,114,101,99,116,111,114,121,79,112,101,114,97,116,105,111,110,32,41]
def bA17:LU:=[40,32,49,46,51,46,54,46,49,46,52,46,49,46,57,57,57,57,46,49,32,78,65,77,69,32,39,115,101,116,116,105,110,103,39,32,69,81,85,65,76,73,84,89,32,99,97,115,101,69,120,97,99,116,77,97,116,99,104,32,83,89,78,84,65,88,32,49,46,51,46,54,46,49,46,52,46,49,46,49,52,54,54,46,49,49,53,46,49,50,49,46,49,46,49,53,32,41]
def bC0:LU:=[40,32,50,46,53,46,54,46,48,32,78,65,77,69,32,39,116,111,112,39,32,65,66,83,84,82,65,67,84,32,77,85,83,84,32,111,98,106,101,99,116,67,108,97,115,115,32,41]
def bC1:LU:=[40,32,50,46,53,46,54,46,54,32,78,65,77,69,32,39,112,101,114,115,111,110,39,32,83,85,80,32,116,111,112,32,83,84,82,85,67,84,85,82,65,76,32,77,85,83,84,32,40,32,115,110,32,36,32,99,110,32,41,32,77,65,89,32,40,32,117,115,101,114,80,97,115,115,119,111,114,100,32,36,32,115,101,101,65,108,115,111,32,36,32,100,101,115,99,114,105,112,116,105,111,110,32,41,32,41]
def bC2:LU:=[40,32,50,46,53,46,54,46,55,32,78,65,77,69,32,39,111,114,103,97,110,105,122,97,116,105,111,110,97,108,80,101,114,115,111,110,39,32,83,85,80,32,112,101,114,115,111,110,32,83,84,82,85,67,84,85,82,65,76,32,77,65,89,32,111,117,32,41]
def bC3:LU:=[40,32,50,46,49,54,46,56,52,48,46,49,46,49,49,51,55,51,48,46,51,46,50,46,50,32,78,65,77,69,32,39,105,110,101,116,79,114,103,80,101,114,115,111,110,39,32,83,85,80,32,111,114,103,97,110,105,122,97,116,105,111,110,97,108,80,101,114,115,111,110,32,83,84,82,85,67,84,85,82,65,76,32,77,65,89,32,40,32,117,105,100,32,36,32,109,97,105,108,32,36,32,101,109,112,108,111,121,101,101,78,117,109,98,101,114,32,41,32,41]
def bC4:LU:=[40,32,50,46,53,46,54,46,52,32,78,65,77,69,32,39,111,114,103,97,110,105,122,97,116,105,111,110,39,32,83,85,80,32,116,111,112,32,83,84,82,85,67,84,85,82,65,76,32,77,85,83,84,32,111,32,77,65,89,32,100,101,115,99,114,105,112,116,105,111,110,32,41]
def bC5:LU:=[40,32,50,46,53,46,54,46,53,32,78,65,77,69,32,39,111,114,103,97,110,105,122,97,116,105,111,110,97,108,85,110,105,116,39,32,83,85,80,32,116,111,112,32,83,84,82,85,67,84,85,82,65,76,32,77,85,83,84,32,111,117,32,77,65,89,32,40,32,100,101,115,99,114,105,112,116,105,111,110,32,36,32,115,101,101,65,108,115,111,32,41,32,41]
def bC6:LU:=[40,32,50,46,53,46,54,46,57,32,78,65,77,69,32,39,103,114,111,117,112,79,102,78,97,109,101,115,39,32,83,85,80,32,116,111,112,32,83,84,82,85,67,84,85,82,65,76,32,77,85,83,84,32,99,110,32,77,65,89,32,40,32,109,101,109,98,101,114,32,36,32,100,101,115,99,114,105,112,116,105,111,110,32,41,32,41]
def bC7:LU:=[40,32,49,46,51,46,54,46,49,46,52,46,49,46,49,52,54,54,46,51,52,52,32,78,65,77,69,32,39,100,99,79,98,106,101,99,116,39,32,83,85,80,32,116,111,112,32,65,85,88,73,76,73,65,82,89,32,77,85,83,84,32,100,99,32,41]
def bC8:LU:=[40,32,49,46,51,46,54,46,49,46,52,46,49,46,57,57,57,57,46,50,32,78,65,77,69,32,39,117,105,100,79,98,106,101,99,116,39,32,83,85,80,32,116,111,112,32,65,85,88,73,76,73,65,82,89,32,77,85,83,84,32,117,105,100,32,41]
def bC9:LU:=[40,32,49,46,51,46,54,46,49,46,52,46,49,46,57,57,57,57,46,51,32,78,65,77,69,32,39,99,111,110,102,105,103,79,98,106,101,99,116,39,32,83,85,80,32,116,111,112,32,83,84,82,85,67,84,85,82,65,76,32,77,85,83,84,32,99,110,32,77,65,89,32,115,101,116,116,105,110,103,32,41]
def baseA:LL:=[bA0,bA1,bA2,bA3,bA4,bA5,bA6,bA7,bA8,bA9,bA10,bA11,bA12,bA13,bA14,bA15,bA16,bA17]
def baseC:LL:=[bC0,bC1,bC2,bC3,bC4,bC5,bC6,bC7,bC8,bC9]
def baseL:List DefS:=match ql_ 18 0 (baseA++baseC) [] with
 | .inl _=>[]
 | .inr L=>L
theorem z7d_:zdw_ baseA baseC= .inr baseL:=by decide+kernel
open Go.RowKit
def Rd (w:World) (b:Nat) (s:LU) (i:Nat):Prop:=w.heap[b]?=some (.cells #[.string ⟨s.toArray⟩,.int .i64 i] 148 (0,0))
theorem Rd.lt {w:World} {b i:Nat} {s:LU} (h:Rd w b s i):b<w.heap.size:=(Array.getElem?_eq_some_iff.1 h).1
theorem Rd.c0 {w:World} {b i:Nat} {s:LU} (h:Rd w b s i):w.cell? ⟨b,0,none⟩=some (.string ⟨s.toArray⟩):=by unfold Rd at h;simp [World.cell?,h]
theorem Rd.c1 {w:World} {b i:Nat} {s:LU} (h:Rd w b s i):w.cell? ⟨b,1,none⟩=some (.int .i64 i):=by unfold Rd at h;simp [World.cell?,h]
theorem Rd.f1 {w:World} {b i:Nat} {s:LU} (h:Rd w b s i):w.frozen? ⟨b,1,none⟩=false:=by unfold Rd at h;simp [World.frozen?,h]
theorem Rd.set {w:World} {b i:Nat} {s:LU} (h:Rd w b s i) (j:Nat):Rd (w.setCell ⟨b,1,none⟩ (.int .i64 j)) b s j:=by
 unfold Rd at h ⊢
 simp [World.setCell,Array.getElem?_modify,h]
theorem Rd.below {w w':World} {b i:Nat} {s:LU} (h:Rd w b s i) (hb:Bel w w'):Rd w' b s i:=(hb.block b h.lt).trans h
theorem Rd.drewN {w:World} {b i:Nat} {s:LU} (h:Rd w b s i) (n:Nat):Rd (w.drewN n) b s i:=h
theorem zj_ {w:World} {b o:Nat} (v:Value):w.grownBy (w.setCell ⟨b,o,none⟩ v) (some b):=
 ⟨rfl,rfl,rfl,by simp [World.setCell],fun k _ hne=>Below.heap_setCell _ _ _ _ (by simpa using hne)⟩
theorem zc_ {w w':World} (hb:Bel w w') (r:Option Nat):w.grownBy w' r:=⟨hb.os,hb.tape,hb.output,hb.size,fun k hk _=>hb.block k hk⟩
theorem z3_ (w:World) (n:Nat) (r:Option Nat):w.grownBy (w.drewN n) r:=⟨rfl,rfl,rfl,nR _,fun _ _ _=>rfl⟩
theorem z7l_ (b:Nat) (s:LU) (i:Nat) (w:World) (h:Rd w b s i):
  Calls Tryz.prog 133 #[.pointer (some ⟨b,0,none⟩)] w fun e w'=>e= .returned (.bool ((i:Int)==(s.length:Int)))∧∃ n,w'=w.drewN n:=by
 have h0:=h.c0
 have h1:=h.c1
 go_enter Tryz.func133,Tryz.ntmps133
 go_wp2
 go_quiet (fail)
 go_wp2
 go_ret
 exact⟨rfl,nq,rfl⟩
def isC (s:LU) (i:Nat) (c:Int):Bool:=match s[i]? with
 |some x=>(x.toNat:Int)==c
 |none=>false
theorem is_c (b:Nat) (s:LU) (i:Nat) (c:Int) (w:World) (h:Rd w b s i) (hi:i≤s.length):
  Calls Tryz.prog 132 #[.pointer (some ⟨b,0,none⟩),.int .u8 c] w fun e w'=>e= .returned (.bool (isC s i c))∧∃ n,w'=w.drewN n:=by
 have hget:=qe_
 have h0:=h.c0
 have h1:=h.c1
 have hE:=fun w' (hR:Rd w' b s i)=>z7l_ b s i w' hR
 unfold isC
 by_cases hlt:i<s.length
 ·have hb:((i:Int)==(s.length:Int))=false:=by rw[beq_eq_false_iff_ne];omega
  rw[hb] at hE
  rw[List.getElem?_eq_getElem hlt]
  clear hb
  dsimp only
  have HR:=hiD h
  clear h
  have hi0:(0:Int)≤(i:Int):=by omega
  have hi1:(i:Int)<(s.length:Int):=by omega
  go_enter Tryz.func132,Tryz.ntmps132
  go_wp2
  go_quiet ((go_at_call 133;exact Calls.quiet_of (hE _ (HR.out.drewN _))))
  go_wp2
  go_ret
  exact⟨rfl,nq,rfl⟩
 ·obtain rfl:i=s.length:=by omega
  rw[List.getElem?_eq_none (nR _)]
  dsimp only
  have hb:((s.length:Int)==(s.length:Int))=true:=by simp
  rw[hb] at hE
  have HR:=hiD h
  clear h hb
  go_enter Tryz.func132,Tryz.ntmps132
  go_wp2
  go_quiet ((go_at_call 133;exact Calls.quiet_of (hE _ (HR.out.drewN _))))
  go_wp2
  go_ret
  exact⟨rfl,nq,rfl⟩
open Go.RowKit
def RdAt (w:World) (b:Nat) (s r:LU):Prop:=∃ i,i≤s.length∧s.drop i=r∧Rd w b s i
theorem RdAt.lt {w:World} {b:Nat} {s r:LU} (h:RdAt w b s r):b<w.heap.size:=by obtain⟨i,_,_,h⟩:=h;exact h.lt
theorem RdAt.below {w w':World} {b:Nat} {s r:LU} (h:RdAt w b s r) (hb:Bel w w'):RdAt w' b s r:=by
 obtain⟨i,h1,h2,h3⟩:=h;exact⟨i,h1,h2,h3.below hb⟩
theorem RdAt.drewN {w:World} {b:Nat} {s r:LU} (h:RdAt w b s r) (n:Nat):RdAt (w.drewN n) b s r:=h
theorem znw_ {s:LU} {i:Nat} (c:Int):isC s i c=match s.drop i with|[]=>false|x::_=>(x.toNat:Int)==c:=by
 unfold isC
 rw[← List.head?_drop]
 cases s.drop i<;>rfl
def hd (r:LU) (c:Int):Bool:=match r with|[]=>false|x::_=>(x.toNat:Int)==c
theorem zfj_ (b:Nat) (s r:LU) (c:Int) (w:World) (h:RdAt w b s r):
  Calls Tryz.prog 132 #[.pointer (some ⟨b,0,none⟩),.int .u8 c] w fun e w'=>e= .returned (.bool (hd r c))∧∃ n,w'=w.drewN n:=by
 obtain⟨i,h1,rfl,h3⟩:=h
 refine(is_c b s i c w h3 h1).mono ?_
 rintro e w' ⟨rfl,h⟩
 exact⟨j7_ ((znw_ c).trans rfl),h⟩
theorem xj_ {s r:LU} {x:UInt8} {i:Nat} (h:s.drop i=x::r):i<s.length∧s.drop (i+1)=r:=by
 have hi:i<s.length:=by
  rcases Nat.lt_or_ge i s.length with h'|h'
  ·exact h'
  ·rw[List.drop_eq_nil_of_le h'] at h;cases h
 rw[List.drop_eq_getElem_cons hi] at h
 exact⟨hi,(List.cons.inj h).2⟩
theorem z30_ (b:Nat) (s r:LU) (w:World) (h:RdAt w b s r) (hs:s.length≤1099511627776):
  Calls Tryz.prog 222 #[.pointer (some ⟨b,0,none⟩)] w fun e w'=>e= .returned (.tuple #[])∧RdAt w' b s (r.dropWhile (·==32))∧w.grownBy w' (some b):=by
 have H:=hiD h
 clear h
 go_enter Tryz.func222,Tryz.ntmps222
 go_wp2_with fail
 go_loopg [] r.length (fun gk wr=>∃ r',r'.length≤gk∧RdAt wr b s r'∧Aside (r.dropWhile (·==32)=r'.dropWhile (·==32))∧w.grownBy wr (some b))
 case atStart=>exact⟨r,nR _,H.out,rfl,World.grownBy.refl _ _⟩
 case round=>
  obtain⟨r',hlen,hR,AD,hg⟩:=hrel
  have hI:=zfj_ b s r' 32 wr hR
  obtain⟨i,hi,hd',hRd⟩:=hR
  cases hh:hd r' 32
  ·rw[hh] at hI
   have hfin:r'.dropWhile (·==32)=r':=by
    cases r' with
    |nil=>rfl
    |cons x t=>
     have:(x==32)=false:=by
      rw[beq_eq_false_iff_ne];intro h;subst h;simp [hd] at hh
     simp [List.dropWhile_cons,this]
   have Hf:=hiD hfin
   have Hd:=hiD hd'
   clear hh hfin hd'
   go_wp2_with (go_at_call 132;refine hI.mono ?_;rintro e w1 ⟨rfl,n,rfl⟩)
   go_end0
   exact⟨rfl,by rw[AD.out,Hf.out];exact⟨i,hi,Hd.out,hRd⟩,gT hg (z3_ _ _ _)⟩
  ·rw[hh] at hI
   obtain⟨t,rfl⟩:∃ t,r'=32::t:=by
    cases r' with
    |nil=>cases hh
    |cons x t=>
     refine⟨t,?_⟩
     simp [hd] at hh
     rw[UInt8.toNat_inj.1 (show x.toNat=(32:UInt8).toNat from by show _=32;omega)]
   have ⟨hlt,hdt⟩:=xj_ hd'
   have hc1:=hRd.c1
   have hf1:=hRd.f1
   have HR:=hiD hRd
   have Hd:=hiD hdt
   simp only[List.length_cons] at hlen
   clear hh hd' hdt hRd
   go_wp2_with (go_at_call 132;refine hI.mono ?_;rintro e w1 ⟨rfl,n,rfl⟩)
   go_roundg t.length
   case measure=>omega
   case rel=>
    refine⟨t,nR _,⟨i+1,by omega,Hd.out,?_⟩,by have:=AD.out;show _=_;rw[this];rfl,?_⟩
    ·exact(HR.out.drewN n).set (i+1)
    ·exact gT hg (gT (z3_ _ _ _) (zj_ _))
end Go.Proofs.YtbekpphodbekiaaGreatDoor
