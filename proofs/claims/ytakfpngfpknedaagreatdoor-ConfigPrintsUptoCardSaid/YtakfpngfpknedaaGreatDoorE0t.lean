import Derived.Test.YtakfpngfpknedaaGreatDoorE0s
import Derived.OwnWalk
set_option linter.all false
set_option maxHeartbeats 8000000
set_option maxRecDepth 100000
namespace Go.Proofs.YtakfpngfpknedaaGreatDoor
open Go.RowKit
def LimL (xs:LL):Prop:=xs.length≤1000000∧∀ x∈xs,x.length≤1000000
theorem LimL.snoc {acc:LL} {s:LU} (ha:∀ x∈acc,x.length≤1000000) (hs:s.length≤1000000):∀ x∈acc++[s],x.length≤1000000:=by
 intro x hx
 rcases List.mem_append.1 hx with h|h
 ·exact ha x h
 ·rw[List.mem_singleton.1 h];exact hs
theorem z2g_ {sign:LU} {one:List Wd→Option (LU × List Wd)} (hc:∀ (l t:List Wd) (s:LU),one l=some (s,t)→∃ q,l=(s,q)::t) {many:Bool}:∀ (n:Nat) (l:List Wd) (acc:LL) (x:LL × List Wd),Shorts l→(∀ y∈acc,y.length≤1000000)→acc.length+l.length≤1000000→ka_ sign one many n l acc=some x→LimL x.1
 |0,l,acc,x,_,_,_,h=>by rw[ka_] at h;cases h
 |n+1,l,acc,x,hs,ha,hl,h=>by
  cases ho:one l with
  |none=>rw[vv_ ho] at h;cases h
  |some y=>
   obtain⟨s,t⟩:=y
   have h1:=y1_ hc hs ho
   obtain⟨q,hq⟩:=hc _ _ _ ho
   rw[z09_ ho] at h
   simp only at h1
   subst hq
   have hst:=hs.tail
   have hn:(acc++[s]).length+t.length≤1000000:=by simp at hl ⊢;omega
   have ha2:=LimL.snoc ha h1
   have hlim:LimL (acc++[s]):=⟨by omega,ha2⟩
   split at h
   ·split at h
    ·cases h;exact hlim
    ·split at h
     ·cases h;exact hlim
     ·split at h
      ·exact z2g_ hc n _ _ _ hst ha2 hn h
      ·split at h
       ·exact z2g_ hc n _ _ _ (hst.suffix (List.tail_suffix _)) ha2 (by have:=List.length_tail (l:=t);omega) h
       ·cases h
   ·cases h
theorem z5e_ {sign:LU} {one:List Wd→Option (LU × List Wd)} (hc:∀ (l t:List Wd) (s:LU),one l=some (s,t)→∃ q,l=(s,q)::t) {l:List Wd} (hs:Shorts l) (hl:l.length≤1000000) {x:LL × List Wd} (h:jo_ sign one l=some x):LimL x.1:=by
 unfold jo_ at h
 refine z2g_ hc _ _ _ _ ?_ (fun _ h=>by cases h) ?_ h
 ·split
  ·exact hs.suffix (List.tail_suffix _)
  ·exact hs
 ·split
  ·have:=List.length_tail (l:=l);simp;omega
  ·simpa using hl
theorem zcm_ {n:LU} {x:LU × Int × LL × NormFn} (h:qy_ n=some x):x.1.length≤1000000:=by
 have h1:=z21_ h
 have h2:∀ y∈tab,y.1.length≤1000000:=by decide+kernel
 exact h2 x h1
theorem z2a_ {k:Int} {l:List Wd} {x:LU × List Wd} (h:z1t_ k l=some x):x.1.length≤1000000:=by
 unfold z1t_ at h
 split at h
 ·cases h
 ·next s t hp=>
  split at h
  ·cases h
  ·next y hy=>
   split at h
   ·cases h
    exact zcm_ hy
   ·cases h
theorem x8_ {α:Type} {o:Option (α × List Wd)} {F:α→DefS} {P:DefS→Prop} (hs:∀ x,o=some x→P (F x.1)) {y:DefS × List Wd} (h:(o.map fun x=>(F x.1,x.2))=some y):P y.1:=by
 cases o with
 |none=>cases h
 |some x=>cases h;exact hs x rfl
def yf_ (d:DefS):Prop:=DefLim d∧RuleLim d
theorem zan_ {d:DefS} {f:LU} {l:List Wd} {y:DefS × List Wd} (hd:yf_ d) (hs:Shorts l) (hl:l.length≤1000000) (h:qg_ d f l=some y):yf_ y.1:=by
 have hn:∀ x,xp_ l=some x→x.1.length≤1000000:=fun x hx=>y1_ (fun _ _ _=>y8_) hs hx
 have hln:∀ x,jo_ [36] xp_ l=some x→LimL x.1:=fun x hx=>z5e_ (fun _ _ _=>y8_) hs hl hx
 have hlq:∀ x,jo_ [] q4_ l=some x→LimL x.1:=fun x hx=>z5e_ (fun _ _ _=>xg_) hs hl hx
 obtain⟨⟨d1,d2,d3,d4,d5⟩,⟨r1,r2,r3⟩⟩:=id hd
 unfold qg_ at h
 split at h
 ·unfold z5z_ at h
  split at h
  ·exact x8_ (F:=fun a=>{d with names:=a}) (fun x hx=>⟨⟨d1,hlq x hx,d3,d4,d5⟩,⟨r1,r2,r3⟩⟩) h
  split at h
  ·exact x8_ (F:=fun _=>d) (fun x hx=>hd) h
  split at h
  ·exact x8_ (F:=fun a=>{d with sup:=a}) (fun x hx=>⟨⟨d1,d2,hln x hx,d4,d5⟩,⟨r1,r2,r3⟩⟩) h
  split at h
  ·exact x8_ (F:=fun a=>{d with must:=a}) (fun x hx=>⟨⟨d1,d2,d3,hln x hx,d5⟩,⟨r1,r2,r3⟩⟩) h
  split at h
  ·exact x8_ (F:=fun a=>{d with may:=a}) (fun x hx=>⟨⟨d1,d2,d3,d4,hln x hx⟩,⟨r1,r2,r3⟩⟩) h
  ·cases h
 ·unfold z65_ at h
  by_cases g0:f=ym_
  ·rw[if_pos g0] at h;exact x8_ (F:=fun a=>{d with names:=a}) (fun x hx=>⟨⟨d1,hlq x hx,d3,d4,d5⟩,⟨r1,r2,r3⟩⟩) h
  rw[if_neg g0] at h
  by_cases g1:f=yk_
  ·rw[if_pos g1] at h;exact x8_ (F:=fun _=>d) (fun x hx=>hd) h
  rw[if_neg g1] at h
  by_cases g2:f=z6k_
  ·rw[if_pos g2] at h;exact x8_ (F:=fun a=>{d with sup:=[a]}) (fun x hx=>⟨⟨d1,d2,⟨by show 1≤_;omega,fun z hz=>by rw[List.mem_singleton.1 hz];exact hn x hx⟩,d4,d5⟩,⟨r1,r2,r3⟩⟩) h
  rw[if_neg g2] at h
  by_cases g3:f=qz_
  ·rw[if_pos g3] at h;exact x8_ (F:=fun a=>{d with eqr:=a}) (fun x hx=>⟨⟨d1,d2,d3,d4,d5⟩,⟨z2a_ hx,r2,r3⟩⟩) h
  rw[if_neg g3] at h
  by_cases g4:f=j1_
  ·rw[if_pos g4] at h;exact x8_ (F:=fun a=>{d with ordr:=a}) (fun x hx=>⟨⟨d1,d2,d3,d4,d5⟩,⟨r1,z2a_ hx,r3⟩⟩) h
  rw[if_neg g4] at h
  by_cases g5:f=ye_
  ·rw[if_pos g5] at h;exact x8_ (F:=fun a=>{d with subs:=a}) (fun x hx=>⟨⟨d1,d2,d3,d4,d5⟩,⟨r1,r2,z2a_ hx⟩⟩) h
  rw[if_neg g5] at h
  by_cases g6:f=xm_
  ·rw[if_pos g6] at h
   cases hpp:ze_ l with
   |none=>rw[hpp] at h;cases h
   |some x=>
    rw[hpp] at h
    simp only at h
    by_cases q:(z44_ x.1==0)=true
    ·rw[if_pos q] at h;cases h;exact⟨⟨d1,d2,d3,d4,d5⟩,⟨r1,r2,r3⟩⟩
    ·rw[if_neg q] at h;cases h
  rw[if_neg g6] at h
  by_cases g7:f=q2_
  ·rw[if_pos g7] at h;cases h;exact⟨⟨d1,d2,d3,d4,d5⟩,⟨r1,r2,r3⟩⟩
  rw[if_neg g7] at h
  by_cases g8:f=zh_
  ·rw[if_pos g8] at h;cases h;exact⟨⟨d1,d2,d3,d4,d5⟩,⟨r1,r2,r3⟩⟩
  rw[if_neg g8] at h
  by_cases g9:f=kf_
  ·rw[if_pos g9] at h
   cases hpp:ze_ l with
   |none=>rw[hpp] at h;cases h
   |some x=>
    rw[hpp] at h
    simp only at h
    by_cases q:(x.1==zb_||x.1==zl_)=true
    ·rw[if_pos q] at h;cases h;exact⟨⟨d1,d2,d3,d4,d5⟩,⟨r1,r2,r3⟩⟩
    ·rw[if_neg q] at h;cases h
  rw[if_neg g9] at h
  cases h
theorem z1i_:∀ (n:Nat) (d d':DefS) (seen:LL) (l:List Wd),yf_ d→Shorts l→l.length≤1000000→xy_ n d seen l=some d'→yf_ d'∧d'.cls=d.cls
 |0,_,_,_,_,_,_,_,h=>by rw[xy_] at h;cases h
 |n+1,d,d',seen,l,hd,hs,hl,h=>by
  rw[xy_] at h
  split at h
  ·split at h
   ·cases h;exact⟨hd,rfl⟩
   ·cases h
  ·split at h
   ·cases h
   ·next f t hp=>
    have ht:t<:+l:=jf_ (one:=ze_) (fun _ _ _=>zt_) hp
    have hst:=hs.suffix ht
    have htl:t.length≤1000000:=nT ht.length_le hl
    split at h
    ·split at h
     ·cases h
     ·have hk:yf_ {d with kind:=yl_ f}:=by
       obtain⟨⟨d1,d2,d3,d4,d5⟩,⟨r1,r2,r3⟩⟩:=hd
       exact⟨⟨d1,d2,d3,d4,d5⟩,⟨r1,r2,r3⟩⟩
      have h4:=z1i_ n {d with kind:=yl_ f} d' _ t hk hst htl h
      exact⟨h4.1,h4.2⟩
    ·split at h
     ·cases h
     ·split at h
      ·cases h
      ·next d2 t2 hf=>
       have h2:=yc_ hf
       have h3:=zan_ hd hst htl hf
       have h4:=z1i_ n d2 d' _ t2 h3 (hst.suffix h2.1) (nT h2.1.length_le htl) h
       exact⟨h4.1,h4.2.trans h2.2⟩
theorem z5h_ {s:LU} {cls:Bool} {d:DefS} (hs:s.length≤1000000) (h:zb7_ s cls=some d):yf_ d∧d.cls=cls:=by
 unfold zb7_ at h
 split at h
 ·cases h
 ·next l hw=>
  have hb:=k0_ hw
  have hS:Shorts l:=fun x hx=>nT (hb.1 x hx) hs
  have hl:l.length≤1000000:=nT hb.2 hs
  split at h
  ·split at h
   ·cases h
   ·next oid t hp=>
    have hS2:=hS.suffix (List.tail_suffix l)
    have ht:t<:+l.tail:=jf_ (one:=ze_) (fun _ _ _=>zt_) hp
    have ho:=y1_ (one:=ze_) (fun _ _ _=>zt_) hS2 hp
    have htl:t.length≤1000000:=nT ht.length_le (nT (List.tail_suffix l).length_le hl)
    split at h
    ·refine z1i_ _ _ d _ t ?_ (hS2.suffix ht) htl h
     have hz:([]:LL).length≤1000000∧∀ x∈([]:LL),x.length≤1000000:=⟨by simp,fun _ h=>by cases h⟩
     exact⟨⟨ho,hz,hz,hz,hz⟩,⟨by simp [DefS.new],by simp [DefS.new],by simp [DefS.new]⟩⟩
    ·cases h
  ·cases h
theorem z1f_ (na:Nat):∀ (ss:LL) (i:Nat) (L L':List DefS),(∀ s∈ss,s.length≤1000000)→(∀ d∈L,yf_ d)→q8_ na i ss L= .inr L'→(∀ d∈L',yf_ d)∧L'.length=L.length+ss.length
 |[],i,L,L',_,hL,h=>by rw[q8_] at h;cases h;exact⟨hL,rfl⟩
 |s::ss,i,L,L',hs,hL,h=>by
  rw[q8_] at h
  split at h
  ·cases h
  ·next d hd=>
   split at h
   ·have h1:=z1f_ na ss (i+1) (L++[d]) L' (fun x hx=>hs x (List.mem_cons_of_mem _ hx)) (fun x hx=>by
     rcases List.mem_append.1 hx with hx|hx
     ·exact hL x hx
     ·rw[List.mem_singleton.1 hx];exact(z5h_ (hs s (List.mem_cons_self ..)) hd).1) h
    refine⟨h1.1,?_⟩
    rw[h1.2]
    simp
    omega
   ·cases h
open Go.RowKit
theorem SchB.below {B:Nat} {w w':World} {s m:Nat} {ps:List Nat} {L:List DefS} (h:SchB B w s m ps L) (hb:Bel w w'):SchB B w' s m ps L:=by
 obtain⟨⟨lv,h1,h2⟩,⟨es,c,h3,h4⟩,h5,h6,h7,h8⟩:=h
 exact⟨⟨lv,h1.below hb,h2.below hb⟩,⟨es,c,(hb.block m (Array.getElem?_eq_some_iff.1 h3).1).trans h3,h4⟩,h5,h6,fun i p d hp hd=>(h7 i p d hp hd).below hb,h8⟩
theorem SchB.notin {B:Nat} {w:World} {s m p:Nat} {ps:List Nat} {L:List DefS} (h:SchB B w s m ps L) (hp:w.heap.size≤p):p ∉ ps:=by
 intro hm
 obtain⟨i,hi,he⟩:=List.getElem_of_mem hm
 have hiL:i<L.length:=by rw[← h.len];exact hi
 obtain⟨_,_,_,_,hB⟩:=(h.defs i p L[i] (by rw[List.getElem?_eq_getElem hi,he]) (List.getElem?_eq_getElem hiL)).bk
 have:=hB.lt
 omega
theorem k1_ {n i:Nat} {p:Nat→Bool} (hi:i<n) (hp:p i=true) (h:∀ t,t<i→p t=false):(List.range n).find? p=some i:=by
 rw[List.find?_range_eq_some]
 exact⟨hp,List.mem_range.2 hi,fun j hj=>by simp [h j hj]⟩
theorem yz_ {n:Nat} {p:Nat→Bool} (h:∀ t,t<n→p t=false):(List.range n).find? p=none:=by
 rw[List.find?_range_eq_none]
 exact fun j hj=>by simp [h j hj]
theorem z0c_ {L:List DefS} {d:DefS} (h:xb_ L d=true):∀ n∈d.sup,(zk_ L d.cls n).isSome=true:=by
 unfold xb_ at h
 rw[Bool.and_eq_true,Bool.and_eq_true,List.all_eq_true] at h
 exact h.1.1
def NewRet (w:World) (o:(Int × Nat) ⊕ List DefS) (e:Ending) (w':World):Prop:=Bel w w'∧match o with
 | .inl x=>e= .returned (.tuple #[.pointer none,.int .i64 x.1,.int .i64 (x.2:Int)])
 | .inr L=>∃ s ps,e= .returned (.tuple #[z7_ s,.int .i64 0,.int .i64 0])∧SchAt w' s ps L
def y9_ (R:(Int × Nat) ⊕ List DefS):(Int × Nat) ⊕ List DefS:=match R with
 | .inl x=> .inl x
 | .inr L=>match L.findIdx? (fun d=>!xb_ L d) with
  |some i=> .inl (52,i)
  |none=>match (List.range L.length).find? (fun i=>yj_ L i) with
   |some i=> .inl (53,i)
   |none=>match (List.range L.length).find? (fun i=>!((L[i]?).map (fun d=>z06_ L d i)).getD false) with
    |some i=> .inl (50,i)
    |none=> .inr L
theorem zdo_ {a c:LL} (h:¬ 300<a.length+c.length):z98_ a c=y9_ (q8_ a.length 0 (a++c) []):=by
 unfold z98_ y9_
 rw[if_neg h]
 generalize q8_ a.length 0 (a++c) []=R
 cases R with
 |inl x=>rfl
 |inr L=>
  simp only
  cases L.findIdx? (fun d=>!xb_ L d) with
  |some i=>rfl
  |none=>
   simp only
   cases (List.range L.length).find? (fun i=>yj_ L i) with
   |some i=>rfl
   |none=>
    simp only
    cases (List.range L.length).find? (fun i=>!((L[i]?).map (fun d=>z06_ L d i)).getD false)<;>rfl
structure NJ (w:World) (s m na:Nat) (v:Value) (xs:LL) (R:(Int × Nat) ⊕ List DefS) (wr:World) (k:Nat) (ps:List Nat) (L:List DefS):Prop where
 sch:SchB w.heap.size wr s m ps L
 bel:Bel w wr
 txt:Texts wr v xs
 len:L.length=k
 lim:∀ d∈L,yf_ d
 rest:q8_ na k (xs.drop k) L=R
theorem New_c (va vb:Value) (xa xc:LL) (w:World) (hw:Env w) (hva:Texts w va xa) (hvb:Texts w vb xc) (hlen:xa.length+xc.length≤1000000) (hs:∀ x∈xa++xc,x.length≤1000000):
  Calls Tryz.prog 56 #[va,vb] w (NewRet w (z98_ xa xc)):=by
 have hmm:=@run_makeMap Tryz.prog
 by_cases h300:300<xa.length+xc.length
 ·have hN:z98_ xa xc= .inl (2,0):=by unfold z98_;rw[if_pos h300]
  rw[hN]
  obtain⟨Aa,na,ca,rfl,hna⟩:∃ A n c,va= .slice A n c∧n=xa.length:=by
   rcases hva with ⟨h,rfl⟩|⟨b,c,rfl,_⟩
   ·exact⟨_,_,_,rfl,by rw[h];rfl⟩
   ·exact⟨_,_,_,rfl,rfl⟩
  obtain⟨Ab,nb,cb,rfl,hnb⟩:∃ A n c,vb= .slice A n c∧n=xc.length:=by
   rcases hvb with ⟨h,rfl⟩|⟨b,c,rfl,_⟩
   ·exact⟨_,_,_,rfl,by rw[h];rfl⟩
   ·exact⟨_,_,_,rfl,rfl⟩
  subst hna hnb
  have hgt:(300:Int)<(xa.length:Int)+(xc.length:Int):=by omega
  clear hva hvb
  go_enter Tryz.func56,Tryz.ntmps56
  go_wp2_with fail
  go_ret3
  exact⟨bR _ _,rfl⟩
 ·obtain⟨R,hR⟩:∃ R,q8_ xa.length 0 (xa++xc) []=R:=⟨_,rfl⟩
  have HEQ0:z98_ xa xc=y9_ R:=by rw[zdo_ h300,hR]
  have HVB:=hiD hvb
  have HVA:=hiD hva
  obtain⟨Aa,na,ca,rfl,hna⟩:∃ A n c,va= .slice A n c∧n=xa.length:=by
   rcases hva with ⟨h,rfl⟩|⟨b,c,rfl,_⟩
   ·exact⟨_,_,_,rfl,by rw[h];rfl⟩
   ·exact⟨_,_,_,rfl,rfl⟩
  obtain⟨Ab,nb,cb,rfl,hnb⟩:∃ A n c,vb= .slice A n c∧n=xc.length:=by
   rcases hvb with ⟨h,rfl⟩|⟨b,c,rfl,_⟩
   ·exact⟨_,_,_,rfl,by rw[h];rfl⟩
   ·exact⟨_,_,_,rfl,rfl⟩
  subst hna hnb
  have hgt:¬ (300:Int)<(xa.length:Int)+(xc.length:Int):=by omega
  have hb2:Bel w ((w.alloc (.map #[] 0)).alloc (.cells #[.slice none 0 0,.map (some w.heap.size)] 117)):=((bR _ _).alloc (nR _) _).alloc (by simp) _
  have hal:xa.length≤1000000:=by omega
  have hac:xa.length+xc.length<4398046511104:=by omega
  clear hva hvb
  go_enter Tryz.func56,Tryz.ntmps56
  go_wp2_with (first|(go_at_call 26;refine(yg_ xa _ _ (HVA.out.below hb2) hal).mono ?_;rintro e w3 ⟨v3,rfl,hO3,hb3⟩;have hB3:=tQ hb2 hb3;have hvb3:=HVB.out.below hB3)|(at_builtin;refine z9k_ rfl _ _ rfl rfl hO3 rfl hvb3 hac ?_;intro v4 w4 hO4 hg4;obtain⟨A4,c4,rfl,hc4⟩:=hO4.isSlice))
  have hl3:=fun k hk=>hO3.lt k hk
  have hb4:Bel w w4:=hB3.grown hg4 hB3.size (fun k hk=>by have:=(hl3 k hk).1;simp at this;omega)
  have hT4:=hO4.texts
  have J0:NJ w (w.heap.size+1) w.heap.size xa.length (.slice A4 (xa++xc).length c4) (xa++xc) R w4 0 [] []:=by
   have q2:=Bk.new (w.alloc (.map #[] 0)) 117 #[.slice none 0 0,.map (some w.heap.size)]
   rw[World.size_alloc] at q2
   have q4:=(q2.below hb3).grown hg4 (fun he=>by have:=(hl3 _ he.symm).1;simp at this;omega)
   have m2:((w.alloc (.map #[] 0)).alloc (.cells #[.slice none 0 0,.map (some w.heap.size)] 117)).heap[w.heap.size]?=some (.map #[] 0):=(((bR (w.alloc (.map #[] 0)).heap.size (w.alloc (.map #[] 0))).alloc (nR _) _).block _ (by simp)).trans (heap_alloc_new w _)
   have m3:w3.heap[w.heap.size]?=some (.map #[] 0):=(hb3.block _ (by simp;omega)).trans m2
   have m4:w4.heap[w.heap.size]?=some (.map #[] 0):=(hg4.block _ (Array.getElem?_eq_some_iff.1 m3).1 (fun he=>by have:=(hl3 _ he.symm).1;simp at this;omega)).trans m3
   exact⟨⟨⟨_,q4,OwnP.nil hb4.size⟩,⟨_,_,m4,MapR.nil _⟩,rfl,List.nodup_nil,(fun i p d hp=>by simp at hp),⟨Nat.le_succ _,nR _⟩⟩,hb4,hT4,rfl,(fun d hd=>by cases hd),by rw[List.drop_zero];exact hR⟩
  have HJ0:=hiD J0
  clear J0 hT4 hl3 hb4 hO4 hg4 hO3 hb3 hB3 hvb3 hb2 hR
  generalize hxs:xa++xc=xs at *
  have hn:xs.length=xa.length+xc.length:=by rw[← hxs];simp
  have HN:=hiD hn
  rw[hn] at HJ0
  have HX:=hiD hs
  have HEQ:Hid (z98_ xa xc=y9_ R):=hiD HEQ0
  clear hxs hn hs
  generalize w.heap.size+1=s at HJ0 ⊢
  go_loopg [31] (xa.length+xc.length) (fun gk i wr=>∃ (k:Nat) (ps:List Nat) (L:List DefS),k≤xa.length+xc.length∧i= .int .i64 k∧Aside (k+gk=xa.length+xc.length)∧Aside (NJ w s w.heap.size xa.length (.slice A4 (xa.length+xc.length) c4) xs R wr k ps L))
  case atStart=>exact⟨0,[],[],Nat.zero_le _,rfl,by show _=_;omega,HJ0.out⟩
  case round=>
   clear HJ0
   obtain⟨k,ps,L,hk,rfl,AG,AJ⟩:=hrel
   by_cases hlt:k<xa.length+xc.length
   ·obtain⟨q,rfl⟩:∃ q,gk=q+1:=⟨gk - 1,by have:=AG.out;omega⟩
    have hltx:k<xs.length:=by rw[HN.out];exact hlt
    obtain⟨g,rfl,ck⟩:=vj_ AJ.out.txt hltx
    have hxk:=HX.out _ (List.getElem_mem hltx)
    have hE:Env wr:=hw.keep AJ.out.bel
    obtain⟨cls,hcls⟩:∃ cls,decide (xa.length≤k)=cls:=⟨_,rfl⟩
    have hcls2:decide ((xa.length:Int)≤(k:Int))=cls:=by rw[← hcls];exact decide_eq_decide.2 Int.ofNat_le
    have hRD:=read_c xs[k] cls wr hE hxk
    have hrest:=AJ.out.rest
    rw[List.drop_eq_getElem_cons hltx,q8_,hcls] at hrest
    cases ho:zb7_ xs[k] cls with
    |none=>
     rw[ho] at hRD hrest
     have HRD:=hiD hRD
     have HREST:=hiD hrest
     clear hRD hrest ho hxk hE
     go_wp2_with (go_at_call 74;refine HRD.out.mono ?_;rintro e w5 ⟨hb5,rfl⟩)
     all_goals
      go_ret3
      rw[HEQ.out,← HREST.out]
      exact⟨tQ AJ.out.bel hb5,rfl⟩
    |some d=>
     rw[ho] at hRD hrest
     have hlimd:=(z5h_ hxk ho).1
     have HLD:=hiD hlimd
     have HRD:Hid (Calls Tryz.prog 74 #[.string ⟨xs[k].toArray⟩,.bool cls] wr fun e w'=>∃ p,e= .returned (.pointer (some ⟨p,0,none⟩))∧wr.heap.size≤p∧DefAt w' p d∧Bel wr w'):=hiD (hRD.mono (by
      rintro e w' ⟨h1,p,rfl,h2,h3⟩
      exact⟨p,rfl,h2,h3,h1⟩))
     simp only at hrest
     have HREST:=hiD hrest
     have hpl:ps.length<4398046511104:=by rw[AJ.out.sch.len,AJ.out.len];omega
     have HPUT:Hid (∀ (p:Nat) (W:World),Bel wr W→wr.heap.size≤p→DefAt W p d→Calls Tryz.prog 75 #[.pointer (some ⟨s,0,none⟩),.pointer (some ⟨p,0,none⟩)] W (z3q_ w.heap.size W s w.heap.size ps L p d)):=hiD (fun p W hb hp hd=>put_c6 w.heap.size s w.heap.size p ps L d W (AJ.out.sch.below hb) (nT AJ.out.bel.size hb.size) hpl (AJ.out.sch.notin hp) hd hlimd.1)
     clear hRD hrest hxk hE hlimd hpl
     cases hok:kv_ (L.flatMap DefS.keys) d.keys with
     |true=>
      have HOK:=hiD hok
      clear hok
      go_wp2_with (first|(go_at_call 74;refine HRD.out.mono ?_;rintro e w5 ⟨p,rfl,hp5,hd5,hb5⟩)|(go_at_call 75;refine(HPUT.out _ _ hb5 hp5 hd5).mono ?_;unfold z3q_;rw[HOK.out];rintro e w6 ⟨hb6,rfl,hs6,ht6⟩))
      go_roundg q
      case measure=>omega
      case rel=>
       refine⟨k+1,ps++[p],L++[d],by omega,by go_num,by have:=AG.out;show _=_;omega,⟨hs6,AJ.out.bel.trans ((hb5.mono AJ.out.bel.size).trans hb6),ht6 _ _ (AJ.out.txt.below hb5),by simp [AJ.out.len],?_,?_⟩⟩
       ·intro x hx
        rcases List.mem_append.1 hx with hx|hx
        ·exact AJ.out.lim x hx
        ·rw[List.mem_singleton.1 hx];exact HLD.out
       ·have:=HREST.out;rw[HOK.out] at this;simpa using this
     |false=>
      have HOK:=hiD hok
      clear hok
      go_wp2_with (first|(go_at_call 74;refine HRD.out.mono ?_;rintro e w5 ⟨p,rfl,hp5,hd5,hb5⟩)|(go_at_call 75;refine(HPUT.out _ _ hb5 hp5 hd5).mono ?_;unfold z3q_;rw[HOK.out];rintro e w6 ⟨hb6,rfl⟩))
      all_goals
       have hr:R= .inl (51,k):=by have:=HREST.out;rw[HOK.out] at this;simpa using this.symm
       go_ret3
       rw[HEQ.out,hr]
       exact⟨AJ.out.bel.trans ((hb5.mono AJ.out.bel.size).trans hb6),rfl⟩
   ·obtain rfl:k=xa.length+xc.length:=by omega
    obtain⟨we,rfl⟩:∃ x,x=wr:=⟨_,rfl⟩
    have hR:R= .inr L:=by rw[← AJ.out.rest,List.drop_eq_nil_of_le (by rw[HN.out];exact nR _),q8_]
    have hpl:ps.length≤1000:=by rw[AJ.out.sch.len,AJ.out.len];omega
    have hSA:=AJ.out.sch.at
    obtain⟨lv,hs0,hown⟩:=AJ.out.sch.head
    obtain⟨Al,cl,rfl,hcl,hpc⟩:=hown.reads
    have cs0:we.cell? ⟨s,0,none⟩=some (.slice Al ps.length cl):=hs0.cell 0
    have HRR:Hid (z98_ xa xc=y9_ (.inr L)):=hiD (by rw[HEQ.out,hR])
    have HSA:=hiD hSA
    have HB:=hiD AJ.out.bel
    have HLIM:=hiD AJ.out.lim
    have HPC:=hiD hpc
    have HLEN:=hiD hSA.len
    have HS0:=hiD hs0
    clear hR hSA hown hpc hs0 AJ HX
    go_wp2_with fail
    go_loopg [58] ps.length (fun gk i wr=>∃ j:Nat,j≤ps.length∧i= .int .i64 j∧Aside (j+gk=ps.length)∧Bel we wr∧Aside (∀ t d,t<j→L[t]?=some d→xb_ L d=true))
    case atStart=>exact⟨0,Nat.zero_le _,rfl,by show _=_;omega,bR _ _,fun t d ht=>absurd ht (by omega)⟩
    case round=>
     obtain⟨j,hj,rfl,BG,hB,BK⟩:=hrel
     by_cases hjl:j<ps.length
     ·obtain⟨q,rfl⟩:∃ q,gk=q+1:=⟨gk - 1,by have:=BG.out;omega⟩
      have hjL:j<L.length:=by rw[← HLEN.out];exact hjl
      have hLj:L[j]?=some L[j]:=List.getElem?_eq_getElem hjL
      obtain⟨g2,rfl,hcells⟩:=HPC.out.resolve_left (by rintro rfl;simp at hjl)
      have cj:we.cell? ⟨g2,j,none⟩=some (.pointer (some ⟨pAt ps j,0,none⟩)):=hcells j _ (yu_ hjl)
      have cq:wr.cell? ⟨g2,j,none⟩=some (.pointer (some ⟨pAt ps j,0,none⟩)):=(hB.cell (p:=⟨g2,j,none⟩) (z9_ cj)).trans cj
      have hK:=zjf_ s (pAt ps j) ps L L[j] wr (HSA.out.below hB) ((HSA.out.below hB).defAt hLj) (HLIM.out _ (List.getElem_mem hjL)).1
      clear hcells cj
      unfold z7_ at hK
      cases hkn:xb_ L L[j]
      all_goals
       rw[hkn] at hK
       have HK:=hiD hK
       have HKN:=hiD hkn
       clear hK hkn
      ·go_wp2_with (go_at_call 76;refine HK.out.mono ?_;rintro e w7 ⟨rfl,hb7⟩)
       all_goals
        have hf:L.findIdx? (fun d=>!xb_ L d)=some j:=by
         rw[List.findIdx?_eq_some_iff_getElem]
         refine⟨hjL,by rw[HKN.out];rfl,fun t ht=>?_⟩
         rw[BK.out t _ ht (List.getElem?_eq_getElem (by omega))]
         simp
        go_ret3
        rw[HRR.out]
        unfold y9_
        simp only
        rw[hf]
        exact⟨HB.out.trans ((tQ hB hb7).mono HB.out.size),rfl⟩
      ·go_wp2_with (go_at_call 76;refine HK.out.mono ?_;rintro e w7 ⟨rfl,hb7⟩)
       go_roundg q
       case measure=>omega
       case rel=>
        refine⟨j+1,by omega,by go_num,by have:=BG.out;show _=_;omega,tQ hB hb7,?_⟩
        intro t d ht hd
        rcases Nat.lt_or_ge t j with h1|h1
        ·exact BK.out t d h1 hd
        ·obtain rfl:t=j:=by omega
         rw[hLj] at hd
         cases hd
         exact HKN.out
     ·obtain rfl:j=ps.length:=by omega
      have hknow:∀ d∈L,xb_ L d=true:=by
       intro d hd
       obtain⟨t,ht,rfl⟩:=List.getElem_of_mem hd
       exact BK.out t _ (by rw[HLEN.out];exact ht) (List.getElem?_eq_getElem ht)
      have hf1:L.findIdx? (fun d=>!xb_ L d)=none:=by
       rw[List.findIdx?_eq_none_iff]
       intro d hd
       rw[hknow d hd]
       rfl
      have HKNOW:=hiD hknow
      have HF1:=hiD hf1
      obtain⟨w2,rfl⟩:∃ x,x=wr:=⟨_,rfl⟩
      have cs2:w2.cell? ⟨s,0,none⟩=some (.slice Al ps.length cl):=(hB.cell (p:=⟨s,0,none⟩) (z9_ cs0)).trans cs0
      have HB2:=hiD hB
      clear hknow hf1 hB BK
      go_wp2_with fail
      go_loopg [74] ps.length (fun gk i wr=>∃ j:Nat,j≤ps.length∧i= .int .i64 j∧Aside (j+gk=ps.length)∧Bel we wr∧Aside (∀ t,t<j→yj_ L t=false))
      case atStart=>exact⟨0,Nat.zero_le _,rfl,by show _=_;omega,HB2.out,fun t ht=>absurd ht (by omega)⟩
      case round=>
       obtain⟨j,hj,rfl,BG,hB,BK⟩:=hrel
       by_cases hjl:j<ps.length
       ·obtain⟨q,rfl⟩:∃ q,gk=q+1:=⟨gk - 1,by have:=BG.out;omega⟩
        have hjL:j<L.length:=by rw[← HLEN.out];exact hjl
        have hLj:L[j]?=some L[j]:=List.getElem?_eq_getElem hjL
        obtain⟨g2,rfl,hcells⟩:=HPC.out.resolve_left (by rintro rfl;simp at hjl)
        have cj:we.cell? ⟨g2,j,none⟩=some (.pointer (some ⟨pAt ps j,0,none⟩)):=hcells j _ (yu_ hjl)
        have cq:wr.cell? ⟨g2,j,none⟩=some (.pointer (some ⟨pAt ps j,0,none⟩)):=(hB.cell (p:=⟨g2,j,none⟩) (z9_ cj)).trans cj
        have hK:=zkv_ s j ps L L[j] wr (HSA.out.below hB) (fun d hd=>(HLIM.out d hd).1) (by rw[← HLEN.out];omega) (fun d hd=>z0c_ (HKNOW.out d hd)) hLj
        clear hcells cj
        unfold z7_ at hK
        cases hkn:yj_ L j
        all_goals
         rw[hkn] at hK
         have HK:=hiD hK
         have HKN:=hiD hkn
         clear hK hkn
        ·go_wp2_with (go_at_call 77;refine HK.out.mono ?_;rintro e w7 ⟨rfl,hb7⟩)
         go_roundg q
         case measure=>omega
         case rel=>
          refine⟨j+1,by omega,by go_num,by have:=BG.out;show _=_;omega,tQ hB hb7,?_⟩
          intro t ht
          rcases Nat.lt_or_ge t j with h1|h1
          ·exact BK.out t h1
          ·obtain rfl:t=j:=by omega
           exact HKN.out
        ·go_wp2_with (go_at_call 77;refine HK.out.mono ?_;rintro e w7 ⟨rfl,hb7⟩)
         all_goals
          have hf:(List.range L.length).find? (fun i=>yj_ L i)=some j:=k1_ hjL HKN.out BK.out
          go_ret3
          rw[HRR.out]
          unfold y9_
          simp only
          rw[HF1.out]
          simp only
          rw[hf]
          exact⟨HB.out.trans ((tQ hB hb7).mono HB.out.size),rfl⟩
       ·obtain rfl:j=ps.length:=by omega
        have hlo:∀ t,t<L.length→yj_ L t=false:=fun t ht=>BK.out t (by rw[HLEN.out];exact ht)
        have HF2:=hiD (yz_ hlo)
        have HAC:=hiD (zec_ hlo)
        obtain⟨w4b,rfl⟩:∃ x,x=wr:=⟨_,rfl⟩
        have cs4:w4b.cell? ⟨s,0,none⟩=some (.slice Al ps.length cl):=(hB.cell (p:=⟨s,0,none⟩) (z9_ cs0)).trans cs0
        have HB4:=hiD hB
        clear hlo hB BK cs2
        go_wp2_with fail
        go_loopg [89] ps.length (fun gk i wr=>∃ j:Nat,j≤ps.length∧i= .int .i64 j∧Aside (j+gk=ps.length)∧Bel we wr∧Aside (∀ t,t<j→(!((L[t]?).map (fun d=>z06_ L d t)).getD false)=false))
        case atStart=>exact⟨0,Nat.zero_le _,rfl,by show _=_;omega,HB4.out,fun t ht=>absurd ht (by omega)⟩
        case round=>
         obtain⟨j,hj,rfl,BG,hB,BK⟩:=hrel
         by_cases hjl:j<ps.length
         ·obtain⟨q,rfl⟩:∃ q,gk=q+1:=⟨gk - 1,by have:=BG.out;omega⟩
          have hjL:j<L.length:=by rw[← HLEN.out];exact hjl
          have hLj:L[j]?=some L[j]:=List.getElem?_eq_getElem hjL
          obtain⟨g2,rfl,hcells⟩:=HPC.out.resolve_left (by rintro rfl;simp at hjl)
          have cj:we.cell? ⟨g2,j,none⟩=some (.pointer (some ⟨pAt ps j,0,none⟩)):=hcells j _ (yu_ hjl)
          have cq:wr.cell? ⟨g2,j,none⟩=some (.pointer (some ⟨pAt ps j,0,none⟩)):=(hB.cell (p:=⟨g2,j,none⟩) (z9_ cj)).trans cj
          have hK:=fits_c s j ps L L[j] wr (HSA.out.below hB) (fun d hd=>(HLIM.out d hd).1) (fun d hd=>(HLIM.out d hd).2) hLj
           (fun hc n hn=>by have:=z0c_ (HKNOW.out _ (List.getElem_mem hjL)) n hn;rw[hc] at this;exact this)
           (fun hc=>by
            obtain⟨a,ha⟩:=z0s_ HAC.out (fun d hd hc s hs=>by have:=z0c_ (HKNOW.out d hd) s hs;rw[hc] at this;exact this) hLj hc
            rw[ha];rfl)
          clear hcells cj
          unfold z7_ at hK
          cases hkn:z06_ L L[j] j
          all_goals
           rw[hkn] at hK
           have HK:=hiD hK
           have HKN:=hiD hkn
           clear hK hkn
          ·go_wp2_with (go_at_call 78;refine HK.out.mono ?_;rintro e w7 ⟨rfl,hb7⟩)
           all_goals
            have hf:(List.range L.length).find? (fun i=>!((L[i]?).map (fun d=>z06_ L d i)).getD false)=some j:=k1_ hjL (by rw[hLj];simp [HKN.out]) BK.out
            go_ret3
            rw[HRR.out]
            unfold y9_
            simp only
            rw[HF1.out]
            simp only
            rw[HF2.out]
            simp only
            rw[hf]
            exact⟨HB.out.trans ((tQ hB hb7).mono HB.out.size),rfl⟩
          ·go_wp2_with (go_at_call 78;refine HK.out.mono ?_;rintro e w7 ⟨rfl,hb7⟩)
           go_roundg q
           case measure=>omega
           case rel=>
            refine⟨j+1,by omega,by go_num,by have:=BG.out;show _=_;omega,tQ hB hb7,?_⟩
            intro t ht
            rcases Nat.lt_or_ge t j with h1|h1
            ·exact BK.out t h1
            ·obtain rfl:t=j:=by omega
             rw[hLj]
             simp [HKN.out]
         ·obtain rfl:j=ps.length:=by omega
          have hfi:∀ t,t<L.length→(!((L[t]?).map (fun d=>z06_ L d t)).getD false)=false:=fun t ht=>BK.out t (by rw[HLEN.out];exact ht)
          have HF3:=hiD (yz_ hfi)
          clear hfi BK
          go_wp2_with fail
          go_ret3
          rw[HRR.out]
          unfold y9_
          simp only
          rw[HF1.out]
          simp only
          rw[HF2.out]
          simp only
          rw[HF3.out]
          exact⟨tQ HB.out hB,s,ps,rfl,HSA.out.below hB⟩
open Go.RowKit
open Go.RowKit
def z2v_:AttrS:=⟨[],[],[],[],[],[],[],[],false,false,false⟩
def z04_ (w:World) (o:Option AttrS) (e:Ending) (w':World):Prop:=Bel w w'∧match o with
 |none=>e= .returned (.tuple #[jv_ z2v_ (.slice none 0 0),.int .i64 52])
 |some a=>∃ nv,e= .returned (.tuple #[jv_ a nv,.int .i64 0])∧Own w.heap.size w' nv a.names
theorem z5o_ {w W:World} {a:AttrS} {nv:Value} {tmps:Array Value} {o:Option AttrS} {er:Int} (hz:Bk W w.heap.size 128 (z8_ a nv)) (h4:tmps[4]?=some (.pointer (some ⟨w.heap.size,0,none⟩))) (h5:tmps[5]?=some (.int .i64 er))
  (h:z04_ w o (.returned (.tuple #[jv_ a nv,.int .i64 er])) W):
  bodyPost Tryz.prog Tryz.f83 (z04_ w o) .ret {tmps:=tmps,defers:=[]} W:=by
 have e4:tmps[4]?.getD undef= .pointer (some ⟨w.heap.size,0,none⟩):=by rw[h4];rfl
 have e5:tmps[5]?.getD undef= .int .i64 er:=by rw[h5];rfl
 have c0:=hz.cell 0
 have c1:=hz.cell 1
 have c2:=hz.cell 2
 have c3:=hz.cell 3
 have c4:=hz.cell 4
 have c5:=hz.cell 5
 have c6:=hz.cell 6
 have c7:=hz.cell 7
 have c8:=hz.cell 8
 have c9:=hz.cell 9
 have c10:=hz.cell 10
 simp only[z8_,List.getElem?_toArray,List.getElem?_cons_zero,List.getElem?_cons_succ] at c0 c1 c2 c3 c4 c5 c6 c7 c8 c9 c10
 refine bodyPost_ret (v:= .tuple #[jv_ a nv,.int .i64 er]) ?_ rfl h
 simp [results,Tryz.results83,go_sem,e4,e5,c0,c1,c2,c3,c4,c5,c6,c7,c8,c9,c10,jv_,z8_]
theorem z3p_ (s:Nat) (ps:List Nat) (L:List DefS) (x:LU) (w:World) (hS:SchAt w s ps L) (hx:x.length≤140737488351232) (hf:zk_ L false x=none):
  Calls Tryz.prog 83 #[z7_ s,.string ⟨x.toArray⟩] w (z04_ w none):=by
 have hb0:Bel w (w.alloc zu_):=(bR _ _).alloc (nR _) _
 have hF:=z8f_ s ps L false x _ (hS.below hb0) hx
 rw[hf] at hF
 have HF:Hid (Calls Tryz.prog 119 #[.pointer (some ⟨s,0,none⟩),.bool false,.string ⟨x.toArray⟩] (w.alloc zu_) fun e w'=>e= .returned (.pointer none)∧Below (w.alloc zu_).heap.size (w.alloc zu_) w'):=hiD hF
 have hk:Bk (w.alloc zu_) w.heap.size 128 #[.string ⟨#[]⟩,.string ⟨#[]⟩,.string ⟨#[]⟩,.slice none 0 0,.string ⟨#[]⟩,.string ⟨#[]⟩,.string ⟨#[]⟩,.string ⟨#[]⟩,.bool false,.bool false,.bool false]:=Bk.new w _ _
 have HK:=hiD hk
 clear hF hS hf hk
 unfold z7_
 go_enter Tryz.func83,Tryz.ntmps83
 go_wp2_with (go_at_call 119;refine HF.out.mono ?_;rintro e w1 ⟨rfl,hb1⟩;have hk1:=HK.out.below hb1;have oc0:=hk1.cell 0;have oc1:=hk1.cell 1;have oc2:=hk1.cell 2;have oc3:=hk1.cell 3;have oc4:=hk1.cell 4;have oc5:=hk1.cell 5;have oc6:=hk1.cell 6;have oc7:=hk1.cell 7;have oc8:=hk1.cell 8;have oc9:=hk1.cell 9;have oc10:=hk1.cell 10;simp only[gs3] at oc0 oc1 oc2 oc3 oc4 oc5 oc6 oc7 oc8 oc9 oc10;have of:=fun i=>hk1.frozen i)
 have hz:=vq_ _ _ _ _ _ _ _ _ _ _ _ (.string ⟨#[]⟩) (.string ⟨#[]⟩) (.string ⟨#[]⟩) (.slice none 0 0) (.string ⟨#[]⟩) (.string ⟨#[]⟩) (.string ⟨#[]⟩) (.string ⟨#[]⟩) (.bool false) (.bool false) (.bool false) hk1
 exact z5o_ (a:=z2v_) (nv:= .slice none 0 0) (er:=52) hz rfl rfl ⟨ja_ (tQ hb0 hb1) (nR _) _ _ _ _ _ _ _ _ _ _ _,rfl⟩
theorem zdx_ (s:Nat) (ps:List Nat) (L:List DefS) (x:LU) (w:World) (hS:SchAt w s ps L) (hx:x.length≤1000000) (hf:zk_ L false x=none):
  Calls Tryz.prog 83 #[z7_ s,.string ⟨x.toArray⟩] w (z04_ w none):=
 z3p_ s ps L x w hS (nT hx (by decide)) hf
theorem z0f_ (s:Nat) (ps:List Nat) (L:List DefS) (hlim:∀ d∈L,DefLim d) (x:LU) (j:Nat) (a:AttrS) (w:World) (hS:SchAt w s ps L) (hx:x.length≤140737488351232) (hf:zk_ L false x=some j) (ha:q9_ L j=some a):
  Calls Tryz.prog 83 #[z7_ s,.string ⟨x.toArray⟩] w (z04_ w (some a)):=by
 have hb0:Bel w (w.alloc zu_):=(bR _ _).alloc (nR _) _
 have hF:=z8f_ s ps L false x _ (hS.below hb0) hx
 rw[hf] at hF
 have HF:Hid (Calls Tryz.prog 119 #[.pointer (some ⟨s,0,none⟩),.bool false,.string ⟨x.toArray⟩] (w.alloc zu_) fun e w'=>e= .returned (.pointer (some ⟨pAt ps j,0,none⟩))∧Below (w.alloc zu_).heap.size (w.alloc zu_) w'):=hiD hF
 have HC:Hid (∀ W:World,Bel w W→Calls Tryz.prog 125 #[.pointer (some ⟨s,0,none⟩),.pointer (some ⟨pAt ps j,0,none⟩)] W fun e w'=>∃ A n c,e= .returned (jv_ a (.slice A n c))∧Bel W w'∧Own W.heap.size w' (.slice A n c) a.names):=hiD (fun W h=>(za1_ s ps L hlim (L.length+1) j a W (hS.below h) ha).mono (by
  rintro e w' ⟨h1,nv,rfl,h2⟩
  obtain⟨A,c,rfl,_⟩:=h2.isSlice
  exact⟨A,_,c,rfl,h1,h2⟩))
 have hk:Bk (w.alloc zu_) w.heap.size 128 #[.string ⟨#[]⟩,.string ⟨#[]⟩,.string ⟨#[]⟩,.slice none 0 0,.string ⟨#[]⟩,.string ⟨#[]⟩,.string ⟨#[]⟩,.string ⟨#[]⟩,.bool false,.bool false,.bool false]:=Bk.new w _ _
 have HK:=hiD hk
 clear hF hS hf hk ha hlim
 unfold z7_
 go_enter Tryz.func83,Tryz.ntmps83
 go_wp2_with (first|(go_at_call 119;refine HF.out.mono ?_;rintro e w1 ⟨rfl,hb1⟩;have hB1:=tQ hb0 hb1;have hk1:=HK.out.below hb1)|(go_at_call 125;refine(HC.out _ hB1).mono ?_;unfold jv_ z8_;rintro e w2 ⟨A,n,c,rfl,hb2,hO2⟩;have hk2:=hk1.below hb2;have oc0:=hk2.cell 0;have oc1:=hk2.cell 1;have oc2:=hk2.cell 2;have oc3:=hk2.cell 3;have oc4:=hk2.cell 4;have oc5:=hk2.cell 5;have oc6:=hk2.cell 6;have oc7:=hk2.cell 7;have oc8:=hk2.cell 8;have oc9:=hk2.cell 9;have oc10:=hk2.cell 10;simp only[gs3] at oc0 oc1 oc2 oc3 oc4 oc5 oc6 oc7 oc8 oc9 oc10;have of:=fun i=>hk2.frozen i))
 have hz:=vq_ _ _ _ _ _ _ _ _ _ _ _ (.string ⟨a.oid.toArray⟩) (.string ⟨a.name.toArray⟩) (.string ⟨a.sup.toArray⟩) (.slice A n c) (.string ⟨a.form.toArray⟩) (.string ⟨a.eqr.toArray⟩) (.string ⟨a.ordr.toArray⟩) (.string ⟨a.subs.toArray⟩) (.bool a.single) (.bool a.fixed) (.bool a.oper) hk2
 exact z5o_ (a:=a) (nv:= .slice A n c) (er:=0) hz rfl rfl ⟨ja_ (tQ hB1 hb2) (nR _) _ _ _ _ _ _ _ _ _ _ _,_,rfl,(hO2.lower hB1.size).far11 hk2 (by decide) _ _ _ _ _ _ _ _ _ _ _⟩
theorem zde_ (s:Nat) (ps:List Nat) (L:List DefS) (hlim:∀ d∈L,DefLim d) (x:LU) (j:Nat) (a:AttrS) (w:World) (hS:SchAt w s ps L) (hx:x.length≤1000000) (hf:zk_ L false x=some j) (ha:q9_ L j=some a):
  Calls Tryz.prog 83 #[z7_ s,.string ⟨x.toArray⟩] w (z04_ w (some a)):=
 z0f_ s ps L hlim x j a w hS (nT hx (by decide)) hf ha
end Go.Proofs.YtakfpngfpknedaaGreatDoor
