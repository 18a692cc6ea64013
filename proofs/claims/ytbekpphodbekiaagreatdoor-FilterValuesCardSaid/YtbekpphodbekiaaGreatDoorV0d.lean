import Derived.Test.YtbekpphodbekiaaGreatDoorV0c
import Derived.Lib.TrimAscii
import Derived.Lib.IndexAny
set_option linter.all false
set_option maxHeartbeats 8000000
set_option maxRecDepth 100000
namespace Go.Proofs.YtbekpphodbekiaaGreatDoor
open Go.RowKit
def zff_ (L:List Int):List Int:=((L.reverse.dropWhile (·==32)).reverse).dropWhile (·==32)
theorem xb_ {α:Type} [BEq α] [LawfulBEq α] (c:α):∀ l:List α,l.head?≠some c→l.dropWhile (·==c)=l
 |[],_=>rfl
 |x::l,h=>by
  have:(x==c)=false:=by rw[beq_eq_false_iff_ne];intro e;apply h;simp [e]
  rw[List.dropWhile_cons,this];simp
theorem za1_:∀ rs:List Int,(∀ r∈rs,VR r)→(cat rs).dropWhile (·==32)=cat (rs.dropWhile (·==32))
 |[],_=>rfl
 |r::rs,h=>by
  have hr:=h r (by simp)
  by_cases he:r=32
  ·subst he
   have e:xw_ 32=[32]:=by decide
   rw[z2v_,e,List.dropWhile_cons,List.singleton_append,List.dropWhile_cons]
   simp only[beq_self_eq_true,if_true]
   exact za1_ rs (fun x hx=>h x (by simp [hx]))
  ·rw[xb_ 32 (r::rs) (by simp [he])]
   apply xb_
   rw[z2v_,List.head?_append]
   have h1:=zjd_ hr
   have hne:=zij_ r
   cases hg:(xw_ r).head? with
   |none=>simp at hg;exact absurd hg hne
   |some x=>rw[hg] at h1;simp at h1 ⊢;intro e;exact he (h1.1 e)
theorem z96_:∀ (n:Nat) (rs:List Int),rs.length=n→(∀ r∈rs,VR r)→((cat rs).reverse.dropWhile (·==32)).reverse=cat ((rs.reverse.dropWhile (·==32)).reverse)
 |0,rs,hn,_=>by
  obtain rfl:rs=[]:=List.eq_nil_of_length_eq_zero hn
  rfl
 |n+1,rs,hn,h=>by
  rcases List.eq_nil_or_concat rs with rfl|⟨a,r,rfl⟩
  ·rfl
  ·rw[List.concat_eq_append] at *
   have hr:=h r (by simp)
   by_cases he:r=32
   ·subst he
    have e:cat [32]=[32]:=by decide
    rw[zjh_,e,List.reverse_append,List.reverse_append,List.reverse_singleton,List.reverse_singleton,List.singleton_append,List.singleton_append,List.dropWhile_cons,List.dropWhile_cons]
    simp only[beq_self_eq_true,if_true]
    exact z96_ n a (by simp at hn;exact hn) (fun x hx=>h x (by simp [hx]))
   ·rw[xb_ 32 (a++[r]).reverse (by simp [he]),xb_,List.reverse_reverse,List.reverse_reverse]
    rw[List.head?_reverse]
    intro e
    have:=(z7m_ _ h).1 e
    simp at this
    exact he this
theorem zl1_ (L:List Int) (h:∀ r∈L,VR r):Lib.trimB (cat L) 32=cat (zff_ L):=by
 unfold Lib.trimB Lib.trimLeftB Lib.trimRightB zff_
 rw[z96_ _ L rfl h,za1_]
 intro r hr
 apply h
 rw[List.mem_reverse] at hr
 have:=List.dropWhile_suffix (l:=L.reverse) (·==32)
 exact List.mem_reverse.1 (this.subset hr)
theorem NoTwo.infix {a b c:List Int} (h:NoTwo (a++b++c)):NoTwo b:=by
 intro i hi
 obtain⟨h1,h2⟩:=hi
 apply h (a.length+i)
 have l1:=(List.getElem?_eq_some_iff.1 h1).1
 have l2:=(List.getElem?_eq_some_iff.1 h2).1
 rw[List.append_assoc]
 constructor
 ·rw[List.getElem?_append_right (by omega),List.getElem?_append_left (by omega),show a.length+i - a.length=i by omega];exact h1
 ·rw[List.getElem?_append_right (by omega),List.getElem?_append_left (by omega),show a.length+i+1 - a.length=i+1 by omega];exact h2
theorem cat_nil {L:List Int}:cat L=[]↔L=[]:=by
 constructor
 ·intro h
  cases L with
  |nil=>rfl
  |cons r L=>rw[z2v_] at h;simp [zij_] at h
 ·rintro rfl;rfl
theorem map_some (f g:Bool):∀ (rs acc acc':List Int),(vr_ f rs acc).isSome=(vr_ g rs acc').isSome
 |[],_,_=>rfl
 |r::rs,acc,acc'=>by
  rw[vr_,vr_]
  have hs:∀ (f:Bool) (acc:List Int),(qh_ r).2.2=false→∃ a,ku_ f acc r=some a:=by
   intro f acc h
   unfold ku_
   rw[h]
   simp only[Bool.false_eq_true,if_false]
   split
   ·exact⟨_,rfl⟩
   ·split
    ·exact⟨_,rfl⟩
    ·exact⟨_,rfl⟩
  cases h:(qh_ r).2.2
  ·obtain⟨a,ha⟩:=hs f acc h
   obtain⟨b,hb⟩:=hs g acc' h
   rw[ha,hb]
   exact map_some f g rs a b
  ·have:∀ (f:Bool) (acc:List Int),ku_ f acc r=none:=by intro f acc;unfold ku_;rw[h];rfl
   rw[this,this];rfl
open Go.RowKit Go.Sort
open Go.RowKit Go.Sort
def spl (d:UInt8):LU→LL
 |[]=>[[]]
 |c::t=>if c=d then []::spl d t else match spl d t with
  |[]=>[[c]]
  |x::r=>(c::x)::r
theorem spl_ne (d:UInt8):∀ l,spl d l≠[]
 |[]=>by simp [spl]
 |c::t=>by
  rw[spl]
  split
  ·simp
  ·split<;>simp
theorem zcf_ (c d:UInt8) (h:c≠d) (t:LU):∀ k,∃ x r,Lib.splitK [d] 0 k t=x::r∧Lib.splitK [d] 0 k (c::t)=(c::x)::r
 |0=>⟨t,[],rfl,rfl⟩
 |k+1=>by
  have hp:([d]:LU).isPrefixOf (c::t)=false:=by simp [List.isPrefixOf,Ne.symm h]
  have hix:Lib.index (c::t) [d]=if Lib.index t [d]== -1 then -1 else Lib.index t [d]+1:=by rw[Lib.index,hp];simp
  rw[Lib.splitK,Lib.splitK,hix]
  by_cases hm:(Lib.index t [d]== -1)=true
  ·rw[if_pos hm,if_pos hm];exact⟨t,[],rfl,rfl⟩
  ·rw[if_neg hm,if_neg hm]
   have hge:=Lib.index_ge t [d]
   have hm':Lib.index t [d]≠ -1:=by simpa using hm
   obtain⟨j,hj⟩:∃ j:Nat,Lib.index t [d]=j:=⟨(Lib.index t [d]).toNat,by omega⟩
   rw[hj,if_neg (by simp;omega)]
   refine⟨_,_,rfl,?_⟩
   rw[show ((j:Int)+1).toNat=j+1 by omega]
   simp
theorem z53_ (d:UInt8):∀ l:LU,Lib.splitK [d] 0 (l.count d) l=spl d l
 |[]=>rfl
 |c::t=>by
  have ih:=z53_ d t
  by_cases h:c=d
  ·subst h
   rw[List.count_cons_self,Lib.splitK,spl,if_pos rfl]
   have hix:Lib.index (c::t) [c]=((0:Nat):Int):=by rw[Lib.index];simp [List.isPrefixOf]
   rw[hix]
   simp only[List.length_singleton,Int.toNat_natCast]
   rw[if_neg (by decide)]
   simp [ih]
  ·rw[List.count_cons_of_ne (by simpa using h)]
   obtain⟨x,r,e1,e2⟩:=zcf_ c d h t (t.count d)
   rw[e2,spl,if_neg h,← ih,e1]
theorem zml_ (l:LU):zb1_ l=spl 46 l:=by
 unfold zb1_
 rw[Lib.splitB_data]
 have:Lib.countB ⟨l.toArray⟩ ⟨#[46]⟩=l.count 46:=by
  show Lib.count l [46]=_
  exact Lib.count_one 46 l
 rw[this]
 exact z53_ 46 l
theorem zcl_ (d:UInt8):∀ (l:LU) (c:UInt8),c∈l→c=d∨∃ s∈spl d l,c∈s
 |[],c,h=>by simp at h
 |x::t,c,h=>by
  rw[spl]
  rw[List.mem_cons] at h
  by_cases hx:x=d
  ·rw[if_pos hx]
   rcases h with rfl|h
   ·exact .inl hx
   ·rcases zcl_ d t c h with h1|⟨s,h1,h2⟩
    ·exact .inl h1
    ·exact .inr ⟨s,by simp [h1],h2⟩
  ·rw[if_neg hx]
   have hne:=spl_ne d t
   cases hs:spl d t with
   |nil=>exact absurd hs hne
   |cons y r=>
    simp only
    rcases h with rfl|h
    ·exact .inr ⟨_,List.mem_cons_self ..,by simp⟩
    ·rcases zcl_ d t c h with h1|⟨s,h1,h2⟩
     ·exact .inl h1
     ·rw[hs,List.mem_cons] at h1
      rcases h1 with rfl|h1
      ·exact .inr ⟨_,List.mem_cons_self ..,by simp [h2]⟩
      ·exact .inr ⟨s,by simp [h1],h2⟩
theorem zj0_ {l:LU} (h:z5l_ l=true):∀ c∈l,c=46∨kg_ c=true:=by
 intro c hc
 unfold z5l_ at h
 rw[zml_,Bool.and_eq_true] at h
 rcases zcl_ 46 l c hc with h1|⟨s,h1,h2⟩
 ·exact .inl h1
 ·right
  have:=List.all_eq_true.1 h.1 s h1
  unfold z2l_ at this
  rw[Bool.and_eq_true] at this
  exact List.all_eq_true.1 this.2 c h2
theorem zlh_ {c:UInt8} (h:c=46∨kg_ c=true):zgl_ c=true∧lowB c=c:=by
 unfold zgl_ yi_ digB lowB
 rcases h with rfl|h
 ·decide
 ·unfold kg_ at h
  simp at h
  refine⟨?_,by rw[if_neg (by omega)]⟩
  have h1:decide ((48:Int)≤(c.toNat:Int))=true:=by simp;omega
  have h2:decide ((c.toNat:Int)≤57)=true:=by simp;omega
  rw[h1,h2];simp
theorem zp7_ {t:LU} (h:zd_ t=true):t≠[]:=by rintro rfl;simp [zd_] at h
theorem zdj_ {t:LU} (h:zd_ t=true):∀ c∈t,zgl_ c=true:=by
 cases t with
 |nil=>simp
 |cons c m=>
  unfold zd_ at h
  rw[Bool.and_eq_true] at h
  intro x hx
  by_cases hl:zly_ c.toNat=true
  ·rw[if_pos hl] at h
   have:=List.all_eq_true.1 h.2 x hx
   unfold kw_ at this
   rw[Bool.and_eq_true] at this
   exact this.1
  ·rw[if_neg hl] at h
   exact(zlh_ (zj0_ h.2 x hx)).1
open Go.RowKit Go.Sort
def Stop (r:LU):Prop:=∀ x t,r=x::t→x=43∨x=44
theorem z7u_ (l:LU) (c:UInt8):0≤Lib.indexByte l c↔c∈l:=by
 have:=Lib.contains_iff_indexByte l c
 rw[Bool.eq_iff_iff] at this
 simpa using this.symm
theorem z9h_:∀ n:Fin 16,q5_ (zkg_ n.val).toNat=(n.val:Int)∧z6k_ (zkg_ n.val)=true:=by decide
theorem z4e_:∀ v:LU,zz_ (z03_ v)=some v
 |[]=>rfl
 |c::t=>by
  have h1:=(z9h_ ⟨c.toNat / 16,by have:=UInt8.toNat_lt c;omega⟩).1
  have h2:=(z9h_ ⟨c.toNat % 16,by omega⟩).1
  simp only at h1 h2
  have:z03_ (c::t)=zkg_ (c.toNat / 16)::zkg_ (c.toNat % 16)::z03_ t:=by simp [z03_]
  rw[this,zz_,h1,h2,if_neg (by omega),z4e_ t]
  simp only[Option.map_some]
  congr 2
  unfold yy_
  apply UInt8.toNat_inj.1
  have:=UInt8.toNat_lt c
  rw[ofN (by omega)]
  omega
theorem blk_id (l:LU) (h:∀ x t,l=x::t→x≠32):blk l=l:=by
 unfold blk
 apply xb_
 cases l with
 |nil=>simp
 |cons x t=>simp;exact h x t rfl
theorem Stop.blk {r:LU} (h:Stop r):blk r=r:=blk_id r (fun x t e=>by rcases h x t e with rfl|rfl<;>decide)
open Go.RowKit Go.Sort
def kv_ (r v:LU):Int × LU:=match z7j_ (z2_ r) 0 with
 |none=>(41,[])
 |some x=>match yo_ x v with
  |none=>(40,[])
  |some m=>(0,m)
def zf_ (L:List DefS) (t v:LU):Int × LU:=match zg_ L false t with
 |none=>(52,[])
 |some i=>match q6_ L i with
  |none=>(52,[])
  |some a=>if qc_ a.form v then (if a.eqr==[] then (0,v) else kv_ a.eqr v) else (40,[])
def z22_ (L:List DefS) (t:LU):LU:=match zg_ L false t with
 |none=>[]
 |some i=>z9t_ L i
def zbz_ {α β:Type} (f:α→Int × β):List α→Int × List β
 |[]=>(0,[])
 |x::t=>if (f x).1≠0 then ((f x).1,[]) else (if (zbz_ f t).1≠0 then ((zbz_ f t).1,[]) else (0,(f x).2::(zbz_ f t).2))
def z2z_ (L:List DefS) (x:LU × LU):Int × (LU × LU):=((zf_ L x.1 x.2).1,(z2_ (z22_ L x.1),(zf_ L x.1 x.2).2))
def z4o_ (L:List DefS) (p:List (LU × LU)):Int × List (LU × LU):=((zbz_ (z2z_ L) p).1,zaj_ (zbz_ (z2z_ L) p).2)
def z5u_ (L:List DefS) (s:LU):Int × LU:=
 if (zh_ s).1≠0 then ((zh_ s).1,[])
 else if (zbz_ (z4o_ L) (zh_ s).2).1≠0 then ((zbz_ (z4o_ L) (zh_ s).2).1,[])
 else je_ (zbz_ (z4o_ L) (zh_ s).2).2
theorem zc4_ {α β:Type} {f:α→Int × β}:∀ {l:List α},(∀ x∈l,(f x).1=0)→zbz_ f l=(0,l.map (fun x=>(f x).2))
 |[],_=>by simp [zbz_]
 |x::t,h=>by
  have ih:=zc4_ (f:=f) (l:=t) (fun y hy=>h y (by simp [hy]))
  have h1:=h x (by simp)
  rw[zbz_,if_neg (by simpa using h1),ih,if_neg (by simp)]
  simp
open Go.RowKit
section
variable {P:Program} {κ:Type} [DecidableEq κ]
def MapR (kv:κ→Value) (es:Array MapEntry) (R:List (κ × Value)):Prop:=es.toList.map (fun e=>(e.key,e.val))=R.map (fun x=>(kv x.1,x.2))
def jo_ (R:List (κ × Value)) (k:κ):Option Value:=match R with
 |[]=>none
 |x::R=>if k=x.1 then some x.2 else jo_ R k
theorem z7z_ (R R':List (κ × Value)) (k:κ):jo_ (R++R') k=(jo_ R k).or (jo_ R' k):=by
 induction R with
 |nil=>simp [jo_]
 |cons x R ih=>
  simp only[List.cons_append,jo_]
  split
  ·rfl
  ·exact ih
theorem look_none {R:List (κ × Value)} {k:κ}:jo_ R k=none↔∀ x∈R,x.1≠k:=by
 induction R with
 |nil=>simp [jo_]
 |cons x R ih=>
  simp only[jo_,List.mem_cons,forall_eq_or_imp]
  by_cases h:k=x.1
  ·simp [h]
  ·rw[if_neg h,ih]
   constructor
   ·intro h';exact⟨fun e=>h e.symm,h'⟩
   ·intro h';exact h'.2
theorem MapR.push {kv:κ→Value} {es:Array MapEntry} {R:List (κ × Value)} (h:MapR kv es R) (k:κ) (v:Value) (b:Nat):MapR kv (es.push {key:=kv k,val:=v,born:=b}) (R++[(k,v)]):=by
 unfold MapR at h ⊢
 simp [h]
theorem MapR.nil (kv:κ→Value):MapR kv #[] []:=rfl
def z7h_ (P:Program) (K:TypeId) (kv:κ→Value):Prop:=∀ (w:World) (k:κ) (es:Array MapEntry) (R:List (κ × Value)),MapR kv es R→∃ q,(Instr.findKey K (kv k) es.toList).run P w= .ok q w∧q.map (·.2)=jo_ R k
theorem z6b_ {K:TypeId} {kv:κ→Value} (hEq:∀ w a b,(Op.equal K (kv a) (kv b)).run P w= .ok (decide (a=b)) w) (w:World) (k:κ):∀ (es:List MapEntry) (R:List (κ × Value)) (i:Nat),es.map (fun e=>(e.key,e.val))=R.map (fun x=>(kv x.1,x.2))→
  ∃ r,(Instr.findAsking K (kv k) es i).run P w= .ok r w∧r.map (·.2)=jo_ R k
 |[],[],i,_=>⟨none,rfl,rfl⟩
 |[],_::_,i,h=>by simp at h
 |_::_,[],i,h=>by simp at h
 |e::es,x::R,i,h=>by
  simp only[List.map_cons,List.cons.injEq,Prod.mk.injEq] at h
  obtain⟨r,hr,hm⟩:=z6b_ hEq w k es R (i+1) h.2
  simp only[Instr.findAsking,Sem.run_bind,h.1.1,hEq,Result.andThen_ok,jo_]
  by_cases hx:k=x.1
  ·simp only[hx,decide_true,if_true]
   exact⟨some (i,e.val),rfl,by simp [h.1.2]⟩
  ·simp only[hx,decide_false,Bool.false_eq_true,if_false]
   exact⟨r,hr,hm⟩
theorem z24_ {K:TypeId} {kv:κ→Value} {D:TypeDesc} (hU:P.underlying K=some D) (hNow:∀ a b,Instr.sameNow D (kv a) (kv b)=none) (hEq:∀ w a b,(Op.equal K (kv a) (kv b)).run P w= .ok (decide (a=b)) w):z7h_ P K kv:=by
 intro w k es R h
 unfold MapR at h
 obtain⟨es⟩:=es
 dsimp only at h ⊢
 unfold Instr.findKey
 simp only[Sem.run_bind,run_underlying hU,Result.andThen_ok]
 cases es with
 |nil=>
  cases R with
  |nil=>exact⟨none,rfl,rfl⟩
  |cons _ _=>simp at h
 |cons e es=>
  cases R with
  |nil=>simp at h
  |cons x R=>
   have hk:e.key=kv x.1:=by
    simp only[List.map_cons,List.cons.injEq,Prod.mk.injEq] at h
    exact h.1.1
   have:Instr.findNow D (kv k) (e::es) 0=none:=by simp only[Instr.findNow,hk,hNow]
   rw[this]
   exact z6b_ hEq w k _ _ 0 h
theorem zhk_ {kv:κ→Value} {D:TypeDesc} (hNow:∀ a b,Instr.sameNow D (kv a) (kv b)=some (decide (a=b))) (k:κ):∀ (es:List MapEntry) (R:List (κ × Value)) (i:Nat),es.map (fun e=>(e.key,e.val))=R.map (fun x=>(kv x.1,x.2))→
  ∃ r,Instr.findNow D (kv k) es i=some r∧r.map (·.2)=jo_ R k
 |[],[],i,_=>⟨none,rfl,rfl⟩
 |[],_::_,i,h=>by simp at h
 |_::_,[],i,h=>by simp at h
 |e::es,x::R,i,h=>by
  simp only[List.map_cons,List.cons.injEq,Prod.mk.injEq] at h
  obtain⟨r,hr,hm⟩:=zhk_ hNow k es R (i+1) h.2
  simp only[Instr.findNow,h.1.1,hNow,jo_]
  by_cases hx:k=x.1
  ·simp only[hx,decide_true,if_true]
   exact⟨some (i,e.val),rfl,by simp [h.1.2]⟩
  ·simp only[hx,decide_false,if_false]
   exact⟨r,hr,hm⟩
theorem zad_ {K:TypeId} {kv:κ→Value} {D:TypeDesc} (hU:P.underlying K=some D) (hNow:∀ a b,Instr.sameNow D (kv a) (kv b)=some (decide (a=b))):z7h_ P K kv:=by
 intro w k es R h
 obtain⟨r,hr,hm⟩:=zhk_ hNow k es.toList R 0 h
 unfold Instr.findKey
 simp only[Sem.run_bind,run_underlying hU,Result.andThen_ok,hr]
 exact⟨r,rfl,hm⟩
theorem z6v_ {T K E:TypeId} {kv:κ→Value} (hT:P.underlying T=some (.map K E)) (hF:z7h_ P K kv) (hC:∀ (b:Bool) w k,(Instr.checkKey b 10000 K (kv k)).run P w= .ok () w)
  (w:World) (r c:Nat) (es:Array MapEntry) (R:List (κ × Value)) (hw:w.heap[r]?=some (.map es c)) (h:MapR kv es R) (k:κ) (v:Value) (hn:jo_ R k=none):
  (Instr.mapUpdate T (.map (some r)) (kv k) v).run P w= .ok () (World.setMap w r (es.push {key:=kv k,val:=v,born:=c}) (c+1)):=by
 obtain⟨q,hq,hm⟩:=hF w k es R h
 rw[hn] at hm
 obtain rfl:q=none:=by simpa using hm
 unfold Instr.mapUpdate
 simp only[Sem.run_bind,run_underlying hT,Result.andThen_ok]
 simp only[getObj,Sem.run,Sem.run_bind,hw,Result.andThen_ok,hC,hq,setObj,World.setMap]
theorem zd2_ {T K E:TypeId} {kv:κ→Value} (hT:P.underlying T=some (.map K E)) (hF:z7h_ P K kv) (hC:∀ (b:Bool) w k,(Instr.checkKey b 10000 K (kv k)).run P w= .ok () w) {z:Value} (hz:∀ w,(zeroValue E).run P w= .ok z w)
  (w:World) (r c:Nat) (es:Array MapEntry) (R:List (κ × Value)) (hw:w.heap[r]?=some (.map es c)) (h:MapR kv es R) (k:κ):
  (Instr.lookup T (.map (some r)) (kv k) false).run P w= .ok ((jo_ R k).getD z) w:=by
 obtain⟨q,hq,hm⟩:=hF w k es R h
 unfold Instr.lookup
 simp only[Sem.run_bind,run_underlying hT,Result.andThen_ok]
 simp only[getObj,Sem.run,Sem.run_bind,hw,Result.andThen_ok,hC,hq,pure,Sem.run_pure]
 rw[← hm]
 cases q with
 |none=>
  simp only[Sem.run_bind,hz,Result.andThen_ok]
  rfl
 |some x=>rfl
theorem zac_ {T K E:TypeId} {kv:κ→Value} (hT:P.underlying T=some (.map K E)) (hF:z7h_ P K kv) (hC:∀ (b:Bool) w k,(Instr.checkKey b 10000 K (kv k)).run P w= .ok () w) {z:Value} (hz:∀ w,(zeroValue E).run P w= .ok z w)
  (w:World) (r c:Nat) (es:Array MapEntry) (R:List (κ × Value)) (hw:w.heap[r]?=some (.map es c)) (h:MapR kv es R) (k:κ):
  (Instr.lookup T (.map (some r)) (kv k) true).run P w= .ok (.tuple #[(jo_ R k).getD z,.bool (jo_ R k).isSome]) w:=by
 obtain⟨q,hq,hm⟩:=hF w k es R h
 unfold Instr.lookup
 simp only[Sem.run_bind,run_underlying hT,Result.andThen_ok]
 simp only[getObj,Sem.run,Sem.run_bind,hw,Result.andThen_ok,hC,hq,pure,Sem.run_pure]
 rw[← hm]
 cases q with
 |none=>
  simp only[Sem.run_bind,hz,Result.andThen_ok]
  rfl
 |some x=>rfl
end
open Go.RowKit
structure Mods (S:List Nat) (w w':World):Prop where
 os:w'.os=w.os
 tape:w'.tape=w.tape
 output:w'.output=w.output
 size:w.heap.size≤w'.heap.size
 block:∀ k,k<w.heap.size→k ∉ S→w'.heap[k]?=w.heap[k]?
theorem Mods.refl (S:List Nat) (w:World):Mods S w w:=⟨rfl,rfl,rfl,nR _,fun _ _ _=>rfl⟩
theorem Mods.trans {S:List Nat} {a b c:World} (h:Mods S a b) (k:Mods S b c):Mods S a c:=
 ⟨k.os.trans h.os,k.tape.trans h.tape,k.output.trans h.output,nT h.size k.size,fun i hi hn=>(k.block i (Nat.lt_of_lt_of_le hi h.size) hn).trans (h.block i hi hn)⟩
theorem Mods.mono {S S':List Nat} {w w':World} (h:Mods S w w') (hs:∀ x∈S,x∈S'):Mods S' w w':=⟨h.os,h.tape,h.output,h.size,fun k hk hn=>h.block k hk (fun hx=>hn (hs k hx))⟩
theorem Mods.news {S S':List Nat} {w w':World} (h:Mods S w w') (hs:∀ x∈S,x∈S'∨w.heap.size≤x):Mods S' w w':=⟨h.os,h.tape,h.output,h.size,fun k hk hn=>h.block k hk (fun hx=>by
 rcases hs k hx with h1|h1
 ·exact hn h1
 ·omega)⟩
theorem Mods.of_below {w w':World} (h:Bel w w') (S:List Nat):Mods S w w':=⟨h.os,h.tape,h.output,h.size,fun k hk _=>h.block k hk⟩
theorem Mods.of_grown {w w':World} {r:Nat} (h:w.grownBy w' (some r)) {S:List Nat} (hr:r∈S):Mods S w w':=⟨h.os,h.tape,h.output,h.size,fun k hk hn=>h.block k hk (fun e=>by cases e;exact hn hr)⟩
theorem Mods.of_grown' {w w':World} {r:Option Nat} (h:w.grownBy w' r) {S:List Nat} (hr:∀ k,r=some k→k∈S):Mods S w w':=⟨h.os,h.tape,h.output,h.size,fun k hk hn=>h.block k hk (fun e=>hn (hr k e.symm))⟩
theorem Mods.drew {S:List Nat} {a w:World} (h:Mods S a w):Mods S a w.drew:=⟨h.os,h.tape,h.output,h.size,h.block⟩
theorem Mods.drewN {S:List Nat} {a w:World} (h:Mods S a w) (n:Nat):Mods S a (w.drewN n):=⟨h.os,h.tape,h.output,h.size,h.block⟩
theorem Mods.alloc {S:List Nat} {a w:World} (h:Mods S a w) (o:Obj):Mods S a (w.alloc o):=h.trans (Mods.of_below ((bR _ _).alloc (nR _) o) S)
theorem Mods.setCell {S:List Nat} {a w:World} (h:Mods S a w) {p:Addr} (hp:p.block∈S) (u:Value):Mods S a (w.setCell p u):=
 h.trans ⟨rfl,rfl,rfl,by simp [World.setCell],fun k hk hn=>Below.heap_setCell _ _ _ _ (by rintro rfl;exact hn hp)⟩
theorem Mods.setMap {S:List Nat} {a w:World} (h:Mods S a w) {r:Nat} (hr:r∈S) (es:Array MapEntry) (c:Nat):Mods S a (World.setMap w r es c):=
 h.trans ⟨rfl,rfl,rfl,by rw[vw_];exact nR _,fun k hk hn=>y2_ (by rintro rfl;exact hn hr)⟩
theorem Mods.below {S:List Nat} {B:Nat} {w w':World} (h:Mods S w w') (hB:B≤w.heap.size) (hS:∀ x∈S,B≤x):Below B w w':=
 ⟨h.os,h.tape,h.output,h.size,fun k hk=>h.block k (Nat.lt_of_lt_of_le hk hB) (fun hx=>by have:=hS k hx;omega)⟩
theorem Mods.same {S:List Nat} {w w':World} (h:Mods S w w') {g:Nat} {o:Obj} (ho:w.heap[g]?=some o) (hg:g ∉ S):w'.heap[g]?=some o:=
 (h.block g (Array.getElem?_eq_some_iff.1 ho).1 hg).trans ho
theorem Mods.bk {S:List Nat} {w w':World} (h:Mods S w w') {g:Nat} {t:TypeId} {cs:Array Value} (hb:Bk w g t cs) (hg:g ∉ S):Bk w' g t cs:=Mods.same h hb hg
theorem Mods.cell {S:List Nat} {w w':World} (h:Mods S w w') {g o:Nat} {v:Value} (hc:w.cell? ⟨g,o,none⟩=some v) (hg:g ∉ S):w'.cell? ⟨g,o,none⟩=some v:=by
 rw[World.cell?_of_block (w:=w) (h.block g (z9_ hc) hg)]
 exact hc
def NoText (w:World) (S:List Nat):Prop:=∀ g∈S,∀ s,w.cell? ⟨g,0,none⟩≠some (.string s)
theorem Texts.mods {S:List Nat} {w w':World} {v:Value} {xs:LL} (h:Texts w v xs) (hm:Mods S w w') (hS:NoText w S):Texts w' v xs:=by
 rcases h with h|⟨b,c,rfl,hc,hlt,hcell⟩
 ·exact .inl h
 ·refine .inr ⟨b,c,rfl,hc,Nat.lt_of_lt_of_le hlt hm.size,fun j hj=>hm.cell (hcell j hj) (fun hb=>?_)⟩
  exact hS b hb _ (hcell 0 (by omega))
open Go.RowKit
def yc_ (x:Wd):List Value:=[.string ⟨x.1.toArray⟩,.bool x.2]
def Wds (B:Nat) (w:World) (v:Value) (l:List Wd):Prop:=w.ownsRow B 182 2 v l.length (l.flatMap yc_)∧B≤w.heap.size
theorem Wds.lt {B:Nat} {w:World} {v:Value} {l:List Wd} (h:Wds B w v l):∀ k,v.ownBlock=some k→B≤k∧k<w.heap.size:=fun k hk=>h.1.lt k hk
theorem Wds.keep {B:Nat} {w w':World} {v:Value} {l:List Wd} (h:Wds B w v l) {r:Option Nat} (hg:w.grownBy w' r) (hr:∀ k,r=some k→k<B):Wds B w' v l:=by
 refine⟨h.1.kept hg ?_,nT h.2 hg.size⟩
 rcases hv:v.ownBlock with _|g
 ·exact .inl rfl
 ·refine .inr ?_
  intro he
  have:=hr g he.symm
  have:=(h.1.lt g hv).1
  omega
theorem Wds.below {B:Nat} {w w':World} {v:Value} {l:List Wd} (h:Wds B w v l) (hb:Bel w w'):Wds B w' v l:=h.keep (zc_ hb none) (fun k hk=>by cases hk)
theorem Wds.nil {B:Nat} {w:World} (hB:B≤w.heap.size):Wds B w (.slice none 0 0) []:=⟨World.ownsRow_nil _ _ _ _,hB⟩
theorem Wds.isSlice {B:Nat} {w:World} {v:Value} {l:List Wd} (h:Wds B w v l):∃ A c,v= .slice A l.length c∧l.length≤c:=by
 obtain⟨⟨h1,h2⟩,h3⟩:=h
 rcases h2 with ⟨rfl,hn⟩|⟨g,cap,cur,rfl,r2,r3,r4,_⟩
 ·exact⟨none,0,by rw[hn],by omega⟩
 ·exact⟨_,cap,rfl,r4⟩
theorem zkv_:∃ i,Tryz.prog.info? 182=some i∧i.zero=some (.agg #[.string ⟨#[]⟩,.bool false])∧i.size=2∧i.bytes=24:=by
 obtain⟨i,h1,h2,h3,h4⟩:=info_parts (show (Tryz.prog.info? 182).map (fun i=>(i.zero,i.size,i.bytes))=some (some (.agg #[.string ⟨#[]⟩,.bool false]),2,24) by kernel_rfl)
 exact⟨i,h1,h2,h3,h4⟩
theorem z79_ {ops:Array Oper} {rest:List Oper} {o:Oper} {a:Act} {Q:Exit→Act→World→Prop} (hgd:o.guard=none) (s x:Operand) (ho:o.op= .call {callee:= .builtin .append,args:=#[s,x],argTypes:=#[128,128]})
  {v:Value} {l:List Wd} {B N:Nat} {w0:World} {t:LU} {q:Bool} (hs:a.eval s=v) (hb:Wds B w0 v l)
  (hx:a.eval x= .slice (some ⟨N,0,none⟩) 1 1) (hN:N=w0.heap.size) (hlen:l.length<1000000)
  (h:∀ v' w',Wds B w' v' (l++[(t,q)])→w0.grownBy w' v.ownBlock→wpList Tryz.prog ops Q rest (a.put o.dst v') w'):wpList Tryz.prog ops Q (o::rest) a (w0.alloc (.cells #[.string ⟨t.toArray⟩,.bool q] 182)):=by
 subst hN
 obtain⟨i,h1,h2,h3,h4⟩:=zkv_
 have hb':=hb.keep (World.grownBy_alloc w0 (.cells #[.string ⟨t.toArray⟩,.bool q] 182) none) (fun k hk=>by cases hk)
 refine wpList_append_own _ hgd s x 128 ho B 182 i (.agg #[.string ⟨#[]⟩,.bool false]) 2 24 Tryz.underlying128 h1 h2 h3 h4 rfl (by decide) v _ _ hs hb'.1 ⟨w0.heap.size,0,none⟩ 1 1 (yc_ (t,q)) hx rfl ?_ ?_ (by unfold maxLen;omega) (by omega) hb'.2 ?_
 ·intro j y hj
  match j,hj with
  |0,hj=>simp [yc_] at hj;subst hj;simp [Addr.add]
  |1,hj=>simp [yc_] at hj;subst hj;simp [Addr.add]
  |(j+2),hj=>simp [yc_] at hj
 ·intro y hy;simp [yc_] at hy;rcases hy with rfl|rfl<;>rfl
 ·intro v' w' ho' hg _
  refine h v' w' ⟨?_,nT hb'.2 hg.size⟩ (gT (World.grownBy_alloc _ _ _) hg)
  simpa using ho'
theorem z9n_:∀ (l:List Wd) (j:Nat) (x:Wd),l[j]?=some x→(l.flatMap yc_)[2 * j]?=some (.string ⟨x.1.toArray⟩)∧(l.flatMap yc_)[2 * j+1]?=some (.bool x.2)
 |[],j,x,h=>by simp at h
 |y::l,0,x,h=>by
  simp at h;subst h
  simp [yc_]
 |y::l,j+1,x,h=>by
  have:=z9n_ l j x (by simpa using h)
  simp only[List.flatMap_cons,yc_,List.cons_append,List.nil_append]
  rw[show 2 * (j+1)=2 * j+1+1 by omega]
  simpa using this
def WdsR (w:World) (v:Value) (l:List Wd):Prop:=
 ∃ A c,v= .slice A l.length c∧l.length≤c∧(l=[]∨∃ g o,A=some ⟨g,o,none⟩∧(∃ cs z,w.heap[g]?=some (.cells cs 182 z))∧∀ j x,l[j]?=some x→w.cell? ⟨g,o+2 * j,none⟩=some (.string ⟨x.1.toArray⟩)∧w.cell? ⟨g,o+2 * j+1,none⟩=some (.bool x.2))
theorem Wds.reads {B:Nat} {w:World} {v:Value} {l:List Wd} (h:Wds B w v l):WdsR w v l:=by
 obtain⟨⟨h1,h2⟩,h3⟩:=h
 rcases h2 with ⟨rfl,hn⟩|⟨g,cap,cur,rfl,r2,r3,r4,r5,r6,r7⟩
 ·exact⟨none,0,by rw[hn],by omega,.inl (List.eq_nil_of_length_eq_zero hn)⟩
 ·refine⟨_,cap,rfl,r4,?_⟩
  have key:∀ j x,l[j]?=some x→w.cell? ⟨g,2 * j,none⟩=some (.string ⟨x.1.toArray⟩)∧w.cell? ⟨g,2 * j+1,none⟩=some (.bool x.2):=by
   intro j x hj
   have hf:=z9n_ l j x hj
   have hjl:j<l.length:=(List.getElem?_eq_some_iff.1 hj).1
   rw[← r7,List.getElem?_take,List.getElem?_take,if_pos (by omega),if_pos (by omega)] at hf
   simp only[World.cell?,r3]
   simpa using hf
  cases l with
  |nil=>exact .inl rfl
  |cons y t=>exact .inr ⟨g,0,rfl,⟨_,_,r3⟩,fun j x hj=>by rw[Nat.zero_add];exact key j x hj⟩
def NoWord (w:World) (S:List Nat):Prop:=∀ g∈S,∀ cs z,w.heap[g]?≠some (.cells cs 182 z)
theorem NoWord.of_bk {w:World} {g:Nat} {t:TypeId} {cs:Array Value} (h:Bk w g t cs) (ht:t≠182):NoWord w [g]:=by
 intro k hk cs' z
 have:k=g:=by simpa using hk
 subst this
 unfold Bk at h
 rw[h]
 intro e
 cases e
 exact ht rfl
theorem WdsR.mods {S:List Nat} {w w':World} {v:Value} {l:List Wd} (h:WdsR w v l) (hm:Mods S w w') (hS:NoWord w S):WdsR w' v l:=by
 obtain⟨A,c,rfl,hc,h⟩:=h
 refine⟨A,c,rfl,hc,h.imp id ?_⟩
 rintro⟨g,o,rfl,⟨cs,z,hs⟩,hx⟩
 have hg:g ∉ S:=fun hg=>hS g hg cs z hs
 exact⟨g,o,rfl,⟨cs,z,hm.same hs hg⟩,fun j x hj=>⟨hm.cell (hx j x hj).1 hg,hm.cell (hx j x hj).2 hg⟩⟩
theorem WdsR.below {w w':World} {v:Value} {l:List Wd} (h:WdsR w v l) (hb:Bel w w'):WdsR w' v l:=h.mods (Mods.of_below hb []) (fun g hg=>by cases hg)
theorem WdsR.uncons {w:World} {A:Option Addr} {n c:Nat} {x:Wd} {l:List Wd} (h:WdsR w (.slice A n c) (x::l)):∃ g o,A=some ⟨g,o,none⟩∧n=l.length+1∧l.length+1≤c∧w.cell? ⟨g,o,none⟩=some (.string ⟨x.1.toArray⟩)∧w.cell? ⟨g,o+1,none⟩=some (.bool x.2)∧
  ∀ A' c',l.length≤c'→(1<c→A'=some ⟨g,o+2,none⟩)→WdsR w (.slice A' l.length c') l:=by
 obtain⟨A0,c0,e,hc,h⟩:=h
 cases e
 rcases h with h|⟨g,o,rfl,hs,hx⟩
 ·cases h
 ·refine⟨g,o,rfl,rfl,hc,(hx 0 x rfl).1,(hx 0 x rfl).2,?_⟩
  intro A' c' hc' h1
  refine⟨A',c',rfl,hc',?_⟩
  cases l with
  |nil=>exact .inl rfl
  |cons y t=>
   simp only[List.length_cons] at hc
   refine .inr ⟨g,o+2,h1 (by omega),hs,fun j z hj=>?_⟩
   have:=hx (j+1) z (by simpa using hj)
   rw[show o+2 * (j+1)=o+2+2 * j by omega] at this
   exact this
def RdW (w:World) (r:Nat) (l:List Wd):Prop:=∃ v,Bk w r 133 #[v]∧WdsR w v l
theorem RdW.notext {w:World} {r:Nat} {l:List Wd} (h:RdW w r l):NoText w [r]:=by
 obtain⟨v,hb,A,c,rfl,_⟩:=h
 intro g hg s
 have:g=r:=by simpa using hg
 subst this
 rw[hb.cell 0]
 simp
theorem RdW.noword {w:World} {r:Nat} {l:List Wd} (h:RdW w r l):NoWord w [r]:=by
 obtain⟨v,hb,_⟩:=h
 exact NoWord.of_bk hb (by decide)
theorem RdW.mods {S:List Nat} {w w':World} {r:Nat} {l:List Wd} (h:RdW w r l) (hm:Mods S w w') (hr:r ∉ S) (hS:NoWord w S):RdW w' r l:=by
 obtain⟨v,hb,hw⟩:=h
 exact⟨v,hm.bk hb hr,hw.mods hm hS⟩
theorem RdW.below {w w':World} {r:Nat} {l:List Wd} (h:RdW w r l) (hb:Bel w w'):RdW w' r l:=h.mods (Mods.of_below hb []) (by simp) (fun g hg=>by cases hg)
open Go.RowKit
def stopCs:LU:=[32,9,10,13,40,41,36,39]
theorem zj4_ (c:UInt8):xy_ c=stopCs.contains c:=by
 unfold xy_ q3_ vf_ stopCs
 rw[Bool.eq_iff_iff]
 simp [or_assoc]
theorem z57_ (c:UInt8):(q3_ c=true↔0≤Lib.indexByte [32,9,10,13] c):=by
 rw[z7u_]
 unfold q3_
 simp [or_assoc]
theorem z5r_ (c:UInt8):(vf_ c=true↔0≤Lib.indexByte [40,41,36] c):=by
 rw[z7u_]
 unfold vf_
 simp [or_assoc]
theorem z3i_:∀ (l:LU) (c:UInt8),l.contains c=true→Lib.indexByte l c=((l.takeWhile (· !=c)).length:Int)∧(l.takeWhile (· !=c)).length<l.length
 |[],c,h=>by simp at h
 |b::l,c,h=>by
  rw[Lib.indexByte,List.takeWhile_cons]
  by_cases hb:b=c
  ·subst hb;simp
  ·have h1:l.contains c=true:=by
    simp only[List.contains_eq_mem,List.mem_cons,decide_eq_true_eq] at h ⊢
    rcases h with h|h
    ·exact absurd h.symm hb
    ·exact h
   obtain⟨h2,h3⟩:=z3i_ l c h1
   have h4:(b==c)=false:=beq_eq_false_iff_ne.2 hb
   have h5:(b !=c)=true:=by simp [hb]
   rw[h4,h5,h2]
   simp only[Bool.false_eq_true,if_false,if_true,List.length_cons]
   have h6:(((l.takeWhile (· !=c)).length:Int)== -1)=false:=by rw[beq_eq_false_iff_ne];omega
   rw[h6]
   simp only[Bool.false_eq_true,if_false]
   exact⟨by omega,by omega⟩
theorem zab_ (l:LU) (c:UInt8) (h:l.contains c=false):Lib.indexByte l c= -1:=by
 have h1:=Lib.indexByte_ge l c
 have h2:¬ 0≤Lib.indexByte l c:=by
  rw[z7u_]
  simpa using h
 omega
theorem zau_ (cs:LU):∀ l:LU,l.any cs.contains=true→Lib.indexAny l cs=((l.takeWhile (fun c=>!cs.contains c)).length:Int)∧(l.takeWhile (fun c=>!cs.contains c)).length<l.length
 |[],h=>by simp at h
 |b::l,h=>by
  rw[Lib.indexAny,List.takeWhile_cons]
  cases hb:cs.contains b
  ·have h1:l.any cs.contains=true:=by
    rw[List.any_cons,hb,Bool.false_or] at h
    exact h
   obtain⟨h2,h3⟩:=zau_ cs l h1
   rw[h2]
   simp only[Bool.false_eq_true,if_false,Bool.not_false,if_true,List.length_cons]
   have h6:(((l.takeWhile (fun c=>!cs.contains c)).length:Int)== -1)=false:=by rw[beq_eq_false_iff_ne];omega
   rw[h6]
   simp only[Bool.false_eq_true,if_false]
   exact⟨by omega,by omega⟩
  ·simp
theorem zan_ (cs:LU):∀ l:LU,l.any cs.contains=false→Lib.indexAny l cs= -1∧l.takeWhile (fun c=>!cs.contains c)=l
 |[],_=>by simp [Lib.indexAny]
 |b::l,h=>by
  rw[List.any_cons,Bool.or_eq_false_iff] at h
  obtain⟨h2,h3⟩:=zan_ cs l h.2
  rw[Lib.indexAny,List.takeWhile_cons,h.1,h2,h3]
  simp
theorem zdu_:(fun c=>!xy_ c)=fun c=>!stopCs.contains c:=funext fun c=>by rw[zj4_]
theorem jy_:∀ (n m:Nat) (r:LU) (acc:List Wd),r.length<n→r.length<m→ja_ n r acc=ja_ m r acc
 |0,_,_,_,h,_=>by omega
 |_+1,0,_,_,_,h=>by omega
 |n+1,m+1,r,acc,h1,h2=>by
  have hd:(r.dropWhile q3_).length≤r.length:=(List.dropWhile_sublist _).length_le
  rw[ja_,ja_]
  cases hr:r.dropWhile q3_ with
  |nil=>rfl
  |cons c t=>
   rw[hr] at hd
   simp only[List.length_cons] at hd
   simp only
   split
   ·split
    ·refine jy_ n m _ _ ?_ ?_
     all_goals
      have:=(List.dropWhile_sublist (fun x:UInt8=>x !=39) (l:=t)).length_le
      rw[List.length_tail]
      omega
    ·rfl
   ·split
    ·exact jy_ n m t _ (by omega) (by omega)
    ·refine jy_ n m _ _ ?_ ?_
     all_goals
      have:=(List.dropWhile_sublist (fun c:UInt8=>!xy_ c) (l:=t)).length_le
      omega
theorem zg4_ (n:Nat) {r:LU} (acc:List Wd) (h:r.dropWhile q3_=[]):ja_ (n+1) r acc=some acc:=by
 rw[ja_,h]
theorem z0e_ (n:Nat) {r t:LU} {c:UInt8} (acc:List Wd) (hn:r.length<n+1) (h:r.dropWhile q3_=c::t):ja_ (n+1) r acc=(
   if c==39 then (if t.contains 39 then ja_ (n+1) (t.dropWhile (· !=39)).tail (acc++[(t.takeWhile (· !=39),true)]) else none)
   else if vf_ c then ja_ (n+1) t (acc++[([c],false)])
   else ja_ (n+1) (t.dropWhile (fun c=>!xy_ c)) (acc++[(c::t.takeWhile (fun c=>!xy_ c),false)])):=by
 have hd:(r.dropWhile q3_).length≤r.length:=(List.dropWhile_sublist _).length_le
 rw[h] at hd
 simp only[List.length_cons] at hd
 have h1:=(List.dropWhile_sublist (fun x:UInt8=>x !=39) (l:=t)).length_le
 have h2:=(List.dropWhile_sublist (fun c:UInt8=>!xy_ c) (l:=t)).length_le
 rw[ja_,h]
 simp only
 rw[jy_ n (n+1) (t.dropWhile (· !=39)).tail _ (by rw[List.length_tail];omega) (by rw[List.length_tail];omega),jy_ n (n+1) t _ (by omega) (by omega),jy_ n (n+1) (t.dropWhile fun c=>!xy_ c) _ (by omega) (by omega)]
theorem k0_ {α:Type} (p:α→Bool):∀ t:List α,t.drop (t.takeWhile p).length=t.dropWhile p
 |[]=>rfl
 |c::t=>by
  rw[List.takeWhile_cons,List.dropWhile_cons]
  cases p c
  ·rfl
  ·simpa using k0_ p t
theorem k5_ {α:Type} (p:α→Bool):∀ t:List α,t.take (t.takeWhile p).length=t.takeWhile p
 |[]=>rfl
 |c::t=>by
  rw[List.takeWhile_cons]
  cases p c
  ·rfl
  ·simpa using k5_ p t
end Go.Proofs.YtbekpphodbekiaaGreatDoor
