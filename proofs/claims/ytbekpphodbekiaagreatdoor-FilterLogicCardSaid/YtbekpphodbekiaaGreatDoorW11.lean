import Derived.Test.YtbekpphodbekiaaGreatDoorW10
set_option linter.all false
set_option maxHeartbeats 8000000
set_option maxRecDepth 100000
namespace Go.Proofs.YtbekpphodbekiaaGreatDoor
open Go.ChangeShapes Go.WideShapes Go.ChangeAt Go.RowKit Go.Lib Go.Shelf Go.Deep Go.Joins
section
variable {H:Type} {enc:TypeId × Value→H} {W:World} {base:Nat} {fuel:Nat} {cs:List Value} {x:DataW H × List MemPlace}
def Sz (P:Program) (t:TypeId) (d:DataW H):Prop:=∀ n∈d.weights P t,n≤reachBytes
theorem z68_ {P:Program} {ts:List TypeId} {ds:List (DataW H)} (h:(DataW.weightsEach P ts ds).all (·≤reachBytes)=true) {j:Nat} {t:TypeId} {d:DataW H} (ht:ts[j]?=some t) (hd:ds[j]?=some d):Sz P t d:=fun n hn=>by
 have:=List.all_eq_true.1 h _ (DataW.weights_mem_each ht hd n hn)
 simpa using this
theorem vv_ {P:Program} {t tj:TypeId} {fs:Array Field} {parts:List (DataW H)} {d:DataW H} {j:Nat} (hu:P.underlying t=some (.struct fs)) (h:Sz P t (.agg parts)) (ht:(fs.toList.map (·.type))[j]?=some tj) (hd:parts[j]?=some d):Sz P tj d:=fun n hn=>by
 refine h n ?_
 simp only[DataW.weights,hu]
 exact DataW.weights_mem_each ht hd n hn
theorem z30_ {P:Program} {e:TypeId}:∀ {l:List (DataW H)} {d:DataW H},d∈l→∀ n∈d.weights P e,n∈DataW.weightsAll P e l
 |[],d,h,_,_=>by cases h
 |y::l,d,h,n,hn=>by
  simp only[DataW.weightsAll,List.mem_append]
  rcases List.mem_cons.1 h with rfl|h
  ·exact .inl hn
  ·exact .inr (z30_ h n hn)
theorem zb6_ {P:Program} {t e:TypeId} {elems spare:List (DataW H)} {d:DataW H} (hu:P.underlying t=some (.slice e)) (h:Sz P t (.slice elems spare)) (hd:d∈elems):Sz P e d:=fun n hn=>by
 refine h n ?_
 simp only[DataW.weights,hu,List.mem_cons,List.mem_append]
 exact .inr (.inl (z30_ hd n hn))
theorem sz_len {P:Program} {t e:TypeId} {elems spare:List (DataW H)} (hu:P.underlying t=some (.slice e)) (h:Sz P t (.slice elems spare)):(elems.length+spare.length) * P.bytesOf e≤reachBytes:=by
 refine h _ ?_
 simp only[DataW.weights,hu,List.mem_cons,true_or]
theorem z5s_ {P:Program} {t:TypeId} {s:LU} (h:Sz P t (.lit (.string s):DataW H)):s.length≤140737488351232:=by
 have:=h s.length (by simp [DataW.weights])
 unfold reachBytes at this
 omega
theorem z2o_ (h:DataW.trod enc Tryz.prog W base (fun _=>true) true fuel 36 cs=some x) (hz:Sz Tryz.prog 36 x.1):∃ v xs,cs=[v]∧TextsA W v xs∧xs.length≤8796093021952∧∀ s∈xs,s.length≤140737488351232:=by
 rcases open_strings Tryz.underlying36 Tryz.underlying9 (by kernel_rfl) h with ⟨rfl,rfl⟩|⟨a,len',cap',ss,rfl,_,hl,hm,hzz,rfl,hcell,hsz⟩
 ·exact⟨_,[],rfl,.inl ⟨rfl,rfl⟩,Nat.zero_le _,fun s hs=>by cases hs⟩
 ·simp only[if_true] at hzz
  refine⟨_,_,rfl,zir_ hl hzz hcell,?_,fun s hs=>?_⟩
  ·have h1:=sz_len Tryz.underlying36 hz
   rw[show Tryz.prog.bytesOf 9=16 by kernel_rfl] at h1
   unfold reachBytes at h1
   simp only[strs,List.length_map] at h1 ⊢
   omega
  ·obtain⟨b,hb,rfl⟩:=List.mem_map.1 hs
   exact z5s_ (zb6_ Tryz.underlying36 hz (List.mem_map.2 ⟨b,hb,rfl⟩))
theorem z9a_ (h:DataW.trod enc Tryz.prog W base (fun _=>true) true fuel 22 cs=some x) (hz:Sz Tryz.prog 22 x.1):∃ v l,cs=[v]∧AttrsA W v l∧∀ a∈l,a.typ.length≤140737488351232∧a.vals.length≤4611686018427387904:=by
 rcases open_slice Tryz.underlying22 h with ⟨rfl,rfl⟩|⟨a,len,cap,m,n,D,Pl,rfl,hb,hl,hm,hmm,rfl,hx⟩
 ·exact⟨_,[],rfl,⟨[],rfl,⟨none,0,rfl,nR _,fun _=>rfl,fun j hj=>absurd hj (by simp)⟩,AQOk.nil _⟩,fun a ha=>by cases ha⟩
 simp only[if_true] at hmm
 subst hmm
 rw[show Tryz.prog.cellsOf 43=2 by kernel_rfl] at hx
 have each:∀ i,i<len→∃ r:ql_,(W.cell? (a.add (i * 2))=some (.string ⟨r.1.typ.toArray⟩)∧W.cell? ((a.add (i * 2)).add 1)=some r.2∧TextsA W r.2 r.1.vals)∧r.1.typ.length≤140737488351232∧r.1.vals.length≤4611686018427387904:=by
  intro i hi
  obtain⟨cs',h1,h2⟩:=hx i (by omega)
  obtain⟨_,hlen,hcell⟩:=World.cells?_some h1
  obtain⟨y0,y1,k,hxy,_,u0,u1⟩:=trod_struct2 Tryz.underlying43 h2
  obtain⟨v0,v1,rfl⟩:=list2 hlen
  simp only[show Tryz.prog.cellsOf 9=1 by kernel_rfl,show Tryz.prog.cellsOf 36=1 by kernel_rfl,List.drop,List.take] at u0 u1
  obtain⟨⟨⟨s⟩⟩,e0,d0,_⟩:=DataW.trod_string Tryz.underlying9 u0
  simp only[Prod.mk.injEq] at hxy
  have hzi:Sz Tryz.prog 43 (D i):=zb6_ Tryz.underlying22 hz (List.mem_map.2 ⟨i,List.mem_range.2 hi,rfl⟩)
  rw[hxy.1,d0] at hzi
  have z0:=z5s_ (vv_ (j:=0) Tryz.underlying43 hzi rfl rfl)
  obtain⟨va,ats,e1,ta,b1,_⟩:=z2o_ u1 (vv_ (j:=1) Tryz.underlying43 hzi rfl rfl)
  simp only[List.cons.injEq,and_true] at e0 e1
  subst e0;subst e1
  have c0:=hcell 0 (by omega)
  have c1:=hcell 1 (by omega)
  exact⟨(⟨s,ats⟩,_),⟨by simpa [Addr.add] using c0,by simpa using c1,ta⟩,z0,nT b1 (by decide)⟩
 obtain⟨q,hq⟩:=choose_lt each
 refine⟨_,((List.range len).map q).map (·.1),rfl,⟨(List.range len).map q,rfl,⟨some a,m,by simp,by simp;omega,fun h=>(by cases h),fun j hj=>?_⟩,fun y hy=>?_⟩,?_⟩
 ·have hj':j<len:=by simpa using hj
  obtain⟨⟨c0,c1,c2⟩,_⟩:=hq j (by omega)
  have hsp:a.spot=none:=by
   cases hs:a.spot with
   |none=>rfl
   |some k=>
    have h0:=hq 0 (by omega)
    have h1:=h0.1.1
    unfold World.cell? Addr.add at h1
    simp [hs] at h1
    split at h1<;>cases h1
  obtain⟨b,o,sp⟩:=a
  subst hsp
  rw[qy_] at c0
  rw[qy_,qy_] at c1
  refine⟨b,o,rfl,fun k u hu=>?_⟩
  simp only[List.getElem_map,List.getElem_range] at hu
  match k,hu with
  |0,hu=>simp [jp_] at hu;subst hu;simpa using c0
  |1,hu=>simp [jp_] at hu;subst hu;simpa using c1
  |(k+2),hu=>simp [jp_] at hu
 ·obtain⟨i,hi,rfl⟩:=List.mem_map.1 hy
  exact(hq i (by have:=List.mem_range.1 hi;omega)).1.2.2
 ·intro p hp
  obtain⟨y,hy,rfl⟩:=List.mem_map.1 hp
  obtain⟨i,hi,rfl⟩:=List.mem_map.1 hy
  exact(hq i (by have:=List.mem_range.1 hi;omega)).2
theorem zaj_ (h:DataW.trod enc Tryz.prog W base (fun _=>true) true fuel 23 cs=some x) (hz:Sz Tryz.prog 23 x.1):∃ v l,cs=[v]∧FilsA W v l∧∀ p∈l,z0p_ p∧p.n≤9223372036854775807:=by
 rcases open_slice Tryz.underlying23 h with ⟨rfl,rfl⟩|⟨a,len,cap,m,n,D,Pl,rfl,hb,hl,hm,hmm,rfl,hx⟩
 ·exact⟨_,[],rfl,⟨[],rfl,⟨none,0,rfl,nR _,fun j hj=>absurd hj (by simp)⟩,fun q hq=>(by cases hq)⟩,fun p hp=>(by cases hp)⟩
 simp only[if_true] at hmm
 subst hmm
 rw[show Tryz.prog.cellsOf 45=7 by kernel_rfl] at hx
 have each:∀ i,i<len→∃ r:q6_,(∀ k u,(z3_ r)[k]?=some u→W.cell? ((a.add (i * 7)).add k)=some u)∧TextsA W r.2 r.1.any∧z0p_ r.1∧r.1.n≤9223372036854775807:=by
  intro i hi
  obtain⟨cs',h1,h2⟩:=hx i (by omega)
  obtain⟨_,hlen,hcell⟩:=World.cells?_some h1
  obtain⟨y0,y1,y2,y3,y4,y5,y6,k,hxy,_,u0,u1,u2,u3,u4,u5,u6⟩:=z8r_ Tryz.underlying45 h2
  obtain⟨v0,v1,v2,v3,v4,v5,v6,rfl⟩:=list7 hlen
  simp only[show Tryz.prog.cellsOf 3=1 by kernel_rfl,show Tryz.prog.cellsOf 9=1 by kernel_rfl,show Tryz.prog.cellsOf 36=1 by kernel_rfl,List.drop,List.take] at u0 u1 u2 u3 u4 u5 u6
  obtain⟨q0,e0,d0,_⟩:=DataW.trod_int Tryz.underlying3 u0
  obtain⟨q1,e1,d1,wf1⟩:=DataW.trod_int Tryz.underlying3 u1
  obtain⟨⟨⟨s2⟩⟩,e2,d2,_⟩:=DataW.trod_string Tryz.underlying9 u2
  obtain⟨⟨⟨s3⟩⟩,e3,d3,_⟩:=DataW.trod_string Tryz.underlying9 u3
  obtain⟨⟨⟨s4⟩⟩,e4,d4,_⟩:=DataW.trod_string Tryz.underlying9 u4
  obtain⟨⟨⟨s5⟩⟩,e5,d5,_⟩:=DataW.trod_string Tryz.underlying9 u5
  have hxy2:D i= .agg [y0.fst,y1.fst,y2.fst,y3.fst,y4.fst,y5.fst,y6.fst]:=hxy
  have hzi:Sz Tryz.prog 45 (D i):=zb6_ Tryz.underlying23 hz (List.mem_map.2 ⟨i,List.mem_range.2 hi,rfl⟩)
  rw[hxy2,d2,d3,d4,d5] at hzi
  have z2:=z5s_ (vv_ (j:=2) Tryz.underlying45 hzi rfl rfl)
  have z3:=z5s_ (vv_ (j:=3) Tryz.underlying45 hzi rfl rfl)
  have z4:=z5s_ (vv_ (j:=4) Tryz.underlying45 hzi rfl rfl)
  have z5:=z5s_ (vv_ (j:=5) Tryz.underlying45 hzi rfl rfl)
  obtain⟨va,ats,e6,ta,b6,b7⟩:=z2o_ u6 (vv_ (j:=6) Tryz.underlying45 hzi rfl rfl)
  simp only[List.cons.injEq,and_true] at e0 e1 e2 e3 e4 e5 e6
  subst e0;subst e1;subst e2;subst e3;subst e4;subst e5;subst e6
  refine⟨(⟨q0,q1,s2,s3,s4,s5,ats⟩,_),fun k u hu=>?_,ta,?_,?_⟩
  ·match k,hu with
   |0,hu=>simp [z3_] at hu;subst hu;exact hcell 0 (by omega)
   |1,hu=>simp [z3_] at hu;subst hu;exact hcell 1 (by omega)
   |2,hu=>simp [z3_] at hu;subst hu;exact hcell 2 (by omega)
   |3,hu=>simp [z3_] at hu;subst hu;exact hcell 3 (by omega)
   |4,hu=>simp [z3_] at hu;subst hu;exact hcell 4 (by omega)
   |5,hu=>simp [z3_] at hu;subst hu;exact hcell 5 (by omega)
   |6,hu=>simp [z3_] at hu;subst hu;exact hcell 6 (by omega)
   |k+7,hu=>simp [z3_] at hu
  ·refine⟨z2,z3,b6,fun y hy=>?_⟩
   simp only[List.mem_append,List.mem_singleton] at hy
   rcases hy with (rfl|hy)|rfl
   ·exact z4
   ·exact b7 y hy
   ·exact z5
  ·have hw1:q1≤IntKind.i64.max:=by
    unfold Lit.wf at wf1
    rw[Bool.and_eq_true,decide_eq_true_eq,decide_eq_true_eq] at wf1
    exact wf1.2
   exact hw1
 obtain⟨q,hq⟩:=choose_lt each
 refine⟨_,((List.range len).map q).map (·.1),rfl,⟨(List.range len).map q,rfl,⟨some a,m,by simp,by simp;omega,fun j hj=>?_⟩,fun y hy=>?_⟩,?_⟩
 ·have hj':j<len:=by simpa using hj
  obtain⟨c0,_,_⟩:=hq j (by omega)
  have hsp:a.spot=none:=by
   cases hs:a.spot with
   |none=>rfl
   |some k=>
    have h1:=(hq 0 (by omega)).1 0 _ rfl
    unfold World.cell? Addr.add at h1
    simp [hs] at h1
    split at h1<;>cases h1
  obtain⟨b,o,sp⟩:=a
  subst hsp
  refine⟨b,o,rfl,fun k u hu=>?_⟩
  simp only[List.getElem_map,List.getElem_range] at hu
  have:=c0 k u hu
  rw[qy_,qy_] at this
  exact this
 ·obtain⟨i,hi,rfl⟩:=List.mem_map.1 hy
  exact(hq i (by have:=List.mem_range.1 hi;omega)).2.1
 ·intro p hp
  obtain⟨y,hy,rfl⟩:=List.mem_map.1 hp
  obtain⟨i,hi,rfl⟩:=List.mem_map.1 hy
  exact(hq i (by have:=List.mem_range.1 hi;omega)).2.2
end
theorem z4z_ {H:Type} {enc:TypeId × Value→H} {W:World} {base:Nat} {a0:Option Addr} {len0 cap0:Nat} {d:DataW H} {p:List MemPlace} (h:DataW.Trod enc Tryz.prog W base (fun _=>true) true 23 (.slice a0 len0 cap0) d p) (hz:Sz Tryz.prog 23 d):
  ∃ l,FilsA W (.slice a0 len0 cap0) l∧∀ p∈l,z0p_ p∧p.n≤9223372036854775807:=by
 obtain⟨fuel,hf⟩:=h
 obtain⟨v,l,hcs,h1,h2⟩:=zaj_ hf hz
 have he:Value.slice a0 len0 cap0=v:=by simpa [Value.cells] using hcs
 rw[he]
 exact⟨l,h1,h2⟩
theorem zbf_ {H:Type} {enc:TypeId × Value→H} {W:World} {base:Nat} {a0:Option Addr} {len0 cap0:Nat} {d:DataW H} {p:List MemPlace} (h:DataW.Trod enc Tryz.prog W base (fun _=>true) true 22 (.slice a0 len0 cap0) d p) (hz:Sz Tryz.prog 22 d):
  ∃ l,AttrsA W (.slice a0 len0 cap0) l∧∀ a∈l,a.typ.length≤140737488351232∧a.vals.length≤4611686018427387904:=by
 obtain⟨fuel,hf⟩:=h
 obtain⟨v,l,hcs,h1,h2⟩:=z9a_ hf hz
 have he:Value.slice a0 len0 cap0=v:=by simpa [Value.cells] using hcs
 rw[he]
 exact⟨l,h1,h2⟩
end Go.Proofs.YtbekpphodbekiaaGreatDoor
namespace Go.Proofs.YtbekpphodbekiaaGreatDoor.Fil
open Go.RowKit
theorem times_mono {g h:List FilE→Option (List FilE)} (hgh:∀ a b,g a=some b→h a=some b):∀ n a b,times g n a=some b→times h n a=some b
 |0,a,b,e=>e
 |n+1,a,b,e=>by
  rw[times] at e ⊢
  cases hc:g a with
  |none=>rw[hc] at e;cases e
  |some c=>
   rw[hc] at e
   rw[hgh a c hc]
   exact times_mono hgh n c b e
theorem whole_mono:∀ d l r,wholeF d l=some r→wholeF (d+1) l=some r
 |0,l,r,h=>by cases h
 |d+1,[],r,h=>by cases h
 |d+1,p::t,r,h=>by
  rw[wholeF] at h ⊢
  split at h
  ·next hs=>rw[if_pos hs];exact times_mono (whole_mono d) _ _ _ h
  ·cases h
theorem whole_more {d e:Nat} (hde:d≤e) {l r:List FilE} (h:wholeF d l=some r):wholeF e l=some r:=by
 induction e with
 |zero=>
  have:d=0:=by omega
  subst this;exact h
 |succ e ih=>
  by_cases he:d=e+1
  ·subst he;exact h
  ·exact whole_mono e l r (ih (by omega))
theorem times_cut {g:List FilE→Option (List FilE)} (hg:∀ a b,g a=some b→∃ c,a=c++b∧∀ b',g (c++b')=some b'):∀ n a b,times g n a=some b→∃ c,a=c++b∧∀ b',times g n (c++b')=some b'
 |0,a,b,e=>by cases e;exact⟨[],rfl,fun _=>rfl⟩
 |n+1,a,b,e=>by
  rw[times] at e
  cases hc:g a with
  |none=>rw[hc] at e;cases e
  |some x=>
   rw[hc] at e
   obtain⟨c1,e1,h1⟩:=hg a x hc
   obtain⟨c2,e2,h2⟩:=times_cut hg n x b e
   refine⟨c1++c2,by rw[e1,e2,List.append_assoc],fun b'=>?_⟩
   rw[List.append_assoc,times,h1]
   exact h2 b'
theorem whole_cut:∀ d l r,wholeF d l=some r→∃ c,l=c++r∧∀ r',wholeF d (c++r')=some r'
 |0,l,r,h=>by cases h
 |d+1,[],r,h=>by cases h
 |d+1,p::t,r,h=>by
  rw[wholeF] at h
  split at h
  case isFalse=>cases h
  case isTrue hs=>
   obtain⟨c,e,hc⟩:=times_cut (whole_cut d) _ _ _ h
   refine⟨p::c,by rw[e];rfl,fun r'=>?_⟩
   rw[List.cons_append,wholeF,if_pos hs]
   exact hc r'
theorem whole_own {d:Nat} {f:List FilE} (h:wholeF d f=some []) (r:List FilE):wholeF d (f++r)=some r:=by
 obtain⟨c,e,hc⟩:=whole_cut d f [] h
 rw[List.append_nil] at e
 subst e
 exact hc r
def kidsL:Nat→List FilE→List (List FilE)
 |0,_=>[]
 |n+1,l=>l.take (l.length - ((wholeF 20 l).getD []).length)::kidsL n ((wholeF 20 l).getD [])
theorem kids_cons {d n:Nat} {f r:List FilE} (hd:d≤20) (h:wholeF d f=some []):kidsL (n+1) (f++r)=f::kidsL n r:=by
 rw[kidsL,whole_more hd (whole_own h r)]
 simp
def someF (wins:Int):Int→List Int→Int
 |told,[]=>told
 |told,v::l=>if v=wins then wins else if v=2 then someF wins 2 l else someF wins told l
def notV (v:Int):Int:=if v=2 then 2 else 1 - v
def evalF (leaf:FilE→Int):Nat→List FilE→Int
 |0,_=>2
 |_+1,[]=>2
 |d+1,p::t=>if p.op=0 then someF 0 1 ((kidsL p.n.toNat t).map (evalF leaf d)) else if p.op=1 then someF 1 0 ((kidsL p.n.toNat t).map (evalF leaf d)) else if p.op=2 then notV (evalF leaf d t) else leaf p
def evalL (leaf:FilE→Int) (l:List FilE):Int:=if validF l then evalF leaf 20 l else 2
theorem kids_whole {d:Nat} (hd:d≤20):∀ n t r,times (wholeF d) n t=some r→∃ ks:List (List FilE),kidsL n t=ks∧ks.length=n∧∀ k∈ks,wholeF d k=some []
 |0,t,r,h=>⟨[],rfl,rfl,fun k hk=>by cases hk⟩
 |n+1,t,r,h=>by
  rw[times] at h
  cases hb:wholeF d t with
  |none=>rw[hb] at h;cases h
  |some b=>
   rw[hb] at h
   obtain⟨c,e,hc⟩:=whole_cut d t b hb
   have h0:wholeF d c=some []:=by have:=hc [];rwa [List.append_nil] at this
   obtain⟨ks,h1,h2,h3⟩:=kids_whole hd n b r h
   refine⟨c::ks,by rw[e,kids_cons hd h0,h1],by rw[List.length_cons,h2],fun k hk=>?_⟩
   rcases List.mem_cons.1 hk with rfl|hk
   ·exact h0
   ·exact h3 k hk
theorem eval_more (leaf:FilE→Int):∀ d l r,d≤20→wholeF d l=some r→evalF leaf (d+1) l=evalF leaf d l
 |0,l,r,_,h=>by cases h
 |d+1,[],r,_,h=>by cases h
 |d+1,p::t,r,hd,h=>by
  rw[wholeF] at h
  split at h
  case isFalse=>cases h
  case isTrue hs=>
   obtain⟨ks,h1,h2,h3⟩:=kids_whole (by omega) _ _ _ h
   have hm:(kidsL p.n.toNat t).map (evalF leaf (d+1))=(kidsL p.n.toNat t).map (evalF leaf d):=by
    rw[h1]
    exact List.map_congr_left fun k hk=>eval_more leaf d k [] (by omega) (h3 k hk)
   rw[evalF,evalF,hm]
   by_cases o2:p.op=2
   ·have hn:p.n=1:=by
     unfold shapeB at hs
     rw[if_pos (by omega)] at hs
     simp only[Bool.and_eq_true,Bool.or_eq_true,decide_eq_true_eq] at hs
     have:=hs.2
     omega
    rw[hn] at h
    have ht:wholeF d t=some r:=by
     have:times (wholeF d) 1 t=some r:=h
     rw[times] at this
     cases hb:wholeF d t with
     |none=>rw[hb] at this;cases this
     |some b=>rw[hb] at this;exact this
    rw[eval_more leaf d t r (by omega) ht]
   ·rw[if_neg o2,if_neg o2]
theorem eval_at (leaf:FilE→Int) {d e:Nat} (hde:d≤e) (he:e≤20) {l r:List FilE} (h:wholeF d l=some r):evalF leaf e l=evalF leaf d l:=by
 induction e with
 |zero=>
  have:d=0:=by omega
  subst this;rfl
 |succ e ih=>
  by_cases hd:d=e+1
  ·subst hd;rfl
  ·rw[eval_more leaf e l r (by omega) (whole_more (by omega) h),ih (by omega) (by omega)]
def Three (v:Int):Prop:=v=0∨v=1∨v=2
theorem some_three {w:Int} (hw:w=0∨w=1):∀ (l:List Int) (t:Int),Three t→Three (someF w t l)
 |[],t,h=>h
 |v::l,t,h=>by
  rw[someF]
  split
  ·rcases hw with rfl|rfl<;>simp [Three]
  ·split
   ·exact some_three hw l 2 (by simp [Three])
   ·exact some_three hw l t h
theorem not_three {v:Int} (h:Three v):Three (notV v):=by
 unfold notV Three at *
 split<;>omega
theorem eval_three (leaf:FilE→Int) (hl:∀ p,Three (leaf p)):∀ d l,Three (evalF leaf d l)
 |0,l=>by simp [evalF,Three]
 |d+1,[]=>by simp [evalF,Three]
 |d+1,p::t=>by
  rw[evalF]
  split
  ·exact some_three (.inl rfl) _ _ (by simp [Three])
  ·split
   ·exact some_three (.inr rfl) _ _ (by simp [Three])
   ·split
    ·exact not_three (eval_three leaf hl d t)
    ·exact hl p
/-! The law FilterLogic. -/
def opE (op:Int) (n:Nat):FilE:=⟨op,n,[],[],[],[],[]⟩
theorem shape_and (n:Nat):shapeB (opE 0 n)=true:=by
 unfold shapeB opE;simp
theorem shape_or (n:Nat):shapeB (opE 1 n)=true:=by
 unfold shapeB opE;simp
theorem shape_not:shapeB (opE 2 1)=true:=by decide
theorem whole_op {d:Nat} {op:Int} {n:Nat} {t:List FilE} (h:shapeB (opE op n)=true):wholeF (d+1) (opE op n::t)=times (wholeF d) n t:=by
 rw[wholeF,if_pos h];rfl
theorem whole_one {d:Nat} {t:List FilE}:wholeF (d+1) (opE 2 1::t)=wholeF d t:=by
 rw[whole_op shape_not,times]
 cases wholeF d t<;>rfl
theorem whole_two {d:Nat} {op:Int} {f g:List FilE} (h:shapeB (opE op 2)=true) (hf:wholeF d f=some []) (hg:wholeF d g=some []):wholeF (d+1) (opE op 2::(f++g))=some []:=by
 rw[whole_op h,times,whole_own hf g]
 show times (wholeF d) 1 g=_
 rw[times,hg];rfl
def deepL (f g:List FilE):List FilE:=opE 2 1::opE 1 2::((opE 2 1::f)++(opE 2 1::g))
theorem deep_parts {f g:List FilE} (hf:validF f=true) (hg:validF g=true) (h:validF (deepL f g)=true):wholeF 17 f=some []∧wholeF 17 g=some []:=by
 unfold validF at hf hg h
 simp only[Bool.and_eq_true,decide_eq_true_eq,beq_iff_eq] at hf hg h
 have h1:=h.2
 unfold deepL at h1
 rw[whole_one,whole_op (shape_or 2),times] at h1
 cases hb:wholeF 18 ((opE 2 1::f)++(opE 2 1::g)) with
 |none=>rw[hb] at h1;cases h1
 |some b=>
  rw[hb] at h1
  have hb0:=hb
  rw[List.cons_append,whole_one] at hb
  have hb2:=whole_more (show 17≤20 by omega) hb
  rw[whole_own hf.2] at hb2
  have e:=Option.some.inj hb2
  subst e
  have h2:wholeF 17 f=some []:=by
   obtain⟨c,e,hc⟩:=whole_cut 17 _ _ hb
   have:f=c:=List.append_cancel_right e
   subst this
   have:=hc []
   rwa [List.append_nil] at this
  refine⟨h2,?_⟩
  have h3:times (wholeF 18) 1 (opE 2 1::g)=some []:=h1
  rw[times,whole_one] at h3
  cases hc:wholeF 17 g with
  |none=>rw[hc] at h3;cases h3
  |some c=>rw[hc] at h3;exact h3
theorem eval_two (leaf:FilE→Int) {f g:List FilE} {d:Nat} (hd:d≤19) (hf:wholeF d f=some []) (hg:wholeF d g=some []):evalF leaf (d+1) (opE 0 2::(f++g))=someF 0 1 [evalF leaf d f,evalF leaf d g]∧evalF leaf (d+1) (opE 1 2::(f++g))=someF 1 0 [evalF leaf d f,evalF leaf d g]:=by
 have hk:kidsL 2 (f++g)=[f,g]:=by
  rw[kids_cons (n:=1) (by omega) hf]
  have:=kids_cons (n:=0) (r:=[]) (show d≤20 by omega) hg
  rw[List.append_nil] at this
  rw[this];rfl
 constructor
 ·rw[evalF,if_pos (show (opE 0 2).op=0 from rfl),show (opE 0 2).n.toNat=2 from rfl,hk];rfl
 ·rw[evalF,if_neg (by decide),if_pos (show (opE 1 2).op=1 from rfl),show (opE 1 2).n.toNat=2 from rfl,hk];rfl
theorem eval_not (leaf:FilE→Int) (d:Nat) (f:List FilE):evalF leaf (d+1) (opE 2 1::f)=notV (evalF leaf d f):=by
 rw[evalF,if_neg (by decide),if_neg (by decide),if_pos (show (opE 2 1).op=2 from rfl)]
theorem logic_law (leaf:FilE→Int) (hl:∀ p,Three (leaf p)) {f g:List FilE} (hf:validF f=true) (hg:validF g=true) (hfl:f.length≤30) (hgl:g.length≤30) (h:validF (deepL f g)=true):
  ∃ a b:Int,Three a∧Three b∧evalL leaf f=a∧evalL leaf g=b∧evalL leaf (opE 2 1::f)=notV a∧evalL leaf (opE 2 1::opE 2 1::f)=a∧
   evalL leaf (opE 0 2::(f++g))=someF 0 1 [a,b]∧evalL leaf (opE 1 2::(f++g))=someF 1 0 [a,b]∧evalL leaf (opE 0 2::(g++f))=someF 0 1 [b,a]∧evalL leaf (opE 1 2::(g++f))=someF 1 0 [b,a]∧
   evalL leaf (deepL f g)=notV (someF 1 0 [notV a,notV b])∧evalL leaf [opE 0 0]=1∧evalL leaf [opE 1 0]=0∧evalL leaf (opE 0 2::(f++f))=someF 0 1 [a,a]:=by
 obtain⟨wf,wg⟩:=deep_parts hf hg h
 have wf19:=whole_more (show 17≤19 by omega) wf
 have wg19:=whole_more (show 17≤19 by omega) wg
 have nf:wholeF 18 (opE 2 1::f)=some []:=by rw[whole_one];exact wf
 have ng:wholeF 18 (opE 2 1::g)=some []:=by rw[whole_one];exact wg
 have v:∀ l:List FilE,l.length≤100→wholeF 20 l=some []→evalL leaf l=evalF leaf 20 l:=fun l h1 h2=>by
  unfold evalL validF
  rw[h2]
  simp [h1]
 have a3:=eval_three leaf hl 20 f
 have b3:=eval_three leaf hl 20 g
 have ef:∀ d,17≤d→d≤20→evalF leaf d f=evalF leaf 20 f:=fun d h1 h2=>by rw[eval_at leaf h1 h2 wf,eval_at leaf (show 17≤20 by omega) (by omega) wf]
 have eg:∀ d,17≤d→d≤20→evalF leaf d g=evalF leaf 20 g:=fun d h1 h2=>by rw[eval_at leaf h1 h2 wg,eval_at leaf (show 17≤20 by omega) (by omega) wg]
 refine⟨evalF leaf 20 f,evalF leaf 20 g,a3,b3,?_,?_,?_,?_,?_,?_,?_,?_,?_,?_,?_,?_⟩
 ·exact v f (by omega) (whole_more (by omega) wf)
 ·exact v g (by omega) (whole_more (by omega) wg)
 ·rw[v _ (by simp only[List.length_cons];omega) (whole_more (by omega) nf),eval_not,ef 19 (by omega) (by omega)]
 ·rw[v _ (by simp only[List.length_cons];omega) (by rw[whole_one];exact whole_more (by omega) nf),eval_not,eval_not,ef 18 (by omega) (by omega)]
  rcases a3 with h|h|h<;>rw[h]<;>decide
 ·rw[v _ (by simp only[List.length_cons,List.length_append];omega) (whole_two (shape_and 2) wf19 wg19),(eval_two leaf (by omega) wf19 wg19).1,ef 19 (by omega) (by omega),eg 19 (by omega) (by omega)]
 ·rw[v _ (by simp only[List.length_cons,List.length_append];omega) (whole_two (shape_or 2) wf19 wg19),(eval_two leaf (by omega) wf19 wg19).2,ef 19 (by omega) (by omega),eg 19 (by omega) (by omega)]
 ·rw[v _ (by simp only[List.length_cons,List.length_append];omega) (whole_two (shape_and 2) wg19 wf19),(eval_two leaf (by omega) wg19 wf19).1,ef 19 (by omega) (by omega),eg 19 (by omega) (by omega)]
 ·rw[v _ (by simp only[List.length_cons,List.length_append];omega) (whole_two (shape_or 2) wg19 wf19),(eval_two leaf (by omega) wg19 wf19).2,ef 19 (by omega) (by omega),eg 19 (by omega) (by omega)]
 ·have hv:wholeF 20 (deepL f g)=some []:=by
   unfold deepL
   rw[whole_one]
   exact whole_two (shape_or 2) nf ng
  rw[v _ (by unfold deepL;simp only[List.length_cons,List.length_append];omega) hv]
  unfold deepL
  rw[eval_not,(eval_two leaf (d:=18) (by omega) nf ng).2,eval_not,eval_not,ef 17 (by omega) (by omega),eg 17 (by omega) (by omega)]
 ·rw[v _ (by simp) (by rw[whole_op (shape_and 0)];rfl)];rfl
 ·rw[v _ (by simp) (by rw[whole_op (shape_or 0)];rfl)];rfl
 ·rw[v _ (by simp only[List.length_cons,List.length_append];omega) (whole_two (shape_and 2) wf19 wf19),(eval_two leaf (by omega) wf19 wf19).1,ef 19 (by omega) (by omega)]
end Go.Proofs.YtbekpphodbekiaaGreatDoor.Fil
namespace Go.Proofs.YtbekpphodbekiaaGreatDoor
open Go.RowKit
def OwnV (B:Nat) (w:World) (v:Value) (vs:List Value):Prop:=w.ownsRow B 23 1 v vs.length vs∧B≤w.heap.size
theorem OwnV.nil {B:Nat} {w:World} (hB:B≤w.heap.size):OwnV B w (.slice none 0 0) []:=⟨World.ownsRow_nil _ _ _ _,hB⟩
theorem OwnV.lt {B:Nat} {w:World} {v:Value} {vs:List Value} (h:OwnV B w v vs):∀ k,v.ownBlock=some k→B≤k∧k<w.heap.size:=fun k hk=>h.1.lt k hk
theorem OwnV.keep {B:Nat} {w w':World} {v:Value} {vs:List Value} (h:OwnV B w v vs) {r:Option Nat} (hg:w.grownBy w' r) (hr:∀ k,v.ownBlock=some k→r≠some k):OwnV B w' v vs:=by
 obtain⟨⟨h1,h2⟩,h3⟩:=h
 refine⟨⟨h1,?_⟩,nT h3 hg.size⟩
 rcases h2 with h2|⟨g,cap,cur,rfl,r2,r3,r4⟩
 ·exact .inl h2
 ·exact .inr ⟨g,cap,cur,rfl,r2,(hg.block g (Array.getElem?_eq_some_iff.1 r3).1 (fun e=>hr g rfl e.symm)).trans r3,r4⟩
theorem OwnV.below {B:Nat} {w w':World} {v:Value} {vs:List Value} (h:OwnV B w v vs) (hb:Bel w w'):OwnV B w' v vs:=h.keep (zc_ hb none) (fun k _ he=>by cases he)
theorem OwnV.isSlice {B:Nat} {w:World} {v:Value} {vs:List Value} (h:OwnV B w v vs):∃ A c,v= .slice A vs.length c∧vs.length≤c:=by
 obtain⟨⟨h1,h2⟩,_⟩:=h
 rcases h2 with ⟨rfl,hn⟩|⟨g,cap,cur,rfl,r2,r3,r4,_⟩
 ·exact⟨none,0,by rw[hn],by omega⟩
 ·exact⟨_,cap,rfl,r4⟩
theorem OwnV.at {B:Nat} {w:World} {v:Value} {vs:List Value} (h:OwnV B w v vs):∃ A c,v= .slice A vs.length c∧vs.length≤c∧∀ j (hj:j<vs.length),∃ g,A=some ⟨g,0,none⟩∧w.cell? ⟨g,j,none⟩=some vs[j]:=by
 obtain⟨⟨h1,h2⟩,_⟩:=h
 rcases h2 with ⟨rfl,hn⟩|⟨g,cap,cur,rfl,r2,r3,r4,r5,r6,r7⟩
 ·exact⟨none,0,by rw[hn],by omega,fun j hj=>absurd hj (by omega)⟩
 ·refine⟨_,cap,rfl,r4,fun j hj=>⟨g,rfl,?_⟩⟩
  have:cur.toList[j]?=some vs[j]:=by
   rw[← List.getElem?_eq_getElem hj]
   conv=>rhs;rw[← r7]
   rw[List.getElem?_take,if_pos (by omega)]
  simp only[World.cell?,r3]
  simpa using this
theorem OwnV.bel {B:Nat} {W w w':World} {v:Value} {vs:List Value} (hb:Below B W w) (hO:OwnV B w v vs) (hg:w.grownBy w' v.ownBlock):Below B W w':=hb.grown hg hO.2 (fun k hk=>(hO.lt k hk).1)
theorem infoV:∃ i,Tryz.prog.info? 23=some i∧i.zero=some (.slice none 0 0)∧i.size=1∧i.bytes=24:=by
 obtain⟨i,h1,h2,h3,h4⟩:=info_parts (show (Tryz.prog.info? 23).map (fun i=>(i.zero,i.size,i.bytes))=some (some (.slice none 0 0),1,24) by kernel_rfl)
 exact⟨i,h1,h2,h3,h4⟩
theorem zkr_ {ops:Array Oper} {rest:List Oper} {o:Oper} {a:Act} {Q:Exit→Act→World→Prop} (hgd:o.guard=none) (s x:Operand) (ho:o.op= .call {callee:= .builtin .append,args:=#[s,x],argTypes:=#[58,58]})
  {v u:Value} {vs:List Value} {B N:Nat} {w0:World} (hu:u.oneCell'=true) (hs:a.eval s=v) (hb:OwnV B w0 v vs)
  (hx:a.eval x= .slice (some ⟨N,0,none⟩) 1 1) (hN:N=w0.heap.size) (hlen:vs.length<1000000000)
  (h:∀ v' w',OwnV B w' v' (vs++[u])→w0.grownBy w' v.ownBlock→wpList Tryz.prog ops Q rest (a.put o.dst v') w'):wpList Tryz.prog ops Q (o::rest) a (w0.alloc (.cells #[u] 23)):=by
 subst hN
 obtain⟨i,h1,h2,h3,h4⟩:=infoV
 have hb':=hb.below ((bR _ _).alloc (nR _) (.cells #[u] 23))
 refine wpList_append_own _ hgd s x 58 ho B 23 i (.slice none 0 0) 1 24 Tryz.underlying58 h1 h2 h3 h4 rfl (by decide) v _ _ hs hb'.1 ⟨w0.heap.size,0,none⟩ 1 1 [u] hx rfl ?_ ?_ (by unfold maxLen;omega) (by omega) hb'.2 ?_
 ·intro j x hj
  match j,hj with
  |0,hj=>simp at hj;subst hj;simp [Addr.add]
  |(j+1),hj=>simp at hj
 ·intro x hx;simp at hx;subst hx;exact hu
 ·intro v' w' ho' hg _
  refine h v' w' ⟨?_,nT hb'.2 hg.size⟩ (gT (World.grownBy_alloc _ _ _) hg)
  simpa using ho'
theorem FilsA.take {w:World} {v:Value} {l:List Fil.FilE} (h:FilsA w v l) (hl:l≠[]) (k:Nat) (hk:k≤l.length):∃ A c,v= .slice A l.length c∧(∀ W,(Instr.slice 23 v none (some (.int .i64 (k:Int))) none).run Tryz.prog W= .ok (.slice A k c) W)∧FilsA w (.slice A k c) (l.take k):=by
 obtain⟨qs,hq,⟨A,c,rfl,hc,hx⟩,hok⟩:=h
 have hql:qs.length=l.length:=by rw[← hq,List.length_map]
 have hpos:0<qs.length:=by rw[hql];exact List.length_pos_iff.2 hl
 obtain⟨b,o,rfl,_⟩:=hx 0 hpos
 refine⟨_,c,by rw[hql],fun W=>?_,⟨qs.take k,by rw[← hq,List.map_take],⟨_,c,by rw[List.length_take,hql,Nat.min_eq_left hk],by rw[List.length_take];omega,fun j hj=>?_⟩,fun q hq2=>hok q (List.mem_of_mem_take hq2)⟩⟩
 ·have h1:∀ w,(Instr.sliceBounds true qs.length c none (some (.int .i64 (k:Int))) none).run Tryz.prog w= .ok (0,k,c) w:=fun w=>by
   simp [Instr.sliceBounds,run_sliceBound,show k≤c by omega]
  unfold Instr.slice
  simp only[Sem.run_bind,run_underlying Tryz.underlying23,Result.andThen_ok,h1,zc7_,Sem.run_pure]
  simp [Addr.add]
 ·rw[List.length_take] at hj
  obtain⟨b',o',he,hk'⟩:=hx j (by omega)
  refine⟨b',o',he,fun i u hu=>hk' i u ?_⟩
  rw[List.getElem_take] at hu
  exact hu
inductive Fa2 {α β:Type} (R:α→β→Prop):List α→List β→Prop
 |nil:Fa2 R [] []
 |cons {a:α} {b:β} {l:List α} {m:List β}:R a b→Fa2 R l m→Fa2 R (a::l) (b::m)
def zq6_ (w0 w:World) (ks:List (List Fil.FilE)) (e:Ending) (w':World):Prop:=Bel w w'∧∃ v vs,e= .returned v∧OwnV w.heap.size w' v vs∧Fa2 (FilsA w0) vs ks
theorem zcd_ {α β:Type} {R:α→β→Prop}:∀ {l:List α} {m:List β} {a:α} {b:β},Fa2 R l m→R a b→Fa2 R (l++[a]) (m++[b])
 |[],[],_,_,_,h=> .cons h .nil
 |_::_,_::_,_,_,.cons h1 h2,h=> .cons h1 (zcd_ h2 h)
theorem z5x_ {α β:Type} {R:α→β→Prop}:∀ {l:List α} {m:List β},Fa2 R l m→l.length=m.length
 |[],[],_=>rfl
 |_::_,_::_,.cons _ h=>by rw[List.length_cons,List.length_cons,z5x_ h]
theorem zbv_ {α β:Type} {R:α→β→Prop}:∀ {l:List α} {m:List β},Fa2 R l m→∀ j (h1:j<l.length) (h2:j<m.length),R l[j] m[j]
 |[],[],_,j,h1,_=>absurd h1 (by simp)
 |_::_,_::_,.cons h _,0,_,_=>h
 |_::_,_::_,.cons _ h,j+1,h1,h2=>zbv_ h j (by simpa using h1) (by simpa using h2)
theorem zp1_ (w0:World) (hw:Env w0) (p:Fil.FilE) (t r:List Fil.FilE) (v:Value) (w:World) (hv:FilsA w0 v (p::t)) (hb:Bel w0 w) (d:Nat) (hd:d≤20) (hn0:0≤p.n) (hwh:Fil.times (Fil.wholeF d) p.n.toNat t=some r) (hl:LimF (p::t)) (hfit:z4v_ (p::t)):
  Calls Tryz.prog 86 #[v] w (zq6_ w0 w (Fil.kidsL p.n.toNat t)):=by
 obtain⟨b,o,c,va,vt,rfl,hc,⟨c0,c1,c2,c3,c4,c5,c6⟩,hta,hsl,ht⟩:=hv.tail
 have hlt:=hl.tail
 have htn:=hlt.1
 have d1:=cQ hb c1
 obtain⟨n,hn⟩:∃ n:Nat,p.n=n:=⟨p.n.toNat,by omega⟩
 rw[hn] at d1 hwh ⊢
 rw[Int.toNat_natCast] at hwh ⊢
 have hnt:n≤t.length:=by have:=(Fil.times_suf (Fil.whole_suf d) _ _ _ hwh).1;omega
 have hft:z4v_ t:=fun q hq=>hfit q (List.mem_cons_of_mem _ hq)
 have HW:=hiD (fun (l:List Fil.FilE) (u:Value) (W:World) (h:FilsA w0 u l) (hB:Bel w0 W) (hwg:LimF l) (hN:z4v_ l)=>z7s_ w0 hw 20 (nR _) l u W h hB hwg hN)
 obtain⟨KL,hKL⟩:∃ KL,Fil.kidsL n t=KL:=⟨_,rfl⟩
 rw[hKL]
 have HKL:=hiD hKL
 have HT:=hiD ht
 have HWH:=hiD hwh
 have HLT:=hiD hlt
 obtain⟨At,ct,rfl,hct⟩:=ht.isSlice
 have hi1:(0:Int)<(t.length:Int)+1:=by omega
 clear c0 c1 c2 c3 c4 c5 c6 hta hv ht hKL hwh hn hn0 hfit hl hlt
 go_enter Tryz.func86,Tryz.ntmps86
 go_wp2_with fail
 go_quiet (fail)
 go_wp2_with fail
 go_loopg [0,3,14] n (fun gk vf vo ix wr=>∃ (j:Nat) (lj:List Fil.FilE) (vs:List Value) (done:List (List Fil.FilE)),ix= .int .i64 (j:Int)∧Aside (j+gk=n)∧Aside (FilsA w0 vf lj)∧Aside (Fil.times (Fil.wholeF d) gk lj=some r)∧Aside (done++Fil.kidsL gk lj=KL)∧Aside (done.length=j)∧Aside (OwnV w.heap.size wr vo vs)∧Aside (Fa2 (FilsA w0) vs done)∧Aside (LimF lj)∧Aside (z4v_ lj)∧Aside (Bel w wr))
 case atStart=>exact⟨0,t,[],[],rfl,by show _=_;omega,HT.out,HWH.out,HKL.out,rfl,OwnV.nil (nR _),.nil,HLT.out,hft,(by exact zp_ (bR _ _) _)⟩
 case round=>
  clear HKL HT HWH
  obtain⟨j,lj,vs,done,rfl,AG,AF,AT,AK,AD,AO,A2,AW,AN,AB⟩:=hrel
  obtain⟨Aj,cj,rfl,hcj⟩:=AF.out.isSlice
  obtain⟨Ao,co,rfl,hco⟩:=AO.out.isSlice
  cases gk with
  |zero=>
   have hj:j=n:=AG.out
   subst hj
   have hK:done=KL:=by have:=AK.out;simpa [Fil.kidsL] using this
   subst hK
   go_wp2_with fail
   go_ret
   exact⟨AB.out,_,vs,rfl,AO.out,A2.out⟩
  |succ q=>
   have hji:(j:Int)<(n:Int):=by have:=AG.out;omega
   obtain⟨l2,hl2,ht2⟩:∃ l2,Fil.wholeF d lj=some l2∧Fil.times (Fil.wholeF d) q l2=some r:=by
    have:=AT.out
    rw[show Fil.times (Fil.wholeF d) (q+1) lj=(Fil.wholeF d lj).bind (Fil.times (Fil.wholeF d) q) from rfl] at this
    cases hc:Fil.wholeF d lj with
    |none=>rw[hc] at this;cases this
    |some l2=>rw[hc] at this;exact⟨l2,rfl,this⟩
   have hl20:=Fil.whole_more hd hl2
   have hC:=HW.out lj (.slice Aj lj.length cj) wr AF.out (tQ hb AB.out) AW.out AN.out
   rw[hl20] at hC
   rw[show (20:Int) - ((20:Nat):Int)=0 from rfl] at hC
   have HC:=hiD hC
   obtain⟨hlen2,cc,hcc⟩:=Fil.whole_suf d lj l2 hl2
   have HN2:Hid (z4v_ l2):=hiD fun q hq=>AN.out q (by rw[hcc];exact List.mem_append_right _ hq)
   have hne:lj≠[]:=by intro e;rw[e] at hlen2;simp at hlen2
   obtain⟨A3,c3,he3,hsl3,hf3⟩:=AF.out.take hne (lj.length - l2.length) (by omega)
   injection he3 with he3a _ he3b
   subst he3a he3b
   have hK2:(done++[lj.take (lj.length - l2.length)])++Fil.kidsL q l2=KL:=by
    have:=AK.out
    rw[Fil.kidsL,hl20] at this
    rw[List.append_assoc]
    exact this
   have hws:IntKind.i64.wrap ((lj.length:Int) - (l2.length:Int))=((lj.length - l2.length:Nat):Int):=by
    have:=AW.out.1
    rw[IntWalk.i64_in _ (by omega)];omega
   have HK2:=hiD hK2
   have HT2:=hiD ht2
   have HF3:=hiD hf3
   have hvl:vs.length<1000000000:=by have:=z5x_ A2.out;have:=AD.out;omega
   have hq2:((lj.length - l2.length:Nat):Int)=(lj.length:Int) - (l2.length:Int):=by omega
   rw[hq2] at hsl3 hws
   have HW2:Hid (LimF l2):=hiD (LimF.suf (a:=cc) (by rw[← hcc];exact AW.out))
   clear hcc hl2 hl20 ht2 hK2 hf3 hC
   go_wp2_with (first
    |(go_at_call 12;(with_reducible refine HC.out.mono ?_);rintro e w2 ⟨hb2,v2,rfl,hf2⟩;obtain⟨A2',c2',rfl,_⟩:=hf2.isSlice;have HF2:=hiD hf2;have HO2:=hiD (AO.out.below hb2);have HB2:=hiD (tQ AB.out hb2);clear hf2)
    |(at_builtin;refine zkr_ (u:= .slice Aj (lj.length - l2.length) cj) rfl _ _ rfl rfl rfl HO2.out rfl rfl hvl ?_;intro v' w6 hO6 hg6))
   go_roundg q
   case measure=>omega
   case rel=>exact⟨j+1,l2,_,_,by go_num,by have:=AG.out;show _=_;omega,HF2.out,HT2.out,HK2.out,by have:=AD.out;show _=_;rw[List.length_append,List.length_singleton];omega,hO6,zcd_ A2.out HF3.out,HW2.out,HN2.out,HO2.out.bel HB2.out hg6⟩
open Go.RowKit
theorem OwnFl.one {B:Nat} (w:World) (hB:B≤w.heap.size) (q:q6_):OwnFl B (w.alloc (.cells (z3_ q).toArray 45)) (.slice (some ⟨w.heap.size,0,none⟩) 1 1) [q]:=by
 refine⟨⟨by simp [z3_],.inr ⟨w.heap.size,1,_,rfl,hB,heap_alloc_new w _,nR _,by decide,by simp [z3_],?_⟩⟩,by simp;omega⟩
 simp [z3_]
theorem zhy_ {ys:List q6_} (h:∀ q∈ys,q.2.oneCell'=true):∀ u∈ys.flatMap z3_,u.oneCell'=true:=by
 intro u hu
 obtain⟨q,hq,hu2⟩:=List.mem_flatMap.1 hu
 simp only[z3_,List.mem_cons,List.not_mem_nil,or_false] at hu2
 rcases hu2 with rfl|rfl|rfl|rfl|rfl|rfl|rfl<;>first|rfl|exact h q hq
theorem zid_ {ops:Array Oper} {rest:List Oper} {op:Oper} {a:Act} {Q:Exit→Act→World→Prop} (hgd:op.guard=none) (s x:Operand) (ho:op.op= .call {callee:= .builtin .append,args:=#[s,x],argTypes:=#[23,23]})
  {v:Value} {qs ys:List q6_} {B b o c:Nat} {w0:World} (hs:a.eval s=v) (hb:OwnFl B w0 v qs) (hx:a.eval x= .slice (some ⟨b,o,none⟩) ys.length c)
  (hcell:∀ j (hj:j<ys.length) k u,(z3_ ys[j])[k]?=some u→w0.cell? ⟨b,o+j * 7+k,none⟩=some u) (h1:∀ q∈ys,q.2.oneCell'=true) (hlen:qs.length+ys.length<1000000)
  (h:∀ v' w',OwnFl B w' v' (qs++ys)→w0.grownBy w' v.ownBlock→wpList Tryz.prog ops Q rest (a.put op.dst v') w'):wpList Tryz.prog ops Q (op::rest) a w0:=by
 obtain⟨i,e1,e2,e3,e4⟩:=zil_
 refine wpList_append_own _ hgd s x 23 ho B 45 i _ 7 104 Tryz.underlying23 e1 e2 e3 e4 rfl (by decide) v _ _ hs hb.1 ⟨b,o,none⟩ ys.length c (ys.flatMap z3_) hx (z3b_ ys) ?_ (zhy_ h1) (by unfold maxLen;omega) (by omega) hb.2 ?_
 ·intro j u hj
  have hlt:j<(ys.flatMap z3_).length:=(List.getElem?_eq_some_iff.1 hj).1
  rw[z3b_] at hlt
  have h7:j / 7<ys.length:=by omega
  have hf:=z5z_ ys (j / 7) h7 (j % 7) (by omega)
  rw[show j / 7 * 7+j % 7=j by omega,hj] at hf
  have:=hcell (j / 7) h7 (j % 7) u hf.symm
  rw[qy_]
  rwa [show o+j / 7 * 7+j % 7=o+j by omega] at this
 ·intro v' w' ho' hg _
  refine h v' w' ⟨?_,nT hb.2 hg.size⟩ hg
  rw[List.length_append,List.flatMap_append]
  exact ho'
theorem FilsA.parts {w:World} {v:Value} {l:List Fil.FilE} (h:FilsA w v l) (hl:l≠[]):∃ qs b o c,qs.map (·.1)=l∧v= .slice (some ⟨b,o,none⟩) qs.length c∧(∀ j (hj:j<qs.length) k u,(z3_ qs[j])[k]?=some u→w.cell? ⟨b,o+j * 7+k,none⟩=some u)∧(∀ q∈qs,q.2.oneCell'=true)∧FQOk w qs:=by
 obtain⟨qs,hq,⟨A,c,rfl,hc,hx⟩,hok⟩:=h
 have hpos:0<qs.length:=by
  have:qs.length=l.length:=by rw[← hq,List.length_map]
  rw[this];exact List.length_pos_iff.2 hl
 obtain⟨b,o,rfl,_⟩:=hx 0 hpos
 refine⟨qs,b,o,c,hq,rfl,fun j hj k u hu=>?_,fun q hq=>?_,hok⟩
 ·obtain⟨b',o',he,hk⟩:=hx j hj
  cases he
  exact hk k u hu
 ·rcases hok q hq with ⟨_,h⟩|⟨a,c,h,_⟩<;>rw[h]<;>rfl
end Go.Proofs.YtbekpphodbekiaaGreatDoor
