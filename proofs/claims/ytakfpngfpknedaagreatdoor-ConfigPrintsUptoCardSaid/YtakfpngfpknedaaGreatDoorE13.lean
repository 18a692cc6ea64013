import Derived.SizedLaws
import Derived.Carry
import Derived.SliceStrings
import Derived.Deep.Slices
import Derived.Deep.Strs
import Derived.Test.YtakfpngfpknedaaGreatDoorE12
set_option linter.all false
set_option maxHeartbeats 8000000
set_option maxRecDepth 100000
namespace Go.Proofs.YtakfpngfpknedaaGreatDoor
open Go.ChangeShapes Go.WideShapes Go.ChangeAt Go.RowKit Go.Lib Go.Shelf Go.Deep Go.Joins
theorem z0l_ {H:Type}:∀ (ss:List ByteArray),Rows.uptoBulkAll (strs (H:=H) ss)=ss.length+((ss.map fun s=>s.data.toList).map List.length).sum
 |[]=>rfl
 |s::ss=>by
  have ih:=z0l_ (H:=H) ss
  have e:strs (H:=H) (s::ss)=DataW.lit (.string s.data.toList)::strs ss:=rfl
  rw[e]
  simp only[Rows.uptoBulkAll,Rows.uptoBulk,ih,List.map_cons,List.sum_cons,List.length_cons]
  omega
theorem zee_ {W:World} {a:Addr} {len cap:Nat} {ss:List ByteArray} (hl:len≤cap) (hz:ss.length=cap) (hcell:∀ i,i<ss.length→W.cell? (a.add i)=some (.string (ss.getD i ByteArray.empty))):
  TextsA W (.slice (some a) len cap) ((ss.take len).map fun s=>s.data.toList):=by
 have hlen:((ss.take len).map fun s=>s.data.toList).length=len:=by simp;omega
 refine .inr ⟨a,cap,by rw[hlen],by omega,fun j hj=>?_⟩
 have hj':j<len:=by omega
 rw[hcell j (by omega)]
 congr 2
 simp only[List.getElem_map,List.getElem_take]
 rw[List.getD_eq_getElem?_getD,List.getElem?_eq_getElem (by omega)]
 rfl
section
variable {H:Type} {enc:TypeId × Value→H} {W:World} {base:Nat} {fuel:Nat} {cs:List Value} {x:DataW H × List MemPlace}
theorem jl_ (h:DataW.trod enc Tryz.prog W base (fun _=>true) true fuel 22 cs=some x):∃ v xs,cs=[v]∧TextsA W v xs∧xs.length+(xs.map List.length).sum+1≤Rows.uptoBulk x.1:=by
 rcases open_strings Tryz.underlying22 Tryz.underlying9 (by kernel_rfl) h with ⟨rfl,rfl⟩|⟨a,len',cap',ss,rfl,_,hl,hm,hz,rfl,hcell,hsz⟩
 ·exact⟨_,[],rfl,.inl ⟨rfl,rfl⟩,by simp [Rows.uptoBulk]⟩
 ·simp only[if_true] at hz
  refine⟨_,_,rfl,zee_ hl hz hcell,?_⟩
  simp only[Rows.uptoBulk,z0l_,List.length_map]
  omega
theorem v5_ (D:Nat→DataW H) (f:Nat→Nat):∀ (l:List Nat),(∀ i∈l,f i≤Rows.uptoBulk (D i))→(l.map f).sum≤Rows.uptoBulkAll (l.map D)
 |[],_=>by simp
 |i::l,h=>by
  have ih:=v5_ D f l (fun j hj=>h j (List.mem_cons_of_mem _ hj))
  have h0:=h i (List.mem_cons_self ..)
  simp only[List.map_cons,List.sum_cons,Rows.uptoBulkAll]
  omega
theorem list4 {α:Type} {l:List α} (h:l.length=4):∃ a b c d,l=[a,b,c,d]:=by
 match l,h with
 |[a,b,c,d],_=>exact⟨a,b,c,d,rfl⟩
instance:Inhabited Cfg.IndexE:=⟨⟨[],false,false,false⟩⟩
theorem zct_ (h:DataW.trod enc Tryz.prog W base (fun _=>true) true fuel 23 cs=some x):∃ v xs,cs=[v]∧IdxW W v xs∧(xs.map fun i=>1+i.typ.length).sum+1≤Rows.uptoBulk x.1:=by
 rcases open_slice Tryz.underlying23 h with ⟨rfl,rfl⟩|⟨a,len,cap,m,n,D,Pl,rfl,hb,hl,hm,hmm,rfl,hx⟩
 ·exact⟨_,[],rfl,⟨none,0,rfl,nR _,fun j hj=>absurd hj (by simp)⟩,by simp [Rows.uptoBulk]⟩
 simp only[if_true] at hmm
 subst hmm
 rw[show Tryz.prog.cellsOf 63=4 by kernel_rfl] at hx
 have each:∀ i,i<m→∃ r:Cfg.IndexE,(W.cell? (a.add (i * 4))=some (.string ⟨r.typ.toArray⟩)∧W.cell? ((a.add (i * 4)).add 1)=some (.bool r.eq)∧W.cell? ((a.add (i * 4)).add 2)=some (.bool r.pres)∧W.cell? ((a.add (i * 4)).add 3)=some (.bool r.sub))∧1+r.typ.length≤Rows.uptoBulk (D i):=by
  intro i hi
  obtain⟨cs',h1,h2⟩:=hx i hi
  obtain⟨_,hlen,hcell⟩:=World.cells?_some h1
  obtain⟨y0,y1,y2,y3,k,hxy,_,u0,u1,u2,u3⟩:=trod_struct4 Tryz.underlying63 h2
  obtain⟨v0,v1,v2,v3,rfl⟩:=list4 hlen
  simp only[show Tryz.prog.cellsOf 4=1 by kernel_rfl,show Tryz.prog.cellsOf 9=1 by kernel_rfl,List.drop,List.take] at u0 u1 u2 u3
  obtain⟨⟨⟨s⟩⟩,e0,d0,_⟩:=DataW.trod_string Tryz.underlying9 u0
  obtain⟨b1,e1,d1⟩:=DataW.trod_bool Tryz.underlying4 u1
  obtain⟨b2,e2,d2⟩:=DataW.trod_bool Tryz.underlying4 u2
  obtain⟨b3,e3,d3⟩:=DataW.trod_bool Tryz.underlying4 u3
  simp only[List.cons.injEq,and_true] at e0 e1 e2 e3
  subst e0;subst e1;subst e2;subst e3
  have c0:=hcell 0 (by omega)
  have c1:=hcell 1 (by omega)
  have c2:=hcell 2 (by omega)
  have c3:=hcell 3 (by omega)
  simp only[Prod.mk.injEq] at hxy
  refine⟨⟨s,b1,b2,b3⟩,⟨by simpa [Addr.add] using c0,by simpa using c1,by simpa using c2,by simpa using c3⟩,?_⟩
  rw[hxy.1,d0]
  simp only[Rows.uptoBulk,Rows.uptoBulkAll]
  omega
 obtain⟨q,hq⟩:=choose_lt each
 refine⟨_,(List.range len).map q,rfl,⟨some a,m,by simp,by simp;omega,fun j hj=>?_⟩,?_⟩
 ·have hj':j<len:=by simpa using hj
  obtain⟨⟨c0,c1,c2,c3⟩,_⟩:=hq j (by omega)
  have hsp:a.spot=none:=by
   cases hs:a.spot with
   |none=>rfl
   |some k=>
    have h0:=hq 0 (by omega)
    have h1:=h0.1.1
    unfold World.cell? Addr.add at h1
    simp [hs] at h1
    split at h1<;>cases h1
  obtain⟨b,o,sp⟩:=a
  subst hsp
  refine⟨b,o,rfl,?_,?_,?_,?_⟩
  ·rw[ko_] at c0;simpa using c0
  ·rw[ko_,ko_] at c1;simpa using c1
  ·rw[ko_,ko_] at c2;simpa using c2
  ·rw[ko_,ko_] at c3;simpa using c3
 ·simp only[Rows.uptoBulk]
  have:=v5_ D (fun i=>1+(q i).typ.length) (List.range len) (fun i hi=>(hq i (by have:=List.mem_range.1 hi;omega)).2)
  rw[List.map_map]
  show ((List.range len).map fun i=>1+(q i).typ.length).sum+1≤_
  omega
theorem zjc_ {α:Type} {cs:Array α} (h:cs.size=12):∃ c0 c1 c2 c3 c4 c5 c6 c7 c8 c9 c10 c11,cs=#[c0,c1,c2,c3,c4,c5,c6,c7,c8,c9,c10,c11]:=by
 obtain⟨l⟩:=cs
 match l,h with
 |[c0,c1,c2,c3,c4,c5,c6,c7,c8,c9,c10,c11],_=>exact⟨c0,c1,c2,c3,c4,c5,c6,c7,c8,c9,c10,c11,rfl⟩
theorem za9_ {P:Program} {r:Go.Reach} {b0:Nat} {t:TypeId} {f0 f1 f2 f3 f4 f5 f6 f7 f8 f9 f10 f11:Field} {v:Value} {d:DataW H} {p:List MemPlace} (hs:P.underlying t=some (.struct #[f0,f1,f2,f3,f4,f5,f6,f7,f8,f9,f10,f11])) (hone:oneCellFields P #[f0,f1,f2,f3,f4,f5,f6,f7,f8,f9,f10,f11]=true) (hC:P.cellsOf t=12)
  (hv:Value.okWide P W r b0 t v) (h:DataW.Trod enc P W base (fun _=>true) true t v d p):
  ∃ (v0 v1 v2 v3 v4 v5 v6 v7 v8 v9 v10 v11:Value) (y0 y1 y2 y3 y4 y5 y6 y7 y8 y9 y10 y11:DataW H × List MemPlace) (n:Nat),v= .agg #[v0,v1,v2,v3,v4,v5,v6,v7,v8,v9,v10,v11]∧d= .agg [y0.1,y1.1,y2.1,y3.1,y4.1,y5.1,y6.1,y7.1,y8.1,y9.1,y10.1,y11.1]∧
   DataW.trod enc P W base (fun _=>true) true n f0.type [v0]=some y0∧DataW.trod enc P W base (fun _=>true) true n f1.type [v1]=some y1∧DataW.trod enc P W base (fun _=>true) true n f2.type [v2]=some y2∧DataW.trod enc P W base (fun _=>true) true n f3.type [v3]=some y3∧DataW.trod enc P W base (fun _=>true) true n f4.type [v4]=some y4∧DataW.trod enc P W base (fun _=>true) true n f5.type [v5]=some y5∧DataW.trod enc P W base (fun _=>true) true n f6.type [v6]=some y6∧DataW.trod enc P W base (fun _=>true) true n f7.type [v7]=some y7∧DataW.trod enc P W base (fun _=>true) true n f8.type [v8]=some y8∧DataW.trod enc P W base (fun _=>true) true n f9.type [v9]=some y9∧DataW.trod enc P W base (fun _=>true) true n f10.type [v10]=some y10∧DataW.trod enc P W base (fun _=>true) true n f11.type [v11]=some y11:=by
 obtain⟨cs,rfl,hsz⟩:=okWide_struct hs hv
 obtain⟨c0,c1,c2,c3,c4,c5,c6,c7,c8,c9,c10,c11,rfl⟩:=zjc_ (hsz.trans hC)
 obtain⟨fuel,hf⟩:=h
 obtain⟨xs,n,_,hx,hl,hlen,hf⟩:=DataW.trod_struct hs hf
 match xs,hlen with
 |[y0,y1,y2,y3,y4,y5,y6,y7,y8,y9,y10,y11],_=>
  obtain⟨o0,k0⟩:=hone_of hone 0 f0 rfl
  obtain⟨o1,k1⟩:=hone_of hone 1 f1 rfl
  obtain⟨o2,k2⟩:=hone_of hone 2 f2 rfl
  obtain⟨o3,k3⟩:=hone_of hone 3 f3 rfl
  obtain⟨o4,k4⟩:=hone_of hone 4 f4 rfl
  obtain⟨o5,k5⟩:=hone_of hone 5 f5 rfl
  obtain⟨o6,k6⟩:=hone_of hone 6 f6 rfl
  obtain⟨o7,k7⟩:=hone_of hone 7 f7 rfl
  obtain⟨o8,k8⟩:=hone_of hone 8 f8 rfl
  obtain⟨o9,k9⟩:=hone_of hone 9 f9 rfl
  obtain⟨o10,k10⟩:=hone_of hone 10 f10 rfl
  obtain⟨o11,k11⟩:=hone_of hone 11 f11 rfl
  simp only[Prod.mk.injEq] at hx
  refine⟨c0,c1,c2,c3,c4,c5,c6,c7,c8,c9,c10,c11,y0,y1,y2,y3,y4,y5,y6,y7,y8,y9,y10,y11,n,rfl,by simpa using hx.1,?_,?_,?_,?_,?_,?_,?_,?_,?_,?_,?_,?_⟩
  ·simpa [Value.cells,o0,k0] using hf 0 f0 rfl
  ·simpa [Value.cells,o1,k1] using hf 1 f1 rfl
  ·simpa [Value.cells,o2,k2] using hf 2 f2 rfl
  ·simpa [Value.cells,o3,k3] using hf 3 f3 rfl
  ·simpa [Value.cells,o4,k4] using hf 4 f4 rfl
  ·simpa [Value.cells,o5,k5] using hf 5 f5 rfl
  ·simpa [Value.cells,o6,k6] using hf 6 f6 rfl
  ·simpa [Value.cells,o7,k7] using hf 7 f7 rfl
  ·simpa [Value.cells,o8,k8] using hf 8 f8 rfl
  ·simpa [Value.cells,o9,k9] using hf 9 f9 rfl
  ·simpa [Value.cells,o10,k10] using hf 10 f10 rfl
  ·simpa [Value.cells,o11,k11] using hf 11 f11 rfl
def v6_ (l:LL):Nat:=l.length+(l.map List.length).sum
def z6b_ (c:Cfg.ConfE):Nat:=c.suffix.length+c.root.length+c.secret.length+v6_ c.attrs+v6_ c.classes+v6_ c.acls+(c.indexes.map fun i=>1+i.typ.length).sum+v6_ c.refs+v6_ c.unique
theorem zgc_ {b0:Nat} {rc:Go.Reach} {v:Value} {d:DataW H} {p:List MemPlace} (hv:Value.okWide Tryz.prog W rc b0 25 v) (h:DataW.Trod enc Tryz.prog W base (fun _=>true) true 25 v d p):
  ∃ c,ConfW W v c∧(-9223372036854775808≤c.size∧c.size≤9223372036854775807)∧z6b_ c≤Rows.uptoBulk d:=by
 obtain⟨v0,v1,v2,v3,v4,v5,v6,v7,v8,v9,v10,v11,y0,y1,y2,y3,y4,y5,y6,y7,y8,y9,y10,y11,n,rfl,rfl,u0,u1,u2,u3,u4,u5,u6,u7,u8,u9,u10,u11⟩:=za9_ Tryz.underlying25 (by kernel_rfl) (by kernel_rfl) hv h
 obtain⟨⟨⟨s0⟩⟩,e0,d0,_⟩:=DataW.trod_string Tryz.underlying9 u0
 obtain⟨⟨⟨s1⟩⟩,e1,d1,_⟩:=DataW.trod_string Tryz.underlying9 u1
 obtain⟨⟨⟨s2⟩⟩,e2,d2,_⟩:=DataW.trod_string Tryz.underlying9 u2
 obtain⟨s3,e3,d3,wf3⟩:=DataW.trod_int Tryz.underlying3 u3
 obtain⟨w4,s4,e4,t4,d4⟩:=jl_ u4
 obtain⟨w5,s5,e5,t5,d5⟩:=jl_ u5
 obtain⟨w6,s6,e6,t6,d6⟩:=jl_ u6
 obtain⟨w7,s7,e7,t7,d7⟩:=zct_ u7
 obtain⟨s8,e8,d8⟩:=DataW.trod_bool Tryz.underlying4 u8
 obtain⟨s9,e9,d9⟩:=DataW.trod_bool Tryz.underlying4 u9
 obtain⟨w10,s10,e10,t10,d10⟩:=jl_ u10
 obtain⟨w11,s11,e11,t11,d11⟩:=jl_ u11
 simp only[List.cons.injEq,and_true] at e0 e1 e2 e3 e4 e5 e6 e7 e8 e9 e10 e11
 subst e0;subst e1;subst e2;subst e3;subst e4;subst e5;subst e6;subst e7;subst e8;subst e9;subst e10;subst e11
 refine⟨⟨s0,s1,s2,s3,s4,s5,s6,s7,s8,s9,s10,s11⟩,⟨_,_,_,_,_,_,rfl,t4,t5,t6,t7,t10,t11⟩,?_,?_⟩
 ·unfold Lit.wf at wf3
  rw[Bool.and_eq_true,decide_eq_true_eq,decide_eq_true_eq] at wf3
  have h1:IntKind.i64.min≤s3:=wf3.1
  have h2:s3≤IntKind.i64.max:=wf3.2
  exact⟨h1,h2⟩
 ·rw[d0,d1,d2,d3,d8,d9]
  simp only[Rows.uptoBulk,Rows.uptoBulkAll,z6b_,v6_]
  omega
end
theorem z05_ {x:Nat}:∀ {l:List Nat},x∈l→x≤l.sum
 |y::l,h=>by
  rw[List.sum_cons]
  rcases List.mem_cons.1 h with rfl|h
  ·omega
  ·have:=z05_ h;omega
theorem yt_ {l:LL} {m:Nat} (h:v6_ l≤m):∀ a∈l,a.length≤m:=fun a ha=>by
 have:=z05_ (List.mem_map.2 ⟨a,ha,rfl⟩:a.length∈l.map List.length)
 unfold v6_ at h
 omega
theorem zcn_ {c:Cfg.ConfE} {m:Nat} (h:z6b_ c≤m):Cfg.Lim m c:=by
 unfold z6b_ at h
 refine⟨by omega,by omega,by omega,yt_ (by omega),yt_ (by omega),yt_ (by omega),fun x hx=>?_,yt_ (by omega),yt_ (by omega)⟩
 have:=z05_ (List.mem_map.2 ⟨x,hx,rfl⟩:1+x.typ.length∈c.indexes.map fun i=>1+i.typ.length)
 omega
end Go.Proofs.YtakfpngfpknedaaGreatDoor
namespace Go.Proofs.YtakfpngfpknedaaGreatDoor.Cfg
def linesR (w:LU) (l:LL):LL:=l.map fun a=>w++32::a
def indexR (x:IndexE):LU:=wIndex++32::(x.typ++32::Lib.join (kindsI x) [44])
def decX (n:Int):LU:=if n≤0 then [48] else Lib.itoa n
def sizeR (n:Int):LL:=if n=0 then [] else line wSize (decX n)
def rawR (c:ConfE):LL:=
 line wSuffix c.suffix++(line wRoot c.root++(line wSecret c.secret++(sizeR c.size++
 (linesR wAttr c.attrs++(linesR wClass c.classes++(linesR wAcl c.acls++(c.indexes.map indexR++
 (onL wMember c.memberof++(onL wAudit c.audit++(linesR wRef c.refs++linesR wUnique c.unique))))))))))
def printR (c:ConfE):LL:=if (parseC (rawR c)).2.1=0∧(parseC (rawR c)).1=c then rawR c else []
theorem linesR_eq (w:LU) (l:LL) (h:∀ a∈l,a≠[]):linesR w l=lines w l:=by
 induction l with
 |nil=>rfl
 |cons a l ih=>
  have e:lines w (a::l)=line w a++lines w l:=rfl
  have e1:line w a=[w++32::a]:=if_neg (h a (List.mem_cons_self ..))
  rw[e,e1,← ih (fun b hb=>h b (List.mem_cons_of_mem _ hb))]
  rfl
theorem indexR_eq (l:List IndexE) (h:∀ x∈l,kindsI x≠[]):l.map indexR=lines wIndex (l.map textI):=by
 induction l with
 |nil=>rfl
 |cons x l ih=>
  have hx:=h x (List.mem_cons_self ..)
  have e0:textI x=x.typ++32::Lib.join (kindsI x) [44]:=if_neg hx
  have e:lines wIndex ((x::l).map textI)=line wIndex (textI x)++lines wIndex (l.map textI):=rfl
  have e1:line wIndex (textI x)=[indexR x]:=by
   unfold line
   rw[if_neg (by rw[e0];simp),e0]
   rfl
  rw[e,e1,← ih (fun b hb=>h b (List.mem_cons_of_mem _ hb))]
  rfl
theorem go_each:∀ (l:LL) (i:Nat) (c:ConfE) (seen:LL) (tw:Int),(goC l i c seen tw).2.1=0→∀ v∈l,argS v≠[]∧(nameS v=wIndex→(indexS (argS v)).2=true)
 |[],_,_,_,_,_,v,hv=>by cases hv
 |u::l,i,c,seen,tw,h,v,hv=>by
  unfold goC at h
  split at h
  ·simp at h
  ·next k hk=>
   split at h
   ·simp at h
   ·next ha=>
    split at h
    ·next hok=>
     rcases List.mem_cons.1 hv with rfl|hv
     ·refine⟨ha,fun hn=>?_⟩
      rw[hn] at hk
      have:k= .index:=by
       have e:kindOf wIndex=some .index:=by decide
       rw[e] at hk
       exact(Option.some.inj hk).symm
      subst this
      exact hok
     ·exact go_each l _ _ _ _ h v hv
    ·simp at h
theorem parse_each {l:LL} (h:(parseC l).2.1=0):∀ v∈l,argS v≠[]∧(nameS v=wIndex→(indexS (argS v)).2=true):=by
 unfold parseC at h
 split at h
 ·simp at h
 ·exact go_each _ _ _ _ _ h
theorem last_kinds (x:IndexE) (h:kindsI x≠[]):(Lib.join (kindsI x) [44]).getLast?≠some 32∧Lib.join (kindsI x) [44]≠[]:=by
 obtain⟨t,a,b,c⟩:=x
 rw[show kindsI ⟨t,a,b,c⟩=kindsI ⟨[],a,b,c⟩ from rfl] at h ⊢
 clear t
 revert a b c
 decide
theorem index_blank (t:LU):(indexS (t++[32])).2=false:=by
 cases h:(indexS (t++[32])).2
 ·rfl
 ·exfalso
  have h2:textI (indexS (t++[32])).1=t++[32]:=by
   unfold indexS indexI at h ⊢
   simp only[Bool.and_eq_true,beq_iff_eq] at h
   exact h.2
  generalize (indexS (t++[32])).1=x at h2
  unfold textI at h2
  split at h2
  ·simp at h2
  ·next hk=>
   obtain⟨h3,h4⟩:=last_kinds x hk
   have h5:=congrArg List.getLast? h2
   rw[List.getLast?_append,List.getLast?_append,List.getLast?_cons] at h5
   cases hj:(Lib.join (kindsI x) [44]).getLast? with
   |none=>exact h4 (List.getLast?_eq_none_iff.1 hj)
   |some y=>
    rw[hj] at h5 h3
    simp at h5
    exact h3 (by rw[h5])
theorem raw_none {c:ConfE} (h:(parseC (rawR c)).2.1=0):(∀ a∈c.attrs,a≠[])∧(∀ a∈c.classes,a≠[])∧(∀ a∈c.acls,a≠[])∧(∀ x∈c.indexes,kindsI x≠[])∧(∀ a∈c.refs,a≠[])∧∀ a∈c.unique,a≠[]:=by
 have hE:=parse_each h
 have hw:∀ w∈[wAttr,wClass,wAcl,wRef,wUnique,wIndex],∀ x∈w,x≠32:=by decide
 have one:∀ w∈[wAttr,wClass,wAcl,wRef,wUnique,wIndex],∀ a,w++32::a∈rawR c→a≠[]:=fun w hm a ha=>by
  have:=(hE _ ha).1
  rwa [(line_read w a (hw w hm)).2] at this
 refine⟨fun a ha=>one wAttr (by decide) a ?_,fun a ha=>one wClass (by decide) a ?_,fun a ha=>one wAcl (by decide) a ?_,fun x hx hk=>?_,fun a ha=>one wRef (by decide) a ?_,fun a ha=>one wUnique (by decide) a ?_⟩
 ·have:=List.mem_map_of_mem (f:=fun a=>wAttr++32::a) ha
  simp only[rawR,List.mem_append,linesR]
  simp only[this,true_or,or_true]
 ·have:=List.mem_map_of_mem (f:=fun a=>wClass++32::a) ha
  simp only[rawR,List.mem_append,linesR]
  simp only[this,true_or,or_true]
 ·have:=List.mem_map_of_mem (f:=fun a=>wAcl++32::a) ha
  simp only[rawR,List.mem_append,linesR]
  simp only[this,true_or,or_true]
 ·have hm:=List.mem_map_of_mem (f:=indexR) hx
  have hr:indexR x∈rawR c:=by
   simp only[rawR,List.mem_append]
   simp only[hm,true_or,or_true]
  have h2:=(hE _ hr).2
  unfold indexR at h2
  obtain⟨h3,h4⟩:=line_read wIndex (x.typ++32::Lib.join (kindsI x) [44]) (hw wIndex (by decide))
  have h5:=h2 h3
  rw[h4,hk,show x.typ++32::Lib.join [] [44]=x.typ++[32] from rfl,index_blank] at h5
  cases h5
 ·have:=List.mem_map_of_mem (f:=fun a=>wRef++32::a) ha
  simp only[rawR,List.mem_append,linesR]
  simp only[this,true_or,or_true]
 ·have:=List.mem_map_of_mem (f:=fun a=>wUnique++32::a) ha
  simp only[rawR,List.mem_append,linesR]
  simp only[this,or_true]
theorem size_parse (l:LL):0≤(parseC l).1.size:=(lim_parse ((l.map List.length).sum) l fun s hs=>by
 have:∀ (l:List Nat) (x:Nat),x∈l→x≤l.sum:=by
  intro l
  induction l with
  |nil=>intro x hx;cases hx
  |cons y l ih=>
   intro x hx
   rw[List.sum_cons]
   rcases List.mem_cons.1 hx with rfl|hx
   ·omega
   ·have:=ih x hx;omega
 exact this _ _ (List.mem_map.2 ⟨s,hs,rfl⟩)).2.2.1
theorem printR_eq (c:ConfE):printR c=printC c:=by
 by_cases hz:c.size<0
 ·have e1:printR c=[]:=by
   unfold printR
   refine if_neg fun h=>?_
   have:=size_parse (rawR c)
   rw[h.2] at this
   omega
  have e2:printC c=[]:=by
   unfold printC
   refine if_neg fun h=>?_
   have:=size_parse (rawP c)
   rw[h.2] at this
   omega
  rw[e1,e2]
 have hsz:sizeR c.size=sizeL c.size:=by
  unfold sizeR sizeL decX
  by_cases h0:c.size=0
  ·rw[if_pos h0,if_pos h0]
  ·rw[if_neg h0,if_neg h0,if_neg (show ¬ c.size≤0 by omega)]
 by_cases hg:(∀ a∈c.attrs,a≠[])∧(∀ a∈c.classes,a≠[])∧(∀ a∈c.acls,a≠[])∧(∀ x∈c.indexes,kindsI x≠[])∧(∀ a∈c.refs,a≠[])∧∀ a∈c.unique,a≠[]
 ·obtain⟨h1,h2,h3,h4,h5,h6⟩:=hg
  have e:rawR c=rawP c:=by
   unfold rawR rawP
   rw[hsz,linesR_eq _ _ h1,linesR_eq _ _ h2,linesR_eq _ _ h3,indexR_eq _ h4,linesR_eq _ _ h5,linesR_eq _ _ h6]
  unfold printR printC
  rw[e]
 ·have e1:printR c=[]:=by
   unfold printR
   exact if_neg fun h=>hg (raw_none h.1)
  have e2:printC c=[]:=by
   unfold printC
   refine if_neg fun h=>hg ?_
   have hp:parseC (rawP c)=(c,0,(parseC (rawP c)).2.2):=by
    rw[Prod.ext_iff,Prod.ext_iff]
    exact⟨h.2,h.1,rfl⟩
   unfold parseC at hp
   split at hp
   ·simp at hp
   ·have hG:=(go_good _ 0 zeroC [] (-1) c _ hp good_zero (by decide)).1
    refine⟨hG.attrs,hG.classes,hG.acls,fun x hx hk=>(hG.indexes x hx).1 ?_,fun a ha=>(hG.refs a ha).1,fun a ha=>(hG.unique a ha).1⟩
    unfold textI
    exact if_pos hk
  rw[e1,e2]
end Go.Proofs.YtakfpngfpknedaaGreatDoor.Cfg
namespace Go.Proofs.YtakfpngfpknedaaGreatDoor.Cfg
def onceN (w:LU):Bool:=w==wSuffix||w==wRoot||w==wSecret||w==wSize||w==wMember||w==wAudit
theorem kind_find {w:LU} {k:Kind} (h:kindOf w=some k):(w,k)∈kinds:=by
 unfold kindOf at h
 obtain⟨y,hy,rfl⟩:=Option.map_eq_some_iff.1 h
 have h3:=List.mem_of_find?_eq_some hy
 have h4:=List.find?_some hy
 rw[← eq_of_beq h4]
 exact h3
theorem onceN_kind {w:LU} {k:Kind} (h:kindOf w=some k):onceN w=onceK k:=by
 have hb:∀ y∈kinds,onceN y.1=onceK y.2:=by decide
 exact hb _ (kind_find h)
def firstTw:LL→LL→Nat→Int
 |_,[],_=> -1
 |seen,n::r,i=>if seen.contains n && onceN n then (i:Int) else firstTw (n::seen) r (i+1)
theorem firstTw_ge:∀ (ns seen:LL) (i:Nat),firstTw seen ns i= -1∨0≤firstTw seen ns i
 |[],_,_=> .inl rfl
 |n::r,seen,i=>by
  rw[firstTw]
  split
  ·exact .inr (by omega)
  ·exact firstTw_ge r _ _
theorem firstTw_snoc:∀ (ns seen:LL) (n:LU) (i:Nat),firstTw seen (ns++[n]) i=if 0≤firstTw seen ns i then firstTw seen ns i else if (ns.reverse++seen).contains n && onceN n then ((i+ns.length:Nat):Int) else -1
 |[],seen,n,i=>by
  have h1:¬ (0:Int)≤ -1:=by omega
  simp [firstTw]
 |m::r,seen,n,i=>by
  rw[List.cons_append,firstTw,firstTw]
  split
  ·rw[if_pos (by omega)]
  ·rw[firstTw_snoc r (m::seen) n (i+1)]
   have e:((m::r).reverse++seen)=r.reverse++m::seen:=by simp
   rw[e]
   have e2:i+(m::r).length=i+1+r.length:=by simp;omega
   rw[e2]
def namesL (l:LL):LL:=l.map nameS
theorem tw_step (l:LL) (v:LU) (k:Kind) (hk:kindOf (nameS v)=some k):
  (if (namesL l).reverse.contains (nameS v) && onceK k && decide (firstTw [] (namesL l) 0<0) then (l.length:Int) else firstTw [] (namesL l) 0)=firstTw [] (namesL (l++[v])) 0:=by
 have e:namesL (l++[v])=namesL l++[nameS v]:=by simp [namesL]
 rw[e,firstTw_snoc,onceN_kind hk,List.append_nil,Nat.zero_add]
 have hl:(namesL l).length=l.length:=by simp [namesL]
 rw[hl]
 rcases firstTw_ge (namesL l) [] 0 with h|h
 ·rw[h,if_neg (show ¬ (0:Int)≤ -1 by omega)]
  simp
 ·rw[if_pos h,if_neg]
  simp only[Bool.and_eq_true,decide_eq_true_eq,not_and]
  intro _;omega
theorem go_start (l:LL) (h:¬ 200<l.length):parseC l=goC (l.drop 0) 0 zeroC (namesL (l.take 0)).reverse (firstTw [] (namesL (l.take 0)) 0):=by
 unfold parseC
 rw[if_neg h]
 rfl
theorem go_step (l:LL) (k:Nat) (hk:k<l.length) (c:ConfE) (K:Kind) (h1:kindOf (nameS l[k])=some K) (h2:argS l[k]≠[]) (h3:(takeK K (argS l[k]) c).2=true):
  goC (l.drop k) k c (namesL (l.take k)).reverse (firstTw [] (namesL (l.take k)) 0)=goC (l.drop (k+1)) (k+1) (takeK K (argS l[k]) c).1 (namesL (l.take (k+1))).reverse (firstTw [] (namesL (l.take (k+1))) 0):=by
 have ht:l.take (k+1)=l.take k++[l[k]]:=List.take_succ_eq_append_getElem hk
 have hs:=tw_step (l.take k) l[k] K h1
 rw[List.length_take,Nat.min_eq_left (Nat.le_of_lt hk)] at hs
 rw[List.drop_eq_getElem_cons hk,goC,h1]
 simp only
 rw[if_neg h2,if_pos h3,ht,← hs]
 congr 1
 unfold namesL
 rw[List.map_append,List.reverse_append]
 rfl
theorem go_badR (l:LL) (k:Nat) (hk:k<l.length) (c:ConfE) (seen:LL) (tw:Int) (h:∀ K,kindOf (nameS l[k])=some K→argS l[k]≠[]→(takeK K (argS l[k]) c).2=false):
  goC (l.drop k) k c seen tw=(zeroC,50,(k:Int)):=by
 rw[List.drop_eq_getElem_cons hk,goC]
 split
 ·rfl
 ·next K hK=>
  split
  ·rfl
  ·next ha=>rw[if_neg (by rw[h K hK ha];simp)]
theorem firstTw_hit (N:LL) (k j:Nat) (hk:k<N.length) (hj:j<k) (he:N[j]'(by omega)=N[k]) (ho:onceN N[k]=true):firstTw (N.take k).reverse (N.drop k) k=(k:Int):=by
 rw[List.drop_eq_getElem_cons hk,firstTw,if_pos]
 rw[ho,Bool.and_true,List.contains_iff_mem,List.mem_reverse,← he]
 exact List.mem_take_iff_getElem.2 ⟨j,by omega,rfl⟩
theorem firstTw_miss (N:LL) (k:Nat) (hk:k<N.length) (h:∀ j (hj:j<k),¬ (N[j]'(by omega)=N[k]∧onceN N[k]=true)):firstTw (N.take k).reverse (N.drop k) k=firstTw (N.take (k+1)).reverse (N.drop (k+1)) (k+1):=by
 rw[List.drop_eq_getElem_cons hk,firstTw,if_neg]
 ·rw[List.take_succ_eq_append_getElem hk,List.reverse_append]
  rfl
 ·intro hc
  rw[Bool.and_eq_true,List.contains_iff_mem,List.mem_reverse] at hc
  obtain⟨j,hj,he⟩:=List.mem_take_iff_getElem.1 hc.1
  exact h j (by omega) ⟨he,hc.2⟩
/-! Indexes. -/
def seven:List (LU × Bool × Bool × Bool):=[([101,113],true,false,false),([112,114,101,115],false,true,false),([115,117,98],false,false,true),
 ([101,113,44,112,114,101,115],true,true,false),([101,113,44,115,117,98],true,false,true),([112,114,101,115,44,115,117,98],false,true,true),([101,113,44,112,114,101,115,44,115,117,98],true,true,true)]
def sevenOf (s:LU):Option (Bool × Bool × Bool):=(seven.find? (·.1==s)).map (·.2)
def indexX (s:LU):Option IndexE:=if zc_ (nameS s)=false∨nameS s=s then none else (sevenOf (argS s)).map fun k=>⟨nameS s,k.1,k.2.1,k.2.2⟩
theorem cut_eq (s:LU) (h:nameS s≠s):s=nameS s++32::argS s:=by
 unfold nameS argS at *
 have e:=List.takeWhile_append_dropWhile (p:=(· !=32)) (l:=s)
 cases hd:s.dropWhile (· !=32) with
 |nil=>rw[hd,List.append_nil] at e;exact absurd e h
 |cons x t=>
  have hx:=List.head?_dropWhile_not (· !=32) s
  rw[hd] at hx
  simp at hx
  rw[hd,hx] at e
  rw[List.drop_one,List.tail_cons]
  exact e.symm
theorem seven_join:∀ (a b c:Bool),kindsI ⟨[],a,b,c⟩≠[]→sevenOf (Lib.join (kindsI ⟨[],a,b,c⟩) [44])=some (a,b,c):=by decide
theorem seven_read:∀ y∈seven,∀ t:LU,(commas y.1).foldl stepI ⟨t,false,false,false⟩=⟨t,y.2.1,y.2.2.1,y.2.2.2⟩∧kindsI ⟨[],y.2.1,y.2.2.1,y.2.2.2⟩≠[]∧Lib.join (kindsI ⟨[],y.2.1,y.2.2.1,y.2.2.2⟩) [44]=y.1:=by
 intro y hy t
 simp only[seven,List.mem_cons,List.not_mem_nil,or_false] at hy
 rcases hy with rfl|rfl|rfl|rfl|rfl|rfl|rfl<;>refine⟨?_,by decide,by decide⟩<;>rfl
theorem kinds_typ (x:IndexE):kindsI x=kindsI ⟨[],x.eq,x.pres,x.sub⟩:=rfl
theorem nameS_ne (s:LU):∀ x∈nameS s,x≠32:=fun x hx=>by
 have h1:(s.takeWhile (· !=32)).all (· !=32)=true:=List.all_takeWhile
 have:=List.all_eq_true.1 h1 x hx
 simpa using this
theorem indexX_some {s:LU} {x:IndexE} (h:indexX s=some x):indexS s=(x,true):=by
 unfold indexX at h
 split at h
 ·cases h
 ·next hn=>
  obtain⟨k,hk,rfl⟩:=Option.map_eq_some_iff.1 h
  unfold sevenOf at hk
  obtain⟨y,hy,rfl⟩:=Option.map_eq_some_iff.1 hk
  have hm:=List.mem_of_find?_eq_some hy
  have he:y.1=argS s:=by have:=List.find?_some hy;simpa using this
  obtain⟨r1,r2,r3⟩:=seven_read y hm (nameS s)
  have ht:zc_ (nameS s)=true:=by
   cases hb:zc_ (nameS s)
   ·exact absurd (.inl hb) hn
   ·rfl
  have hc:=cut_eq s (fun e=>hn (.inr e))
  unfold indexS indexI
  rw[← he,r1]
  simp only[Prod.mk.injEq,true_and,ht,Bool.true_and,beq_iff_eq]
  unfold textI
  rw[kinds_typ,if_neg r2,r3,he]
  exact hc.symm
theorem indexX_none {s:LU} (h:indexX s=none):(indexS s).2=false:=by
 cases hb:(indexS s).2
 ·rfl
 ·exfalso
  have h2:zc_ (nameS s)=true∧textI (indexS s).1=s:=by
   unfold indexS indexI at hb ⊢
   simp only[Bool.and_eq_true,beq_iff_eq] at hb
   exact hb
  obtain⟨h3,h4⟩:=h2
  have ht:=indexS_typ s
  generalize indexS s=r at h4 ht hb
  obtain⟨⟨ty,a,b,c⟩,rb⟩:=r
  simp only at h4 ht hb
  unfold textI at h4
  by_cases hk:kindsI ⟨ty,a,b,c⟩=[]
  ·rw[if_pos hk] at h4
   rw[← h4] at h3
   cases h3
  ·rw[if_neg hk,ht,kinds_typ] at h4
   simp only at h4
   have ha:argS s=Lib.join (kindsI ⟨[],a,b,c⟩) [44]:=by
    conv=>lhs;rw[← h4]
    exact(line_read _ _ (nameS_ne s)).2
   have hn:nameS s≠s:=fun e=>by
    have:=congrArg List.length h4
    rw[List.length_append,List.length_cons] at this
    have h9:=congrArg List.length e
    omega
   unfold indexX at h
   have hnn:¬ (zc_ (nameS s)=false∨nameS s=s):=fun hh=>hh.elim (fun h1=>by rw[h3] at h1;cases h1) hn
   rw[if_neg hnn,ha,seven_join a b c hk] at h
   cases h
theorem indexX_eq (s:LU):(∀ x,indexX s=some x→indexS s=(x,true))∧(indexX s=none→(indexS s).2=false):=⟨fun _ h=>indexX_some h,indexX_none⟩
end Go.Proofs.YtakfpngfpknedaaGreatDoor.Cfg
