import Derived.Test.YtbekpphodbekiaaGreatDoorV0x
set_option linter.all false
set_option maxHeartbeats 8000000
set_option maxRecDepth 100000
namespace Go.Proofs.YtbekpphodbekiaaGreatDoor
open Go.RowKit
theorem zmg_ (xs:LL) (v:Value) (w:World) (hv:TextsA w v xs) (hl:xs.length≤4000000):
  Calls Tryz.prog 27 #[v] w fun e w'=>∃ v',e= .returned v'∧Own w.heap.size w' v' xs∧Bel w w':=by
 have hb0:Bel w (w.alloc (.cells #[] 9)):=(bR _ _).alloc (nR _) _
 have hv1:=hv.below hb0
 have ho:=za3_ w
 have hq:=fun (a:Option Addr) (n c:Nat)=>Lib.run_eql_slice_nil (P:=Tryz.prog) w 36 9 a n c 0 0 Tryz.underlying36
 rcases id hv with ⟨rfl,rfl⟩|⟨b,c,rfl,hc,hx⟩
 ·go_enter Tryz.func27,Tryz.ntmps27
  go_wp2_with fail
  go_ret
  exact⟨_,rfl,Own.nil (nR _),bR _ _⟩
 ·clear hx hv
  go_enter Tryz.func27,Tryz.ntmps27
  go_wp2_with (at_builtin;refine zah_ rfl _ _ rfl rfl ho rfl hv1 (by simp;omega) ?_;intro v' w1 hO1 hg1)
  go_ret
  exact⟨_,rfl,by simpa using hO1,Own.bel hb0 ho hg1⟩
def vk_ (f:LU→Int × LU):LL→LL→Option (LL)
 |[],acc=>some acc
 |v::vs,acc=>if (f v).1==0 then vk_ f vs (acc++[(f v).2]) else none
theorem z9y_ (S:Ent.SchE) (t:LU):∀ (vs acc:LL),vk_ (S.norm t) vs acc=(Ent.formsE S t vs).map (acc++·)
 |[],acc=>by simp [vk_,Ent.formsE]
 |v::vs,acc=>by
  have ih:=z9y_ S t vs (acc++[(S.norm t v).2])
  rw[vk_,ih]
  unfold Ent.formsE
  rw[List.all_cons,List.map_cons]
  unfold Ent.okF Ent.normF
  cases h1:((S.norm t v).1==0)
  ·simp
  ·simp only[if_true,Bool.true_and]
   split
   ·simp
   ·simp
def zlz_ (w:World) (o:Option (LL)) (e:Ending) (w':World):Prop:=Bel w w'∧match o with
 |none=>e= .returned (.tuple #[.slice none 0 0,.bool false])
 |some l=>∃ v,e= .returned (.tuple #[v,.bool true])∧Own w.heap.size w' v l
theorem zq6_ (s:Nat) (ps:List Nat) (L:List DefS) (hL:Sound L) (t:LU) (vs:LL) (v:Value) (w:World) (hw:Env w) (hS:SchAt w s ps L) (ht:t.length≤1000000) (hv:TextsA w v vs) (hl:vs.length≤4000000):
  Calls Tryz.prog 38 #[.pointer (some ⟨s,0,none⟩),.string ⟨t.toArray⟩,v] w (zlz_ w (Ent.formsE (zo_ L) t vs)):=by
 obtain⟨R,hR⟩:∃ R,Ent.formsE (zo_ L) t vs=R:=⟨_,rfl⟩
 have hR0:vk_ (zf_ L t) vs []=R:=by
  have:=z9y_ (zo_ L) t vs []
  rw[hR] at this
  have h2:vk_ ((zo_ L).norm t) vs []=R:=by simpa using this
  exact h2
 rw[hR]
 have HN:Hid (∀ (x:LU) (W:World),Bel w W→Calls Tryz.prog 34 #[.pointer (some ⟨s,0,none⟩),.string ⟨t.toArray⟩,.string ⟨x.toArray⟩] W fun e w'=>e= .returned (.tuple #[.string ⟨(zf_ L t x).2.toArray⟩,.int .i64 (zf_ L t x).1])∧Bel W w'):=hiD fun x W h=>z73_ s ps L hL.lim hL.rul hL.counts t x W (hw.keep h) (hS.below h) ht
 obtain⟨A,c,rfl,hc,hcell⟩:=hv.at
 have HV:=hiD hcell
 have HR:=hiD hR0
 clear hv hcell hS hw hL hR hR0
 go_enter Tryz.func38,Tryz.ntmps38
 go_wp2_with fail
 go_loopg [8,15] vs.length (fun gk out i wr=>∃ (k:Nat) (acc:LL),k≤vs.length∧i= .int .i64 k∧Aside (k+gk=vs.length)∧Aside (acc.length=k)∧Aside (Bel w wr∧Own w.heap.size wr out acc)∧Aside (vk_ (zf_ L t) (vs.drop k) acc=R))
 case atStart=>exact⟨0,[],by omega,rfl,by show _=_;omega,rfl,⟨bR _ _,Own.nil (nR _)⟩,HR.out⟩
 case round=>
  clear HR
  obtain⟨k,acc,hk,rfl,AG,AC,AB,AS⟩:=hrel
  obtain⟨Ao,co,rfl,hco⟩:=AB.out.2.isSlice
  by_cases hlt:k<vs.length
  ·obtain⟨q,rfl⟩:∃ q,gk=q+1:=⟨gk - 1,by have:=AG.out;omega⟩
   obtain⟨a,rfl,c0⟩:=HV.out k hlt
   have AS':Aside ((if (zf_ L t vs[k]).1==0 then vk_ (zf_ L t) (vs.drop (k+1)) (acc++[(zf_ L t vs[k]).2]) else none)=R):=by have:=AS.out;rw[List.drop_eq_getElem_cons hlt] at this;exact this
   have d0:=cQ AB.out.1 c0
   have HN1:=hiD (HN.out vs[k] wr AB.out.1)
   have hacl:acc.length<4000001:=by have:=AC.out;omega
   clear AS c0
   generalize vs[k]=x at *
   generalize zf_ L t x=p at *
   obtain⟨code,nx⟩:=p
   simp only at HN1 AS'
   by_cases hcd:code=0
   ·subst hcd
    have AS2:Aside (vk_ (zf_ L t) (vs.drop (k+1)) (acc++[nx])=R):=(by have:=AS'.out;simpa using this:vk_ (zf_ L t) (vs.drop (k+1)) (acc++[nx])=R)
    clear AS'
    go_wp2_with (first|(go_at_call 34;(with_reducible refine HN1.out.mono ?_);rintro e w2 ⟨rfl,hb2⟩;have hO2:=AB.out.2.below hb2;have hB2:=tQ AB.out.1 hb2)|(at_builtin;refine vn_ (c:=nx) rfl _ _ rfl rfl hO2 rfl rfl (by omega) ?_;intro v' w4 hO4 hg4))
    go_roundg q
    case measure=>omega
    case rel=>exact⟨k+1,acc++[nx],by omega,by go_num,by have:=AG.out;show _=_;omega,by have:=AC.out;show _=_;rw[List.length_append,List.length_singleton];omega,⟨Own.bel hB2 hO2 hg4,hO4⟩,AS2.out⟩
   ·have hcb:(code !=0)=true:=bne_iff_ne.2 hcd
    have hcb2:(code==0)=false:=beq_eq_false_iff_ne.2 hcd
    have AS2:Aside (R=none):=by have:=AS'.out;rw[hcb2] at this;exact this.symm
    clear AS'
    go_wp2_with (go_at_call 34;(with_reducible refine HN1.out.mono ?_);rintro e w2 ⟨rfl,hb2⟩)
    go_ret2
    rw[AS2.out]
    exact⟨tQ AB.out.1 hb2,rfl⟩
  ·obtain rfl:k=vs.length:=by omega
   have AS2:Aside (R=some acc):=by have:=AS.out;rw[List.drop_length] at this;exact this.symm
   clear AS
   go_wp2_with fail
   go_ret2
   rw[AS2.out]
   exact⟨AB.out.1,_,rfl,AB.out.2⟩
def SetT (w:World) (m:Nat) (xs:LL):Prop:=∃ es c,MapS w m es c (xs.map fun x=>(x,.agg #[]))
theorem SetT.lt {w:World} {m:Nat} {xs:LL} (h:SetT w m xs):m<w.heap.size:=by
 obtain⟨es,c,h1⟩:=h
 exact h1.lt
theorem SetT.below {w w':World} {m:Nat} {xs:LL} (h:SetT w m xs) (hb:Bel w w'):SetT w' m xs:=by
 obtain⟨es,c,h1⟩:=h
 exact⟨es,c,h1.keep (hb.block m h1.lt)⟩
theorem SetT.made (w:World):SetT (w.alloc (.map #[] 0)) w.heap.size []:=⟨_,_,MapS.made w⟩
theorem zln_ {w:World} {m:Nat} {xs:LL} (h:SetT w m xs) (x:LU):
  (Instr.lookup 136 (.map (some m)) (.string ⟨x.toArray⟩) true).run Tryz.prog w= .ok (.tuple #[.agg #[],.bool (xs.contains x)]) w:=by
 obtain⟨es,c,h1⟩:=h
 have hz:∀ w,(zeroValue 101).run Tryz.prog w= .ok (.agg #[]) w:=fun w=>by kernel_rfl
 have:=h1.ask (k:=x) Tryz.underlying136 hz
 rw[xz_] at this
 unfold jp_ at this
 rw[this]
 by_cases hx:x∈xs
 ·rw[if_pos hx,List.contains_iff_mem.2 hx];rfl
 ·have:xs.contains x=false:=by
   cases hc:xs.contains x with
   |false=>rfl
   |true=>exact absurd (List.contains_iff_mem.1 hc) hx
  rw[if_neg hx,this];rfl
theorem zng_ {w:World} {m:Nat} {xs:LL} (h:SetT w m xs) (x:LU) (hn:xs.contains x=false):
  ∃ W,(Instr.mapUpdate 136 (.map (some m)) (.string ⟨x.toArray⟩) (.agg #[])).run Tryz.prog w= .ok () W∧SetT W m (xs++[x])∧w.grownBy W (some m):=by
 obtain⟨es,c,h1⟩:=h
 have hl:jo_ (xs.map fun x=>(x,Value.agg #[])) x=none:=by
  rw[xz_]
  by_cases hx:x∈xs
  ·rw[List.contains_iff_mem.2 hx] at hn;cases hn
  ·rw[if_neg hx]
 have hp:=h1.put x (.agg #[])
 rw[show (xs.map fun x=>(x,Value.agg #[]))++[(x,Value.agg #[])]=(xs++[x]).map fun x=>(x,Value.agg #[]) by rw[List.map_append];rfl] at hp
 exact⟨_,h1.update Tryz.underlying136 (.agg #[]) hl,⟨_,_,hp⟩,qi_ _ _ _ _⟩
def z06_:LL→LL→Bool
 |_,[]=>false
 |seen,x::l=>seen.contains x||z06_ (seen++[x]) l
theorem z9u_:∀ (l seen:LL),z06_ seen l=(l.any seen.contains||Ent.twiceE l)
 |[],seen=>by simp [z06_,Ent.twiceE]
 |x::l,seen=>by
  rw[z06_,z9u_ l (seen++[x]),Ent.twiceE,List.any_cons]
  have h:(l.any fun y=>(seen++[x]).contains y)=(l.any seen.contains||l.contains x):=by
   rw[Bool.eq_iff_iff]
   simp only[List.any_eq_true,Bool.or_eq_true,List.contains_iff_mem,List.mem_append,List.mem_singleton]
   constructor
   ·rintro⟨y,hy,h|rfl⟩
    ·exact .inl ⟨y,hy,h⟩
    ·exact .inr hy
   ·rintro(⟨y,hy,h⟩|h)
    ·exact⟨y,hy,.inl h⟩
    ·exact⟨x,h,.inr rfl⟩
  show (seen.contains x||((l.any fun y=>(seen++[x]).contains y)||Ent.twiceE l))=_
  rw[h]
  cases seen.contains x<;>cases l.any seen.contains<;>cases l.contains x<;>cases Ent.twiceE l<;>rfl
theorem zov_ (xs:LL) (v:Value) (w:World) (hv:TextsA w v xs) (hl:xs.length≤1000000):
  Calls Tryz.prog 41 #[v] w fun e w'=>e= .returned (.bool (Ent.twiceE xs))∧Bel w w':=by
 obtain⟨R,hR⟩:∃ R,Ent.twiceE xs=R:=⟨_,rfl⟩
 have hR0:z06_ [] xs=R:=by rw[z9u_,← hR];simp
 rw[hR]
 obtain⟨A,c,rfl,hc,hcell⟩:=hv.at
 have HV:=hiD hcell
 have HR:=hiD hR0
 clear hv hcell hR hR0
 have hb0:Bel w (w.alloc (.map #[] 0)):=(bR _ _).alloc (nR _) _
 have hs0:=SetT.made w
 have hmm:=@run_makeMap Tryz.prog
 go_enter Tryz.func41,Tryz.ntmps41
 go_wp2_with fail
 go_loopg [11] xs.length (fun gk i wr=>∃ k:Nat,k≤xs.length∧i= .int .i64 k∧Aside (k+gk=xs.length)∧Aside (Bel w wr∧SetT wr w.heap.size (xs.take k))∧Aside (z06_ (xs.take k) (xs.drop k)=R))
 case atStart=>exact⟨0,by omega,rfl,by show _=_;omega,⟨hb0,hs0⟩,HR.out⟩
 case round=>
  clear HR hb0 hs0
  obtain⟨k,hk,rfl,AG,AB,AS⟩:=hrel
  by_cases hlt:k<xs.length
  ·obtain⟨q,rfl⟩:∃ q,gk=q+1:=⟨gk - 1,by have:=AG.out;omega⟩
   obtain⟨a,rfl,c0⟩:=HV.out k hlt
   have AS':Aside (((xs.take k).contains xs[k]||z06_ (xs.take k++[xs[k]]) (xs.drop (k+1)))=R):=by have:=AS.out;rw[List.drop_eq_getElem_cons hlt] at this;exact this
   have htk:xs.take k++[xs[k]]=xs.take (k+1):=(List.take_succ_eq_append_getElem hlt).symm
   have d0:=cQ AB.out.1 c0
   have hask:=zln_ AB.out.2 xs[k]
   have hbx:Bel wr (wr.alloc (.cells #[] 101)):=(bR _ _).alloc (nR _) _
   have hBx:=tQ AB.out.1 hbx
   clear AS c0
   cases hcn:(xs.take k).contains xs[k]
   ·obtain⟨W1,hup,hs1,hg1⟩:=zng_ (AB.out.2.below hbx) xs[k] hcn
    rw[hcn] at hask AS'
    rw[htk] at hs1 AS'
    have AS2:Aside (z06_ (xs.take (k+1)) (xs.drop (k+1))=R):=(by have:=AS'.out;simpa using this:z06_ (xs.take (k+1)) (xs.drop (k+1))=R)
    have hB1:=hBx.grown hg1 hBx.size (fun k hk=>by cases hk;exact nR _)
    have HS1:=hiD hs1
    clear AS' hcn htk hs1 hg1
    generalize xs[k]=x at *
    go_wp2_with fail
    go_roundg q
    case measure=>omega
    case rel=>exact⟨k+1,by omega,by go_num,by have:=AG.out;show _=_;omega,⟨hB1,HS1.out⟩,AS2.out⟩
   ·rw[hcn] at hask AS'
    have AS2:Aside (R=true):=(by have:=AS'.out;simpa using this.symm:R=true)
    clear AS' hcn htk
    generalize xs[k]=x at *
    go_wp2_with fail
    go_ret
    exact⟨j7_ AS2.out.symm,hBx⟩
  ·obtain rfl:k=xs.length:=by omega
   have AS2:Aside (R=false):=by have:=AS.out;rw[List.drop_length] at this;exact this.symm
   clear AS
   go_wp2_with fail
   go_ret
   exact⟨j7_ AS2.out.symm,AB.out.1⟩
def z6y_ (e:Ent.EntryE) (va:Value):Value:= .agg #[.string ⟨e.dn.toArray⟩,va]
def ve_ (f:LU→Bool):List Ent.AttrE→LL→LL
 |[],acc=>acc
 |a::l,acc=>if f a.typ then ve_ f l (acc++a.vals) else ve_ f l acc
theorem z41_ (S:Ent.SchE) (dn t:LU):∀ (l:List Ent.AttrE) (acc:LL),ve_ (fun x=>S.sub x t) l acc=acc++Ent.findE S ⟨dn,l⟩ t
 |[],acc=>by simp [ve_,Ent.findE]
 |a::l,acc=>by
  have e:Ent.findE S ⟨dn,a::l⟩ t=(if S.sub a.typ t then a.vals else [])++Ent.findE S ⟨dn,l⟩ t:=by
   unfold Ent.findE
   rw[List.flatMap_cons]
  rw[ve_,z41_ S dn t l,z41_ S dn t l,e]
  split<;>simp
def yj_ (l:List Ent.AttrE):Nat:=(l.map fun a=>a.vals.length).sum
theorem z5m_ (a:Ent.AttrE) (l:List Ent.AttrE):yj_ (a::l)=a.vals.length+yj_ l:=by simp [yj_]
theorem Find_c (s:Nat) (ps:List Nat) (L:List DefS) (hL:Sound L) (en:Ent.EntryE) (va:Value) (t:LU) (w:World) (hS:SchAt w s ps L) (hv:AttrsA w va en.attrs) (hl:en.attrs.length≤1000) (hvn:yj_ en.attrs≤1000000) (hlt:∀ a∈en.attrs,a.typ.length≤1000000) (ht:t.length≤1000000):
  Calls Tryz.prog 151 #[.pointer (some ⟨s,0,none⟩),z6y_ en va,.string ⟨t.toArray⟩] w fun e w'=>∃ v,e= .returned v∧Own w.heap.size w' v (Ent.findE (zo_ L) en t)∧Bel w w':=by
 obtain⟨R,hR⟩:∃ R,Ent.findE (zo_ L) en t=R:=⟨_,rfl⟩
 obtain⟨dn,attrs⟩:=en
 have hR0:ve_ (fun x=>k8_ L x t) attrs []=R:=by
  have:=z41_ (zo_ L) dn t attrs []
  rw[hR] at this
  have h2:ve_ (fun x=>(zo_ L).sub x t) attrs []=R:=by simpa using this
  exact h2
 rw[hR]
 unfold z6y_
 simp only at hv hl hvn hlt ⊢
 have HI:Hid (∀ a∈attrs,∀ W:World,Bel w W→Calls Tryz.prog 195 #[.pointer (some ⟨s,0,none⟩),.string ⟨a.typ.toArray⟩,.string ⟨t.toArray⟩] W fun e w'=>e= .returned (.bool (k8_ L a.typ t))∧Bel W w'):=hiD fun a ha W h=>zr8_ s ps L a.typ t W (hS.below h) hL.lim (by have:=hL.says.len;omega) hL.says.sup_known (hlt a ha) ht
 obtain⟨A,c,rfl,hc,hcell⟩:=hv.at
 have HV:=hiD hcell
 have HR:=hiD hR0
 clear hv hcell hS hL hR hR0 hlt ht
 obtain⟨na,hna⟩:∃ n,n=attrs.length:=⟨_,rfl⟩
 have hb0:Bel w (w.alloc (.cells #[.string ⟨dn.toArray⟩,.slice A attrs.length c] 30)):=(bR _ _).alloc (nR _) _
 go_enter Tryz.func151,Tryz.ntmps151
 go_wp2_with fail
 go_loopg [7,13] attrs.length (fun gk out i wr=>∃ (k:Nat) (acc:LL),k≤attrs.length∧i= .int .i64 k∧Aside (k+gk=attrs.length)∧Aside (acc.length+yj_ (attrs.drop k)≤1000000)∧Aside (Bel w wr∧Own w.heap.size wr out acc)∧Aside (ve_ (fun x=>k8_ L x t) (attrs.drop k) acc=R))
 case atStart=>exact⟨0,[],by omega,rfl,by show _=_;omega,by show _≤_;simpa using hvn,⟨hb0,Own.nil hb0.size⟩,HR.out⟩
 case round=>
  clear HR hb0
  obtain⟨k,acc,hk,rfl,AG,AC,AB,AS⟩:=hrel
  obtain⟨Ao,co,rfl,hco⟩:=AB.out.2.isSlice
  by_cases hlt:k<attrs.length
  ·obtain⟨q,rfl⟩:∃ q,gk=q+1:=⟨gk - 1,by have:=AG.out;omega⟩
   obtain⟨b,o,va,rfl,c0,c1,hta⟩:=HV.out k hlt
   have HMEM:=hiD (List.getElem_mem hlt)
   have AS':Aside ((if k8_ L attrs[k].typ t then ve_ (fun x=>k8_ L x t) (attrs.drop (k+1)) (acc++attrs[k].vals) else ve_ (fun x=>k8_ L x t) (attrs.drop (k+1)) acc)=R):=by have:=AS.out;rw[List.drop_eq_getElem_cons hlt] at this;exact this
   have hcnt:acc.length+(attrs[k].vals.length+yj_ (attrs.drop (k+1)))≤1000000:=by have:=AC.out;rw[List.drop_eq_getElem_cons hlt,z5m_] at this;exact this
   have d0:=cQ AB.out.1 c0
   have d1:=cQ AB.out.1 c1
   have hadd:=jl_
   clear AS c0 c1 AC
   generalize attrs[k]=x at *
   obtain⟨typ,vals⟩:=x
   simp only at AS' hcnt d0 hta
   obtain⟨Av,nv,cv,rfl⟩:∃ A n c,va= .slice A n c:=by
    obtain⟨A,c,h,_⟩:=hta.at
    exact⟨A,_,c,h⟩
   have hbx:Bel wr (wr.alloc (.cells #[.string ⟨typ.toArray⟩,.slice Av nv cv] 43)):=(bR _ _).alloc (nR _) _
   have hBx:=tQ AB.out.1 hbx
   have hkx:Bk (wr.alloc (.cells #[.string ⟨typ.toArray⟩,.slice Av nv cv] 43)) wr.heap.size 43 #[.string ⟨typ.toArray⟩,.slice Av nv cv]:=Bk.new wr _ _
   have hO1:=AB.out.2.below hbx
   have HI1:=hiD (HI.out ⟨typ,vals⟩ HMEM.out _ hBx)
   have HTA:=hiD (hta.below hBx)
   clear hta HMEM
   simp only at HI1
   cases hsub:k8_ L typ t
   ·rw[hsub] at HI1 AS'
    simp only[Bool.false_eq_true,if_false] at AS'
    clear hsub
    go_wp2_with (go_at_call 195;(with_reducible refine HI1.out.mono ?_);rintro e w2 ⟨rfl,hb2⟩)
    go_roundg q
    case measure=>omega
    case rel=>exact⟨k+1,acc,by omega,by go_num,by have:=AG.out;show _=_;omega,by show _≤_;omega,⟨tQ hBx hb2,hO1.below hb2⟩,AS'.out⟩
   ·rw[hsub] at HI1 AS'
    simp only[if_true] at AS'
    clear hsub
    go_wp2_with (first|(go_at_call 195;(with_reducible refine HI1.out.mono ?_);rintro e w2 ⟨rfl,hb2⟩;have hO2:=hO1.below hb2;have hB2:=tQ hBx hb2;have hT2:=HTA.out.below hb2;have e1:w2.cell? ⟨wr.heap.size,1,none⟩=some (.slice Av nv cv):=(hkx.below hb2).cell 1)|(at_builtin;refine zah_ rfl _ _ rfl rfl hO2 rfl hT2 (by omega) ?_;intro v' w4 hO4 hg4))
    go_roundg q
    case measure=>omega
    case rel=>exact⟨k+1,acc++vals,by omega,by go_num,by have:=AG.out;show _=_;omega,by show _≤_;rw[List.length_append];omega,⟨Own.bel hB2 hO2 hg4,hO4⟩,AS'.out⟩
  ·obtain rfl:k=attrs.length:=by omega
   have AS2:Aside (R=acc):=by have:=AS.out;rw[List.drop_length] at this;exact this.symm
   clear AS
   go_wp2_with fail
   go_ret
   rw[AS2.out]
   exact⟨_,rfl,AB.out.2,AB.out.1⟩
end Go.Proofs.YtbekpphodbekiaaGreatDoor
