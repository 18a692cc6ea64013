import Derived.Test.YtbekpphodbekiaaGreatDoorV0v
import Derived.RegionTactic
import Derived.ChangeAlike
import Derived.BigRegion
set_option linter.all false
set_option maxHeartbeats 8000000
set_option maxRecDepth 100000
namespace Go.Proofs.YtbekpphodbekiaaGreatDoor
open Go.RowKit
theorem z99_ {w W:World} {p:Nat} {r:LU} {v:Value} {qs:List qd_} {f:Fil.FilE} {A:Option Addr} {n c:Nat} {tmps:Array Value} {z0 z1 z2 z3 z4 z5 z6:Value} (hL:ItL w p W r v qs) (hk:Bk W w.heap.size 45 #[z0,z1,z2,z3,z4,z5,z6]) (hT:TxT W (.slice A n c) f.any) (hA:∀ k,(Value.slice A n c).ownBlock=some k→w.heap.size≤k)
  (t2:tmps[2]?=some (.pointer (some ⟨w.heap.size,0,none⟩))):
  bodyPost Tryz.prog Tryz.f53 (zb4_ w p v qs (some (f,r))) .ret {tmps:=tmps,defers:=[]} (((((((W.setCell ⟨w.heap.size,0,none⟩ (.int .i64 f.op)).setCell ⟨w.heap.size,1,none⟩ (.int .i64 f.n)).setCell ⟨w.heap.size,2,none⟩ (.string ⟨f.typ.toArray⟩)).setCell ⟨w.heap.size,3,none⟩ (.string ⟨f.val.toArray⟩)).setCell ⟨w.heap.size,4,none⟩ (.string ⟨f.ini.toArray⟩)).setCell ⟨w.heap.size,5,none⟩ (.string ⟨f.fin.toArray⟩)).setCell ⟨w.heap.size,6,none⟩ (.slice A n c)).drew:=by
 have hd:Bel W W.drew:=(bR _ _).drew
 have:=z82_ (tmps:=tmps) (hL.below hd) (hk.below hd) (hT.below hd) hA t2
 simp only[World.setCell_drew] at this
 exact this
def zb3_ (t r:LU):List Int→Option (Fil.FilE × LU)
 |[]=>match r with
  |61::r'=>Fil.restF t r'
  |_=>none
 |o::os=>if r.take 2=Fil.signF o then Fil.oneF o t (r.drop 2) else zb3_ t r os
theorem z2y_ (s:LU):Fil.itemF s=zb3_ (Fil.typF s) (s.drop (Fil.typF s).length) [5,6,8]:=rfl
theorem zkn_ (t r:LU):zb3_ t r []=match xn_ 61 r with
  |some r'=>Fil.restF t r'
  |none=>none:=by
 cases r with
 |nil=>rfl
 |cons x u=>
  by_cases h:x=61
  ·subst h;rfl
  ·have h1:xn_ 61 (x::u)=none:=if_neg h
   rw[h1]
   unfold zb3_
   split
   ·next e=>cases e;exact absurd rfl h
   ·rfl
theorem z3a_ {c:UInt8} {r r':LU} (h:xn_ c r=some r'):r'.length+1=r.length:=by
 cases r with
 |nil=>cases h
 |cons x u=>
  by_cases hx:x=c
  ·have h1:xn_ c (x::u)=some u:=if_pos hx
   rw[h1] at h
   cases h;rfl
  ·have h1:xn_ c (x::u)=none:=if_neg hx
   rw[h1] at h
   cases h
theorem zmm_ (r:LU):Lib.hasPrefix r [42,41]=decide (r.take 2=[42,41]):=by
 rw[← Lib.hasPrefix_of_take,Bool.eq_iff_iff]
 simp only[Bool.and_eq_true,decide_eq_true_eq,beq_iff_eq]
 refine⟨fun h=>h.2,fun h=>⟨?_,h⟩⟩
 have:=congrArg List.length h
 rw[List.length_take] at this
 simp only[List.length_cons,List.length_nil] at this ⊢
 omega
theorem zqq_ (k:Nat) (hk:k<3):∃ o:Int,(o=5∨o=6∨o=8)∧(∀ W:World,(Instr.index 34 (.agg #[.int .i64 5,.int .i64 6,.int .i64 8]) (.int .i64 (k:Int))).run Tryz.prog W= .ok (.int .i64 o) W)∧([5,6,8]:List Int).drop k=o::([5,6,8]:List Int).drop (k+1):=by
 match k,hk with
 |0,_=>exact⟨5,.inl rfl,fun W=>by kernel_rfl,rfl⟩
 |1,_=>exact⟨6,.inr (.inl rfl),fun W=>by kernel_rfl,rfl⟩
 |2,_=>exact⟨8,.inr (.inr rfl),fun W=>by kernel_rfl,rfl⟩
theorem zne_ {o:Int} (ho:o=5∨o=6∨o=8) (r:LU):Lib.hasPrefix r (Fil.signF o)=decide (r.take 2=Fil.signF o)∧Lib.trimPrefix r (Fil.signF o)=if r.take 2=Fil.signF o then r.drop 2 else r:=by
 have hl:(Fil.signF o).length=2:=by rcases ho with rfl|rfl|rfl<;>rfl
 have h1:Lib.hasPrefix r (Fil.signF o)=decide (r.take 2=Fil.signF o):=by
  rw[← Lib.hasPrefix_of_take,hl,Bool.eq_iff_iff]
  simp only[Bool.and_eq_true,decide_eq_true_eq,beq_iff_eq]
  refine⟨fun h=>h.2,fun h=>⟨?_,h⟩⟩
  have:=congrArg List.length h
  rw[List.length_take,hl] at this
  omega
 refine⟨h1,?_⟩
 unfold Lib.trimPrefix
 rw[h1,hl]
 by_cases h:r.take 2=Fil.signF o
 ·rw[if_pos h,if_pos (by simpa using h)]
 ·rw[if_neg h,if_neg (by simpa using h)]
structure ItJ (w:World) (p b:Nat) (wr:World) (r t:LU) (v:Value) (qs:List qd_):Prop where
 l:ItL w p wr r v qs
 k2:Bk wr w.heap.size 45 #[.int .i64 0,.int .i64 0,.string ⟨#[]⟩,.string ⟨#[]⟩,.string ⟨#[]⟩,.string ⟨#[]⟩,.slice none 0 0]
 k3:Bk wr b 45 #[.int .i64 3,.int .i64 0,.string ⟨t.toArray⟩,.string ⟨#[]⟩,.string ⟨#[]⟩,.string ⟨#[]⟩,.slice none 0 0]
 lt:w.heap.size<b
theorem ItJ.below {w:World} {p b:Nat} {wr wn:World} {r t:LU} {v:Value} {qs:List qd_} (h:ItJ w p b wr r t v qs) (hb:Bel wr wn):ItJ w p b wn r t v qs:=⟨h.l.below hb,h.k2.below hb,h.k3.below hb,h.lt⟩
theorem ItJ.next {w:World} {p b:Nat} {wr:World} {r t:LU} {v:Value} {qs:List qd_} (h:ItJ w p b wr r t v qs) (r':LU):ItJ w p b (wr.setCell ⟨p,0,none⟩ (.string ⟨r'.toArray⟩)) r' t v qs:=
 ⟨h.l.next r',vg_ h.k2 (by have:=h.l.plt;omega),vg_ h.k3 (by have:=h.l.plt;have:=h.lt;omega),h.lt⟩
theorem ItJ.call {N:Nat} {w:World} {p b:Nat} {wr wn:World} {r r' t:LU} {v:Value} {qs:List qd_} (h:ItJ w p b wr r t v qs) (hg:wr.grownBy wn (some p)) (hR:RdF N p wn r' v qs):ItJ w p b wn r' t v qs:=
 ⟨h.l.call hg hR,h.k2.grown hg (fun e=>by have:=h.l.plt;cases e;omega),h.k3.grown hg (fun e=>by have:=h.l.plt;have:=h.lt;cases e;omega),h.lt⟩
theorem zfs_ {t e:TypeId} {sz:Nat} (ht:Tryz.prog.underlying t=some (.slice e)) (hs:∀ w,(sizeOf e).run Tryz.prog w= .ok sz w) (b o n c lo hi:Nat) (hl:lo≤hi) (hn:hi≤c):
  ∃ B:Addr,(lo<c→B=⟨b,o+lo * sz,none⟩)∧∀ w,(Instr.slice t (.slice (some ⟨b,o,none⟩) n c) (some (.int .i64 (lo:Int))) (some (.int .i64 (hi:Int))) none).run Tryz.prog w= .ok (.slice (some B) (hi - lo) (c - lo)) w:=by
 have h1:∀ w,(Instr.sliceBounds true n c (some (.int .i64 lo)) (some (.int .i64 hi)) none).run Tryz.prog w= .ok (lo,hi,c) w:=fun w=>by
  simp [Instr.sliceBounds,run_sliceBound,hn,hl]
 have ha:(⟨b,o,none⟩:Addr).add (lo * sz)=⟨b,o+lo * sz,none⟩:=jl_ _ _ _
 by_cases hjc:lo<c
 ·refine⟨⟨b,o+lo * sz,none⟩,fun _=>rfl,fun w=>?_⟩
  unfold Instr.slice
  simp only[Sem.run_bind,run_underlying ht,Result.andThen_ok,h1,hs,Sem.run_pure]
  simp [ha]
  intro e
  omega
 ·refine⟨⟨b,o,none⟩,fun h=>absurd h hjc,fun w=>?_⟩
  unfold Instr.slice
  simp only[Sem.run_bind,run_underlying ht,Result.andThen_ok,h1,hs,Sem.run_pure]
  simp [ha]
  intro e
  omega
theorem z2w_:∀ (n:Nat) (s b:LU) (o l:LL) (r:LU),s.length≤n→Fil.valF s b o=some (l,r)→l.length≤o.length+s.length+1
 |n,[],b,o,l,r,_,h=>by rw[Fil.valF.eq_def] at h;simp at h;obtain⟨rfl,rfl⟩:=h;simp
 |0,x::t,b,o,l,r,hn,h=>by simp at hn
 |n+1,x::t,b,o,l,r,hn,h=>by
  simp only[List.length_cons] at hn ⊢
  rw[Fil.valF_cons] at h
  by_cases h41:x=41
  ·rw[if_pos h41] at h;simp at h;obtain⟨rfl,rfl⟩:=h;simp
  rw[if_neg h41] at h
  by_cases h92:x=92
  ·rw[if_pos h92] at h
   match t,h with
   |[],h=>cases h
   |[a],h=>cases h
   |a::q::t',h=>
    simp only at h
    cases hu:zz_ [a,q] with
    |none=>rw[hu] at h;cases h
    |some y=>
     rw[hu] at h
     simp only[List.length_cons] at hn ⊢
     have:=z2w_ n t' _ _ _ _ (by omega) h
     omega
  rw[if_neg h92] at h
  by_cases h40:x=40∨x=0
  ·rw[if_pos h40] at h;cases h
  rw[if_neg h40] at h
  by_cases h42:x=42
  ·rw[if_pos h42] at h
   have:=z2w_ n t _ _ _ _ (by omega) h
   rw[List.length_append,List.length_singleton] at this
   omega
  ·rw[if_neg h42] at h
   have:=z2w_ n t _ _ _ _ (by omega) h
   omega
theorem zhe_:∀ (x:LU) (l:LL) (h:l.length<(x::l).length),(x::l)[l.length]=l.getLastD x
 |x,[],_=>rfl
 |x,y::l,h=>by
  simp only[List.length_cons,List.getElem_cons_succ]
  rw[zhe_ y l (by simp)]
  cases l<;>rfl
theorem zql_ {B:Nat} {w:World} {g n c:Nat} {x y:LU} {l:LL} (h:Own B w (.slice (some ⟨g,0,none⟩) n c) (x::y::l)) (hn:n=l.length+1+1) (hc:n≤c) (hx:∀ j (hj:j<(y::l).length+1),w.cell? ⟨g,j,none⟩=some (.string ⟨((x::y::l)[j]'(by simpa using hj)).toArray⟩)):TxT w (.slice (some ⟨g,1,none⟩) ((y::l).length - 1) (c - 1)) (y::l).dropLast:=by
 refine⟨.inr ⟨⟨g,1,none⟩,c - 1,by rw[List.length_dropLast],by rw[List.length_dropLast];simp only[List.length_cons];omega,fun j hj=>?_⟩,fun k hk=>?_⟩
 ·rw[List.length_dropLast] at hj
  simp only[List.length_cons] at hj
  have h1:=hx (j+1) (by simp only[List.length_cons];omega)
  rw[jl_,List.getElem_dropLast]
  simp only[List.getElem_cons_succ,Nat.mul_one] at h1 ⊢
  rw[Nat.add_comm 1 j]
  exact h1
 ·cases hk
  exact h.ty rfl
theorem z1_ {w:World} {p i b o:Nat} {v u:Value} (h:w.cell? ⟨b,o,none⟩=some u) (hne:b≠p):(w.setCell ⟨p,i,none⟩ v).cell? ⟨b,o,none⟩=some u:=by
 rw[show (w.setCell ⟨p,i,none⟩ v).cell? ⟨b,o,none⟩=w.cell? ⟨b,o,none⟩ from World.cell?_of_block (Below.heap_setCell _ _ _ _ (fun e=>hne e))]
 exact h
theorem z6x_ {B:Nat} {w:World} {v:Value} {x:LU} {xs:LL} (h:Own B w v (x::xs)):∃ g c,v= .slice (some ⟨g,0,none⟩) (xs.length+1) c∧xs.length+1≤c∧B≤g∧∀ j (hj:j<xs.length+1),w.cell? ⟨g,j,none⟩=some (.string ⟨((x::xs)[j]'(by simpa using hj)).toArray⟩):=by
 have hT:=h.textsA
 obtain⟨⟨h1,h2⟩,h3⟩:=h
 rcases h2 with ⟨rfl,hn⟩|⟨g,cap,cur,rfl,r2,r3,r4,r5,r6,r7⟩
 ·simp at hn
 ·simp only[List.length_cons] at r4
  refine⟨g,cap,rfl,r4,r2,fun j hj=>?_⟩
  rcases hT with ⟨h0,_⟩|⟨a,c',he,_,hx⟩
  ·cases h0
  ·cases he
   have:=hx j (by simpa using hj)
   rw[jl_,Nat.zero_add] at this
   simpa using this
theorem zqn_ (N p:Nat) (s:LU) (v:Value) (qs:List qd_) (w:World) (h:RdF N p w s v qs) (hs:s.length≤1000000):
  Calls Tryz.prog 53 #[.pointer (some ⟨p,0,none⟩)] w (zb4_ w p v qs (Fil.itemF s)):=by
 obtain⟨R,hR⟩:∃ R,Fil.itemF s=R:=⟨_,rfl⟩
 rw[hR]
 rw[z2y_] at hR
 have hget:=qe_
 have hL0:=ItL.begin h
 have hb0:=ze_ w (.cells #[.int .i64 0,.int .i64 0,.string ⟨#[]⟩,.string ⟨#[]⟩,.string ⟨#[]⟩,.string ⟨#[]⟩,.slice none 0 0] 45)
 have hL1:=hL0.below hb0
 have hk0:=Bk.new w 45 #[.int .i64 0,.int .i64 0,.string ⟨#[]⟩,.string ⟨#[]⟩,.string ⟨#[]⟩,.string ⟨#[]⟩,.slice none 0 0]
 have hT0:=fTyp_c w.heap.size p s v qs _ hL1.rd hs
 have hrl:(s.drop (Fil.typF s).length).length≤1000000:=by rw[List.length_drop];omega
 generalize Fil.typF s=t at *
 generalize s.drop t.length=r at *
 have HT:=hiD hT0
 have HR:=hiD hR
 clear h hR hL0 hT0 hb0
 go_enter Tryz.func53,Tryz.ntmps53
 go_wp2_with (go_at_call 102;(with_reducible refine HT.out.mono ?_);rintro e w1 ⟨rfl,hR1,hg1⟩)
 have hlt:=hL1.plt
 have HJ0:Hid (ItJ w p w1.heap.size (w1.alloc (.cells #[.int .i64 3,.int .i64 0,.string ⟨t.toArray⟩,.string ⟨#[]⟩,.string ⟨#[]⟩,.string ⟨#[]⟩,.slice none 0 0] 45)) r t v qs):=by
  have hb1:=ze_ w1 (.cells #[.int .i64 3,.int .i64 0,.string ⟨t.toArray⟩,.string ⟨#[]⟩,.string ⟨#[]⟩,.string ⟨#[]⟩,.slice none 0 0] 45)
  have hk1:=hk0.grown hg1 (fun e=>by cases e;omega)
  exact⟨(hL1.call hg1 hR1).below hb1,hk1.below hb1,Bk.new w1 _ _,hk1.lt⟩
 generalize w1.alloc (.cells #[.int .i64 3,.int .i64 0,.string ⟨t.toArray⟩,.string ⟨#[]⟩,.string ⟨#[]⟩,.string ⟨#[]⟩,.slice none 0 0] 45)=W1 at *
 generalize w1.heap.size=b at *
 clear hR1 hg1 hL1 hk0 HT
 go_loopg [15] 3 (fun gk i wr=>∃ k:Nat,k≤3∧i= .int .i64 (k:Int)∧Aside (k+gk=3)∧Aside (zb3_ t r (([5,6,8]:List Int).drop k)=R)∧Aside (ItJ w p b wr r t v qs))
 case atStart=>exact⟨0,by omega,rfl,by show _=_;omega,HR.out,HJ0.out⟩
 case round=>
  clear HJ0 HR
  obtain⟨k,hk,rfl,AG,AS,AJ⟩:=hrel
  obtain⟨c0,c1,f0,f1⟩:=AJ.out.l.rd.cells
  have hb2b:w.heap.size≠b:=by have:=AJ.out.lt;omega
  by_cases hlt3:k<3
  ·obtain⟨q,rfl⟩:∃ q,gk=q+1:=⟨gk - 1,by have:=AG.out;omega⟩
   obtain⟨o,ho,hidx,hdr⟩:=zqq_ k hlt3
   have hki:(k:Int)<3:=by omega
   have AS2:Aside ((if r.take 2=Fil.signF o then Fil.oneF o t (r.drop 2) else zb3_ t r (([5,6,8]:List Int).drop (k+1)))=R):=by
    have:=AS.out
    rw[hdr] at this
    exact this
   obtain⟨hp1,hp2⟩:=zne_ ho r
   have HSG:=hiD (fun W=>zha_ o W)
   have hC:∀ W:World,Calls Tryz.prog 103 #[.string ⟨r.toArray⟩,.string ⟨(Fil.signF o).toArray⟩] W fun e w'=>e= .returned (.tuple #[.string ⟨(Lib.trimPrefix r (Fil.signF o)).toArray⟩,.bool (Lib.hasPrefix r (Fil.signF o))])∧W=w':=
    fun W=>(Tryz.strings_CutPrefix ⟨r.toArray⟩ ⟨(Fil.signF o).toArray⟩ W).mono fun _ _ h=>⟨h.1,h.2.symm⟩
   by_cases htk:r.take 2=Fil.signF o
   ·rw[if_pos htk] at hp2 AS2
    rw[htk,decide_eq_true rfl] at hp1
    rw[hp1,hp2] at hC
    have HC:=hiD hC
    have hr2l:(r.drop 2).length≤1000000:=by rw[List.length_drop];omega
    have HV:Hid (∀ W,RdF w.heap.size p W (r.drop 2) v qs→Calls Tryz.prog 105 #[.pointer (some ⟨p,0,none⟩)] W fun e w'=>W.grownBy w' (some p)∧match Fil.valF (r.drop 2) [] [] with
     |some (l,r)=>∃ vo,e= .returned vo∧Own W.heap.size w' vo l∧RdF W.heap.size p w' r v qs
     |none=>e= .panicked qk_):=hiD fun W hW=>ze6_ w.heap.size p (r.drop 2) v qs W hW hr2l
    clear hC hp1 hp2 AS hdr htk
    unfold Fil.oneF at AS2
    have hvn:=fun l r2=>kp_ (r.drop 2).length (r.drop 2) [] [] l r2 (nR _)
    generalize r.drop 2=r' at *
    go_wp2_with fail
    go_quiet (first|(go_at_call 104;exact jt_ (HSG.out _))|(go_at_call 103;exact jt_ (HC.out _)))
    have hJn:=AJ.out.below (zr_ (bR wr.heap.size wr) nq)
    have HJ2:=hiD (hJn.next r')
    clear hJn
    cases hv:Fil.valF r' [] [] with
    |none=>
     rw[hv] at AS2 HV
     have hfin:R=none:=AS2.out.symm
     subst hfin
     go_wp2_with (go_at_call 105;(refine(HV.out _ (by exact HJ2.out.l.rd)).mono ?_);rintro e w3 ⟨hg3,rfl⟩)
     refine⟨rfl,?_⟩
     exact⟨gT HJ2.out.l.bel hg3,rfl⟩
    |some lr=>
     obtain⟨l,r2⟩:=lr
     rw[hv] at AS2 HV
     have hne:=(hvn l r2 hv).1
     clear hvn hv
     match l,hne,AS2,HV with
     |[],hne,_,_=>exact absurd rfl hne
     |[x],_,AS2,HV=>
      have hfin:R=some (⟨o,0,t,x,[],[],[]⟩,r2):=AS2.out.symm
      subst hfin
      go_wp2_with (go_at_call 105;(refine(HV.out _ (by exact HJ2.out.l.rd)).mono ?_);rintro e w3 ⟨hg3,vo,rfl,hO3,hR3⟩;have HJ3:=hiD (HJ2.out.call hg3 hR3);obtain⟨g3,n3,rfl,hn3,hgB3,hx3⟩:=z6x_ hO3;simp only[List.length_nil,Nat.zero_add] at hn3 hx3 ⊢;have q0:=hx3 0 (by omega);simp only[List.getElem_cons_zero] at q0;have e0:=HJ3.out.k3.cell 0;have e1:=HJ3.out.k3.cell 1;have e2:=HJ3.out.k3.cell 2;have e3:=HJ3.out.k3.cell 3;have e4:=HJ3.out.k3.cell 4;have e5:=HJ3.out.k3.cell 5;have e6:=HJ3.out.k3.cell 6;have r0:=HJ3.out.k2.cell 0;have r1:=HJ3.out.k2.cell 1;have r2c:=HJ3.out.k2.cell 2;have r3:=HJ3.out.k2.cell 3;have r4:=HJ3.out.k2.cell 4;have r5:=HJ3.out.k2.cell 5;have r6:=HJ3.out.k2.cell 6;simp only[gs3] at e0 e1 e2 e3 e4 e5 e6 r0 r1 r2c r3 r4 r5 r6;have of:=fun i=>HJ3.out.k3.frozen i;have og:=fun i=>HJ3.out.k2.frozen i)
      have hgb:g3≠b:=by have:=HJ2.out.k3.lt;have:=hgB3;intro e;subst e;exact absurd this (by omega)
      have q1:=fun (i:Nat) (u:Value)=>z1_ (i:=i) (v:=u) q0 hgb
      have s0:=fun (i j:Nat) (u y:Value)=>z1_ (i:=j) (v:=y) (z1_ (i:=i) (v:=u) r0 hb2b) hb2b
      have s1:=fun (i j:Nat) (u y:Value)=>z1_ (i:=j) (v:=y) (z1_ (i:=i) (v:=u) r1 hb2b) hb2b
      have s2:=fun (i j:Nat) (u y:Value)=>z1_ (i:=j) (v:=y) (z1_ (i:=i) (v:=u) r2c hb2b) hb2b
      have s3:=fun (i j:Nat) (u y:Value)=>z1_ (i:=j) (v:=y) (z1_ (i:=i) (v:=u) r3 hb2b) hb2b
      have s4:=fun (i j:Nat) (u y:Value)=>z1_ (i:=j) (v:=y) (z1_ (i:=i) (v:=u) r4 hb2b) hb2b
      have s5:=fun (i j:Nat) (u y:Value)=>z1_ (i:=j) (v:=y) (z1_ (i:=i) (v:=u) r5 hb2b) hb2b
      have s6:=fun (i j:Nat) (u y:Value)=>z1_ (i:=j) (v:=y) (z1_ (i:=i) (v:=u) r6 hb2b) hb2b
      clear hg3 hO3 hR3 hx3 HV HC HSG
      go_region
      all_goals go_wp2_with fail
      have hl:=(HJ3.out.l.set (Nat.le_of_lt HJ3.out.lt) 0 (.int .i64 o)).set (Nat.le_of_lt HJ3.out.lt) 3 (.string ⟨x.toArray⟩)
      have hz:=vg_ (i:=3) (u:= .string ⟨x.toArray⟩) (vg_ (i:=0) (u:= .int .i64 o) HJ3.out.k2 hb2b) hb2b
      exact z99_ (f:=⟨o,0,t,x,[],[],[]⟩) (A:=none) (n:=0) (c:=0) (r:=r2) hl hz (TxT.nil _) (fun k hk=>by cases hk) rfl
     |x::y::l',_,AS2,HV=>
      have hfin:R=none:=AS2.out.symm
      subst hfin
      go_wp2_with (go_at_call 105;(refine(HV.out _ (by exact HJ2.out.l.rd)).mono ?_);rintro e w3 ⟨hg3,vo,rfl,hO3,hR3⟩;obtain⟨A3,n3,rfl,hn3⟩:=hO3.isSlice;have hgt:(1:Int)<((x::y::l').length:Int):=by simp only[List.length_cons];omega)
      refine⟨rfl,?_⟩
      exact⟨gT HJ2.out.l.bel hg3,rfl⟩
   ·rw[if_neg htk] at hp2 AS2
    rw[decide_eq_false htk] at hp1
    rw[hp1,hp2] at hC
    have HC:=hiD hC
    clear hC hp1 hp2 AS hdr
    go_wp2_with fail
    go_quiet (first|(go_at_call 104;exact jt_ (HSG.out _))|(go_at_call 103;exact jt_ (HC.out _)))
    go_wp2_with fail
    go_roundg q
    case measure=>omega
    case rel=>exact⟨k+1,by omega,by go_num,by have:=AG.out;show _=_;omega,AS2.out,AJ.out.below (zr_ (bR wr.heap.size wr) nq)⟩
  ·obtain rfl:k=3:=by omega
   have AS2:=AS.out
   rw[show (([5,6,8]:List Int).drop 3)=[] from rfl,zkn_] at AS2
   have HTk:Hid (∀ W,RdF w.heap.size p W r v qs→Calls Tryz.prog 51 #[.pointer (some ⟨p,0,none⟩),.int .u8 61] W fun e w'=>W.grownBy w' (some p)∧match xn_ 61 r with
    |some t=>e= .returned (.tuple #[])∧RdF w.heap.size p w' t v qs
    |none=>e= .panicked qk_):=hiD fun W hW=>z5x_ w.heap.size p 61 r v qs W hW
   clear AS
   cases htk:xn_ 61 r with
   |none=>
    rw[htk] at AS2 HTk
    have hfin:R=none:=AS2.symm
    subst hfin
    clear AS2
    go_wp2_with (go_at_call 51;(refine(HTk.out _ (by exact AJ.out.l.rd)).mono ?_);rintro e w2 ⟨hg2,rfl⟩)
    refine⟨rfl,?_⟩
    exact⟨gT AJ.out.l.bel hg2,rfl⟩
   |some r'=>
    rw[htk] at AS2 HTk
    simp only at AS2
    have hr':=z3a_ htk
    clear htk
    have hP:∀ W:World,Calls Tryz.prog 54 #[.string ⟨r'.toArray⟩,.string ⟨#[42,41]⟩] W fun e w'=>e= .returned (.bool (Lib.hasPrefix r' [42,41]))∧W=w':=
     fun W=>(Tryz.strings_HasPrefix ⟨r'.toArray⟩ ⟨#[42,41]⟩ W).mono fun _ _ h=>⟨h.1,h.2.symm⟩
    rw[zmm_] at hP
    have hr2l:r'.length≤1000000:=by omega
    have HV:Hid (∀ W,RdF w.heap.size p W r' v qs→Calls Tryz.prog 105 #[.pointer (some ⟨p,0,none⟩)] W fun e w'=>W.grownBy w' (some p)∧match Fil.valF r' [] [] with
     |some (l,r)=>∃ vo,e= .returned vo∧Own W.heap.size w' vo l∧RdF W.heap.size p w' r v qs
     |none=>e= .panicked qk_):=hiD fun W hW=>ze6_ w.heap.size p r' v qs W hW hr2l
    unfold Fil.restF at AS2
    have hvn:=fun l r2=>kp_ r'.length r' [] [] l r2 (nR _)
    have HP:=hiD hP
    clear hP
    cases hv:Fil.valF r' [] [] with
    |none=>
     rw[hv] at AS2 HV
     have hfin:R=none:=AS2.symm
     subst hfin
     clear AS2
     go_wp2_with (first
      |(go_at_call 51;(refine(HTk.out _ (by exact AJ.out.l.rd)).mono ?_);rintro e w2 ⟨hg2,rfl,hR2⟩;have HJ2:=hiD (AJ.out.call hg2 hR2);obtain⟨d0,d1,g0,g1⟩:=HJ2.out.l.rd.cells)
      |(go_at_call 54;(with_reducible refine(HP.out _).mono ?_);rintro e w5 ⟨rfl,rfl⟩)
      |(go_at_call 105;(refine(HV.out _ (by exact HJ2.out.l.rd)).mono ?_);rintro e w3 ⟨hg3,rfl⟩))
     refine⟨rfl,?_⟩
     exact⟨gT HJ2.out.l.bel hg3,rfl⟩
    |some lr=>
     obtain⟨l,r2⟩:=lr
     rw[hv] at AS2 HV
     simp only at AS2
     have hne:=(hvn l r2 hv).1
     have HNUM:=hiD (z2w_ _ _ _ _ _ _ (nR _) hv)
     clear hvn hv
     obtain⟨x,l',rfl⟩:∃ x l',l=x::l':=by
      cases l with
      |nil=>exact absurd rfl hne
      |cons x l'=>exact⟨x,l',rfl⟩
     clear hne
     by_cases hst:r'.take 2=[42,41]
     ·rw[if_pos hst] at AS2
      rw[decide_eq_true hst] at HP
      have hfin:=AS2.symm
      subst hfin
      clear AS2
      go_wp2_with (first
       |(go_at_call 51;(refine(HTk.out _ (by exact AJ.out.l.rd)).mono ?_);rintro e w2 ⟨hg2,rfl,hR2⟩;have HJ2:=hiD (AJ.out.call hg2 hR2);obtain⟨d0,d1,g0,g1⟩:=HJ2.out.l.rd.cells)
       |(go_at_call 54;(with_reducible refine(HP.out _).mono ?_);rintro e w5 ⟨rfl,rfl⟩)
       |(go_at_call 105;(refine(HV.out _ (by exact HJ2.out.l.rd)).mono ?_);rintro e w3 ⟨hg3,vo,rfl,hO3,hR3⟩;have HJ3:=hiD (HJ2.out.call hg3 hR3);obtain⟨g3,n3,rfl,hn3,hgB3,hx3⟩:=z6x_ hO3;have q0:=hx3 0 (by omega);simp only[List.getElem_cons_zero] at q0;have e0:=HJ3.out.k3.cell 0;have e1:=HJ3.out.k3.cell 1;have e2:=HJ3.out.k3.cell 2;have e3:=HJ3.out.k3.cell 3;have e4:=HJ3.out.k3.cell 4;have e5:=HJ3.out.k3.cell 5;have e6:=HJ3.out.k3.cell 6;have r0:=HJ3.out.k2.cell 0;have r1:=HJ3.out.k2.cell 1;have r2c:=HJ3.out.k2.cell 2;have r3:=HJ3.out.k2.cell 3;have r4:=HJ3.out.k2.cell 4;have r5:=HJ3.out.k2.cell 5;have r6:=HJ3.out.k2.cell 6;simp only[gs3] at e0 e1 e2 e3 e4 e5 e6 r0 r1 r2c r3 r4 r5 r6;have of:=fun i=>HJ3.out.k3.frozen i;have og:=fun i=>HJ3.out.k2.frozen i;have s0:=fun (i:Nat) (u:Value)=>z1_ (i:=i) (v:=u) r0 hb2b;have s1:=fun (i:Nat) (u:Value)=>z1_ (i:=i) (v:=u) r1 hb2b;have s2:=fun (i:Nat) (u:Value)=>z1_ (i:=i) (v:=u) r2c hb2b;have s3:=fun (i:Nat) (u:Value)=>z1_ (i:=i) (v:=u) r3 hb2b;have s4:=fun (i:Nat) (u:Value)=>z1_ (i:=i) (v:=u) r4 hb2b;have s5:=fun (i:Nat) (u:Value)=>z1_ (i:=i) (v:=u) r5 hb2b;have s6:=fun (i:Nat) (u:Value)=>z1_ (i:=i) (v:=u) r6 hb2b))
      have hl:=HJ3.out.l.set (Nat.le_of_lt HJ3.out.lt) 0 (.int .i64 7)
      have hz:=vg_ (i:=0) (u:= .int .i64 7) HJ3.out.k2 hb2b
      exact z82_ (f:=⟨7,0,t,[],[],[],[]⟩) (A:=none) (n:=0) (c:=0) (r:=r2) hl hz (TxT.nil _) (fun k hk=>by cases hk) rfl
     ·rw[if_neg hst] at AS2
      rw[decide_eq_false hst] at HP
      cases l' with
      |nil=>
       have hfin:R=some (⟨3,0,t,x,[],[],[]⟩,r2):=AS2.symm
       subst hfin
       clear AS2
       go_wp2_with (first
       |(go_at_call 51;(refine(HTk.out _ (by exact AJ.out.l.rd)).mono ?_);rintro e w2 ⟨hg2,rfl,hR2⟩;have HJ2:=hiD (AJ.out.call hg2 hR2);obtain⟨d0,d1,g0,g1⟩:=HJ2.out.l.rd.cells)
       |(go_at_call 54;(with_reducible refine(HP.out _).mono ?_);rintro e w5 ⟨rfl,rfl⟩)
       |(go_at_call 105;(refine(HV.out _ (by exact HJ2.out.l.rd)).mono ?_);rintro e w3 ⟨hg3,vo,rfl,hO3,hR3⟩;have HJ3:=hiD (HJ2.out.call hg3 hR3);obtain⟨g3,n3,rfl,hn3,hgB3,hx3⟩:=z6x_ hO3;simp only[List.length_nil,Nat.zero_add] at hn3 hx3 ⊢;have q0:=hx3 0 (by omega);simp only[List.getElem_cons_zero] at q0;have e0:=HJ3.out.k3.cell 0;have e1:=HJ3.out.k3.cell 1;have e2:=HJ3.out.k3.cell 2;have e3:=HJ3.out.k3.cell 3;have e4:=HJ3.out.k3.cell 4;have e5:=HJ3.out.k3.cell 5;have e6:=HJ3.out.k3.cell 6;have r0:=HJ3.out.k2.cell 0;have r1:=HJ3.out.k2.cell 1;have r2c:=HJ3.out.k2.cell 2;have r3:=HJ3.out.k2.cell 3;have r4:=HJ3.out.k2.cell 4;have r5:=HJ3.out.k2.cell 5;have r6:=HJ3.out.k2.cell 6;simp only[gs3] at e0 e1 e2 e3 e4 e5 e6 r0 r1 r2c r3 r4 r5 r6;have of:=fun i=>HJ3.out.k3.frozen i;have og:=fun i=>HJ3.out.k2.frozen i;have s0:=fun (i:Nat) (u:Value)=>z1_ (i:=i) (v:=u) r0 hb2b;have s1:=fun (i:Nat) (u:Value)=>z1_ (i:=i) (v:=u) r1 hb2b;have s2:=fun (i:Nat) (u:Value)=>z1_ (i:=i) (v:=u) r2c hb2b;have s3:=fun (i:Nat) (u:Value)=>z1_ (i:=i) (v:=u) r3 hb2b;have s4:=fun (i:Nat) (u:Value)=>z1_ (i:=i) (v:=u) r4 hb2b;have s5:=fun (i:Nat) (u:Value)=>z1_ (i:=i) (v:=u) r5 hb2b;have s6:=fun (i:Nat) (u:Value)=>z1_ (i:=i) (v:=u) r6 hb2b))
       have hl:=HJ3.out.l.set (Nat.le_of_lt HJ3.out.lt) 3 (.string ⟨x.toArray⟩)
       have hz:=vg_ (i:=3) (u:= .string ⟨x.toArray⟩) HJ3.out.k2 hb2b
       exact z82_ (f:=⟨3,0,t,x,[],[],[]⟩) (A:=none) (n:=0) (c:=0) (r:=r2) hl hz (TxT.nil _) (fun k hk=>by cases hk) rfl
      |cons y l'=>
       have hfin:R=some (⟨4,0,t,[],x,(y::l').getLastD [],(y::l').dropLast⟩,r2):=AS2.symm
       subst hfin
       clear AS2
       go_wp2_with (first
       |(go_at_call 51;(refine(HTk.out _ (by exact AJ.out.l.rd)).mono ?_);rintro e w2 ⟨hg2,rfl,hR2⟩;have HJ2:=hiD (AJ.out.call hg2 hR2);obtain⟨d0,d1,g0,g1⟩:=HJ2.out.l.rd.cells)
       |(go_at_call 54;(with_reducible refine(HP.out _).mono ?_);rintro e w5 ⟨rfl,rfl⟩)
       |(go_at_call 105;(refine(HV.out _ (by exact HJ2.out.l.rd)).mono ?_);rintro e w3 ⟨hg3,vo,rfl,hO3,hR3⟩;have HJ3:=hiD (HJ2.out.call hg3 hR3);obtain⟨g3,n3,rfl,hn3,hgB3,hx3⟩:=z6x_ hO3;skip;have q0:=hx3 0 (by omega);simp only[List.getElem_cons_zero] at q0;have e0:=HJ3.out.k3.cell 0;have e1:=HJ3.out.k3.cell 1;have e2:=HJ3.out.k3.cell 2;have e3:=HJ3.out.k3.cell 3;have e4:=HJ3.out.k3.cell 4;have e5:=HJ3.out.k3.cell 5;have e6:=HJ3.out.k3.cell 6;have r0:=HJ3.out.k2.cell 0;have r1:=HJ3.out.k2.cell 1;have r2c:=HJ3.out.k2.cell 2;have r3:=HJ3.out.k2.cell 3;have r4:=HJ3.out.k2.cell 4;have r5:=HJ3.out.k2.cell 5;have r6:=HJ3.out.k2.cell 6;simp only[gs3] at e0 e1 e2 e3 e4 e5 e6 r0 r1 r2c r3 r4 r5 r6;have of:=fun i=>HJ3.out.k3.frozen i;have og:=fun i=>HJ3.out.k2.frozen i;skip))
       have hgb:g3≠b:=by have:=HJ2.out.k3.lt;have:=hgB3;intro e;subst e;exact absurd this (by omega)
       have hKl:(y::l').length≤1000001:=by have:=HNUM.out;simp only[List.length_cons,List.length_nil] at this ⊢;omega
       have HTm:=hiD (zql_ hO3 (by simp only[List.length_cons]) hn3 hx3)
       have qL:=hx3 (y::l').length (by omega)
       rw[zhe_] at qL
       have HSL:=zfs_ (sz:=1) Tryz.underlying36 (fun w=>by kernel_rfl) g3 0 ((y::l').length+1) n3 1 (y::l').length (by simp only[List.length_cons];omega) (by omega)
       have hK1:1≤(y::l').length:=by simp only[List.length_cons];omega
       have hK2:(y::l').length≤1000001:=hKl
       rw[show (y::l').getLastD x=(y::l').getLastD [] from rfl] at qL
       generalize (y::l').getLastD []=z at *
       generalize (y::l').dropLast=ms at *
       clear hx3 hO3 HNUM hKl
       simp only[List.length_cons] at HSL hK1 hK2 HTm qL hn3 ⊢
       generalize l'.length+1=K at *
       obtain⟨B4,hB4,hsl⟩:=HSL
       have hB5:=hB4 (by omega)
       subst hB5
       clear hB4
       have hsl2:∀ W:World,(Instr.slice 36 (.slice (some ⟨g3,0,none⟩) (K+1) n3) (some (.int .i64 1)) (some (.int .i64 (K:Int))) none).run Tryz.prog W= .ok (.slice (some ⟨g3,1,none⟩) (K - 1) (n3 - 1)) W:=hsl
       clear hsl
       have hwr:IntKind.i64.wrap (((K:Int)+1) - 1)=(K:Int):=by rw[IntWalk.i64_in _ (by omega)];omega
       have hKi:(K:Int)<((K+1:Nat):Int):=by omega
       have hKi2:(K:Int)<(K:Int)+1:=by omega
       have hK0:(0:Int)≤(K:Int):=by omega
       have q0_1:=fun (i:Nat) (u0:Value)=>z1_ (i:=i) (v:=u0) (q0) hgb
       have qL_1:=fun (i:Nat) (u0:Value)=>z1_ (i:=i) (v:=u0) (qL) hgb
       have q0_2:=fun (i j:Nat) (u0 u1:Value)=>z1_ (i:=j) (v:=u1) (z1_ (i:=i) (v:=u0) (q0) hgb) hgb
       have qL_2:=fun (i j:Nat) (u0 u1:Value)=>z1_ (i:=j) (v:=u1) (z1_ (i:=i) (v:=u0) (qL) hgb) hgb
       have q0_3:=fun (i j k:Nat) (u0 u1 u2:Value)=>z1_ (i:=k) (v:=u2) (z1_ (i:=j) (v:=u1) (z1_ (i:=i) (v:=u0) (q0) hgb) hgb) hgb
       have qL_3:=fun (i j k:Nat) (u0 u1 u2:Value)=>z1_ (i:=k) (v:=u2) (z1_ (i:=j) (v:=u1) (z1_ (i:=i) (v:=u0) (qL) hgb) hgb) hgb
       have q0_4:=fun (i j k l:Nat) (u0 u1 u2 u3:Value)=>z1_ (i:=l) (v:=u3) (z1_ (i:=k) (v:=u2) (z1_ (i:=j) (v:=u1) (z1_ (i:=i) (v:=u0) (q0) hgb) hgb) hgb) hgb
       have qL_4:=fun (i j k l:Nat) (u0 u1 u2 u3:Value)=>z1_ (i:=l) (v:=u3) (z1_ (i:=k) (v:=u2) (z1_ (i:=j) (v:=u1) (z1_ (i:=i) (v:=u0) (qL) hgb) hgb) hgb) hgb
       have s0:=fun (i j k l:Nat) (u0 u1 u2 u3:Value)=>z1_ (i:=l) (v:=u3) (z1_ (i:=k) (v:=u2) (z1_ (i:=j) (v:=u1) (z1_ (i:=i) (v:=u0) (r0) hb2b) hb2b) hb2b) hb2b
       have s1:=fun (i j k l:Nat) (u0 u1 u2 u3:Value)=>z1_ (i:=l) (v:=u3) (z1_ (i:=k) (v:=u2) (z1_ (i:=j) (v:=u1) (z1_ (i:=i) (v:=u0) (r1) hb2b) hb2b) hb2b) hb2b
       have s2:=fun (i j k l:Nat) (u0 u1 u2 u3:Value)=>z1_ (i:=l) (v:=u3) (z1_ (i:=k) (v:=u2) (z1_ (i:=j) (v:=u1) (z1_ (i:=i) (v:=u0) (r2c) hb2b) hb2b) hb2b) hb2b
       have s3:=fun (i j k l:Nat) (u0 u1 u2 u3:Value)=>z1_ (i:=l) (v:=u3) (z1_ (i:=k) (v:=u2) (z1_ (i:=j) (v:=u1) (z1_ (i:=i) (v:=u0) (r3) hb2b) hb2b) hb2b) hb2b
       have s4:=fun (i j k l:Nat) (u0 u1 u2 u3:Value)=>z1_ (i:=l) (v:=u3) (z1_ (i:=k) (v:=u2) (z1_ (i:=j) (v:=u1) (z1_ (i:=i) (v:=u0) (r4) hb2b) hb2b) hb2b) hb2b
       have s5:=fun (i j k l:Nat) (u0 u1 u2 u3:Value)=>z1_ (i:=l) (v:=u3) (z1_ (i:=k) (v:=u2) (z1_ (i:=j) (v:=u1) (z1_ (i:=i) (v:=u0) (r5) hb2b) hb2b) hb2b) hb2b
       have s6:=fun (i j k l:Nat) (u0 u1 u2 u3:Value)=>z1_ (i:=l) (v:=u3) (z1_ (i:=k) (v:=u2) (z1_ (i:=j) (v:=u1) (z1_ (i:=i) (v:=u0) (r6) hb2b) hb2b) hb2b) hb2b
       clear hg3 hR3 HV HP HTk
       go_region
       all_goals go_wp2_with fail
       have hle:=Nat.le_of_lt HJ3.out.lt
       have hl:=(((HJ3.out.l.set hle 0 (.int .i64 4)).set hle 4 (.string ⟨x.toArray⟩)).set hle 6 (.slice (some ⟨g3,1,none⟩) (K - 1) (n3 - 1))).set hle 5 (.string ⟨z.toArray⟩)
       have hz:=vg_ (i:=5) (u:= .string ⟨z.toArray⟩) (vg_ (i:=6) (u:= .slice (some ⟨g3,1,none⟩) (K - 1) (n3 - 1)) (vg_ (i:=4) (u:= .string ⟨x.toArray⟩) (vg_ (i:=0) (u:= .int .i64 4) HJ3.out.k2 hb2b) hb2b) hb2b) hb2b
       have kb:=HJ3.out.k3
       have kb0:=kb.set 0 (.int .i64 4)
       have kb4:=kb0.set 4 (.string ⟨x.toArray⟩)
       have kb6:=kb4.set 6 (.slice (some ⟨g3,1,none⟩) (K - 1) (n3 - 1))
       have hT:=(((HTm.out.setF (i:=0) (u:= .int .i64 4) kb).setF (i:=4) (u:= .string ⟨x.toArray⟩) kb0).setF (i:=6) (u:= .slice (some ⟨g3,1,none⟩) (K - 1) (n3 - 1)) kb4).setF (i:=5) (u:= .string ⟨z.toArray⟩) kb6
       have hgw:w.heap.size≤g3:=by have:=HJ2.out.k3.lt;have:=HJ2.out.lt;omega
       exact z99_ (f:=⟨4,0,t,[],x,z,ms⟩) (r:=r2) hl hz hT (fun k hk=>by cases hk;exact hgw) rfl
open Go.RowKit
section
variable {ops:Array Oper} {o:Oper} {a:Act} {K:Act→World→Prop} {Q:Exit→Act→World→Prop} {E:Prop}
theorem y6_ (hgd:o.guard=none) (s x:Operand) (ho:o.op= .call {callee:= .builtin .append,args:=#[s,x],argTypes:=#[23,23]})
  {v va:Value} {qs:List qd_} {B:Nat} {w0:World} {p:Fil.FilE} (hva:va.oneCell'=true) (hs:a.eval s=v) (hb:OwnFl B w0 v qs)
  (hx:a.eval x= .slice (some ⟨w0.heap.size,0,none⟩) 1 1) (hlen:qs.length<1000000)
  (h:∀ v' w',OwnFl B w' v' (qs++[(p,va)])→w0.grownBy w' v.ownBlock→K (a.put o.dst v') w'):
  if Region.wanted o (yielded ops a.tmps)=true then Oper.wp Tryz.prog o a (w0.alloc (.cells #[.int .i64 p.op,.int .i64 p.n,.string ⟨p.typ.toArray⟩,.string ⟨p.val.toArray⟩,.string ⟨p.ini.toArray⟩,.string ⟨p.fin.toArray⟩,va] 45)) K Q else E:=by
 obtain⟨i,h1,h2,h3,h4⟩:=zo5_
 have hb':=hb.keep2 (World.grownBy_alloc w0 (.cells #[.int .i64 p.op,.int .i64 p.n,.string ⟨p.typ.toArray⟩,.string ⟨p.val.toArray⟩,.string ⟨p.ini.toArray⟩,.string ⟨p.fin.toArray⟩,va] 45) none) (fun k _ he=>by cases he)
 refine jk_ hgd s x 23 ho B 45 i _ 7 104 Tryz.underlying23 h1 h2 h3 h4 rfl (by decide) v _ _ hs hb'.1 ⟨w0.heap.size,0,none⟩ 1 1 (z5_ (p,va)) hx rfl ?_ ?_ (by unfold maxLen;omega) (by omega) hb'.2 ?_
 ·intro j u hj
  match j,hj with
  |0,hj=>simp [z5_] at hj;subst hj;simp [Addr.add]
  |1,hj=>simp [z5_] at hj;subst hj;simp [Addr.add]
  |2,hj=>simp [z5_] at hj;subst hj;simp [Addr.add]
  |3,hj=>simp [z5_] at hj;subst hj;simp [Addr.add]
  |4,hj=>simp [z5_] at hj;subst hj;simp [Addr.add]
  |5,hj=>simp [z5_] at hj;subst hj;simp [Addr.add]
  |6,hj=>simp [z5_] at hj;subst hj;simp [Addr.add]
  |(j+7),hj=>simp [z5_] at hj
 ·intro u hu;simp [z5_] at hu;rcases hu with rfl|rfl|rfl|rfl|rfl|rfl|rfl<;>first|rfl|exact hva
 ·intro v' w' ho' hg
  refine h v' w' ⟨?_,nT hb'.2 hg.size⟩ (gT (World.grownBy_alloc _ _ _) hg)
  simpa using ho'
end
theorem zfq_ {B g:Nat} {a w:World} (h:Below B a w) (hg:B≤g) (i:Nat) (u:Value):Below B a (w.setCell ⟨g,i,none⟩ u):=h.setCell hg u
def zbp_ (q:qd_) (n:Int):qd_:=(⟨q.1.op,n,q.1.typ,q.1.val,q.1.ini,q.1.fin,q.1.any⟩,q.2)
theorem z1g_:∀ (l:List qd_) (j:Nat) (hj:j<l.length) (n:Int),(l.set j (zbp_ l[j] n)).flatMap z5_=(l.flatMap z5_).set (j * 7+1) (.int .i64 n)
 |[],j,hj,_=>absurd hj (by simp)
 |q::l,0,_,n=>by simp [z5_,zbp_]
 |q::l,j+1,hj,n=>by
  have ih:=z1g_ l j (by simpa using hj) n
  simp only[List.getElem_cons_succ,List.set_cons_succ,List.flatMap_cons]
  rw[ih,List.set_append_right (h:=by rw[ju_];omega)]
  congr 2
  rw[ju_];omega
theorem OwnFl.bump {B:Nat} {w:World} {g c n:Nat} {qs:List qd_} (h:OwnFl B w (.slice (some ⟨g,0,none⟩) n c) qs) {j:Nat} (hj:j<qs.length) (m:Int):OwnFl B (w.setCell ⟨g,j * 7+1,none⟩ (.int .i64 m)) (.slice (some ⟨g,0,none⟩) n c) (qs.set j (zbp_ qs[j] m))∧w.cell? ⟨g,j * 7+1,none⟩=some (.int .i64 qs[j].1.n)∧w.frozen? ⟨g,j * 7+1,none⟩=false:=by
 have hr:=h.reads
 obtain⟨⟨h1,h2⟩,h3⟩:=h
 rcases h2 with ⟨h2,_⟩|⟨g',cap,cur,e,r2,r3,r4,r5,r6,r7⟩
 ·cases h2
 ·cases e
  have hB:Bk w g 45 cur:=r3
  refine⟨⟨⟨by rw[z1g_,List.length_set,List.length_set];exact h1,.inr ⟨g,c,cur.setIfInBounds (j * 7+1) (.int .i64 m),by rw[List.length_set],r2,hB.set _ _,by rw[List.length_set];exact r4,r5,by simpa using r6,?_⟩⟩,by simpa [World.setCell] using h3⟩,?_,hB.frozen _⟩
  ·rw[List.length_set,Array.toList_setIfInBounds,List.take_set,r7,z1g_]
  ·obtain⟨A,c',he,_,hx⟩:=hr
   obtain⟨b,o,hA,hk⟩:=hx j hj
   cases he
   cases hA
   have:=hk 1 (.int .i64 qs[j].1.n) rfl
   simpa using this
theorem FQT.bump {w:World} {qs:List qd_} (h:FQT w qs) {j:Nat} (hj:j<qs.length) (m:Int):FQT w (qs.set j (zbp_ qs[j] m)):=by
 intro q hq
 rcases List.mem_or_eq_of_mem_set hq with hq|rfl
 ·exact h q hq
 ·exact h qs[j] (List.getElem_mem hj)
theorem RdF.bump {N p:Nat} {w:World} {s:LU} {v:Value} {qs:List qd_} (h:RdF N p w s v qs) {j:Nat} (hj:j<qs.length):∃ g c,v= .slice (some ⟨g,0,none⟩) qs.length c∧qs.length≤c∧p<g∧w.cell? ⟨g,j * 7+1,none⟩=some (.int .i64 qs[j].1.n)∧w.frozen? ⟨g,j * 7+1,none⟩=false∧
  ∀ m:Int,RdF N p (w.setCell ⟨g,j * 7+1,none⟩ (.int .i64 m)) s v (qs.set j (zbp_ qs[j] m))∧Below p w (w.setCell ⟨g,j * 7+1,none⟩ (.int .i64 m)):=by
 obtain⟨A,c,rfl,hc⟩:=h.own.isSlice
 have ho:=h.own
 obtain⟨⟨h1,h2⟩,h3⟩:=h.own
 rcases h2 with ⟨h2,hn⟩|⟨g,cap,cur,e,r2,r3,r4,r5,r6,r7⟩
 ·omega
 ·cases e
  obtain⟨_,b2,b3⟩:=ho.bump hj 0
  refine⟨g,c,rfl,hc,r2,b2,b3,fun m=>?_⟩
  have hg:=z7_ w g (j * 7+1) (.int .i64 m)
  have hk:Bk w g 45 cur:=r3
  refine⟨⟨h.at_.grown hg (fun e=>by cases e;omega),(ho.bump hj m).1,(h.any.far hk (by decide) hg).bump hj m,fun q hq=>?_⟩,zfq_ (bR p w) (Nat.le_of_lt r2) _ _⟩
  rcases List.mem_or_eq_of_mem_set hq with hq|rfl
  ·exact h.lim q hq
  ·exact h.lim qs[j] (List.getElem_mem hj)
theorem RdF.more {N p:Nat} {w w':World} {s:LU} {v v':Value} {qs:List qd_} {f:Fil.FilE} {va:Value} (h:RdF N p w s v qs) (hO:OwnFl (p+1) w' v' (qs++[(f,va)])) (hg:w.grownBy w' v.ownBlock) (hT:TxT w va f.any):RdF w.heap.size p (w'.setCell ⟨p,1,none⟩ v') s v' (qs++[(f,va)])∧Below p w (w'.setCell ⟨p,1,none⟩ v'):=by
 have hF:FQT w (qs++[(f,va)]):=by
  intro q hq
  rcases List.mem_append.1 hq with hq|hq
  ·exact h.any q hq
  ·obtain rfl:=List.mem_singleton.1 hq;exact hT
 refine h.setO hO hg (hF.grown h.own hg) (fun q hq k hk=>?_)
 obtain⟨cs,hb⟩:=(hF q hq).2 k hk
 exact hb.lt
theorem RdF.grownP {N p:Nat} {w w':World} {s:LU} {v:Value} {qs:List qd_} (h:RdF N p w s v qs) (hg:w.grownBy w' (some p)):Below p w w':=(bR p w).grown hg (Nat.le_of_lt h.lt) (fun k e=>by cases e;exact nR _)
end Go.Proofs.YtbekpphodbekiaaGreatDoor
