import Derived.Test.YtbekpphodbekiaaGreatDoorV0u
set_option linter.all false
set_option maxHeartbeats 8000000
set_option maxRecDepth 100000
namespace Go.Proofs.YtbekpphodbekiaaGreatDoor
open Go.RowKit
theorem z9q_ {x c:UInt8} {n:Int} (hc:(c.toNat:Int)=n) (h:x≠c):(x.toNat:Int)≠n:=fun e=>h (UInt8.toNat_inj.1 (by omega))
theorem zhu_ {ops:Array Oper} {rest:List Oper} {o:Oper} {a:Act} {Q:Exit→Act→World→Prop} {w:World} (hgd:o.guard=none) (sl x:Operand) (ho:o.op= .call {callee:= .builtin .append,args:=#[sl,x],argTypes:=#[124,9]})
  {v:Value} {l m:LU} {B:Nat} (hs:a.eval sl=v) (hb:BufO B w v l) (hx:a.eval x= .string ⟨m.toArray⟩) (hlen:l.length+m.length≤140737488355328)
  (h:∀ v' w',BufO B w' v' (l++m)→w.grownBy w' v.ownBlock→wpList Tryz.prog ops Q rest (a.put o.dst v') w'):wpList Tryz.prog ops Q (o::rest) a w:=by
 obtain⟨i,h1,h2,h3,h4⟩:=infoByte
 have hsz:(⟨m.toArray⟩:ByteArray).size=m.length:=by simp [ByteArray.size]
 refine Lib.wpList_append_own_stringF w hgd sl x 124 9 ho B 5 i Tryz.underlying124 Tryz.underlying9 h1 h2 h3 h4 v _ _ hs hb.1 ⟨m.toArray⟩ hx (by rw[hsz];unfold maxLen;omega) (by rw[hsz];exact hlen) hb.2 ?_
 intro v' w' ho' hg _
 refine h v' w' ⟨?_,nT hb.2 hg.size⟩ hg
 simpa [Lib.byteCells,Lib.strCells,ByteArray.size] using ho'
theorem v6_ {w a b:World} {p r:Option Nat} (h:w.grownBy a p) (hg:a.grownBy b r) (hr:∀ k,r=some k→w.heap.size≤k):w.grownBy b p:=
 ⟨hg.os.trans h.os,hg.tape.trans h.tape,hg.output.trans h.output,nT h.size hg.size,fun k hk hne=>by
  rw[hg.block k (Nat.lt_of_lt_of_le hk h.size) (fun e=>by have:=hr k e.symm;omega)]
  exact h.block k hk hne⟩
theorem BufO.row {B:Nat} {w:World} {v:Value} {l:LU} (h:BufO B w v l):∀ g,v.ownBlock=some g→B≤g∧∃ cs t fz,w.heap[g]?=some (.cells cs t fz)∧t=5:=by
 intro g hg
 obtain⟨⟨h1,h2⟩,_⟩:=h
 rcases h2 with ⟨rfl,_⟩|⟨g',cap,cur,fz,rfl,r2,r3,r4⟩
 ·cases hg
 ·cases hg;exact⟨r2,cur,_,fz,r3,rfl⟩
theorem zmv_ {B:Nat} {w:World} {g c:Nat} {xs:LL} {n:Nat} (h:Own B w (.slice (some ⟨g,0,none⟩) n c) xs) {j:Nat} (hj:j<xs.length) (x:LU):Own B (w.setCell ⟨g,j,none⟩ (.string ⟨x.toArray⟩)) (.slice (some ⟨g,0,none⟩) n c) (xs.set j x):=by
 obtain⟨⟨h1,h2⟩,h3⟩:=h
 refine⟨⟨by simpa using h1,?_⟩,by simpa [World.setCell] using h3⟩
 rcases h2 with ⟨h2,_⟩|⟨g',cap,cur,e,r2,r3,r4,r5,r6,r7⟩
 ·cases h2
 ·cases e
  have hB:Bk w g 9 cur:=r3
  refine .inr ⟨g,c,cur.setIfInBounds j (.string ⟨x.toArray⟩),by simp,r2,hB.set j _,by simpa using r4,r5,by simpa using r6,?_⟩
  rw[List.length_set,Array.toList_setIfInBounds,List.take_set,r7]
  simp [jp_]
structure VaJ (w:World) (p:Nat) (wr:World) (r:LU) (v:Value) (qs:List qd_) (o b:Value) (done:LL) (acc:LU):Prop where
 plt:p<w.heap.size
 rd:RdF w.heap.size p wr r v qs
 own:Own w.heap.size wr o (done++[[]])
 buf:BufO w.heap.size wr b acc
 bel:w.grownBy wr (some p)
theorem VaJ.next {w:World} {p:Nat} {wr:World} {r:LU} {v:Value} {qs:List qd_} {o b:Value} {done:LL} {acc:LU} (h:VaJ w p wr r v qs o b done acc) (r':LU):VaJ w p (wr.setCell ⟨p,0,none⟩ (.string ⟨r'.toArray⟩)) r' v qs o b done acc:=by
 obtain⟨h1,h2⟩:=h.rd.setS r'
 have hg:=z7_ wr p 0 (.string ⟨r'.toArray⟩)
 refine⟨h.plt,h1,h.own.keep2 hg (fun k hk e=>?_),?_,gT h.bel hg⟩
 ·obtain⟨cs,hb⟩:=h.own.ty hk
  cases e
  exact z4w_ h.rd.at_ hb (by decide) rfl
 ·obtain⟨⟨b1,b2⟩,b3⟩:=h.buf
  refine⟨⟨b1,?_⟩,nT b3 hg.size⟩
  rcases b2 with b2|⟨g',cap,cur,fz,rfl,r2,r3,r4⟩
  ·exact .inl b2
  ·refine .inr ⟨g',cap,cur,fz,rfl,r2,?_,r4⟩
   rw[hg.block g' (Array.getElem?_eq_some_iff.1 r3).1 (fun e=>z2r_ r3 h.rd.at_ (by decide) (Option.some.inj e))]
   exact r3
theorem VaJ.below {w:World} {p:Nat} {wr wn:World} {r:LU} {v:Value} {qs:List qd_} {o b:Value} {done:LL} {acc:LU} (h:VaJ w p wr r v qs o b done acc) (hb:Bel wr wn):VaJ w p wn r v qs o b done acc:=⟨h.plt,h.rd.below hb,h.own.below hb,h.buf.keep (zc_ hb none) (fun k e=>by cases e),gT h.bel (zc_ hb _)⟩
theorem VaJ.byte {w:World} {p:Nat} {wr wn:World} {r:LU} {v:Value} {qs:List qd_} {o b b':Value} {done:LL} {acc acc':LU} (h:VaJ w p wr r v qs o b done acc) (hO:BufO w.heap.size wn b' acc') (hg:wr.grownBy wn b.ownBlock):VaJ w p wn r v qs o b' done acc':=by
 have hp:=h.plt
 refine⟨hp,h.rd.beside hg (fun g e=>?_),h.own.keep2 hg (fun k hk e=>?_),hO,v6_ h.bel hg (fun g e=>?_)⟩
 ·obtain⟨h1,cs,t,fz,h2,h3⟩:=h.buf.row g e
  exact⟨h1,cs,t,fz,h2,by rw[h3];decide,by rw[h3];decide⟩
 ·obtain⟨_,cs,t,fz,h2,h3⟩:=h.buf.row k e
  obtain⟨cs',hb⟩:=h.own.ty hk
  exact z2r_ h2 hb (by rw[h3];decide) rfl
 ·exact(h.buf.row g e).1
theorem VaJ.last {w:World} {p:Nat} {wr:World} {r:LU} {v:Value} {qs:List qd_} {o b:Value} {done:LL} {acc:LU} (h:VaJ w p wr r v qs o b done acc):∃ g c,o= .slice (some ⟨g,0,none⟩) (done.length+1) c∧done.length+1≤c∧w.heap.size≤g∧wr.cell? ⟨g,done.length,none⟩=some (.string ⟨#[]⟩)∧wr.frozen? ⟨g,done.length,none⟩=false∧Own w.heap.size (wr.setCell ⟨g,done.length,none⟩ (.string ⟨acc.toArray⟩)) o (done++[acc])∧
  RdF w.heap.size p (wr.setCell ⟨g,done.length,none⟩ (.string ⟨acc.toArray⟩)) r v qs∧w.grownBy (wr.setCell ⟨g,done.length,none⟩ (.string ⟨acc.toArray⟩)) (some p):=by
 have hO:=h.own
 have hT:=hO.textsA
 obtain⟨⟨h1,h2⟩,h3⟩:=h.own
 have hl:(done++[([]:LU)]).length=done.length+1:=by simp
 rcases h2 with ⟨rfl,hn⟩|⟨g,cap,cur,rfl,r2,r3,r4,r5,r6,r7⟩
 ·rw[hl] at hn;omega
 ·rw[hl] at r4
  have hB:Bk wr g 9 cur:=r3
  have hg:=z7_ wr g done.length (.string ⟨acc.toArray⟩)
  have hc:wr.cell? ⟨g,done.length,none⟩=some (.string ⟨#[]⟩):=by
   rcases hT with ⟨h0,_⟩|⟨a,c',he,_,hx⟩
   ·exact absurd (congrArg List.length h0) (by simp)
   ·cases he
    have:=hx done.length (by simp)
    rw[jl_,Nat.zero_add] at this
    simpa using this
  have hs:=zmv_ hO (j:=done.length) (by simp) acc
  rw[show (done++[([]:LU)]).set done.length acc=done++[acc] by simp] at hs
  refine⟨g,cap,by rw[hl],r4,r2,hc,hB.frozen _,hs,h.rd.beside hg (fun k e=>?_),v6_ h.bel hg (fun k e=>?_)⟩
  ·cases e
   exact⟨r2,cur,_,_,r3,by decide,by decide⟩
  ·cases e
   exact r2
theorem VaJ.star {w:World} {p:Nat} {wr wn:World} {r:LU} {v:Value} {qs:List qd_} {o o':Value} {done xs:LL} (hp:p<w.heap.size) (hO:Own w.heap.size wr o xs) (hR:RdF w.heap.size p wr r v qs) (hb:w.grownBy wr (some p)) (hO':Own w.heap.size wn o' (done++[[]])) (hg:wr.grownBy wn o.ownBlock):VaJ w p wn r v qs o' (.slice none 0 0) done []:=by
 refine⟨hp,hR.beside hg (fun k e=>?_),hO',⟨World.ownsRowF_nil _ _ _ _,hO'.2⟩,v6_ hb hg (fun k e=>?_)⟩
 ·obtain⟨cs,hk⟩:=hO.ty e
  exact⟨(hO.lt k e).1,cs,_,_,hk,by decide,by decide⟩
 ·exact(hO.lt k e).1
theorem z6c_ (s:LU) (i j:Nat) (W:World) (h1:i≤j) (h2:j≤s.length):(Instr.slice 9 (.string ⟨s.toArray⟩) (some (.int .i64 (i:Int))) (some (.int .i64 (j:Int))) none).run Tryz.prog W= .ok (.string ⟨((s.drop i).take (j - i)).toArray⟩) W:=by
 have:=run_slice_string (P:=Tryz.prog) W 9 ⟨s.toArray⟩ .i64 .i64 (i:Int) (j:Int) Tryz.underlying9 (by omega) (by omega) (by simp [ByteArray.size];omega)
 rw[this]
 simp only[Int.toNat_natCast]
 rw[z26_]
 rfl
theorem zes_ (e:Int) (y:LU):qs_ e (some y)= .tuple #[.string ⟨y.toArray⟩,.int .i64 0]:=rfl
theorem zgj_ (e:Int):qs_ e none= .tuple #[.string ⟨#[]⟩,.int .i64 e]:=rfl
theorem z85_ {a b:UInt8} {y:LU} (h:zz_ [a,b]=some y):y.length=1:=by
 unfold zz_ at h
 split at h
 ·cases h
 ·simp [zz_] at h
  rw[← h];rfl
theorem ze6_ (N p:Nat) (s:LU) (v:Value) (qs:List qd_) (w:World) (h:RdF N p w s v qs) (hs:s.length≤1000000):
  Calls Tryz.prog 105 #[.pointer (some ⟨p,0,none⟩)] w fun e w'=>w.grownBy w' (some p)∧match Fil.valF s [] [] with
   |some (l,r)=>∃ vo,e= .returned vo∧Own w.heap.size w' vo l∧RdF w.heap.size p w' r v qs
   |none=>e= .panicked qk_:=by
 obtain⟨R,hR⟩:∃ R,Fil.valF s [] []=R:=⟨_,rfl⟩
 rw[hR]
 have HR:=hiD hR
 have hget:=qe_
 have hb0:=ze_ w (.cells #[.string ⟨#[]⟩] 9)
 have HJ0:Hid (VaJ w p (w.alloc (.cells #[.string ⟨#[]⟩] 9)) s v qs (.slice (some ⟨w.heap.size,0,none⟩) 1 1) (.slice none 0 0) [] []):=hiD ⟨h.lt,h.fit.below hb0,zcg_ w (nR _) [[]] (by simp),⟨World.ownsRowF_nil _ _ _ _,hb0.size⟩,zc_ hb0 _⟩
 clear h hR hb0
 go_enter Tryz.func105,Tryz.ntmps105
 go_wp2_with fail
 go_loopg [3,4] s.length (fun gk o b wr=>∃ (r acc:LU) (done:LL),Aside (r.length≤gk)∧Aside (acc.length+r.length≤s.length)∧Aside (done.length+r.length≤s.length)∧Aside (Fil.valF r acc done=R)∧Aside (VaJ w p wr r v qs o b done acc))
 case atStart=>exact⟨s,[],[],nR _,by show _≤_;simp,by show _≤_;simp,HR.out,HJ0.out⟩
 case round=>
  clear HJ0 HR
  obtain⟨r,acc,done,AG,AL,AD,AS,AJ⟩:=hrel
  obtain⟨c0,c1,f0,f1⟩:=AJ.out.rd.cells
  obtain⟨g,co,rfl,hco,hgB,k0,k1,HL⟩:=AJ.out.last
  have HLA:=hiD HL
  have hcv:=BufO.string AJ.out.buf
  have hdl:done.length≤1000000:=by have:=AD.out;omega
  have hk5:IntKind.i64.wrap (((done.length:Int)+1) - 1)=(done.length:Int):=by rw[IntWalk.i64_in _ (by omega)];omega
  clear HL
  cases r with
  |nil=>
   have hfin:R=some (done++[acc],[]):=by rw[← AS.out,Fil.valF.eq_def];try rfl
   subst hfin
   go_wp2_with fail
   go_ret
   exact⟨HLA.out.2.2,_,rfl,HLA.out.1,HLA.out.2.1⟩
  |cons x t=>
   have AS':Aside (R=if x=41 then some (done++[acc],x::t) else if x=92 then (match (generalizing:=false) t with
    |p::q::t'=>match zz_ [p,q] with
     |some y=>Fil.valF t' (acc++y) done
     |none=>none
    |_=>none) else if x=40∨x=0 then none else if x=42 then Fil.valF t [] (done++[acc]) else Fil.valF t (acc++[x]) done):=by
    show _=_
    rw[← AS.out,Fil.valF_cons]
    rfl
   obtain⟨q,rfl⟩:∃ q,gk=q+1:=⟨gk - 1,by have:=AG.out;simp only[List.length_cons] at this;omega⟩
   have hlr:t.length≤q∧acc.length+(t.length+1)≤s.length∧done.length+(t.length+1)≤s.length:=by
    have h1:=AG.out
    have h2:=AL.out
    have h3:=AD.out
    simp only[List.length_cons] at h1 h2 h3
    omega
   have hsl1:∀ W:World,(Instr.slice 9 (.string ⟨(x::t).toArray⟩) (some (.int .i64 1)) none none).run Tryz.prog W= .ok (.string ⟨t.toArray⟩) W:=fun W=>z1n_ (x::t) 1 (by simp) W
   clear AS AG AL AD
   by_cases x41:x=41
   ·subst x41
    have hfin:R=some (done++[acc],41::t):=by rw[AS'.out,if_pos rfl]
    subst hfin
    go_wp2_with fail
    go_ret
    exact⟨HLA.out.2.2,_,rfl,HLA.out.1,HLA.out.2.1⟩
   ·have hn41:((x.toNat:Int) !=41)=true:=by
     rw[bne_iff_ne];intro e;exact z9q_ (c:=41) rfl x41 e
    by_cases x92:x=92
    ·subst x92
     have AS2:Aside (R=(match (generalizing:=false) t with
      |p::q::t'=>match zz_ [p,q] with
       |some y=>Fil.valF t' (acc++y) done
       |none=>none
      |_=>none)):=by show _=_;rw[AS'.out,if_neg x41,if_pos rfl]
     clear AS'
     match t,hlr,AS2 with
     |[],hlr,AS2=>
      have hfin:R=none:=AS2.out
      subst hfin
      go_wp2_with fail
      refine⟨rfl,?_⟩
      exact⟨AJ.out.bel,rfl⟩
     |[y1],hlr,AS2=>
      have hfin:R=none:=AS2.out
      subst hfin
      go_wp2_with fail
      refine⟨rfl,?_⟩
      exact⟨AJ.out.bel,rfl⟩
     |y1::y2::t',hlr,AS2=>
      have hsl13:∀ W:World,(Instr.slice 9 (.string ⟨(92::y1::y2::t').toArray⟩) (some (.int .i64 1)) (some (.int .i64 3)) none).run Tryz.prog W= .ok (.string ⟨[y1,y2].toArray⟩) W:=fun W=>by
       have:=z6c_ (92::y1::y2::t') 1 3 W (by omega) (by simp)
       simpa using this
      have hsl3:∀ W:World,(Instr.slice 9 (.string ⟨(92::y1::y2::t').toArray⟩) (some (.int .i64 3)) none none).run Tryz.prog W= .ok (.string ⟨t'.toArray⟩) W:=fun W=>z1n_ (92::y1::y2::t') 3 (by simp) W
      have HU:=hiD (fun W=>vm_ [y1,y2] W (by simp))
      have hlen3:¬ (((92::y1::y2::t':LU).length:Int)<3):=by simp only[List.length_cons];omega
      simp only[List.length_cons] at hlr
      cases hu:zz_ [y1,y2] with
      |none=>
       have hfin:R=none:=by rw[AS2.out];simp only[hu]
       subst hfin
       rw[hu,zgj_] at HU
       go_wp2_with (go_at_call 163;(with_reducible refine(HU.out _).mono ?_);rintro e w2 ⟨rfl,hb2⟩)
       refine⟨rfl,?_⟩
       exact⟨gT AJ.out.bel (zc_ hb2 _),rfl⟩
      |some y=>
       have AS3:Aside (Fil.valF t' (acc++y) done=R):=by show _=_;rw[AS2.out];simp only[hu]
       rw[hu,zes_] at HU
       have hy:=z85_ hu
       go_wp2_with (first
        |(go_at_call 163;(with_reducible refine(HU.out _).mono ?_);rintro e w2 ⟨rfl,hb2⟩;have hJ2:=AJ.out.below hb2;have hbuf2:=hJ2.buf)
        |(at_builtin;refine zhu_ (m:=y) rfl _ _ rfl rfl hbuf2 rfl (by omega) ?_;intro v' w3 hO3 hg3;have hJ3:=hJ2.byte hO3 hg3;obtain⟨d0,d1,g0,g1⟩:=hJ3.rd.cells))
       go_roundg q
       case measure=>omega
       case rel=>exact⟨t',acc++y,done,by show _≤_;omega,by show _≤_;rw[List.length_append];omega,by show _≤_;omega,AS3.out,hJ3.next t'⟩
    ·have hn92:((x.toNat:Int)==92)=false:=by
      rw[beq_eq_false_iff_ne];intro e;exact z9q_ (c:=92) rfl x92 e
     by_cases x40:x=40∨x=0
     ·have hfin:R=none:=by rw[AS'.out,if_neg x41,if_neg x92,if_pos x40]
      subst hfin
      rcases x40 with rfl|rfl
      all_goals
       go_wp2_with fail
       refine⟨rfl,?_⟩
       exact⟨AJ.out.bel,rfl⟩
     ·have hn40:((x.toNat:Int)==40)=false:=by
       rw[beq_eq_false_iff_ne];intro e;exact z9q_ (c:=40) rfl (fun h=>x40 (.inl h)) e
      have hn0:((x.toNat:Int)==0)=false:=by
       rw[beq_eq_false_iff_ne];intro e;exact z9q_ (c:=0) rfl (fun h=>x40 (.inr h)) e
      by_cases x42:x=42
      ·subst x42
       have AS3:Aside (Fil.valF t [] (done++[acc])=R):=by show _=_;rw[AS'.out,if_neg x41,if_neg x92,if_neg x40,if_pos rfl]
       have hOs:=HLA.out.1
       have HN5:=hiD (show wr.heap.size=(wr.setCell ⟨g,done.length,none⟩ (.string ⟨acc.toArray⟩)).heap.size by simp [World.setCell])
       have hlen5:(done++[acc]).length<4398046511104:=by rw[List.length_append,List.length_singleton];omega
       go_wp2_with (at_builtin;refine vn_ (c:=[]) (N:=wr.heap.size) rfl _ _ rfl rfl hOs rfl HN5.out hlen5 ?_;intro v' w3 hO3 hg3;have hJ3:=VaJ.star AJ.out.plt hOs HLA.out.2.1 HLA.out.2.2 hO3 hg3;obtain⟨d0,d1,g0,g1⟩:=hJ3.rd.cells)
       go_roundg q
       case measure=>omega
       case rel=>exact⟨t,[],done++[acc],by show _≤_;omega,by show _≤_;rw[List.length_nil];omega,by show _≤_;rw[List.length_append,List.length_singleton];omega,AS3.out,hJ3.next t⟩
      ·have hn42:((x.toNat:Int)==42)=false:=by
        rw[beq_eq_false_iff_ne];intro e;exact z9q_ (c:=42) rfl x42 e
       have AS3:Aside (Fil.valF t (acc++[x]) done=R):=by show _=_;rw[AS'.out,if_neg x41,if_neg x92,if_neg x40,if_neg x42]
       have hbuf:=AJ.out.buf
       go_wp2_with (at_builtin;refine z1b_ (c:=x) rfl _ _ rfl rfl hbuf rfl rfl (by omega) ?_;intro v' w3 hO3 hg3;have hJ3:=AJ.out.byte hO3 hg3;obtain⟨d0,d1,g0,g1⟩:=hJ3.rd.cells)
       go_roundg q
       case measure=>omega
       case rel=>exact⟨t,acc++[x],done,by show _≤_;omega,by show _≤_;rw[List.length_append,List.length_singleton];omega,by show _≤_;omega,AS3.out,hJ3.next t⟩
open Go.RowKit
theorem zdn_:∀ w,(sizeOf 45).run Tryz.prog w= .ok 7 w:=fun w=>by kernel_rfl
theorem zft_ {t e:TypeId} {sz:Nat} (ht:Tryz.prog.underlying t=some (.slice e)) (hs:∀ w,(sizeOf e).run Tryz.prog w= .ok sz w) (b o n c j:Nat) (hj:j≤n) (hc:n≤c):
  ∃ B:Addr,(j<c→B=⟨b,o+j * sz,none⟩)∧∀ w,(Instr.slice t (.slice (some ⟨b,o,none⟩) n c) (some (.int .i64 (j:Int))) none none).run Tryz.prog w= .ok (.slice (some B) (n - j) (c - j)) w:=by
 have h1:∀ w,(Instr.sliceBounds true n c (some (.int .i64 j)) none none).run Tryz.prog w= .ok (j,n,c) w:=fun w=>by
  simp [Instr.sliceBounds,run_sliceBound,hj]
 have ha:(⟨b,o,none⟩:Addr).add (j * sz)=⟨b,o+j * sz,none⟩:=jl_ _ _ _
 by_cases hjc:j<c
 ·refine⟨⟨b,o+j * sz,none⟩,fun _=>rfl,fun w=>?_⟩
  unfold Instr.slice
  simp only[Sem.run_bind,run_underlying ht,Result.andThen_ok,h1,hs,Sem.run_pure]
  simp [ha]
  intro e
  omega
 ·refine⟨⟨b,o,none⟩,fun h=>absurd h hjc,fun w=>?_⟩
  unfold Instr.slice
  simp only[Sem.run_bind,run_underlying ht,Result.andThen_ok,h1,hs,Sem.run_pure]
  simp [ha]
  intro e
  omega
theorem zfh_ (b o n c:Nat) (hn:1≤n) (hc:n≤c):
  ∃ B:Addr,(1<c→B=⟨b,o+7,none⟩)∧∀ w,(Instr.slice 23 (.slice (some ⟨b,o,none⟩) n c) (some (.int .i64 1)) none none).run Tryz.prog w= .ok (.slice (some B) (n - 1) (c - 1)) w:=
 zft_ Tryz.underlying23 zdn_ b o n c 1 hn hc
theorem FilsA.tail {w:World} {v:Value} {x:Fil.FilE} {t:List Fil.FilE} (h:FilsA w v (x::t)):∃ b o c va vt,v= .slice (some ⟨b,o,none⟩) (t.length+1) c∧t.length+1≤c∧
  (w.cell? ⟨b,o,none⟩=some (.int .i64 x.op)∧w.cell? ⟨b,o+1,none⟩=some (.int .i64 x.n)∧w.cell? ⟨b,o+2,none⟩=some (.string ⟨x.typ.toArray⟩)∧w.cell? ⟨b,o+3,none⟩=some (.string ⟨x.val.toArray⟩)∧w.cell? ⟨b,o+4,none⟩=some (.string ⟨x.ini.toArray⟩)∧w.cell? ⟨b,o+5,none⟩=some (.string ⟨x.fin.toArray⟩)∧w.cell? ⟨b,o+6,none⟩=some va)∧TextsA w va x.any∧
  (∀ W,(Instr.slice 23 (.slice (some ⟨b,o,none⟩) (t.length+1) c) (some (.int .i64 1)) none none).run Tryz.prog W= .ok vt W)∧FilsA w vt t:=by
 obtain⟨qs,hq,⟨A,c,rfl,hc,hx⟩,hok⟩:=h
 obtain⟨q,ys,rfl⟩:∃ q ys,qs=q::ys:=by
  cases qs with
  |nil=>simp at hq
  |cons q ys=>exact⟨q,ys,rfl⟩
 rw[List.map_cons,List.cons.injEq] at hq
 obtain⟨rfl,rfl⟩:=hq
 rw[List.length_map]
 obtain⟨b,o,rfl,hk⟩:=hx 0 (by simp)
 simp only[List.getElem_cons_zero,Nat.zero_mul,Nat.add_zero] at hk
 simp only[List.length_cons] at hc ⊢
 obtain⟨B,hB,hs⟩:=zfh_ b o (ys.length+1) c (by omega) hc
 rw[show ys.length+1 - 1=ys.length by omega] at hs
 refine⟨b,o,c,q.2,_,rfl,hc,⟨hk 0 _ rfl,hk 1 _ rfl,hk 2 _ rfl,hk 3 _ rfl,hk 4 _ rfl,hk 5 _ rfl,hk 6 _ rfl⟩,hok q (List.mem_cons_self ..),hs,⟨ys,rfl,⟨some B,c - 1,rfl,by omega,fun j hj=>?_⟩,fun y hy=>hok y (List.mem_cons_of_mem _ hy)⟩⟩
 obtain⟨b',o',he,hk'⟩:=hx (j+1) (by simp;omega)
 cases he
 rw[hB (by omega)]
 refine⟨b,o+7,rfl,fun k u hu=>?_⟩
 have:=hk' k u (by simpa using hu)
 rw[show o+7+j * 7+k=o+(j+1) * 7+k by omega]
 exact this
theorem FilsA.nil_slice {w:World} {v:Value} (h:FilsA w v []):∃ A c,v= .slice A 0 c:=by
 obtain⟨A,c,h1,_⟩:=h.isSlice
 exact⟨A,c,h1⟩
open Go.RowKit
theorem zgr_ (xs ys:LL) (v1 v2:Value) (w:World) (hv1:TextsA w v1 xs) (hv2:TextsA w v2 ys) (hl:xs.length≤8796093021952):
  Calls Tryz.prog 96 #[v1,v2] w fun e w'=>e= .returned (.bool (decide (xs=ys)))∧Bel w w':=by
 obtain⟨A1,c1,rfl,hc1,hx1⟩:=hv1.at
 obtain⟨A2,c2,rfl,hc2,hx2⟩:=hv2.at
 have H1:=hiD hx1
 have H2:=hiD hx2
 obtain⟨R,hR⟩:∃ R,decide (xs=ys)=R:=⟨_,rfl⟩
 rw[hR]
 have HR:=hiD hR
 clear hx1 hx2 hv1 hv2 hR
 by_cases hle:xs.length=ys.length
 ·have hself:((xs.length:Int) !=(ys.length:Int))=false:=by rw[hle];simp
  go_enter Tryz.func96,Tryz.ntmps96
  go_wp2_with fail
  go_loopg [13] xs.length (fun gk i wr=>∃ k:Nat,k≤xs.length∧i= .int .i64 k∧Aside (k+gk=xs.length)∧Bel w wr∧Aside (xs.take k=ys.take k))
  case atStart=>exact⟨0,by omega,rfl,by show _=_;omega,bR _ _,rfl⟩
  case round=>
   obtain⟨k,hk,rfl,AG,hB,AE⟩:=hrel
   by_cases hlt:k<xs.length
   ·obtain⟨gq,rfl⟩:∃ q,gk=q+1:=⟨gk - 1,by have:=AG.out;omega⟩
    obtain⟨p1,rfl,c1⟩:=H1.out k hlt
    obtain⟨p2,rfl,c2⟩:=H2.out k (by omega)
    have d1:=cQ hB c1
    have d2:=cQ hB c2
    have hki:(k:Int)<(xs.length:Int):=by omega
    have hki2:(k:Int)<(ys.length:Int):=by omega
    clear c1 c2
    by_cases he:xs[k]=ys[k]'(by omega)
    ·have AE2:Aside (xs.take (k+1)=ys.take (k+1)):=by
      show _=_
      rw[List.take_succ_eq_append_getElem hlt,List.take_succ_eq_append_getElem (by omega),AE.out,he]
     rw[he] at d1
     generalize ys[k]'(by omega)=t at d1 d2
     go_wp2_with fail
     go_quiet (fail)
     go_wp2_with fail
     go_roundg gq
     case measure=>omega
     case rel=>exact⟨k+1,by omega,by go_num,by have:=AG.out;show _=_;omega,zr_ hB nq,AE2.out⟩
    ·have hno:R=false:=by
      rw[← HR.out,decide_eq_false_iff_not]
      rintro rfl
      exact he rfl
     subst hno
     generalize xs[k]=t1 at *
     generalize ys[k]'(by omega)=t2 at *
     have hbn:(t1==t2)=false:=beq_eq_false_iff_ne.2 he
     go_wp2_with fail
     go_quiet (fail)
     go_wp2_with fail
     go_ret
     exact⟨rfl,zr_ hB nq⟩
   ·obtain rfl:k=xs.length:=by omega
    have hyes:R=true:=by
     rw[← HR.out,decide_eq_true_iff]
     have:=AE.out
     rwa [List.take_length,List.take_of_length_le (by omega)] at this
    subst hyes
    go_wp2_with fail
    go_ret
    exact⟨rfl,hB⟩
 ·have hself:((xs.length:Int) !=(ys.length:Int))=true:=by
   rw[bne_iff_ne];omega
  have hno:R=false:=by
   rw[← HR.out,decide_eq_false_iff_not]
   rintro rfl
   exact hle rfl
  subst hno
  go_enter Tryz.func96,Tryz.ntmps96
  go_wp2_with fail
  go_ret
  exact⟨rfl,bR _ _⟩
def x4_ (p:Fil.FilE) (va:Value):Value:= .agg #[.int .i64 p.op,.int .i64 p.n,.string ⟨p.typ.toArray⟩,.string ⟨p.val.toArray⟩,.string ⟨p.ini.toArray⟩,.string ⟨p.fin.toArray⟩,va]
open Go.RowKit
theorem zha_ (o:Int) (w:World):Calls Tryz.prog 104 #[.int .i64 o] w fun e w'=>e= .returned (.string ⟨(Fil.signF o).toArray⟩)∧w=w':=by
 unfold Fil.signF
 by_cases h5:o=5
 ·subst h5
  rw[if_pos rfl]
  go_enter Tryz.func104,Tryz.ntmps104
  go_wp2_with fail
  go_ret
  exact⟨rfl,rfl⟩
 ·have e5:(o==5)=false:=beq_eq_false_iff_ne.2 h5
  rw[if_neg h5]
  by_cases h6:o=6
  ·subst h6
   rw[if_pos rfl]
   go_enter Tryz.func104,Tryz.ntmps104
   go_wp2_with fail
   go_ret
   exact⟨rfl,rfl⟩
  ·have e6:(o==6)=false:=beq_eq_false_iff_ne.2 h6
   rw[if_neg h6]
   by_cases h8:o=8
   ·subst h8
    rw[if_pos rfl]
    go_enter Tryz.func104,Tryz.ntmps104
    go_wp2_with fail
    go_ret
    exact⟨rfl,rfl⟩
   ·have e8:(o==8)=false:=beq_eq_false_iff_ne.2 h8
    rw[if_neg h8]
    go_enter Tryz.func104,Tryz.ntmps104
    go_wp2_with fail
    go_ret
    exact⟨rfl,rfl⟩
theorem RdF.above {N M p g:Nat} {w w':World} {s:LU} {v:Value} {qs:List qd_} (h:RdF N p w s v qs) (hg:w.grownBy w' (some g)) (hp:p<M) (hv:∀ k,v.ownBlock=some k→k<M) (hN:N≤M) (hgM:M≤g):RdF N p w' s v qs:=by
 refine⟨h.at_.grown hg (fun e=>?_),h.own.keep2 hg (fun k hk e=>?_),fun q hq=>(h.any q hq).keep hg (fun k hk e=>?_),h.lim⟩
 ·cases e;omega
 ·have:=hv k hk
  cases e;omega
 ·have:=h.lim q hq k hk
  cases e;omega
structure ItL (w:World) (p:Nat) (wr:World) (r:LU) (v:Value) (qs:List qd_):Prop where
 plt:p<w.heap.size
 vlt:∀ k,v.ownBlock=some k→k<w.heap.size
 rd:RdF w.heap.size p wr r v qs
 bel:w.grownBy wr (some p)
theorem ItL.begin {N p:Nat} {w:World} {s:LU} {v:Value} {qs:List qd_} (h:RdF N p w s v qs):ItL w p w s v qs:=⟨h.lt,fun k hk=>(h.own.lt k hk).2,h.fit,World.grownBy.refl _ _⟩
theorem ItL.below {w:World} {p:Nat} {wr wn:World} {r:LU} {v:Value} {qs:List qd_} (h:ItL w p wr r v qs) (hb:Bel wr wn):ItL w p wn r v qs:=⟨h.plt,h.vlt,h.rd.below hb,gT h.bel (zc_ hb _)⟩
theorem ItL.set {w:World} {p g:Nat} {wr:World} {r:LU} {v:Value} {qs:List qd_} (h:ItL w p wr r v qs) (hg:w.heap.size≤g) (i:Nat) (u:Value):ItL w p (wr.setCell ⟨g,i,none⟩ u) r v qs:=
 ⟨h.plt,h.vlt,h.rd.above (z7_ _ _ _ _) h.plt h.vlt (nR _) hg,v6_ h.bel (z7_ _ _ _ _) (fun k e=>by cases e;exact hg)⟩
theorem ItL.next {w:World} {p:Nat} {wr:World} {r:LU} {v:Value} {qs:List qd_} (h:ItL w p wr r v qs) (r':LU):ItL w p (wr.setCell ⟨p,0,none⟩ (.string ⟨r'.toArray⟩)) r' v qs:=
 ⟨h.plt,h.vlt,(h.rd.setS r').1,gT h.bel (z7_ _ _ _ _)⟩
theorem ItL.call {N:Nat} {w:World} {p:Nat} {wr wn:World} {r r':LU} {v:Value} {qs:List qd_} (h:ItL w p wr r v qs) (hg:wr.grownBy wn (some p)) (hR:RdF N p wn r' v qs):ItL w p wn r' v qs:=
 ⟨h.plt,h.vlt,⟨hR.at_,hR.own,hR.any,h.rd.lim⟩,gT h.bel hg⟩
def zb4_ (w:World) (p:Nat) (v:Value) (qs:List qd_) (R:Option (Fil.FilE × LU)) (e:Ending) (w':World):Prop:=w.grownBy w' (some p)∧match R with
 |some (f,r)=>∃ A n c,e= .returned (x4_ f (.slice A n c))∧TxT w' (.slice A n c) f.any∧(∀ k,(Value.slice A n c).ownBlock=some k→w.heap.size≤k)∧RdF w.heap.size p w' r v qs
 |none=>e= .panicked qk_
theorem vg_ {w:World} {g g' i:Nat} {t:TypeId} {cs:Array Value} {u:Value} (h:Bk w g t cs) (hne:g≠g'):Bk (w.setCell ⟨g',i,none⟩ u) g t cs:=h.grown (z7_ _ _ _ _) (fun e=>hne (Option.some.inj e))
theorem TxT.setF {w:World} {g i:Nat} {va u:Value} {xs:LL} {cs:Array Value} (h:TxT w va xs) (hk:Bk w g 45 cs):TxT (w.setCell ⟨g,i,none⟩ u) va xs:=h.far hk (by decide) (z7_ _ _ _ _)
theorem z82_ {w W:World} {p:Nat} {r:LU} {v:Value} {qs:List qd_} {f:Fil.FilE} {A:Option Addr} {n c:Nat} {tmps:Array Value} {z0 z1 z2 z3 z4 z5 z6:Value} (hL:ItL w p W r v qs) (hk:Bk W w.heap.size 45 #[z0,z1,z2,z3,z4,z5,z6]) (hT:TxT W (.slice A n c) f.any) (hA:∀ k,(Value.slice A n c).ownBlock=some k→w.heap.size≤k)
  (t2:tmps[2]?=some (.pointer (some ⟨w.heap.size,0,none⟩))):
  bodyPost Tryz.prog Tryz.f53 (zb4_ w p v qs (some (f,r))) .ret {tmps:=tmps,defers:=[]} (((((((W.setCell ⟨w.heap.size,0,none⟩ (.int .i64 f.op)).setCell ⟨w.heap.size,1,none⟩ (.int .i64 f.n)).setCell ⟨w.heap.size,2,none⟩ (.string ⟨f.typ.toArray⟩)).setCell ⟨w.heap.size,3,none⟩ (.string ⟨f.val.toArray⟩)).setCell ⟨w.heap.size,4,none⟩ (.string ⟨f.ini.toArray⟩)).setCell ⟨w.heap.size,5,none⟩ (.string ⟨f.fin.toArray⟩)).setCell ⟨w.heap.size,6,none⟩ (.slice A n c)):=by
 have e2:tmps[2]?.getD undef= .pointer (some ⟨w.heap.size,0,none⟩):=by rw[t2];rfl
 have k0:=hk.set 0 (.int .i64 f.op)
 have l0:=hL.set (nR _) 0 (.int .i64 f.op)
 have x0:=hT.setF (i:=0) (u:= .int .i64 f.op) hk
 have k1:=k0.set 1 (.int .i64 f.n)
 have l1:=l0.set (nR _) 1 (.int .i64 f.n)
 have x1:=x0.setF (i:=1) (u:= .int .i64 f.n) k0
 have k2:=k1.set 2 (.string ⟨f.typ.toArray⟩)
 have l2:=l1.set (nR _) 2 (.string ⟨f.typ.toArray⟩)
 have x2:=x1.setF (i:=2) (u:= .string ⟨f.typ.toArray⟩) k1
 have k3:=k2.set 3 (.string ⟨f.val.toArray⟩)
 have l3:=l2.set (nR _) 3 (.string ⟨f.val.toArray⟩)
 have x3:=x2.setF (i:=3) (u:= .string ⟨f.val.toArray⟩) k2
 have k4:=k3.set 4 (.string ⟨f.ini.toArray⟩)
 have l4:=l3.set (nR _) 4 (.string ⟨f.ini.toArray⟩)
 have x4:=x3.setF (i:=4) (u:= .string ⟨f.ini.toArray⟩) k3
 have k5:=k4.set 5 (.string ⟨f.fin.toArray⟩)
 have l5:=l4.set (nR _) 5 (.string ⟨f.fin.toArray⟩)
 have x5:=x4.setF (i:=5) (u:= .string ⟨f.fin.toArray⟩) k4
 have k6:=k5.set 6 (.slice A n c)
 have l6:=l5.set (nR _) 6 (.slice A n c)
 have x6:=x5.setF (i:=6) (u:= .slice A n c) k5
 generalize hW:(((((((W.setCell ⟨w.heap.size,0,none⟩ (.int .i64 f.op)).setCell ⟨w.heap.size,1,none⟩ (.int .i64 f.n)).setCell ⟨w.heap.size,2,none⟩ (.string ⟨f.typ.toArray⟩)).setCell ⟨w.heap.size,3,none⟩ (.string ⟨f.val.toArray⟩)).setCell ⟨w.heap.size,4,none⟩ (.string ⟨f.ini.toArray⟩)).setCell ⟨w.heap.size,5,none⟩ (.string ⟨f.fin.toArray⟩)).setCell ⟨w.heap.size,6,none⟩ (.slice A n c))=W' at k6 l6 x6 ⊢
 have c0:=k6.cell 0
 have c1:=k6.cell 1
 have c2:=k6.cell 2
 have c3:=k6.cell 3
 have c4:=k6.cell 4
 have c5:=k6.cell 5
 have c6:=k6.cell 6
 simp only[Array.setIfInBounds,List.getElem?_toArray] at c0 c1 c2 c3 c4 c5 c6
 simp at c0 c1 c2 c3 c4 c5 c6
 refine bodyPost_ret (v:=x4_ f (.slice A n c)) ?_ rfl ⟨l6.bel,A,n,c,rfl,x6,hA,l6.rd⟩
 simp [results,Tryz.results53,go_sem,e2,c0,c1,c2,c3,c4,c5,c6,x4_]
theorem kp_:∀ (n:Nat) (s b:LU) (o l:LL) (r:LU),s.length≤n→Fil.valF s b o=some (l,r)→l≠[]∧r.length≤s.length
 |n,[],b,o,l,r,_,h=>by rw[Fil.valF.eq_def] at h;simp at h;obtain⟨rfl,rfl⟩:=h;simp
 |0,x::t,b,o,l,r,hn,h=>by simp at hn
 |n+1,x::t,b,o,l,r,hn,h=>by
  simp only[List.length_cons] at hn
  rw[Fil.valF_cons] at h
  by_cases h41:x=41
  ·rw[if_pos h41] at h;simp at h;obtain⟨rfl,rfl⟩:=h;simp
  rw[if_neg h41] at h
  by_cases h92:x=92
  ·rw[if_pos h92] at h
   match t,h with
   |[],h=>cases h
   |[a],h=>cases h
   |a::q::t',h=>
    simp only at h
    cases hu:zz_ [a,q] with
    |none=>rw[hu] at h;cases h
    |some y=>
     rw[hu] at h
     simp only[List.length_cons] at hn
     have:=kp_ n t' _ _ _ _ (by omega) h
     exact⟨this.1,by simp only[List.length_cons];omega⟩
  rw[if_neg h92] at h
  by_cases h40:x=40∨x=0
  ·rw[if_pos h40] at h;cases h
  rw[if_neg h40] at h
  by_cases h42:x=42
  ·rw[if_pos h42] at h
   have:=kp_ n t _ _ _ _ (by omega) h
   exact⟨this.1,by simp only[List.length_cons];omega⟩
  ·rw[if_neg h42] at h
   have:=kp_ n t _ _ _ _ (by omega) h
   exact⟨this.1,by simp only[List.length_cons];omega⟩
end Go.Proofs.YtbekpphodbekiaaGreatDoor
