import Derived.Test.YtbekpphodbekiaaGreatDoorV18
set_option linter.all false
set_option maxHeartbeats 8000000
set_option maxRecDepth 100000
namespace Go.Proofs.YtbekpphodbekiaaGreatDoor
open Go.RowKit
def AQOwn (W:World) (qs:List qn_):Prop:=∀ q∈qs,Own 0 W q.2 q.1.vals
theorem AQOwn.nil (w:World):AQOwn w []:=fun q hq=>(by cases hq)
theorem AQOwn.below {w w':World} {qs:List qn_} (h:AQOwn w qs) (hb:Bel w w'):AQOwn w' qs:=fun q hq=>(h q hq).below hb
theorem AQOwn.ok {w:World} {qs:List qn_} (h:AQOwn w qs):AQOk w qs:=fun q hq=>(h q hq).textsA
theorem AQOwn.far {w w':World} {qs:List qn_} {g:Nat} {t:TypeId} {cs:Array Value} (h:AQOwn w qs) (hg:Bk w g t cs) (ht:t≠9) (hw:w.grownBy w' (some g)):AQOwn w' qs:=fun q hq=>(h q hq).keep2 hw ((h q hq).apart hg ht)
theorem OwnAt.ty {B:Nat} {w:World} {v:Value} {qs:List qn_} (h:OwnAt B w v qs) {k:Nat} (hk:v.ownBlock=some k):∃ cs,Bk w k 43 cs:=by
 obtain⟨⟨h1,h2⟩,h3⟩:=h
 rcases h2 with ⟨rfl,hn⟩|⟨g,cap,cur,rfl,r2,r3,r4,r5,r6,r7⟩
 ·simp [Value.ownBlock] at hk
 ·have hgk:g=k:=by simpa [Value.ownBlock] using hk
  subst hgk
  exact⟨cur,r3⟩
theorem AQOwn.grown {B:Nat} {w w':World} {v:Value} {qs rs:List qn_} (h:AQOwn w qs) (hv:OwnAt B w v rs) (hg:w.grownBy w' v.ownBlock):AQOwn w' qs:=by
 cases hk:v.ownBlock with
 |none=>
  rw[hk] at hg
  exact fun q hq=>(h q hq).keep hg (fun k hk=>by cases hk)
 |some g=>
  obtain⟨cs,hb⟩:=hv.ty hk
  rw[hk] at hg
  exact h.far hb (by decide) hg
theorem AQOwn.app {w:World} {qs ys:List qn_} (h:AQOwn w qs) (h':AQOwn w ys):AQOwn w (qs++ys):=fun q hq=>(List.mem_append.1 hq).elim (h q) (h' q)
theorem AQOwn.one {w:World} {t:LU} {vs:LL} {v:Value} (h:Own 0 w v vs):AQOwn w [(⟨t,vs⟩,v)]:=fun q hq=>by rw[List.mem_singleton.1 hq];exact h
def EntRet (w:World) (R:Int × Ent.EntryE) (e:Ending) (w':World):Prop:=Bel w w'∧∃ (A:Option Addr) (c:Nat) (qs:List qn_),e= .returned (.tuple #[.agg #[.string ⟨R.2.dn.toArray⟩,.slice A R.2.attrs.length c],.int .i64 R.1])∧qs.map (·.1)=R.2.attrs∧OwnAt w.heap.size w' (.slice A R.2.attrs.length c) qs∧AQOwn w' qs
theorem EntRet.zero {w w':World} (hb:Bel w w') (k:Int):EntRet w (k,Ent.zeroE) (.returned (.tuple #[.agg #[.string ⟨#[]⟩,.slice none 0 0],.int .i64 k])) w':=
 ⟨hb,none,0,[],rfl,rfl,OwnAt.nil hb.size,AQOwn.nil _⟩
theorem OwnAt.keep2 {B:Nat} {w w':World} {v:Value} {qs:List qn_} (h:OwnAt B w v qs) {r:Option Nat} (hg:w.grownBy w' r) (hr:∀ k,v.ownBlock=some k→r≠some k):OwnAt B w' v qs:=by
 refine⟨h.1.kept hg ?_,nT h.2 hg.size⟩
 rcases hv:v.ownBlock with _|g
 ·exact .inl rfl
 ·refine .inr ?_
  intro he
  exact hr g hv he.symm
theorem OwnAt.apart {B g:Nat} {w:World} {v:Value} {qs:List qn_} {t:TypeId} {cs:Array Value} (h:OwnAt B w v qs) (hg:Bk w g t cs) (ht:t≠43):∀ k,v.ownBlock=some k→(some g:Option Nat)≠some k:=by
 intro k hk e
 cases e
 obtain⟨cs',h'⟩:=h.ty hk
 exact z4w_ hg h' ht rfl
theorem OwnAt.ne {B g:Nat} {w:World} {v:Value} {qs:List qn_} {t:TypeId} {cs:Array Value} (h:OwnAt B w v qs) (hg:Bk w g t cs) (ht:t≠43):(some g:Option Nat)≠v.ownBlock:=fun e=>h.apart hg ht g e.symm rfl
theorem z6g_ {S:Ent.SchE} (dn:LU):∀ (l:List Ent.AttrE),(∀ a∈l,Ent.RightA S a)→(l.map Ent.AttrE.typ).Nodup→(Ent.haveE S ⟨dn,l⟩).Nodup
 |[],_,_=>List.nodup_nil
 |a::l,h,hn=>by
  have hr:=h a (List.mem_cons_self ..)
  have e:Ent.haveE S ⟨dn,a::l⟩=((Ent.formsE S a.typ a.vals).getD []).map (fun n=>(a.typ,n))++Ent.haveE S ⟨dn,l⟩:=by
   unfold Ent.haveE
   rw[List.flatMap_cons]
  rw[e,Ent.forms_mk hr.ok,Option.getD_some]
  rw[List.map_cons,List.nodup_cons] at hn
  rw[List.nodup_append]
  refine⟨?_,z6g_ dn l (fun x hx=>h x (List.mem_cons_of_mem _ hx)) hn.2,?_⟩
  ·rw[List.nodup_iff_pairwise_ne,List.pairwise_map]
   exact(List.nodup_iff_pairwise_ne.1 hr.once).imp fun hne he=>hne (Prod.mk.inj he).2
  ·intro x hx y hy hxy
   subst hxy
   obtain⟨n,_,rfl⟩:=List.mem_map.1 hx
   unfold Ent.haveE at hy
   obtain⟨b,hb,hy⟩:=List.mem_flatMap.1 hy
   obtain⟨m,_,he⟩:=List.mem_map.1 hy
   exact hn.1 (List.mem_map.2 ⟨b,hb,(Prod.mk.inj he).1⟩)
theorem z4h_ {L:List DefS} (hlim:∀ d∈L,DefLim d) {a:Ent.AttrE} (h:Ent.RightA (zo_ L) a):a.typ.length≤1000000∧a.vals.length≤1000000:=by
 obtain⟨d,hd,hn⟩:=h.known
 have h1:=zaz_ hlim a.typ
 have h2:(zt_ L a.typ).name=a.typ:=by
  rw[z5t_]
  unfold Ent.nameE
  rw[hd]
  exact hn
 rw[h2] at h1
 have:=h.few
 exact⟨h1,by omega⟩
theorem z0d_ {w W:World} {r0 r1:Value} {tmps:Array Value} {R:Int × Ent.EntryE} {k:Int} (hz:Bk W w.heap.size 30 #[r0,r1]) (h6:tmps[6]?=some (.pointer (some ⟨w.heap.size,0,none⟩))) (h7:tmps[7]?=some (.int .i64 k))
  (h:EntRet w R (.returned (.tuple #[.agg #[r0,r1],.int .i64 k])) W):
  bodyPost Tryz.prog Tryz.f9 (EntRet w R) .ret {tmps:=tmps,defers:=[]} W:=by
 have e6:tmps[6]?.getD undef= .pointer (some ⟨w.heap.size,0,none⟩):=by rw[h6];rfl
 have e7:tmps[7]?.getD undef= .int .i64 k:=by rw[h7];rfl
 have c0:=hz.cell 0
 have c1:=hz.cell 1
 simp only[gs3] at c0 c1
 refine bodyPost_ret (v:= .tuple #[.agg #[r0,r1],.int .i64 k]) ?_ rfl h
 simp [results,Tryz.results9,go_sem,e6,e7,c0,c1]
structure MakeJ (w wr:World) (p:Nat) (nm:LU) (va:Value) (qs:List qn_):Prop where
 bel:Bel w wr
 res:Bk wr w.heap.size 30 #[.string ⟨#[]⟩,.slice none 0 0]
 out:Bk wr p 30 #[.string ⟨nm.toArray⟩,va]
 row:OwnAt w.heap.size wr va qs
 own:AQOwn wr qs
theorem MakeJ.below {w wr W:World} {p:Nat} {nm:LU} {va:Value} {qs:List qn_} (h:MakeJ w wr p nm va qs) (hb:Bel wr W):MakeJ w W p nm va qs:=⟨tQ h.bel hb,h.res.below hb,h.out.below hb,h.row.below hb,h.own.below hb⟩
theorem MakeJ.mid {w wr W:World} {p:Nat} {nm:LU} {va:Value} {qs:List qn_} (h:MakeJ w wr p nm va qs) (hg:wr.grownBy W va.ownBlock):Bk W p 30 #[.string ⟨nm.toArray⟩,va]:=h.out.grown hg (h.row.ne h.out (by decide))
theorem MakeJ.more {w wr W:World} {p:Nat} {nm:LU} {va v':Value} {qs:List qn_} {q:qn_} (h:MakeJ w wr p nm va qs) (hp:w.heap.size<p) (hq:Own 0 wr q.2 q.1.vals) (hO:OwnAt w.heap.size W v' (qs++[q])) (hg:wr.grownBy W va.ownBlock):MakeJ w (W.setCell ⟨p,1,none⟩ v') p nm v' (qs++[q]):=by
 have hP:=h.out.grown hg (h.row.ne h.out (by decide))
 have hR:=h.res.grown hg (h.row.ne h.res (by decide))
 have hP2:Bk (W.setCell ⟨p,1,none⟩ v') p 30 #[.string ⟨nm.toArray⟩,v']:=by simpa using hP.set 1 v'
 have hs:=z7_ W p 1 v'
 have hB:=h.bel.grown hg h.row.2 (fun k hk=>(h.row.lt k hk).1)
 have hQ:AQOwn W (qs++[q]):=AQOwn.grown (AQOwn.app h.own (fun x hx=>by rw[List.mem_singleton.1 hx];exact hq)) h.row hg
 exact⟨hB.setCell (Nat.le_of_lt hp) _,hR.grown hs (by intro e;have:=Option.some.inj e;omega),hP2,hO.keep2 hs (hO.apart hP (by decide)),hQ.far hP (by decide) hs⟩
theorem Make_c (s:Nat) (ps:List Nat) (L:List DefS) (hL:Sound L) (nm:LU) (l:List Ent.AttrE) (vl:Value) (w:World) (hw:Env w) (hS:SchAt w s ps L) (hv:AttrsA w vl l) (hl:l.length≤1048576) (hlt:∀ a∈l,a.typ.length≤140737488351232∧a.vals.length≤4611686018427387904):
  Calls Tryz.prog 9 #[.pointer (some ⟨s,0,none⟩),.string ⟨nm.toArray⟩,vl] w (EntRet w (Ent.makeE (zo_ L) nm l)):=by
 obtain⟨M,hM⟩:∃ M,Ent.makeE (zo_ L) nm l=M:=⟨_,rfl⟩
 rw[hM]
 have HK:Hid (∀ W:World,Bel w W→Calls Tryz.prog 17 #[.pointer (some ⟨s,0,none⟩),.string ⟨nm.toArray⟩] W fun e w'=>e= .returned (vd_ (z5u_ L nm))∧Bel W w'):=hiD fun W h=>Key_c s ps L hL nm W (hw.keep h) (hS.below h)
 have HAt:Hid (∀ (k:Nat) (hk:k<l.length) (va:Value) (qs:List qn_) (vh:Value) (W:World),Bel w W→TextsA W va l[k].vals→AttrsA W vh (qs.map (·.1))→qs.length≤1000000→Calls Tryz.prog 18 #[.pointer (some ⟨s,0,none⟩),.agg #[.string ⟨l[k].typ.toArray⟩,va],vh] W (y8_ W (Ent.attrE (zo_ L) l[k] (qs.map (·.1))))):=hiD fun k hk va qs vh W h ht hh hq=>zmf_ s ps L hL l[k] va (qs.map (·.1)) vh W (hw.keep h) (hS.below h) ht hh (hlt _ (List.getElem_mem hk)).1 (hlt _ (List.getElem_mem hk)).2 (by rw[List.length_map];exact hq)
 have HO:Hid (∀ (ats:List Ent.AttrE) (va:Value) (W:World),Ent.makeF (zo_ L) l []= .inr ats→Bel w W→AttrsA W va ats→ats.length≤1000→Calls Tryz.prog 19 #[.pointer (some ⟨s,0,none⟩),.agg #[.string ⟨nm.toArray⟩,va]] W fun e w'=>e= .returned (.bool (Ent.ownE (zo_ L) ⟨nm,ats⟩))∧Bel W w'):=hiD fun ats va W hF h hA hn=>by
  obtain⟨r1,r2,_⟩:=Ent.makeF_right (z2n_ hL.says) l [] ats (fun a ha=>by cases ha) List.nodup_nil hF
  exact own_c s ps L hL nm ats va W (hw.keep h) (hS.below h) hA hn (fun a ha=>z4h_ hL.lim (r1 a ha)) (z6g_ nm ats r1 r2)
 have hM0:(if (z5u_ L nm).1 !=0 then (34,Ent.zeroE) else if 100<l.length then (19,Ent.zeroE) else match Ent.makeF (zo_ L) l [] with
  | .inl c=>(c,Ent.zeroE)
  | .inr ats=>if Ent.ownE (zo_ L) ⟨nm,ats⟩ then (0,⟨nm,ats⟩) else (64,Ent.zeroE))=M:=hM
 obtain⟨Al,cl,rfl,hcl,hcell⟩:=hv.at
 have HV:=hiD hcell
 clear hv hcell hS hw hM
 obtain⟨kp,hkp⟩:∃ p,z5u_ L nm=p:=⟨_,rfl⟩
 rw[hkp] at HK hM0
 obtain⟨kc,kn⟩:=kp
 unfold vd_ at HK
 simp only at HK hM0
 clear hkp
 have hR0:=Bk.new w 30 #[.string ⟨#[]⟩,.slice none 0 0]
 have hb0:=qa_ w (.cells #[.string ⟨#[]⟩,.slice none 0 0] 30)
 by_cases hk:kc=0
 ·subst hk
  by_cases h100:100<l.length
  ·have hM1:M=(19,Ent.zeroE):=by rw[← hM0];simp [h100]
   subst hM1
   clear HAt HO HV hM0 hlt
   go_enter Tryz.func9,Tryz.ntmps9
   go_wp2_with (go_at_call 17;(with_reducible refine(HK.out _ hb0).mono ?_);rintro e w1 ⟨rfl,hb1⟩;have hB1:=tQ hb0 hb1;have hR1:=hR0.below hb1;have r0:=hR1.cell 0;have r1:=hR1.cell 1;simp only[gs3] at r0 r1;have of:=fun i=>hR1.frozen i)
   have hz:=ji_ _ _ (.string ⟨#[]⟩) (.slice none 0 0) hR1
   exact z0d_ hz rfl rfl (EntRet.zero (zx_ hB1 (nR _) _ _) 19)
  ·have hM1:(match Ent.makeF (zo_ L) l [] with
    | .inl c=>(c,Ent.zeroE)
    | .inr ats=>if Ent.ownE (zo_ L) ⟨nm,ats⟩ then (0,⟨nm,ats⟩) else (64,Ent.zeroE))=M:=by rw[← hM0];simp [h100]
   have HM:=hiD hM1
   clear hM0 hM1 hlt
   go_enter Tryz.func9,Tryz.ntmps9
   go_wp2_with (go_at_call 17;(with_reducible refine(HK.out _ hb0).mono ?_);rintro e w1 ⟨rfl,hb1⟩;have hB1:=tQ hb0 hb1;have hR1:=hR0.below hb1;have r0:=hR1.cell 0;have r1:=hR1.cell 1;simp only[gs3] at r0 r1;have of:=fun i=>hR1.frozen i)
   have hp:w.heap.size<w1.heap.size:=by have:=hb1.size;rw[World.size_alloc] at this;omega
   have hP0:=qa_ w1 (.cells #[.string ⟨nm.toArray⟩,.slice none 0 0] 30)
   have hJ0:MakeJ w (w1.alloc (.cells #[.string ⟨nm.toArray⟩,.slice none 0 0] 30)) w1.heap.size nm (.slice none 0 0) []:=⟨tQ hB1 hP0,hR1.below hP0,Bk.new w1 _ _,OwnAt.nil (nT hB1.size hP0.size),AQOwn.nil _⟩
   go_loopg [32] l.length (fun gk i wr=>∃ (k:Nat) (qs:List qn_) (A:Option Addr) (c:Nat),k≤l.length∧i= .int .i64 k∧Aside (k+gk=l.length)∧Aside (qs.length=k)∧Aside (MakeJ w wr w1.heap.size nm (.slice A qs.length c) qs)∧Aside (Ent.makeF (zo_ L) (l.drop k) (qs.map (·.1))=Ent.makeF (zo_ L) l []))
   case atStart=>exact⟨0,[],none,0,by omega,rfl,by show _=_;omega,rfl,hJ0,rfl⟩
   case round=>
    clear hJ0 hP0 r0 r1 of hR1 hR0 hb0
    obtain⟨k,qs,A,c,hk,rfl,AG,AQ,AJ,AS⟩:=hrel
    by_cases hlt:k<l.length
    ·obtain⟨q,rfl⟩:∃ q,gk=q+1:=⟨gk - 1,by have:=AG.out;omega⟩
     obtain⟨b,o,va,rfl,c0,c1,hta⟩:=HV.out k hlt
     obtain⟨Av,nv,cv,rfl⟩:∃ A n c,va= .slice A n c:=by
      obtain⟨A,c,h,_⟩:=hta.at
      exact⟨A,_,c,h⟩
     have d0:=cQ AJ.out.bel c0
     have d1:=cQ AJ.out.bel c1
     have hadd:=jl_
     have hstep:(match Ent.attrE (zo_ L) l[k] (qs.map (·.1)) with
      | .inl c=>Ent.makeF (zo_ L) l []= .inl c
      | .inr b=>Ent.makeF (zo_ L) (l.drop (k+1)) (qs.map (·.1)++[b])=Ent.makeF (zo_ L) l []):=by
      have:=AS.out
      rw[List.drop_eq_getElem_cons hlt,Ent.makeF] at this
      revert this
      cases Ent.attrE (zo_ L) l[k] (qs.map (·.1)) with
      |inl c=>exact fun h=>h.symm
      |inr b=>exact fun h=>h
     have hba:=qa_ wr (.cells #[.string ⟨l[k].typ.toArray⟩,.slice Av nv cv] 43)
     have hka:=Bk.new wr 43 #[.string ⟨l[k].typ.toArray⟩,.slice Av nv cv]
     have hJa:=AJ.out.below hba
     have HC:=hiD (HAt.out k hlt (.slice Av nv cv) qs (.slice A qs.length c) _ hJa.bel (hta.below hJa.bel) (hJa.row.attrs hJa.own.ok) (by have:=AQ.out;omega))
     have x0:=hka.cell 0
     have x1:=hka.cell 1
     have p1:=hJa.out.cell 1
     simp only[gs3] at x0 x1 p1
     clear AS c0 c1 hta AJ hka
     generalize l[k]=x at *
     obtain⟨typ,vals⟩:=x
     simp only at d0 x0 x1 HC hba hJa p1
     generalize Ent.attrE (zo_ L) ⟨typ,vals⟩ (qs.map (·.1))=r at *
     cases r with
     |inl code=>
      unfold y8_ at HC
      simp only at HC hstep
      by_cases hcz:code=0
      ·go_wp2_with (go_at_call 18;(with_reducible refine HC.out.mono ?_);rintro e w3 ⟨hb3,A3,n3,c3,k3,t3,rfl,rfl,hne⟩;exact absurd hcz hne)
      have hcb:(code !=0)=true:=bne_iff_ne.2 hcz
      have hM2:M=(code,Ent.zeroE):=by have:=HM.out;rw[hstep] at this;exact this.symm
      subst hM2
      clear HM hstep HO HAt
      go_wp2_with (go_at_call 18;(with_reducible refine HC.out.mono ?_);rintro e w3 ⟨hb3,A3,n3,c3,k3,t3,rfl,rfl,hne⟩;have hJ3:=hJa.below hb3;have hbb:=qa_ w3 (.cells #[.string ⟨t3⟩,.slice A3 n3 c3] 43);have hJ4:=hJ3.below hbb;have r0:=hJ4.res.cell 0;have r1:=hJ4.res.cell 1;simp only[gs3] at r0 r1;have of:=fun i=>hJ4.res.frozen i)
      have hz:=ji_ _ _ (.string ⟨#[]⟩) (.slice none 0 0) hJ4.res
      exact z0d_ hz rfl rfl (EntRet.zero (zx_ hJ4.bel (nR _) _ _) _)
     |inr nb=>
      unfold y8_ at HC
      simp only at HC hstep
      obtain⟨bt,bv⟩:=nb
      simp only at HC hstep
      have HST:=hiD hstep
      have hq6:qs.length<1000000:=by have:=AQ.out;omega
      clear hstep
      go_wp2_with (first
       |(go_at_call 18;(with_reducible refine HC.out.mono ?_);rintro e w3 ⟨hb3,A3,n3,c3,k3,t3,rfl,rfl,rfl,rfl,hO3⟩;have hJ3:=hJa.below hb3;have hbb:=qa_ w3 (.cells #[.string ⟨bt.toArray⟩,.slice A3 bv.length c3] 43);have hJ4:=hJ3.below hbb;have hkb:=Bk.new w3 43 #[.string ⟨bt.toArray⟩,.slice A3 bv.length c3];have hO4:=(hO3.lower (Nat.zero_le _)).below hbb;have HSZ:Hid (w3.heap.size+1=(w3.alloc (.cells #[.string ⟨bt.toArray⟩,.slice A3 bv.length c3] 43)).heap.size):=hiD (by simp);have y0:=hkb.cell 0;have y1:=hkb.cell 1;have p4:=hJ4.out.cell 1;simp only[gs3] at y0 y1 p4)
       |(at_builtin;refine zfm_ (N:=w3.heap.size+1) (t:=bt) (vals:=bv) rfl _ _ rfl rfl rfl hJ4.row rfl HSZ.out hq6 ?_;intro v' w5 hO5 hg5;obtain⟨A5,c5,rfl,_⟩:=hO5.isSlice;have hJ5:=hJ4.more hp hO4 hO5 hg5;have hP5:=hJ4.mid hg5;have p5:=hP5.cell 1;simp only[gs3] at p5;have of5:=fun i=>hP5.frozen i))
      go_roundg q
      case measure=>omega
      case rel=>exact⟨k+1,qs++[(⟨bt,bv⟩,.slice A3 bv.length c3)],A5,c5,by omega,by go_num,by have:=AG.out;show _=_;omega,by have:=AQ.out;show _=_;rw[List.length_append,List.length_singleton];omega,(by have h:=hJ5;simp only[List.length_append,List.length_cons,List.length_nil,Nat.zero_add] at h ⊢;exact h),by show _=_;rw[List.map_append];exact HST.out⟩
    ·obtain rfl:k=l.length:=by omega
     have hfin:Ent.makeF (zo_ L) l []= .inr (qs.map (·.1)):=by have:=AS.out;rw[List.drop_length] at this;exact this.symm
     have hJ:=AJ.out
     have HO2:=hiD (HO.out _ (.slice A qs.length c) wr hfin hJ.bel (hJ.row.attrs hJ.own.ok) (by have:=AQ.out;rw[List.length_map];omega))
     have hM2:=HM.out
     rw[hfin] at hM2
     simp only at hM2
     have p0:=hJ.out.cell 0
     have p1:=hJ.out.cell 1
     simp only[gs3] at p0 p1
     clear AS AJ hfin HM HO HAt HV
     cases hown:Ent.ownE (zo_ L) ⟨nm,qs.map (·.1)⟩
     ·rw[hown] at hM2 HO2
      have hM3:M=(64,Ent.zeroE):=by rw[← hM2];rfl
      subst hM3
      clear hM2 hown
      go_wp2_with (go_at_call 19;(with_reducible refine HO2.out.mono ?_);rintro e w3 ⟨rfl,hb3⟩;have hJ4:=hJ.below hb3;have r0:=hJ4.res.cell 0;have r1:=hJ4.res.cell 1;simp only[gs3] at r0 r1;have of:=fun i=>hJ4.res.frozen i)
      have hz:=ji_ _ _ (.string ⟨#[]⟩) (.slice none 0 0) hJ4.res
      exact z0d_ hz rfl rfl (EntRet.zero (zx_ hJ4.bel (nR _) _ _) 64)
     ·rw[hown] at hM2 HO2
      have hM3:M=(0,⟨nm,qs.map (·.1)⟩):=by rw[← hM2];rfl
      subst hM3
      clear hM2 hown
      go_wp2_with (go_at_call 19;(with_reducible refine HO2.out.mono ?_);rintro e w3 ⟨rfl,hb3⟩;have hJ4:=hJ.below hb3;have r0:=hJ4.res.cell 0;have r1:=hJ4.res.cell 1;have q0:=hJ4.out.cell 0;have q1:=hJ4.out.cell 1;simp only[gs3] at r0 r1 q0 q1;have of:=fun i=>hJ4.res.frozen i)
      have hz:=ji_ _ _ (.string ⟨nm.toArray⟩) (.slice A qs.length c) hJ4.res
      have hgr:=z5p_ w3 w.heap.size (.string ⟨nm.toArray⟩) (.slice A qs.length c)
      refine z0d_ hz rfl rfl ⟨zx_ hJ4.bel (nR _) _ _,A,c,qs,?_,rfl,?_,hJ4.own.far hJ4.res (by decide) hgr⟩
      ·simp only[List.length_map]
      ·simp only[List.length_map]
       exact hJ4.row.keep2 hgr (hJ4.row.apart hJ4.res (by decide))
 ·have hkb:(kc !=0)=true:=bne_iff_ne.2 hk
  have hM1:M=(34,Ent.zeroE):=by rw[← hM0,hkb];rfl
  subst hM1
  clear HAt HO HV hM0 hlt
  go_enter Tryz.func9,Tryz.ntmps9
  go_wp2_with (go_at_call 17;(with_reducible refine(HK.out _ hb0).mono ?_);rintro e w1 ⟨rfl,hb1⟩;have hB1:=tQ hb0 hb1;have hR1:=hR0.below hb1;have r0:=hR1.cell 0;have r1:=hR1.cell 1;simp only[gs3] at r0 r1;have of:=fun i=>hR1.frozen i)
  have hz:=ji_ _ _ (.string ⟨#[]⟩) (.slice none 0 0) hR1
  exact z0d_ hz rfl rfl (EntRet.zero (zx_ hB1 (nR _) _ _) 34)
open Go.RowKit
theorem za5_:∀ (l:List Ent.AttrE),(∀ a∈l,a.vals.length≤200)→yj_ l≤l.length * 200
 |[],_=>by simp [yj_]
 |a::l,h=>by
  have h1:=za5_ l (fun b hb=>h b (List.mem_cons_of_mem _ hb))
  have h2:=h a (List.mem_cons_self ..)
  rw[z5m_,List.length_cons]
  omega
theorem zi9_ {nm:LU} {l:List Ent.AttrE} {k:Int} {en:Ent.EntryE} (h:Ent.makeE (zo_ baseL) nm l=(k,en)):en.attrs.length≤1000∧yj_ en.attrs≤1000000∧∀ a∈en.attrs,a.typ.length≤1000000:=by
 by_cases hk:k=0
 ·subst hk
  have hr:=(Ent.make_right (z2n_ base_sound.says) h).1
  have hf:=hr.few
  refine⟨by omega,?_,fun a ha=>(z4h_ base_sound.lim (hr.all a ha)).1⟩
  have:=za5_ en.attrs (fun a ha=>(hr.all a ha).few)
  omega
 ·have:=Ent.make_code (S:=zo_ baseL) (nm:=nm) (l:=l) (by rw[h];exact hk)
  rw[h] at this
  have h2:en=Ent.zeroE:=this
  subst h2
  exact⟨Nat.zero_le _,Nat.zero_le _,fun a ha=>by cases ha⟩
def zqk_ (w:World) (R:Int × Ent.EntryE) (r:Ending) (w':World):Prop:=Bel w w'∧∃ A c,r= .returned (.tuple #[.agg #[.string ⟨R.2.dn.toArray⟩,.slice A R.2.attrs.length c],.int .i64 R.1])∧AttrsA w' (.slice A R.2.attrs.length c) R.2.attrs
theorem EntRet.mk8 {w w':World} {R:Int × Ent.EntryE} {r:Ending} (h:EntRet w R r w'):zqk_ w R r w':=by
 obtain⟨hb,A,c,qs,rfl,hq,hO,hQ⟩:=h
 have hA:=hO.attrs hQ.ok
 rw[hq] at hA
 exact⟨hb,A,c,rfl,hA⟩
theorem zpl_ (s:Nat) (ps:List Nat) (nm:LU) (l:List Ent.AttrE) (vl:Value) (w:World) (hw:Env w) (hS:SchAt w s ps baseL) (hv:AttrsA w vl l) (hl:l.length≤1000) (hlt:∀ a∈l,a.typ.length≤140737488351232∧a.vals.length≤4611686018427387904):
  Calls Tryz.prog 9 #[.pointer (some ⟨s,0,none⟩),.string ⟨nm.toArray⟩,vl] w (zqk_ w (Ent.makeE (zo_ baseL) nm l)):=(Make_c s ps baseL base_sound nm l vl w hw hS hv (by omega) hlt).mono fun _ _ h=>h.mk8
def Good8 (k:Nat) (L:List Fil.FilE):Prop:=L.length≤k∧∀ p∈L,zki_ p∧p.n≤9223372036854775807
theorem zrd_ (op:Int) (n:Nat):zki_ (Fil.opE op n):=⟨Nat.zero_le _,Nat.zero_le _,Nat.zero_le _,fun x hx=>by
 simp only[Fil.opE,List.append_nil,List.singleton_append,List.mem_cons,List.not_mem_nil,or_false] at hx
 rcases hx with rfl|rfl<;>exact Nat.zero_le _⟩
theorem Good8.op {k:Nat} {L:List Fil.FilE} (h:Good8 k L) (op:Int) (n:Nat) (hn:n≤1000):Good8 (k+1) (Fil.opE op n::L):=by
 refine⟨by rw[List.length_cons];have:=h.1;omega,fun p hp=>?_⟩
 rcases List.mem_cons.1 hp with rfl|hp
 ·exact⟨zrd_ op n,by show (n:Int)≤_;omega⟩
 ·exact h.2 p hp
theorem Good8.app {k m:Nat} {L M:List Fil.FilE} (h:Good8 k L) (h2:Good8 m M):Good8 (k+m) (L++M):=by
 refine⟨by rw[List.length_append];have:=h.1;have:=h2.1;omega,fun p hp=>?_⟩
 rcases List.mem_append.1 hp with hp|hp
 ·exact h.2 p hp
 ·exact h2.2 p hp
theorem Good8.nil:Good8 0 []:=⟨nR _,fun p hp=>by cases hp⟩
theorem Good8.lim {k:Nat} {L:List Fil.FilE} (h:Good8 k L) (hk:k≤100000):LimF L:=⟨by have:=h.1;omega,fun p hp=>(h.2 p hp).1⟩
theorem Good8.fit {k:Nat} {L:List Fil.FilE} (h:Good8 k L):z61_ L:=fun p hp=>(h.2 p hp).2
def z13_ (en:Ent.EntryE):Fil.FilE→Int:=vp_ baseL en (z4k_ baseL en)
theorem zqa_ (s:Nat) (ps:List Nat) (en:Ent.EntryE) (A:Option Addr) (n c:Nat) (w:World) (hw:Env w) (hS:SchAt w s ps baseL) (hv:AttrsA w (.slice A n c) en.attrs) (hl:en.attrs.length≤1000∧yj_ en.attrs≤1000000∧∀ a∈en.attrs,a.typ.length≤1000000)
  {k:Nat} {L:List Fil.FilE} (h:Good8 k L) (hk:k≤100000) {r:Int} (hr:Fil.evalL (z13_ en) L=r) (v:Value) (W:World) (hb:Bel w W) (hf:FilsA W v L):
  Calls Tryz.prog 10 #[.pointer (some ⟨s,0,none⟩),.agg #[.string ⟨en.dn.toArray⟩,.slice A n c],v] W fun e w'=>e= .returned (.int .i64 r)∧Bel W w':=by
 subst hr
 exact zgk_ s ps baseL base_sound en.dn (.slice A n c) ⟨_,_,_,rfl⟩ L v W (hw.keep hb) hf (hS.below hb) _ ((znp_ base_sound hw hS hv hl.1 hl.2.1 hl.2.2).below hb) (h.lim hk) h.fit
theorem PartsA.below {w w':World} {v:Value} {ls:List (List Fil.FilE)} (h:PartsA w v ls) (hb:Bel w w'):PartsA w' v ls:=by
 obtain⟨vs,A,c,e,h1,h2⟩:=h
 refine⟨vs,A,c,e,fun j hj=>?_,?_⟩
 ·obtain⟨g,hA,hc⟩:=h1 j hj
  exact⟨g,hA,cQ hb hc⟩
 ·clear h1 e
  induction h2 with
  |nil=>exact .nil
  |cons h _ ih=>exact .cons (h.below hb) ih
theorem vu_ (fold:Bool):∀ (rs acc:List Int),(z4u_ fold rs acc).isSome=rs.all (fun r=>decide ((zdb_ r).2≠2))
 |[],acc=>rfl
 |r::rs,acc=>by
  rw[z4u_,List.all_cons]
  by_cases h:(zdb_ r).2=2
  ·rw[if_pos h];simp [h]
  ·rw[if_neg h]
   by_cases h1:(zdb_ r).2=1
   ·rw[if_pos h1,vu_ fold rs acc];simp [h]
   ·rw[if_neg h1,vu_ fold rs _];simp [h]
theorem vx_ (v:LU) (fold:Bool):(xx_ v fold).isSome=(Lib.validD v && (jn_ v).all (fun r=>decide ((zdb_ r).2≠2))):=by
 rw[prep_G]
 unfold zpb_
 cases hv:Lib.validD v
 ·rfl
 ·simp only[if_true,Bool.true_and]
  rw[← vu_ fold (jn_ v) []]
  cases z4u_ fold (jn_ v) []<;>rfl
theorem zkb_ (v:LU) (fold:Bool):(xx_ v fold).isSome=(xx_ v false).isSome:=by rw[vx_,vx_]
theorem z5o_:∀ (v:LU),y5_ v=true→∀ b∈v,b.toNat<128
 |[],_,b,hb=>by cases hb
 |c::r,h,b,hb=>by
  simp only[y5_,Bool.and_eq_true,decide_eq_true_eq] at h
  rcases List.mem_cons.1 hb with rfl|hb
  ·exact h.1
  ·exact z5o_ r h.2 b hb
theorem z1x_:∀ (n:Nat) (v:LU),(∀ b∈v,b.toNat<128)→∀ r∈xo_ n v,0≤r∧r<128
 |0,v,_,r,hr=>by cases v<;>cases hr
 |n+1,[],_,r,hr=>by cases hr
 |n+1,b::l,h,r,hr=>by
  have hb:=h b (List.mem_cons_self ..)
  rw[xo_,Lib.decodeL_ascii b l hb] at hr
  rcases List.mem_cons.1 hr with rfl|hr
  ·simp only;omega
  ·exact z1x_ n l (fun x hx=>h x (List.mem_cons_of_mem _ hx)) r hr
theorem zg3_ (v:LU) (fold:Bool) (h:y5_ v=true):(xx_ v fold).isSome=true:=by
 have hm:=z5o_ v h
 rw[vx_,Bool.and_eq_true]
 refine⟨?_,?_⟩
 ·rw[Lib.validD_ascii v.length v (fun b hb=>hm b (List.mem_of_mem_take hb)),List.drop_length]
  rfl
 ·rw[List.all_eq_true]
  intro r hr
  have:=z1x_ _ v hm r hr
  rw[decide_eq_true_eq]
  unfold zdb_
  split
  ·decide
  ·split
   ·decide
   ·rw[if_neg (by unfold zeg_;omega)];simp
theorem z8t_ {f v:LU} (hf:f=va_∨f=x9_) (h:qc_ f v=true) (fold:Bool):(xx_ v fold).isSome=true:=by
 simp only[qc_,Bool.and_eq_true] at h
 rcases hf with rfl|rfl
 ·have h2:zjl_ v=true:=h.2
  unfold zjl_ at h2
  rw[Bool.and_eq_true] at h2
  rw[zkb_];exact h2.2
 ·exact zg3_ v fold h.2
def okA (a:AttrS):Bool:=zd_ a.name && zd_ a.oid &&
 (a.ordr==[]||(match z7j_ (z2_ a.ordr) 1 with
  |none=>false
  |some x=>x.2.2.1.contains a.form && (match x.2.2.2 with
   | .self=>true
   | .oid=>true
   | .text _=>a.form==va_||a.form==x9_
   | .name=>false))) &&
 (a.subs==[]||((a.form==va_||a.form==x9_) && (z7j_ (z2_ a.subs) 2).isSome))
theorem zeu_:((List.range baseL.length).all fun i=>match q6_ baseL i with
 |none=>true
 |some a=>okA a)=true:=by decide+kernel
theorem zkj_ {t:LU} {x:AttrS} (h:qp_ baseL t=some x):okA x=true:=by
 obtain⟨j,d,_,hd,_,hc,_,_⟩:=kj_ h
 have hj:j<baseL.length:=(List.getElem?_eq_some_iff.1 hd).1
 have:=List.all_eq_true.1 zeu_ j (List.mem_range.2 hj)
 rw[hc] at this
 exact this
structure RightV (en:Ent.EntryE) (a:Ent.AttrE) (x:AttrS):Prop where
 att:qp_ baseL a.typ=some x
 name:x.name=a.typ
 ok:okA x=true
 vals:∀ v∈a.vals,(zf_ baseL a.typ v).1=0∧qc_ x.form v=true∧(x.eqr≠[]→kv_ x.eqr v=zf_ baseL a.typ v)∧v∈Ent.findE (zo_ baseL) en a.typ
 some:a.vals≠[]
 oid:qq_ baseL x.oid=0∧∀ v∈a.vals,v∈Ent.findE (zo_ baseL) en x.oid
theorem zbh_ {L:List DefS} {t v:LU} {x:AttrS} (hx:qp_ L t=some x) (h:(zf_ L t v).1=0):qc_ x.form v=true∧(x.eqr≠[]→kv_ x.eqr v=zf_ L t v):=by
 unfold zf_ at h ⊢
 unfold qp_ at hx
 cases hf:zg_ L false t with
 |none=>rw[hf] at hx;cases hx
 |some i=>
  rw[hf] at hx h
  simp only at hx h ⊢
  rw[hx] at h
  simp only at h
  rw[hx]
  simp only
  cases hv:qc_ x.form v
  ·rw[hv] at h;cases h
  ·refine⟨rfl,fun he=>?_⟩
   rw[if_pos rfl,if_neg (by simpa using he)]
theorem z3z_ {L:List DefS} {t:LU} {d:Ent.InfoE} (h:(zo_ L).attr t=some d):∃ x,qp_ L t=some x∧z6m_ x=d:=Option.map_eq_some_iff.1 h
theorem zc8_ {L:List DefS} {t v:LU} (h:Ent.okF (zo_ L) t v=true):(zf_ L t v).1=0:=Ent.ok_norm.1 h
theorem zq2_ {nm:LU} {l:List Ent.AttrE} {en:Ent.EntryE} (he:Ent.makeE (zo_ baseL) nm l=(0,en)) {a:Ent.AttrE} (ha:a∈en.attrs):∃ x,RightV en a x:=by
 have hS:=z2n_ base_sound.says
 have hr:=(Ent.make_right hS he).1.all a ha
 obtain⟨d,hd,hn⟩:=hr.known
 obtain⟨x,hx,rfl⟩:=z3z_ hd
 have hod:=hS.oidSame _ _ hd
 have hin:∀ t,(zo_ baseL).attr t=some (z6m_ x)→∀ v∈a.vals,v∈Ent.findE (zo_ baseL) en t:=fun t ht v hv=>by
  unfold Ent.findE
  refine List.mem_flatMap.2 ⟨a,ha,?_⟩
  rw[if_pos (hS.subSame _ _ _ hd ht)]
  exact hv
 refine⟨x,hx,hn,zkj_ hx,fun v hv=>?_,hr.some,?_,hin _ hod⟩
 ·have h0:(zf_ baseL a.typ v).1=0:=zc8_ (hr.ok v hv)
  have hp:=zbh_ hx h0
  exact⟨h0,hp.1,hp.2,hin _ hd v hv⟩
 ·obtain⟨y,hy,_⟩:=z3z_ hod
  have hy:qp_ baseL x.oid=some y:=hy
  unfold qq_
  rw[hy];rfl
theorem kh_ (leaf:Fil.FilE→Int) (p:Fil.FilE) (hop:3≤p.op) (hs:Fil.shapeB p=true) (hn:p.n=0):Fil.evalL leaf [p]=leaf p:=by
 have hw:Fil.wholeF 20 [p]=some []:=by
  rw[Fil.wholeF,if_pos hs,hn];rfl
 have hv:Fil.validF [p]=true:=by
  unfold Fil.validF
  rw[hw]
  simp
 unfold Fil.evalL
 rw[if_pos hv,Fil.evalF,if_neg (by omega),if_neg (by omega),if_neg (by omega)]
section
variable {en:Ent.EntryE} {a:Ent.AttrE} {x:AttrS} (h:RightV en a x) {v:LU} (hv:v∈a.vals)
include h
theorem RightV.typ:zd_ a.typ=true∧zd_ x.oid=true:=by
 have:=h.ok
 unfold okA at this
 simp only[Bool.and_eq_true] at this
 rw[← h.name]
 exact⟨this.1.1.1,this.1.1.2⟩
theorem RightV.attr:qq_ baseL a.typ=0∧zt_ baseL a.typ=x:=by
 unfold qq_ zt_
 rw[h.att]
 exact⟨rfl,rfl⟩
theorem zb2_ (op:Int) (hop:op=3∨op=5∨op=6):Fil.shapeB ⟨op,0,a.typ,v,[],[],[]⟩=true:=by
 unfold Fil.shapeB
 rw[if_neg (by simp only;omega),if_pos (by simp only;omega)]
 simp [h.typ.1]
include hv
theorem zp6_ (he:x.eqr≠[]):Fil.evalL (z13_ en) [⟨3,0,a.typ,v,[],[],[]⟩]=1:=by
 obtain⟨h0,_,h2,h3⟩:=h.vals v hv
 rw[kh_ _ _ (by simp) (zb2_ h 3 (by decide)) rfl]
 unfold z13_ vp_
 rw[if_pos h.attr.1,if_pos (by simp),h.attr.2]
 unfold z9z_
 rw[if_neg he,if_pos h0]
 have:(Ent.findE (zo_ baseL) en a.typ).any (zcd_ x.eqr (zf_ baseL a.typ v).2)=true:=by
  refine List.any_eq_true.2 ⟨v,h3,?_⟩
  unfold zcd_
  rw[h2 he,h0]
  simp
 rw[this]
 rfl
theorem zfr_ {y:z5b_} (hy:z7j_ (z2_ x.ordr) 1=some y) (ho:x.ordr≠[]):∃ m,yo_ y v=some m:=by
 obtain⟨_,h1,_,_⟩:=h.vals v hv
 have hok:=h.ok
 unfold okA at hok
 simp only[Bool.and_eq_true] at hok
 have h2:=hok.1.2
 rw[hy] at h2
 simp only[Bool.or_eq_true,beq_iff_eq,Bool.and_eq_true] at h2
 rcases h2 with h2|⟨h2,h3⟩
 ·exact absurd h2 ho
 have hl:v.length≤1024:=by
  simp only[qc_,Bool.and_eq_true,decide_eq_true_eq] at h1
  exact h1.1
 have hany:y.2.2.1.any (fun f=>qc_ f v)=true:=List.any_eq_true.2 ⟨x.form,List.contains_iff_mem.1 h2,h1⟩
 unfold yo_
 rw[decide_eq_true hl,hany]
 obtain⟨y1,y2,y3,y4⟩:=y
 simp only at h3 ⊢
 cases y4 with
 |self=>exact⟨v,rfl⟩
 |oid=>exact⟨z2_ v,rfl⟩
 |name=>cases h3
 |text fold=>
  simp only[Bool.or_eq_true,beq_iff_eq] at h3
  obtain⟨m,hm⟩:=Option.isSome_iff_exists.1 (z8t_ h3 h1 fold)
  exact⟨m,by simp only[Bool.and_true,if_true];exact hm⟩
end
theorem z8m_ (p:LU):z11_ p p=0:=(z4m_ p p).2 rfl
theorem zji_ (p:LU):zjz_ p p=0:=by
 unfold zjz_
 cases Lib.hasPrefix p [45]<;>simp [z8m_,orV,Lib.compareInt]
section
variable {en:Ent.EntryE} {a:Ent.AttrE} {x:AttrS} (h:RightV en a x) {v:LU} (hv:v∈a.vals)
include h hv
theorem zk1_ (op:Int) (hop:op=5∨op=6) (ho:x.ordr≠[]):Fil.evalL (z13_ en) [⟨op,0,a.typ,v,[],[],[]⟩]=1:=by
 obtain⟨h0,h1,_,h3⟩:=h.vals v hv
 have hz:xk_ x.ordr v v=(0,0):=by
  unfold xk_
  have hok:=h.ok
  unfold okA at hok
  simp only[Bool.and_eq_true] at hok
  have h2:=hok.1.2
  cases hy:z7j_ (z2_ x.ordr) 1 with
  |none=>
   rw[hy] at h2
   simp only[Bool.or_false,beq_iff_eq] at h2
   exact absurd h2 ho
  |some y=>
   obtain⟨m,hm⟩:=zfr_ h hv hy ho
   simp only
   unfold zf7_
   rw[hm]
   simp only[z9d_]
   split
   ·rw[zji_]
   ·rw[z8m_]
 rw[kh_ _ _ (by simp only;omega) (zb2_ h op (by omega)) rfl]
 unfold z13_ vp_
 rw[if_pos h.attr.1,if_neg (by simp only;omega),if_pos (by simpa using hop),h.attr.2]
 unfold z1o_
 rw[hz]
 simp only[if_true]
 have:(Ent.findE (zo_ baseL) en a.typ).any (z3y_ x.ordr op v)=true:=by
  refine List.any_eq_true.2 ⟨v,h3,?_⟩
  unfold z3y_
  rw[hz]
  simp
 rw[this]
 rfl
theorem zbt_ (op:Int) (hop:op=5∨op=6) (ho:x.ordr=[]):Fil.evalL (z13_ en) [⟨op,0,a.typ,v,[],[],[]⟩]=2:=by
 rw[kh_ _ _ (by simp only;omega) (zb2_ h op (by omega)) rfl]
 unfold z13_ vp_
 rw[if_pos h.attr.1,if_neg (by simp only;omega),if_pos (by simpa using hop),h.attr.2,ho]
 unfold z1o_
 have hz:∀ u:LU,xk_ [] u u=(0,41):=fun u=>by
  unfold xk_
  rw[show z7j_ (z2_ []) 1=none by decide+kernel]
 simp only
 rw[hz]
 rfl
end
/-! The first character as a piece. -/
def fcB (fold:Bool) (c:UInt8):UInt8:=if fold && decide (65≤c.toNat∧c.toNat≤90) then c+32 else c
theorem zfv_:((List.range 94).all fun i=>[true,false].all fun fold=>z5g_ fold [UInt8.ofNat (i+33)] [] []==(0,[[fcB fold (UInt8.ofNat (i+33))],[]]) && xw_ (if fold then zn_ (i+33:Nat) else (i+33:Nat))==[fcB fold (UInt8.ofNat (i+33))] && fcB fold (UInt8.ofNat (i+33)) !=32)=true:=by decide+kernel
theorem z2x_ {c:UInt8} (hc:33≤c.toNat∧c.toNat≤126) (fold:Bool):z5g_ fold [c] [] []=(0,[[fcB fold c],[]])∧xw_ (if fold then zn_ (c.toNat:Int) else (c.toNat:Int))=[fcB fold c]∧fcB fold c≠32:=by
 have h:=List.all_eq_true.1 zfv_ (c.toNat - 33) (List.mem_range.2 (by omega))
 rw[show c.toNat - 33+33=c.toNat by omega,UInt8.ofNat_toNat] at h
 have h2:=List.all_eq_true.1 h fold (by cases fold<;>simp)
 simp only[Bool.and_eq_true,beq_iff_eq,bne_iff_ne] at h2
 exact⟨h2.1.1,h2.1.2,h2.2⟩
theorem kl_ {α:Type} (p:α→Bool) (x:α) (hx:p x=false):∀ l:List α,(l++[x]).dropWhile p=l.dropWhile p++[x]
 |[]=>by simp [hx]
 |y::l=>by
  rw[List.cons_append,List.dropWhile_cons,List.dropWhile_cons]
  split
  ·exact kl_ p x hx l
  ·rfl
theorem ziu_ {c:UInt8} (hc:c≠32) (l:LU):∃ m,Lib.trimB (c::l) 32=c::m:=by
 unfold Lib.trimB Lib.trimLeftB Lib.trimRightB
 have hp:(c==(32:UInt8))=false:=beq_eq_false_iff_ne.2 hc
 rw[List.reverse_cons,kl_ (·==32) c hp,List.reverse_append]
 refine⟨(l.reverse.dropWhile (·==32)).reverse,?_⟩
 show List.dropWhile (·==32) (c::(l.reverse.dropWhile (·==32)).reverse)=_
 rw[List.dropWhile_cons]
 simp only[hp,Bool.false_eq_true,if_false]
theorem z0c_ (fold:Bool):∀ (rs:List Int) (acc t:LU),zs_ fold rs acc=some t→∃ u,t=acc++u
 |[],acc,t,h=>by
  have h2:some acc=some t:=h
  cases h2
  exact⟨[],by simp⟩
 |r::rs,acc,t,h=>by
  rw[zs_] at h
  obtain⟨b,h1,h2⟩:=Option.bind_eq_some_iff.1 h
  obtain⟨u,rfl⟩:=z0c_ fold rs b t h2
  unfold z87_ at h1
  split at h1
  ·cases h1
  ·split at h1
   ·cases h1;exact⟨u,rfl⟩
   ·split at h1
    ·cases h1;exact⟨u,rfl⟩
    ·cases h1;exact⟨_,List.append_assoc _ _ _⟩
theorem zhs_ {c:UInt8} {l m:LU} {fold:Bool} (hc:33≤c.toNat∧c.toNat≤126) (h:xx_ (c::l) fold=some m):∃ m',m=fcB fold c::m':=by
 unfold xx_ at h
 cases ht:qo_ (c::l) fold with
 |none=>rw[ht] at h;cases h
 |some t=>
  rw[ht] at h
  unfold qo_ at ht
  split at ht
  case isFalse=>cases ht
  case isTrue hv=>
   rw[v7_ _ (by simp),Lib.decodeL_ascii c l (by omega),zs_] at ht
   obtain⟨b,h1,h2⟩:=Option.bind_eq_some_iff.1 ht
   have hm:qh_ (c.toNat:Int)=((c.toNat:Int),true,false):=by
    unfold qh_
    rw[if_neg (by unfold z0b_;omega),if_neg (by unfold z7s_;omega),if_neg (by unfold zeg_;omega)]
   unfold z87_ at h1
   rw[hm] at h1
   simp only[Bool.false_eq_true,if_false,Bool.not_true,List.getLast?_nil,reduceCtorEq,and_false,List.nil_append,Option.some.injEq] at h1
   rw[(z2x_ hc fold).2.1] at h1
   subst h1
   obtain⟨u,rfl⟩:=z0c_ fold _ _ _ h2
   obtain⟨m',hm'⟩:=ziu_ (z2x_ hc fold).2.2 u
   rw[List.singleton_append] at h
   dsimp only at h
   rw[hm'] at h
   simp only[reduceCtorEq,false_and,if_false,Option.some.injEq] at h
   exact⟨m',h.symm⟩
theorem zna_ {en:Ent.EntryE} {a:Ent.AttrE} {x:AttrS} (h:RightV en a x) {c:UInt8} {l:LU} (hv:c::l∈a.vals) (hc:33≤c.toNat∧c.toNat≤126) (hs:x.subs≠[]):Fil.evalL (z13_ en) [⟨4,0,a.typ,[],[c],[],[]⟩]=1:=by
 obtain⟨_,h1,_,h3⟩:=h.vals _ hv
 have hsh:Fil.shapeB ⟨4,0,a.typ,[],[c],[],[]⟩=true:=by
  unfold Fil.shapeB
  rw[if_neg (by simp),if_neg (by simp),if_pos rfl]
  simp [h.typ.1]
 rw[kh_ _ _ (by simp) hsh rfl]
 unfold z13_ vp_
 rw[if_pos h.attr.1,if_neg (by simp),if_neg (by simp),if_neg (by simp)]
 unfold z4k_
 rw[h.attr.2]
 have hok:=h.ok
 unfold okA at hok
 simp only[Bool.and_eq_true,Bool.or_eq_true,beq_iff_eq] at hok
 obtain⟨hform,hsome⟩:=hok.2.resolve_left hs
 obtain⟨y,hy⟩:=Option.isSome_iff_exists.1 hsome
 obtain⟨fold,rfl⟩:=zdo_ y (z7c_ hy) (by
  have:=(Option.filter_eq_some_iff.1 hy).2
  simpa using this)
 have hrule:(j1_ (z2_ x.subs)).isSome=true:=by
  rw[(Option.filter_eq_some_iff.1 hy).1];rfl
 simp only
 rw[if_pos ⟨hrule,by rw[(z2x_ hc false).1]⟩]
 have hl:(c::l).length≤1024:=by
  simp only[qc_,Bool.and_eq_true,decide_eq_true_eq] at h1
  exact h1.1
 obtain⟨m,hm⟩:=Option.isSome_iff_exists.1 (z8t_ hform h1 fold)
 have hn:yo_ (zcp_ fold,2,[va_,x9_],.text fold) (c::l)=some m:=by
  unfold yo_
  have hany:[va_,x9_].any (fun f=>qc_ f (c::l))=true:=List.any_eq_true.2 ⟨x.form,by rcases hform with e|e<;>rw[e]<;>simp,h1⟩
  simp only
  rw[decide_eq_true hl,hany]
  exact hm
 obtain⟨m',rfl⟩:=zhs_ hc hm
 have hask:z0r_ x.subs [c] [] [] (c::l)=true:=by
  unfold z0r_ z6f_
  rw[hy]
  simp only
  unfold z8l_
  rw[hn]
  simp only
  have hf:(zcp_ fold==jg_)=fold:=by cases fold<;>decide
  rw[hf,(z2x_ hc fold).1]
  simp [z3w_,zj7_,zg0_,Lib.hasPrefix,Lib.hasSuffix,goP,jh_]
 have:(Ent.findE (zo_ baseL) en a.typ).any (z0r_ x.subs [c] [] [])=true:=List.any_eq_true.2 ⟨_,h3,hask⟩
 rw[this]
 rfl
theorem zh8_ {en:Ent.EntryE} {a:Ent.AttrE} {x:AttrS} (h:RightV en a x):Fil.evalL (z13_ en) [⟨7,0,x.oid,[],[],[],[]⟩]=1:=by
 have hs:Fil.shapeB ⟨7,0,x.oid,[],[],[],[]⟩=true:=by
  unfold Fil.shapeB
  rw[if_neg (by simp),if_neg (by simp),if_neg (by simp),if_pos rfl]
  simp [h.typ.2]
 rw[kh_ _ _ (by simp) hs rfl]
 unfold z13_ vp_
 rw[if_pos h.oid.1,if_neg (by simp),if_neg (by simp),if_pos rfl]
 obtain⟨v,hv⟩:=List.exists_mem_of_ne_nil _ h.some
 have hm:=h.oid.2 v hv
 have:(Ent.findE (zo_ baseL) en x.oid).isEmpty=false:=by
  cases hf:Ent.findE (zo_ baseL) en x.oid with
  |nil=>rw[hf] at hm;cases hm
  |cons b l=>rfl
 simp only
 rw[this]
 rfl
end Go.Proofs.YtbekpphodbekiaaGreatDoor
