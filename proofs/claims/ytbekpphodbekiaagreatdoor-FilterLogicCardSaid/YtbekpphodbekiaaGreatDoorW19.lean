import Derived.Test.YtbekpphodbekiaaGreatDoorW18
set_option linter.all false
set_option maxHeartbeats 8000000
set_option maxRecDepth 100000
namespace Go.Proofs.YtbekpphodbekiaaGreatDoor
open Go.RowKit
def AQOwn (W:World) (qs:List ql_):Prop:=∀ q∈qs,Own 0 W q.2 q.1.vals
theorem AQOwn.nil (w:World):AQOwn w []:=fun q hq=>(by cases hq)
theorem AQOwn.below {w w':World} {qs:List ql_} (h:AQOwn w qs) (hb:Bel w w'):AQOwn w' qs:=fun q hq=>(h q hq).below hb
theorem AQOwn.ok {w:World} {qs:List ql_} (h:AQOwn w qs):AQOk w qs:=fun q hq=>(h q hq).textsA
theorem AQOwn.far {w w':World} {qs:List ql_} {g:Nat} {t:TypeId} {cs:Array Value} (h:AQOwn w qs) (hg:Bk w g t cs) (ht:t≠9) (hw:w.grownBy w' (some g)):AQOwn w' qs:=fun q hq=>(h q hq).keep2 hw ((h q hq).apart hg ht)
theorem OwnAt.ty {B:Nat} {w:World} {v:Value} {qs:List ql_} (h:OwnAt B w v qs) {k:Nat} (hk:v.ownBlock=some k):∃ cs,Bk w k 43 cs:=by
 obtain⟨⟨h1,h2⟩,h3⟩:=h
 rcases h2 with ⟨rfl,hn⟩|⟨g,cap,cur,rfl,r2,r3,r4,r5,r6,r7⟩
 ·simp [Value.ownBlock] at hk
 ·have hgk:g=k:=by simpa [Value.ownBlock] using hk
  subst hgk
  exact⟨cur,r3⟩
theorem AQOwn.grown {B:Nat} {w w':World} {v:Value} {qs rs:List ql_} (h:AQOwn w qs) (hv:OwnAt B w v rs) (hg:w.grownBy w' v.ownBlock):AQOwn w' qs:=by
 cases hk:v.ownBlock with
 |none=>
  rw[hk] at hg
  exact fun q hq=>(h q hq).keep hg (fun k hk=>by cases hk)
 |some g=>
  obtain⟨cs,hb⟩:=hv.ty hk
  rw[hk] at hg
  exact h.far hb (by decide) hg
theorem AQOwn.app {w:World} {qs ys:List ql_} (h:AQOwn w qs) (h':AQOwn w ys):AQOwn w (qs++ys):=fun q hq=>(List.mem_append.1 hq).elim (h q) (h' q)
theorem AQOwn.one {w:World} {t:LU} {vs:LL} {v:Value} (h:Own 0 w v vs):AQOwn w [(⟨t,vs⟩,v)]:=fun q hq=>by rw[List.mem_singleton.1 hq];exact h
def EntRet (w:World) (R:Int × Ent.EntryE) (e:Ending) (w':World):Prop:=Bel w w'∧∃ (A:Option Addr) (c:Nat) (qs:List ql_),e= .returned (.tuple #[.agg #[.string ⟨R.2.dn.toArray⟩,.slice A R.2.attrs.length c],.int .i64 R.1])∧qs.map (·.1)=R.2.attrs∧OwnAt w.heap.size w' (.slice A R.2.attrs.length c) qs∧AQOwn w' qs
theorem EntRet.zero {w w':World} (hb:Bel w w') (k:Int):EntRet w (k,Ent.zeroE) (.returned (.tuple #[.agg #[.string ⟨#[]⟩,.slice none 0 0],.int .i64 k])) w':=
 ⟨hb,none,0,[],rfl,rfl,OwnAt.nil hb.size,AQOwn.nil _⟩
theorem OwnAt.keep2 {B:Nat} {w w':World} {v:Value} {qs:List ql_} (h:OwnAt B w v qs) {r:Option Nat} (hg:w.grownBy w' r) (hr:∀ k,v.ownBlock=some k→r≠some k):OwnAt B w' v qs:=by
 refine⟨h.1.kept hg ?_,nT h.2 hg.size⟩
 rcases hv:v.ownBlock with _|g
 ·exact .inl rfl
 ·refine .inr ?_
  intro he
  exact hr g hv he.symm
theorem OwnAt.apart {B g:Nat} {w:World} {v:Value} {qs:List ql_} {t:TypeId} {cs:Array Value} (h:OwnAt B w v qs) (hg:Bk w g t cs) (ht:t≠43):∀ k,v.ownBlock=some k→(some g:Option Nat)≠some k:=by
 intro k hk e
 cases e
 obtain⟨cs',h'⟩:=h.ty hk
 exact z47_ hg h' ht rfl
theorem OwnAt.ne {B g:Nat} {w:World} {v:Value} {qs:List ql_} {t:TypeId} {cs:Array Value} (h:OwnAt B w v qs) (hg:Bk w g t cs) (ht:t≠43):(some g:Option Nat)≠v.ownBlock:=fun e=>h.apart hg ht g e.symm rfl
theorem z5k_ {S:Ent.SchE} (dn:LU):∀ (l:List Ent.AttrE),(∀ a∈l,Ent.RightA S a)→(l.map Ent.AttrE.typ).Nodup→(Ent.haveE S ⟨dn,l⟩).Nodup
 |[],_,_=>List.nodup_nil
 |a::l,h,hn=>by
  have hr:=h a (List.mem_cons_self ..)
  have e:Ent.haveE S ⟨dn,a::l⟩=((Ent.formsE S a.typ a.vals).getD []).map (fun n=>(a.typ,n))++Ent.haveE S ⟨dn,l⟩:=by
   unfold Ent.haveE
   rw[List.flatMap_cons]
  rw[e,Ent.forms_mk hr.ok,Option.getD_some]
  rw[List.map_cons,List.nodup_cons] at hn
  rw[List.nodup_append]
  refine⟨?_,z5k_ dn l (fun x hx=>h x (List.mem_cons_of_mem _ hx)) hn.2,?_⟩
  ·rw[List.nodup_iff_pairwise_ne,List.pairwise_map]
   exact(List.nodup_iff_pairwise_ne.1 hr.once).imp fun hne he=>hne (Prod.mk.inj he).2
  ·intro x hx y hy hxy
   subst hxy
   obtain⟨n,_,rfl⟩:=List.mem_map.1 hx
   unfold Ent.haveE at hy
   obtain⟨b,hb,hy⟩:=List.mem_flatMap.1 hy
   obtain⟨m,_,he⟩:=List.mem_map.1 hy
   exact hn.1 (List.mem_map.2 ⟨b,hb,(Prod.mk.inj he).1⟩)
theorem z37_ {L:List DefS} (hlim:∀ d∈L,DefLim d) {a:Ent.AttrE} (h:Ent.RightA (zq_ L) a):a.typ.length≤1000000∧a.vals.length≤1000000:=by
 obtain⟨d,hd,hn⟩:=h.known
 have h1:=z9z_ hlim a.typ
 have h2:(zr_ L a.typ).name=a.typ:=by
  rw[z5o_]
  unfold Ent.nameE
  rw[hd]
  exact hn
 rw[h2] at h1
 have:=h.few
 exact⟨h1,by omega⟩
theorem vx_ {w W:World} {r0 r1:Value} {tmps:Array Value} {R:Int × Ent.EntryE} {k:Int} (hz:Bk W w.heap.size 30 #[r0,r1]) (h6:tmps[6]?=some (.pointer (some ⟨w.heap.size,0,none⟩))) (h7:tmps[7]?=some (.int .i64 k))
  (h:EntRet w R (.returned (.tuple #[.agg #[r0,r1],.int .i64 k])) W):
  bodyPost Tryz.prog Tryz.f9 (EntRet w R) .ret {tmps:=tmps,defers:=[]} W:=by
 have e6:tmps[6]?.getD undef= .pointer (some ⟨w.heap.size,0,none⟩):=by rw[h6];rfl
 have e7:tmps[7]?.getD undef= .int .i64 k:=by rw[h7];rfl
 have c0:=hz.cell 0
 have c1:=hz.cell 1
 simp only[gs3] at c0 c1
 refine bodyPost_ret (v:= .tuple #[.agg #[r0,r1],.int .i64 k]) ?_ rfl h
 simp [results,Tryz.results9,go_sem,e6,e7,c0,c1]
structure MakeJ (w wr:World) (p:Nat) (nm:LU) (va:Value) (qs:List ql_):Prop where
 bel:Bel w wr
 res:Bk wr w.heap.size 30 #[.string ⟨#[]⟩,.slice none 0 0]
 out:Bk wr p 30 #[.string ⟨nm.toArray⟩,va]
 row:OwnAt w.heap.size wr va qs
 own:AQOwn wr qs
theorem MakeJ.below {w wr W:World} {p:Nat} {nm:LU} {va:Value} {qs:List ql_} (h:MakeJ w wr p nm va qs) (hb:Bel wr W):MakeJ w W p nm va qs:=⟨tQ h.bel hb,h.res.below hb,h.out.below hb,h.row.below hb,h.own.below hb⟩
theorem MakeJ.mid {w wr W:World} {p:Nat} {nm:LU} {va:Value} {qs:List ql_} (h:MakeJ w wr p nm va qs) (hg:wr.grownBy W va.ownBlock):Bk W p 30 #[.string ⟨nm.toArray⟩,va]:=h.out.grown hg (h.row.ne h.out (by decide))
theorem MakeJ.more {w wr W:World} {p:Nat} {nm:LU} {va v':Value} {qs:List ql_} {q:ql_} (h:MakeJ w wr p nm va qs) (hp:w.heap.size<p) (hq:Own 0 wr q.2 q.1.vals) (hO:OwnAt w.heap.size W v' (qs++[q])) (hg:wr.grownBy W va.ownBlock):MakeJ w (W.setCell ⟨p,1,none⟩ v') p nm v' (qs++[q]):=by
 have hP:=h.out.grown hg (h.row.ne h.out (by decide))
 have hR:=h.res.grown hg (h.row.ne h.res (by decide))
 have hP2:Bk (W.setCell ⟨p,1,none⟩ v') p 30 #[.string ⟨nm.toArray⟩,v']:=by simpa using hP.set 1 v'
 have hs:=z7_ W p 1 v'
 have hB:=h.bel.grown hg h.row.2 (fun k hk=>(h.row.lt k hk).1)
 have hQ:AQOwn W (qs++[q]):=AQOwn.grown (AQOwn.app h.own (fun x hx=>by rw[List.mem_singleton.1 hx];exact hq)) h.row hg
 exact⟨hB.setCell (Nat.le_of_lt hp) _,hR.grown hs (by intro e;have:=Option.some.inj e;omega),hP2,hO.keep2 hs (hO.apart hP (by decide)),hQ.far hP (by decide) hs⟩
theorem Make_c (s:Nat) (ps:List Nat) (L:List DefS) (hL:Sound L) (nm:LU) (l:List Ent.AttrE) (vl:Value) (w:World) (hw:Env w) (hS:SchAt w s ps L) (hv:AttrsA w vl l) (hl:l.length≤1048576) (hlt:∀ a∈l,a.typ.length≤140737488351232∧a.vals.length≤4611686018427387904):
  Calls Tryz.prog 9 #[.pointer (some ⟨s,0,none⟩),.string ⟨nm.toArray⟩,vl] w (EntRet w (Ent.makeE (zq_ L) nm l)):=by
 obtain⟨M,hM⟩:∃ M,Ent.makeE (zq_ L) nm l=M:=⟨_,rfl⟩
 rw[hM]
 have HK:Hid (∀ W:World,Bel w W→Calls Tryz.prog 17 #[.pointer (some ⟨s,0,none⟩),.string ⟨nm.toArray⟩] W fun e w'=>e= .returned (v8_ (z4k_ L nm))∧Bel W w'):=hiD fun W h=>Key_c s ps L hL nm W (hw.keep h) (hS.below h)
 have HAt:Hid (∀ (k:Nat) (hk:k<l.length) (va:Value) (qs:List ql_) (vh:Value) (W:World),Bel w W→TextsA W va l[k].vals→AttrsA W vh (qs.map (·.1))→qs.length≤1000000→Calls Tryz.prog 18 #[.pointer (some ⟨s,0,none⟩),.agg #[.string ⟨l[k].typ.toArray⟩,va],vh] W (y4_ W (Ent.attrE (zq_ L) l[k] (qs.map (·.1))))):=hiD fun k hk va qs vh W h ht hh hq=>zme_ s ps L hL l[k] va (qs.map (·.1)) vh W (hw.keep h) (hS.below h) ht hh (hlt _ (List.getElem_mem hk)).1 (hlt _ (List.getElem_mem hk)).2 (by rw[List.length_map];exact hq)
 have HO:Hid (∀ (ats:List Ent.AttrE) (va:Value) (W:World),Ent.makeF (zq_ L) l []= .inr ats→Bel w W→AttrsA W va ats→ats.length≤1000→Calls Tryz.prog 19 #[.pointer (some ⟨s,0,none⟩),.agg #[.string ⟨nm.toArray⟩,va]] W fun e w'=>e= .returned (.bool (Ent.ownE (zq_ L) ⟨nm,ats⟩))∧Bel W w'):=hiD fun ats va W hF h hA hn=>by
  obtain⟨r1,r2,_⟩:=Ent.makeF_right (zdf_ hL.says) l [] ats (fun a ha=>by cases ha) List.nodup_nil hF
  exact own_c s ps L hL nm ats va W (hw.keep h) (hS.below h) hA hn (fun a ha=>z37_ hL.lim (r1 a ha)) (z5k_ nm ats r1 r2)
 have hM0:(if (z4k_ L nm).1 !=0 then (34,Ent.zeroE) else if 100<l.length then (19,Ent.zeroE) else match Ent.makeF (zq_ L) l [] with
  | .inl c=>(c,Ent.zeroE)
  | .inr ats=>if Ent.ownE (zq_ L) ⟨nm,ats⟩ then (0,⟨nm,ats⟩) else (64,Ent.zeroE))=M:=hM
 obtain⟨Al,cl,rfl,hcl,hcell⟩:=hv.at
 have HV:=hiD hcell
 clear hv hcell hS hw hM
 obtain⟨kp,hkp⟩:∃ p,z4k_ L nm=p:=⟨_,rfl⟩
 rw[hkp] at HK hM0
 obtain⟨kc,kn⟩:=kp
 unfold v8_ at HK
 simp only at HK hM0
 clear hkp
 have hR0:=Bk.new w 30 #[.string ⟨#[]⟩,.slice none 0 0]
 have hb0:=q5_ w (.cells #[.string ⟨#[]⟩,.slice none 0 0] 30)
 by_cases hk:kc=0
 ·subst hk
  by_cases h100:100<l.length
  ·have hM1:M=(19,Ent.zeroE):=by rw[← hM0];simp [h100]
   subst hM1
   clear HAt HO HV hM0 hlt
   go_enter Tryz.func9,Tryz.ntmps9
   go_wp2_with (go_at_call 17;(with_reducible refine(HK.out _ hb0).mono ?_);rintro e w1 ⟨rfl,hb1⟩;have hB1:=tQ hb0 hb1;have hR1:=hR0.below hb1;have r0:=hR1.cell 0;have r1:=hR1.cell 1;simp only[gs3] at r0 r1;have of:=fun i=>hR1.frozen i)
   have hz:=jh_ _ _ (.string ⟨#[]⟩) (.slice none 0 0) hR1
   exact vx_ hz rfl rfl (EntRet.zero (zv_ hB1 (nR _) _ _) 19)
  ·have hM1:(match Ent.makeF (zq_ L) l [] with
    | .inl c=>(c,Ent.zeroE)
    | .inr ats=>if Ent.ownE (zq_ L) ⟨nm,ats⟩ then (0,⟨nm,ats⟩) else (64,Ent.zeroE))=M:=by rw[← hM0];simp [h100]
   have HM:=hiD hM1
   clear hM0 hM1 hlt
   go_enter Tryz.func9,Tryz.ntmps9
   go_wp2_with (go_at_call 17;(with_reducible refine(HK.out _ hb0).mono ?_);rintro e w1 ⟨rfl,hb1⟩;have hB1:=tQ hb0 hb1;have hR1:=hR0.below hb1;have r0:=hR1.cell 0;have r1:=hR1.cell 1;simp only[gs3] at r0 r1;have of:=fun i=>hR1.frozen i)
   have hp:w.heap.size<w1.heap.size:=by have:=hb1.size;rw[World.size_alloc] at this;omega
   have hP0:=q5_ w1 (.cells #[.string ⟨nm.toArray⟩,.slice none 0 0] 30)
   have hJ0:MakeJ w (w1.alloc (.cells #[.string ⟨nm.toArray⟩,.slice none 0 0] 30)) w1.heap.size nm (.slice none 0 0) []:=⟨tQ hB1 hP0,hR1.below hP0,Bk.new w1 _ _,OwnAt.nil (nT hB1.size hP0.size),AQOwn.nil _⟩
   go_loopg [32] l.length (fun gk i wr=>∃ (k:Nat) (qs:List ql_) (A:Option Addr) (c:Nat),k≤l.length∧i= .int .i64 k∧Aside (k+gk=l.length)∧Aside (qs.length=k)∧Aside (MakeJ w wr w1.heap.size nm (.slice A qs.length c) qs)∧Aside (Ent.makeF (zq_ L) (l.drop k) (qs.map (·.1))=Ent.makeF (zq_ L) l []))
   case atStart=>exact⟨0,[],none,0,by omega,rfl,by show _=_;omega,rfl,hJ0,rfl⟩
   case round=>
    clear hJ0 hP0 r0 r1 of hR1 hR0 hb0
    obtain⟨k,qs,A,c,hk,rfl,AG,AQ,AJ,AS⟩:=hrel
    by_cases hlt:k<l.length
    ·obtain⟨q,rfl⟩:∃ q,gk=q+1:=⟨gk - 1,by have:=AG.out;omega⟩
     obtain⟨b,o,va,rfl,c0,c1,hta⟩:=HV.out k hlt
     obtain⟨Av,nv,cv,rfl⟩:∃ A n c,va= .slice A n c:=by
      obtain⟨A,c,h,_⟩:=hta.at
      exact⟨A,_,c,h⟩
     have d0:=cQ AJ.out.bel c0
     have d1:=cQ AJ.out.bel c1
     have hadd:=qy_
     have hstep:(match Ent.attrE (zq_ L) l[k] (qs.map (·.1)) with
      | .inl c=>Ent.makeF (zq_ L) l []= .inl c
      | .inr b=>Ent.makeF (zq_ L) (l.drop (k+1)) (qs.map (·.1)++[b])=Ent.makeF (zq_ L) l []):=by
      have:=AS.out
      rw[List.drop_eq_getElem_cons hlt,Ent.makeF] at this
      revert this
      cases Ent.attrE (zq_ L) l[k] (qs.map (·.1)) with
      |inl c=>exact fun h=>h.symm
      |inr b=>exact fun h=>h
     have hba:=q5_ wr (.cells #[.string ⟨l[k].typ.toArray⟩,.slice Av nv cv] 43)
     have hka:=Bk.new wr 43 #[.string ⟨l[k].typ.toArray⟩,.slice Av nv cv]
     have hJa:=AJ.out.below hba
     have HC:=hiD (HAt.out k hlt (.slice Av nv cv) qs (.slice A qs.length c) _ hJa.bel (hta.below hJa.bel) (hJa.row.attrs hJa.own.ok) (by have:=AQ.out;omega))
     have x0:=hka.cell 0
     have x1:=hka.cell 1
     have p1:=hJa.out.cell 1
     simp only[gs3] at x0 x1 p1
     clear AS c0 c1 hta AJ hka
     generalize l[k]=x at *
     obtain⟨typ,vals⟩:=x
     simp only at d0 x0 x1 HC hba hJa p1
     generalize Ent.attrE (zq_ L) ⟨typ,vals⟩ (qs.map (·.1))=r at *
     cases r with
     |inl code=>
      unfold y4_ at HC
      simp only at HC hstep
      by_cases hcz:code=0
      ·go_wp2_with (go_at_call 18;(with_reducible refine HC.out.mono ?_);rintro e w3 ⟨hb3,A3,n3,c3,k3,t3,rfl,rfl,hne⟩;exact absurd hcz hne)
      have hcb:(code !=0)=true:=bne_iff_ne.2 hcz
      have hM2:M=(code,Ent.zeroE):=by have:=HM.out;rw[hstep] at this;exact this.symm
      subst hM2
      clear HM hstep HO HAt
      go_wp2_with (go_at_call 18;(with_reducible refine HC.out.mono ?_);rintro e w3 ⟨hb3,A3,n3,c3,k3,t3,rfl,rfl,hne⟩;have hJ3:=hJa.below hb3;have hbb:=q5_ w3 (.cells #[.string ⟨t3⟩,.slice A3 n3 c3] 43);have hJ4:=hJ3.below hbb;have r0:=hJ4.res.cell 0;have r1:=hJ4.res.cell 1;simp only[gs3] at r0 r1;have of:=fun i=>hJ4.res.frozen i)
      have hz:=jh_ _ _ (.string ⟨#[]⟩) (.slice none 0 0) hJ4.res
      exact vx_ hz rfl rfl (EntRet.zero (zv_ hJ4.bel (nR _) _ _) _)
     |inr nb=>
      unfold y4_ at HC
      simp only at HC hstep
      obtain⟨bt,bv⟩:=nb
      simp only at HC hstep
      have HST:=hiD hstep
      have hq6:qs.length<1000000:=by have:=AQ.out;omega
      clear hstep
      go_wp2_with (first
       |(go_at_call 18;(with_reducible refine HC.out.mono ?_);rintro e w3 ⟨hb3,A3,n3,c3,k3,t3,rfl,rfl,rfl,rfl,hO3⟩;have hJ3:=hJa.below hb3;have hbb:=q5_ w3 (.cells #[.string ⟨bt.toArray⟩,.slice A3 bv.length c3] 43);have hJ4:=hJ3.below hbb;have hkb:=Bk.new w3 43 #[.string ⟨bt.toArray⟩,.slice A3 bv.length c3];have hO4:=(hO3.lower (Nat.zero_le _)).below hbb;have HSZ:Hid (w3.heap.size+1=(w3.alloc (.cells #[.string ⟨bt.toArray⟩,.slice A3 bv.length c3] 43)).heap.size):=hiD (by simp);have y0:=hkb.cell 0;have y1:=hkb.cell 1;have p4:=hJ4.out.cell 1;simp only[gs3] at y0 y1 p4)
       |(at_builtin;refine ze1_ (N:=w3.heap.size+1) (t:=bt) (vals:=bv) rfl _ _ rfl rfl rfl hJ4.row rfl HSZ.out hq6 ?_;intro v' w5 hO5 hg5;obtain⟨A5,c5,rfl,_⟩:=hO5.isSlice;have hJ5:=hJ4.more hp hO4 hO5 hg5;have hP5:=hJ4.mid hg5;have p5:=hP5.cell 1;simp only[gs3] at p5;have of5:=fun i=>hP5.frozen i))
      go_roundg q
      case measure=>omega
      case rel=>exact⟨k+1,qs++[(⟨bt,bv⟩,.slice A3 bv.length c3)],A5,c5,by omega,by go_num,by have:=AG.out;show _=_;omega,by have:=AQ.out;show _=_;rw[List.length_append,List.length_singleton];omega,(by have h:=hJ5;simp only[List.length_append,List.length_cons,List.length_nil,Nat.zero_add] at h ⊢;exact h),by show _=_;rw[List.map_append];exact HST.out⟩
    ·obtain rfl:k=l.length:=by omega
     have hfin:Ent.makeF (zq_ L) l []= .inr (qs.map (·.1)):=by have:=AS.out;rw[List.drop_length] at this;exact this.symm
     have hJ:=AJ.out
     have HO2:=hiD (HO.out _ (.slice A qs.length c) wr hfin hJ.bel (hJ.row.attrs hJ.own.ok) (by have:=AQ.out;rw[List.length_map];omega))
     have hM2:=HM.out
     rw[hfin] at hM2
     simp only at hM2
     have p0:=hJ.out.cell 0
     have p1:=hJ.out.cell 1
     simp only[gs3] at p0 p1
     clear AS AJ hfin HM HO HAt HV
     cases hown:Ent.ownE (zq_ L) ⟨nm,qs.map (·.1)⟩
     ·rw[hown] at hM2 HO2
      have hM3:M=(64,Ent.zeroE):=by rw[← hM2];rfl
      subst hM3
      clear hM2 hown
      go_wp2_with (go_at_call 19;(with_reducible refine HO2.out.mono ?_);rintro e w3 ⟨rfl,hb3⟩;have hJ4:=hJ.below hb3;have r0:=hJ4.res.cell 0;have r1:=hJ4.res.cell 1;simp only[gs3] at r0 r1;have of:=fun i=>hJ4.res.frozen i)
      have hz:=jh_ _ _ (.string ⟨#[]⟩) (.slice none 0 0) hJ4.res
      exact vx_ hz rfl rfl (EntRet.zero (zv_ hJ4.bel (nR _) _ _) 64)
     ·rw[hown] at hM2 HO2
      have hM3:M=(0,⟨nm,qs.map (·.1)⟩):=by rw[← hM2];rfl
      subst hM3
      clear hM2 hown
      go_wp2_with (go_at_call 19;(with_reducible refine HO2.out.mono ?_);rintro e w3 ⟨rfl,hb3⟩;have hJ4:=hJ.below hb3;have r0:=hJ4.res.cell 0;have r1:=hJ4.res.cell 1;have q0:=hJ4.out.cell 0;have q1:=hJ4.out.cell 1;simp only[gs3] at r0 r1 q0 q1;have of:=fun i=>hJ4.res.frozen i)
      have hz:=jh_ _ _ (.string ⟨nm.toArray⟩) (.slice A qs.length c) hJ4.res
      have hgr:=z5v_ w3 w.heap.size (.string ⟨nm.toArray⟩) (.slice A qs.length c)
      refine vx_ hz rfl rfl ⟨zv_ hJ4.bel (nR _) _ _,A,c,qs,?_,rfl,?_,hJ4.own.far hJ4.res (by decide) hgr⟩
      ·simp only[List.length_map]
      ·simp only[List.length_map]
       exact hJ4.row.keep2 hgr (hJ4.row.apart hJ4.res (by decide))
 ·have hkb:(kc !=0)=true:=bne_iff_ne.2 hk
  have hM1:M=(34,Ent.zeroE):=by rw[← hM0,hkb];rfl
  subst hM1
  clear HAt HO HV hM0 hlt
  go_enter Tryz.func9,Tryz.ntmps9
  go_wp2_with (go_at_call 17;(with_reducible refine(HK.out _ hb0).mono ?_);rintro e w1 ⟨rfl,hb1⟩;have hB1:=tQ hb0 hb1;have hR1:=hR0.below hb1;have r0:=hR1.cell 0;have r1:=hR1.cell 1;simp only[gs3] at r0 r1;have of:=fun i=>hR1.frozen i)
  have hz:=jh_ _ _ (.string ⟨#[]⟩) (.slice none 0 0) hR1
  exact vx_ hz rfl rfl (EntRet.zero (zv_ hB1 (nR _) _ _) 34)
open Go.RowKit
theorem z8j_:∀ (l:List Ent.AttrE),(∀ a∈l,a.vals.length≤200)→yg_ l≤l.length * 200
 |[],_=>by simp [yg_]
 |a::l,h=>by
  have h1:=z8j_ l (fun b hb=>h b (List.mem_cons_of_mem _ hb))
  have h2:=h a (List.mem_cons_self ..)
  rw[z4s_,List.length_cons]
  omega
theorem zib_ {nm:LU} {l:List Ent.AttrE} {k:Int} {en:Ent.EntryE} (h:Ent.makeE (zq_ ye_) nm l=(k,en)):en.attrs.length≤1000∧yg_ en.attrs≤1000000∧∀ a∈en.attrs,a.typ.length≤1000000:=by
 by_cases hk:k=0
 ·subst hk
  have hr:=(Ent.make_right (zdf_ base_sound.says) h).1
  have hf:=hr.few
  refine⟨by omega,?_,fun a ha=>(z37_ base_sound.lim (hr.all a ha)).1⟩
  have:=z8j_ en.attrs (fun a ha=>(hr.all a ha).few)
  omega
 ·have:=Ent.make_code (S:=zq_ ye_) (nm:=nm) (l:=l) (by rw[h];exact hk)
  rw[h] at this
  have h2:en=Ent.zeroE:=this
  subst h2
  exact⟨Nat.zero_le _,Nat.zero_le _,fun a ha=>by cases ha⟩
def zo0_ (w:World) (R:Int × Ent.EntryE) (r:Ending) (w':World):Prop:=Bel w w'∧∃ A c,r= .returned (.tuple #[.agg #[.string ⟨R.2.dn.toArray⟩,.slice A R.2.attrs.length c],.int .i64 R.1])∧AttrsA w' (.slice A R.2.attrs.length c) R.2.attrs
theorem EntRet.mk8 {w w':World} {R:Int × Ent.EntryE} {r:Ending} (h:EntRet w R r w'):zo0_ w R r w':=by
 obtain⟨hb,A,c,qs,rfl,hq,hO,hQ⟩:=h
 have hA:=hO.attrs hQ.ok
 rw[hq] at hA
 exact⟨hb,A,c,rfl,hA⟩
theorem zow_ (s:Nat) (ps:List Nat) (nm:LU) (l:List Ent.AttrE) (vl:Value) (w:World) (hw:Env w) (hS:SchAt w s ps ye_) (hv:AttrsA w vl l) (hl:l.length≤1000) (hlt:∀ a∈l,a.typ.length≤140737488351232∧a.vals.length≤4611686018427387904):
  Calls Tryz.prog 9 #[.pointer (some ⟨s,0,none⟩),.string ⟨nm.toArray⟩,vl] w (zo0_ w (Ent.makeE (zq_ ye_) nm l)):=(Make_c s ps ye_ base_sound nm l vl w hw hS hv (by omega) hlt).mono fun _ _ h=>h.mk8
def Good8 (k:Nat) (L:List Fil.FilE):Prop:=L.length≤k∧∀ p∈L,z0p_ p∧p.n≤9223372036854775807
theorem zo8_ (op:Int) (n:Nat):z0p_ (Fil.opE op n):=⟨Nat.zero_le _,Nat.zero_le _,Nat.zero_le _,fun x hx=>by
 simp only[Fil.opE,List.append_nil,List.singleton_append,List.mem_cons,List.not_mem_nil,or_false] at hx
 rcases hx with rfl|rfl<;>exact Nat.zero_le _⟩
theorem Good8.op {k:Nat} {L:List Fil.FilE} (h:Good8 k L) (op:Int) (n:Nat) (hn:n≤1000):Good8 (k+1) (Fil.opE op n::L):=by
 refine⟨by rw[List.length_cons];have:=h.1;omega,fun p hp=>?_⟩
 rcases List.mem_cons.1 hp with rfl|hp
 ·exact⟨zo8_ op n,by show (n:Int)≤_;omega⟩
 ·exact h.2 p hp
theorem Good8.app {k m:Nat} {L M:List Fil.FilE} (h:Good8 k L) (h2:Good8 m M):Good8 (k+m) (L++M):=by
 refine⟨by rw[List.length_append];have:=h.1;have:=h2.1;omega,fun p hp=>?_⟩
 rcases List.mem_append.1 hp with hp|hp
 ·exact h.2 p hp
 ·exact h2.2 p hp
theorem Good8.nil:Good8 0 []:=⟨nR _,fun p hp=>by cases hp⟩
theorem Good8.lim {k:Nat} {L:List Fil.FilE} (h:Good8 k L) (hk:k≤100000):LimF L:=⟨by have:=h.1;omega,fun p hp=>(h.2 p hp).1⟩
theorem Good8.fit {k:Nat} {L:List Fil.FilE} (h:Good8 k L):z4v_ L:=fun p hp=>(h.2 p hp).2
theorem xb_ {k:Nat} {L:List Fil.FilE} (h:Good8 k L) (hk:k≤100000) (v:Value) (w:World) (hw:Env w) (hf:FilsA w v L):
  Calls Tryz.prog 5 #[v] w fun e w'=>e= .returned (.bool (Fil.validF L))∧Bel w w':=z32_ L v w hw hf (h.lim hk) h.fit
def zl6_ (en:Ent.EntryE):Fil.FilE→Int:=z49_ ye_ en (z6s_ ye_ en)
theorem zbs_ (en:Ent.EntryE) (p:Fil.FilE):Fil.Three (zl6_ en p):=z5c_ ye_ en _ (z9u_ ye_ en) p
theorem zps_ (s:Nat) (ps:List Nat) (en:Ent.EntryE) (A:Option Addr) (n c:Nat) (w:World) (hw:Env w) (hS:SchAt w s ps ye_) (hv:AttrsA w (.slice A n c) en.attrs) (hl:en.attrs.length≤1000∧yg_ en.attrs≤1000000∧∀ a∈en.attrs,a.typ.length≤1000000)
  {k:Nat} {L:List Fil.FilE} (h:Good8 k L) (hk:k≤100000) {r:Int} (hr:Fil.evalL (zl6_ en) L=r) (v:Value) (W:World) (hb:Bel w W) (hf:FilsA W v L):
  Calls Tryz.prog 10 #[.pointer (some ⟨s,0,none⟩),.agg #[.string ⟨en.dn.toArray⟩,.slice A n c],v] W fun e w'=>e= .returned (.int .i64 r)∧Bel W w':=by
 subst hr
 exact zeb_ s ps ye_ base_sound en.dn (.slice A n c) ⟨_,_,_,rfl⟩ L v W (hw.keep hb) hf (hS.below hb) _ ((zji_ base_sound hw hS hv hl.1 hl.2.1 hl.2.2).below hb) (h.lim hk) h.fit
theorem qm_ (w:World) (v:Value) (f:List Fil.FilE) (h:FilsA w v f):PartsA (w.alloc (.cells #[v] 23)) (.slice (some ⟨w.heap.size,0,none⟩) 1 1) [f]:=by
 have hk:=Bk.new w 23 #[v]
 refine⟨[v],_,1,rfl,fun j hj=>⟨w.heap.size,rfl,?_⟩,.cons (h.below ((bR _ _).alloc (nR _) _)) .nil⟩
 obtain rfl:j=0:=by simpa using hj
 exact hk.cell 0
theorem q7_ (w:World) (v u:Value) (f g:List Fil.FilE) (h:FilsA w v f) (h2:FilsA w u g):PartsA (w.alloc (.cells #[v,u] 23)) (.slice (some ⟨w.heap.size,0,none⟩) 2 2) [f,g]:=by
 have hk:=Bk.new w 23 #[v,u]
 have hb:=(bR w.heap.size w).alloc (nR _) (.cells #[v,u] 23)
 refine⟨[v,u],_,2,rfl,fun j hj=>⟨w.heap.size,rfl,?_⟩,.cons (h.below hb) (.cons (h2.below hb) .nil)⟩
 match j,hj with
 |0,_=>exact hk.cell 0
 |1,_=>exact hk.cell 1
theorem PartsA.below {w w':World} {v:Value} {ls:List (List Fil.FilE)} (h:PartsA w v ls) (hb:Bel w w'):PartsA w' v ls:=by
 obtain⟨vs,A,c,e,h1,h2⟩:=h
 refine⟨vs,A,c,e,fun j hj=>?_,?_⟩
 ·obtain⟨g,hA,hc⟩:=h1 j hj
  exact⟨g,hA,cQ hb hc⟩
 ·clear h1 e
  induction h2 with
  |nil=>exact .nil
  |cons h _ ih=>exact .cons (h.below hb) ih
def JRet (w:World) (L:List Fil.FilE) (e:Ending) (w':World):Prop:=Bel w w'∧∃ A n c,e= .returned (.slice A n c)∧FilsA w' (.slice A n c) L
theorem zaq_ (op:Int) (ls:List (List Fil.FilE)) (L:List Fil.FilE) (v:Value) (w:World) (hv:PartsA w v ls) (hne:∀ l∈ls,l≠[]) (hls:ls.length≤100) (hlen:ls.flatten.length≤100000) (hL:Fil.opE op ls.length::ls.flatten=L):
  Calls Tryz.prog 7 #[.int .i64 op,v] w (JRet w L):=(join_c op ls v w hv hne hls hlen).mono fun e w' h=>by
 obtain⟨hb,u,rfl,hf⟩:=h
 rw[hL] at hf
 obtain⟨A,c,rfl,_⟩:=hf.isSlice
 exact⟨hb,A,_,c,rfl,hf⟩
theorem zhu_ (op:Int) (w:World):Calls Tryz.prog 7 #[.int .i64 op,.slice none 0 0] w (JRet w [Fil.opE op 0]):=zaq_ op [] _ _ w (PartsA.nil w) (fun l hl=>by cases hl) (by simp) (by simp) rfl
theorem y8_ (op:Int) {k:Nat} {f:List Fil.FilE} (hg:Good8 k f) (hk:k≤10000) (hne:f≠[]) (v:Value) (W:World) (hv:PartsA W v [f]):Calls Tryz.prog 7 #[.int .i64 op,v] W (JRet W (Fil.opE op 1::f)):=
 zaq_ op [f] _ _ W hv (fun l hl=>by rw[List.mem_singleton.1 hl];exact hne) (by simp) (by simp;have:=hg.1;omega) (by simp)
theorem jq_ (op:Int) {k m:Nat} {f g:List Fil.FilE} (hf:Good8 k f) (hk:k≤10000) (hg:Good8 m g) (hm:m≤10000) (hne:f≠[]) (hne2:g≠[]) (v:Value) (W:World) (hv:PartsA W v [f,g]):Calls Tryz.prog 7 #[.int .i64 op,v] W (JRet W (Fil.opE op 2::(f++g))):=
 zaq_ op [f,g] _ _ W hv (fun l hl=>by simp only[List.mem_cons,List.not_mem_nil,or_false] at hl;rcases hl with rfl|rfl;exact hne;exact hne2) (by simp) (by simp;have:=hf.1;have:=hg.1;omega) (by simp)
theorem zgi_ {a b:Int} (ha:Fil.Three a) (hb:Fil.Three b):Fil.someF 0 1 [b,a]=Fil.someF 0 1 [a,b]∧Fil.someF 1 0 [b,a]=Fil.someF 1 0 [a,b]∧Fil.notV (Fil.someF 1 0 [Fil.notV a,Fil.notV b])=Fil.someF 0 1 [a,b]∧Fil.someF 0 1 [a,a]=a:=by
 rcases ha with rfl|rfl|rfl<;>rcases hb with rfl|rfl|rfl<;>decide
open Go.RowKit
theorem ze8_ (w0:World) (hw:Env w0) (p:Fil.FilE) (t:List Fil.FilE) (v:Value) (w:World) (acc:LU) (hv:FilsA w0 v (p::t)) (hb:Bel w0 w) (hI:IsB w0.heap.size w0.heap.size acc w) (hl:Fil.wgt (p::t)≤1048576) (ha:acc.length+4 * Fil.wgt (p::t)≤1000000000) (ho:p.op=0∨p.op=1∨p.op=2) (hn:0≤p.n) (d:Nat) (r:List Fil.FilE) (hwh:Fil.times (Fil.wholeF d) p.n.toNat t=some r)
  (ih:∀ (l r:List Fil.FilE) (v:Value) (w:World) (acc:LU),Fil.wholeF d l=some r→FilsA w0 v l→Bel w0 w→IsB w0.heap.size w0.heap.size acc w→Fil.wgt l≤1048576→acc.length+4 * Fil.wgt l≤1000000000→Calls Tryz.prog 55 #[.pointer (some ⟨w0.heap.size,0,none⟩),v] w (z13_ w0 w acc (Fil.putF d l))):
  Calls Tryz.prog 55 #[.pointer (some ⟨w0.heap.size,0,none⟩),v] w (z13_ w0 w acc (40::Fil.opB p.op::((Fil.putsF (Fil.putF d) p.n.toNat t).1++[41]),(Fil.putsF (Fil.putF d) p.n.toNat t).2)):=by
 obtain⟨bb,oo,c,vy,vt,rfl,hc,⟨c0,c1,c2,c3,c4,c5,c6⟩,hta,hsl,ht⟩:=hv.tail
 rw[Fil.wgt_cons] at hl ha
 have hW:=fun (x:LU) (W:World) (hW:Bel w0 W) (h:x.length≤1048576)=>kx_ x W (hw.keep hW) (by omega)
 have HWr:=hiD hW
 have hBp:=hI.lt
 obtain⟨Ay,cy,rfl,hyc,hy⟩:=hta.at
 obtain⟨At,ct,rfl,hct⟩:=ht.isSlice
 have HT:=hiD ht
 obtain⟨o,n,ty,va,i,f,y⟩:=p
 unfold z0i_ at hl ha
 simp only at c0 c1 c2 c3 c4 c5 c6 hl ha hyc hy ho hn hwh
 have d0:=cQ hb c0
 have d1:=cQ hb c1
 have d2:=cQ hb c2
 have d3:=cQ hb c3
 have d4:=cQ hb c4
 have d5:=cQ hb c5
 have d6:=cQ hb c6
 have hk1:=Bk.new w 45 #[.int .i64 o,.int .i64 n,.string ⟨ty.toArray⟩,.string ⟨va.toArray⟩,.string ⟨i.toArray⟩,.string ⟨f.toArray⟩,.slice Ay y.length cy]
 have hb1:=zd_ w (.cells #[.int .i64 o,.int .i64 n,.string ⟨ty.toArray⟩,.string ⟨va.toArray⟩,.string ⟨i.toArray⟩,.string ⟨f.toArray⟩,.slice Ay y.length cy] 45)
 have hI1:=hI.below hb1
 have hbb:=tQ hb hb1
 have hpn:w.heap.size≠w0.heap.size:=by omega
 have hi1:(0:Int)<(t.length:Int)+1:=by omega
 obtain⟨a1,ha1⟩:∃ a1,acc++[40]=a1:=⟨_,rfl⟩
 have ha1l:a1.length=acc.length+1:=by rw[← ha1,List.length_append];rfl
 have HB1:=hiD hbb
 have HK1:=hiD hk1
 have HI1:=hiD hI1
 have hb10:Below w0.heap.size w (w.alloc (.cells #[.int .i64 o,.int .i64 n,.string ⟨ty.toArray⟩,.string ⟨va.toArray⟩,.string ⟨i.toArray⟩,.string ⟨f.toArray⟩,.slice Ay y.length cy] 45)):=hb1.mono hb.size
 have HB10:=hiD hb10
 have H40:Hid (∀ W,IsB w0.heap.size w0.heap.size acc W→Calls Tryz.prog 107 #[.pointer (some ⟨w0.heap.size,0,none⟩),.int .u8 40] W fun e w'=>e= .returned .nilIface∧IsB w0.heap.size w0.heap.size a1 w'∧Below w0.heap.size W w'∧Oth w0.heap.size W w'):=hiD fun W hW=>q8_ _ _ acc a1 40 ha1 W hW (by omega)
 clear c0 c1 c2 c3 c4 c5 c6 hv ht hb hI hW hk1 hb1 hI1 hbb hb10
 obtain⟨n,rfl⟩:∃ N:Nat,n=N:=⟨n.toNat,by omega⟩
 rw[show (⟨o,(n:Int),ty,va,i,f,y⟩:Fil.FilE).n.toNat=n from Int.toNat_natCast n,show (⟨o,(n:Int),ty,va,i,f,y⟩:Fil.FilE).op=o from rfl]
 rw[Int.toNat_natCast] at hwh
 have hnt:n≤t.length:=by have:=(Fil.times_suf (Fil.whole_suf d) _ _ _ hwh).1;omega
 have htw:=Fil.wgt_len t
 obtain⟨a2,ha2⟩:∃ a2,a1++[Fil.opB o]=a2:=⟨_,rfl⟩
 have ha2l:a2.length=a1.length+1:=by rw[← ha2,List.length_append];rfl
 have hpw:=Fil.puts_wgt (Fil.put_wgt d) n t
 obtain⟨a3,ha3⟩:∃ a3,a2++(Fil.putsF (Fil.putF d) n t).1=a3:=⟨_,rfl⟩
 have ha3l:a3.length=a2.length+(Fil.putsF (Fil.putF d) n t).1.length:=by rw[← ha3,List.length_append]
 obtain⟨a4,ha4⟩:∃ a4,a3++[41]=a4:=⟨_,rfl⟩
 obtain⟨lN,hlN⟩:∃ lN,(Fil.putsF (Fil.putF d) n t).2=lN:=⟨_,rfl⟩
 have hfin:acc++(40::Fil.opB o::((Fil.putsF (Fil.putF d) n t).1++[41]))=a4:=by
  rw[← ha4,← ha3,← ha2,← ha1]
  simp
 have HF:=hiD hfin
 have HA3:=hiD ha3
 have HLN:=hiD hlN
 have HWH:=hiD hwh
 have IH:=hiD ih
 have H41:Hid (∀ W,IsB w0.heap.size w0.heap.size a3 W→Calls Tryz.prog 107 #[.pointer (some ⟨w0.heap.size,0,none⟩),.int .u8 41] W fun e w'=>e= .returned .nilIface∧IsB w0.heap.size w0.heap.size a4 w'∧Below w0.heap.size W w'∧Oth w0.heap.size W w'):=hiD fun W hW=>q8_ _ _ a3 a4 41 ha4 W hW (by omega)
 have HOP:=hiD (fun W hW=>q8_ w0.heap.size w0.heap.size a1 a2 (Fil.opB o) ha2 W hW (by omega))
 have H2L:=hiD (show a2.length+4 * Fil.wgt t≤1000000000 by omega)
 have htw2:Fil.wgt t≤1048576:=by omega
 rw[hlN]
 clear hfin ha1 ha2 ha3 ha4 hlN hwh ih hpw ha3l
 have hget:=qd_
 rcases ho with rfl|rfl|rfl
 all_goals
  first
   |rw[show ((Fil.opB 0).toNat:Int)=38 from rfl] at HOP
   |rw[show ((Fil.opB 1).toNat:Int)=124 from rfl] at HOP
   |rw[show ((Fil.opB 2).toNat:Int)=33 from rfl] at HOP
  go_enter Tryz.func55,Tryz.ntmps55
  go_wp2_with (first
   |(go_at_call 107;(with_reducible refine(HOP.out _ HI3.out).mono ?_);rintro e w7 ⟨rfl,hI7,hb7,ho7⟩;have HI7:=hiD hI7;have hk7:=HK3.out.oth ho7 hpn (by decide);have x1:=hk7.cell 1;simp only[gs3] at x1;have HB7:=hiD (HBw3.out.trans hb7);have HB07:=hiD (HB3.out.trans hb7))
   |(go_at_call 107;(with_reducible refine(H40.out _ HI1.out).mono ?_);rintro e w3 ⟨rfl,hI3,hb3,ho3⟩;have hk3:=HK1.out.oth ho3 hpn (by decide);have e0:=hk3.cell 0;have e1:=hk3.cell 1;have e2:=hk3.cell 2;have e3:=hk3.cell 3;have e4:=hk3.cell 4;have e5:=hk3.cell 5;have e6:=hk3.cell 6;simp only[gs3] at e0 e1 e2 e3 e4 e5 e6;have HI3:=hiD hI3;have HK3:=hiD hk3;have HB3:=hiD (HB1.out.trans hb3);have HBw3:=hiD (HB10.out.trans hb3);clear hI3 hk3 ho3 hb3))
  go_loopg [1,40] n (fun gk vj ix wr=>∃ (j:Nat) (lj:List Fil.FilE) (aj:LU),ix= .int .i64 (j:Int)∧Aside (j+gk=n)∧Aside (FilsA w0 vj lj)∧Aside (Fil.times (Fil.wholeF d) gk lj=some r)∧Aside (aj++(Fil.putsF (Fil.putF d) gk lj).1=a3)∧Aside ((Fil.putsF (Fil.putF d) gk lj).2=lN)∧Aside (IsB w0.heap.size w0.heap.size aj wr)∧Aside (Fil.wgt lj≤1048576)∧Aside (aj.length+4 * Fil.wgt lj≤1000000000)∧Aside (Below w0.heap.size w wr)∧Aside (Bel w0 wr))
  case atStart=>exact⟨0,t,a2,rfl,by show _=_;omega,HT.out,HWH.out,HA3.out,HLN.out,HI7.out,htw2,H2L.out,HB7.out,HB07.out⟩
  case round=>
   clear HI3 HK3 HB3 HBw3 HI7 HB7 HB07 hk7 x1 hI7 hb7 ho7 HT HWH HA3 HLN e0 e1 e2 e3 e4 e5 e6
   obtain⟨j,lj,aj,rfl,AG,AF,AT,AA,AL,AI,AW,AN,AB,AB0⟩:=hrel
   obtain⟨Aj,cj,rfl,hcj⟩:=AF.out.isSlice
   cases gk with
   |zero=>
    have hj:j=n:=AG.out
    subst hj
    have h3:aj=a3:=by have:=AA.out;simpa [Fil.putsF] using this
    have h4:lj=lN:=AL.out
    subst h3 h4
    go_wp2_with (go_at_call 107;(with_reducible refine(H41.out _ AI.out).mono ?_);rintro e w8 ⟨rfl,hI8,hb8,_⟩)
    go_ret
    exact⟨AB.out.trans hb8,hI8.cast HF.out.symm,_,rfl,AF.out⟩
   |succ q=>
    have hji:(j:Int)<(n:Int):=by have:=AG.out;omega
    obtain⟨l2,hl2,ht2⟩:∃ l2,Fil.wholeF d lj=some l2∧Fil.times (Fil.wholeF d) q l2=some r:=by
     have:=AT.out
     rw[show Fil.times (Fil.wholeF d) (q+1) lj=(Fil.wholeF d lj).bind (Fil.times (Fil.wholeF d) q) from rfl] at this
     cases hc:Fil.wholeF d lj with
     |none=>rw[hc] at this;cases this
     |some l2=>rw[hc] at this;exact⟨l2,rfl,this⟩
    obtain⟨_, -,hp2, -⟩:=Fil.fil_back d lj l2 hl2
    have hpw:=Fil.put_wgt d lj
    have hwg:=Fil.whole_wgt hl2
    have HC:=hiD (IH.out lj l2 (.slice Aj lj.length cj) wr aj hl2 AF.out AB0.out AI.out AW.out AN.out)
    have hA2:(aj++(Fil.putF d lj).1)++(Fil.putsF (Fil.putF d) q (Fil.putF d lj).2).1=a3:=by rw[List.append_assoc];exact AA.out
    have hL2:(Fil.putsF (Fil.putF d) q (Fil.putF d lj).2).2=lN:=AL.out
    rw[hp2] at hA2 hL2 hpw
    have HA2:=hiD hA2
    have HL2:=hiD hL2
    have HT2:=hiD ht2
    have HN2:=hiD (show (aj++(Fil.putF d lj).1).length+4 * Fil.wgt l2≤1000000000 by rw[List.length_append];have:=AN.out;omega)
    have HW2:=hiD (show Fil.wgt l2≤1048576 by have:=AW.out;omega)
    have HP2:=hiD hp2
    clear hA2 hL2 ht2 hl2 hpw hwg hp2
    go_wp2_with (go_at_call 55;(with_reducible refine HC.out.mono ?_);rintro e w2 ⟨hb2,hI2,v2,rfl,hf2⟩)
    go_roundg q
    case measure=>omega
    case rel=>exact⟨j+1,l2,_,by go_num,by have:=AG.out;show _=_;omega,HP2.out ▸ hf2,HT2.out,HA2.out,HL2.out,hI2,HW2.out,HN2.out,AB.out.trans hb2,AB0.out.trans hb2⟩
theorem zn6_ (w0:World) (hw:Env w0):∀ (d:Nat) (l r:List Fil.FilE) (v:Value) (w:World) (acc:LU),Fil.wholeF d l=some r→FilsA w0 v l→Bel w0 w→IsB w0.heap.size w0.heap.size acc w→Fil.wgt l≤1048576→acc.length+4 * Fil.wgt l≤1000000000→Calls Tryz.prog 55 #[.pointer (some ⟨w0.heap.size,0,none⟩),v] w (z13_ w0 w acc (Fil.putF d l))
 |0,l,r,v,w,acc,h,_,_,_,_,_=>by cases h
 |d+1,[],r,v,w,acc,h,_,_,_,_,_=>by cases h
 |d+1,p::t,r,v,w,acc,h,hv,hb,hI,hl,ha=>by
  have hs:Fil.shapeB p=true:=by
   unfold Fil.wholeF at h
   split at h
   ·next hs=>exact hs
   ·cases h
  have hn:=shape_n hs
  rw[Fil.wholeF,if_pos hs] at h
  rw[Fil.putF]
  by_cases h0:p.op=0∨p.op=1∨p.op=2
  ·rw[if_pos h0]
   exact ze8_ w0 hw p t v w acc hv hb hI hl ha h0 hn d r h (zn6_ w0 hw d)
  ·rw[if_neg h0]
   by_cases h1:p.op<0∨8<p.op
   ·rw[Fil.shape_no p h1] at hs;cases hs
   by_cases h7:p.op=7
   ·exact zdp_ w0 hw p t v w acc hv hb hI hl ha h7
   by_cases h4:p.op=4
   ·exact zhw_ w0 hw p t v w acc hv hb hI hl ha h4
   ·exact zgz_ w0 hw p t v w acc hv hb hI hl ha (by omega)
theorem zp7_ (l r:List Fil.FilE) (v:Value) (w:World) (hw:Env w) (hv:FilsA w v l) (hl:Fil.wgt l≤1048576) (h:Fil.wholeF 20 l=some r):
  Calls Tryz.prog 26 #[v] w fun e w'=>e= .returned (.string ⟨(Fil.textF l).toArray⟩)∧Bel w w':=by
 have hP:=zn6_ w hw 20 l r v (w.alloc (.cells #[.pointer none,.slice none 0 0] 126)) [] h hv ((bR _ _).alloc (nR _) _) (IsB.new w) hl (by rw[List.length_nil];omega)
 have hb0:Bel w (w.alloc (.cells #[.pointer none,.slice none 0 0] 126)):=(bR _ _).alloc (nR _) _
 rw[show Fil.textF l=(Fil.putF 20 l).1 from rfl]
 have HP:=hiD hP
 have HB0:=hiD hb0
 obtain⟨A,c,rfl,hc⟩:=hv.isSlice
 generalize Fil.putF 20 l=X at *
 clear hP hb0 hv h
 go_enter Tryz.func26,Tryz.ntmps26
 go_wp2_with (first
  |(go_at_call 55;(with_reducible refine HP.out.mono ?_);rintro e w2 ⟨hb2,hI2,v2,rfl,hf2⟩;obtain⟨A2,c2,rfl,hc2⟩:=hf2.isSlice;have HI2:=hiD hI2)
  |(go_at_call 56;(refine(zad_ w.heap.size w.heap.size _ w2 HI2.out).mono ?_);rintro e w3 ⟨rfl,_,hb3⟩))
 go_ret
 exact⟨by simp,(HB0.out.trans hb2).trans hb3⟩
theorem zl4_ (l:List Fil.FilE) (v:Value) (w:World) (hw:Env w) (hv:FilsA w v l) (hl:Fil.wgt l≤1048576) (hn:z4v_ l):
  Calls Tryz.prog 14 #[v] w fun e w'=>e= .returned (.tuple #[.string ⟨(Fil.printF l).1.toArray⟩,.int .i64 (Fil.printF l).2])∧Bel w w':=by
 have hV:=z0j_ l v w hw hv (by omega) hn
 have HV:=hiD hV
 obtain⟨A,c,rfl,hc⟩:=hv.isSlice
 clear hV
 cases hb:Fil.validF l with
 |false=>
  have hR:Fil.printF l=([],60):=by unfold Fil.printF;rw[hb];rfl
  rw[hR]
  rw[hb] at HV
  clear hR hb hv
  go_enter Tryz.func14,Tryz.ntmps14
  go_wp2_with (go_at_call 5;(with_reducible refine HV.out.mono ?_);rintro e w2 ⟨rfl,hb2⟩)
  go_ret2
  exact⟨rfl,hb2⟩
 |true=>
  have hR:Fil.printF l=if 65536<(Fil.textF l).length then ([],2) else (Fil.textF l,0):=by unfold Fil.printF;rw[hb];rfl
  rw[hb] at HV
  have hwh:Fil.wholeF 20 l=some []:=by
   unfold Fil.validF at hb
   simp only[Bool.and_eq_true,beq_iff_eq] at hb
   exact hb.2
  have hT:=fun (W:World) (hb:Bel w W)=>zp7_ l [] (.slice A l.length c) W (hw.keep hb) (hv.below hb) hl hwh
  have HT:=hiD hT
  clear hb hv hwh hT
  rw[hR]
  clear hR
  generalize Fil.textF l=X at *
  by_cases hX:65536<X.length
  ·have hXi:((X.length:Int)>65536):=by omega
   rw[if_pos hX]
   go_enter Tryz.func14,Tryz.ntmps14
   go_wp2_with (first
    |(go_at_call 5;(with_reducible refine HV.out.mono ?_);rintro e w2 ⟨rfl,hb2⟩)
    |(go_at_call 26;(refine(HT.out _ hb2).mono ?_);rintro e w3 ⟨rfl,hb3⟩))
   go_ret2
   exact⟨rfl,tQ hb2 hb3⟩
  ·have hXi:¬ ((X.length:Int)>65536):=by omega
   rw[if_neg hX]
   go_enter Tryz.func14,Tryz.ntmps14
   go_wp2_with (first
    |(go_at_call 5;(with_reducible refine HV.out.mono ?_);rintro e w2 ⟨rfl,hb2⟩)
    |(go_at_call 26;(refine(HT.out _ hb2).mono ?_);rintro e w3 ⟨rfl,hb3⟩))
   go_ret2
   exact⟨rfl,tQ hb2 hb3⟩
end Go.Proofs.YtbekpphodbekiaaGreatDoor
