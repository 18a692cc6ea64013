import Derived.Test.YtakfpngfpknedaaGreatDoorE12
set_option linter.all false
set_option maxHeartbeats 8000000
set_option maxRecDepth 100000
set_option linter.all false
namespace Go.Proofs.YtakfpngfpknedaaGreatDoor
open Go.RowKit
def OutL (B po:Nat) (w:World) (L:LL):Prop:=∃ v,Bk w po 22 #[v]∧Own B w v L∧po<B
theorem OutL.below {B po:Nat} {w w':World} {L:LL} (h:OutL B po w L) (hb:Bel w w'):OutL B po w' L:=by
 obtain⟨v,h1,h2,h3⟩:=h
 exact⟨v,h1.below hb,h2.below hb,h3⟩
def PutL (B po:Nat) (w:World) (L:LL) (e:Ending) (w':World):Prop:=e= .returned (.tuple #[])∧Out2 B po po w w'∧OutL B po w' L
section
variable {B po:Nat} {w:World} {L:LL}
theorem kx_ (wd arg:LU) (h:OutL B po w L) (hl:L.length≤4000000) (hw:wd.length≤100) (ha:arg.length≤4000000):
  Calls Tryz.prog 30 #[.string ⟨wd.toArray⟩,.string ⟨arg.toArray⟩,.pointer (some ⟨po,0,none⟩)] w (PutL B po w (L++Cfg.line wd arg)):=by
 by_cases he:arg=[]
 ·subst he
  have hs:Cfg.line wd []=[]:=if_pos rfl
  rw[hs,List.append_nil]
  have H:=hiD h
  clear h hs
  go_enter Tryz.func30,Tryz.ntmps30
  go_wp2_with fail
  go_end0
  exact⟨rfl,Out2.refl,H.out⟩
 ·have hs:Cfg.line wd arg=[(wd++[32])++arg]:=by
   unfold Cfg.line
   rw[if_neg he]
   simp
  rw[hs]
  have hne:(arg !=[])=true:=bne_iff_ne.2 he
  have hne2:arg.isEmpty=false:=by cases arg with
   |nil=>exact absurd rfl he
   |cons a l=>rfl
  obtain⟨v,hB,hO,hp⟩:=h
  obtain⟨A0,n0,rfl,_⟩:=hO.isSlice
  have c0:=hB.cell 0
  simp only[List.getElem?_toArray,List.getElem?_cons_zero] at c0
  have HB:=hiD hB
  have HO:=hiD hO
  clear hB hO he hs
  go_enter Tryz.func30,Tryz.ntmps30
  go_wp2_with (at_builtin;refine qh_ (c:=(wd++[32])++arg) rfl _ _ rfl rfl HO.out rfl rfl (by omega) ?_;intro v' w' hO' hg';obtain⟨A6,c6,rfl,_⟩:=hO'.isSlice;have HO':=hiD hO';have hB':=HB.out.grown hg' (fun e=>by have:=(HO.out.lt po e.symm).1;omega);have f0:=hB'.frozen 0;have c1:=hB'.cell 0;simp only[List.getElem?_toArray,List.getElem?_cons_zero] at c1;have HB':=hiD hB';have HG':=hiD hg';clear hO' hg' hB')
  go_end0
  have hBw:=HO.out.2
  refine⟨rfl,?_,_,?_,HO'.out.keep (z5_ _ _ _ _) (fun k hk=>by cases hk;exact hp),hp⟩
  ·have h1:Out2 B po po w _:=⟨HG'.out.os,HG'.out.tape,HG'.out.output,HG'.out.size,fun k hk _ _=>HG'.out.block k (by omega) (fun e=>by have:=(HO.out.lt k e.symm).1;omega)⟩
   exact h1.trans (Out2.of_grown (p:=po) (z5_ _ _ _ _) (nT hBw HG'.out.size))
  ·simpa using HB'.out.set 0 _
theorem z1d_ (w a:LU):(Cfg.line w a).length≤1:=by
 unfold Cfg.line
 split<;>simp
theorem j0_ (w:LU):∀ l:LL,(Cfg.lines w l).length≤l.length
 |[]=>nR _
 |a::l=>by
  have h1:=z1d_ w a
  have h2:=j0_ w l
  show (Cfg.line w a++Cfg.lines w l).length≤_
  rw[List.length_append,List.length_cons]
  omega
theorem lines_snoc (w:LU) (l:LL) (a:LU):Cfg.lines w (l++[a])=Cfg.lines w l++Cfg.line w a:=by
 unfold Cfg.lines
 rw[List.flatMap_append]
 simp
theorem vm_ (wd:LU) (l:LL) (v:Value) (bf:Nat) (hf:Bk w bf 75 #[.func (.func 30) #[] #[.pointer (some ⟨po,0,none⟩)]]) (hfB:bf<B∧bf≠po) (hv:∀ W,Out2 B po po w W→TextsA W v l) (h:OutL B po w L)
  (hl:L.length+l.length≤4000000) (hw:wd.length≤100) (ha:∀ a∈l,a.length≤4000000):
  Calls Tryz.prog 31 #[.string ⟨wd.toArray⟩,v,.pointer (some ⟨bf,0,none⟩)] w (PutL B po w (L++Cfg.lines wd l)):=by
 have hent:∀ (args:Array Value) (W:World),(callFunc 30 args).run Tryz.prog W= .ok (.enter 30 args) W:=fun _ _=>by kernel_rfl
 obtain⟨A,cp,rfl,_,_⟩:=(hv w Out2.refl).at
 have HV:Hid (∀ W,Out2 B po po w W→∀ j (hj:j<l.length),∃ a,A=some a∧W.cell? (a.add j)=some (.string ⟨l[j].toArray⟩)):=hiD fun W hW j hj=>by
  obtain⟨A',c',he,_,hx⟩:=(hv W hW).at
  cases he
  exact hx j hj
 have HF:=hiD (fun (W:World) (hW:Out2 B po po w W)=>(hW.bk hf hfB.1 hfB.2 hfB.2).cell 0)
 have HA:=hiD ha
 have H0:=hiD h
 have hll:=j0_ wd
 have hlI:(l.length:Int)≤4000000:=by omega
 clear hv hf ha h
 go_enter Tryz.func31,Tryz.ntmps31
 go_wp2_with fail
 go_loopg [9] l.length (fun gk i wr=>∃ k:Nat,k≤l.length∧i= .int .i64 (k:Int)∧Aside (k+gk=l.length)∧Aside (Out2 B po po w wr)∧Aside (OutL B po wr (L++Cfg.lines wd (l.take k))))
 case atStart=>exact⟨0,Nat.zero_le _,rfl,by show _=_;omega,Out2.refl,by show OutL _ _ _ _;simpa [Cfg.lines] using H0.out⟩
 case round=>
  obtain⟨k,hk,rfl,AG,AO,AL⟩:=hrel
  have HO:=hiD AO.out
  have HL:=hiD AL.out
  clear AO AL
  by_cases hlt:k<l.length
  ·obtain⟨q,rfl⟩:∃ q,gk=q+1:=⟨gk - 1,by have:=AG.out;omega⟩
   obtain⟨a,rfl,hc⟩:=HV.out _ HO.out k hlt
   have hf0:=HF.out _ HO.out
   simp only[List.getElem?_toArray,List.getElem?_cons_zero] at hf0
   have hal:=HA.out _ (List.getElem_mem hlt)
   have hsn:Cfg.lines wd (l.take (k+1))=Cfg.lines wd (l.take k)++Cfg.line wd l[k]:=by rw[List.take_succ_eq_append_getElem hlt,lines_snoc]
   have HSN:=hiD hsn
   have hbl:=hll (l.take k)
   rw[List.length_take] at hbl
   clear hsn
   generalize l[k]=x at *
   have HOne:=hiD (kx_ wd x HL.out (by rw[List.length_append];omega) hw hal)
   unfold PutL at HOne
   go_wp2_with ((with_reducible refine HOne.out.mono ?_);rintro e w5 ⟨rfl,hO,hL⟩;have HO5:=hiD (HO.out.trans hO);have HL5:=hiD hL;clear hO hL)
   go_roundg q
   case measure=>omega
   case rel=>exact⟨k+1,by omega,by go_num,by have:=AG.out;show _=_;omega,HO5.out,by show OutL _ _ _ _;rw[HSN.out,← List.append_assoc];exact HL5.out⟩
  ·obtain rfl:k=l.length:=by omega
   go_wp2_with fail
   go_end0
   exact⟨rfl,HO.out,by have:=HL.out;rwa [List.take_length] at this⟩
theorem z9r_ (wd:LU) (b:Bool) (bf:Nat) (hf:Bk w bf 75 #[.func (.func 30) #[] #[.pointer (some ⟨po,0,none⟩)]]) (h:OutL B po w L) (hl:L.length≤4000000) (hw:wd.length≤100):
  Calls Tryz.prog 32 #[.string ⟨wd.toArray⟩,.bool b,.pointer (some ⟨bf,0,none⟩)] w (PutL B po w (L++Cfg.onL wd b)):=by
 have hent:∀ (args:Array Value) (W:World),(callFunc 30 args).run Tryz.prog W= .ok (.enter 30 args) W:=fun _ _=>by kernel_rfl
 have hf0:=hf.cell 0
 simp only[List.getElem?_toArray,List.getElem?_cons_zero] at hf0
 have H:=hiD h
 have HOne:=hiD (kx_ wd Cfg.onB h hl hw (by decide))
 unfold Cfg.onB at HOne
 clear hf h
 cases b
 ·have he:Cfg.onL wd false=[]:=rfl
  rw[he,List.append_nil]
  go_enter Tryz.func32,Tryz.ntmps32
  go_wp2_with fail
  go_end0
  exact⟨rfl,Out2.refl,H.out⟩
 ·have he:Cfg.onL wd true=Cfg.line wd [111,110]:=rfl
  rw[he]
  unfold PutL at HOne
  go_enter Tryz.func32,Tryz.ntmps32
  go_wp2_with ((with_reducible refine HOne.out.mono ?_);rintro e w5 ⟨rfl,hO,hL⟩;have HO5:=hiD hO;have HL5:=hiD hL;clear hO hL)
  go_end0
  exact⟨rfl,HO5.out,HL5.out⟩
end
end Go.Proofs.YtakfpngfpknedaaGreatDoor
set_option linter.all false
namespace Go.Proofs.YtakfpngfpknedaaGreatDoor
open Go.RowKit
theorem zkk_ (c d:Cfg.ConfE) (v1 v2:Value) (w:World) (h1:ConfW w v1 c) (h2:ConfW w v2 d) (hl:Cfg.countE c≤1000000000) (hA:¬ (c.suffix=d.suffix∧c.root=d.root∧c.secret=d.secret∧c.size=d.size∧c.memberof=d.memberof∧c.audit=d.audit)):
  Calls Tryz.prog 35 #[v1,v2] w fun e w'=>e= .returned (.bool (decide (c=d)))∧Bel w w':=by
 obtain⟨R,hR⟩:∃ R,decide (c=d)=R:=⟨_,rfl⟩
 rw[hR]
 obtain⟨va,vc,vl,vi,vr,vu,rfl,ta,tc,tl,ti,tr,tu⟩:=h1
 obtain⟨ua,uc,ul,ui,ur,uu,rfl,sa,sc,sl,si,sr,su⟩:=h2
 obtain⟨x0,x1,x2,x3,x4,x5,x6,x7,x8,x9,x10,x11⟩:=c
 obtain⟨y0,y1,y2,y3,y4,y5,y6,y7,y8,y9,y10,y11⟩:=d
 unfold jw_ za_
 unfold Cfg.countE at hl
 simp only at hl ta tc tl ti tr tu sa sc sl si sr su hA ⊢
 obtain⟨P1,hP1⟩:∃ P1,P1=#[.string ⟨x0.toArray⟩,.string ⟨x1.toArray⟩,.string ⟨x2.toArray⟩,.int .i64 x3,va,vc,vl,vi,.bool x8,.bool x9,vr,vu]:=⟨_,rfl⟩
 obtain⟨P2,hP2⟩:∃ P2,P2=#[.string ⟨y0.toArray⟩,.string ⟨y1.toArray⟩,.string ⟨y2.toArray⟩,.int .i64 y3,ua,uc,ul,ui,.bool y8,.bool y9,ur,uu]:=⟨_,rfl⟩
 rw[← hP1,← hP2]
 have b1:=zs_ w (.cells P1 25)
 have b2:=b1.alloc b1.size (.cells P2 25)
 have k1:=(Bk.new w 25 P1).alloc (.cells P2 25)
 have k2:=Bk.new (w.alloc (.cells P1 25)) 25 P2
 rw[World.size_alloc] at k2
 have HT4:Hid (∀ b,decide (x4=y4)=b→∀ W:World,Bel w W→Calls Tryz.prog 63 #[va,ua] W fun e w'=>e= .returned (.bool b)∧∃ m,w'=W.drewN m):=hiD fun b hb W h=>by rw[← hb];exact kg_ x4 y4 va ua W (ta.below h) (sa.below h) (by omega)
 have HT5:Hid (∀ b,decide (x5=y5)=b→∀ W:World,Bel w W→Calls Tryz.prog 63 #[vc,uc] W fun e w'=>e= .returned (.bool b)∧∃ m,w'=W.drewN m):=hiD fun b hb W h=>by rw[← hb];exact kg_ x5 y5 vc uc W (tc.below h) (sc.below h) (by omega)
 have HT6:Hid (∀ b,decide (x6=y6)=b→∀ W:World,Bel w W→Calls Tryz.prog 63 #[vl,ul] W fun e w'=>e= .returned (.bool b)∧∃ m,w'=W.drewN m):=hiD fun b hb W h=>by rw[← hb];exact kg_ x6 y6 vl ul W (tl.below h) (sl.below h) (by omega)
 have HT7:Hid (∀ b,decide (x7=y7)=b→∀ W:World,Bel w W→Calls Tryz.prog 64 #[vi,ui] W fun e w'=>e= .returned (.bool b)∧∃ m,w'=W.drewN m):=hiD fun b hb W h=>by rw[← hb];exact zia_ x7 y7 vi ui W (ti.below h) (si.below h) (by omega)
 have HT10:Hid (∀ b,decide (x10=y10)=b→∀ W:World,Bel w W→Calls Tryz.prog 63 #[vr,ur] W fun e w'=>e= .returned (.bool b)∧∃ m,w'=W.drewN m):=hiD fun b hb W h=>by rw[← hb];exact kg_ x10 y10 vr ur W (tr.below h) (sr.below h) (by omega)
 have HT11:Hid (∀ b,decide (x11=y11)=b→∀ W:World,Bel w W→Calls Tryz.prog 63 #[vu,uu] W fun e w'=>e= .returned (.bool b)∧∃ m,w'=W.drewN m):=hiD fun b hb W h=>by rw[← hb];exact kg_ x11 y11 vu uu W (tu.below h) (su.below h) (by omega)
 have HB2:=hiD b2
 have HR:=hiD hR
 have p0:=(k1.cell 0).trans (show P1[0]?=some (.string ⟨x0.toArray⟩) by rw[hP1];rfl)
 have q0:=(k2.cell 0).trans (show P2[0]?=some (.string ⟨y0.toArray⟩) by rw[hP2];rfl)
 have p1:=(k1.cell 1).trans (show P1[1]?=some (.string ⟨x1.toArray⟩) by rw[hP1];rfl)
 have q1:=(k2.cell 1).trans (show P2[1]?=some (.string ⟨y1.toArray⟩) by rw[hP2];rfl)
 have p2:=(k1.cell 2).trans (show P1[2]?=some (.string ⟨x2.toArray⟩) by rw[hP1];rfl)
 have q2:=(k2.cell 2).trans (show P2[2]?=some (.string ⟨y2.toArray⟩) by rw[hP2];rfl)
 have p3:=(k1.cell 3).trans (show P1[3]?=some (.int .i64 x3) by rw[hP1];rfl)
 have q3:=(k2.cell 3).trans (show P2[3]?=some (.int .i64 y3) by rw[hP2];rfl)
 have p4:=(k1.cell 4).trans (show P1[4]?=some (va) by rw[hP1];rfl)
 have q4:=(k2.cell 4).trans (show P2[4]?=some (ua) by rw[hP2];rfl)
 have p5:=(k1.cell 5).trans (show P1[5]?=some (vc) by rw[hP1];rfl)
 have q5:=(k2.cell 5).trans (show P2[5]?=some (uc) by rw[hP2];rfl)
 have p6:=(k1.cell 6).trans (show P1[6]?=some (vl) by rw[hP1];rfl)
 have q6:=(k2.cell 6).trans (show P2[6]?=some (ul) by rw[hP2];rfl)
 have p7:=(k1.cell 7).trans (show P1[7]?=some (vi) by rw[hP1];rfl)
 have q7:=(k2.cell 7).trans (show P2[7]?=some (ui) by rw[hP2];rfl)
 have p8:=(k1.cell 8).trans (show P1[8]?=some (.bool x8) by rw[hP1];rfl)
 have q8:=(k2.cell 8).trans (show P2[8]?=some (.bool y8) by rw[hP2];rfl)
 have p9:=(k1.cell 9).trans (show P1[9]?=some (.bool x9) by rw[hP1];rfl)
 have q9:=(k2.cell 9).trans (show P2[9]?=some (.bool y9) by rw[hP2];rfl)
 have p10:=(k1.cell 10).trans (show P1[10]?=some (vr) by rw[hP1];rfl)
 have q10:=(k2.cell 10).trans (show P2[10]?=some (ur) by rw[hP2];rfl)
 have p11:=(k1.cell 11).trans (show P1[11]?=some (vu) by rw[hP1];rfl)
 have q11:=(k2.cell 11).trans (show P2[11]?=some (uu) by rw[hP2];rfl)
 clear hP1 hP2
 clear hR hl b1 b2 k1 k2 ta tc tl tr tu sa sc sl sr su ti si
 go_enter Tryz.func35,Tryz.ntmps35
 by_cases h0:x0=y0
 case neg=>
  have hno:R=false:=by
   rw[← HR.out,decide_eq_false_iff_not]
   intro e
   exact h0 (Cfg.ConfE.mk.inj e).1
  subst hno
  have hb0:=beq_eq_false_iff_ne.2 h0
  clear h0 p1 q1 p2 q2 p3 q3 p8 q8 p9 q9 p4 q4 p5 q5 p6 q6 p7 q7 p10 q10 p11 q11 HT4 HT5 HT6 HT7 HT10 HT11 HR
  go_wp2_with fail
  go_ret
  exact⟨rfl,by first|exact HB2.out|exact z0_ HB2.out _⟩
 case pos=>
  subst h0
  by_cases h1:x1=y1
  case neg=>
   have hno:R=false:=by
    rw[← HR.out,decide_eq_false_iff_not]
    intro e
    exact h1 (Cfg.ConfE.mk.inj e).2.1
   subst hno
   have hb1:=beq_eq_false_iff_ne.2 h1
   clear h1 p2 q2 p3 q3 p8 q8 p9 q9 p4 q4 p5 q5 p6 q6 p7 q7 p10 q10 p11 q11 HT4 HT5 HT6 HT7 HT10 HT11 HR
   go_wp2_with fail
   go_ret
   exact⟨rfl,by first|exact HB2.out|exact z0_ HB2.out _⟩
  case pos=>
   subst h1
   by_cases h2:x2=y2
   case neg=>
    have hno:R=false:=by
     rw[← HR.out,decide_eq_false_iff_not]
     intro e
     exact h2 (Cfg.ConfE.mk.inj e).2.2.1
    subst hno
    have hb2:=beq_eq_false_iff_ne.2 h2
    clear h2 p3 q3 p8 q8 p9 q9 p4 q4 p5 q5 p6 q6 p7 q7 p10 q10 p11 q11 HT4 HT5 HT6 HT7 HT10 HT11 HR
    go_wp2_with fail
    go_ret
    exact⟨rfl,by first|exact HB2.out|exact z0_ HB2.out _⟩
   case pos=>
    subst h2
    by_cases h3:x3=y3
    case neg=>
     have hno:R=false:=by
      rw[← HR.out,decide_eq_false_iff_not]
      intro e
      exact h3 (Cfg.ConfE.mk.inj e).2.2.2.1
     subst hno
     have hb3:=beq_eq_false_iff_ne.2 h3
     clear h3 p8 q8 p9 q9 p4 q4 p5 q5 p6 q6 p7 q7 p10 q10 p11 q11 HT4 HT5 HT6 HT7 HT10 HT11 HR
     go_wp2_with fail
     go_ret
     exact⟨rfl,by first|exact HB2.out|exact z0_ HB2.out _⟩
    case pos=>
     subst h3
     by_cases h8:x8=y8
     case neg=>
      have hno:R=false:=by
       rw[← HR.out,decide_eq_false_iff_not]
       intro e
       exact h8 (Cfg.ConfE.mk.inj e).2.2.2.2.2.2.2.2.1
      subst hno
      have hb8:=beq_eq_false_iff_ne.2 h8
      clear h8 p9 q9 p4 q4 p5 q5 p6 q6 p7 q7 p10 q10 p11 q11 HT4 HT5 HT6 HT7 HT10 HT11 HR
      go_wp2_with fail
      go_ret
      exact⟨rfl,by first|exact HB2.out|exact z0_ HB2.out _⟩
     case pos=>
      subst h8
      by_cases h9:x9=y9
      case neg=>
       have hno:R=false:=by
        rw[← HR.out,decide_eq_false_iff_not]
        intro e
        exact h9 (Cfg.ConfE.mk.inj e).2.2.2.2.2.2.2.2.2.1
       subst hno
       have hb9:=beq_eq_false_iff_ne.2 h9
       clear h9 p4 q4 p5 q5 p6 q6 p7 q7 p10 q10 p11 q11 HT4 HT5 HT6 HT7 HT10 HT11 HR
       go_wp2_with fail
       go_ret
       exact⟨rfl,by first|exact HB2.out|exact z0_ HB2.out _⟩
      case pos=>
       subst h9
       exact absurd ⟨rfl,rfl,rfl,rfl,rfl,rfl⟩ hA
end Go.Proofs.YtakfpngfpknedaaGreatDoor
set_option linter.all false
namespace Go.Proofs.YtakfpngfpknedaaGreatDoor
open Go.RowKit
theorem zko_ (c d:Cfg.ConfE) (v1 v2:Value) (w:World) (h1:ConfW w v1 c) (h2:ConfW w v2 d) (hl:Cfg.countE c≤1000000000) (hA:c.suffix=d.suffix∧c.root=d.root∧c.secret=d.secret∧c.size=d.size∧c.memberof=d.memberof∧c.audit=d.audit):
  Calls Tryz.prog 35 #[v1,v2] w fun e w'=>e= .returned (.bool (decide (c=d)))∧Bel w w':=by
 obtain⟨R,hR⟩:∃ R,decide (c=d)=R:=⟨_,rfl⟩
 rw[hR]
 obtain⟨va,vc,vl,vi,vr,vu,rfl,ta,tc,tl,ti,tr,tu⟩:=h1
 obtain⟨ua,uc,ul,ui,ur,uu,rfl,sa,sc,sl,si,sr,su⟩:=h2
 obtain⟨x0,x1,x2,x3,x4,x5,x6,x7,x8,x9,x10,x11⟩:=c
 obtain⟨y0,y1,y2,y3,y4,y5,y6,y7,y8,y9,y10,y11⟩:=d
 unfold jw_ za_
 unfold Cfg.countE at hl
 simp only at hl ta tc tl ti tr tu sa sc sl si sr su hA ⊢
 obtain⟨h0,h1,h2,h3,h8,h9⟩:=hA
 subst h0;subst h1;subst h2;subst h3;subst h8;subst h9
 obtain⟨P1,hP1⟩:∃ P1,P1=#[.string ⟨x0.toArray⟩,.string ⟨x1.toArray⟩,.string ⟨x2.toArray⟩,.int .i64 x3,va,vc,vl,vi,.bool x8,.bool x9,vr,vu]:=⟨_,rfl⟩
 obtain⟨P2,hP2⟩:∃ P2,P2=#[.string ⟨x0.toArray⟩,.string ⟨x1.toArray⟩,.string ⟨x2.toArray⟩,.int .i64 x3,ua,uc,ul,ui,.bool x8,.bool x9,ur,uu]:=⟨_,rfl⟩
 rw[← hP1,← hP2]
 have b1:=zs_ w (.cells P1 25)
 have b2:=b1.alloc b1.size (.cells P2 25)
 have k1:=(Bk.new w 25 P1).alloc (.cells P2 25)
 have k2:=Bk.new (w.alloc (.cells P1 25)) 25 P2
 rw[World.size_alloc] at k2
 have HT4:Hid (∀ b,decide (x4=y4)=b→∀ W:World,Bel w W→Calls Tryz.prog 63 #[va,ua] W fun e w'=>e= .returned (.bool b)∧∃ m,w'=W.drewN m):=hiD fun b hb W h=>by rw[← hb];exact kg_ x4 y4 va ua W (ta.below h) (sa.below h) (by omega)
 have HT5:Hid (∀ b,decide (x5=y5)=b→∀ W:World,Bel w W→Calls Tryz.prog 63 #[vc,uc] W fun e w'=>e= .returned (.bool b)∧∃ m,w'=W.drewN m):=hiD fun b hb W h=>by rw[← hb];exact kg_ x5 y5 vc uc W (tc.below h) (sc.below h) (by omega)
 have HT6:Hid (∀ b,decide (x6=y6)=b→∀ W:World,Bel w W→Calls Tryz.prog 63 #[vl,ul] W fun e w'=>e= .returned (.bool b)∧∃ m,w'=W.drewN m):=hiD fun b hb W h=>by rw[← hb];exact kg_ x6 y6 vl ul W (tl.below h) (sl.below h) (by omega)
 have HT7:Hid (∀ b,decide (x7=y7)=b→∀ W:World,Bel w W→Calls Tryz.prog 64 #[vi,ui] W fun e w'=>e= .returned (.bool b)∧∃ m,w'=W.drewN m):=hiD fun b hb W h=>by rw[← hb];exact zia_ x7 y7 vi ui W (ti.below h) (si.below h) (by omega)
 have HT10:Hid (∀ b,decide (x10=y10)=b→∀ W:World,Bel w W→Calls Tryz.prog 63 #[vr,ur] W fun e w'=>e= .returned (.bool b)∧∃ m,w'=W.drewN m):=hiD fun b hb W h=>by rw[← hb];exact kg_ x10 y10 vr ur W (tr.below h) (sr.below h) (by omega)
 have HT11:Hid (∀ b,decide (x11=y11)=b→∀ W:World,Bel w W→Calls Tryz.prog 63 #[vu,uu] W fun e w'=>e= .returned (.bool b)∧∃ m,w'=W.drewN m):=hiD fun b hb W h=>by rw[← hb];exact kg_ x11 y11 vu uu W (tu.below h) (su.below h) (by omega)
 have HB2:=hiD b2
 have HR:=hiD hR
 have p0:=(k1.cell 0).trans (show P1[0]?=some (.string ⟨x0.toArray⟩) by rw[hP1];rfl)
 have q0:=(k2.cell 0).trans (show P2[0]?=some (.string ⟨x0.toArray⟩) by rw[hP2];rfl)
 have p1:=(k1.cell 1).trans (show P1[1]?=some (.string ⟨x1.toArray⟩) by rw[hP1];rfl)
 have q1:=(k2.cell 1).trans (show P2[1]?=some (.string ⟨x1.toArray⟩) by rw[hP2];rfl)
 have p2:=(k1.cell 2).trans (show P1[2]?=some (.string ⟨x2.toArray⟩) by rw[hP1];rfl)
 have q2:=(k2.cell 2).trans (show P2[2]?=some (.string ⟨x2.toArray⟩) by rw[hP2];rfl)
 have p3:=(k1.cell 3).trans (show P1[3]?=some (.int .i64 x3) by rw[hP1];rfl)
 have q3:=(k2.cell 3).trans (show P2[3]?=some (.int .i64 x3) by rw[hP2];rfl)
 have p4:=(k1.cell 4).trans (show P1[4]?=some (va) by rw[hP1];rfl)
 have q4:=(k2.cell 4).trans (show P2[4]?=some (ua) by rw[hP2];rfl)
 have p5:=(k1.cell 5).trans (show P1[5]?=some (vc) by rw[hP1];rfl)
 have q5:=(k2.cell 5).trans (show P2[5]?=some (uc) by rw[hP2];rfl)
 have p6:=(k1.cell 6).trans (show P1[6]?=some (vl) by rw[hP1];rfl)
 have q6:=(k2.cell 6).trans (show P2[6]?=some (ul) by rw[hP2];rfl)
 have p7:=(k1.cell 7).trans (show P1[7]?=some (vi) by rw[hP1];rfl)
 have q7:=(k2.cell 7).trans (show P2[7]?=some (ui) by rw[hP2];rfl)
 have p8:=(k1.cell 8).trans (show P1[8]?=some (.bool x8) by rw[hP1];rfl)
 have q8:=(k2.cell 8).trans (show P2[8]?=some (.bool x8) by rw[hP2];rfl)
 have p9:=(k1.cell 9).trans (show P1[9]?=some (.bool x9) by rw[hP1];rfl)
 have q9:=(k2.cell 9).trans (show P2[9]?=some (.bool x9) by rw[hP2];rfl)
 have p10:=(k1.cell 10).trans (show P1[10]?=some (vr) by rw[hP1];rfl)
 have q10:=(k2.cell 10).trans (show P2[10]?=some (ur) by rw[hP2];rfl)
 have p11:=(k1.cell 11).trans (show P1[11]?=some (vu) by rw[hP1];rfl)
 have q11:=(k2.cell 11).trans (show P2[11]?=some (uu) by rw[hP2];rfl)
 clear hP1 hP2
 clear hR hl b1 b2 k1 k2 ta tc tl tr tu sa sc sl sr su ti si
 go_enter Tryz.func35,Tryz.ntmps35
 by_cases h4:x4=y4
 case neg=>
  have hno:R=false:=by
   rw[← HR.out,decide_eq_false_iff_not]
   intro e
   exact h4 (Cfg.ConfE.mk.inj e).2.2.2.2.1
  subst hno
  have g4:=hiD (decide_eq_false h4)
  clear h4 p5 q5 p6 q6 p7 q7 p10 q10 p11 q11 HT5 HT6 HT7 HT10 HT11 HR
  go_wp2_with (first
   |(go_at_call 63;(with_reducible refine(HT4.out _ g4.out _ (by first|exact HB2.out|exact z0_ HB2.out _)).mono ?_);rintro e w5 ⟨rfl,m5,rfl⟩)
   |fail)
  go_ret
  exact⟨rfl,by first|exact HB2.out|exact z0_ HB2.out _⟩
 case pos=>
  have g4:=hiD (decide_eq_true h4)
  have e4:=hiD h4
  clear h4
  by_cases h5:x5=y5
  case neg=>
   have hno:R=false:=by
    rw[← HR.out,decide_eq_false_iff_not]
    intro e
    exact h5 (Cfg.ConfE.mk.inj e).2.2.2.2.2.1
   subst hno
   have g5:=hiD (decide_eq_false h5)
   clear h5 p6 q6 p7 q7 p10 q10 p11 q11 HT6 HT7 HT10 HT11 HR
   go_wp2_with (first
    |(go_at_call 63;(with_reducible refine(HT4.out _ g4.out _ (by first|exact HB2.out|exact z0_ HB2.out _)).mono ?_);rintro e w5 ⟨rfl,m5,rfl⟩)
    |(go_at_call 63;(with_reducible refine(HT5.out _ g5.out _ (by first|exact HB2.out|exact z0_ HB2.out _)).mono ?_);rintro e w5 ⟨rfl,m5,rfl⟩)
    |fail)
   go_ret
   exact⟨rfl,by first|exact HB2.out|exact z0_ HB2.out _⟩
  case pos=>
   have g5:=hiD (decide_eq_true h5)
   have e5:=hiD h5
   clear h5
   by_cases h6:x6=y6
   case neg=>
    have hno:R=false:=by
     rw[← HR.out,decide_eq_false_iff_not]
     intro e
     exact h6 (Cfg.ConfE.mk.inj e).2.2.2.2.2.2.1
    subst hno
    have g6:=hiD (decide_eq_false h6)
    clear h6 p7 q7 p10 q10 p11 q11 HT7 HT10 HT11 HR
    go_wp2_with (first
     |(go_at_call 63;(with_reducible refine(HT4.out _ g4.out _ (by first|exact HB2.out|exact z0_ HB2.out _)).mono ?_);rintro e w5 ⟨rfl,m5,rfl⟩)
     |(go_at_call 63;(with_reducible refine(HT5.out _ g5.out _ (by first|exact HB2.out|exact z0_ HB2.out _)).mono ?_);rintro e w5 ⟨rfl,m5,rfl⟩)
     |(go_at_call 63;(with_reducible refine(HT6.out _ g6.out _ (by first|exact HB2.out|exact z0_ HB2.out _)).mono ?_);rintro e w5 ⟨rfl,m5,rfl⟩)
     |fail)
    go_ret
    exact⟨rfl,by first|exact HB2.out|exact z0_ HB2.out _⟩
   case pos=>
    have g6:=hiD (decide_eq_true h6)
    have e6:=hiD h6
    clear h6
    by_cases h7:x7=y7
    case neg=>
     have hno:R=false:=by
      rw[← HR.out,decide_eq_false_iff_not]
      intro e
      exact h7 (Cfg.ConfE.mk.inj e).2.2.2.2.2.2.2.1
     subst hno
     have g7:=hiD (decide_eq_false h7)
     clear h7 p10 q10 p11 q11 HT10 HT11 HR
     go_wp2_with (first
      |(go_at_call 63;(with_reducible refine(HT4.out _ g4.out _ (by first|exact HB2.out|exact z0_ HB2.out _)).mono ?_);rintro e w5 ⟨rfl,m5,rfl⟩)
      |(go_at_call 63;(with_reducible refine(HT5.out _ g5.out _ (by first|exact HB2.out|exact z0_ HB2.out _)).mono ?_);rintro e w5 ⟨rfl,m5,rfl⟩)
      |(go_at_call 63;(with_reducible refine(HT6.out _ g6.out _ (by first|exact HB2.out|exact z0_ HB2.out _)).mono ?_);rintro e w5 ⟨rfl,m5,rfl⟩)
      |(go_at_call 64;(with_reducible refine(HT7.out _ g7.out _ (by first|exact HB2.out|exact z0_ HB2.out _)).mono ?_);rintro e w5 ⟨rfl,m5,rfl⟩)
      |fail)
     go_ret
     exact⟨rfl,by first|exact HB2.out|exact z0_ HB2.out _⟩
    case pos=>
     have g7:=hiD (decide_eq_true h7)
     have e7:=hiD h7
     clear h7
     by_cases h10:x10=y10
     case neg=>
      have hno:R=false:=by
       rw[← HR.out,decide_eq_false_iff_not]
       intro e
       exact h10 (Cfg.ConfE.mk.inj e).2.2.2.2.2.2.2.2.2.2.1
      subst hno
      have g10:=hiD (decide_eq_false h10)
      clear h10 p11 q11 HT11 HR
      go_wp2_with (first
       |(go_at_call 63;(with_reducible refine(HT4.out _ g4.out _ (by first|exact HB2.out|exact z0_ HB2.out _)).mono ?_);rintro e w5 ⟨rfl,m5,rfl⟩)
       |(go_at_call 63;(with_reducible refine(HT5.out _ g5.out _ (by first|exact HB2.out|exact z0_ HB2.out _)).mono ?_);rintro e w5 ⟨rfl,m5,rfl⟩)
       |(go_at_call 63;(with_reducible refine(HT6.out _ g6.out _ (by first|exact HB2.out|exact z0_ HB2.out _)).mono ?_);rintro e w5 ⟨rfl,m5,rfl⟩)
       |(go_at_call 64;(with_reducible refine(HT7.out _ g7.out _ (by first|exact HB2.out|exact z0_ HB2.out _)).mono ?_);rintro e w5 ⟨rfl,m5,rfl⟩)
       |(go_at_call 63;(with_reducible refine(HT10.out _ g10.out _ (by first|exact HB2.out|exact z0_ HB2.out _)).mono ?_);rintro e w5 ⟨rfl,m5,rfl⟩)
       |fail)
      go_ret
      exact⟨rfl,by first|exact HB2.out|exact z0_ HB2.out _⟩
     case pos=>
      have g10:=hiD (decide_eq_true h10)
      have e10:=hiD h10
      clear h10
      by_cases h11:x11=y11
      case neg=>
       have hno:R=false:=by
        rw[← HR.out,decide_eq_false_iff_not]
        intro e
        exact h11 (Cfg.ConfE.mk.inj e).2.2.2.2.2.2.2.2.2.2.2
       subst hno
       have g11:=hiD (decide_eq_false h11)
       clear h11 HR
       go_wp2_with (first
        |(go_at_call 63;(with_reducible refine(HT4.out _ g4.out _ (by first|exact HB2.out|exact z0_ HB2.out _)).mono ?_);rintro e w5 ⟨rfl,m5,rfl⟩)
        |(go_at_call 63;(with_reducible refine(HT5.out _ g5.out _ (by first|exact HB2.out|exact z0_ HB2.out _)).mono ?_);rintro e w5 ⟨rfl,m5,rfl⟩)
        |(go_at_call 63;(with_reducible refine(HT6.out _ g6.out _ (by first|exact HB2.out|exact z0_ HB2.out _)).mono ?_);rintro e w5 ⟨rfl,m5,rfl⟩)
        |(go_at_call 64;(with_reducible refine(HT7.out _ g7.out _ (by first|exact HB2.out|exact z0_ HB2.out _)).mono ?_);rintro e w5 ⟨rfl,m5,rfl⟩)
        |(go_at_call 63;(with_reducible refine(HT10.out _ g10.out _ (by first|exact HB2.out|exact z0_ HB2.out _)).mono ?_);rintro e w5 ⟨rfl,m5,rfl⟩)
        |(go_at_call 63;(with_reducible refine(HT11.out _ g11.out _ (by first|exact HB2.out|exact z0_ HB2.out _)).mono ?_);rintro e w5 ⟨rfl,m5,rfl⟩)
        |fail)
       go_ret
       exact⟨rfl,by first|exact HB2.out|exact z0_ HB2.out _⟩
      case pos=>
       have g11:=hiD (decide_eq_true h11)
       have e11:=hiD h11
       clear h11
       have hyes:R=true:=by
        rw[← HR.out,decide_eq_true_iff]
        rw[e4.out,e5.out,e6.out,e7.out,e10.out,e11.out]
       subst hyes
       go_wp2_with (first
        |(go_at_call 63;(with_reducible refine(HT4.out _ g4.out _ (by first|exact HB2.out|exact z0_ HB2.out _)).mono ?_);rintro e w5 ⟨rfl,m5,rfl⟩)
        |(go_at_call 63;(with_reducible refine(HT5.out _ g5.out _ (by first|exact HB2.out|exact z0_ HB2.out _)).mono ?_);rintro e w5 ⟨rfl,m5,rfl⟩)
        |(go_at_call 63;(with_reducible refine(HT6.out _ g6.out _ (by first|exact HB2.out|exact z0_ HB2.out _)).mono ?_);rintro e w5 ⟨rfl,m5,rfl⟩)
        |(go_at_call 64;(with_reducible refine(HT7.out _ g7.out _ (by first|exact HB2.out|exact z0_ HB2.out _)).mono ?_);rintro e w5 ⟨rfl,m5,rfl⟩)
        |(go_at_call 63;(with_reducible refine(HT10.out _ g10.out _ (by first|exact HB2.out|exact z0_ HB2.out _)).mono ?_);rintro e w5 ⟨rfl,m5,rfl⟩)
        |(go_at_call 63;(with_reducible refine(HT11.out _ g11.out _ (by first|exact HB2.out|exact z0_ HB2.out _)).mono ?_);rintro e w5 ⟨rfl,m5,rfl⟩)
        |fail)
       go_ret
       exact⟨rfl,by first|exact HB2.out|exact z0_ HB2.out _⟩
open Go.RowKit
theorem zl7_ (c d:Cfg.ConfE) (v1 v2:Value) (w:World) (h1:ConfW w v1 c) (h2:ConfW w v2 d) (hl:Cfg.countE c≤1000000000):Calls Tryz.prog 35 #[v1,v2] w fun e w'=>e= .returned (.bool (decide (c=d)))∧Bel w w':=by
 by_cases hA:c.suffix=d.suffix∧c.root=d.root∧c.secret=d.secret∧c.size=d.size∧c.memberof=d.memberof∧c.audit=d.audit
 ·exact zko_ c d v1 v2 w h1 h2 hl hA
 ·exact zkk_ c d v1 v2 w h1 h2 hl hA
end Go.Proofs.YtakfpngfpknedaaGreatDoor
