import Derived.Test.YtakfpngfpknedaaGreatDoorE12
set_option linter.all false
set_option maxHeartbeats 8000000
set_option maxRecDepth 100000
set_option linter.all false
namespace Go.Proofs.YtakfpngfpknedaaGreatDoor
open Go.RowKit
def z63_ (w:World) (R:Cfg.ConfE × Int × Int) (e:Ending) (w':World):Prop:=Bel w w'∧∃ Aa na ca Ac nc cc Al nl cl Ai ni ci Ar nr cr Au nu cu,e= .returned (.tuple #[.agg #[.string ⟨R.1.suffix.toArray⟩,.string ⟨R.1.root.toArray⟩,.string ⟨R.1.secret.toArray⟩,.int .i64 R.1.size,.slice Aa na ca,.slice Ac nc cc,.slice Al nl cl,.slice Ai ni ci,.bool R.1.memberof,.bool R.1.audit,.slice Ar nr cr,.slice Au nu cu],.int .i64 R.2.1,.int .i64 R.2.2])∧
 Texts w' (.slice Aa na ca) R.1.attrs∧Texts w' (.slice Ac nc cc) R.1.classes∧Texts w' (.slice Al nl cl) R.1.acls∧IdxA w' (.slice Ai ni ci) R.1.indexes∧Texts w' (.slice Ar nr cr) R.1.refs∧Texts w' (.slice Au nu cu) R.1.unique
theorem zcp_ {w:World} {v:Value} {xs:List Cfg.IndexE} (h:IdxA w v xs):∃ A n c,v= .slice A n c:=by
 rcases h with ⟨_,h⟩|⟨b,o,c,h,_⟩
 ·exact⟨_,_,_,h⟩
 ·exact⟨_,_,_,h⟩
theorem PRet.open {w:World} {R:Cfg.ConfE × Int × Int} {e:Ending} {w':World} (h:PRet w R e w'):z63_ w R e w':=by
 obtain⟨hb,v,he,va,vc,vl,vi,vr,vu,rfl,h1,h2,h3,h4,h5,h6⟩:=h
 obtain⟨Aa,na,ca,rfl⟩:=h1.isSlice
 obtain⟨Ac,nc,cc,rfl⟩:=h2.isSlice
 obtain⟨Al,nl,cl,rfl⟩:=h3.isSlice
 obtain⟨Ai,ni,ci,rfl⟩:=zcp_ h4
 obtain⟨Ar,nr,cr,rfl⟩:=h5.isSlice
 obtain⟨Au,nu,cu,rfl⟩:=h6.isSlice
 exact⟨hb,_,_,_,_,_,_,_,_,_,_,_,_,_,_,_,_,_,_,he,h1,h2,h3,h4,h5,h6⟩
end Go.Proofs.YtakfpngfpknedaaGreatDoor
set_option linter.all false
namespace Go.Proofs.YtakfpngfpknedaaGreatDoor
open Go.RowKit
theorem zkb_ (c d:Cfg.ConfE) (v1 v2:Value) (w:World) (h1:ConfW w v1 c) (h2:ConfW w v2 d) (hl:Cfg.countE c≤1000000000):
  Calls Tryz.prog 9 #[v1,v2] w fun e w'=>e= .returned (.bool (decide (c=d)))∧Bel w w':=by
 obtain⟨R,hR⟩:∃ R,decide (c=d)=R:=⟨_,rfl⟩
 rw[hR]
 obtain⟨va,vc,vl,vi,vr,vu,rfl,ta,tc,tl,ti,tr,tu⟩:=h1
 obtain⟨ua,uc,ul,ui,ur,uu,rfl,sa,sc,sl,si,sr,su⟩:=h2
 obtain⟨x0,x1,x2,x3,x4,x5,x6,x7,x8,x9,x10,x11⟩:=c
 obtain⟨y0,y1,y2,y3,y4,y5,y6,y7,y8,y9,y10,y11⟩:=d
 unfold jw_ za_
 unfold Cfg.countE at hl
 simp only at hl ta tc tl ti tr tu sa sc sl si sr su ⊢
 obtain⟨A1,c1,rfl,hc1,hx1⟩:=ti
 obtain⟨A2,c2,rfl,hc2,hx2⟩:=si
 obtain⟨P1,hP1⟩:∃ P1,P1=#[.string ⟨x0.toArray⟩,.string ⟨x1.toArray⟩,.string ⟨x2.toArray⟩,.int .i64 x3,va,vc,vl,.slice A1 x7.length c1,.bool x8,.bool x9,vr,vu]:=⟨_,rfl⟩
 obtain⟨P2,hP2⟩:∃ P2,P2=#[.string ⟨y0.toArray⟩,.string ⟨y1.toArray⟩,.string ⟨y2.toArray⟩,.int .i64 y3,ua,uc,ul,.slice A2 y7.length c2,.bool y8,.bool y9,ur,uu]:=⟨_,rfl⟩
 rw[← hP1,← hP2]
 have b1:=zs_ w (.cells P1 25)
 have b2:=b1.alloc b1.size (.cells P2 25)
 have k1:=(Bk.new w 25 P1).alloc (.cells P2 25)
 have k2:=Bk.new (w.alloc (.cells P1 25)) 25 P2
 rw[World.size_alloc] at k2
 have HT4:Hid (∀ b,decide (x4=y4)=b→∀ W:World,Bel w W→Calls Tryz.prog 25 #[va,ua] W fun e w'=>e= .returned (.bool b)∧∃ m,w'=W.drewN m):=hiD fun b hb W h=>by rw[← hb];exact vg_ x4 y4 va ua W (ta.below h) (sa.below h) (by omega)
 have HT5:Hid (∀ b,decide (x5=y5)=b→∀ W:World,Bel w W→Calls Tryz.prog 25 #[vc,uc] W fun e w'=>e= .returned (.bool b)∧∃ m,w'=W.drewN m):=hiD fun b hb W h=>by rw[← hb];exact vg_ x5 y5 vc uc W (tc.below h) (sc.below h) (by omega)
 have HT6:Hid (∀ b,decide (x6=y6)=b→∀ W:World,Bel w W→Calls Tryz.prog 25 #[vl,ul] W fun e w'=>e= .returned (.bool b)∧∃ m,w'=W.drewN m):=hiD fun b hb W h=>by rw[← hb];exact vg_ x6 y6 vl ul W (tl.below h) (sl.below h) (by omega)
 have HT10:Hid (∀ b,decide (x10=y10)=b→∀ W:World,Bel w W→Calls Tryz.prog 25 #[vr,ur] W fun e w'=>e= .returned (.bool b)∧∃ m,w'=W.drewN m):=hiD fun b hb W h=>by rw[← hb];exact vg_ x10 y10 vr ur W (tr.below h) (sr.below h) (by omega)
 have HT11:Hid (∀ b,decide (x11=y11)=b→∀ W:World,Bel w W→Calls Tryz.prog 25 #[vu,uu] W fun e w'=>e= .returned (.bool b)∧∃ m,w'=W.drewN m):=hiD fun b hb W h=>by rw[← hb];exact vg_ x11 y11 vu uu W (tu.below h) (su.below h) (by omega)
 have HB2:=hiD b2
 have HR:=hiD hR
 have p0:=(k1.cell 0).trans (show P1[0]?=some (.string ⟨x0.toArray⟩) by rw[hP1];rfl)
 have q0:=(k2.cell 0).trans (show P2[0]?=some (.string ⟨y0.toArray⟩) by rw[hP2];rfl)
 have p1:=(k1.cell 1).trans (show P1[1]?=some (.string ⟨x1.toArray⟩) by rw[hP1];rfl)
 have q1:=(k2.cell 1).trans (show P2[1]?=some (.string ⟨y1.toArray⟩) by rw[hP2];rfl)
 have p2:=(k1.cell 2).trans (show P1[2]?=some (.string ⟨x2.toArray⟩) by rw[hP1];rfl)
 have q2:=(k2.cell 2).trans (show P2[2]?=some (.string ⟨y2.toArray⟩) by rw[hP2];rfl)
 have p3:=(k1.cell 3).trans (show P1[3]?=some (.int .i64 x3) by rw[hP1];rfl)
 have q3:=(k2.cell 3).trans (show P2[3]?=some (.int .i64 y3) by rw[hP2];rfl)
 have p4:=(k1.cell 4).trans (show P1[4]?=some (va) by rw[hP1];rfl)
 have q4:=(k2.cell 4).trans (show P2[4]?=some (ua) by rw[hP2];rfl)
 have p5:=(k1.cell 5).trans (show P1[5]?=some (vc) by rw[hP1];rfl)
 have q5:=(k2.cell 5).trans (show P2[5]?=some (uc) by rw[hP2];rfl)
 have p6:=(k1.cell 6).trans (show P1[6]?=some (vl) by rw[hP1];rfl)
 have q6:=(k2.cell 6).trans (show P2[6]?=some (ul) by rw[hP2];rfl)
 have p7:=(k1.cell 7).trans (show P1[7]?=some (.slice A1 x7.length c1) by rw[hP1];rfl)
 have q7:=(k2.cell 7).trans (show P2[7]?=some (.slice A2 y7.length c2) by rw[hP2];rfl)
 have p8:=(k1.cell 8).trans (show P1[8]?=some (.bool x8) by rw[hP1];rfl)
 have q8:=(k2.cell 8).trans (show P2[8]?=some (.bool y8) by rw[hP2];rfl)
 have p9:=(k1.cell 9).trans (show P1[9]?=some (.bool x9) by rw[hP1];rfl)
 have q9:=(k2.cell 9).trans (show P2[9]?=some (.bool y9) by rw[hP2];rfl)
 have p10:=(k1.cell 10).trans (show P1[10]?=some (vr) by rw[hP1];rfl)
 have q10:=(k2.cell 10).trans (show P2[10]?=some (ur) by rw[hP2];rfl)
 have p11:=(k1.cell 11).trans (show P1[11]?=some (vu) by rw[hP1];rfl)
 have q11:=(k2.cell 11).trans (show P2[11]?=some (uu) by rw[hP2];rfl)
 clear hP1 hP2
 have HC1:Hid (∀ k (hk:k<x7.length) W,Bel w W→∃ b o,A1=some ⟨b,o,none⟩∧W.cell? ⟨b,o+k * 4,none⟩=some (.string ⟨x7[k].typ.toArray⟩)∧W.cell? ⟨b,o+k * 4+1,none⟩=some (.bool x7[k].eq)∧W.cell? ⟨b,o+k * 4+2,none⟩=some (.bool x7[k].pres)∧W.cell? ⟨b,o+k * 4+3,none⟩=some (.bool x7[k].sub)):=hiD fun k hk W hb=>by
  obtain⟨b,o,hA,h0,h1,h2,h3⟩:=hx1 k hk
  exact⟨b,o,hA,cQ hb h0,cQ hb h1,cQ hb h2,cQ hb h3⟩
 have HC2:Hid (∀ k (hk:k<y7.length) W,Bel w W→∃ b o,A2=some ⟨b,o,none⟩∧W.cell? ⟨b,o+k * 4,none⟩=some (.string ⟨y7[k].typ.toArray⟩)∧W.cell? ⟨b,o+k * 4+1,none⟩=some (.bool y7[k].eq)∧W.cell? ⟨b,o+k * 4+2,none⟩=some (.bool y7[k].pres)∧W.cell? ⟨b,o+k * 4+3,none⟩=some (.bool y7[k].sub)):=hiD fun k hk W hb=>by
  obtain⟨b,o,hA,h0,h1,h2,h3⟩:=hx2 k hk
  exact⟨b,o,hA,cQ hb h0,cQ hb h1,cQ hb h2,cQ hb h3⟩
 have hL1:x7.length≤1000000000:=by omega
 clear hR hl b1 b2 k1 k2 ta tc tl tr tu sa sc sl sr su hx1 hx2 hc1 hc2
 go_enter Tryz.func9,Tryz.ntmps9
 go_upto_region 1 with fail
 generalize (w.alloc (.cells P1 25)).alloc (.cells P2 25)=w2 at *
 by_cases hle:x7.length=y7.length
 case neg=>
  have hno:R=false:=by
   rw[← HR.out,decide_eq_false_iff_not]
   intro e
   exact hle (congrArg List.length (Cfg.ConfE.mk.inj e).2.2.2.2.2.2.2.1)
  subst hno
  have hself:((x7.length:Int) !=(y7.length:Int))=true:=by rw[bne_iff_ne];omega
  go_wp2_with fail
  go_ret
  exact⟨rfl,HB2.out⟩
 case pos=>
  have hself:((x7.length:Int) !=(y7.length:Int))=false:=by rw[hle];simp
  have HLE:=hiD hle
  clear hle
  go_wp2_with fail
  go_loopg [5] x7.length (fun gk i wr=>∃ k n:Nat,k≤x7.length∧i= .int .i64 k∧Aside (k+gk=x7.length)∧wr=w2.drewN n∧Aside (x7.take k=y7.take k))
  case atStart=>exact⟨0,0,by omega,rfl,by show _=_;omega,rfl,rfl⟩
  case round=>
   obtain⟨k,n,hk,rfl,AG,rfl,AE⟩:=hrel
   by_cases hlt:k<x7.length
   case pos=>
    obtain⟨gq,rfl⟩:∃ q,gk=q+1:=⟨gk - 1,by have:=AG.out;omega⟩
    have hk2:k<y7.length:=by have:=HLE.out;omega
    have hki:(k:Int)<(x7.length:Int):=by omega
    have hki2:(k:Int)<(y7.length:Int):=by omega
    obtain⟨f1,o1,rfl,d10,d11,d12,d13⟩:=HC1.out k hlt _ HB2.out
    obtain⟨f2,o2,rfl,d20,d21,d22,d23⟩:=HC2.out k hk2 _ HB2.out
    have hEQ:Hid (∀ W:World,(binOp .neq 63 (.agg #[.string ⟨x7[k].typ.toArray⟩,.bool x7[k].eq,.bool x7[k].pres,.bool x7[k].sub]) (.agg #[.string ⟨y7[k].typ.toArray⟩,.bool y7[k].eq,.bool y7[k].pres,.bool y7[k].sub])).run Tryz.prog W= .ok (.bool (!decide (x7[k]=y7[k]))) W):=hiD fun W=>zby_ W x7[k] y7[k]
    have AEk:=hiD AE.out
    clear AE
    by_cases he:x7[k]=y7[k]
    case pos=>
     have AE2:Aside (x7.take (k+1)=y7.take (k+1)):=by
      show _=_
      rw[List.take_succ_eq_append_getElem hlt,List.take_succ_eq_append_getElem hk2,AEk.out,he]
     have hE:=hEQ.out
     rw[decide_eq_true he] at hE
     simp only[Bool.not_true] at hE
     clear he hEQ
     generalize x7[k].typ=ttx at *
     generalize x7[k].eq=eex at *
     generalize x7[k].pres=ppx at *
     generalize x7[k].sub=ssx at *
     generalize y7[k].typ=tty at *
     generalize y7[k].eq=eey at *
     generalize y7[k].pres=ppy at *
     generalize y7[k].sub=ssy at *
     go_wp2_with fail
     go_quiet (fail)
     go_wp2_with fail
     go_roundg gq
     case measure=>omega
     case rel=>exact⟨k+1,_,by omega,by go_num,by have:=AG.out;show _=_;omega,rfl,AE2.out⟩
    case neg=>
     have hno:R=false:=by
      rw[← HR.out,decide_eq_false_iff_not]
      intro e
      exact he (by have:=(Cfg.ConfE.mk.inj e).2.2.2.2.2.2.2.1;subst this;rfl)
     subst hno
     have hE:=hEQ.out
     rw[decide_eq_false he] at hE
     simp only[Bool.not_false] at hE
     clear he hEQ
     generalize x7[k].typ=ttx at *
     generalize x7[k].eq=eex at *
     generalize x7[k].pres=ppx at *
     generalize x7[k].sub=ssx at *
     generalize y7[k].typ=tty at *
     generalize y7[k].eq=eey at *
     generalize y7[k].pres=ppy at *
     generalize y7[k].sub=ssy at *
     go_wp2_with fail
     go_quiet (fail)
     go_wp2_with fail
     go_ret
     exact⟨rfl,z0_ (z0_ HB2.out _) _⟩
   case neg=>
    obtain rfl:k=x7.length:=by omega
    have e7:Hid (x7=y7):=hiD (by
     have:=AE.out
     have hh:=HLE.out
     rwa [List.take_length,List.take_of_length_le (by omega)] at this)
    clear AE AG hlt
    have HB3:=hiD (z0_ HB2.out n)
    by_cases h0:x0=y0
    case neg=>
     have hno:R=false:=by
      rw[← HR.out,decide_eq_false_iff_not]
      intro e
      exact h0 (Cfg.ConfE.mk.inj e).1
     subst hno
     have hb0:=beq_eq_false_iff_ne.2 h0
     clear h0 p1 q1 p2 q2 p3 q3 p4 q4 p5 q5 p6 q6 p8 q8 p9 q9 p10 q10 p11 q11 HT4 HT5 HT6 HT10 HT11 HR
     go_wp2_with fail
     go_ret
     exact⟨rfl,by first|exact HB2.out|exact z0_ HB2.out _⟩
    case pos=>
     subst h0
     by_cases h1:x1=y1
     case neg=>
      have hno:R=false:=by
       rw[← HR.out,decide_eq_false_iff_not]
       intro e
       exact h1 (Cfg.ConfE.mk.inj e).2.1
      subst hno
      have hb1:=beq_eq_false_iff_ne.2 h1
      clear h1 p2 q2 p3 q3 p4 q4 p5 q5 p6 q6 p8 q8 p9 q9 p10 q10 p11 q11 HT4 HT5 HT6 HT10 HT11 HR
      go_wp2_with fail
      go_ret
      exact⟨rfl,by first|exact HB2.out|exact z0_ HB2.out _⟩
     case pos=>
      subst h1
      by_cases h2:x2=y2
      case neg=>
       have hno:R=false:=by
        rw[← HR.out,decide_eq_false_iff_not]
        intro e
        exact h2 (Cfg.ConfE.mk.inj e).2.2.1
       subst hno
       have hb2:=beq_eq_false_iff_ne.2 h2
       clear h2 p3 q3 p4 q4 p5 q5 p6 q6 p8 q8 p9 q9 p10 q10 p11 q11 HT4 HT5 HT6 HT10 HT11 HR
       go_wp2_with fail
       go_ret
       exact⟨rfl,by first|exact HB2.out|exact z0_ HB2.out _⟩
      case pos=>
       subst h2
       by_cases h3:x3=y3
       case neg=>
        have hno:R=false:=by
         rw[← HR.out,decide_eq_false_iff_not]
         intro e
         exact h3 (Cfg.ConfE.mk.inj e).2.2.2.1
        subst hno
        have hb3:=beq_eq_false_iff_ne.2 h3
        clear h3 p4 q4 p5 q5 p6 q6 p8 q8 p9 q9 p10 q10 p11 q11 HT4 HT5 HT6 HT10 HT11 HR
        go_wp2_with fail
        go_ret
        exact⟨rfl,by first|exact HB2.out|exact z0_ HB2.out _⟩
       case pos=>
        subst h3
        by_cases h4:x4=y4
        case neg=>
         have hno:R=false:=by
          rw[← HR.out,decide_eq_false_iff_not]
          intro e
          exact h4 (Cfg.ConfE.mk.inj e).2.2.2.2.1
         subst hno
         have g4:=hiD (decide_eq_false h4)
         clear h4 p5 q5 p6 q6 p8 q8 p9 q9 p10 q10 p11 q11 HT5 HT6 HT10 HT11 HR
         go_wp2_with (first
          |(go_at_call 25;(with_reducible refine(HT4.out _ g4.out _ (by first|exact HB2.out|exact z0_ HB2.out _)).mono ?_);rintro e w5 ⟨rfl,m5,rfl⟩)
          |fail)
         go_ret
         exact⟨rfl,by first|exact HB2.out|exact z0_ HB2.out _⟩
        case pos=>
         have g4:=hiD (decide_eq_true h4)
         have e4:=hiD h4
         clear h4
         by_cases h5:x5=y5
         case neg=>
          have hno:R=false:=by
           rw[← HR.out,decide_eq_false_iff_not]
           intro e
           exact h5 (Cfg.ConfE.mk.inj e).2.2.2.2.2.1
          subst hno
          have g5:=hiD (decide_eq_false h5)
          clear h5 p6 q6 p8 q8 p9 q9 p10 q10 p11 q11 HT6 HT10 HT11 HR
          go_wp2_with (first
           |(go_at_call 25;(with_reducible refine(HT4.out _ g4.out _ (by first|exact HB2.out|exact z0_ HB2.out _)).mono ?_);rintro e w5 ⟨rfl,m5,rfl⟩)
           |(go_at_call 25;(with_reducible refine(HT5.out _ g5.out _ (by first|exact HB2.out|exact z0_ HB2.out _)).mono ?_);rintro e w5 ⟨rfl,m5,rfl⟩)
           |fail)
          go_ret
          exact⟨rfl,by first|exact HB2.out|exact z0_ HB2.out _⟩
         case pos=>
          have g5:=hiD (decide_eq_true h5)
          have e5:=hiD h5
          clear h5
          by_cases h6:x6=y6
          case neg=>
           have hno:R=false:=by
            rw[← HR.out,decide_eq_false_iff_not]
            intro e
            exact h6 (Cfg.ConfE.mk.inj e).2.2.2.2.2.2.1
           subst hno
           have g6:=hiD (decide_eq_false h6)
           clear h6 p8 q8 p9 q9 p10 q10 p11 q11 HT10 HT11 HR
           go_wp2_with (first
            |(go_at_call 25;(with_reducible refine(HT4.out _ g4.out _ (by first|exact HB2.out|exact z0_ HB2.out _)).mono ?_);rintro e w5 ⟨rfl,m5,rfl⟩)
            |(go_at_call 25;(with_reducible refine(HT5.out _ g5.out _ (by first|exact HB2.out|exact z0_ HB2.out _)).mono ?_);rintro e w5 ⟨rfl,m5,rfl⟩)
            |(go_at_call 25;(with_reducible refine(HT6.out _ g6.out _ (by first|exact HB2.out|exact z0_ HB2.out _)).mono ?_);rintro e w5 ⟨rfl,m5,rfl⟩)
            |fail)
           go_ret
           exact⟨rfl,by first|exact HB2.out|exact z0_ HB2.out _⟩
          case pos=>
           have g6:=hiD (decide_eq_true h6)
           have e6:=hiD h6
           clear h6
           by_cases h8:x8=y8
           case neg=>
            have hno:R=false:=by
             rw[← HR.out,decide_eq_false_iff_not]
             intro e
             exact h8 (Cfg.ConfE.mk.inj e).2.2.2.2.2.2.2.2.1
            subst hno
            have hb8:=beq_eq_false_iff_ne.2 h8
            clear h8 p9 q9 p10 q10 p11 q11 HT10 HT11 HR
            go_wp2_with (first
             |(go_at_call 25;(with_reducible refine(HT4.out _ g4.out _ (by first|exact HB2.out|exact z0_ HB2.out _)).mono ?_);rintro e w5 ⟨rfl,m5,rfl⟩)
             |(go_at_call 25;(with_reducible refine(HT5.out _ g5.out _ (by first|exact HB2.out|exact z0_ HB2.out _)).mono ?_);rintro e w5 ⟨rfl,m5,rfl⟩)
             |(go_at_call 25;(with_reducible refine(HT6.out _ g6.out _ (by first|exact HB2.out|exact z0_ HB2.out _)).mono ?_);rintro e w5 ⟨rfl,m5,rfl⟩)
             |fail)
            go_ret
            exact⟨rfl,by first|exact HB2.out|exact z0_ HB2.out _⟩
           case pos=>
            subst h8
            by_cases h9:x9=y9
            case neg=>
             have hno:R=false:=by
              rw[← HR.out,decide_eq_false_iff_not]
              intro e
              exact h9 (Cfg.ConfE.mk.inj e).2.2.2.2.2.2.2.2.2.1
             subst hno
             have hb9:=beq_eq_false_iff_ne.2 h9
             clear h9 p10 q10 p11 q11 HT10 HT11 HR
             go_wp2_with (first
              |(go_at_call 25;(with_reducible refine(HT4.out _ g4.out _ (by first|exact HB2.out|exact z0_ HB2.out _)).mono ?_);rintro e w5 ⟨rfl,m5,rfl⟩)
              |(go_at_call 25;(with_reducible refine(HT5.out _ g5.out _ (by first|exact HB2.out|exact z0_ HB2.out _)).mono ?_);rintro e w5 ⟨rfl,m5,rfl⟩)
              |(go_at_call 25;(with_reducible refine(HT6.out _ g6.out _ (by first|exact HB2.out|exact z0_ HB2.out _)).mono ?_);rintro e w5 ⟨rfl,m5,rfl⟩)
              |fail)
             go_ret
             exact⟨rfl,by first|exact HB2.out|exact z0_ HB2.out _⟩
            case pos=>
             subst h9
             by_cases h10:x10=y10
             case neg=>
              have hno:R=false:=by
               rw[← HR.out,decide_eq_false_iff_not]
               intro e
               exact h10 (Cfg.ConfE.mk.inj e).2.2.2.2.2.2.2.2.2.2.1
              subst hno
              have g10:=hiD (decide_eq_false h10)
              clear h10 p11 q11 HT11 HR
              go_wp2_with (first
               |(go_at_call 25;(with_reducible refine(HT4.out _ g4.out _ (by first|exact HB2.out|exact z0_ HB2.out _)).mono ?_);rintro e w5 ⟨rfl,m5,rfl⟩)
               |(go_at_call 25;(with_reducible refine(HT5.out _ g5.out _ (by first|exact HB2.out|exact z0_ HB2.out _)).mono ?_);rintro e w5 ⟨rfl,m5,rfl⟩)
               |(go_at_call 25;(with_reducible refine(HT6.out _ g6.out _ (by first|exact HB2.out|exact z0_ HB2.out _)).mono ?_);rintro e w5 ⟨rfl,m5,rfl⟩)
               |(go_at_call 25;(with_reducible refine(HT10.out _ g10.out _ (by first|exact HB2.out|exact z0_ HB2.out _)).mono ?_);rintro e w5 ⟨rfl,m5,rfl⟩)
               |fail)
              go_ret
              exact⟨rfl,by first|exact HB2.out|exact z0_ HB2.out _⟩
             case pos=>
              have g10:=hiD (decide_eq_true h10)
              have e10:=hiD h10
              clear h10
              by_cases h11:x11=y11
              case neg=>
               have hno:R=false:=by
                rw[← HR.out,decide_eq_false_iff_not]
                intro e
                exact h11 (Cfg.ConfE.mk.inj e).2.2.2.2.2.2.2.2.2.2.2
               subst hno
               have g11:=hiD (decide_eq_false h11)
               clear h11 HR
               go_wp2_with (first
                |(go_at_call 25;(with_reducible refine(HT4.out _ g4.out _ (by first|exact HB2.out|exact z0_ HB2.out _)).mono ?_);rintro e w5 ⟨rfl,m5,rfl⟩)
                |(go_at_call 25;(with_reducible refine(HT5.out _ g5.out _ (by first|exact HB2.out|exact z0_ HB2.out _)).mono ?_);rintro e w5 ⟨rfl,m5,rfl⟩)
                |(go_at_call 25;(with_reducible refine(HT6.out _ g6.out _ (by first|exact HB2.out|exact z0_ HB2.out _)).mono ?_);rintro e w5 ⟨rfl,m5,rfl⟩)
                |(go_at_call 25;(with_reducible refine(HT10.out _ g10.out _ (by first|exact HB2.out|exact z0_ HB2.out _)).mono ?_);rintro e w5 ⟨rfl,m5,rfl⟩)
                |(go_at_call 25;(with_reducible refine(HT11.out _ g11.out _ (by first|exact HB2.out|exact z0_ HB2.out _)).mono ?_);rintro e w5 ⟨rfl,m5,rfl⟩)
                |fail)
               go_ret
               exact⟨rfl,by first|exact HB2.out|exact z0_ HB2.out _⟩
              case pos=>
               have g11:=hiD (decide_eq_true h11)
               have e11:=hiD h11
               clear h11
               have hyes:R=true:=by
                rw[← HR.out,decide_eq_true_iff]
                rw[e4.out,e5.out,e6.out,e10.out,e11.out,e7.out]
               subst hyes
               go_wp2_with (first
                |(go_at_call 25;(with_reducible refine(HT4.out _ g4.out _ (by first|exact HB2.out|exact z0_ HB2.out _)).mono ?_);rintro e w5 ⟨rfl,m5,rfl⟩)
                |(go_at_call 25;(with_reducible refine(HT5.out _ g5.out _ (by first|exact HB2.out|exact z0_ HB2.out _)).mono ?_);rintro e w5 ⟨rfl,m5,rfl⟩)
                |(go_at_call 25;(with_reducible refine(HT6.out _ g6.out _ (by first|exact HB2.out|exact z0_ HB2.out _)).mono ?_);rintro e w5 ⟨rfl,m5,rfl⟩)
                |(go_at_call 25;(with_reducible refine(HT10.out _ g10.out _ (by first|exact HB2.out|exact z0_ HB2.out _)).mono ?_);rintro e w5 ⟨rfl,m5,rfl⟩)
                |(go_at_call 25;(with_reducible refine(HT11.out _ g11.out _ (by first|exact HB2.out|exact z0_ HB2.out _)).mono ?_);rintro e w5 ⟨rfl,m5,rfl⟩)
                |fail)
               go_ret
               exact⟨rfl,by first|exact HB2.out|exact z0_ HB2.out _⟩
end Go.Proofs.YtakfpngfpknedaaGreatDoor
