import Derived.Test.YtakfpngfpknedaaGreatDoorE19
import Derived.Test.YtakfpngfpknedaaGreatDoorE1b
set_option linter.all false
set_option maxHeartbeats 8000000
set_option maxRecDepth 100000
set_option linter.all false
namespace Go.Proofs.YtakfpngfpknedaaGreatDoor
open Go.RowKit Go.Lib
theorem zh1_ (xs ys:LL) (v1 v2:Value) (w:World) (hv1:TextsA w v1 xs) (hv2:TextsA w v2 ys) (hl:xs.length≤1000000000):
  Calls Tryz.prog 16 #[v1,v2] w fun e w'=>e= .returned (.bool (decide (xs=ys)))∧∃ m,w'=w.drewN m:=by
 obtain⟨A1,c1,rfl,hc1,hx1⟩:=hv1.at
 obtain⟨A2,c2,rfl,hc2,hx2⟩:=hv2.at
 have H1:=hiD hx1
 have H2:=hiD hx2
 obtain⟨R,hR⟩:∃ R,decide (xs=ys)=R:=⟨_,rfl⟩
 rw[hR]
 have HR:=hiD hR
 clear hx1 hx2 hv1 hv2 hR
 by_cases hle:xs.length=ys.length
 ·have hself:((xs.length:Int) !=(ys.length:Int))=false:=by rw[hle];simp
  go_enter Tryz.func16,Tryz.ntmps16
  go_wp2_with fail
  go_loopg [5] xs.length (fun gk i wr=>∃ k n:Nat,k≤xs.length∧i= .int .i64 k∧Aside (k+gk=xs.length)∧wr=w.drewN n∧Aside (xs.take k=ys.take k))
  case atStart=>exact⟨0,0,by omega,rfl,by show _=_;omega,rfl,rfl⟩
  case round=>
   obtain⟨k,n,hk,rfl,AG,rfl,AE⟩:=hrel
   by_cases hlt:k<xs.length
   ·obtain⟨gq,rfl⟩:∃ q,gk=q+1:=⟨gk - 1,by have:=AG.out;omega⟩
    obtain⟨p1,rfl,d1⟩:=H1.out k hlt
    obtain⟨p2,rfl,d2⟩:=H2.out k (by omega)
    have hki:(k:Int)<(xs.length:Int):=by omega
    have hki2:(k:Int)<(ys.length:Int):=by omega
    by_cases he:xs[k]=ys[k]'(by omega)
    ·have AE2:Aside (xs.take (k+1)=ys.take (k+1)):=by
      show _=_
      rw[List.take_succ_eq_append_getElem hlt,List.take_succ_eq_append_getElem (by omega),AE.out,he]
     rw[he] at d1
     generalize ys[k]'(by omega)=t at d1 d2
     go_wp2_with fail
     go_quiet (fail)
     go_wp2_with fail
     go_roundg gq
     case measure=>omega
     case rel=>exact⟨k+1,_,by omega,by go_num,by have:=AG.out;show _=_;omega,rfl,AE2.out⟩
    ·have hno:R=false:=by
      rw[← HR.out,decide_eq_false_iff_not]
      rintro rfl
      exact he rfl
     subst hno
     generalize xs[k]=t1 at *
     generalize ys[k]'(by omega)=t2 at *
     have hbn:(t1==t2)=false:=beq_eq_false_iff_ne.2 he
     go_wp2_with fail
     go_quiet (fail)
     go_wp2_with fail
     go_ret
     exact⟨rfl,n+nq,by rw[World.drewN_drewN]⟩
   ·obtain rfl:k=xs.length:=by omega
    have hyes:R=true:=by
     rw[← HR.out,decide_eq_true_iff]
     have:=AE.out
     rwa [List.take_length,List.take_of_length_le (by omega)] at this
    subst hyes
    go_wp2_with fail
    go_ret
    exact⟨rfl,_,rfl⟩
 ·have hself:((xs.length:Int) !=(ys.length:Int))=true:=by
   rw[bne_iff_ne];omega
  have hno:R=false:=by
   rw[← HR.out,decide_eq_false_iff_not]
   rintro rfl
   exact hle rfl
  subst hno
  go_enter Tryz.func16,Tryz.ntmps16
  go_wp2_with fail
  go_ret
  exact⟨rfl,0,rfl⟩
theorem zbs_ (c:Cfg.ConfE) (v0:Value) (w:World) (hw:Env9 w) (hC:ConfW w v0 c) (hz: -9223372036854775808≤c.size∧c.size≤9223372036854775807) (hm:Cfg.Lim 2000000 c) (hcn:Cfg.countE c≤4000000):
  Calls Tryz.prog 5 #[v0] w fun e w'=>e= .returned (.bool true)∧Bel w w':=by
 obtain⟨va,vc,vl,vi,vr,vu,rfl,ta,tc,tl,ti,tr,tu⟩:=hC
 have HCW:Hid (∀ W,Bel w W→ConfW W (jw_ c va vc vl vi vr vu) c):=hiD fun W h=>⟨va,vc,vl,vi,vr,vu,rfl,ta.below h,tc.below h,tl.below h,ti.below h,tr.below h,tu.below h⟩
 obtain⟨Aa,ca,rfl,_,_⟩:=ta.at
 obtain⟨Ac,cc,rfl,_,_⟩:=tc.at
 obtain⟨Al,cl,rfl,_,_⟩:=tl.at
 obtain⟨AI,cI,rfl,_,_⟩:=ti
 obtain⟨Ar,cr,rfl,_,_⟩:=tr.at
 obtain⟨Au,cu,rfl,_,_⟩:=tu.at
 have k1:=Bk.new w 25 #[.string ⟨c.suffix.toArray⟩,.string ⟨c.root.toArray⟩,.string ⟨c.secret.toArray⟩,.int .i64 c.size,.slice Aa c.attrs.length ca,.slice Ac c.classes.length cc,.slice Al c.acls.length cl,.slice AI c.indexes.length cI,.bool c.memberof,.bool c.audit,.slice Ar c.refs.length cr,.slice Au c.unique.length cu]
 have b1:=zs_ w (.cells #[.string ⟨c.suffix.toArray⟩,.string ⟨c.root.toArray⟩,.string ⟨c.secret.toArray⟩,.int .i64 c.size,.slice Aa c.attrs.length ca,.slice Ac c.classes.length cc,.slice Al c.acls.length cl,.slice AI c.indexes.length cI,.bool c.memberof,.bool c.audit,.slice Ar c.refs.length cr,.slice Au c.unique.length cu] 25)
 clear ta tc tl tr tu
 have hcI:(c.attrs.length:Int)≤4000000∧(c.classes.length:Int)≤4000000∧(c.acls.length:Int)≤4000000∧(c.indexes.length:Int)≤4000000∧(c.refs.length:Int)≤4000000∧(c.unique.length:Int)≤4000000:=by unfold Cfg.countE at hcn;omega
 obtain⟨i1,i2,i3,i4,i5,i6⟩:=hcI
 have hbB:Cfg.countE c=c.attrs.length+c.classes.length+c.acls.length+c.refs.length+c.unique.length+c.indexes.length:=rfl
 obtain⟨w1,hw1⟩:∃ w1,w1=w.alloc (.cells #[.string ⟨c.suffix.toArray⟩,.string ⟨c.root.toArray⟩,.string ⟨c.secret.toArray⟩,.int .i64 c.size,.slice Aa c.attrs.length ca,.slice Ac c.classes.length cc,.slice Al c.acls.length cl,.slice AI c.indexes.length cI,.bool c.memberof,.bool c.audit,.slice Ar c.refs.length cr,.slice Au c.unique.length cu] 25):=⟨_,rfl⟩
 rw[← hw1] at k1 b1
 have HAl:Hid (∀ W,Bel w1 W→Calls Tryz.prog 8 #[] W fun e w'=>e= .returned (.bool true)∧Bel w1 w'):=hiD fun W h=>(zck_ W (hw.env.keep (tQ b1 h))).mono (by rintro e w' ⟨h1,h2⟩;exact⟨h1,tQ h h2⟩)
 have HPr:Hid (Cfg.countE c≤4000→∀ W,Bel w1 W→Calls Tryz.prog 17 #[jw_ c (.slice Aa c.attrs.length ca) (.slice Ac c.classes.length cc) (.slice Al c.acls.length cl) (.slice AI c.indexes.length cI) (.slice Ar c.refs.length cr) (.slice Au c.unique.length cu)] W fun e w'=>Bel w1 w'∧∃ A cp,e= .returned (.slice A (Cfg.printC c).length cp)∧TextsA w' (.slice A (Cfg.printC c).length cp) (Cfg.printC c)):=hiD fun h4 W h=>(zfy_ c _ W (hw.keep (tQ b1 h)) (HCW.out W (tQ b1 h)) h4 hm hz).mono (by
  rintro e w' ⟨h1,u,rfl,h2⟩
  obtain⟨A,cp,rfl,_,_⟩:=h2.at
  exact⟨tQ h h1,A,cp,rfl,h2⟩)
 have HRp:Hid (Cfg.countE c≤4000→∀ W u,Bel w1 W→TextsA W u (Cfg.printC c)→Calls Tryz.prog 18 #[jw_ c (.slice Aa c.attrs.length ca) (.slice Ac c.classes.length cc) (.slice Al c.acls.length cl) (.slice AI c.indexes.length cI) (.slice Ar c.refs.length cr) (.slice Au c.unique.length cu)] W fun e w'=>Bel w1 w'∧TextsA w' u (Cfg.printC c)∧∃ A cp,e= .returned (.slice A (Cfg.printC c).length cp)∧TextsA w' (.slice A (Cfg.printC c).length cp) (Cfg.printC c)):=hiD fun h4 W u h hu=>(zfz_ c _ W (hw.env.keep (tQ b1 h)) (HCW.out W (tQ b1 h)) h4 hm hz).mono (by
  rintro e w' ⟨h1,u2,rfl,h2⟩
  obtain⟨A,cp,rfl,_,_⟩:=h2.at
  exact⟨tQ h h1,hu.below h1,A,cp,rfl,h2⟩)
 have hSt:∀ (l:LL),l.length≤1000000000→∀ W u1 u2,Bel w1 W→TextsA W u1 l→TextsA W u2 l→Calls Tryz.prog 16 #[u1,u2] W fun e w'=>e= .returned (.bool true)∧Bel w1 w':=fun l hl W u1 u2 h h1 h2=>(zh1_ l l u1 u2 W h1 h2 hl).mono (by
  rintro e w' ⟨rfl,m,rfl⟩
  exact⟨by rw[decide_eq_true rfl],z0_ h m⟩)
 have HSt:Hid (Cfg.countE c≤4000→∀ W u1 u2,Bel w1 W→TextsA W u1 (Cfg.printC c)→TextsA W u2 (Cfg.printC c)→Calls Tryz.prog 16 #[u1,u2] W fun e w'=>e= .returned (.bool true)∧Bel w1 w'):=hiD fun h4=>hSt _ (by have:=Cfg.printC_count c;omega)
 clear hSt
 have HS:Hid (∀ W,Bel w1 W→W.cell? ⟨w.heap.size,0,none⟩=some (.string ⟨c.suffix.toArray⟩)∧W.cell? ⟨w.heap.size,1,none⟩=some (.string ⟨c.root.toArray⟩)∧W.cell? ⟨w.heap.size,2,none⟩=some (.string ⟨c.secret.toArray⟩)∧W.cell? ⟨w.heap.size,3,none⟩=some (.int .i64 c.size)∧W.cell? ⟨w.heap.size,4,none⟩=some (.slice Aa c.attrs.length ca)∧W.cell? ⟨w.heap.size,5,none⟩=some (.slice Ac c.classes.length cc)∧W.cell? ⟨w.heap.size,6,none⟩=some (.slice Al c.acls.length cl)∧W.cell? ⟨w.heap.size,7,none⟩=some (.slice AI c.indexes.length cI)∧W.cell? ⟨w.heap.size,8,none⟩=some (.bool c.memberof)∧W.cell? ⟨w.heap.size,9,none⟩=some (.bool c.audit)∧W.cell? ⟨w.heap.size,10,none⟩=some (.slice Ar c.refs.length cr)∧W.cell? ⟨w.heap.size,11,none⟩=some (.slice Au c.unique.length cu)):=hiD fun W h=>by
  have hk:=k1.below h
  exact⟨hk.cell 0,hk.cell 1,hk.cell 2,hk.cell 3,hk.cell 4,hk.cell 5,hk.cell 6,hk.cell 7,hk.cell 8,hk.cell 9,hk.cell 10,hk.cell 11⟩
 unfold jw_ za_ at HPr HRp
 clear hw hm hz hcn HCW
 unfold jw_ za_
 go_enter Tryz.func5,Tryz.ntmps5
 go_upto_region 1 with fail
 rw[← hw1]
 clear hw1
 have HB1:=hiD b1
 clear b1 k1
 obtain⟨p0,p1,p2,p3,p4,p5,p6,p7,p8,p9,p10,p11⟩:=HS.out _ (bR _ _)
 by_cases hbig:250<Cfg.countE c
 case pos=>
  have hI:(250:Int)<(c.attrs.length:Int)+(c.classes.length:Int)+(c.acls.length:Int)+(c.refs.length:Int)+(c.unique.length:Int)+(c.indexes.length:Int):=by omega
  clear hbB hbig HPr HRp HSt
  go_wp2_with (go_at_call 8;(with_reducible refine(HAl.out _ (bR _ _)).mono ?_);rintro e w9 ⟨rfl,hb⟩;have HB9:=hiD (tQ HB1.out hb);clear hb)
  go_ret
  exact⟨rfl,HB9.out⟩
 case neg=>
 have hI:¬ (250:Int)<(c.attrs.length:Int)+(c.classes.length:Int)+(c.acls.length:Int)+(c.refs.length:Int)+(c.unique.length:Int)+(c.indexes.length:Int):=by omega
 have h4:Cfg.countE c≤4000:=by omega
 have HP1:=hiD (HPr.out h4)
 have HR1:=hiD (HRp.out h4)
 have HT1:=hiD (HSt.out h4)
 clear hbB hbig HPr HRp HSt h4
 generalize Cfg.printC c=P at *
 go_upto_region 3 with fail
 have HD1:Hid (Bel w1 w1.drew):=hiD (bR _ _).drew
 go_region_held3 (fun W=>W.cell? ⟨w.heap.size,0,none⟩=some (.string ⟨c.suffix.toArray⟩)∧W.cell? ⟨w.heap.size,1,none⟩=some (.string ⟨c.root.toArray⟩)∧W.cell? ⟨w.heap.size,2,none⟩=some (.string ⟨c.secret.toArray⟩)∧W.cell? ⟨w.heap.size,3,none⟩=some (.int .i64 c.size)∧W.cell? ⟨w.heap.size,4,none⟩=some (.slice Aa c.attrs.length ca)∧W.cell? ⟨w.heap.size,5,none⟩=some (.slice Ac c.classes.length cc)∧W.cell? ⟨w.heap.size,6,none⟩=some (.slice Al c.acls.length cl)∧W.cell? ⟨w.heap.size,7,none⟩=some (.slice AI c.indexes.length cI)∧W.cell? ⟨w.heap.size,8,none⟩=some (.bool c.memberof)∧W.cell? ⟨w.heap.size,9,none⟩=some (.bool c.audit)∧W.cell? ⟨w.heap.size,10,none⟩=some (.slice Ar c.refs.length cr)∧W.cell? ⟨w.heap.size,11,none⟩=some (.slice Au c.unique.length cu)) (first|(with_reducible exact HS.out _ HD1.out)|(with_reducible exact HS.out _ HD2.out)|(with_reducible exact HS.out _ HD3.out)|(with_reducible exact HS.out _ HD4.out)|(with_reducible exact HS.out _ HD5.out)) (first
  |(go_at_call 8;(with_reducible refine(HAl.out _ HD1.out).mono ?_);rintro e w2 ⟨rfl,hb⟩;have HD2:=hiD hb;clear hb)
  |(go_at_call 17;(with_reducible refine(HP1.out _ HD2.out).mono ?_);rintro e w3 ⟨hb,A3,cp3,rfl,hu⟩;have HD3:=hiD hb;have HU3:=hiD hu;clear hb hu)
  |(go_at_call 18;(with_reducible refine(HR1.out _ _ HD3.out HU3.out).mono ?_);rintro e w4 ⟨hb,hu,A4,cp4,rfl,hv⟩;have HD4:=hiD hb;have HU4:=hiD hu;have HV4:=hiD hv;clear hb hu hv)
  |(go_at_call 16;(with_reducible refine(HT1.out _ _ _ HD4.out HU4.out HV4.out).mono ?_);rintro e w5 ⟨rfl,hb⟩;have HD5:=hiD hb;clear hb)
  |fail)
 all_goals
  go_wp2_with fail
  go_ret
  exact⟨rfl,tQ HB1.out HD5.out⟩
theorem zgg_ (c:Cfg.ConfE) (v0:Value) (w:World) (hw:Env9 w) (hC:ConfW w v0 c) (hz: -9223372036854775808≤c.size∧c.size≤9223372036854775807) (hbk:z6b_ c≤1048576):
  Calls Tryz.prog 5 #[v0] w fun e w'=>e= .returned (.bool true)∧Bel w w':=by
 have h2:=z7w_ c
 exact zbs_ c v0 w hw hC hz ((zcn_ (m:=1048576) (by omega)).mono (by omega)) (by omega)
end Go.Proofs.YtakfpngfpknedaaGreatDoor
