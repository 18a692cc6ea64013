import Derived.Test.YtakfpngfpknedaaGreatDoorC11
import Derived.Lib.ItoaNum
set_option linter.all false
set_option maxHeartbeats 8000000
set_option maxRecDepth 100000
set_option linter.all false
namespace Go.Proofs.YtakfpngfpknedaaGreatDoor
open Go.RowKit
theorem rtexts_q (xs ys:LL) (v1 v2:Value) (w:World) (hv1:TextsA w v1 xs) (hv2:TextsA w v2 ys) (hl:xs.length≤1000000000):
  Calls Tryz.prog 25 #[v1,v2] w fun e w'=>e= .returned (.bool (decide (xs=ys)))∧∃ m,w'=w.drewN m:=by
 obtain⟨A1,c1,rfl,hc1,hx1⟩:=hv1.at
 obtain⟨A2,c2,rfl,hc2,hx2⟩:=hv2.at
 have H1:=hiD hx1
 have H2:=hiD hx2
 obtain⟨R,hR⟩:∃ R,decide (xs=ys)=R:=⟨_,rfl⟩
 rw[hR]
 have HR:=hiD hR
 clear hx1 hx2 hv1 hv2 hR
 by_cases hle:xs.length=ys.length
 ·have hself:((xs.length:Int) !=(ys.length:Int))=false:=by rw[hle];simp
  go_enter Tryz.func25,Tryz.ntmps25
  go_wp2_with fail
  go_loopg [5] xs.length (fun gk i wr=>∃ k n:Nat,k≤xs.length∧i= .int .i64 k∧Aside (k+gk=xs.length)∧wr=w.drewN n∧Aside (xs.take k=ys.take k))
  case atStart=>exact⟨0,0,by omega,rfl,by show _=_;omega,rfl,rfl⟩
  case round=>
   obtain⟨k,n,hk,rfl,AG,rfl,AE⟩:=hrel
   by_cases hlt:k<xs.length
   ·obtain⟨gq,rfl⟩:∃ q,gk=q+1:=⟨gk - 1,by have:=AG.out;omega⟩
    obtain⟨p1,rfl,d1⟩:=H1.out k hlt
    obtain⟨p2,rfl,d2⟩:=H2.out k (by omega)
    have hki:(k:Int)<(xs.length:Int):=by omega
    have hki2:(k:Int)<(ys.length:Int):=by omega
    by_cases he:xs[k]=ys[k]'(by omega)
    ·have AE2:Aside (xs.take (k+1)=ys.take (k+1)):=by
      show _=_
      rw[List.take_succ_eq_append_getElem hlt,List.take_succ_eq_append_getElem (by omega),AE.out,he]
     rw[he] at d1
     generalize ys[k]'(by omega)=t at d1 d2
     go_wp2_with fail
     go_quiet (fail)
     go_wp2_with fail
     go_roundg gq
     case measure=>omega
     case rel=>exact⟨k+1,_,by omega,by go_num,by have:=AG.out;show _=_;omega,rfl,AE2.out⟩
    ·have hno:R=false:=by
      rw[← HR.out,decide_eq_false_iff_not]
      rintro rfl
      exact he rfl
     subst hno
     generalize xs[k]=t1 at *
     generalize ys[k]'(by omega)=t2 at *
     have hbn:(t1==t2)=false:=beq_eq_false_iff_ne.2 he
     go_wp2_with fail
     go_quiet (fail)
     go_wp2_with fail
     go_ret
     exact⟨rfl,n+nq,by rw[World.drewN_drewN]⟩
   ·obtain rfl:k=xs.length:=by omega
    have hyes:R=true:=by
     rw[← HR.out,decide_eq_true_iff]
     have:=AE.out
     rwa [List.take_length,List.take_of_length_le (by omega)] at this
    subst hyes
    go_wp2_with fail
    go_ret
    exact⟨rfl,_,rfl⟩
 ·have hself:((xs.length:Int) !=(ys.length:Int))=true:=by
   rw[bne_iff_ne];omega
  have hno:R=false:=by
   rw[← HR.out,decide_eq_false_iff_not]
   rintro rfl
   exact hle rfl
  subst hno
  go_enter Tryz.func25,Tryz.ntmps25
  go_wp2_with fail
  go_ret
  exact⟨rfl,0,rfl⟩
def ixV (x:Cfg.IndexE):Value:= .agg #[.string ⟨x.typ.toArray⟩,.bool x.eq,.bool x.pres,.bool x.sub]
theorem eq_ixV (W:World) (a b:Cfg.IndexE):(Op.equal 63 (ixV a) (ixV b)).run Tryz.prog W= .ok (decide (a=b)) W:=by
 obtain⟨t1,a1,a2,a3⟩:=a
 obtain⟨t2,b1,b2,b3⟩:=b
 have u9:=Tryz.underlying9
 have a9:=Tryz.isAgg9
 have z9:=Tryz.sizeOf9
 have u4:=Tryz.underlying4
 have a4:=Tryz.isAgg4
 have z4:=Tryz.sizeOf4
 have hS:Tryz.prog.underlying 63=some (.struct (Tryz.prog.fieldsOf 63)):=by kernel_rfl
 have hp:Tryz.prog.stoodInHeld 63=false:=by kernel_rfl
 unfold Op.equal Op.maxDepth ixV
 rw[run_equalIn_agg W 9999 63 _ _ hS hp]
 simp only[Program.fieldsOf,Tryz.underlying63]
 go_simp
 by_cases h1:t1=t2<;>by_cases h2:a1=b1<;>by_cases h3:a2=b2<;>by_cases h4:a3=b3<;>simp [h1,h2,h3,h4]
end Go.Proofs.YtakfpngfpknedaaGreatDoor
set_option linter.all false
namespace Go.Proofs.YtakfpngfpknedaaGreatDoor
open Go.RowKit
theorem Suffix_nil (w:World):Calls Tryz.prog 13 #[.pointer none] w fun e w'=>e= .returned (.string ⟨#[]⟩)∧w'=w:=by
 go_enter Tryz.func13,Tryz.ntmps13
 go_wp2_with fail
 go_ret
 exact⟨rfl,rfl⟩
theorem Root_nil (w:World):Calls Tryz.prog 14 #[.pointer none] w fun e w'=>e= .returned (.string ⟨#[]⟩)∧w'=w:=by
 go_enter Tryz.func14,Tryz.ntmps14
 go_wp2_with fail
 go_ret
 exact⟨rfl,rfl⟩
theorem Schema_nil (w:World):Calls Tryz.prog 11 #[.pointer none] w fun e w'=>e= .returned (.pointer none)∧w'=w:=by
 go_enter Tryz.func11,Tryz.ntmps11
 go_wp2_with fail
 go_ret
 exact⟨rfl,rfl⟩
theorem Rules_nil (w:World):Calls Tryz.prog 12 #[.pointer none] w fun e w'=>e= .returned (.slice none 0 0)∧w'=w:=by
 go_enter Tryz.func12,Tryz.ntmps12
 go_wp2_with fail
 go_ret
 exact⟨rfl,rfl⟩
section
variable {w:World} {c:Cfg.ConfE} {va vc vl vi vr vu sv:Value} {cp:Nat} {sx rt:LU}
theorem Root_c (h:Bk w cp 35 (cfgC c va vc vl vi vr vu sv sx rt)):Calls Tryz.prog 14 #[.pointer (some ⟨cp,0,none⟩)] w fun e w'=>e= .returned (.string ⟨rt.toArray⟩)∧w'=w:=by
 have c15:=h.cell 15
 simp only[cfgC,List.getElem?_toArray,List.getElem?_cons_zero,List.getElem?_cons_succ] at c15
 clear h
 go_enter Tryz.func14,Tryz.ntmps14
 go_wp2_with fail
 go_ret
 exact⟨rfl,rfl⟩
theorem Rules_none (h:Bk w cp 35 (cfgC c va vc vl vi vr vu sv sx rt)):Calls Tryz.prog 12 #[.pointer (some ⟨cp,0,none⟩)] w fun e w'=>e= .returned (.slice none 0 0)∧w'=w:=by
 have c13:=h.cell 13
 simp only[cfgC,List.getElem?_toArray,List.getElem?_cons_zero,List.getElem?_cons_succ] at c13
 clear h
 go_enter Tryz.func12,Tryz.ntmps12
 go_wp2_with fail
 go_loopg [3,13] 0 (fun gk l i wr=>l= .slice none 0 0∧i= .int .i64 0∧wr=w)
 case atStart=>exact⟨rfl,rfl,rfl⟩
 case round=>
  obtain⟨rfl,rfl,rfl⟩:=hrel
  go_wp2_with fail
  go_ret
  exact⟨rfl,rfl⟩
end
theorem levels_c (w:World):Calls Tryz.prog 29 #[] w fun e w'=>e= .returned (.slice (some ⟨w.heap.size,0,none⟩) 7 7)∧w.alloc (.cells #[.string ⟨#[110,111,110,101]⟩,.string ⟨#[100,105,115,99,108,111,115,101]⟩,.string ⟨#[97,117,116,104]⟩,.string ⟨#[99,111,109,112,97,114,101]⟩,.string ⟨#[115,101,97,114,99,104]⟩,.string ⟨#[114,101,97,100]⟩,.string ⟨#[119,114,105,116,101]⟩] 9)=w':=by
 go_enter Tryz.func29,Tryz.ntmps29
 go_wp2_with fail
 go_ret
 exact⟨rfl,rfl⟩
theorem Name0_c (w:World):Calls Tryz.prog 15 #[.int .i64 0] w fun e w'=>e= .returned (.string ⟨#[110,111,110,101]⟩)∧Bel w w':=by
 have HL:=hiD (fun (W:World)=>levels_c W)
 have b1:=bel_c w (.cells #[.string ⟨#[110,111,110,101]⟩,.string ⟨#[100,105,115,99,108,111,115,101]⟩,.string ⟨#[97,117,116,104]⟩,.string ⟨#[99,111,109,112,97,114,101]⟩,.string ⟨#[115,101,97,114,99,104]⟩,.string ⟨#[114,101,97,100]⟩,.string ⟨#[119,114,105,116,101]⟩] 9)
 have c0:=(Bk.new w 9 #[.string ⟨#[110,111,110,101]⟩,.string ⟨#[100,105,115,99,108,111,115,101]⟩,.string ⟨#[97,117,116,104]⟩,.string ⟨#[99,111,109,112,97,114,101]⟩,.string ⟨#[115,101,97,114,99,104]⟩,.string ⟨#[114,101,97,100]⟩,.string ⟨#[119,114,105,116,101]⟩]).cell 0
 simp only[List.getElem?_toArray,List.getElem?_cons_zero] at c0
 go_enter Tryz.func15,Tryz.ntmps15
 go_wp2_with (go_at_call 29;(with_reducible refine(HL.out _).mono ?_);rintro e w1 ⟨rfl,rfl⟩)
 go_ret
 exact⟨rfl,b1⟩
end Go.Proofs.YtakfpngfpknedaaGreatDoor
set_option linter.all false
namespace Go.Proofs.YtakfpngfpknedaaGreatDoor
open Go.RowKit
theorem rsame_zero {w:World} {Aa Ac Al Ai Ar Au:Option Addr} {ca cc cl ci cr cu:Nat} (h1:TextsA w (.slice Aa 0 ca) []) (h2:TextsA w (.slice Ac 0 cc) []) (h3:TextsA w (.slice Al 0 cl) []) (h4:TextsA w (.slice Ar 0 cr) []) (h5:TextsA w (.slice Au 0 cu) []):
  Calls Tryz.prog 9 #[.agg #[.string ⟨#[]⟩,.string ⟨#[]⟩,.string ⟨#[]⟩,.int .i64 0,.slice Aa 0 ca,.slice Ac 0 cc,.slice Al 0 cl,.slice Ai 0 ci,.bool false,.bool false,.slice Ar 0 cr,.slice Au 0 cu],.agg #[.string ⟨#[]⟩,.string ⟨#[]⟩,.string ⟨#[]⟩,.int .i64 0,.slice none 0 0,.slice none 0 0,.slice none 0 0,.slice none 0 0,.bool false,.bool false,.slice none 0 0,.slice none 0 0]] w fun e w'=>e= .returned (.bool true)∧Bel w w':=by
 have b1:=bel_c w (.cells #[.string ⟨#[]⟩,.string ⟨#[]⟩,.string ⟨#[]⟩,.int .i64 0,.slice Aa 0 ca,.slice Ac 0 cc,.slice Al 0 cl,.slice Ai 0 ci,.bool false,.bool false,.slice Ar 0 cr,.slice Au 0 cu] 25)
 have b2:=b1.alloc b1.size (.cells #[.string ⟨#[]⟩,.string ⟨#[]⟩,.string ⟨#[]⟩,.int .i64 0,.slice none 0 0,.slice none 0 0,.slice none 0 0,.slice none 0 0,.bool false,.bool false,.slice none 0 0,.slice none 0 0] 25)
 have k1:=(Bk.new w 25 #[.string ⟨#[]⟩,.string ⟨#[]⟩,.string ⟨#[]⟩,.int .i64 0,.slice Aa 0 ca,.slice Ac 0 cc,.slice Al 0 cl,.slice Ai 0 ci,.bool false,.bool false,.slice Ar 0 cr,.slice Au 0 cu]).alloc (.cells #[.string ⟨#[]⟩,.string ⟨#[]⟩,.string ⟨#[]⟩,.int .i64 0,.slice none 0 0,.slice none 0 0,.slice none 0 0,.slice none 0 0,.bool false,.bool false,.slice none 0 0,.slice none 0 0] 25)
 have k2:=Bk.new (w.alloc (.cells #[.string ⟨#[]⟩,.string ⟨#[]⟩,.string ⟨#[]⟩,.int .i64 0,.slice Aa 0 ca,.slice Ac 0 cc,.slice Al 0 cl,.slice Ai 0 ci,.bool false,.bool false,.slice Ar 0 cr,.slice Au 0 cu] 25)) 25 #[.string ⟨#[]⟩,.string ⟨#[]⟩,.string ⟨#[]⟩,.int .i64 0,.slice none 0 0,.slice none 0 0,.slice none 0 0,.slice none 0 0,.bool false,.bool false,.slice none 0 0,.slice none 0 0]
 rw[World.size_alloc] at k2
 have HT:Hid (∀ (A:Option Addr) (c:Nat) (W:World),(TextsA w (.slice A 0 c) [])→Bel w W→Calls Tryz.prog 25 #[.slice A 0 c,.slice none 0 0] W fun e w'=>e= .returned (.bool true)∧∃ m,w'=W.drewN m):=hiD fun A c W h hb=>rtexts_q [] [] _ _ W (h.below hb) (.inl ⟨rfl,rfl⟩) (by decide)
 have HB2:=hiD b2
 have HH:=hiD (And.intro h1 (And.intro h2 (And.intro h3 (And.intro h4 h5))))
 have p0:=k1.cell 0
 have p1:=k1.cell 1
 have p2:=k1.cell 2
 have p3:=k1.cell 3
 have p4:=k1.cell 4
 have p5:=k1.cell 5
 have p6:=k1.cell 6
 have p7:=k1.cell 7
 have p8:=k1.cell 8
 have p9:=k1.cell 9
 have p10:=k1.cell 10
 have p11:=k1.cell 11
 have q0:=k2.cell 0
 have q1:=k2.cell 1
 have q2:=k2.cell 2
 have q3:=k2.cell 3
 have q4:=k2.cell 4
 have q5:=k2.cell 5
 have q6:=k2.cell 6
 have q7:=k2.cell 7
 have q8:=k2.cell 8
 have q9:=k2.cell 9
 have q10:=k2.cell 10
 have q11:=k2.cell 11
 simp only[gs3] at p0 p1 p2 p3 p4 p5 p6 p7 p8 p9 p10 p11 q0 q1 q2 q3 q4 q5 q6 q7 q8 q9 q10 q11
 clear b1 b2 k1 k2 h1 h2 h3 h4 h5
 go_enter Tryz.func9,Tryz.ntmps9
 go_upto_region 3 with fail
 generalize (w.alloc (.cells #[.string ⟨#[]⟩,.string ⟨#[]⟩,.string ⟨#[]⟩,.int .i64 0,.slice Aa 0 ca,.slice Ac 0 cc,.slice Al 0 cl,.slice Ai 0 ci,.bool false,.bool false,.slice Ar 0 cr,.slice Au 0 cu] 25)).alloc (.cells #[.string ⟨#[]⟩,.string ⟨#[]⟩,.string ⟨#[]⟩,.int .i64 0,.slice none 0 0,.slice none 0 0,.slice none 0 0,.slice none 0 0,.bool false,.bool false,.slice none 0 0,.slice none 0 0] 25)=w2 at *
 go_wp2_with fail
 go_loopg [5] 0 (fun gk i wr=>i= .int .i64 0∧wr=w2)
 case atStart=>exact⟨rfl,rfl⟩
 case round=>
  obtain⟨rfl,rfl⟩:=hrel
  go_wp2_with (first
   |(go_at_call 25;(with_reducible refine(HT.out _ _ _ HH.out.1 (by first|exact HB2.out|exact below_drewN HB2.out _)).mono ?_);rintro e w5 ⟨rfl,m5,rfl⟩)
   |(go_at_call 25;(with_reducible refine(HT.out _ _ _ HH.out.2.1 (by first|exact HB2.out|exact below_drewN HB2.out _)).mono ?_);rintro e w5 ⟨rfl,m5,rfl⟩)
   |(go_at_call 25;(with_reducible refine(HT.out _ _ _ HH.out.2.2.1 (by first|exact HB2.out|exact below_drewN HB2.out _)).mono ?_);rintro e w5 ⟨rfl,m5,rfl⟩)
   |(go_at_call 25;(with_reducible refine(HT.out _ _ _ HH.out.2.2.2.1 (by first|exact HB2.out|exact below_drewN HB2.out _)).mono ?_);rintro e w5 ⟨rfl,m5,rfl⟩)
   |(go_at_call 25;(with_reducible refine(HT.out _ _ _ HH.out.2.2.2.2 (by first|exact HB2.out|exact below_drewN HB2.out _)).mono ?_);rintro e w5 ⟨rfl,m5,rfl⟩))
  go_ret
  exact⟨rfl,by first|exact HB2.out|exact below_drewN HB2.out _⟩
theorem zero_told {w:World} {v:Value} (h:ConfT w v Cfg.zeroC):∃ Aa ca Ac cc Al cl Ai ci Ar cr Au cu,v=(.agg #[.string ⟨#[]⟩,.string ⟨#[]⟩,.string ⟨#[]⟩,.int .i64 0,.slice Aa 0 ca,.slice Ac 0 cc,.slice Al 0 cl,.slice Ai 0 ci,.bool false,.bool false,.slice Ar 0 cr,.slice Au 0 cu])∧TextsA w (.slice Aa 0 ca) []∧TextsA w (.slice Ac 0 cc) []∧TextsA w (.slice Al 0 cl) []∧TextsA w (.slice Ar 0 cr) []∧TextsA w (.slice Au 0 cu) []:=by
 obtain⟨va,vc,vl,vi,vr,vu,rfl,h1,h2,h3,h4,h5,h6⟩:=h
 obtain⟨Aa,ca,rfl⟩:=texts0 h1
 obtain⟨Ac,cc,rfl⟩:=texts0 h2
 obtain⟨Al,cl,rfl⟩:=texts0 h3
 obtain⟨Ai,ci,rfl⟩:∃ A c,vi= .slice A 0 c:=by
  rcases h4 with ⟨_,h⟩|⟨b,o,c,h,_⟩
  ·exact⟨_,_,h⟩
  ·exact⟨_,_,h⟩
 obtain⟨Ar,cr,rfl⟩:=texts0 h5
 obtain⟨Au,cu,rfl⟩:=texts0 h6
 exact⟨Aa,ca,Ac,cc,Al,cl,Ai,ci,Ar,cr,Au,cu,rfl,texts_toA h1,texts_toA h2,texts_toA h3,texts_toA h5,texts_toA h6⟩
theorem none_c (w:World) (hw:Env w):Calls Tryz.prog 4 #[] w fun e w'=>e= .returned (.bool true)∧Bel w w':=by
 have b1:=bel_c w (.cells #[.string ⟨#[]⟩,.string ⟨#[]⟩,.string ⟨#[]⟩,.int .i64 0,.slice none 0 0,.slice none 0 0,.slice none 0 0,.slice none 0 0,.bool false,.bool false,.slice none 0 0,.slice none 0 0,.pointer none,.slice none 0 0,.string ⟨#[]⟩,.string ⟨#[]⟩] 35)
 have k1:Bk (w.alloc (.cells #[.string ⟨#[]⟩,.string ⟨#[]⟩,.string ⟨#[]⟩,.int .i64 0,.slice none 0 0,.slice none 0 0,.slice none 0 0,.slice none 0 0,.bool false,.bool false,.slice none 0 0,.slice none 0 0,.pointer none,.slice none 0 0,.string ⟨#[]⟩,.string ⟨#[]⟩] 35)) w.heap.size 35 (cfgC Cfg.zeroC (.slice none 0 0) (.slice none 0 0) (.slice none 0 0) (.slice none 0 0) (.slice none 0 0) (.slice none 0 0) (.pointer none) [] []):=Bk.new w _ _
 have HB1:=hiD b1
 have HK:=hiD (fun (W:World) (h:Below (w.alloc (.cells #[.string ⟨#[]⟩,.string ⟨#[]⟩,.string ⟨#[]⟩,.int .i64 0,.slice none 0 0,.slice none 0 0,.slice none 0 0,.slice none 0 0,.bool false,.bool false,.slice none 0 0,.slice none 0 0,.pointer none,.slice none 0 0,.string ⟨#[]⟩,.string ⟨#[]⟩] 35)).heap.size (w.alloc (.cells #[.string ⟨#[]⟩,.string ⟨#[]⟩,.string ⟨#[]⟩,.int .i64 0,.slice none 0 0,.slice none 0 0,.slice none 0 0,.slice none 0 0,.bool false,.bool false,.slice none 0 0,.slice none 0 0,.pointer none,.slice none 0 0,.string ⟨#[]⟩,.string ⟨#[]⟩] 35)) W)=>k1.below h)
 have HAl:=hiD (fun (W:World) (h:Bel w W)=>alive19_c W (hw.keep h))
 have HCn:Hid (∀ W,Calls Tryz.prog 10 #[.pointer none] W fun e w'=>Bel W w'∧∃ Aa ca Ac cc Al cl Ai ci Ar cr Au cu,e= .returned (.agg #[.string ⟨#[]⟩,.string ⟨#[]⟩,.string ⟨#[]⟩,.int .i64 0,.slice Aa 0 ca,.slice Ac 0 cc,.slice Al 0 cl,.slice Ai 0 ci,.bool false,.bool false,.slice Ar 0 cr,.slice Au 0 cu])∧TextsA w' (.slice Aa 0 ca) []∧TextsA w' (.slice Ac 0 cc) []∧TextsA w' (.slice Al 0 cl) []∧TextsA w' (.slice Ar 0 cr) []∧TextsA w' (.slice Au 0 cu) []):=hiD fun W=>(Conf_nil W).mono (by
  rintro e w' ⟨hb,v,rfl,hC⟩
  obtain⟨Aa,ca,Ac,cc,Al,cl,Ai,ci,Ar,cr,Au,cu,rfl,hh⟩:=zero_told hC
  exact⟨hb,Aa,ca,Ac,cc,Al,cl,Ai,ci,Ar,cr,Au,cu,rfl,hh⟩)
 have HCz:Hid (∀ W,Below (w.alloc (.cells #[.string ⟨#[]⟩,.string ⟨#[]⟩,.string ⟨#[]⟩,.int .i64 0,.slice none 0 0,.slice none 0 0,.slice none 0 0,.slice none 0 0,.bool false,.bool false,.slice none 0 0,.slice none 0 0,.pointer none,.slice none 0 0,.string ⟨#[]⟩,.string ⟨#[]⟩] 35)).heap.size (w.alloc (.cells #[.string ⟨#[]⟩,.string ⟨#[]⟩,.string ⟨#[]⟩,.int .i64 0,.slice none 0 0,.slice none 0 0,.slice none 0 0,.slice none 0 0,.bool false,.bool false,.slice none 0 0,.slice none 0 0,.pointer none,.slice none 0 0,.string ⟨#[]⟩,.string ⟨#[]⟩] 35)) W→Calls Tryz.prog 10 #[.pointer (some ⟨w.heap.size,0,none⟩)] W fun e w'=>Bel W w'∧∃ Aa ca Ac cc Al cl Ai ci Ar cr Au cu,e= .returned (.agg #[.string ⟨#[]⟩,.string ⟨#[]⟩,.string ⟨#[]⟩,.int .i64 0,.slice Aa 0 ca,.slice Ac 0 cc,.slice Al 0 cl,.slice Ai 0 ci,.bool false,.bool false,.slice Ar 0 cr,.slice Au 0 cu])∧TextsA w' (.slice Aa 0 ca) []∧TextsA w' (.slice Ac 0 cc) []∧TextsA w' (.slice Al 0 cl) []∧TextsA w' (.slice Ar 0 cr) []∧TextsA w' (.slice Au 0 cu) []):=hiD fun W h=>(Conf_c (HK.out W h) (by refine⟨?_,?_,?_,?_,?_,?_⟩<;>exact Nat.zero_le _) (.inl ⟨rfl,rfl⟩) (.inl ⟨rfl,rfl⟩) (.inl ⟨rfl,rfl⟩) (.inl ⟨rfl,rfl⟩) (.inl ⟨rfl,rfl⟩) (.inl ⟨rfl,rfl⟩)).mono (by
  rintro e w' ⟨hb,v,rfl,hC⟩
  obtain⟨Aa,ca,Ac,cc,Al,cl,Ai,ci,Ar,cr,Au,cu,rfl,hh⟩:=zero_told hC
  exact⟨hb,Aa,ca,Ac,cc,Al,cl,Ai,ci,Ar,cr,Au,cu,rfl,hh⟩)
 have HSn:=hiD (fun (W:World)=>Suffix_nil W)
 have HRn:=hiD (fun (W:World)=>Root_nil W)
 have HHn:=hiD (fun (W:World)=>Schema_nil W)
 have HLn:=hiD (fun (W:World)=>Rules_nil W)
 have HSz:Hid (∀ W,Below (w.alloc (.cells #[.string ⟨#[]⟩,.string ⟨#[]⟩,.string ⟨#[]⟩,.int .i64 0,.slice none 0 0,.slice none 0 0,.slice none 0 0,.slice none 0 0,.bool false,.bool false,.slice none 0 0,.slice none 0 0,.pointer none,.slice none 0 0,.string ⟨#[]⟩,.string ⟨#[]⟩] 35)).heap.size (w.alloc (.cells #[.string ⟨#[]⟩,.string ⟨#[]⟩,.string ⟨#[]⟩,.int .i64 0,.slice none 0 0,.slice none 0 0,.slice none 0 0,.slice none 0 0,.bool false,.bool false,.slice none 0 0,.slice none 0 0,.pointer none,.slice none 0 0,.string ⟨#[]⟩,.string ⟨#[]⟩] 35)) W→Calls Tryz.prog 13 #[.pointer (some ⟨w.heap.size,0,none⟩)] W fun e w'=>e= .returned (.string ⟨#[]⟩)∧w'=W):=hiD fun W h=>Suffix_c (HK.out W h)
 have HRz:Hid (∀ W,Below (w.alloc (.cells #[.string ⟨#[]⟩,.string ⟨#[]⟩,.string ⟨#[]⟩,.int .i64 0,.slice none 0 0,.slice none 0 0,.slice none 0 0,.slice none 0 0,.bool false,.bool false,.slice none 0 0,.slice none 0 0,.pointer none,.slice none 0 0,.string ⟨#[]⟩,.string ⟨#[]⟩] 35)).heap.size (w.alloc (.cells #[.string ⟨#[]⟩,.string ⟨#[]⟩,.string ⟨#[]⟩,.int .i64 0,.slice none 0 0,.slice none 0 0,.slice none 0 0,.slice none 0 0,.bool false,.bool false,.slice none 0 0,.slice none 0 0,.pointer none,.slice none 0 0,.string ⟨#[]⟩,.string ⟨#[]⟩] 35)) W→Calls Tryz.prog 14 #[.pointer (some ⟨w.heap.size,0,none⟩)] W fun e w'=>e= .returned (.string ⟨#[]⟩)∧w'=W):=hiD fun W h=>Root_c (HK.out W h)
 have HLz:Hid (∀ W,Below (w.alloc (.cells #[.string ⟨#[]⟩,.string ⟨#[]⟩,.string ⟨#[]⟩,.int .i64 0,.slice none 0 0,.slice none 0 0,.slice none 0 0,.slice none 0 0,.bool false,.bool false,.slice none 0 0,.slice none 0 0,.pointer none,.slice none 0 0,.string ⟨#[]⟩,.string ⟨#[]⟩] 35)).heap.size (w.alloc (.cells #[.string ⟨#[]⟩,.string ⟨#[]⟩,.string ⟨#[]⟩,.int .i64 0,.slice none 0 0,.slice none 0 0,.slice none 0 0,.slice none 0 0,.bool false,.bool false,.slice none 0 0,.slice none 0 0,.pointer none,.slice none 0 0,.string ⟨#[]⟩,.string ⟨#[]⟩] 35)) W→Calls Tryz.prog 12 #[.pointer (some ⟨w.heap.size,0,none⟩)] W fun e w'=>e= .returned (.slice none 0 0)∧w'=W):=hiD fun W h=>Rules_none (HK.out W h)
 have HNm:=hiD (fun (W:World)=>Name0_c W)
 have hcat:((⟨#[]⟩:ByteArray)++(⟨#[]⟩:ByteArray))=⟨#[]⟩:=by first|rfl|(apply ByteArray.ext;rw[ByteArray.data_append];simp)
 clear hw b1 k1 HK
 go_enter Tryz.func4,Tryz.ntmps4
 go_upto_region 3 with fail
 generalize w.alloc (.cells #[.string ⟨#[]⟩,.string ⟨#[]⟩,.string ⟨#[]⟩,.int .i64 0,.slice none 0 0,.slice none 0 0,.slice none 0 0,.slice none 0 0,.bool false,.bool false,.slice none 0 0,.slice none 0 0,.pointer none,.slice none 0 0,.string ⟨#[]⟩,.string ⟨#[]⟩] 35)=w1 at *
 have HC:Hid (Bel w1 w1):=hiD (bR _ _)
 go_wp2_with (first
  |(go_at_call 8;(with_reducible refine(HAl.out _ HB1.out).mono ?_);rintro e w2 ⟨rfl,hb⟩;have HC:=hiD (tQ HC.out hb);clear hb)
  |(go_at_call 10;(with_reducible refine(HCn.out _).mono ?_);rintro e w3 ⟨hb,Aa,ca,Ac,cc,Al,cl,Ai,ci,Ar,cr,Au,cu,rfl,h1,h2,h3,h4,h5⟩;have HC:=hiD (tQ HC.out hb);have HS3:=hiD (rsame_zero (Ai:=Ai) (ci:=ci) h1 h2 h3 h4 h5);clear hb h1 h2 h3 h4 h5)
  |(go_at_call 9;(with_reducible refine HS3.out.mono ?_);rintro e w4 ⟨rfl,hb⟩;have HC:=hiD (tQ HC.out hb);clear hb)
  |(go_at_call 10;(with_reducible refine(HCz.out _ HC.out).mono ?_);rintro e w5 ⟨hb,Ba,da,Bc,dc,Bl,dl,Bi,di,Br,dr,Bu,du,rfl,h1,h2,h3,h4,h5⟩;have HC:=hiD (tQ HC.out hb);have HS5:=hiD (rsame_zero (Ai:=Bi) (ci:=di) h1 h2 h3 h4 h5);clear hb h1 h2 h3 h4 h5)
  |(go_at_call 9;(with_reducible refine HS5.out.mono ?_);rintro e w6 ⟨rfl,hb⟩;have HC:=hiD (tQ HC.out hb);clear hb)
  |(go_at_call 11;(with_reducible refine(HHn.out _).mono ?_);rintro e w7 ⟨rfl,rfl⟩)
  |(go_at_call 12;(with_reducible refine(HLn.out _).mono ?_);rintro e w7 ⟨rfl,rfl⟩)
  |(go_at_call 12;(with_reducible refine(HLz.out _ HC.out).mono ?_);rintro e w7 ⟨rfl,rfl⟩)
  |(go_at_call 13;(with_reducible refine(HSn.out _).mono ?_);rintro e w7 ⟨rfl,rfl⟩)
  |(go_at_call 13;(with_reducible refine(HSz.out _ HC.out).mono ?_);rintro e w7 ⟨rfl,rfl⟩)
  |(go_at_call 14;(with_reducible refine(HRn.out _).mono ?_);rintro e w7 ⟨rfl,rfl⟩)
  |(go_at_call 14;(with_reducible refine(HRz.out _ HC.out).mono ?_);rintro e w7 ⟨rfl,rfl⟩)
  |(go_at_call 15;(with_reducible refine(HNm.out _).mono ?_);rintro e w8 ⟨rfl,hb⟩;have HC:=hiD (tQ HC.out hb);clear hb))
 go_ret
 exact⟨rfl,tQ HB1.out HC.out⟩
end Go.Proofs.YtakfpngfpknedaaGreatDoor
namespace Go.Proofs.YtakfpngfpknedaaGreatDoor.Cfg
open Go.RowKit
def wSuffix:LU:=[115,117,102,102,105,120]
def wRoot:LU:=[114,111,111,116]
def wSecret:LU:=[115,101,99,114,101,116]
def wSize:LU:=[115,105,122,101]
def wAttr:LU:=[97,116,116,114]
def wClass:LU:=[99,108,97,115,115]
def wAcl:LU:=[97,99,108]
def wIndex:LU:=[105,110,100,101,120]
def wMember:LU:=[109,101,109,98,101,114,111,102]
def wAudit:LU:=[97,117,100,105,116]
def wRef:LU:=[114,101,102]
def wUnique:LU:=[117,110,105,113,117,101]
def line (w a:LU):LL:=if a=[] then [] else [w++32::a]
def lines (w:LU) (l:LL):LL:=l.flatMap (line w)
def sizeL (n:Int):LL:=if n=0 then [] else line wSize (Lib.itoa n)
def onL (w:LU) (b:Bool):LL:=if b=true then line w onB else []
def rawP (c:ConfE):LL:=
 line wSuffix c.suffix++(line wRoot c.root++(line wSecret c.secret++(sizeL c.size++
 (lines wAttr c.attrs++(lines wClass c.classes++(lines wAcl c.acls++(lines wIndex (c.indexes.map textI)++
 (onL wMember c.memberof++(onL wAudit c.audit++(lines wRef c.refs++lines wUnique c.unique))))))))))
def printC (c:ConfE):LL:=if (parseC (rawP c)).2.1=0∧(parseC (rawP c)).1=c then rawP c else []
/-! Numbers. -/
/-! One setting after another. -/
theorem takeWhile_word:∀ (w a:LU),(∀ x∈w,x≠32)→(w++32::a).takeWhile (· !=32)=w∧(w++32::a).dropWhile (· !=32)=32::a
 |[],a,_=>by simp
 |x::w,a,h=>by
  have hx:(x !=32)=true:=bne_iff_ne.2 (h x (List.mem_cons_self ..))
  have ih:=takeWhile_word w a (fun y hy=>h y (List.mem_cons_of_mem _ hy))
  rw[List.cons_append,List.takeWhile_cons,List.dropWhile_cons,if_pos hx,if_pos hx,ih.1,ih.2]
  exact⟨rfl,rfl⟩
theorem line_read (w a:LU) (h:∀ x∈w,x≠32):nameS (w++32::a)=w∧argS (w++32::a)=a:=by
 unfold nameS argS
 rw[(takeWhile_word w a h).1,(takeWhile_word w a h).2]
 exact⟨rfl,rfl⟩
def Runs (l:LL) (c:ConfE) (seen:LL) (c':ConfE) (seen':LL):Prop:=∀ r i,∃ i',goC (l++r) i c seen (-1)=goC r i' c' seen' (-1)
theorem Runs.nil (c:ConfE) (seen:LL):Runs [] c seen c seen:=fun _ i=>⟨i,rfl⟩
theorem Runs.app {l m:LL} {c c1 c2:ConfE} {s s1 s2:LL} (h:Runs l c s c1 s1) (g:Runs m c1 s1 c2 s2):Runs (l++m) c s c2 s2:=fun r i=>by
 obtain⟨i1,h1⟩:=h (m++r) i
 obtain⟨i2,h2⟩:=g r i1
 exact⟨i2,by rw[List.append_assoc,h1,h2]⟩
theorem Runs.one {w:LU} {k:Kind} (hw:∀ x∈w,x≠32) (hk:kindOf w=some k) (a:LU) (c:ConfE) (seen:LL) (ha:a≠[]) (hok:(takeK k a c).2=true) (hs:onceK k=true→w ∉ seen):Runs [w++32::a] c seen (takeK k a c).1 (w::seen):=fun r i=>by
 refine⟨i+1,?_⟩
 obtain⟨h1,h2⟩:=line_read w a hw
 rw[List.singleton_append,goC,h1,hk]
 simp only[h2]
 rw[if_neg ha,if_pos hok,if_neg]
 intro h
 simp only[Bool.and_eq_true,List.contains_iff_mem] at h
 exact hs h.1.2 h.1.1
theorem Runs.line {w:LU} {k:Kind} (hw:∀ x∈w,x≠32) (hk:kindOf w=some k) (a:LU) (c c':ConfE) (seen:LL) (he:a=[]→c'=c) (ht:a≠[]→takeK k a c=(c',true)) (hs:onceK k=true→w ∉ seen):
  ∃ seen',Runs (Cfg.line w a) c seen c' seen'∧∀ x∈seen',x=w∨x∈seen:=by
 unfold Cfg.line
 by_cases ha:a=[]
 ·rw[if_pos ha,he ha]
  exact⟨seen,Runs.nil _ _,fun x hx=> .inr hx⟩
 ·rw[if_neg ha]
  have h:=Runs.one hw hk a c seen ha (by rw[ht ha]) hs
  rw[ht ha] at h
  exact⟨_,h,fun x hx=>by simpa using hx⟩
theorem Runs.lines {w:LU} {k:Kind} (hw:∀ x∈w,x≠32) (hk:kindOf w=some k) (ho:onceK k=false) (F:ConfE→LU→ConfE):∀ (l:LL) (c:ConfE) (seen:LL),(∀ a∈l,a≠[]∧∀ c,takeK k a c=(F c a,true))→
  ∃ seen',Runs (Cfg.lines w l) c seen (l.foldl F c) seen'∧∀ x∈seen',x=w∨x∈seen
 |[],c,seen,_=>⟨seen,Runs.nil _ _,fun x hx=> .inr hx⟩
 |a::l,c,seen,h=>by
  obtain⟨ha,ht⟩:=h a (List.mem_cons_self ..)
  obtain⟨s1,h1,m1⟩:=Runs.line hw hk a c (F c a) seen (fun e=>absurd e ha) (fun _=>ht c) (fun e=>by rw[ho] at e;cases e)
  obtain⟨s2,h2,m2⟩:=Runs.lines hw hk ho F l (F c a) s1 (fun b hb=>h b (List.mem_cons_of_mem _ hb))
  refine⟨s2,?_,fun x hx=>?_⟩
  ·show Runs (Cfg.line w a++Cfg.lines w l) c seen _ s2
   exact h1.app h2
  ·rcases m2 x hx with h|h
   ·exact .inl h
   ·exact m1 x h
structure Good (c:ConfE):Prop where
 size:0≤c.size∧c.size≤2147483647
 attrs:∀ a∈c.attrs,a≠[]
 classes:∀ a∈c.classes,a≠[]
 acls:∀ a∈c.acls,a≠[]
 indexes:∀ x∈c.indexes,textI x≠[]∧indexS (textI x)=(x,true)
 refs:∀ a∈c.refs,a≠[]∧isTypeL a=true
 unique:∀ a∈c.unique,a≠[]∧isTypeL a=true
theorem line_le (w a:LU):(line w a).length≤1:=by
 unfold line
 split<;>simp
theorem lines_snoc (w:LU) (l:LL) (a:LU):(lines w (l++[a])).length≤(lines w l).length+1:=by
 unfold lines
 rw[List.flatMap_append,List.length_append]
 have:=line_le w a
 simp only[List.flatMap_cons,List.flatMap_nil,List.append_nil]
 omega
theorem onL_le (w:LU) (b:Bool):(onL w b).length≤1:=by
 unfold onL
 cases b
 ·simp
 ·exact line_le w onB
theorem sizeL_le (n:Int):(sizeL n).length≤1:=by
 unfold sizeL
 split
 ·simp
 ·exact line_le _ _
theorem raw_take (k:Kind) (a:LU) (c:ConfE):(rawP (takeK k a c).1).length≤(rawP c).length+1:=by
 have h1:=fun w (x:LU)=>line_le w x
 have h2:=fun w (l:LL)=>lines_snoc w l
 have h3:=fun w b=>onL_le w b
 cases k<;>simp only[takeK,rawP,List.length_append,List.map_append,List.map_cons,List.map_nil]
 ·have:=h1 wSuffix a;omega
 ·have:=h1 wRoot a;omega
 ·have:=h1 wSecret a;omega
 ·have:=sizeL_le (numS a).1;omega
 ·have:=h2 wAttr c.attrs a;omega
 ·have:=h2 wClass c.classes a;omega
 ·have:=h2 wAcl c.acls a;omega
 ·have:=h2 wIndex (c.indexes.map textI) (textI (indexS a).1);omega
 ·have:=h3 wMember (flagS a).1;omega
 ·have:=h3 wAudit (flagS a).1;omega
 ·have:=h2 wRef c.refs a;omega
 ·have:=h2 wUnique c.unique a;omega
theorem numS_range (s:LU) (h:(numS s).2=true):0≤(numS s).1∧(numS s).1≤2147483647:=by
 unfold numS at h ⊢
 split at h
 ·cases h
 ·next hn=>
  rw[if_neg hn]
  have:=of_decide_eq_true h
  simp only
  omega
theorem index_again (s:LU) (x:IndexE) (hs:s≠[]) (h:indexS s=(x,true)):textI x≠[]∧indexS (textI x)=(x,true):=by
 have h2:textI x=s:=by
  unfold indexS indexI at h
  simp only[Prod.mk.injEq,Bool.and_eq_true,beq_iff_eq] at h
  rw[h.1] at h
  exact h.2.2
 rw[h2]
 exact⟨hs,h⟩
theorem good_take (k:Kind) (a:LU) (c:ConfE) (h:Good c) (ha:a≠[]) (hok:(takeK k a c).2=true):Good (takeK k a c).1:=by
 have snoc:∀ {α:Type} {l:List α} {x:α} {P:α→Prop},(∀ y∈l,P y)→P x→∀ y∈l++[x],P y:=fun h1 h2 y hy=>by
  rcases List.mem_append.1 hy with hy|hy
  ·exact h1 y hy
  ·rw[List.mem_singleton.1 hy];exact h2
 cases k<;>simp only[takeK] at hok ⊢
 ·exact⟨h.size,h.attrs,h.classes,h.acls,h.indexes,h.refs,h.unique⟩
 ·exact⟨h.size,h.attrs,h.classes,h.acls,h.indexes,h.refs,h.unique⟩
 ·exact⟨h.size,h.attrs,h.classes,h.acls,h.indexes,h.refs,h.unique⟩
 ·exact⟨numS_range a hok,h.attrs,h.classes,h.acls,h.indexes,h.refs,h.unique⟩
 ·exact⟨h.size,snoc h.attrs ha,h.classes,h.acls,h.indexes,h.refs,h.unique⟩
 ·exact⟨h.size,h.attrs,snoc h.classes ha,h.acls,h.indexes,h.refs,h.unique⟩
 ·exact⟨h.size,h.attrs,h.classes,snoc h.acls ha,h.indexes,h.refs,h.unique⟩
 ·exact⟨h.size,h.attrs,h.classes,h.acls,snoc h.indexes (index_again a _ ha (by rw[← hok])),h.refs,h.unique⟩
 ·exact⟨h.size,h.attrs,h.classes,h.acls,h.indexes,h.refs,h.unique⟩
 ·exact⟨h.size,h.attrs,h.classes,h.acls,h.indexes,h.refs,h.unique⟩
 ·exact⟨h.size,h.attrs,h.classes,h.acls,h.indexes,snoc h.refs ⟨ha,hok⟩,h.unique⟩
 ·exact⟨h.size,h.attrs,h.classes,h.acls,h.indexes,h.refs,snoc h.unique ⟨ha,hok⟩⟩
theorem go_good:∀ (l:LL) (i:Nat) (c:ConfE) (seen:LL) (tw:Int) (d:ConfE) (at':Int),goC l i c seen tw=(d,0,at')→Good c→(rawP c).length≤i→Good d∧(rawP d).length≤i+l.length
 |[],i,c,seen,tw,d,at',h,hg,hl=>by
  unfold goC at h
  split at h
  ·cases h
  ·cases h;exact⟨hg,hl⟩
 |v::l,i,c,seen,tw,d,at',h,hg,hl=>by
  unfold goC at h
  split at h
  ·cases h
  ·next k hk=>
   split at h
   ·cases h
   ·next ha=>
    split at h
    ·next hok=>
     have hr:=raw_take k (argS v) c
     have:=go_good l (i+1) _ _ _ d at' h (good_take k (argS v) c hg ha hok) (by omega)
     exact⟨this.1,by rw[List.length_cons];omega⟩
    ·cases h
theorem good_zero:Good zeroC:=⟨⟨by decide,by decide⟩,fun a h=>(by cases h),fun a h=>(by cases h),fun a h=>(by cases h),fun a h=>(by cases h),fun a h=>(by cases h),fun a h=>(by cases h)⟩
end Go.Proofs.YtakfpngfpknedaaGreatDoor.Cfg
set_option linter.all false
namespace Go.Proofs.YtakfpngfpknedaaGreatDoor
open Go.RowKit
def OutL (B po:Nat) (w:World) (L:LL):Prop:=∃ v,Bk w po 22 #[v]∧Own B w v L∧po<B
theorem OutL.below {B po:Nat} {w w':World} {L:LL} (h:OutL B po w L) (hb:Bel w w'):OutL B po w' L:=by
 obtain⟨v,h1,h2,h3⟩:=h
 exact⟨v,h1.below hb,h2.below hb,h3⟩
def PutL (B po:Nat) (w:World) (L:LL) (e:Ending) (w':World):Prop:=e= .returned (.tuple #[])∧Out2 B po po w w'∧OutL B po w' L
section
variable {B po:Nat} {w:World} {L:LL}
theorem one_put (wd arg:LU) (h:OutL B po w L) (hl:L.length≤4000000) (hw:wd.length≤100) (ha:arg.length≤4000000):
  Calls Tryz.prog 30 #[.string ⟨wd.toArray⟩,.string ⟨arg.toArray⟩,.pointer (some ⟨po,0,none⟩)] w (PutL B po w (L++Cfg.line wd arg)):=by
 by_cases he:arg=[]
 ·subst he
  have hs:Cfg.line wd []=[]:=if_pos rfl
  rw[hs,List.append_nil]
  have H:=hiD h
  clear h hs
  go_enter Tryz.func30,Tryz.ntmps30
  go_wp2_with fail
  go_end0
  exact⟨rfl,Out2.refl,H.out⟩
 ·have hs:Cfg.line wd arg=[(wd++[32])++arg]:=by
   unfold Cfg.line
   rw[if_neg he]
   simp
  rw[hs]
  have hne:(arg !=[])=true:=bne_iff_ne.2 he
  have hne2:arg.isEmpty=false:=by cases arg with
   |nil=>exact absurd rfl he
   |cons a l=>rfl
  obtain⟨v,hB,hO,hp⟩:=h
  obtain⟨A0,n0,rfl,_⟩:=hO.isSlice
  have c0:=hB.cell 0
  simp only[List.getElem?_toArray,List.getElem?_cons_zero] at c0
  have HB:=hiD hB
  have HO:=hiD hO
  clear hB hO he hs
  go_enter Tryz.func30,Tryz.ntmps30
  go_wp2_with (at_builtin;refine own_one (c:=(wd++[32])++arg) rfl _ _ rfl rfl HO.out rfl rfl (by omega) ?_;intro v' w' hO' hg';obtain⟨A6,c6,rfl,_⟩:=hO'.isSlice;have HO':=hiD hO';have hB':=HB.out.grown hg' (fun e=>by have:=(HO.out.lt po e.symm).1;omega);have f0:=hB'.frozen 0;have c1:=hB'.cell 0;simp only[List.getElem?_toArray,List.getElem?_cons_zero] at c1;have HB':=hiD hB';have HG':=hiD hg';clear hO' hg' hB')
  go_end0
  have hBw:=HO.out.2
  refine⟨rfl,?_,_,?_,HO'.out.keep (grown_setC _ _ _ _) (fun k hk=>by cases hk;exact hp),hp⟩
  ·have h1:Out2 B po po w _:=⟨HG'.out.os,HG'.out.tape,HG'.out.output,HG'.out.size,fun k hk _ _=>HG'.out.block k (by omega) (fun e=>by have:=(HO.out.lt k e.symm).1;omega)⟩
   exact h1.trans (Out2.of_grown (p:=po) (grown_setC _ _ _ _) (nT hBw HG'.out.size))
  ·simpa using HB'.out.set 0 _
theorem line_len (w a:LU):(Cfg.line w a).length≤1:=by
 unfold Cfg.line
 split<;>simp
theorem lines_len (w:LU):∀ l:LL,(Cfg.lines w l).length≤l.length
 |[]=>nR _
 |a::l=>by
  have h1:=line_len w a
  have h2:=lines_len w l
  show (Cfg.line w a++Cfg.lines w l).length≤_
  rw[List.length_append,List.length_cons]
  omega
theorem lines_snoc (w:LU) (l:LL) (a:LU):Cfg.lines w (l++[a])=Cfg.lines w l++Cfg.line w a:=by
 unfold Cfg.lines
 rw[List.flatMap_append]
 simp
theorem many_put (wd:LU) (l:LL) (v:Value) (bf:Nat) (hf:Bk w bf 75 #[.func (.func 30) #[] #[.pointer (some ⟨po,0,none⟩)]]) (hfB:bf<B∧bf≠po) (hv:∀ W,Out2 B po po w W→TextsA W v l) (h:OutL B po w L)
  (hl:L.length+l.length≤4000000) (hw:wd.length≤100) (ha:∀ a∈l,a.length≤4000000):
  Calls Tryz.prog 31 #[.string ⟨wd.toArray⟩,v,.pointer (some ⟨bf,0,none⟩)] w (PutL B po w (L++Cfg.lines wd l)):=by
 have hent:∀ (args:Array Value) (W:World),(callFunc 30 args).run Tryz.prog W= .ok (.enter 30 args) W:=fun _ _=>by kernel_rfl
 obtain⟨A,cp,rfl,_,_⟩:=(hv w Out2.refl).at
 have HV:Hid (∀ W,Out2 B po po w W→∀ j (hj:j<l.length),∃ a,A=some a∧W.cell? (a.add j)=some (.string ⟨l[j].toArray⟩)):=hiD fun W hW j hj=>by
  obtain⟨A',c',he,_,hx⟩:=(hv W hW).at
  cases he
  exact hx j hj
 have HF:=hiD (fun (W:World) (hW:Out2 B po po w W)=>(hW.bk hf hfB.1 hfB.2 hfB.2).cell 0)
 have HA:=hiD ha
 have H0:=hiD h
 have hll:=lines_len wd
 have hlI:(l.length:Int)≤4000000:=by omega
 clear hv hf ha h
 go_enter Tryz.func31,Tryz.ntmps31
 go_wp2_with fail
 go_loopg [9] l.length (fun gk i wr=>∃ k:Nat,k≤l.length∧i= .int .i64 (k:Int)∧Aside (k+gk=l.length)∧Aside (Out2 B po po w wr)∧Aside (OutL B po wr (L++Cfg.lines wd (l.take k))))
 case atStart=>exact⟨0,Nat.zero_le _,rfl,by show _=_;omega,Out2.refl,by show OutL _ _ _ _;simpa [Cfg.lines] using H0.out⟩
 case round=>
  obtain⟨k,hk,rfl,AG,AO,AL⟩:=hrel
  have HO:=hiD AO.out
  have HL:=hiD AL.out
  clear AO AL
  by_cases hlt:k<l.length
  ·obtain⟨q,rfl⟩:∃ q,gk=q+1:=⟨gk - 1,by have:=AG.out;omega⟩
   obtain⟨a,rfl,hc⟩:=HV.out _ HO.out k hlt
   have hf0:=HF.out _ HO.out
   simp only[List.getElem?_toArray,List.getElem?_cons_zero] at hf0
   have hal:=HA.out _ (List.getElem_mem hlt)
   have hsn:Cfg.lines wd (l.take (k+1))=Cfg.lines wd (l.take k)++Cfg.line wd l[k]:=by rw[List.take_succ_eq_append_getElem hlt,lines_snoc]
   have HSN:=hiD hsn
   have hbl:=hll (l.take k)
   rw[List.length_take] at hbl
   clear hsn
   generalize l[k]=x at *
   have HOne:=hiD (one_put wd x HL.out (by rw[List.length_append];omega) hw hal)
   unfold PutL at HOne
   go_wp2_with ((with_reducible refine HOne.out.mono ?_);rintro e w5 ⟨rfl,hO,hL⟩;have HO5:=hiD (HO.out.trans hO);have HL5:=hiD hL;clear hO hL)
   go_roundg q
   case measure=>omega
   case rel=>exact⟨k+1,by omega,by go_num,by have:=AG.out;show _=_;omega,HO5.out,by show OutL _ _ _ _;rw[HSN.out,← List.append_assoc];exact HL5.out⟩
  ·obtain rfl:k=l.length:=by omega
   go_wp2_with fail
   go_end0
   exact⟨rfl,HO.out,by have:=HL.out;rwa [List.take_length] at this⟩
theorem flag_put (wd:LU) (b:Bool) (bf:Nat) (hf:Bk w bf 75 #[.func (.func 30) #[] #[.pointer (some ⟨po,0,none⟩)]]) (h:OutL B po w L) (hl:L.length≤4000000) (hw:wd.length≤100):
  Calls Tryz.prog 32 #[.string ⟨wd.toArray⟩,.bool b,.pointer (some ⟨bf,0,none⟩)] w (PutL B po w (L++Cfg.onL wd b)):=by
 have hent:∀ (args:Array Value) (W:World),(callFunc 30 args).run Tryz.prog W= .ok (.enter 30 args) W:=fun _ _=>by kernel_rfl
 have hf0:=hf.cell 0
 simp only[List.getElem?_toArray,List.getElem?_cons_zero] at hf0
 have H:=hiD h
 have HOne:=hiD (one_put wd Cfg.onB h hl hw (by decide))
 unfold Cfg.onB at HOne
 clear hf h
 cases b
 ·have he:Cfg.onL wd false=[]:=rfl
  rw[he,List.append_nil]
  go_enter Tryz.func32,Tryz.ntmps32
  go_wp2_with fail
  go_end0
  exact⟨rfl,Out2.refl,H.out⟩
 ·have he:Cfg.onL wd true=Cfg.line wd [111,110]:=rfl
  rw[he]
  unfold PutL at HOne
  go_enter Tryz.func32,Tryz.ntmps32
  go_wp2_with ((with_reducible refine HOne.out.mono ?_);rintro e w5 ⟨rfl,hO,hL⟩;have HO5:=hiD hO;have HL5:=hiD hL;clear hO hL)
  go_end0
  exact⟨rfl,HO5.out,HL5.out⟩
end
end Go.Proofs.YtakfpngfpknedaaGreatDoor
