import Derived.Test.YtakfpngfpknedaaGreatDoorE14
set_option linter.all false
set_option maxHeartbeats 8000000
set_option maxRecDepth 100000
set_option linter.all false
namespace Go.Proofs.YtakfpngfpknedaaGreatDoor
open Go.RowKit
theorem z9e_ (s:LU) (k:Nat) (hk:k≤s.length) (h:∀ j (hj:j<s.length),j<k→s[j]≠32) (he:∀ hl:k<s.length,s[k]=32):Cfg.nameS s=s.take k∧Cfg.argS s=s.drop (k+1):=by
 have e:s=s.take k++s.drop k:=(List.take_append_drop k s).symm
 have hall:∀ x∈s.take k,(x !=32)=true:=fun x hx=>by
  obtain⟨j,hj,rfl⟩:=List.getElem_of_mem hx
  rw[List.getElem_take]
  rw[List.length_take] at hj
  exact bne_iff_ne.2 (h j (by omega) (by omega))
 have hd:(s.drop k).takeWhile (· !=32)=[]∧(s.drop k).dropWhile (· !=32)=s.drop k:=by
  by_cases hl:k<s.length
  ·rw[List.drop_eq_getElem_cons hl,he hl]
   exact⟨rfl,rfl⟩
  ·rw[List.drop_eq_nil_of_le (by omega)]
   exact⟨rfl,rfl⟩
 unfold Cfg.nameS Cfg.argS
 constructor
 ·conv=>lhs;rw[e]
  rw[List.takeWhile_append_of_pos hall,hd.1,List.append_nil]
 ·conv=>lhs;rw[e]
  rw[List.dropWhile_append_of_pos hall,hd.2,List.drop_drop]
theorem q6_ {W:World} {tmps:Array Value} {b:Nat} {z0 z1 z2 z3:Value} {ty:LU} {fe fp fs r:Bool} (h:Bk W b 63 #[z0,z1,z2,z3]) (h2:tmps[2]?=some (.pointer (some ⟨b,0,none⟩))) (h3:tmps[3]?=some (.bool r)) {Q:Ending→World→Prop}
  (hQ:Q (.returned (.tuple #[.agg #[.string ⟨ty.toArray⟩,.bool fe,.bool fp,.bool fs],.bool r])) ((((W.setCell ⟨b,0,none⟩ (.string ⟨ty.toArray⟩)).setCell ⟨b,1,none⟩ (.bool fe)).setCell ⟨b,2,none⟩ (.bool fp)).setCell ⟨b,3,none⟩ (.bool fs))):
  bodyPost Tryz.prog Tryz.f94 Q .ret {tmps:=tmps,defers:=[]} ((((W.setCell ⟨b,0,none⟩ (.string ⟨ty.toArray⟩)).setCell ⟨b,1,none⟩ (.bool fe)).setCell ⟨b,2,none⟩ (.bool fp)).setCell ⟨b,3,none⟩ (.bool fs)):=by
 have hz:=(((h.set 0 (.string ⟨ty.toArray⟩)).set 1 (.bool fe)).set 2 (.bool fp)).set 3 (.bool fs)
 have e6:tmps[2]?.getD undef= .pointer (some ⟨b,0,none⟩):=by rw[h2];rfl
 have e7:tmps[3]?.getD undef= .bool r:=by rw[h3];rfl
 generalize ((((W.setCell ⟨b,0,none⟩ (.string ⟨ty.toArray⟩)).setCell ⟨b,1,none⟩ (.bool fe)).setCell ⟨b,2,none⟩ (.bool fp)).setCell ⟨b,3,none⟩ (.bool fs))=W2 at *
 have c0:=hz.cell 0
 have c1:=hz.cell 1
 have c2:=hz.cell 2
 have c3:=hz.cell 3
 simp at c0 c1 c2 c3
 refine bodyPost_ret (v:= .tuple #[.agg #[.string ⟨ty.toArray⟩,.bool fe,.bool fp,.bool fs],.bool r]) ?_ rfl hQ
 simp [results,Tryz.results94,go_sem,e6,e7,c0,c1,c2,c3]
def IxR (s:LU) (w:World) (e:Ending) (w':World):Prop:=Bel w w'∧∃ (x:Cfg.IndexE) (ok:Bool),e= .returned (.tuple #[.agg #[.string ⟨x.typ.toArray⟩,.bool x.eq,.bool x.pres,.bool x.sub],.bool ok])∧(ok=true→Cfg.indexX s=some x)∧(ok=false→Cfg.indexX s=none)
theorem zjz_ (s:LU) (w:World) (hs:s.length≤3000000):Calls Tryz.prog 94 #[.string ⟨s.toArray⟩] w (IxR s w):=by
 have hget:=qb_
 have hext:=z0x_
 have HTy:Hid (∀ (l:LU) (W:World),l.length≤3000000→Calls Tryz.prog 95 #[.string ⟨l.toArray⟩] W fun e w'=>e= .returned (.bool (zc_ l))∧W=w'):=hiD fun l W h=>z4w_ l W (by omega)
 have k1:=Bk.new w 63 #[.string ⟨#[]⟩,.bool false,.bool false,.bool false]
 have b1:=zs_ w (.cells #[.string ⟨#[]⟩,.bool false,.bool false,.bool false] 63)
 go_enter Tryz.func94,Tryz.ntmps94
 go_upto_region 1 with fail
 generalize w.alloc (.cells #[.string ⟨#[]⟩,.bool false,.bool false,.bool false] 63)=w1 at *
 go_wp2_with fail
 go_loop [4] (fun i=>∃ k:Nat,k≤s.length∧i= .int .i64 k∧Aside (∀ j (hj:j<s.length),j<k→s[j]≠32)) (fun i=>s.length - (intOf i).toNat)
 case atStart=>exact⟨0,Nat.zero_le _,rfl,fun j hj h=>absurd h (by omega)⟩
 case round=>
  obtain⟨k,hk,rfl,AB⟩:=hrel
  by_cases hgo:∃ hlt:k<s.length,s[k]≠32
  case pos=>
   obtain⟨hlt,hne⟩:=hgo
   have hki:(k:Int)<(s.length:Int):=by omega
   have q32:((s[k].toNat:Int) !=32)=true:=by rw[bne_iff_ne];intro e;exact hne (UInt8.toNat_inj.1 (by have:(32:UInt8).toNat=32:=rfl;omega))
   have AB2:Aside (∀ j (hj:j<s.length),j<k+1→s[j]≠32):=fun j hj h=>by
    by_cases hjk:j=k
    ·subst hjk;exact hne
    ·exact AB.out j hj (by omega)
   clear AB hne
   go_wp2_with fail
   go_round
   case rel=>exact⟨k+1,by omega,by go_num,AB2.out⟩
   case measure=>simp [intOf];omega
  case neg=>
   have he:∀ hl:k<s.length,s[k]=32:=fun hl=>by
    by_cases hb:s[k]=32
    ·exact hb
    ·exact absurd ⟨hl,hb⟩ hgo
   obtain⟨hn,ha⟩:=z9e_ s k hk AB.out he
   have hsub:sub s 0 k=Cfg.nameS s:=by rw[hn];simp [sub]
   have hsub2:sub s (k+1) s.length=Cfg.argS s:=by rw[ha];unfold sub;exact List.take_of_length_le (by rw[List.length_drop];exact nR _)
   have hnl:=Cfg.nameS_len s
   have hne0:Cfg.nameS s=s↔k=s.length:=by
    rw[hn]
    constructor
    ·intro e
     have:=congrArg List.length e
     rw[List.length_take] at this
     omega
    ·rintro rfl;exact List.take_length
   have hX:Cfg.indexX s=if zc_ (Cfg.nameS s)=false∨k=s.length then none else (Cfg.sevenOf (Cfg.argS s)).map fun q=>⟨Cfg.nameS s,q.1,q.2.1,q.2.2⟩:=by
    unfold Cfg.indexX
    simp only[hne0]
   have HX:=hiD hX
   have hTy:=HTy.out (Cfg.nameS s) 
   have HTn:Hid (∀ W:World,Calls Tryz.prog 95 #[.string ⟨(Cfg.nameS s).toArray⟩] W fun e w'=>e= .returned (.bool (zc_ (Cfg.nameS s)))∧W=w'):=hiD fun W=>hTy W (by omega)
   have HE:=hiD he
   clear he hn ha hne0 hX hTy AB hgo HTy
   generalize Cfg.nameS s=nm at *
   generalize Cfg.argS s=ar at *
   by_cases hk2:k<s.length
   case neg=>
    have hki:¬ (k:Int)<(s.length:Int):=by omega
    have hkeq:k=s.length:=by omega
    have hkE:((k:Int)==(s.length:Int))=true:=beq_iff_eq.2 (by omega)
    have HKE:=hiD hkeq
    clear hkeq
    have k2:=Bk.new w1 63 #[.string ⟨nm.toArray⟩,.bool false,.bool false,.bool false]
    have b2:=b1.alloc b1.size (.cells #[.string ⟨nm.toArray⟩,.bool false,.bool false,.bool false] 63)
    have kz:=k1.alloc (.cells #[.string ⟨nm.toArray⟩,.bool false,.bool false,.bool false] 63)
    have hlt1:w.heap.size<w1.heap.size:=k1.lt
    go_upto_region 5 with fail
    generalize w1.alloc (.cells #[.string ⟨nm.toArray⟩,.bool false,.bool false,.bool false] 63)=w2 at *
    generalize w1.heap.size=bx at *
    have f20:=k2.frozen 0
    have f21:=k2.frozen 1
    have f22:=k2.frozen 2
    have f23:=k2.frozen 3
    have f10:=kz.frozen 0
    have f11:=kz.frozen 1
    have f12:=kz.frozen 2
    have f13:=kz.frozen 3
    have c20:=k2.cell 0
    have c21:=k2.cell 1
    have c22:=k2.cell 2
    have c23:=k2.cell 3
    have c10:=kz.cell 0
    have c11:=kz.cell 1
    have c12:=kz.cell 2
    have c13:=kz.cell 3
    simp only[gs3] at c20 c21 c22 c23 c10 c11 c12 c13
    have hbne2:¬ bx=w.heap.size:=by omega
    have hbne3:¬ w.heap.size=bx:=by omega
    have HNE:Hid (bx≠w.heap.size):=hiD hbne2
    have HLE:Hid (w.heap.size≤bx):=hiD (by omega)
    have HKZ:=hiD kz
    have HB2:=hiD b2
    clear k1 k2 kz b1 b2 hlt1
    cases hty:zc_ nm
    case false=>
     rw[hty] at HTn HX
     have hnone:Hid (Cfg.indexX s=none):=hiD (by rw[HX.out];exact if_pos (.inl rfl))
     go_wp2_with (go_at_call 95;(with_reducible refine(HTn.out _).mono ?_);rintro e w5 ⟨rfl,rfl⟩)
     exact q6_ HKZ.out rfl rfl ⟨((((HB2.out.setCell (p:=⟨w.heap.size,0,none⟩) (nR _) _).setCell (p:=⟨w.heap.size,1,none⟩) (nR _) _).setCell (p:=⟨w.heap.size,2,none⟩) (nR _) _).setCell (p:=⟨w.heap.size,3,none⟩) (nR _) _),⟨nm,false,false,false⟩,false,rfl,(fun h=>(by cases h)),fun _=>hnone.out⟩
    case true=>
     rw[hty] at HTn HX
     have hnone:Hid (Cfg.indexX s=none):=hiD (by rw[HX.out];exact if_pos (.inr HKE.out))
     go_wp2_with (go_at_call 95;(with_reducible refine(HTn.out _).mono ?_);rintro e w5 ⟨rfl,rfl⟩)
     exact q6_ HKZ.out rfl rfl ⟨((((HB2.out.setCell (p:=⟨w.heap.size,0,none⟩) (nR _) _).setCell (p:=⟨w.heap.size,1,none⟩) (nR _) _).setCell (p:=⟨w.heap.size,2,none⟩) (nR _) _).setCell (p:=⟨w.heap.size,3,none⟩) (nR _) _),⟨nm,false,false,false⟩,false,rfl,(fun h=>(by cases h)),fun _=>hnone.out⟩
   case pos=>
    have hki:(k:Int)<(s.length:Int):=by omega
    have hkne:k≠s.length:=by omega
    have hkE:((k:Int)==(s.length:Int))=false:=beq_eq_false_iff_ne.2 (by omega)
    have q32:((s[k].toNat:Int) !=32)=false:=by rw[HE.out hk2];rfl
    have hki2:(k:Int)+1≤(s.length:Int):=by omega
    have k2:=Bk.new w1 63 #[.string ⟨nm.toArray⟩,.bool false,.bool false,.bool false]
    have b2:=b1.alloc b1.size (.cells #[.string ⟨nm.toArray⟩,.bool false,.bool false,.bool false] 63)
    have kz:=k1.alloc (.cells #[.string ⟨nm.toArray⟩,.bool false,.bool false,.bool false] 63)
    have hlt1:w.heap.size<w1.heap.size:=k1.lt
    go_upto_region 5 with fail
    generalize w1.alloc (.cells #[.string ⟨nm.toArray⟩,.bool false,.bool false,.bool false] 63)=w2 at *
    generalize w1.heap.size=bx at *
    have f20:=k2.frozen 0
    have f21:=k2.frozen 1
    have f22:=k2.frozen 2
    have f23:=k2.frozen 3
    have f10:=kz.frozen 0
    have f11:=kz.frozen 1
    have f12:=kz.frozen 2
    have f13:=kz.frozen 3
    have c20:=k2.cell 0
    have c21:=k2.cell 1
    have c22:=k2.cell 2
    have c23:=k2.cell 3
    have c10:=kz.cell 0
    have c11:=kz.cell 1
    have c12:=kz.cell 2
    have c13:=kz.cell 3
    simp only[gs3] at c20 c21 c22 c23 c10 c11 c12 c13
    have hbne2:¬ bx=w.heap.size:=by omega
    have hbne3:¬ w.heap.size=bx:=by omega
    have HNE:Hid (bx≠w.heap.size):=hiD hbne2
    have HLE:Hid (w.heap.size≤bx):=hiD (by omega)
    have HKZ:=hiD kz
    have HB2:=hiD b2
    clear k1 k2 kz b1 b2 hlt1
    cases hty:zc_ nm
    case false=>
     rw[hty] at HTn HX
     have hnone:Hid (Cfg.indexX s=none):=hiD (by rw[HX.out];exact if_pos (.inl rfl))
     go_wp2_with (go_at_call 95;(with_reducible refine(HTn.out _).mono ?_);rintro e w5 ⟨rfl,rfl⟩)
     exact q6_ HKZ.out rfl rfl ⟨((((HB2.out.setCell (p:=⟨w.heap.size,0,none⟩) (nR _) _).setCell (p:=⟨w.heap.size,1,none⟩) (nR _) _).setCell (p:=⟨w.heap.size,2,none⟩) (nR _) _).setCell (p:=⟨w.heap.size,3,none⟩) (nR _) _),⟨nm,false,false,false⟩,false,rfl,(fun h=>(by cases h)),fun _=>hnone.out⟩
    case true=>
     rw[hty] at HTn HX
     by_cases a0:ar=[101,113]
     case pos=>
      subst a0
      have hsome:Hid (Cfg.indexX s=some ⟨nm,true,false,false⟩):=hiD (by rw[HX.out,if_neg (fun h=>h.elim (fun e=>(by cases e)) hkne)];rfl)
      go_wp2_with (go_at_call 95;(with_reducible refine(HTn.out _).mono ?_);rintro e w5 ⟨rfl,rfl⟩)
      exact q6_ (HKZ.out.far HNE.out.symm _) rfl rfl ⟨(((((HB2.out.setCell (p:=⟨bx,1,none⟩) HLE.out _).setCell (p:=⟨w.heap.size,0,none⟩) (nR _) _).setCell (p:=⟨w.heap.size,1,none⟩) (nR _) _).setCell (p:=⟨w.heap.size,2,none⟩) (nR _) _).setCell (p:=⟨w.heap.size,3,none⟩) (nR _) _),⟨nm,true,false,false⟩,true,rfl,(fun _=>hsome.out),(fun h=>(by cases h))⟩
     case neg=>
     have q0:=beq_eq_false_iff_ne.2 a0
     by_cases a1:ar=[112,114,101,115]
     case pos=>
      subst a1
      have hsome:Hid (Cfg.indexX s=some ⟨nm,false,true,false⟩):=hiD (by rw[HX.out,if_neg (fun h=>h.elim (fun e=>(by cases e)) hkne)];rfl)
      go_wp2_with (go_at_call 95;(with_reducible refine(HTn.out _).mono ?_);rintro e w5 ⟨rfl,rfl⟩)
      exact q6_ (HKZ.out.far HNE.out.symm _) rfl rfl ⟨(((((HB2.out.setCell (p:=⟨bx,2,none⟩) HLE.out _).setCell (p:=⟨w.heap.size,0,none⟩) (nR _) _).setCell (p:=⟨w.heap.size,1,none⟩) (nR _) _).setCell (p:=⟨w.heap.size,2,none⟩) (nR _) _).setCell (p:=⟨w.heap.size,3,none⟩) (nR _) _),⟨nm,false,true,false⟩,true,rfl,(fun _=>hsome.out),(fun h=>(by cases h))⟩
     case neg=>
     have q1:=beq_eq_false_iff_ne.2 a1
     by_cases a2:ar=[115,117,98]
     case pos=>
      subst a2
      have hsome:Hid (Cfg.indexX s=some ⟨nm,false,false,true⟩):=hiD (by rw[HX.out,if_neg (fun h=>h.elim (fun e=>(by cases e)) hkne)];rfl)
      go_wp2_with (go_at_call 95;(with_reducible refine(HTn.out _).mono ?_);rintro e w5 ⟨rfl,rfl⟩)
      exact q6_ (HKZ.out.far HNE.out.symm _) rfl rfl ⟨(((((HB2.out.setCell (p:=⟨bx,3,none⟩) HLE.out _).setCell (p:=⟨w.heap.size,0,none⟩) (nR _) _).setCell (p:=⟨w.heap.size,1,none⟩) (nR _) _).setCell (p:=⟨w.heap.size,2,none⟩) (nR _) _).setCell (p:=⟨w.heap.size,3,none⟩) (nR _) _),⟨nm,false,false,true⟩,true,rfl,(fun _=>hsome.out),(fun h=>(by cases h))⟩
     case neg=>
     have q2:=beq_eq_false_iff_ne.2 a2
     by_cases a3:ar=[101,113,44,112,114,101,115]
     case pos=>
      subst a3
      have hsome:Hid (Cfg.indexX s=some ⟨nm,true,true,false⟩):=hiD (by rw[HX.out,if_neg (fun h=>h.elim (fun e=>(by cases e)) hkne)];rfl)
      go_wp2_with (go_at_call 95;(with_reducible refine(HTn.out _).mono ?_);rintro e w5 ⟨rfl,rfl⟩)
      exact q6_ ((HKZ.out.far HNE.out.symm _).far HNE.out.symm _) rfl rfl ⟨((((((HB2.out.setCell (p:=⟨bx,1,none⟩) HLE.out _).setCell (p:=⟨bx,2,none⟩) HLE.out _).setCell (p:=⟨w.heap.size,0,none⟩) (nR _) _).setCell (p:=⟨w.heap.size,1,none⟩) (nR _) _).setCell (p:=⟨w.heap.size,2,none⟩) (nR _) _).setCell (p:=⟨w.heap.size,3,none⟩) (nR _) _),⟨nm,true,true,false⟩,true,rfl,(fun _=>hsome.out),(fun h=>(by cases h))⟩
     case neg=>
     have q3:=beq_eq_false_iff_ne.2 a3
     by_cases a4:ar=[101,113,44,115,117,98]
     case pos=>
      subst a4
      have hsome:Hid (Cfg.indexX s=some ⟨nm,true,false,true⟩):=hiD (by rw[HX.out,if_neg (fun h=>h.elim (fun e=>(by cases e)) hkne)];rfl)
      go_wp2_with (go_at_call 95;(with_reducible refine(HTn.out _).mono ?_);rintro e w5 ⟨rfl,rfl⟩)
      exact q6_ ((HKZ.out.far HNE.out.symm _).far HNE.out.symm _) rfl rfl ⟨((((((HB2.out.setCell (p:=⟨bx,1,none⟩) HLE.out _).setCell (p:=⟨bx,3,none⟩) HLE.out _).setCell (p:=⟨w.heap.size,0,none⟩) (nR _) _).setCell (p:=⟨w.heap.size,1,none⟩) (nR _) _).setCell (p:=⟨w.heap.size,2,none⟩) (nR _) _).setCell (p:=⟨w.heap.size,3,none⟩) (nR _) _),⟨nm,true,false,true⟩,true,rfl,(fun _=>hsome.out),(fun h=>(by cases h))⟩
     case neg=>
     have q4:=beq_eq_false_iff_ne.2 a4
     by_cases a5:ar=[112,114,101,115,44,115,117,98]
     case pos=>
      subst a5
      have hsome:Hid (Cfg.indexX s=some ⟨nm,false,true,true⟩):=hiD (by rw[HX.out,if_neg (fun h=>h.elim (fun e=>(by cases e)) hkne)];rfl)
      go_wp2_with (go_at_call 95;(with_reducible refine(HTn.out _).mono ?_);rintro e w5 ⟨rfl,rfl⟩)
      exact q6_ ((HKZ.out.far HNE.out.symm _).far HNE.out.symm _) rfl rfl ⟨((((((HB2.out.setCell (p:=⟨bx,2,none⟩) HLE.out _).setCell (p:=⟨bx,3,none⟩) HLE.out _).setCell (p:=⟨w.heap.size,0,none⟩) (nR _) _).setCell (p:=⟨w.heap.size,1,none⟩) (nR _) _).setCell (p:=⟨w.heap.size,2,none⟩) (nR _) _).setCell (p:=⟨w.heap.size,3,none⟩) (nR _) _),⟨nm,false,true,true⟩,true,rfl,(fun _=>hsome.out),(fun h=>(by cases h))⟩
     case neg=>
     have q5:=beq_eq_false_iff_ne.2 a5
     by_cases a6:ar=[101,113,44,112,114,101,115,44,115,117,98]
     case pos=>
      subst a6
      have hsome:Hid (Cfg.indexX s=some ⟨nm,true,true,true⟩):=hiD (by rw[HX.out,if_neg (fun h=>h.elim (fun e=>(by cases e)) hkne)];rfl)
      go_wp2_with (go_at_call 95;(with_reducible refine(HTn.out _).mono ?_);rintro e w5 ⟨rfl,rfl⟩)
      exact q6_ (((HKZ.out.far HNE.out.symm _).far HNE.out.symm _).far HNE.out.symm _) rfl rfl ⟨(((((((HB2.out.setCell (p:=⟨bx,1,none⟩) HLE.out _).setCell (p:=⟨bx,2,none⟩) HLE.out _).setCell (p:=⟨bx,3,none⟩) HLE.out _).setCell (p:=⟨w.heap.size,0,none⟩) (nR _) _).setCell (p:=⟨w.heap.size,1,none⟩) (nR _) _).setCell (p:=⟨w.heap.size,2,none⟩) (nR _) _).setCell (p:=⟨w.heap.size,3,none⟩) (nR _) _),⟨nm,true,true,true⟩,true,rfl,(fun _=>hsome.out),(fun h=>(by cases h))⟩
     case neg=>
     have q6:=beq_eq_false_iff_ne.2 a6
     have hsv:Cfg.sevenOf ar=none:=by
      unfold Cfg.sevenOf
      rw[Option.map_eq_none_iff,List.find?_eq_none]
      intro y hy hc
      have hc2:y.1=ar:=by simpa using hc
      simp only[Cfg.seven,List.mem_cons,List.not_mem_nil,or_false] at hy
      rcases hy with rfl|rfl|rfl|rfl|rfl|rfl|rfl
      ·exact a0 hc2.symm
      ·exact a1 hc2.symm
      ·exact a2 hc2.symm
      ·exact a3 hc2.symm
      ·exact a4 hc2.symm
      ·exact a5 hc2.symm
      ·exact a6 hc2.symm
     have hnone:Hid (Cfg.indexX s=none):=hiD (by rw[HX.out];rw[if_neg (fun h=>h.elim (fun e=>(by cases e)) hkne),hsv];rfl)
     go_wp2_with (go_at_call 95;(with_reducible refine(HTn.out _).mono ?_);rintro e w5 ⟨rfl,rfl⟩)
     exact q6_ HKZ.out rfl rfl ⟨((((HB2.out.setCell (p:=⟨w.heap.size,0,none⟩) (nR _) _).setCell (p:=⟨w.heap.size,1,none⟩) (nR _) _).setCell (p:=⟨w.heap.size,2,none⟩) (nR _) _).setCell (p:=⟨w.heap.size,3,none⟩) (nR _) _),⟨nm,false,false,false⟩,false,rfl,(fun h=>(by cases h)),fun _=>hnone.out⟩
theorem y5_ {ops:Array Oper} {rest:List Oper} {o:Oper} {a:Act} {Q:Exit→Act→World→Prop} (hgd:o.guard=none) (s x:Operand) (ho:o.op= .call {callee:= .builtin .append,args:=#[s,x],argTypes:=#[22,22]})
  {v:Value} {xs:LL} {B N:Nat} {w0:World} {c:LU} (hs:a.eval s=v) (hb:Own B w0 v xs)
  (hx:a.eval x= .slice (some ⟨N,0,none⟩) 1 1) (hN:N=w0.heap.size) (hlen:xs.length<4398046511104)
  (h:∀ v' w',Own B w' v' (xs++[c])→(w0.alloc (.cells #[.string ⟨c.toArray⟩] 9)).grownBy w' v.ownBlock→(v'.ownBlock=v.ownBlock∨v'.ownBlock=some (w0.alloc (.cells #[.string ⟨c.toArray⟩] 9)).heap.size)→wpList Tryz.prog ops Q rest (a.put o.dst v') w'):wpList Tryz.prog ops Q (o::rest) a (w0.alloc (.cells #[.string ⟨c.toArray⟩] 9)):=by
 subst hN
 obtain⟨i,h1,h2,h3,h4⟩:=xu_
 have hb':=hb.keep (World.grownBy_alloc w0 (.cells #[.string ⟨c.toArray⟩] 9) none) (fun k hk=>by cases hk)
 refine wpList_append_own_at _ hgd s x 22 ho B 9 i (.string ⟨#[]⟩) 1 16 Tryz.underlying22 h1 h2 h3 h4 rfl (by decide) v _ _ hs hb'.1 ⟨w0.heap.size,0,none⟩ 1 1 [.string ⟨c.toArray⟩] hx rfl ?_ ?_ (by unfold maxLen;omega) (by omega) hb'.2 ?_
 ·intro j u hj
  match j,hj with
  |0,hj=>simp at hj;subst hj;simp [Addr.add]
  |(j+1),hj=>simp at hj
 ·intro u hu;simp at hu;subst hu;rfl
 ·intro v' w' ho' hg _ hpl
  refine h v' w' ⟨?_,nT hb'.2 hg.size⟩ hg hpl
  simpa [qm_] using ho'
def FarW (x va vc vl vi vr vu:Value):Prop:=∀ k,x.ownBlock=some k→va.ownBlock≠some k∧vc.ownBlock≠some k∧vl.ownBlock≠some k∧vi.ownBlock≠some k∧vr.ownBlock≠some k∧vu.ownBlock≠some k
theorem FarW.nil (va vc vl vi vr vu:Value):FarW (.slice none 0 0) va vc vl vi vr vu:=fun k hk=>by simp [Value.ownBlock] at hk
def kq_ (B:Nat) (w w':World) (va vc vl vi vr vu va' vc' vl' vi' vr' vu':Value):Prop:=∀ x xs,Own B w x xs→FarW x va vc vl vi vr vu→Own B w' x xs∧FarW x va' vc' vl' vi' vr' vu'
theorem xf_ {B p:Nat} {w:World} (hp:p<B) (j:Nat) (u va vc vl vi vr vu:Value):kq_ B w (w.setCell ⟨p,j,none⟩ u) va vc vl vi vr vu va vc vl vi vr vu:=fun x xs hx hf=>⟨hx.keep (z5_ _ _ _ _) (fun k hk=>by cases hk;exact hp),hf⟩
theorem k4_ {B p:Nat} {w w1 w':World} {v v':Value} (hp:p<B) (j:Nat) (hb:Bel w w1) (hg:w1.grownBy w' v.ownBlock) (ha:v'.ownBlock=v.ownBlock∨v'.ownBlock=some w1.heap.size) (x:Value) (xs:LL) (hx:Own B w x xs) (hf:∀ k,x.ownBlock=some k→v.ownBlock≠some k):
  Own B (w'.setCell ⟨p,j,none⟩ v') x xs∧∀ k,x.ownBlock=some k→v'.ownBlock≠some k:=by
 refine⟨((hx.below hb).keep2 hg (fun k hk he=>hf k hk he)).keep (z5_ _ _ _ _) (fun k hk=>by cases hk;exact hp),fun k hk he=>?_⟩
 rcases ha with ha|ha
 ·exact hf k hk (ha ▸ he)
 ·rw[ha] at he
  cases he
  have:=(hx.lt _ hk).2
  have:=hb.size
  omega
def SetR (B p:Nat) (w:World) (c:Cfg.ConfE) (va vc vl vi vr vu:Value) (n a:LU) (e:Ending) (w':World):Prop:=OutB B p w w'∧∃ ok:Bool,e= .returned (.bool ok)∧(ok=true→∃ k,Cfg.kindOf n=some k∧(Cfg.takeK k a c).2=true∧∃ va' vc' vl' vi' vr' vu',ConfB B p w' (Cfg.takeK k a c).1 va' vc' vl' vi' vr' vu'∧kq_ B w w' va vc vl vi vr vu va' vc' vl' vi' vr' vu')∧
 (ok=false→∀ k,Cfg.kindOf n=some k→(Cfg.takeK k a c).2=false)
section
variable {B p:Nat} {w w':World} {c:Cfg.ConfE} {va vc vl vi vr vu:Value} {n a:LU}
theorem SetR.of {ok:Bool} (k:Cfg.Kind) (hk:Cfg.kindOf n=some k) (ho:OutB B p w w') (h1:(Cfg.takeK k a c).2=ok) (h2:ok=true→∃ va' vc' vl' vi' vr' vu',ConfB B p w' (Cfg.takeK k a c).1 va' vc' vl' vi' vr' vu'∧kq_ B w w' va vc vl vi vr vu va' vc' vl' vi' vr' vu'):SetR B p w c va vc vl vi vr vu n a (.returned (.bool ok)) w':=by
 refine⟨ho,ok,rfl,fun h=>⟨k,hk,h1.trans h,h2 h⟩,fun h k' hk'=>?_⟩
 rw[hk] at hk'
 cases hk'
 exact h1.trans h
theorem zj4_ {B p:Nat} {w w1 w':World} {va vc vl vi vr vu v':Value} (hp:p<B) (hb:Bel w w1) (hg:w1.grownBy w' va.ownBlock) (ha:v'.ownBlock=va.ownBlock∨v'.ownBlock=some w1.heap.size):kq_ B w (w'.setCell ⟨p,4,none⟩ v') va vc vl vi vr vu v' vc vl vi vr vu:=fun x xs hx hf=>by
 obtain⟨q1,q2⟩:=k4_ hp 4 hb hg ha x xs hx (fun k hk=>(hf k hk).1)
 exact⟨q1,fun k hk=>⟨q2 k hk,(hf k hk).2.1,(hf k hk).2.2.1,(hf k hk).2.2.2.1,(hf k hk).2.2.2.2.1,(hf k hk).2.2.2.2.2⟩⟩
theorem zl8_ {B p:Nat} {w w1 w':World} {va vc vl vi vr vu v':Value} (hp:p<B) (hb:Bel w w1) (hg:w1.grownBy w' vc.ownBlock) (ha:v'.ownBlock=vc.ownBlock∨v'.ownBlock=some w1.heap.size):kq_ B w (w'.setCell ⟨p,5,none⟩ v') va vc vl vi vr vu va v' vl vi vr vu:=fun x xs hx hf=>by
 obtain⟨q1,q2⟩:=k4_ hp 5 hb hg ha x xs hx (fun k hk=>(hf k hk).2.1)
 exact⟨q1,fun k hk=>⟨(hf k hk).1,q2 k hk,(hf k hk).2.2.1,(hf k hk).2.2.2.1,(hf k hk).2.2.2.2.1,(hf k hk).2.2.2.2.2⟩⟩
theorem zk6_ {B p:Nat} {w w1 w':World} {va vc vl vi vr vu v':Value} (hp:p<B) (hb:Bel w w1) (hg:w1.grownBy w' vl.ownBlock) (ha:v'.ownBlock=vl.ownBlock∨v'.ownBlock=some w1.heap.size):kq_ B w (w'.setCell ⟨p,6,none⟩ v') va vc vl vi vr vu va vc v' vi vr vu:=fun x xs hx hf=>by
 obtain⟨q1,q2⟩:=k4_ hp 6 hb hg ha x xs hx (fun k hk=>(hf k hk).2.2.1)
 exact⟨q1,fun k hk=>⟨(hf k hk).1,(hf k hk).2.1,q2 k hk,(hf k hk).2.2.2.1,(hf k hk).2.2.2.2.1,(hf k hk).2.2.2.2.2⟩⟩
theorem zj6_ {B p:Nat} {w w1 w':World} {va vc vl vi vr vu v':Value} (hp:p<B) (hb:Bel w w1) (hg:w1.grownBy w' vi.ownBlock) (ha:v'.ownBlock=vi.ownBlock∨v'.ownBlock=some w1.heap.size):kq_ B w (w'.setCell ⟨p,7,none⟩ v') va vc vl vi vr vu va vc vl v' vr vu:=fun x xs hx hf=>by
 obtain⟨q1,q2⟩:=k4_ hp 7 hb hg ha x xs hx (fun k hk=>(hf k hk).2.2.2.1)
 exact⟨q1,fun k hk=>⟨(hf k hk).1,(hf k hk).2.1,(hf k hk).2.2.1,q2 k hk,(hf k hk).2.2.2.2.1,(hf k hk).2.2.2.2.2⟩⟩
theorem zgq_ {B p:Nat} {w w1 w':World} {va vc vl vi vr vu v':Value} (hp:p<B) (hb:Bel w w1) (hg:w1.grownBy w' vr.ownBlock) (ha:v'.ownBlock=vr.ownBlock∨v'.ownBlock=some w1.heap.size):kq_ B w (w'.setCell ⟨p,10,none⟩ v') va vc vl vi vr vu va vc vl vi v' vu:=fun x xs hx hf=>by
 obtain⟨q1,q2⟩:=k4_ hp 10 hb hg ha x xs hx (fun k hk=>(hf k hk).2.2.2.2.1)
 exact⟨q1,fun k hk=>⟨(hf k hk).1,(hf k hk).2.1,(hf k hk).2.2.1,(hf k hk).2.2.2.1,q2 k hk,(hf k hk).2.2.2.2.2⟩⟩
theorem zhq_ {B p:Nat} {w w1 w':World} {va vc vl vi vr vu v':Value} (hp:p<B) (hb:Bel w w1) (hg:w1.grownBy w' vu.ownBlock) (ha:v'.ownBlock=vu.ownBlock∨v'.ownBlock=some w1.heap.size):kq_ B w (w'.setCell ⟨p,11,none⟩ v') va vc vl vi vr vu va vc vl vi vr v':=fun x xs hx hf=>by
 obtain⟨q1,q2⟩:=k4_ hp 11 hb hg ha x xs hx (fun k hk=>(hf k hk).2.2.2.2.2)
 exact⟨q1,fun k hk=>⟨(hf k hk).1,(hf k hk).2.1,(hf k hk).2.2.1,(hf k hk).2.2.2.1,(hf k hk).2.2.2.2.1,q2 k hk⟩⟩
theorem zf9_ {B p:Nat} {w w':World} {c:Cfg.ConfE} {a:LU} {va vc vl vi vr vu v':Value} (h:ConfB B p w c va vc vl vi vr vu) (hO':Own B w' v' (c.attrs++[a])) (hg':(w.alloc (.cells #[.string ⟨a.toArray⟩] 9)).grownBy w' va.ownBlock) (ha':v'.ownBlock=va.ownBlock∨v'.ownBlock=some (w.alloc (.cells #[.string ⟨a.toArray⟩] 9)).heap.size):
  OutB B p w (w'.setCell ⟨p,4,none⟩ v')∧ConfB B p (w'.setCell ⟨p,4,none⟩ v') {c with attrs:=c.attrs++[a]} v' vc vl vi vr vu∧kq_ B w (w'.setCell ⟨p,4,none⟩ v') va vc vl vi vr vu v' vc vl vi vr vu∧w'.frozen? ⟨p,4,none⟩=false∧w'.cell? ⟨p,4,none⟩=some va:=by
 have b1:=zs_ w (.cells #[.string ⟨a.toArray⟩] 9)
 have hBs:=h.idx.2
 have hpB:=h.lt
 have hO:=h.rows.at_ 0 (by simp [zi_])
 simp only[zi_,List.getElem_cons_zero,List.getElem_cons_succ] at hO
 have hrow:=hO.lt
 have h1:=h.below b1
 have hbk:=h1.bk.grown hg' (fun e=>by have:=(hrow p e.symm).1;omega)
 refine⟨((OutB.of_below (p:=p) b1 hBs).trans (OutB.of_grown (p:=p) hg' (fun k hk=>(hrow k hk).1) (fun k hk=>?_) (nT hBs b1.size))).trans (OutB.set hbk _ _),h1.grow _ 0 4 (by simp [zi_]) hO' hg' ha' (by simp [za_]) (by simp [zi_]) rfl,zj4_ hpB b1 hg' ha',hbk.frozen 4,hbk.cell 4⟩
 obtain⟨cs,hc⟩:=(hO.below b1).ty hk
 exact⟨_,cs,hc,by decide⟩
theorem z8p_ {B p:Nat} {w w':World} {c:Cfg.ConfE} {a:LU} {va vc vl vi vr vu v':Value} (h:ConfB B p w c va vc vl vi vr vu) (hO':Own B w' v' (c.classes++[a])) (hg':(w.alloc (.cells #[.string ⟨a.toArray⟩] 9)).grownBy w' vc.ownBlock) (ha':v'.ownBlock=vc.ownBlock∨v'.ownBlock=some (w.alloc (.cells #[.string ⟨a.toArray⟩] 9)).heap.size):
  OutB B p w (w'.setCell ⟨p,5,none⟩ v')∧ConfB B p (w'.setCell ⟨p,5,none⟩ v') {c with classes:=c.classes++[a]} va v' vl vi vr vu∧kq_ B w (w'.setCell ⟨p,5,none⟩ v') va vc vl vi vr vu va v' vl vi vr vu∧w'.frozen? ⟨p,5,none⟩=false∧w'.cell? ⟨p,5,none⟩=some vc:=by
 have b1:=zs_ w (.cells #[.string ⟨a.toArray⟩] 9)
 have hBs:=h.idx.2
 have hpB:=h.lt
 have hO:=h.rows.at_ 1 (by simp [zi_])
 simp only[zi_,List.getElem_cons_zero,List.getElem_cons_succ] at hO
 have hrow:=hO.lt
 have h1:=h.below b1
 have hbk:=h1.bk.grown hg' (fun e=>by have:=(hrow p e.symm).1;omega)
 refine⟨((OutB.of_below (p:=p) b1 hBs).trans (OutB.of_grown (p:=p) hg' (fun k hk=>(hrow k hk).1) (fun k hk=>?_) (nT hBs b1.size))).trans (OutB.set hbk _ _),h1.grow _ 1 5 (by simp [zi_]) hO' hg' ha' (by simp [za_]) (by simp [zi_]) rfl,zl8_ hpB b1 hg' ha',hbk.frozen 5,hbk.cell 5⟩
 obtain⟨cs,hc⟩:=(hO.below b1).ty hk
 exact⟨_,cs,hc,by decide⟩
theorem zgk_ {B p:Nat} {w w':World} {c:Cfg.ConfE} {a:LU} {va vc vl vi vr vu v':Value} (h:ConfB B p w c va vc vl vi vr vu) (hO':Own B w' v' (c.acls++[a])) (hg':(w.alloc (.cells #[.string ⟨a.toArray⟩] 9)).grownBy w' vl.ownBlock) (ha':v'.ownBlock=vl.ownBlock∨v'.ownBlock=some (w.alloc (.cells #[.string ⟨a.toArray⟩] 9)).heap.size):
  OutB B p w (w'.setCell ⟨p,6,none⟩ v')∧ConfB B p (w'.setCell ⟨p,6,none⟩ v') {c with acls:=c.acls++[a]} va vc v' vi vr vu∧kq_ B w (w'.setCell ⟨p,6,none⟩ v') va vc vl vi vr vu va vc v' vi vr vu∧w'.frozen? ⟨p,6,none⟩=false∧w'.cell? ⟨p,6,none⟩=some vl:=by
 have b1:=zs_ w (.cells #[.string ⟨a.toArray⟩] 9)
 have hBs:=h.idx.2
 have hpB:=h.lt
 have hO:=h.rows.at_ 2 (by simp [zi_])
 simp only[zi_,List.getElem_cons_zero,List.getElem_cons_succ] at hO
 have hrow:=hO.lt
 have h1:=h.below b1
 have hbk:=h1.bk.grown hg' (fun e=>by have:=(hrow p e.symm).1;omega)
 refine⟨((OutB.of_below (p:=p) b1 hBs).trans (OutB.of_grown (p:=p) hg' (fun k hk=>(hrow k hk).1) (fun k hk=>?_) (nT hBs b1.size))).trans (OutB.set hbk _ _),h1.grow _ 2 6 (by simp [zi_]) hO' hg' ha' (by simp [za_]) (by simp [zi_]) rfl,zk6_ hpB b1 hg' ha',hbk.frozen 6,hbk.cell 6⟩
 obtain⟨cs,hc⟩:=(hO.below b1).ty hk
 exact⟨_,cs,hc,by decide⟩
theorem zgu_ {B p:Nat} {w w':World} {c:Cfg.ConfE} {a:LU} {va vc vl vi vr vu v':Value} (h:ConfB B p w c va vc vl vi vr vu) (hO':Own B w' v' (c.refs++[a])) (hg':(w.alloc (.cells #[.string ⟨a.toArray⟩] 9)).grownBy w' vr.ownBlock) (ha':v'.ownBlock=vr.ownBlock∨v'.ownBlock=some (w.alloc (.cells #[.string ⟨a.toArray⟩] 9)).heap.size):
  OutB B p w (w'.setCell ⟨p,10,none⟩ v')∧ConfB B p (w'.setCell ⟨p,10,none⟩ v') {c with refs:=c.refs++[a]} va vc vl vi v' vu∧kq_ B w (w'.setCell ⟨p,10,none⟩ v') va vc vl vi vr vu va vc vl vi v' vu∧w'.frozen? ⟨p,10,none⟩=false∧w'.cell? ⟨p,10,none⟩=some vr:=by
 have b1:=zs_ w (.cells #[.string ⟨a.toArray⟩] 9)
 have hBs:=h.idx.2
 have hpB:=h.lt
 have hO:=h.rows.at_ 3 (by simp [zi_])
 simp only[zi_,List.getElem_cons_zero,List.getElem_cons_succ] at hO
 have hrow:=hO.lt
 have h1:=h.below b1
 have hbk:=h1.bk.grown hg' (fun e=>by have:=(hrow p e.symm).1;omega)
 refine⟨((OutB.of_below (p:=p) b1 hBs).trans (OutB.of_grown (p:=p) hg' (fun k hk=>(hrow k hk).1) (fun k hk=>?_) (nT hBs b1.size))).trans (OutB.set hbk _ _),h1.grow _ 3 10 (by simp [zi_]) hO' hg' ha' (by simp [za_]) (by simp [zi_]) rfl,zgq_ hpB b1 hg' ha',hbk.frozen 10,hbk.cell 10⟩
 obtain⟨cs,hc⟩:=(hO.below b1).ty hk
 exact⟨_,cs,hc,by decide⟩
theorem zav_ {B p:Nat} {w w':World} {c:Cfg.ConfE} {a:LU} {va vc vl vi vr vu v':Value} (h:ConfB B p w c va vc vl vi vr vu) (hO':Own B w' v' (c.unique++[a])) (hg':(w.alloc (.cells #[.string ⟨a.toArray⟩] 9)).grownBy w' vu.ownBlock) (ha':v'.ownBlock=vu.ownBlock∨v'.ownBlock=some (w.alloc (.cells #[.string ⟨a.toArray⟩] 9)).heap.size):
  OutB B p w (w'.setCell ⟨p,11,none⟩ v')∧ConfB B p (w'.setCell ⟨p,11,none⟩ v') {c with unique:=c.unique++[a]} va vc vl vi vr v'∧kq_ B w (w'.setCell ⟨p,11,none⟩ v') va vc vl vi vr vu va vc vl vi vr v'∧w'.frozen? ⟨p,11,none⟩=false∧w'.cell? ⟨p,11,none⟩=some vu:=by
 have b1:=zs_ w (.cells #[.string ⟨a.toArray⟩] 9)
 have hBs:=h.idx.2
 have hpB:=h.lt
 have hO:=h.rows.at_ 4 (by simp [zi_])
 simp only[zi_,List.getElem_cons_zero,List.getElem_cons_succ] at hO
 have hrow:=hO.lt
 have h1:=h.below b1
 have hbk:=h1.bk.grown hg' (fun e=>by have:=(hrow p e.symm).1;omega)
 refine⟨((OutB.of_below (p:=p) b1 hBs).trans (OutB.of_grown (p:=p) hg' (fun k hk=>(hrow k hk).1) (fun k hk=>?_) (nT hBs b1.size))).trans (OutB.set hbk _ _),h1.grow _ 4 11 (by simp [zi_]) hO' hg' ha' (by simp [za_]) (by simp [zi_]) rfl,zhq_ hpB b1 hg' ha',hbk.frozen 11,hbk.cell 11⟩
 obtain⟨cs,hc⟩:=(hO.below b1).ty hk
 exact⟨_,cs,hc,by decide⟩
theorem set_r (n a:LU) (hw:Env w) (h:ConfB B p w c va vc vl vi vr vu) (ha:a.length≤3000000) (hn:Cfg.countE c≤1000000):
  Calls Tryz.prog 65 #[.pointer (some ⟨p,0,none⟩),.string ⟨n.toArray⟩,.string ⟨a.toArray⟩] w (SetR B p w c va vc vl vi vr vu n a):=by
 unfold Cfg.countE at hn
 by_cases n0:n=[115,117,102,102,105,120]
 case pos=>
  subst n0
  have f0:=h.bk.frozen 0
  have k0:=h.bk.cell 0
  simp only[za_,List.getElem?_toArray,List.getElem?_cons_zero,List.getElem?_cons_succ] at k0
  have HP:=hiD (OutB.set (B:=B) h.bk 0 (.string ⟨a.toArray⟩))
  have HC:=hiD (h.put {c with suffix:=a} 0 (.string ⟨a.toArray⟩) (by simp [za_]) rfl rfl)
  have hpB:=h.lt
  clear h hw
  go_enter Tryz.func65,Tryz.ntmps65
  go_wp2_with fail
  go_ret
  exact SetR.of .suffix (by decide) HP.out rfl (fun _=>⟨_,_,_,_,_,_,HC.out,xf_ hpB _ _ _ _ _ _ _ _⟩)
 case neg=>
 have q0:=beq_eq_false_iff_ne.2 n0
 by_cases n1:n=[114,111,111,116]
 case pos=>
  subst n1
  have f0:=h.bk.frozen 1
  have k0:=h.bk.cell 1
  simp only[za_,List.getElem?_toArray,List.getElem?_cons_zero,List.getElem?_cons_succ] at k0
  have HP:=hiD (OutB.set (B:=B) h.bk 1 (.string ⟨a.toArray⟩))
  have HC:=hiD (h.put {c with root:=a} 1 (.string ⟨a.toArray⟩) (by simp [za_]) rfl rfl)
  have hpB:=h.lt
  clear h hw
  go_enter Tryz.func65,Tryz.ntmps65
  go_wp2_with fail
  go_ret
  exact SetR.of .root (by decide) HP.out rfl (fun _=>⟨_,_,_,_,_,_,HC.out,xf_ hpB _ _ _ _ _ _ _ _⟩)
 case neg=>
 have q1:=beq_eq_false_iff_ne.2 n1
 by_cases n2:n=[115,101,99,114,101,116]
 case pos=>
  subst n2
  have f0:=h.bk.frozen 2
  have k0:=h.bk.cell 2
  simp only[za_,List.getElem?_toArray,List.getElem?_cons_zero,List.getElem?_cons_succ] at k0
  have HP:=hiD (OutB.set (B:=B) h.bk 2 (.string ⟨a.toArray⟩))
  have HC:=hiD (h.put {c with secret:=a} 2 (.string ⟨a.toArray⟩) (by simp [za_]) rfl rfl)
  have hpB:=h.lt
  clear h hw
  go_enter Tryz.func65,Tryz.ntmps65
  go_wp2_with fail
  go_ret
  exact SetR.of .secret (by decide) HP.out rfl (fun _=>⟨_,_,_,_,_,_,HC.out,xf_ hpB _ _ _ _ _ _ _ _⟩)
 case neg=>
 have q2:=beq_eq_false_iff_ne.2 n2
 by_cases n3:n=[115,105,122,101]
 case pos=>
  subst n3
  have f0:=h.bk.frozen 3
  have k0:=h.bk.cell 3
  simp only[za_,List.getElem?_toArray,List.getElem?_cons_zero,List.getElem?_cons_succ] at k0
  have HN:=hiD (fun W:World=>zgs_ a W (by omega))
  have HP:=hiD (fun z:Int=>OutB.set (B:=B) h.bk 3 (.int .i64 z))
  have HC:=hiD (fun z:Int=>h.put {c with size:=z} 3 (.int .i64 z) (by simp [za_]) rfl rfl)
  have hk2:=h.bk
  have hset:∀ z:Int,(w.setCell ⟨p,3,none⟩ (.int .i64 z)).cell? ⟨p,3,none⟩=some (.int .i64 z):=fun z=>by have:=(hk2.set 3 (.int .i64 z)).cell 3;simpa [za_] using this
  obtain⟨z,hz⟩:∃ z,zhb_ a=z:=⟨_,rfl⟩
  rw[hz] at HN
  have hv:(Cfg.takeK .size a c)=({c with size:=(Cfg.numS a).1},(Cfg.numS a).2):=rfl
  have hz2:(0≤z∧(Cfg.numS a).2=true∧(Cfg.numS a).1=z)∨(z<0∧(Cfg.numS a).2=false):=by
   rw[← hz]
   unfold zhb_
   by_cases hn:(Cfg.numS a).2=true
   ·have hr:=Cfg.numS_range a hn
    rw[if_pos hn]
    exact .inl ⟨hr.1,hn,rfl⟩
   ·rw[if_neg hn]
    exact .inr ⟨by decide,by simpa using hn⟩
  have HZ:=hiD hz2
  have HV:=hiD hv
  have hpB:=h.lt
  clear h hw hk2 hz hv
  rcases hz2 with ⟨h0,h1,h2⟩|⟨h0,h1⟩
  ·have h1:=hiD h1
   have h2:=hiD h2
   have hge:(0:Int)≤z:=h0
   go_enter Tryz.func65,Tryz.ntmps65
   go_wp2_with (go_at_call 93;(with_reducible refine(HN.out _).mono ?_);rintro e w5 ⟨rfl,rfl⟩)
   go_ret
   exact SetR.of .size (by decide) (HP.out _) (by rw[HV.out];exact h1.out) (fun _=>⟨_,_,_,_,_,_,by rw[HV.out,h2.out];exact HC.out z,xf_ hpB _ _ _ _ _ _ _ _⟩)
  ·have h1:=hiD h1
   have hge:¬ (0:Int)≤z:=by omega
   go_enter Tryz.func65,Tryz.ntmps65
   go_wp2_with (go_at_call 93;(with_reducible refine(HN.out _).mono ?_);rintro e w5 ⟨rfl,rfl⟩)
   go_ret
   show SetR _ _ _ _ _ _ _ _ _ _ _ _ (.returned (.bool (decide (0≤z)))) _;rw[decide_eq_false (show ¬ (0:Int)≤z by omega)];exact SetR.of .size (by decide) (HP.out _) (by rw[HV.out];exact h1.out) (fun h=>(by cases h))
 case neg=>
 have q3:=beq_eq_false_iff_ne.2 n3
 by_cases n4:n=[97,116,116,114]
 case pos=>
  subst n4
  have hO:=h.rows.at_ 0 (by simp [zi_])
  simp only[zi_,List.getElem_cons_zero,List.getElem_cons_succ] at hO
  obtain⟨A0,c0,rfl,_⟩:=hO.isSlice
  have k0:=h.bk.cell 4
  simp only[za_,List.getElem?_toArray,List.getElem?_cons_zero,List.getElem?_cons_succ] at k0
  have k1:=(h.below (zs_ w (.cells #[.string ⟨a.toArray⟩] 9))).bk.cell 4
  simp only[za_,List.getElem?_toArray,List.getElem?_cons_zero,List.getElem?_cons_succ] at k1
  have HO:=hiD hO
  have HH:=hiD h
  have HH1:=hiD (h.below (zs_ w (.cells #[.string ⟨a.toArray⟩] 9)))
  have hBs:=h.idx.2
  have hpB:=h.lt
  have hrow:=hO.lt
  clear h hw hO
  go_enter Tryz.func65,Tryz.ntmps65
  go_wp2_with (at_builtin;refine y5_ (c:=a) rfl _ _ rfl rfl HO.out rfl rfl (by omega) ?_;intro v' w' hO' hg' ha';obtain⟨A6,c6,rfl,_⟩:=hO'.isSlice;obtain⟨q1,q2,q3,f6,g6⟩:=zf9_ HH.out hO' hg' ha';simp only[List.length_append,List.length_singleton] at q1 q2 q3;have HO7:=hiD q1;have HC7:=hiD q2;have HK7:=hiD q3;clear hO' hg' ha' q1 q2 q3)
  go_ret
  exact SetR.of .attr (by decide) HO7.out rfl (fun _=>⟨_,_,_,_,_,_,HC7.out,HK7.out⟩)
 case neg=>
 have q4:=beq_eq_false_iff_ne.2 n4
 by_cases n5:n=[99,108,97,115,115]
 case pos=>
  subst n5
  have hO:=h.rows.at_ 1 (by simp [zi_])
  simp only[zi_,List.getElem_cons_zero,List.getElem_cons_succ] at hO
  obtain⟨A0,c0,rfl,_⟩:=hO.isSlice
  have k0:=h.bk.cell 5
  simp only[za_,List.getElem?_toArray,List.getElem?_cons_zero,List.getElem?_cons_succ] at k0
  have k1:=(h.below (zs_ w (.cells #[.string ⟨a.toArray⟩] 9))).bk.cell 5
  simp only[za_,List.getElem?_toArray,List.getElem?_cons_zero,List.getElem?_cons_succ] at k1
  have HO:=hiD hO
  have HH:=hiD h
  have HH1:=hiD (h.below (zs_ w (.cells #[.string ⟨a.toArray⟩] 9)))
  have hBs:=h.idx.2
  have hpB:=h.lt
  have hrow:=hO.lt
  clear h hw hO
  go_enter Tryz.func65,Tryz.ntmps65
  go_wp2_with (at_builtin;refine y5_ (c:=a) rfl _ _ rfl rfl HO.out rfl rfl (by omega) ?_;intro v' w' hO' hg' ha';obtain⟨A6,c6,rfl,_⟩:=hO'.isSlice;obtain⟨q1,q2,q3,f6,g6⟩:=z8p_ HH.out hO' hg' ha';simp only[List.length_append,List.length_singleton] at q1 q2 q3;have HO7:=hiD q1;have HC7:=hiD q2;have HK7:=hiD q3;clear hO' hg' ha' q1 q2 q3)
  go_ret
  exact SetR.of .class (by decide) HO7.out rfl (fun _=>⟨_,_,_,_,_,_,HC7.out,HK7.out⟩)
 case neg=>
 have q5:=beq_eq_false_iff_ne.2 n5
 by_cases n6:n=[97,99,108]
 case pos=>
  subst n6
  have hO:=h.rows.at_ 2 (by simp [zi_])
  simp only[zi_,List.getElem_cons_zero,List.getElem_cons_succ] at hO
  obtain⟨A0,c0,rfl,_⟩:=hO.isSlice
  have k0:=h.bk.cell 6
  simp only[za_,List.getElem?_toArray,List.getElem?_cons_zero,List.getElem?_cons_succ] at k0
  have k1:=(h.below (zs_ w (.cells #[.string ⟨a.toArray⟩] 9))).bk.cell 6
  simp only[za_,List.getElem?_toArray,List.getElem?_cons_zero,List.getElem?_cons_succ] at k1
  have HO:=hiD hO
  have HH:=hiD h
  have HH1:=hiD (h.below (zs_ w (.cells #[.string ⟨a.toArray⟩] 9)))
  have hBs:=h.idx.2
  have hpB:=h.lt
  have hrow:=hO.lt
  clear h hw hO
  go_enter Tryz.func65,Tryz.ntmps65
  go_wp2_with (at_builtin;refine y5_ (c:=a) rfl _ _ rfl rfl HO.out rfl rfl (by omega) ?_;intro v' w' hO' hg' ha';obtain⟨A6,c6,rfl,_⟩:=hO'.isSlice;obtain⟨q1,q2,q3,f6,g6⟩:=zgk_ HH.out hO' hg' ha';simp only[List.length_append,List.length_singleton] at q1 q2 q3;have HO7:=hiD q1;have HC7:=hiD q2;have HK7:=hiD q3;clear hO' hg' ha' q1 q2 q3)
  go_ret
  exact SetR.of .acl (by decide) HO7.out rfl (fun _=>⟨_,_,_,_,_,_,HC7.out,HK7.out⟩)
 case neg=>
 have q6:=beq_eq_false_iff_ne.2 n6
 by_cases n7:n=[105,110,100,101,120]
 case pos=>
  subst n7
  have HI:=hiD (fun W:World=>zjz_ a W (by omega))
  unfold IxR at HI
  have hv:(Cfg.takeK .index a c)=({c with indexes:=c.indexes++[(Cfg.indexS a).1]},(Cfg.indexS a).2):=rfl
  have HV:=hiD hv
  have HXX:=hiD (Cfg.indexX_eq a)
  have HH:=hiD h
  obtain⟨xs,hxs⟩:∃ xs,c.indexes=xs:=⟨_,rfl⟩
  rw[hxs] at hn
  have hBs:=h.idx.2
  have hpB:=h.lt
  clear h hw hv
  go_enter Tryz.func65,Tryz.ntmps65
  go_upto_region 20 with (go_at_call 94;(with_reducible refine(HI.out _).mono ?_);rintro e w1 ⟨hb1,⟨ty,fe,fp,fs⟩,ok,rfl,hok1,hok2⟩)
  have b1:=zs_ w1 (.cells #[.string ⟨ty.toArray⟩,.bool fe,.bool fp,.bool fs] 63)
  have hx:=Bk.new w1 63 #[.string ⟨ty.toArray⟩,.bool fe,.bool fp,.bool fs]
  have HC1:=hiD ((HH.out.below hb1).below b1)
  have HB1:=hiD (tQ hb1 b1)
  have HK1:=hiD (And.intro hok1 hok2)
  clear b1 hb1 HI HH hok1 hok2
  generalize w1.alloc (.cells #[.string ⟨ty.toArray⟩,.bool fe,.bool fp,.bool fs] 63)=w2 at *
  generalize w1.heap.size=bi at *
  have x0:=hx.cell 0
  have x1:=hx.cell 1
  have x2:=hx.cell 2
  have x3:=hx.cell 3
  simp only[gs3] at x0 x1 x2 x3
  have b3:=zs_ w2 (.cells #[.string ⟨ty.toArray⟩,.bool fe,.bool fp,.bool fs] 63)
  have hy0:=Bk.new w2 63 #[.string ⟨ty.toArray⟩,.bool fe,.bool fp,.bool fs]
  have hy:∀ (j:Nat) u,(zr_ ⟨ty,fe,fp,fs⟩)[j]?=some u→(w2.alloc (.cells #[.string ⟨ty.toArray⟩,.bool fe,.bool fp,.bool fs] 63)).drew.cell? ((⟨w2.heap.size,0,none⟩:Addr).add j)=some u:=fun j u hj=>by
   have:=hy0.cell j
   rw[ko_,Nat.zero_add]
   exact this.trans (by simpa [zr_] using hj)
  have p1:w2.cell? ⟨p,7,none⟩=some vi:=HC1.out.bk.cell 7
  have p2:(w2.alloc (.cells #[.string ⟨ty.toArray⟩,.bool fe,.bool fp,.bool fs] 63)).cell? ⟨p,7,none⟩=some vi:=(HC1.out.below b3).bk.cell 7
  have HC3:=hiD ((HC1.out.below b3).below (bR _ _).drew)
  have HB3:=hiD ((tQ HB1.out b3).drew)
  have hOd:=HC3.out.idx
  rw[hxs] at hOd
  have hrow:=hOd.lt
  have hadd:=ko_
  obtain⟨Ai,ci,rfl,hci⟩:=hOd.isSlice
  clear hx hy0 b3 HC1 HB1
  go_region_law (first
   |(refine z1j_ (b:=⟨w2.heap.size,0,none⟩) (c:=1) (y:=⟨ty,fe,fp,fs⟩) (by rfl) _ _ (by rfl) (by simp [Act.eval,Act.put]) hOd (by simp [Act.eval,Act.put]) hy (by omega) ?_;intro v5 w5 hO5 hg5 ha5;obtain⟨A5,c5,rfl,_⟩:=hO5.isSlice;have HO5:=hiD (And.intro hO5 (And.intro hg5 ha5));have p5:=(HC3.out.bk.grown hg5 (fun e=>by have:=(hrow p e.symm).1;omega)).frozen 7;have q5:w5.cell? ⟨p,7,none⟩=some _:=(HC3.out.bk.grown hg5 (fun e=>by have:=(hrow p e.symm).1;omega)).cell 7;clear hO5 hg5 ha5)
   |fail)
  all_goals
   obtain⟨hO5,hg5,ha5⟩:=HO5.out
   have HG:=hiD (HC3.out.grow_idx hO5 hg5 ha5)
   have HKp:=hiD (zj6_ (va:=va) (vc:=vc) (vl:=vl) (vr:=vr) (vu:=vu) hpB HB3.out hg5 ha5)
   have hOut:=hiD (((OutB.of_below HB3.out hBs).trans (OutB.of_grown (p:=p) hg5 (fun k hk=>(hrow k hk).1) hOd.ty hOd.2)).trans (OutB.set (HC3.out.bk.grown hg5 (fun e=>by have:=(hrow p e.symm).1;omega)) 7 (.slice A5 (xs.length+1) c5)))
   simp only[List.length_append,List.length_singleton] at HG hOut HKp
   clear hO5 hg5 ha5 p5 q5 HO5
   go_wp2_with fail
   go_ret
   cases ok
   ·exact SetR.of .index (by decide) hOut.out (by rw[HV.out];exact HXX.out.2 (HK1.out.2 rfl)) (fun h=>by cases h)
   ·have hx2:=HXX.out.1 _ (HK1.out.1 rfl)
    refine SetR.of .index (by decide) hOut.out (by rw[HV.out,hx2]) (fun _=>⟨va,vc,vl,_,vr,vu,?_,HKp.out⟩)
    rw[HV.out,hx2,hxs]
    exact HG.out
 case neg=>
 have q7:=beq_eq_false_iff_ne.2 n7
 by_cases n8:n=[109,101,109,98,101,114,111,102]
 case pos=>
  subst n8
  have f0:=h.bk.frozen 8
  have k0:=h.bk.cell 8
  simp only[za_,List.getElem?_toArray,List.getElem?_cons_zero,List.getElem?_cons_succ] at k0
  have HP:=hiD (fun b:Bool=>OutB.set (B:=B) h.bk 8 (.bool b))
  have HC:=hiD (fun b:Bool=>h.put {c with memberof:=b} 8 (.bool b) (by simp [za_]) rfl rfl)
  have hpB:=h.lt
  clear h hw
  by_cases e1:a=[111,110]
  ·subst e1
   go_enter Tryz.func65,Tryz.ntmps65
   go_wp2_with fail
   go_ret
   exact SetR.of .memberof (by decide) (HP.out _) rfl (fun _=>⟨_,_,_,_,_,_,HC.out true,xf_ hpB _ _ _ _ _ _ _ _⟩)
  ·have q1:(a==[111,110])=false:=beq_eq_false_iff_ne.2 e1
   by_cases e2:a=[111,102,102]
   ·subst e2
    go_enter Tryz.func65,Tryz.ntmps65
    go_wp2_with fail
    go_ret
    exact SetR.of .memberof (by decide) (HP.out _) rfl (fun _=>⟨_,_,_,_,_,_,HC.out false,xf_ hpB _ _ _ _ _ _ _ _⟩)
   ·have q2:(a==[111,102,102])=false:=beq_eq_false_iff_ne.2 e2
    clear e1 e2
    go_enter Tryz.func65,Tryz.ntmps65
    go_wp2_with fail
    go_ret
    exact SetR.of .memberof (by decide) (HP.out _) (by simp only[Cfg.takeK,Cfg.flagS,Cfg.onB,Cfg.offB,q1,q2];rfl) (fun h=>by cases h)
 case neg=>
 have q8:=beq_eq_false_iff_ne.2 n8
 by_cases n9:n=[97,117,100,105,116]
 case pos=>
  subst n9
  have f0:=h.bk.frozen 9
  have k0:=h.bk.cell 9
  simp only[za_,List.getElem?_toArray,List.getElem?_cons_zero,List.getElem?_cons_succ] at k0
  have HP:=hiD (fun b:Bool=>OutB.set (B:=B) h.bk 9 (.bool b))
  have HC:=hiD (fun b:Bool=>h.put {c with audit:=b} 9 (.bool b) (by simp [za_]) rfl rfl)
  have hpB:=h.lt
  clear h hw
  by_cases e1:a=[111,110]
  ·subst e1
   go_enter Tryz.func65,Tryz.ntmps65
   go_wp2_with fail
   go_ret
   exact SetR.of .audit (by decide) (HP.out _) rfl (fun _=>⟨_,_,_,_,_,_,HC.out true,xf_ hpB _ _ _ _ _ _ _ _⟩)
  ·have q1:(a==[111,110])=false:=beq_eq_false_iff_ne.2 e1
   by_cases e2:a=[111,102,102]
   ·subst e2
    go_enter Tryz.func65,Tryz.ntmps65
    go_wp2_with fail
    go_ret
    exact SetR.of .audit (by decide) (HP.out _) rfl (fun _=>⟨_,_,_,_,_,_,HC.out false,xf_ hpB _ _ _ _ _ _ _ _⟩)
   ·have q2:(a==[111,102,102])=false:=beq_eq_false_iff_ne.2 e2
    clear e1 e2
    go_enter Tryz.func65,Tryz.ntmps65
    go_wp2_with fail
    go_ret
    exact SetR.of .audit (by decide) (HP.out _) (by simp only[Cfg.takeK,Cfg.flagS,Cfg.onB,Cfg.offB,q1,q2];rfl) (fun h=>by cases h)
 case neg=>
 have q9:=beq_eq_false_iff_ne.2 n9
 by_cases n10:n=[114,101,102]
 case pos=>
  subst n10
  have hO:=h.rows.at_ 3 (by simp [zi_])
  simp only[zi_,List.getElem_cons_zero,List.getElem_cons_succ] at hO
  obtain⟨A0,c0,rfl,_⟩:=hO.isSlice
  have k0:=h.bk.cell 10
  simp only[za_,List.getElem?_toArray,List.getElem?_cons_zero,List.getElem?_cons_succ] at k0
  have k1:=(h.below (zs_ w (.cells #[.string ⟨a.toArray⟩] 9))).bk.cell 10
  simp only[za_,List.getElem?_toArray,List.getElem?_cons_zero,List.getElem?_cons_succ] at k1
  have HO:=hiD hO
  have HH:=hiD h
  have HH1:=hiD (h.below (zs_ w (.cells #[.string ⟨a.toArray⟩] 9)))
  have hBs:=h.idx.2
  have hpB:=h.lt
  have hrow:=hO.lt
  have HTy:=hiD (fun W:World=>z4w_ a W (by omega))
  obtain⟨tb,htb⟩:∃ tb,zc_ a=tb:=⟨_,rfl⟩
  rw[htb] at HTy
  have HTB:=hiD htb
  clear htb
  clear h hw hO
  go_enter Tryz.func65,Tryz.ntmps65
  go_wp2_with (first
   |(at_builtin;refine y5_ (c:=a) rfl _ _ rfl rfl HO.out rfl rfl (by omega) ?_;intro v' w' hO' hg' ha';obtain⟨A6,c6,rfl,_⟩:=hO'.isSlice;obtain⟨q1,q2,q3,f6,g6⟩:=zgu_ HH.out hO' hg' ha';simp only[List.length_append,List.length_singleton] at q1 q2 q3;have HO7:=hiD q1;have HC7:=hiD q2;have HK7:=hiD q3;clear hO' hg' ha' q1 q2 q3)
   |(go_at_call 95;(with_reducible refine(HTy.out _).mono ?_);rintro e w5 ⟨rfl,rfl⟩))
  go_ret
  exact SetR.of .ref (by decide) HO7.out HTB.out (fun _=>⟨_,_,_,_,_,_,HC7.out,HK7.out⟩)
 case neg=>
 have q10:=beq_eq_false_iff_ne.2 n10
 by_cases n11:n=[117,110,105,113,117,101]
 case pos=>
  subst n11
  have hO:=h.rows.at_ 4 (by simp [zi_])
  simp only[zi_,List.getElem_cons_zero,List.getElem_cons_succ] at hO
  obtain⟨A0,c0,rfl,_⟩:=hO.isSlice
  have k0:=h.bk.cell 11
  simp only[za_,List.getElem?_toArray,List.getElem?_cons_zero,List.getElem?_cons_succ] at k0
  have k1:=(h.below (zs_ w (.cells #[.string ⟨a.toArray⟩] 9))).bk.cell 11
  simp only[za_,List.getElem?_toArray,List.getElem?_cons_zero,List.getElem?_cons_succ] at k1
  have HO:=hiD hO
  have HH:=hiD h
  have HH1:=hiD (h.below (zs_ w (.cells #[.string ⟨a.toArray⟩] 9)))
  have hBs:=h.idx.2
  have hpB:=h.lt
  have hrow:=hO.lt
  have HTy:=hiD (fun W:World=>z4w_ a W (by omega))
  obtain⟨tb,htb⟩:∃ tb,zc_ a=tb:=⟨_,rfl⟩
  rw[htb] at HTy
  have HTB:=hiD htb
  clear htb
  clear h hw hO
  go_enter Tryz.func65,Tryz.ntmps65
  go_wp2_with (first
   |(at_builtin;refine y5_ (c:=a) rfl _ _ rfl rfl HO.out rfl rfl (by omega) ?_;intro v' w' hO' hg' ha';obtain⟨A6,c6,rfl,_⟩:=hO'.isSlice;obtain⟨q1,q2,q3,f6,g6⟩:=zav_ HH.out hO' hg' ha';simp only[List.length_append,List.length_singleton] at q1 q2 q3;have HO7:=hiD q1;have HC7:=hiD q2;have HK7:=hiD q3;clear hO' hg' ha' q1 q2 q3)
   |(go_at_call 95;(with_reducible refine(HTy.out _).mono ?_);rintro e w5 ⟨rfl,rfl⟩))
  go_ret
  exact SetR.of .unique (by decide) HO7.out HTB.out (fun _=>⟨_,_,_,_,_,_,HC7.out,HK7.out⟩)
 case neg=>
 have q11:=beq_eq_false_iff_ne.2 n11
 have hno:Cfg.kindOf n=none:=by
  cases h:Cfg.kindOf n with
  |none=>rfl
  |some k=>
   exfalso
   have hm:=Cfg.kind_find h
   simp only[Cfg.kinds,List.mem_cons,Prod.mk.injEq,List.not_mem_nil,or_false] at hm
   rcases hm with ⟨e,_⟩|⟨e,_⟩|⟨e,_⟩|⟨e,_⟩|⟨e,_⟩|⟨e,_⟩|⟨e,_⟩|⟨e,_⟩|⟨e,_⟩|⟨e,_⟩|⟨e,_⟩|⟨e,_⟩
   ·exact n0 e
   ·exact n1 e
   ·exact n2 e
   ·exact n3 e
   ·exact n4 e
   ·exact n5 e
   ·exact n6 e
   ·exact n7 e
   ·exact n8 e
   ·exact n9 e
   ·exact n10 e
   ·exact n11 e
 have HP:Hid (OutB B p w w):=hiD OutB.refl
 clear h hw hn
 go_enter Tryz.func65,Tryz.ntmps65
 go_wp2_with fail
 go_ret
 exact⟨HP.out,false,rfl,(fun h=>(by cases h)),(fun _ k hk=>(by rw[hno] at hk;cases hk))⟩
end
end Go.Proofs.YtakfpngfpknedaaGreatDoor
