import Derived.Test.YtakfpngfpknedaaGreatDoorE15
set_option linter.all false
set_option maxHeartbeats 8000000
set_option maxRecDepth 100000
set_option linter.all false
namespace Go.Proofs.YtakfpngfpknedaaGreatDoor
open Go.RowKit
theorem z72_ {W:World} {b:Nat} {t:TypeId} {u0 u1 u2 u3 u4 u5 u6 u7 u8 u9 u10 u11:Value} (h:Bk W b t #[u0,u1,u2,u3,u4,u5,u6,u7,u8,u9,u10,u11]):(W.frozen? ⟨b,0,none⟩=false∧W.frozen? ⟨b,1,none⟩=false∧W.frozen? ⟨b,2,none⟩=false∧W.frozen? ⟨b,3,none⟩=false∧W.frozen? ⟨b,4,none⟩=false∧W.frozen? ⟨b,5,none⟩=false∧W.frozen? ⟨b,6,none⟩=false∧W.frozen? ⟨b,7,none⟩=false∧W.frozen? ⟨b,8,none⟩=false∧W.frozen? ⟨b,9,none⟩=false∧W.frozen? ⟨b,10,none⟩=false∧W.frozen? ⟨b,11,none⟩=false)∧W.cell? ⟨b,0,none⟩=some u0∧W.cell? ⟨b,1,none⟩=some u1∧W.cell? ⟨b,2,none⟩=some u2∧W.cell? ⟨b,3,none⟩=some u3∧W.cell? ⟨b,4,none⟩=some u4∧W.cell? ⟨b,5,none⟩=some u5∧W.cell? ⟨b,6,none⟩=some u6∧W.cell? ⟨b,7,none⟩=some u7∧W.cell? ⟨b,8,none⟩=some u8∧W.cell? ⟨b,9,none⟩=some u9∧W.cell? ⟨b,10,none⟩=some u10∧W.cell? ⟨b,11,none⟩=some u11:=⟨⟨h.frozen 0,h.frozen 1,h.frozen 2,h.frozen 3,h.frozen 4,h.frozen 5,h.frozen 6,h.frozen 7,h.frozen 8,h.frozen 9,h.frozen 10,h.frozen 11⟩,h.cell 0,h.cell 1,h.cell 2,h.cell 3,h.cell 4,h.cell 5,h.cell 6,h.cell 7,h.cell 8,h.cell 9,h.cell 10,h.cell 11⟩
theorem z5v_ (v:LU) (m:Nat) (h:m+1≤v.length) (W:World):(Instr.slice 9 (.string ⟨v.toArray⟩) (some (.int .i64 ((m:Int)+1))) none none).run Tryz.prog W= .ok (.string ⟨(sub v (m+1) v.length).toArray⟩) W:=by
 have:=run_slice_string_l (P:=Tryz.prog) W 9 ⟨v.toArray⟩ Tryz.underlying9 .i64 ((m:Int)+1) (by omega) (by simp [ByteArray.size];omega)
 rw[this,show ((m:Int)+1).toNat=m+1 by omega,z0x_]
 rfl
theorem ConfB.other {B p:Nat} {w w':World} {c:Cfg.ConfE} {va vc vl vi vr vu:Value} (h:ConfB B p w c va vc vl vi vr vu) {r:Option Nat} (hg:w.grownBy w' r) (hr:∀ k,r=some k→k≠p∧va.ownBlock≠some k∧vc.ownBlock≠some k∧vl.ownBlock≠some k∧vi.ownBlock≠some k∧vr.ownBlock≠some k∧vu.ownBlock≠some k):ConfB B p w' c va vc vl vi vr vu:=by
 refine⟨h.bk.grown hg (fun e=>(hr p e.symm).1 rfl),h.lt,⟨fun x hx=>(h.rows.own x hx).keep2 hg (fun k hk he=>?_),h.rows.apart⟩,h.idx.keep2 hg (fun k hk he=>(hr k he).2.2.2.2.1 hk),h.far⟩
 have hh:=hr k he
 simp only[zi_,List.mem_cons,List.not_mem_nil,or_false] at hx
 rcases hx with rfl|rfl|rfl|rfl|rfl
 ·exact hh.2.1 hk
 ·exact hh.2.2.1 hk
 ·exact hh.2.2.2.1 hk
 ·exact hh.2.2.2.2.2.1 hk
 ·exact hh.2.2.2.2.2.2 hk
theorem FarW.next {B p:Nat} {w w1:World} {c:Cfg.ConfE} {x x' va vc vl vi vr vu:Value} (h:FarW x va vc vl vi vr vu) (hC:ConfB B p w c va vc vl vi vr vu) (ha:x'.ownBlock=x.ownBlock∨x'.ownBlock=some w1.heap.size) (hs:w.heap.size≤w1.heap.size):FarW x' va vc vl vi vr vu:=by
 intro k hk
 rcases ha with ha|ha
 ·exact h k (ha ▸ hk)
 ·rw[ha] at hk
  cases hk
  have lt:∀ r∈zi_ c va vc vl vr vu,r.1.ownBlock≠some w1.heap.size:=fun r hr e=>by have:=((hC.rows.own r hr).lt _ e).2;omega
  exact⟨lt (va,c.attrs) (by simp [zi_]),lt (vc,c.classes) (by simp [zi_]),lt (vl,c.acls) (by simp [zi_]),fun e=>(by have:=(hC.idx.lt _ e).2;omega),lt (vr,c.refs) (by simp [zi_]),lt (vu,c.unique) (by simp [zi_])⟩
theorem y3_ {w W:World} {tmps:Array Value} {b:Nat} {c:Cfg.ConfE} {va vc vl vi vr vu:Value} {code at_:Int} {R:Cfg.ConfE × Int × Int} (hz:Bk W b 25 (za_ c va vc vl vi vr vu)) (h2:tmps[2]?=some (.pointer (some ⟨b,0,none⟩))) (h3:tmps[3]?=some (.int .i64 code)) (h4:tmps[4]?=some (.int .i64 at_)) (hb:Bel w W) (hc:ConfT W (jw_ c va vc vl vi vr vu) c) (hR:R=(c,code,at_)):
  bodyPost Tryz.prog Tryz.f39 (PRet w R) .ret {tmps:=tmps,defers:=[]} W:=by
 have e2:tmps[2]?.getD undef= .pointer (some ⟨b,0,none⟩):=by rw[h2];rfl
 have e3:tmps[3]?.getD undef= .int .i64 code:=by rw[h3];rfl
 have e4:tmps[4]?.getD undef= .int .i64 at_:=by rw[h4];rfl
 obtain⟨_,r0,r1,r2,r3,r4,r5,r6,r7,r8,r9,r10,r11⟩:=z72_ hz
 subst hR
 refine bodyPost_ret (v:= .tuple #[jw_ c va vc vl vi vr vu,.int .i64 code,.int .i64 at_]) ?_ rfl ⟨hb,_,rfl,hc⟩
 unfold jw_ za_
 simp [results,Tryz.results39,go_sem,e2,e3,e4,r0,r1,r2,r3,r4,r5,r6,r7,r8,r9,r10,r11]
theorem z82_ (l:LL) (A:Option Addr) (cp:Nat) (w:World) (h200:200<l.length):
  Calls Tryz.prog 39 #[.slice A l.length cp] w (PRet w (Cfg.parseC l)):=by
 have hR:Cfg.parseC l=(Cfg.zeroC,2,0):=if_pos h200
 have hi:(200:Int)<(l.length:Int):=by omega
 have hz:=Bk.new w 25 #[.string ⟨#[]⟩,.string ⟨#[]⟩,.string ⟨#[]⟩,.int .i64 0,.slice none 0 0,.slice none 0 0,.slice none 0 0,.slice none 0 0,.bool false,.bool false,.slice none 0 0,.slice none 0 0]
 have hb0:=zs_ w (.cells #[.string ⟨#[]⟩,.string ⟨#[]⟩,.string ⟨#[]⟩,.int .i64 0,.slice none 0 0,.slice none 0 0,.slice none 0 0,.slice none 0 0,.bool false,.bool false,.slice none 0 0,.slice none 0 0] 25)
 rw[hR]
 have HZ:=hiD hz
 have HB0:=hiD hb0
 obtain⟨⟨f0,f1,f2,f3,f4,f5,f6,f7,f8,f9,f10,f11⟩,r0,r1,r2,r3,r4,r5,r6,r7,r8,r9,r10,r11⟩:=z72_ hz
 clear hz hb0 hR h200
 go_enter Tryz.func39,Tryz.ntmps39
 go_wp2_with fail
 exact y3_ (c:=Cfg.zeroC) HZ.out rfl rfl rfl HB0.out (ju_ _) rfl
theorem z8m_ (l:LL) (A:Option Addr) (cp:Nat) (w:World) (hw:Env w) (h200:¬ 200<l.length) (hcell:∀ j (hj:j<l.length),∃ a,A=some a∧w.cell? (a.add j)=some (.string ⟨l[j].toArray⟩)) (hs:∀ s∈l,s.length≤3000000):
  Calls Tryz.prog 39 #[.slice A l.length cp] w (PRet w (Cfg.parseC l)):=by
 have hget:=qb_
 have hext:=z0x_
 have hgo:=Cfg.go_start l h200
 have hlim:=Cfg.lim_parse
 obtain⟨R,hR⟩:∃ R,Cfg.parseC l=R:=⟨_,rfl⟩
 rw[hR]
 rw[hR] at hgo
 have hi:¬ (200:Int)<(l.length:Int):=by omega
 have hln:(l.length:Int)≤200:=by omega
 have hz0:=Bk.new w 25 #[.string ⟨#[]⟩,.string ⟨#[]⟩,.string ⟨#[]⟩,.int .i64 0,.slice none 0 0,.slice none 0 0,.slice none 0 0,.slice none 0 0,.bool false,.bool false,.slice none 0 0,.slice none 0 0]
 have hb0:=zs_ w (.cells #[.string ⟨#[]⟩,.string ⟨#[]⟩,.string ⟨#[]⟩,.int .i64 0,.slice none 0 0,.slice none 0 0,.slice none 0 0,.slice none 0 0,.bool false,.bool false,.slice none 0 0,.slice none 0 0] 25)
 have hz2:=hz0.alloc (.cells #[.string ⟨#[]⟩,.string ⟨#[]⟩,.string ⟨#[]⟩,.int .i64 0,.slice none 0 0,.slice none 0 0,.slice none 0 0,.slice none 0 0,.bool false,.bool false,.slice none 0 0,.slice none 0 0] 25)
 have hb2:=hb0.alloc hb0.size (.cells #[.string ⟨#[]⟩,.string ⟨#[]⟩,.string ⟨#[]⟩,.int .i64 0,.slice none 0 0,.slice none 0 0,.slice none 0 0,.slice none 0 0,.bool false,.bool false,.slice none 0 0,.slice none 0 0] 25)
 have hp2:=Bk.new (w.alloc (.cells #[.string ⟨#[]⟩,.string ⟨#[]⟩,.string ⟨#[]⟩,.int .i64 0,.slice none 0 0,.slice none 0 0,.slice none 0 0,.slice none 0 0,.bool false,.bool false,.slice none 0 0,.slice none 0 0] 25)) 25 #[.string ⟨#[]⟩,.string ⟨#[]⟩,.string ⟨#[]⟩,.int .i64 0,.slice none 0 0,.slice none 0 0,.slice none 0 0,.slice none 0 0,.bool false,.bool false,.slice none 0 0,.slice none 0 0]
 rw[World.size_alloc] at hp2
 have hs2:((w.alloc (.cells #[.string ⟨#[]⟩,.string ⟨#[]⟩,.string ⟨#[]⟩,.int .i64 0,.slice none 0 0,.slice none 0 0,.slice none 0 0,.slice none 0 0,.bool false,.bool false,.slice none 0 0,.slice none 0 0] 25)).alloc (.cells #[.string ⟨#[]⟩,.string ⟨#[]⟩,.string ⟨#[]⟩,.int .i64 0,.slice none 0 0,.slice none 0 0,.slice none 0 0,.slice none 0 0,.bool false,.bool false,.slice none 0 0,.slice none 0 0] 25)).heap.size=w.heap.size+2:=by rw[World.size_alloc,World.size_alloc]
 have HR:=hiD hR
 have HGo:=hiD hgo
 have HS:=hiD hs
 have HW:=hiD hw
 have HCe:Hid (∀ j (hj:j<l.length) W,Bel w W→∃ a,A=some a∧W.cell? (a.add j)=some (.string ⟨l[j].toArray⟩)):=hiD fun j hj W hb=>by
  obtain⟨a,hA,hc⟩:=hcell j hj
  exact⟨a,hA,cQ hb hc⟩
 clear hR hgo hs hw hcell hlim
 go_enter Tryz.func39,Tryz.ntmps39
 go_upto_region 4 with fail
 have HC0:=hiD (ConfB.made (B:=w.heap.size+2) hp2 (by omega) (by omega))
 have HZ0:=hiD hz2
 have HB0:=hiD hb2
 clear hz0 hb0 hz2 hb2 hp2
 generalize (w.alloc (.cells #[.string ⟨#[]⟩,.string ⟨#[]⟩,.string ⟨#[]⟩,.int .i64 0,.slice none 0 0,.slice none 0 0,.slice none 0 0,.slice none 0 0,.bool false,.bool false,.slice none 0 0,.slice none 0 0] 25)).alloc (.cells #[.string ⟨#[]⟩,.string ⟨#[]⟩,.string ⟨#[]⟩,.int .i64 0,.slice none 0 0,.slice none 0 0,.slice none 0 0,.slice none 0 0,.bool false,.bool false,.slice none 0 0,.slice none 0 0] 25)=w2 at *
 go_wp2_with fail
 go_loopg [6,7] l.length (fun gk ws i wr=>∃ (k:Nat) (c:Cfg.ConfE) (va vc vl vi vr vu:Value),k≤l.length∧i= .int .i64 (k:Int)∧Aside (k+gk=l.length)∧Aside (R=Cfg.goC (l.drop k) k c (Cfg.namesL (l.take k)).reverse (Cfg.firstTw [] (Cfg.namesL (l.take k)) 0))∧Aside (Cfg.countE c≤k)∧
  Aside (ConfB (w.heap.size+2) (w.heap.size+1) wr c va vc vl vi vr vu)∧Aside (OutB (w.heap.size+2) (w.heap.size+1) w2 wr)∧Aside (Own (w.heap.size+2) wr ws (Cfg.namesL (l.take k)))∧Aside (FarW ws va vc vl vi vr vu))
 case atStart=>exact⟨0,Cfg.zeroC,_,_,_,_,_,_,Nat.zero_le _,rfl,by show _=_;omega,HGo.out,nR _,HC0.out,OutB.refl,Own.nil (by omega),FarW.nil _ _ _ _ _ _⟩
 case round=>
  obtain⟨k,c,va,vc,vl,vi,vr,vu,hk,rfl,AG,AGo,ACn,AC,AO,AW,AF⟩:=hrel
  have HG:=hiD AGo.out
  have HCn:=hiD ACn.out
  have HC:=hiD AC.out
  have HO:=hiD AO.out
  have HWs:=hiD AW.out
  have HF:=hiD AF.out
  have HB:=hiD (HB0.out.trans ((AO.out.below (n:=w.heap.size) (by omega) (by omega)).mono (nR _)))
  clear AGo ACn AC AO AW AF
  obtain⟨Aw,cw,rfl,_⟩:=HWs.out.isSlice
  by_cases hlt:k<l.length
  case pos=>
   obtain⟨q,rfl⟩:∃ q,gk=q+1:=⟨gk - 1,by have:=AG.out;omega⟩
   obtain⟨a,rfl,hc⟩:=HCe.out k hlt _ HB.out
   have hki:(k:Int)<(l.length:Int):=by omega
   have hsl:=HS.out _ (List.getElem_mem hlt)
   have HBad:=hiD (Cfg.go_badR l k hlt c (Cfg.namesL (l.take k)).reverse (Cfg.firstTw [] (Cfg.namesL (l.take k)) 0))
   have HStep:=hiD (Cfg.go_step l k hlt c)
   have HNm:Hid (Cfg.namesL (l.take (k+1))=Cfg.namesL (l.take k)++[Cfg.nameS l[k]]):=hiD (by rw[List.take_succ_eq_append_getElem hlt];unfold Cfg.namesL;rw[List.map_append];rfl)
   have HNL:Hid ((Cfg.namesL (l.take k)).length=k):=hiD (by simp [Cfg.namesL];omega)
   obtain⟨sx,hsx⟩:∃ sx,l[k]=sx:=⟨_,rfl⟩
   rw[hsx] at hc hsl HBad HStep HNm
   go_upto_block 2 with fail
   go_cut [8] (fun j wx=>wx=wr∧∃ m:Nat,m≤sx.length∧j= .int .i64 (m:Int)∧Aside (sub sx 0 m=Cfg.nameS sx)∧Aside (sub sx (m+1) sx.length=Cfg.argS sx)∧Aside (Cfg.argS sx=[]↔sx.length≤m+1))
   case first=>
    obtain⟨wo,hwo⟩:∃ wo,wo=wr:=⟨_,rfl⟩
    subst hwo
    go_wp2_with fail
    go_loopg [8] sx.length (fun gj j wj=>wj=wo∧∃ m:Nat,m≤sx.length∧j= .int .i64 (m:Int)∧Aside (m+gj=sx.length)∧Aside (∀ j (hj:j<sx.length),j<m→sx[j]≠32))
    case atStart=>exact⟨rfl,0,Nat.zero_le _,rfl,by show _=_;omega,fun j hj h=>absurd h (by omega)⟩
    case round=>
     obtain⟨rfl,m,hm,rfl,AJ,AB⟩:=hrel
     by_cases hgo:∃ hl:m<sx.length,sx[m]≠32
     case pos=>
      obtain⟨hl,hne⟩:=hgo
      obtain⟨qj,rfl⟩:∃ q,gk=q+1:=⟨gk - 1,by have:=AJ.out;omega⟩
      have hmi:(m:Int)<(sx.length:Int):=by omega
      have q32:((sx[m].toNat:Int) !=32)=true:=by rw[bne_iff_ne];intro e;exact hne (UInt8.toNat_inj.1 (by have:(32:UInt8).toNat=32:=rfl;omega))
      have AB2:Aside (∀ j (hj:j<sx.length),j<m+1→sx[j]≠32):=fun j hj h=>by
       by_cases hjk:j=m
       ·subst hjk;exact hne
       ·exact AB.out j hj (by omega)
      clear AB hne
      go_wp2_with fail
      go_roundg qj
      case measure=>omega
      case rel=>exact⟨rfl,m+1,by omega,by go_num,by have:=AJ.out;show _=_;omega,AB2.out⟩
     case neg=>
      have he:∀ hl:m<sx.length,sx[m]=32:=fun hl=>by
       by_cases hb:sx[m]=32
       ·exact hb
       ·exact absurd ⟨hl,hb⟩ hgo
      obtain⟨hn,ha⟩:=z9e_ sx m hm AB.out he
      have hsub:sub sx 0 m=Cfg.nameS sx:=by rw[hn];simp [sub]
      have hsub2:=hiD (show sub sx (m+1) sx.length=Cfg.argS sx by rw[ha];unfold sub;exact List.take_of_length_le (by rw[List.length_drop];exact nR _))
      have hne0:=hiD (show Cfg.argS sx=[]↔sx.length≤m+1 by rw[ha];simp)
      have hHe:=hiD he
      clear he hn ha hgo AB AJ
      by_cases hm2:m<sx.length
      case neg=>
       have hmi:¬ (m:Int)<(sx.length:Int):=by omega
       go_wp2_with fail
       go_meet
       exact⟨rfl,m,hm,rfl,hsub,hsub2.out,hne0.out⟩
      case pos=>
       have hmi:(m:Int)<(sx.length:Int):=by omega
       have q32:((sx[m].toNat:Int) !=32)=false:=by rw[hHe.out hm2];rfl
       go_wp2_with fail
       go_meet
       exact⟨rfl,m,hm,rfl,hsub,hsub2.out,hne0.out⟩
   case rest=>
    obtain⟨hwc,m,hm,rfl,A1,A2,A3⟩:=hcut
    subst hwc
    obtain⟨wr,hwr⟩:∃ wr,wr=wc:=⟨_,rfl⟩
    subst hwr
    have hsub:=A1.out
    have hsub2:=A2.out
    have hne0:=A3.out
    have hal:=Cfg.argS_len sx
    clear A1 A2 A3
    have hrow:=HWs.out.lt
    have hBs:=HWs.out.2
    have hqz:=HC.out.lt
    go_upto_region 12 with (at_builtin;refine y5_ (c:=Cfg.nameS sx) rfl _ _ rfl rfl HWs.out rfl rfl (by have:=HNL.out;omega) ?_;intro v5 w5 hO5 hg5 ha5;obtain⟨A5,c5,rfl,_⟩:=hO5.isSlice;have HP5:=hiD (And.intro hO5 (And.intro hg5 ha5));clear hO5 hg5 ha5)
    obtain⟨hO5,hg5,ha5⟩:=HP5.out
    have b1:=zs_ wr (.cells #[.string ⟨(Cfg.nameS sx).toArray⟩] 9)
    have HC5:=hiD ((HC.out.below b1).other hg5 (fun j hj=>⟨fun e=>by have:=(hrow j hj).1;omega,HF.out j hj⟩))
    have HO5:=hiD (HO.out.trans ((OutB.of_below b1 hBs).trans (OutB.of_grown (p:=w.heap.size+1) hg5 (fun j hj=>(hrow j hj).1) (fun j hj=>by obtain⟨cs,h⟩:=(HWs.out.below b1).ty hj;exact⟨_,cs,h,by decide⟩) (nT hBs b1.size))))
    have HF5:=hiD (HF.out.next HC.out ha5 b1.size)
    have HW5:=hiD hO5
    have HB5:=hiD (HB0.out.trans ((HO5.out.below (n:=w.heap.size) (by omega) (by omega)).mono (nR _)))
    have HSc:Hid (∀ W,Bel w W→W.cell? (a.add k)=some (.string ⟨sx.toArray⟩)):=hiD fun W h=>by
     obtain⟨a',ha',hc'⟩:=HCe.out k hlt _ h
     cases ha'
     rwa [hsx] at hc'
    have hc5:=HSc.out _ HB5.out
    have HZ5:=hiD (HO5.out.bk HZ0.out (by omega) (by omega))
    have hw5s:w.heap.size+2≤w5.heap.size:=hO5.2
    clear b1 hg5 ha5 hO5 HP5 hc hrow HWs HC HF HO
    generalize Cfg.nameS sx=nm at *
    generalize Cfg.argS sx=ar at *
    by_cases har:ar=[]
    case pos=>
     have hge:(sx.length:Int)≤(m:Int)+1:=by have:=hne0.1 har;omega
     have hR2:R=(Cfg.zeroC,50,(k:Int)):=by rw[HG.out];exact HBad.out (fun K _ h=>absurd har h)
     have HR2:=hiD hR2
     clear hR2 har
     go_quiet (fail)
     have HZ6:=HZ5.out.below (z0_ (bR _ _) nq)
     have HB6:=hiD (z0_ HB5.out nq)
     have HZ7:=hiD HZ6
     obtain⟨⟨f0,f1,f2,f3,f4,f5,f6,f7,f8,f9,f10,f11⟩,r0,r1,r2,r3,r4,r5,r6,r7,r8,r9,r10,r11⟩:=z72_ HZ6
     clear HZ6
     generalize w5.drewN nq=w6 at *
     go_wp2_with fail
     exact y3_ (c:=Cfg.zeroC) (ji_ (.string ⟨#[]⟩) (.string ⟨#[]⟩) (.string ⟨#[]⟩) (.int .i64 0) (.slice none 0 0) (.slice none 0 0) (.slice none 0 0) (.slice none 0 0) (.bool false) (.bool false) (.slice none 0 0) (.slice none 0 0) HZ7.out) rfl rfl rfl (zo_ (.string ⟨#[]⟩) (.string ⟨#[]⟩) (.string ⟨#[]⟩) (.int .i64 0) (.slice none 0 0) (.slice none 0 0) (.slice none 0 0) (.slice none 0 0) (.bool false) (.bool false) (.slice none 0 0) (.slice none 0 0) HB6.out (nR _)) (ju_ _) HR2.out
    case neg=>
    have hge:¬ (sx.length:Int)≤(m:Int)+1:=fun h=>har (hne0.2 (by omega))
    have hgd:decide ((sx.length:Int)≤(m:Int)+1)=false:=decide_eq_false hge
    have hsl:=z5v_ sx m (by omega)
    have hwr:IntKind.i64.wrap ((m:Int)+1)=(m:Int)+1:=IntWalk.i64_in _ (by omega)
    rw[hsub2] at hsl
    have hm1:(m:Int)+1≤(sx.length:Int):=by omega
    have hmle:(m:Int)≤(sx.length:Int):=by omega
    by_cases hgood:∃ K,Cfg.kindOf nm=some K∧(Cfg.takeK K ar c).2=true
    case neg=>
     have hR2:R=(Cfg.zeroC,50,(k:Int)):=by
      rw[HG.out]
      refine HBad.out (fun K hK _=>?_)
      cases hb:(Cfg.takeK K ar c).2
      ·rfl
      ·exact absurd ⟨K,hK,hb⟩ hgood
     have HR2:=hiD hR2
     have HSb:Hid (∀ W,Bel w5 W→Calls Tryz.prog 65 #[.pointer (some ⟨w.heap.size+1,0,none⟩),.string ⟨nm.toArray⟩,.string ⟨ar.toArray⟩] W fun e w'=>e= .returned (.bool false)∧OutB (w.heap.size+2) (w.heap.size+1) W w'):=hiD fun W h=>(set_r nm ar (HW.out.keep (tQ HB5.out h)) (HC5.out.below h) (by omega) (by have:=HCn.out;omega)).mono (by
      rintro e w' ⟨h1,ok,rfl,h2,h3⟩
      cases ok
      ·exact⟨rfl,h1⟩
      ·obtain⟨K,hK,hb,_⟩:=h2 rfl
       exact absurd ⟨K,hK,hb⟩ hgood)
     clear hR2 har hgood
     refine wp_region_noPanic ?_
     refine wp_region_held_drew (S:=(fun W=>W.cell? (a.add k)=some (.string ⟨sx.toArray⟩))) (by kernel_rfl) ?_ (fun hHeld=>?_)
     ·exact HSc.out _ HB5.out.drew
     refine wpAnyH_take (i:=0) (v:=?vb0) rfl (by kernel_rfl) (by kernel_rfl) (by kernel_rfl) (fun _ _ _ h=>h) (Or.inl ⟨by rfl,?yb0⟩) hHeld ?_
     case yb0=>(intro W hSw;(try dsimp only at hSw);go_simp;first|done|(with_reducible rfl)|rfl|omega)
     try simp only[gsx,Act.put]
     refine wpAnyH_take (i:=1) (v:=?vb1) rfl (by kernel_rfl) (by kernel_rfl) (by kernel_rfl) (fun _ _ _ h=>h) (Or.inl ⟨by rfl,?yb1⟩) hHeld ?_
     case yb1=>(intro W hSw;(try dsimp only at hSw);go_simp;first|done|(with_reducible rfl)|rfl|omega)
     try simp only[gsx,Act.put]
     refine wpAnyH_take (i:=2) (v:=?vb2) rfl (by kernel_rfl) (by kernel_rfl) (by kernel_rfl) (fun _ _ _ h=>h) (Or.inl ⟨by rfl,?yb2⟩) hHeld ?_
     case yb2=>(intro W hSw;(try dsimp only at hSw);go_simp;first|done|(with_reducible rfl)|rfl|omega)
     try simp only[gsx,Act.put]
     refine wpAnyH_take (i:=3) (v:=?vb3) rfl (by kernel_rfl) (by kernel_rfl) (by kernel_rfl) (fun _ _ _ h=>h) (Or.inl ⟨by rfl,?yb3⟩) hHeld ?_
     case yb3=>(intro W hSw;(try dsimp only at hSw);go_simp;first|done|(with_reducible rfl)|rfl|omega)
     try simp only[gsx,Act.put]
     refine wpAnyH_take (i:=4) (v:=?vb4) rfl (by kernel_rfl) (by kernel_rfl) (by kernel_rfl) (fun _ _ _ h=>h) (Or.inl ⟨by rfl,?yb4⟩) hHeld ?_
     case yb4=>(intro W hSw;(try dsimp only at hSw);go_simp;first|done|(with_reducible rfl)|rfl|omega)
     try simp only[gsx,Act.put]
     refine wpAnyH_take (i:=5) (v:=?vb5) rfl (by kernel_rfl) (by kernel_rfl) (by kernel_rfl) (fun _ _ _ h=>h) (Or.inl ⟨by rfl,?yb5⟩) hHeld ?_
     case yb5=>(intro W hSw;(try dsimp only at hSw);go_simp;first|done|(with_reducible rfl)|rfl|omega)
     try simp only[gsx,Act.put]
     refine wpAnyH_take (i:=6) (v:=?vb6) rfl (by kernel_rfl) (by kernel_rfl) (by kernel_rfl) (fun _ _ _ h=>h) (Or.inl ⟨by rfl,?yb6⟩) hHeld ?_
     case yb6=>(intro W hSw;(try dsimp only at hSw);go_simp;first|done|(with_reducible rfl)|rfl|omega)
     try simp only[gsx,Act.put]
     refine wpAnyH_take (i:=7) (v:=(.bool false)) rfl (by kernel_rfl) (by kernel_rfl) (by kernel_rfl) (fun _ _ _ h=>h) (Or.inl ⟨by rfl,?yb7⟩) hHeld ?_
     case yb7=>(intro W hSw;(try dsimp only at hSw);go_simp;first|done|(with_reducible rfl)|rfl|omega)
     try simp only[gsx,Act.put]
     refine wpAnyH_take (i:=8) (v:=(.bool false)) rfl (by kernel_rfl) (by kernel_rfl) (by kernel_rfl) (fun _ _ _ h=>h) (Or.inl ⟨by rfl,?yb8⟩) hHeld ?_
     case yb8=>(intro W hSw;(try dsimp only at hSw);go_simp;first|done|(with_reducible rfl)|rfl|omega)
     try simp only[gsx,Act.put]
     refine wpAnyH_take (i:=9) (v:=?vb9) rfl (by kernel_rfl) (by kernel_rfl) (by kernel_rfl) (fun _ _ _ h=>h) (Or.inl ⟨by rfl,?yb9⟩) hHeld ?_
     case yb9=>(intro W hSw;(try dsimp only at hSw);go_simp;first|done|(with_reducible rfl)|rfl|omega)
     try simp only[gsx,Act.put]
     refine wpAnyH_take (i:=10) (v:=?vb10) rfl (by kernel_rfl) (by kernel_rfl) (by kernel_rfl) (fun _ _ _ h=>h) (Or.inl ⟨by rfl,?yb10⟩) hHeld ?_
     case yb10=>(intro W hSw;(try dsimp only at hSw);go_simp;first|done|(with_reducible rfl)|rfl|omega)
     try simp only[gsx,Act.put]
     refine wpAnyH_take (i:=11) (v:=?vb11) rfl (by kernel_rfl) (by kernel_rfl) (by kernel_rfl) (fun _ _ _ h=>h) (Or.inl ⟨by rfl,?yb11⟩) hHeld ?_
     case yb11=>(intro W hSw;(try dsimp only at hSw);go_simp;first|done|(with_reducible rfl)|rfl|omega)
     try simp only[gsx,Act.put]
     refine wpAnyH_take (i:=12) (v:=?vb12) rfl (by kernel_rfl) (by kernel_rfl) (by kernel_rfl) (fun _ _ _ h=>h) (Or.inl ⟨by rfl,?yb12⟩) hHeld ?_
     case yb12=>(intro W hSw;(try dsimp only at hSw);go_simp;first|done|(with_reducible rfl)|rfl|omega)
     try simp only[gsx,Act.put]
     refine wpAnyH_take (i:=13) (v:=?vb13) rfl (by kernel_rfl) (by kernel_rfl) (by kernel_rfl) (fun _ _ _ h=>h) (Or.inl ⟨by rfl,?yb13⟩) hHeld ?_
     case yb13=>(intro W hSw;(try dsimp only at hSw);go_simp;first|done|(with_reducible rfl)|rfl|omega)
     try simp only[gsx,Act.put]
     refine wpAnyH_take (i:=14) (v:=?vb14) rfl (by kernel_rfl) (by kernel_rfl) (by kernel_rfl) (fun _ _ _ h=>h) (Or.inl ⟨by rfl,?yb14⟩) hHeld ?_
     case yb14=>(intro W hSw;(try dsimp only at hSw);go_simp;first|done|(with_reducible rfl)|rfl|omega)
     try simp only[gsx,Act.put]
     refine wpAnyH_take (i:=15) (v:=?vb15) rfl (by kernel_rfl) (by kernel_rfl) (by kernel_rfl) (fun _ _ _ h=>h) (Or.inl ⟨by rfl,?yb15⟩) hHeld ?_
     case yb15=>(intro W hSw;(try dsimp only at hSw);go_simp;first|done|(with_reducible rfl)|rfl|omega)
     try simp only[gsx,Act.put]
     refine wpAnyH_take (i:=16) (v:=?vb16) rfl (by kernel_rfl) (by kernel_rfl) (by kernel_rfl) (fun _ _ _ h=>h) (Or.inl ⟨by rfl,?yb16⟩) hHeld ?_
     case yb16=>(intro W hSw;(try dsimp only at hSw);go_simp;first|done|(with_reducible rfl)|rfl|omega)
     try simp only[gsx,Act.put]
     refine wpAnyH_take (i:=17) (v:=?vb17) rfl (by kernel_rfl) (by kernel_rfl) (by kernel_rfl) (fun _ _ _ h=>h) (Or.inl ⟨by rfl,?yb17⟩) hHeld ?_
     case yb17=>(intro W hSw;(try dsimp only at hSw);go_simp;first|done|(with_reducible rfl)|rfl|omega)
     try simp only[gsx,Act.put]
     refine wpAnyH_take (i:=18) (v:=?vb18) rfl (by kernel_rfl) (by kernel_rfl) (by kernel_rfl) (fun _ _ _ h=>h) (Or.inl ⟨by rfl,?yb18⟩) hHeld ?_
     case yb18=>(intro W hSw;(try dsimp only at hSw);go_simp;first|done|(with_reducible rfl)|rfl|omega)
     try simp only[gsx,Act.put]
     refine wpAnyH_take (i:=19) (v:=?vb19) rfl (by kernel_rfl) (by kernel_rfl) (by kernel_rfl) (fun _ _ _ h=>h) (Or.inl ⟨by rfl,?yb19⟩) hHeld ?_
     case yb19=>(intro W hSw;(try dsimp only at hSw);go_simp;first|done|(with_reducible rfl)|rfl|omega)
     try simp only[gsx,Act.put]
     refine wpAnyH_take (i:=20) (v:=?vb20) rfl (by kernel_rfl) (by kernel_rfl) (by kernel_rfl) (fun _ _ _ h=>h) (Or.inl ⟨by rfl,?yb20⟩) hHeld ?_
     case yb20=>(intro W hSw;(try dsimp only at hSw);go_simp;first|done|(with_reducible rfl)|rfl|omega)
     try simp only[gsx,Act.put]
     refine wpAnyH_take (i:=21) (v:=?vb21) rfl (by kernel_rfl) (by kernel_rfl) (by kernel_rfl) (fun _ _ _ h=>h) (Or.inl ⟨by rfl,?yb21⟩) hHeld ?_
     case yb21=>(intro W hSw;(try dsimp only at hSw);go_simp;first|done|(with_reducible rfl)|rfl|omega)
     try simp only[gsx,Act.put]
     refine wpAnyH_ready (rs:=[22]) (by kernel_rfl) (by simp) ?_
     refine AllReadyH.cons rfl (fun K hK=>?_) AllReadyH.nil
     go_simp
     (with_reducible refine(HSb.out _ (bR _ _).drew).mono ?_);rintro e w6 ⟨rfl,hO6⟩;have HZ7:=hiD (hO6.bk (HZ5.out.below (bR _ _).drew) (by omega) (by omega));have HB6:=hiD (HB5.out.drew.trans ((hO6.below (n:=w.heap.size) (by omega) (by omega)).mono (nR _)));have HZ6:=HZ7.out;obtain⟨⟨f0,f1,f2,f3,f4,f5,f6,f7,f8,f9,f10,f11⟩,r0,r1,r2,r3,r4,r5,r6,r7,r8,r9,r10,r11⟩:=z72_ HZ6;clear hO6 HZ6
     (try go_wp2_with fail)
     refine hK.out _ _ ?_ (fun hHeld=>?_)
     ·exact HSc.out _ HB6.out
     clear hK K
     try simp only[gsx,Act.put]
     refine wpAnyH_take (i:=23) (v:=(.bool true)) rfl (by kernel_rfl) (by kernel_rfl) (by kernel_rfl) (fun _ _ _ h=>h) (Or.inl ⟨by rfl,?yb23⟩) hHeld ?_
     case yb23=>(intro W hSw;(try dsimp only at hSw);go_simp;first|done|(with_reducible rfl)|rfl|omega)
     try simp only[gsx,Act.put]
     refine wpAnyH_take (i:=24) (v:=(.bool true)) rfl (by kernel_rfl) (by kernel_rfl) (by kernel_rfl) (fun _ _ _ h=>h) (Or.inl ⟨by rfl,?yb24⟩) hHeld ?_
     case yb24=>(intro W hSw;(try dsimp only at hSw);go_simp;first|done|(with_reducible rfl)|rfl|omega)
     try simp only[gsx,Act.put]
     refine wpAnyH_done (by kernel_rfl) ?_ _
     refine NoPanic.normal ?_
     go_wp2_with fail
     exact y3_ (c:=Cfg.zeroC) (ji_ (.string ⟨#[]⟩) (.string ⟨#[]⟩) (.string ⟨#[]⟩) (.int .i64 0) (.slice none 0 0) (.slice none 0 0) (.slice none 0 0) (.slice none 0 0) (.bool false) (.bool false) (.slice none 0 0) (.slice none 0 0) HZ7.out) rfl rfl rfl (zo_ (.string ⟨#[]⟩) (.string ⟨#[]⟩) (.string ⟨#[]⟩) (.int .i64 0) (.slice none 0 0) (.slice none 0 0) (.slice none 0 0) (.slice none 0 0) (.bool false) (.bool false) (.slice none 0 0) (.slice none 0 0) HB6.out (nR _)) (ju_ _) HR2.out
    case pos=>
    obtain⟨K,hK,hok⟩:=hgood
    have hst:=HStep.out K hK har hok
    have HR2:=hiD (HG.out.trans hst)
    have hcn:=Cfg.count_take K ar c
    have HSg:Hid (∀ W,Bel w5 W→Calls Tryz.prog 65 #[.pointer (some ⟨w.heap.size+1,0,none⟩),.string ⟨nm.toArray⟩,.string ⟨ar.toArray⟩] W fun e w'=>e= .returned (.bool true)∧OutB (w.heap.size+2) (w.heap.size+1) W w'∧∃ va' vc' vl' vi' vr' vu',ConfB (w.heap.size+2) (w.heap.size+1) w' (Cfg.takeK K ar c).1 va' vc' vl' vi' vr' vu'∧kq_ (w.heap.size+2) W w' va vc vl vi vr vu va' vc' vl' vi' vr' vu'):=hiD fun W h=>(set_r nm ar (HW.out.keep (tQ HB5.out h)) (HC5.out.below h) (by omega) (by have:=HCn.out;omega)).mono (by
     rintro e w' ⟨h1,ok,rfl,h2,h3⟩
     cases ok
     ·rw[h3 rfl K hK] at hok;cases hok
     ·obtain⟨K2,hK2,hb,va',vc',vl',vi',vr',vu',hCC,hKW⟩:=h2 rfl
      rw[hK] at hK2
      cases hK2
      exact⟨rfl,h1,va',vc',vl',vi',vr',vu',hCC,hKW⟩)
    have HN2:Hid (Cfg.countE (Cfg.takeK K ar c).1≤k+1):=hiD (by have:=HCn.out;omega)
    generalize Cfg.takeK K ar c=T at *
    clear hst har hok hK hcn
    refine wp_region_noPanic ?_
    refine wp_region_held_drew (S:=(fun W=>W.cell? (a.add k)=some (.string ⟨sx.toArray⟩))) (by kernel_rfl) ?_ (fun hHeld=>?_)
    ·exact HSc.out _ HB5.out.drew
    refine wpAnyH_take (i:=0) (v:=?vg0) rfl (by kernel_rfl) (by kernel_rfl) (by kernel_rfl) (fun _ _ _ h=>h) (Or.inl ⟨by rfl,?yg0⟩) hHeld ?_
    case yg0=>(intro W hSw;(try dsimp only at hSw);go_simp;first|done|(with_reducible rfl)|rfl|omega)
    try simp only[gsx,Act.put]
    refine wpAnyH_take (i:=1) (v:=?vg1) rfl (by kernel_rfl) (by kernel_rfl) (by kernel_rfl) (fun _ _ _ h=>h) (Or.inl ⟨by rfl,?yg1⟩) hHeld ?_
    case yg1=>(intro W hSw;(try dsimp only at hSw);go_simp;first|done|(with_reducible rfl)|rfl|omega)
    try simp only[gsx,Act.put]
    refine wpAnyH_take (i:=2) (v:=?vg2) rfl (by kernel_rfl) (by kernel_rfl) (by kernel_rfl) (fun _ _ _ h=>h) (Or.inl ⟨by rfl,?yg2⟩) hHeld ?_
    case yg2=>(intro W hSw;(try dsimp only at hSw);go_simp;first|done|(with_reducible rfl)|rfl|omega)
    try simp only[gsx,Act.put]
    refine wpAnyH_take (i:=3) (v:=?vg3) rfl (by kernel_rfl) (by kernel_rfl) (by kernel_rfl) (fun _ _ _ h=>h) (Or.inl ⟨by rfl,?yg3⟩) hHeld ?_
    case yg3=>(intro W hSw;(try dsimp only at hSw);go_simp;first|done|(with_reducible rfl)|rfl|omega)
    try simp only[gsx,Act.put]
    refine wpAnyH_take (i:=4) (v:=?vg4) rfl (by kernel_rfl) (by kernel_rfl) (by kernel_rfl) (fun _ _ _ h=>h) (Or.inl ⟨by rfl,?yg4⟩) hHeld ?_
    case yg4=>(intro W hSw;(try dsimp only at hSw);go_simp;first|done|(with_reducible rfl)|rfl|omega)
    try simp only[gsx,Act.put]
    refine wpAnyH_take (i:=5) (v:=?vg5) rfl (by kernel_rfl) (by kernel_rfl) (by kernel_rfl) (fun _ _ _ h=>h) (Or.inl ⟨by rfl,?yg5⟩) hHeld ?_
    case yg5=>(intro W hSw;(try dsimp only at hSw);go_simp;first|done|(with_reducible rfl)|rfl|omega)
    try simp only[gsx,Act.put]
    refine wpAnyH_take (i:=6) (v:=?vg6) rfl (by kernel_rfl) (by kernel_rfl) (by kernel_rfl) (fun _ _ _ h=>h) (Or.inl ⟨by rfl,?yg6⟩) hHeld ?_
    case yg6=>(intro W hSw;(try dsimp only at hSw);go_simp;first|done|(with_reducible rfl)|rfl|omega)
    try simp only[gsx,Act.put]
    refine wpAnyH_take (i:=7) (v:=(.bool false)) rfl (by kernel_rfl) (by kernel_rfl) (by kernel_rfl) (fun _ _ _ h=>h) (Or.inl ⟨by rfl,?yg7⟩) hHeld ?_
    case yg7=>(intro W hSw;(try dsimp only at hSw);go_simp;first|done|(with_reducible rfl)|rfl|omega)
    try simp only[gsx,Act.put]
    refine wpAnyH_take (i:=8) (v:=(.bool false)) rfl (by kernel_rfl) (by kernel_rfl) (by kernel_rfl) (fun _ _ _ h=>h) (Or.inl ⟨by rfl,?yg8⟩) hHeld ?_
    case yg8=>(intro W hSw;(try dsimp only at hSw);go_simp;first|done|(with_reducible rfl)|rfl|omega)
    try simp only[gsx,Act.put]
    refine wpAnyH_take (i:=9) (v:=?vg9) rfl (by kernel_rfl) (by kernel_rfl) (by kernel_rfl) (fun _ _ _ h=>h) (Or.inl ⟨by rfl,?yg9⟩) hHeld ?_
    case yg9=>(intro W hSw;(try dsimp only at hSw);go_simp;first|done|(with_reducible rfl)|rfl|omega)
    try simp only[gsx,Act.put]
    refine wpAnyH_take (i:=10) (v:=?vg10) rfl (by kernel_rfl) (by kernel_rfl) (by kernel_rfl) (fun _ _ _ h=>h) (Or.inl ⟨by rfl,?yg10⟩) hHeld ?_
    case yg10=>(intro W hSw;(try dsimp only at hSw);go_simp;first|done|(with_reducible rfl)|rfl|omega)
    try simp only[gsx,Act.put]
    refine wpAnyH_take (i:=11) (v:=?vg11) rfl (by kernel_rfl) (by kernel_rfl) (by kernel_rfl) (fun _ _ _ h=>h) (Or.inl ⟨by rfl,?yg11⟩) hHeld ?_
    case yg11=>(intro W hSw;(try dsimp only at hSw);go_simp;first|done|(with_reducible rfl)|rfl|omega)
    try simp only[gsx,Act.put]
    refine wpAnyH_take (i:=12) (v:=?vg12) rfl (by kernel_rfl) (by kernel_rfl) (by kernel_rfl) (fun _ _ _ h=>h) (Or.inl ⟨by rfl,?yg12⟩) hHeld ?_
    case yg12=>(intro W hSw;(try dsimp only at hSw);go_simp;first|done|(with_reducible rfl)|rfl|omega)
    try simp only[gsx,Act.put]
    refine wpAnyH_take (i:=13) (v:=?vg13) rfl (by kernel_rfl) (by kernel_rfl) (by kernel_rfl) (fun _ _ _ h=>h) (Or.inl ⟨by rfl,?yg13⟩) hHeld ?_
    case yg13=>(intro W hSw;(try dsimp only at hSw);go_simp;first|done|(with_reducible rfl)|rfl|omega)
    try simp only[gsx,Act.put]
    refine wpAnyH_take (i:=14) (v:=?vg14) rfl (by kernel_rfl) (by kernel_rfl) (by kernel_rfl) (fun _ _ _ h=>h) (Or.inl ⟨by rfl,?yg14⟩) hHeld ?_
    case yg14=>(intro W hSw;(try dsimp only at hSw);go_simp;first|done|(with_reducible rfl)|rfl|omega)
    try simp only[gsx,Act.put]
    refine wpAnyH_take (i:=15) (v:=?vg15) rfl (by kernel_rfl) (by kernel_rfl) (by kernel_rfl) (fun _ _ _ h=>h) (Or.inl ⟨by rfl,?yg15⟩) hHeld ?_
    case yg15=>(intro W hSw;(try dsimp only at hSw);go_simp;first|done|(with_reducible rfl)|rfl|omega)
    try simp only[gsx,Act.put]
    refine wpAnyH_take (i:=16) (v:=?vg16) rfl (by kernel_rfl) (by kernel_rfl) (by kernel_rfl) (fun _ _ _ h=>h) (Or.inl ⟨by rfl,?yg16⟩) hHeld ?_
    case yg16=>(intro W hSw;(try dsimp only at hSw);go_simp;first|done|(with_reducible rfl)|rfl|omega)
    try simp only[gsx,Act.put]
    refine wpAnyH_take (i:=17) (v:=?vg17) rfl (by kernel_rfl) (by kernel_rfl) (by kernel_rfl) (fun _ _ _ h=>h) (Or.inl ⟨by rfl,?yg17⟩) hHeld ?_
    case yg17=>(intro W hSw;(try dsimp only at hSw);go_simp;first|done|(with_reducible rfl)|rfl|omega)
    try simp only[gsx,Act.put]
    refine wpAnyH_take (i:=18) (v:=?vg18) rfl (by kernel_rfl) (by kernel_rfl) (by kernel_rfl) (fun _ _ _ h=>h) (Or.inl ⟨by rfl,?yg18⟩) hHeld ?_
    case yg18=>(intro W hSw;(try dsimp only at hSw);go_simp;first|done|(with_reducible rfl)|rfl|omega)
    try simp only[gsx,Act.put]
    refine wpAnyH_take (i:=19) (v:=?vg19) rfl (by kernel_rfl) (by kernel_rfl) (by kernel_rfl) (fun _ _ _ h=>h) (Or.inl ⟨by rfl,?yg19⟩) hHeld ?_
    case yg19=>(intro W hSw;(try dsimp only at hSw);go_simp;first|done|(with_reducible rfl)|rfl|omega)
    try simp only[gsx,Act.put]
    refine wpAnyH_take (i:=20) (v:=?vg20) rfl (by kernel_rfl) (by kernel_rfl) (by kernel_rfl) (fun _ _ _ h=>h) (Or.inl ⟨by rfl,?yg20⟩) hHeld ?_
    case yg20=>(intro W hSw;(try dsimp only at hSw);go_simp;first|done|(with_reducible rfl)|rfl|omega)
    try simp only[gsx,Act.put]
    refine wpAnyH_take (i:=21) (v:=?vg21) rfl (by kernel_rfl) (by kernel_rfl) (by kernel_rfl) (fun _ _ _ h=>h) (Or.inl ⟨by rfl,?yg21⟩) hHeld ?_
    case yg21=>(intro W hSw;(try dsimp only at hSw);go_simp;first|done|(with_reducible rfl)|rfl|omega)
    try simp only[gsx,Act.put]
    refine wpAnyH_ready (rs:=[22]) (by kernel_rfl) (by simp) ?_
    refine AllReadyH.cons rfl (fun K hK=>?_) AllReadyH.nil
    go_simp
    (with_reducible refine(HSg.out _ (bR _ _).drew).mono ?_);rintro e w6 ⟨rfl,hO6,va',vc',vl',vi',vr',vu',hC6,hK6⟩;have HB6:=hiD (HB5.out.drew.trans ((hO6.below (n:=w.heap.size) (by omega) (by omega)).mono (nR _)));have HC6:=hiD hC6;have HO6:=hiD ((HO5.out.trans (OutB.of_below (bR _ _).drew hw5s)).trans hO6);have HWK:=hiD (hK6 _ _ (HW5.out.below (bR _ _).drew) HF5.out);clear hO6 hC6 hK6
    (try go_wp2_with fail)
    refine hK.out _ _ ?_ (fun hHeld=>?_)
    ·exact HSc.out _ HB6.out
    clear hK K
    try simp only[gsx,Act.put]
    refine wpAnyH_take (i:=23) (v:=(.bool false)) rfl (by kernel_rfl) (by kernel_rfl) (by kernel_rfl) (fun _ _ _ h=>h) (Or.inl ⟨by rfl,?yg23⟩) hHeld ?_
    case yg23=>(intro W hSw;(try dsimp only at hSw);go_simp;first|done|(with_reducible rfl)|rfl|omega)
    try simp only[gsx,Act.put]
    refine wpAnyH_take (i:=24) (v:=(.bool false)) rfl (by kernel_rfl) (by kernel_rfl) (by kernel_rfl) (fun _ _ _ h=>h) (Or.inl ⟨by rfl,?yg24⟩) hHeld ?_
    case yg24=>(intro W hSw;(try dsimp only at hSw);go_simp;first|done|(with_reducible rfl)|rfl|omega)
    try simp only[gsx,Act.put]
    refine wpAnyH_done (by kernel_rfl) ?_ _
    refine NoPanic.normal ?_
    go_wp2_with fail
    go_roundg q
    case measure=>omega
    case rel=>exact⟨k+1,T.1,va',vc',vl',vi',vr',vu',by omega,by go_num,by have:=AG.out;show _=_;omega,HR2.out,HN2.out,HC6.out,HO6.out,by have q:=HWK.out.1;rw[List.length_append] at q;show Own _ _ _ _;rw[HNm.out];exact q,by have q:=HWK.out.2;rw[List.length_append] at q;exact q⟩
  case neg=>
   obtain rfl:k=l.length:=by omega
   have hR2:=HG.out
   rw[List.drop_length,List.take_length,Cfg.goC] at hR2
   rw[List.take_length] at HWs
   have hNl:(Cfg.namesL l).length=l.length:=by simp [Cfg.namesL]
   have hgoal:(Cfg.namesL (List.take l.length l)).length=(Cfg.namesL l).length:=by rw[List.take_length]
   rw[hgoal]
   generalize Cfg.namesL l=N at *
   have HR2:=hiD hR2
   have HN:Hid (∀ j (hj:j<N.length),∃ a,Aw=some a∧wr.cell? (a.add j)=some (.string ⟨N[j].toArray⟩)):=hiD fun j hj=>by
    obtain⟨A',c',he,_,hx⟩:=(zp_ HWs.out.texts).at
    cases he
    exact hx j hj
   have HOnce:Hid (∀ (s:LU) (W:World),Calls Tryz.prog 66 #[.string ⟨s.toArray⟩] W fun e w'=>e= .returned (.bool (Cfg.onceN s))∧W=w'):=hiD fun s W=>(once_r s W).mono (by rintro e w' ⟨h1,h2⟩;exact⟨h1,h2.symm⟩)
   have HZ5:=hiD (HO.out.bk HZ0.out (by omega) (by omega))
   have hNI:(N.length:Int)≤200:=by omega
   have hlI:(l.length:Int)=(N.length:Int):=by omega
   have HLI:=hiD hlI
   clear hR2 hgoal hlI HG HCe HS HF HWs AG
   obtain⟨wo,hwo⟩:∃ wo,wo=wr:=⟨_,rfl⟩
   subst hwo
   have hlf:¬ ((l.length:Int)<(l.length:Int)):=by omega
   go_wp2_with fail
   go_loopg [9] N.length (fun gi i wi=>∃ (a n:Nat),a≤N.length∧i= .int .i64 (a:Int)∧Aside (a+gi=N.length)∧wi=wo.drewN n∧Aside (Cfg.firstTw [] N 0=Cfg.firstTw (N.take a).reverse (N.drop a) a))
   case atStart=>exact⟨0,0,Nat.zero_le _,rfl,by show _=_;omega,rfl,rfl⟩
   case round=>
    obtain⟨a,n,ha,rfl,AI,rfl,AT⟩:=hrel
    by_cases hlt2:a<N.length
    case pos=>
     obtain⟨qi,rfl⟩:∃ q,gk=q+1:=⟨gk - 1,by have:=AI.out;omega⟩
     obtain⟨p2,rfl,d2⟩:=HN.out a hlt2
     have hai:(a:Int)<(N.length:Int):=by omega
     go_wp2_with fail
     go_loopg [10] a (fun gj j wj=>∃ (b n':Nat),b≤a∧j= .int .i64 (b:Int)∧Aside (b+gj=a)∧wj=wo.drewN n'∧Aside (∀ i (hi:i<b) (hil:i<N.length),¬ (N[i]=N[a]∧Cfg.onceN N[a]=true)))
     case atStart=>exact⟨0,n,Nat.zero_le _,rfl,by show _=_;omega,rfl,fun i hi=>absurd hi (by omega)⟩
     case round=>
      obtain⟨b,n',hb,rfl,AJ,rfl,AM⟩:=hrel
      by_cases hltb:b<a
      case pos=>
       obtain⟨qj,rfl⟩:∃ q,gk=q+1:=⟨gk - 1,by have:=AJ.out;omega⟩
       have hbN:b<N.length:=by omega
       obtain⟨p1,hp1,d1⟩:=HN.out b hbN
       cases hp1
       have hbi:(b:Int)<(a:Int):=by omega
       have hbi2:(b:Int)<(N.length:Int):=by omega
       have HOa:=hiD (fun W=>HOnce.out N[a] W)
       by_cases he:N[b]=N[a]
       case pos=>
        have hbt:(N[b]==N[a])=true:=beq_iff_eq.2 he
        cases ho:Cfg.onceN N[a]
        case true=>
         have hR3:R=(Cfg.zeroC,51,(a:Int)):=by
          have ht:Cfg.firstTw [] N 0=(a:Int):=by rw[AT.out];exact Cfg.firstTw_hit N a b hlt2 hltb he ho
          rw[HR2.out,ht,if_pos (by omega)]
         have HR3:=hiD hR3
         rw[ho] at HOa
         clear hR3 AM AT AJ AI ho
         rw[he] at d1
         clear he hbt
         generalize N[a]=x at *
         go_wp2_with fail
         go_quiet ((go_at_call 66;(first|exact x1_ (HOa.out _)|exact z4x_ (HOa.out _))))
         have HZ6:=HZ5.out.below (z0_ (z0_ (bR _ _) n') nq)
         have HB6:=hiD (z0_ (z0_ HB.out n') nq)
         have HZ7:=hiD HZ6
         obtain⟨⟨f0,f1,f2,f3,f4,f5,f6,f7,f8,f9,f10,f11⟩,r0,r1,r2,r3,r4,r5,r6,r7,r8,r9,r10,r11⟩:=z72_ HZ6
         clear HZ6
         generalize (wo.drewN n').drewN nq=wd at *
         go_wp2_with fail
         exact y3_ (c:=Cfg.zeroC) (ji_ (.string ⟨#[]⟩) (.string ⟨#[]⟩) (.string ⟨#[]⟩) (.int .i64 0) (.slice none 0 0) (.slice none 0 0) (.slice none 0 0) (.slice none 0 0) (.bool false) (.bool false) (.slice none 0 0) (.slice none 0 0) HZ7.out) rfl rfl rfl (zo_ (.string ⟨#[]⟩) (.string ⟨#[]⟩) (.string ⟨#[]⟩) (.int .i64 0) (.slice none 0 0) (.slice none 0 0) (.slice none 0 0) (.slice none 0 0) (.bool false) (.bool false) (.slice none 0 0) (.slice none 0 0) HB6.out (nR _)) (ju_ _) HR3.out
        case false=>
         rw[ho] at HOa
         have AM2:Aside (∀ i (hi:i<b+1) (hil:i<N.length),¬ (N[i]=N[a]∧Cfg.onceN N[a]=true)):=fun i hi hil hh=>by
          have:=hh.2
          rw[ho] at this
          cases this
         clear AM ho
         rw[he] at d1
         clear he hbt
         generalize N[a]=x at *
         go_wp2_with fail
         go_quiet ((go_at_call 66;(first|exact x1_ (HOa.out _)|exact z4x_ (HOa.out _))))
         go_wp2_with fail
         go_roundg qj
         case measure=>omega
         case rel=>exact⟨b+1,_,by omega,by go_num,by have:=AJ.out;show _=_;omega,rfl,AM2.out⟩
       case neg=>
        have hbt:(N[b]==N[a])=false:=beq_eq_false_iff_ne.2 he
        have AM2:Aside (∀ i (hi:i<b+1) (hil:i<N.length),¬ (N[i]=N[a]∧Cfg.onceN N[a]=true)):=fun i hi hil hh=>by
         by_cases hib:i=b
         ·subst hib;exact he hh.1
         ·exact AM.out i (by omega) hil hh
        clear AM
        generalize N[b]=y at *
        generalize N[a]=x at *
        go_wp2_with fail
        go_quiet (fail)
        go_wp2_with fail
        go_roundg qj
        case measure=>omega
        case rel=>exact⟨b+1,_,by omega,by go_num,by have:=AJ.out;show _=_;omega,rfl,AM2.out⟩
      case neg=>
       obtain rfl:b=a:=by omega
       have hba:¬ ((b:Int)<(b:Int)):=by omega
       have AT2:Aside (Cfg.firstTw [] N 0=Cfg.firstTw (N.take (b+1)).reverse (N.drop (b+1)) (b+1)):=by
        show _=_
        rw[AT.out]
        exact Cfg.firstTw_miss N b hlt2 (fun j hj=>AM.out j hj (by omega))
       clear AT AM
       go_wp2_with fail
       go_roundg qi
       case measure=>omega
       case rel=>exact⟨b+1,n',by omega,by go_num,by have:=AI.out;show _=_;omega,rfl,AT2.out⟩
    case neg=>
     obtain rfl:a=N.length:=by omega
     have ht:Cfg.firstTw [] N 0= -1:=by rw[AT.out,List.drop_length];rfl
     have HR4:Hid (R=(c,0,0)):=hiD (by rw[HR2.out,ht,if_neg (by omega)])
     have haa:¬ ((N.length:Int)<(N.length:Int)):=by omega
     obtain⟨⟨Xa,na,rfl⟩,⟨Xc,nc,rfl⟩,⟨Xl,nl,rfl⟩,⟨Xi,ni,rfl⟩,⟨Xr,nr,rfl⟩,⟨Xu,nu,rfl⟩⟩:=HC.out.slices
     have HC6:=hiD (HC.out.below (z0_ (bR _ _) n))
     have HZ6:=HZ5.out.below (z0_ (bR _ _) n)
     have HB6:=hiD (z0_ HB.out n)
     have HZ7:=hiD HZ6
     have hk:=HC6.out.bk
     obtain⟨_,k0,k1,k2,k3,k4,k5,k6,k7,k8,k9,k10,k11⟩:=z72_ hk
     obtain⟨⟨f0,f1,f2,f3,f4,f5,f6,f7,f8,f9,f10,f11⟩,r0,r1,r2,r3,r4,r5,r6,r7,r8,r9,r10,r11⟩:=z72_ HZ6
     clear HZ6 hk ht HR2 AT HC HB HZ5
     generalize wo.drewN n=wd at *
     go_wp2_with fail
     exact y3_ (c:=c) (ji_ (.string ⟨c.suffix.toArray⟩) (.string ⟨c.root.toArray⟩) (.string ⟨c.secret.toArray⟩) (.int .i64 c.size) (.slice Xa c.attrs.length na) (.slice Xc c.classes.length nc) (.slice Xl c.acls.length nl) (.slice Xi c.indexes.length ni) (.bool c.memberof) (.bool c.audit) (.slice Xr c.refs.length nr) (.slice Xu c.unique.length nu) HZ7.out) rfl rfl rfl (zo_ (.string ⟨c.suffix.toArray⟩) (.string ⟨c.root.toArray⟩) (.string ⟨c.secret.toArray⟩) (.int .i64 c.size) (.slice Xa c.attrs.length na) (.slice Xc c.classes.length nc) (.slice Xl c.acls.length nl) (.slice Xi c.indexes.length ni) (.bool c.memberof) (.bool c.audit) (.slice Xr c.refs.length nr) (.slice Xu c.unique.length nu) HB6.out (nR _)) (HC6.out.mid (ql_ (.string ⟨c.suffix.toArray⟩) (.string ⟨c.root.toArray⟩) (.string ⟨c.secret.toArray⟩) (.int .i64 c.size) (.slice Xa c.attrs.length na) (.slice Xc c.classes.length nc) (.slice Xl c.acls.length nl) (.slice Xi c.indexes.length ni) (.bool c.memberof) (.bool c.audit) (.slice Xr c.refs.length nr) (.slice Xu c.unique.length nu)) (by omega) (by omega)).reads HR4.out
theorem zjv_ (l:LL) (v:Value) (w:World) (hw:Env w) (hT:TextsA w v l) (hs:∀ s∈l,s.length≤3000000):Calls Tryz.prog 39 #[v] w (PRet w (Cfg.parseC l)):=by
 obtain⟨A,cp,rfl,_,hcell⟩:=hT.at
 by_cases h200:200<l.length
 ·exact z82_ l A cp w h200
 ·exact z8m_ l A cp w hw h200 hcell hs
end Go.Proofs.YtakfpngfpknedaaGreatDoor
