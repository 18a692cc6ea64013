import Derived.Test.YtakfpngfpknedaaGreatDoorE0y
set_option linter.all false
set_option maxHeartbeats 8000000
set_option maxRecDepth 100000
set_option linter.all false
namespace Go.Proofs.YtakfpngfpknedaaGreatDoor
open Go.RowKit
theorem zcx_ {ops:Array Oper} {rest:List Oper} {o:Oper} {a:Act} {Q:Exit→Act→World→Prop} {w:World} (hgd:o.guard=none) (s x:Operand) (ho:o.op= .call {callee:= .builtin .append,args:=#[s,x],argTypes:=#[23,23]})
  {v xv:Value} {xs ys:List Cfg.IndexE} {B:Nat} (hs:a.eval s=v) (hb:OwnI B w v xs)
  (hx:a.eval x=xv) (hy:IdxA w xv ys) (hlen:xs.length+ys.length<4398046511)
  (h:∀ v' w',OwnI B w' v' (xs++ys)→w.grownBy w' v.ownBlock→wpList Tryz.prog ops Q rest (a.put o.dst v') w'):wpList Tryz.prog ops Q (o::rest) a w:=by
 obtain⟨i,h1,h2,h3,h4⟩:=zib_
 rcases hy with ⟨rfl,rfl⟩|⟨b,k0,c,rfl,hc,hcell⟩
 ·refine wpList_append_own_none hgd s x 23 ho B 63 i 4 Tryz.underlying23 h1 v _ _ hs hb.1 hx ?_
  exact h v w (by simpa using hb) (World.grownBy.refl _ _)
 ·refine wpList_append_own _ hgd s x 23 ho B 63 i _ 4 24 Tryz.underlying23 h1 h2 h3 h4 rfl (by decide) v _ _ hs hb.1 ⟨b,k0,none⟩ ys.length c (ys.flatMap zr_) hx (z76_ ys) (fun j u hj=>by rw[ko_];exact hcell j u hj) ?_ (by unfold maxLen;omega) (by omega) hb.2 ?_
  ·intro u hu
   obtain⟨y,_,hu⟩:=List.mem_flatMap.1 hu
   simp only[zr_,List.mem_cons,List.not_mem_nil,or_false] at hu
   rcases hu with rfl|rfl|rfl|rfl<;>rfl
  ·intro v' w' ho' hg _
   exact h v' w' ⟨by simpa using ho',Nat.le_trans hb.2 hg.size⟩ hg
theorem zbh_ (w:World):OwnI w.heap.size (w.alloc (.cells #[] 63)) (.slice (some ⟨w.heap.size,0,none⟩) 0 0) []:=
 ⟨⟨rfl,.inr ⟨w.heap.size,0,#[],rfl,Nat.le_refl _,heap_alloc_new w _,Nat.le_refl _,by decide,rfl,rfl⟩⟩,by simp⟩
theorem OwnI.bel {B:Nat} {W w w':World} {v:Value} {xs:List Cfg.IndexE} (hb:Below B W w) (hO:OwnI B w v xs) (hg:w.grownBy w' v.ownBlock):Below B W w':=hb.grown hg hO.2 (fun k hk=>(hO.lt k hk).1)
set_option maxRecDepth 10000 in
theorem zgi_ (xs:List Cfg.IndexE) (v:Value) (w:World) (hv:IdxA w v xs) (hl:xs.length≤1000000):
  Calls Tryz.prog 27 #[v] w fun e w'=>∃ v',e= .returned v'∧OwnI w.heap.size w' v' xs∧Below w.heap.size w w':=by
 have hb0:Below w.heap.size w (w.alloc (.cells #[] 63)):=(Below.refl _ _).alloc (Nat.le_refl _) _
 have hv1:=hv.below hb0
 have ho:=zbh_ w
 have hq:=fun (a:Option Addr) (n c:Nat)=>Lib.run_eql_slice_nil (P:=Tryz.prog) w 23 63 a n c 0 0 Tryz.underlying23
 rcases id hv with ⟨rfl,rfl⟩|⟨b,o,c,rfl,hc,hx⟩
 ·go_enter Tryz.func27,Tryz.ntmps27
  go_wp2_with fail
  go_ret
  exact⟨_,rfl,OwnI.nil (Nat.le_refl _),Below.refl _ _⟩
 ·clear hx hv
  go_enter Tryz.func27,Tryz.ntmps27
  go_wp2_with (at_builtin;refine zcx_ rfl _ _ rfl rfl ho rfl hv1 (by simp;omega) ?_;intro v' w1 hO1 hg1)
  go_ret
  exact⟨_,rfl,by simpa using hO1,OwnI.bel hb0 ho hg1⟩
def z2k_ (c:Cfg.ConfE) (va vc vl vi vr vu:Value) (sv:Value) (sx rt:List UInt8):Array Value:=#[.string ⟨c.suffix.toArray⟩,.string ⟨c.root.toArray⟩,.string ⟨c.secret.toArray⟩,.int .i64 c.size,va,vc,vl,vi,.bool c.memberof,.bool c.audit,vr,vu,sv,.slice none 0 0,.string ⟨sx.toArray⟩,.string ⟨rt.toArray⟩]
def KeptT (w:World) (B:Nat) (W:World) (u:Value) (xs:List (List UInt8)):Prop:=Texts w u xs∨Own B W u xs
theorem KeptT.keep {w W W':World} {B:Nat} {u:Value} {xs:List (List UInt8)} {r:Option Nat} (h:KeptT w B W u xs) (hg:W.grownBy W' r) (hr:∀ k,r=some k→k<B):KeptT w B W' u xs:=by
 rcases h with h|h
 ·exact .inl h
 ·exact .inr (h.keep hg hr)
theorem KeptT.texts {w W:World} {B:Nat} {u:Value} {xs:List (List UInt8)} (h:KeptT w B W u xs) (hb:Below w.heap.size w W):Texts W u xs:=by
 rcases h with h|h
 ·exact h.below hb
 ·exact h.texts
theorem KeptT.isSlice {w W:World} {B:Nat} {u:Value} {xs:List (List UInt8)} (h:KeptT w B W u xs):∃ A n c,u= .slice A n c:=by
 rcases h with h|h
 ·exact h.isSlice
 ·exact h.texts.isSlice
theorem zfx_ {w W:World} {tmps:Array Value} {b:Nat} {c:Cfg.ConfE} {va vc vl vi vr vu:Value} (hz:Bk W b 25 (za_ c va vc vl vi vr vu)) (h2:tmps[2]?=some (.pointer (some ⟨b,0,none⟩))) (hb:Below w.heap.size w W) (hc:ConfT W (jw_ c va vc vl vi vr vu) c):
  bodyPost Tryz.prog Tryz.f10 (fun e w'=>Below w.heap.size w w'∧∃ v,e= .returned v∧ConfT w' v c) .ret {tmps:=tmps,defers:=[]} W:=by
 have e2:tmps[2]?.getD undef= .pointer (some ⟨b,0,none⟩):=by rw[h2];rfl
 have r0:=hz.cell 0
 have r1:=hz.cell 1
 have r2:=hz.cell 2
 have r3:=hz.cell 3
 have r4:=hz.cell 4
 have r5:=hz.cell 5
 have r6:=hz.cell 6
 have r7:=hz.cell 7
 have r8:=hz.cell 8
 have r9:=hz.cell 9
 have r10:=hz.cell 10
 have r11:=hz.cell 11
 simp only[za_,List.getElem?_toArray,List.getElem?_cons_zero,List.getElem?_cons_succ] at r0 r1 r2 r3 r4 r5 r6 r7 r8 r9 r10 r11
 refine bodyPost_ret (v:=jw_ c va vc vl vi vr vu) ?_ rfl ⟨hb,_,rfl,hc⟩
 unfold jw_ za_
 simp [results,Tryz.results10,go_sem,e2,r0,r1,r2,r3,r4,r5,r6,r7,r8,r9,r10,r11]
set_option maxRecDepth 100000 in
theorem Conf_c {w:World} {c:Cfg.ConfE} {va vc vl vi vr vu sv:Value} {cp:Nat} {sx rt:List UInt8} (h:Bk w cp 35 (z2k_ c va vc vl vi vr vu sv sx rt)) (hl:Few 1000000 c)
  (h1:Texts w va c.attrs) (h2:Texts w vc c.classes) (h3:Texts w vl c.acls) (h4:IdxA w vi c.indexes) (h5:Texts w vr c.refs) (h6:Texts w vu c.unique):
  Calls Tryz.prog 10 #[.pointer (some ⟨cp,0,none⟩)] w fun e w'=>Below w.heap.size w w'∧∃ v,e= .returned v∧ConfT w' v c:=by
 have HI:=Lib.hid h4
 have HT1:=Lib.hid h1
 have HT2:=Lib.hid h2
 have HT3:=Lib.hid h3
 have HT5:=Lib.hid h5
 have HT6:=Lib.hid h6
 obtain⟨Aa,na,ca,rfl⟩:=h1.isSlice
 obtain⟨Ac,nc,cc,rfl⟩:=h2.isSlice
 obtain⟨Al,nl,cl,rfl⟩:=h3.isSlice
 obtain⟨Ar,nr,cr,rfl⟩:=h5.isSlice
 obtain⟨Au,nu,cu,rfl⟩:=h6.isSlice
 obtain⟨Ai,ni,ci,rfl⟩:∃ A n k,vi= .slice A n k:=by
  rcases h4 with ⟨_,h⟩|⟨a,o,k,h,_⟩
  ·exact⟨_,_,_,h⟩
  ·exact⟨_,_,_,h⟩
 have HL:=Lib.hid hl
 have hlt:=h.lt
 have b0:=zs_ w (.cells #[.string ⟨#[]⟩,.string ⟨#[]⟩,.string ⟨#[]⟩,.int .i64 0,.slice none 0 0,.slice none 0 0,.slice none 0 0,.slice none 0 0,.bool false,.bool false,.slice none 0 0,.slice none 0 0] 25)
 have hz:=Bk.new w 25 #[.string ⟨#[]⟩,.string ⟨#[]⟩,.string ⟨#[]⟩,.int .i64 0,.slice none 0 0,.slice none 0 0,.slice none 0 0,.slice none 0 0,.bool false,.bool false,.slice none 0 0,.slice none 0 0]
 have p0:(w.alloc (.cells #[.string ⟨#[]⟩,.string ⟨#[]⟩,.string ⟨#[]⟩,.int .i64 0,.slice none 0 0,.slice none 0 0,.slice none 0 0,.slice none 0 0,.bool false,.bool false,.slice none 0 0,.slice none 0 0] 25)).cell? ⟨cp,0,none⟩=_:=(h.below b0).cell 0
 have p1:(w.alloc (.cells #[.string ⟨#[]⟩,.string ⟨#[]⟩,.string ⟨#[]⟩,.int .i64 0,.slice none 0 0,.slice none 0 0,.slice none 0 0,.slice none 0 0,.bool false,.bool false,.slice none 0 0,.slice none 0 0] 25)).cell? ⟨cp,1,none⟩=_:=(h.below b0).cell 1
 have p2:(w.alloc (.cells #[.string ⟨#[]⟩,.string ⟨#[]⟩,.string ⟨#[]⟩,.int .i64 0,.slice none 0 0,.slice none 0 0,.slice none 0 0,.slice none 0 0,.bool false,.bool false,.slice none 0 0,.slice none 0 0] 25)).cell? ⟨cp,2,none⟩=_:=(h.below b0).cell 2
 have p3:(w.alloc (.cells #[.string ⟨#[]⟩,.string ⟨#[]⟩,.string ⟨#[]⟩,.int .i64 0,.slice none 0 0,.slice none 0 0,.slice none 0 0,.slice none 0 0,.bool false,.bool false,.slice none 0 0,.slice none 0 0] 25)).cell? ⟨cp,3,none⟩=_:=(h.below b0).cell 3
 have p4:(w.alloc (.cells #[.string ⟨#[]⟩,.string ⟨#[]⟩,.string ⟨#[]⟩,.int .i64 0,.slice none 0 0,.slice none 0 0,.slice none 0 0,.slice none 0 0,.bool false,.bool false,.slice none 0 0,.slice none 0 0] 25)).cell? ⟨cp,4,none⟩=_:=(h.below b0).cell 4
 have p5:(w.alloc (.cells #[.string ⟨#[]⟩,.string ⟨#[]⟩,.string ⟨#[]⟩,.int .i64 0,.slice none 0 0,.slice none 0 0,.slice none 0 0,.slice none 0 0,.bool false,.bool false,.slice none 0 0,.slice none 0 0] 25)).cell? ⟨cp,5,none⟩=_:=(h.below b0).cell 5
 have p6:(w.alloc (.cells #[.string ⟨#[]⟩,.string ⟨#[]⟩,.string ⟨#[]⟩,.int .i64 0,.slice none 0 0,.slice none 0 0,.slice none 0 0,.slice none 0 0,.bool false,.bool false,.slice none 0 0,.slice none 0 0] 25)).cell? ⟨cp,6,none⟩=_:=(h.below b0).cell 6
 have p7:(w.alloc (.cells #[.string ⟨#[]⟩,.string ⟨#[]⟩,.string ⟨#[]⟩,.int .i64 0,.slice none 0 0,.slice none 0 0,.slice none 0 0,.slice none 0 0,.bool false,.bool false,.slice none 0 0,.slice none 0 0] 25)).cell? ⟨cp,7,none⟩=_:=(h.below b0).cell 7
 have p8:(w.alloc (.cells #[.string ⟨#[]⟩,.string ⟨#[]⟩,.string ⟨#[]⟩,.int .i64 0,.slice none 0 0,.slice none 0 0,.slice none 0 0,.slice none 0 0,.bool false,.bool false,.slice none 0 0,.slice none 0 0] 25)).cell? ⟨cp,8,none⟩=_:=(h.below b0).cell 8
 have p9:(w.alloc (.cells #[.string ⟨#[]⟩,.string ⟨#[]⟩,.string ⟨#[]⟩,.int .i64 0,.slice none 0 0,.slice none 0 0,.slice none 0 0,.slice none 0 0,.bool false,.bool false,.slice none 0 0,.slice none 0 0] 25)).cell? ⟨cp,9,none⟩=_:=(h.below b0).cell 9
 have p10:(w.alloc (.cells #[.string ⟨#[]⟩,.string ⟨#[]⟩,.string ⟨#[]⟩,.int .i64 0,.slice none 0 0,.slice none 0 0,.slice none 0 0,.slice none 0 0,.bool false,.bool false,.slice none 0 0,.slice none 0 0] 25)).cell? ⟨cp,10,none⟩=_:=(h.below b0).cell 10
 have p11:(w.alloc (.cells #[.string ⟨#[]⟩,.string ⟨#[]⟩,.string ⟨#[]⟩,.int .i64 0,.slice none 0 0,.slice none 0 0,.slice none 0 0,.slice none 0 0,.bool false,.bool false,.slice none 0 0,.slice none 0 0] 25)).cell? ⟨cp,11,none⟩=_:=(h.below b0).cell 11
 simp only[z2k_,List.getElem?_toArray,List.getElem?_cons_zero,List.getElem?_cons_succ] at p0 p1 p2 p3 p4 p5 p6 p7 p8 p9 p10 p11
 have HZ:=Lib.hid hz
 have HB:=Lib.hid b0
 clear h1 h2 h3 h4 h5 h6 h b0 hz hl
 go_enter Tryz.func10,Tryz.ntmps10
 go_upto_region 4 with fail
 have hk1:=Bk.new (w.alloc (.cells #[.string ⟨#[]⟩,.string ⟨#[]⟩,.string ⟨#[]⟩,.int .i64 0,.slice none 0 0,.slice none 0 0,.slice none 0 0,.slice none 0 0,.bool false,.bool false,.slice none 0 0,.slice none 0 0] 25)) 25 #[.string ⟨c.suffix.toArray⟩,.string ⟨c.root.toArray⟩,.string ⟨c.secret.toArray⟩,.int .i64 c.size,.slice Aa na ca,.slice Ac nc cc,.slice Al nl cl,.slice Ai ni ci,.bool c.memberof,.bool c.audit,.slice Ar nr cr,.slice Au nu cu]
 rw[World.size_alloc] at hk1
 have b1:=HB.out.alloc HB.out.size (.cells #[.string ⟨c.suffix.toArray⟩,.string ⟨c.root.toArray⟩,.string ⟨c.secret.toArray⟩,.int .i64 c.size,.slice Aa na ca,.slice Ac nc cc,.slice Al nl cl,.slice Ai ni ci,.bool c.memberof,.bool c.audit,.slice Ar nr cr,.slice Au nu cu] 25)
 have hz1:=HZ.out.alloc (.cells #[.string ⟨c.suffix.toArray⟩,.string ⟨c.root.toArray⟩,.string ⟨c.secret.toArray⟩,.int .i64 c.size,.slice Aa na ca,.slice Ac nc cc,.slice Al nl cl,.slice Ai ni ci,.bool c.memberof,.bool c.audit,.slice Ar nr cr,.slice Au nu cu] 25)
 clear p0 p1 p2 p3 p4 p5 p6 p7 p8 p9 p10 p11 HZ HB
 generalize (w.alloc (.cells #[.string ⟨#[]⟩,.string ⟨#[]⟩,.string ⟨#[]⟩,.int .i64 0,.slice none 0 0,.slice none 0 0,.slice none 0 0,.slice none 0 0,.bool false,.bool false,.slice none 0 0,.slice none 0 0] 25)).alloc (.cells #[.string ⟨c.suffix.toArray⟩,.string ⟨c.root.toArray⟩,.string ⟨c.secret.toArray⟩,.int .i64 c.size,.slice Aa na ca,.slice Ac nc cc,.slice Al nl cl,.slice Ai ni ci,.bool c.memberof,.bool c.audit,.slice Ar nr cr,.slice Au nu cu] 25)=w1 at *
 have b2:=zs_ w1 (.cells #[.pointer (some ⟨w.heap.size+1,4,none⟩),.pointer (some ⟨w.heap.size+1,5,none⟩),.pointer (some ⟨w.heap.size+1,6,none⟩),.pointer (some ⟨w.heap.size+1,10,none⟩),.pointer (some ⟨w.heap.size+1,11,none⟩)] 64)
 have hps:=Bk.new w1 64 #[.pointer (some ⟨w.heap.size+1,4,none⟩),.pointer (some ⟨w.heap.size+1,5,none⟩),.pointer (some ⟨w.heap.size+1,6,none⟩),.pointer (some ⟨w.heap.size+1,10,none⟩),.pointer (some ⟨w.heap.size+1,11,none⟩)]
 have HP:=Lib.hid hps
 have HK:=Lib.hid (hk1.below b2)
 have HZ:=Lib.hid (hz1.below b2)
 have HB:=Lib.hid (b1.trans (b2.mono b1.size))
 have hpl:=hk1.lt
 clear hk1 b1 hz1 b2 hps
 go_wp2_with fail
 generalize w1.alloc (.cells #[.pointer (some ⟨w.heap.size+1,4,none⟩),.pointer (some ⟨w.heap.size+1,5,none⟩),.pointer (some ⟨w.heap.size+1,6,none⟩),.pointer (some ⟨w.heap.size+1,10,none⟩),.pointer (some ⟨w.heap.size+1,11,none⟩)] 64)=w2 at *
 generalize w1.heap.size=ps at *
 go_loopg [20] 5 (fun gk ix wr=>∃ (k:Nat) (ua uc ul ur uu:Value),k≤5∧ix= .int .i64 (k:Int)∧Aside (k+gk=5)∧Aside (Below w.heap.size w wr)∧Aside (Bk wr w.heap.size 25 #[.string ⟨#[]⟩,.string ⟨#[]⟩,.string ⟨#[]⟩,.int .i64 0,.slice none 0 0,.slice none 0 0,.slice none 0 0,.slice none 0 0,.bool false,.bool false,.slice none 0 0,.slice none 0 0])∧Aside (Bk wr (w.heap.size+1) 25 #[.string ⟨c.suffix.toArray⟩,.string ⟨c.root.toArray⟩,.string ⟨c.secret.toArray⟩,.int .i64 c.size,ua,uc,ul,.slice Ai ni ci,.bool c.memberof,.bool c.audit,ur,uu])∧Aside (Bk wr ps 64 #[.pointer (some ⟨w.heap.size+1,4,none⟩),.pointer (some ⟨w.heap.size+1,5,none⟩),.pointer (some ⟨w.heap.size+1,6,none⟩),.pointer (some ⟨w.heap.size+1,10,none⟩),.pointer (some ⟨w.heap.size+1,11,none⟩)])∧Aside (KeptT w (ps+1) wr ua c.attrs∧KeptT w (ps+1) wr uc c.classes∧KeptT w (ps+1) wr ul c.acls∧KeptT w (ps+1) wr ur c.refs∧KeptT w (ps+1) wr uu c.unique))
 case atStart=>exact⟨0,_,_,_,_,_,by omega,rfl,rfl,HB.out,HZ.out,HK.out,HP.out,.inl HT1.out,.inl HT2.out,.inl HT3.out,.inl HT5.out,.inl HT6.out⟩
 case round=>
 clear HB HZ HK HP
 obtain⟨k,ua,uc,ul,ur,uu,hk,rfl,AG,AB,AZ,AK,AP,AT⟩:=hrel
 have HB:=Lib.hid AB.out
 have HZ:=Lib.hid AZ.out
 have HK:=Lib.hid AK.out
 have HP:=Lib.hid AP.out
 have HT:=Lib.hid AT.out
 clear AB AZ AK AP AT
 have hpn:=HP.out.lt
 by_cases hk5:k<5
 case pos=>
  obtain⟨g,rfl⟩:∃ g,gk=g+1:=⟨gk - 1,by have:=AG.out;omega⟩
  have hkc:k=0∨k=1∨k=2∨k=3∨k=4:=by omega
  rcases hkc with rfl|rfl|rfl|rfl|rfl
  ·obtain⟨A4,n4,c4,rfl⟩:=HT.out.1.isSlice
   have HCl:=Lib.hid (yg_ c.attrs _ wr (HT.out.1.texts HB.out) HL.out.1)
   have x0:=HP.out.cell 0
   have x1:=HK.out.cell 4
   simp only[List.getElem?_toArray,List.getElem?_cons_zero,List.getElem?_cons_succ] at x0 x1
   go_wp2_with (go_at_call 26;(with_reducible refine HCl.out.mono ?_);rintro e w5 ⟨v5,rfl,hO,hb⟩;obtain⟨A5,c5,rfl,_⟩:=hO.isSlice;have k5:=HK.out.below hb;have f5:=k5.frozen 4;have q5:=k5.cell 4;simp only[List.getElem?_toArray,List.getElem?_cons_zero,List.getElem?_cons_succ] at q5;have HK5:=Lib.hid k5;have HO5:=Lib.hid hO;have HB5:=Lib.hid hb;clear hO hb k5)
   go_roundg g
   case measure=>omega
   case rel=>exact⟨1,(.slice A5 c.attrs.length c5),uc,ul,ur,uu,by omega,by go_num,by have:=AG.out;show _=_;omega,(HB.out.trans (HB5.out.mono HB.out.size)).setCell (p:=⟨w.heap.size+1,4,none⟩) (Nat.le_succ _) _,(HZ.out.below HB5.out).far (by omega) _,by show Bk _ _ _ _;simpa using HK5.out.set 4 (.slice A5 c.attrs.length c5),(HP.out.below HB5.out).far (by omega) _,.inr ((HO5.out.lower (B':=ps+1) (by omega)).keep (z5_ _ _ _ _) (fun k hk=>by cases hk;omega)),((HT.out.2.1.keep (z1_ HB5.out none) (fun k hk=>by cases hk)).keep (z5_ _ _ _ _) (fun k hk=>by cases hk;omega)),((HT.out.2.2.1.keep (z1_ HB5.out none) (fun k hk=>by cases hk)).keep (z5_ _ _ _ _) (fun k hk=>by cases hk;omega)),((HT.out.2.2.2.1.keep (z1_ HB5.out none) (fun k hk=>by cases hk)).keep (z5_ _ _ _ _) (fun k hk=>by cases hk;omega)),((HT.out.2.2.2.2.keep (z1_ HB5.out none) (fun k hk=>by cases hk)).keep (z5_ _ _ _ _) (fun k hk=>by cases hk;omega))⟩
  ·obtain⟨A4,n4,c4,rfl⟩:=HT.out.2.1.isSlice
   have HCl:=Lib.hid (yg_ c.classes _ wr (HT.out.2.1.texts HB.out) HL.out.2.1)
   have x0:=HP.out.cell 1
   have x1:=HK.out.cell 5
   simp only[List.getElem?_toArray,List.getElem?_cons_zero,List.getElem?_cons_succ] at x0 x1
   go_wp2_with (go_at_call 26;(with_reducible refine HCl.out.mono ?_);rintro e w5 ⟨v5,rfl,hO,hb⟩;obtain⟨A5,c5,rfl,_⟩:=hO.isSlice;have k5:=HK.out.below hb;have f5:=k5.frozen 5;have q5:=k5.cell 5;simp only[List.getElem?_toArray,List.getElem?_cons_zero,List.getElem?_cons_succ] at q5;have HK5:=Lib.hid k5;have HO5:=Lib.hid hO;have HB5:=Lib.hid hb;clear hO hb k5)
   go_roundg g
   case measure=>omega
   case rel=>exact⟨2,ua,(.slice A5 c.classes.length c5),ul,ur,uu,by omega,by go_num,by have:=AG.out;show _=_;omega,(HB.out.trans (HB5.out.mono HB.out.size)).setCell (p:=⟨w.heap.size+1,5,none⟩) (Nat.le_succ _) _,(HZ.out.below HB5.out).far (by omega) _,by show Bk _ _ _ _;simpa using HK5.out.set 5 (.slice A5 c.classes.length c5),(HP.out.below HB5.out).far (by omega) _,((HT.out.1.keep (z1_ HB5.out none) (fun k hk=>by cases hk)).keep (z5_ _ _ _ _) (fun k hk=>by cases hk;omega)),.inr ((HO5.out.lower (B':=ps+1) (by omega)).keep (z5_ _ _ _ _) (fun k hk=>by cases hk;omega)),((HT.out.2.2.1.keep (z1_ HB5.out none) (fun k hk=>by cases hk)).keep (z5_ _ _ _ _) (fun k hk=>by cases hk;omega)),((HT.out.2.2.2.1.keep (z1_ HB5.out none) (fun k hk=>by cases hk)).keep (z5_ _ _ _ _) (fun k hk=>by cases hk;omega)),((HT.out.2.2.2.2.keep (z1_ HB5.out none) (fun k hk=>by cases hk)).keep (z5_ _ _ _ _) (fun k hk=>by cases hk;omega))⟩
  ·obtain⟨A4,n4,c4,rfl⟩:=HT.out.2.2.1.isSlice
   have HCl:=Lib.hid (yg_ c.acls _ wr (HT.out.2.2.1.texts HB.out) HL.out.2.2.1)
   have x0:=HP.out.cell 2
   have x1:=HK.out.cell 6
   simp only[List.getElem?_toArray,List.getElem?_cons_zero,List.getElem?_cons_succ] at x0 x1
   go_wp2_with (go_at_call 26;(with_reducible refine HCl.out.mono ?_);rintro e w5 ⟨v5,rfl,hO,hb⟩;obtain⟨A5,c5,rfl,_⟩:=hO.isSlice;have k5:=HK.out.below hb;have f5:=k5.frozen 6;have q5:=k5.cell 6;simp only[List.getElem?_toArray,List.getElem?_cons_zero,List.getElem?_cons_succ] at q5;have HK5:=Lib.hid k5;have HO5:=Lib.hid hO;have HB5:=Lib.hid hb;clear hO hb k5)
   go_roundg g
   case measure=>omega
   case rel=>exact⟨3,ua,uc,(.slice A5 c.acls.length c5),ur,uu,by omega,by go_num,by have:=AG.out;show _=_;omega,(HB.out.trans (HB5.out.mono HB.out.size)).setCell (p:=⟨w.heap.size+1,6,none⟩) (Nat.le_succ _) _,(HZ.out.below HB5.out).far (by omega) _,by show Bk _ _ _ _;simpa using HK5.out.set 6 (.slice A5 c.acls.length c5),(HP.out.below HB5.out).far (by omega) _,((HT.out.1.keep (z1_ HB5.out none) (fun k hk=>by cases hk)).keep (z5_ _ _ _ _) (fun k hk=>by cases hk;omega)),((HT.out.2.1.keep (z1_ HB5.out none) (fun k hk=>by cases hk)).keep (z5_ _ _ _ _) (fun k hk=>by cases hk;omega)),.inr ((HO5.out.lower (B':=ps+1) (by omega)).keep (z5_ _ _ _ _) (fun k hk=>by cases hk;omega)),((HT.out.2.2.2.1.keep (z1_ HB5.out none) (fun k hk=>by cases hk)).keep (z5_ _ _ _ _) (fun k hk=>by cases hk;omega)),((HT.out.2.2.2.2.keep (z1_ HB5.out none) (fun k hk=>by cases hk)).keep (z5_ _ _ _ _) (fun k hk=>by cases hk;omega))⟩
  ·obtain⟨A4,n4,c4,rfl⟩:=HT.out.2.2.2.1.isSlice
   have HCl:=Lib.hid (yg_ c.refs _ wr (HT.out.2.2.2.1.texts HB.out) HL.out.2.2.2.2.1)
   have x0:=HP.out.cell 3
   have x1:=HK.out.cell 10
   simp only[List.getElem?_toArray,List.getElem?_cons_zero,List.getElem?_cons_succ] at x0 x1
   go_wp2_with (go_at_call 26;(with_reducible refine HCl.out.mono ?_);rintro e w5 ⟨v5,rfl,hO,hb⟩;obtain⟨A5,c5,rfl,_⟩:=hO.isSlice;have k5:=HK.out.below hb;have f5:=k5.frozen 10;have q5:=k5.cell 10;simp only[List.getElem?_toArray,List.getElem?_cons_zero,List.getElem?_cons_succ] at q5;have HK5:=Lib.hid k5;have HO5:=Lib.hid hO;have HB5:=Lib.hid hb;clear hO hb k5)
   go_roundg g
   case measure=>omega
   case rel=>exact⟨4,ua,uc,ul,(.slice A5 c.refs.length c5),uu,by omega,by go_num,by have:=AG.out;show _=_;omega,(HB.out.trans (HB5.out.mono HB.out.size)).setCell (p:=⟨w.heap.size+1,10,none⟩) (Nat.le_succ _) _,(HZ.out.below HB5.out).far (by omega) _,by show Bk _ _ _ _;simpa using HK5.out.set 10 (.slice A5 c.refs.length c5),(HP.out.below HB5.out).far (by omega) _,((HT.out.1.keep (z1_ HB5.out none) (fun k hk=>by cases hk)).keep (z5_ _ _ _ _) (fun k hk=>by cases hk;omega)),((HT.out.2.1.keep (z1_ HB5.out none) (fun k hk=>by cases hk)).keep (z5_ _ _ _ _) (fun k hk=>by cases hk;omega)),((HT.out.2.2.1.keep (z1_ HB5.out none) (fun k hk=>by cases hk)).keep (z5_ _ _ _ _) (fun k hk=>by cases hk;omega)),.inr ((HO5.out.lower (B':=ps+1) (by omega)).keep (z5_ _ _ _ _) (fun k hk=>by cases hk;omega)),((HT.out.2.2.2.2.keep (z1_ HB5.out none) (fun k hk=>by cases hk)).keep (z5_ _ _ _ _) (fun k hk=>by cases hk;omega))⟩
  ·obtain⟨A4,n4,c4,rfl⟩:=HT.out.2.2.2.2.isSlice
   have HCl:=Lib.hid (yg_ c.unique _ wr (HT.out.2.2.2.2.texts HB.out) HL.out.2.2.2.2.2)
   have x0:=HP.out.cell 4
   have x1:=HK.out.cell 11
   simp only[List.getElem?_toArray,List.getElem?_cons_zero,List.getElem?_cons_succ] at x0 x1
   go_wp2_with (go_at_call 26;(with_reducible refine HCl.out.mono ?_);rintro e w5 ⟨v5,rfl,hO,hb⟩;obtain⟨A5,c5,rfl,_⟩:=hO.isSlice;have k5:=HK.out.below hb;have f5:=k5.frozen 11;have q5:=k5.cell 11;simp only[List.getElem?_toArray,List.getElem?_cons_zero,List.getElem?_cons_succ] at q5;have HK5:=Lib.hid k5;have HO5:=Lib.hid hO;have HB5:=Lib.hid hb;clear hO hb k5)
   go_roundg g
   case measure=>omega
   case rel=>exact⟨5,ua,uc,ul,ur,(.slice A5 c.unique.length c5),by omega,by go_num,by have:=AG.out;show _=_;omega,(HB.out.trans (HB5.out.mono HB.out.size)).setCell (p:=⟨w.heap.size+1,11,none⟩) (Nat.le_succ _) _,(HZ.out.below HB5.out).far (by omega) _,by show Bk _ _ _ _;simpa using HK5.out.set 11 (.slice A5 c.unique.length c5),(HP.out.below HB5.out).far (by omega) _,((HT.out.1.keep (z1_ HB5.out none) (fun k hk=>by cases hk)).keep (z5_ _ _ _ _) (fun k hk=>by cases hk;omega)),((HT.out.2.1.keep (z1_ HB5.out none) (fun k hk=>by cases hk)).keep (z5_ _ _ _ _) (fun k hk=>by cases hk;omega)),((HT.out.2.2.1.keep (z1_ HB5.out none) (fun k hk=>by cases hk)).keep (z5_ _ _ _ _) (fun k hk=>by cases hk;omega)),((HT.out.2.2.2.1.keep (z1_ HB5.out none) (fun k hk=>by cases hk)).keep (z5_ _ _ _ _) (fun k hk=>by cases hk;omega)),.inr ((HO5.out.lower (B':=ps+1) (by omega)).keep (z5_ _ _ _ _) (fun k hk=>by cases hk;omega))⟩
 case neg=>
 obtain rfl:k=5:=by omega
 obtain⟨Ba,ma,da,rfl⟩:=HT.out.1.isSlice
 obtain⟨Bc,mc,dc,rfl⟩:=HT.out.2.1.isSlice
 obtain⟨Bl,ml,dl,rfl⟩:=HT.out.2.2.1.isSlice
 obtain⟨Br,mr,dr,rfl⟩:=HT.out.2.2.2.1.isSlice
 obtain⟨Bu,mu,du,rfl⟩:=HT.out.2.2.2.2.isSlice
 have HCi:=Lib.hid (zgi_ c.indexes _ wr (HI.out.below HB.out) HL.out.2.2.2.1)
 have x7:=HK.out.cell 7
 simp only[List.getElem?_toArray,List.getElem?_cons_zero,List.getElem?_cons_succ] at x7
 go_upto_region 10 with (go_at_call 27;(with_reducible refine HCi.out.mono ?_);rintro e w5 ⟨v5,rfl,hO,hb⟩;obtain⟨A5,c5,rfl,_⟩:=hO.isSlice;have k5:=HK.out.below hb;have f5:=k5.frozen 7;have q5:=k5.cell 7;simp only[List.getElem?_toArray,List.getElem?_cons_zero,List.getElem?_cons_succ] at q5;have HK5:=Lib.hid k5;have HO5:=Lib.hid hO;have HB5:=Lib.hid hb;clear hO hb k5)
 have HB6:=Lib.hid ((HB.out.trans (HB5.out.mono HB.out.size)).setCell (p:=⟨w.heap.size+1,7,none⟩) (Nat.le_succ _) (.slice A5 c.indexes.length c5))
 have HZ6:=Lib.hid ((HZ.out.below HB5.out).far (i:=7) (show w.heap.size≠w.heap.size+1 by omega) (.slice A5 c.indexes.length c5))
 have HK6:=Lib.hid (HK5.out.set 7 (.slice A5 c.indexes.length c5))
 have HO6:=Lib.hid ((HO5.out).keep (z5_ _ (w.heap.size+1) 7 (.slice A5 c.indexes.length c5)) (fun k hk=>by cases hk;omega))
 have HT0':=Lib.hid ((HT.out.1.keep (z1_ HB5.out none) (fun k hk=>by cases hk)).keep (z5_ _ (w.heap.size+1) 7 (.slice A5 c.indexes.length c5)) (fun k hk=>by cases hk;omega))
 have HT1':=Lib.hid ((HT.out.2.1.keep (z1_ HB5.out none) (fun k hk=>by cases hk)).keep (z5_ _ (w.heap.size+1) 7 (.slice A5 c.indexes.length c5)) (fun k hk=>by cases hk;omega))
 have HT2':=Lib.hid ((HT.out.2.2.1.keep (z1_ HB5.out none) (fun k hk=>by cases hk)).keep (z5_ _ (w.heap.size+1) 7 (.slice A5 c.indexes.length c5)) (fun k hk=>by cases hk;omega))
 have HT3':=Lib.hid ((HT.out.2.2.2.1.keep (z1_ HB5.out none) (fun k hk=>by cases hk)).keep (z5_ _ (w.heap.size+1) 7 (.slice A5 c.indexes.length c5)) (fun k hk=>by cases hk;omega))
 have HT4':=Lib.hid ((HT.out.2.2.2.2.keep (z1_ HB5.out none) (fun k hk=>by cases hk)).keep (z5_ _ (w.heap.size+1) 7 (.slice A5 c.indexes.length c5)) (fun k hk=>by cases hk;omega))
 clear HB HZ HK HP HT HB5 HK5 HO5 HCi x7 f5 q5
 generalize w5.setCell ⟨w.heap.size+1,7,none⟩ (.slice A5 c.indexes.length c5)=w6 at *
 simp only[List.setIfInBounds_toArray,List.set_cons_zero,List.set_cons_succ] at HK6
 have hz:=HZ6.out
 have hk6:=HK6.out
 have f0:=hz.frozen 0
 have f1:=hz.frozen 1
 have f2:=hz.frozen 2
 have f3:=hz.frozen 3
 have f4:=hz.frozen 4
 have f5:=hz.frozen 5
 have f6:=hz.frozen 6
 have f7:=hz.frozen 7
 have f8:=hz.frozen 8
 have f9:=hz.frozen 9
 have f10:=hz.frozen 10
 have f11:=hz.frozen 11
 have r0:=hz.cell 0
 have r1:=hz.cell 1
 have r2:=hz.cell 2
 have r3:=hz.cell 3
 have r4:=hz.cell 4
 have r5:=hz.cell 5
 have r6:=hz.cell 6
 have r7:=hz.cell 7
 have r8:=hz.cell 8
 have r9:=hz.cell 9
 have r10:=hz.cell 10
 have r11:=hz.cell 11
 simp only[za_,List.getElem?_toArray,List.getElem?_cons_zero,List.getElem?_cons_succ] at r0 r1 r2 r3 r4 r5 r6 r7 r8 r9 r10 r11
 have k0:=hk6.cell 0
 have k1:=hk6.cell 1
 have k2:=hk6.cell 2
 have k3:=hk6.cell 3
 have k4:=hk6.cell 4
 have k5:=hk6.cell 5
 have k6:=hk6.cell 6
 have k7:=hk6.cell 7
 have k8:=hk6.cell 8
 have k9:=hk6.cell 9
 have k10:=hk6.cell 10
 have k11:=hk6.cell 11
 simp only[za_,List.getElem?_toArray,List.getElem?_cons_zero,List.getElem?_cons_succ] at k0 k1 k2 k3 k4 k5 k6 k7 k8 k9 k10 k11
 clear hz hk6
 go_wp2_with fail
 exact zfx_ (c:=c) (ji_ (.string ⟨c.suffix.toArray⟩) (.string ⟨c.root.toArray⟩) (.string ⟨c.secret.toArray⟩) (.int .i64 c.size) (.slice Ba ma da) (.slice Bc mc dc) (.slice Bl ml dl) (.slice A5 c.indexes.length c5) (.bool c.memberof) (.bool c.audit) (.slice Br mr dr) (.slice Bu mu du) HZ6.out) rfl (zo_ (.string ⟨c.suffix.toArray⟩) (.string ⟨c.root.toArray⟩) (.string ⟨c.secret.toArray⟩) (.int .i64 c.size) (.slice Ba ma da) (.slice Bc mc dc) (.slice Bl ml dl) (.slice A5 c.indexes.length c5) (.bool c.memberof) (.bool c.audit) (.slice Br mr dr) (.slice Bu mu du) HB6.out (Nat.le_refl _)) ⟨_,_,_,_,_,_,rfl,(HT0'.out.keep (ql_ (.string ⟨c.suffix.toArray⟩) (.string ⟨c.root.toArray⟩) (.string ⟨c.secret.toArray⟩) (.int .i64 c.size) (.slice Ba ma da) (.slice Bc mc dc) (.slice Bl ml dl) (.slice A5 c.indexes.length c5) (.bool c.memberof) (.bool c.audit) (.slice Br mr dr) (.slice Bu mu du)) (fun k hk=>by cases hk;omega)).texts (zo_ (.string ⟨c.suffix.toArray⟩) (.string ⟨c.root.toArray⟩) (.string ⟨c.secret.toArray⟩) (.int .i64 c.size) (.slice Ba ma da) (.slice Bc mc dc) (.slice Bl ml dl) (.slice A5 c.indexes.length c5) (.bool c.memberof) (.bool c.audit) (.slice Br mr dr) (.slice Bu mu du) HB6.out (Nat.le_refl _)),(HT1'.out.keep (ql_ (.string ⟨c.suffix.toArray⟩) (.string ⟨c.root.toArray⟩) (.string ⟨c.secret.toArray⟩) (.int .i64 c.size) (.slice Ba ma da) (.slice Bc mc dc) (.slice Bl ml dl) (.slice A5 c.indexes.length c5) (.bool c.memberof) (.bool c.audit) (.slice Br mr dr) (.slice Bu mu du)) (fun k hk=>by cases hk;omega)).texts (zo_ (.string ⟨c.suffix.toArray⟩) (.string ⟨c.root.toArray⟩) (.string ⟨c.secret.toArray⟩) (.int .i64 c.size) (.slice Ba ma da) (.slice Bc mc dc) (.slice Bl ml dl) (.slice A5 c.indexes.length c5) (.bool c.memberof) (.bool c.audit) (.slice Br mr dr) (.slice Bu mu du) HB6.out (Nat.le_refl _)),(HT2'.out.keep (ql_ (.string ⟨c.suffix.toArray⟩) (.string ⟨c.root.toArray⟩) (.string ⟨c.secret.toArray⟩) (.int .i64 c.size) (.slice Ba ma da) (.slice Bc mc dc) (.slice Bl ml dl) (.slice A5 c.indexes.length c5) (.bool c.memberof) (.bool c.audit) (.slice Br mr dr) (.slice Bu mu du)) (fun k hk=>by cases hk;omega)).texts (zo_ (.string ⟨c.suffix.toArray⟩) (.string ⟨c.root.toArray⟩) (.string ⟨c.secret.toArray⟩) (.int .i64 c.size) (.slice Ba ma da) (.slice Bc mc dc) (.slice Bl ml dl) (.slice A5 c.indexes.length c5) (.bool c.memberof) (.bool c.audit) (.slice Br mr dr) (.slice Bu mu du) HB6.out (Nat.le_refl _)),(HO6.out.keep (ql_ (.string ⟨c.suffix.toArray⟩) (.string ⟨c.root.toArray⟩) (.string ⟨c.secret.toArray⟩) (.int .i64 c.size) (.slice Ba ma da) (.slice Bc mc dc) (.slice Bl ml dl) (.slice A5 c.indexes.length c5) (.bool c.memberof) (.bool c.audit) (.slice Br mr dr) (.slice Bu mu du)) (fun k hk=>by cases hk;omega)).idxA,(HT3'.out.keep (ql_ (.string ⟨c.suffix.toArray⟩) (.string ⟨c.root.toArray⟩) (.string ⟨c.secret.toArray⟩) (.int .i64 c.size) (.slice Ba ma da) (.slice Bc mc dc) (.slice Bl ml dl) (.slice A5 c.indexes.length c5) (.bool c.memberof) (.bool c.audit) (.slice Br mr dr) (.slice Bu mu du)) (fun k hk=>by cases hk;omega)).texts (zo_ (.string ⟨c.suffix.toArray⟩) (.string ⟨c.root.toArray⟩) (.string ⟨c.secret.toArray⟩) (.int .i64 c.size) (.slice Ba ma da) (.slice Bc mc dc) (.slice Bl ml dl) (.slice A5 c.indexes.length c5) (.bool c.memberof) (.bool c.audit) (.slice Br mr dr) (.slice Bu mu du) HB6.out (Nat.le_refl _)),(HT4'.out.keep (ql_ (.string ⟨c.suffix.toArray⟩) (.string ⟨c.root.toArray⟩) (.string ⟨c.secret.toArray⟩) (.int .i64 c.size) (.slice Ba ma da) (.slice Bc mc dc) (.slice Bl ml dl) (.slice A5 c.indexes.length c5) (.bool c.memberof) (.bool c.audit) (.slice Br mr dr) (.slice Bu mu du)) (fun k hk=>by cases hk;omega)).texts (zo_ (.string ⟨c.suffix.toArray⟩) (.string ⟨c.root.toArray⟩) (.string ⟨c.secret.toArray⟩) (.int .i64 c.size) (.slice Ba ma da) (.slice Bc mc dc) (.slice Bl ml dl) (.slice A5 c.indexes.length c5) (.bool c.memberof) (.bool c.audit) (.slice Br mr dr) (.slice Bu mu du) HB6.out (Nat.le_refl _))⟩
end Go.Proofs.YtakfpngfpknedaaGreatDoor
