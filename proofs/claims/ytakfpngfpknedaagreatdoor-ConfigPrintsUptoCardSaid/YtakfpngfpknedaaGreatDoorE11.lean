import Derived.Test.YtakfpngfpknedaaGreatDoorE10
set_option linter.all false
set_option maxHeartbeats 8000000
set_option maxRecDepth 100000
set_option linter.all false
namespace Go.Proofs.YtakfpngfpknedaaGreatDoor
open Go.RowKit
def zju_:Cfg.ConfE:=⟨[68,67,61,90],[],[],10,[],[],[],[⟨[99,110],true,false,true⟩],false,false,[],[]⟩
def ixA:Cfg.IndexE:=⟨[99,110],true,false,true⟩
section
variable {ops:Array Oper} {o:Oper} {a:Act} {K:Act→World→Prop} {Q:Exit→Act→World→Prop} {E:Prop}
theorem z68_ {w:World} (hgd:o.guard=none) (s x:Operand) (ho:o.op= .call {callee:= .builtin .append,args:=#[s,x],argTypes:=#[22,22]})
  {g n c:Nat} {A:Option Addr} (hs:a.eval s= .slice (some ⟨g,0,none⟩) n n) (hx:a.eval x= .slice A 0 c)
  (h:K (a.put o.dst (.slice (some ⟨g,0,none⟩) n n)) w):
  if Region.wanted o (yielded ops a.tmps)=true then Oper.wp Tryz.prog o a w K Q else E:=by
 obtain⟨i,h1,h2,h3,h4⟩:=xu_
 have hw:Region.wanted o (yielded ops a.tmps)=true:=by simp [Region.wanted,hgd]
 rw[if_pos hw]
 have hr:(Builtin.append_ #[22,22] o.type #[.slice (some ⟨g,0,none⟩) n n,.slice A 0 c]).run Tryz.prog w= .ok (.slice (some ⟨g,0,none⟩) n n) w:=by
  have hl:∀ b:Addr,(loadCells b 0).run Tryz.prog w= .ok #[] w:=fun b=>by first|rfl|simp [loadCells]|kernel_rfl
  cases A<;>simp [Builtin.append_,run_underlying Tryz.underlying22,sizeOf,typeInfo,h1,Builtin.lenOf,Builtin.firstCells,storeCells,hl]
 unfold Oper.wp execOp
 simp only[ho,resolve,invoke,builtin,Sem.run_bind,Sem.run_pure,Result.andThen_ok,List.map_toArray,List.map_cons,List.map_nil,hs,hx,hr]
 exact h
end
theorem z5m_ {w:World} {v:Value} (h:Texts w v []):∃ A c,v= .slice A 0 c:=by
 rcases h with ⟨_,rfl⟩|⟨b,c,rfl,_⟩
 ·exact⟨_,_,rfl⟩
 ·exact⟨_,_,rfl⟩
def IxAt (w:World) (b o:Nat) (x:Cfg.IndexE):Prop:=w.cell? ⟨b,o,none⟩=some (.string ⟨x.typ.toArray⟩)∧w.cell? ⟨b,o+1,none⟩=some (.bool x.eq)∧w.cell? ⟨b,o+2,none⟩=some (.bool x.pres)∧w.cell? ⟨b,o+3,none⟩=some (.bool x.sub)
theorem IxAt.below {w w':World} {b o:Nat} {x:Cfg.IndexE} (h:IxAt w b o x) (hb:Below w.heap.size w w'):IxAt w' b o x:=⟨(hb.cell (z9_ h.1)).trans h.1,(hb.cell (z9_ h.2.1)).trans h.2.1,(hb.cell (z9_ h.2.2.1)).trans h.2.2.1,(hb.cell (z9_ h.2.2.2)).trans h.2.2.2⟩
theorem idx1 {w:World} {v:Value} {x:Cfg.IndexE} (h:IdxA w v [x]):∃ b o c,v= .slice (some ⟨b,o,none⟩) 1 c∧w.cell? ⟨b,o,none⟩=some (.string ⟨x.typ.toArray⟩)∧w.cell? ⟨b,o+1,none⟩=some (.bool x.eq)∧w.cell? ⟨b,o+2,none⟩=some (.bool x.pres)∧w.cell? ⟨b,o+3,none⟩=some (.bool x.sub):=by
 rcases h with ⟨h,_⟩|⟨b,o,c,rfl,_,hx⟩
 ·cases h
 ·exact⟨b,o,c,rfl,hx 0 _ rfl,hx 1 _ rfl,hx 2 _ rfl,hx 3 _ rfl⟩
theorem idx1e {w:World} {b o c:Nat} {x:Cfg.IndexE} (h:IdxA w (.slice (some ⟨b,o,none⟩) 1 c) [x]):IxAt w b o x:=by
 rcases h with ⟨h,_⟩|⟨b',o',c',he,_,hx⟩
 ·cases h
 ·cases he
  exact⟨hx 0 _ rfl,hx 1 _ rfl,hx 2 _ rfl,hx 3 _ rfl⟩
theorem zd4_:(match zk_ xq_ false [99,110] with
 |none=>false
 |some j=>(q9_ xq_ j).isSome)=true:=by decide+kernel
theorem zjt_:∃ j a,zk_ xq_ false [99,110]=some j∧q9_ xq_ j=some a:=by
 have h:=zd4_
 cases hf:zk_ xq_ false [99,110] with
 |none=>rw[hf] at h;cases h
 |some j=>
  rw[hf] at h
  obtain⟨a,ha⟩:=Option.isSome_iff_exists.1 h
  exact⟨j,a,rfl,ha⟩
theorem key_a1:z37_ xq_ [68,67,61,90]=(0,[100,99,61,122]):=by decide+kernel
theorem key_a2:z37_ xq_ []=(0,[]):=by decide+kernel
theorem zgd_:z2t_ [100,99,61,122] [99,110,61,99,111,110,102,105,103]=false:=by decide+kernel
theorem zhx_:z2t_ [99,110,61,99,111,110,102,105,103] [100,99,61,122]=false:=by decide+kernel
theorem z8i_ (v:Value) (w:World) (hw:Env w) (hT:TextsA w v Cfg.aliveC):Calls Tryz.prog 7 #[v] w fun e w'=>Below w.heap.size w w'∧∃ Aa ca Ac cc Al cl ib io ci Ar cr Au cu,
  e= .returned (.tuple #[.agg #[.string ⟨#[68,67,61,90]⟩,.string ⟨#[]⟩,.string ⟨#[]⟩,.int .i64 10,.slice Aa 0 ca,.slice Ac 0 cc,.slice Al 0 cl,.slice (some ⟨ib,io,none⟩) 1 ci,.bool false,.bool false,.slice Ar 0 cr,.slice Au 0 cu],.int .i64 0,.int .i64 0])∧Texts w' (.slice Aa 0 ca) []∧Texts w' (.slice Ac 0 cc) []∧Texts w' (.slice Al 0 cl) []∧IdxA w' (.slice (some ⟨ib,io,none⟩) 1 ci) [ixA]∧Texts w' (.slice Ar 0 cr) []∧Texts w' (.slice Au 0 cu) []:=by
 refine(za2_ Cfg.aliveC v w hw hT (by decide)).mono ?_
 rintro e w' ⟨hb,v1,he,va,vc,vl,vi,vr,vu,rfl,h1,h2,h3,h4,h5,h6⟩
 rw[Cfg.alive_parse] at he h1 h2 h3 h4 h5 h6
 simp only at he h1 h2 h3 h4 h5 h6
 obtain⟨Aa,ca,rfl⟩:=z5m_ h1
 obtain⟨Ac,cc,rfl⟩:=z5m_ h2
 obtain⟨Al,cl,rfl⟩:=z5m_ h3
 obtain⟨ib,io,ci,rfl,_⟩:=idx1 h4
 obtain⟨Ar,cr,rfl⟩:=z5m_ h5
 obtain⟨Au,cu,rfl⟩:=z5m_ h6
 exact⟨hb,Aa,ca,Ac,cc,Al,cl,ib,io,ci,Ar,cr,Au,cu,he,h1,h2,h3,h4,h5,h6⟩
def NewA (w:World) (e:Ending) (w':World):Prop:=Below w.heap.size w w'∧∃ cp s va vc vl vi vr vu,e= .returned (.tuple #[.pointer (some ⟨cp,0,none⟩),.int .i64 0,.int .i64 0])∧Bk w' cp 35 (z2k_ zju_ va vc vl vi vr vu (.pointer (some ⟨s,0,none⟩)) [100,99,61,122] [])∧Texts w' va []∧Texts w' vc []∧Texts w' vl []∧IdxA w' vi [ixA]∧Texts w' vr []∧Texts w' vu []
set_option maxRecDepth 100000 in
theorem zc2_ (v:Value) (w:World) (hw:Env w) (hT:TextsA w v Cfg.aliveC):Calls Tryz.prog 23 #[v] w (NewA w):=by
 have hmm:=@run_makeMap Tryz.prog
 have HP:=Lib.hid (z8i_ v w hw hT)
 have HBs:=Lib.hid (fun (W:World)=>Base_c W)
 have HNw:Hid (∀ (va vb:Value) (W:World),Below w.heap.size w W→Texts W va baseA→Texts W vb baseC→Calls Tryz.prog 56 #[va,vb] W fun e w'=>Below W.heap.size W w'∧∃ s ps,e= .returned (.tuple #[.pointer (some ⟨s,0,none⟩),.int .i64 0,.int .i64 0])∧SchAt w' s ps xq_):=Lib.hid fun va vb W h h1 h2=>by
  have:=New_c va vb baseA baseC W (hw.keep h) h1 h2 (by rw[zc7_,zd1_];omega) (fun x hx=>Nat.le_trans (z34_ x hx) (by decide))
  rw[z9m_] at this
  exact this
 have HW:=Lib.hid hw
 obtain⟨Av,cv,rfl,_⟩:=hT.at
 clear hw hT
 go_enter Tryz.func23,Tryz.ntmps23
 go_upto_region 4 with (go_at_call 7;(with_reducible refine HP.out.mono ?_);rintro e w1 ⟨hb,Aa,ca,Ac,cc,Al,cl,ib,io,ci,Ar,cr,Au,cu,rfl,h1,h2,h3,h4,h5,h6⟩;have HB1:=Lib.hid hb;have HT:=Lib.hid (And.intro h1 (And.intro h2 (And.intro h3 (And.intro h4 (And.intro h5 h6)))));clear hb h1 h2 h3 h4 h5 h6)
 have b2:=zs_ w1 (.cells #[.string ⟨#[68,67,61,90]⟩,.string ⟨#[]⟩,.string ⟨#[]⟩,.int .i64 10,.slice Aa 0 ca,.slice Ac 0 cc,.slice Al 0 cl,.slice (some ⟨ib,io,none⟩) 1 ci,.bool false,.bool false,.slice Ar 0 cr,.slice Au 0 cu] 25)
 have hk2:=Bk.new w1 25 #[.string ⟨#[68,67,61,90]⟩,.string ⟨#[]⟩,.string ⟨#[]⟩,.int .i64 10,.slice Aa 0 ca,.slice Ac 0 cc,.slice Al 0 cl,.slice (some ⟨ib,io,none⟩) 1 ci,.bool false,.bool false,.slice Ar 0 cr,.slice Au 0 cu]
 have HB2:=Lib.hid (HB1.out.trans (b2.mono HB1.out.size))
 have HT2:=Lib.hid (fun (W:World) (h:Below w1.heap.size w1 W)=>And.intro (HT.out.1.below h) (And.intro (HT.out.2.1.below h) (And.intro (HT.out.2.2.1.below h) (And.intro (HT.out.2.2.2.1.below h) (And.intro (HT.out.2.2.2.2.1.below h) (HT.out.2.2.2.2.2.below h))))))
 have B2:=Lib.hid b2
 clear b2 HT HP
 generalize w1.alloc (.cells #[.string ⟨#[68,67,61,90]⟩,.string ⟨#[]⟩,.string ⟨#[]⟩,.int .i64 10,.slice Aa 0 ca,.slice Ac 0 cc,.slice Al 0 cl,.slice (some ⟨ib,io,none⟩) 1 ci,.bool false,.bool false,.slice Ar 0 cr,.slice Au 0 cu] 25)=w2 at *
 have hpw:w1.heap.size<w2.heap.size:=hk2.lt
 have HK2:=Lib.hid hk2
 clear hk2
 go_upto_region 5 with (go_at_call 55;(with_reducible refine(HBs.out _).mono ?_);rintro e w3 ⟨rfl,hb,hO1,hO2⟩;have HB3:=Lib.hid hb;have HO1:=Lib.hid hO1.texts;have HO2:=Lib.hid hO2.texts;clear hb hO1 hO2)
 have c4:=(HK2.out.below HB3.out).cell 4
 have c5:=(HK2.out.below HB3.out).cell 5
 simp only[List.getElem?_toArray,List.getElem?_cons_zero,List.getElem?_cons_succ] at c4 c5
 have HC:Hid (Below w3.heap.size w3 w3):=Lib.hid (Below.refl _ _)
 have HS:Hid (∀ W,Below w3.heap.size w3 W→W.cell? ⟨w1.heap.size,4,none⟩=some (.slice Aa 0 ca)∧W.cell? ⟨w1.heap.size,5,none⟩=some (.slice Ac 0 cc)):=Lib.hid fun W h=>⟨((HK2.out.below HB3.out).below h).cell 4,((HK2.out.below HB3.out).below h).cell 5⟩
 have HB23:=Lib.hid (HB2.out.trans (HB3.out.mono HB2.out.size))
 go_cut [10,6] (fun s10 s6 wx=>∃ s ps,s6= .int .i64 0∧s10= .pointer (some ⟨s,0,none⟩)∧Aside (Below w3.heap.size w3 wx)∧Aside (SchAt wx s ps xq_))
 case first=>
  go_region_held3 (fun W=>W.cell? ⟨w1.heap.size,4,none⟩=some (.slice Aa 0 ca)∧W.cell? ⟨w1.heap.size,5,none⟩=some (.slice Ac 0 cc)) (first|exact HS.out _ HC.out.drew|exact HS.out _ HC.out) (first
   |(refine z68_ (g:=w2.heap.size) (n:=18) (A:=Aa) (c:=ca) (by rfl) _ _ (by rfl) ?hs ?hx ?_;(case hs=>(simp [Act.eval,Act.put];done));(case hx=>(simp [Act.eval,Act.put];done)))
   |(refine z68_ (g:=w2.heap.size+1) (n:=10) (A:=Ac) (c:=cc) (by rfl) _ _ (by rfl) ?hs ?hx ?_;(case hs=>(simp [Act.eval,Act.put];done));(case hx=>(simp [Act.eval,Act.put];done)))
   |(go_at_call 56;(with_reducible refine(HNw.out _ _ _ (HB23.out.trans (HC.out.drew.mono HB23.out.size)) (HO1.out.below HC.out.drew) (HO2.out.below HC.out.drew)).mono ?_);rintro e w4 ⟨hb,s,ps,rfl,hS⟩;have HC:=Lib.hid (HC.out.drew.trans (hb.mono HC.out.drew.size));have HSch:=Lib.hid hS;clear hb hS)
   |fail)
  all_goals
   go_wp2_with fail
   go_meet
   exact⟨s,ps,rfl,rfl,HC.out,HSch.out⟩
 case rest=>
 obtain⟨s,ps,rfl,rfl,AC,ASch⟩:=hcut
 have HB5:=Lib.hid (HB23.out.trans (AC.out.mono HB23.out.size))
 have HK5:=Lib.hid ((HK2.out.below HB3.out).below AC.out)
 have B5:=Lib.hid ((B2.out.trans (HB3.out.mono B2.out.size)).trans (AC.out.mono (Nat.le_trans B2.out.size HB3.out.size)))
 have HT5:=Lib.hid (HT2.out wc B5.out)
 have HSch:=Lib.hid ASch.out
 have hpw5:=HK5.out.lt
 clear HS HC HNw HBs HB2 HB3 HB23 AC ASch HK2 B2 HT2 HO1 HO2 c4 c5 hpw HB1
 have p0:=HK5.out.cell 0
 have p1:=HK5.out.cell 1
 have p2:=HK5.out.cell 2
 have p3:=HK5.out.cell 3
 have p4:=HK5.out.cell 4
 have p5:=HK5.out.cell 5
 have p6:=HK5.out.cell 6
 have p7:=HK5.out.cell 7
 have p8:=HK5.out.cell 8
 have p9:=HK5.out.cell 9
 have p10:=HK5.out.cell 10
 have p11:=HK5.out.cell 11
 simp only[List.getElem?_toArray,List.getElem?_cons_zero,List.getElem?_cons_succ] at p0 p1 p2 p3 p4 p5 p6 p7 p8 p9 p10 p11
 go_upto_region 9 with fail
 have b6:=zs_ wc (.cells #[.string ⟨#[68,67,61,90]⟩,.string ⟨#[]⟩,.string ⟨#[]⟩,.int .i64 10,.slice Aa 0 ca,.slice Ac 0 cc,.slice Al 0 cl,.slice (some ⟨ib,io,none⟩) 1 ci,.bool false,.bool false,.slice Ar 0 cr,.slice Au 0 cu,.pointer (some ⟨s,0,none⟩),.slice none 0 0,.string ⟨#[]⟩,.string ⟨#[]⟩] 35)
 have k6:Bk (wc.alloc (.cells #[.string ⟨#[68,67,61,90]⟩,.string ⟨#[]⟩,.string ⟨#[]⟩,.int .i64 10,.slice Aa 0 ca,.slice Ac 0 cc,.slice Al 0 cl,.slice (some ⟨ib,io,none⟩) 1 ci,.bool false,.bool false,.slice Ar 0 cr,.slice Au 0 cu,.pointer (some ⟨s,0,none⟩),.slice none 0 0,.string ⟨#[]⟩,.string ⟨#[]⟩] 35)) wc.heap.size 35 (z2k_ zju_ (.slice Aa 0 ca) (.slice Ac 0 cc) (.slice Al 0 cl) (.slice (some ⟨ib,io,none⟩) 1 ci) (.slice Ar 0 cr) (.slice Au 0 cu) (.pointer (some ⟨s,0,none⟩)) [] []):=Bk.new wc _ _
 have K6:=Lib.hid k6
 have B6:=Lib.hid b6
 have k5:=HK5.out.below b6
 obtain⟨j0,j1,j2,j3⟩:=(idx1e (HT5.out.2.2.2.1)).below b6
 simp only[ixA] at j0 j1 j2 j3
 clear p0 p1 p2 p3 p4 p5 p6 p7 p8 p9 p10 p11 k6
 have q7:=k5.cell 7
 simp only[List.getElem?_toArray,List.getElem?_cons_zero,List.getElem?_cons_succ] at q7
 clear b6 k5
 generalize wc.alloc (.cells #[.string ⟨#[68,67,61,90]⟩,.string ⟨#[]⟩,.string ⟨#[]⟩,.int .i64 10,.slice Aa 0 ca,.slice Ac 0 cc,.slice Al 0 cl,.slice (some ⟨ib,io,none⟩) 1 ci,.bool false,.bool false,.slice Ar 0 cr,.slice Au 0 cu,.pointer (some ⟨s,0,none⟩),.slice none 0 0,.string ⟨#[]⟩,.string ⟨#[]⟩] 35)=w6 at *
 have hadd:=ko_
 go_wp2_with fail
 go_loopg [13,60] 1 (fun gk l ix wr=>∃ k:Nat,k≤1∧ix= .int .i64 (k:Int)∧Aside (k+gk=1)∧Aside (Below w6.heap.size w6 wr)∧((k=0∧l= .slice none 0 0∧Aside (w6=wr))∨(k=1∧∃ A n,l= .slice A 1 n∧Aside (Own w6.heap.size wr (.slice A 1 n) [[99,110]]))))
 case atStart=>exact⟨0,by omega,rfl,rfl,Below.refl _ _,.inl ⟨rfl,rfl,rfl⟩⟩
 case round=>
 obtain⟨k,hk,rfl,AG,AB,hcase⟩:=hrel
 have HBr:=Lib.hid AB.out
 clear AB
 rcases hcase with ⟨rfl,rfl,AE⟩|⟨rfl,A,n,rfl,AO⟩
 ·obtain⟨q,rfl⟩:∃ q,gk=q+1:=⟨gk - 1,by have:=AG.out;omega⟩
  obtain rfl:=AE.out
  have HON:Hid (Own w6.heap.size w6 (.slice none 0 0) []):=Lib.hid (Own.nil (Nat.le_refl _))
  have b7:=zs_ w6 (.cells #[.string ⟨#[99,110]⟩,.bool true,.bool false,.bool true] 63)
  have B7:=Lib.hid b7
  have HO7:=Lib.hid (HON.out.below b7)
  clear b7 AE
  go_upto_region 13 with fail
  have k7:=Bk.new w6 63 #[.string ⟨#[99,110]⟩,.bool true,.bool false,.bool true]
  have x0:=k7.cell 0
  simp only[List.getElem?_toArray,List.getElem?_cons_zero,List.getElem?_cons_succ] at x0
  clear k7 j0 j1 j2 j3 q7
  generalize w6.alloc (.cells #[.string ⟨#[99,110]⟩,.bool true,.bool false,.bool true] 63)=w7 at *
  go_wp2_with (at_builtin;refine qh_ (c:=[99,110]) rfl _ _ rfl rfl HO7.out rfl rfl (by simp) ?_;intro v' w' hO' hg';obtain⟨A6,c6,rfl,_⟩:=hO'.isSlice;have HB':=Lib.hid (Own.bel B7.out HO7.out hg');have HO':=Lib.hid hO';clear hO' hg')
  go_roundg q
  case measure=>omega
  case rel=>exact⟨1,by omega,by go_num,by have:=AG.out;show _=_;omega,HB'.out,.inr ⟨rfl,A6,c6,rfl,HO'.out⟩⟩
 have hrow:=AO.out
 have HO:=Lib.hid AO.out
 obtain⟨lg,hA,hl0⟩:∃ lg,A=some ⟨lg,0,none⟩∧wr.cell? ⟨lg,0,none⟩=some (.string ⟨#[99,110]⟩):=by
  rcases hrow.texts with ⟨h,_⟩|⟨b,c',hv,_,_,hx⟩
  ·cases h
  ·cases hv
   exact⟨b,rfl,hx 0 (by simp)⟩
 subst hA
 have hBc:Below wc.heap.size wc wr:=B6.out.trans (HBr.out.mono B6.out.size)
 have HBc:=Lib.hid hBc
 have HKr:=Lib.hid (K6.out.below HBr.out)
 have hcpl:=K6.out.lt
 have k5:=HK5.out.below hBc
 have q6:=k5.cell 6
 have q10:=k5.cell 10
 have q11:=k5.cell 11
 simp only[List.getElem?_toArray,List.getElem?_cons_zero,List.getElem?_cons_succ] at q6 q10 q11
 have HRd:=Lib.hid (zd2_ HKr.out)
 have HNm:=Lib.hid (zjh_ ps [100,99,61,122] [] (HW.out.keep (HB5.out.trans (hBc.mono HB5.out.size))) (HSch.out.below hBc) HKr.out key_a1 key_a2 (by decide) zgd_ zhx_ (fun W hg=>HSch.out.below (hBc.grown hg hBc.size (fun k hk=>by cases hk;exact Nat.le_refl _))) (fun W hg=>HW.out.keep (HB5.out.trans ((hBc.grown hg hBc.size (fun k hk=>by cases hk;exact Nat.le_refl _)).mono HB5.out.size))))
 clear hBc k5 hrow AO j0 j1 j2 j3 q7 K6 B6
 go_upto_region 20 with (first
  |(go_at_call 57;(with_reducible refine HRd.out.mono ?_);rintro e wx ⟨rfl,rfl⟩)
  |(go_at_call 58;(with_reducible refine HNm.out.mono ?_);rintro e w8 ⟨rfl,hg,hk8⟩;have HG8:=Lib.hid hg;have HK8:=Lib.hid hk8;clear hg hk8))
 have hB8:Below wc.heap.size wc w8:=HBc.out.grown HG8.out HBc.out.size (fun k hk=>by cases hk;exact Nat.le_refl _)
 have hO8:=HO.out.keep HG8.out (fun k hk=>by cases hk;exact hcpl)
 have hB9:=hB8.alloc hB8.size (.map #[] 0)
 have hb9:=zs_ w8 (.map #[] 0)
 have hm9:z1n_ (w8.alloc (.map #[] 0)) w8.heap.size:=heap_alloc_new w8 _
 have hl9:=zew_ (hO8.below hb9) 0 (by simp)
 have hk9:=HK8.out.below hb9
 have hml:w8.heap.size<(w8.alloc (.map #[] 0)).heap.size:=by rw[World.size_alloc];omega
 have HM9:=Lib.hid hm9
 have HL9:=Lib.hid hl9
 have HK9:=Lib.hid hk9
 have HB9:=Lib.hid hB9
 have hcm:wc.heap.size<w8.heap.size:=HK8.out.lt
 clear hB8 hO8 hB9 hb9 hm9 hl9 hk9 HO HG8 HK8 HBc HBr HKr HRd HNm hl0 q6 q10 q11
 go_upto_region 22 with fail
 generalize w8.alloc (.map #[] 0)=w9 at *
 generalize w8.heap.size=mm at *
 have k5:=HK5.out.below HB9.out
 have q10:=k5.cell 10
 have q11:=k5.cell 11
 simp only[List.getElem?_toArray,List.getElem?_cons_zero,List.getElem?_cons_succ] at q10 q11
 clear k5
 have b10:=zs_ w9 (.cells #[.string ⟨#[105,110,100,101,120]⟩,.slice (some ⟨lg,0,none⟩) 1 n,.string ⟨#[114,101,102]⟩,.slice Ar 0 cr,.string ⟨#[117,110,105,113,117,101]⟩,.slice Au 0 cu] 96)
 have k10:=Bk.new w9 96 #[.string ⟨#[105,110,100,101,120]⟩,.slice (some ⟨lg,0,none⟩) 1 n,.string ⟨#[114,101,102]⟩,.slice Ar 0 cr,.string ⟨#[117,110,105,113,117,101]⟩,.slice Au 0 cu]
 have HB10:=Lib.hid (HB9.out.trans (b10.mono HB9.out.size))
 have HK10:=Lib.hid (HK9.out.below b10)
 have HM10:Hid (z1n_ (w9.alloc (.cells #[.string ⟨#[105,110,100,101,120]⟩,.slice (some ⟨lg,0,none⟩) 1 n,.string ⟨#[114,101,102]⟩,.slice Ar 0 cr,.string ⟨#[117,110,105,113,117,101]⟩,.slice Au 0 cu] 96)) mm):=Lib.hid ((b10.block mm hml).trans HM9.out)
 have HL10:=Lib.hid ((b10.cell (z9_ HL9.out)).trans HL9.out)
 have HS10:=Lib.hid k10
 have hsl:mm<w9.heap.size:=hml
 clear b10 k10 HB9 HK9 HM9 HL9
 go_wp2_with fail
 generalize w9.alloc (.cells #[.string ⟨#[105,110,100,101,120]⟩,.slice (some ⟨lg,0,none⟩) 1 n,.string ⟨#[114,101,102]⟩,.slice Ar 0 cr,.string ⟨#[117,110,105,113,117,101]⟩,.slice Au 0 cu] 96)=w10 at *
 generalize w9.heap.size=sl at *
 have hm10:mm<w10.heap.size:=(Array.getElem?_eq_some_iff.1 HM10.out).1
 clear q10 q11
 go_loopg [17,18,93] 3 (fun gk s1 s2 ix wr=>∃ k:Nat,k≤3∧s1= .bool false∧s2= .bool false∧ix= .int .i64 (k:Int)∧Aside (k+gk=3)∧Aside (w10.grownBy wr (some mm))∧Aside (k=0→w10=wr))
 case atStart=>exact⟨0,by omega,rfl,rfl,rfl,rfl,World.grownBy.refl _ _,fun _=>rfl⟩
 case round=>
 obtain⟨k,hk,rfl,rfl,rfl,AG,AB,AE⟩:=hrel
 have HGr:=Lib.hid AB.out
 have HSl:=Lib.hid (HS10.out.grown HGr.out (fun e=>by have:=Option.some.inj e;omega))
 have HCf:=Lib.hid (HK10.out.grown HGr.out (fun e=>by have:=Option.some.inj e;omega))
 have HBx:=Lib.hid (HB10.out.grown HGr.out HB10.out.size (fun k hk=>by cases hk;omega))
 clear AB
 by_cases hk3:k<3
 case neg=>
  obtain rfl:k=3:=by omega
  have hT:=HT5.out
  have h5:=hT.2.2.2.2.1.below HBx.out
  have h6:=hT.2.2.2.2.2.below HBx.out
  have HRu:=Lib.hid (zbp_ HCf.out h5 h6)
  clear h5 h6 hT
  go_wp2_with (go_at_call 60;(with_reducible refine HRu.out.mono ?_);rintro e wf ⟨rfl,hb⟩;have HBf:=Lib.hid hb;clear hb)
  go_ret3
  have hBf:Below wc.heap.size wc wf:=HBx.out.trans (HBf.out.mono HBx.out.size)
  have hT:=HT5.out
  exact⟨HB5.out.trans (hBf.mono HB5.out.size),wc.heap.size,s,_,_,_,_,_,_,rfl,HCf.out.below HBf.out,hT.1.below hBf,hT.2.1.below hBf,hT.2.2.1.below hBf,hT.2.2.2.1.below hBf,hT.2.2.2.2.1.below hBf,hT.2.2.2.2.2.below hBf⟩
 case pos=>
 obtain⟨q,rfl⟩:∃ q,gk=q+1:=⟨gk - 1,by have:=AG.out;omega⟩
 have hkc:k=0∨k=1∨k=2:=by omega
 obtain⟨tj,ta,hf,ha⟩:=zjt_
 rcases hkc with rfl|rfl|rfl
 ·obtain rfl:=AE.out rfl
  clear AE
  have b11:=zs_ w10 (.cells #[.string ⟨#[105,110,100,101,120]⟩,.slice (some ⟨lg,0,none⟩) 1 n] 96)
  have HTy:=Lib.hid (zdw_ [105,110,100,101,120] [99,110] ps mm lg n (HSch.out.below (HBx.out.trans (b11.mono HBx.out.size))) (HCf.out.below b11) ((b11.block mm hm10).trans HM10.out) ((b11.cell (z9_ HL10.out)).trans HL10.out) (by decide) tj ta hf ha)
  have HB11:=Lib.hid b11
  have x0:=HSl.out.cell 0
  have x1:=HSl.out.cell 1
  simp only[List.getElem?_toArray,List.getElem?_cons_zero,List.getElem?_cons_succ] at x0 x1
  clear b11
  go_wp2_with (go_at_call 59;(with_reducible refine HTy.out.mono ?_);rintro e wt ⟨rfl,hg⟩;have HGt:=Lib.hid hg;clear hg)
  go_roundg q
  case measure=>omega
  case rel=>exact⟨1,by omega,rfl,rfl,by go_num,by have:=AG.out;show _=_;omega,(z1_ HB11.out _).trans HGt.out,fun h=>by omega⟩
 ·have b11:=zs_ wr (.cells #[.string ⟨#[114,101,102]⟩,.slice Ar 0 cr] 96)
  have HTy:=Lib.hid (fun (W:World)=>z3a_ (w:=W) [114,101,102] Ar cr (.pointer (some ⟨wc.heap.size,0,none⟩)) (.map (some mm)))
  have HB11:=Lib.hid b11
  have x0:=HSl.out.cell 2
  have x1:=HSl.out.cell 3
  simp only[List.getElem?_toArray,List.getElem?_cons_zero,List.getElem?_cons_succ] at x0 x1
  clear b11
  go_wp2_with (go_at_call 59;(with_reducible refine(HTy.out _).mono ?_);rintro e wt ⟨rfl,rfl⟩)
  go_roundg q
  case measure=>omega
  case rel=>exact⟨2,by omega,rfl,rfl,by go_num,by have:=AG.out;show _=_;omega,HGr.out.trans (z1_ HB11.out _),fun h=>by omega⟩
 ·have b11:=zs_ wr (.cells #[.string ⟨#[117,110,105,113,117,101]⟩,.slice Au 0 cu] 96)
  have HTy:=Lib.hid (fun (W:World)=>z3a_ (w:=W) [117,110,105,113,117,101] Au cu (.pointer (some ⟨wc.heap.size,0,none⟩)) (.map (some mm)))
  have HB11:=Lib.hid b11
  have x0:=HSl.out.cell 4
  have x1:=HSl.out.cell 5
  simp only[List.getElem?_toArray,List.getElem?_cons_zero,List.getElem?_cons_succ] at x0 x1
  clear b11
  go_wp2_with (go_at_call 59;(with_reducible refine(HTy.out _).mono ?_);rintro e wt ⟨rfl,rfl⟩)
  go_roundg q
  case measure=>omega
  case rel=>exact⟨3,by omega,rfl,rfl,by go_num,by have:=AG.out;show _=_;omega,HGr.out.trans (z1_ HB11.out _),fun h=>by omega⟩
end Go.Proofs.YtakfpngfpknedaaGreatDoor
set_option linter.all false
namespace Go.Proofs.YtakfpngfpknedaaGreatDoor
open Go.RowKit
theorem zh4_ {w:World} {c:Cfg.ConfE} {va vc vl vi vr vu sv:Value} {cp:Nat} {sx rt:LU} (h:Bk w cp 35 (z2k_ c va vc vl vi vr vu sv sx rt)):Calls Tryz.prog 13 #[.pointer (some ⟨cp,0,none⟩)] w fun e w'=>e= .returned (.string ⟨sx.toArray⟩)∧w'=w:=by
 have c14:=h.cell 14
 simp only[z2k_,List.getElem?_toArray,List.getElem?_cons_zero,List.getElem?_cons_succ] at c14
 clear h
 go_enter Tryz.func13,Tryz.ntmps13
 go_wp2_with fail
 go_ret
 exact⟨rfl,rfl⟩
theorem zk7_ (w:World):Calls Tryz.prog 24 #[] w fun e w'=>e= .returned (.string ⟨#[99,110,61,99,111,110,102,105,103]⟩)∧w'=w:=by
 go_enter Tryz.func24,Tryz.ntmps24
 go_wp2_with fail
 go_ret
 exact⟨rfl,rfl⟩
theorem zbf_ {w:World} {v:Value} (h:ConfT w v zju_):∃ va vc vl b o c vr vu,v= .agg #[.string ⟨#[68,67,61,90]⟩,.string ⟨#[]⟩,.string ⟨#[]⟩,.int .i64 10,va,vc,vl,.slice (some ⟨b,o,none⟩) 1 c,.bool false,.bool false,vr,vu]∧w.cell? ⟨b,o+3,none⟩=some (.bool true):=by
 obtain⟨va,vc,vl,vi,vr,vu,rfl,h1,h2,h3,h4,h5,h6⟩:=h
 obtain⟨b,o,c,rfl,_,_,_,hx⟩:=idx1 (x:=ixA) h4
 exact⟨va,vc,vl,b,o,c,vr,vu,rfl,hx⟩
theorem zck_ (w:World) (hw:Env w):Calls Tryz.prog 8 #[] w fun e w'=>e= .returned (.bool true)∧Bel w w':=by
 have hadd:=ko_
 have hb0:=zs_ w (.cells (Cfg.aliveC.map qm_).toArray 9)
 have hT0:=zp_ (z9b_ w (nR _) Cfg.aliveC (by decide)).texts
 have HN:Hid (Calls Tryz.prog 23 #[.slice (some ⟨w.heap.size,0,none⟩) 3 3] (w.alloc (.cells #[.string ⟨#[115,117,102,102,105,120,32,68,67,61,90]⟩,.string ⟨#[115,105,122,101,32,49,48]⟩,.string ⟨#[105,110,100,101,120,32,99,110,32,101,113,44,115,117,98]⟩] 9)) (NewA (w.alloc (.cells #[.string ⟨#[115,117,102,102,105,120,32,68,67,61,90]⟩,.string ⟨#[115,105,122,101,32,49,48]⟩,.string ⟨#[105,110,100,101,120,32,99,110,32,101,113,44,115,117,98]⟩] 9)))):=hiD (zc2_ _ _ (hw.keep hb0) hT0)
 have HB0:Hid (Bel w (w.alloc (.cells #[.string ⟨#[115,117,102,102,105,120,32,68,67,61,90]⟩,.string ⟨#[115,105,122,101,32,49,48]⟩,.string ⟨#[105,110,100,101,120,32,99,110,32,101,113,44,115,117,98]⟩] 9))):=hiD hb0
 clear hw hT0 hb0
 unfold NewA at HN
 go_enter Tryz.func8,Tryz.ntmps8
 go_upto_region 2 with (go_at_call 23;(with_reducible refine HN.out.mono ?_);rintro e w5 ⟨hb,cp,s,va,vc,vl,vi,vr,vu,rfl,hk,h1,h2,h3,h4,h5,h6⟩;have HB5:=hiD hb;have HK5:=hiD hk;have HT5:=hiD (And.intro h1 (And.intro h2 (And.intro h3 (And.intro h4 (And.intro h5 h6)))));clear hb hk h1 h2 h3 h4 h5 h6)
 have HSx:Hid (Calls Tryz.prog 13 #[.pointer (some ⟨cp,0,none⟩)] w5 fun e w'=>e= .returned (.string ⟨#[100,99,61,122]⟩)∧w'=w5):=hiD (zh4_ HK5.out)
 have HCf:Hid (∀ W,Bel w5 W→Calls Tryz.prog 10 #[.pointer (some ⟨cp,0,none⟩)] W fun e w'=>Bel W w'∧∃ va vc vl b o c vr vu,e= .returned (.agg #[.string ⟨#[68,67,61,90]⟩,.string ⟨#[]⟩,.string ⟨#[]⟩,.int .i64 10,va,vc,vl,.slice (some ⟨b,o,none⟩) 1 c,.bool false,.bool false,vr,vu])∧w'.cell? ⟨b,o+3,none⟩=some (.bool true)):=hiD fun W h=>by
  have hT:=HT5.out
  refine(Conf_c (HK5.out.below h) (by refine⟨?_,?_,?_,?_,?_,?_⟩<;>decide) (hT.1.below h) (hT.2.1.below h) (hT.2.2.1.below h) (hT.2.2.2.1.below h) (hT.2.2.2.2.1.below h) (hT.2.2.2.2.2.below h)).mono ?_
  rintro e w' ⟨hb,v,rfl,hC⟩
  obtain⟨va,vc,vl,b,o,c,vr,vu,rfl,hx⟩:=zbf_ hC
  exact⟨hb,va,vc,vl,b,o,c,vr,vu,rfl,hx⟩
 have HKy:=hiD (fun (W:World)=>zk7_ W)
 have HC:Hid (Bel w5 w5):=hiD (bR _ _)
 clear HN HK5 HT5
 have hf3:∀ (va vc vl vr vu:Value) (b o c:Nat) (W:World),(Instr.field 25 (.agg #[.string ⟨#[68,67,61,90]⟩,.string ⟨#[]⟩,.string ⟨#[]⟩,.int .i64 10,va,vc,vl,.slice (some ⟨b,o,none⟩) 1 c,.bool false,.bool false,vr,vu]) 3).run Tryz.prog W= .ok (.int .i64 10) W:=fun _ _ _ _ _ _ _ _ _=>by kernel_rfl
 have hf7:∀ (va vc vl vr vu:Value) (b o c:Nat) (W:World),(Instr.field 25 (.agg #[.string ⟨#[68,67,61,90]⟩,.string ⟨#[]⟩,.string ⟨#[]⟩,.int .i64 10,va,vc,vl,.slice (some ⟨b,o,none⟩) 1 c,.bool false,.bool false,vr,vu]) 7).run Tryz.prog W= .ok (.slice (some ⟨b,o,none⟩) 1 c) W:=fun _ _ _ _ _ _ _ _ _=>by kernel_rfl
 go_wp2_with (first
  |(go_at_call 13;(with_reducible refine HSx.out.mono ?_);rintro e w6 ⟨rfl,rfl⟩)
  |(go_at_call 10;(with_reducible refine(HCf.out _ HC.out).mono ?_);rintro e w7 ⟨hb,va7,vc7,vl7,b7,o7,c7,vr7,vu7,rfl,hx⟩;have HC:=hiD (tQ HC.out hb);clear hb)
  |(go_at_call 24;(with_reducible refine(HKy.out _).mono ?_);rintro e w8 ⟨rfl,rfl⟩))
 go_ret
 exact⟨rfl,HB0.out.trans ((tQ HB5.out HC.out).mono HB0.out.size)⟩
end Go.Proofs.YtakfpngfpknedaaGreatDoor
set_option linter.all false
namespace Go.Proofs.YtakfpngfpknedaaGreatDoor
open Go.RowKit
theorem vg_ (xs ys:LL) (v1 v2:Value) (w:World) (hv1:TextsA w v1 xs) (hv2:TextsA w v2 ys) (hl:xs.length≤1000000000):
  Calls Tryz.prog 25 #[v1,v2] w fun e w'=>e= .returned (.bool (decide (xs=ys)))∧∃ m,w'=w.drewN m:=by
 obtain⟨A1,c1,rfl,hc1,hx1⟩:=hv1.at
 obtain⟨A2,c2,rfl,hc2,hx2⟩:=hv2.at
 have H1:=hiD hx1
 have H2:=hiD hx2
 obtain⟨R,hR⟩:∃ R,decide (xs=ys)=R:=⟨_,rfl⟩
 rw[hR]
 have HR:=hiD hR
 clear hx1 hx2 hv1 hv2 hR
 by_cases hle:xs.length=ys.length
 ·have hself:((xs.length:Int) !=(ys.length:Int))=false:=by rw[hle];simp
  go_enter Tryz.func25,Tryz.ntmps25
  go_wp2_with fail
  go_loopg [5] xs.length (fun gk i wr=>∃ k n:Nat,k≤xs.length∧i= .int .i64 k∧Aside (k+gk=xs.length)∧wr=w.drewN n∧Aside (xs.take k=ys.take k))
  case atStart=>exact⟨0,0,by omega,rfl,by show _=_;omega,rfl,rfl⟩
  case round=>
   obtain⟨k,n,hk,rfl,AG,rfl,AE⟩:=hrel
   by_cases hlt:k<xs.length
   ·obtain⟨gq,rfl⟩:∃ q,gk=q+1:=⟨gk - 1,by have:=AG.out;omega⟩
    obtain⟨p1,rfl,d1⟩:=H1.out k hlt
    obtain⟨p2,rfl,d2⟩:=H2.out k (by omega)
    have hki:(k:Int)<(xs.length:Int):=by omega
    have hki2:(k:Int)<(ys.length:Int):=by omega
    by_cases he:xs[k]=ys[k]'(by omega)
    ·have AE2:Aside (xs.take (k+1)=ys.take (k+1)):=by
      show _=_
      rw[List.take_succ_eq_append_getElem hlt,List.take_succ_eq_append_getElem (by omega),AE.out,he]
     rw[he] at d1
     generalize ys[k]'(by omega)=t at d1 d2
     go_wp2_with fail
     go_quiet (fail)
     go_wp2_with fail
     go_roundg gq
     case measure=>omega
     case rel=>exact⟨k+1,_,by omega,by go_num,by have:=AG.out;show _=_;omega,rfl,AE2.out⟩
    ·have hno:R=false:=by
      rw[← HR.out,decide_eq_false_iff_not]
      rintro rfl
      exact he rfl
     subst hno
     generalize xs[k]=t1 at *
     generalize ys[k]'(by omega)=t2 at *
     have hbn:(t1==t2)=false:=beq_eq_false_iff_ne.2 he
     go_wp2_with fail
     go_quiet (fail)
     go_wp2_with fail
     go_ret
     exact⟨rfl,n+nq,by rw[World.drewN_drewN]⟩
   ·obtain rfl:k=xs.length:=by omega
    have hyes:R=true:=by
     rw[← HR.out,decide_eq_true_iff]
     have:=AE.out
     rwa [List.take_length,List.take_of_length_le (by omega)] at this
    subst hyes
    go_wp2_with fail
    go_ret
    exact⟨rfl,_,rfl⟩
 ·have hself:((xs.length:Int) !=(ys.length:Int))=true:=by
   rw[bne_iff_ne];omega
  have hno:R=false:=by
   rw[← HR.out,decide_eq_false_iff_not]
   rintro rfl
   exact hle rfl
  subst hno
  go_enter Tryz.func25,Tryz.ntmps25
  go_wp2_with fail
  go_ret
  exact⟨rfl,0,rfl⟩
def ixV (x:Cfg.IndexE):Value:= .agg #[.string ⟨x.typ.toArray⟩,.bool x.eq,.bool x.pres,.bool x.sub]
theorem eq_ixV (W:World) (a b:Cfg.IndexE):(Op.equal 63 (ixV a) (ixV b)).run Tryz.prog W= .ok (decide (a=b)) W:=by
 obtain⟨t1,a1,a2,a3⟩:=a
 obtain⟨t2,b1,b2,b3⟩:=b
 have u9:=Tryz.underlying9
 have a9:=Tryz.isAgg9
 have z9:=Tryz.sizeOf9
 have u4:=Tryz.underlying4
 have a4:=Tryz.isAgg4
 have z4:=Tryz.sizeOf4
 have hS:Tryz.prog.underlying 63=some (.struct (Tryz.prog.fieldsOf 63)):=by kernel_rfl
 have hp:Tryz.prog.stoodInHeld 63=false:=by kernel_rfl
 unfold Op.equal Op.maxDepth ixV
 rw[run_equalIn_agg W 9999 63 _ _ hS hp]
 simp only[Program.fieldsOf,Tryz.underlying63]
 go_simp
 by_cases h1:t1=t2<;>by_cases h2:a1=b1<;>by_cases h3:a2=b2<;>by_cases h4:a3=b3<;>simp [h1,h2,h3,h4]
end Go.Proofs.YtakfpngfpknedaaGreatDoor
