import Derived.Test.YtakfpngfpknedaaGreatDoorC10
set_option linter.all false
set_option maxHeartbeats 8000000
set_option maxRecDepth 100000
set_option linter.all false
namespace Go.Proofs.YtakfpngfpknedaaGreatDoor
open Go.RowKit
def confA:Cfg.ConfE:=⟨[68,67,61,90],[],[],10,[],[],[],[⟨[99,110],true,false,true⟩],false,false,[],[]⟩
def ixA:Cfg.IndexE:=⟨[99,110],true,false,true⟩
section
variable {ops:Array Oper} {o:Oper} {a:Act} {K:Act→World→Prop} {Q:Exit→Act→World→Prop} {E:Prop}
theorem step_app0 {w:World} (hgd:o.guard=none) (s x:Operand) (ho:o.op= .call {callee:= .builtin .append,args:=#[s,x],argTypes:=#[22,22]})
  {g n c:Nat} {A:Option Addr} (hs:a.eval s= .slice (some ⟨g,0,none⟩) n n) (hx:a.eval x= .slice A 0 c)
  (h:K (a.put o.dst (.slice (some ⟨g,0,none⟩) n n)) w):
  if Region.wanted o (yielded ops a.tmps)=true then Oper.wp Tryz.prog o a w K Q else E:=by
 obtain⟨i,h1,h2,h3,h4⟩:=infoStr
 have hw:Region.wanted o (yielded ops a.tmps)=true:=by simp [Region.wanted,hgd]
 rw[if_pos hw]
 have hr:(Builtin.append_ #[22,22] o.type #[.slice (some ⟨g,0,none⟩) n n,.slice A 0 c]).run Tryz.prog w= .ok (.slice (some ⟨g,0,none⟩) n n) w:=by
  have hl:∀ b:Addr,(loadCells b 0).run Tryz.prog w= .ok #[] w:=fun b=>by first|rfl|simp [loadCells]|kernel_rfl
  cases A<;>simp [Builtin.append_,run_underlying Tryz.underlying22,sizeOf,typeInfo,h1,Builtin.lenOf,Builtin.firstCells,storeCells,hl]
 unfold Oper.wp execOp
 simp only[ho,resolve,invoke,builtin,Sem.run_bind,Sem.run_pure,Result.andThen_ok,List.map_toArray,List.map_cons,List.map_nil,hs,hx,hr]
 exact h
end
theorem texts0 {w:World} {v:Value} (h:Texts w v []):∃ A c,v= .slice A 0 c:=by
 rcases h with ⟨_,rfl⟩|⟨b,c,rfl,_⟩
 ·exact⟨_,_,rfl⟩
 ·exact⟨_,_,rfl⟩
def IxAt (w:World) (b o:Nat) (x:Cfg.IndexE):Prop:=w.cell? ⟨b,o,none⟩=some (.string ⟨x.typ.toArray⟩)∧w.cell? ⟨b,o+1,none⟩=some (.bool x.eq)∧w.cell? ⟨b,o+2,none⟩=some (.bool x.pres)∧w.cell? ⟨b,o+3,none⟩=some (.bool x.sub)
theorem IxAt.below {w w':World} {b o:Nat} {x:Cfg.IndexE} (h:IxAt w b o x) (hb:Below w.heap.size w w'):IxAt w' b o x:=⟨(hb.cell (cell_lt h.1)).trans h.1,(hb.cell (cell_lt h.2.1)).trans h.2.1,(hb.cell (cell_lt h.2.2.1)).trans h.2.2.1,(hb.cell (cell_lt h.2.2.2)).trans h.2.2.2⟩
theorem idx1 {w:World} {v:Value} {x:Cfg.IndexE} (h:IdxA w v [x]):∃ b o c,v= .slice (some ⟨b,o,none⟩) 1 c∧w.cell? ⟨b,o,none⟩=some (.string ⟨x.typ.toArray⟩)∧w.cell? ⟨b,o+1,none⟩=some (.bool x.eq)∧w.cell? ⟨b,o+2,none⟩=some (.bool x.pres)∧w.cell? ⟨b,o+3,none⟩=some (.bool x.sub):=by
 rcases h with ⟨h,_⟩|⟨b,o,c,rfl,_,hx⟩
 ·cases h
 ·exact⟨b,o,c,rfl,hx 0 _ rfl,hx 1 _ rfl,hx 2 _ rfl,hx 3 _ rfl⟩
theorem idx1e {w:World} {b o c:Nat} {x:Cfg.IndexE} (h:IdxA w (.slice (some ⟨b,o,none⟩) 1 c) [x]):IxAt w b o x:=by
 rcases h with ⟨h,_⟩|⟨b',o',c',he,_,hx⟩
 ·cases h
 ·cases he
  exact⟨hx 0 _ rfl,hx 1 _ rfl,hx 2 _ rfl,hx 3 _ rfl⟩
theorem cn_base_b:(match findD baseL false [99,110] with
 |none=>false
 |some j=>(countsD baseL j).isSome)=true:=by decide+kernel
theorem cn_base:∃ j a,findD baseL false [99,110]=some j∧countsD baseL j=some a:=by
 have h:=cn_base_b
 cases hf:findD baseL false [99,110] with
 |none=>rw[hf] at h;cases h
 |some j=>
  rw[hf] at h
  obtain⟨a,ha⟩:=Option.isSome_iff_exists.1 h
  exact⟨j,a,rfl,ha⟩
theorem key_a1:keyS baseL [68,67,61,90]=(0,[100,99,61,122]):=by decide+kernel
theorem key_a2:keyS baseL []=(0,[]):=by decide+kernel
theorem under_a1:underS [100,99,61,122] [99,110,61,99,111,110,102,105,103]=false:=by decide+kernel
theorem under_a2:underS [99,110,61,99,111,110,102,105,103] [100,99,61,122]=false:=by decide+kernel
theorem parse_alive (v:Value) (w:World) (hw:Env w) (hT:TextsA w v Cfg.aliveC):Calls Tryz.prog 7 #[v] w fun e w'=>Below w.heap.size w w'∧∃ Aa ca Ac cc Al cl ib io ci Ar cr Au cu,
  e= .returned (.tuple #[.agg #[.string ⟨#[68,67,61,90]⟩,.string ⟨#[]⟩,.string ⟨#[]⟩,.int .i64 10,.slice Aa 0 ca,.slice Ac 0 cc,.slice Al 0 cl,.slice (some ⟨ib,io,none⟩) 1 ci,.bool false,.bool false,.slice Ar 0 cr,.slice Au 0 cu],.int .i64 0,.int .i64 0])∧Texts w' (.slice Aa 0 ca) []∧Texts w' (.slice Ac 0 cc) []∧Texts w' (.slice Al 0 cl) []∧IdxA w' (.slice (some ⟨ib,io,none⟩) 1 ci) [ixA]∧Texts w' (.slice Ar 0 cr) []∧Texts w' (.slice Au 0 cu) []:=by
 refine(ParseC_c Cfg.aliveC v w hw hT (by decide)).mono ?_
 rintro e w' ⟨hb,v1,he,va,vc,vl,vi,vr,vu,rfl,h1,h2,h3,h4,h5,h6⟩
 rw[Cfg.alive_parse] at he h1 h2 h3 h4 h5 h6
 simp only at he h1 h2 h3 h4 h5 h6
 obtain⟨Aa,ca,rfl⟩:=texts0 h1
 obtain⟨Ac,cc,rfl⟩:=texts0 h2
 obtain⟨Al,cl,rfl⟩:=texts0 h3
 obtain⟨ib,io,ci,rfl,_⟩:=idx1 h4
 obtain⟨Ar,cr,rfl⟩:=texts0 h5
 obtain⟨Au,cu,rfl⟩:=texts0 h6
 exact⟨hb,Aa,ca,Ac,cc,Al,cl,ib,io,ci,Ar,cr,Au,cu,he,h1,h2,h3,h4,h5,h6⟩
def NewA (w:World) (e:Ending) (w':World):Prop:=Below w.heap.size w w'∧∃ cp s va vc vl vi vr vu,e= .returned (.tuple #[.pointer (some ⟨cp,0,none⟩),.int .i64 0,.int .i64 0])∧Bk w' cp 35 (cfgC confA va vc vl vi vr vu (.pointer (some ⟨s,0,none⟩)) [100,99,61,122] [])∧Texts w' va []∧Texts w' vc []∧Texts w' vl []∧IdxA w' vi [ixA]∧Texts w' vr []∧Texts w' vu []
set_option maxRecDepth 100000 in
theorem New_alive (v:Value) (w:World) (hw:Env w) (hT:TextsA w v Cfg.aliveC):Calls Tryz.prog 23 #[v] w (NewA w):=by
 have hmm:=@run_makeMap Tryz.prog
 have HP:=Lib.hid (parse_alive v w hw hT)
 have HBs:=Lib.hid (fun (W:World)=>Base_c W)
 have HNw:Hid (∀ (va vb:Value) (W:World),Below w.heap.size w W→Texts W va baseA→Texts W vb baseC→Calls Tryz.prog 56 #[va,vb] W fun e w'=>Below W.heap.size W w'∧∃ s ps,e= .returned (.tuple #[.pointer (some ⟨s,0,none⟩),.int .i64 0,.int .i64 0])∧SchAt w' s ps baseL):=Lib.hid fun va vb W h h1 h2=>by
  have:=New_c va vb baseA baseC W (hw.keep h) h1 h2 (by rw[baseA_len,baseC_len];omega) (fun x hx=>Nat.le_trans (base_short x hx) (by decide))
  rw[base_new] at this
  exact this
 have HW:=Lib.hid hw
 obtain⟨Av,cv,rfl,_⟩:=hT.at
 clear hw hT
 go_enter Tryz.func23,Tryz.ntmps23
 go_upto_region 4 with (go_at_call 7;(with_reducible refine HP.out.mono ?_);rintro e w1 ⟨hb,Aa,ca,Ac,cc,Al,cl,ib,io,ci,Ar,cr,Au,cu,rfl,h1,h2,h3,h4,h5,h6⟩;have HB1:=Lib.hid hb;have HT:=Lib.hid (And.intro h1 (And.intro h2 (And.intro h3 (And.intro h4 (And.intro h5 h6)))));clear hb h1 h2 h3 h4 h5 h6)
 have b2:=bel_c w1 (.cells #[.string ⟨#[68,67,61,90]⟩,.string ⟨#[]⟩,.string ⟨#[]⟩,.int .i64 10,.slice Aa 0 ca,.slice Ac 0 cc,.slice Al 0 cl,.slice (some ⟨ib,io,none⟩) 1 ci,.bool false,.bool false,.slice Ar 0 cr,.slice Au 0 cu] 25)
 have hk2:=Bk.new w1 25 #[.string ⟨#[68,67,61,90]⟩,.string ⟨#[]⟩,.string ⟨#[]⟩,.int .i64 10,.slice Aa 0 ca,.slice Ac 0 cc,.slice Al 0 cl,.slice (some ⟨ib,io,none⟩) 1 ci,.bool false,.bool false,.slice Ar 0 cr,.slice Au 0 cu]
 have HB2:=Lib.hid (HB1.out.trans (b2.mono HB1.out.size))
 have HT2:=Lib.hid (fun (W:World) (h:Below w1.heap.size w1 W)=>And.intro (HT.out.1.below h) (And.intro (HT.out.2.1.below h) (And.intro (HT.out.2.2.1.below h) (And.intro (HT.out.2.2.2.1.below h) (And.intro (HT.out.2.2.2.2.1.below h) (HT.out.2.2.2.2.2.below h))))))
 have B2:=Lib.hid b2
 clear b2 HT HP
 generalize w1.alloc (.cells #[.string ⟨#[68,67,61,90]⟩,.string ⟨#[]⟩,.string ⟨#[]⟩,.int .i64 10,.slice Aa 0 ca,.slice Ac 0 cc,.slice Al 0 cl,.slice (some ⟨ib,io,none⟩) 1 ci,.bool false,.bool false,.slice Ar 0 cr,.slice Au 0 cu] 25)=w2 at *
 have hpw:w1.heap.size<w2.heap.size:=hk2.lt
 have HK2:=Lib.hid hk2
 clear hk2
 go_upto_region 5 with (go_at_call 55;(with_reducible refine(HBs.out _).mono ?_);rintro e w3 ⟨rfl,hb,hO1,hO2⟩;have HB3:=Lib.hid hb;have HO1:=Lib.hid hO1.texts;have HO2:=Lib.hid hO2.texts;clear hb hO1 hO2)
 have c4:=(HK2.out.below HB3.out).cell 4
 have c5:=(HK2.out.below HB3.out).cell 5
 simp only[List.getElem?_toArray,List.getElem?_cons_zero,List.getElem?_cons_succ] at c4 c5
 have HC:Hid (Below w3.heap.size w3 w3):=Lib.hid (Below.refl _ _)
 have HS:Hid (∀ W,Below w3.heap.size w3 W→W.cell? ⟨w1.heap.size,4,none⟩=some (.slice Aa 0 ca)∧W.cell? ⟨w1.heap.size,5,none⟩=some (.slice Ac 0 cc)):=Lib.hid fun W h=>⟨((HK2.out.below HB3.out).below h).cell 4,((HK2.out.below HB3.out).below h).cell 5⟩
 have HB23:=Lib.hid (HB2.out.trans (HB3.out.mono HB2.out.size))
 go_cut [10,6] (fun s10 s6 wx=>∃ s ps,s6= .int .i64 0∧s10= .pointer (some ⟨s,0,none⟩)∧Aside (Below w3.heap.size w3 wx)∧Aside (SchAt wx s ps baseL))
 case first=>
  go_region_held3 (fun W=>W.cell? ⟨w1.heap.size,4,none⟩=some (.slice Aa 0 ca)∧W.cell? ⟨w1.heap.size,5,none⟩=some (.slice Ac 0 cc)) (first|exact HS.out _ HC.out.drew|exact HS.out _ HC.out) (first
   |(refine step_app0 (g:=w2.heap.size) (n:=18) (A:=Aa) (c:=ca) (by rfl) _ _ (by rfl) ?hs ?hx ?_;(case hs=>(simp [Act.eval,Act.put];done));(case hx=>(simp [Act.eval,Act.put];done)))
   |(refine step_app0 (g:=w2.heap.size+1) (n:=10) (A:=Ac) (c:=cc) (by rfl) _ _ (by rfl) ?hs ?hx ?_;(case hs=>(simp [Act.eval,Act.put];done));(case hx=>(simp [Act.eval,Act.put];done)))
   |(go_at_call 56;(with_reducible refine(HNw.out _ _ _ (HB23.out.trans (HC.out.drew.mono HB23.out.size)) (HO1.out.below HC.out.drew) (HO2.out.below HC.out.drew)).mono ?_);rintro e w4 ⟨hb,s,ps,rfl,hS⟩;have HC:=Lib.hid (HC.out.drew.trans (hb.mono HC.out.drew.size));have HSch:=Lib.hid hS;clear hb hS)
   |fail)
  all_goals
   go_wp2_with fail
   go_meet
   exact⟨s,ps,rfl,rfl,HC.out,HSch.out⟩
 case rest=>
 obtain⟨s,ps,rfl,rfl,AC,ASch⟩:=hcut
 have HB5:=Lib.hid (HB23.out.trans (AC.out.mono HB23.out.size))
 have HK5:=Lib.hid ((HK2.out.below HB3.out).below AC.out)
 have B5:=Lib.hid ((B2.out.trans (HB3.out.mono B2.out.size)).trans (AC.out.mono (Nat.le_trans B2.out.size HB3.out.size)))
 have HT5:=Lib.hid (HT2.out wc B5.out)
 have HSch:=Lib.hid ASch.out
 have hpw5:=HK5.out.lt
 clear HS HC HNw HBs HB2 HB3 HB23 AC ASch HK2 B2 HT2 HO1 HO2 c4 c5 hpw HB1
 have p0:=HK5.out.cell 0
 have p1:=HK5.out.cell 1
 have p2:=HK5.out.cell 2
 have p3:=HK5.out.cell 3
 have p4:=HK5.out.cell 4
 have p5:=HK5.out.cell 5
 have p6:=HK5.out.cell 6
 have p7:=HK5.out.cell 7
 have p8:=HK5.out.cell 8
 have p9:=HK5.out.cell 9
 have p10:=HK5.out.cell 10
 have p11:=HK5.out.cell 11
 simp only[List.getElem?_toArray,List.getElem?_cons_zero,List.getElem?_cons_succ] at p0 p1 p2 p3 p4 p5 p6 p7 p8 p9 p10 p11
 go_upto_region 9 with fail
 have b6:=bel_c wc (.cells #[.string ⟨#[68,67,61,90]⟩,.string ⟨#[]⟩,.string ⟨#[]⟩,.int .i64 10,.slice Aa 0 ca,.slice Ac 0 cc,.slice Al 0 cl,.slice (some ⟨ib,io,none⟩) 1 ci,.bool false,.bool false,.slice Ar 0 cr,.slice Au 0 cu,.pointer (some ⟨s,0,none⟩),.slice none 0 0,.string ⟨#[]⟩,.string ⟨#[]⟩] 35)
 have k6:Bk (wc.alloc (.cells #[.string ⟨#[68,67,61,90]⟩,.string ⟨#[]⟩,.string ⟨#[]⟩,.int .i64 10,.slice Aa 0 ca,.slice Ac 0 cc,.slice Al 0 cl,.slice (some ⟨ib,io,none⟩) 1 ci,.bool false,.bool false,.slice Ar 0 cr,.slice Au 0 cu,.pointer (some ⟨s,0,none⟩),.slice none 0 0,.string ⟨#[]⟩,.string ⟨#[]⟩] 35)) wc.heap.size 35 (cfgC confA (.slice Aa 0 ca) (.slice Ac 0 cc) (.slice Al 0 cl) (.slice (some ⟨ib,io,none⟩) 1 ci) (.slice Ar 0 cr) (.slice Au 0 cu) (.pointer (some ⟨s,0,none⟩)) [] []):=Bk.new wc _ _
 have K6:=Lib.hid k6
 have B6:=Lib.hid b6
 have k5:=HK5.out.below b6
 obtain⟨j0,j1,j2,j3⟩:=(idx1e (HT5.out.2.2.2.1)).below b6
 simp only[ixA] at j0 j1 j2 j3
 clear p0 p1 p2 p3 p4 p5 p6 p7 p8 p9 p10 p11 k6
 have q7:=k5.cell 7
 simp only[List.getElem?_toArray,List.getElem?_cons_zero,List.getElem?_cons_succ] at q7
 clear b6 k5
 generalize wc.alloc (.cells #[.string ⟨#[68,67,61,90]⟩,.string ⟨#[]⟩,.string ⟨#[]⟩,.int .i64 10,.slice Aa 0 ca,.slice Ac 0 cc,.slice Al 0 cl,.slice (some ⟨ib,io,none⟩) 1 ci,.bool false,.bool false,.slice Ar 0 cr,.slice Au 0 cu,.pointer (some ⟨s,0,none⟩),.slice none 0 0,.string ⟨#[]⟩,.string ⟨#[]⟩] 35)=w6 at *
 have hadd:=add_c
 go_wp2_with fail
 go_loopg [13,60] 1 (fun gk l ix wr=>∃ k:Nat,k≤1∧ix= .int .i64 (k:Int)∧Aside (k+gk=1)∧Aside (Below w6.heap.size w6 wr)∧((k=0∧l= .slice none 0 0∧Aside (w6=wr))∨(k=1∧∃ A n,l= .slice A 1 n∧Aside (Own w6.heap.size wr (.slice A 1 n) [[99,110]]))))
 case atStart=>exact⟨0,by omega,rfl,rfl,Below.refl _ _,.inl ⟨rfl,rfl,rfl⟩⟩
 case round=>
 obtain⟨k,hk,rfl,AG,AB,hcase⟩:=hrel
 have HBr:=Lib.hid AB.out
 clear AB
 rcases hcase with ⟨rfl,rfl,AE⟩|⟨rfl,A,n,rfl,AO⟩
 ·obtain⟨q,rfl⟩:∃ q,gk=q+1:=⟨gk - 1,by have:=AG.out;omega⟩
  obtain rfl:=AE.out
  have HON:Hid (Own w6.heap.size w6 (.slice none 0 0) []):=Lib.hid (Own.nil (Nat.le_refl _))
  have b7:=bel_c w6 (.cells #[.string ⟨#[99,110]⟩,.bool true,.bool false,.bool true] 63)
  have B7:=Lib.hid b7
  have HO7:=Lib.hid (HON.out.below b7)
  clear b7 AE
  go_upto_region 13 with fail
  have k7:=Bk.new w6 63 #[.string ⟨#[99,110]⟩,.bool true,.bool false,.bool true]
  have x0:=k7.cell 0
  simp only[List.getElem?_toArray,List.getElem?_cons_zero,List.getElem?_cons_succ] at x0
  clear k7 j0 j1 j2 j3 q7
  generalize w6.alloc (.cells #[.string ⟨#[99,110]⟩,.bool true,.bool false,.bool true] 63)=w7 at *
  go_wp2_with (at_builtin;refine own_one (c:=[99,110]) rfl _ _ rfl rfl HO7.out rfl rfl (by simp) ?_;intro v' w' hO' hg';obtain⟨A6,c6,rfl,_⟩:=hO'.isSlice;have HB':=Lib.hid (Own.bel B7.out HO7.out hg');have HO':=Lib.hid hO';clear hO' hg')
  go_roundg q
  case measure=>omega
  case rel=>exact⟨1,by omega,by go_num,by have:=AG.out;show _=_;omega,HB'.out,.inr ⟨rfl,A6,c6,rfl,HO'.out⟩⟩
 have hrow:=AO.out
 have HO:=Lib.hid AO.out
 obtain⟨lg,hA,hl0⟩:∃ lg,A=some ⟨lg,0,none⟩∧wr.cell? ⟨lg,0,none⟩=some (.string ⟨#[99,110]⟩):=by
  rcases hrow.texts with ⟨h,_⟩|⟨b,c',hv,_,_,hx⟩
  ·cases h
  ·cases hv
   exact⟨b,rfl,hx 0 (by simp)⟩
 subst hA
 have hBc:Below wc.heap.size wc wr:=B6.out.trans (HBr.out.mono B6.out.size)
 have HBc:=Lib.hid hBc
 have HKr:=Lib.hid (K6.out.below HBr.out)
 have hcpl:=K6.out.lt
 have k5:=HK5.out.below hBc
 have q6:=k5.cell 6
 have q10:=k5.cell 10
 have q11:=k5.cell 11
 simp only[List.getElem?_toArray,List.getElem?_cons_zero,List.getElem?_cons_succ] at q6 q10 q11
 have HRd:=Lib.hid (read_none HKr.out)
 have HNm:=Lib.hid (named_c ps [100,99,61,122] [] (HW.out.keep (HB5.out.trans (hBc.mono HB5.out.size))) (HSch.out.below hBc) HKr.out key_a1 key_a2 (by decide) under_a1 under_a2 (fun W hg=>HSch.out.below (hBc.grown hg hBc.size (fun k hk=>by cases hk;exact Nat.le_refl _))) (fun W hg=>HW.out.keep (HB5.out.trans ((hBc.grown hg hBc.size (fun k hk=>by cases hk;exact Nat.le_refl _)).mono HB5.out.size))))
 clear hBc k5 hrow AO j0 j1 j2 j3 q7 K6 B6
 go_upto_region 20 with (first
  |(go_at_call 57;(with_reducible refine HRd.out.mono ?_);rintro e wx ⟨rfl,rfl⟩)
  |(go_at_call 58;(with_reducible refine HNm.out.mono ?_);rintro e w8 ⟨rfl,hg,hk8⟩;have HG8:=Lib.hid hg;have HK8:=Lib.hid hk8;clear hg hk8))
 have hB8:Below wc.heap.size wc w8:=HBc.out.grown HG8.out HBc.out.size (fun k hk=>by cases hk;exact Nat.le_refl _)
 have hO8:=HO.out.keep HG8.out (fun k hk=>by cases hk;exact hcpl)
 have hB9:=hB8.alloc hB8.size (.map #[] 0)
 have hb9:=bel_c w8 (.map #[] 0)
 have hm9:EmptyT (w8.alloc (.map #[] 0)) w8.heap.size:=heap_alloc_new w8 _
 have hl9:=own_at0 (hO8.below hb9) 0 (by simp)
 have hk9:=HK8.out.below hb9
 have hml:w8.heap.size<(w8.alloc (.map #[] 0)).heap.size:=by rw[World.size_alloc];omega
 have HM9:=Lib.hid hm9
 have HL9:=Lib.hid hl9
 have HK9:=Lib.hid hk9
 have HB9:=Lib.hid hB9
 have hcm:wc.heap.size<w8.heap.size:=HK8.out.lt
 clear hB8 hO8 hB9 hb9 hm9 hl9 hk9 HO HG8 HK8 HBc HBr HKr HRd HNm hl0 q6 q10 q11
 go_upto_region 22 with fail
 generalize w8.alloc (.map #[] 0)=w9 at *
 generalize w8.heap.size=mm at *
 have k5:=HK5.out.below HB9.out
 have q10:=k5.cell 10
 have q11:=k5.cell 11
 simp only[List.getElem?_toArray,List.getElem?_cons_zero,List.getElem?_cons_succ] at q10 q11
 clear k5
 have b10:=bel_c w9 (.cells #[.string ⟨#[105,110,100,101,120]⟩,.slice (some ⟨lg,0,none⟩) 1 n,.string ⟨#[114,101,102]⟩,.slice Ar 0 cr,.string ⟨#[117,110,105,113,117,101]⟩,.slice Au 0 cu] 96)
 have k10:=Bk.new w9 96 #[.string ⟨#[105,110,100,101,120]⟩,.slice (some ⟨lg,0,none⟩) 1 n,.string ⟨#[114,101,102]⟩,.slice Ar 0 cr,.string ⟨#[117,110,105,113,117,101]⟩,.slice Au 0 cu]
 have HB10:=Lib.hid (HB9.out.trans (b10.mono HB9.out.size))
 have HK10:=Lib.hid (HK9.out.below b10)
 have HM10:Hid (EmptyT (w9.alloc (.cells #[.string ⟨#[105,110,100,101,120]⟩,.slice (some ⟨lg,0,none⟩) 1 n,.string ⟨#[114,101,102]⟩,.slice Ar 0 cr,.string ⟨#[117,110,105,113,117,101]⟩,.slice Au 0 cu] 96)) mm):=Lib.hid ((b10.block mm hml).trans HM9.out)
 have HL10:=Lib.hid ((b10.cell (cell_lt HL9.out)).trans HL9.out)
 have HS10:=Lib.hid k10
 have hsl:mm<w9.heap.size:=hml
 clear b10 k10 HB9 HK9 HM9 HL9
 go_wp2_with fail
 generalize w9.alloc (.cells #[.string ⟨#[105,110,100,101,120]⟩,.slice (some ⟨lg,0,none⟩) 1 n,.string ⟨#[114,101,102]⟩,.slice Ar 0 cr,.string ⟨#[117,110,105,113,117,101]⟩,.slice Au 0 cu] 96)=w10 at *
 generalize w9.heap.size=sl at *
 have hm10:mm<w10.heap.size:=(Array.getElem?_eq_some_iff.1 HM10.out).1
 clear q10 q11
 go_loopg [17,18,93] 3 (fun gk s1 s2 ix wr=>∃ k:Nat,k≤3∧s1= .bool false∧s2= .bool false∧ix= .int .i64 (k:Int)∧Aside (k+gk=3)∧Aside (w10.grownBy wr (some mm))∧Aside (k=0→w10=wr))
 case atStart=>exact⟨0,by omega,rfl,rfl,rfl,rfl,World.grownBy.refl _ _,fun _=>rfl⟩
 case round=>
 obtain⟨k,hk,rfl,rfl,rfl,AG,AB,AE⟩:=hrel
 have HGr:=Lib.hid AB.out
 have HSl:=Lib.hid (HS10.out.grown HGr.out (fun e=>by have:=Option.some.inj e;omega))
 have HCf:=Lib.hid (HK10.out.grown HGr.out (fun e=>by have:=Option.some.inj e;omega))
 have HBx:=Lib.hid (HB10.out.grown HGr.out HB10.out.size (fun k hk=>by cases hk;omega))
 clear AB
 by_cases hk3:k<3
 case neg=>
  obtain rfl:k=3:=by omega
  have hT:=HT5.out
  have h5:=hT.2.2.2.2.1.below HBx.out
  have h6:=hT.2.2.2.2.2.below HBx.out
  have HRu:=Lib.hid (ruled_none HCf.out h5 h6)
  clear h5 h6 hT
  go_wp2_with (go_at_call 60;(with_reducible refine HRu.out.mono ?_);rintro e wf ⟨rfl,hb⟩;have HBf:=Lib.hid hb;clear hb)
  go_ret3
  have hBf:Below wc.heap.size wc wf:=HBx.out.trans (HBf.out.mono HBx.out.size)
  have hT:=HT5.out
  exact⟨HB5.out.trans (hBf.mono HB5.out.size),wc.heap.size,s,_,_,_,_,_,_,rfl,HCf.out.below HBf.out,hT.1.below hBf,hT.2.1.below hBf,hT.2.2.1.below hBf,hT.2.2.2.1.below hBf,hT.2.2.2.2.1.below hBf,hT.2.2.2.2.2.below hBf⟩
 case pos=>
 obtain⟨q,rfl⟩:∃ q,gk=q+1:=⟨gk - 1,by have:=AG.out;omega⟩
 have hkc:k=0∨k=1∨k=2:=by omega
 obtain⟨tj,ta,hf,ha⟩:=cn_base
 rcases hkc with rfl|rfl|rfl
 ·obtain rfl:=AE.out rfl
  clear AE
  have b11:=bel_c w10 (.cells #[.string ⟨#[105,110,100,101,120]⟩,.slice (some ⟨lg,0,none⟩) 1 n] 96)
  have HTy:=Lib.hid (types_one [105,110,100,101,120] [99,110] ps mm lg n (HSch.out.below (HBx.out.trans (b11.mono HBx.out.size))) (HCf.out.below b11) ((b11.block mm hm10).trans HM10.out) ((b11.cell (cell_lt HL10.out)).trans HL10.out) (by decide) tj ta hf ha)
  have HB11:=Lib.hid b11
  have x0:=HSl.out.cell 0
  have x1:=HSl.out.cell 1
  simp only[List.getElem?_toArray,List.getElem?_cons_zero,List.getElem?_cons_succ] at x0 x1
  clear b11
  go_wp2_with (go_at_call 59;(with_reducible refine HTy.out.mono ?_);rintro e wt ⟨rfl,hg⟩;have HGt:=Lib.hid hg;clear hg)
  go_roundg q
  case measure=>omega
  case rel=>exact⟨1,by omega,rfl,rfl,by go_num,by have:=AG.out;show _=_;omega,(grown_below HB11.out _).trans HGt.out,fun h=>by omega⟩
 ·have b11:=bel_c wr (.cells #[.string ⟨#[114,101,102]⟩,.slice Ar 0 cr] 96)
  have HTy:=Lib.hid (fun (W:World)=>types_none (w:=W) [114,101,102] Ar cr (.pointer (some ⟨wc.heap.size,0,none⟩)) (.map (some mm)))
  have HB11:=Lib.hid b11
  have x0:=HSl.out.cell 2
  have x1:=HSl.out.cell 3
  simp only[List.getElem?_toArray,List.getElem?_cons_zero,List.getElem?_cons_succ] at x0 x1
  clear b11
  go_wp2_with (go_at_call 59;(with_reducible refine(HTy.out _).mono ?_);rintro e wt ⟨rfl,rfl⟩)
  go_roundg q
  case measure=>omega
  case rel=>exact⟨2,by omega,rfl,rfl,by go_num,by have:=AG.out;show _=_;omega,HGr.out.trans (grown_below HB11.out _),fun h=>by omega⟩
 ·have b11:=bel_c wr (.cells #[.string ⟨#[117,110,105,113,117,101]⟩,.slice Au 0 cu] 96)
  have HTy:=Lib.hid (fun (W:World)=>types_none (w:=W) [117,110,105,113,117,101] Au cu (.pointer (some ⟨wc.heap.size,0,none⟩)) (.map (some mm)))
  have HB11:=Lib.hid b11
  have x0:=HSl.out.cell 4
  have x1:=HSl.out.cell 5
  simp only[List.getElem?_toArray,List.getElem?_cons_zero,List.getElem?_cons_succ] at x0 x1
  clear b11
  go_wp2_with (go_at_call 59;(with_reducible refine(HTy.out _).mono ?_);rintro e wt ⟨rfl,rfl⟩)
  go_roundg q
  case measure=>omega
  case rel=>exact⟨3,by omega,rfl,rfl,by go_num,by have:=AG.out;show _=_;omega,HGr.out.trans (grown_below HB11.out _),fun h=>by omega⟩
end Go.Proofs.YtakfpngfpknedaaGreatDoor
set_option linter.all false
namespace Go.Proofs.YtakfpngfpknedaaGreatDoor
open Go.RowKit
theorem Suffix_c {w:World} {c:Cfg.ConfE} {va vc vl vi vr vu sv:Value} {cp:Nat} {sx rt:LU} (h:Bk w cp 35 (cfgC c va vc vl vi vr vu sv sx rt)):Calls Tryz.prog 13 #[.pointer (some ⟨cp,0,none⟩)] w fun e w'=>e= .returned (.string ⟨sx.toArray⟩)∧w'=w:=by
 have c14:=h.cell 14
 simp only[cfgC,List.getElem?_toArray,List.getElem?_cons_zero,List.getElem?_cons_succ] at c14
 clear h
 go_enter Tryz.func13,Tryz.ntmps13
 go_wp2_with fail
 go_ret
 exact⟨rfl,rfl⟩
theorem Key19_c (w:World):Calls Tryz.prog 24 #[] w fun e w'=>e= .returned (.string ⟨#[99,110,61,99,111,110,102,105,103]⟩)∧w'=w:=by
 go_enter Tryz.func24,Tryz.ntmps24
 go_wp2_with fail
 go_ret
 exact⟨rfl,rfl⟩
theorem confA_told {w:World} {v:Value} (h:ConfT w v confA):∃ va vc vl b o c vr vu,v= .agg #[.string ⟨#[68,67,61,90]⟩,.string ⟨#[]⟩,.string ⟨#[]⟩,.int .i64 10,va,vc,vl,.slice (some ⟨b,o,none⟩) 1 c,.bool false,.bool false,vr,vu]∧w.cell? ⟨b,o+3,none⟩=some (.bool true):=by
 obtain⟨va,vc,vl,vi,vr,vu,rfl,h1,h2,h3,h4,h5,h6⟩:=h
 obtain⟨b,o,c,rfl,_,_,_,hx⟩:=idx1 (x:=ixA) h4
 exact⟨va,vc,vl,b,o,c,vr,vu,rfl,hx⟩
theorem alive19_c (w:World) (hw:Env w):Calls Tryz.prog 8 #[] w fun e w'=>e= .returned (.bool true)∧Bel w w':=by
 have hadd:=add_c
 have hb0:=bel_c w (.cells (Cfg.aliveC.map strV).toArray 9)
 have hT0:=texts_toA (own_newC w (nR _) Cfg.aliveC (by decide)).texts
 have HN:Hid (Calls Tryz.prog 23 #[.slice (some ⟨w.heap.size,0,none⟩) 3 3] (w.alloc (.cells #[.string ⟨#[115,117,102,102,105,120,32,68,67,61,90]⟩,.string ⟨#[115,105,122,101,32,49,48]⟩,.string ⟨#[105,110,100,101,120,32,99,110,32,101,113,44,115,117,98]⟩] 9)) (NewA (w.alloc (.cells #[.string ⟨#[115,117,102,102,105,120,32,68,67,61,90]⟩,.string ⟨#[115,105,122,101,32,49,48]⟩,.string ⟨#[105,110,100,101,120,32,99,110,32,101,113,44,115,117,98]⟩] 9)))):=hiD (New_alive _ _ (hw.keep hb0) hT0)
 have HB0:Hid (Bel w (w.alloc (.cells #[.string ⟨#[115,117,102,102,105,120,32,68,67,61,90]⟩,.string ⟨#[115,105,122,101,32,49,48]⟩,.string ⟨#[105,110,100,101,120,32,99,110,32,101,113,44,115,117,98]⟩] 9))):=hiD hb0
 clear hw hT0 hb0
 unfold NewA at HN
 go_enter Tryz.func8,Tryz.ntmps8
 go_upto_region 2 with (go_at_call 23;(with_reducible refine HN.out.mono ?_);rintro e w5 ⟨hb,cp,s,va,vc,vl,vi,vr,vu,rfl,hk,h1,h2,h3,h4,h5,h6⟩;have HB5:=hiD hb;have HK5:=hiD hk;have HT5:=hiD (And.intro h1 (And.intro h2 (And.intro h3 (And.intro h4 (And.intro h5 h6)))));clear hb hk h1 h2 h3 h4 h5 h6)
 have HSx:Hid (Calls Tryz.prog 13 #[.pointer (some ⟨cp,0,none⟩)] w5 fun e w'=>e= .returned (.string ⟨#[100,99,61,122]⟩)∧w'=w5):=hiD (Suffix_c HK5.out)
 have HCf:Hid (∀ W,Bel w5 W→Calls Tryz.prog 10 #[.pointer (some ⟨cp,0,none⟩)] W fun e w'=>Bel W w'∧∃ va vc vl b o c vr vu,e= .returned (.agg #[.string ⟨#[68,67,61,90]⟩,.string ⟨#[]⟩,.string ⟨#[]⟩,.int .i64 10,va,vc,vl,.slice (some ⟨b,o,none⟩) 1 c,.bool false,.bool false,vr,vu])∧w'.cell? ⟨b,o+3,none⟩=some (.bool true)):=hiD fun W h=>by
  have hT:=HT5.out
  refine(Conf_c (HK5.out.below h) (by refine⟨?_,?_,?_,?_,?_,?_⟩<;>decide) (hT.1.below h) (hT.2.1.below h) (hT.2.2.1.below h) (hT.2.2.2.1.below h) (hT.2.2.2.2.1.below h) (hT.2.2.2.2.2.below h)).mono ?_
  rintro e w' ⟨hb,v,rfl,hC⟩
  obtain⟨va,vc,vl,b,o,c,vr,vu,rfl,hx⟩:=confA_told hC
  exact⟨hb,va,vc,vl,b,o,c,vr,vu,rfl,hx⟩
 have HKy:=hiD (fun (W:World)=>Key19_c W)
 have HC:Hid (Bel w5 w5):=hiD (bR _ _)
 clear HN HK5 HT5
 have hf3:∀ (va vc vl vr vu:Value) (b o c:Nat) (W:World),(Instr.field 25 (.agg #[.string ⟨#[68,67,61,90]⟩,.string ⟨#[]⟩,.string ⟨#[]⟩,.int .i64 10,va,vc,vl,.slice (some ⟨b,o,none⟩) 1 c,.bool false,.bool false,vr,vu]) 3).run Tryz.prog W= .ok (.int .i64 10) W:=fun _ _ _ _ _ _ _ _ _=>by kernel_rfl
 have hf7:∀ (va vc vl vr vu:Value) (b o c:Nat) (W:World),(Instr.field 25 (.agg #[.string ⟨#[68,67,61,90]⟩,.string ⟨#[]⟩,.string ⟨#[]⟩,.int .i64 10,va,vc,vl,.slice (some ⟨b,o,none⟩) 1 c,.bool false,.bool false,vr,vu]) 7).run Tryz.prog W= .ok (.slice (some ⟨b,o,none⟩) 1 c) W:=fun _ _ _ _ _ _ _ _ _=>by kernel_rfl
 go_wp2_with (first
  |(go_at_call 13;(with_reducible refine HSx.out.mono ?_);rintro e w6 ⟨rfl,rfl⟩)
  |(go_at_call 10;(with_reducible refine(HCf.out _ HC.out).mono ?_);rintro e w7 ⟨hb,va7,vc7,vl7,b7,o7,c7,vr7,vu7,rfl,hx⟩;have HC:=hiD (tQ HC.out hb);clear hb)
  |(go_at_call 24;(with_reducible refine(HKy.out _).mono ?_);rintro e w8 ⟨rfl,rfl⟩))
 go_ret
 exact⟨rfl,HB0.out.trans ((tQ HB5.out HC.out).mono HB0.out.size)⟩
end Go.Proofs.YtakfpngfpknedaaGreatDoor
set_option linter.all false
namespace Go.Proofs.YtakfpngfpknedaaGreatDoor
open Go.RowKit
def ParseV (w:World) (R:Cfg.ConfE × Int × Int) (e:Ending) (w':World):Prop:=Bel w w'∧∃ Aa na ca Ac nc cc Al nl cl Ai ni ci Ar nr cr Au nu cu,e= .returned (.tuple #[.agg #[.string ⟨R.1.suffix.toArray⟩,.string ⟨R.1.root.toArray⟩,.string ⟨R.1.secret.toArray⟩,.int .i64 R.1.size,.slice Aa na ca,.slice Ac nc cc,.slice Al nl cl,.slice Ai ni ci,.bool R.1.memberof,.bool R.1.audit,.slice Ar nr cr,.slice Au nu cu],.int .i64 R.2.1,.int .i64 R.2.2])∧
 Texts w' (.slice Aa na ca) R.1.attrs∧Texts w' (.slice Ac nc cc) R.1.classes∧Texts w' (.slice Al nl cl) R.1.acls∧IdxA w' (.slice Ai ni ci) R.1.indexes∧Texts w' (.slice Ar nr cr) R.1.refs∧Texts w' (.slice Au nu cu) R.1.unique
theorem idx_slice {w:World} {v:Value} {xs:List Cfg.IndexE} (h:IdxA w v xs):∃ A n c,v= .slice A n c:=by
 rcases h with ⟨_,h⟩|⟨b,o,c,h,_⟩
 ·exact⟨_,_,_,h⟩
 ·exact⟨_,_,_,h⟩
theorem PRet.open {w:World} {R:Cfg.ConfE × Int × Int} {e:Ending} {w':World} (h:PRet w R e w'):ParseV w R e w':=by
 obtain⟨hb,v,he,va,vc,vl,vi,vr,vu,rfl,h1,h2,h3,h4,h5,h6⟩:=h
 obtain⟨Aa,na,ca,rfl⟩:=h1.isSlice
 obtain⟨Ac,nc,cc,rfl⟩:=h2.isSlice
 obtain⟨Al,nl,cl,rfl⟩:=h3.isSlice
 obtain⟨Ai,ni,ci,rfl⟩:=idx_slice h4
 obtain⟨Ar,nr,cr,rfl⟩:=h5.isSlice
 obtain⟨Au,nu,cu,rfl⟩:=h6.isSlice
 exact⟨hb,_,_,_,_,_,_,_,_,_,_,_,_,_,_,_,_,_,_,he,h1,h2,h3,h4,h5,h6⟩
theorem onceL_len:∀ s∈Cfg.onceL,s.length≤3000000:=by decide
theorem once_c (k:Int) (w:World) (hw:Env w):Calls Tryz.prog 3 #[.int .i64 k] w fun e w'=>e= .returned (.bool true)∧Bel w w':=by
 have b1:=bel_c w (.cells #[.string ⟨#[115,117,102,102,105,120,32,100,99,61,122]⟩,.string ⟨#[114,111,111,116,32,99,110,61,114]⟩,.string ⟨#[115,101,99,114,101,116,32,115]⟩,.string ⟨#[115,105,122,101,32,53]⟩,.string ⟨#[109,101,109,98,101,114,111,102,32,111,110]⟩,.string ⟨#[97,117,100,105,116,32,111,102,102]⟩,.string ⟨#[97,116,116,114,32,120]⟩,.string ⟨#[99,108,97,115,115,32,120]⟩,.string ⟨#[97,99,108,32,120]⟩,.string ⟨#[105,110,100,101,120,32,99,110,32,101,113]⟩,.string ⟨#[114,101,102,32,109,101,109,98,101,114]⟩,.string ⟨#[117,110,105,113,117,101,32,117,105,100]⟩] 9)
 have hO:Own w.heap.size (w.alloc (.cells #[.string ⟨#[115,117,102,102,105,120,32,100,99,61,122]⟩,.string ⟨#[114,111,111,116,32,99,110,61,114]⟩,.string ⟨#[115,101,99,114,101,116,32,115]⟩,.string ⟨#[115,105,122,101,32,53]⟩,.string ⟨#[109,101,109,98,101,114,111,102,32,111,110]⟩,.string ⟨#[97,117,100,105,116,32,111,102,102]⟩,.string ⟨#[97,116,116,114,32,120]⟩,.string ⟨#[99,108,97,115,115,32,120]⟩,.string ⟨#[97,99,108,32,120]⟩,.string ⟨#[105,110,100,101,120,32,99,110,32,101,113]⟩,.string ⟨#[114,101,102,32,109,101,109,98,101,114]⟩,.string ⟨#[117,110,105,113,117,101,32,117,105,100]⟩] 9)) (.slice (some ⟨w.heap.size,0,none⟩) 12 12) Cfg.onceL:=own_newC w (nR _) Cfg.onceL (by decide)
 have HB1:=hiD b1
 have HO:=hiD hO
 have HW:=hiD hw
 clear hw hO b1
 have ht1:=Int.tmod_lt_of_pos k (show (0:Int)<12 by omega)
 have ht2:=Int.lt_tmod_of_pos k (show (0:Int)<12 by omega)
 have hadd:=add_c
 go_enter Tryz.func3,Tryz.ntmps3
 go_upto_region 3 with fail
 generalize w.alloc (.cells #[.string ⟨#[115,117,102,102,105,120,32,100,99,61,122]⟩,.string ⟨#[114,111,111,116,32,99,110,61,114]⟩,.string ⟨#[115,101,99,114,101,116,32,115]⟩,.string ⟨#[115,105,122,101,32,53]⟩,.string ⟨#[109,101,109,98,101,114,111,102,32,111,110]⟩,.string ⟨#[97,117,100,105,116,32,111,102,102]⟩,.string ⟨#[97,116,116,114,32,120]⟩,.string ⟨#[99,108,97,115,115,32,120]⟩,.string ⟨#[97,99,108,32,120]⟩,.string ⟨#[105,110,100,101,120,32,99,110,32,101,113]⟩,.string ⟨#[114,101,102,32,109,101,109,98,101,114]⟩,.string ⟨#[117,110,105,113,117,101,32,117,105,100]⟩] 9)=w1 at *
 generalize k.tmod 12=z at *
 go_upto_if 13 with fail
 go_cut [0] (fun s0 wx=>wx=w1∧∃ kn:Nat,s0= .int .i64 (kn:Int)∧Aside (kn<12))
 case first=>
  by_cases hneg:z<0
  ·go_wp2_with fail
   go_meet
   exact⟨rfl,(z+12).toNat,by congr 1;omega,by show _<_;omega⟩
  ·go_wp2_with fail
   go_meet
   exact⟨rfl,z.toNat,by congr 1;omega,by show _<_;omega⟩
 case rest=>
 obtain⟨rfl,kn,rfl,AK⟩:=hcut
 have hkl:=AK.out
 have hkI:(kn:Int)<12:=by omega
 have hcell:=own_at0 HO.out kn (by show _<12;exact hkl)
 have hlen:=onceL_len _ (List.getElem_mem (show kn<Cfg.onceL.length from hkl))
 have hlaw:=Cfg.once_law kn hkl
 rw[show Cfg.onceL.getD kn []=Cfg.onceL[kn]'hkl by rw[List.getD_eq_getElem?_getD,List.getElem?_eq_getElem (show kn<Cfg.onceL.length from hkl)];rfl] at hlaw
 generalize Cfg.onceL[kn]'hkl=s at *
 have HLaw:=hiD hlaw
 clear hlaw
 have HAl:=hiD (fun (W:World) (h:Bel w W)=>alive19_c W (HW.out.keep h))
 have HPg:Hid (∀ (g:Nat) (W:World),Bk W g 9 #[.string ⟨#[97,99,108,32,121]⟩,.string ⟨s.toArray⟩,.string ⟨#[97,99,108,32,122]⟩,.string ⟨s.toArray⟩]→Bel wc W→Calls Tryz.prog 7 #[.slice (some ⟨g,0,none⟩) 4 4] W (ParseV W (Cfg.parseC [Cfg.aclY,s,Cfg.aclZ,s]))):=hiD fun g W hk hb=>(ParseC_c [Cfg.aclY,s,Cfg.aclZ,s] _ W (HW.out.keep (tQ HB1.out hb)) (.inr ⟨⟨g,0,none⟩,4,rfl,nR _,fun j hj=>by
  rw[add_c,Nat.zero_add,hk.cell j]
  match j,hj with
  |0,_=>rfl
  |1,_=>rfl
  |2,_=>rfl
  |3,_=>rfl⟩) (by
  intro x hx
  simp only[List.mem_cons,List.not_mem_nil,or_false] at hx
  rcases hx with rfl|rfl|rfl|rfl
  ·decide
  ·exact hlen
  ·decide
  ·exact hlen)).mono fun e w' h=>h.open
 clear HO
 generalize Cfg.parseC [Cfg.aclY,s,Cfg.aclZ,s]=R at *
 unfold ParseV at HPg
 have HS:Hid (∀ W,Bel wc W→W.cell? ⟨w.heap.size,kn,none⟩=some (.string ⟨s.toArray⟩)):=hiD fun W h=>cQ h hcell
 have HC:Hid (Bel wc wc):=hiD (bR _ _)
 go_upto_region 5 with fail
 go_cut [5,6] (fun s5 s6 wx=>s5= .int .i64 R.2.1∧s6= .int .i64 R.2.2∧Aside (Bel w wx))
 case first=>
  have b8:=HC.out.alloc HC.out.size (.cells #[.string ⟨#[97,99,108,32,121]⟩,.string ⟨s.toArray⟩,.string ⟨#[97,99,108,32,122]⟩,.string ⟨s.toArray⟩] 9)
  have b14:=HC.out.alloc HC.out.size (.cells #[.string ⟨#[]⟩,.string ⟨#[]⟩,.string ⟨#[]⟩,.int .i64 0,.slice none 0 0,.slice none 0 0,.slice none 0 0,.slice none 0 0,.bool false,.bool false,.slice none 0 0,.slice none 0 0] 25)
  have k8:=Bk.new wc 9 #[.string ⟨#[97,99,108,32,121]⟩,.string ⟨s.toArray⟩,.string ⟨#[97,99,108,32,122]⟩,.string ⟨s.toArray⟩]
  have k148:=Bk.new (wc.alloc (.cells #[.string ⟨#[]⟩,.string ⟨#[]⟩,.string ⟨#[]⟩,.int .i64 0,.slice none 0 0,.slice none 0 0,.slice none 0 0,.slice none 0 0,.bool false,.bool false,.slice none 0 0,.slice none 0 0] 25)) 9 #[.string ⟨#[97,99,108,32,121]⟩,.string ⟨s.toArray⟩,.string ⟨#[97,99,108,32,122]⟩,.string ⟨s.toArray⟩]
  rw[World.size_alloc] at k148
  have HA:=hiD (And.intro (k8.below (bR _ _).drew) b8.drew)
  have HB:=hiD (And.intro ((k8.alloc (.cells #[.string ⟨#[]⟩,.string ⟨#[]⟩,.string ⟨#[]⟩,.int .i64 0,.slice none 0 0,.slice none 0 0,.slice none 0 0,.slice none 0 0,.bool false,.bool false,.slice none 0 0,.slice none 0 0] 25)).below (bR _ _).drew) (b8.alloc b8.size (.cells #[.string ⟨#[]⟩,.string ⟨#[]⟩,.string ⟨#[]⟩,.int .i64 0,.slice none 0 0,.slice none 0 0,.slice none 0 0,.slice none 0 0,.bool false,.bool false,.slice none 0 0,.slice none 0 0] 25)).drew)
  have HD:=hiD (And.intro (k148.below (bR _ _).drew) (b14.alloc b14.size (.cells #[.string ⟨#[97,99,108,32,121]⟩,.string ⟨s.toArray⟩,.string ⟨#[97,99,108,32,122]⟩,.string ⟨s.toArray⟩] 9)).drew)
  have HE:=hiD b14.drew
  have z1:=Bk.new (wc.alloc (.cells #[.string ⟨#[97,99,108,32,121]⟩,.string ⟨s.toArray⟩,.string ⟨#[97,99,108,32,122]⟩,.string ⟨s.toArray⟩] 9)) 25 #[.string ⟨#[]⟩,.string ⟨#[]⟩,.string ⟨#[]⟩,.int .i64 0,.slice none 0 0,.slice none 0 0,.slice none 0 0,.slice none 0 0,.bool false,.bool false,.slice none 0 0,.slice none 0 0]
  rw[World.size_alloc] at z1
  have HZB:=hiD (z1.below (bR _ _).drew)
  have HZD:=hiD (((Bk.new wc 25 #[.string ⟨#[]⟩,.string ⟨#[]⟩,.string ⟨#[]⟩,.int .i64 0,.slice none 0 0,.slice none 0 0,.slice none 0 0,.slice none 0 0,.bool false,.bool false,.slice none 0 0,.slice none 0 0]).alloc (.cells #[.string ⟨#[97,99,108,32,121]⟩,.string ⟨s.toArray⟩,.string ⟨#[97,99,108,32,122]⟩,.string ⟨s.toArray⟩] 9)).below (bR _ _).drew)
  clear b8 b14 k8 k148 z1
  go_region_held3 (fun W=>W.cell? ⟨w.heap.size,kn,none⟩=some (.string ⟨s.toArray⟩)) (first|(with_reducible exact HS.out _ HC.out.drew)|(with_reducible exact HS.out _ HA.out.2)|(with_reducible exact HS.out _ HB.out.2)|(with_reducible exact HS.out _ HD.out.2)|(with_reducible exact HS.out _ HE.out)|(with_reducible exact HS.out _ HC5.out)|(with_reducible exact HS.out _ HC4.out)|(with_reducible exact HS.out _ (HC4.out.alloc HC4.out.size _))) (first
   |(go_at_call 7;(with_reducible refine(HPg.out _ _ HA.out.1 HA.out.2).mono ?_);rintro e w4 ⟨hb,Aa,na,ca,Ac,nc,cc,Al,nl,cl,Ai,ni,ci,Ar,nr,cr,Au,nu,cu,rfl, -⟩;have HC4:=hiD (tQ HA.out.2 hb);clear hb)
   |(go_at_call 7;(with_reducible refine(HPg.out _ _ HB.out.1 HB.out.2).mono ?_);rintro e w4 ⟨hb,Aa,na,ca,Ac,nc,cc,Al,nl,cl,Ai,ni,ci,Ar,nr,cr,Au,nu,cu,rfl, -⟩;have HC4:=hiD (tQ HB.out.2 hb);have hz:=HZB.out.below hb;have f0:=hz.frozen 0;have f1:=hz.frozen 1;have f2:=hz.frozen 2;have f3:=hz.frozen 3;have f4:=hz.frozen 4;have f5:=hz.frozen 5;have f6:=hz.frozen 6;have f7:=hz.frozen 7;have f8:=hz.frozen 8;have f9:=hz.frozen 9;have f10:=hz.frozen 10;have f11:=hz.frozen 11;have r0:=hz.cell 0;have r1:=hz.cell 1;have r2:=hz.cell 2;have r3:=hz.cell 3;have r4:=hz.cell 4;have r5:=hz.cell 5;have r6:=hz.cell 6;have r7:=hz.cell 7;have r8:=hz.cell 8;have r9:=hz.cell 9;have r10:=hz.cell 10;have r11:=hz.cell 11;simp only[gs3] at r0 r1 r2 r3 r4 r5 r6 r7 r8 r9 r10 r11;have HC5:=hiD (below_set12 (b:=wc.heap.size+1) (.string ⟨R.1.suffix.toArray⟩) (.string ⟨R.1.root.toArray⟩) (.string ⟨R.1.secret.toArray⟩) (.int .i64 R.1.size) (.slice Aa na ca) (.slice Ac nc cc) (.slice Al nl cl) (.slice Ai ni ci) (.bool R.1.memberof) (.bool R.1.audit) (.slice Ar nr cr) (.slice Au nu cu) HC4.out (Nat.le_succ _));unfold set12 at HC5;clear hb hz)
   |(go_at_call 7;(with_reducible refine(HPg.out _ _ HD.out.1 HD.out.2).mono ?_);rintro e w4 ⟨hb,Aa,na,ca,Ac,nc,cc,Al,nl,cl,Ai,ni,ci,Ar,nr,cr,Au,nu,cu,rfl, -⟩;have HC4:=hiD (tQ HD.out.2 hb);have hz:=HZD.out.below hb;have f0:=hz.frozen 0;have f1:=hz.frozen 1;have f2:=hz.frozen 2;have f3:=hz.frozen 3;have f4:=hz.frozen 4;have f5:=hz.frozen 5;have f6:=hz.frozen 6;have f7:=hz.frozen 7;have f8:=hz.frozen 8;have f9:=hz.frozen 9;have f10:=hz.frozen 10;have f11:=hz.frozen 11;have r0:=hz.cell 0;have r1:=hz.cell 1;have r2:=hz.cell 2;have r3:=hz.cell 3;have r4:=hz.cell 4;have r5:=hz.cell 5;have r6:=hz.cell 6;have r7:=hz.cell 7;have r8:=hz.cell 8;have r9:=hz.cell 9;have r10:=hz.cell 10;have r11:=hz.cell 11;simp only[gs3] at r0 r1 r2 r3 r4 r5 r6 r7 r8 r9 r10 r11;have HC5:=hiD (below_set12 (b:=wc.heap.size) (.string ⟨R.1.suffix.toArray⟩) (.string ⟨R.1.root.toArray⟩) (.string ⟨R.1.secret.toArray⟩) (.int .i64 R.1.size) (.slice Aa na ca) (.slice Ac nc cc) (.slice Al nl cl) (.slice Ai ni ci) (.bool R.1.memberof) (.bool R.1.audit) (.slice Ar nr cr) (.slice Au nu cu) HC4.out (nR _));unfold set12 at HC5;clear hb hz)
   |fail)
  all_goals
   go_wp2_with fail
   go_meet
   refine⟨rfl,rfl,?_⟩
   show Below _ _ _
   first
    |(with_reducible exact tQ HB1.out HC5.out)
    |(with_reducible exact HB1.out.trans ((HC4.out.alloc HC4.out.size _).mono HB1.out.size))
 case rest=>
 obtain⟨rfl,rfl,AB⟩:=hcut
 have HBx:=hiD AB.out
 clear AB HPg HS HC hcell
 by_cases h6:kn<6
 ·have hlaw:=HLaw.out
  rw[if_pos h6] at hlaw
  rw[hlaw]
  clear hlaw HLaw
  have h6I:(kn:Int)<6:=by omega
  go_wp2_with (go_at_call 8;(with_reducible refine(HAl.out _ HBx.out).mono ?_);rintro e w9 ⟨rfl,hb⟩;have HB9:=hiD (tQ HBx.out hb);clear hb)
  go_ret
  exact⟨rfl,HB9.out⟩
 ·have hlaw:=HLaw.out
  rw[if_neg h6] at hlaw
  rw[hlaw]
  clear hlaw HLaw
  have h6I:¬ (kn:Int)<6:=by omega
  go_wp2_with (go_at_call 8;(with_reducible refine(HAl.out _ HBx.out).mono ?_);rintro e w9 ⟨rfl,hb⟩;have HB9:=hiD (tQ HBx.out hb);clear hb)
  go_ret
  exact⟨rfl,HB9.out⟩
end Go.Proofs.YtakfpngfpknedaaGreatDoor
