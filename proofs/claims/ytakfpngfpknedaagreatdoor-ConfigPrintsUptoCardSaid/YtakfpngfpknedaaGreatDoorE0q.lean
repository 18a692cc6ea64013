import Derived.Test.YtakfpngfpknedaaGreatDoorE0p
set_option linter.all false
set_option maxHeartbeats 8000000
set_option maxRecDepth 100000
set_option linter.all false
namespace Go.Proofs.YtakfpngfpknedaaGreatDoor
open Go.RowKit
namespace Cfg
theorem stepI_typ (x:IndexE) (k:List UInt8):(stepI x k).typ=x.typ:=by
 unfold stepI
 split
 ·rfl
 ·split
  ·rfl
  ·split<;>rfl
theorem foldI_typ:∀ (l:List (List UInt8)) (x:IndexE),(l.foldl stepI x).typ=x.typ
 |[],_=>rfl
 |k::l,x=>by rw[List.foldl_cons,foldI_typ l,stepI_typ]
theorem foldI_succ (l:List (List UInt8)) (x:IndexE) (k:Nat) (h:k<l.length):(l.take (k+1)).foldl stepI x=stepI ((l.take k).foldl stepI x) l[k]:=by
 rw[List.take_succ_eq_append_getElem h,List.foldl_append]
 rfl
theorem nameS_len (s:List UInt8):(nameS s).length≤s.length:=(List.takeWhile_sublist _).length_le
theorem argS_len (s:List UInt8):(argS s).length≤s.length:=by
 unfold argS
 rw[List.length_drop]
 have:=(List.dropWhile_sublist (· !=32) (l:=s)).length_le
 omega
end Cfg
theorem zs_ (w:World) (o:Obj):Below w.heap.size w (w.alloc o):=(Below.refl _ _).alloc (Nat.le_refl _) _
theorem ko_ (b o j:Nat):(⟨b,o,none⟩:Addr).add j=⟨b,o+j,none⟩:=by unfold Addr.add;split<;>simp_all
def ixC (x:Cfg.IndexE):Array Value:=#[.string ⟨x.typ.toArray⟩,.bool x.eq,.bool x.pres,.bool x.sub]
def zgz_ (W:World) (b:Nat) (ty:List UInt8) (fe fp fs:Bool):World:=(((W.setCell ⟨b,0,none⟩ (.string ⟨ty.toArray⟩)).setCell ⟨b,1,none⟩ (.bool fe)).setCell ⟨b,2,none⟩ (.bool fp)).setCell ⟨b,3,none⟩ (.bool fs)
theorem zew_ {B g n c:Nat} {w:World} {xs:List (List UInt8)} (h:Own B w (.slice (some ⟨g,0,none⟩) n c) xs) (j:Nat) (hj:j<xs.length):w.cell? ⟨g,j,none⟩=some (.string ⟨xs[j].toArray⟩):=by
 rcases h.texts with ⟨h1,h2⟩|⟨b,c',hv,hc,hlt,hcell⟩
 ·cases h2
 ·cases hv
  exact hcell j hj
theorem z57_ {W:World} {tmps:Array Value} {b:Nat} {ty:List UInt8} {fe fp fs r:Bool} (hz:Bk W b 63 #[.string ⟨ty.toArray⟩,.bool fe,.bool fp,.bool fs]) (h2:tmps[2]?=some (.pointer (some ⟨b,0,none⟩))) (h3:tmps[3]?=some (.bool r)) {Q:Ending→World→Prop} (hQ:Q (.returned (.tuple #[.agg #[.string ⟨ty.toArray⟩,.bool fe,.bool fp,.bool fs],.bool r])) W):
  bodyPost Tryz.prog Tryz.f51 Q .ret {tmps:=tmps,defers:=[]} W:=by
 have e6:tmps[2]?.getD undef= .pointer (some ⟨b,0,none⟩):=by rw[h2];rfl
 have e7:tmps[3]?.getD undef= .bool r:=by rw[h3];rfl
 have c0:=hz.cell 0
 have c1:=hz.cell 1
 have c2:=hz.cell 2
 have c3:=hz.cell 3
 simp only[List.getElem?_toArray,List.getElem?_cons_zero,List.getElem?_cons_succ] at c0 c1 c2 c3
 refine bodyPost_ret (v:= .tuple #[.agg #[.string ⟨ty.toArray⟩,.bool fe,.bool fp,.bool fs],.bool r]) ?_ rfl hQ
 simp [results,Tryz.results51,go_sem,e6,e7,c0,c1,c2,c3]
set_option maxRecDepth 100000 in
theorem zix_ (s:List UInt8) (w:World) (hw:Env w) (hs:s.length≤3000000):
  Calls Tryz.prog 51 #[.string ⟨s.toArray⟩] w fun e w'=>e= .returned (.tuple #[.agg (ixC (Cfg.indexS s).1),.bool (Cfg.indexS s).2])∧Below w.heap.size w w':=by
 have hnl:=Cfg.nameS_len s
 have hal:=Cfg.argS_len s
 have HCu:Hid (∀ W,Below w.heap.size w W→Calls Tryz.prog 21 #[.string ⟨s.toArray⟩,.string ⟨#[32]⟩] W fun e w'=>e= .returned (.tuple #[.string ⟨(Cfg.nameS s).toArray⟩,.string ⟨(Cfg.argS s).toArray⟩,.bool (s.contains 32)])∧Below W.heap.size W w'):=Lib.hid fun W h=>zie_ s W (hw.keep h) (by omega)
 have HSp:Hid (∀ W,Below w.heap.size w W→Calls Tryz.prog 69 #[.string ⟨(Cfg.argS s).toArray⟩,.string ⟨#[44]⟩] W fun e w'=>e= .returned (.slice (some ⟨W.heap.size,0,none⟩) (Cfg.commas (Cfg.argS s)).length (Cfg.commas (Cfg.argS s)).length)∧Below W.heap.size W w'∧Own W.heap.size w' (.slice (some ⟨W.heap.size,0,none⟩) (Cfg.commas (Cfg.argS s)).length (Cfg.commas (Cfg.argS s)).length) (Cfg.commas (Cfg.argS s))):=Lib.hid fun W h=>zgh_ _ W (hw.keep h) (by omega)
 have HTy0:Hid (∀ W,Below w.heap.size w W→Calls Tryz.prog 52 #[.string ⟨(Cfg.nameS s).toArray⟩] W fun e w'=>e= .returned (.bool (zc_ (Cfg.nameS s)))∧Below W.heap.size W w'):=Lib.hid fun W h=>qf_ _ W (hw.keep h) (by omega)
 have HIx0:Hid (∀ x:Cfg.IndexE,x.typ=Cfg.nameS s→∀ W,Below w.heap.size w W→Calls Tryz.prog 34 #[.agg (ixC x)] W fun e w'=>e= .returned (.string ⟨(Cfg.textI x).toArray⟩)∧Below W.heap.size W w'):=Lib.hid fun x hx W h=>z1s_ x W (hw.keep h) (by rw[hx];omega)
 have hcl:=Cfg.commas_len (Cfg.argS s)
 have hcs:=Cfg.commas_sub (Cfg.argS s)
 have hR:Cfg.indexS s=((Cfg.commas (Cfg.argS s)).foldl Cfg.stepI ⟨Cfg.nameS s,false,false,false⟩,zc_ (Cfg.nameS s) && Cfg.textI ((Cfg.commas (Cfg.argS s)).foldl Cfg.stepI ⟨Cfg.nameS s,false,false,false⟩)==s):=rfl
 rw[hR]
 have htyp:=Cfg.foldI_typ (Cfg.commas (Cfg.argS s)) ⟨Cfg.nameS s,false,false,false⟩
 clear hw hR
 generalize Cfg.commas (Cfg.argS s)=ks at *
 generalize Cfg.argS s=ar at *
 generalize Cfg.nameS s=nm at *
 generalize zc_ nm=it at *
 have b0:=(Below.refl w.heap.size w).alloc (Nat.le_refl _) (.cells #[.string ⟨#[]⟩,.bool false,.bool false,.bool false] 63)
 have hr0:=Bk.new w 63 #[.string ⟨#[]⟩,.bool false,.bool false,.bool false]
 have HB1:=Lib.hid b0
 have HR0:=Lib.hid hr0
 clear b0 hr0
 go_enter Tryz.func51,Tryz.ntmps51
 go_upto_region 3 with (go_at_call 21;(with_reducible refine(HCu.out _ HB1.out).mono ?_);rintro e w1 ⟨rfl,hb⟩;have HR1:=Lib.hid (HR0.out.below hb);have HB1:=Lib.hid (HB1.out.trans (hb.mono HB1.out.size));clear hb)
 have b1:=zs_ w1 (.cells #[.string ⟨nm.toArray⟩,.bool false,.bool false,.bool false] 63)
 have hx0:=Bk.new w1 63 #[.string ⟨nm.toArray⟩,.bool false,.bool false,.bool false]
 have HR2:=Lib.hid (HR1.out.below b1)
 have HB2:=Lib.hid (HB1.out.trans (b1.mono HB1.out.size))
 have HX2:=Lib.hid hx0
 have hlt:=HR1.out.lt
 have hlt2:=hx0.lt
 clear b1 hx0 HB1 HR1 HR0 HCu
 generalize w1.alloc (.cells #[.string ⟨nm.toArray⟩,.bool false,.bool false,.bool false] 63)=w2 at *
 generalize w1.heap.size=bx at *
 go_wp2_with (go_at_call 69;(with_reducible refine(HSp.out _ HB2.out).mono ?_);rintro e w3 ⟨rfl,hb,hO⟩;have HB3:=Lib.hid (HB2.out.trans (hb.mono HB2.out.size));have HR3:=Lib.hid (HR2.out.below hb);have HX3:=Lib.hid (HX2.out.below hb);have HO3:=Lib.hid (hO.lower (B':=bx+1) (by omega));clear hb hO)
 clear HSp HB2 HR2 HX2
 generalize w2.heap.size=g at *
 have hkl:(ks.length:Int)≤4000000:=by omega
 go_loopg [21] ks.length (fun gk ix wr=>∃ k:Nat,k≤ks.length∧ix= .int .i64 (k:Int)∧Aside (k+gk=ks.length)∧Aside (Below w.heap.size w wr)∧Aside (Bk wr w.heap.size 63 #[.string ⟨#[]⟩,.bool false,.bool false,.bool false])∧Aside (Bk wr bx 63 (ixC ((ks.take k).foldl Cfg.stepI ⟨nm,false,false,false⟩)))∧Aside (Own (bx+1) wr (.slice (some ⟨g,0,none⟩) ks.length ks.length) ks))
 case atStart=>exact⟨0,Nat.zero_le _,rfl,by show _=_;omega,HB3.out,HR3.out,HX3.out,HO3.out⟩
 case round=>
 clear HB3 HR3 HX3 HO3
 obtain⟨k,hk,rfl,AG,AB,AR,AX,AO⟩:=hrel
 have HB:=Lib.hid AB.out
 have HR:=Lib.hid AR.out
 have HX:=Lib.hid AX.out
 have HO:=Lib.hid AO.out
 clear AB AR AX AO
 by_cases hlt3:k<ks.length
 case pos=>
  clear HTy0 HIx0 htyp
  obtain⟨q,rfl⟩:∃ q,gk=q+1:=⟨gk - 1,by have:=AG.out;omega⟩
  have hel:=zew_ HO.out k hlt3
  have hfo:=Cfg.foldI_succ ks ⟨nm,false,false,false⟩ k hlt3
  have HF:=Lib.hid hfo
  have hcu:=hcs _ (List.getElem_mem hlt3)
  clear hfo
  generalize ks[k]=u at *
  generalize (ks.take k).foldl Cfg.stepI ⟨nm,false,false,false⟩=y at *
  have f1:=HX.out.frozen 1
  have f2:=HX.out.frozen 2
  have f3:=HX.out.frozen 3
  have x1:=HX.out.cell 1
  have x2:=HX.out.cell 2
  have x3:=HX.out.cell 3
  simp only[ixC,List.getElem?_toArray,List.getElem?_cons_zero,List.getElem?_cons_succ] at x1 x2 x3
  have hne:w.heap.size≠bx:=by omega
  have HST:Hid (∀ (i:Nat) (y':Cfg.IndexE) (v:Value),Cfg.stepI y u=y'→(ixC y).setIfInBounds i v=ixC y'→Below w.heap.size w (wr.setCell ⟨bx,i,none⟩ v)∧Bk (wr.setCell ⟨bx,i,none⟩ v) w.heap.size 63 #[.string ⟨#[]⟩,.bool false,.bool false,.bool false]∧Bk (wr.setCell ⟨bx,i,none⟩ v) bx 63 (ixC ((ks.take (k+1)).foldl Cfg.stepI ⟨nm,false,false,false⟩))∧Own (bx+1) (wr.setCell ⟨bx,i,none⟩ v) (.slice (some ⟨g,0,none⟩) ks.length ks.length) ks):=Lib.hid fun i y' v hs hc=>by
   refine⟨HB.out.setCell (p:=⟨bx,i,none⟩) (Nat.le_of_lt hlt) v,HR.out.far hne v,?_,HO.out.keep (z5_ _ _ _ _) (fun k hk=>by cases hk;omega)⟩
   rw[HF.out,hs,← hc]
   exact HX.out.set i v
  have HSN:Hid (Cfg.stepI y u=y→Bk wr bx 63 (ixC ((ks.take (k+1)).foldl Cfg.stepI ⟨nm,false,false,false⟩))):=Lib.hid fun hs=>by
   rw[HF.out,hs]
   exact HX.out
  clear HX HF
  by_cases h1:u=Cfg.wEq
  ·have hst:Cfg.stepI y u={y with eq:=true}:=by unfold Cfg.stepI;rw[if_pos h1]
   have HQ:=Lib.hid (HST.out 1 _ (.bool true) hst rfl)
   have t1:(u==[101,113])=true:=beq_iff_eq.2 h1
   clear hst HST HSN HB HR HO h1
   go_wp2_with fail
   go_roundg q
   case measure=>omega
   case rel=>exact⟨k+1,by omega,by go_num,by have:=AG.out;show _=_;omega,HQ.out.1,HQ.out.2.1,HQ.out.2.2.1,HQ.out.2.2.2⟩
  have t1:(u==[101,113])=false:=beq_eq_false_iff_ne.2 h1
  by_cases h2:u=Cfg.wPres
  ·have hst:Cfg.stepI y u={y with pres:=true}:=by unfold Cfg.stepI;rw[if_neg h1,if_pos h2]
   have HQ:=Lib.hid (HST.out 2 _ (.bool true) hst rfl)
   have t2:(u==[112,114,101,115])=true:=beq_iff_eq.2 h2
   clear hst HST HSN HB HR HO h1 h2
   go_wp2_with fail
   go_roundg q
   case measure=>omega
   case rel=>exact⟨k+1,by omega,by go_num,by have:=AG.out;show _=_;omega,HQ.out.1,HQ.out.2.1,HQ.out.2.2.1,HQ.out.2.2.2⟩
  have t2:(u==[112,114,101,115])=false:=beq_eq_false_iff_ne.2 h2
  by_cases h3:u=Cfg.wSub
  ·have hst:Cfg.stepI y u={y with sub:=true}:=by unfold Cfg.stepI;rw[if_neg h1,if_neg h2,if_pos h3]
   have HQ:=Lib.hid (HST.out 3 _ (.bool true) hst rfl)
   have t3:(u==[115,117,98])=true:=beq_iff_eq.2 h3
   clear hst HST HSN HB HR HO h1 h2 h3
   go_wp2_with fail
   go_roundg q
   case measure=>omega
   case rel=>exact⟨k+1,by omega,by go_num,by have:=AG.out;show _=_;omega,HQ.out.1,HQ.out.2.1,HQ.out.2.2.1,HQ.out.2.2.2⟩
  have t3:(u==[115,117,98])=false:=beq_eq_false_iff_ne.2 h3
  have hst:Cfg.stepI y u=y:=by unfold Cfg.stepI;rw[if_neg h1,if_neg h2,if_neg h3]
  have HQ:=Lib.hid (HSN.out hst)
  clear hst HST HSN h1 h2 h3
  go_wp2_with fail
  go_roundg q
  case measure=>omega
  case rel=>exact⟨k+1,by omega,by go_num,by have:=AG.out;show _=_;omega,HB.out,HR.out,HQ.out,HO.out⟩
 case neg=>
 obtain rfl:k=ks.length:=by omega
 have HXy:=HX.out
 rw[List.take_of_length_le (Nat.le_refl _)] at HXy
 obtain⟨⟨ty,fe,fp,fs⟩,hy⟩:∃ y,ks.foldl Cfg.stepI ⟨nm,false,false,false⟩=y:=⟨_,rfl⟩
 rw[hy] at htyp HXy
 simp only at htyp
 subst htyp
 have HY:Aside (ks.foldl Cfg.stepI ⟨ty,false,false,false⟩=⟨ty,fe,fp,fs⟩):=hy
 clear hy
 have HIx1:=Lib.hid (HIx0.out ⟨ty,fe,fp,fs⟩ rfl)
 clear HIx0 HX HO
 unfold ixC at HXy HIx1
 simp only at HXy HIx1
 obtain⟨tx,htx⟩:∃ tx,Cfg.textI ⟨ty,fe,fp,fs⟩=tx:=⟨_,rfl⟩
 rw[htx] at HIx1
 have HTX:Aside (Cfg.textI ⟨ty,fe,fp,fs⟩=tx):=htx
 clear htx
 have HC:Hid (Below wr.heap.size wr wr):=Lib.hid (Below.refl _ _)
 have HTy:Hid (∀ W,Below wr.heap.size wr W→Calls Tryz.prog 52 #[.string ⟨ty.toArray⟩] W fun e w'=>e= .returned (.bool it)∧Below W.heap.size W w'):=Lib.hid fun W h=>HTy0.out W (HB.out.trans (h.mono HB.out.size))
 have HIx:Hid (∀ W,Below wr.heap.size wr W→Calls Tryz.prog 34 #[.agg #[.string ⟨ty.toArray⟩,.bool fe,.bool fp,.bool fs]] W fun e w'=>e= .returned (.string ⟨tx.toArray⟩)∧Below W.heap.size W w'):=Lib.hid fun W h=>HIx1.out W (HB.out.trans (h.mono HB.out.size))
 have HS:Hid (∀ W,Below wr.heap.size wr W→(fun W=>W.cell? ⟨bx,0,none⟩=some (.string ⟨ty.toArray⟩)∧W.cell? ⟨bx,1,none⟩=some (.bool fe)∧W.cell? ⟨bx,2,none⟩=some (.bool fp)∧W.cell? ⟨bx,3,none⟩=some (.bool fs)) W):=Lib.hid fun W h=>⟨(HXy.below h).cell 0,(HXy.below h).cell 1,(HXy.below h).cell 2,(HXy.below h).cell 3⟩
 have hne:bx≠w.heap.size:=by omega
 have HRR:Hid (∀ W,Below wr.heap.size wr W→Bk W w.heap.size 63 #[.string ⟨#[]⟩,.bool false,.bool false,.bool false]):=Lib.hid fun W h=>HR.out.below h
 have HS2:Hid (∀ W,Below wr.heap.size wr W→(fun W=>W.cell? ⟨bx,0,none⟩=some (.string ⟨ty.toArray⟩)∧W.cell? ⟨bx,1,none⟩=some (.bool fe)∧W.cell? ⟨bx,2,none⟩=some (.bool fp)∧W.cell? ⟨bx,3,none⟩=some (.bool fs)) (zgz_ W w.heap.size ty fe fp fs)):=Lib.hid fun W h=>by
  have hx:=((((HXy.below h).far (i:=0) hne (.string ⟨ty.toArray⟩)).far (i:=1) hne (.bool fe)).far (i:=2) hne (.bool fp)).far (i:=3) hne (.bool fs)
  exact⟨hx.cell 0,hx.cell 1,hx.cell 2,hx.cell 3⟩
 have HF:Hid (∀ W,Below wr.heap.size wr W→Bk (zgz_ W w.heap.size ty fe fp fs) w.heap.size 63 #[.string ⟨ty.toArray⟩,.bool fe,.bool fp,.bool fs]):=Lib.hid fun W h=>((((HRR.out W h).set 0 _).set 1 _).set 2 _).set 3 _
 have HG:Hid (∀ W,Below wr.heap.size wr W→Below w.heap.size w (zgz_ W w.heap.size ty fe fp fs)):=Lib.hid fun W h=>((((HB.out.trans (h.mono HB.out.size)).setCell (p:=⟨w.heap.size,0,none⟩) (Nat.le_refl _) _).setCell (p:=⟨w.heap.size,1,none⟩) (Nat.le_refl _) _).setCell (p:=⟨w.heap.size,2,none⟩) (Nat.le_refl _) _).setCell (p:=⟨w.heap.size,3,none⟩) (Nat.le_refl _) _
 unfold zgz_ at HS2 HF HG
 clear HTy0 HIx1 HXy HB HR hcs hcl hlt hlt2 hal hnl
 go_upto_region 14 with fail
 cases it
 case false=>
  refine wp_region_noPanic ?_
  refine wp_region_held_drew (S:=(fun W=>W.cell? ⟨bx,0,none⟩=some (.string ⟨ty.toArray⟩)∧W.cell? ⟨bx,1,none⟩=some (.bool fe)∧W.cell? ⟨bx,2,none⟩=some (.bool fp)∧W.cell? ⟨bx,3,none⟩=some (.bool fs))) (by kernel_rfl) ?_ (fun hHeld=>?_)
  ·exact HS.out _ HC.out.drew
  have HC:=Lib.hid HC.out.drew
  refine wpAnyH_take (i:=0) (v:=?va0) rfl (by kernel_rfl) (by kernel_rfl) (by kernel_rfl) (fun _ _ _ h=>h) (Or.inl ⟨by rfl,?ya0⟩) hHeld ?_
  case ya0=>(intro w hSw;(try dsimp only at hSw);go_simp;first|done|(with_reducible rfl)|rfl|omega)
  try simp only[gsx,Act.put]
  refine wpAnyH_take (i:=1) (v:=?va1) rfl (by kernel_rfl) (by kernel_rfl) (by kernel_rfl) (fun _ _ _ h=>h) (Or.inl ⟨by rfl,?ya1⟩) hHeld ?_
  case ya1=>(intro w hSw;(try dsimp only at hSw);go_simp;first|done|(with_reducible rfl)|rfl|omega)
  try simp only[gsx,Act.put]
  refine wpAnyH_ready (rs:=[2]) (by kernel_rfl) (by simp) ?_
  refine AllReadyH.cons rfl (fun K hK=>?_) AllReadyH.nil
  go_simp
  (with_reducible refine(HTy.out _ HC.out).mono ?_);rintro e w2 ⟨rfl,hb⟩;have HC:=Lib.hid (HC.out.trans (hb.mono HC.out.size));clear hb
  (try go_wp2_with fail)
  refine hK.out _ _ ?_ (fun hHeld=>?_)
  ·exact HS.out _ HC.out
  clear hK K
  try simp only[gsx,Act.put]
  refine wpAnyH_take (i:=3) (v:=?va3) rfl (by kernel_rfl) (by kernel_rfl) (by kernel_rfl) (fun _ _ _ h=>h) (Or.inl ⟨by rfl,?ya3⟩) hHeld ?_
  case ya3=>(intro w hSw;(try dsimp only at hSw);go_simp;first|done|(with_reducible rfl)|rfl|omega)
  try simp only[gsx,Act.put]
  refine wpAnyH_take (i:=4) (v:=undef) rfl (by kernel_rfl) (by kernel_rfl) (by kernel_rfl) (fun _ _ _ h=>h) (Or.inr ⟨by rfl,rfl⟩) hHeld ?_
  try simp only[gsx,Act.put]
  refine wpAnyH_take (i:=5) (v:=undef) rfl (by kernel_rfl) (by kernel_rfl) (by kernel_rfl) (fun _ _ _ h=>h) (Or.inr ⟨by rfl,rfl⟩) hHeld ?_
  try simp only[gsx,Act.put]
  refine wpAnyH_take (i:=6) (v:=undef) rfl (by kernel_rfl) (by kernel_rfl) (by kernel_rfl) (fun _ _ _ h=>h) (Or.inr ⟨by rfl,rfl⟩) hHeld ?_
  try simp only[gsx,Act.put]
  refine wpAnyH_take (i:=7) (v:=undef) rfl (by kernel_rfl) (by kernel_rfl) (by kernel_rfl) (fun _ _ _ h=>h) (Or.inr ⟨by rfl,rfl⟩) hHeld ?_
  try simp only[gsx,Act.put]
  refine wpAnyH_take (i:=8) (v:=?va8) rfl (by kernel_rfl) (by kernel_rfl) (by kernel_rfl) (fun _ _ _ h=>h) (Or.inl ⟨by rfl,?ya8⟩) hHeld ?_
  case ya8=>(intro w hSw;(try dsimp only at hSw);go_simp;first|done|(with_reducible rfl)|rfl|omega)
  try simp only[gsx,Act.put]
  have hR:=HRR.out _ HC.out
  have f0:=hR.frozen 0
  have f1:=hR.frozen 1
  have f2:=hR.frozen 2
  have f3:=hR.frozen 3
  have r0:=hR.cell 0
  have r1:=hR.cell 1
  have r2:=hR.cell 2
  have r3:=hR.cell 3
  simp only[List.getElem?_toArray,List.getElem?_cons_zero,List.getElem?_cons_succ] at r0 r1 r2 r3
  refine wpAnyH_ready (rs:=[9]) (by kernel_rfl) (by simp) ?_
  refine AllReadyH.cons rfl (fun K hK=>?_) AllReadyH.nil
  go_simp
  (try go_wp2_with fail)
  refine hK.out _ _ ?_ (fun hHeld=>?_)
  ·exact HS2.out _ HC.out
  clear hK K
  try simp only[gsx,Act.put]
  refine wpAnyH_take (i:=10) (v:=?va10) rfl (by kernel_rfl) (by kernel_rfl) (by kernel_rfl) (fun _ _ _ h=>h) (Or.inl ⟨by rfl,?ya10⟩) hHeld ?_
  case ya10=>(intro w hSw;(try dsimp only at hSw);go_simp;first|done|(with_reducible rfl)|rfl|omega)
  try simp only[gsx,Act.put]
  refine wpAnyH_done (by kernel_rfl) ?_ _
  refine NoPanic.normal ?_
  go_wp2_with fail
  exact z57_ (HF.out _ HC.out) rfl rfl ⟨by simp only[HY.out,HTX.out,ixC];first|rfl|simp,HG.out _ HC.out⟩
 case true=>
  refine wp_region_noPanic ?_
  refine wp_region_held_drew (S:=(fun W=>W.cell? ⟨bx,0,none⟩=some (.string ⟨ty.toArray⟩)∧W.cell? ⟨bx,1,none⟩=some (.bool fe)∧W.cell? ⟨bx,2,none⟩=some (.bool fp)∧W.cell? ⟨bx,3,none⟩=some (.bool fs))) (by kernel_rfl) ?_ (fun hHeld=>?_)
  ·exact HS.out _ HC.out.drew
  have HC:=Lib.hid HC.out.drew
  refine wpAnyH_take (i:=0) (v:=?vb0) rfl (by kernel_rfl) (by kernel_rfl) (by kernel_rfl) (fun _ _ _ h=>h) (Or.inl ⟨by rfl,?yb0⟩) hHeld ?_
  case yb0=>(intro w hSw;(try dsimp only at hSw);go_simp;first|done|(with_reducible rfl)|rfl|omega)
  try simp only[gsx,Act.put]
  refine wpAnyH_take (i:=1) (v:=?vb1) rfl (by kernel_rfl) (by kernel_rfl) (by kernel_rfl) (fun _ _ _ h=>h) (Or.inl ⟨by rfl,?yb1⟩) hHeld ?_
  case yb1=>(intro w hSw;(try dsimp only at hSw);go_simp;first|done|(with_reducible rfl)|rfl|omega)
  try simp only[gsx,Act.put]
  refine wpAnyH_ready (rs:=[2]) (by kernel_rfl) (by simp) ?_
  refine AllReadyH.cons rfl (fun K hK=>?_) AllReadyH.nil
  go_simp
  (with_reducible refine(HTy.out _ HC.out).mono ?_);rintro e w2 ⟨rfl,hb⟩;have HC:=Lib.hid (HC.out.trans (hb.mono HC.out.size));clear hb
  (try go_wp2_with fail)
  refine hK.out _ _ ?_ (fun hHeld=>?_)
  ·exact HS.out _ HC.out
  clear hK K
  try simp only[gsx,Act.put]
  refine wpAnyH_take (i:=3) (v:=?vb3) rfl (by kernel_rfl) (by kernel_rfl) (by kernel_rfl) (fun _ _ _ h=>h) (Or.inl ⟨by rfl,?yb3⟩) hHeld ?_
  case yb3=>(intro w hSw;(try dsimp only at hSw);go_simp;first|done|(with_reducible rfl)|rfl|omega)
  try simp only[gsx,Act.put]
  refine wpAnyH_take (i:=4) (v:=?vb4) rfl (by kernel_rfl) (by kernel_rfl) (by kernel_rfl) (fun _ _ _ h=>h) (Or.inl ⟨by rfl,?yb4⟩) hHeld ?_
  case yb4=>(intro w hSw;(try dsimp only at hSw);go_simp;first|done|(with_reducible rfl)|rfl|omega)
  try simp only[gsx,Act.put]
  refine wpAnyH_take (i:=6) (v:=?vb6) rfl (by kernel_rfl) (by kernel_rfl) (by kernel_rfl) (fun _ _ _ h=>h) (Or.inl ⟨by rfl,?yb6⟩) hHeld ?_
  case yb6=>(intro w hSw;(try dsimp only at hSw);go_simp;first|done|(with_reducible rfl)|rfl|omega)
  try simp only[gsx,Act.put]
  refine wpAnyH_ready (rs:=[5]) (by kernel_rfl) (by simp) ?_
  refine AllReadyH.cons rfl (fun K hK=>?_) AllReadyH.nil
  go_simp
  (with_reducible refine(HIx.out _ HC.out).mono ?_);rintro e w3 ⟨rfl,hb⟩;have HC:=Lib.hid (HC.out.trans (hb.mono HC.out.size));clear hb
  (try go_wp2_with fail)
  refine hK.out _ _ ?_ (fun hHeld=>?_)
  ·exact HS.out _ HC.out
  clear hK K
  try simp only[gsx,Act.put]
  refine wpAnyH_take (i:=7) (v:=?vb7) rfl (by kernel_rfl) (by kernel_rfl) (by kernel_rfl) (fun _ _ _ h=>h) (Or.inl ⟨by rfl,?yb7⟩) hHeld ?_
  case yb7=>(intro w hSw;(try dsimp only at hSw);go_simp;first|done|(with_reducible rfl)|rfl|omega)
  try simp only[gsx,Act.put]
  refine wpAnyH_take (i:=8) (v:=?vb8) rfl (by kernel_rfl) (by kernel_rfl) (by kernel_rfl) (fun _ _ _ h=>h) (Or.inl ⟨by rfl,?yb8⟩) hHeld ?_
  case yb8=>(intro w hSw;(try dsimp only at hSw);go_simp;first|done|(with_reducible rfl)|rfl|omega)
  try simp only[gsx,Act.put]
  have hR:=HRR.out _ HC.out
  have f0:=hR.frozen 0
  have f1:=hR.frozen 1
  have f2:=hR.frozen 2
  have f3:=hR.frozen 3
  have r0:=hR.cell 0
  have r1:=hR.cell 1
  have r2:=hR.cell 2
  have r3:=hR.cell 3
  simp only[List.getElem?_toArray,List.getElem?_cons_zero,List.getElem?_cons_succ] at r0 r1 r2 r3
  refine wpAnyH_ready (rs:=[9]) (by kernel_rfl) (by simp) ?_
  refine AllReadyH.cons rfl (fun K hK=>?_) AllReadyH.nil
  go_simp
  (try go_wp2_with fail)
  refine hK.out _ _ ?_ (fun hHeld=>?_)
  ·exact HS2.out _ HC.out
  clear hK K
  try simp only[gsx,Act.put]
  refine wpAnyH_take (i:=10) (v:=?vb10) rfl (by kernel_rfl) (by kernel_rfl) (by kernel_rfl) (fun _ _ _ h=>h) (Or.inl ⟨by rfl,?yb10⟩) hHeld ?_
  case yb10=>(intro w hSw;(try dsimp only at hSw);go_simp;first|done|(with_reducible rfl)|rfl|omega)
  try simp only[gsx,Act.put]
  refine wpAnyH_done (by kernel_rfl) ?_ _
  refine NoPanic.normal ?_
  go_wp2_with fail
  exact z57_ (HF.out _ HC.out) rfl rfl ⟨by simp only[HY.out,HTX.out,ixC];first|rfl|simp,HG.out _ HC.out⟩
/-! An index taken. -/
theorem zib_:∃ i,Tryz.prog.info? 63=some i∧i.zero=some (.agg #[.string ⟨#[]⟩,.bool false,.bool false,.bool false])∧i.size=4∧i.bytes=24:=by
 obtain⟨i,h1,h2,h3,h4⟩:=info_parts (show (Tryz.prog.info? 63).map (fun i=>(i.zero,i.size,i.bytes))=some (some (.agg #[.string ⟨#[]⟩,.bool false,.bool false,.bool false]),4,24) by kernel_rfl)
 exact⟨i,h1,h2,h3,h4⟩
section
variable {ops:Array Oper} {o:Oper} {a:Act} {K:Act→World→Prop} {Q:Exit→Act→World→Prop} {E:Prop}
theorem z1j_ {w:World} (hgd:o.guard=none) (s x:Operand) (ho:o.op= .call {callee:= .builtin .append,args:=#[s,x],argTypes:=#[23,23]})
  {v:Value} {b:Addr} {c:Nat} {xs:List Cfg.IndexE} {y:Cfg.IndexE} {B:Nat} (hs:a.eval s=v) (hb:OwnI B w v xs)
  (hx:a.eval x= .slice (some b) 1 c) (hcell:∀ (j:Nat) u,(zr_ y)[j]?=some u→w.cell? (b.add j)=some u) (hlen:xs.length<4398046511)
  (h:∀ v' w',OwnI B w' v' (xs++[y])→w.grownBy w' v.ownBlock→(v'.ownBlock=v.ownBlock∨v'.ownBlock=some w.heap.size)→K (a.put o.dst v') w'):
  if Region.wanted o (yielded ops a.tmps)=true then Oper.wp Tryz.prog o a w K Q else E:=by
 obtain⟨i,h1,h2,h3,h4⟩:=zib_
 have hw:Region.wanted o (yielded ops a.tmps)=true:=by simp [Region.wanted,hgd]
 rw[if_pos hw]
 obtain⟨v',w',hr,g2,g3,_,g5⟩:=run_append_own_at (P:=Tryz.prog) w B 23 o.type 63 i _ 4 24 Tryz.underlying23 h1 h2 h3 h4 rfl (by decide) v _ _ hb.1 b 1 c (zr_ y) rfl hcell (by
   intro u hu
   simp only[zr_,List.mem_cons,List.not_mem_nil,or_false] at hu
   rcases hu with rfl|rfl|rfl|rfl<;>rfl) (by unfold maxLen;omega) (by omega) hb.2
 unfold Oper.wp execOp
 simp only[ho,resolve,invoke,builtin,Sem.run_bind,Sem.run_pure,Result.andThen_ok,List.map_toArray,List.map_cons,List.map_nil,hs,hx,hr]
 exact h v' w' ⟨by simpa using g2,Nat.le_trans hb.2 g3.size⟩ g3 g5
end
section
variable {B p:Nat} {w:World} {c:Cfg.ConfE} {va vc vl vi vr vu:Value}
set_option maxRecDepth 100000 in
theorem z7v_ (s:List UInt8) (bt:Nat) (hw:Env w) (h:ConfB B p w c va vc vl vi vr vu) (hbt:Bk w bt 49 #[.pointer (some ⟨p,0,none⟩)]) (hlt:bt<B) (hs:s.length≤3000000) (hn:c.indexes.length≤1000000):
  Calls Tryz.prog 50 #[.string ⟨s.toArray⟩,.pointer (some ⟨bt,0,none⟩)] w (km_ B p w (Cfg.takeK .index s c)):=by
 have HIx:=Lib.hid (fun (W:World) (h:Below w.heap.size w W)=>zix_ s W (hw.keep h) hs)
 obtain⟨R,hR⟩:∃ R,Cfg.indexS s=R:=⟨_,rfl⟩
 have hT:Cfg.takeK .index s c=({c with indexes:=c.indexes++[R.1]},R.2):=by rw[← hR];rfl
 rw[hT]
 rw[hR] at HIx
 obtain⟨⟨ty,fe,fp,fs⟩,ok⟩:=R
 simp only[ixC] at HIx ⊢
 have hBs:=h.idx.2
 have hpB:=h.lt
 have hnp:bt≠p:=fun e=>by subst e;have:=hbt.symm.trans h.bk;simp at this
 obtain⟨xs,hxs⟩:∃ xs,c.indexes=xs:=⟨_,rfl⟩
 rw[hxs] at hn
 have HC0:=Lib.hid h
 have HT0:=Lib.hid hbt
 clear h hbt hw hT hR
 go_enter Tryz.func50,Tryz.ntmps50
 go_upto_region 2 with (go_at_call 51;(with_reducible refine(HIx.out _ (Below.refl _ _)).mono ?_);rintro e w1 ⟨rfl,hb1⟩)
 have b1:=zs_ w1 (.cells #[.string ⟨ty.toArray⟩,.bool fe,.bool fp,.bool fs] 63)
 have hx:=Bk.new w1 63 #[.string ⟨ty.toArray⟩,.bool fe,.bool fp,.bool fs]
 have HC1:=Lib.hid ((HC0.out.below hb1).below b1)
 have HT1:=Lib.hid ((HT0.out.below hb1).below b1)
 have HB1:=Lib.hid (hb1.trans (b1.mono hb1.size))
 clear b1 hb1 HIx HC0 HT0
 generalize w1.alloc (.cells #[.string ⟨ty.toArray⟩,.bool fe,.bool fp,.bool fs] 63)=w2 at *
 generalize w1.heap.size=bi at *
 have x0:=hx.cell 0
 have x1:=hx.cell 1
 have x2:=hx.cell 2
 have x3:=hx.cell 3
 simp only[List.getElem?_toArray,List.getElem?_cons_zero,List.getElem?_cons_succ] at x0 x1 x2 x3
 have b3:=zs_ w2 (.cells #[.string ⟨ty.toArray⟩,.bool fe,.bool fp,.bool fs] 63)
 have hy0:=Bk.new w2 63 #[.string ⟨ty.toArray⟩,.bool fe,.bool fp,.bool fs]
 have hy:∀ (j:Nat) u,(zr_ ⟨ty,fe,fp,fs⟩)[j]?=some u→(w2.alloc (.cells #[.string ⟨ty.toArray⟩,.bool fe,.bool fp,.bool fs] 63)).drew.cell? ((⟨w2.heap.size,0,none⟩:Addr).add j)=some u:=fun j u hj=>by
  have:=hy0.cell j
  rw[ko_,Nat.zero_add]
  exact this.trans (by simpa [zr_] using hj)
 have t1:w2.cell? ⟨bt,0,none⟩=some (.pointer (some ⟨p,0,none⟩)):=HT1.out.cell 0
 have t2:(w2.alloc (.cells #[.string ⟨ty.toArray⟩,.bool fe,.bool fp,.bool fs] 63)).cell? ⟨bt,0,none⟩=some (.pointer (some ⟨p,0,none⟩)):=(HT1.out.below b3).cell 0
 have p1:w2.cell? ⟨p,7,none⟩=some vi:=HC1.out.bk.cell 7
 have p2:(w2.alloc (.cells #[.string ⟨ty.toArray⟩,.bool fe,.bool fp,.bool fs] 63)).cell? ⟨p,7,none⟩=some vi:=(HC1.out.below b3).bk.cell 7
 have HC3:=Lib.hid ((HC1.out.below b3).below (Below.refl _ _).drew)
 have HT3:=Lib.hid ((HT1.out.below b3).below (Below.refl _ _).drew)
 have HB3:=Lib.hid ((HB1.out.trans (b3.mono HB1.out.size)).drew)
 have hOd:=HC3.out.idx
 rw[hxs] at hOd
 have hrow:=hOd.lt
 have hadd:=ko_
 obtain⟨Ai,ci,rfl,hci⟩:=hOd.isSlice
 clear hx hy0 b3 HC1 HT1 HB1
 go_region_law (first
  |(refine z1j_ (b:=⟨w2.heap.size,0,none⟩) (c:=1) (y:=⟨ty,fe,fp,fs⟩) (by rfl) _ _ (by rfl) (by simp [Act.eval,Act.put]) hOd (by simp [Act.eval,Act.put]) hy (by omega) ?_;intro v5 w5 hO5 hg5 ha5;obtain⟨A5,c5,rfl,_⟩:=hO5.isSlice;have HO5:=Lib.hid (And.intro hO5 (And.intro hg5 ha5));have p5:=(HC3.out.bk.grown hg5 (fun e=>by have:=(hrow p e.symm).1;omega)).frozen 7;have q5:w5.cell? ⟨p,7,none⟩=some _:=(HC3.out.bk.grown hg5 (fun e=>by have:=(hrow p e.symm).1;omega)).cell 7;have t5:w5.cell? ⟨bt,0,none⟩=some (.pointer (some ⟨p,0,none⟩)):=(HT3.out.grown hg5 (fun e=>by have:=(hrow bt e.symm).1;omega)).cell 0;clear hO5 hg5 ha5)
  |fail)
 all_goals
  obtain⟨hO5,hg5,ha5⟩:=HO5.out
  have HG:=Lib.hid (HC3.out.grow_idx hO5 hg5 ha5)
  have hOut:=Lib.hid (((OutB.of_below HB3.out hBs).trans (OutB.of_grown (p:=p) hg5 (fun k hk=>(hrow k hk).1) hOd.ty hOd.2)).trans (OutB.set (HC3.out.bk.grown hg5 (fun e=>by have:=(hrow p e.symm).1;omega)) 7 (.slice A5 (xs.length+1) c5)))
  simp only[List.length_append,List.length_singleton] at HG hOut
  clear hO5 hg5 ha5 p5 q5 t5 HO5
  go_wp2_with fail
  go_ret
  refine⟨rfl,hOut.out,va,vc,vl,.slice A5 (xs.length+1) c5,vr,vu,?_⟩
  first
   |exact HG.out
   |(rw[hxs];exact HG.out)
end
end Go.Proofs.YtakfpngfpknedaaGreatDoor
set_option linter.all false
namespace Go.Proofs.YtakfpngfpknedaaGreatDoor
open Go.RowKit
theorem zjk_ (s:LU) (w:World):Calls Tryz.prog 47 #[.string ⟨s.toArray⟩] w fun e w'=>e= .returned (.bool true)∧w'=w:=by
 go_enter Tryz.func47,Tryz.ntmps47
 go_wp2_with fail
 go_ret
 exact⟨rfl,rfl⟩
section
variable {B p:Nat} {w w0 w':World} {c:Cfg.ConfE} {va vc vl vi vr vu v':Value} {s:LU}
theorem zbl_ (h:ConfB B p w c va vc vl vi vr vu) (hO:Own B w' v' (c.attrs++[s])) (hg:w.grownBy w' va.ownBlock) (ha:v'.ownBlock=va.ownBlock∨v'.ownBlock=some w.heap.size):ConfB B p (w'.setCell ⟨p,4,none⟩ v') {c with attrs:=c.attrs++[s]} v' vc vl vi vr vu:=
 h.grow _ 0 4 (by simp [zi_]) hO hg ha (by simp [za_]) (by simp [zi_]) rfl
theorem z5l_ (h:ConfB B p w c va vc vl vi vr vu) (hO:Own B w' v' (c.classes++[s])) (hg:w.grownBy w' vc.ownBlock) (ha:v'.ownBlock=vc.ownBlock∨v'.ownBlock=some w.heap.size):ConfB B p (w'.setCell ⟨p,5,none⟩ v') {c with classes:=c.classes++[s]} va v' vl vi vr vu:=
 h.grow _ 1 5 (by simp [zi_]) hO hg ha (by simp [za_]) (by simp [zi_]) rfl
theorem zdf_ (h:ConfB B p w c va vc vl vi vr vu) (hO:Own B w' v' (c.acls++[s])) (hg:w.grownBy w' vl.ownBlock) (ha:v'.ownBlock=vl.ownBlock∨v'.ownBlock=some w.heap.size):ConfB B p (w'.setCell ⟨p,6,none⟩ v') {c with acls:=c.acls++[s]} va vc v' vi vr vu:=
 h.grow _ 2 6 (by simp [zi_]) hO hg ha (by simp [za_]) (by simp [zi_]) rfl
theorem zes_ (h:ConfB B p w c va vc vl vi vr vu) (hO:Own B w' v' (c.refs++[s])) (hg:w.grownBy w' vr.ownBlock) (ha:v'.ownBlock=vr.ownBlock∨v'.ownBlock=some w.heap.size):ConfB B p (w'.setCell ⟨p,10,none⟩ v') {c with refs:=c.refs++[s]} va vc vl vi v' vu:=
 h.grow _ 3 10 (by simp [zi_]) hO hg ha (by simp [za_]) (by simp [zi_]) rfl
theorem z8s_ (h:ConfB B p w c va vc vl vi vr vu) (hO:Own B w' v' (c.unique++[s])) (hg:w.grownBy w' vu.ownBlock) (ha:v'.ownBlock=vu.ownBlock∨v'.ownBlock=some w.heap.size):ConfB B p (w'.setCell ⟨p,11,none⟩ v') {c with unique:=c.unique++[s]} va vc vl vi vr v':=
 h.grow _ 4 11 (by simp [zi_]) hO hg ha (by simp [za_]) (by simp [zi_]) rfl
def Few (n:Nat) (c:Cfg.ConfE):Prop:=c.attrs.length≤n∧c.classes.length≤n∧c.acls.length≤n∧c.indexes.length≤n∧c.refs.length≤n∧c.unique.length≤n
theorem zg4_ {n:Nat} (h:Few n c) (k:Cfg.Kind) (s:LU):Few (n+1) (Cfg.takeK k s c).1:=by
 obtain⟨h1,h2,h3,h4,h5,h6⟩:=h
 cases k<;>refine⟨?_,?_,?_,?_,?_,?_⟩<;>simp only[Cfg.takeK,List.length_append,List.length_singleton]<;>omega
theorem zj8_ (a b:Value):(#[a]++#[b]:Array Value)=#[a,b]:=by simp
theorem app2 (a b c:Value):(#[a]++#[b,c]:Array Value)=#[a,b,c]:=by simp
theorem qd_ {cs0:Array Value} (hp0:Bk w0 p 25 cs0) (h0:w0.heap.size≤B) (hO:∀ {b:Nat} {t:TypeId} {cs:Array Value},Bk w0 b t cs→b<B→b≠p→Bk w b t cs) {b:Nat} {t:TypeId} {cs:Array Value} (hb:Bk w0 b t cs) (ht:t≠25):Bk w b t cs∧b<B:=by
 have hlt:=hb.lt
 have hne:b≠p:=fun e=>by
  subst e
  have:=hb.symm.trans hp0
  simp only[Option.some.injEq,Obj.cells.injEq] at this
  exact ht this.2.1
 exact⟨hO hb (by omega) hne,by omega⟩
theorem z85_ (W:World):Calls Tryz.prog 47 #[.string ⟨s.toArray⟩] W fun e w'=>e= .returned (.bool true)∧Bel W w':=(zjk_ s W).mono fun e w' ⟨h1,h2⟩=>⟨h1,h2 ▸ bR _ _⟩
theorem zks_ (k:Cfg.Kind) {v:Value} {cs:Array Value} (hp0:Bk w0 p 25 cs) (h0:w0.heap.size≤B) (hK:WordK w0 p k v) (hs:s.length≤3000000):
  ∃ f cap,v=x0_ (Cfg.onceK k) f cap∧(∀ (args:Array Value) (W:World),(callFunc f args).run Tryz.prog W= .ok (.enter f args) W)∧
   ∀ (w:World) (c:Cfg.ConfE) (va vc vl vi vr vu:Value),(∀ {b:Nat} {t:TypeId} {cs:Array Value},Bk w0 b t cs→b<B→b≠p→Bk w b t cs)→(∀ W,OutB B p w W→Env W)→ConfB B p w c va vc vl vi vr vu→Few 1000000 c→Calls Tryz.prog f (#[.string ⟨s.toArray⟩]++cap) w (km_ B p w (Cfg.takeK k s c)):=by
 cases k
 case suffix=>
  obtain⟨b,rfl,h1⟩:=hK
  refine⟨_,_,rfl,fun _ _=>by kernel_rfl,fun w c va vc vl vi vr vu hO hE h hl=>?_⟩
  rw[zj8_]
  exact z03_ 0 s b h ((qd_ hp0 h0 hO h1 (by decide)).1.cell 0) {c with suffix:=s} _ rfl (by simp [za_]) rfl rfl
 case root=>
  obtain⟨b,rfl,h1⟩:=hK
  refine⟨_,_,rfl,fun _ _=>by kernel_rfl,fun w c va vc vl vi vr vu hO hE h hl=>?_⟩
  rw[zj8_]
  exact z03_ 1 s b h ((qd_ hp0 h0 hO h1 (by decide)).1.cell 0) {c with root:=s} _ rfl (by simp [za_]) rfl rfl
 case secret=>
  obtain⟨b,rfl,h1⟩:=hK
  refine⟨_,_,rfl,fun _ _=>by kernel_rfl,fun w c va vc vl vi vr vu hO hE h hl=>?_⟩
  rw[zj8_]
  exact z03_ 2 s b h ((qd_ hp0 h0 hO h1 (by decide)).1.cell 0) {c with secret:=s} _ rfl (by simp [za_]) rfl rfl
 case size=>
  obtain⟨b,rfl,h1⟩:=hK
  refine⟨_,_,rfl,fun _ _=>by kernel_rfl,fun w c va vc vl vi vr vu hO hE h hl=>?_⟩
  rw[zj8_]
  exact zad_ s b h ((qd_ hp0 h0 hO h1 (by decide)).1.cell 0) (by omega)
 case index=>
  obtain⟨b,rfl,h1⟩:=hK
  refine⟨_,_,rfl,fun _ _=>by kernel_rfl,fun w c va vc vl vi vr vu hO hE h hl=>?_⟩
  rw[zj8_]
  exact z7v_ s b (hE w OutB.refl) h (qd_ hp0 h0 hO h1 (by decide)).1 (qd_ hp0 h0 hO h1 (by decide)).2 hs hl.2.2.2.1
 case memberof=>
  obtain⟨b,rfl,h1⟩:=hK
  refine⟨_,_,rfl,fun _ _=>by kernel_rfl,fun w c va vc vl vi vr vu hO hE h hl=>?_⟩
  rw[zj8_]
  exact z3r_ 8 s b h ((qd_ hp0 h0 hO h1 (by decide)).1.cell 0) {c with memberof:=(Cfg.flagS s).1} _ rfl (by simp [za_]) rfl rfl
 case audit=>
  obtain⟨b,rfl,h1⟩:=hK
  refine⟨_,_,rfl,fun _ _=>by kernel_rfl,fun w c va vc vl vi vr vu hO hE h hl=>?_⟩
  rw[zj8_]
  exact z3r_ 9 s b h ((qd_ hp0 h0 hO h1 (by decide)).1.cell 0) {c with audit:=(Cfg.flagS s).1} _ rfl (by simp [za_]) rfl rfl
 case attr=>
  obtain⟨b,b2,rfl,h1,h2⟩:=hK
  refine⟨_,_,rfl,fun _ _=>by kernel_rfl,fun w c va vc vl vi vr vu hO hE h hl=>?_⟩
  rw[app2]
  have k1:=qd_ hp0 h0 hO h1 (by decide)
  have k2:=qd_ hp0 h0 hO h2 (by decide)
  exact yo_ 4 s b b2 47 true va c.attrs h k1.1 k2.1 ⟨k1.2,k2.2⟩ (fun _ _=>by kernel_rfl) (fun W _=>z85_ W) (h.rows.at_ 0 (by simp [zi_])) rfl hl.1 {c with attrs:=c.attrs++[s]} (fun W v' w' hb hO hg ha=>⟨_,_,_,_,_,_,zbl_ (h.below hb) hO hg ha⟩)
 case «class»=>
  obtain⟨b,b2,rfl,h1,h2⟩:=hK
  refine⟨_,_,rfl,fun _ _=>by kernel_rfl,fun w c va vc vl vi vr vu hO hE h hl=>?_⟩
  rw[app2]
  have k1:=qd_ hp0 h0 hO h1 (by decide)
  have k2:=qd_ hp0 h0 hO h2 (by decide)
  exact yo_ 5 s b b2 47 true vc c.classes h k1.1 k2.1 ⟨k1.2,k2.2⟩ (fun _ _=>by kernel_rfl) (fun W _=>z85_ W) (h.rows.at_ 1 (by simp [zi_])) rfl hl.2.1 {c with classes:=c.classes++[s]} (fun W v' w' hb hO hg ha=>⟨_,_,_,_,_,_,z5l_ (h.below hb) hO hg ha⟩)
 case acl=>
  obtain⟨b,b2,rfl,h1,h2⟩:=hK
  refine⟨_,_,rfl,fun _ _=>by kernel_rfl,fun w c va vc vl vi vr vu hO hE h hl=>?_⟩
  rw[app2]
  have k1:=qd_ hp0 h0 hO h1 (by decide)
  have k2:=qd_ hp0 h0 hO h2 (by decide)
  exact yo_ 6 s b b2 47 true vl c.acls h k1.1 k2.1 ⟨k1.2,k2.2⟩ (fun _ _=>by kernel_rfl) (fun W _=>z85_ W) (h.rows.at_ 2 (by simp [zi_])) rfl hl.2.2.1 {c with acls:=c.acls++[s]} (fun W v' w' hb hO hg ha=>⟨_,_,_,_,_,_,zdf_ (h.below hb) hO hg ha⟩)
 case ref=>
  obtain⟨b,b2,rfl,h1,h2⟩:=hK
  refine⟨_,_,rfl,fun _ _=>by kernel_rfl,fun w c va vc vl vi vr vu hO hE h hl=>?_⟩
  rw[app2]
  have k1:=qd_ hp0 h0 hO h1 (by decide)
  have k2:=qd_ hp0 h0 hO h2 (by decide)
  exact yo_ 10 s b b2 52 (zc_ s) vr c.refs h k1.1 k2.1 ⟨k1.2,k2.2⟩ (fun _ _=>by kernel_rfl) (fun W hW=>qf_ s W (hE W hW) (by omega)) (h.rows.at_ 3 (by simp [zi_])) rfl hl.2.2.2.2.1 {c with refs:=c.refs++[s]} (fun W v' w' hb hO hg ha=>⟨_,_,_,_,_,_,zes_ (h.below hb) hO hg ha⟩)
 case unique=>
  obtain⟨b,b2,rfl,h1,h2⟩:=hK
  refine⟨_,_,rfl,fun _ _=>by kernel_rfl,fun w c va vc vl vi vr vu hO hE h hl=>?_⟩
  rw[app2]
  have k1:=qd_ hp0 h0 hO h1 (by decide)
  have k2:=qd_ hp0 h0 hO h2 (by decide)
  exact yo_ 11 s b b2 52 (zc_ s) vu c.unique h k1.1 k2.1 ⟨k1.2,k2.2⟩ (fun _ _=>by kernel_rfl) (fun W hW=>qf_ s W (hE W hW) (by omega)) (h.rows.at_ 4 (by simp [zi_])) rfl hl.2.2.2.2.2 {c with unique:=c.unique++[s]} (fun W v' w' hb hO hg ha=>⟨_,_,_,_,_,_,z8s_ (h.below hb) hO hg ha⟩)
end
end Go.Proofs.YtakfpngfpknedaaGreatDoor
