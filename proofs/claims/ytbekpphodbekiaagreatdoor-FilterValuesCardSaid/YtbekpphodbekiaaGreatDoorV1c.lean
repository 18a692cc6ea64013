import Derived.Test.YtbekpphodbekiaaGreatDoorV19
import Derived.Test.YtbekpphodbekiaaGreatDoorV1b
import Derived.Deep.CutRange
set_option linter.all false
set_option maxHeartbeats 8000000
set_option maxRecDepth 100000
set_option linter.all false
namespace Go.Proofs.YtbekpphodbekiaaGreatDoor
open Go.RowKit
theorem belL {w wk wj:World} {o:Obj} (h:Below w.heap.size w wk) (hb:Below (wk.alloc o).heap.size (wk.alloc o) wj):Below w.heap.size w wj:=(h.alloc h.size o).trans (hb.mono (h.alloc h.size o).size)
theorem belLd {w wk wj:World} {o:Obj} (h:Below w.heap.size w wk) (hb:Below (wk.alloc o).drew.heap.size (wk.alloc o).drew wj):Below w.heap.size w wj:=(h.alloc h.size o).drew.trans (hb.mono (h.alloc h.size o).drew.size)
theorem z0m_ (op:Int) (t v i:List UInt8) (ht:t.length≤1000000) (hv:v.length≤1000000) (hi:i.length≤1000000):Good8 1 [⟨op,0,t,v,i,[],[]⟩]:=by
 refine⟨Nat.le_refl _,fun p hp=>?_⟩
 obtain rfl:=List.mem_singleton.1 hp
 refine⟨⟨by simp only;omega,by simp only;omega,Nat.zero_le _,fun x hx=>?_⟩,by simp⟩
 simp only[List.append_nil,List.singleton_append,List.mem_cons,List.not_mem_nil,or_false] at hx
 rcases hx with rfl|rfl
 ·omega
 ·exact Nat.zero_le _
theorem z7w_:((List.range baseL.length).all fun i=>match q6_ baseL i with
 |none=>true
 |some a=>decide (a.oid.length≤100))=true:=by decide+kernel
theorem zbc_ {t:List UInt8} {x:AttrS} (h:qp_ baseL t=some x):x.oid.length≤100:=by
 obtain⟨j,d,_,hd,_,hc,_,_⟩:=kj_ h
 have hj:j<baseL.length:=(List.getElem?_eq_some_iff.1 hd).1
 have:=List.all_eq_true.1 z7w_ j (List.mem_range.2 hj)
 rw[hc] at this
 exact of_decide_eq_true this
theorem km_ (w:World) (op:Int) (t v i:List UInt8):FilsA (w.alloc (.cells #[.int .i64 op,.int .i64 0,.string ⟨t.toArray⟩,.string ⟨v.toArray⟩,.string ⟨i.toArray⟩,.string ⟨#[]⟩,.slice none 0 0] 45)) (.slice (some ⟨w.heap.size,0,none⟩) 1 1) [⟨op,0,t,v,i,[],[]⟩]:=
 ⟨[(⟨op,0,t,v,i,[],[]⟩,.slice none 0 0)],rfl,(OwnFl.one (B:=w.heap.size) w (Nat.le_refl _) _).reads,fun q hq=>by
  obtain rfl:=List.mem_singleton.1 hq
  exact .inl ⟨rfl,rfl⟩⟩
theorem z3c_ {l:List UInt8} (h:l≠[]):((⟨l.toArray⟩:ByteArray)==⟨#[]⟩)=false:=by
 show (l.toArray==#[])=false
 exact beq_eq_false_iff_ne.2 (fun e=>h (by simpa using e))
theorem zaf_ {l:List UInt8} (h:l≠[]):((⟨l.toArray⟩:ByteArray) !=⟨#[]⟩)=true:=by
 show (!((⟨l.toArray⟩:ByteArray)==⟨#[]⟩))=true
 rw[z3c_ h]
 rfl
def zkd_ (op:Int) (t v:List UInt8):Array Value:=#[.int .i64 op,.int .i64 0,.string ⟨t.toArray⟩,.string ⟨v.toArray⟩,.string ⟨#[]⟩,.string ⟨#[]⟩,.slice none 0 0]
theorem z17_ {w:World} {p:Nat} {op:Int} {t v:List UInt8} (h:Bk w p 45 (zkd_ op t v)):w.cell? ⟨p,0,none⟩=some (.int .i64 op)∧w.cell? ⟨p,1,none⟩=some (.int .i64 0)∧w.cell? ⟨p,2,none⟩=some (.string ⟨t.toArray⟩)∧w.cell? ⟨p,3,none⟩=some (.string ⟨v.toArray⟩)∧w.cell? ⟨p,4,none⟩=some (.string ⟨#[]⟩)∧w.cell? ⟨p,5,none⟩=some (.string ⟨#[]⟩)∧w.cell? ⟨p,6,none⟩=some (.slice none 0 0):=⟨h.cell 0,h.cell 1,h.cell 2,h.cell 3,h.cell 4,h.cell 5,h.cell 6⟩
theorem zkm_ {w:World} {p:Nat} {op:Int} {t v:List UInt8} (h:Bk w p 45 (zkd_ op t v)) (op':Int):Bk (w.setCell ⟨p,0,none⟩ (.int .i64 op')) p 45 (zkd_ op' t v):=by
 have:=h.set 0 (.int .i64 op')
 simpa [zkd_] using this
set_option maxRecDepth 100000 in
theorem zin_ (nm:List UInt8) (l:List Ent.AttrE) (A:Option Addr) (n c:Nat) (hn:l.length=n) (k:Int) (w:World) (hw:Env w) (hv:AttrsA w (.slice A n c) l) (hlt:∀ a∈l,a.typ.length≤140737488351232∧a.vals.length≤4611686018427387904) (h3:(60:Int)<(n:Int)):
  Calls Tryz.prog 4 #[.string ⟨nm.toArray⟩,.slice A n c,.int .i64 k] w fun e w'=>e= .returned (.bool true)∧Below w.heap.size w w':=by
 have HAl:=Lib.hid (fun (W:World) (h:Below w.heap.size w W)=>zdk_ W (hw.keep h))
 have HB:Hid (Below w.heap.size w w):=Lib.hid (Below.refl _ _)
 clear hw hv hlt
 go_enter Tryz.func4,Tryz.ntmps4
 go_wp2_with (go_at_call 6;(with_reducible refine(HAl.out _ HB.out).mono ?_);rintro e wa ⟨rfl,hb⟩;have HB:=Lib.hid (HB.out.trans (hb.mono HB.out.size));clear hb)
 go_ret
 exact⟨rfl,HB.out⟩
set_option maxRecDepth 100000 in
theorem zbk_ (nm:List UInt8) (l:List Ent.AttrE) (A:Option Addr) (n c:Nat) (hn:l.length=n) (k:Int) (w:World) (hw:Env w) (hv:AttrsA w (.slice A n c) l) (hlt:∀ a∈l,a.typ.length≤140737488351232∧a.vals.length≤4611686018427387904) (h3:¬ (60:Int)<(n:Int)):
  Calls Tryz.prog 4 #[.string ⟨nm.toArray⟩,.slice A n c,.int .i64 k] w fun e w'=>e= .returned (.bool true)∧Below w.heap.size w w':=by
 have HAl:=Lib.hid (fun (W:World) (h:Below w.heap.size w W)=>zdk_ W (hw.keep h))
 have HB:Hid (Below w.heap.size w w):=Lib.hid (Below.refl _ _)
 have HBa:=Lib.hid (fun (W:World) (h:Below w.heap.size w W)=>zp9_ W (hw.keep h))
 obtain⟨⟨cd,en⟩,hR⟩:∃ R,Ent.makeE (zo_ baseL) nm l=R:=⟨_,rfl⟩
 have hlim:=zi9_ hR
 have HMk:=Lib.hid (fun (W:World) (s:Nat) (ps:List Nat) (h:Below w.heap.size w W) (hS:SchAt W s ps baseL)=>zpl_ s ps nm l (.slice A n c) W (hw.keep h) hS (hv.below h) (by omega) hlt)
 rw[hR] at HMk
 unfold zqk_ at HMk
 have HRV:Hid (cd=0→∀ a∈en.attrs,(∃ x,RightV en a x)∧a.vals.length≤200):=Lib.hid fun h a ha=>⟨zq2_ (h ▸ hR) ha,((Ent.make_right (z2n_ base_sound.says) (nm:=nm) (l:=l) (e:=en) (by rw[hR,h])).1.all a ha).few⟩
 have HEn:=Lib.hid (And.intro hlim hw)
 clear hv hlt hR hlim hw
 obtain⟨edn,eat⟩:=en
 simp only at HMk HEn HRV
 go_enter Tryz.func4,Tryz.ntmps4
 go_upto_region 5 with (first
  |(go_at_call 8;(with_reducible refine(HBa.out _ HB.out).mono ?_);rintro e wb ⟨s,ps,rfl,hb,hS⟩;have HS:=Lib.hid hS;have HB:=Lib.hid (HB.out.trans (hb.mono HB.out.size));clear hb hS)
  |(go_at_call 9;(with_reducible refine(HMk.out _ s ps HB.out HS.out).mono ?_);rintro e wm ⟨hb,Ae,ce,rfl,hA⟩;have HS:=Lib.hid (HS.out.below hb);have HA:=Lib.hid hA;have HB:=Lib.hid (HB.out.trans (hb.mono HB.out.size));clear hb))
 have hbx:=qa_ wm (.cells #[.string ⟨edn.toArray⟩,.slice Ae eat.length ce] 30)
 have hkE:=Bk.new wm 30 #[.string ⟨edn.toArray⟩,.slice Ae eat.length ce]
 have HS8:=Lib.hid (HS.out.below hbx)
 have HA8:=Lib.hid (HA.out.below hbx)
 have HB8:=Lib.hid (HB.out.trans (hbx.mono HB.out.size))
 clear hbx HS HA HMk HBa HB
 generalize wm.alloc (.cells #[.string ⟨edn.toArray⟩,.slice Ae eat.length ce] 30)=w8 at *
 generalize wm.heap.size=p at *
 have HAl:=Lib.hid (fun (W:World) (h:Below w8.heap.size w8 W)=>HAl.out W (HB8.out.trans (h.mono HB8.out.size)))
 have HK8:Hid (∀ W,Below w8.heap.size w8 W→W.cell? ⟨p,0,none⟩=some (.string ⟨edn.toArray⟩)∧W.cell? ⟨p,1,none⟩=some (.slice Ae eat.length ce)):=Lib.hid fun W h=>⟨(hkE.below h).cell 0,(hkE.below h).cell 1⟩
 clear hkE
 have HC:Hid (Below w8.heap.size w8 w8):=Lib.hid (Below.refl _ _)
 obtain⟨p0,p1⟩:=HK8.out _ HC.out
 by_cases hc:cd=0
 case neg=>
  have hcb:(cd !=0)=true:=bne_iff_ne.2 hc
  go_wp2_with (go_at_call 6;(with_reducible refine(HAl.out _ HC.out).mono ?_);rintro e wa ⟨rfl,hb⟩;have HC:=Lib.hid (HC.out.trans (hb.mono HC.out.size));clear hb)
  go_ret
  exact⟨rfl,HB8.out.trans (HC.out.mono HB8.out.size)⟩
 case pos=>
 subst hc
 by_cases h0:eat.length=0
 case pos=>
  have h0b:((eat.length:Int)==0)=true:=by rw[h0];rfl
  go_wp2_with (go_at_call 6;(with_reducible refine(HAl.out _ HC.out).mono ?_);rintro e wa ⟨rfl,hb⟩;have HC:=Lib.hid (HC.out.trans (hb.mono HC.out.size));clear hb)
  go_ret
  exact⟨rfl,HB8.out.trans (HC.out.mono HB8.out.size)⟩
 case neg=>
 have h0b:((eat.length:Int)==0)=false:=beq_eq_false_iff_ne.2 (by omega)
 obtain⟨hlim,hw⟩:=HEn.out
 have hw8:Env w8:=hw.keep HB8.out
 have HEV:=fun {k:Nat} {L:List Fil.FilE} (h:Good8 k L) (hk:k≤100000) {r:Int} (hr:Fil.evalL (z13_ ⟨edn,eat⟩) L=r)=>Lib.hid (fun (W:World) (v:Value) (hb:Below w8.heap.size w8 W) (hfl:FilsA W v L)=>zqa_ s ps ⟨edn,eat⟩ Ae eat.length ce w8 hw8 HS8.out HA8.out hlim h hk hr v W hb hfl)
 obtain⟨A',c',hsl,hcc,hcell⟩:=HA8.out.at
 cases hsl
 have HV:=Lib.hid hcell
 have HAt:=Lib.hid (fun (W:World) (t:List UInt8) (h:Below w8.heap.size w8 W) (ht:t.length≤1000000)=>x7_ s ps baseL base_sound t W (HS8.out.below h) (Nat.le_trans ht (by decide)))
 have HTL:=Lib.hid hlim.2.2
 have hel:(eat.length:Int)≤1000:=by have:=hlim.1;omega
 clear hcell hlim hw hw8 HEn HA8 HS8 hcc
 have ht1:=Int.tmod_lt_of_pos k (show (0:Int)<(eat.length:Int) by omega)
 have ht2:=Int.lt_tmod_of_pos k (show (0:Int)<(eat.length:Int) by omega)
 go_upto_region 8 with fail
 generalize k.tmod (eat.length:Int)=z at *
 go_upto_if 44 with fail
 go_cut [2] (fun s2 wx=>wx=w8∧∃ kn:Nat,s2= .int .i64 (kn:Int)∧Aside (kn<eat.length))
 case first=>
  by_cases hneg:z<0
  ·go_wp2_with fail
   go_meet
   exact⟨rfl,(z+(eat.length:Int)).toNat,by congr 1;omega,by show _<_;omega⟩
  ·go_wp2_with fail
   go_meet
   exact⟨rfl,z.toNat,by congr 1;omega,by show _<_;omega⟩
 case rest=>
 obtain⟨rfl,kn,rfl,AK⟩:=hcut
 have hk:=AK.out
 have hki:(kn:Int)<(eat.length:Int):=by omega
 obtain⟨b,o,va,rfl,c0,c1,hta⟩:=HV.out kn hk
 have hadd:=jl_
 obtain⟨⟨x,hx⟩,hfew⟩:=HRV.out rfl _ (List.getElem_mem hk)
 have HX:=Lib.hid hx
 have htl:=HTL.out _ (List.getElem_mem hk)
 have HA1:=Lib.hid (fun (W:World) (h:Below wc.heap.size wc W)=>HAt.out W eat[kn].typ h htl)
 rw[hx.attr.1,hx.attr.2] at HA1
 unfold zu_ z0_ at HA1
 have hxn:=hx.name
 clear hx HRV HAt HTL HV AK ht1 ht2 h0 h0b
 generalize eat[kn]=a at *
 obtain⟨typ,vals⟩:=a
 simp only at c0 c1 hta HX HA1 htl hxn hfew
 obtain⟨Av,cv,rfl,hcv,hvc⟩:=hta.at
 go_upto_region 13 with (go_at_call 11;(with_reducible refine(HA1.out _ HC.out).mono ?_);rintro e wd ⟨hb,A1,n1,c1',rfl⟩;have HC:=Lib.hid (HC.out.trans (hb.mono HC.out.size));clear hb)
 have hbx:=qa_ wd (.cells #[.string ⟨x.oid.toArray⟩,.string ⟨typ.toArray⟩,.string ⟨x.sup.toArray⟩,.slice A1 n1 c1',.string ⟨x.form.toArray⟩,.string ⟨x.eqr.toArray⟩,.string ⟨x.ordr.toArray⟩,.string ⟨x.subs.toArray⟩,.bool x.single,.bool x.fixed,.bool x.oper] 38)
 have hkD:=Bk.new wd 38 #[.string ⟨x.oid.toArray⟩,.string ⟨typ.toArray⟩,.string ⟨x.sup.toArray⟩,.slice A1 n1 c1',.string ⟨x.form.toArray⟩,.string ⟨x.eqr.toArray⟩,.string ⟨x.ordr.toArray⟩,.string ⟨x.subs.toArray⟩,.bool x.single,.bool x.fixed,.bool x.oper]
 have HC7:=Lib.hid (HC.out.trans (hbx.mono HC.out.size))
 have HK7:Hid (∀ W,Below (wd.alloc (.cells #[.string ⟨x.oid.toArray⟩,.string ⟨typ.toArray⟩,.string ⟨x.sup.toArray⟩,.slice A1 n1 c1',.string ⟨x.form.toArray⟩,.string ⟨x.eqr.toArray⟩,.string ⟨x.ordr.toArray⟩,.string ⟨x.subs.toArray⟩,.bool x.single,.bool x.fixed,.bool x.oper] 38)).heap.size (wd.alloc (.cells #[.string ⟨x.oid.toArray⟩,.string ⟨typ.toArray⟩,.string ⟨x.sup.toArray⟩,.slice A1 n1 c1',.string ⟨x.form.toArray⟩,.string ⟨x.eqr.toArray⟩,.string ⟨x.ordr.toArray⟩,.string ⟨x.subs.toArray⟩,.bool x.single,.bool x.fixed,.bool x.oper] 38)) W→Bk W wd.heap.size 38 #[.string ⟨x.oid.toArray⟩,.string ⟨typ.toArray⟩,.string ⟨x.sup.toArray⟩,.slice A1 n1 c1',.string ⟨x.form.toArray⟩,.string ⟨x.eqr.toArray⟩,.string ⟨x.ordr.toArray⟩,.string ⟨x.subs.toArray⟩,.bool x.single,.bool x.fixed,.bool x.oper]):=Lib.hid fun W h=>hkD.below h
 clear hbx hkD HC p0 p1
 generalize wd.alloc (.cells #[.string ⟨x.oid.toArray⟩,.string ⟨typ.toArray⟩,.string ⟨x.sup.toArray⟩,.slice A1 n1 c1',.string ⟨x.form.toArray⟩,.string ⟨x.eqr.toArray⟩,.string ⟨x.ordr.toArray⟩,.string ⟨x.subs.toArray⟩,.bool x.single,.bool x.fixed,.bool x.oper] 38)=w7 at *
 generalize wd.heap.size=dp at *
 obtain⟨oid,hoid⟩:∃ t,x.oid=t:=⟨_,rfl⟩
 obtain⟨eqr,heqr⟩:∃ t,x.eqr=t:=⟨_,rfl⟩
 obtain⟨ordr,hordr⟩:∃ t,x.ordr=t:=⟨_,rfl⟩
 obtain⟨subs,hsubs⟩:∃ t,x.subs=t:=⟨_,rfl⟩
 have HVL:=Lib.hid (fun (v:List UInt8) (hv:v∈vals)=>show v.length≤1024 by
  have h:=(HX.out.vals v hv).2.1
  simp only[qc_,Bool.and_eq_true,decide_eq_true_eq] at h
  exact h.1)
 have HQ1:=Lib.hid (fun (v:List UInt8) (hv:v∈vals) (he:eqr≠[])=>HEV (z0m_ 3 typ v [] htl (Nat.le_trans (HVL.out v hv) (by decide)) (Nat.zero_le _)) (by decide) (zp6_ HX.out hv (by rw[heqr];exact he)))
 have HQ2:=Lib.hid (fun (v:List UInt8) (hv:v∈vals) (op:Int) (hop:op=5∨op=6) (he:ordr≠[])=>HEV (z0m_ op typ v [] htl (Nat.le_trans (HVL.out v hv) (by decide)) (Nat.zero_le _)) (by decide) (zk1_ HX.out hv op hop (by rw[hordr];exact he)))
 have HQ3:=Lib.hid (fun (v:List UInt8) (hv:v∈vals) (op:Int) (hop:op=5∨op=6) (he:ordr=[])=>HEV (z0m_ op typ v [] htl (Nat.le_trans (HVL.out v hv) (by decide)) (Nat.zero_le _)) (by decide) (zbt_ HX.out hv op hop (by rw[hordr];exact he)))
 have HQ4:=Lib.hid (fun (c:UInt8)=>HEV (z0m_ 4 typ [] [c] htl (Nat.zero_le _) (show 1≤1000000 by decide)) (by decide) rfl)
 have HQ5:=Lib.hid (fun (c:UInt8) (t:List UInt8) (hv:c::t∈vals) (hc:33≤c.toNat∧c.toNat≤126) (he:subs≠[])=>zna_ HX.out hv hc (by rw[hsubs];exact he))
 have hol:oid.length≤1000000:=by
  rw[← hoid]
  exact Nat.le_trans (zbc_ HX.out.att) (by decide)
 have HQ6:=HEV (r:=1) (z0m_ 7 oid [] [] hol (Nat.zero_le _) (Nat.zero_le _)) (by decide) (by rw[← hoid];exact zh8_ HX.out)
 simp only at HQ1 HQ2 HQ3 HQ4 HQ5 HQ6
 rw[hoid,heqr,hordr,hsubs] at HK7
 clear HEV hoid heqr hordr hsubs HA1 htl hxn HX
 have HC:Hid (Below w7.heap.size w7 w7):=Lib.hid (Below.refl _ _)
 have HUP:Hid (∀ {W:World},Below w7.heap.size w7 W→Below wc.heap.size wc W):=Lib.hid fun h=>HC7.out.trans (h.mono HC7.out.size)
 have HE7:=Lib.hid (fun (W:World) (h:Below w7.heap.size w7 W)=>HK8.out W (HUP.out h))
 have HV7:Hid (∀ W,Below w7.heap.size w7 W→W.cell? ⟨b,o+kn * 2+1,none⟩=some (.slice Av vals.length cv)∧∀ j (hj:j<vals.length),∃ a,Av=some a∧W.cell? (a.add j)=some (.string ⟨vals[j].toArray⟩)):=Lib.hid fun W h=>by
  have h8:=HUP.out h
  exact⟨(h8.cell (z9_ c1)).trans c1,fun j hj=>by
   obtain⟨a,hA,hc⟩:=hvc j hj
   exact⟨a,hA,(h8.cell (z9_ hc)).trans hc⟩⟩
 have HD7:Hid (∀ W,Below w7.heap.size w7 W→W.cell? ⟨dp,0,none⟩=some (.string ⟨oid.toArray⟩)∧W.cell? ⟨dp,1,none⟩=some (.string ⟨typ.toArray⟩)∧W.cell? ⟨dp,5,none⟩=some (.string ⟨eqr.toArray⟩)∧W.cell? ⟨dp,6,none⟩=some (.string ⟨ordr.toArray⟩)∧W.cell? ⟨dp,7,none⟩=some (.string ⟨subs.toArray⟩)):=Lib.hid fun W h=>⟨(HK7.out W h).cell 0,(HK7.out W h).cell 1,(HK7.out W h).cell 5,(HK7.out W h).cell 6,(HK7.out W h).cell 7⟩
 have HAl7:=Lib.hid (fun (W:World) (h:Below w7.heap.size w7 W)=>HAl.out W (HUP.out h))
 have HB7:Hid (∀ {W:World},Below w7.heap.size w7 W→Below w.heap.size w W):=Lib.hid fun h=>HB8.out.trans ((HUP.out h).mono HB8.out.size)
 clear HK7 HK8 HAl HB8 HC7 c0 c1 hvc
 go_wp2_with fail
 go_loopg [12] vals.length (fun gk ix wr=>∃ k:Nat,k≤vals.length∧ix= .int .i64 (k:Int)∧Aside (k+gk=vals.length)∧Aside (Below w7.heap.size w7 wr))
 case atStart=>exact⟨0,Nat.zero_le _,rfl,by show _=_;omega,HC.out⟩
 case round=>
 obtain⟨k,hk2,rfl,AG,AB⟩:=hrel
 have HC:=Lib.hid AB.out
 have hrsz:=Lib.hid AB.out.size
 obtain⟨e0,e1⟩:=HE7.out _ AB.out
 obtain⟨c1,hvc⟩:=HV7.out _ AB.out
 by_cases hlt:k<vals.length
 case neg=>
  obtain rfl:k=vals.length:=by omega
  obtain⟨d0,d1,d5,d6,d7⟩:=HD7.out _ AB.out
  go_upto_region 30 with fail
  clear HQ1 HQ2 HQ3 HQ4 HQ5 hvc
  go_wp2_with (first
   |(go_at_call 6;(with_reducible refine(HAl7.out _ HC.out).mono ?_);rintro e wa ⟨rfl,hb⟩;have HC:=Lib.hid (HC.out.trans (hb.mono HC.out.size));obtain⟨e0,e1⟩:=HE7.out _ HC.out;obtain⟨d0,d1,d5,d6,d7⟩:=HD7.out _ HC.out;clear hb)
   |(go_at_call 10;(refine(HQ6.out _ _ (HUP.out (HC.out.alloc HC.out.size _)) (km_ _ 7 oid [] [])).mono ?_);rintro e we ⟨rfl,hb⟩;have HC:=Lib.hid (belL HC.out hb);clear hb))
  go_ret
  exact⟨rfl,HB7.out HC.out⟩
 case pos=>
 obtain⟨q,rfl⟩:∃ q,gk=q+1:=⟨gk - 1,by have:=AG.out;omega⟩
 obtain⟨av,rfl,hcv2⟩:=hvc k hlt
 have HM:=Lib.hid (List.getElem_mem hlt)
 generalize vals[k]=v at *
 obtain⟨d0,d1,d5,d6,d7⟩:=HD7.out _ AB.out
 go_upto_region 18 with fail
 have hbo:=qa_ wr (.cells (zkd_ 3 typ v) 45)
 have hO:=Bk.new wr 45 (zkd_ 3 typ v)
 have HC:=Lib.hid (HC.out.trans (hbo.mono HC.out.size))
 clear hbo e0 e1 c1 hvc d0 d1 d5 d6 d7 AB
 unfold zkd_ at HC hO
 have hp1:=hrsz.out
 generalize wr.alloc (.cells #[.int .i64 3,.int .i64 0,.string ⟨typ.toArray⟩,.string ⟨v.toArray⟩,.string ⟨#[]⟩,.string ⟨#[]⟩,.slice none 0 0] 45)=w17 at *
 generalize wr.heap.size=p1 at *
 have HO:Hid (Bk w17 p1 45 (zkd_ 3 typ v)):=Lib.hid hO
 have HP1:=Lib.hid hp1
 clear hO hp1 hrsz
 obtain⟨e0,e1⟩:=HE7.out _ HC.out
 obtain⟨d0,d1,d5,d6,d7⟩:=HD7.out _ HC.out
 obtain⟨o0,o1,o2,o3,o4,o5,o6⟩:=z17_ HO.out
 go_cut [97] (fun s97 wx=>s97= .bool false∧Aside (Below w7.heap.size w7 wx)∧Aside (Bk wx p1 45 (zkd_ 3 typ v)))
 case first=>
  by_cases he:eqr=[]
  ·subst he
   go_wp2_with fail
   go_meet
   exact⟨rfl,HC.out,HO.out⟩
  ·have hne:=zaf_ he
   go_wp2_with (go_at_call 10;(with_reducible refine((HQ1.out v HM.out he).out _ _ (HUP.out (HC.out.alloc HC.out.size _)) (km_ _ 3 typ v [])).mono ?_);rintro e we ⟨rfl,hb⟩;have HO:=Lib.hid ((HO.out.alloc _).below hb);have HC:=Lib.hid (belL HC.out hb);clear hb)
   go_meet
   exact⟨rfl,HC.out,HO.out⟩
 case rest=>
 obtain⟨rfl,AC,AO⟩:=hcut
 have HC:=Lib.hid AC.out
 have HO:=Lib.hid AO.out
 clear AC AO e0 e1 d0 d1 d5 d6 d7 o0 o1 o2 o3 o4 o5 o6 HQ1
 have hbo:=qa_ wc (.cells #[.int .i64 5,.int .i64 6] 3)
 have HC5:=Lib.hid (HC.out.trans (hbo.mono HC.out.size))
 have HO5:=Lib.hid (HO.out.below hbo)
 have HI5:=Lib.hid (Bk.new wc 3 #[.int .i64 5,.int .i64 6])
 have HN5:Hid (p1≠wc.heap.size):=Lib.hid (by have:=HO.out.lt;omega)
 clear hbo HC HO
 go_wp2_with fail
 generalize wc.alloc (.cells #[.int .i64 5,.int .i64 6] 3)=w20 at *
 generalize wc.heap.size=p2 at *
 go_loopg [100] 2 (fun gk ix wr=>∃ j:Nat,j≤2∧ix= .int .i64 (j:Int)∧Aside (j+gk=2)∧Aside (Below w7.heap.size w7 wr)∧(∃ op,Aside (Bk wr p1 45 (zkd_ op typ v)))∧Aside (Bk wr p2 3 #[.int .i64 5,.int .i64 6]))
 case atStart=>exact⟨0,by omega,rfl,rfl,HC5.out,⟨_,HO5.out⟩,HI5.out⟩
 case round=>
 clear HC5 HO5 HI5
 obtain⟨j,hj2,rfl,AG2,AC,⟨op0,AO⟩,AI⟩:=hrel
 have HC:=Lib.hid AC.out
 have HO:=Lib.hid AO.out
 have HI:=Lib.hid AI.out
 clear AC AO AI
 by_cases hjl:j<2
 case pos=>
  obtain⟨q2,rfl⟩:∃ q,gk=q+1:=⟨gk - 1,by have:=AG2.out;omega⟩
  have hjl2:(j:Int)<2:=by omega
  obtain⟨op,hop5,hop⟩:∃ op:Int,wr.cell? ⟨p2,j,none⟩=some (.int .i64 op)∧(op=5∨op=6):=by
   have h:=HI.out.cell j
   match j,hjl,h with
   |0,_,h=>exact⟨5,h,.inl rfl⟩
   |1,_,h=>exact⟨6,h,.inr rfl⟩
  have HOP:=Lib.hid hop
  have hf0:=HO.out.frozen 0
  obtain⟨o0, -, -, -, -, -, -⟩:=z17_ HO.out
  clear hop
  go_upto_region 24 with fail
  have HC:=Lib.hid (HC.out.setCell (p:=⟨p1,0,none⟩) HP1.out (.int .i64 op))
  have HO:=Lib.hid (zkm_ HO.out op)
  have HI:=Lib.hid (HI.out.far (i:=0) HN5.out.symm (.int .i64 op))
  clear hop5 hf0 o0
  generalize wr.setCell ⟨p1,0,none⟩ (.int .i64 op)=w23 at *
  obtain⟨e0,e1⟩:=HE7.out _ HC.out
  obtain⟨d0,d1,d5,d6,d7⟩:=HD7.out _ HC.out
  obtain⟨o0,o1,o2,o3,o4,o5,o6⟩:=z17_ HO.out
  go_cut [129] (fun s129 wx=>s129= .bool false∧Aside (Below w7.heap.size w7 wx)∧Aside (Bk wx p1 45 (zkd_ op typ v))∧Aside (Bk wx p2 3 #[.int .i64 5,.int .i64 6]))
  case first=>
   by_cases he:ordr=[]
   ·have HQ:=HQ3.out v HM.out op HOP.out he
    subst he
    go_wp2_with (go_at_call 10;(with_reducible refine(HQ.out _ _ (HUP.out (HC.out.alloc HC.out.size _)) (km_ _ op typ v [])).mono ?_);rintro e we ⟨rfl,hb⟩;have HI:=Lib.hid ((HI.out.alloc _).below hb);have HO:=Lib.hid ((HO.out.alloc _).below hb);have HC:=Lib.hid (belL HC.out hb);clear hb)
    go_meet
    exact⟨rfl,HC.out,HO.out,HI.out⟩
   ·have hne:=zaf_ he
    have heq:=z3c_ he
    have HQ:=HQ2.out v HM.out op HOP.out he
    go_wp2_with (go_at_call 10;(with_reducible refine(HQ.out _ _ (HUP.out (HC.out.alloc HC.out.size _)) (km_ _ op typ v [])).mono ?_);rintro e we ⟨rfl,hb⟩;obtain⟨d0,d1,d5,d6,d7⟩:=HD7.out _ (belL HC.out hb);have HI:=Lib.hid ((HI.out.alloc _).below hb);have HO:=Lib.hid ((HO.out.alloc _).below hb);have HC:=Lib.hid (belL HC.out hb);clear hb)
    go_meet
    exact⟨rfl,HC.out,HO.out,HI.out⟩
  case rest=>
  obtain⟨rfl,AC,AO,AI⟩:=hcut
  have HC:=Lib.hid AC.out
  have HO:=Lib.hid AO.out
  have HI:=Lib.hid AI.out
  clear AC AO AI e0 e1 d0 d1 d5 d6 d7 o0 o1 o2 o3 o4 o5 o6
  go_wp2_with fail
  go_roundg q2
  case measure=>omega
  case rel=>exact⟨j+1,by omega,by go_num,by have:=AG2.out;show _=_;omega,HC.out,⟨_,HO.out⟩,HI.out⟩
 case neg=>
 obtain rfl:j=2:=by omega
 obtain⟨d0,d1,d5,d6,d7⟩:=HD7.out _ HC.out
 clear HI HO HQ2 HQ3
 go_upto_region 27 with fail
 go_cut [156] (fun s156 wx=>wx=wr∧∃ r,s156= .bool r∧Aside (r=false→subs≠[]∧∃ c t,v=c::t))
 case first=>
  by_cases hs:subs=[]
  ·subst hs
   go_wp2_with fail
   go_meet
   exact⟨rfl,_,rfl,fun h=>by cases h⟩
  have hneq:=z3c_ hs
  rcases v with _|⟨c,_|⟨c2,t⟩⟩
  ·go_wp2_with fail
   go_meet
   exact⟨rfl,_,rfl,fun h=>by cases h⟩
  ·go_wp2_with fail
   go_meet
   exact⟨rfl,_,rfl,fun h=>by cases h⟩
  ·have htl2:(t.length:Int)≤1024:=by
    have:=HVL.out _ HM.out
    simp only[List.length_cons] at this
    omega
   go_wp2_with fail
   all_goals
    go_meet
    first
     |exact⟨rfl,_,rfl,fun h=>by cases h⟩
     |exact⟨rfl,_,rfl,fun _=>⟨hs,c,_,rfl⟩⟩
 case rest=>
 obtain⟨rfl,r,rfl,AR⟩:=hcut
 clear d0 d1 d5 d6 d7
 cases r
 case true=>
  go_wp2_with fail
  go_roundg q
  case measure=>omega
  case rel=>exact⟨k+1,by omega,by go_num,by have:=AG.out;show _=_;omega,HC.out⟩
 case false=>
 obtain⟨hs,c,t,rfl⟩:=AR.out rfl
 have hd:=(Below.refl wc.heap.size wc).drew
 have hvl:(1:Int)≤(t.length:Int)+1:=by omega
 have HQ4:=HQ4.out c
 have hex:(⟨(c::t).toArray⟩:ByteArray).extract 0 1=⟨[c].toArray⟩:=by rw[z26_];rfl
 have HQ5:=Lib.hid (fun (hc:33≤c.toNat∧c.toNat≤126)=>HQ5.out c t HM.out hc hs)
 generalize Fil.evalL (z13_ ⟨edn,eat⟩) [⟨4,0,typ,[],[c],[],[]⟩]=E at *
 have HS28:Hid (∀ W,Below w7.heap.size w7 W→W.cell? ⟨p,0,none⟩=some (.string ⟨edn.toArray⟩)∧W.cell? ⟨p,1,none⟩=some (.slice (some ⟨b,o,none⟩) eat.length ce)∧W.cell? ⟨dp,1,none⟩=some (.string ⟨typ.toArray⟩)):=Lib.hid fun W h=>⟨(HE7.out W h).1,(HE7.out W h).2,(HD7.out W h).2.1⟩
 clear HQ6 HE7 HD7 HV7 HVL HAl7 hd AR
 go_upto_region 28 with fail
 refine wp_region_noPanic ?_
 refine wp_region_held_drew (S:=(fun W=>W.cell? ⟨p,0,none⟩=some (.string ⟨edn.toArray⟩)∧W.cell? ⟨p,1,none⟩=some (.slice (some ⟨b,o,none⟩) eat.length ce)∧W.cell? ⟨dp,1,none⟩=some (.string ⟨typ.toArray⟩))) (by kernel_rfl) ?_ (fun hHeld=>?_)
 ·exact HS28.out _ HC.out.drew
 refine wpAnyH_take (i:=0) (v:=?vp0) rfl (by kernel_rfl) (by kernel_rfl) (by kernel_rfl) (fun _ _ _ h=>h) (Or.inl ⟨by rfl,?yp0⟩) hHeld ?_
 case yp0=>(intro w hSw;(try dsimp only at hSw);go_simp;first|done|(with_reducible rfl)|rfl|omega)
 try simp only[gsx,Act.put]
 refine wpAnyH_take (i:=1) (v:=?vp1) rfl (by kernel_rfl) (by kernel_rfl) (by kernel_rfl) (fun _ _ _ h=>h) (Or.inl ⟨by rfl,?yp1⟩) hHeld ?_
 case yp1=>(intro w hSw;(try dsimp only at hSw);go_simp;first|done|(with_reducible rfl)|rfl|omega)
 try simp only[gsx,Act.put]
 refine wpAnyH_take (i:=2) (v:=?vp2) rfl (by kernel_rfl) (by kernel_rfl) (by kernel_rfl) (fun _ _ _ h=>h) (Or.inl ⟨by rfl,?yp2⟩) hHeld ?_
 case yp2=>(intro w hSw;(try dsimp only at hSw);go_simp;first|done|(with_reducible rfl)|rfl|omega)
 try simp only[gsx,Act.put]
 refine wpAnyH_take (i:=3) (v:=?vp3) rfl (by kernel_rfl) (by kernel_rfl) (by kernel_rfl) (fun _ _ _ h=>h) (Or.inl ⟨by rfl,?yp3⟩) hHeld ?_
 case yp3=>(intro w hSw;(try dsimp only at hSw);go_simp;first|done|(with_reducible rfl)|rfl|omega)
 try simp only[gsx,Act.put]
 refine wpAnyH_take (i:=4) (v:=?vp4) rfl (by kernel_rfl) (by kernel_rfl) (by kernel_rfl) (fun _ _ _ h=>h) (Or.inl ⟨by rfl,?yp4⟩) hHeld ?_
 case yp4=>(intro w hSw;(try dsimp only at hSw);go_simp;first|done|(with_reducible rfl)|rfl|omega)
 try simp only[gsx,Act.put]
 refine wpAnyH_take (i:=5) (v:=?vp5) rfl (by kernel_rfl) (by kernel_rfl) (by kernel_rfl) (fun _ _ _ h=>h) (Or.inl ⟨by rfl,?yp5⟩) hHeld ?_
 case yp5=>(intro w hSw;(try dsimp only at hSw);go_simp;first|done|(with_reducible rfl)|rfl|omega)
 try simp only[gsx,Act.put]
 refine wpAnyH_take (i:=6) (v:=?vp6) rfl (by kernel_rfl) (by kernel_rfl) (by kernel_rfl) (fun _ _ _ h=>h) (Or.inl ⟨by rfl,?yp6⟩) hHeld ?_
 case yp6=>(intro w hSw;(try dsimp only at hSw);go_simp;first|done|(with_reducible rfl)|rfl|omega)
 try simp only[gsx,Act.put]
 refine wpAnyH_ready (rs:=[7]) (by kernel_rfl) (by simp) ?_
 refine AllReadyH.cons rfl (fun K hK=>?_) AllReadyH.nil
 go_simp
 (try go_wp2_with fail)
 refine hK.out _ _ ?_ (fun hHeld=>?_)
 ·exact HS28.out _ (HC.out.alloc HC.out.size _).drew
 clear hK K
 try simp only[gsx,Act.put]
 refine wpAnyH_ready (rs:=[8]) (by kernel_rfl) (by simp) ?_
 refine AllReadyH.cons rfl (fun K hK=>?_) AllReadyH.nil
 go_simp
 ((with_reducible refine(HQ4.out _ _ (HUP.out (HC.out.alloc HC.out.size _).drew) ((km_ _ 4 typ [] [c]).below (Below.refl _ _).drew)).mono ?_);rintro e we ⟨rfl,hb⟩;have HC:=Lib.hid (belLd HC.out hb);clear hb)
 (try go_wp2_with fail)
 refine hK.out _ _ ?_ (fun hHeld=>?_)
 ·exact HS28.out _ HC.out
 clear hK K
 try simp only[gsx,Act.put]
 by_cases hE:E=0
 case neg=>
  have hEb:(E==0)=false:=beq_eq_false_iff_ne.2 hE
  refine wpAnyH_take (i:=9) (v:= .bool false) rfl (by kernel_rfl) (by kernel_rfl) (by kernel_rfl) (fun _ _ _ h=>h) (Or.inl ⟨by rfl,?ya9⟩) hHeld ?_
  case ya9=>(intro w hSw;(try dsimp only at hSw);go_simp;first|done|(with_reducible rfl)|rfl|omega)
  try simp only[gsx,Act.put]
  refine wpAnyH_take (i:=10) (v:= .bool false) rfl (by kernel_rfl) (by kernel_rfl) (by kernel_rfl) (fun _ _ _ h=>h) (Or.inl ⟨by rfl,?ya10⟩) hHeld ?_
  case ya10=>(intro w hSw;(try dsimp only at hSw);go_simp;first|done|(with_reducible rfl)|rfl|omega)
  try simp only[gsx,Act.put]
  refine wpAnyH_take (i:=11) (v:=undef) rfl (by kernel_rfl) (by kernel_rfl) (by kernel_rfl) (fun _ _ _ h=>h) (Or.inr ⟨by rfl,rfl⟩) hHeld ?_
  try simp only[gsx,Act.put]
  refine wpAnyH_take (i:=12) (v:=undef) rfl (by kernel_rfl) (by kernel_rfl) (by kernel_rfl) (fun _ _ _ h=>h) (Or.inr ⟨by rfl,rfl⟩) hHeld ?_
  try simp only[gsx,Act.put]
  refine wpAnyH_take (i:=13) (v:=undef) rfl (by kernel_rfl) (by kernel_rfl) (by kernel_rfl) (fun _ _ _ h=>h) (Or.inr ⟨by rfl,rfl⟩) hHeld ?_
  try simp only[gsx,Act.put]
  refine wpAnyH_take (i:=14) (v:= .bool false) rfl (by kernel_rfl) (by kernel_rfl) (by kernel_rfl) (fun _ _ _ h=>h) (Or.inl ⟨by rfl,?ya14⟩) hHeld ?_
  case ya14=>(intro w hSw;(try dsimp only at hSw);go_simp;first|done|(with_reducible rfl)|rfl|omega)
  try simp only[gsx,Act.put]
  refine wpAnyH_take (i:=15) (v:= .bool false) rfl (by kernel_rfl) (by kernel_rfl) (by kernel_rfl) (fun _ _ _ h=>h) (Or.inl ⟨by rfl,?ya15⟩) hHeld ?_
  case ya15=>(intro w hSw;(try dsimp only at hSw);go_simp;first|done|(with_reducible rfl)|rfl|omega)
  try simp only[gsx,Act.put]
  refine wpAnyH_take (i:=16) (v:=undef) rfl (by kernel_rfl) (by kernel_rfl) (by kernel_rfl) (fun _ _ _ h=>h) (Or.inr ⟨by rfl,rfl⟩) hHeld ?_
  try simp only[gsx,Act.put]
  refine wpAnyH_take (i:=17) (v:=undef) rfl (by kernel_rfl) (by kernel_rfl) (by kernel_rfl) (fun _ _ _ h=>h) (Or.inr ⟨by rfl,rfl⟩) hHeld ?_
  try simp only[gsx,Act.put]
  refine wpAnyH_take (i:=18) (v:=undef) rfl (by kernel_rfl) (by kernel_rfl) (by kernel_rfl) (fun _ _ _ h=>h) (Or.inr ⟨by rfl,rfl⟩) hHeld ?_
  try simp only[gsx,Act.put]
  refine wpAnyH_take (i:=19) (v:= .bool false) rfl (by kernel_rfl) (by kernel_rfl) (by kernel_rfl) (fun _ _ _ h=>h) (Or.inl ⟨by rfl,?ya19⟩) hHeld ?_
  case ya19=>(intro w hSw;(try dsimp only at hSw);go_simp;first|done|(with_reducible rfl)|rfl|omega)
  try simp only[gsx,Act.put]
  refine wpAnyH_done (by kernel_rfl) ?_ _
  refine NoPanic.normal ?_
  go_wp2_with fail
  go_roundg q
  case measure=>omega
  case rel=>exact⟨k+1,by omega,by go_num,by have:=AG.out;show _=_;omega,HC.out⟩
 case pos=>
 subst hE
 by_cases h32:32<c.toNat
 case neg=>
  have h32c:decide ((32:Int)<(c.toNat:Int))=false:=decide_eq_false (by omega)
  refine wpAnyH_take (i:=9) (v:= .bool true) rfl (by kernel_rfl) (by kernel_rfl) (by kernel_rfl) (fun _ _ _ h=>h) (Or.inl ⟨by rfl,?yb9⟩) hHeld ?_
  case yb9=>(intro w hSw;(try dsimp only at hSw);go_simp;first|done|(with_reducible rfl)|rfl|omega)
  try simp only[gsx,Act.put]
  refine wpAnyH_take (i:=10) (v:= .bool true) rfl (by kernel_rfl) (by kernel_rfl) (by kernel_rfl) (fun _ _ _ h=>h) (Or.inl ⟨by rfl,?yb10⟩) hHeld ?_
  case yb10=>(intro w hSw;(try dsimp only at hSw);go_simp;first|done|(with_reducible rfl)|rfl|omega)
  try simp only[gsx,Act.put]
  refine wpAnyH_take (i:=11) (v:=?vb11) rfl (by kernel_rfl) (by kernel_rfl) (by kernel_rfl) (fun _ _ _ h=>h) (Or.inl ⟨by rfl,?yb11⟩) hHeld ?_
  case yb11=>(intro w hSw;(try dsimp only at hSw);go_simp;first|done|(with_reducible rfl)|rfl|omega)
  try simp only[gsx,Act.put]
  refine wpAnyH_take (i:=12) (v:= .int .u8 (c.toNat:Int)) rfl (by kernel_rfl) (by kernel_rfl) (by kernel_rfl) (fun _ _ _ h=>h) (Or.inl ⟨by rfl,?yb12⟩) hHeld ?_
  case yb12=>(intro w hSw;(try dsimp only at hSw);go_simp;first|done|(with_reducible rfl)|rfl|omega)
  try simp only[gsx,Act.put]
  refine wpAnyH_take (i:=13) (v:= .bool false) rfl (by kernel_rfl) (by kernel_rfl) (by kernel_rfl) (fun _ _ _ h=>h) (Or.inl ⟨by rfl,?yb13⟩) hHeld ?_
  case yb13=>(intro w hSw;(try dsimp only at hSw);go_simp;first|done|(with_reducible rfl)|rfl|omega)
  try simp only[gsx,Act.put]
  refine wpAnyH_take (i:=14) (v:= .bool false) rfl (by kernel_rfl) (by kernel_rfl) (by kernel_rfl) (fun _ _ _ h=>h) (Or.inl ⟨by rfl,?yb14⟩) hHeld ?_
  case yb14=>(intro w hSw;(try dsimp only at hSw);go_simp;first|done|(with_reducible rfl)|rfl|omega)
  try simp only[gsx,Act.put]
  refine wpAnyH_take (i:=15) (v:= .bool false) rfl (by kernel_rfl) (by kernel_rfl) (by kernel_rfl) (fun _ _ _ h=>h) (Or.inl ⟨by rfl,?yb15⟩) hHeld ?_
  case yb15=>(intro w hSw;(try dsimp only at hSw);go_simp;first|done|(with_reducible rfl)|rfl|omega)
  try simp only[gsx,Act.put]
  refine wpAnyH_take (i:=16) (v:=undef) rfl (by kernel_rfl) (by kernel_rfl) (by kernel_rfl) (fun _ _ _ h=>h) (Or.inr ⟨by rfl,rfl⟩) hHeld ?_
  try simp only[gsx,Act.put]
  refine wpAnyH_take (i:=17) (v:=undef) rfl (by kernel_rfl) (by kernel_rfl) (by kernel_rfl) (fun _ _ _ h=>h) (Or.inr ⟨by rfl,rfl⟩) hHeld ?_
  try simp only[gsx,Act.put]
  refine wpAnyH_take (i:=18) (v:=undef) rfl (by kernel_rfl) (by kernel_rfl) (by kernel_rfl) (fun _ _ _ h=>h) (Or.inr ⟨by rfl,rfl⟩) hHeld ?_
  try simp only[gsx,Act.put]
  refine wpAnyH_take (i:=19) (v:= .bool false) rfl (by kernel_rfl) (by kernel_rfl) (by kernel_rfl) (fun _ _ _ h=>h) (Or.inl ⟨by rfl,?yb19⟩) hHeld ?_
  case yb19=>(intro w hSw;(try dsimp only at hSw);go_simp;first|done|(with_reducible rfl)|rfl|omega)
  try simp only[gsx,Act.put]
  refine wpAnyH_done (by kernel_rfl) ?_ _
  refine NoPanic.normal ?_
  go_wp2_with fail
  go_roundg q
  case measure=>omega
  case rel=>exact⟨k+1,by omega,by go_num,by have:=AG.out;show _=_;omega,HC.out⟩
 case pos=>
 have h127:¬ c.toNat<127:=fun h=>by have:=HQ5.out ⟨by omega,by omega⟩;omega
 have h32c:decide ((32:Int)<(c.toNat:Int))=true:=decide_eq_true (by omega)
 have h127c:decide ((c.toNat:Int)<127)=false:=decide_eq_false (by omega)
 refine wpAnyH_take (i:=9) (v:= .bool true) rfl (by kernel_rfl) (by kernel_rfl) (by kernel_rfl) (fun _ _ _ h=>h) (Or.inl ⟨by rfl,?yc9⟩) hHeld ?_
 case yc9=>(intro w hSw;(try dsimp only at hSw);go_simp;first|done|(with_reducible rfl)|rfl|omega)
 try simp only[gsx,Act.put]
 refine wpAnyH_take (i:=10) (v:= .bool true) rfl (by kernel_rfl) (by kernel_rfl) (by kernel_rfl) (fun _ _ _ h=>h) (Or.inl ⟨by rfl,?yc10⟩) hHeld ?_
 case yc10=>(intro w hSw;(try dsimp only at hSw);go_simp;first|done|(with_reducible rfl)|rfl|omega)
 try simp only[gsx,Act.put]
 refine wpAnyH_take (i:=11) (v:=?vc11) rfl (by kernel_rfl) (by kernel_rfl) (by kernel_rfl) (fun _ _ _ h=>h) (Or.inl ⟨by rfl,?yc11⟩) hHeld ?_
 case yc11=>(intro w hSw;(try dsimp only at hSw);go_simp;first|done|(with_reducible rfl)|rfl|omega)
 try simp only[gsx,Act.put]
 refine wpAnyH_take (i:=12) (v:= .int .u8 (c.toNat:Int)) rfl (by kernel_rfl) (by kernel_rfl) (by kernel_rfl) (fun _ _ _ h=>h) (Or.inl ⟨by rfl,?yc12⟩) hHeld ?_
 case yc12=>(intro w hSw;(try dsimp only at hSw);go_simp;first|done|(with_reducible rfl)|rfl|omega)
 try simp only[gsx,Act.put]
 refine wpAnyH_take (i:=13) (v:= .bool true) rfl (by kernel_rfl) (by kernel_rfl) (by kernel_rfl) (fun _ _ _ h=>h) (Or.inl ⟨by rfl,?yc13⟩) hHeld ?_
 case yc13=>(intro w hSw;(try dsimp only at hSw);go_simp;first|done|(with_reducible rfl)|rfl|omega)
 try simp only[gsx,Act.put]
 refine wpAnyH_take (i:=14) (v:= .bool true) rfl (by kernel_rfl) (by kernel_rfl) (by kernel_rfl) (fun _ _ _ h=>h) (Or.inl ⟨by rfl,?yc14⟩) hHeld ?_
 case yc14=>(intro w hSw;(try dsimp only at hSw);go_simp;first|done|(with_reducible rfl)|rfl|omega)
 try simp only[gsx,Act.put]
 refine wpAnyH_take (i:=15) (v:= .bool true) rfl (by kernel_rfl) (by kernel_rfl) (by kernel_rfl) (fun _ _ _ h=>h) (Or.inl ⟨by rfl,?yc15⟩) hHeld ?_
 case yc15=>(intro w hSw;(try dsimp only at hSw);go_simp;first|done|(with_reducible rfl)|rfl|omega)
 try simp only[gsx,Act.put]
 refine wpAnyH_take (i:=16) (v:=?vc16) rfl (by kernel_rfl) (by kernel_rfl) (by kernel_rfl) (fun _ _ _ h=>h) (Or.inl ⟨by rfl,?yc16⟩) hHeld ?_
 case yc16=>(intro w hSw;(try dsimp only at hSw);go_simp;first|done|(with_reducible rfl)|rfl|omega)
 try simp only[gsx,Act.put]
 refine wpAnyH_take (i:=17) (v:= .int .u8 (c.toNat:Int)) rfl (by kernel_rfl) (by kernel_rfl) (by kernel_rfl) (fun _ _ _ h=>h) (Or.inl ⟨by rfl,?yc17⟩) hHeld ?_
 case yc17=>(intro w hSw;(try dsimp only at hSw);go_simp;first|done|(with_reducible rfl)|rfl|omega)
 try simp only[gsx,Act.put]
 refine wpAnyH_take (i:=18) (v:= .bool false) rfl (by kernel_rfl) (by kernel_rfl) (by kernel_rfl) (fun _ _ _ h=>h) (Or.inl ⟨by rfl,?yc18⟩) hHeld ?_
 case yc18=>(intro w hSw;(try dsimp only at hSw);go_simp;first|done|(with_reducible rfl)|rfl|omega)
 try simp only[gsx,Act.put]
 refine wpAnyH_take (i:=19) (v:= .bool false) rfl (by kernel_rfl) (by kernel_rfl) (by kernel_rfl) (fun _ _ _ h=>h) (Or.inl ⟨by rfl,?yc19⟩) hHeld ?_
 case yc19=>(intro w hSw;(try dsimp only at hSw);go_simp;first|done|(with_reducible rfl)|rfl|omega)
 try simp only[gsx,Act.put]
 refine wpAnyH_done (by kernel_rfl) ?_ _
 refine NoPanic.normal ?_
 go_wp2_with fail
 go_roundg q
 case measure=>omega
 case rel=>exact⟨k+1,by omega,by go_num,by have:=AG.out;show _=_;omega,HC.out⟩
open Go.RowKit
theorem zlc_ (nm:LU) (l:List Ent.AttrE) (vl:Value) (k:Int) (w:World) (hw:Env w) (hv:AttrsA w vl l) (hlt:∀ a∈l,a.typ.length≤140737488351232∧a.vals.length≤4611686018427387904):
  Calls Tryz.prog 4 #[.string ⟨nm.toArray⟩,vl,.int .i64 k] w fun e w'=>e= .returned (.bool true)∧Bel w w':=by
 obtain⟨A,c,rfl,_⟩:=hv.isSlice
 by_cases h3:(60:Int)<(l.length:Int)
 ·exact zin_ nm l A _ c rfl k w hw hv hlt h3
 ·exact zbk_ nm l A _ c rfl k w hw hv hlt h3
end Go.Proofs.YtbekpphodbekiaaGreatDoor
