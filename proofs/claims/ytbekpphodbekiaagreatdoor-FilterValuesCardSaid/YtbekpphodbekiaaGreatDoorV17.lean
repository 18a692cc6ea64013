import Derived.Test.YtbekpphodbekiaaGreatDoorV16
set_option linter.all false
set_option maxHeartbeats 8000000
set_option maxRecDepth 100000
namespace Go.Proofs.YtbekpphodbekiaaGreatDoor
open Go.RowKit
def z1l_ (w0 w:World) (acc:LU) (X:LU × List Fil.FilE) (e:Ending) (w':World):Prop:=Below w0.heap.size w w'∧IsB w0.heap.size w0.heap.size (acc++X.1) w'∧∃ v,e= .returned v∧FilsA w0 v X.2
theorem ze4_:∀ (l:List Nat) (x:Nat),x∈l→x≤l.sum
 |[],x,h=>by cases h
 |y::l,x,h=>by
  rw[List.sum_cons]
  rcases List.mem_cons.1 h with rfl|h
  ·omega
  ·have:=ze4_ l x h;omega
theorem IsB.lt {B b:Nat} {l:LU} {w:World} (h:IsB B b l w):b<w.heap.size:=by
 rcases h.1 with ⟨_,v,hk,_⟩|⟨_,v,hk,_⟩<;>exact(Array.getElem?_eq_some_iff.1 hk).1
theorem IsB.cast {B b:Nat} {l m:LU} {w:World} (h:IsB B b l w) (e:l=m):IsB B b m w:=e ▸ h
theorem q9_ (B b:Nat) (l m:LU) (c:UInt8) (hm:l++[c]=m) (w:World) (h:IsB B b l w) (hl:l.length≤10000000000):
  Calls Tryz.prog 107 #[.pointer (some ⟨b,0,none⟩),.int .u8 c.toNat] w fun e w'=>e= .returned .nilIface∧IsB B b m w'∧Below B w w'∧Oth b w w':=by
 subst hm
 exact zay_ B b l c w h (by omega)
theorem j3_ (B b:Nat) (l s m:LU) (hm:l++s=m) (w:World) (h:IsB B b l w) (hl:l.length≤10000000000) (hs:s.length≤10000000000):
  Calls Tryz.prog 108 #[.pointer (some ⟨b,0,none⟩),.string ⟨s.toArray⟩] w fun e w'=>e= .returned (.tuple #[.int .i64 s.length,.nilIface])∧IsB B b m w'∧Below B w w'∧Oth b w w':=by
 subst hm
 exact j4_ B b l s w h (by omega)
theorem zey_ (w0:World) (hw:Env w0) (p:Fil.FilE) (t:List Fil.FilE) (v:Value) (w:World) (acc:LU) (hv:FilsA w0 v (p::t)) (hb:Bel w0 w) (hI:IsB w0.heap.size w0.heap.size acc w) (hl:Fil.wgt (p::t)≤1048576) (ha:acc.length+4 * Fil.wgt (p::t)≤1000000000) (ho:p.op=7):
  Calls Tryz.prog 55 #[.pointer (some ⟨w0.heap.size,0,none⟩),v] w (z1l_ w0 w acc (40::(Fil.itemT p++[41]),t)):=by
 obtain⟨bb,oo,c,vy,vt,rfl,hc,⟨c0,c1,c2,c3,c4,c5,c6⟩,hta,hsl,ht⟩:=hv.tail
 rw[Fil.wgt_cons] at hl ha
 have hW:=fun (x:LU) (W:World) (hW:Bel w0 W) (h:x.length≤1048576)=>kz_ x W (hw.keep hW) (by omega)
 have HWr:=hiD hW
 have hBp:=hI.lt
 obtain⟨Ay,cy,rfl,hyc,hy⟩:=hta.at
 obtain⟨At,ct,rfl,hct⟩:=ht.isSlice
 have HT:=hiD ht
 obtain⟨o,n,ty,va,i,f,y⟩:=p
 unfold z09_ at hl ha
 simp only at c0 c1 c2 c3 c4 c5 c6 hl ha hyc hy ho
 have d0:=cQ hb c0
 have d1:=cQ hb c1
 have d2:=cQ hb c2
 have d3:=cQ hb c3
 have d4:=cQ hb c4
 have d5:=cQ hb c5
 have d6:=cQ hb c6
 have hk1:=Bk.new w 45 #[.int .i64 o,.int .i64 n,.string ⟨ty.toArray⟩,.string ⟨va.toArray⟩,.string ⟨i.toArray⟩,.string ⟨f.toArray⟩,.slice Ay y.length cy]
 have hb1:=ze_ w (.cells #[.int .i64 o,.int .i64 n,.string ⟨ty.toArray⟩,.string ⟨va.toArray⟩,.string ⟨i.toArray⟩,.string ⟨f.toArray⟩,.slice Ay y.length cy] 45)
 have hI1:=hI.below hb1
 have hbb:=tQ hb hb1
 have hpn:w.heap.size≠w0.heap.size:=by omega
 have hi1:(0:Int)<(t.length:Int)+1:=by omega
 obtain⟨a1,ha1⟩:∃ a1,acc++[40]=a1:=⟨_,rfl⟩
 have ha1l:a1.length=acc.length+1:=by rw[← ha1,List.length_append];rfl
 have HB1:=hiD hbb
 have HK1:=hiD hk1
 have HI1:=hiD hI1
 have hb10:Below w0.heap.size w (w.alloc (.cells #[.int .i64 o,.int .i64 n,.string ⟨ty.toArray⟩,.string ⟨va.toArray⟩,.string ⟨i.toArray⟩,.string ⟨f.toArray⟩,.slice Ay y.length cy] 45)):=hb1.mono hb.size
 have HB10:=hiD hb10
 have H40:Hid (∀ W,IsB w0.heap.size w0.heap.size acc W→Calls Tryz.prog 107 #[.pointer (some ⟨w0.heap.size,0,none⟩),.int .u8 40] W fun e w'=>e= .returned .nilIface∧IsB w0.heap.size w0.heap.size a1 w'∧Below w0.heap.size W w'∧Oth w0.heap.size W w'):=hiD fun W hW=>q9_ _ _ acc a1 40 ha1 W hW (by omega)
 clear c0 c1 c2 c3 c4 c5 c6 hv ht hb hI hW hk1 hb1 hI1 hbb hb10
 subst ho
 obtain⟨s1,hs1⟩:∃ s1,ty++[61,42]=s1:=⟨_,rfl⟩
 have hcat:∀ W:World,(Op.stringOp .add ⟨ty.toArray⟩ ⟨#[61,42]⟩).run Tryz.prog W= .ok (.string ⟨s1.toArray⟩) W:=fun W=>by rw[← hs1];exact run_string_add_lists W ty [61,42] (by omega) (by simp)
 have hs1l:s1.length=ty.length+2:=by rw[← hs1,List.length_append];rfl
 obtain⟨a2,ha2⟩:∃ a2,a1++s1=a2:=⟨_,rfl⟩
 have ha2l:a2.length=a1.length+s1.length:=by rw[← ha2,List.length_append]
 obtain⟨a3,ha3⟩:∃ a3,a2++[41]=a3:=⟨_,rfl⟩
 have hfin:acc++(40::(Fil.itemT ⟨7,n,ty,va,i,f,y⟩++[41]))=a3:=by
  rw[← ha3,← ha2,← ha1,← hs1]
  simp [Fil.itemT]
 have HF:=hiD hfin
 have H41:Hid (∀ W,IsB w0.heap.size w0.heap.size a2 W→Calls Tryz.prog 107 #[.pointer (some ⟨w0.heap.size,0,none⟩),.int .u8 41] W fun e w'=>e= .returned .nilIface∧IsB w0.heap.size w0.heap.size a3 w'∧Below w0.heap.size W w'∧Oth w0.heap.size W w'):=hiD fun W hW=>q9_ _ _ a2 a3 41 ha3 W hW (by omega)
 have HS:=hiD (fun W hW=>j3_ w0.heap.size w0.heap.size a1 s1 a2 ha2 W hW (by omega) (by omega))
 clear hfin ha1 ha2 ha3 hs1
 go_enter Tryz.func55,Tryz.ntmps55
 go_wp2_with (first
  |(go_at_call 107;(with_reducible refine(H41.out _ HI7.out).mono ?_);rintro e w8 ⟨rfl,hI8,hb8,_⟩)
  |(go_at_call 107;(with_reducible refine(H40.out _ HI1.out).mono ?_);rintro e w3 ⟨rfl,hI3,hb3,ho3⟩;have hk3:=HK1.out.oth ho3 hpn (by decide);have e0:=hk3.cell 0;have e1:=hk3.cell 1;have e2:=hk3.cell 2;have e3:=hk3.cell 3;have e4:=hk3.cell 4;have e5:=hk3.cell 5;have e6:=hk3.cell 6;simp only[gs3] at e0 e1 e2 e3 e4 e5 e6;have HI3:=hiD hI3;have HK3:=hiD hk3;have HB3:=hiD (HB1.out.trans hb3);have HBw3:=hiD (HB10.out.trans hb3);clear hI3 hk3 ho3 hb3)
  |(go_at_call 108;(refine(HS.out _ (by exact HI3.out)).mono ?_);rintro e w7 ⟨rfl,hI7,hb7,_⟩;have HI7:=hiD hI7))
 go_ret
 exact⟨(HBw3.out.trans hb7).trans hb8,hI8.cast HF.out.symm,_,rfl,HT.out⟩
theorem zk7_ (w0:World) (hw:Env w0) (p:Fil.FilE) (t:List Fil.FilE) (v:Value) (w:World) (acc:LU) (hv:FilsA w0 v (p::t)) (hb:Bel w0 w) (hI:IsB w0.heap.size w0.heap.size acc w) (hl:Fil.wgt (p::t)≤1048576) (ha:acc.length+4 * Fil.wgt (p::t)≤1000000000) (ho:p.op=3∨p.op=5∨p.op=6∨p.op=8):
  Calls Tryz.prog 55 #[.pointer (some ⟨w0.heap.size,0,none⟩),v] w (z1l_ w0 w acc (40::(Fil.itemT p++[41]),t)):=by
 obtain⟨bb,oo,c,vy,vt,rfl,hc,⟨c0,c1,c2,c3,c4,c5,c6⟩,hta,hsl,ht⟩:=hv.tail
 rw[Fil.wgt_cons] at hl ha
 have hW:=fun (x:LU) (W:World) (hW:Bel w0 W) (h:x.length≤1048576)=>kz_ x W (hw.keep hW) (by omega)
 have HWr:=hiD hW
 have hBp:=hI.lt
 obtain⟨Ay,cy,rfl,hyc,hy⟩:=hta.at
 obtain⟨At,ct,rfl,hct⟩:=ht.isSlice
 have HT:=hiD ht
 obtain⟨o,n,ty,va,i,f,y⟩:=p
 unfold z09_ at hl ha
 simp only at c0 c1 c2 c3 c4 c5 c6 hl ha hyc hy ho
 have d0:=cQ hb c0
 have d1:=cQ hb c1
 have d2:=cQ hb c2
 have d3:=cQ hb c3
 have d4:=cQ hb c4
 have d5:=cQ hb c5
 have d6:=cQ hb c6
 have hk1:=Bk.new w 45 #[.int .i64 o,.int .i64 n,.string ⟨ty.toArray⟩,.string ⟨va.toArray⟩,.string ⟨i.toArray⟩,.string ⟨f.toArray⟩,.slice Ay y.length cy]
 have hb1:=ze_ w (.cells #[.int .i64 o,.int .i64 n,.string ⟨ty.toArray⟩,.string ⟨va.toArray⟩,.string ⟨i.toArray⟩,.string ⟨f.toArray⟩,.slice Ay y.length cy] 45)
 have hI1:=hI.below hb1
 have hbb:=tQ hb hb1
 have hpn:w.heap.size≠w0.heap.size:=by omega
 have hi1:(0:Int)<(t.length:Int)+1:=by omega
 obtain⟨a1,ha1⟩:∃ a1,acc++[40]=a1:=⟨_,rfl⟩
 have ha1l:a1.length=acc.length+1:=by rw[← ha1,List.length_append];rfl
 have HB1:=hiD hbb
 have HK1:=hiD hk1
 have HI1:=hiD hI1
 have hb10:Below w0.heap.size w (w.alloc (.cells #[.int .i64 o,.int .i64 n,.string ⟨ty.toArray⟩,.string ⟨va.toArray⟩,.string ⟨i.toArray⟩,.string ⟨f.toArray⟩,.slice Ay y.length cy] 45)):=hb1.mono hb.size
 have HB10:=hiD hb10
 have H40:Hid (∀ W,IsB w0.heap.size w0.heap.size acc W→Calls Tryz.prog 107 #[.pointer (some ⟨w0.heap.size,0,none⟩),.int .u8 40] W fun e w'=>e= .returned .nilIface∧IsB w0.heap.size w0.heap.size a1 w'∧Below w0.heap.size W w'∧Oth w0.heap.size W w'):=hiD fun W hW=>q9_ _ _ acc a1 40 ha1 W hW (by omega)
 clear c0 c1 c2 c3 c4 c5 c6 hv ht hb hI hW hk1 hb1 hI1 hbb hb10
 have hvw:=Fil.wrL_len8 va
 have HV:Hid (∀ W,Bel w0 W→Calls Tryz.prog 109 #[.string ⟨va.toArray⟩] W fun e w'=>e= .returned (.string ⟨(Fil.wrL va).toArray⟩)∧Bel W w'):=hiD fun W hW=>HWr.out va W hW (by omega)
 have hsg:(Fil.signF o).length≤2:=by rcases ho with rfl|rfl|rfl|rfl<;>decide
 have HSG:=hiD (fun W=>zha_ o W)
 have hit:Fil.itemT ⟨o,n,ty,va,i,f,y⟩=ty++Fil.signF o++Fil.wrL va:=by unfold Fil.itemT;rw[if_neg (by rcases ho with rfl|rfl|rfl|rfl<;>(simp only;decide)),if_neg (by rcases ho with rfl|rfl|rfl|rfl<;>(simp only;decide))]
 rw[hit]
 generalize Fil.wrL va=wv at *
 generalize Fil.signF o=sg at *
 obtain⟨s1,hs1⟩:∃ s1,ty++sg=s1:=⟨_,rfl⟩
 have hcat:∀ W:World,(Op.stringOp .add ⟨ty.toArray⟩ ⟨sg.toArray⟩).run Tryz.prog W= .ok (.string ⟨s1.toArray⟩) W:=fun W=>by rw[← hs1];exact run_string_add_lists W ty sg (by omega) (by omega)
 have hs1l:s1.length=ty.length+sg.length:=by rw[← hs1,List.length_append]
 obtain⟨s2,hs2⟩:∃ s2,s1++wv=s2:=⟨_,rfl⟩
 have hcat2:∀ W:World,(Op.stringOp .add ⟨s1.toArray⟩ ⟨wv.toArray⟩).run Tryz.prog W= .ok (.string ⟨s2.toArray⟩) W:=fun W=>by rw[← hs2];exact run_string_add_lists W s1 wv (by omega) (by omega)
 have hs2l:s2.length=s1.length+wv.length:=by rw[← hs2,List.length_append]
 obtain⟨a2,ha2⟩:∃ a2,a1++s2=a2:=⟨_,rfl⟩
 have ha2l:a2.length=a1.length+s2.length:=by rw[← ha2,List.length_append]
 obtain⟨a3,ha3⟩:∃ a3,a2++[41]=a3:=⟨_,rfl⟩
 have hfin:acc++(40::(ty++sg++wv++[41]))=a3:=by
  rw[← ha3,← ha2,← ha1,← hs2,← hs1]
  simp
 have HF:=hiD hfin
 have H41:Hid (∀ W,IsB w0.heap.size w0.heap.size a2 W→Calls Tryz.prog 107 #[.pointer (some ⟨w0.heap.size,0,none⟩),.int .u8 41] W fun e w'=>e= .returned .nilIface∧IsB w0.heap.size w0.heap.size a3 w'∧Below w0.heap.size W w'∧Oth w0.heap.size W w'):=hiD fun W hW=>q9_ _ _ a2 a3 41 ha3 W hW (by omega)
 have HS:=hiD (fun W hW=>j3_ w0.heap.size w0.heap.size a1 s2 a2 ha2 W hW (by omega) (by omega))
 clear hfin ha1 ha2 ha3 hs1 hs2 hit
 have n0:(o==0)=false:=beq_eq_false_iff_ne.2 (by omega)
 have n1:(o==1)=false:=beq_eq_false_iff_ne.2 (by omega)
 have n2:(o==2)=false:=beq_eq_false_iff_ne.2 (by omega)
 have n4:(o==4)=false:=beq_eq_false_iff_ne.2 (by omega)
 have n7:(o==7)=false:=beq_eq_false_iff_ne.2 (by omega)
 clear ho
 go_enter Tryz.func55,Tryz.ntmps55
 go_wp2_with (go_at_call 107;(with_reducible refine(H40.out _ HI1.out).mono ?_);rintro e w3 ⟨rfl,hI3,hb3,ho3⟩;have hk3:=HK1.out.oth ho3 hpn (by decide);have e0:=hk3.cell 0;have e1:=hk3.cell 1;have e2:=hk3.cell 2;have e3:=hk3.cell 3;have e4:=hk3.cell 4;have e5:=hk3.cell 5;have e6:=hk3.cell 6;simp only[gs3] at e0 e1 e2 e3 e4 e5 e6;have HI3:=hiD hI3;have HK3:=hiD hk3;have HB3:=hiD (HB1.out.trans hb3);have HBw3:=hiD (HB10.out.trans hb3);clear hI3 hk3 ho3 hb3)
 go_region_held3 (fun w'=>w'.cell? ⟨w.heap.size,0,none⟩=some (.int .i64 o)∧w'.cell? ⟨w.heap.size,2,none⟩=some (.string ⟨ty.toArray⟩)∧w'.cell? ⟨w.heap.size,3,none⟩=some (.string ⟨va.toArray⟩)) (first|exact⟨e0,e2,e3⟩|exact⟨g0,g2,g3⟩|exact⟨h0,h2,h3⟩) (first
  |(go_at_call 104;(refine(HSG.out _).mono ?_);rintro e w5 ⟨rfl,rfl⟩)
  |(go_at_call 109;(refine(HV.out _ (by exact HB3.out.drew)).mono ?_);rintro e w6 ⟨rfl,hb6⟩;have HI6:=hiD (HI3.out.drew.below hb6);have HB6:=hiD (HBw3.out.drew.trans (hb6.mono HB3.out.size));have g0:=cQ hb6 e0;have g2:=cQ hb6 e2;have g3:=cQ hb6 e3)
  |(go_at_call 108;(refine(HS.out _ (by exact HI6.out)).mono ?_);rintro e w7 ⟨rfl,hI7,hb7,ho7⟩;have HI7:=hiD hI7;have hk7:=((HK3.out.below (bR _ _).drew).below hb6).oth ho7 hpn (by decide);have h0:=hk7.cell 0;have h2:=hk7.cell 2;have h3:=hk7.cell 3;simp only[gs3] at h0 h2 h3)
  |fail)
 all_goals
  go_wp2_with (go_at_call 107;(with_reducible refine(H41.out _ HI7.out).mono ?_);rintro e w8 ⟨rfl,hI8,hb8,_⟩)
  go_ret
  exact⟨(HB6.out.trans hb7).trans hb8,hI8.cast HF.out.symm,_,rfl,HT.out⟩
open Go.RowKit
theorem zk9_ (w0:World) (hw:Env w0) (p:Fil.FilE) (t:List Fil.FilE) (v:Value) (w:World) (acc:LU) (hv:FilsA w0 v (p::t)) (hb:Bel w0 w) (hI:IsB w0.heap.size w0.heap.size acc w) (hl:Fil.wgt (p::t)≤1048576) (ha:acc.length+4 * Fil.wgt (p::t)≤1000000000) (ho:p.op=4):
  Calls Tryz.prog 55 #[.pointer (some ⟨w0.heap.size,0,none⟩),v] w (z1l_ w0 w acc (40::(Fil.itemT p++[41]),t)):=by
 obtain⟨bb,oo,c,vy,vt,rfl,hc,⟨c0,c1,c2,c3,c4,c5,c6⟩,hta,hsl,ht⟩:=hv.tail
 rw[Fil.wgt_cons] at hl ha
 have hW:=fun (x:LU) (W:World) (hW:Bel w0 W) (h:x.length≤1048576)=>kz_ x W (hw.keep hW) (by omega)
 have HWr:=hiD hW
 have hBp:=hI.lt
 obtain⟨Ay,cy,rfl,hyc,hy⟩:=hta.at
 obtain⟨At,ct,rfl,hct⟩:=ht.isSlice
 have HT:=hiD ht
 obtain⟨o,n,ty,va,i,f,y⟩:=p
 unfold z09_ at hl ha
 simp only at c0 c1 c2 c3 c4 c5 c6 hl ha hyc hy ho
 have d0:=cQ hb c0
 have d1:=cQ hb c1
 have d2:=cQ hb c2
 have d3:=cQ hb c3
 have d4:=cQ hb c4
 have d5:=cQ hb c5
 have d6:=cQ hb c6
 have hk1:=Bk.new w 45 #[.int .i64 o,.int .i64 n,.string ⟨ty.toArray⟩,.string ⟨va.toArray⟩,.string ⟨i.toArray⟩,.string ⟨f.toArray⟩,.slice Ay y.length cy]
 have hb1:=ze_ w (.cells #[.int .i64 o,.int .i64 n,.string ⟨ty.toArray⟩,.string ⟨va.toArray⟩,.string ⟨i.toArray⟩,.string ⟨f.toArray⟩,.slice Ay y.length cy] 45)
 have hI1:=hI.below hb1
 have hbb:=tQ hb hb1
 have hpn:w.heap.size≠w0.heap.size:=by omega
 have hi1:(0:Int)<(t.length:Int)+1:=by omega
 obtain⟨a1,ha1⟩:∃ a1,acc++[40]=a1:=⟨_,rfl⟩
 have ha1l:a1.length=acc.length+1:=by rw[← ha1,List.length_append];rfl
 have HB1:=hiD hbb
 have HK1:=hiD hk1
 have HI1:=hiD hI1
 have hb10:Below w0.heap.size w (w.alloc (.cells #[.int .i64 o,.int .i64 n,.string ⟨ty.toArray⟩,.string ⟨va.toArray⟩,.string ⟨i.toArray⟩,.string ⟨f.toArray⟩,.slice Ay y.length cy] 45)):=hb1.mono hb.size
 have HB10:=hiD hb10
 have H40:Hid (∀ W,IsB w0.heap.size w0.heap.size acc W→Calls Tryz.prog 107 #[.pointer (some ⟨w0.heap.size,0,none⟩),.int .u8 40] W fun e w'=>e= .returned .nilIface∧IsB w0.heap.size w0.heap.size a1 w'∧Below w0.heap.size W w'∧Oth w0.heap.size W w'):=hiD fun W hW=>q9_ _ _ acc a1 40 ha1 W hW (by omega)
 clear c0 c1 c2 c3 c4 c5 c6 hv ht hb hI hW hk1 hb1 hI1 hbb hb10
 subst ho
 have hvi:=Fil.wrL_len8 i
 have hvf:=Fil.wrL_len8 f
 have hva:=Fil.any_len y
 have HV:Hid (∀ W,Bel w0 W→Calls Tryz.prog 109 #[.string ⟨i.toArray⟩] W fun e w'=>e= .returned (.string ⟨(Fil.wrL i).toArray⟩)∧Bel W w'):=hiD fun W hW=>HWr.out i W hW (by omega)
 have HVf:Hid (∀ W,Bel w0 W→Calls Tryz.prog 109 #[.string ⟨f.toArray⟩] W fun e w'=>e= .returned (.string ⟨(Fil.wrL f).toArray⟩)∧Bel W w'):=hiD fun W hW=>HWr.out f W hW (by omega)
 have hit:Fil.itemT ⟨4,n,ty,va,i,f,y⟩=ty++61::(Fil.wrL i++42::(y.flatMap fun x=>Fil.wrL x++[42]))++Fil.wrL f:=by unfold Fil.itemT;rw[if_neg (by simp only;decide),if_pos rfl]
 rw[hit]
 have hys:∀ k (hk:k<y.length),y[k].length≤1048576:=fun k hk=>by
  have:y[k].length≤(y.map List.length).sum:=ze4_ _ _ (List.mem_map.2 ⟨y[k],List.getElem_mem hk,rfl⟩)
  omega
 have HYS:=hiD hys
 have HY:=hiD hy
 generalize Fil.wrL i=wi at *
 generalize Fil.wrL f=wf at *
 obtain⟨Y,hY⟩:∃ Y,(y.flatMap fun x=>Fil.wrL x++[42])=Y:=⟨_,rfl⟩
 rw[hY] at hva ⊢
 obtain⟨s1,hs1⟩:∃ s1,ty++[61]=s1:=⟨_,rfl⟩
 have hcat:∀ W:World,(Op.stringOp .add ⟨ty.toArray⟩ ⟨#[61]⟩).run Tryz.prog W= .ok (.string ⟨s1.toArray⟩) W:=fun W=>by rw[← hs1];exact run_string_add_lists W ty [61] (by omega) (by simp)
 have hs1l:s1.length=ty.length+1:=by rw[← hs1,List.length_append];rfl
 obtain⟨s2,hs2⟩:∃ s2,s1++wi=s2:=⟨_,rfl⟩
 have hcat2:∀ W:World,(Op.stringOp .add ⟨s1.toArray⟩ ⟨wi.toArray⟩).run Tryz.prog W= .ok (.string ⟨s2.toArray⟩) W:=fun W=>by rw[← hs2];exact run_string_add_lists W s1 wi (by omega) (by omega)
 have hs2l:s2.length=s1.length+wi.length:=by rw[← hs2,List.length_append]
 obtain⟨s3,hs3⟩:∃ s3,s2++[42]=s3:=⟨_,rfl⟩
 have hcat3:∀ W:World,(Op.stringOp .add ⟨s2.toArray⟩ ⟨#[42]⟩).run Tryz.prog W= .ok (.string ⟨s3.toArray⟩) W:=fun W=>by rw[← hs3];exact run_string_add_lists W s2 [42] (by omega) (by simp)
 have hs3l:s3.length=s2.length+1:=by rw[← hs3,List.length_append];rfl
 obtain⟨a2,ha2⟩:∃ a2,a1++s3=a2:=⟨_,rfl⟩
 have ha2l:a2.length=a1.length+s3.length:=by rw[← ha2,List.length_append]
 obtain⟨a3,ha3⟩:∃ a3,a2++Y=a3:=⟨_,rfl⟩
 have ha3l:a3.length=a2.length+Y.length:=by rw[← ha3,List.length_append]
 obtain⟨a4,ha4⟩:∃ a4,a3++wf=a4:=⟨_,rfl⟩
 have ha4l:a4.length=a3.length+wf.length:=by rw[← ha4,List.length_append]
 obtain⟨a5,ha5⟩:∃ a5,a4++[41]=a5:=⟨_,rfl⟩
 have hfin:acc++(40::(ty++61::(wi++42::Y)++wf++[41]))=a5:=by
  rw[← ha5,← ha4,← ha3,← ha2,← ha1,← hs3,← hs2,← hs1]
  simp
 have HF:=hiD hfin
 have H3:Hid (a2++(y.drop 0).flatMap (fun x=>Fil.wrL x++[42])=a3):=hiD (by rw[List.drop_zero,hY,ha3])
 have H41:Hid (∀ W,IsB w0.heap.size w0.heap.size a4 W→Calls Tryz.prog 107 #[.pointer (some ⟨w0.heap.size,0,none⟩),.int .u8 41] W fun e w'=>e= .returned .nilIface∧IsB w0.heap.size w0.heap.size a5 w'∧Below w0.heap.size W w'∧Oth w0.heap.size W w'):=hiD fun W hW=>q9_ _ _ a4 a5 41 ha5 W hW (by omega)
 have HS:=hiD (fun W hW=>j3_ w0.heap.size w0.heap.size a1 s3 a2 ha2 W hW (by omega) (by omega))
 have HS4:=hiD (fun W hW=>j3_ w0.heap.size w0.heap.size a3 wf a4 ha4 W hW (by omega) (by omega))
 have HLN:=hiD (show a3.length≤1100000000 by omega)
 clear hfin ha1 ha2 ha3 ha4 ha5 hs1 hs2 hs3 hit hY hys hy
 go_enter Tryz.func55,Tryz.ntmps55
 go_wp2_with (go_at_call 107;(with_reducible refine(H40.out _ HI1.out).mono ?_);rintro e w3 ⟨rfl,hI3,hb3,ho3⟩;have hk3:=HK1.out.oth ho3 hpn (by decide);have e0:=hk3.cell 0;have e1:=hk3.cell 1;have e2:=hk3.cell 2;have e3:=hk3.cell 3;have e4:=hk3.cell 4;have e5:=hk3.cell 5;have e6:=hk3.cell 6;simp only[gs3] at e0 e1 e2 e3 e4 e5 e6;have HI3:=hiD hI3;have HK3:=hiD hk3;have HB3:=hiD (HB1.out.trans hb3);have HBw3:=hiD (HB10.out.trans hb3);clear hI3 hk3 ho3 hb3)
 go_region_held3 (fun w'=>w'.cell? ⟨w.heap.size,2,none⟩=some (.string ⟨ty.toArray⟩)∧w'.cell? ⟨w.heap.size,4,none⟩=some (.string ⟨i.toArray⟩)) (first|exact⟨e2,e4⟩|exact⟨g2,g4⟩|exact⟨h2,h4⟩) (first
  |(go_at_call 109;(refine(HV.out _ (by exact HB3.out.drew)).mono ?_);rintro e w6 ⟨rfl,hb6⟩;have HI6:=hiD (HI3.out.drew.below hb6);have HB6:=hiD (HBw3.out.drew.trans (hb6.mono HB3.out.size));have g2:=cQ hb6 e2;have g4:=cQ hb6 e4)
  |(go_at_call 108;(refine(HS.out _ (by exact HI6.out)).mono ?_);rintro e w7 ⟨rfl,hI7,hb7,ho7⟩;have HI7:=hiD hI7;have hk7:=((HK3.out.below (bR _ _).drew).below hb6).oth ho7 hpn (by decide);have h2:=hk7.cell 2;have h4:=hk7.cell 4;have h6:=hk7.cell 6;simp only[gs3] at h2 h4 h6)
  |fail)
 go_wp2_with fail
 have HBw7:=hiD (HB6.out.trans hb7)
 have HK7:=hiD hk7
 have HB03:=HB3.out.size
 have HBs:=hiD (show Bel w0 w7 from (HB3.out.drew.trans (hb6.mono HB3.out.size)).trans hb7)
 clear hI7 hb7 hk7 hb6 ho7 g2 g4 h2 h4
 go_loopg [68] y.length (fun gk ix wr=>∃ (k:Nat) (aj:LU),k≤y.length∧ix= .int .i64 (k:Int)∧Aside (k+gk=y.length)∧Aside (aj++(y.drop k).flatMap (fun x=>Fil.wrL x++[42])=a3)∧Aside (IsB w0.heap.size w0.heap.size aj wr)∧Aside (Bk wr w.heap.size 45 #[.int .i64 4,.int .i64 n,.string ⟨ty.toArray⟩,.string ⟨va.toArray⟩,.string ⟨i.toArray⟩,.string ⟨f.toArray⟩,.slice Ay y.length cy])∧Aside (Below w0.heap.size w wr)∧Aside (Bel w0 wr))
 case atStart=>exact⟨0,a2,by omega,rfl,by show _=_;omega,H3.out,HI7.out,HK7.out,HBw7.out,HBs.out⟩
 case round=>
  clear e0 e1 e2 e3 e4 e5 e6 HI3 HK3 HB3 HBw3 HI6 HB6 HI7 HBw7 HK7 HB03 HBs h6
  obtain⟨k,aj,hk,rfl,AG,AA,AI,AK,AB,AB0⟩:=hrel
  have haj:aj.length≤1100000000:=by
   have h1:=congrArg List.length AA.out
   rw[List.length_append] at h1
   have:=HLN.out
   omega
  by_cases hlt:k<y.length
  ·have hki:(k:Int)<(y.length:Int):=by omega
   obtain⟨q,rfl⟩:∃ q,gk=q+1:=⟨gk - 1,by have:=AG.out;omega⟩
   obtain⟨p1,rfl,x1⟩:=HY.out k hlt
   have x2:=cQ AB0.out x1
   have hvk:=Fil.wrL_len8 y[k]
   have hyk:=HYS.out k hlt
   have HVk:Hid (∀ W,Bel w0 W→Calls Tryz.prog 109 #[.string ⟨y[k].toArray⟩] W fun e w'=>e= .returned (.string ⟨(Fil.wrL y[k]).toArray⟩)∧Bel W w'):=hiD fun W hW=>HWr.out y[k] W hW hyk
   have hdr:(y.drop k).flatMap (fun x=>Fil.wrL x++[42])=(Fil.wrL y[k]++[42])++(y.drop (k+1)).flatMap (fun x=>Fil.wrL x++[42]):=by rw[List.drop_eq_getElem_cons hlt,List.flatMap_cons]
   have hAA:=AA.out
   rw[hdr,← List.append_assoc] at hAA
   generalize Fil.wrL y[k]=wk at *
   generalize y[k]=yk at *
   obtain⟨u1,hu1⟩:∃ u1,wk++[42]=u1:=⟨_,rfl⟩
   have hcatk:∀ W:World,(Op.stringOp .add ⟨wk.toArray⟩ ⟨#[42]⟩).run Tryz.prog W= .ok (.string ⟨u1.toArray⟩) W:=fun W=>by rw[← hu1];exact run_string_add_lists W wk [42] (by omega) (by simp)
   have hu1l:u1.length=wk.length+1:=by rw[← hu1,List.length_append];rfl
   rw[hu1] at hAA
   obtain⟨an,han⟩:∃ an,aj++u1=an:=⟨_,rfl⟩
   rw[han] at hAA
   have HSk:=hiD (fun W hW=>j3_ w0.heap.size w0.heap.size aj u1 an han W hW (by omega) (by omega))
   have HAA:=hiD hAA
   clear hAA hdr hu1 han x1 hvk hyk
   go_wp2_with (first
    |(go_at_call 109;(refine(HVk.out _ (by exact AB0.out)).mono ?_);rintro e w6 ⟨rfl,hb6⟩;have HI6:=hiD (AI.out.below hb6))
    |(go_at_call 108;(refine(HSk.out _ (by exact HI6.out)).mono ?_);rintro e w7 ⟨rfl,hI7,hb7,ho7⟩))
   go_roundg q
   case measure=>omega
   case rel=>exact⟨k+1,an,by omega,by go_num,by have:=AG.out;show _=_;omega,HAA.out,hI7,(AK.out.below hb6).oth ho7 hpn (by decide),(AB.out.trans (hb6.mono AB0.out.size)).trans hb7,(tQ AB0.out hb6).trans hb7⟩
  ·obtain rfl:k=y.length:=by omega
   have hA3:aj=a3:=by have:=AA.out;rw[List.drop_length] at this;simpa using this
   subst hA3
   have x5:=AK.out.cell 5
   simp only[gs3] at x5
   go_wp2_with (first
    |(go_at_call 109;(refine(HVf.out _ (by exact AB0.out)).mono ?_);rintro e w6 ⟨rfl,hb6⟩;have HI6:=hiD (AI.out.below hb6);have HB6:=hiD (AB.out.trans (hb6.mono AB0.out.size)))
    |(go_at_call 108;(refine(HS4.out _ (by exact HI6.out)).mono ?_);rintro e w7 ⟨rfl,hI7,hb7,ho7⟩;have HI7:=hiD hI7)
    |(go_at_call 107;(with_reducible refine(H41.out _ HI7.out).mono ?_);rintro e w8 ⟨rfl,hI8,hb8,_⟩))
   go_ret
   exact⟨(HB6.out.trans hb7).trans hb8,hI8.cast HF.out.symm,_,rfl,HT.out⟩
open Go.RowKit
theorem zdo_:∀ x∈tab,x.2.1=2→∃ fold,x=(zcp_ fold,2,[va_,x9_],.text fold):=by
 intro x hx h2
 have:x=(zcp_ false,2,[va_,x9_],.text false)∨x=(zcp_ true,2,[va_,x9_],.text true):=by
  have key:∀ x∈tab,x.2.1=2→(x=(zcp_ false,2,[va_,x9_],.text false)∨x=(zcp_ true,2,[va_,x9_],.text true)):=by decide+kernel
  exact key x hx h2
 rcases this with h|h
 ·exact⟨false,h⟩
 ·exact⟨true,h⟩
def z6f_ (r v i:LU) (xs:LL) (f:LU):Bool × Int:=match z7j_ (z2_ r) 2 with
 |none=>(false,41)
 |some x=>z8l_ x v i xs f
theorem zlk_ (r v i f:LU) (xs:LL) (any:Value) (w:World) (hw:Env w) (hr:r.length≤1000000) (hx:TextsA w any xs) (hN:xs.length≤8796093021952) (hlen:∀ x∈[i]++xs++[f],x.length≤140737488351232):
  Calls Tryz.prog 95 #[.string ⟨r.toArray⟩,.string ⟨v.toArray⟩,.string ⟨i.toArray⟩,any,.string ⟨f.toArray⟩] w fun e w'=>e= .returned (z7v_ (z6f_ r v i xs f))∧Bel w w':=by
 unfold z6f_
 cases h:z7j_ (z2_ r) 2 with
 |none=>exact zgw_ r v i f any w (by omega) h
 |some x=>
  obtain⟨fold,rfl⟩:=zdo_ x (z7c_ h) (by
   have:=(Option.filter_eq_some_iff.1 h).2
   simpa using this)
  exact zee_ _ r v i f xs any w hw (by omega) h hx hN (fun x hx=>nT (hlen x hx) (by decide)) (zk5_ _ fold rfl v) (zh6_ i f xs (fun x hx=>nT (hlen x hx) (by decide)))
def z0r_ (r i:LU) (xs:LL) (f v:LU):Bool:=(z6f_ r v i xs f).2==0 && (z6f_ r v i xs f).1
theorem zh9_ (r i f x:LU) (xs:LL) (any:Value) (db pb:Nat) (w:World) (hw:Env w) (hr:w.cell? ⟨db,7,none⟩=some (.string ⟨r.toArray⟩)) (h4:w.cell? ⟨pb,4,none⟩=some (.string ⟨i.toArray⟩)) (h6:w.cell? ⟨pb,6,none⟩=some any) (h5:w.cell? ⟨pb,5,none⟩=some (.string ⟨f.toArray⟩)) (hl:r.length≤1000000) (hx:TextsA w any xs) (hN:xs.length≤8796093021952) (hlen:∀ x∈[i]++xs++[f],x.length≤140737488351232):
  Calls Tryz.prog 94 #[.string ⟨x.toArray⟩,.pointer (some ⟨db,0,none⟩),.pointer (some ⟨pb,0,none⟩)] w fun e w'=>e= .returned (.bool (z0r_ r i xs f x))∧Bel w w':=by
 have hH:=zlk_ r x i f xs any w hw hl hx hN hlen
 unfold z0r_
 unfold z7v_ at hH
 have HH:=hiD hH
 obtain⟨A,c,rfl, -⟩:=hx.at
 clear hH hw hx hlen hN
 generalize z6f_ r x i xs f=z at *
 generalize xs.length=nx at *
 obtain⟨b,er⟩:=z
 simp only at HH ⊢
 by_cases he:er=0
 ·subst he
  go_enter Tryz.func94,Tryz.ntmps94
  go_wp2_with (go_at_call 95;(with_reducible refine HH.out.mono ?_);rintro e w1 ⟨rfl,hb1⟩)
  go_ret
  exact⟨j7_ (by simp),hb1⟩
 ·have heb:(er==0)=false:=beq_eq_false_iff_ne.2 he
  go_enter Tryz.func94,Tryz.ntmps94
  go_wp2_with (go_at_call 95;(with_reducible refine HH.out.mono ?_);rintro e w1 ⟨rfl,hb1⟩)
  go_ret
  exact⟨j7_ (by simp [he]),hb1⟩
def z4k_ (L:List DefS) (en:Ent.EntryE) (p:Fil.FilE):Int:=if (j1_ (z2_ (zt_ L p.typ).subs)).isSome∧(z5g_ false p.ini p.any p.fin).1=0 then xv_ ((Ent.findE (zo_ L) en p.typ).any (z0r_ (zt_ L p.typ).subs p.ini p.any p.fin)) else 2
theorem zk8_ (L:List DefS) (en:Ent.EntryE) (p:Fil.FilE):Fil.Three (z4k_ L en p):=by
 unfold z4k_
 split
 ·exact k1_ _
 ·exact .inr (.inr rfl)
theorem zjg_ (s:Nat) (ps:List Nat) (L:List DefS) (hL:Sound L) (en:Ent.EntryE) (va:Value) (p:Fil.FilE) (vp:Value) (a:AttrS) (nv:Value) (w:World) (hw:Env w) (hS:SchAt w s ps L) (hv:AttrsA w va en.attrs) (hl:en.attrs.length≤1000) (hvn:yj_ en.attrs≤1000000) (hlt:∀ a∈en.attrs,a.typ.length≤1000000) (ht:p.typ.length≤1000000) (hal:a.subs.length≤1000000) (hva:∃ A n c,va= .slice A n c) (hp:TextsA w vp p.any) (hfw:zki_ p) (hnv:∃ A n c,nv= .slice A n c) (R:Int)
  (hR:R=if (j1_ (z2_ a.subs)).isSome∧(z5g_ false p.ini p.any p.fin).1=0 then xv_ ((Ent.findE (zo_ L) en p.typ).any (z0r_ a.subs p.ini p.any p.fin)) else 2):
  Calls Tryz.prog 46 #[wkV s en.dn va,x4_ p vp,zu_ a nv] w fun e w'=>e= .returned (.int .i64 R)∧Bel w w':=by
 obtain⟨W,hW,hB,hsz,k1,k2,k3⟩:=z4j_ w s en.dn va p vp a nv
 have hbd:p.any.length≤8796093021952∧∀ x∈[p.ini]++p.any++[p.fin],x.length≤140737488351232:=⟨hfw.2.2.1,hfw.2.2.2⟩
 have hRu:=zoj_ a.subs W (by omega)
 have hPi:=fun (w3:World) (hb3:Bel W w3)=>za7_ false p.ini p.fin p.any vp w3 (hw.keep (tQ hB hb3)) (show TxA w3 vp p.any from hp.below (tQ hB hb3)) (by omega) (fun x hx=>nT (hbd.2 x hx) (by decide))
 have hE:=fun (w3:World) (hb3:Bel W w3)=>z0k_ s ps L hL en va p vp 94 #[.pointer (some ⟨w.heap.size+2,0,none⟩),.pointer (some ⟨w.heap.size+1,0,none⟩)] (z0r_ a.subs p.ini p.any p.fin) w3 (hS.below (tQ hB hb3)) (hv.below (tQ hB hb3)) hl hvn hlt ht (fun V hV=>⟨fun x _ V2 hV2=>by
  have q3:=((k3.below hb3).below hV).below hV2
  have q2:=((k2.below hb3).below hV).below hV2
  exact zh9_ a.subs p.ini p.fin x p.any vp (w.heap.size+2) (w.heap.size+1) V2 (((hw.keep (tQ hB hb3)).keep hV).keep hV2) (q3.cell 7) (q2.cell 4) (q2.cell 6) (q2.cell 5) hal (((hp.below (tQ hB hb3)).below hV).below hV2) hbd.1 hbd.2,fun args V2=>by kernel_rfl⟩)
 unfold z0z_ at hPi
 obtain⟨A1,n1,c1,rfl⟩:=hva
 obtain⟨A2,c2,rfl, -⟩:=hp.at
 obtain⟨A3,n3,c3,rfl⟩:=hnv
 obtain⟨x0,x1,x2⟩:=za_ k1
 obtain⟨y0,y1,y2,y3,y4,y5,y6⟩:=qb_ k2
 have z7:_=some (Value.string ⟨a.subs.toArray⟩):=k3.cell 7
 generalize (Ent.findE (zo_ L) en p.typ).any (z0r_ a.subs p.ini p.any p.fin)=r at *
 generalize z5g_ false p.ini p.any p.fin=pc at *
 obtain⟨pe,pl⟩:=pc
 simp only at hPi hR
 have HB:=hiD hB
 have HE:=hiD hE
 have HPi:=hiD hPi
 clear hE hPi hS hv hlt k1 k2 k3 hw hB hL hp hbd hfw
 simp only[wkV,z4_,x4_,z5_,zu_,z0_] at hW HE ⊢
 generalize a.subs=r0 at *
 unfold zld_ at hRu
 subst hW
 cases hrt:j1_ (z2_ r0) with
 |none=>
  rw[hrt] at hRu hR
  have hR2:R=2:=by rw[hR];simp
  subst hR2
  have HRu:=hiD hRu
  clear hRu hR hrt
  go_enter Tryz.func46,Tryz.ntmps46
  go_wp2_with (first
   |(go_at_call 92;(refine HRu.out.mono ?_);rintro e w3 ⟨rfl,hb3⟩;have a0:=cQ hb3 x0;have a1:=cQ hb3 x1;have a2:=cQ hb3 x2;have b0:=cQ hb3 y0;have b1:=cQ hb3 y1;have b2:=cQ hb3 y2;have b3:=cQ hb3 y3;have b4:=cQ hb3 y4;have b5:=cQ hb3 y5;have b6:=cQ hb3 y6;have HB3:=hiD (tQ HB.out hb3);have HP3:=hiD (HPi.out w3 hb3))
   |(go_at_call 93;(refine HP3.out.mono ?_);rintro e w4 ⟨hb4,v4,rfl,hT4⟩;obtain⟨A4,n4,c4,rfl⟩:=hT4.isSlice;have g0:=cQ hb4 a0;have g1:=cQ hb4 a1;have g2:=cQ hb4 a2;have h0:=cQ hb4 b0;have h1:=cQ hb4 b1;have h2:=cQ hb4 b2;have h3:=cQ hb4 b3;have h4:=cQ hb4 b4;have h5:=cQ hb4 b5;have h6:=cQ hb4 b6;have HB4:=hiD (tQ HB3.out hb4);have HE4:=hiD (HE.out w4 (tQ hb3 hb4))))
  go_ret
  exact⟨rfl,HB4.out⟩
 |some x=>
  rw[hrt] at hRu hR
  obtain⟨xa,xb,xc⟩:=x
  simp only at hRu
  have HRu:=hiD hRu
  clear hRu hrt
  by_cases hpe:pe=0
  ·subst hpe
   have hR2:R=xv_ r:=by rw[hR];simp
   subst hR2
   clear hR
   go_enter Tryz.func46,Tryz.ntmps46
   go_wp2_with (first
    |(go_at_call 92;(refine HRu.out.mono ?_);rintro e w3 ⟨rfl,hb3⟩;have a0:=cQ hb3 x0;have a1:=cQ hb3 x1;have a2:=cQ hb3 x2;have b0:=cQ hb3 y0;have b1:=cQ hb3 y1;have b2:=cQ hb3 y2;have b3:=cQ hb3 y3;have b4:=cQ hb3 y4;have b5:=cQ hb3 y5;have b6:=cQ hb3 y6;have HB3:=hiD (tQ HB.out hb3);have HP3:=hiD (HPi.out w3 hb3))
    |(go_at_call 93;(refine HP3.out.mono ?_);rintro e w4 ⟨hb4,v4,rfl,hT4⟩;obtain⟨A4,n4,c4,rfl⟩:=hT4.isSlice;have g0:=cQ hb4 a0;have g1:=cQ hb4 a1;have g2:=cQ hb4 a2;have h0:=cQ hb4 b0;have h1:=cQ hb4 b1;have h2:=cQ hb4 b2;have h3:=cQ hb4 b3;have h4:=cQ hb4 b4;have h5:=cQ hb4 b5;have h6:=cQ hb4 b6;have HB4:=hiD (tQ HB3.out hb4);have HE4:=hiD (HE.out w4 (tQ hb3 hb4)))
    |(go_at_call 87;(refine HE4.out.mono ?_);rintro e w5 ⟨rfl,hb5⟩))
   go_ret
   exact⟨rfl,tQ HB4.out hb5⟩
  ·have hne:(pe !=0)=true:=by rw[bne_iff_ne];exact hpe
   have hR2:R=2:=by rw[hR];simp [hpe]
   subst hR2
   clear hR
   go_enter Tryz.func46,Tryz.ntmps46
   go_wp2_with (first
    |(go_at_call 92;(refine HRu.out.mono ?_);rintro e w3 ⟨rfl,hb3⟩;have a0:=cQ hb3 x0;have a1:=cQ hb3 x1;have a2:=cQ hb3 x2;have b0:=cQ hb3 y0;have b1:=cQ hb3 y1;have b2:=cQ hb3 y2;have b3:=cQ hb3 y3;have b4:=cQ hb3 y4;have b5:=cQ hb3 y5;have b6:=cQ hb3 y6;have HB3:=hiD (tQ HB.out hb3);have HP3:=hiD (HPi.out w3 hb3))
    |(go_at_call 93;(refine HP3.out.mono ?_);rintro e w4 ⟨hb4,v4,rfl,hT4⟩;obtain⟨A4,n4,c4,rfl⟩:=hT4.isSlice;have g0:=cQ hb4 a0;have g1:=cQ hb4 a1;have g2:=cQ hb4 a2;have h0:=cQ hb4 b0;have h1:=cQ hb4 b1;have h2:=cQ hb4 b2;have h3:=cQ hb4 b3;have h4:=cQ hb4 b4;have h5:=cQ hb4 b5;have h6:=cQ hb4 b6;have HB4:=hiD (tQ HB3.out hb4);have HE4:=hiD (HE.out w4 (tQ hb3 hb4))))
   go_ret
   exact⟨rfl,HB4.out⟩
theorem znp_ {w:World} {s:Nat} {ps:List Nat} {L:List DefS} (hL:Sound L) {en:Ent.EntryE} {va:Value} (hw:Env w) (hS:SchAt w s ps L) (hv:AttrsA w va en.attrs) (hl:en.attrs.length≤1000) (hvn:yj_ en.attrs≤1000000) (hlt:∀ a∈en.attrs,a.typ.length≤1000000):
  LeafOK w s L en.dn va (vp_ L en (z4k_ L en)):=
 zr4_ hL hw hS hv hl hvn hlt _ (zk8_ L en) fun p W vp A3 n3 c3 _ hfw hc hW hT=>zjg_ s ps L hL en va p vp (zt_ L p.typ) (.slice A3 n3 c3) W (hw.keep hW) (hS.below hW) (hv.below hW) hl hvn hlt (z07_ hL.lim hc) (zgg_ hL.rul _) (by obtain⟨A,c,e,_⟩:=hv.isSlice;exact⟨A,_,c,e⟩) hT hfw ⟨_,_,_,rfl⟩ _ rfl
open Go.RowKit
structure RowS (w:World) (g:Nat) (l:LL):Prop where
 bk:∃ cs,Bk w g 9 cs
 at_:∀ j x,l[j]?=some x→w.cell? ⟨g,j,none⟩=some (.string ⟨x.toArray⟩)∧w.frozen? ⟨g,j,none⟩=false
theorem RowS.lt {w:World} {g:Nat} {l:LL} (h:RowS w g l):g<w.heap.size:=by
 obtain⟨cs,hb⟩:=h.bk
 exact hb.lt
theorem Own.row {B:Nat} {w:World} {v:Value} {xs:LL} (h:Own B w v xs):(v= .slice none 0 0∧xs=[])∨∃ g c,v= .slice (some ⟨g,0,none⟩) xs.length c∧xs.length≤c∧B≤g∧v.ownBlock=some g∧RowS w g xs:=by
 obtain⟨⟨h1,h2⟩,_⟩:=id h
 rcases h2 with ⟨rfl,hn⟩|⟨g,cap,cur,rfl,r2,r3,r4,r5,r6,r7⟩
 ·exact .inl ⟨rfl,List.eq_nil_of_length_eq_zero hn⟩
 ·refine .inr ⟨g,cap,rfl,r4,r2,rfl,⟨cur,r3⟩,fun j x hj=>?_⟩
  have hjl:j<xs.length:=(List.getElem?_eq_some_iff.1 hj).1
  have hc:(cur.toList.take (xs.length * 1))[j]?=some (jp_ x):=by rw[r7];simp [hj]
  rw[List.getElem?_take] at hc
  constructor
  ·simp only[World.cell?,r3]
   simpa [hjl,jp_] using hc
  ·have hB:Bk w g 9 cur:=r3
   exact hB.frozen j
theorem RowS.grown {w w':World} {g:Nat} {l:LL} (h:RowS w g l) {r:Option Nat} (hg:w.grownBy w' r) (hr:r≠some g):RowS w' g l:=by
 have hb:=hg.block g h.lt (fun e=>hr e.symm)
 obtain⟨cs,hk⟩:=h.bk
 refine⟨⟨cs,hb.trans hk⟩,fun j x hj=>?_⟩
 have:=h.at_ j x hj
 simp only[World.cell?,World.frozen?,hb] at this ⊢
 exact this
theorem RowS.set {w:World} {g:Nat} {l:LL} (h:RowS w g l) {j:Nat} (hj:j<l.length) (x:LU):RowS (w.setCell ⟨g,j,none⟩ (.string ⟨x.toArray⟩)) g (l.set j x):=by
 have hc0:=(h.at_ j _ (List.getElem?_eq_getElem hj)).1
 obtain⟨cs,hk⟩:=h.bk
 refine⟨⟨_,hk.set j _⟩,fun i y hi=>?_⟩
 rw[World.frozen?_setCell]
 rw[List.getElem?_set] at hi
 by_cases hij:j=i
 ·subst hij
  rw[if_pos rfl,if_pos hj] at hi
  cases hi
  exact⟨ky_ _ _ _ _ _ hc0,(h.at_ j _ (List.getElem?_eq_getElem hj)).2⟩
 ·rw[if_neg hij] at hi
  have hx:=h.at_ i y hi
  exact⟨(q0_ _ _ _ _ _ hij).trans hx.1,hx.2⟩
structure AskG (w:World) (g:Option Nat) (f:FuncId) (cap:Array Value) (xs:LL) (P:LU→Bool):Prop where
 call:∀ x∈xs,∀ W,w.grownBy W g→Calls Tryz.prog f (#[.string ⟨x.toArray⟩]++cap) W fun e W'=>e= .returned (.bool (P x))∧W=W'
 enter:∀ (args:Array Value) (W:World),(callFunc f args).run Tryz.prog W= .ok (.enter f args) W
open Go.RowKit
theorem AskG.mono {w w1:World} {g:Option Nat} {f:FuncId} {cap:Array Value} {xs:LL} {P:LU→Bool} (h:AskG w g f cap xs P) (hg:w.grownBy w1 g):AskG w1 g f cap xs P:=⟨fun x hx W hW=>h.call x hx W (gT hg hW),h.enter⟩
def TextsT (w:World) (v:Value) (xs:LL):Prop:=Texts w v xs∧∀ k,v.ownBlock=some k→∃ cs,Bk w k 9 cs
theorem TextsT.far {w w':World} {g:Nat} {v:Value} {xs:LL} {t:TypeId} {cs:Array Value} (h:TextsT w v xs) (hg:Bk w g t cs) (ht:t≠9) (hw:w.grownBy w' (some g)):TextsT w' v xs:=by
 obtain⟨h,hty⟩:=h
 rcases h with ⟨rfl,rfl⟩|⟨b,c,rfl,hc,hlt,hx⟩
 ·exact⟨.inl ⟨rfl,rfl⟩,fun k hk=>by simp [Value.ownBlock] at hk⟩
 ·obtain⟨cs',hb⟩:=hty b rfl
  have hne:g≠b:=z4w_ hg hb ht
  have hkb:=hw.block b hlt (by intro e;exact hne (Option.some.inj e).symm)
  refine⟨.inr ⟨b,c,rfl,hc,Nat.lt_of_lt_of_le hlt hw.size,fun j hj=>?_⟩,fun k hk=>?_⟩
  ·rw[World.cell?_of_block (w:=w) (w':=w') (a:=⟨b,j,none⟩) hkb]
   exact hx j hj
  ·have:b=k:=by simpa [Value.ownBlock] using hk
   subst this
   exact⟨cs',hkb.trans hb⟩
open Go.RowKit
open Go.RowKit
open Go.RowKit
section
variable {ops:Array Oper} {o:Oper} {a:Act} {K:Act→World→Prop} {Q:Exit→Act→World→Prop} {E:Prop}
end
theorem Own.apart {B g:Nat} {w:World} {v:Value} {xs:LL} {t:TypeId} {cs:Array Value} (h:Own B w v xs) (hg:Bk w g t cs) (ht:t≠9):∀ k,v.ownBlock=some k→(some g:Option Nat)≠some k:=by
 intro k hk e
 cases e
 obtain⟨cs',h'⟩:=h.ty hk
 exact z4w_ hg h' ht rfl
end Go.Proofs.YtbekpphodbekiaaGreatDoor
