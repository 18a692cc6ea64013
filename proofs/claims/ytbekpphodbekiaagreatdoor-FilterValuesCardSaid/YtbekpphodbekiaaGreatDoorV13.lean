import Derived.Test.YtbekpphodbekiaaGreatDoorV12
set_option linter.all false
set_option maxHeartbeats 8000000
set_option maxRecDepth 100000
namespace Go.Proofs.YtbekpphodbekiaaGreatDoor
open Go.RowKit
theorem zmp_ (s:Nat) (ps:List Nat) (L:List DefS) (hL:Sound L) (dn:LU) (va:Value) (p:Fil.FilE) (hop:p.op=3) (t:List Fil.FilE) (v:Value) (w:World) (hf:FilsA w v (p::t)) (hS:SchAt w s ps L) (hva:∃ A n c,va= .slice A n c) (ht:p.typ.length≤140737488351232) (hc:qq_ L p.typ=0) (r:Int)
  (hP:∀ (W:World) (vp:Value) (A3:Option Addr) (n3 c3:Nat),Bel w W→TextsA w vp p.any→Calls Tryz.prog 43 #[wkV s dn va,x4_ p vp,zu_ (zt_ L p.typ) (.slice A3 n3 c3)] W fun e w'=>e= .returned (.int .i64 r)∧Bel W w'):
  Calls Tryz.prog 20 #[wkV s dn va,v] w fun e w'=>e= .returned (.int .i64 r)∧Bel w w':=by
 have hAt:=fun (W:World) (h:Bel w W)=>x7_ s ps L hL p.typ W (hS.below h) (by omega)
 rw[hc] at hAt
 generalize zt_ L p.typ=ad at *
 obtain⟨b,o,c,vy,vt,rfl,hcc,⟨c0,c1,c2,c3,c4,c5,c6⟩,hta,hsl,ht2⟩:=hf.tail
 obtain⟨A,na,cc,rfl⟩:=hva
 have hmm:=@run_makeMap Tryz.prog
 have hmf:=z4b_
 have HAt:=hiD hAt
 have hi1:(0:Int)<(t.length:Int)+1:=by omega
 have HP:=hiD (fun (W:World) (A3:Option Addr) (n3 c3:Nat) (h:Bel w W)=>hP W vy A3 n3 c3 h hta)
 obtain⟨Av,cv,rfl,_⟩:=hta.at
 have hb1:=ze_ w (.cells (z4_ s dn (.slice A na cc)).toArray 64)
 have k1:=Bk.new w 64 (z4_ s dn (.slice A na cc)).toArray
 obtain⟨W1,hW1⟩:∃ W1,w.alloc (.cells (z4_ s dn (.slice A na cc)).toArray 64)=W1:=⟨_,rfl⟩
 have hs1:W1.heap.size=w.heap.size+1:=by rw[← hW1];simp
 rw[hW1] at hb1 k1
 have d0:=cQ hb1 c0
 have d1:=cQ hb1 c1
 have d2:=cQ hb1 c2
 have d3:=cQ hb1 c3
 have d4:=cQ hb1 c4
 have d5:=cQ hb1 c5
 have d6:=cQ hb1 c6
 have hb2:=ze_ W1 (.cells (z5_ (p,.slice Av p.any.length cv)).toArray 45)
 have k2:=Bk.new W1 45 (z5_ (p,.slice Av p.any.length cv)).toArray
 rw[hs1] at k2
 have k1':=k1.below hb2
 have HB2:=hiD (tQ hb1 hb2)
 obtain⟨e0,e1,e2⟩:=za_ k1'
 obtain⟨f0,f1,f2,f3,f4,f5,f6⟩:=qb_ k2
 rw[hop] at d0
 have K1:=hiD k1'
 have K2:=hiD k2
 subst hW1
 clear hP hAt hf hS ht hb1 hb2 k1 k1' k2 hs1 hta ht2 hsl c0 c1 c2 c3 c4 c5 c6 hc
 have hent:∀ (args:Array Value) (W:World),(callFunc 43 args).run Tryz.prog W= .ok (.enter 43 args) W:=fun args W=>by kernel_rfl
 simp only[wkV,z4_,x4_,zu_,z0_] at HP HAt
 simp only[z4_,z5_,hop] at d0 d1 d2 d3 d4 d5 d6 e0 e1 e2 f0 f1 f2 f3 f4 f5 f6 HB2 K1 K2 HP
 unfold wkV z4_
 go_enter Tryz.func20,Tryz.ntmps20
 go_wp2_with (first
  |(go_at_call 11;(refine(HAt.out _ (by exact HB2.out)).mono ?_);rintro e w3 ⟨hb3,A3,n3,c3,rfl⟩;have hb4:=ze_ w3 (.cells (z0_ ad (.slice A3 n3 c3)) 38);have k4:=Bk.new w3 38 (z0_ ad (.slice A3 n3 c3));have HB4:=hiD ((tQ HB2.out hb3).trans (hb4.mono (nT HB2.out.size hb3.size)));have q1:=(K1.out.below hb3).below hb4;have q2:=(K2.out.below hb3).below hb4;have hz3:w.heap.size+1<w3.heap.size:=Nat.lt_of_lt_of_le (by simp) hb3.size;obtain⟨W0,W1,W2,W3,W4,W5,W6,hW0,u1,u2,u3,u4,u5,u6,g1,g2,g3,g4,g5,g6,l3,l8,l7,l5,l6,l4⟩:=xr_ (fnW 43 s dn (.slice A na cc)) (fnW 43 s dn (.slice A na cc)) (fnW 44 s dn (.slice A na cc)) (fnW 45 s dn (.slice A na cc)) (fnW 45 s dn (.slice A na cc)) (fnW 46 s dn (.slice A na cc)) (w3.alloc (.cells (z0_ ad (.slice A3 n3 c3)) 38));rw[World.size_alloc] at u1 g1 u2 g2 u3 g3 u4 g4 u5 g5 u6 g6 l3;clear l8 l7 l5 l6 l4;have hb5:=ze_ (w3.alloc (.cells (z0_ ad (.slice A3 n3 c3)) 38)) (.map #[] 0);rw[← hW0] at hb5;have q1_0:=q1.below hb5;have q2_0:=q2.below hb5;have q4_0:=k4.below hb5;have q1_1:=q1_0.grown g1 (by simp;omega);have q2_1:=q2_0.grown g1 (by simp;omega);have q4_1:=q4_0.grown g1 (by simp);have q1_2:=q1_1.grown g2 (by simp;omega);have q2_2:=q2_1.grown g2 (by simp;omega);have q4_2:=q4_1.grown g2 (by simp);have q1_3:=q1_2.grown g3 (by simp;omega);have q2_3:=q2_2.grown g3 (by simp;omega);have q4_3:=q4_2.grown g3 (by simp);have q1_4:=q1_3.grown g4 (by simp;omega);have q2_4:=q2_3.grown g4 (by simp;omega);have q4_4:=q4_3.grown g4 (by simp);have q1_5:=q1_4.grown g5 (by simp;omega);have q2_5:=q2_4.grown g5 (by simp;omega);have q4_5:=q4_4.grown g5 (by simp);have q1_6:=q1_5.grown g6 (by simp;omega);have q2_6:=q2_5.grown g6 (by simp;omega);have q4_6:=q4_5.grown g6 (by simp);have HB6:Hid (Bel w W6):=hiD (jx_ (tQ HB4.out hb5) (by omega) g1 g2 g3 g4 g5 g6);obtain⟨a0_0,a0_1,a0_2⟩:=za_ q1_0;obtain⟨a1_0,a1_1,a1_2⟩:=za_ q1_1;obtain⟨a2_0,a2_1,a2_2⟩:=za_ q1_2;obtain⟨a3_0,a3_1,a3_2⟩:=za_ q1_3;obtain⟨a4_0,a4_1,a4_2⟩:=za_ q1_4;obtain⟨a5_0,a5_1,a5_2⟩:=za_ q1_5;obtain⟨z0,z1,z2,z3,z4,z5,z6⟩:=qb_ q2_6;obtain⟨y0,y1,y2,y3,y4,y5,y6,y7,y8,y9,y10⟩:=k3_ q4_6;subst hW0;clear q1_1 q2_1 q4_1 g1 q1_2 q2_2 q4_2 g2 q1_3 q2_3 q4_3 g3 q1_4 q2_4 q4_4 g4 q1_5 q2_5 q4_5 g5 q1_6 q2_6 q4_6 g6 q1_0 q2_0 q4_0 q1 q2 k4 hb3 hb4 hb5;simp only[fnW,wkV,z4_,z0_] at u1 u2 u3 u4 u5 u6 l3 a0_0 a0_1 a0_2)
  |(go_at_call 43;(refine(HP.out _ _ _ _ (by exact HB6.out)).mono ?_);rintro e w9 ⟨rfl,hb9⟩))
 go_ret
 exact⟨rfl,tQ HB6.out hb9⟩
theorem zll_ (s:Nat) (ps:List Nat) (L:List DefS) (hL:Sound L) (dn:LU) (va:Value) (p:Fil.FilE) (hop:p.op=4) (t:List Fil.FilE) (v:Value) (w:World) (hf:FilsA w v (p::t)) (hS:SchAt w s ps L) (hva:∃ A n c,va= .slice A n c) (ht:p.typ.length≤140737488351232) (hc:qq_ L p.typ=0) (r:Int)
  (hP:∀ (W:World) (vp:Value) (A3:Option Addr) (n3 c3:Nat),Bel w W→TextsA w vp p.any→Calls Tryz.prog 46 #[wkV s dn va,x4_ p vp,zu_ (zt_ L p.typ) (.slice A3 n3 c3)] W fun e w'=>e= .returned (.int .i64 r)∧Bel W w'):
  Calls Tryz.prog 20 #[wkV s dn va,v] w fun e w'=>e= .returned (.int .i64 r)∧Bel w w':=by
 have hAt:=fun (W:World) (h:Bel w W)=>x7_ s ps L hL p.typ W (hS.below h) (by omega)
 rw[hc] at hAt
 generalize zt_ L p.typ=ad at *
 obtain⟨b,o,c,vy,vt,rfl,hcc,⟨c0,c1,c2,c3,c4,c5,c6⟩,hta,hsl,ht2⟩:=hf.tail
 obtain⟨A,na,cc,rfl⟩:=hva
 have hmm:=@run_makeMap Tryz.prog
 have hmf:=z4b_
 have HAt:=hiD hAt
 have hi1:(0:Int)<(t.length:Int)+1:=by omega
 have HP:=hiD (fun (W:World) (A3:Option Addr) (n3 c3:Nat) (h:Bel w W)=>hP W vy A3 n3 c3 h hta)
 obtain⟨Av,cv,rfl,_⟩:=hta.at
 have hb1:=ze_ w (.cells (z4_ s dn (.slice A na cc)).toArray 64)
 have k1:=Bk.new w 64 (z4_ s dn (.slice A na cc)).toArray
 obtain⟨W1,hW1⟩:∃ W1,w.alloc (.cells (z4_ s dn (.slice A na cc)).toArray 64)=W1:=⟨_,rfl⟩
 have hs1:W1.heap.size=w.heap.size+1:=by rw[← hW1];simp
 rw[hW1] at hb1 k1
 have d0:=cQ hb1 c0
 have d1:=cQ hb1 c1
 have d2:=cQ hb1 c2
 have d3:=cQ hb1 c3
 have d4:=cQ hb1 c4
 have d5:=cQ hb1 c5
 have d6:=cQ hb1 c6
 have hb2:=ze_ W1 (.cells (z5_ (p,.slice Av p.any.length cv)).toArray 45)
 have k2:=Bk.new W1 45 (z5_ (p,.slice Av p.any.length cv)).toArray
 rw[hs1] at k2
 have k1':=k1.below hb2
 have HB2:=hiD (tQ hb1 hb2)
 obtain⟨e0,e1,e2⟩:=za_ k1'
 obtain⟨f0,f1,f2,f3,f4,f5,f6⟩:=qb_ k2
 rw[hop] at d0
 have K1:=hiD k1'
 have K2:=hiD k2
 subst hW1
 clear hP hAt hf hS ht hb1 hb2 k1 k1' k2 hs1 hta ht2 hsl c0 c1 c2 c3 c4 c5 c6 hc
 have hent:∀ (args:Array Value) (W:World),(callFunc 46 args).run Tryz.prog W= .ok (.enter 46 args) W:=fun args W=>by kernel_rfl
 simp only[wkV,z4_,x4_,zu_,z0_] at HP HAt
 simp only[z4_,z5_,hop] at d0 d1 d2 d3 d4 d5 d6 e0 e1 e2 f0 f1 f2 f3 f4 f5 f6 HB2 K1 K2 HP
 unfold wkV z4_
 go_enter Tryz.func20,Tryz.ntmps20
 go_wp2_with (first
  |(go_at_call 11;(refine(HAt.out _ (by exact HB2.out)).mono ?_);rintro e w3 ⟨hb3,A3,n3,c3,rfl⟩;have hb4:=ze_ w3 (.cells (z0_ ad (.slice A3 n3 c3)) 38);have k4:=Bk.new w3 38 (z0_ ad (.slice A3 n3 c3));have HB4:=hiD ((tQ HB2.out hb3).trans (hb4.mono (nT HB2.out.size hb3.size)));have q1:=(K1.out.below hb3).below hb4;have q2:=(K2.out.below hb3).below hb4;have hz3:w.heap.size+1<w3.heap.size:=Nat.lt_of_lt_of_le (by simp) hb3.size;obtain⟨W0,W1,W2,W3,W4,W5,W6,hW0,u1,u2,u3,u4,u5,u6,g1,g2,g3,g4,g5,g6,l3,l8,l7,l5,l6,l4⟩:=xr_ (fnW 43 s dn (.slice A na cc)) (fnW 43 s dn (.slice A na cc)) (fnW 44 s dn (.slice A na cc)) (fnW 45 s dn (.slice A na cc)) (fnW 45 s dn (.slice A na cc)) (fnW 46 s dn (.slice A na cc)) (w3.alloc (.cells (z0_ ad (.slice A3 n3 c3)) 38));rw[World.size_alloc] at u1 g1 u2 g2 u3 g3 u4 g4 u5 g5 u6 g6 l4;clear l3 l8 l7 l5 l6;have hb5:=ze_ (w3.alloc (.cells (z0_ ad (.slice A3 n3 c3)) 38)) (.map #[] 0);rw[← hW0] at hb5;have q1_0:=q1.below hb5;have q2_0:=q2.below hb5;have q4_0:=k4.below hb5;have q1_1:=q1_0.grown g1 (by simp;omega);have q2_1:=q2_0.grown g1 (by simp;omega);have q4_1:=q4_0.grown g1 (by simp);have q1_2:=q1_1.grown g2 (by simp;omega);have q2_2:=q2_1.grown g2 (by simp;omega);have q4_2:=q4_1.grown g2 (by simp);have q1_3:=q1_2.grown g3 (by simp;omega);have q2_3:=q2_2.grown g3 (by simp;omega);have q4_3:=q4_2.grown g3 (by simp);have q1_4:=q1_3.grown g4 (by simp;omega);have q2_4:=q2_3.grown g4 (by simp;omega);have q4_4:=q4_3.grown g4 (by simp);have q1_5:=q1_4.grown g5 (by simp;omega);have q2_5:=q2_4.grown g5 (by simp;omega);have q4_5:=q4_4.grown g5 (by simp);have q1_6:=q1_5.grown g6 (by simp;omega);have q2_6:=q2_5.grown g6 (by simp;omega);have q4_6:=q4_5.grown g6 (by simp);have HB6:Hid (Bel w W6):=hiD (jx_ (tQ HB4.out hb5) (by omega) g1 g2 g3 g4 g5 g6);obtain⟨a0_0,a0_1,a0_2⟩:=za_ q1_0;obtain⟨a1_0,a1_1,a1_2⟩:=za_ q1_1;obtain⟨a2_0,a2_1,a2_2⟩:=za_ q1_2;obtain⟨a3_0,a3_1,a3_2⟩:=za_ q1_3;obtain⟨a4_0,a4_1,a4_2⟩:=za_ q1_4;obtain⟨a5_0,a5_1,a5_2⟩:=za_ q1_5;obtain⟨z0,z1,z2,z3,z4,z5,z6⟩:=qb_ q2_6;obtain⟨y0,y1,y2,y3,y4,y5,y6,y7,y8,y9,y10⟩:=k3_ q4_6;subst hW0;clear q1_1 q2_1 q4_1 g1 q1_2 q2_2 q4_2 g2 q1_3 q2_3 q4_3 g3 q1_4 q2_4 q4_4 g4 q1_5 q2_5 q4_5 g5 q1_6 q2_6 q4_6 g6 q1_0 q2_0 q4_0 q1 q2 k4 hb3 hb4 hb5;simp only[fnW,wkV,z4_,z0_] at u1 u2 u3 u4 u5 u6 l4 a0_0 a0_1 a0_2)
  |(go_at_call 46;(refine(HP.out _ _ _ _ (by exact HB6.out)).mono ?_);rintro e w9 ⟨rfl,hb9⟩))
 go_ret
 exact⟨rfl,tQ HB6.out hb9⟩
theorem znv_ (s:Nat) (ps:List Nat) (L:List DefS) (hL:Sound L) (dn:LU) (va:Value) (p:Fil.FilE) (hop:p.op=5) (t:List Fil.FilE) (v:Value) (w:World) (hf:FilsA w v (p::t)) (hS:SchAt w s ps L) (hva:∃ A n c,va= .slice A n c) (ht:p.typ.length≤140737488351232) (hc:qq_ L p.typ=0) (r:Int)
  (hP:∀ (W:World) (vp:Value) (A3:Option Addr) (n3 c3:Nat),Bel w W→TextsA w vp p.any→Calls Tryz.prog 45 #[wkV s dn va,x4_ p vp,zu_ (zt_ L p.typ) (.slice A3 n3 c3)] W fun e w'=>e= .returned (.int .i64 r)∧Bel W w'):
  Calls Tryz.prog 20 #[wkV s dn va,v] w fun e w'=>e= .returned (.int .i64 r)∧Bel w w':=by
 have hAt:=fun (W:World) (h:Bel w W)=>x7_ s ps L hL p.typ W (hS.below h) (by omega)
 rw[hc] at hAt
 generalize zt_ L p.typ=ad at *
 obtain⟨b,o,c,vy,vt,rfl,hcc,⟨c0,c1,c2,c3,c4,c5,c6⟩,hta,hsl,ht2⟩:=hf.tail
 obtain⟨A,na,cc,rfl⟩:=hva
 have hmm:=@run_makeMap Tryz.prog
 have hmf:=z4b_
 have HAt:=hiD hAt
 have hi1:(0:Int)<(t.length:Int)+1:=by omega
 have HP:=hiD (fun (W:World) (A3:Option Addr) (n3 c3:Nat) (h:Bel w W)=>hP W vy A3 n3 c3 h hta)
 obtain⟨Av,cv,rfl,_⟩:=hta.at
 have hb1:=ze_ w (.cells (z4_ s dn (.slice A na cc)).toArray 64)
 have k1:=Bk.new w 64 (z4_ s dn (.slice A na cc)).toArray
 obtain⟨W1,hW1⟩:∃ W1,w.alloc (.cells (z4_ s dn (.slice A na cc)).toArray 64)=W1:=⟨_,rfl⟩
 have hs1:W1.heap.size=w.heap.size+1:=by rw[← hW1];simp
 rw[hW1] at hb1 k1
 have d0:=cQ hb1 c0
 have d1:=cQ hb1 c1
 have d2:=cQ hb1 c2
 have d3:=cQ hb1 c3
 have d4:=cQ hb1 c4
 have d5:=cQ hb1 c5
 have d6:=cQ hb1 c6
 have hb2:=ze_ W1 (.cells (z5_ (p,.slice Av p.any.length cv)).toArray 45)
 have k2:=Bk.new W1 45 (z5_ (p,.slice Av p.any.length cv)).toArray
 rw[hs1] at k2
 have k1':=k1.below hb2
 have HB2:=hiD (tQ hb1 hb2)
 obtain⟨e0,e1,e2⟩:=za_ k1'
 obtain⟨f0,f1,f2,f3,f4,f5,f6⟩:=qb_ k2
 rw[hop] at d0
 have K1:=hiD k1'
 have K2:=hiD k2
 subst hW1
 clear hP hAt hf hS ht hb1 hb2 k1 k1' k2 hs1 hta ht2 hsl c0 c1 c2 c3 c4 c5 c6 hc
 have hent:∀ (args:Array Value) (W:World),(callFunc 45 args).run Tryz.prog W= .ok (.enter 45 args) W:=fun args W=>by kernel_rfl
 simp only[wkV,z4_,x4_,zu_,z0_] at HP HAt
 simp only[z4_,z5_,hop] at d0 d1 d2 d3 d4 d5 d6 e0 e1 e2 f0 f1 f2 f3 f4 f5 f6 HB2 K1 K2 HP
 unfold wkV z4_
 go_enter Tryz.func20,Tryz.ntmps20
 go_wp2_with (first
  |(go_at_call 11;(refine(HAt.out _ (by exact HB2.out)).mono ?_);rintro e w3 ⟨hb3,A3,n3,c3,rfl⟩;have hb4:=ze_ w3 (.cells (z0_ ad (.slice A3 n3 c3)) 38);have k4:=Bk.new w3 38 (z0_ ad (.slice A3 n3 c3));have HB4:=hiD ((tQ HB2.out hb3).trans (hb4.mono (nT HB2.out.size hb3.size)));have q1:=(K1.out.below hb3).below hb4;have q2:=(K2.out.below hb3).below hb4;have hz3:w.heap.size+1<w3.heap.size:=Nat.lt_of_lt_of_le (by simp) hb3.size;obtain⟨W0,W1,W2,W3,W4,W5,W6,hW0,u1,u2,u3,u4,u5,u6,g1,g2,g3,g4,g5,g6,l3,l8,l7,l5,l6,l4⟩:=xr_ (fnW 43 s dn (.slice A na cc)) (fnW 43 s dn (.slice A na cc)) (fnW 44 s dn (.slice A na cc)) (fnW 45 s dn (.slice A na cc)) (fnW 45 s dn (.slice A na cc)) (fnW 46 s dn (.slice A na cc)) (w3.alloc (.cells (z0_ ad (.slice A3 n3 c3)) 38));rw[World.size_alloc] at u1 g1 u2 g2 u3 g3 u4 g4 u5 g5 u6 g6 l5;clear l3 l8 l7 l6 l4;have hb5:=ze_ (w3.alloc (.cells (z0_ ad (.slice A3 n3 c3)) 38)) (.map #[] 0);rw[← hW0] at hb5;have q1_0:=q1.below hb5;have q2_0:=q2.below hb5;have q4_0:=k4.below hb5;have q1_1:=q1_0.grown g1 (by simp;omega);have q2_1:=q2_0.grown g1 (by simp;omega);have q4_1:=q4_0.grown g1 (by simp);have q1_2:=q1_1.grown g2 (by simp;omega);have q2_2:=q2_1.grown g2 (by simp;omega);have q4_2:=q4_1.grown g2 (by simp);have q1_3:=q1_2.grown g3 (by simp;omega);have q2_3:=q2_2.grown g3 (by simp;omega);have q4_3:=q4_2.grown g3 (by simp);have q1_4:=q1_3.grown g4 (by simp;omega);have q2_4:=q2_3.grown g4 (by simp;omega);have q4_4:=q4_3.grown g4 (by simp);have q1_5:=q1_4.grown g5 (by simp;omega);have q2_5:=q2_4.grown g5 (by simp;omega);have q4_5:=q4_4.grown g5 (by simp);have q1_6:=q1_5.grown g6 (by simp;omega);have q2_6:=q2_5.grown g6 (by simp;omega);have q4_6:=q4_5.grown g6 (by simp);have HB6:Hid (Bel w W6):=hiD (jx_ (tQ HB4.out hb5) (by omega) g1 g2 g3 g4 g5 g6);obtain⟨a0_0,a0_1,a0_2⟩:=za_ q1_0;obtain⟨a1_0,a1_1,a1_2⟩:=za_ q1_1;obtain⟨a2_0,a2_1,a2_2⟩:=za_ q1_2;obtain⟨a3_0,a3_1,a3_2⟩:=za_ q1_3;obtain⟨a4_0,a4_1,a4_2⟩:=za_ q1_4;obtain⟨a5_0,a5_1,a5_2⟩:=za_ q1_5;obtain⟨z0,z1,z2,z3,z4,z5,z6⟩:=qb_ q2_6;obtain⟨y0,y1,y2,y3,y4,y5,y6,y7,y8,y9,y10⟩:=k3_ q4_6;subst hW0;clear q1_1 q2_1 q4_1 g1 q1_2 q2_2 q4_2 g2 q1_3 q2_3 q4_3 g3 q1_4 q2_4 q4_4 g4 q1_5 q2_5 q4_5 g5 q1_6 q2_6 q4_6 g6 q1_0 q2_0 q4_0 q1 q2 k4 hb3 hb4 hb5;simp only[fnW,wkV,z4_,z0_] at u1 u2 u3 u4 u5 u6 l5 a0_0 a0_1 a0_2)
  |(go_at_call 45;(refine(HP.out _ _ _ _ (by exact HB6.out)).mono ?_);rintro e w9 ⟨rfl,hb9⟩))
 go_ret
 exact⟨rfl,tQ HB6.out hb9⟩
theorem zmz_ (s:Nat) (ps:List Nat) (L:List DefS) (hL:Sound L) (dn:LU) (va:Value) (p:Fil.FilE) (hop:p.op=6) (t:List Fil.FilE) (v:Value) (w:World) (hf:FilsA w v (p::t)) (hS:SchAt w s ps L) (hva:∃ A n c,va= .slice A n c) (ht:p.typ.length≤140737488351232) (hc:qq_ L p.typ=0) (r:Int)
  (hP:∀ (W:World) (vp:Value) (A3:Option Addr) (n3 c3:Nat),Bel w W→TextsA w vp p.any→Calls Tryz.prog 45 #[wkV s dn va,x4_ p vp,zu_ (zt_ L p.typ) (.slice A3 n3 c3)] W fun e w'=>e= .returned (.int .i64 r)∧Bel W w'):
  Calls Tryz.prog 20 #[wkV s dn va,v] w fun e w'=>e= .returned (.int .i64 r)∧Bel w w':=by
 have hAt:=fun (W:World) (h:Bel w W)=>x7_ s ps L hL p.typ W (hS.below h) (by omega)
 rw[hc] at hAt
 generalize zt_ L p.typ=ad at *
 obtain⟨b,o,c,vy,vt,rfl,hcc,⟨c0,c1,c2,c3,c4,c5,c6⟩,hta,hsl,ht2⟩:=hf.tail
 obtain⟨A,na,cc,rfl⟩:=hva
 have hmm:=@run_makeMap Tryz.prog
 have hmf:=z4b_
 have HAt:=hiD hAt
 have hi1:(0:Int)<(t.length:Int)+1:=by omega
 have HP:=hiD (fun (W:World) (A3:Option Addr) (n3 c3:Nat) (h:Bel w W)=>hP W vy A3 n3 c3 h hta)
 obtain⟨Av,cv,rfl,_⟩:=hta.at
 have hb1:=ze_ w (.cells (z4_ s dn (.slice A na cc)).toArray 64)
 have k1:=Bk.new w 64 (z4_ s dn (.slice A na cc)).toArray
 obtain⟨W1,hW1⟩:∃ W1,w.alloc (.cells (z4_ s dn (.slice A na cc)).toArray 64)=W1:=⟨_,rfl⟩
 have hs1:W1.heap.size=w.heap.size+1:=by rw[← hW1];simp
 rw[hW1] at hb1 k1
 have d0:=cQ hb1 c0
 have d1:=cQ hb1 c1
 have d2:=cQ hb1 c2
 have d3:=cQ hb1 c3
 have d4:=cQ hb1 c4
 have d5:=cQ hb1 c5
 have d6:=cQ hb1 c6
 have hb2:=ze_ W1 (.cells (z5_ (p,.slice Av p.any.length cv)).toArray 45)
 have k2:=Bk.new W1 45 (z5_ (p,.slice Av p.any.length cv)).toArray
 rw[hs1] at k2
 have k1':=k1.below hb2
 have HB2:=hiD (tQ hb1 hb2)
 obtain⟨e0,e1,e2⟩:=za_ k1'
 obtain⟨f0,f1,f2,f3,f4,f5,f6⟩:=qb_ k2
 rw[hop] at d0
 have K1:=hiD k1'
 have K2:=hiD k2
 subst hW1
 clear hP hAt hf hS ht hb1 hb2 k1 k1' k2 hs1 hta ht2 hsl c0 c1 c2 c3 c4 c5 c6 hc
 have hent:∀ (args:Array Value) (W:World),(callFunc 45 args).run Tryz.prog W= .ok (.enter 45 args) W:=fun args W=>by kernel_rfl
 simp only[wkV,z4_,x4_,zu_,z0_] at HP HAt
 simp only[z4_,z5_,hop] at d0 d1 d2 d3 d4 d5 d6 e0 e1 e2 f0 f1 f2 f3 f4 f5 f6 HB2 K1 K2 HP
 unfold wkV z4_
 go_enter Tryz.func20,Tryz.ntmps20
 go_wp2_with (first
  |(go_at_call 11;(refine(HAt.out _ (by exact HB2.out)).mono ?_);rintro e w3 ⟨hb3,A3,n3,c3,rfl⟩;have hb4:=ze_ w3 (.cells (z0_ ad (.slice A3 n3 c3)) 38);have k4:=Bk.new w3 38 (z0_ ad (.slice A3 n3 c3));have HB4:=hiD ((tQ HB2.out hb3).trans (hb4.mono (nT HB2.out.size hb3.size)));have q1:=(K1.out.below hb3).below hb4;have q2:=(K2.out.below hb3).below hb4;have hz3:w.heap.size+1<w3.heap.size:=Nat.lt_of_lt_of_le (by simp) hb3.size;obtain⟨W0,W1,W2,W3,W4,W5,W6,hW0,u1,u2,u3,u4,u5,u6,g1,g2,g3,g4,g5,g6,l3,l8,l7,l5,l6,l4⟩:=xr_ (fnW 43 s dn (.slice A na cc)) (fnW 43 s dn (.slice A na cc)) (fnW 44 s dn (.slice A na cc)) (fnW 45 s dn (.slice A na cc)) (fnW 45 s dn (.slice A na cc)) (fnW 46 s dn (.slice A na cc)) (w3.alloc (.cells (z0_ ad (.slice A3 n3 c3)) 38));rw[World.size_alloc] at u1 g1 u2 g2 u3 g3 u4 g4 u5 g5 u6 g6 l6;clear l3 l8 l7 l5 l4;have hb5:=ze_ (w3.alloc (.cells (z0_ ad (.slice A3 n3 c3)) 38)) (.map #[] 0);rw[← hW0] at hb5;have q1_0:=q1.below hb5;have q2_0:=q2.below hb5;have q4_0:=k4.below hb5;have q1_1:=q1_0.grown g1 (by simp;omega);have q2_1:=q2_0.grown g1 (by simp;omega);have q4_1:=q4_0.grown g1 (by simp);have q1_2:=q1_1.grown g2 (by simp;omega);have q2_2:=q2_1.grown g2 (by simp;omega);have q4_2:=q4_1.grown g2 (by simp);have q1_3:=q1_2.grown g3 (by simp;omega);have q2_3:=q2_2.grown g3 (by simp;omega);have q4_3:=q4_2.grown g3 (by simp);have q1_4:=q1_3.grown g4 (by simp;omega);have q2_4:=q2_3.grown g4 (by simp;omega);have q4_4:=q4_3.grown g4 (by simp);have q1_5:=q1_4.grown g5 (by simp;omega);have q2_5:=q2_4.grown g5 (by simp;omega);have q4_5:=q4_4.grown g5 (by simp);have q1_6:=q1_5.grown g6 (by simp;omega);have q2_6:=q2_5.grown g6 (by simp;omega);have q4_6:=q4_5.grown g6 (by simp);have HB6:Hid (Bel w W6):=hiD (jx_ (tQ HB4.out hb5) (by omega) g1 g2 g3 g4 g5 g6);obtain⟨a0_0,a0_1,a0_2⟩:=za_ q1_0;obtain⟨a1_0,a1_1,a1_2⟩:=za_ q1_1;obtain⟨a2_0,a2_1,a2_2⟩:=za_ q1_2;obtain⟨a3_0,a3_1,a3_2⟩:=za_ q1_3;obtain⟨a4_0,a4_1,a4_2⟩:=za_ q1_4;obtain⟨a5_0,a5_1,a5_2⟩:=za_ q1_5;obtain⟨z0,z1,z2,z3,z4,z5,z6⟩:=qb_ q2_6;obtain⟨y0,y1,y2,y3,y4,y5,y6,y7,y8,y9,y10⟩:=k3_ q4_6;subst hW0;clear q1_1 q2_1 q4_1 g1 q1_2 q2_2 q4_2 g2 q1_3 q2_3 q4_3 g3 q1_4 q2_4 q4_4 g4 q1_5 q2_5 q4_5 g5 q1_6 q2_6 q4_6 g6 q1_0 q2_0 q4_0 q1 q2 k4 hb3 hb4 hb5;simp only[fnW,wkV,z4_,z0_] at u1 u2 u3 u4 u5 u6 l6 a0_0 a0_1 a0_2)
  |(go_at_call 45;(refine(HP.out _ _ _ _ (by exact HB6.out)).mono ?_);rintro e w9 ⟨rfl,hb9⟩))
 go_ret
 exact⟨rfl,tQ HB6.out hb9⟩
theorem znn_ (s:Nat) (ps:List Nat) (L:List DefS) (hL:Sound L) (dn:LU) (va:Value) (p:Fil.FilE) (hop:p.op=7) (t:List Fil.FilE) (v:Value) (w:World) (hf:FilsA w v (p::t)) (hS:SchAt w s ps L) (hva:∃ A n c,va= .slice A n c) (ht:p.typ.length≤140737488351232) (hc:qq_ L p.typ=0) (r:Int)
  (hP:∀ (W:World) (vp:Value) (A3:Option Addr) (n3 c3:Nat),Bel w W→TextsA w vp p.any→Calls Tryz.prog 44 #[wkV s dn va,x4_ p vp,zu_ (zt_ L p.typ) (.slice A3 n3 c3)] W fun e w'=>e= .returned (.int .i64 r)∧Bel W w'):
  Calls Tryz.prog 20 #[wkV s dn va,v] w fun e w'=>e= .returned (.int .i64 r)∧Bel w w':=by
 have hAt:=fun (W:World) (h:Bel w W)=>x7_ s ps L hL p.typ W (hS.below h) (by omega)
 rw[hc] at hAt
 generalize zt_ L p.typ=ad at *
 obtain⟨b,o,c,vy,vt,rfl,hcc,⟨c0,c1,c2,c3,c4,c5,c6⟩,hta,hsl,ht2⟩:=hf.tail
 obtain⟨A,na,cc,rfl⟩:=hva
 have hmm:=@run_makeMap Tryz.prog
 have hmf:=z4b_
 have HAt:=hiD hAt
 have hi1:(0:Int)<(t.length:Int)+1:=by omega
 have HP:=hiD (fun (W:World) (A3:Option Addr) (n3 c3:Nat) (h:Bel w W)=>hP W vy A3 n3 c3 h hta)
 obtain⟨Av,cv,rfl,_⟩:=hta.at
 have hb1:=ze_ w (.cells (z4_ s dn (.slice A na cc)).toArray 64)
 have k1:=Bk.new w 64 (z4_ s dn (.slice A na cc)).toArray
 obtain⟨W1,hW1⟩:∃ W1,w.alloc (.cells (z4_ s dn (.slice A na cc)).toArray 64)=W1:=⟨_,rfl⟩
 have hs1:W1.heap.size=w.heap.size+1:=by rw[← hW1];simp
 rw[hW1] at hb1 k1
 have d0:=cQ hb1 c0
 have d1:=cQ hb1 c1
 have d2:=cQ hb1 c2
 have d3:=cQ hb1 c3
 have d4:=cQ hb1 c4
 have d5:=cQ hb1 c5
 have d6:=cQ hb1 c6
 have hb2:=ze_ W1 (.cells (z5_ (p,.slice Av p.any.length cv)).toArray 45)
 have k2:=Bk.new W1 45 (z5_ (p,.slice Av p.any.length cv)).toArray
 rw[hs1] at k2
 have k1':=k1.below hb2
 have HB2:=hiD (tQ hb1 hb2)
 obtain⟨e0,e1,e2⟩:=za_ k1'
 obtain⟨f0,f1,f2,f3,f4,f5,f6⟩:=qb_ k2
 rw[hop] at d0
 have K1:=hiD k1'
 have K2:=hiD k2
 subst hW1
 clear hP hAt hf hS ht hb1 hb2 k1 k1' k2 hs1 hta ht2 hsl c0 c1 c2 c3 c4 c5 c6 hc
 have hent:∀ (args:Array Value) (W:World),(callFunc 44 args).run Tryz.prog W= .ok (.enter 44 args) W:=fun args W=>by kernel_rfl
 simp only[wkV,z4_,x4_,zu_,z0_] at HP HAt
 simp only[z4_,z5_,hop] at d0 d1 d2 d3 d4 d5 d6 e0 e1 e2 f0 f1 f2 f3 f4 f5 f6 HB2 K1 K2 HP
 unfold wkV z4_
 go_enter Tryz.func20,Tryz.ntmps20
 go_wp2_with (first
  |(go_at_call 11;(refine(HAt.out _ (by exact HB2.out)).mono ?_);rintro e w3 ⟨hb3,A3,n3,c3,rfl⟩;have hb4:=ze_ w3 (.cells (z0_ ad (.slice A3 n3 c3)) 38);have k4:=Bk.new w3 38 (z0_ ad (.slice A3 n3 c3));have HB4:=hiD ((tQ HB2.out hb3).trans (hb4.mono (nT HB2.out.size hb3.size)));have q1:=(K1.out.below hb3).below hb4;have q2:=(K2.out.below hb3).below hb4;have hz3:w.heap.size+1<w3.heap.size:=Nat.lt_of_lt_of_le (by simp) hb3.size;obtain⟨W0,W1,W2,W3,W4,W5,W6,hW0,u1,u2,u3,u4,u5,u6,g1,g2,g3,g4,g5,g6,l3,l8,l7,l5,l6,l4⟩:=xr_ (fnW 43 s dn (.slice A na cc)) (fnW 43 s dn (.slice A na cc)) (fnW 44 s dn (.slice A na cc)) (fnW 45 s dn (.slice A na cc)) (fnW 45 s dn (.slice A na cc)) (fnW 46 s dn (.slice A na cc)) (w3.alloc (.cells (z0_ ad (.slice A3 n3 c3)) 38));rw[World.size_alloc] at u1 g1 u2 g2 u3 g3 u4 g4 u5 g5 u6 g6 l7;clear l3 l8 l5 l6 l4;have hb5:=ze_ (w3.alloc (.cells (z0_ ad (.slice A3 n3 c3)) 38)) (.map #[] 0);rw[← hW0] at hb5;have q1_0:=q1.below hb5;have q2_0:=q2.below hb5;have q4_0:=k4.below hb5;have q1_1:=q1_0.grown g1 (by simp;omega);have q2_1:=q2_0.grown g1 (by simp;omega);have q4_1:=q4_0.grown g1 (by simp);have q1_2:=q1_1.grown g2 (by simp;omega);have q2_2:=q2_1.grown g2 (by simp;omega);have q4_2:=q4_1.grown g2 (by simp);have q1_3:=q1_2.grown g3 (by simp;omega);have q2_3:=q2_2.grown g3 (by simp;omega);have q4_3:=q4_2.grown g3 (by simp);have q1_4:=q1_3.grown g4 (by simp;omega);have q2_4:=q2_3.grown g4 (by simp;omega);have q4_4:=q4_3.grown g4 (by simp);have q1_5:=q1_4.grown g5 (by simp;omega);have q2_5:=q2_4.grown g5 (by simp;omega);have q4_5:=q4_4.grown g5 (by simp);have q1_6:=q1_5.grown g6 (by simp;omega);have q2_6:=q2_5.grown g6 (by simp;omega);have q4_6:=q4_5.grown g6 (by simp);have HB6:Hid (Bel w W6):=hiD (jx_ (tQ HB4.out hb5) (by omega) g1 g2 g3 g4 g5 g6);obtain⟨a0_0,a0_1,a0_2⟩:=za_ q1_0;obtain⟨a1_0,a1_1,a1_2⟩:=za_ q1_1;obtain⟨a2_0,a2_1,a2_2⟩:=za_ q1_2;obtain⟨a3_0,a3_1,a3_2⟩:=za_ q1_3;obtain⟨a4_0,a4_1,a4_2⟩:=za_ q1_4;obtain⟨a5_0,a5_1,a5_2⟩:=za_ q1_5;obtain⟨z0,z1,z2,z3,z4,z5,z6⟩:=qb_ q2_6;obtain⟨y0,y1,y2,y3,y4,y5,y6,y7,y8,y9,y10⟩:=k3_ q4_6;subst hW0;clear q1_1 q2_1 q4_1 g1 q1_2 q2_2 q4_2 g2 q1_3 q2_3 q4_3 g3 q1_4 q2_4 q4_4 g4 q1_5 q2_5 q4_5 g5 q1_6 q2_6 q4_6 g6 q1_0 q2_0 q4_0 q1 q2 k4 hb3 hb4 hb5;simp only[fnW,wkV,z4_,z0_] at u1 u2 u3 u4 u5 u6 l7 a0_0 a0_1 a0_2)
  |(go_at_call 44;(refine(HP.out _ _ _ _ (by exact HB6.out)).mono ?_);rintro e w9 ⟨rfl,hb9⟩))
 go_ret
 exact⟨rfl,tQ HB6.out hb9⟩
theorem zkl_ (s:Nat) (ps:List Nat) (L:List DefS) (hL:Sound L) (dn:LU) (va:Value) (p:Fil.FilE) (hop:p.op=8) (t:List Fil.FilE) (v:Value) (w:World) (hf:FilsA w v (p::t)) (hS:SchAt w s ps L) (hva:∃ A n c,va= .slice A n c) (ht:p.typ.length≤140737488351232) (hc:qq_ L p.typ=0) (r:Int)
  (hP:∀ (W:World) (vp:Value) (A3:Option Addr) (n3 c3:Nat),Bel w W→TextsA w vp p.any→Calls Tryz.prog 43 #[wkV s dn va,x4_ p vp,zu_ (zt_ L p.typ) (.slice A3 n3 c3)] W fun e w'=>e= .returned (.int .i64 r)∧Bel W w'):
  Calls Tryz.prog 20 #[wkV s dn va,v] w fun e w'=>e= .returned (.int .i64 r)∧Bel w w':=by
 have hAt:=fun (W:World) (h:Bel w W)=>x7_ s ps L hL p.typ W (hS.below h) (by omega)
 rw[hc] at hAt
 generalize zt_ L p.typ=ad at *
 obtain⟨b,o,c,vy,vt,rfl,hcc,⟨c0,c1,c2,c3,c4,c5,c6⟩,hta,hsl,ht2⟩:=hf.tail
 obtain⟨A,na,cc,rfl⟩:=hva
 have hmm:=@run_makeMap Tryz.prog
 have hmf:=z4b_
 have HAt:=hiD hAt
 have hi1:(0:Int)<(t.length:Int)+1:=by omega
 have HP:=hiD (fun (W:World) (A3:Option Addr) (n3 c3:Nat) (h:Bel w W)=>hP W vy A3 n3 c3 h hta)
 obtain⟨Av,cv,rfl,_⟩:=hta.at
 have hb1:=ze_ w (.cells (z4_ s dn (.slice A na cc)).toArray 64)
 have k1:=Bk.new w 64 (z4_ s dn (.slice A na cc)).toArray
 obtain⟨W1,hW1⟩:∃ W1,w.alloc (.cells (z4_ s dn (.slice A na cc)).toArray 64)=W1:=⟨_,rfl⟩
 have hs1:W1.heap.size=w.heap.size+1:=by rw[← hW1];simp
 rw[hW1] at hb1 k1
 have d0:=cQ hb1 c0
 have d1:=cQ hb1 c1
 have d2:=cQ hb1 c2
 have d3:=cQ hb1 c3
 have d4:=cQ hb1 c4
 have d5:=cQ hb1 c5
 have d6:=cQ hb1 c6
 have hb2:=ze_ W1 (.cells (z5_ (p,.slice Av p.any.length cv)).toArray 45)
 have k2:=Bk.new W1 45 (z5_ (p,.slice Av p.any.length cv)).toArray
 rw[hs1] at k2
 have k1':=k1.below hb2
 have HB2:=hiD (tQ hb1 hb2)
 obtain⟨e0,e1,e2⟩:=za_ k1'
 obtain⟨f0,f1,f2,f3,f4,f5,f6⟩:=qb_ k2
 rw[hop] at d0
 have K1:=hiD k1'
 have K2:=hiD k2
 subst hW1
 clear hP hAt hf hS ht hb1 hb2 k1 k1' k2 hs1 hta ht2 hsl c0 c1 c2 c3 c4 c5 c6 hc
 have hent:∀ (args:Array Value) (W:World),(callFunc 43 args).run Tryz.prog W= .ok (.enter 43 args) W:=fun args W=>by kernel_rfl
 simp only[wkV,z4_,x4_,zu_,z0_] at HP HAt
 simp only[z4_,z5_,hop] at d0 d1 d2 d3 d4 d5 d6 e0 e1 e2 f0 f1 f2 f3 f4 f5 f6 HB2 K1 K2 HP
 unfold wkV z4_
 go_enter Tryz.func20,Tryz.ntmps20
 go_wp2_with (first
  |(go_at_call 11;(refine(HAt.out _ (by exact HB2.out)).mono ?_);rintro e w3 ⟨hb3,A3,n3,c3,rfl⟩;have hb4:=ze_ w3 (.cells (z0_ ad (.slice A3 n3 c3)) 38);have k4:=Bk.new w3 38 (z0_ ad (.slice A3 n3 c3));have HB4:=hiD ((tQ HB2.out hb3).trans (hb4.mono (nT HB2.out.size hb3.size)));have q1:=(K1.out.below hb3).below hb4;have q2:=(K2.out.below hb3).below hb4;have hz3:w.heap.size+1<w3.heap.size:=Nat.lt_of_lt_of_le (by simp) hb3.size;obtain⟨W0,W1,W2,W3,W4,W5,W6,hW0,u1,u2,u3,u4,u5,u6,g1,g2,g3,g4,g5,g6,l3,l8,l7,l5,l6,l4⟩:=xr_ (fnW 43 s dn (.slice A na cc)) (fnW 43 s dn (.slice A na cc)) (fnW 44 s dn (.slice A na cc)) (fnW 45 s dn (.slice A na cc)) (fnW 45 s dn (.slice A na cc)) (fnW 46 s dn (.slice A na cc)) (w3.alloc (.cells (z0_ ad (.slice A3 n3 c3)) 38));rw[World.size_alloc] at u1 g1 u2 g2 u3 g3 u4 g4 u5 g5 u6 g6 l8;clear l3 l7 l5 l6 l4;have hb5:=ze_ (w3.alloc (.cells (z0_ ad (.slice A3 n3 c3)) 38)) (.map #[] 0);rw[← hW0] at hb5;have q1_0:=q1.below hb5;have q2_0:=q2.below hb5;have q4_0:=k4.below hb5;have q1_1:=q1_0.grown g1 (by simp;omega);have q2_1:=q2_0.grown g1 (by simp;omega);have q4_1:=q4_0.grown g1 (by simp);have q1_2:=q1_1.grown g2 (by simp;omega);have q2_2:=q2_1.grown g2 (by simp;omega);have q4_2:=q4_1.grown g2 (by simp);have q1_3:=q1_2.grown g3 (by simp;omega);have q2_3:=q2_2.grown g3 (by simp;omega);have q4_3:=q4_2.grown g3 (by simp);have q1_4:=q1_3.grown g4 (by simp;omega);have q2_4:=q2_3.grown g4 (by simp;omega);have q4_4:=q4_3.grown g4 (by simp);have q1_5:=q1_4.grown g5 (by simp;omega);have q2_5:=q2_4.grown g5 (by simp;omega);have q4_5:=q4_4.grown g5 (by simp);have q1_6:=q1_5.grown g6 (by simp;omega);have q2_6:=q2_5.grown g6 (by simp;omega);have q4_6:=q4_5.grown g6 (by simp);have HB6:Hid (Bel w W6):=hiD (jx_ (tQ HB4.out hb5) (by omega) g1 g2 g3 g4 g5 g6);obtain⟨a0_0,a0_1,a0_2⟩:=za_ q1_0;obtain⟨a1_0,a1_1,a1_2⟩:=za_ q1_1;obtain⟨a2_0,a2_1,a2_2⟩:=za_ q1_2;obtain⟨a3_0,a3_1,a3_2⟩:=za_ q1_3;obtain⟨a4_0,a4_1,a4_2⟩:=za_ q1_4;obtain⟨a5_0,a5_1,a5_2⟩:=za_ q1_5;obtain⟨z0,z1,z2,z3,z4,z5,z6⟩:=qb_ q2_6;obtain⟨y0,y1,y2,y3,y4,y5,y6,y7,y8,y9,y10⟩:=k3_ q4_6;subst hW0;clear q1_1 q2_1 q4_1 g1 q1_2 q2_2 q4_2 g2 q1_3 q2_3 q4_3 g3 q1_4 q2_4 q4_4 g4 q1_5 q2_5 q4_5 g5 q1_6 q2_6 q4_6 g6 q1_0 q2_0 q4_0 q1 q2 k4 hb3 hb4 hb5;simp only[fnW,wkV,z4_,z0_] at u1 u2 u3 u4 u5 u6 l8 a0_0 a0_1 a0_2)
  |(go_at_call 43;(refine(HP.out _ _ _ _ (by exact HB6.out)).mono ?_);rintro e w9 ⟨rfl,hb9⟩))
 go_ret
 exact⟨rfl,tQ HB6.out hb9⟩
theorem zl5_ (s:Nat) (ps:List Nat) (L:List DefS) (hL:Sound L) (dn:LU) (va:Value) (p:Fil.FilE) (hop:¬ (p.op=0∨p.op=1∨p.op=2)) (t:List Fil.FilE) (v:Value) (w:World) (hf:FilsA w v (p::t)) (hS:SchAt w s ps L) (hva:∃ A n c,va= .slice A n c) (ht:p.typ.length≤140737488351232) (hc:qq_ L p.typ≠0):
  Calls Tryz.prog 20 #[wkV s dn va,v] w fun e w'=>e= .returned (.int .i64 2)∧Bel w w':=by
 have hAt:=fun (W:World) (h:Bel w W)=>x7_ s ps L hL p.typ W (hS.below h) (by omega)
 generalize zt_ L p.typ=ad at *
 generalize qq_ L p.typ=ac at *
 obtain⟨b,o,c,vy,vt,rfl,hcc,⟨c0,c1,c2,c3,c4,c5,c6⟩,hta,hsl,ht2⟩:=hf.tail
 obtain⟨A,na,cc,rfl⟩:=hva
 have HAt:=hiD hAt
 have hi1:(0:Int)<(t.length:Int)+1:=by omega
 obtain⟨Av,cv,rfl,_⟩:=hta.at
 have hb1:=ze_ w (.cells (z4_ s dn (.slice A na cc)).toArray 64)
 have k1:=Bk.new w 64 (z4_ s dn (.slice A na cc)).toArray
 obtain⟨W1,hW1⟩:∃ W1,w.alloc (.cells (z4_ s dn (.slice A na cc)).toArray 64)=W1:=⟨_,rfl⟩
 have hs1:W1.heap.size=w.heap.size+1:=by rw[← hW1];simp
 rw[hW1] at hb1 k1
 have d0:=cQ hb1 c0
 have d1:=cQ hb1 c1
 have d2:=cQ hb1 c2
 have d3:=cQ hb1 c3
 have d4:=cQ hb1 c4
 have d5:=cQ hb1 c5
 have d6:=cQ hb1 c6
 have hb2:=ze_ W1 (.cells (z5_ (p,.slice Av p.any.length cv)).toArray 45)
 have k2:=Bk.new W1 45 (z5_ (p,.slice Av p.any.length cv)).toArray
 rw[hs1] at k2
 have k1':=k1.below hb2
 have HB2:=hiD (tQ hb1 hb2)
 obtain⟨e0,e1,e2⟩:=za_ k1'
 obtain⟨f0,f1,f2,f3,f4,f5,f6⟩:=qb_ k2
 have n0:(p.op==0)=false:=beq_eq_false_iff_ne.2 (by omega)
 have n1:(p.op==1)=false:=beq_eq_false_iff_ne.2 (by omega)
 have n2:(p.op==2)=false:=beq_eq_false_iff_ne.2 (by omega)
 have nc:(ac !=0)=true:=by rw[bne_iff_ne];exact hc
 subst hW1
 clear hAt hf hS ht hb1 hb2 k1 k1' k2 hs1 hta ht2 hsl c0 c1 c2 c3 c4 c5 c6 hc hop
 simp only[z4_,z5_] at d0 d1 d2 d3 d4 d5 d6 e0 e1 e2 f0 f1 f2 f3 f4 f5 f6 HB2
 simp only[zu_,z0_] at HAt
 unfold wkV z4_
 go_enter Tryz.func20,Tryz.ntmps20
 go_wp2_with (go_at_call 11;(refine(HAt.out _ (by exact HB2.out)).mono ?_);rintro e w3 ⟨hb3,A3,n3,c3,rfl⟩;have hb4:=ze_ w3 (.cells (z0_ ad (.slice A3 n3 c3)) 38);have HB4:=hiD ((tQ HB2.out hb3).trans (hb4.mono (nT HB2.out.size hb3.size))))
 go_ret
 exact⟨rfl,HB4.out⟩
end Go.Proofs.YtbekpphodbekiaaGreatDoor
