import Derived.Test.YtbekpphodbekiaaGreatDoorV0z
set_option linter.all false
set_option maxHeartbeats 8000000
set_option maxRecDepth 100000
namespace Go.Proofs.YtbekpphodbekiaaGreatDoor
open Go.RowKit
theorem z3b_ (l:LU) (w:World) (hw:Env w):
  Calls Tryz.prog 50 #[.string ⟨l.toArray⟩] w fun e w'=>e= .returned (.bool (zd_ l))∧Bel w w':=by
 by_cases h:l.length≤1099511627776
 ·exact j5_ l w hw h
 ·have hR:zd_ l=false:=by
   unfold zd_
   cases l with
   |nil=>rfl
   |cons c t=>
    simp only
    rw[show decide ((c::t).length≤64)=false from decide_eq_false (by omega)]
    rfl
  rw[hR]
  have h1:(l.length:Int)>64:=by omega
  have h2:(l==[])=false:=by rw[beq_eq_false_iff_ne];rintro rfl;simp at h
  clear hR
  go_enter Tryz.func50,Tryz.ntmps50
  go_wp2_with fail
  go_ret
  exact⟨rfl,bR _ _⟩
theorem zy_ (w:World) (o n:Int) (t u i f:LU) (va:Value) (X:Array Value):∃ W,W=(w.alloc (.cells #[.int .i64 o,.int .i64 n,.string ⟨t.toArray⟩,.string ⟨u.toArray⟩,.string ⟨i.toArray⟩,.string ⟨f.toArray⟩,va] 45)).alloc (.cells X 45)∧Bel w W∧
  Bk W w.heap.size 45 #[.int .i64 o,.int .i64 n,.string ⟨t.toArray⟩,.string ⟨u.toArray⟩,.string ⟨i.toArray⟩,.string ⟨f.toArray⟩,va]∧Bk W (w.heap.size+1) 45 X:=by
 have hb1:=ze_ w (.cells #[.int .i64 o,.int .i64 n,.string ⟨t.toArray⟩,.string ⟨u.toArray⟩,.string ⟨i.toArray⟩,.string ⟨f.toArray⟩,va] 45)
 have hk1:=Bk.new w 45 #[.int .i64 o,.int .i64 n,.string ⟨t.toArray⟩,.string ⟨u.toArray⟩,.string ⟨i.toArray⟩,.string ⟨f.toArray⟩,va]
 generalize hW1:w.alloc (.cells #[.int .i64 o,.int .i64 n,.string ⟨t.toArray⟩,.string ⟨u.toArray⟩,.string ⟨i.toArray⟩,.string ⟨f.toArray⟩,va] 45)=W1 at *
 have hsz:W1.heap.size=w.heap.size+1:=by rw[← hW1];simp
 have hb2:=ze_ W1 (.cells X 45)
 have hk2:=Bk.new W1 45 X
 rw[hsz] at hk2
 exact⟨_,rfl,tQ hb1 hb2,hk1.below hb2,hk2⟩
theorem z92_ (p:Fil.FilE) (va:Value) (w:World) (hp:TextsA w va p.any) (hl:p.any.length≤8796093021952) (ho:p.op=0∨p.op=1∨p.op=2):
  Calls Tryz.prog 23 #[x4_ p va] w fun e w'=>e= .returned (.bool (Fil.shapeB p))∧Bel w w':=by
 rw[Fil.shape_kids8 p ho]
 have hS:=fun (W:World) (hW:Bel w W)=>z7a_ p ⟨p.op,p.n,[],[],[],[],[]⟩ va (.slice none 0 0) W (hp.below hW) (.inl ⟨rfl,rfl⟩) hl
 obtain⟨R1,hR1⟩:∃ R1,decide (p=⟨p.op,p.n,[],[],[],[],[]⟩)=R1:=⟨_,rfl⟩
 rw[hR1] at hS ⊢
 obtain⟨A,c,rfl, -⟩:=hp.at
 clear hR1 hp
 obtain⟨o,n,t,u,i,f,y⟩:=p
 unfold x4_ at hS ⊢
 simp only at ho hS hl ⊢
 have HS:=hiD hS
 obtain⟨W,hW,_,k1,k2⟩:=zy_ w o n t u i f (.slice A y.length c) #[.int .i64 o,.int .i64 0,.string ⟨t.toArray⟩,.string ⟨#[]⟩,.string ⟨#[]⟩,.string ⟨#[]⟩,.slice none 0 0]
 obtain⟨V,hV,hB,m1,m2⟩:=zy_ w o n t u i f (.slice A y.length c) #[.int .i64 o,.int .i64 n,.string ⟨#[]⟩,.string ⟨#[]⟩,.string ⟨#[]⟩,.string ⟨#[]⟩,.slice none 0 0]
 have hB:=hB.drew
 have m1:=m1.below (bR _ _).drew
 have m2:=m2.below (bR _ _).drew
 have a0:=k1.cell 0
 have a1:=k1.cell 1
 have a2:=k1.cell 2
 have a3:=k1.cell 3
 have a4:=k1.cell 4
 have a5:=k1.cell 5
 have a6:=k1.cell 6
 have fz:=fun i=>k2.frozen i
 have c0:=m1.cell 0
 have c1:=m1.cell 1
 have c2:=m1.cell 2
 have c3:=m1.cell 3
 have c4:=m1.cell 4
 have c5:=m1.cell 5
 have c6:=m1.cell 6
 have d0:=m2.cell 0
 have d1:=m2.cell 1
 have d2:=m2.cell 2
 have d3:=m2.cell 3
 have d4:=m2.cell 4
 have d5:=m2.cell 5
 have d6:=m2.cell 6
 simp only[gs3] at a0 a1 a2 a3 a4 a5 a6 c0 c1 c2 c3 c4 c5 c6 d0 d1 d2 d3 d4 d5 d6
 have HB:=hiD hB
 clear k1 k2 m1 m2 hB hS
 subst hW hV
 rcases ho with rfl|rfl|rfl
 all_goals
  go_enter Tryz.func23,Tryz.ntmps23
  go_wp2_with fail
  go_region
  cases R1
  all_goals
   by_cases h0:0≤n
   all_goals
    first
     |(go_wp2_with (go_at_call 48;(refine(HS.out _ (by exact HB.out)).mono ?_);rintro e w5 ⟨rfl,hb5⟩;have e0:=cQ hb5 c0;have e1:=cQ hb5 c1))
  all_goals
   go_ret
   exact⟨j7_ (by simp [h0]<;>(first|omega|(intro h;omega))),tQ HB.out hb5⟩
open Go.RowKit
theorem zc0_ (p:Fil.FilE) (va:Value) (w:World) (hw:Env w) (hp:TextsA w va p.any) (hl:p.any.length≤8796093021952) (ho:p.op=3∨p.op=5∨p.op=6∨p.op=8):
  Calls Tryz.prog 23 #[x4_ p va] w fun e w'=>e= .returned (.bool (Fil.shapeB p))∧Bel w w':=by
 rw[Fil.shape_val p ho]
 have hS:=fun (W:World) (hW:Bel w W)=>z7a_ p ⟨p.op,0,p.typ,p.val,[],[],[]⟩ va (.slice none 0 0) W (hp.below hW) (.inl ⟨rfl,rfl⟩) hl
 have hT:=fun (W:World) (hW:Bel w W)=>z3b_ p.typ W (hw.keep hW)
 obtain⟨R1,hR1⟩:∃ R1,decide (p=⟨p.op,0,p.typ,p.val,[],[],[]⟩)=R1:=⟨_,rfl⟩
 obtain⟨R2,hR2⟩:∃ R2,zd_ p.typ=R2:=⟨_,rfl⟩
 rw[hR1] at hS ⊢
 rw[hR2] at hT ⊢
 obtain⟨A,c,rfl, -⟩:=hp.at
 clear hR1 hR2 hp hw
 obtain⟨o,n,t,u,i,f,y⟩:=p
 unfold x4_ at hS ⊢
 simp only at ho hS hT hl ⊢
 have HS:=hiD hS
 have HT:=hiD hT
 obtain⟨W,hW,_,k1,k2⟩:=zy_ w o n t u i f (.slice A y.length c) #[.int .i64 o,.int .i64 0,.string ⟨t.toArray⟩,.string ⟨#[]⟩,.string ⟨#[]⟩,.string ⟨#[]⟩,.slice none 0 0]
 obtain⟨V,hV,hB,m1,m2⟩:=zy_ w o n t u i f (.slice A y.length c) #[.int .i64 o,.int .i64 0,.string ⟨t.toArray⟩,.string ⟨u.toArray⟩,.string ⟨#[]⟩,.string ⟨#[]⟩,.slice none 0 0]
 have a0:=k1.cell 0
 have a1:=k1.cell 1
 have a2:=k1.cell 2
 have a3:=k1.cell 3
 have a4:=k1.cell 4
 have a5:=k1.cell 5
 have a6:=k1.cell 6
 have fz:=fun i=>k2.frozen i
 have c0:=m1.cell 0
 have c1:=m1.cell 1
 have c2:=m1.cell 2
 have c3:=m1.cell 3
 have c4:=m1.cell 4
 have c5:=m1.cell 5
 have c6:=m1.cell 6
 have d0:=m2.cell 0
 have d1:=m2.cell 1
 have d2:=m2.cell 2
 have d3:=m2.cell 3
 have d4:=m2.cell 4
 have d5:=m2.cell 5
 have d6:=m2.cell 6
 simp only[gs3] at a0 a1 a2 a3 a4 a5 a6 c0 c1 c2 c3 c4 c5 c6 d0 d1 d2 d3 d4 d5 d6
 have HB:=hiD hB
 clear k1 k2 m1 m2 hB hS hT
 subst hW hV
 rcases ho with rfl|rfl|rfl|rfl
 all_goals
  cases R1
  all_goals
   go_enter Tryz.func23,Tryz.ntmps23
   go_wp2_with (first|(go_at_call 48;(refine(HS.out _ (by exact HB.out)).mono ?_);rintro e w5 ⟨rfl,hb5⟩;have HB5:=hiD (tQ HB.out hb5);have e2:=cQ hb5 c2)|(go_at_call 50;(refine(HT.out _ (by exact HB5.out)).mono ?_);rintro e w6 ⟨rfl,hb6⟩))
   go_ret
   first
    |exact⟨rfl,tQ HB5.out hb6⟩
    |exact⟨rfl,HB5.out⟩
theorem z8d_ (p:Fil.FilE) (va:Value) (w:World) (hw:Env w) (hp:TextsA w va p.any) (hl:p.any.length≤8796093021952) (ho:p.op=7):
  Calls Tryz.prog 23 #[x4_ p va] w fun e w'=>e= .returned (.bool (Fil.shapeB p))∧Bel w w':=by
 rw[Fil.shape_pres p ho]
 have hS:=fun (W:World) (hW:Bel w W)=>z7a_ p ⟨p.op,0,p.typ,[],[],[],[]⟩ va (.slice none 0 0) W (hp.below hW) (.inl ⟨rfl,rfl⟩) hl
 have hT:=fun (W:World) (hW:Bel w W)=>z3b_ p.typ W (hw.keep hW)
 obtain⟨R1,hR1⟩:∃ R1,decide (p=⟨p.op,0,p.typ,[],[],[],[]⟩)=R1:=⟨_,rfl⟩
 obtain⟨R2,hR2⟩:∃ R2,zd_ p.typ=R2:=⟨_,rfl⟩
 rw[hR1] at hS ⊢
 rw[hR2] at hT ⊢
 obtain⟨A,c,rfl, -⟩:=hp.at
 clear hR1 hR2 hp hw
 obtain⟨o,n,t,u,i,f,y⟩:=p
 unfold x4_ at hS ⊢
 simp only at ho hS hT hl ⊢
 have HS:=hiD hS
 have HT:=hiD hT
 obtain⟨W,hW,_,k1,k2⟩:=zy_ w o n t u i f (.slice A y.length c) #[.int .i64 o,.int .i64 0,.string ⟨t.toArray⟩,.string ⟨#[]⟩,.string ⟨#[]⟩,.string ⟨#[]⟩,.slice none 0 0]
 obtain⟨V,hV,hB,m1,m2⟩:=zy_ w o n t u i f (.slice A y.length c) #[.int .i64 o,.int .i64 0,.string ⟨t.toArray⟩,.string ⟨#[]⟩,.string ⟨#[]⟩,.string ⟨#[]⟩,.slice none 0 0]
 have a0:=k1.cell 0
 have a1:=k1.cell 1
 have a2:=k1.cell 2
 have a3:=k1.cell 3
 have a4:=k1.cell 4
 have a5:=k1.cell 5
 have a6:=k1.cell 6
 have fz:=fun i=>k2.frozen i
 have c0:=m1.cell 0
 have c1:=m1.cell 1
 have c2:=m1.cell 2
 have c3:=m1.cell 3
 have c4:=m1.cell 4
 have c5:=m1.cell 5
 have c6:=m1.cell 6
 have d0:=m2.cell 0
 have d1:=m2.cell 1
 have d2:=m2.cell 2
 have d3:=m2.cell 3
 have d4:=m2.cell 4
 have d5:=m2.cell 5
 have d6:=m2.cell 6
 simp only[gs3] at a0 a1 a2 a3 a4 a5 a6 c0 c1 c2 c3 c4 c5 c6 d0 d1 d2 d3 d4 d5 d6
 have HB:=hiD hB
 clear k1 k2 m1 m2 hB hS hT
 subst hW hV
 subst ho
 cases R1
 all_goals
  go_enter Tryz.func23,Tryz.ntmps23
  go_wp2_with (first|(go_at_call 48;(refine(HS.out _ (by exact HB.out)).mono ?_);rintro e w5 ⟨rfl,hb5⟩;have HB5:=hiD (tQ HB.out hb5);have e2:=cQ hb5 c2)|(go_at_call 50;(refine(HT.out _ (by exact HB5.out)).mono ?_);rintro e w6 ⟨rfl,hb6⟩))
  go_ret
  first
   |exact⟨rfl,tQ HB5.out hb6⟩
   |exact⟨rfl,HB5.out⟩
theorem zen_ (p:Fil.FilE) (va:Value) (w:World) (hp:TextsA w va p.any) (ho:p.op<0∨8<p.op):
  Calls Tryz.prog 23 #[x4_ p va] w fun e w'=>e= .returned (.bool (Fil.shapeB p))∧Bel w w':=by
 rw[Fil.shape_no p ho]
 obtain⟨A,c,rfl, -⟩:=hp.at
 clear hp
 obtain⟨o,n,t,u,i,f,y⟩:=p
 unfold x4_
 simp only at ho ⊢
 obtain⟨W,hW,_,k1,k2⟩:=zy_ w o n t u i f (.slice A y.length c) #[.int .i64 o,.int .i64 0,.string ⟨t.toArray⟩,.string ⟨#[]⟩,.string ⟨#[]⟩,.string ⟨#[]⟩,.slice none 0 0]
 obtain⟨V,hV,hB,m1,m2⟩:=zy_ w o n t u i f (.slice A y.length c) #[.int .i64 o,.int .i64 0,.string ⟨t.toArray⟩,.string ⟨#[]⟩,.string ⟨#[]⟩,.string ⟨#[]⟩,.slice none 0 0]
 have a0:=k1.cell 0
 have a1:=k1.cell 1
 have a2:=k1.cell 2
 have a3:=k1.cell 3
 have a4:=k1.cell 4
 have a5:=k1.cell 5
 have a6:=k1.cell 6
 have fz:=fun i=>k2.frozen i
 have c0:=m1.cell 0
 have c1:=m1.cell 1
 have c2:=m1.cell 2
 have c3:=m1.cell 3
 have c4:=m1.cell 4
 have c5:=m1.cell 5
 have c6:=m1.cell 6
 have d0:=m2.cell 0
 have d1:=m2.cell 1
 have d2:=m2.cell 2
 have d3:=m2.cell 3
 have d4:=m2.cell 4
 have d5:=m2.cell 5
 have d6:=m2.cell 6
 simp only[gs3] at a0 a1 a2 a3 a4 a5 a6 c0 c1 c2 c3 c4 c5 c6 d0 d1 d2 d3 d4 d5 d6
 have HB:=hiD hB
 clear k1 k2 m1 m2 hB
 subst hW hV
 have n0:(o==0)=false:=beq_eq_false_iff_ne.2 (by omega)
 have n1:(o==1)=false:=beq_eq_false_iff_ne.2 (by omega)
 have n2:(o==2)=false:=beq_eq_false_iff_ne.2 (by omega)
 have n3:(o==3)=false:=beq_eq_false_iff_ne.2 (by omega)
 have n4:(o==4)=false:=beq_eq_false_iff_ne.2 (by omega)
 have n5:(o==5)=false:=beq_eq_false_iff_ne.2 (by omega)
 have n6:(o==6)=false:=beq_eq_false_iff_ne.2 (by omega)
 have n7:(o==7)=false:=beq_eq_false_iff_ne.2 (by omega)
 have n8:(o==8)=false:=beq_eq_false_iff_ne.2 (by omega)
 go_enter Tryz.func23,Tryz.ntmps23
 go_wp2_with fail
 go_ret
 exact⟨rfl,HB.out⟩
open Go.RowKit
theorem zb7_ (p:Fil.FilE) (va:Value) (w:World) (hw:Env w) (hp:TextsA w va p.any) (hl:p.any.length≤8796093021952) (ho:p.op=4) (h1:¬ (p.ini=[]∧p.fin=[]∧p.any=[])) (h2:p.any.contains []=false):
  Calls Tryz.prog 23 #[x4_ p va] w fun e w'=>e= .returned (.bool (Fil.shapeB p))∧Bel w w':=by
 rw[Fil.shape_sub p ho h1 h2]
 have hS:=fun (W:World) (hW:Bel w W)=>z7a_ p ⟨p.op,0,p.typ,[],p.ini,p.fin,p.any⟩ va va W (hp.below hW) (hp.below hW) hl
 have hT:=fun (W:World) (hW:Bel w W)=>z3b_ p.typ W (hw.keep hW)
 obtain⟨R1,hR1⟩:∃ R1,decide (p=⟨p.op,0,p.typ,[],p.ini,p.fin,p.any⟩)=R1:=⟨_,rfl⟩
 obtain⟨R2,hR2⟩:∃ R2,zd_ p.typ=R2:=⟨_,rfl⟩
 rw[hR1] at hS ⊢
 rw[hR2] at hT ⊢
 have hC:=fun (W:World) (hW:Bel w W)=>z2c_ [] p.any va W (hp.below hW) (by omega)
 obtain⟨A,c,rfl, -⟩:=hp.at
 clear hR1 hR2 hp hw
 obtain⟨o,n,t,u,i,f,y⟩:=p
 unfold x4_ at hS ⊢
 simp only at ho h1 h2 hS hT hC hl ⊢
 have HS:=hiD hS
 have HT:=hiD hT
 have HC:=hiD hC
 rw[h2] at HC
 obtain⟨W,hW,_,k1,k2⟩:=zy_ w o n t u i f (.slice A y.length c) #[.int .i64 o,.int .i64 0,.string ⟨t.toArray⟩,.string ⟨#[]⟩,.string ⟨#[]⟩,.string ⟨#[]⟩,.slice none 0 0]
 obtain⟨V,hV,hB,m1,m2⟩:=zy_ w o n t u i f (.slice A y.length c) #[.int .i64 o,.int .i64 0,.string ⟨t.toArray⟩,.string ⟨#[]⟩,.string ⟨i.toArray⟩,.string ⟨f.toArray⟩,.slice A y.length c]
 have hB:=hB.drew
 have m1:=m1.below (bR _ _).drew
 have m2:=m2.below (bR _ _).drew
 have a0:=k1.cell 0
 have a1:=k1.cell 1
 have a2:=k1.cell 2
 have a3:=k1.cell 3
 have a4:=k1.cell 4
 have a5:=k1.cell 5
 have a6:=k1.cell 6
 have fz:=fun i=>k2.frozen i
 have c0:=m1.cell 0
 have c1:=m1.cell 1
 have c2:=m1.cell 2
 have c3:=m1.cell 3
 have c4:=m1.cell 4
 have c5:=m1.cell 5
 have c6:=m1.cell 6
 have d0:=m2.cell 0
 have d1:=m2.cell 1
 have d2:=m2.cell 2
 have d3:=m2.cell 3
 have d4:=m2.cell 4
 have d5:=m2.cell 5
 have d6:=m2.cell 6
 simp only[gs3] at a0 a1 a2 a3 a4 a5 a6 c0 c1 c2 c3 c4 c5 c6 d0 d1 d2 d3 d4 d5 d6
 have HB:=hiD hB
 clear k1 k2 m1 m2 hB hS hT hC
 subst hW hV
 have hyl:¬ (i=[]∧f=[]∧y.length=0):=by rintro⟨e1,e2,e3⟩;exact h1 ⟨e1,e2,List.eq_nil_of_length_eq_zero e3⟩
 clear h1 h2
 subst ho
 generalize y.length=m at *
 obtain⟨I,hI⟩:∃ I,(i==[])=I:=⟨_,rfl⟩
 obtain⟨F,hF⟩:∃ F,(f==[])=F:=⟨_,rfl⟩
 obtain⟨M,hM⟩:∃ M,((m:Int)==0)=M:=⟨_,rfl⟩
 have hIFM:(I && F && M)=false:=by
  rw[← hI,← hF,← hM,← Bool.not_eq_true]
  simp only[Bool.and_eq_true,beq_iff_eq]
  rintro⟨⟨e1,e2⟩,e3⟩
  exact hyl ⟨e1,e2,by omega⟩
 have hcase:(I=false)∨(I=true∧F=false)∨(I=true∧F=true∧M=false):=by
  clear hI hF hM
  cases I
  ·exact .inl rfl
  ·cases F
   ·exact .inr (.inl ⟨rfl,rfl⟩)
   ·exact .inr (.inr ⟨rfl,rfl,hIFM⟩)
 clear hyl hIFM
 rcases hcase with rfl|⟨rfl,rfl⟩|⟨rfl,rfl,rfl⟩
 all_goals
  cases R1
  all_goals
   go_enter Tryz.func23,Tryz.ntmps23
   go_wp2_with fail
   go_region
   go_wp2_with (first|(go_at_call 49;(refine(HC.out _ (by exact HB.out)).mono ?_);rintro e w4 ⟨rfl,rfl⟩)|(go_at_call 48;(refine(HS.out _ (by exact HB.out)).mono ?_);rintro e w5 ⟨rfl,hb5⟩;have HB5:=hiD (tQ HB.out hb5);have e2:=cQ hb5 c2)|(go_at_call 50;(refine(HT.out _ (by exact HB5.out)).mono ?_);rintro e w6 ⟨rfl,hb6⟩))
   go_ret
   first
    |exact⟨rfl,tQ HB5.out hb6⟩
    |exact⟨rfl,HB5.out⟩
theorem zag_ (p:Fil.FilE) (va:Value) (w:World) (hp:TextsA w va p.any) (hl:p.any.length≤8796093021952) (ho:p.op=4) (h:p.any.contains []=true):
  Calls Tryz.prog 23 #[x4_ p va] w fun e w'=>e= .returned (.bool (Fil.shapeB p))∧Bel w w':=by
 rw[Fil.shape_sub_no p ho (.inr h)]
 have hC:=fun (W:World) (hW:Bel w W)=>z2c_ [] p.any va W (hp.below hW) (by omega)
 rw[h] at hC
 have hm:p.any.length≠0:=by intro e;rw[List.eq_nil_of_length_eq_zero e] at h;cases h
 obtain⟨A,c,rfl, -⟩:=hp.at
 clear hp h
 obtain⟨o,n,t,u,i,f,y⟩:=p
 unfold x4_
 simp only at ho hC hm hl ⊢
 have HC:=hiD hC
 obtain⟨W,hW,_,k1,k2⟩:=zy_ w o n t u i f (.slice A y.length c) #[.int .i64 o,.int .i64 0,.string ⟨t.toArray⟩,.string ⟨#[]⟩,.string ⟨#[]⟩,.string ⟨#[]⟩,.slice none 0 0]
 obtain⟨V,hV,hB,m1,m2⟩:=zy_ w o n t u i f (.slice A y.length c) #[.int .i64 o,.int .i64 0,.string ⟨t.toArray⟩,.string ⟨#[]⟩,.string ⟨i.toArray⟩,.string ⟨f.toArray⟩,.slice A y.length c]
 have hB:=hB.drew
 have m1:=m1.below (bR _ _).drew
 have m2:=m2.below (bR _ _).drew
 have a0:=k1.cell 0
 have a1:=k1.cell 1
 have a2:=k1.cell 2
 have a3:=k1.cell 3
 have a4:=k1.cell 4
 have a5:=k1.cell 5
 have a6:=k1.cell 6
 have fz:=fun i=>k2.frozen i
 have c0:=m1.cell 0
 have c1:=m1.cell 1
 have c2:=m1.cell 2
 have c3:=m1.cell 3
 have c4:=m1.cell 4
 have c5:=m1.cell 5
 have c6:=m1.cell 6
 have d0:=m2.cell 0
 have d1:=m2.cell 1
 have d2:=m2.cell 2
 have d3:=m2.cell 3
 have d4:=m2.cell 4
 have d5:=m2.cell 5
 have d6:=m2.cell 6
 simp only[gs3] at a0 a1 a2 a3 a4 a5 a6 c0 c1 c2 c3 c4 c5 c6 d0 d1 d2 d3 d4 d5 d6
 have HB:=hiD hB
 clear k1 k2 m1 m2 hB hC
 subst hW hV
 subst ho
 generalize y.length=m at *
 obtain⟨I,hI⟩:∃ I,(i==[])=I:=⟨_,rfl⟩
 obtain⟨F,hF⟩:∃ F,(f==[])=F:=⟨_,rfl⟩
 obtain⟨M,hM⟩:∃ M,((m:Int)==0)=M:=⟨_,rfl⟩
 have hMf:M=false:=by rw[← hM,beq_eq_false_iff_ne];omega
 subst hMf
 clear hm
 cases I
 all_goals
  cases F
  all_goals
   go_enter Tryz.func23,Tryz.ntmps23
   go_wp2_with fail
   go_region
   go_wp2_with (go_at_call 49;(refine(HC.out _ (by exact HB.out)).mono ?_);rintro e w4 ⟨rfl,rfl⟩)
   go_ret
   exact⟨rfl,HB.out⟩
theorem z8s_ (p:Fil.FilE) (va:Value) (w:World) (hp:TextsA w va p.any) (ho:p.op=4) (h:p.ini=[]∧p.fin=[]∧p.any=[]):
  Calls Tryz.prog 23 #[x4_ p va] w fun e w'=>e= .returned (.bool (Fil.shapeB p))∧Bel w w':=by
 rw[Fil.shape_sub_no p ho (.inl h)]
 obtain⟨A,c,rfl, -⟩:=hp.at
 clear hp
 obtain⟨o,n,t,u,i,f,y⟩:=p
 unfold x4_
 simp only at ho h ⊢
 obtain⟨rfl,rfl,rfl⟩:=h
 obtain⟨W,hW,_,k1,k2⟩:=zy_ w o n t u [] [] (.slice A 0 c) #[.int .i64 o,.int .i64 0,.string ⟨t.toArray⟩,.string ⟨#[]⟩,.string ⟨#[]⟩,.string ⟨#[]⟩,.slice none 0 0]
 obtain⟨V,hV,hB,m1,m2⟩:=zy_ w o n t u [] [] (.slice A 0 c) #[.int .i64 o,.int .i64 0,.string ⟨t.toArray⟩,.string ⟨#[]⟩,.string ⟨#[]⟩,.string ⟨#[]⟩,.slice A 0 c]
 have hB:=hB.drew
 have m1:=m1.below (bR _ _).drew
 have m2:=m2.below (bR _ _).drew
 have a0:=k1.cell 0
 have a1:=k1.cell 1
 have a2:=k1.cell 2
 have a3:=k1.cell 3
 have a4:=k1.cell 4
 have a5:=k1.cell 5
 have a6:=k1.cell 6
 have fz:=fun i=>k2.frozen i
 have c0:=m1.cell 0
 have c1:=m1.cell 1
 have c2:=m1.cell 2
 have c3:=m1.cell 3
 have c4:=m1.cell 4
 have c5:=m1.cell 5
 have c6:=m1.cell 6
 have d0:=m2.cell 0
 have d1:=m2.cell 1
 have d2:=m2.cell 2
 have d3:=m2.cell 3
 have d4:=m2.cell 4
 have d5:=m2.cell 5
 have d6:=m2.cell 6
 simp only[gs3] at a0 a1 a2 a3 a4 a5 a6 c0 c1 c2 c3 c4 c5 c6 d0 d1 d2 d3 d4 d5 d6
 have HB:=hiD hB
 clear k1 k2 m1 m2 hB
 subst hW hV
 subst ho
 go_enter Tryz.func23,Tryz.ntmps23
 go_wp2_with fail
 go_region
 go_wp2_with fail
 go_ret
 exact⟨rfl,HB.out⟩
open Go.RowKit
theorem zqt_ (p:Fil.FilE) (va:Value) (w:World) (hw:Env w) (hp:TextsA w va p.any) (hl:p.any.length≤8796093021952):
  Calls Tryz.prog 23 #[x4_ p va] w fun e w'=>e= .returned (.bool (Fil.shapeB p))∧Bel w w':=by
 by_cases h1:p.op<0∨8<p.op
 ·exact zen_ p va w hp h1
 by_cases h2:p.op=0∨p.op=1∨p.op=2
 ·exact z92_ p va w hp hl h2
 by_cases h3:p.op=3∨p.op=5∨p.op=6∨p.op=8
 ·exact zc0_ p va w hw hp hl h3
 by_cases h4:p.op=7
 ·exact z8d_ p va w hw hp hl h4
 have h5:p.op=4:=by omega
 by_cases h6:p.any.contains []=true
 ·exact zag_ p va w hp hl h5 h6
 by_cases h7:p.ini=[]∧p.fin=[]∧p.any=[]
 ·exact z8s_ p va w hp h5 h7
 ·exact zb7_ p va w hw hp hl h5 h7 (by simpa using h6)
def zmn_ (w0 w:World) (R:Option (List Fil.FilE)) (e:Ending) (w':World):Prop:=Bel w w'∧match R with
 |some l=>∃ v,e= .returned (.tuple #[v,.bool true])∧FilsA w0 v l
 |none=>e= .returned (.tuple #[.slice none 0 0,.bool false])
theorem shape_n {p:Fil.FilE} (h:Fil.shapeB p=true):0≤p.n:=by
 unfold Fil.shapeB at h
 split at h
 ·simp only[Bool.and_eq_true,decide_eq_true_eq] at h
  exact h.1.2
 ·split at h
  ·simp only[Bool.and_eq_true,decide_eq_true_eq] at h
   have:=h.1.1.1.1;omega
  ·split at h
   ·simp only[Bool.and_eq_true,decide_eq_true_eq] at h
    have:=h.1.1.1.1;omega
   ·split at h
    ·simp only[Bool.and_eq_true,decide_eq_true_eq] at h
     have:=h.1.1.1.1.1;omega
    ·cases h
theorem zph_ (p:Fil.FilE):p.any.length≤z09_ p∧p.typ.length≤z09_ p:=by unfold z09_;omega
def zki_ (p:Fil.FilE):Prop:=p.typ.length≤140737488351232∧p.val.length≤140737488351232∧p.any.length≤8796093021952∧∀ x∈[p.ini]++p.any++[p.fin],x.length≤140737488351232
def LimF (l:List Fil.FilE):Prop:=l.length≤100000000∧∀ p∈l,zki_ p
theorem z71_:∀ (l:List Nat) (x:Nat),x∈l→x≤l.sum
 |[],x,h=>by cases h
 |y::l,x,h=>by
  rw[List.sum_cons]
  rcases List.mem_cons.1 h with rfl|h
  ·omega
  ·have:=z71_ l x h;omega
theorem zor_ {p:Fil.FilE} (h:z09_ p≤100000000):zki_ p:=by
 unfold z09_ at h
 refine⟨by omega,by omega,by omega,fun x hx=>?_⟩
 simp only[List.mem_append,List.mem_singleton] at hx
 rcases hx with (rfl|hx)|rfl
 ·omega
 ·have:=z71_ (p.any.map List.length) x.length (List.mem_map.2 ⟨x,hx,rfl⟩)
  omega
 ·omega
theorem lim_of {l:List Fil.FilE} (h:Fil.wgt l≤100000000):LimF l:=by
 refine⟨by have:=Fil.wgt_len l;omega,fun p hp=>zor_ ?_⟩
 have:=z71_ (l.map z09_) (z09_ p) (List.mem_map.2 ⟨p,hp,rfl⟩)
 unfold Fil.wgt at h
 omega
theorem LimF.tail {p:Fil.FilE} {l:List Fil.FilE} (h:LimF (p::l)):LimF l:=⟨by have:=h.1;simp only[List.length_cons] at this;omega,fun q hq=>h.2 q (List.mem_cons_of_mem _ hq)⟩
theorem LimF.part {a b c:List Fil.FilE} (h:LimF (a++(b++c))):LimF b:=⟨by have:=h.1;simp only[List.length_append] at this;omega,fun q hq=>h.2 q (List.mem_append_right _ (List.mem_append_left _ hq))⟩
theorem LimF.suf {a b:List Fil.FilE} (h:LimF (a++b)):LimF b:=⟨by have:=h.1;simp only[List.length_append] at this;omega,fun q hq=>h.2 q (List.mem_append_right _ hq)⟩
theorem z86_ (w0:World) (hw:Env w0):∀ (d:Nat),d≤20→∀ (l:List Fil.FilE) (v:Value) (w:World),FilsA w0 v l→Bel w0 w→LimF l→z61_ l→
  Calls Tryz.prog 12 #[v,.int .i64 (20 - (d:Int))] w (zmn_ w0 w (Fil.wholeF d l)):=by
 intro d
 induction d with
 |zero=>
  intro _ l v w hv hb hl hn
  obtain⟨R,hR⟩:∃ R,Fil.wholeF 0 l=R:=⟨_,rfl⟩
  rw[hR]
  have hR2:R=none:=hR.symm
  subst hR2
  obtain⟨A,c,rfl,hc⟩:=hv.isSlice
  clear hv hR hl hn
  cases l with
  |nil=>
   go_enter Tryz.func12,Tryz.ntmps12
   go_wp2_with fail
   go_ret2
   exact⟨bR _ _,rfl⟩
  |cons p t=>
   have hz:(((p::t).length:Int)==0)=false:=by rw[beq_eq_false_iff_ne];simp only[List.length_cons];omega
   generalize (p::t).length=m at *
   go_enter Tryz.func12,Tryz.ntmps12
   go_wp2_with fail
   go_ret2
   exact⟨bR _ _,rfl⟩
 |succ d ih=>
  intro hd l v w hv hb hl hn
  have hx:(20:Int) - ((d+1:Nat):Int)<20:=by omega
  have hx0:(0:Int)≤20 - ((d+1:Nat):Int):=by omega
  have ih:=ih (by omega)
  rw[show (20:Int) - (d:Int)=(20 - ((d+1:Nat):Int))+1 by omega] at ih
  generalize (20:Int) - ((d+1:Nat):Int)=x at *
  have hwx:IntKind.i64.wrap (x+1)=x+1:=IntWalk.i64_in _ (by omega)
  obtain⟨R,hR⟩:∃ R,Fil.wholeF (d+1) l=R:=⟨_,rfl⟩
  rw[hR]
  cases l with
  |nil=>
   have hR2:R=none:=hR.symm
   subst hR2
   obtain⟨A,c,rfl⟩:=hv.nil_slice
   clear hv hR hl hn ih
   go_enter Tryz.func12,Tryz.ntmps12
   go_wp2_with fail
   go_ret2
   exact⟨bR _ _,rfl⟩
  |cons p t=>
   obtain⟨b,o,c,va,vt,rfl,hc,⟨c0,c1,c2,c3,c4,c5,c6⟩,hta,hsl,ht⟩:=hv.tail
   have hpn:=hn p (List.mem_cons_self ..)
   have hnt:z61_ t:=fun q hq=>hn q (List.mem_cons_of_mem _ hq)
   have hlp:=hl.2 p (List.mem_cons_self ..)
   have hlt:=hl.tail
   have hal:=hlp.2.2.1
   have htn:=hlt.1
   have d0:=cQ hb c0
   have d1:=cQ hb c1
   have d2:=cQ hb c2
   have d3:=cQ hb c3
   have d4:=cQ hb c4
   have d5:=cQ hb c5
   have d6:=cQ hb c6
   have hs:=zqt_ p va w (hw.keep hb) (hta.below hb) hal
   have HLT:=hiD hlt
   clear hlp hlt hal
   have hsn:=fun h=>shape_n (p:=p) h
   have hz:((t.length:Int)+1==0)=false:=by rw[beq_eq_false_iff_ne];omega
   have hi1:(0:Int)<(t.length:Int)+1:=by omega
   have hR':R=if Fil.shapeB p then Fil.times (Fil.wholeF d) p.n.toNat t else none:=by rw[← hR,Fil.wholeF]
   unfold x4_ at hs
   clear c0 c1 c2 c3 c4 c5 c6 hta hv hR
   cases hsb:Fil.shapeB p with
   |false=>
    rw[hsb] at hs hR'
    have hR2:R=none:=hR'
    subst hR2
    have HS:=hiD hs
    clear hs hR' ih hsn hsb hl
    go_enter Tryz.func12,Tryz.ntmps12
    go_wp2_with (go_at_call 23;(with_reducible refine HS.out.mono ?_);rintro e w1 ⟨rfl,hb1⟩)
    go_ret2
    exact⟨hb1,rfl⟩
   |true=>
    rw[hsb] at hs hR'
    have hpn0:=hsn hsb
    have hR2:Fil.times (Fil.wholeF d) p.n.toNat t=R:=hR'.symm
    have HS:=hiD hs
    have HR:=hiD hR2
    have HT:=hiD ht
    have IH:=hiD ih
    obtain⟨At,ct,rfl,hct⟩:=ht.isSlice
    clear hs hR' hR2 ih hsn hsb ht hn hl
    obtain⟨op,n,typ,val,ini,fin,any⟩:=p
    simp only at d0 d1 d2 d3 d4 d5 d6 HR hpn hpn0 HS
    obtain⟨n,rfl⟩:∃ N:Nat,n=N:=⟨n.toNat,by omega⟩
    rw[Int.toNat_natCast] at HR
    go_enter Tryz.func12,Tryz.ntmps12
    go_wp2_with (go_at_call 23;(with_reducible refine HS.out.mono ?_);rintro e w1 ⟨rfl,hb1⟩;have e1:=cQ hb1 d1)
    go_loopg [0,6] (t.length+1) (fun gk v n wr=>∃ (l':List Fil.FilE) (m:Nat),n= .int .i64 (m:Int)∧Aside (FilsA w0 v l')∧Aside (Fil.times (Fil.wholeF d) m l'=R)∧Aside (l'.length+1≤gk)∧Aside (LimF l')∧Aside (z61_ l')∧Aside ((m:Int)≤9223372036854775807)∧Aside (Bel w wr))
    case atStart=>exact⟨t,n,rfl,HT.out,HR.out,nR _,HLT.out,hnt,hpn,hb1⟩
    case round=>
     clear hb1 e1 HR HT HS hsl
     obtain⟨l',m,rfl,AF,AR,AG,AW,AN,AM,AB⟩:=hrel
     obtain⟨A',c',rfl,hc'⟩:=AF.out.isSlice
     cases m with
     |zero=>
      have hR2:R=some l':=AR.out.symm
      subst hR2
      go_wp2_with fail
      go_ret2
      exact⟨AB.out,_,rfl,AF.out⟩
     |succ m=>
      have hm0:(0:Int)<((m+1:Nat):Int):=by omega
      have hwm:IntKind.i64.wrap (((m+1:Nat):Int) - 1)=(m:Int):=by have:=AM.out;rw[IntWalk.i64_in _ (by omega)];omega
      have HM2:Hid ((m:Int)≤9223372036854775807):=hiD (by have h:=AM.out;omega)
      have hwm2:wrap64 (m:Int)=(m:Int):=by
       have h:=AM.out
       exact IntWalk.wrap64_in _ (by omega)
      have HI:=hiD (IH.out l' (.slice A' l'.length c') wr AF.out (tQ hb AB.out) AW.out AN.out)
      have AR2:Aside (R=(Fil.wholeF d l').bind (Fil.times (Fil.wholeF d) m)):=AR.out.symm
      obtain⟨q,rfl⟩:∃ q,gk=q+1:=⟨gk - 1,by have:=AG.out;omega⟩
      clear AR
      cases hw2:Fil.wholeF d l' with
      |none=>
       rw[hw2] at HI
       have hR2:R=none:=by rw[AR2.out,hw2];rfl
       subst hR2
       go_wp2_with (go_at_call 12;(with_reducible refine HI.out.mono ?_);rintro e w2 ⟨hb2,rfl⟩)
       go_ret2
       exact⟨tQ AB.out hb2,rfl⟩
      |some l2=>
       rw[hw2] at HI
       have AR3:Aside (Fil.times (Fil.wholeF d) m l2=R):=by show _=_;rw[AR2.out,hw2];rfl
       have hlen:=(Fil.whole_suf d l' l2 hw2).1
       obtain⟨_,cc,hcc⟩:=Fil.whole_suf d l' l2 hw2
       have hN2:z61_ l2:=fun q hq=>AN.out q (by rw[hcc];exact List.mem_append_right _ hq)
       have HN2:=hiD hN2
       have HL2:Hid (LimF l2):=hiD (LimF.suf (a:=cc) (by rw[← hcc];exact AW.out))
       clear hcc hN2
       go_wp2_with (go_at_call 12;(with_reducible refine HI.out.mono ?_);rintro e w2 ⟨hb2,v2,rfl,hf2⟩)
       go_roundg q
       case measure=>omega
       case rel=>exact⟨l2,m,congrArg (Value.int IntKind.i64) hwm2,hf2,AR3.out,by have:=AG.out;show _≤_;omega,HL2.out,HN2.out,HM2.out,tQ AB.out hb2⟩
theorem z8a_ (l:List Fil.FilE) (v:Value) (w:World) (hw:Env w) (hv:FilsA w v l) (hl:LimF l) (hn:z61_ l):
  Calls Tryz.prog 5 #[v] w fun e w'=>e= .returned (.bool (Fil.validF l))∧Bel w w':=by
 have hW:=z86_ w hw 20 (nR _) l v w hv (bR _ _) hl hn
 rw[show (20:Int) - ((20:Nat):Int)=0 from rfl] at hW
 obtain⟨R,hR⟩:∃ R,Fil.validF l=R:=⟨_,rfl⟩
 rw[hR]
 unfold Fil.validF at hR
 have hll:=hl.1
 obtain⟨A,c,rfl,hc⟩:=hv.isSlice
 clear hv hn
 by_cases h100:l.length≤100
 ·rw[decide_eq_true h100,Bool.true_and] at hR
  have hi:¬ ((l.length:Int)>100):=by omega
  cases hw2:Fil.wholeF 20 l with
  |none=>
   rw[hw2] at hW hR
   have hR2:R=false:=hR.symm
   subst hR2
   have HW:=hiD hW
   clear hW hR
   go_enter Tryz.func5,Tryz.ntmps5
   go_wp2_with (go_at_call 12;(with_reducible refine HW.out.mono ?_);rintro e w2 ⟨hb2,rfl⟩)
   go_ret
   exact⟨rfl,hb2⟩
  |some r=>
   rw[hw2] at hW hR
   have HW:=hiD hW
   clear hW
   have hRe:(((r.length:Int))==0)=R:=by
    rw[← hR]
    cases r with
    |nil=>rfl
    |cons a r=>rw[show ((((a::r).length:Nat):Int)==0)=false from by rw[beq_eq_false_iff_ne];simp only[List.length_cons];omega];rfl
   clear hR
   go_enter Tryz.func5,Tryz.ntmps5
   go_wp2_with (go_at_call 12;(with_reducible refine HW.out.mono ?_);rintro e w2 ⟨hb2,v2,rfl,hf2⟩;obtain⟨A2,c2,rfl,hc2⟩:=hf2.isSlice)
   go_ret
   exact⟨rfl,hb2⟩
 ·rw[decide_eq_false h100,Bool.false_and] at hR
  subst hR
  have hi:(l.length:Int)>100:=by omega
  go_enter Tryz.func5,Tryz.ntmps5
  go_wp2_with fail
  go_ret
  exact⟨rfl,bR _ _⟩
theorem z04_ (l:List Fil.FilE) (v:Value) (w:World) (hw:Env w) (hv:FilsA w v l) (hl:Fil.wgt l≤100000000) (hn:z61_ l):
  Calls Tryz.prog 5 #[v] w fun e w'=>e= .returned (.bool (Fil.validF l))∧Bel w w':=z8a_ l v w hw hv (lim_of hl) hn
open Go.ChangeShapes Go.WideShapes Go.ChangeAt Go.RowKit Go.Lib Go.Shelf Go.Deep Go.Joins
section
variable {H:Type} {enc:TypeId × Value→H} {W:World} {base:Nat} {fuel:Nat} {cs:List Value} {x:DataW H × List MemPlace}
def Sz (P:Program) (t:TypeId) (d:DataW H):Prop:=∀ n∈d.weights P t,n≤reachBytes
theorem zky_ {P:Program} {ts:List TypeId} {ds:List (DataW H)} (h:(DataW.weightsEach P ts ds).all (·≤reachBytes)=true) {j:Nat} {t:TypeId} {d:DataW H} (ht:ts[j]?=some t) (hd:ds[j]?=some d):Sz P t d:=fun n hn=>by
 have:=List.all_eq_true.1 h _ (DataW.weights_mem_each ht hd n hn)
 simpa using this
theorem zi8_ {P:Program} {t tj:TypeId} {fs:Array Field} {parts:List (DataW H)} {d:DataW H} {j:Nat} (hu:P.underlying t=some (.struct fs)) (h:Sz P t (.agg parts)) (ht:(fs.toList.map (·.type))[j]?=some tj) (hd:parts[j]?=some d):Sz P tj d:=fun n hn=>by
 refine h n ?_
 simp only[DataW.weights,hu]
 exact DataW.weights_mem_each ht hd n hn
theorem z4s_ {P:Program} {e:TypeId}:∀ {l:List (DataW H)} {d:DataW H},d∈l→∀ n∈d.weights P e,n∈DataW.weightsAll P e l
 |[],d,h,_,_=>by cases h
 |y::l,d,h,n,hn=>by
  simp only[DataW.weightsAll,List.mem_append]
  rcases List.mem_cons.1 h with rfl|h
  ·exact .inl hn
  ·exact .inr (z4s_ h n hn)
theorem zkc_ {P:Program} {t e:TypeId} {elems spare:List (DataW H)} {d:DataW H} (hu:P.underlying t=some (.slice e)) (h:Sz P t (.slice elems spare)) (hd:d∈elems):Sz P e d:=fun n hn=>by
 refine h n ?_
 simp only[DataW.weights,hu,List.mem_cons,List.mem_append]
 exact .inr (.inl (z4s_ hd n hn))
theorem sz_len {P:Program} {t e:TypeId} {elems spare:List (DataW H)} (hu:P.underlying t=some (.slice e)) (h:Sz P t (.slice elems spare)):(elems.length+spare.length) * P.bytesOf e≤reachBytes:=by
 refine h _ ?_
 simp only[DataW.weights,hu,List.mem_cons,true_or]
theorem zny_ {P:Program} {t:TypeId} {s:LU} (h:Sz P t (.lit (.string s):DataW H)):s.length≤140737488351232:=by
 have:=h s.length (by simp [DataW.weights])
 unfold reachBytes at this
 omega
theorem zbx_ (h:DataW.trod enc Tryz.prog W base (fun _=>true) true fuel 36 cs=some x) (hz:Sz Tryz.prog 36 x.1):∃ v xs,cs=[v]∧TextsA W v xs∧xs.length≤8796093021952∧∀ s∈xs,s.length≤140737488351232:=by
 rcases open_strings Tryz.underlying36 Tryz.underlying9 (by kernel_rfl) h with ⟨rfl,rfl⟩|⟨a,len',cap',ss,rfl,_,hl,hm,hzz,rfl,hcell,hsz⟩
 ·exact⟨_,[],rfl,.inl ⟨rfl,rfl⟩,Nat.zero_le _,fun s hs=>by cases hs⟩
 ·simp only[if_true] at hzz
  refine⟨_,_,rfl,zhv_ hl hzz hcell,?_,fun s hs=>?_⟩
  ·have h1:=sz_len Tryz.underlying36 hz
   rw[show Tryz.prog.bytesOf 9=16 by kernel_rfl] at h1
   unfold reachBytes at h1
   simp only[strs,List.length_map] at h1 ⊢
   omega
  ·obtain⟨b,hb,rfl⟩:=List.mem_map.1 hs
   exact zny_ (zkc_ Tryz.underlying36 hz (List.mem_map.2 ⟨b,hb,rfl⟩))
theorem z9i_ (h:DataW.trod enc Tryz.prog W base (fun _=>true) true fuel 22 cs=some x) (hz:Sz Tryz.prog 22 x.1):∃ v l,cs=[v]∧AttrsA W v l∧∀ a∈l,a.typ.length≤140737488351232∧a.vals.length≤4611686018427387904:=by
 rcases open_slice Tryz.underlying22 h with ⟨rfl,rfl⟩|⟨a,len,cap,m,n,D,Pl,rfl,hb,hl,hm,hmm,rfl,hx⟩
 ·exact⟨_,[],rfl,⟨[],rfl,⟨none,0,rfl,nR _,fun _=>rfl,fun j hj=>absurd hj (by simp)⟩,AQOk.nil _⟩,fun a ha=>by cases ha⟩
 simp only[if_true] at hmm
 subst hmm
 rw[show Tryz.prog.cellsOf 43=2 by kernel_rfl] at hx
 have each:∀ i,i<len→∃ r:qn_,(W.cell? (a.add (i * 2))=some (.string ⟨r.1.typ.toArray⟩)∧W.cell? ((a.add (i * 2)).add 1)=some r.2∧TextsA W r.2 r.1.vals)∧r.1.typ.length≤140737488351232∧r.1.vals.length≤4611686018427387904:=by
  intro i hi
  obtain⟨cs',h1,h2⟩:=hx i (by omega)
  obtain⟨_,hlen,hcell⟩:=World.cells?_some h1
  obtain⟨y0,y1,k,hxy,_,u0,u1⟩:=trod_struct2 Tryz.underlying43 h2
  obtain⟨v0,v1,rfl⟩:=list2 hlen
  simp only[show Tryz.prog.cellsOf 9=1 by kernel_rfl,show Tryz.prog.cellsOf 36=1 by kernel_rfl,List.drop,List.take] at u0 u1
  obtain⟨⟨⟨s⟩⟩,e0,d0,_⟩:=DataW.trod_string Tryz.underlying9 u0
  simp only[Prod.mk.injEq] at hxy
  have hzi:Sz Tryz.prog 43 (D i):=zkc_ Tryz.underlying22 hz (List.mem_map.2 ⟨i,List.mem_range.2 hi,rfl⟩)
  rw[hxy.1,d0] at hzi
  have z0:=zny_ (zi8_ (j:=0) Tryz.underlying43 hzi rfl rfl)
  obtain⟨va,ats,e1,ta,b1,_⟩:=zbx_ u1 (zi8_ (j:=1) Tryz.underlying43 hzi rfl rfl)
  simp only[List.cons.injEq,and_true] at e0 e1
  subst e0;subst e1
  have c0:=hcell 0 (by omega)
  have c1:=hcell 1 (by omega)
  exact⟨(⟨s,ats⟩,_),⟨by simpa [Addr.add] using c0,by simpa using c1,ta⟩,z0,nT b1 (by decide)⟩
 obtain⟨q,hq⟩:=choose_lt each
 refine⟨_,((List.range len).map q).map (·.1),rfl,⟨(List.range len).map q,rfl,⟨some a,m,by simp,by simp;omega,fun h=>(by cases h),fun j hj=>?_⟩,fun y hy=>?_⟩,?_⟩
 ·have hj':j<len:=by simpa using hj
  obtain⟨⟨c0,c1,c2⟩,_⟩:=hq j (by omega)
  have hsp:a.spot=none:=by
   cases hs:a.spot with
   |none=>rfl
   |some k=>
    have h0:=hq 0 (by omega)
    have h1:=h0.1.1
    unfold World.cell? Addr.add at h1
    simp [hs] at h1
    split at h1<;>cases h1
  obtain⟨b,o,sp⟩:=a
  subst hsp
  rw[jl_] at c0
  rw[jl_,jl_] at c1
  refine⟨b,o,rfl,fun k u hu=>?_⟩
  simp only[List.getElem_map,List.getElem_range] at hu
  match k,hu with
  |0,hu=>simp [js_] at hu;subst hu;simpa using c0
  |1,hu=>simp [js_] at hu;subst hu;simpa using c1
  |(k+2),hu=>simp [js_] at hu
 ·obtain⟨i,hi,rfl⟩:=List.mem_map.1 hy
  exact(hq i (by have:=List.mem_range.1 hi;omega)).1.2.2
 ·intro p hp
  obtain⟨y,hy,rfl⟩:=List.mem_map.1 hp
  obtain⟨i,hi,rfl⟩:=List.mem_map.1 hy
  exact(hq i (by have:=List.mem_range.1 hi;omega)).2
end
theorem zc2_ {H:Type} {enc:TypeId × Value→H} {W:World} {base:Nat} {a0:Option Addr} {len0 cap0:Nat} {d:DataW H} {p:List MemPlace} (h:DataW.Trod enc Tryz.prog W base (fun _=>true) true 22 (.slice a0 len0 cap0) d p) (hz:Sz Tryz.prog 22 d):
  ∃ l,AttrsA W (.slice a0 len0 cap0) l∧∀ a∈l,a.typ.length≤140737488351232∧a.vals.length≤4611686018427387904:=by
 obtain⟨fuel,hf⟩:=h
 obtain⟨v,l,hcs,h1,h2⟩:=z9i_ hf hz
 have he:Value.slice a0 len0 cap0=v:=by simpa [Value.cells] using hcs
 rw[he]
 exact⟨l,h1,h2⟩
end Go.Proofs.YtbekpphodbekiaaGreatDoor
