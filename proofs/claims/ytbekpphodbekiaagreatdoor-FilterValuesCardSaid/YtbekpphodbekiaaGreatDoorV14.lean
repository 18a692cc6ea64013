import Derived.Test.YtbekpphodbekiaaGreatDoorV13
set_option linter.all false
set_option maxHeartbeats 8000000
set_option maxRecDepth 100000
namespace Go.Proofs.YtbekpphodbekiaaGreatDoor
open Go.RowKit
theorem Fil.kids_part {d:Nat} (hd:d≤20):∀ n t r,Fil.times (Fil.wholeF d) n t=some r→∀ k∈Fil.kidsL n t,∃ a b,t=a++(k++b)
 |0,t,r,h=>fun k hk=>by cases hk
 |n+1,t,r,h=>by
  rw[Fil.times] at h
  cases hb:Fil.wholeF d t with
  |none=>rw[hb] at h;cases h
  |some b=>
   rw[hb] at h
   have h20:=Fil.whole_more hd hb
   obtain⟨_,c,hc⟩:=Fil.whole_suf d t b hb
   intro k hk
   rw[Fil.kidsL,h20] at hk
   rcases List.mem_cons.1 hk with rfl|hk
   ·exact⟨[],t.drop (t.length - b.length),by
     rw[List.nil_append]
     exact(List.take_append_drop _ _).symm⟩
   ·obtain⟨a,e,he⟩:=Fil.kids_part hd n b r h k hk
    exact⟨c++a,e,by rw[hc,he,List.append_assoc]⟩
structure LeafOK (w0:World) (s:Nat) (L:List DefS) (dn:LU) (va:Value) (lf:Fil.FilE→Int):Prop where
 no:∀ p:Fil.FilE,qq_ L p.typ≠0→lf p=2
 three:∀ p,Fil.Three (lf p)
 eql:∀ (p:Fil.FilE) (W:World) (vp:Value) (A3:Option Addr) (n3 c3:Nat),p.op=3∨p.op=8→zki_ p→qq_ L p.typ=0→Bel w0 W→TextsA W vp p.any→Calls Tryz.prog 43 #[wkV s dn va,x4_ p vp,zu_ (zt_ L p.typ) (.slice A3 n3 c3)] W fun e w'=>e= .returned (.int .i64 (lf p))∧Bel W w'
 pres:∀ (p:Fil.FilE) (W:World) (vp:Value) (A3:Option Addr) (n3 c3:Nat),p.op=7→zki_ p→qq_ L p.typ=0→Bel w0 W→TextsA W vp p.any→Calls Tryz.prog 44 #[wkV s dn va,x4_ p vp,zu_ (zt_ L p.typ) (.slice A3 n3 c3)] W fun e w'=>e= .returned (.int .i64 (lf p))∧Bel W w'
 ord:∀ (p:Fil.FilE) (W:World) (vp:Value) (A3:Option Addr) (n3 c3:Nat),p.op=5∨p.op=6→zki_ p→qq_ L p.typ=0→Bel w0 W→TextsA W vp p.any→Calls Tryz.prog 45 #[wkV s dn va,x4_ p vp,zu_ (zt_ L p.typ) (.slice A3 n3 c3)] W fun e w'=>e= .returned (.int .i64 (lf p))∧Bel W w'
 sub:∀ (p:Fil.FilE) (W:World) (vp:Value) (A3:Option Addr) (n3 c3:Nat),p.op=4→zki_ p→qq_ L p.typ=0→Bel w0 W→TextsA W vp p.any→Calls Tryz.prog 46 #[wkV s dn va,x4_ p vp,zu_ (zt_ L p.typ) (.slice A3 n3 c3)] W fun e w'=>e= .returned (.int .i64 (lf p))∧Bel W w'
theorem zi6_ (w0:World) (hw:Env w0) (s:Nat) (dn:LU) (va:Value) (hva:∃ A n c,va= .slice A n c) (p:Fil.FilE) (hop:p.op=0) (t r:List Fil.FilE) (v:Value) (w:World) (hf:FilsA w0 v (p::t)) (hb:Bel w0 w) (d:Nat) (hd:d≤20) (hn0:0≤p.n) (hwh:Fil.times (Fil.wholeF d) p.n.toNat t=some r) (hl:LimF (p::t)) (hfit:z61_ (p::t)) (ev:List Fil.FilE→Int)
  (hE:∀ k∈Fil.kidsL p.n.toNat t,∀ (u:Value) (W:World),FilsA w0 u k→Bel w0 W→Calls Tryz.prog 20 #[wkV s dn va,u] W fun e w'=>e= .returned (.int .i64 (ev k))∧Bel W w'):
  Calls Tryz.prog 20 #[wkV s dn va,v] w fun e w'=>e= .returned (.int .i64 (Fil.someF 0 1 ((Fil.kidsL p.n.toNat t).map ev)))∧Bel w w':=by
 have hS:=fun (W:World) (h:Bel w0 W)=>zj1_ w0 hw p t r v W hf h d hd hn0 hwh hl hfit (wkV s dn va) ev 0 (by omega) hE
 have hmf:=z4b_
 obtain⟨b,o,c,vy,vt,rfl,hcc,⟨c0,c1,c2,c3,c4,c5,c6⟩,hta,hsl,ht2⟩:=hf.tail
 obtain⟨A,na,cc,rfl⟩:=hva
 have hi1:(0:Int)<(t.length:Int)+1:=by omega
 obtain⟨Av,cv,rfl,_⟩:=hta.at
 have z0:=cQ hb c0
 have z1:=cQ hb c1
 have z2:=cQ hb c2
 have z3:=cQ hb c3
 have z4:=cQ hb c4
 have z5:=cQ hb c5
 have z6:=cQ hb c6
 have hb1:=ze_ w (.cells (z4_ s dn (.slice A na cc)).toArray 64)
 have k1:=Bk.new w 64 (z4_ s dn (.slice A na cc)).toArray
 obtain⟨W1,hW1⟩:∃ W1,w.alloc (.cells (z4_ s dn (.slice A na cc)).toArray 64)=W1:=⟨_,rfl⟩
 have hs1:W1.heap.size=w.heap.size+1:=by rw[← hW1];simp
 rw[hW1] at hb1 k1
 have d0:=cQ hb1 z0
 have d1:=cQ hb1 z1
 have d2:=cQ hb1 z2
 have d3:=cQ hb1 z3
 have d4:=cQ hb1 z4
 have d5:=cQ hb1 z5
 have d6:=cQ hb1 z6
 have hb2:=ze_ W1 (.cells (z5_ (p,.slice Av p.any.length cv)).toArray 45)
 have k2:=Bk.new W1 45 (z5_ (p,.slice Av p.any.length cv)).toArray
 rw[hs1] at k2
 have k1':=k1.below hb2
 have hB2:=tQ hb1 hb2
 have HB2:=hiD hB2
 obtain⟨e0,e1,e2⟩:=za_ k1'
 obtain⟨f0,f1,f2,f3,f4,f5,f6⟩:=qb_ k2
 rw[show (1:Int) - 0=1 from rfl] at hS
 have hS2:=hS _ (tQ hb hB2)
 generalize Fil.someF 0 1 ((Fil.kidsL p.n.toNat t).map ev)=R at *
 have HS:=hiD hS2
 subst hW1
 clear hS hS2 hE hf hb hb1 hb2 hB2 k1 k1' k2 hs1 hta ht2 c0 c1 c2 c3 c4 c5 c6 z0 z1 z2 z3 z4 z5 z6 hwh hfit
 rw[hop] at d0
 simp only[wkV,z4_,z5_,hop] at d0 d1 d2 d3 d4 d5 d6 e0 e1 e2 f0 f1 f2 f3 f4 f5 f6 HB2 HS
 unfold wkV z4_
 go_enter Tryz.func20,Tryz.ntmps20
 go_wp2_with (go_at_call 42;(refine HS.out.mono ?_);rintro e w3 ⟨rfl,hb3⟩)
 go_ret
 exact⟨rfl,tQ HB2.out hb3⟩
theorem zl6_ (w0:World) (hw:Env w0) (s:Nat) (dn:LU) (va:Value) (hva:∃ A n c,va= .slice A n c) (p:Fil.FilE) (hop:p.op=1) (t r:List Fil.FilE) (v:Value) (w:World) (hf:FilsA w0 v (p::t)) (hb:Bel w0 w) (d:Nat) (hd:d≤20) (hn0:0≤p.n) (hwh:Fil.times (Fil.wholeF d) p.n.toNat t=some r) (hl:LimF (p::t)) (hfit:z61_ (p::t)) (ev:List Fil.FilE→Int)
  (hE:∀ k∈Fil.kidsL p.n.toNat t,∀ (u:Value) (W:World),FilsA w0 u k→Bel w0 W→Calls Tryz.prog 20 #[wkV s dn va,u] W fun e w'=>e= .returned (.int .i64 (ev k))∧Bel W w'):
  Calls Tryz.prog 20 #[wkV s dn va,v] w fun e w'=>e= .returned (.int .i64 (Fil.someF 1 0 ((Fil.kidsL p.n.toNat t).map ev)))∧Bel w w':=by
 have hS:=fun (W:World) (h:Bel w0 W)=>zj1_ w0 hw p t r v W hf h d hd hn0 hwh hl hfit (wkV s dn va) ev 1 (by omega) hE
 have hmf:=z4b_
 obtain⟨b,o,c,vy,vt,rfl,hcc,⟨c0,c1,c2,c3,c4,c5,c6⟩,hta,hsl,ht2⟩:=hf.tail
 obtain⟨A,na,cc,rfl⟩:=hva
 have hi1:(0:Int)<(t.length:Int)+1:=by omega
 obtain⟨Av,cv,rfl,_⟩:=hta.at
 have z0:=cQ hb c0
 have z1:=cQ hb c1
 have z2:=cQ hb c2
 have z3:=cQ hb c3
 have z4:=cQ hb c4
 have z5:=cQ hb c5
 have z6:=cQ hb c6
 have hb1:=ze_ w (.cells (z4_ s dn (.slice A na cc)).toArray 64)
 have k1:=Bk.new w 64 (z4_ s dn (.slice A na cc)).toArray
 obtain⟨W1,hW1⟩:∃ W1,w.alloc (.cells (z4_ s dn (.slice A na cc)).toArray 64)=W1:=⟨_,rfl⟩
 have hs1:W1.heap.size=w.heap.size+1:=by rw[← hW1];simp
 rw[hW1] at hb1 k1
 have d0:=cQ hb1 z0
 have d1:=cQ hb1 z1
 have d2:=cQ hb1 z2
 have d3:=cQ hb1 z3
 have d4:=cQ hb1 z4
 have d5:=cQ hb1 z5
 have d6:=cQ hb1 z6
 have hb2:=ze_ W1 (.cells (z5_ (p,.slice Av p.any.length cv)).toArray 45)
 have k2:=Bk.new W1 45 (z5_ (p,.slice Av p.any.length cv)).toArray
 rw[hs1] at k2
 have k1':=k1.below hb2
 have hB2:=tQ hb1 hb2
 have HB2:=hiD hB2
 obtain⟨e0,e1,e2⟩:=za_ k1'
 obtain⟨f0,f1,f2,f3,f4,f5,f6⟩:=qb_ k2
 rw[show (1:Int) - 1=0 from rfl] at hS
 have hS2:=hS _ (tQ hb hB2)
 generalize Fil.someF 1 0 ((Fil.kidsL p.n.toNat t).map ev)=R at *
 have HS:=hiD hS2
 subst hW1
 clear hS hS2 hE hf hb hb1 hb2 hB2 k1 k1' k2 hs1 hta ht2 c0 c1 c2 c3 c4 c5 c6 z0 z1 z2 z3 z4 z5 z6 hwh hfit
 rw[hop] at d0
 simp only[wkV,z4_,z5_,hop] at d0 d1 d2 d3 d4 d5 d6 e0 e1 e2 f0 f1 f2 f3 f4 f5 f6 HB2 HS
 unfold wkV z4_
 go_enter Tryz.func20,Tryz.ntmps20
 go_wp2_with (go_at_call 42;(refine HS.out.mono ?_);rintro e w3 ⟨rfl,hb3⟩)
 go_ret
 exact⟨rfl,tQ HB2.out hb3⟩
theorem zjo_ (w0:World) (s:Nat) (dn:LU) (va:Value) (hva:∃ A n c,va= .slice A n c) (p:Fil.FilE) (hop:p.op=2) (t:List Fil.FilE) (v:Value) (w:World) (hf:FilsA w0 v (p::t)) (hb:Bel w0 w) (x:Int) (hx:Fil.Three x)
  (hE:∀ (u:Value) (W:World),FilsA w0 u t→Bel w0 W→Calls Tryz.prog 20 #[wkV s dn va,u] W fun e w'=>e= .returned (.int .i64 x)∧Bel W w'):
  Calls Tryz.prog 20 #[wkV s dn va,v] w fun e w'=>e= .returned (.int .i64 (Fil.notV x))∧Bel w w':=by
 obtain⟨b,o,c,vy,vt,rfl,hcc,⟨c0,c1,c2,c3,c4,c5,c6⟩,hta,hsl,ht2⟩:=hf.tail
 obtain⟨A,na,cc,rfl⟩:=hva
 have hi1:(0:Int)<(t.length:Int)+1:=by omega
 obtain⟨Av,cv,rfl,_⟩:=hta.at
 have z0:=cQ hb c0
 have z1:=cQ hb c1
 have z2:=cQ hb c2
 have z3:=cQ hb c3
 have z4:=cQ hb c4
 have z5:=cQ hb c5
 have z6:=cQ hb c6
 have hb1:=ze_ w (.cells (z4_ s dn (.slice A na cc)).toArray 64)
 have k1:=Bk.new w 64 (z4_ s dn (.slice A na cc)).toArray
 obtain⟨W1,hW1⟩:∃ W1,w.alloc (.cells (z4_ s dn (.slice A na cc)).toArray 64)=W1:=⟨_,rfl⟩
 have hs1:W1.heap.size=w.heap.size+1:=by rw[← hW1];simp
 rw[hW1] at hb1 k1
 have d0:=cQ hb1 z0
 have d1:=cQ hb1 z1
 have d2:=cQ hb1 z2
 have d3:=cQ hb1 z3
 have d4:=cQ hb1 z4
 have d5:=cQ hb1 z5
 have d6:=cQ hb1 z6
 have hb2:=ze_ W1 (.cells (z5_ (p,.slice Av p.any.length cv)).toArray 45)
 have k2:=Bk.new W1 45 (z5_ (p,.slice Av p.any.length cv)).toArray
 rw[hs1] at k2
 have k1':=k1.below hb2
 have hB2:=tQ hb1 hb2
 have HB2:=hiD hB2
 obtain⟨e0,e1,e2⟩:=za_ k1'
 obtain⟨f0,f1,f2,f3,f4,f5,f6⟩:=qb_ k2
 have hE2:=hE vt _ ht2 ((tQ hb hB2).drew)
 obtain⟨At,ct,rfl,hct⟩:=ht2.isSlice
 have HE:=hiD hE2
 subst hW1
 clear hE hE2 hf hb hb1 hb2 hB2 k1 k1' k2 hs1 hta ht2 c0 c1 c2 c3 c4 c5 c6 z0 z1 z2 z3 z4 z5 z6
 rw[hop] at d0
 simp only[wkV,z4_,z5_,hop] at d0 d1 d2 d3 d4 d5 d6 e0 e1 e2 f0 f1 f2 f3 f4 f5 f6 HB2 HE
 unfold wkV z4_
 unfold Fil.notV
 rcases hx with rfl|rfl|rfl
 all_goals
  go_enter Tryz.func20,Tryz.ntmps20
  go_wp2_with fail
  go_region_held3 (fun w'=>w'.cell? ⟨w.heap.size,0,none⟩=some (.pointer (some ⟨s,0,none⟩))∧w'.cell? ⟨w.heap.size,1,none⟩=some (.string ⟨dn.toArray⟩)∧w'.cell? ⟨w.heap.size,2,none⟩=some (.slice A na cc)) (first|exact⟨e0,e1,e2⟩|exact⟨cQ hb3 e0,cQ hb3 e1,cQ hb3 e2⟩) (first|(go_at_call 20;(refine HE.out.mono ?_);rintro e w3 ⟨rfl,hb3⟩)|fail)
  all_goals
   go_wp2_with fail
   go_ret
   exact⟨rfl,HB2.out.drew.trans (hb3.mono HB2.out.size)⟩
theorem zjs_ (w0:World) (hw:Env w0) (s:Nat) (ps:List Nat) (L:List DefS) (hL:Sound L) (dn:LU) (va:Value) (hva:∃ A n c,va= .slice A n c) (hS:SchAt w0 s ps L) (lf:Fil.FilE→Int) (hlf:LeafOK w0 s L dn va lf):∀ (d:Nat),d≤20→∀ (l r:List Fil.FilE) (v:Value) (w:World),Fil.wholeF d l=some r→FilsA w0 v l→Bel w0 w→LimF l→z61_ l→
  Calls Tryz.prog 20 #[wkV s dn va,v] w fun e w'=>e= .returned (.int .i64 (Fil.evalF lf d l))∧Bel w w'
 |0,_,l,r,v,w,h,_,_,_,_=>by cases h
 |d+1,_,[],r,v,w,h,_,_,_,_=>by cases h
 |d+1,hd,p::t,r,v,w,h,hf,hb,hl,hfit=>by
  have hs:Fil.shapeB p=true:=by
   unfold Fil.wholeF at h
   split at h
   ·next hs=>exact hs
   ·cases h
  have hn:=shape_n hs
  rw[Fil.wholeF,if_pos hs] at h
  have hd2:d≤20:=by omega
  have ih:=zjs_ w0 hw s ps L hL dn va hva hS lf hlf d hd2
  have hkE:∀ k∈Fil.kidsL p.n.toNat t,∀ (u:Value) (W:World),FilsA w0 u k→Bel w0 W→Calls Tryz.prog 20 #[wkV s dn va,u] W fun e w'=>e= .returned (.int .i64 (Fil.evalF lf d k))∧Bel W w':=by
   intro k hk u W hu hW
   obtain⟨ks,h1,_,h3⟩:=Fil.kids_whole hd2 p.n.toNat t r h
   obtain⟨a,e,he⟩:=Fil.kids_part hd2 p.n.toNat t r h k hk
   have hwk:LimF k:=LimF.part (a:=a) (c:=e) (by rw[← he];exact hl.tail)
   exact ih k [] u W (h3 k (h1 ▸ hk)) hu hW hwk (fun q hq=>hfit q (List.mem_cons_of_mem _ (by rw[he];exact List.mem_append_right _ (List.mem_append_left _ hq))))
  have hlp:=hl.2 p (List.mem_cons_self ..)
  have htl:=hlp.1
  rw[Fil.evalF]
  by_cases h0:p.op=0
  ·rw[if_pos h0]
   exact zi6_ w0 hw s dn va hva p h0 t r v w hf hb d hd2 hn h hl hfit _ hkE
  rw[if_neg h0]
  by_cases h1:p.op=1
  ·rw[if_pos h1]
   exact zl6_ w0 hw s dn va hva p h1 t r v w hf hb d hd2 hn h hl hfit _ hkE
  rw[if_neg h1]
  by_cases h2:p.op=2
  ·rw[if_pos h2]
   have hn1:p.n=1:=by
    rw[Fil.shape_kids8 p (.inr (.inr h2))] at hs
    simp only[Bool.and_eq_true,Bool.or_eq_true,bne_iff_ne,beq_iff_eq,h2] at hs
    rcases hs.2 with h3|h3
    ·exact absurd rfl h3
    ·exact h3
   have ht:Fil.wholeF d t=some r:=by
    rw[hn1] at h
    have h4:(Fil.wholeF d t).bind (Fil.times (Fil.wholeF d) 0)=some r:=h
    cases hx:Fil.wholeF d t with
    |none=>rw[hx] at h4;cases h4
    |some y=>rw[hx] at h4;exact h4
   exact zjo_ w0 s dn va hva p h2 t v w hf hb _ (Fil.eval_three lf hlf.three d t) fun u W hu hW=>ih t r u W ht hu hW hl.tail (fun q hq=>hfit q (List.mem_cons_of_mem _ hq))
  rw[if_neg h2]
  by_cases hc:qq_ L p.typ=0
  ·have ho:p.op=3∨p.op=4∨p.op=5∨p.op=6∨p.op=7∨p.op=8:=by
    by_cases h9:p.op<0∨8<p.op
    ·rw[Fil.shape_no p h9] at hs;cases hs
    ·omega
   have hf2:=hf.below hb
   have hS2:=hS.below hb
   rcases ho with h3|h3|h3|h3|h3|h3
   ·exact zmp_ s ps L hL dn va p h3 t v w hf2 hS2 hva (by omega) hc _ fun W vp A3 n3 c3 hW hT=>hlf.eql p W vp A3 n3 c3 (.inl h3) hlp hc (tQ hb hW) (hT.below hW)
   ·exact zll_ s ps L hL dn va p h3 t v w hf2 hS2 hva (by omega) hc _ fun W vp A3 n3 c3 hW hT=>hlf.sub p W vp A3 n3 c3 h3 hlp hc (tQ hb hW) (hT.below hW)
   ·exact znv_ s ps L hL dn va p h3 t v w hf2 hS2 hva (by omega) hc _ fun W vp A3 n3 c3 hW hT=>hlf.ord p W vp A3 n3 c3 (.inl h3) hlp hc (tQ hb hW) (hT.below hW)
   ·exact zmz_ s ps L hL dn va p h3 t v w hf2 hS2 hva (by omega) hc _ fun W vp A3 n3 c3 hW hT=>hlf.ord p W vp A3 n3 c3 (.inr h3) hlp hc (tQ hb hW) (hT.below hW)
   ·exact znn_ s ps L hL dn va p h3 t v w hf2 hS2 hva (by omega) hc _ fun W vp A3 n3 c3 hW hT=>hlf.pres p W vp A3 n3 c3 h3 hlp hc (tQ hb hW) (hT.below hW)
   ·exact zkl_ s ps L hL dn va p h3 t v w hf2 hS2 hva (by omega) hc _ fun W vp A3 n3 c3 hW hT=>hlf.eql p W vp A3 n3 c3 (.inr h3) hlp hc (tQ hb hW) (hT.below hW)
  ·rw[hlf.no p hc]
   exact zl5_ s ps L hL dn va p (by omega) t v w (hf.below hb) (hS.below hb) hva (by omega) hc
open Go.RowKit
def zcd_ (r n v:LU):Bool:=(kv_ r v).1==0 && (kv_ r v).2==n
def z3y_ (r:LU) (op:Int) (x v:LU):Bool:=(xk_ r v x).2==0 && ((xk_ r v x).1==0||(decide ((xk_ r v x).1>0)==(op==5)))
theorem zmr_ (r n x:LU) (db nb:Nat) (w:World) (hw:Env w) (hr:w.cell? ⟨db,5,none⟩=some (.string ⟨r.toArray⟩)) (hn:w.cell? ⟨nb,0,none⟩=some (.string ⟨n.toArray⟩)) (hl:r.length≤1000000):
  Calls Tryz.prog 88 #[.string ⟨x.toArray⟩,.pointer (some ⟨db,0,none⟩),.pointer (some ⟨nb,0,none⟩)] w fun e w'=>e= .returned (.bool (zcd_ r n x))∧Bel w w':=by
 have hN:Calls Tryz.prog 75 #[.string ⟨r.toArray⟩,.string ⟨x.toArray⟩] w fun e w'=>e= .returned (.tuple #[.string ⟨(kv_ r x).2.toArray⟩,.int .i64 (kv_ r x).1])∧Bel w w':=by
  rw[← zdr_]
  exact zo0_ r x w hw (by omega)
 unfold zcd_
 have HN:=hiD hN
 clear hN hw
 generalize kv_ r x=y at *
 obtain⟨er,m⟩:=y
 by_cases h0:er=0
 ·subst h0
  go_enter Tryz.func88,Tryz.ntmps88
  go_wp2_with (go_at_call 75;(with_reducible refine HN.out.mono ?_);rintro e w1 ⟨rfl,hb1⟩;have h1:=cQ hb1 hn)
  go_ret
  exact⟨j7_ (by simp),hb1⟩
 ·have h0b:(er==0)=false:=beq_eq_false_iff_ne.2 h0
  go_enter Tryz.func88,Tryz.ntmps88
  go_wp2_with (go_at_call 75;(with_reducible refine HN.out.mono ?_);rintro e w1 ⟨rfl,hb1⟩)
  go_ret
  exact⟨j7_ (by simp [h0]),hb1⟩
theorem zgf_ (r y x:LU) (op:Int) (db pb:Nat) (w:World) (hw:Env w) (hr:w.cell? ⟨db,6,none⟩=some (.string ⟨r.toArray⟩)) (h3:w.cell? ⟨pb,3,none⟩=some (.string ⟨y.toArray⟩)) (h0:w.cell? ⟨pb,0,none⟩=some (.int .i64 op)) (hl:r.length≤1000000):
  Calls Tryz.prog 91 #[.string ⟨x.toArray⟩,.pointer (some ⟨db,0,none⟩),.pointer (some ⟨pb,0,none⟩)] w fun e w'=>e= .returned (.bool (z3y_ r op y x))∧Bel w w':=by
 have hN:=zh3_ r x y w hw (by omega)
 unfold z3y_
 unfold z6d_ at hN
 have HN:=hiD hN
 clear hN hw
 generalize xk_ r x y=z at *
 obtain⟨c,er⟩:=z
 simp only at HN ⊢
 by_cases he:er=0
 ·subst he
  by_cases hc:c=0
  ·subst hc
   go_enter Tryz.func91,Tryz.ntmps91
   go_wp2_with (go_at_call 90;(with_reducible refine HN.out.mono ?_);rintro e w1 ⟨rfl,hb1⟩)
   go_ret
   exact⟨j7_ (by simp),hb1⟩
  ·have hcb:(c==0)=false:=beq_eq_false_iff_ne.2 hc
   obtain⟨G,hG⟩:∃ G,decide (c>0)=G:=⟨_,rfl⟩
   obtain⟨F,hF⟩:∃ F,(op==5)=F:=⟨_,rfl⟩
   go_enter Tryz.func91,Tryz.ntmps91
   go_wp2_with (go_at_call 90;(with_reducible refine HN.out.mono ?_);rintro e w1 ⟨rfl,hb1⟩;have k0:=cQ hb1 h0)
   go_ret
   exact⟨j7_ (by rw[hcb,← hG,← hF];simp),hb1⟩
 ·have heb:(er==0)=false:=beq_eq_false_iff_ne.2 he
  go_enter Tryz.func91,Tryz.ntmps91
  go_wp2_with (go_at_call 90;(with_reducible refine HN.out.mono ?_);rintro e w1 ⟨rfl,hb1⟩)
  go_ret
  exact⟨j7_ (by simp [he]),hb1⟩
theorem z4j_ (w:World) (s:Nat) (dn:LU) (va:Value) (p:Fil.FilE) (vp:Value) (a:AttrS) (nv:Value):∃ W,W=((w.alloc (.cells (z4_ s dn va).toArray 64)).alloc (.cells (z5_ (p,vp)).toArray 45)).alloc (.cells (z0_ a nv) 38)∧Bel w W∧W.heap.size=w.heap.size+3∧
  Bk W w.heap.size 64 (z4_ s dn va).toArray∧Bk W (w.heap.size+1) 45 (z5_ (p,vp)).toArray∧Bk W (w.heap.size+2) 38 (z0_ a nv):=by
 have hb1:=ze_ w (.cells (z4_ s dn va).toArray 64)
 have k1:=Bk.new w 64 (z4_ s dn va).toArray
 generalize hW1:w.alloc (.cells (z4_ s dn va).toArray 64)=W1 at *
 have hs1:W1.heap.size=w.heap.size+1:=by rw[← hW1];simp
 have hb2:=ze_ W1 (.cells (z5_ (p,vp)).toArray 45)
 have k2:=Bk.new W1 45 (z5_ (p,vp)).toArray
 rw[hs1] at k2
 generalize hW2:W1.alloc (.cells (z5_ (p,vp)).toArray 45)=W2 at *
 have hs2:W2.heap.size=w.heap.size+2:=by rw[← hW2];simp;omega
 have hb3:=ze_ W2 (.cells (z0_ a nv) 38)
 have k3:=Bk.new W2 38 (z0_ a nv)
 rw[hs2] at k3
 exact⟨_,rfl,(tQ hb1 hb2).trans (hb3.mono (by omega)),by simp;omega,(k1.below hb2).below hb3,k2.below hb3,k3⟩
def z9z_ (L:List DefS) (en:Ent.EntryE) (p:Fil.FilE) (r:LU):Int:=if r=[] then 2 else if (zf_ L p.typ p.val).1=0 then xv_ ((Ent.findE (zo_ L) en p.typ).any (zcd_ r (zf_ L p.typ p.val).2)) else 2
def z1o_ (L:List DefS) (en:Ent.EntryE) (p:Fil.FilE) (r:LU):Int:=if (xk_ r p.val p.val).2=0 then xv_ ((Ent.findE (zo_ L) en p.typ).any (z3y_ r p.op p.val)) else 2
theorem zlb_ (s:Nat) (ps:List Nat) (L:List DefS) (hL:Sound L) (en:Ent.EntryE) (va:Value) (p:Fil.FilE) (vp:Value) (a:AttrS) (nv:Value) (w:World) (hw:Env w) (hS:SchAt w s ps L) (hv:AttrsA w va en.attrs) (hl:en.attrs.length≤1000) (hvn:yj_ en.attrs≤1000000) (hlt:∀ a∈en.attrs,a.typ.length≤1000000) (ht:p.typ.length≤1000000) (hal:a.eqr.length≤1000000) (hva:∃ A n c,va= .slice A n c) (hvp:∃ A n c,vp= .slice A n c) (hnv:∃ A n c,nv= .slice A n c):
  Calls Tryz.prog 43 #[wkV s en.dn va,x4_ p vp,zu_ a nv] w fun e w'=>e= .returned (.int .i64 (z9z_ L en p a.eqr))∧Bel w w':=by
 obtain⟨W,hW,hB,hsz,k1,k2,k3⟩:=z4j_ w s en.dn va p vp a nv
 have hNT:=z9v_ s ps L hL.lim hL.rul hL.counts p.typ p.val W (hw.keep hB) (hS.below hB) (by omega)
 have hE:=fun (n:LU) (w3:World) (hb3:Bel W w3)=>z0k_ s ps L hL en va p vp 88 #[.pointer (some ⟨w.heap.size+2,0,none⟩),.pointer (some ⟨w3.heap.size,0,none⟩)] (zcd_ a.eqr n) (w3.alloc (.cells #[.string ⟨n.toArray⟩] 9)) ((hS.below (tQ hB hb3)).below (ze_ _ _)) ((hv.below (tQ hB hb3)).below (ze_ _ _)) hl hvn hlt ht (fun V hV=>⟨fun x _ V2 hV2=>by
  have hb4:=ze_ w3 (.cells #[.string ⟨n.toArray⟩] 9)
  have q3:=(((k3.below hb3).below hb4).below hV).below hV2
  have qn:=((Bk.new w3 9 #[.string ⟨n.toArray⟩]).below hV).below hV2
  exact zmr_ a.eqr n x (w.heap.size+2) w3.heap.size V2 ((((hw.keep (tQ hB hb3)).keep hb4).keep hV).keep hV2) (q3.cell 5) (qn.cell 0) hal,fun args V2=>by kernel_rfl⟩)
 obtain⟨A1,n1,c1,rfl⟩:=hva
 obtain⟨A2,n2,c2,rfl⟩:=hvp
 obtain⟨A3,n3,c3,rfl⟩:=hnv
 unfold z9z_
 generalize zf_ L p.typ p.val=z at *
 obtain⟨er,n⟩:=z
 simp only at hNT ⊢
 have HE:=hiD (hE n)
 have HNT:=hiD hNT
 obtain⟨x0,x1,x2⟩:=za_ k1
 obtain⟨y0,y1,y2,y3,y4,y5,y6⟩:=qb_ k2
 have z5:_=some (Value.string ⟨a.eqr.toArray⟩):=k3.cell 5
 have HB:=hiD hB
 generalize (Ent.findE (zo_ L) en p.typ).any (zcd_ a.eqr n)=r at *
 clear hE hNT hS hv hlt k1 k2 k3 hw hB hL
 unfold z8_ at HNT
 simp only[wkV,z4_,x4_,z5_,zu_,z0_] at hW HE ⊢
 generalize a.eqr=r0 at *
 subst hW
 cases r0 with
 |nil=>
  rw[if_pos rfl]
  go_enter Tryz.func43,Tryz.ntmps43
  go_wp2_with (go_at_call 34;(refine HNT.out.mono ?_);rintro e w3 ⟨rfl,hb3⟩;have z6:=cQ hb3 z5;have hbx:=ze_ w3 (.cells #[.string ⟨n.toArray⟩] 9);have z7:=cQ hbx z6)
  go_ret
  exact⟨rfl,(tQ HB.out hb3).trans (hbx.mono (nT HB.out.size hb3.size))⟩
 |cons r1 rt=>
  rw[if_neg (by simp)]
  by_cases her:er=0
  ·subst her
   rw[if_pos rfl]
   go_enter Tryz.func43,Tryz.ntmps43
   go_wp2_with (first
    |(go_at_call 34;(refine HNT.out.mono ?_);rintro e w3 ⟨rfl,hb3⟩;have hbx:=ze_ w3 (.cells #[.string ⟨n.toArray⟩] 9);have z6:=(hbx.cell (z9_ (cQ hb3 z5))).trans (cQ hb3 z5);have a0:=(hbx.cell (z9_ (cQ hb3 x0))).trans (cQ hb3 x0);have a1:=(hbx.cell (z9_ (cQ hb3 x1))).trans (cQ hb3 x1);have a2:=(hbx.cell (z9_ (cQ hb3 x2))).trans (cQ hb3 x2);have b0:=(hbx.cell (z9_ (cQ hb3 y0))).trans (cQ hb3 y0);have b1:=(hbx.cell (z9_ (cQ hb3 y1))).trans (cQ hb3 y1);have b2:=(hbx.cell (z9_ (cQ hb3 y2))).trans (cQ hb3 y2);have b3:=(hbx.cell (z9_ (cQ hb3 y3))).trans (cQ hb3 y3);have b4:=(hbx.cell (z9_ (cQ hb3 y4))).trans (cQ hb3 y4);have b5:=(hbx.cell (z9_ (cQ hb3 y5))).trans (cQ hb3 y5);have b6:=(hbx.cell (z9_ (cQ hb3 y6))).trans (cQ hb3 y6);have HBx:=hiD ((tQ HB.out hb3).trans (hbx.mono (nT HB.out.size hb3.size)));have HEx:=hiD (HE.out w3 hb3))
    |(go_at_call 87;(refine HEx.out.mono ?_);rintro e w5 ⟨rfl,hb5⟩))
   go_ret
   exact⟨rfl,tQ HBx.out hb5⟩
  ·have hne:(er !=0)=true:=by rw[bne_iff_ne];exact her
   rw[if_neg her]
   go_enter Tryz.func43,Tryz.ntmps43
   go_wp2_with (go_at_call 34;(refine HNT.out.mono ?_);rintro e w3 ⟨rfl,hb3⟩;have z6:=cQ hb3 z5;have hbx:=ze_ w3 (.cells #[.string ⟨n.toArray⟩] 9);have z7:=cQ hbx z6)
   go_ret
   exact⟨rfl,(tQ HB.out hb3).trans (hbx.mono (nT HB.out.size hb3.size))⟩
open Go.RowKit
theorem zfw_ (s:Nat) (ps:List Nat) (L:List DefS) (hL:Sound L) (en:Ent.EntryE) (va:Value) (p:Fil.FilE) (vp:Value) (a:AttrS) (nv:Value) (w:World) (hw:Env w) (hS:SchAt w s ps L) (hv:AttrsA w va en.attrs) (hl:en.attrs.length≤1000) (hvn:yj_ en.attrs≤1000000) (hlt:∀ a∈en.attrs,a.typ.length≤1000000) (ht:p.typ.length≤1000000) (hal:a.ordr.length≤1000000) (hva:∃ A n c,va= .slice A n c) (hvp:∃ A n c,vp= .slice A n c) (hnv:∃ A n c,nv= .slice A n c):
  Calls Tryz.prog 45 #[wkV s en.dn va,x4_ p vp,zu_ a nv] w fun e w'=>e= .returned (.int .i64 (z1o_ L en p a.ordr))∧Bel w w':=by
 obtain⟨W,hW,hB,hsz,k1,k2,k3⟩:=z4j_ w s en.dn va p vp a nv
 have hO:=zh3_ a.ordr p.val p.val W (hw.keep hB) (by omega)
 have hE:=fun (w3:World) (hb3:Bel W w3)=>z0k_ s ps L hL en va p vp 91 #[.pointer (some ⟨w.heap.size+2,0,none⟩),.pointer (some ⟨w.heap.size+1,0,none⟩)] (z3y_ a.ordr p.op p.val) w3 (hS.below (tQ hB hb3)) (hv.below (tQ hB hb3)) hl hvn hlt ht (fun V hV=>⟨fun x _ V2 hV2=>by
  have q3:=((k3.below hb3).below hV).below hV2
  have q2:=((k2.below hb3).below hV).below hV2
  exact zgf_ a.ordr p.val x p.op (w.heap.size+2) (w.heap.size+1) V2 (((hw.keep (tQ hB hb3)).keep hV).keep hV2) (q3.cell 6) (q2.cell 3) (q2.cell 0) hal,fun args V2=>by kernel_rfl⟩)
 obtain⟨A1,n1,c1,rfl⟩:=hva
 obtain⟨A2,n2,c2,rfl⟩:=hvp
 obtain⟨A3,n3,c3,rfl⟩:=hnv
 unfold z1o_
 unfold z6d_ at hO
 generalize xk_ a.ordr p.val p.val=z at *
 obtain⟨co,er⟩:=z
 simp only at hO ⊢
 have HE:=hiD hE
 have HO:=hiD hO
 obtain⟨x0,x1,x2⟩:=za_ k1
 obtain⟨y0,y1,y2,y3,y4,y5,y6⟩:=qb_ k2
 have z6:_=some (Value.string ⟨a.ordr.toArray⟩):=k3.cell 6
 have HB:=hiD hB
 generalize (Ent.findE (zo_ L) en p.typ).any (z3y_ a.ordr p.op p.val)=r at *
 clear hE hO hS hv hlt k1 k2 k3 hw hB hL
 simp only[wkV,z4_,x4_,z5_,zu_,z0_] at hW HE ⊢
 generalize a.ordr=r0 at *
 subst hW
 by_cases her:er=0
 ·subst her
  rw[if_pos rfl]
  go_enter Tryz.func45,Tryz.ntmps45
  go_wp2_with (first
   |(go_at_call 90;(refine HO.out.mono ?_);rintro e w3 ⟨rfl,hb3⟩;have a0:=cQ hb3 x0;have a1:=cQ hb3 x1;have a2:=cQ hb3 x2;have b0:=cQ hb3 y0;have b1:=cQ hb3 y1;have b2:=cQ hb3 y2;have b3:=cQ hb3 y3;have b4:=cQ hb3 y4;have b5:=cQ hb3 y5;have b6:=cQ hb3 y6;have HBx:=hiD (tQ HB.out hb3);have HEx:=hiD (HE.out w3 hb3))
   |(go_at_call 87;(refine HEx.out.mono ?_);rintro e w5 ⟨rfl,hb5⟩))
  go_ret
  exact⟨rfl,tQ HBx.out hb5⟩
 ·have hne:(er !=0)=true:=by rw[bne_iff_ne];exact her
  rw[if_neg her]
  go_enter Tryz.func45,Tryz.ntmps45
  go_wp2_with (go_at_call 90;(refine HO.out.mono ?_);rintro e w3 ⟨rfl,hb3⟩)
  go_ret
  exact⟨rfl,tQ HB.out hb3⟩
open Go.RowKit
theorem LeafOK.below {w0 w1:World} {s:Nat} {L:List DefS} {dn:LU} {va:Value} {lf:Fil.FilE→Int} (h:LeafOK w0 s L dn va lf) (hb:Bel w0 w1):LeafOK w1 s L dn va lf:=
 ⟨h.no,h.three,fun p W vp A3 n3 c3 ho hl hc hW hT=>h.eql p W vp A3 n3 c3 ho hl hc (tQ hb hW) hT,fun p W vp A3 n3 c3 ho hl hc hW hT=>h.pres p W vp A3 n3 c3 ho hl hc (tQ hb hW) hT,fun p W vp A3 n3 c3 ho hl hc hW hT=>h.ord p W vp A3 n3 c3 ho hl hc (tQ hb hW) hT,fun p W vp A3 n3 c3 ho hl hc hW hT=>h.sub p W vp A3 n3 c3 ho hl hc (tQ hb hW) hT⟩
theorem zgk_ (s:Nat) (ps:List Nat) (L:List DefS) (hL:Sound L) (dn:LU) (va:Value) (hva:∃ A n c,va= .slice A n c) (l:List Fil.FilE) (v:Value) (w:World) (hw:Env w) (hf:FilsA w v l) (hS:SchAt w s ps L) (lf:Fil.FilE→Int) (hlf:LeafOK w s L dn va lf) (hl:LimF l) (hn:z61_ l):
  Calls Tryz.prog 10 #[.pointer (some ⟨s,0,none⟩),.agg #[.string ⟨dn.toArray⟩,va],v] w fun e w'=>e= .returned (.int .i64 (Fil.evalL lf l))∧Bel w w':=by
 have hV:=fun (W:World) (h:Bel w W)=>z8a_ l v W (hw.keep h) (hf.below h) hl hn
 have hE:=fun (r:List Fil.FilE) (h:Fil.wholeF 20 l=some r) (W:World) (hW:Bel w W)=>zjs_ w hw s ps L hL dn va hva hS lf hlf 20 (nR _) l r v W h hf hW hl hn
 unfold Fil.evalL
 have hb1:=ze_ w (.cells #[.string ⟨dn.toArray⟩,va] 30)
 have k1:=Bk.new w 30 #[.string ⟨dn.toArray⟩,va]
 have x0:=k1.cell 0
 have x1:=k1.cell 1
 simp only[gs3] at x0 x1
 have HB1:=hiD hb1
 obtain⟨A,na,ca,rfl⟩:=hva
 obtain⟨Af,cf,rfl,_⟩:=hf.isSlice
 cases hval:Fil.validF l with
 |false=>
  rw[hval] at hV
  have HV:=hiD hV
  rw[if_neg (by simp)]
  clear hE hV hf hS hlf hval hb1 k1
  go_enter Tryz.func10,Tryz.ntmps10
  go_wp2_with (go_at_call 5;(refine(HV.out _ (by exact HB1.out)).mono ?_);rintro e w2 ⟨rfl,hb2⟩)
  go_ret
  exact⟨rfl,tQ HB1.out hb2⟩
 |true=>
  rw[hval] at hV
  have hwh:Fil.wholeF 20 l=some []:=by
   unfold Fil.validF at hval
   simp only[Bool.and_eq_true,beq_iff_eq] at hval
   exact hval.2
  have hE2:=hE [] hwh
  rw[if_pos rfl]
  generalize Fil.evalF lf 20 l=R at *
  have HV:=hiD hV
  have HE:=hiD hE2
  clear hE hE2 hV hf hS hlf hval hwh hb1 k1
  unfold wkV z4_ at HE
  go_enter Tryz.func10,Tryz.ntmps10
  go_wp2_with (first
   |(go_at_call 5;(refine(HV.out _ (by exact HB1.out)).mono ?_);rintro e w2 ⟨rfl,hb2⟩;have HB2:=hiD (tQ HB1.out hb2);have y0:=cQ hb2 x0;have y1:=cQ hb2 x1)
   |(go_at_call 20;(refine(HE.out _ (by exact HB2.out)).mono ?_);rintro e w3 ⟨rfl,hb3⟩))
  go_ret
  exact⟨rfl,tQ HB2.out hb3⟩
def vp_ (L:List DefS) (en:Ent.EntryE) (sub:Fil.FilE→Int) (p:Fil.FilE):Int:=if qq_ L p.typ=0 then (if p.op=3∨p.op=8 then z9z_ L en p (zt_ L p.typ).eqr else if p.op=5∨p.op=6 then z1o_ L en p (zt_ L p.typ).ordr else if p.op=7 then xv_ (!(Ent.findE (zo_ L) en p.typ).isEmpty) else sub p) else 2
theorem k1_ (b:Bool):Fil.Three (xv_ b):=by cases b;exact .inl rfl;exact .inr (.inl rfl)
theorem zeo_ (L:List DefS) (en:Ent.EntryE) (sub:Fil.FilE→Int) (h:∀ p,Fil.Three (sub p)) (p:Fil.FilE):Fil.Three (vp_ L en sub p):=by
 unfold vp_ z9z_ z1o_
 split
 ·split
  ·split
   ·exact .inr (.inr rfl)
   ·split
    ·exact k1_ _
    ·exact .inr (.inr rfl)
  ·split
   ·split
    ·exact k1_ _
    ·exact .inr (.inr rfl)
   ·split
    ·exact k1_ _
    ·exact h p
 ·exact .inr (.inr rfl)
theorem zfk_ {L:List DefS} {c:Bool} {x:LU} {i:Nat} (h:zg_ L c x=some i):∃ d,L[i]?=some d∧d.keys.contains (c,z2_ x)=true:=by
 unfold zg_ at h
 obtain⟨hi,hp,_⟩:=List.findIdx?_eq_some_iff_getElem.1 h
 exact⟨_,List.getElem?_eq_getElem hi,hp⟩
theorem za6_ {L:List DefS} (hlim:∀ d∈L,DefLim d) {c:Bool} {x:LU} {i:Nat} (h:zg_ L c x=some i):x.length≤1000000:=by
 obtain⟨d,hd,hk⟩:=zfk_ h
 have hl:=hlim d (List.mem_of_getElem? hd)
 have hm:=List.contains_iff_mem.1 hk
 have hs:(z2_ x).length=x.length:=by unfold z2_;rw[List.length_map]
 have hs2:∀ y:LU,(z2_ y).length=y.length:=fun y=>by unfold z2_;rw[List.length_map]
 unfold DefS.keys at hm
 obtain⟨n,hn,he⟩:=List.mem_map.1 hm
 have h1:z2_ n=z2_ x:=(Prod.mk.inj he).2
 have h2:n.length≤1000000:=by
  rcases List.mem_cons.1 hn with rfl|hn
  ·exact hl.oid
  ·exact hl.names.2 n hn
 have h3:=hs2 n
 rw[h1,hs] at h3
 omega
theorem zfb_ {L:List DefS} (hrl:∀ d∈L,RuleLim d) (t:LU):(zt_ L t).eqr.length≤1000000:=by
 unfold zt_
 cases h:qp_ L t with
 |none=>exact Nat.zero_le _
 |some a=>
  obtain⟨j,d,_,_,_,hc,_,_⟩:=kj_ h
  exact(x0_ hrl _ _ _ hc).1
theorem zej_ {L:List DefS} (hrl:∀ d∈L,RuleLim d) (t:LU):(zt_ L t).ordr.length≤1000000:=by
 unfold zt_
 cases h:qp_ L t with
 |none=>exact Nat.zero_le _
 |some a=>
  obtain⟨j,d,_,_,_,hc,_,_⟩:=kj_ h
  exact(x0_ hrl _ _ _ hc).2.1
theorem zgg_ {L:List DefS} (hrl:∀ d∈L,RuleLim d) (t:LU):(zt_ L t).subs.length≤1000000:=by
 unfold zt_
 cases h:qp_ L t with
 |none=>exact Nat.zero_le _
 |some a=>
  obtain⟨j,d,_,_,_,hc,_,_⟩:=kj_ h
  exact(x0_ hrl _ _ _ hc).2.2
theorem z07_ {L:List DefS} (hlim:∀ d∈L,DefLim d) {t:LU} (h:qq_ L t=0):t.length≤1000000:=by
 unfold qq_ at h
 cases ha:qp_ L t with
 |none=>rw[ha] at h;cases h
 |some a=>
  obtain⟨j,d,hf,_⟩:=kj_ ha
  exact za6_ hlim hf
theorem zr4_ {w:World} {s:Nat} {ps:List Nat} {L:List DefS} (hL:Sound L) {en:Ent.EntryE} {va:Value} (hw:Env w) (hS:SchAt w s ps L) (hv:AttrsA w va en.attrs) (hl:en.attrs.length≤1000) (hvn:yj_ en.attrs≤1000000) (hlt:∀ a∈en.attrs,a.typ.length≤1000000) (sub:Fil.FilE→Int) (h3:∀ p,Fil.Three (sub p))
  (hsub:∀ (p:Fil.FilE) (W:World) (vp:Value) (A3:Option Addr) (n3 c3:Nat),p.op=4→zki_ p→qq_ L p.typ=0→Bel w W→TextsA W vp p.any→Calls Tryz.prog 46 #[wkV s en.dn va,x4_ p vp,zu_ (zt_ L p.typ) (.slice A3 n3 c3)] W fun e w'=>e= .returned (.int .i64 (sub p))∧Bel W w'):
  LeafOK w s L en.dn va (vp_ L en sub):=by
 have hva:∃ A n c,va= .slice A n c:=by obtain⟨A,c,e,_⟩:=hv.isSlice;exact⟨A,_,c,e⟩
 have hvp:∀ {W:World} {vp:Value} {xs:LL},TextsA W vp xs→∃ A n c,vp= .slice A n c:=fun h=>by obtain⟨A,c,e,_⟩:=h.at;exact⟨A,_,c,e⟩
 refine⟨fun p hc=>by unfold vp_;rw[if_neg hc],zeo_ L en sub h3,fun p W vp A3 n3 c3 ho hlp hc hW hT=>?_,fun p W vp A3 n3 c3 ho hlp hc hW hT=>?_,fun p W vp A3 n3 c3 ho hlp hc hW hT=>?_,fun p W vp A3 n3 c3 ho hlp hc hW hT=>?_⟩
 ·have:=zlb_ s ps L hL en va p vp (zt_ L p.typ) (.slice A3 n3 c3) W (hw.keep hW) (hS.below hW) (hv.below hW) hl hvn hlt (z07_ hL.lim hc) (zfb_ hL.rul _) hva (hvp hT) ⟨_,_,_,rfl⟩
  unfold vp_
  rwa [if_pos hc,if_pos ho]
 ·have:=z69_ s ps L hL en va p vp (zt_ L p.typ) (.slice A3 n3 c3) W (hS.below hW) (hv.below hW) hl hvn hlt (z07_ hL.lim hc)
  unfold vp_
  rwa [if_pos hc,if_neg (by omega),if_neg (by omega),if_pos ho]
 ·have:=zfw_ s ps L hL en va p vp (zt_ L p.typ) (.slice A3 n3 c3) W (hw.keep hW) (hS.below hW) (hv.below hW) hl hvn hlt (z07_ hL.lim hc) (zej_ hL.rul _) hva (hvp hT) ⟨_,_,_,rfl⟩
  unfold vp_
  rwa [if_pos hc,if_neg (by omega),if_pos ho]
 ·have:=hsub p W vp A3 n3 c3 ho hlp hc hW hT
  unfold vp_
  rwa [if_pos hc,if_neg (by omega),if_neg (by omega),if_neg (by omega)]
open Go.RowKit
open Go.RowKit
open Go.RowKit
open Go.RowKit
def bt (l:LU) (i j:Nat):Nat:=((l.drop i).getD j 0).toNat
def ok3 (n b1 b2:Nat):Prop:=2<n∧(128≤b1∧b1≤191)∧128≤b2∧b2≤191
instance (n b1 b2:Nat):Decidable (ok3 n b1 b2):=by unfold ok3;infer_instance
def v3 (b0 b1 b2:Nat):Nat:=((b0 - 224) * 64+b1 - 128) * 64+b2 - 128
def ok4 (n b1 b2 b3:Nat):Prop:=3<n∧(128≤b1∧b1≤191)∧(128≤b2∧b2≤191)∧128≤b3∧b3≤191
instance (n b1 b2 b3:Nat):Decidable (ok4 n b1 b2 b3):=by unfold ok4;infer_instance
def v4 (b0 b1 b2 b3:Nat):Nat:=(((b0 - 240) * 64+b1 - 128) * 64+b2 - 128) * 64+b3 - 128
section
variable (l:LU) (i:Nat) (w:World) (hi:i<l.length) (hl:l.length≤1099511627776)
include hi hl
set_option maxRecDepth 100000
set_option maxHeartbeats 2000000
end
open Go.RowKit
open Go.RowKit
def zdb_ (r:Int):Int × Int:=if z0b_ r then (32,0) else if z7s_ r then (0,1) else if zeg_ r then (0,2) else (r,0)
open Go.RowKit
def RunesAt (w:World) (v:Value) (R:List Int):Prop:=
 ∃ A c,v= .slice A R.length c∧R.length≤c∧(R=[]∨∃ g o,A=some ⟨g,o,none⟩∧g<w.heap.size∧∀ j (hj:j<R.length),w.cell? ⟨g,o+j,none⟩=some (.int .i32 R[j]))
theorem RunesAt.below {w w':World} {v:Value} {R:List Int} (h:RunesAt w v R) (hb:Bel w w'):RunesAt w' v R:=by
 obtain⟨A,c,rfl,hc,h⟩:=h
 refine⟨A,c,rfl,hc,h.imp id ?_⟩
 rintro⟨g,o,rfl,hg,hx⟩
 exact⟨g,o,rfl,Nat.lt_of_lt_of_le hg hb.size,fun j hj=>(hb.cell (p:=⟨g,o+j,none⟩) hg).trans (hx j hj)⟩
def Rns (W0 w:World) (v:Value) (R:List Int):Prop:=
 w.ownsRow W0.heap.size 21 1 v R.length (R.map (Value.int .i32))∧Bel W0 w∧W0.heap.size≤w.heap.size
theorem Rns.nil (w:World):Rns w w (.slice none 0 0) []:=⟨World.ownsRow_nil _ _ _ _,bR _ _,nR _⟩
theorem Rns.below {W0 w:World} {v:Value} {xs:List Int} (h:Rns W0 w v xs):Bel W0 w:=h.2.1
theorem Rns.grow {W0 w w':World} {v:Value} {xs:List Int} (h:Rns W0 w v xs) (hb:Bel w w'):Rns W0 w' v xs:=by
 obtain⟨ho,hB,hle⟩:=h
 refine⟨ho.kept (row:=none) ⟨hb.os,hb.tape,hb.output,hb.size,fun k hk _=>hb.block k hk⟩ ?_,hB.trans (hb.mono hle),nT hle hb.size⟩
 rcases hv:v.ownBlock with _|g
 ·exact .inl rfl
 ·exact .inr (by simp)
theorem Rns.alloc {W0 w:World} {v:Value} {xs:List Int} (h:Rns W0 w v xs) (o:Obj):Rns W0 (w.alloc o) v xs:=h.grow ((bR _ _).alloc (nR _) o)
theorem Rns.grown {W0 w w':World} {v v':Value} {xs xs':List Int} (h:Rns W0 w v xs) (ho:w'.ownsRow W0.heap.size 21 1 v' xs'.length (xs'.map (Value.int .i32))) (hg:w.grownBy w' v.ownBlock):Rns W0 w' v' xs':=
 ⟨ho,h.2.1.grown hg h.2.2 (fun k hk=>(h.1.lt k hk).1),nT h.2.2 hg.size⟩
theorem Rns.at {W0 w:World} {v:Value} {xs:List Int} (h:Rns W0 w v xs):RunesAt w v xs:=by
 obtain⟨⟨h1,h2⟩,_,_⟩:=h
 rcases h2 with ⟨rfl,hn⟩|⟨g,cap,cur,rfl,r2,r3,r4,r5,r6,r7⟩
 ·exact⟨Option.none,0,by rw[hn],by omega,.inl (List.eq_nil_of_length_eq_zero hn)⟩
 ·refine⟨_,cap,rfl,r4,.inr ⟨g,0,rfl,(Array.getElem?_eq_some_iff.1 r3).1,fun j hj=>?_⟩⟩
  simp only[World.cell?,r3,Nat.zero_add]
  have:(cur.toList.take (xs.length * 1))[j]?=some (.int .i32 xs[j]):=by rw[r7];simp [hj]
  rw[List.getElem?_take] at this
  simpa [hj] using this
def z4u_ (fold:Bool):List Int→List Int→Option (List Int)
 |[],acc=>some acc
 |r::rs,acc=>if (zdb_ r).2=2 then none else if (zdb_ r).2=1 then z4u_ fold rs acc else z4u_ fold rs (acc++[if fold then zn_ (zdb_ r).1 else (zdb_ r).1])
open Go.RowKit
def z01_:List Int→List Int→List Int
 |[],acc=>acc
 |x::t,acc=>if x=32∧acc.getLast?=some 32 then z01_ t acc else z01_ t (acc++[x])
def z4v_ (R:List Int):List Int:=if R.head?=some 32 then R.tail else R
def z6h_ (R:List Int):List Int:=if R.getLast?=some 32 then R.dropLast else R
end Go.Proofs.YtbekpphodbekiaaGreatDoor
