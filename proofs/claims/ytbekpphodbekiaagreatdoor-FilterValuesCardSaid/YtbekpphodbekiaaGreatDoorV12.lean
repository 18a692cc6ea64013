import Derived.Test.YtbekpphodbekiaaGreatDoorV11
set_option linter.all false
set_option maxHeartbeats 8000000
set_option maxRecDepth 100000
namespace Go.Proofs.YtbekpphodbekiaaGreatDoor
open Go.RowKit
def xv_ (b:Bool):Int:=if b then 1 else 0
theorem zm7_ (b:Bool) (w:World):Calls Tryz.prog 150 #[.bool b] w fun e w'=>e= .returned (.int .i64 (xv_ b))∧w=w':=by
 cases b
 all_goals
  go_enter Tryz.func150,Tryz.ntmps150
  go_wp2_with fail
  go_ret
  exact⟨rfl,rfl⟩
theorem zg6_ (x:LU) (w:World):Calls Tryz.prog 89 #[.string ⟨x.toArray⟩] w fun e w'=>e= .returned (.bool true)∧Bel w w':=by
 go_enter Tryz.func89,Tryz.ntmps89
 go_wp2_with fail
 go_ret
 exact⟨rfl,bR _ _⟩
def z4_ (s:Nat) (dn:LU) (va:Value):List Value:=[.pointer (some ⟨s,0,none⟩),.string ⟨dn.toArray⟩,va]
def wkV (s:Nat) (dn:LU) (va:Value):Value:= .agg (z4_ s dn va).toArray
theorem zpt_ {w:World} {g s:Nat} {dn:LU} {va:Value} (h:Bk w g 64 (z4_ s dn va).toArray):(Instr.loadAt 64 (.pointer (some ⟨g,0,none⟩))).run Tryz.prog w= .ok (wkV s dn va) w:=by
 refine run_loadAt_mid w g 0 64 (z4_ s dn va) _ (fun j v hv=>?_) Tryz.underlying64 rfl (by kernel_rfl)
 rw[Nat.zero_add,h.cell j]
 simpa using hv
theorem zr6_ {w:World} {g:Nat} {p:Fil.FilE} {va:Value} (h:Bk w g 45 (z5_ (p,va)).toArray):(Instr.loadAt 45 (.pointer (some ⟨g,0,none⟩))).run Tryz.prog w= .ok (x4_ p va) w:=by
 refine zfa_ (fun j v hv=>?_)
 rw[Nat.zero_add,h.cell j]
 simpa using hv
theorem z0k_ (s:Nat) (ps:List Nat) (L:List DefS) (hL:Sound L) (en:Ent.EntryE) (va:Value) (p:Fil.FilE) (vp:Value) (f:FuncId) (cap:Array Value) (P:LU→Bool) (w:World) (hS:SchAt w s ps L) (hv:AttrsA w va en.attrs) (hl:en.attrs.length≤1000) (hvn:yj_ en.attrs≤1000000) (hlt:∀ a∈en.attrs,a.typ.length≤1000000) (ht:p.typ.length≤1000000)
  (hF:∀ W,Bel w W→AskS W f cap (Ent.findE (zo_ L) en p.typ) P):
  Calls Tryz.prog 87 #[wkV s en.dn va,x4_ p vp,.func (.func f) #[] cap] w fun e w'=>e= .returned (.int .i64 (xv_ ((Ent.findE (zo_ L) en p.typ).any P)))∧Bel w w':=by
 have hlen:(Ent.findE (zo_ L) en p.typ).length≤4611686018427387904:=by
  have:(Ent.findE (zo_ L) en p.typ).length≤yj_ en.attrs:=by
   unfold Ent.findE yj_
   have:∀ l:List Ent.AttrE,(l.flatMap fun a=>if (zo_ L).sub a.typ p.typ then a.vals else []).length≤(l.map fun a=>a.vals.length).sum:=by
    intro l
    induction l with
    |nil=>simp
    |cons a l ih=>
     simp only[List.flatMap_cons,List.length_append,List.map_cons,List.sum_cons]
     split
     ·omega
     ·simp only[List.length_nil];omega
   exact this en.attrs
  omega
 have hFi:=fun (W:World) (h:Bel w W)=>Find_c s ps L hL en va p.typ W (hS.below h) (hv.below h) hl hvn hlt ht
 generalize hxs:Ent.findE (zo_ L) en p.typ=xs at *
 obtain⟨A,c,rfl, -⟩:=hv.at
 clear hv
 generalize en.attrs.length=ne at *
 unfold z6y_ at hFi
 generalize en.dn=dn at *
 have HFi:=hiD hFi
 have HF:=hiD hF
 have hb1:=ze_ w (.cells #[.pointer (some ⟨s,0,none⟩),.string ⟨dn.toArray⟩,.slice A ne c] 64)
 have hb2:=ze_ (w.alloc (.cells #[.pointer (some ⟨s,0,none⟩),.string ⟨dn.toArray⟩,.slice A ne c] 64)) (.cells #[.int .i64 p.op,.int .i64 p.n,.string ⟨p.typ.toArray⟩,.string ⟨p.val.toArray⟩,.string ⟨p.ini.toArray⟩,.string ⟨p.fin.toArray⟩,vp] 45)
 have HB2:=hiD (tQ hb1 hb2)
 clear hFi hF hS hb1 hb2 hlt ht
 unfold wkV z4_ x4_
 go_enter Tryz.func87,Tryz.ntmps87
 go_wp2_with (first
  |(go_at_call 151;(refine(HFi.out _ (by exact HB2.out)).mono ?_);rintro e w3 ⟨v3,rfl,hO3,hb3⟩;obtain⟨A3,c3,rfl,_⟩:=hO3.textsA.at;have HO3:=hiD hO3;have HB3:=hiD (tQ HB2.out hb3);clear hO3)
  |(go_at_call 64;(refine(z2f_ f cap xs _ _ HO3.out.textsA hlen P (HF.out _ HB3.out)).mono ?_);rintro e w4 ⟨rfl,hb4⟩)
  |(go_at_call 150;(refine(zm7_ _ _).mono ?_);rintro e w5 ⟨rfl,rfl⟩))
 go_ret
 exact⟨rfl,tQ HB3.out hb4⟩
theorem z69_ (s:Nat) (ps:List Nat) (L:List DefS) (hL:Sound L) (en:Ent.EntryE) (va:Value) (p:Fil.FilE) (vp:Value) (a:AttrS) (nv:Value) (w:World) (hS:SchAt w s ps L) (hv:AttrsA w va en.attrs) (hl:en.attrs.length≤1000) (hvn:yj_ en.attrs≤1000000) (hlt:∀ a∈en.attrs,a.typ.length≤1000000) (ht:p.typ.length≤1000000):
  Calls Tryz.prog 44 #[wkV s en.dn va,x4_ p vp,zu_ a nv] w fun e w'=>e= .returned (.int .i64 (xv_ (!(Ent.findE (zo_ L) en p.typ).isEmpty)))∧Bel w w':=by
 have hE:=fun (W:World) (h:Bel w W)=>z0k_ s ps L hL en va p vp 89 #[] (fun _=>true) W (hS.below h) (hv.below h) hl hvn hlt ht (fun W2 _=>⟨fun x _ W3 _=>zg6_ x W3,fun args W3=>by kernel_rfl⟩)
 rw[show (Ent.findE (zo_ L) en p.typ).any (fun _=>true)=!(Ent.findE (zo_ L) en p.typ).isEmpty by cases Ent.findE (zo_ L) en p.typ<;>rfl] at hE
 generalize xv_ (!(Ent.findE (zo_ L) en p.typ).isEmpty)=r at *
 have HE:=hiD hE
 obtain⟨A,c,rfl,hc,_⟩:=hv.at
 have hb1:=ze_ w (.cells (z4_ s en.dn (.slice A en.attrs.length c)).toArray 64)
 have k1:=Bk.new w 64 (z4_ s en.dn (.slice A en.attrs.length c)).toArray
 obtain⟨W1,hW1⟩:∃ W1,w.alloc (.cells (z4_ s en.dn (.slice A en.attrs.length c)).toArray 64)=W1:=⟨_,rfl⟩
 have hs1:W1.heap.size=w.heap.size+1:=by rw[← hW1];simp
 rw[hW1] at hb1 k1
 have hb2:=ze_ W1 (.cells (z5_ (p,vp)).toArray 45)
 have k2:=Bk.new W1 45 (z5_ (p,vp)).toArray
 rw[hs1] at k2
 have hb3:=ze_ (W1.alloc (.cells (z5_ (p,vp)).toArray 45)) (.cells (z0_ a nv) 38)
 have hB:=(tQ hb1 hb2).trans (hb3.mono (nT hb1.size hb2.size))
 have l1:=zpt_ ((k1.below hb2).below hb3)
 have l2:=zr6_ (k2.below hb3)
 subst hW1
 have HB:=hiD hB
 clear hE hS hv hlt ht hb1 hb2 hb3 k1 k2 hs1 hB
 unfold wkV z4_ x4_ zu_ z0_ z5_ at *
 go_enter Tryz.func44,Tryz.ntmps44
 go_wp2_with (go_at_call 87;(refine(HE.out _ (by exact HB.out)).mono ?_);rintro e w4 ⟨rfl,hb4⟩)
 go_ret
 exact⟨rfl,tQ HB.out hb4⟩
def z51_ (k:Int):Value:= .int .i64 k
theorem zlm_ (a b:Int):Instr.sameNow (.int .i64) (z51_ a) (z51_ b)=some (decide (a=b)):=by
 simp only[Instr.sameNow,z51_]
 congr 1
theorem z5j_:z7h_ Tryz.prog 3 z51_:=zad_ (D:= .int .i64) Tryz.underlying3 zlm_
theorem z67_ (b:Bool) (w:World) (k:Int):(Instr.checkKey b 10000 3 (z51_ k)).run Tryz.prog w= .ok () w:=by
 unfold z51_
 kernel_rfl
theorem zqe_ (w:World):(zeroValue 106).run Tryz.prog w= .ok .nilFunc w:=by kernel_rfl
theorem zep_ {w:World} {m c:Nat} {es:Array MapEntry} {R:List (Int × Value)} (hw:w.heap[m]?=some (.map es c)) (h:MapR z51_ es R) (k:Int) (v:Value) (hn:jo_ R k=none):
  ∃ W es',(Instr.mapUpdate 107 (.map (some m)) (.int .i64 k) v).run Tryz.prog w= .ok () W∧W.heap[m]?=some (.map es' (c+1))∧MapR z51_ es' (R++[(k,v)])∧w.grownBy W (some m):=
 ⟨_,_,z6v_ Tryz.underlying107 z5j_ z67_ w m c es R hw h k v hn,jv_ (Array.getElem?_eq_some_iff.1 hw).1,h.push k v c,qi_ _ _ _ _⟩
theorem lookI8 {w:World} {m c:Nat} {es:Array MapEntry} {R:List (Int × Value)} (hw:w.heap[m]?=some (.map es c)) (h:MapR z51_ es R) (k:Int):
  (Instr.lookup 107 (.map (some m)) (.int .i64 k) false).run Tryz.prog w= .ok ((jo_ R k).getD .nilFunc) w:=
 zd2_ Tryz.underlying107 z5j_ z67_ zqe_ w m c es R hw h k
theorem xr_ (v3 v8 v7 v5 v6 v4:Value) (w:World):∃ W0 W1 W2 W3 W4 W5 W6:World,W0=w.alloc (.map #[] 0)∧
  (Instr.mapUpdate 107 (.map (some w.heap.size)) (.int .i64 3) v3).run Tryz.prog W0= .ok () W1∧
  (Instr.mapUpdate 107 (.map (some w.heap.size)) (.int .i64 8) v8).run Tryz.prog W1= .ok () W2∧
  (Instr.mapUpdate 107 (.map (some w.heap.size)) (.int .i64 7) v7).run Tryz.prog W2= .ok () W3∧
  (Instr.mapUpdate 107 (.map (some w.heap.size)) (.int .i64 5) v5).run Tryz.prog W3= .ok () W4∧
  (Instr.mapUpdate 107 (.map (some w.heap.size)) (.int .i64 6) v6).run Tryz.prog W4= .ok () W5∧
  (Instr.mapUpdate 107 (.map (some w.heap.size)) (.int .i64 4) v4).run Tryz.prog W5= .ok () W6∧
  W0.grownBy W1 (some w.heap.size)∧W1.grownBy W2 (some w.heap.size)∧W2.grownBy W3 (some w.heap.size)∧W3.grownBy W4 (some w.heap.size)∧W4.grownBy W5 (some w.heap.size)∧W5.grownBy W6 (some w.heap.size)∧
  (Instr.lookup 107 (.map (some w.heap.size)) (.int .i64 3) false).run Tryz.prog W6= .ok v3 W6∧(Instr.lookup 107 (.map (some w.heap.size)) (.int .i64 8) false).run Tryz.prog W6= .ok v8 W6∧(Instr.lookup 107 (.map (some w.heap.size)) (.int .i64 7) false).run Tryz.prog W6= .ok v7 W6∧(Instr.lookup 107 (.map (some w.heap.size)) (.int .i64 5) false).run Tryz.prog W6= .ok v5 W6∧(Instr.lookup 107 (.map (some w.heap.size)) (.int .i64 6) false).run Tryz.prog W6= .ok v6 W6∧(Instr.lookup 107 (.map (some w.heap.size)) (.int .i64 4) false).run Tryz.prog W6= .ok v4 W6:=by
 have h0:(w.alloc (.map #[] 0)).heap[w.heap.size]?=some (.map #[] 0):=heap_alloc_new w _
 obtain⟨W1,e1,u1,h1,r1,g1⟩:=zep_ h0 (MapR.nil z51_) 3 v3 rfl
 obtain⟨W2,e2,u2,h2,r2,g2⟩:=zep_ h1 r1 8 v8 rfl
 obtain⟨W3,e3,u3,h3,r3,g3⟩:=zep_ h2 r2 7 v7 rfl
 obtain⟨W4,e4,u4,h4,r4,g4⟩:=zep_ h3 r3 5 v5 rfl
 obtain⟨W5,e5,u5,h5,r5,g5⟩:=zep_ h4 r4 6 v6 rfl
 obtain⟨W6,e6,u6,h6,r6,g6⟩:=zep_ h5 r5 4 v4 rfl
 refine⟨_,W1,W2,W3,W4,W5,W6,rfl,u1,u2,u3,u4,u5,u6,g1,g2,g3,g4,g5,g6,?_,?_,?_,?_,?_,?_⟩
 all_goals (rw[lookI8 h6 r6];rfl)
theorem za_ {w:World} {g:Nat} {t:TypeId} {c0 c1 c2:Value} (h:Bk w g t #[c0,c1,c2]):w.cell? ⟨g,0,none⟩=some c0∧w.cell? ⟨g,1,none⟩=some c1∧w.cell? ⟨g,2,none⟩=some c2:=⟨h.cell 0,h.cell 1,h.cell 2⟩
theorem qb_ {w:World} {g:Nat} {t:TypeId} {c0 c1 c2 c3 c4 c5 c6:Value} (h:Bk w g t #[c0,c1,c2,c3,c4,c5,c6]):w.cell? ⟨g,0,none⟩=some c0∧w.cell? ⟨g,1,none⟩=some c1∧w.cell? ⟨g,2,none⟩=some c2∧w.cell? ⟨g,3,none⟩=some c3∧w.cell? ⟨g,4,none⟩=some c4∧w.cell? ⟨g,5,none⟩=some c5∧w.cell? ⟨g,6,none⟩=some c6:=⟨h.cell 0,h.cell 1,h.cell 2,h.cell 3,h.cell 4,h.cell 5,h.cell 6⟩
theorem k3_ {w:World} {g:Nat} {t:TypeId} {c0 c1 c2 c3 c4 c5 c6 c7 c8 c9 c10:Value} (h:Bk w g t #[c0,c1,c2,c3,c4,c5,c6,c7,c8,c9,c10]):w.cell? ⟨g,0,none⟩=some c0∧w.cell? ⟨g,1,none⟩=some c1∧w.cell? ⟨g,2,none⟩=some c2∧w.cell? ⟨g,3,none⟩=some c3∧w.cell? ⟨g,4,none⟩=some c4∧w.cell? ⟨g,5,none⟩=some c5∧w.cell? ⟨g,6,none⟩=some c6∧w.cell? ⟨g,7,none⟩=some c7∧w.cell? ⟨g,8,none⟩=some c8∧w.cell? ⟨g,9,none⟩=some c9∧w.cell? ⟨g,10,none⟩=some c10:=⟨h.cell 0,h.cell 1,h.cell 2,h.cell 3,h.cell 4,h.cell 5,h.cell 6,h.cell 7,h.cell 8,h.cell 9,h.cell 10⟩
theorem jx_ {w W0 W1 W2 W3 W4 W5 W6:World} {m:Nat} (h:Bel w W0) (hm:w.heap.size≤m) (g1:W0.grownBy W1 (some m)) (g2:W1.grownBy W2 (some m)) (g3:W2.grownBy W3 (some m)) (g4:W3.grownBy W4 (some m)) (g5:W4.grownBy W5 (some m)) (g6:W5.grownBy W6 (some m)):Bel w W6:=by
 have k:∀ x,some m=some x→w.heap.size≤x:=fun x e=>by cases e;exact hm
 exact(((((h.grown g1 h.size k).grown g2 (nT h.size g1.size) k).grown g3 (nT h.size (nT g1.size g2.size)) k).grown g4 (nT h.size (nT g1.size (nT g2.size g3.size))) k).grown g5 (nT h.size (nT g1.size (nT g2.size (nT g3.size g4.size)))) k).grown g6 (nT h.size (nT g1.size (nT g2.size (nT g3.size (nT g4.size g5.size))))) k
def fnW (f:FuncId) (s:Nat) (dn:LU) (va:Value):Value:= .func (.func f) #[wkV s dn va] #[]
theorem zop_ (s:Nat) (ps:List Nat) (L:List DefS) (hL:Sound L) (en:Ent.EntryE) (va:Value) (p:Fil.FilE) (hop:p.op=7) (t:List Fil.FilE) (v:Value) (w:World) (hf:FilsA w v (p::t)) (hS:SchAt w s ps L) (hv:AttrsA w va en.attrs) (hl:en.attrs.length≤1000) (hvn:yj_ en.attrs≤1000000) (hlt:∀ a∈en.attrs,a.typ.length≤1000000) (ht:p.typ.length≤1000000) (hc:qq_ L p.typ=0):
  Calls Tryz.prog 20 #[wkV s en.dn va,v] w fun e w'=>e= .returned (.int .i64 (xv_ (!(Ent.findE (zo_ L) en p.typ).isEmpty)))∧Bel w w':=by
 have hP:=fun (W:World) (h:Bel w W) (vp:Value) (a:AttrS) (nv:Value)=>z69_ s ps L hL en va p vp a nv W (hS.below h) (hv.below h) hl hvn hlt ht
 have hAt:=fun (W:World) (h:Bel w W)=>x7_ s ps L hL p.typ W (hS.below h) (by omega)
 rw[hc] at hAt
 generalize xv_ (!(Ent.findE (zo_ L) en p.typ).isEmpty)=r at *
 generalize zt_ L p.typ=ad at *
 obtain⟨b,o,c,vy,vt,rfl,hcc,⟨c0,c1,c2,c3,c4,c5,c6⟩,hta,hsl,ht2⟩:=hf.tail
 obtain⟨A,cc,rfl,_⟩:=hv.at
 have hmm:=@run_makeMap Tryz.prog
 have hmf:=z4b_
 have HP:=hiD hP
 have HAt:=hiD hAt
 have hi1:(0:Int)<(t.length:Int)+1:=by omega
 obtain⟨Av,cv,rfl,_⟩:=hta.at
 have hb1:=ze_ w (.cells (z4_ s en.dn (.slice A en.attrs.length cc)).toArray 64)
 have k1:=Bk.new w 64 (z4_ s en.dn (.slice A en.attrs.length cc)).toArray
 obtain⟨W1,hW1⟩:∃ W1,w.alloc (.cells (z4_ s en.dn (.slice A en.attrs.length cc)).toArray 64)=W1:=⟨_,rfl⟩
 have hs1:W1.heap.size=w.heap.size+1:=by rw[← hW1];simp
 rw[hW1] at hb1 k1
 have d0:=cQ hb1 c0
 have d1:=cQ hb1 c1
 have d2:=cQ hb1 c2
 have d3:=cQ hb1 c3
 have d4:=cQ hb1 c4
 have d5:=cQ hb1 c5
 have d6:=cQ hb1 c6
 have hb2:=ze_ W1 (.cells (z5_ (p,.slice Av p.any.length cv)).toArray 45)
 have k2:=Bk.new W1 45 (z5_ (p,.slice Av p.any.length cv)).toArray
 rw[hs1] at k2
 have k1':=k1.below hb2
 have HB2:=hiD (tQ hb1 hb2)
 obtain⟨e0,e1,e2⟩:=za_ k1'
 obtain⟨f0,f1,f2,f3,f4,f5,f6⟩:=qb_ k2
 rw[hop] at d0
 have K1:=hiD k1'
 have K2:=hiD k2
 subst hW1
 clear hP hAt hf hS hv hlt ht hb1 hb2 k1 k1' k2 hs1 hta ht2 hsl c0 c1 c2 c3 c4 c5 c6 hc
 have hent:∀ (args:Array Value) (W:World),(callFunc 44 args).run Tryz.prog W= .ok (.enter 44 args) W:=fun args W=>by kernel_rfl
 simp only[wkV,z4_,x4_,zu_,z0_] at HP HAt
 simp only[z4_,z5_,hop] at d0 d1 d2 d3 d4 d5 d6 e0 e1 e2 f0 f1 f2 f3 f4 f5 f6 HB2 K1 K2 HP
 unfold wkV z4_
 go_enter Tryz.func20,Tryz.ntmps20
 go_wp2_with (first
  |(go_at_call 11;(refine(HAt.out _ (by exact HB2.out)).mono ?_);rintro e w3 ⟨hb3,A3,n3,c3,rfl⟩;have hb4:=ze_ w3 (.cells (z0_ ad (.slice A3 n3 c3)) 38);have k4:=Bk.new w3 38 (z0_ ad (.slice A3 n3 c3));have HB4:=hiD ((tQ HB2.out hb3).trans (hb4.mono (nT HB2.out.size hb3.size)));have q1:=(K1.out.below hb3).below hb4;have q2:=(K2.out.below hb3).below hb4;have hz3:w.heap.size+1<w3.heap.size:=Nat.lt_of_lt_of_le (by simp) hb3.size;obtain⟨W0,W1,W2,W3,W4,W5,W6,hW0,u1,u2,u3,u4,u5,u6,g1,g2,g3,g4,g5,g6,l3,l8,l7,l5,l6,l4⟩:=xr_ (fnW 43 s en.dn (.slice A en.attrs.length cc)) (fnW 43 s en.dn (.slice A en.attrs.length cc)) (fnW 44 s en.dn (.slice A en.attrs.length cc)) (fnW 45 s en.dn (.slice A en.attrs.length cc)) (fnW 45 s en.dn (.slice A en.attrs.length cc)) (fnW 46 s en.dn (.slice A en.attrs.length cc)) (w3.alloc (.cells (z0_ ad (.slice A3 n3 c3)) 38));rw[World.size_alloc] at u1 g1 u2 g2 u3 g3 u4 g4 u5 g5 u6 g6 l7;clear l3 l8 l5 l6 l4;have hb5:=ze_ (w3.alloc (.cells (z0_ ad (.slice A3 n3 c3)) 38)) (.map #[] 0);rw[← hW0] at hb5;have q1_0:=q1.below hb5;have q2_0:=q2.below hb5;have q4_0:=k4.below hb5;have q1_1:=q1_0.grown g1 (by simp;omega);have q2_1:=q2_0.grown g1 (by simp;omega);have q4_1:=q4_0.grown g1 (by simp);have q1_2:=q1_1.grown g2 (by simp;omega);have q2_2:=q2_1.grown g2 (by simp;omega);have q4_2:=q4_1.grown g2 (by simp);have q1_3:=q1_2.grown g3 (by simp;omega);have q2_3:=q2_2.grown g3 (by simp;omega);have q4_3:=q4_2.grown g3 (by simp);have q1_4:=q1_3.grown g4 (by simp;omega);have q2_4:=q2_3.grown g4 (by simp;omega);have q4_4:=q4_3.grown g4 (by simp);have q1_5:=q1_4.grown g5 (by simp;omega);have q2_5:=q2_4.grown g5 (by simp;omega);have q4_5:=q4_4.grown g5 (by simp);have q1_6:=q1_5.grown g6 (by simp;omega);have q2_6:=q2_5.grown g6 (by simp;omega);have q4_6:=q4_5.grown g6 (by simp);have HB6:Hid (Bel w W6):=hiD (jx_ (tQ HB4.out hb5) (by omega) g1 g2 g3 g4 g5 g6);obtain⟨a0_0,a0_1,a0_2⟩:=za_ q1_0;obtain⟨a1_0,a1_1,a1_2⟩:=za_ q1_1;obtain⟨a2_0,a2_1,a2_2⟩:=za_ q1_2;obtain⟨a3_0,a3_1,a3_2⟩:=za_ q1_3;obtain⟨a4_0,a4_1,a4_2⟩:=za_ q1_4;obtain⟨a5_0,a5_1,a5_2⟩:=za_ q1_5;obtain⟨z0,z1,z2,z3,z4,z5,z6⟩:=qb_ q2_6;obtain⟨y0,y1,y2,y3,y4,y5,y6,y7,y8,y9,y10⟩:=k3_ q4_6;subst hW0;clear q1_1 q2_1 q4_1 g1 q1_2 q2_2 q4_2 g2 q1_3 q2_3 q4_3 g3 q1_4 q2_4 q4_4 g4 q1_5 q2_5 q4_5 g5 q1_6 q2_6 q4_6 g6 q1_0 q2_0 q4_0 q1 q2 k4 hb3 hb4 hb5;simp only[fnW,wkV,z4_,z0_] at u1 u2 u3 u4 u5 u6 l7 a0_0 a0_1 a0_2)
  |(go_at_call 44;(refine(HP.out _ (by exact HB6.out) _ _ _).mono ?_);rintro e w9 ⟨rfl,hb9⟩))
 go_ret
 exact⟨rfl,tQ HB6.out hb9⟩
end Go.Proofs.YtbekpphodbekiaaGreatDoor
