import Derived.Test.YtakfpngfpknedaaGreatDoorE0k
set_option linter.all false
set_option maxHeartbeats 8000000
set_option maxRecDepth 100000
namespace Go.Proofs.YtakfpngfpknedaaGreatDoor
open Go.RowKit
theorem SchB.at {B:Nat} {w:World} {s m:Nat} {ps:List Nat} {L:List DefS} (h:SchB B w s m ps L):SchAt w s ps L:=by
 obtain⟨⟨lv,h1,h2⟩,⟨es,c,h3,h4⟩,h5,h6,h7,_⟩:=h
 exact⟨⟨lv,m,es,c,h1,h2.reads,h3,h4⟩,h5,h6,h7⟩
theorem unk_c (bs bc s:Nat) (ps:List Nat) (L:List DefS) (c:Bool) (x:LU) (w:World) (hS:SchAt w s ps L) (h1:w.cell? ⟨bs,0,none⟩=some (z7_ s)) (h2:w.cell? ⟨bc,0,none⟩=some (.bool c)) (hx:x.length≤1000000):
  Calls Tryz.prog 118 #[.string ⟨x.toArray⟩,z7_ bs,z7_ bc] w fun e w'=>e= .returned (.bool (zk_ L c x).isNone)∧Bel w w':=by
 have HF:=hiD (z5j_ s ps L c x w hS hx)
 have h1':w.cell? ⟨bs,0,none⟩=some (.pointer (some ⟨s,0,none⟩)):=h1
 clear hS h1
 unfold z7_ at HF ⊢
 cases hf:zk_ L c x
 all_goals
  rw[hf] at HF
  unfold zkx_ at HF
  simp only[z7_] at HF
  go_enter Tryz.func118,Tryz.ntmps118
  go_wp2_with (go_at_call 119;refine HF.out.mono ?_;rintro e w1 ⟨rfl,hb⟩)
  go_ret
  exact⟨rfl,hb⟩
theorem v0_ (bs:Nat) (c:Bool) (w:World):
  Calls Tryz.prog 117 #[.bool c,.pointer (some ⟨bs,0,none⟩)] w fun e w'=>e= .returned (.func (.func 118) #[] #[.pointer (some ⟨bs,0,none⟩),.pointer (some ⟨w.heap.size,0,none⟩)])∧w'=w.alloc (.cells #[.bool c] 4):=by
 have hmf:=z2x_
 go_enter Tryz.func117,Tryz.ntmps117
 go_wp2_with fail
 go_ret
 exact⟨rfl,rfl⟩
def zfi_ (L:List DefS) (c:Bool) (xs:LL):Bool:=xs.any fun n=>(zk_ L c n).isNone
theorem unks_c (bs bc s:Nat) (ps:List Nat) (L:List DefS) (c:Bool) (xs:LL) (v:Value) (w:World) (hv:Texts w v xs) (hS:SchAt w s ps L) (h1:w.cell? ⟨bs,0,none⟩=some (z7_ s)) (h2:w.cell? ⟨bc,0,none⟩=some (.bool c)) (hx:xs.length≤1000000∧∀ x∈xs,x.length≤1000000):
  Calls Tryz.prog 86 #[v,.func (.func 118) #[] #[z7_ bs,z7_ bc]] w fun e w'=>e= .returned (.bool (zfi_ L c xs))∧Bel w w':=
 j4_ 118 #[z7_ bs,z7_ bc] xs v w hv hx.1 (fun n=>(zk_ L c n).isNone)
  ⟨fun x hxx W hb=>unk_c bs bc s ps L c x W (hS.below hb) ((hb.cell (p:=⟨bs,0,none⟩) (z9_ h1)).trans h1) ((hb.cell (p:=⟨bc,0,none⟩) (z9_ h2)).trans h2) (hx.2 x hxx),fun _ _=>by kernel_rfl⟩
theorem zdv_ (L:List DefS) (d:DefS):xb_ L d=(!zfi_ L d.cls d.sup && !zfi_ L false d.must && !zfi_ L false d.may):=by
 unfold xb_ zfi_
 have h:∀ (c:Bool) (xs:LL),xs.all (fun n=>(zk_ L c n).isSome)=!(xs.any fun n=>(zk_ L c n).isNone):=by
  intro c xs
  induction xs with
  |nil=>rfl
  |cons x xs ih=>
   rw[List.all_cons,List.any_cons,ih]
   cases zk_ L c x<;>simp
 rw[h,h,h]
theorem zjf_ (s p:Nat) (ps:List Nat) (L:List DefS) (d:DefS) (w:World) (hS:SchAt w s ps L) (hd:DefAt w p d) (hl:DefLim d):
  Calls Tryz.prog 76 #[z7_ s,z7_ p] w fun e w'=>e= .returned (.bool (xb_ L d))∧Bel w w':=by
 rw[zdv_]
 have hmf:=z2x_
 obtain⟨vn,vs,vm,vy,hB,_,t3,t4,t5⟩:=id hd
 obtain⟨A3,n3,c3,rfl⟩:=t3.isSlice
 obtain⟨A4,n4,c4,rfl⟩:=t4.isSlice
 obtain⟨A5,n5,c5,rfl⟩:=t5.isSlice
 have KEEP:∀ W,Below (w.heap.size+1) (w.alloc (.cells #[.pointer (some ⟨s,0,none⟩)] 32)) W→W.cell? ⟨p,0,none⟩=some (.bool d.cls)∧W.cell? ⟨p,3,none⟩=some (.slice A3 n3 c3)∧W.cell? ⟨p,4,none⟩=some (.slice A4 n4 c4)∧W.cell? ⟨p,5,none⟩=some (.slice A5 n5 c5)∧Below (w.heap.size+1) (w.alloc (.cells #[.pointer (some ⟨s,0,none⟩)] 32)) W:=by
  intro W hb
  have hB2:=(hB.alloc (.cells #[.pointer (some ⟨s,0,none⟩)] 32)).below (hb.mono (by simp))
  exact⟨hB2.cell 0,hB2.cell 3,hB2.cell 4,hB2.cell 5,hb⟩
 have hba:Bel w (w.alloc (.cells #[.pointer (some ⟨s,0,none⟩)] 32)):=(bR _ _).alloc (nR _) _
 have UNK:∀ (c:Bool) (xs:LL) (v:Value),Texts w v xs→(xs.length≤1000000∧∀ x∈xs,x.length≤1000000)→∀ (W:World) (bc:Nat),Below (w.heap.size+1) (w.alloc (.cells #[.pointer (some ⟨s,0,none⟩)] 32)) W→W.cell? ⟨bc,0,none⟩=some (.bool c)→
   Calls Tryz.prog 86 #[v,.func (.func 118) #[] #[.pointer (some ⟨w.heap.size,0,none⟩),.pointer (some ⟨bc,0,none⟩)]] W fun e w'=>e= .returned (.bool (zfi_ L c xs))∧Bel W w':=by
  intro c xs v hv hx W bc hb hc
  have hb':Bel w W:=hba.trans (hb.mono (by simp))
  refine unks_c w.heap.size bc s ps L c xs v W (hv.below hb') (hS.below hb') ?_ hc hx
  have:=(Bk.new w 32 #[.pointer (some ⟨s,0,none⟩)]).below (hb.mono (by simp))
  exact this.cell 0
 have U1:=UNK d.cls d.sup _ t3 hl.sup
 have U2:=UNK false d.must _ t4 hl.must
 have U3:=UNK false d.may _ t5 hl.may
 generalize zfi_ L d.cls d.sup=a1 at U1 ⊢
 generalize zfi_ L false d.must=a2 at U2 ⊢
 generalize zfi_ L false d.may=a3 at U3 ⊢
 have HU1:=hiD U1
 have HU2:=hiD U2
 have HU3:=hiD U3
 have HK:=hiD KEEP
 have hk0:=KEEP _ (bR _ _)
 have hk1:=hk0.1
 have hk2:=hk0.2.1
 have hk3:=hk0.2.2.1
 have hk4:=hk0.2.2.2.1
 clear UNK U1 U2 U3 KEEP t3 t4 t5 hB hd hS hl hk0
 unfold z7_
 cases a1
 ·cases a2
  ·cases a3
   all_goals
    go_enter Tryz.func76,Tryz.ntmps76
    go_wp2_with fail
    go_region_held3 (fun W=>W.cell? ⟨p,0,none⟩=some (.bool d.cls)∧W.cell? ⟨p,3,none⟩=some (.slice A3 n3 c3)∧W.cell? ⟨p,4,none⟩=some (.slice A4 n4 c4)∧W.cell? ⟨p,5,none⟩=some (.slice A5 n5 c5)∧Below (w.heap.size+1) (w.alloc (.cells #[.pointer (some ⟨s,0,none⟩)] 32)) W) (first|exact HK.out _ (bR _ _)|exact HK.out _ (bR _ _).drew|exact HK.out _ ((bR _ _).alloc (by simp) _)|exact HK.out _ (((bR _ _).alloc (by simp) _).drew)|exact HK.out _ hB2|exact HK.out _ (hB2.alloc hz2 _)|exact HK.out _ hB3|exact HK.out _ (hB3.alloc hz3 _)|(exact HK.out _ hB4)|fail) (first
       |(go_at_call 117;(with_reducible refine(v0_ _ _ _).mono ?_);rintro e w' ⟨rfl,rfl⟩)
       |(go_at_call 86;(with_reducible refine(HU1.out _ _ (((bR _ _).alloc (by simp) _).drew) (by simp)).mono ?_);rintro e w2 ⟨rfl,hb2⟩;have hB2:Below (w.heap.size+1) (w.alloc (.cells #[.pointer (some ⟨s,0,none⟩)] 32)) w2:=((bR _ _).alloc (by simp) _).drew.trans (hb2.mono (by simp));have hz2:w.heap.size+1≤w2.heap.size:=(by have:=hB2.size;simpa using this))
       |(go_at_call 86;(with_reducible refine(HU2.out _ _ (hB2.alloc hz2 _) (by simp)).mono ?_);rintro e w3 ⟨rfl,hb3⟩;have hB3:Below (w.heap.size+1) (w.alloc (.cells #[.pointer (some ⟨s,0,none⟩)] 32)) w3:=(hB2.alloc hz2 _).trans (hb3.mono (by simp;omega));have hz3:w.heap.size+1≤w3.heap.size:=(by have:=hB3.size;simpa using this))
       |(go_at_call 86;(with_reducible refine(HU3.out _ _ (hB3.alloc hz3 _) (by simp)).mono ?_);rintro e w4 ⟨rfl,hb4⟩;have hB4:Below (w.heap.size+1) (w.alloc (.cells #[.pointer (some ⟨s,0,none⟩)] 32)) w4:=(hB3.alloc hz3 _).trans (hb4.mono (by simp;omega))))
    all_goals
     go_wp2_with fail
     go_ret
     exact⟨rfl,hba.trans (hB4.mono (by simp))⟩
  ·clear HU3
   go_enter Tryz.func76,Tryz.ntmps76
   go_wp2_with fail
   refine wp_region_noPanic ?_
   refine wp_region_held_drew (S:=(fun W=>W.cell? ⟨p,0,none⟩=some (.bool d.cls)∧W.cell? ⟨p,3,none⟩=some (.slice A3 n3 c3)∧W.cell? ⟨p,4,none⟩=some (.slice A4 n4 c4)∧W.cell? ⟨p,5,none⟩=some (.slice A5 n5 c5)∧Below (w.heap.size+1) (w.alloc (.cells #[.pointer (some ⟨s,0,none⟩)] 32)) W)) (by kernel_rfl) ?_ (fun hHeld=>?_)
   ·exact HK.out _ (bR _ _).drew
   refine wpAnyH_take (i:=0) (v:=?v0) rfl (by kernel_rfl) (by kernel_rfl) (by kernel_rfl) (fun _ _ _ h=>h) (Or.inl ⟨by rfl,?y0⟩) hHeld ?_
   case y0=>(intro w hSw;(try dsimp only at hSw);go_simp;first|done|(with_reducible rfl))
   simp only[gsx,Act.put]
   refine wpAnyH_take (i:=1) (v:=?v1) rfl (by kernel_rfl) (by kernel_rfl) (by kernel_rfl) (fun _ _ _ h=>h) (Or.inl ⟨by rfl,?y1⟩) hHeld ?_
   case y1=>(intro w hSw;(try dsimp only at hSw);go_simp;first|done|(with_reducible rfl))
   simp only[gsx,Act.put]
   refine wpAnyH_take (i:=2) (v:=?v2) rfl (by kernel_rfl) (by kernel_rfl) (by kernel_rfl) (fun _ _ _ h=>h) (Or.inl ⟨by rfl,?y2⟩) hHeld ?_
   case y2=>(intro w hSw;(try dsimp only at hSw);go_simp;first|done|(with_reducible rfl))
   simp only[gsx,Act.put]
   refine wpAnyH_take (i:=3) (v:=?v3) rfl (by kernel_rfl) (by kernel_rfl) (by kernel_rfl) (fun _ _ _ h=>h) (Or.inl ⟨by rfl,?y3⟩) hHeld ?_
   case y3=>(intro w hSw;(try dsimp only at hSw);go_simp;first|done|(with_reducible rfl))
   simp only[gsx,Act.put]
   refine wpAnyH_take (i:=4) (v:=?v4) rfl (by kernel_rfl) (by kernel_rfl) (by kernel_rfl) (fun _ _ _ h=>h) (Or.inl ⟨by rfl,?y4⟩) hHeld ?_
   case y4=>(intro w hSw;(try dsimp only at hSw);go_simp;first|done|(with_reducible rfl))
   simp only[gsx,Act.put]
   refine wpAnyH_take (i:=5) (v:=?v5) rfl (by kernel_rfl) (by kernel_rfl) (by kernel_rfl) (fun _ _ _ h=>h) (Or.inl ⟨by rfl,?y5⟩) hHeld ?_
   case y5=>(intro w hSw;(try dsimp only at hSw);go_simp;first|done|(with_reducible rfl))
   simp only[gsx,Act.put]
   refine wpAnyH_take (i:=6) (v:=?v6) rfl (by kernel_rfl) (by kernel_rfl) (by kernel_rfl) (fun _ _ _ h=>h) (Or.inl ⟨by rfl,?y6⟩) hHeld ?_
   case y6=>(intro w hSw;(try dsimp only at hSw);go_simp;first|done|(with_reducible rfl))
   simp only[gsx,Act.put]
   refine wpAnyH_take (i:=7) (v:=?v7) rfl (by kernel_rfl) (by kernel_rfl) (by kernel_rfl) (fun _ _ _ h=>h) (Or.inl ⟨by rfl,?y7⟩) hHeld ?_
   case y7=>(intro w hSw;(try dsimp only at hSw);go_simp;first|done|(with_reducible rfl))
   simp only[gsx,Act.put]
   refine wpAnyH_take (i:=8) (v:=?v8) rfl (by kernel_rfl) (by kernel_rfl) (by kernel_rfl) (fun _ _ _ h=>h) (Or.inl ⟨by rfl,?y8⟩) hHeld ?_
   case y8=>(intro w hSw;(try dsimp only at hSw);go_simp;first|done|(with_reducible rfl))
   simp only[gsx,Act.put]
   refine wpAnyH_ready (rs:=[9]) (by kernel_rfl) (by simp) ?_
   refine AllReadyH.cons rfl (fun K hK=>?_) AllReadyH.nil
   go_simp
   (refine(v0_ _ _ _).mono ?_;rintro e w' ⟨rfl,rfl⟩)
   (try go_wp2_with fail)
   refine hK.out _ _ ?_ (fun hHeld=>?_)
   ·exact HK.out _ (((bR _ _).alloc (by simp) _).drew)
   clear hK K
   try simp only[gsx,Act.put]
   refine wpAnyH_ready (rs:=[10]) (by kernel_rfl) (by simp) ?_
   refine AllReadyH.cons rfl (fun K hK=>?_) AllReadyH.nil
   go_simp
   (refine(HU1.out _ _ (((bR _ _).alloc (by simp) _).drew) (by simp)).mono ?_;rintro e w2 ⟨rfl,hb2⟩;have hB2:Below (w.heap.size+1) (w.alloc (.cells #[.pointer (some ⟨s,0,none⟩)] 32)) w2:=((bR _ _).alloc (by simp) _).drew.trans (hb2.mono (by simp));have hz2:w.heap.size+1≤w2.heap.size:=(by have:=hB2.size;simpa using this))
   (try go_wp2_with fail)
   refine hK.out _ _ ?_ (fun hHeld=>?_)
   ·exact HK.out _ hB2
   clear hK K
   try simp only[gsx,Act.put]
   refine wpAnyH_take (i:=11) (v:=?v11) rfl (by kernel_rfl) (by kernel_rfl) (by kernel_rfl) (fun _ _ _ h=>h) (Or.inl ⟨by rfl,?y11⟩) hHeld ?_
   case y11=>(intro w hSw;(try dsimp only at hSw);go_simp;first|done|(with_reducible rfl))
   simp only[gsx,Act.put]
   refine wpAnyH_take (i:=12) (v:=?v12) rfl (by kernel_rfl) (by kernel_rfl) (by kernel_rfl) (fun _ _ _ h=>h) (Or.inl ⟨by rfl,?y12⟩) hHeld ?_
   case y12=>(intro w hSw;(try dsimp only at hSw);go_simp;first|done|(with_reducible rfl))
   simp only[gsx,Act.put]
   refine wpAnyH_take (i:=13) (v:=?v13) rfl (by kernel_rfl) (by kernel_rfl) (by kernel_rfl) (fun _ _ _ h=>h) (Or.inl ⟨by rfl,?y13⟩) hHeld ?_
   case y13=>(intro w hSw;(try dsimp only at hSw);go_simp;first|done|(with_reducible rfl))
   simp only[gsx,Act.put]
   refine wpAnyH_take (i:=14) (v:=?v14) rfl (by kernel_rfl) (by kernel_rfl) (by kernel_rfl) (fun _ _ _ h=>h) (Or.inl ⟨by rfl,?y14⟩) hHeld ?_
   case y14=>(intro w hSw;(try dsimp only at hSw);go_simp;first|done|(with_reducible rfl))
   simp only[gsx,Act.put]
   refine wpAnyH_take (i:=15) (v:=?v15) rfl (by kernel_rfl) (by kernel_rfl) (by kernel_rfl) (fun _ _ _ h=>h) (Or.inl ⟨by rfl,?y15⟩) hHeld ?_
   case y15=>(intro w hSw;(try dsimp only at hSw);go_simp;first|done|(with_reducible rfl))
   simp only[gsx,Act.put]
   refine wpAnyH_take (i:=16) (v:=?v16) rfl (by kernel_rfl) (by kernel_rfl) (by kernel_rfl) (fun _ _ _ h=>h) (Or.inl ⟨by rfl,?y16⟩) hHeld ?_
   case y16=>(intro w hSw;(try dsimp only at hSw);go_simp;first|done|(with_reducible rfl))
   simp only[gsx,Act.put]
   refine wpAnyH_take (i:=17) (v:=?v17) rfl (by kernel_rfl) (by kernel_rfl) (by kernel_rfl) (fun _ _ _ h=>h) (Or.inl ⟨by rfl,?y17⟩) hHeld ?_
   case y17=>(intro w hSw;(try dsimp only at hSw);go_simp;first|done|(with_reducible rfl))
   simp only[gsx,Act.put]
   refine wpAnyH_ready (rs:=[18]) (by kernel_rfl) (by simp) ?_
   refine AllReadyH.cons rfl (fun K hK=>?_) AllReadyH.nil
   go_simp
   (refine(v0_ _ _ _).mono ?_;rintro e w' ⟨rfl,rfl⟩)
   (try go_wp2_with fail)
   refine hK.out _ _ ?_ (fun hHeld=>?_)
   ·exact HK.out _ (hB2.alloc hz2 _)
   clear hK K
   try simp only[gsx,Act.put]
   refine wpAnyH_ready (rs:=[19]) (by kernel_rfl) (by simp) ?_
   refine AllReadyH.cons rfl (fun K hK=>?_) AllReadyH.nil
   go_simp
   (refine(HU2.out _ _ (hB2.alloc hz2 _) (by simp)).mono ?_;rintro e w3 ⟨rfl,hb3⟩;have hB3:Below (w.heap.size+1) (w.alloc (.cells #[.pointer (some ⟨s,0,none⟩)] 32)) w3:=(hB2.alloc hz2 _).trans (hb3.mono (by simp;omega)))
   (try go_wp2_with fail)
   refine hK.out _ _ ?_ (fun hHeld=>?_)
   ·exact HK.out _ hB3
   clear hK K
   try simp only[gsx,Act.put]
   refine wpAnyH_take (i:=20) (v:= .bool false) rfl (by kernel_rfl) (by kernel_rfl) (by kernel_rfl) (fun _ _ _ h=>h) (Or.inl ⟨by rfl,?y20⟩) hHeld ?_
   case y20=>(intro w hSw;(try dsimp only at hSw);go_simp;first|done|(with_reducible rfl))
   simp only[gsx,Act.put]
   refine wpAnyH_take (i:=21) (v:=?v21) rfl (by kernel_rfl) (by kernel_rfl) (by kernel_rfl) (fun _ _ _ h=>h) (Or.inl ⟨by rfl,?y21⟩) hHeld ?_
   case y21=>(intro w hSw;(try dsimp only at hSw);go_simp;first|done|(with_reducible rfl))
   simp only[gsx,Act.put]
   refine wpAnyH_take (i:=22) (v:=?v22) rfl (by kernel_rfl) (by kernel_rfl) (by kernel_rfl) (fun _ _ _ h=>h) (Or.inl ⟨by rfl,?y22⟩) hHeld ?_
   case y22=>(intro w hSw;(try dsimp only at hSw);go_simp;first|done|(with_reducible rfl))
   simp only[gsx,Act.put]
   refine wpAnyH_take (i:=23) (v:=undef) rfl (by kernel_rfl) (by kernel_rfl) (by kernel_rfl) (fun _ _ _ h=>h) (Or.inr ⟨by rfl,rfl⟩) hHeld ?_
   simp only[gsx,Act.put]
   refine wpAnyH_take (i:=24) (v:=undef) rfl (by kernel_rfl) (by kernel_rfl) (by kernel_rfl) (fun _ _ _ h=>h) (Or.inr ⟨by rfl,rfl⟩) hHeld ?_
   simp only[gsx,Act.put]
   refine wpAnyH_take (i:=25) (v:=undef) rfl (by kernel_rfl) (by kernel_rfl) (by kernel_rfl) (fun _ _ _ h=>h) (Or.inr ⟨by rfl,rfl⟩) hHeld ?_
   simp only[gsx,Act.put]
   refine wpAnyH_take (i:=26) (v:=undef) rfl (by kernel_rfl) (by kernel_rfl) (by kernel_rfl) (fun _ _ _ h=>h) (Or.inr ⟨by rfl,rfl⟩) hHeld ?_
   simp only[gsx,Act.put]
   refine wpAnyH_take (i:=27) (v:=undef) rfl (by kernel_rfl) (by kernel_rfl) (by kernel_rfl) (fun _ _ _ h=>h) (Or.inr ⟨by rfl,rfl⟩) hHeld ?_
   simp only[gsx,Act.put]
   refine wpAnyH_take (i:=28) (v:=undef) rfl (by kernel_rfl) (by kernel_rfl) (by kernel_rfl) (fun _ _ _ h=>h) (Or.inr ⟨by rfl,rfl⟩) hHeld ?_
   simp only[gsx,Act.put]
   refine wpAnyH_take (i:=29) (v:=undef) rfl (by kernel_rfl) (by kernel_rfl) (by kernel_rfl) (fun _ _ _ h=>h) (Or.inr ⟨by rfl,rfl⟩) hHeld ?_
   simp only[gsx,Act.put]
   refine wpAnyH_take (i:=30) (v:=undef) rfl (by kernel_rfl) (by kernel_rfl) (by kernel_rfl) (fun _ _ _ h=>h) (Or.inr ⟨by rfl,rfl⟩) hHeld ?_
   simp only[gsx,Act.put]
   refine wpAnyH_take (i:=31) (v:=?v31) rfl (by kernel_rfl) (by kernel_rfl) (by kernel_rfl) (fun _ _ _ h=>h) (Or.inl ⟨by rfl,?y31⟩) hHeld ?_
   case y31=>(intro w hSw;(try dsimp only at hSw);go_simp;first|done|(with_reducible rfl))
   simp only[gsx,Act.put]
   refine wpAnyH_take (i:=32) (v:=?v32) rfl (by kernel_rfl) (by kernel_rfl) (by kernel_rfl) (fun _ _ _ h=>h) (Or.inl ⟨by rfl,?y32⟩) hHeld ?_
   case y32=>(intro w hSw;(try dsimp only at hSw);go_simp;first|done|(with_reducible rfl))
   simp only[gsx,Act.put]
   refine wpAnyH_done (by kernel_rfl) ?_ _
   refine NoPanic.normal ?_
   go_wp2_with fail
   go_ret
   exact⟨rfl,hba.trans (hB3.mono (by simp))⟩
 ·clear HU2 HU3
  go_enter Tryz.func76,Tryz.ntmps76
  go_wp2_with fail
  refine wp_region_noPanic ?_
  refine wp_region_held_drew (S:=(fun W=>W.cell? ⟨p,0,none⟩=some (.bool d.cls)∧W.cell? ⟨p,3,none⟩=some (.slice A3 n3 c3)∧W.cell? ⟨p,4,none⟩=some (.slice A4 n4 c4)∧W.cell? ⟨p,5,none⟩=some (.slice A5 n5 c5)∧Below (w.heap.size+1) (w.alloc (.cells #[.pointer (some ⟨s,0,none⟩)] 32)) W)) (by kernel_rfl) ?_ (fun hHeld=>?_)
  ·exact HK.out _ (bR _ _).drew
  refine wpAnyH_take (i:=0) (v:=?v0) rfl (by kernel_rfl) (by kernel_rfl) (by kernel_rfl) (fun _ _ _ h=>h) (Or.inl ⟨by rfl,?y0⟩) hHeld ?_
  case y0=>(intro w hSw;(try dsimp only at hSw);go_simp;first|done|(with_reducible rfl))
  simp only[gsx,Act.put]
  refine wpAnyH_take (i:=1) (v:=?v1) rfl (by kernel_rfl) (by kernel_rfl) (by kernel_rfl) (fun _ _ _ h=>h) (Or.inl ⟨by rfl,?y1⟩) hHeld ?_
  case y1=>(intro w hSw;(try dsimp only at hSw);go_simp;first|done|(with_reducible rfl))
  simp only[gsx,Act.put]
  refine wpAnyH_take (i:=2) (v:=?v2) rfl (by kernel_rfl) (by kernel_rfl) (by kernel_rfl) (fun _ _ _ h=>h) (Or.inl ⟨by rfl,?y2⟩) hHeld ?_
  case y2=>(intro w hSw;(try dsimp only at hSw);go_simp;first|done|(with_reducible rfl))
  simp only[gsx,Act.put]
  refine wpAnyH_take (i:=3) (v:=?v3) rfl (by kernel_rfl) (by kernel_rfl) (by kernel_rfl) (fun _ _ _ h=>h) (Or.inl ⟨by rfl,?y3⟩) hHeld ?_
  case y3=>(intro w hSw;(try dsimp only at hSw);go_simp;first|done|(with_reducible rfl))
  simp only[gsx,Act.put]
  refine wpAnyH_take (i:=4) (v:=?v4) rfl (by kernel_rfl) (by kernel_rfl) (by kernel_rfl) (fun _ _ _ h=>h) (Or.inl ⟨by rfl,?y4⟩) hHeld ?_
  case y4=>(intro w hSw;(try dsimp only at hSw);go_simp;first|done|(with_reducible rfl))
  simp only[gsx,Act.put]
  refine wpAnyH_take (i:=5) (v:=?v5) rfl (by kernel_rfl) (by kernel_rfl) (by kernel_rfl) (fun _ _ _ h=>h) (Or.inl ⟨by rfl,?y5⟩) hHeld ?_
  case y5=>(intro w hSw;(try dsimp only at hSw);go_simp;first|done|(with_reducible rfl))
  simp only[gsx,Act.put]
  refine wpAnyH_take (i:=6) (v:=?v6) rfl (by kernel_rfl) (by kernel_rfl) (by kernel_rfl) (fun _ _ _ h=>h) (Or.inl ⟨by rfl,?y6⟩) hHeld ?_
  case y6=>(intro w hSw;(try dsimp only at hSw);go_simp;first|done|(with_reducible rfl))
  simp only[gsx,Act.put]
  refine wpAnyH_take (i:=7) (v:=?v7) rfl (by kernel_rfl) (by kernel_rfl) (by kernel_rfl) (fun _ _ _ h=>h) (Or.inl ⟨by rfl,?y7⟩) hHeld ?_
  case y7=>(intro w hSw;(try dsimp only at hSw);go_simp;first|done|(with_reducible rfl))
  simp only[gsx,Act.put]
  refine wpAnyH_take (i:=8) (v:=?v8) rfl (by kernel_rfl) (by kernel_rfl) (by kernel_rfl) (fun _ _ _ h=>h) (Or.inl ⟨by rfl,?y8⟩) hHeld ?_
  case y8=>(intro w hSw;(try dsimp only at hSw);go_simp;first|done|(with_reducible rfl))
  simp only[gsx,Act.put]
  refine wpAnyH_ready (rs:=[9]) (by kernel_rfl) (by simp) ?_
  refine AllReadyH.cons rfl (fun K hK=>?_) AllReadyH.nil
  go_simp
  (refine(v0_ _ _ _).mono ?_;rintro e w' ⟨rfl,rfl⟩)
  (try go_wp2_with fail)
  refine hK.out _ _ ?_ (fun hHeld=>?_)
  ·exact HK.out _ (((bR _ _).alloc (by simp) _).drew)
  clear hK K
  try simp only[gsx,Act.put]
  refine wpAnyH_ready (rs:=[10]) (by kernel_rfl) (by simp) ?_
  refine AllReadyH.cons rfl (fun K hK=>?_) AllReadyH.nil
  go_simp
  (refine(HU1.out _ _ (((bR _ _).alloc (by simp) _).drew) (by simp)).mono ?_;rintro e w2 ⟨rfl,hb2⟩;have hB2:Below (w.heap.size+1) (w.alloc (.cells #[.pointer (some ⟨s,0,none⟩)] 32)) w2:=((bR _ _).alloc (by simp) _).drew.trans (hb2.mono (by simp));have hz2:w.heap.size+1≤w2.heap.size:=(by have:=hB2.size;simpa using this))
  (try go_wp2_with fail)
  refine hK.out _ _ ?_ (fun hHeld=>?_)
  ·exact HK.out _ hB2
  clear hK K
  try simp only[gsx,Act.put]
  refine wpAnyH_take (i:=11) (v:= .bool false) rfl (by kernel_rfl) (by kernel_rfl) (by kernel_rfl) (fun _ _ _ h=>h) (Or.inl ⟨by rfl,?y11⟩) hHeld ?_
  case y11=>(intro w hSw;(try dsimp only at hSw);go_simp;first|done|(with_reducible rfl))
  simp only[gsx,Act.put]
  refine wpAnyH_take (i:=12) (v:= .bool false) rfl (by kernel_rfl) (by kernel_rfl) (by kernel_rfl) (fun _ _ _ h=>h) (Or.inl ⟨by rfl,?y12⟩) hHeld ?_
  case y12=>(intro w hSw;(try dsimp only at hSw);go_simp;first|done|(with_reducible rfl))
  simp only[gsx,Act.put]
  refine wpAnyH_take (i:=13) (v:=undef) rfl (by kernel_rfl) (by kernel_rfl) (by kernel_rfl) (fun _ _ _ h=>h) (Or.inr ⟨by rfl,rfl⟩) hHeld ?_
  simp only[gsx,Act.put]
  refine wpAnyH_take (i:=14) (v:=undef) rfl (by kernel_rfl) (by kernel_rfl) (by kernel_rfl) (fun _ _ _ h=>h) (Or.inr ⟨by rfl,rfl⟩) hHeld ?_
  simp only[gsx,Act.put]
  refine wpAnyH_take (i:=15) (v:=undef) rfl (by kernel_rfl) (by kernel_rfl) (by kernel_rfl) (fun _ _ _ h=>h) (Or.inr ⟨by rfl,rfl⟩) hHeld ?_
  simp only[gsx,Act.put]
  refine wpAnyH_take (i:=16) (v:=undef) rfl (by kernel_rfl) (by kernel_rfl) (by kernel_rfl) (fun _ _ _ h=>h) (Or.inr ⟨by rfl,rfl⟩) hHeld ?_
  simp only[gsx,Act.put]
  refine wpAnyH_take (i:=17) (v:=undef) rfl (by kernel_rfl) (by kernel_rfl) (by kernel_rfl) (fun _ _ _ h=>h) (Or.inr ⟨by rfl,rfl⟩) hHeld ?_
  simp only[gsx,Act.put]
  refine wpAnyH_take (i:=18) (v:=undef) rfl (by kernel_rfl) (by kernel_rfl) (by kernel_rfl) (fun _ _ _ h=>h) (Or.inr ⟨by rfl,rfl⟩) hHeld ?_
  simp only[gsx,Act.put]
  refine wpAnyH_take (i:=19) (v:=undef) rfl (by kernel_rfl) (by kernel_rfl) (by kernel_rfl) (fun _ _ _ h=>h) (Or.inr ⟨by rfl,rfl⟩) hHeld ?_
  simp only[gsx,Act.put]
  refine wpAnyH_take (i:=20) (v:=undef) rfl (by kernel_rfl) (by kernel_rfl) (by kernel_rfl) (fun _ _ _ h=>h) (Or.inr ⟨by rfl,rfl⟩) hHeld ?_
  simp only[gsx,Act.put]
  refine wpAnyH_take (i:=21) (v:= .bool false) rfl (by kernel_rfl) (by kernel_rfl) (by kernel_rfl) (fun _ _ _ h=>h) (Or.inl ⟨by rfl,?y21⟩) hHeld ?_
  case y21=>(intro w hSw;(try dsimp only at hSw);go_simp;first|done|(with_reducible rfl))
  simp only[gsx,Act.put]
  refine wpAnyH_take (i:=22) (v:= .bool false) rfl (by kernel_rfl) (by kernel_rfl) (by kernel_rfl) (fun _ _ _ h=>h) (Or.inl ⟨by rfl,?y22⟩) hHeld ?_
  case y22=>(intro w hSw;(try dsimp only at hSw);go_simp;first|done|(with_reducible rfl))
  simp only[gsx,Act.put]
  refine wpAnyH_take (i:=23) (v:=undef) rfl (by kernel_rfl) (by kernel_rfl) (by kernel_rfl) (fun _ _ _ h=>h) (Or.inr ⟨by rfl,rfl⟩) hHeld ?_
  simp only[gsx,Act.put]
  refine wpAnyH_take (i:=24) (v:=undef) rfl (by kernel_rfl) (by kernel_rfl) (by kernel_rfl) (fun _ _ _ h=>h) (Or.inr ⟨by rfl,rfl⟩) hHeld ?_
  simp only[gsx,Act.put]
  refine wpAnyH_take (i:=25) (v:=undef) rfl (by kernel_rfl) (by kernel_rfl) (by kernel_rfl) (fun _ _ _ h=>h) (Or.inr ⟨by rfl,rfl⟩) hHeld ?_
  simp only[gsx,Act.put]
  refine wpAnyH_take (i:=26) (v:=undef) rfl (by kernel_rfl) (by kernel_rfl) (by kernel_rfl) (fun _ _ _ h=>h) (Or.inr ⟨by rfl,rfl⟩) hHeld ?_
  simp only[gsx,Act.put]
  refine wpAnyH_take (i:=27) (v:=undef) rfl (by kernel_rfl) (by kernel_rfl) (by kernel_rfl) (fun _ _ _ h=>h) (Or.inr ⟨by rfl,rfl⟩) hHeld ?_
  simp only[gsx,Act.put]
  refine wpAnyH_take (i:=28) (v:=undef) rfl (by kernel_rfl) (by kernel_rfl) (by kernel_rfl) (fun _ _ _ h=>h) (Or.inr ⟨by rfl,rfl⟩) hHeld ?_
  simp only[gsx,Act.put]
  refine wpAnyH_take (i:=29) (v:=undef) rfl (by kernel_rfl) (by kernel_rfl) (by kernel_rfl) (fun _ _ _ h=>h) (Or.inr ⟨by rfl,rfl⟩) hHeld ?_
  simp only[gsx,Act.put]
  refine wpAnyH_take (i:=30) (v:=undef) rfl (by kernel_rfl) (by kernel_rfl) (by kernel_rfl) (fun _ _ _ h=>h) (Or.inr ⟨by rfl,rfl⟩) hHeld ?_
  simp only[gsx,Act.put]
  refine wpAnyH_take (i:=31) (v:= .bool false) rfl (by kernel_rfl) (by kernel_rfl) (by kernel_rfl) (fun _ _ _ h=>h) (Or.inl ⟨by rfl,?y31⟩) hHeld ?_
  case y31=>(intro w hSw;(try dsimp only at hSw);go_simp;first|done|(with_reducible rfl))
  simp only[gsx,Act.put]
  refine wpAnyH_take (i:=32) (v:= .bool false) rfl (by kernel_rfl) (by kernel_rfl) (by kernel_rfl) (fun _ _ _ h=>h) (Or.inl ⟨by rfl,?y32⟩) hHeld ?_
  case y32=>(intro w hSw;(try dsimp only at hSw);go_simp;first|done|(with_reducible rfl))
  simp only[gsx,Act.put]
  refine wpAnyH_done (by kernel_rfl) ?_ _
  refine NoPanic.normal ?_
  go_wp2_with fail
  go_ret
  exact⟨rfl,hba.trans (hB2.mono (by simp))⟩
open Go.RowKit
def pAt (ps:List Nat) (i:Nat):Nat:=ps.getD i 0
theorem yu_ {ps:List Nat} {i:Nat} (h:i<ps.length):ps[i]?=some (pAt ps i):=by
 unfold pAt
 rw[List.getD_eq_getElem?_getD,List.getElem?_eq_getElem h]
 rfl
theorem zet_ {ps:List Nat} (hn:ps.Nodup) {i j:Nat} (hi:i<ps.length) (hj:j<ps.length) (h:pAt ps i=pAt ps j):i=j:=by
 have h1:=yu_ hi
 have h2:=yu_ hj
 rw[h] at h1
 exact(List.getElem?_inj hi hn).1 (h1.trans h2.symm)
theorem SchAt.defAt {w:World} {s:Nat} {ps:List Nat} {L:List DefS} (h:SchAt w s ps L) {i:Nat} {d:DefS} (hd:L[i]?=some d):DefAt w (pAt ps i) d:=
 h.defs i _ d (yu_ (by rw[h.len];exact(List.getElem?_eq_some_iff.1 hd).1)) hd
theorem SchAt.bkAt {w:World} {s:Nat} {ps:List Nat} {L:List DefS} (h:SchAt w s ps L) {i:Nat} (hi:i<L.length):∃ cs,Bk w (pAt ps i) 161 cs:=by
 obtain⟨vn,vs,vm,vy,hB⟩:=(h.defAt (List.getElem?_eq_getElem hi)).bk
 exact⟨_,hB⟩
theorem z71_ {ps:List Nat} (hn:ps.Nodup) {l:List Nat} (hl:∀ v∈l,v<ps.length) {i:Nat} (hi:i<ps.length):(l.map (pAt ps)).contains (pAt ps i)=l.contains i:=by
 rw[Bool.eq_iff_iff,List.contains_iff_mem,List.contains_iff_mem,List.mem_map]
 constructor
 ·rintro⟨j,hj,he⟩
  rw[← zet_ hn (hl j hj) hi he]
  exact hj
 ·intro h
  exact⟨i,h,rfl⟩
def AbRet (B:Nat) (w:World) (ps:List Nat) (R:List Nat) (e:Ending) (w':World):Prop:=Below B w w'∧∃ v,e= .returned v∧OwnP B w' v (R.map (pAt ps))
theorem ze7_ {w0 w:World} {s:Nat} {ps:List Nat} {L:List DefS} (hS:SchAt w0 s ps L) (hb:Bel w0 w) {i:Nat} (hi:i<L.length) {l:List Nat} (hl:∀ v∈l,v<L.length):ze4_ w (pAt ps i) (l.map (pAt ps)):=by
 intro q hq
 obtain⟨j,hj,rfl⟩:=List.mem_map.1 hq
 obtain⟨ci,hbi⟩:=hS.bkAt hi
 obtain⟨cj,hbj⟩:=hS.bkAt (hl j hj)
 exact zd9_ (hbi.below hb) (hbj.below hb)
def upF6 (L:List DefS) (n:Nat) (c:Bool) (l:List Nat) (nm:LU):List Nat:=match zk_ L c nm with
 |none=>l
 |some j=>qr_ L n j l
theorem ze5_ {L:List DefS} {i:Nat} {d:DefS} (n:Nat) (l:List Nat) (hd:L[i]?=some d):qr_ L (n+1) i l=if l.contains i then l else d.sup.foldl (upF6 L n d.cls) (l++[i]):=by
 rw[qr_,hd]
 rfl
structure UJ (L:List DefS) (n:Nat) (d:DefS) (w0:World) (ps:List Nat) (len:Nat) (R:List Nat) (k:Nat) (v:Value) (wr:World) (acc:List Nat):Prop where
 own:OwnP w0.heap.size wr v (acc.map (pAt ps))
 bel:Bel w0 wr
 nodup:acc.Nodup
 lt:∀ x∈acc,x<L.length
 more:len≤acc.length
 rest:(d.sup.drop k).foldl (upF6 L n d.cls) acc=R
theorem zkf_ (w0:World) (s:Nat) (ps:List Nat) (L:List DefS) (hS:SchAt w0 s ps L) (hlim:∀ d∈L,DefLim d) (hN:L.length≤1000) (hk:∀ d∈L,∀ n∈d.sup,(zk_ L d.cls n).isSome=true):
  ∀ (n i:Nat) (l:List Nat) (v:Value) (w:World),Bel w0 w→l.Nodup→(∀ x∈l,x<L.length)→i<L.length→L.length+1≤n+l.length→OwnP w0.heap.size w v (l.map (pAt ps))→
  Calls Tryz.prog 121 #[z7_ s,z7_ (pAt ps i),v] w (AbRet w0.heap.size w ps (qr_ L n i l)):=by
 intro n
 induction n with
 |zero=>
  intro i l v w hb hn hl hi hf ho
  have:=qu_ _ l hn hl
  omega
 |succ n ih=>
  intro i l v w hb hn hl hi hf ho
  have hll:=qu_ _ l hn hl
  have HC:=hiD (z7s_ (pAt ps i) (l.map (pAt ps)) v w ho.reads (by simp;omega) (ze7_ hS hb hi hl))
  rw[z71_ hS.nodup (fun x hx=>by rw[hS.len];exact hl x hx) (by rw[hS.len];exact hi)] at HC
  have HO:=hiD ho
  obtain⟨A,c,rfl,hc⟩:=ho.isSlice
  have IH:=hiD ih
  have HB:=hiD hb
  clear ih ho hb
  unfold z7_ at HC IH ⊢
  simp only[List.length_map] at HC HO hc ⊢
  have hdL:L[i]?=some L[i]:=List.getElem?_eq_getElem hi
  obtain⟨d,hd⟩:∃ d,L[i]?=some d:=⟨_,hdL⟩
  rw[ze5_ n l hd]
  cases hcon:l.contains i
  ·have hcn:=hcon
   rw[hcon] at HC
   have hmem:d∈L:=List.mem_of_getElem? hd
   have hdf:=hS.defAt hd
   simp only[Bool.false_eq_true,if_false]
   obtain⟨vn,vs,vm,vy,hBK,_,ht,_⟩:=id hdf
   obtain⟨As,ns,cs,rfl⟩:=ht.isSlice
   obtain⟨rfl,hcs⟩:=z27_ ht
   obtain⟨R,hR⟩:∃ R,d.sup.foldl (upF6 L n d.cls) (l++[i])=R:=⟨_,rfl⟩
   rw[hR]
   have hsl:=(hlim d hmem).sup
   have HT:=hiD ht
   have HBK:=hiD hBK
   have hni:i ∉ l:=by
    intro h
    rw[List.contains_iff_mem.2 h] at hcn
    cases hcn
   have HNI:=hiD hni
   have hpl:(l.map (pAt ps)).length<4398046511104:=by simp;omega
   have HR1:=hiD hR
   clear hR hdL hBK ht hdf hni hcn hcon
   go_enter Tryz.func121,Tryz.ntmps121
   go_wp2_with (first|(go_at_call 193;refine HC.out.mono ?_;rintro e w1 ⟨rfl,rfl⟩)|(at_builtin;refine zd8_ (v:= .slice A l.length c) (p:=pAt ps i) rfl _ _ rfl rfl HO.out rfl rfl hpl ?_;intro v2 w2 hO2 hg2;have hb2:=OwnP.bel (HB.out.mono (nR _)) HO.out hg2;have hB2:=HBK.out.below hb2;have c3:w2.cell? ⟨pAt ps i,3,none⟩=some (.slice As d.sup.length cs):=hB2.cell 3;have c0:w2.cell? ⟨pAt ps i,0,none⟩=some (.bool d.cls):=hB2.cell 0))
   have hb2':Below w0.heap.size w w2:=OwnP.bel (bR _ _) HO.out hg2
   have hJ0:UJ L n d w0 ps (l.length+1) R 0 v2 w2 (l++[i]):=by
    refine⟨by rw[List.map_append];exact hO2,hb2,?_,?_,by simp,HR1.out⟩
    ·rw[List.nodup_append]
     refine⟨hn,by simp,fun a ha b hb=>?_⟩
     have:b=i:=by simpa using hb
     subst this
     rintro rfl
     exact HNI.out ha
    ·intro x hx
     rcases List.mem_append.1 hx with h|h
     ·exact hl x h
     ·have:x=i:=by simpa using h
      omega
   have HJ0:=hiD (And.intro hJ0 hb2')
   clear hJ0 hb2' hb2 hO2 hg2 hB2 c0 HR1 HNI HO HC
   go_loopg [2,22] d.sup.length (fun gk v i2 wr=>∃ (k:Nat) (acc:List Nat),k≤d.sup.length∧i2= .int .i64 k∧Aside (k+gk=d.sup.length)∧Aside (UJ L n d w0 ps (l.length+1) R k v wr acc)∧Aside (Below w0.heap.size w wr))
   case atStart=>exact⟨0,l++[i],Nat.zero_le _,rfl,by show _=_;omega,HJ0.out.1,HJ0.out.2⟩
   case round=>
    clear HJ0
    obtain⟨k,acc,hk2,rfl,AG,AJ,AB⟩:=hrel
    by_cases hlt:k<d.sup.length
    ·obtain⟨q,rfl⟩:∃ q,gk=q+1:=⟨gk - 1,by have:=AG.out;omega⟩
     obtain⟨g,rfl,ck⟩:=vj_ (HT.out.below AJ.out.bel) hlt
     have hB2:=HBK.out.below AJ.out.bel
     have c0:wr.cell? ⟨pAt ps i,0,none⟩=some (.bool d.cls):=hB2.cell 0
     have hkn:=hk d hmem d.sup[k] (List.getElem_mem hlt)
     obtain⟨j,hj⟩:=Option.isSome_iff_exists.1 hkn
     have hF:=z5j_ s ps L d.cls d.sup[k] wr (hS.below AJ.out.bel) (hsl.2 _ (List.getElem_mem hlt))
     rw[hj] at hF
     have HF:Hid (Calls Tryz.prog 119 #[.pointer (some ⟨s,0,none⟩),.bool d.cls,.string ⟨d.sup[k].toArray⟩] wr fun e w'=>e= .returned (.pointer (some ⟨pAt ps j,0,none⟩))∧Bel wr w'):=hiD hF
     have hj2:=vl_ hj
     have hfuel:L.length+1≤n+acc.length:=by have:=AJ.out.more;omega
     have hA:=kn_ L n j acc AJ.out.nodup AJ.out.lt hj2 hfuel
     have HA:=hiD hA
     have hrest:=AJ.out.rest
     rw[List.drop_eq_getElem_cons hlt,List.foldl_cons,show upF6 L n d.cls acc d.sup[k]=qr_ L n j acc by unfold upF6;rw[hj]] at hrest
     have HRS:=hiD hrest
     clear hA hrest hF hB2 hkn hj
     go_wp2_with (first|(go_at_call 119;refine HF.out.mono ?_;rintro e w3 ⟨rfl,hb3⟩)|(go_at_call 121;refine(IH.out j acc u2 _ (tQ AJ.out.bel hb3) AJ.out.nodup AJ.out.lt hj2 hfuel (AJ.out.own.below hb3)).mono ?_;rintro e w4 ⟨hb4,v4,rfl,hO4⟩))
     go_roundg q
     case measure=>omega
     case rel=>
      refine⟨k+1,qr_ L n j acc,by omega,by go_num,by have:=AG.out;show _=_;omega,?_,?_⟩
      ·obtain⟨⟨t1,ht1⟩,h2,h3,_⟩:=HA.out
       have hb5:=(tQ AJ.out.bel hb3).trans hb4
       exact(⟨hO4,hb5,h2,h3,by have:=AJ.out.more;rw[ht1];simp;omega,HRS.out⟩:UJ L n d w0 ps (l.length+1) R (k+1) v4 w4 (qr_ L n j acc))
      ·exact(AB.out.trans (hb3.mono AJ.out.bel.size)).trans hb4
    ·obtain rfl:k=d.sup.length:=by omega
     have hR2:R=acc:=by rw[← AJ.out.rest,List.drop_length];rfl
     have HR2:=hiD hR2
     clear hR2
     go_wp2_with fail
     go_ret
     rw[HR2.out]
     exact⟨AB.out,_,rfl,AJ.out.own⟩
  ·rw[hcon] at HC
   simp only[if_true]
   go_enter Tryz.func121,Tryz.ntmps121
   go_wp2_with (go_at_call 193;refine HC.out.mono ?_;rintro e w1 ⟨rfl,rfl⟩)
   go_ret
   exact⟨bR _ _,_,rfl,HO.out⟩
def addN (L:List DefS) (l:LL) (nm:LU):LL:=match zk_ L false nm with
 |none=>l
 |some j=>match L[j]? with
  |none=>l
  |some e=>if l.contains e.name then l else l++[e.name]
def zdp_ (L:List DefS) (i:Nat):LU:=match L[i]? with
 |none=>[]
 |some d=>d.name
theorem NewSays.named {L:List DefS} (h:NewSays L) {x:Nat} {d:DefS} (hd:L[x]?=some d):zk_ L d.cls d.name=some x:=zgy_ h.keys hd (zgl_ d)
open Go.RowKit
theorem Own.keep2 {B:Nat} {w w':World} {v:Value} {xs:LL} (h:Own B w v xs) {r:Option Nat} (hg:w.grownBy w' r) (hr:∀ k,v.ownBlock=some k→r≠some k):Own B w' v xs:=by
 refine⟨h.1.kept hg ?_,nT h.2 hg.size⟩
 rcases hv:v.ownBlock with _|g
 ·exact .inl rfl
 ·refine .inr ?_
  intro he
  exact hr g hv he.symm
def seenP (ps l:List Nat):List (Nat × Value):=l.map fun i=>(pAt ps i,Value.agg #[])
def SeenP (w:World) (m:Nat) (ps l:List Nat):Prop:=∃ es c,w.heap[m]?=some (.map es c)∧MapR z7_ es (seenP ps l)
theorem SeenP.lt {w:World} {m:Nat} {ps l:List Nat} (h:SeenP w m ps l):m<w.heap.size:=by
 obtain⟨es,c,h1,_⟩:=h
 exact(Array.getElem?_eq_some_iff.1 h1).1
theorem SeenP.keep {w w':World} {m:Nat} {ps l:List Nat} (h:SeenP w m ps l) (he:w'.heap[m]?=w.heap[m]?):SeenP w' m ps l:=by
 obtain⟨es,c,h1,h2⟩:=h
 exact⟨es,c,he.trans h1,h2⟩
theorem SeenP.below {w w':World} {m:Nat} {ps l:List Nat} (h:SeenP w m ps l) (hb:Bel w w'):SeenP w' m ps l:=h.keep (hb.block m h.lt)
theorem SeenP.made (w:World) (ps:List Nat):SeenP (w.alloc (.map #[] 0)) w.heap.size ps []:=⟨_,_,heap_alloc_new w _,rfl⟩
section
variable {P:Program} {κ:Type} [DecidableEq κ]
end
structure NmOK (L:List DefS) (l:LL):Prop where
 nodup:l.Nodup
 of:∀ x∈l,x∈L.map DefS.name
theorem NmOK.nil (L:List DefS):NmOK L []:=⟨by simp,fun x hx=>by simp at hx⟩
theorem z94_ {α:Type} [DecidableEq α]:∀ (l M:List α),l.Nodup→(∀ x∈l,x∈M)→l.length≤M.length
 |[],M,_,_=>Nat.zero_le _
 |x::t,M,hn,h=>by
  rw[List.nodup_cons] at hn
  have hx:=h x (by simp)
  have h1:=z94_ t (M.erase x) hn.2 (fun y hy=>(List.mem_erase_of_ne (by rintro rfl;exact hn.1 hy)).2 (h y (by simp [hy])))
  have h2:=List.length_erase_of_mem hx
  have h3:0<M.length:=List.length_pos_of_mem hx
  simp only[List.length_cons]
  omega
theorem NmOK.len {L:List DefS} {l:LL} (h:NmOK L l):l.length≤L.length:=by
 have:=z94_ l (L.map DefS.name) h.nodup h.of
 simpa using this
theorem NmOK.add {L:List DefS} {l:LL} (h:NmOK L l) {e:DefS} (he:e∈L) (hc:l.contains e.name=false):NmOK L (l++[e.name]):=by
 refine⟨?_,?_⟩
 ·rw[List.nodup_append]
  refine⟨h.nodup,by simp,fun a ha b hb=>?_⟩
  have hb':b=e.name:=by simpa using hb
  subst hb'
  rintro rfl
  rw[List.contains_iff_mem.2 ha] at hc
  cases hc
 ·intro x hx
  rcases List.mem_append.1 hx with hx|hx
  ·exact h.of x hx
  ·rw[List.mem_singleton.1 hx]
   exact List.mem_map_of_mem he
end Go.Proofs.YtakfpngfpknedaaGreatDoor
