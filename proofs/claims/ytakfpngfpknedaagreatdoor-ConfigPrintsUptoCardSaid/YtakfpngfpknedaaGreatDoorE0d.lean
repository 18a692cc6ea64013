import Derived.Test.YtakfpngfpknedaaGreatDoorE0c
set_option linter.all false
set_option maxHeartbeats 8000000
set_option maxRecDepth 100000
namespace Go.Proofs.YtakfpngfpknedaaGreatDoor
open Go.RowKit
theorem DefAt.bk {w:World} {p:Nat} {d:DefS} (h:DefAt w p d):∃ vn vs vm vy,Bk w p 161 (zn_ d vn vs vm vy):=by
 obtain⟨vn,vs,vm,vy,h1,_⟩:=h
 exact⟨vn,vs,vm,vy,h1⟩
theorem DefAt.noword {w:World} {p:Nat} {d:DefS} (h:DefAt w p d):NoWord w [p]:=by
 obtain⟨vn,vs,vm,vy,h1,_⟩:=h
 exact NoWord.of_bk h1 (by decide)
def js_ (w:World) (r p:Nat) (o:Option (DefS × List Wd)) (e:Ending) (w':World):Prop:=Mods [r,p] w w'∧match o with
 |none=>e= .returned (.bool false)
 |some (d',l')=>e= .returned (.bool true)∧RdW w' r l'∧DefAt w' p d'
theorem z3x_ {r p:Nat} {w w':World} (h:Mods [r] w w'):Mods [r,p] w w':=h.mono (by simp)
theorem DefAt.modr {w w':World} {r p:Nat} {d:DefS} {l:List Wd} (h:DefAt w p d) (hr:RdW w r l) (hne:p≠r) (hm:Mods [r] w w'):DefAt w' p d:=h.mods hm (by simpa using hne) hr.notext
theorem z0o_ {w:World} {r p i:Nat} {d:DefS} {l:List Wd} (h:RdW w r l) (hd:DefAt w p d) (hne:p≠r) (v:Value):RdW (w.setCell ⟨p,i,none⟩ v) r l:=
 h.mods ((Mods.refl [p] w).setCell (by simp) v) (by simpa using hne.symm) hd.noword
theorem z4_ {w:World} {p i:Nat} {d:DefS} {u:Value} {xs:LL} (h:Texts w u xs) (hd:DefAt w p d) (v:Value):Texts (w.setCell ⟨p,i,none⟩ v) u xs:=
 h.mods ((Mods.refl [p] w).setCell (by simp) v) hd.notext
theorem k3_ {w w':World} {r p i:Nat} (h:Mods [r,p] w w') (v:Value):Mods [r,p] w (w'.setCell ⟨p,i,none⟩ v):=h.setCell (by simp) v
theorem zk8_ {w:World} {p:Nat} {d:DefS} (hd:DefAt w p d) (x:LU):DefAt (w.setCell ⟨p,1,none⟩ (.string ⟨x.toArray⟩)) p {d with oid:=x}:=by
 obtain⟨vn,vs,vm,vy,h1,h2,h3,h4,h5⟩:=id hd
 exact⟨vn,vs,vm,vy,by simpa [zn_] using h1.set 1 (.string ⟨x.toArray⟩),z4_ h2 hd _,z4_ h3 hd _,z4_ h4 hd _,z4_ h5 hd _⟩
theorem zc5_ {w:World} {p:Nat} {d:DefS} (hd:DefAt w p d) {v:Value} {x:LL} (hx:Texts w v x):DefAt (w.setCell ⟨p,2,none⟩ v) p {d with names:=x}:=by
 obtain⟨vn,vs,vm,vy,h1,h2,h3,h4,h5⟩:=id hd
 exact⟨v,vs,vm,vy,by simpa [zn_] using h1.set 2 v,z4_ hx hd v,z4_ h3 hd v,z4_ h4 hd v,z4_ h5 hd v⟩
theorem zf5_ {w:World} {p:Nat} {d:DefS} (hd:DefAt w p d) {v:Value} {x:LL} (hx:Texts w v x):DefAt (w.setCell ⟨p,3,none⟩ v) p {d with sup:=x}:=by
 obtain⟨vn,vs,vm,vy,h1,h2,h3,h4,h5⟩:=id hd
 exact⟨vn,v,vm,vy,by simpa [zn_] using h1.set 3 v,z4_ h2 hd v,z4_ hx hd v,z4_ h4 hd v,z4_ h5 hd v⟩
theorem zgx_ {w:World} {p:Nat} {d:DefS} (hd:DefAt w p d) {v:Value} {x:LL} (hx:Texts w v x):DefAt (w.setCell ⟨p,4,none⟩ v) p {d with must:=x}:=by
 obtain⟨vn,vs,vm,vy,h1,h2,h3,h4,h5⟩:=id hd
 exact⟨vn,vs,v,vy,by simpa [zn_] using h1.set 4 v,z4_ h2 hd v,z4_ h3 hd v,z4_ hx hd v,z4_ h5 hd v⟩
theorem zj5_ {w:World} {p:Nat} {d:DefS} (hd:DefAt w p d) {v:Value} {x:LL} (hx:Texts w v x):DefAt (w.setCell ⟨p,5,none⟩ v) p {d with may:=x}:=by
 obtain⟨vn,vs,vm,vy,h1,h2,h3,h4,h5⟩:=id hd
 exact⟨vn,vs,vm,v,by simpa [zn_] using h1.set 5 v,z4_ h2 hd v,z4_ h3 hd v,z4_ h4 hd v,z4_ hx hd v⟩
theorem zhe_ {w:World} {p:Nat} {d:DefS} (hd:DefAt w p d) (x:LU):DefAt (w.setCell ⟨p,6,none⟩ (.string ⟨x.toArray⟩)) p {d with form:=x}:=by
 obtain⟨vn,vs,vm,vy,h1,h2,h3,h4,h5⟩:=id hd
 exact⟨vn,vs,vm,vy,by simpa [zn_] using h1.set 6 (.string ⟨x.toArray⟩),z4_ h2 hd _,z4_ h3 hd _,z4_ h4 hd _,z4_ h5 hd _⟩
theorem zk1_ {w:World} {p:Nat} {d:DefS} (hd:DefAt w p d) (x:LU):DefAt (w.setCell ⟨p,7,none⟩ (.string ⟨x.toArray⟩)) p {d with eqr:=x}:=by
 obtain⟨vn,vs,vm,vy,h1,h2,h3,h4,h5⟩:=id hd
 exact⟨vn,vs,vm,vy,by simpa [zn_] using h1.set 7 (.string ⟨x.toArray⟩),z4_ h2 hd _,z4_ h3 hd _,z4_ h4 hd _,z4_ h5 hd _⟩
theorem zhd_ {w:World} {p:Nat} {d:DefS} (hd:DefAt w p d) (x:LU):DefAt (w.setCell ⟨p,8,none⟩ (.string ⟨x.toArray⟩)) p {d with ordr:=x}:=by
 obtain⟨vn,vs,vm,vy,h1,h2,h3,h4,h5⟩:=id hd
 exact⟨vn,vs,vm,vy,by simpa [zn_] using h1.set 8 (.string ⟨x.toArray⟩),z4_ h2 hd _,z4_ h3 hd _,z4_ h4 hd _,z4_ h5 hd _⟩
theorem zfd_ {w:World} {p:Nat} {d:DefS} (hd:DefAt w p d) (x:LU):DefAt (w.setCell ⟨p,9,none⟩ (.string ⟨x.toArray⟩)) p {d with subs:=x}:=by
 obtain⟨vn,vs,vm,vy,h1,h2,h3,h4,h5⟩:=id hd
 exact⟨vn,vs,vm,vy,by simpa [zn_] using h1.set 9 (.string ⟨x.toArray⟩),z4_ h2 hd _,z4_ h3 hd _,z4_ h4 hd _,z4_ h5 hd _⟩
theorem za6_ {w:World} {p:Nat} {d:DefS} (hd:DefAt w p d) (x:Bool):DefAt (w.setCell ⟨p,10,none⟩ (.bool x)) p {d with single:=x}:=by
 obtain⟨vn,vs,vm,vy,h1,h2,h3,h4,h5⟩:=id hd
 exact⟨vn,vs,vm,vy,by simpa [zn_] using h1.set 10 (.bool x),z4_ h2 hd _,z4_ h3 hd _,z4_ h4 hd _,z4_ h5 hd _⟩
theorem zc4_ {w:World} {p:Nat} {d:DefS} (hd:DefAt w p d) (x:Bool):DefAt (w.setCell ⟨p,11,none⟩ (.bool x)) p {d with fixed:=x}:=by
 obtain⟨vn,vs,vm,vy,h1,h2,h3,h4,h5⟩:=id hd
 exact⟨vn,vs,vm,vy,by simpa [zn_] using h1.set 11 (.bool x),z4_ h2 hd _,z4_ h3 hd _,z4_ h4 hd _,z4_ h5 hd _⟩
theorem zfh_ {w:World} {p:Nat} {d:DefS} (hd:DefAt w p d) (x:Bool):DefAt (w.setCell ⟨p,12,none⟩ (.bool x)) p {d with oper:=x}:=by
 obtain⟨vn,vs,vm,vy,h1,h2,h3,h4,h5⟩:=id hd
 exact⟨vn,vs,vm,vy,by simpa [zn_] using h1.set 12 (.bool x),z4_ h2 hd _,z4_ h3 hd _,z4_ h4 hd _,z4_ h5 hd _⟩
theorem zfv_ {w:World} {p:Nat} {d:DefS} (hd:DefAt w p d) (x:Int):DefAt (w.setCell ⟨p,13,none⟩ (.int .i64 x)) p {d with kind:=x}:=by
 obtain⟨vn,vs,vm,vy,h1,h2,h3,h4,h5⟩:=id hd
 exact⟨vn,vs,vm,vy,by simpa [zn_] using h1.set 13 (.int .i64 x),z4_ h2 hd _,z4_ h3 hd _,z4_ h4 hd _,z4_ h5 hd _⟩
def zl5_ (w:World) (r p i:Nat) (o:Option (LL × List Wd)) (e:Ending) (w':World):Prop:=∃ w1 v,Mods [r] w w1∧w'=w1.setCell ⟨p,i,none⟩ v∧match o with
 |none=>e= .returned (.bool false)
 |some (xs,l')=>e= .returned (.bool true)∧Texts w1 v xs∧RdW w1 r l'
theorem zif_ (f:FuncId) (one:List Wd→Option (LU × List Wd)) (sign:LU) (hsg:sign=[]∨sign=[36]) (r:Nat) (l:List Wd) (w:World) (hw:Env w) (hO:Off r) (hone:OneOK f r one) (h:RdW w r l) (hs:Shorts l) (hl:l.length≤1000000):
  Calls Tryz.prog 181 #[.pointer (some ⟨r,0,none⟩),.string ⟨sign.toArray⟩,.func (.func f) #[.pointer (some ⟨r,0,none⟩)] #[]] w
   fun e w'=>∃ A n c,e= .returned (.tuple #[.slice A n c,.bool (jo_ sign one l).isSome])∧Mods [r] w w'∧∀ xs l',jo_ sign one l=some (xs,l')→Texts w' (.slice A n c) xs∧RdW w' r l':=by
 refine(list_c f one sign hsg r l w hw hO hone h hs hl).mono ?_
 intro e w' hL
 cases ho:jo_ sign one l with
 |none=>
  rw[ho] at hL
  obtain⟨rfl,hm⟩:=hL
  exact⟨none,0,0,rfl,hm,fun _ _ h=>by cases h⟩
 |some x=>
  rw[ho] at hL
  obtain⟨v,rfl,ht,hr,hm⟩:=hL
  obtain⟨A,n,c,rfl⟩:=ht.isSlice
  exact⟨A,n,c,rfl,hm,fun _ _ h=>by cases h;exact⟨ht,hr⟩⟩
theorem zfn_ (b1 b2 r p i:Nat) (l:List Wd) (d:DefS) (v0:Value) (w:World) (hw:Env w) (hO:Off r) (h1:w.cell? ⟨b1,0,none⟩=some (z7_ r)) (h2:w.cell? ⟨b2,0,none⟩=some (.pointer (some ⟨p,i,none⟩))) (hb:b2≠r) (hp:p≠r)
  (hd:DefAt w p d) (hv:w.cell? ⟨p,i,none⟩=some v0) (hR:RdW w r l) (hs:Shorts l) (hl:l.length≤1000000):
  Calls Tryz.prog 180 #[z7_ b1,z7_ b2] w (zl5_ w r p i (jo_ [36] xp_ l)):=by
 have HL:=hiD (zif_ 182 xp_ [36] (.inr rfl) r l w hw hO (zit_ r hO) hR hs hl)
 have h1':w.cell? ⟨b1,0,none⟩=some (.pointer (some ⟨r,0,none⟩)):=h1
 have HF:=hiD (show ∀ w1,Mods [r] w w1→w1.frozen? ⟨p,i,none⟩=false from fun w1 hm=>by
  obtain⟨vn,vs,vm,vy,hB,_⟩:=hd
  exact(hm.bk hB (by simpa using hp)).frozen i)
 have hb':b2 ∉ [r]:=by simpa using hb
 have hp':p ∉ [r]:=by simpa using hp
 have hmf:=z2x_
 clear h1 hR hd
 unfold z7_
 go_enter Tryz.func180,Tryz.ntmps180
 go_wp2_with (go_at_call 181;refine HL.out.mono ?_;rintro e w1 ⟨A,n,c,rfl,hm,hx⟩;have c2:=hm.cell h2 hb';have c3:=hm.cell hv hp';have c4:=HF.out _ hm;have HX:=hiD hx;clear hx)
 go_ret
 refine⟨w1,.slice A n c,hm,rfl,?_⟩
 cases ho:jo_ [36] xp_ l with
 |none=>rfl
 |some x=>exact⟨rfl,HX.out _ _ ho⟩
theorem z95_ {w w':World} {r p i:Nat} {l:List Wd} {d:DefS} {o:Option (LL × List Wd)} {e:Ending} (hd:DefAt w p d) (hR:RdW w r l) (hp:p≠r) (h:zl5_ w r p i o e w')
  (F:LL→DefS) (hF:∀ w1 v xs,DefAt w1 p d→Texts w1 v xs→DefAt (w1.setCell ⟨p,i,none⟩ v) p (F xs)):js_ w r p (o.map fun x=>(F x.1,x.2)) e w':=by
 obtain⟨w1,v,hm,rfl,ho⟩:=h
 have hd1:=hd.modr hR hp hm
 refine⟨k3_ (z3x_ hm) v,?_⟩
 cases o with
 |none=>exact ho
 |some x=>exact⟨ho.1,z0o_ ho.2.2 hd1 hp v,hF w1 v x.1 hd1 ho.2.1⟩
theorem zgv_ (b1 b2 r p:Nat) (l:List Wd) (d:DefS) (w:World) (hw:Env w) (hO:Off r) (h1:w.cell? ⟨b1,0,none⟩=some (z7_ r)) (h2:w.cell? ⟨b2,0,none⟩=some (z7_ p)) (hb:b2≠r) (hp:p≠r)
  (hd:DefAt w p d) (hR:RdW w r l) (hs:Shorts l) (hl:l.length≤1000000):
  Calls Tryz.prog 183 #[z7_ b1,z7_ b2] w (js_ w r p ((jo_ [] q4_ l).map fun x=>({d with names:=x.1},x.2))):=by
 refine Calls.mono (R:=zl5_ w r p 2 (jo_ [] q4_ l)) ?_ (fun e w' h=>z95_ hd hR hp h (fun xs=>{d with names:=xs}) (fun w1 v xs h1 h2=>zc5_ h1 h2))
 have HL:=hiD (zif_ 184 q4_ [] (.inl rfl) r l w hw hO (zcf_ r) hR hs hl)
 have h1':w.cell? ⟨b1,0,none⟩=some (.pointer (some ⟨r,0,none⟩)):=h1
 have h2':w.cell? ⟨b2,0,none⟩=some (.pointer (some ⟨p,0,none⟩)):=h2
 have HF:=hiD (show ∀ w1,Mods [r] w w1→w1.frozen? ⟨p,2,none⟩=false∧∃ v,w1.cell? ⟨p,2,none⟩=some v from fun w1 hm=>by
  obtain⟨vn,vs,vm,vy,hB,_⟩:=hd
  have hB1:=hm.bk hB (by simpa using hp)
  exact⟨hB1.frozen 2,vn,(hB1.cell 2).trans rfl⟩)
 have hb':b2 ∉ [r]:=by simpa using hb
 have hmf:=z2x_
 clear h1 h2 hR hd
 unfold z7_
 go_enter Tryz.func183,Tryz.ntmps183
 go_wp2_with (go_at_call 181;refine HL.out.mono ?_;rintro e w1 ⟨A,n,c,rfl,hm,hx⟩;have c2:=hm.cell h2' hb';obtain⟨c4,v3,c3⟩:=HF.out _ hm;have HX:=hiD hx;clear hx)
 go_ret
 refine⟨w1,.slice A n c,hm,rfl,?_⟩
 cases ho:jo_ [] q4_ l with
 |none=>rfl
 |some x=>exact⟨rfl,HX.out _ _ ho⟩
theorem zj9_ (f:FuncId) (one:List Wd→Option (LU × List Wd)) (r:Nat) (l:List Wd) (w:World) (h:Calls Tryz.prog f #[.pointer (some ⟨r,0,none⟩)] w (z36_ w r (one l))):
  Calls Tryz.prog f #[.pointer (some ⟨r,0,none⟩)] w fun e w'=>∃ s:LU,e= .returned (.tuple #[.string ⟨s.toArray⟩,.bool (one l).isSome])∧Mods [r] w w'∧(∀ x,one l=some x→s=x.1∧RdW w' r x.2):=by
 refine h.mono ?_
 intro e w' hL
 cases ho:one l with
 |none=>
  rw[ho] at hL
  obtain⟨s,rfl,hm⟩:=hL
  exact⟨s,rfl,hm,fun _ h=>by cases h⟩
 |some x=>
  rw[ho] at hL
  obtain⟨rfl,hr,hm⟩:=hL
  exact⟨_,rfl,hm,fun _ h=>by cases h;exact⟨rfl,hr⟩⟩
theorem zfo_ (b1 r p:Nat) (l:List Wd) (d:DefS) (w:World) (h1:w.cell? ⟨b1,0,none⟩=some (z7_ r)) (hp:p≠r) (hd:DefAt w p d) (hR:RdW w r l):
  Calls Tryz.prog 185 #[z7_ b1] w (js_ w r p ((q4_ l).map fun x=>(d,x.2))):=by
 have HL:=hiD (zj9_ 184 q4_ r l w (z9n_ r l w hR))
 have h1':w.cell? ⟨b1,0,none⟩=some (.pointer (some ⟨r,0,none⟩)):=h1
 have HD:=hiD (fun w1 (hm:Mods [r] w w1)=>hd.modr hR hp hm)
 clear h1 hR hd
 unfold z7_
 go_enter Tryz.func185,Tryz.ntmps185
 go_wp2_with (go_at_call 184;refine HL.out.mono ?_;rintro e w1 ⟨s,rfl,hm,hx⟩;have HX:=hiD hx;clear hx)
 go_ret
 refine⟨z3x_ hm,?_⟩
 cases ho:q4_ l with
 |none=>rfl
 |some x=>exact⟨rfl,(HX.out _ ho).2,HD.out _ hm⟩
theorem zf3_ (w:World) (c:LU):Texts (w.alloc (.cells #[.string ⟨c.toArray⟩] 9)) (.slice (some ⟨w.heap.size,0,none⟩) 1 1) [c]:=(Strs.made1 w c).texts
theorem zk4_ (b1 b2 r p:Nat) (l:List Wd) (d:DefS) (w:World) (hw:Env w) (hO:Off r) (h1:w.cell? ⟨b1,0,none⟩=some (z7_ r)) (h2:w.cell? ⟨b2,0,none⟩=some (z7_ p)) (hb:b2≠r) (hp:p≠r)
  (hd:DefAt w p d) (hR:RdW w r l) (hs:Shorts l):
  Calls Tryz.prog 186 #[z7_ b1,z7_ b2] w (js_ w r p ((xp_ l).map fun x=>({d with sup:=[x.1]},x.2))):=by
 have HL:=hiD (zj9_ 182 xp_ r l w (zil_ r l w hw hO hR hs))
 have h1':w.cell? ⟨b1,0,none⟩=some (.pointer (some ⟨r,0,none⟩)):=h1
 have h2':w.cell? ⟨b2,0,none⟩=some (.pointer (some ⟨p,0,none⟩)):=h2
 have HD:=hiD (fun w1 (hm:Mods [r] w w1)=>hd.modr hR hp hm)
 have HF:=hiD (show ∀ w1,Mods [r] w w1→w1.frozen? ⟨p,3,none⟩=false∧p<w1.heap.size∧∃ v,w1.cell? ⟨p,3,none⟩=some v from fun w1 hm=>by
  obtain⟨vn,vs,vm,vy,hB,_⟩:=hd
  have hB1:=hm.bk hB (by simpa using hp)
  exact⟨hB1.frozen 3,hB1.lt,vs,(hB1.cell 3).trans rfl⟩)
 have hb':b2 ∉ [r]:=by simpa using hb
 clear h1 h2 hR hd
 unfold z7_
 go_enter Tryz.func186,Tryz.ntmps186
 go_wp2_with (go_at_call 182;refine HL.out.mono ?_;rintro e w1 ⟨s,rfl,hm,hx⟩;have c2:=hm.cell h2' hb';obtain⟨c4,hplt,v3,c3⟩:=HF.out _ hm;have HX:=hiD hx;clear hx)
 go_ret
 have hd1:=HD.out _ hm
 have hb1:Bel w1 (w1.alloc (.cells #[.string ⟨s.toArray⟩] 9)):=(bR _ _).alloc (nR _) _
 have hd2:=hd1.below hb1
 rw[← World.setCell_alloc_past _ _ _ _ hplt]
 refine⟨k3_ (z3x_ (hm.alloc _)) _,?_⟩
 cases ho:xp_ l with
 |none=>rfl
 |some x=>
  obtain⟨rfl,hr⟩:=HX.out _ ho
  exact⟨rfl,z0o_ (hr.below hb1) hd2 hp _,zf5_ hd2 (zf3_ w1 _)⟩
theorem zfj_ (b1 r p i:Nat) (l:List Wd) (d d':DefS) (v0:Bool) (w:World) (h1:w.cell? ⟨b1,0,none⟩=some (.pointer (some ⟨p,i,none⟩))) (hp:p≠r) (hd:DefAt w p d) (hR:RdW w r l)
  (hv:w.cell? ⟨p,i,none⟩=some (.bool v0)) (hs:DefAt (w.setCell ⟨p,i,none⟩ (.bool true)) p d'):
  Calls Tryz.prog 234 #[z7_ b1] w (js_ w r p (some (d',l))):=by
 have hf:w.frozen? ⟨p,i,none⟩=false:=by
  obtain⟨vn,vs,vm,vy,hB⟩:=hd.bk
  exact hB.frozen i
 have HR:=hiD (z0o_ (i:=i) hR hd hp (.bool true))
 have HS:=hiD hs
 clear hs hd hR
 unfold z7_
 go_enter Tryz.func234,Tryz.ntmps234
 go_wp2_with fail
 go_ret
 exact⟨k3_ (Mods.refl _ _) _,rfl,HR.out,HS.out⟩
open Go.RowKit
theorem zdu_ (s:LU) (w:World) (hs:s.length≤1000000):
  Calls Tryz.prog 232 #[.string ⟨s.toArray⟩] w fun e w'=>(∃ (own:LU) (k er:Int),e= .returned (.tuple #[.string ⟨own.toArray⟩,.int .i64 k,.int .i64 er])∧(qy_ (z2_ s)=none→er=41)∧(∀ x,qy_ (z2_ s)=some x→own=x.1∧k=x.2.1∧er=0))∧Bel w w':=by
 refine(Rule_c s w (by omega)).mono ?_
 rintro e w' ⟨rfl,hb⟩
 refine⟨?_,hb⟩
 unfold zkg_
 cases qy_ (z2_ s) with
 |none=>exact⟨[],0,41,rfl,(fun _=>rfl),(fun _ h=>by cases h)⟩
 |some x=>exact⟨x.1,x.2.1,0,rfl,(fun h=>by cases h),(fun _ h=>by cases h;exact⟨rfl,rfl,rfl⟩)⟩
theorem zds_ (r:Nat) (l:List Wd) (w:World) (hw:Env w) (h:RdW w r l) (hn:ze_ l=none):
  Calls Tryz.prog 113 #[.pointer (some ⟨r,0,none⟩)] w fun e w'=>e= .returned (jp_ [] false)∧w=w':=by
 match l,h with
 |[],h=>exact z75_ r w h
 |(t,true)::l,h=>exact z3l_ r t l w h
 |(t,false)::l,h=>
  cases hc:Lib.contains [40,41,36] t
  ·simp [ze_,hc] at hn
  ·exact za4_ r t l w hw h hc
theorem z7j_ (r:Nat) (l:List Wd) (w:World) (hw:Env w) (h:RdW w r l) (hs:Shorts l):
  Calls Tryz.prog 113 #[.pointer (some ⟨r,0,none⟩)] w fun e w'=>∃ s:LU,s.length≤1000000∧e= .returned (.tuple #[.string ⟨s.toArray⟩,.bool (ze_ l).isSome])∧Mods [r] w w'∧(∀ x,ze_ l=some x→s=x.1∧RdW w' r x.2):=by
 have hp:=z49_ r l w hw h
 cases ho:ze_ l with
 |some x=>
  have:=y1_ (fun _ _ _=>zt_) hs ho
  refine(zj9_ 113 ze_ r l w hp).mono ?_
  rintro e w' ⟨s,rfl,hm,hx⟩
  have h1:=(hx x ho).1
  rw[ho] at hx ⊢
  exact⟨s,by rw[h1];exact this,rfl,hm,hx⟩
 |none=>
  have h0:=zds_ r l w hw h ho
  refine h0.mono ?_
  rintro e w' ⟨rfl,rfl⟩
  exact⟨[],by simp,rfl,Mods.refl _ _,fun _ h=>by cases h⟩
theorem qw_ {w:World} {p i b:Nat} {v u:Value} (h:w.cell? ⟨b,0,none⟩=some u) (hne:b≠p):(w.setCell ⟨p,i,none⟩ v).cell? ⟨b,0,none⟩=some u:=by
 rw[show (w.setCell ⟨p,i,none⟩ v).cell? ⟨b,0,none⟩=w.cell? ⟨b,0,none⟩ from World.cell?_of_block (Below.heap_setCell _ _ _ _ (fun e=>hne e))]
 exact h
def z64_ (o:Option (LU × Int × LL × NormFn)) (k:Int):Bool:=match o with
 |none=>false
 |some x=>x.2.1==k
theorem zht_ (b1 b2 b3 r p i:Nat) (k:Int) (l:List Wd) (d:DefS) (w:World) (hw:Env w) (hO:Off r) (h1:w.cell? ⟨b1,0,none⟩=some (z7_ r)) (h2:w.cell? ⟨b2,0,none⟩=some (.pointer (some ⟨p,i,none⟩))) (h3:w.cell? ⟨b3,0,none⟩=some (.int .i64 k)) (hb:b2≠r) (hb3:b3≠r) (hb3p:b3≠p) (hp:p≠r)
  (hd:DefAt w p d) (hci:∀ vn vs vm vy,∃ v,(zn_ d vn vs vm vy)[i]?=some v) (hR:RdW w r l) (hs:Shorts l):
  Calls Tryz.prog 231 #[z7_ b1,z7_ b2,z7_ b3] w (fun e w'=>∃ (w1:World) (own:LU),Mods [r] w w1∧w'=w1.setCell ⟨p,i,none⟩ (.string ⟨own.toArray⟩)∧match ze_ l with
   |none=>e= .returned (.bool false)
   |some x=>e= .returned (.bool (z64_ (qy_ (z2_ x.1)) k))∧RdW w1 r x.2∧(∀ y,qy_ (z2_ x.1)=some y→own=y.1)):=by
 have HL:=hiD (z7j_ r l w hw hR hs)
 have h1':w.cell? ⟨b1,0,none⟩=some (.pointer (some ⟨r,0,none⟩)):=h1
 have HF:=hiD (show ∀ w1,Mods [r] w w1→w1.frozen? ⟨p,i,none⟩=false∧∃ v,w1.cell? ⟨p,i,none⟩=some v from fun w1 hm=>by
  obtain⟨vn,vs,vm,vy,hB,_⟩:=hd
  obtain⟨v,hv⟩:=hci vn vs vm vy
  have hB1:=hm.bk hB (by simpa using hp)
  exact⟨hB1.frozen i,v,(hB1.cell i).trans hv⟩)
 have hb':b2 ∉ [r]:=by simpa using hb
 have hb3':b3 ∉ [r]:=by simpa using hb3
 clear h1 hR hd hci
 unfold z7_
 cases ho:ze_ l with
 |none=>
  rw[ho] at HL
  simp only[Option.isSome_none] at HL
  go_enter Tryz.func231,Tryz.ntmps231
  go_wp2_with (first|(go_at_call 113;refine HL.out.mono ?_;rintro e w1 ⟨s,hsl,rfl,hm,hx⟩;clear hx)|(go_at_call 232;refine(zdu_ s _ hsl).mono ?_;rintro e w2 ⟨⟨own,k2,er,rfl,q1,q2⟩,hb2⟩;clear q1 q2;have hm2:=hm.trans (Mods.of_below hb2 _);have c2:=hm2.cell h2 hb';obtain⟨c4,v3,c3⟩:=HF.out _ hm2;have c5:=qw_ (i:=i) (v:= .string ⟨own.toArray⟩) (hm2.cell h3 hb3') hb3p))
  go_ret
  exact⟨w2,own,hm2,rfl,rfl⟩
 |some x=>
  obtain⟨s,t⟩:=x
  have hsl:=y1_ (fun _ _ _=>zt_) hs ho
  simp only at hsl
  have HP:Hid (Calls Tryz.prog 113 #[.pointer (some ⟨r,0,none⟩)] w fun e w'=>e= .returned (.tuple #[.string ⟨s.toArray⟩,.bool true])∧Mods [r] w w'∧RdW w' r t):=hiD (HL.out.mono (by
   rintro e w' ⟨s',_,rfl,hm,hx⟩
   obtain⟨rfl,hr⟩:=hx _ ho
   rw[ho]
   exact⟨rfl,hm,hr⟩))
  clear HL ho hs
  simp only
  cases hr:qy_ (z2_ s) with
  |none=>
   go_enter Tryz.func231,Tryz.ntmps231
   go_wp2_with (first|(go_at_call 113;refine HP.out.mono ?_;rintro e w1 ⟨rfl,hm,hrd⟩)|(go_at_call 232;refine(zdu_ s _ hsl).mono ?_;rintro e w2 ⟨⟨own,k2,er,rfl,q1,q2⟩,hb2⟩;obtain rfl:=q1 hr;clear q1 q2;have hm2:=hm.trans (Mods.of_below hb2 _);have c2:=hm2.cell h2 hb';obtain⟨c4,v3,c3⟩:=HF.out _ hm2;have c5:=qw_ (i:=i) (v:= .string ⟨own.toArray⟩) (hm2.cell h3 hb3') hb3p))
   go_ret
   exact⟨w2,own,hm2,rfl,rfl,hrd.below hb2,fun _ h=>by cases h⟩
  |some y=>
   have HR:=hiD hr
   clear hr
   cases hk:(y.2.1==k)
   all_goals
    have hk2:z64_ (some y) k=_:=hk
    have HK:=hiD hk2
    clear hk2
    go_enter Tryz.func231,Tryz.ntmps231
    go_wp2_with (first|(go_at_call 113;refine HP.out.mono ?_;rintro e w1 ⟨rfl,hm,hrd⟩)|(go_at_call 232;refine(zdu_ s _ hsl).mono ?_;rintro e w2 ⟨⟨own,k2,er,rfl,q1,q2⟩,hb2⟩;obtain⟨rfl,rfl,rfl⟩:=q2 _ HR.out;clear q1 q2;have hm2:=hm.trans (Mods.of_below hb2 _);have c2:=hm2.cell h2 hb';obtain⟨c4,v3,c3⟩:=HF.out _ hm2;have c5:=qw_ (i:=i) (v:= .string ⟨y.1.toArray⟩) (hm2.cell h3 hb3') hb3p))
    go_ret
    rw[HK.out]
    exact⟨w2,y.1,hm2,rfl,rfl,hrd.below hb2,fun _ h=>by cases h;rfl⟩
theorem zg6_ (k:Int) (l:List Wd):z1t_ k l=match ze_ l with
   |none=>none
   |some x=>if z64_ (qy_ (z2_ x.1)) k then (match qy_ (z2_ x.1) with
    |none=>none
    |some y=>some (y.1,x.2)) else none:=by
 unfold z1t_ z64_
 cases ze_ l with
 |none=>rfl
 |some x=>
  simp only
  cases qy_ (z2_ x.1)<;>rfl
theorem zfw_ (b1 b2 b3 r p i:Nat) (k:Int) (l:List Wd) (d:DefS) (w:World) (hw:Env w) (hO:Off r) (h1:w.cell? ⟨b1,0,none⟩=some (z7_ r)) (h2:w.cell? ⟨b2,0,none⟩=some (.pointer (some ⟨p,i,none⟩))) (h3:w.cell? ⟨b3,0,none⟩=some (.int .i64 k)) (hb:b2≠r) (hb3:b3≠r) (hb3p:b3≠p) (hp:p≠r)
  (hd:DefAt w p d) (hci:∀ vn vs vm vy,∃ v,(zn_ d vn vs vm vy)[i]?=some v) (hR:RdW w r l) (hs:Shorts l) (F:LU→DefS) (hF:∀ w1 x,DefAt w1 p d→DefAt (w1.setCell ⟨p,i,none⟩ (.string ⟨x.toArray⟩)) p (F x)):
  Calls Tryz.prog 231 #[z7_ b1,z7_ b2,z7_ b3] w (js_ w r p ((z1t_ k l).map fun x=>(F x.1,x.2))):=by
 refine(zht_ b1 b2 b3 r p i k l d w hw hO h1 h2 h3 hb hb3 hb3p hp hd hci hR hs).mono ?_
 rintro e w' ⟨w1,own,hm,rfl,ho⟩
 have hd1:=hd.modr hR hp hm
 refine⟨k3_ (z3x_ hm) _,?_⟩
 rw[zg6_]
 cases hp:ze_ l with
 |none=>rw[hp] at ho;exact ho
 |some x=>
  rw[hp] at ho
  obtain⟨rfl,hr,hy⟩:=ho
  simp only
  cases hr2:qy_ (z2_ x.1) with
  |none=>rfl
  |some y=>
   obtain rfl:=hy y hr2
   cases hk:z64_ (some y) k
   ·rfl
   ·exact⟨rfl,z0o_ hr hd1 (by assumption) _,hF _ _ hd1⟩
theorem zaj_ (b1 b2 r p:Nat) (l:List Wd) (d:DefS) (w:World) (hw:Env w) (hO:Off r) (h1:w.cell? ⟨b1,0,none⟩=some (z7_ r)) (h2:w.cell? ⟨b2,0,none⟩=some (z7_ p)) (hb:b2≠r) (hp:p≠r)
  (hd:DefAt w p d) (hR:RdW w r l) (hs:Shorts l):
  Calls Tryz.prog 188 #[z7_ b1,z7_ b2] w (fun e w'=>∃ (w1:World) (f:LU),Mods [r] w w1∧w'=w1.setCell ⟨p,6,none⟩ (.string ⟨f.toArray⟩)∧match ze_ l with
   |none=>e= .returned (.bool false)
   |some x=>e= .returned (.bool (z44_ x.1==0))∧RdW w1 r x.2∧f=z4d_ x.1):=by
 have HL:=hiD (z7j_ r l w hw hR hs)
 have h1':w.cell? ⟨b1,0,none⟩=some (.pointer (some ⟨r,0,none⟩)):=h1
 have h2':w.cell? ⟨b2,0,none⟩=some (.pointer (some ⟨p,0,none⟩)):=h2
 have HF:=hiD (show ∀ w1,Mods [r] w w1→w1.frozen? ⟨p,6,none⟩=false∧∃ v,w1.cell? ⟨p,6,none⟩=some v from fun w1 hm=>by
  obtain⟨vn,vs,vm,vy,hB,_⟩:=hd
  have hB1:=hm.bk hB (by simpa using hp)
  exact⟨hB1.frozen 6,_,(hB1.cell 6).trans rfl⟩)
 have hb':b2 ∉ [r]:=by simpa using hb
 clear h1 h2 hR hd
 unfold z7_
 cases ho:ze_ l with
 |none=>
  rw[ho] at HL
  simp only[Option.isSome_none] at HL
  go_enter Tryz.func188,Tryz.ntmps188
  go_wp2_with (first|(go_at_call 113;refine HL.out.mono ?_;rintro e w1 ⟨s,hsl,rfl,hm,hx⟩;clear hx;have c2:=hm.cell h2' hb';obtain⟨c4,v3,c3⟩:=HF.out _ hm)|(go_at_call 189;refine(zed_ s _).mono ?_;unfold strE;rintro e w2 ⟨rfl,rfl⟩))
  go_ret
  exact⟨w1,z4d_ s,hm,rfl,rfl⟩
 |some x=>
  obtain⟨s,t⟩:=x
  have HP:Hid (Calls Tryz.prog 113 #[.pointer (some ⟨r,0,none⟩)] w fun e w'=>e= .returned (.tuple #[.string ⟨s.toArray⟩,.bool true])∧Mods [r] w w'∧RdW w' r t):=hiD (HL.out.mono (by
   rintro e w' ⟨s',_,rfl,hm,hx⟩
   obtain⟨rfl,hr⟩:=hx _ ho
   rw[ho]
   exact⟨rfl,hm,hr⟩))
  clear HL ho hs
  simp only
  go_enter Tryz.func188,Tryz.ntmps188
  go_wp2_with (first|(go_at_call 113;refine HP.out.mono ?_;rintro e w1 ⟨rfl,hm,hrd⟩;have c2:=hm.cell h2' hb';obtain⟨c4,v3,c3⟩:=HF.out _ hm)|(go_at_call 189;refine(zed_ s _).mono ?_;unfold strE;rintro e w2 ⟨rfl,rfl⟩))
  go_ret
  exact⟨w1,z4d_ s,hm,rfl,rfl,hrd,rfl⟩
theorem zak_ (b1 b2 r p:Nat) (l:List Wd) (d:DefS) (w:World) (hw:Env w) (hO:Off r) (h1:w.cell? ⟨b1,0,none⟩=some (z7_ r)) (h2:w.cell? ⟨b2,0,none⟩=some (z7_ p)) (hb:b2≠r) (hp:p≠r)
  (hd:DefAt w p d) (hR:RdW w r l) (hs:Shorts l):
  Calls Tryz.prog 188 #[z7_ b1,z7_ b2] w (js_ w r p (match ze_ l with
  |none=>none
  |some (s,t)=>if z44_ s==0 then some ({d with form:=z4d_ s},t) else none)):=by
 refine(zaj_ b1 b2 r p l d w hw hO h1 h2 hb hp hd hR hs).mono ?_
 rintro e w' ⟨w1,f,hm,rfl,ho⟩
 have hd1:=hd.modr hR hp hm
 refine⟨k3_ (z3x_ hm) _,?_⟩
 cases hq:ze_ l with
 |none=>rw[hq] at ho;exact ho
 |some x=>
  rw[hq] at ho
  obtain⟨rfl,hr,rfl⟩:=ho
  simp only
  cases hk:z44_ x.1==0
  ·rfl
  ·exact⟨rfl,z0o_ hr hd1 hp _,zhe_ hd1 _⟩
theorem zdd_ (b1 b2 r p:Nat) (l:List Wd) (d:DefS) (w:World) (hw:Env w) (hO:Off r) (h1:w.cell? ⟨b1,0,none⟩=some (z7_ r)) (h2:w.cell? ⟨b2,0,none⟩=some (z7_ p)) (hb:b2≠r) (hbp:b2≠p) (hp:p≠r)
  (hd:DefAt w p d) (hR:RdW w r l) (hs:Shorts l):
  Calls Tryz.prog 191 #[z7_ b1,z7_ b2] w (fun e w'=>∃ (w1:World) (q:Bool),Mods [r] w w1∧w'=w1.setCell ⟨p,12,none⟩ (.bool q)∧match ze_ l with
   |none=>e= .returned (.bool false)
   |some x=>e= .returned (.bool (x.1==zb_||x.1==zl_))∧RdW w1 r x.2∧q=(x.1==zb_)):=by
 have HL:=hiD (z7j_ r l w hw hR hs)
 have h1':w.cell? ⟨b1,0,none⟩=some (.pointer (some ⟨r,0,none⟩)):=h1
 have h2':w.cell? ⟨b2,0,none⟩=some (.pointer (some ⟨p,0,none⟩)):=h2
 have HF:=hiD (show ∀ w1,Mods [r] w w1→w1.frozen? ⟨p,12,none⟩=false∧(∃ v,w1.cell? ⟨p,12,none⟩=some v)∧(∀ u,(w1.setCell ⟨p,12,none⟩ u).cell? ⟨p,12,none⟩=some u) from fun w1 hm=>by
  obtain⟨vn,vs,vm,vy,hB,_⟩:=hd
  have hB1:=hm.bk hB (by simpa using hp)
  refine⟨hB1.frozen 12,⟨_,(hB1.cell 12).trans rfl⟩,fun u=>?_⟩
  rw[(hB1.set 12 u).cell 12]
  simp [zn_])
 have hb':b2 ∉ [r]:=by simpa using hb
 clear h1 h2 hR hd
 unfold z7_
 cases ho:ze_ l with
 |none=>
  rw[ho] at HL
  simp only[Option.isSome_none] at HL
  go_enter Tryz.func191,Tryz.ntmps191
  go_wp2_with (go_at_call 113;refine HL.out.mono ?_;rintro e w1 ⟨s,hsl,rfl,hm,hx⟩;clear hx;have c2:=hm.cell h2' hb';obtain⟨c4,⟨v3,c3⟩,c5⟩:=HF.out _ hm;clear c5)
  go_ret
  exact⟨w1,_,hm,rfl,rfl⟩
 |some x=>
  obtain⟨s,t⟩:=x
  have HP:Hid (Calls Tryz.prog 113 #[.pointer (some ⟨r,0,none⟩)] w fun e w'=>e= .returned (.tuple #[.string ⟨s.toArray⟩,.bool true])∧Mods [r] w w'∧RdW w' r t):=hiD (HL.out.mono (by
   rintro e w' ⟨s',_,rfl,hm,hx⟩
   obtain⟨rfl,hr⟩:=hx _ ho
   rw[ho]
   exact⟨rfl,hm,hr⟩))
  clear HL ho hs
  simp only
  cases hq1:s==zb_<;>cases hq2:s==zl_
  all_goals
   unfold zb_ at hq1
   unfold zl_ at hq2
   go_enter Tryz.func191,Tryz.ntmps191
   go_wp2_with (go_at_call 113;refine HP.out.mono ?_;rintro e w1 ⟨rfl,hm,hrd⟩;have c2:=hm.cell h2' hb';obtain⟨c4,⟨v3,c3⟩,c5⟩:=HF.out _ hm;have c6:=c5 (.bool true);have c7:=c5 (.bool false);have c8:=fun v=>qw_ (i:=12) (v:=v) c2 hbp;clear c5)
   go_ret
   exact⟨w1,_,hm,rfl,rfl,hrd,rfl⟩
theorem zei_ (b1 b2 r p:Nat) (l:List Wd) (d:DefS) (w:World) (hw:Env w) (hO:Off r) (h1:w.cell? ⟨b1,0,none⟩=some (z7_ r)) (h2:w.cell? ⟨b2,0,none⟩=some (z7_ p)) (hb:b2≠r) (hbp:b2≠p) (hp:p≠r)
  (hd:DefAt w p d) (hR:RdW w r l) (hs:Shorts l):
  Calls Tryz.prog 191 #[z7_ b1,z7_ b2] w (js_ w r p (match ze_ l with
  |none=>none
  |some (s,t)=>if s==zb_||s==zl_ then some ({d with oper:=s==zb_},t) else none)):=by
 refine(zdd_ b1 b2 r p l d w hw hO h1 h2 hb hbp hp hd hR hs).mono ?_
 rintro e w' ⟨w1,q,hm,rfl,ho⟩
 have hd1:=hd.modr hR hp hm
 refine⟨k3_ (z3x_ hm) _,?_⟩
 cases hq:ze_ l with
 |none=>rw[hq] at ho;exact ho
 |some x=>
  rw[hq] at ho
  obtain⟨rfl,hr,rfl⟩:=ho
  simp only
  cases hk:(x.1==zb_||x.1==zl_)
  ·rfl
  ·exact⟨rfl,z0o_ hr hd1 hp _,zfh_ hd1 _⟩
end Go.Proofs.YtakfpngfpknedaaGreatDoor
