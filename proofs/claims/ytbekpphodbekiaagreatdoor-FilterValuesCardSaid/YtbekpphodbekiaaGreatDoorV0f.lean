import Derived.Test.YtbekpphodbekiaaGreatDoorV0e
set_option linter.all false
set_option maxHeartbeats 8000000
set_option maxRecDepth 100000
namespace Go.Proofs.YtbekpphodbekiaaGreatDoor
open Go.RowKit
theorem DefAt.bk {w:World} {p:Nat} {d:DefS} (h:DefAt w p d):∃ vn vs vm vy,Bk w p 111 (zq_ d vn vs vm vy):=by
 obtain⟨vn,vs,vm,vy,h1,_⟩:=h
 exact⟨vn,vs,vm,vy,h1⟩
theorem DefAt.noword {w:World} {p:Nat} {d:DefS} (h:DefAt w p d):NoWord w [p]:=by
 obtain⟨vn,vs,vm,vy,h1,_⟩:=h
 exact NoWord.of_bk h1 (by decide)
def xa_ (w:World) (r p:Nat) (o:Option (DefS × List Wd)) (e:Ending) (w':World):Prop:=Mods [r,p] w w'∧match o with
 |none=>e= .returned (.bool false)
 |some (d',l')=>e= .returned (.bool true)∧RdW w' r l'∧DefAt w' p d'
theorem z5a_ {r p:Nat} {w w':World} (h:Mods [r] w w'):Mods [r,p] w w':=h.mono (by simp)
theorem DefAt.modr {w w':World} {r p:Nat} {d:DefS} {l:List Wd} (h:DefAt w p d) (hr:RdW w r l) (hne:p≠r) (hm:Mods [r] w w'):DefAt w' p d:=h.mods hm (by simpa using hne) hr.notext
theorem z25_ {w:World} {r p i:Nat} {d:DefS} {l:List Wd} (h:RdW w r l) (hd:DefAt w p d) (hne:p≠r) (v:Value):RdW (w.setCell ⟨p,i,none⟩ v) r l:=
 h.mods ((Mods.refl [p] w).setCell (by simp) v) (by simpa using hne.symm) hd.noword
theorem z6_ {w:World} {p i:Nat} {d:DefS} {u:Value} {xs:LL} (h:Texts w u xs) (hd:DefAt w p d) (v:Value):Texts (w.setCell ⟨p,i,none⟩ v) u xs:=
 h.mods ((Mods.refl [p] w).setCell (by simp) v) hd.notext
theorem v0_ {w w':World} {r p i:Nat} (h:Mods [r,p] w w') (v:Value):Mods [r,p] w (w'.setCell ⟨p,i,none⟩ v):=h.setCell (by simp) v
theorem zou_ {w:World} {p:Nat} {d:DefS} (hd:DefAt w p d) (x:LU):DefAt (w.setCell ⟨p,1,none⟩ (.string ⟨x.toArray⟩)) p {d with oid:=x}:=by
 obtain⟨vn,vs,vm,vy,h1,h2,h3,h4,h5⟩:=id hd
 exact⟨vn,vs,vm,vy,by simpa [zq_] using h1.set 1 (.string ⟨x.toArray⟩),z6_ h2 hd _,z6_ h3 hd _,z6_ h4 hd _,z6_ h5 hd _⟩
theorem zhd_ {w:World} {p:Nat} {d:DefS} (hd:DefAt w p d) {v:Value} {x:LL} (hx:Texts w v x):DefAt (w.setCell ⟨p,2,none⟩ v) p {d with names:=x}:=by
 obtain⟨vn,vs,vm,vy,h1,h2,h3,h4,h5⟩:=id hd
 exact⟨v,vs,vm,vy,by simpa [zq_] using h1.set 2 v,z6_ hx hd v,z6_ h3 hd v,z6_ h4 hd v,z6_ h5 hd v⟩
theorem zk2_ {w:World} {p:Nat} {d:DefS} (hd:DefAt w p d) {v:Value} {x:LL} (hx:Texts w v x):DefAt (w.setCell ⟨p,3,none⟩ v) p {d with sup:=x}:=by
 obtain⟨vn,vs,vm,vy,h1,h2,h3,h4,h5⟩:=id hd
 exact⟨vn,v,vm,vy,by simpa [zq_] using h1.set 3 v,z6_ h2 hd v,z6_ hx hd v,z6_ h4 hd v,z6_ h5 hd v⟩
theorem zkp_ {w:World} {p:Nat} {d:DefS} (hd:DefAt w p d) {v:Value} {x:LL} (hx:Texts w v x):DefAt (w.setCell ⟨p,4,none⟩ v) p {d with must:=x}:=by
 obtain⟨vn,vs,vm,vy,h1,h2,h3,h4,h5⟩:=id hd
 exact⟨vn,vs,v,vy,by simpa [zq_] using h1.set 4 v,z6_ h2 hd v,z6_ h3 hd v,z6_ hx hd v,z6_ h5 hd v⟩
theorem zr2_ {w:World} {p:Nat} {d:DefS} (hd:DefAt w p d) {v:Value} {x:LL} (hx:Texts w v x):DefAt (w.setCell ⟨p,5,none⟩ v) p {d with may:=x}:=by
 obtain⟨vn,vs,vm,vy,h1,h2,h3,h4,h5⟩:=id hd
 exact⟨vn,vs,vm,v,by simpa [zq_] using h1.set 5 v,z6_ h2 hd v,z6_ h3 hd v,z6_ h4 hd v,z6_ hx hd v⟩
theorem zlq_ {w:World} {p:Nat} {d:DefS} (hd:DefAt w p d) (x:LU):DefAt (w.setCell ⟨p,6,none⟩ (.string ⟨x.toArray⟩)) p {d with form:=x}:=by
 obtain⟨vn,vs,vm,vy,h1,h2,h3,h4,h5⟩:=id hd
 exact⟨vn,vs,vm,vy,by simpa [zq_] using h1.set 6 (.string ⟨x.toArray⟩),z6_ h2 hd _,z6_ h3 hd _,z6_ h4 hd _,z6_ h5 hd _⟩
theorem zq9_ {w:World} {p:Nat} {d:DefS} (hd:DefAt w p d) (x:LU):DefAt (w.setCell ⟨p,7,none⟩ (.string ⟨x.toArray⟩)) p {d with eqr:=x}:=by
 obtain⟨vn,vs,vm,vy,h1,h2,h3,h4,h5⟩:=id hd
 exact⟨vn,vs,vm,vy,by simpa [zq_] using h1.set 7 (.string ⟨x.toArray⟩),z6_ h2 hd _,z6_ h3 hd _,z6_ h4 hd _,z6_ h5 hd _⟩
theorem zn6_ {w:World} {p:Nat} {d:DefS} (hd:DefAt w p d) (x:LU):DefAt (w.setCell ⟨p,8,none⟩ (.string ⟨x.toArray⟩)) p {d with ordr:=x}:=by
 obtain⟨vn,vs,vm,vy,h1,h2,h3,h4,h5⟩:=id hd
 exact⟨vn,vs,vm,vy,by simpa [zq_] using h1.set 8 (.string ⟨x.toArray⟩),z6_ h2 hd _,z6_ h3 hd _,z6_ h4 hd _,z6_ h5 hd _⟩
theorem zl8_ {w:World} {p:Nat} {d:DefS} (hd:DefAt w p d) (x:LU):DefAt (w.setCell ⟨p,9,none⟩ (.string ⟨x.toArray⟩)) p {d with subs:=x}:=by
 obtain⟨vn,vs,vm,vy,h1,h2,h3,h4,h5⟩:=id hd
 exact⟨vn,vs,vm,vy,by simpa [zq_] using h1.set 9 (.string ⟨x.toArray⟩),z6_ h2 hd _,z6_ h3 hd _,z6_ h4 hd _,z6_ h5 hd _⟩
theorem zg2_ {w:World} {p:Nat} {d:DefS} (hd:DefAt w p d) (x:Bool):DefAt (w.setCell ⟨p,10,none⟩ (.bool x)) p {d with single:=x}:=by
 obtain⟨vn,vs,vm,vy,h1,h2,h3,h4,h5⟩:=id hd
 exact⟨vn,vs,vm,vy,by simpa [zq_] using h1.set 10 (.bool x),z6_ h2 hd _,z6_ h3 hd _,z6_ h4 hd _,z6_ h5 hd _⟩
theorem zje_ {w:World} {p:Nat} {d:DefS} (hd:DefAt w p d) (x:Bool):DefAt (w.setCell ⟨p,11,none⟩ (.bool x)) p {d with fixed:=x}:=by
 obtain⟨vn,vs,vm,vy,h1,h2,h3,h4,h5⟩:=id hd
 exact⟨vn,vs,vm,vy,by simpa [zq_] using h1.set 11 (.bool x),z6_ h2 hd _,z6_ h3 hd _,z6_ h4 hd _,z6_ h5 hd _⟩
theorem zkz_ {w:World} {p:Nat} {d:DefS} (hd:DefAt w p d) (x:Bool):DefAt (w.setCell ⟨p,12,none⟩ (.bool x)) p {d with oper:=x}:=by
 obtain⟨vn,vs,vm,vy,h1,h2,h3,h4,h5⟩:=id hd
 exact⟨vn,vs,vm,vy,by simpa [zq_] using h1.set 12 (.bool x),z6_ h2 hd _,z6_ h3 hd _,z6_ h4 hd _,z6_ h5 hd _⟩
theorem zlx_ {w:World} {p:Nat} {d:DefS} (hd:DefAt w p d) (x:Int):DefAt (w.setCell ⟨p,13,none⟩ (.int .i64 x)) p {d with kind:=x}:=by
 obtain⟨vn,vs,vm,vy,h1,h2,h3,h4,h5⟩:=id hd
 exact⟨vn,vs,vm,vy,by simpa [zq_] using h1.set 13 (.int .i64 x),z6_ h2 hd _,z6_ h3 hd _,z6_ h4 hd _,z6_ h5 hd _⟩
def zq7_ (w:World) (r p i:Nat) (o:Option (LL × List Wd)) (e:Ending) (w':World):Prop:=∃ w1 v,Mods [r] w w1∧w'=w1.setCell ⟨p,i,none⟩ v∧match o with
 |none=>e= .returned (.bool false)
 |some (xs,l')=>e= .returned (.bool true)∧Texts w1 v xs∧RdW w1 r l'
theorem zoc_ (f:FuncId) (one:List Wd→Option (LU × List Wd)) (sign:LU) (hsg:sign=[]∨sign=[36]) (r:Nat) (l:List Wd) (w:World) (hw:Env w) (hO:Off r) (hone:OneOK f r one) (h:RdW w r l) (hs:Shorts l) (hl:l.length≤1000000):
  Calls Tryz.prog 116 #[.pointer (some ⟨r,0,none⟩),.string ⟨sign.toArray⟩,.func (.func f) #[.pointer (some ⟨r,0,none⟩)] #[]] w
   fun e w'=>∃ A n c,e= .returned (.tuple #[.slice A n c,.bool (x8_ sign one l).isSome])∧Mods [r] w w'∧∀ xs l',x8_ sign one l=some (xs,l')→Texts w' (.slice A n c) xs∧RdW w' r l':=by
 refine(list_c f one sign hsg r l w hw hO hone h hs hl).mono ?_
 intro e w' hL
 cases ho:x8_ sign one l with
 |none=>
  rw[ho] at hL
  obtain⟨rfl,hm⟩:=hL
  exact⟨none,0,0,rfl,hm,fun _ _ h=>by cases h⟩
 |some x=>
  rw[ho] at hL
  obtain⟨v,rfl,ht,hr,hm⟩:=hL
  obtain⟨A,n,c,rfl⟩:=ht.isSlice
  exact⟨A,n,c,rfl,hm,fun _ _ h=>by cases h;exact⟨ht,hr⟩⟩
theorem znr_ (b1 b2 r p i:Nat) (l:List Wd) (d:DefS) (v0:Value) (w:World) (hw:Env w) (hO:Off r) (h1:w.cell? ⟨b1,0,none⟩=some (z8_ r)) (h2:w.cell? ⟨b2,0,none⟩=some (.pointer (some ⟨p,i,none⟩))) (hb:b2≠r) (hp:p≠r)
  (hd:DefAt w p d) (hv:w.cell? ⟨p,i,none⟩=some v0) (hR:RdW w r l) (hs:Shorts l) (hl:l.length≤1000000):
  Calls Tryz.prog 115 #[z8_ b1,z8_ b2] w (zq7_ w r p i (x8_ [36] yb_ l)):=by
 have HL:=hiD (zoc_ 117 yb_ [36] (.inr rfl) r l w hw hO (zpr_ r hO) hR hs hl)
 have h1':w.cell? ⟨b1,0,none⟩=some (.pointer (some ⟨r,0,none⟩)):=h1
 have HF:=hiD (show ∀ w1,Mods [r] w w1→w1.frozen? ⟨p,i,none⟩=false from fun w1 hm=>by
  obtain⟨vn,vs,vm,vy,hB,_⟩:=hd
  exact(hm.bk hB (by simpa using hp)).frozen i)
 have hb':b2 ∉ [r]:=by simpa using hb
 have hp':p ∉ [r]:=by simpa using hp
 have hmf:=z4b_
 clear h1 hR hd
 unfold z8_
 go_enter Tryz.func115,Tryz.ntmps115
 go_wp2_with (go_at_call 116;refine HL.out.mono ?_;rintro e w1 ⟨A,n,c,rfl,hm,hx⟩;have c2:=hm.cell h2 hb';have c3:=hm.cell hv hp';have c4:=HF.out _ hm;have HX:=hiD hx;clear hx)
 go_ret
 refine⟨w1,.slice A n c,hm,rfl,?_⟩
 cases ho:x8_ [36] yb_ l with
 |none=>rfl
 |some x=>exact⟨rfl,HX.out _ _ ho⟩
theorem ze7_ {w w':World} {r p i:Nat} {l:List Wd} {d:DefS} {o:Option (LL × List Wd)} {e:Ending} (hd:DefAt w p d) (hR:RdW w r l) (hp:p≠r) (h:zq7_ w r p i o e w')
  (F:LL→DefS) (hF:∀ w1 v xs,DefAt w1 p d→Texts w1 v xs→DefAt (w1.setCell ⟨p,i,none⟩ v) p (F xs)):xa_ w r p (o.map fun x=>(F x.1,x.2)) e w':=by
 obtain⟨w1,v,hm,rfl,ho⟩:=h
 have hd1:=hd.modr hR hp hm
 refine⟨v0_ (z5a_ hm) v,?_⟩
 cases o with
 |none=>exact ho
 |some x=>exact⟨ho.1,z25_ ho.2.2 hd1 hp v,hF w1 v x.1 hd1 ho.2.1⟩
theorem zn4_ (b1 b2 r p:Nat) (l:List Wd) (d:DefS) (w:World) (hw:Env w) (hO:Off r) (h1:w.cell? ⟨b1,0,none⟩=some (z8_ r)) (h2:w.cell? ⟨b2,0,none⟩=some (z8_ p)) (hb:b2≠r) (hp:p≠r)
  (hd:DefAt w p d) (hR:RdW w r l) (hs:Shorts l) (hl:l.length≤1000000):
  Calls Tryz.prog 118 #[z8_ b1,z8_ b2] w (xa_ w r p ((x8_ [] qf_ l).map fun x=>({d with names:=x.1},x.2))):=by
 refine Calls.mono (R:=zq7_ w r p 2 (x8_ [] qf_ l)) ?_ (fun e w' h=>ze7_ hd hR hp h (fun xs=>{d with names:=xs}) (fun w1 v xs h1 h2=>zhd_ h1 h2))
 have HL:=hiD (zoc_ 119 qf_ [] (.inl rfl) r l w hw hO (zhz_ r) hR hs hl)
 have h1':w.cell? ⟨b1,0,none⟩=some (.pointer (some ⟨r,0,none⟩)):=h1
 have h2':w.cell? ⟨b2,0,none⟩=some (.pointer (some ⟨p,0,none⟩)):=h2
 have HF:=hiD (show ∀ w1,Mods [r] w w1→w1.frozen? ⟨p,2,none⟩=false∧∃ v,w1.cell? ⟨p,2,none⟩=some v from fun w1 hm=>by
  obtain⟨vn,vs,vm,vy,hB,_⟩:=hd
  have hB1:=hm.bk hB (by simpa using hp)
  exact⟨hB1.frozen 2,vn,(hB1.cell 2).trans rfl⟩)
 have hb':b2 ∉ [r]:=by simpa using hb
 have hmf:=z4b_
 clear h1 h2 hR hd
 unfold z8_
 go_enter Tryz.func118,Tryz.ntmps118
 go_wp2_with (go_at_call 116;refine HL.out.mono ?_;rintro e w1 ⟨A,n,c,rfl,hm,hx⟩;have c2:=hm.cell h2' hb';obtain⟨c4,v3,c3⟩:=HF.out _ hm;have HX:=hiD hx;clear hx)
 go_ret
 refine⟨w1,.slice A n c,hm,rfl,?_⟩
 cases ho:x8_ [] qf_ l with
 |none=>rfl
 |some x=>exact⟨rfl,HX.out _ _ ho⟩
theorem zr0_ (f:FuncId) (one:List Wd→Option (LU × List Wd)) (r:Nat) (l:List Wd) (w:World) (h:Calls Tryz.prog f #[.pointer (some ⟨r,0,none⟩)] w (z5i_ w r (one l))):
  Calls Tryz.prog f #[.pointer (some ⟨r,0,none⟩)] w fun e w'=>∃ s:LU,e= .returned (.tuple #[.string ⟨s.toArray⟩,.bool (one l).isSome])∧Mods [r] w w'∧(∀ x,one l=some x→s=x.1∧RdW w' r x.2):=by
 refine h.mono ?_
 intro e w' hL
 cases ho:one l with
 |none=>
  rw[ho] at hL
  obtain⟨s,rfl,hm⟩:=hL
  exact⟨s,rfl,hm,fun _ h=>by cases h⟩
 |some x=>
  rw[ho] at hL
  obtain⟨rfl,hr,hm⟩:=hL
  exact⟨_,rfl,hm,fun _ h=>by cases h;exact⟨rfl,hr⟩⟩
theorem zle_ (b1 r p:Nat) (l:List Wd) (d:DefS) (w:World) (h1:w.cell? ⟨b1,0,none⟩=some (z8_ r)) (hp:p≠r) (hd:DefAt w p d) (hR:RdW w r l):
  Calls Tryz.prog 120 #[z8_ b1] w (xa_ w r p ((qf_ l).map fun x=>(d,x.2))):=by
 have HL:=hiD (zr0_ 119 qf_ r l w (zdf_ r l w hR))
 have h1':w.cell? ⟨b1,0,none⟩=some (.pointer (some ⟨r,0,none⟩)):=h1
 have HD:=hiD (fun w1 (hm:Mods [r] w w1)=>hd.modr hR hp hm)
 clear h1 hR hd
 unfold z8_
 go_enter Tryz.func120,Tryz.ntmps120
 go_wp2_with (go_at_call 119;refine HL.out.mono ?_;rintro e w1 ⟨s,rfl,hm,hx⟩;have HX:=hiD hx;clear hx)
 go_ret
 refine⟨z5a_ hm,?_⟩
 cases ho:qf_ l with
 |none=>rfl
 |some x=>exact⟨rfl,(HX.out _ ho).2,HD.out _ hm⟩
theorem zk3_ (w:World) (c:LU):Texts (w.alloc (.cells #[.string ⟨c.toArray⟩] 9)) (.slice (some ⟨w.heap.size,0,none⟩) 1 1) [c]:=(Strs.made1 w c).texts
theorem zq8_ (b1 b2 r p:Nat) (l:List Wd) (d:DefS) (w:World) (hw:Env w) (hO:Off r) (h1:w.cell? ⟨b1,0,none⟩=some (z8_ r)) (h2:w.cell? ⟨b2,0,none⟩=some (z8_ p)) (hb:b2≠r) (hp:p≠r)
  (hd:DefAt w p d) (hR:RdW w r l) (hs:Shorts l):
  Calls Tryz.prog 121 #[z8_ b1,z8_ b2] w (xa_ w r p ((yb_ l).map fun x=>({d with sup:=[x.1]},x.2))):=by
 have HL:=hiD (zr0_ 117 yb_ r l w (zo8_ r l w hw hO hR hs))
 have h1':w.cell? ⟨b1,0,none⟩=some (.pointer (some ⟨r,0,none⟩)):=h1
 have h2':w.cell? ⟨b2,0,none⟩=some (.pointer (some ⟨p,0,none⟩)):=h2
 have HD:=hiD (fun w1 (hm:Mods [r] w w1)=>hd.modr hR hp hm)
 have HF:=hiD (show ∀ w1,Mods [r] w w1→w1.frozen? ⟨p,3,none⟩=false∧p<w1.heap.size∧∃ v,w1.cell? ⟨p,3,none⟩=some v from fun w1 hm=>by
  obtain⟨vn,vs,vm,vy,hB,_⟩:=hd
  have hB1:=hm.bk hB (by simpa using hp)
  exact⟨hB1.frozen 3,hB1.lt,vs,(hB1.cell 3).trans rfl⟩)
 have hb':b2 ∉ [r]:=by simpa using hb
 clear h1 h2 hR hd
 unfold z8_
 go_enter Tryz.func121,Tryz.ntmps121
 go_wp2_with (go_at_call 117;refine HL.out.mono ?_;rintro e w1 ⟨s,rfl,hm,hx⟩;have c2:=hm.cell h2' hb';obtain⟨c4,hplt,v3,c3⟩:=HF.out _ hm;have HX:=hiD hx;clear hx)
 go_ret
 have hd1:=HD.out _ hm
 have hb1:Bel w1 (w1.alloc (.cells #[.string ⟨s.toArray⟩] 9)):=(bR _ _).alloc (nR _) _
 have hd2:=hd1.below hb1
 rw[← World.setCell_alloc_past _ _ _ _ hplt]
 refine⟨v0_ (z5a_ (hm.alloc _)) _,?_⟩
 cases ho:yb_ l with
 |none=>rfl
 |some x=>
  obtain⟨rfl,hr⟩:=HX.out _ ho
  exact⟨rfl,z25_ (hr.below hb1) hd2 hp _,zk2_ hd2 (zk3_ w1 _)⟩
theorem zkt_ (b1 r p i:Nat) (l:List Wd) (d d':DefS) (v0:Bool) (w:World) (h1:w.cell? ⟨b1,0,none⟩=some (.pointer (some ⟨p,i,none⟩))) (hp:p≠r) (hd:DefAt w p d) (hR:RdW w r l)
  (hv:w.cell? ⟨p,i,none⟩=some (.bool v0)) (hs:DefAt (w.setCell ⟨p,i,none⟩ (.bool true)) p d'):
  Calls Tryz.prog 173 #[z8_ b1] w (xa_ w r p (some (d',l))):=by
 have hf:w.frozen? ⟨p,i,none⟩=false:=by
  obtain⟨vn,vs,vm,vy,hB⟩:=hd.bk
  exact hB.frozen i
 have HR:=hiD (z25_ (i:=i) hR hd hp (.bool true))
 have HS:=hiD hs
 clear hs hd hR
 unfold z8_
 go_enter Tryz.func173,Tryz.ntmps173
 go_wp2_with fail
 go_ret
 exact⟨v0_ (Mods.refl _ _) _,rfl,HR.out,HS.out⟩
open Go.RowKit
theorem zi1_ (s:LU) (w:World) (hs:s.length≤1000000):
  Calls Tryz.prog 92 #[.string ⟨s.toArray⟩] w fun e w'=>(∃ (own:LU) (k er:Int),e= .returned (.tuple #[.string ⟨own.toArray⟩,.int .i64 k,.int .i64 er])∧(j1_ (z2_ s)=none→er=41)∧(∀ x,j1_ (z2_ s)=some x→own=x.1∧k=x.2.1∧er=0))∧Bel w w':=by
 refine(zoj_ s w (by omega)).mono ?_
 rintro e w' ⟨rfl,hb⟩
 refine⟨?_,hb⟩
 unfold zld_
 cases j1_ (z2_ s) with
 |none=>exact⟨[],0,41,rfl,(fun _=>rfl),(fun _ h=>by cases h)⟩
 |some x=>exact⟨x.1,x.2.1,0,rfl,(fun h=>by cases h),(fun _ h=>by cases h;exact⟨rfl,rfl,rfl⟩)⟩
theorem ziy_ (r:Nat) (l:List Wd) (w:World) (hw:Env w) (h:RdW w r l) (hn:zi_ l=none):
  Calls Tryz.prog 59 #[.pointer (some ⟨r,0,none⟩)] w fun e w'=>e= .returned (x5_ [] false)∧w=w':=by
 match l,h with
 |[],h=>exact z9b_ r w h
 |(t,true)::l,h=>exact z5v_ r t l w h
 |(t,false)::l,h=>
  cases hc:Lib.contains [40,41,36] t
  ·simp [zi_,hc] at hn
  ·exact zdt_ r t l w hw h hc
theorem zcj_ (r:Nat) (l:List Wd) (w:World) (hw:Env w) (h:RdW w r l) (hs:Shorts l):
  Calls Tryz.prog 59 #[.pointer (some ⟨r,0,none⟩)] w fun e w'=>∃ s:LU,s.length≤1000000∧e= .returned (.tuple #[.string ⟨s.toArray⟩,.bool (zi_ l).isSome])∧Mods [r] w w'∧(∀ x,zi_ l=some x→s=x.1∧RdW w' r x.2):=by
 have hp:=z7e_ r l w hw h
 cases ho:zi_ l with
 |some x=>
  have:=yp_ (fun _ _ _=>zv_) hs ho
  refine(zr0_ 59 zi_ r l w hp).mono ?_
  rintro e w' ⟨s,rfl,hm,hx⟩
  have h1:=(hx x ho).1
  rw[ho] at hx ⊢
  exact⟨s,by rw[h1];exact this,rfl,hm,hx⟩
 |none=>
  have h0:=ziy_ r l w hw h ho
  refine h0.mono ?_
  rintro e w' ⟨rfl,rfl⟩
  exact⟨[],by simp,rfl,Mods.refl _ _,fun _ h=>by cases h⟩
theorem jc_ {w:World} {p i b:Nat} {v u:Value} (h:w.cell? ⟨b,0,none⟩=some u) (hne:b≠p):(w.setCell ⟨p,i,none⟩ v).cell? ⟨b,0,none⟩=some u:=by
 rw[show (w.setCell ⟨p,i,none⟩ v).cell? ⟨b,0,none⟩=w.cell? ⟨b,0,none⟩ from World.cell?_of_block (Below.heap_setCell _ _ _ _ (fun e=>hne e))]
 exact h
def zao_ (o:Option (LU × Int × LL × NormFn)) (k:Int):Bool:=match o with
 |none=>false
 |some x=>x.2.1==k
theorem zm0_ (b1 b2 b3 r p i:Nat) (k:Int) (l:List Wd) (d:DefS) (w:World) (hw:Env w) (hO:Off r) (h1:w.cell? ⟨b1,0,none⟩=some (z8_ r)) (h2:w.cell? ⟨b2,0,none⟩=some (.pointer (some ⟨p,i,none⟩))) (h3:w.cell? ⟨b3,0,none⟩=some (.int .i64 k)) (hb:b2≠r) (hb3:b3≠r) (hb3p:b3≠p) (hp:p≠r)
  (hd:DefAt w p d) (hci:∀ vn vs vm vy,∃ v,(zq_ d vn vs vm vy)[i]?=some v) (hR:RdW w r l) (hs:Shorts l):
  Calls Tryz.prog 172 #[z8_ b1,z8_ b2,z8_ b3] w (fun e w'=>∃ (w1:World) (own:LU),Mods [r] w w1∧w'=w1.setCell ⟨p,i,none⟩ (.string ⟨own.toArray⟩)∧match zi_ l with
   |none=>e= .returned (.bool false)
   |some x=>e= .returned (.bool (zao_ (j1_ (z2_ x.1)) k))∧RdW w1 r x.2∧(∀ y,j1_ (z2_ x.1)=some y→own=y.1)):=by
 have HL:=hiD (zcj_ r l w hw hR hs)
 have h1':w.cell? ⟨b1,0,none⟩=some (.pointer (some ⟨r,0,none⟩)):=h1
 have HF:=hiD (show ∀ w1,Mods [r] w w1→w1.frozen? ⟨p,i,none⟩=false∧∃ v,w1.cell? ⟨p,i,none⟩=some v from fun w1 hm=>by
  obtain⟨vn,vs,vm,vy,hB,_⟩:=hd
  obtain⟨v,hv⟩:=hci vn vs vm vy
  have hB1:=hm.bk hB (by simpa using hp)
  exact⟨hB1.frozen i,v,(hB1.cell i).trans hv⟩)
 have hb':b2 ∉ [r]:=by simpa using hb
 have hb3':b3 ∉ [r]:=by simpa using hb3
 clear h1 hR hd hci
 unfold z8_
 cases ho:zi_ l with
 |none=>
  rw[ho] at HL
  simp only[Option.isSome_none] at HL
  go_enter Tryz.func172,Tryz.ntmps172
  go_wp2_with (first|(go_at_call 59;refine HL.out.mono ?_;rintro e w1 ⟨s,hsl,rfl,hm,hx⟩;clear hx)|(go_at_call 92;refine(zi1_ s _ hsl).mono ?_;rintro e w2 ⟨⟨own,k2,er,rfl,q1,q2⟩,hb2⟩;clear q1 q2;have hm2:=hm.trans (Mods.of_below hb2 _);have c2:=hm2.cell h2 hb';obtain⟨c4,v3,c3⟩:=HF.out _ hm2;have c5:=jc_ (i:=i) (v:= .string ⟨own.toArray⟩) (hm2.cell h3 hb3') hb3p))
  go_ret
  exact⟨w2,own,hm2,rfl,rfl⟩
 |some x=>
  obtain⟨s,t⟩:=x
  have hsl:=yp_ (fun _ _ _=>zv_) hs ho
  simp only at hsl
  have HP:Hid (Calls Tryz.prog 59 #[.pointer (some ⟨r,0,none⟩)] w fun e w'=>e= .returned (.tuple #[.string ⟨s.toArray⟩,.bool true])∧Mods [r] w w'∧RdW w' r t):=hiD (HL.out.mono (by
   rintro e w' ⟨s',_,rfl,hm,hx⟩
   obtain⟨rfl,hr⟩:=hx _ ho
   rw[ho]
   exact⟨rfl,hm,hr⟩))
  clear HL ho hs
  simp only
  cases hr:j1_ (z2_ s) with
  |none=>
   go_enter Tryz.func172,Tryz.ntmps172
   go_wp2_with (first|(go_at_call 59;refine HP.out.mono ?_;rintro e w1 ⟨rfl,hm,hrd⟩)|(go_at_call 92;refine(zi1_ s _ hsl).mono ?_;rintro e w2 ⟨⟨own,k2,er,rfl,q1,q2⟩,hb2⟩;obtain rfl:=q1 hr;clear q1 q2;have hm2:=hm.trans (Mods.of_below hb2 _);have c2:=hm2.cell h2 hb';obtain⟨c4,v3,c3⟩:=HF.out _ hm2;have c5:=jc_ (i:=i) (v:= .string ⟨own.toArray⟩) (hm2.cell h3 hb3') hb3p))
   go_ret
   exact⟨w2,own,hm2,rfl,rfl,hrd.below hb2,fun _ h=>by cases h⟩
  |some y=>
   have HR:=hiD hr
   clear hr
   cases hk:(y.2.1==k)
   all_goals
    have hk2:zao_ (some y) k=_:=hk
    have HK:=hiD hk2
    clear hk2
    go_enter Tryz.func172,Tryz.ntmps172
    go_wp2_with (first|(go_at_call 59;refine HP.out.mono ?_;rintro e w1 ⟨rfl,hm,hrd⟩)|(go_at_call 92;refine(zi1_ s _ hsl).mono ?_;rintro e w2 ⟨⟨own,k2,er,rfl,q1,q2⟩,hb2⟩;obtain⟨rfl,rfl,rfl⟩:=q2 _ HR.out;clear q1 q2;have hm2:=hm.trans (Mods.of_below hb2 _);have c2:=hm2.cell h2 hb';obtain⟨c4,v3,c3⟩:=HF.out _ hm2;have c5:=jc_ (i:=i) (v:= .string ⟨y.1.toArray⟩) (hm2.cell h3 hb3') hb3p))
    go_ret
    rw[HK.out]
    exact⟨w2,y.1,hm2,rfl,rfl,hrd.below hb2,fun _ h=>by cases h;rfl⟩
theorem zli_ (k:Int) (l:List Wd):z3t_ k l=match zi_ l with
   |none=>none
   |some x=>if zao_ (j1_ (z2_ x.1)) k then (match j1_ (z2_ x.1) with
    |none=>none
    |some y=>some (y.1,x.2)) else none:=by
 unfold z3t_ zao_
 cases zi_ l with
 |none=>rfl
 |some x=>
  simp only
  cases j1_ (z2_ x.1)<;>rfl
theorem zmt_ (b1 b2 b3 r p i:Nat) (k:Int) (l:List Wd) (d:DefS) (w:World) (hw:Env w) (hO:Off r) (h1:w.cell? ⟨b1,0,none⟩=some (z8_ r)) (h2:w.cell? ⟨b2,0,none⟩=some (.pointer (some ⟨p,i,none⟩))) (h3:w.cell? ⟨b3,0,none⟩=some (.int .i64 k)) (hb:b2≠r) (hb3:b3≠r) (hb3p:b3≠p) (hp:p≠r)
  (hd:DefAt w p d) (hci:∀ vn vs vm vy,∃ v,(zq_ d vn vs vm vy)[i]?=some v) (hR:RdW w r l) (hs:Shorts l) (F:LU→DefS) (hF:∀ w1 x,DefAt w1 p d→DefAt (w1.setCell ⟨p,i,none⟩ (.string ⟨x.toArray⟩)) p (F x)):
  Calls Tryz.prog 172 #[z8_ b1,z8_ b2,z8_ b3] w (xa_ w r p ((z3t_ k l).map fun x=>(F x.1,x.2))):=by
 refine(zm0_ b1 b2 b3 r p i k l d w hw hO h1 h2 h3 hb hb3 hb3p hp hd hci hR hs).mono ?_
 rintro e w' ⟨w1,own,hm,rfl,ho⟩
 have hd1:=hd.modr hR hp hm
 refine⟨v0_ (z5a_ hm) _,?_⟩
 rw[zli_]
 cases hp:zi_ l with
 |none=>rw[hp] at ho;exact ho
 |some x=>
  rw[hp] at ho
  obtain⟨rfl,hr,hy⟩:=ho
  simp only
  cases hr2:j1_ (z2_ x.1) with
  |none=>rfl
  |some y=>
   obtain rfl:=hy y hr2
   cases hk:zao_ (some y) k
   ·rfl
   ·exact⟨rfl,z25_ hr hd1 (by assumption) _,hF _ _ hd1⟩
theorem zf8_ (b1 b2 r p:Nat) (l:List Wd) (d:DefS) (w:World) (hw:Env w) (hO:Off r) (h1:w.cell? ⟨b1,0,none⟩=some (z8_ r)) (h2:w.cell? ⟨b2,0,none⟩=some (z8_ p)) (hb:b2≠r) (hp:p≠r)
  (hd:DefAt w p d) (hR:RdW w r l) (hs:Shorts l):
  Calls Tryz.prog 123 #[z8_ b1,z8_ b2] w (fun e w'=>∃ (w1:World) (f:LU),Mods [r] w w1∧w'=w1.setCell ⟨p,6,none⟩ (.string ⟨f.toArray⟩)∧match zi_ l with
   |none=>e= .returned (.bool false)
   |some x=>e= .returned (.bool (z7q_ x.1==0))∧RdW w1 r x.2∧f=z7g_ x.1):=by
 have HL:=hiD (zcj_ r l w hw hR hs)
 have h1':w.cell? ⟨b1,0,none⟩=some (.pointer (some ⟨r,0,none⟩)):=h1
 have h2':w.cell? ⟨b2,0,none⟩=some (.pointer (some ⟨p,0,none⟩)):=h2
 have HF:=hiD (show ∀ w1,Mods [r] w w1→w1.frozen? ⟨p,6,none⟩=false∧∃ v,w1.cell? ⟨p,6,none⟩=some v from fun w1 hm=>by
  obtain⟨vn,vs,vm,vy,hB,_⟩:=hd
  have hB1:=hm.bk hB (by simpa using hp)
  exact⟨hB1.frozen 6,_,(hB1.cell 6).trans rfl⟩)
 have hb':b2 ∉ [r]:=by simpa using hb
 clear h1 h2 hR hd
 unfold z8_
 cases ho:zi_ l with
 |none=>
  rw[ho] at HL
  simp only[Option.isSome_none] at HL
  go_enter Tryz.func123,Tryz.ntmps123
  go_wp2_with (first|(go_at_call 59;refine HL.out.mono ?_;rintro e w1 ⟨s,hsl,rfl,hm,hx⟩;clear hx;have c2:=hm.cell h2' hb';obtain⟨c4,v3,c3⟩:=HF.out _ hm)|(go_at_call 124;refine(zjc_ s _).mono ?_;unfold strE;rintro e w2 ⟨rfl,rfl⟩))
  go_ret
  exact⟨w1,z7g_ s,hm,rfl,rfl⟩
 |some x=>
  obtain⟨s,t⟩:=x
  have HP:Hid (Calls Tryz.prog 59 #[.pointer (some ⟨r,0,none⟩)] w fun e w'=>e= .returned (.tuple #[.string ⟨s.toArray⟩,.bool true])∧Mods [r] w w'∧RdW w' r t):=hiD (HL.out.mono (by
   rintro e w' ⟨s',_,rfl,hm,hx⟩
   obtain⟨rfl,hr⟩:=hx _ ho
   rw[ho]
   exact⟨rfl,hm,hr⟩))
  clear HL ho hs
  simp only
  go_enter Tryz.func123,Tryz.ntmps123
  go_wp2_with (first|(go_at_call 59;refine HP.out.mono ?_;rintro e w1 ⟨rfl,hm,hrd⟩;have c2:=hm.cell h2' hb';obtain⟨c4,v3,c3⟩:=HF.out _ hm)|(go_at_call 124;refine(zjc_ s _).mono ?_;unfold strE;rintro e w2 ⟨rfl,rfl⟩))
  go_ret
  exact⟨w1,z7g_ s,hm,rfl,rfl,hrd,rfl⟩
theorem zg1_ (b1 b2 r p:Nat) (l:List Wd) (d:DefS) (w:World) (hw:Env w) (hO:Off r) (h1:w.cell? ⟨b1,0,none⟩=some (z8_ r)) (h2:w.cell? ⟨b2,0,none⟩=some (z8_ p)) (hb:b2≠r) (hp:p≠r)
  (hd:DefAt w p d) (hR:RdW w r l) (hs:Shorts l):
  Calls Tryz.prog 123 #[z8_ b1,z8_ b2] w (xa_ w r p (match zi_ l with
  |none=>none
  |some (s,t)=>if z7q_ s==0 then some ({d with form:=z7g_ s},t) else none)):=by
 refine(zf8_ b1 b2 r p l d w hw hO h1 h2 hb hp hd hR hs).mono ?_
 rintro e w' ⟨w1,f,hm,rfl,ho⟩
 have hd1:=hd.modr hR hp hm
 refine⟨v0_ (z5a_ hm) _,?_⟩
 cases hq:zi_ l with
 |none=>rw[hq] at ho;exact ho
 |some x=>
  rw[hq] at ho
  obtain⟨rfl,hr,rfl⟩:=ho
  simp only
  cases hk:z7q_ x.1==0
  ·rfl
  ·exact⟨rfl,z25_ hr hd1 hp _,zlq_ hd1 _⟩
theorem zix_ (b1 b2 r p:Nat) (l:List Wd) (d:DefS) (w:World) (hw:Env w) (hO:Off r) (h1:w.cell? ⟨b1,0,none⟩=some (z8_ r)) (h2:w.cell? ⟨b2,0,none⟩=some (z8_ p)) (hb:b2≠r) (hbp:b2≠p) (hp:p≠r)
  (hd:DefAt w p d) (hR:RdW w r l) (hs:Shorts l):
  Calls Tryz.prog 126 #[z8_ b1,z8_ b2] w (fun e w'=>∃ (w1:World) (q:Bool),Mods [r] w w1∧w'=w1.setCell ⟨p,12,none⟩ (.bool q)∧match zi_ l with
   |none=>e= .returned (.bool false)
   |some x=>e= .returned (.bool (x.1==zb_||x.1==zm_))∧RdW w1 r x.2∧q=(x.1==zb_)):=by
 have HL:=hiD (zcj_ r l w hw hR hs)
 have h1':w.cell? ⟨b1,0,none⟩=some (.pointer (some ⟨r,0,none⟩)):=h1
 have h2':w.cell? ⟨b2,0,none⟩=some (.pointer (some ⟨p,0,none⟩)):=h2
 have HF:=hiD (show ∀ w1,Mods [r] w w1→w1.frozen? ⟨p,12,none⟩=false∧(∃ v,w1.cell? ⟨p,12,none⟩=some v)∧(∀ u,(w1.setCell ⟨p,12,none⟩ u).cell? ⟨p,12,none⟩=some u) from fun w1 hm=>by
  obtain⟨vn,vs,vm,vy,hB,_⟩:=hd
  have hB1:=hm.bk hB (by simpa using hp)
  refine⟨hB1.frozen 12,⟨_,(hB1.cell 12).trans rfl⟩,fun u=>?_⟩
  rw[(hB1.set 12 u).cell 12]
  simp [zq_])
 have hb':b2 ∉ [r]:=by simpa using hb
 clear h1 h2 hR hd
 unfold z8_
 cases ho:zi_ l with
 |none=>
  rw[ho] at HL
  simp only[Option.isSome_none] at HL
  go_enter Tryz.func126,Tryz.ntmps126
  go_wp2_with (go_at_call 59;refine HL.out.mono ?_;rintro e w1 ⟨s,hsl,rfl,hm,hx⟩;clear hx;have c2:=hm.cell h2' hb';obtain⟨c4,⟨v3,c3⟩,c5⟩:=HF.out _ hm;clear c5)
  go_ret
  exact⟨w1,_,hm,rfl,rfl⟩
 |some x=>
  obtain⟨s,t⟩:=x
  have HP:Hid (Calls Tryz.prog 59 #[.pointer (some ⟨r,0,none⟩)] w fun e w'=>e= .returned (.tuple #[.string ⟨s.toArray⟩,.bool true])∧Mods [r] w w'∧RdW w' r t):=hiD (HL.out.mono (by
   rintro e w' ⟨s',_,rfl,hm,hx⟩
   obtain⟨rfl,hr⟩:=hx _ ho
   rw[ho]
   exact⟨rfl,hm,hr⟩))
  clear HL ho hs
  simp only
  cases hq1:s==zb_<;>cases hq2:s==zm_
  all_goals
   unfold zb_ at hq1
   unfold zm_ at hq2
   go_enter Tryz.func126,Tryz.ntmps126
   go_wp2_with (go_at_call 59;refine HP.out.mono ?_;rintro e w1 ⟨rfl,hm,hrd⟩;have c2:=hm.cell h2' hb';obtain⟨c4,⟨v3,c3⟩,c5⟩:=HF.out _ hm;have c6:=c5 (.bool true);have c7:=c5 (.bool false);have c8:=fun v=>jc_ (i:=12) (v:=v) c2 hbp;clear c5)
   go_ret
   exact⟨w1,_,hm,rfl,rfl,hrd,rfl⟩
theorem zjx_ (b1 b2 r p:Nat) (l:List Wd) (d:DefS) (w:World) (hw:Env w) (hO:Off r) (h1:w.cell? ⟨b1,0,none⟩=some (z8_ r)) (h2:w.cell? ⟨b2,0,none⟩=some (z8_ p)) (hb:b2≠r) (hbp:b2≠p) (hp:p≠r)
  (hd:DefAt w p d) (hR:RdW w r l) (hs:Shorts l):
  Calls Tryz.prog 126 #[z8_ b1,z8_ b2] w (xa_ w r p (match zi_ l with
  |none=>none
  |some (s,t)=>if s==zb_||s==zm_ then some ({d with oper:=s==zb_},t) else none)):=by
 refine(zix_ b1 b2 r p l d w hw hO h1 h2 hb hbp hp hd hR hs).mono ?_
 rintro e w' ⟨w1,q,hm,rfl,ho⟩
 have hd1:=hd.modr hR hp hm
 refine⟨v0_ (z5a_ hm) _,?_⟩
 cases hq:zi_ l with
 |none=>rw[hq] at ho;exact ho
 |some x=>
  rw[hq] at ho
  obtain⟨rfl,hr,rfl⟩:=ho
  simp only
  cases hk:(x.1==zb_||x.1==zm_)
  ·rfl
  ·exact⟨rfl,z25_ hr hd1 hp _,zkz_ hd1 _⟩
end Go.Proofs.YtbekpphodbekiaaGreatDoor
