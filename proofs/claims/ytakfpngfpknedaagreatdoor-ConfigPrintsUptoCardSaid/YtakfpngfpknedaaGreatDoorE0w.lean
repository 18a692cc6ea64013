import Derived.Test.YtakfpngfpknedaaGreatDoorE0p
import Derived.Test.YtakfpngfpknedaaGreatDoorE0v
set_option linter.all false
set_option maxHeartbeats 8000000
set_option maxRecDepth 100000
set_option linter.all false
namespace Go.Proofs.YtakfpngfpknedaaGreatDoor
open Go.RowKit
def entsL:List (Nat × LU × Cfg.Kind):=[(6,[115,117,102,102,105,120],.suffix),(12,[114,111,111,116],.root),(18,[115,101,99,114,101,116],.secret),(21,[115,105,122,101],.size),(28,[97,116,116,114],.attr),(35,[99,108,97,115,115],.class),(42,[97,99,108],.acl),(45,[105,110,100,101,120],.index),(51,[109,101,109,98,101,114,111,102],.memberof),(57,[97,117,100,105,116],.audit),(63,[114,101,102],.ref),(69,[117,110,105,113,117,101],.unique)]
def callsL:List (Nat × Nat × Cfg.Kind):=[(5,12,.suffix),(11,17,.root),(17,22,.secret),(27,30,.attr),(34,36,.class),(41,42,.acl),(50,49,.memberof),(56,54,.audit),(62,59,.ref),(68,64,.unique)]
def effL:List Nat:=[0,5,6,11,12,17,18,21,27,28,34,35,41,42,45,50,51,56,57,62,63,68,69,70,71]
def kz_ (w0:World) (p:Nat):List (Nat × Value):=[(8,.func (.func 40) #[] #[]),(11,.pointer (some ⟨p,0,none⟩)),(13,.func (.func 40) #[] #[]),(16,.pointer (some ⟨p,1,none⟩)),(18,.func (.func 40) #[] #[]),(21,.pointer (some ⟨p,2,none⟩)),(24,.agg #[.bool true,.func (.func 48) #[] #[.pointer (some ⟨w0.heap.size,0,none⟩)]]),(25,.func (.func 45) #[] #[]),(28,.pointer (some ⟨p,4,none⟩)),(29,.func (.func 47) #[] #[]),(31,.func (.func 45) #[] #[]),(34,.pointer (some ⟨p,5,none⟩)),(35,.func (.func 47) #[] #[]),(37,.func (.func 45) #[] #[]),(40,.pointer (some ⟨p,6,none⟩)),(41,.func (.func 47) #[] #[]),(44,.agg #[.bool false,.func (.func 50) #[] #[.pointer (some ⟨w0.heap.size,0,none⟩)]]),(45,.func (.func 42) #[] #[]),(48,.pointer (some ⟨p,8,none⟩)),(50,.func (.func 42) #[] #[]),(53,.pointer (some ⟨p,9,none⟩)),(55,.func (.func 45) #[] #[]),(58,.pointer (some ⟨p,10,none⟩)),(60,.func (.func 45) #[] #[]),(63,.pointer (some ⟨p,11,none⟩))]
def fixS:List Nat:=[8,11,13,16,18,21,24,25,28,29,31,34,35,37,40,41,44,45,48,50,53,55,58,60,63]
theorem vi_ {w0:World} {p:Nat} {x:Nat × Value} (h:x∈kz_ w0 p):x.1∈fixS:=by
 have:x.1∈(kz_ w0 p).map (·.1):=List.mem_map.2 ⟨x,h,rfl⟩
 exact this
theorem vd_:∀ x∈callsL,x.1<72∧x.1∈effL∧x.1≠0∧x.1≠70∧x.1≠71∧(∀ y∈entsL.map (·.1),y≠x.1)∧(∀ y∈fixS,y≠x.2.1)∧x.2.1≠7∧x.2.1≠65∧x.2.1≠2∧x.2.1<66∧∀ y∈callsL,y≠x→y.1≠x.1∧y.2.1≠x.2.1:=by decide
theorem z0a_:∀ x∈entsL,x.1<72∧x.1∈effL∧x.1≠0∧x.1≠70∧x.1≠71∧(∀ y∈callsL.map (·.1),y≠x.1)∧∀ y∈entsL,y≠x→y.1≠x.1∧y.2.1≠x.2.1:=by decide
theorem zg_ {l:Array Bool} {i j:Nat} (h:i≠j) (d:Bool):(l.setIfInBounds i true).getD j d=l.getD j d:=by
 rw[Array.getD_eq_getD_getElem?,Array.getD_eq_getD_getElem?,Array.getElem?_setIfInBounds_ne h]
theorem zd7_ {l:Array Bool} {i:Nat} (h:i<l.size) (d:Bool):(l.setIfInBounds i true).getD i d=true:=by
 rw[Array.getD_eq_getD_getElem?,Array.getElem?_setIfInBounds_self_of_lt h];rfl
theorem qs_ {a:Act} {d s:Nat} (v:Value) (h:d≠s):(a.put (some d) v).tmps[s]?=a.tmps[s]?:=by
 show (a.tmps.setIfInBounds d v)[s]?=_
 rw[Array.getElem?_setIfInBounds_ne h]
theorem z91_ {a:Act} {d:Nat} (v:Value) (h:d<a.tmps.size):(a.put (some d) v).tmps[d]?=some v:=by
 show (a.tmps.setIfInBounds d v)[d]?=_
 rw[Array.getElem?_setIfInBounds_self_of_lt h]
theorem z1b_ {a:Act} {d:Nat} (v:Value):(a.put (some d) v).tmps.size=a.tmps.size:=by
 show (a.tmps.setIfInBounds d v).size=_
 simp
def MapI (w0:World) (p:Nat) (l:Array Bool) (m:Nat) (w:World):Prop:=∃ es c R,MapS w m es c R∧w0.heap.size<m∧
 (∀ x∈entsL,l.getD x.1 false=true→∃ v,qe_ R x.2.1=some v∧WordK w p x.2.2 v)∧(∀ x∈entsL,l.getD x.1 false=false→qe_ R x.2.1=none)∧(∀ n,(∀ x∈entsL,x.2.1≠n)→qe_ R n=none)
structure RI (w0:World) (p:Nat) (l:Array Bool) (a:Act) (w:World):Prop where
 ls:l.size=72
 ts:a.tmps.size=66
 df:a.defers=[]
 pure:∀ i,i<72→i ∉ effL→l.getD i false=true
 fx:∀ x∈kz_ w0 p,a.tmps[x.1]?=some x.2
 calls:∀ x∈callsL,l.getD x.1 false=true→∃ v,a.tmps[x.2.1]?=some v∧WordK w p x.2.2 v
 box:Bk w w0.heap.size 49 #[.pointer (some ⟨p,0,none⟩)]
 bel:Bel w0 w
 map:l.getD 0 false=true→∃ m,a.tmps[7]?=some (.map (some m))∧MapI w0 p l m w
 nomap:l.getD 0 false=false→∀ x∈entsL,l.getD x.1 false=false
 out:l.getD 70 false=true→l.getD 0 false=true∧a.tmps[65]?=a.tmps[7]?
 res:l.getD 71 false=true→l.getD 0 false=true∧a.tmps[2]?=a.tmps[7]?
section
variable {w0 w w':World} {p:Nat} {l:Array Bool} {a:Act}
theorem RI.call (h:RI w0 p l a w) {x:Nat × Nat × Cfg.Kind} (hx:x∈callsL) {v:Value} (hb:Bel w w') (hv:WordK w' p x.2.2 v):RI w0 p (l.setIfInBounds x.1 true) (a.put (some x.2.1) v) w':=by
 obtain⟨h1,h2,h3,h4,h5,h6,h7,h8,h9,h10,h11,h12⟩:=vd_ x hx
 have hne:∀ y∈entsL,x.1≠y.1:=fun y hy=>(h6 y.1 (List.mem_map.2 ⟨y,hy,rfl⟩)).symm
 refine⟨by simp [h.ls],by rw[z1b_];exact h.ts,h.df,fun i hi hn=>?_,fun y hy=>?_,fun y hy hl=>?_,h.box.below hb,tQ h.bel hb,fun hl=>?_,fun hl y hy=>?_,fun hl=>?_,fun hl=>?_⟩
 ·rw[zg_ (fun e=>hn (by rw[← e];exact h2))];exact h.pure i hi hn
 ·rw[qs_ v (fun e=>h7 y.1 (vi_ hy) e.symm)];exact h.fx y hy
 ·by_cases hxy:y=x
  ·subst hxy
   exact⟨v,z91_ v (by rw[h.ts];exact h11),hv⟩
  ·obtain⟨g1,g2⟩:=h12 y hy hxy
   rw[zg_ g1.symm] at hl
   obtain⟨u,hu,hk⟩:=h.calls y hy hl
   exact⟨u,by rw[qs_ v g2.symm];exact hu,hk.below hb⟩
 ·rw[zg_ h3] at hl
  obtain⟨m,hm,es,c,R,k1,k2,k3,k4,k5⟩:=h.map hl
  refine⟨m,by rw[qs_ v h8];exact hm,es,c,R,k1.keep (hb.block m k1.lt),k2,fun y hy hyl=>?_,fun y hy hyl=>?_,k5⟩
  ·rw[zg_ (hne y hy)] at hyl
   obtain⟨u,hu,hk⟩:=k3 y hy hyl
   exact⟨u,hu,hk.below hb⟩
  ·rw[zg_ (hne y hy)] at hyl
   exact k4 y hy hyl
 ·rw[zg_ h3] at hl
  rw[zg_ (hne y hy)]
  exact h.nomap hl y hy
 ·rw[zg_ h4] at hl
  rw[zg_ h3,qs_ v h9,qs_ v h8]
  exact h.out hl
 ·rw[zg_ h5] at hl
  rw[zg_ h3,qs_ v h10,qs_ v h8]
  exact h.res hl
theorem RI.ins (h:RI w0 p l a w) {x:Nat × LU × Cfg.Kind} (hx:x∈entsL) (h0:l.getD 0 false=true) (hun:l.getD x.1 true=false) {v:Value} (hv:WordK w p x.2.2 v):
  ∃ m W,a.tmps[7]?=some (.map (some m))∧(Instr.mapUpdate 47 (.map (some m)) (.string ⟨x.2.1.toArray⟩) v).run Tryz.prog w= .ok () W∧RI w0 p (l.setIfInBounds x.1 true) a W:=by
 obtain⟨h1,h2,h3,h4,h5,h6,h7⟩:=z0a_ x hx
 obtain⟨m,hm,es,c,R,k1,k2,k3,k4,k5⟩:=h.map h0
 have hun2:l.getD x.1 false=false:=by
  rw[Array.getD_eq_getD_getElem?] at hun ⊢
  rw[Array.getElem?_eq_getElem (by rw[h.ls];exact h1)] at hun ⊢
  exact hun
 obtain⟨W,es',u1,u2,u3⟩:=k1.updW x.2.1 v (k4 x hx hun2)
 have hg:∀ k u,WordK w p k u→WordK W p k u:=fun k u hk=>hk.grown k1.at_ u3
 have hnc:∀ y∈callsL,x.1≠y.1:=fun y hy=>(h6 y.1 (List.mem_map.2 ⟨y,hy,rfl⟩)).symm
 have xi_:∀ n,qe_ (R++[(x.2.1,v)]) n=(qe_ R n).or (if n=x.2.1 then some v else none):=fun n=>by
  clear k1 k3 k4 k5 u1 u2 u3
  induction R with
  |nil=>simp [qe_]
  |cons r R ih=>
   rw[List.cons_append,qe_,qe_]
   split
   ·simp
   ·exact ih
 refine⟨m,W,hm,u1,by simp [h.ls],h.ts,h.df,fun i hi hn=>?_,h.fx,fun y hy hl=>?_,h.box.grown u3 (fun e=>by cases e;exact absurd k2 (Nat.lt_irrefl _)),h.bel.grown u3 h.bel.size (fun k hk=>by cases hk;omega),fun _=>⟨m,hm,es',_,_,u2,k2,fun y hy hyl=>?_,fun y hy hyl=>?_,fun n hn=>?_⟩,fun hl=>?_,fun hl=>?_,fun hl=>?_⟩
 ·rw[zg_ (fun e=>hn (by rw[← e];exact h2))];exact h.pure i hi hn
 ·rw[zg_ (hnc y hy)] at hl
  obtain⟨u,hu,hk⟩:=h.calls y hy hl
  exact⟨u,hu,hg _ _ hk⟩
 ·by_cases hxy:y=x
  ·subst hxy
   exact⟨v,by rw[xi_,k4 y hy hun2];simp,hg _ _ hv⟩
  ·obtain⟨g1,g2⟩:=h7 y hy hxy
   rw[zg_ g1.symm] at hyl
   obtain⟨u,hu,hk⟩:=k3 y hy hyl
   exact⟨u,by rw[xi_,hu];rfl,hg _ _ hk⟩
 ·by_cases hxy:y=x
  ·subst hxy
   rw[zd7_ (by rw[h.ls];exact h1)] at hyl
   cases hyl
  ·obtain⟨g1,g2⟩:=h7 y hy hxy
   rw[zg_ g1.symm] at hyl
   rw[xi_,k4 y hy hyl,if_neg g2]
   rfl
 ·rw[xi_,k5 n hn,if_neg (hn x hx).symm]
  rfl
 ·rw[zg_ h3] at hl
  rw[h0] at hl
  cases hl
 ·rw[zg_ h4] at hl
  rw[zg_ h3]
  exact h.out hl
 ·rw[zg_ h5] at hl
  rw[zg_ h3]
  exact h.res hl
theorem RI.make (h:RI w0 p l a w) (h0:l.getD 0 true=false):RI w0 p (l.setIfInBounds 0 true) (a.put (some 7) (.map (some w.heap.size))) (w.alloc (.map #[] 0)):=by
 have h02:l.getD 0 false=false:=by
  rw[Array.getD_eq_getD_getElem?] at h0 ⊢
  rw[Array.getElem?_eq_getElem (by rw[h.ls];decide)] at h0 ⊢
  exact h0
 have hno:=h.nomap h02
 have hb:=(bR w.heap.size w).alloc (nR _) (.map #[] 0)
 have hlt:=h.box.lt
 have e0:∀ y∈entsL,0≠y.1:=fun y hy=>(z0a_ y hy).2.2.1.symm
 refine⟨by simp [h.ls],by rw[z1b_];exact h.ts,h.df,fun i hi hn=>?_,fun y hy=>?_,fun y hy hl=>?_,h.box.below hb,tQ h.bel hb,fun _=>⟨_,z91_ _ (by rw[h.ts];decide),#[],0,[],MapS.made w,hlt,fun y hy hyl=>?_,fun _ _ _=>rfl,fun _ _=>rfl⟩,fun hl=>?_,fun hl=>?_,fun hl=>?_⟩
 ·rw[zg_ (fun e=>hn (by rw[← e];decide))];exact h.pure i hi hn
 ·have:(7:Nat)≠y.1:=fun e=>by
   have:=vi_ hy
   rw[← e] at this
   exact absurd this (by decide)
  rw[qs_ _ this];exact h.fx y hy
 ·obtain⟨g1,g2,g3,g4,g5,g6,g7,g8,_⟩:=vd_ y hy
  rw[zg_ g3.symm] at hl
  obtain⟨u,hu,hk⟩:=h.calls y hy hl
  exact⟨u,by rw[qs_ _ g8.symm];exact hu,hk.below hb⟩
 ·rw[zg_ (e0 y hy),hno y hy] at hyl
  cases hyl
 ·rw[zd7_ (by rw[h.ls];decide)] at hl
  cases hl
 ·rw[zg_ (by decide)] at hl
  rw[(h.out hl).1] at h02
  cases h02
 ·rw[zg_ (by decide)] at hl
  rw[(h.res hl).1] at h02
  cases h02
theorem RI.mv (h:RI w0 p l a w) (h0:l.getD 0 false=true) (v:Value) (hv:a.tmps[7]?=some v):RI w0 p (l.setIfInBounds 70 true) (a.put (some 65) v) w:=by
 have hne:∀ y∈entsL,70≠y.1:=fun y hy=>(z0a_ y hy).2.2.2.1.symm
 refine⟨by simp [h.ls],by rw[z1b_];exact h.ts,h.df,fun i hi hn=>?_,fun y hy=>?_,fun y hy hl=>?_,h.box,h.bel,fun hl=>?_,fun hl y hy=>?_,fun _=>?_,fun hl=>?_⟩
 ·rw[zg_ (fun e=>hn (by rw[← e];decide))];exact h.pure i hi hn
 ·have:(65:Nat)≠y.1:=fun e=>by
   have:=vi_ hy
   rw[← e] at this
   exact absurd this (by decide)
  rw[qs_ _ this];exact h.fx y hy
 ·obtain⟨_,_,_,g4,_,_,_,_,g9,_⟩:=vd_ y hy
  rw[zg_ g4.symm] at hl
  rw[qs_ _ g9.symm];exact h.calls y hy hl
 ·rw[qs_ _ (by decide)]
  obtain⟨m,hm,es,c,R,k1,k2,k3,k4,k5⟩:=h.map h0
  exact⟨m,hm,es,c,R,k1,k2,fun y hy hyl=>k3 y hy (by rwa [zg_ (hne y hy)] at hyl),fun y hy hyl=>k4 y hy (by rwa [zg_ (hne y hy)] at hyl),k5⟩
 ·rw[zg_ (by decide),h0] at hl
  cases hl
 ·rw[zg_ (by decide),qs_ _ (by decide:(65:Nat)≠7),hv]
  exact⟨h0,z91_ _ (by rw[h.ts];decide)⟩
 ·rw[zg_ (by decide)] at hl ⊢
  rw[qs_ _ (by decide),qs_ _ (by decide)]
  exact h.res hl
theorem RI.asg (h:RI w0 p l a w) (h0:l.getD 70 false=true) (v:Value) (hv:a.tmps[65]?=some v):RI w0 p (l.setIfInBounds 71 true) (a.put (some 2) v) w:=by
 have hne:∀ y∈entsL,71≠y.1:=fun y hy=>(z0a_ y hy).2.2.2.2.1.symm
 obtain⟨h00,h7⟩:=h.out h0
 refine⟨by simp [h.ls],by rw[z1b_];exact h.ts,h.df,fun i hi hn=>?_,fun y hy=>?_,fun y hy hl=>?_,h.box,h.bel,fun hl=>?_,fun hl y hy=>?_,fun hl=>?_,fun hl=>?_⟩
 ·rw[zg_ (fun e=>hn (by rw[← e];decide))];exact h.pure i hi hn
 ·have:(2:Nat)≠y.1:=fun e=>by
   have:=vi_ hy
   rw[← e] at this
   exact absurd this (by decide)
  rw[qs_ _ this];exact h.fx y hy
 ·obtain⟨_,_,_,_,g5,_,_,_,_,g10,_⟩:=vd_ y hy
  rw[zg_ g5.symm] at hl
  rw[qs_ _ g10.symm];exact h.calls y hy hl
 ·rw[qs_ _ (by decide)]
  obtain⟨m,hm,es,c,R,k1,k2,k3,k4,k5⟩:=h.map h00
  exact⟨m,hm,es,c,R,k1,k2,fun y hy hyl=>k3 y hy (by rwa [zg_ (hne y hy)] at hyl),fun y hy hyl=>k4 y hy (by rwa [zg_ (hne y hy)] at hyl),k5⟩
 ·rw[zg_ (by decide),h00] at hl
  cases hl
 ·rw[zg_ (by decide)] at hl ⊢
  rw[qs_ _ (by decide),qs_ _ (by decide)]
  exact h.out hl
 ·rw[zg_ (by decide),qs_ _ (by decide:(2:Nat)≠7)]
  exact⟨h00,by rw[z91_ _ (by rw[h.ts];decide),← h7,hv]⟩
def zer_ (l:Array Bool):Bool:=(l.size==72) && (List.range 72).all (fun i=>effL.contains i||l.getD i false) && effL.all (fun i=>!l.getD i false)
theorem RI.start (hc:zer_ l=true) (ts:a.tmps.size=66) (df:a.defers=[]) (fx:∀ x∈kz_ w0 p,a.tmps[x.1]?=some x.2) (hbox:Bk w w0.heap.size 49 #[.pointer (some ⟨p,0,none⟩)]) (hb:Bel w0 w):RI w0 p l a w:=by
 unfold zer_ at hc
 rw[Bool.and_eq_true,Bool.and_eq_true,beq_iff_eq,List.all_eq_true,List.all_eq_true] at hc
 obtain⟨⟨h1,h2⟩,h3⟩:=hc
 have hn:∀ i,i∈effL→l.getD i false=true→False:=fun i hi hl=>by
  have:=h3 i hi
  rw[hl] at this
  cases this
 refine⟨h1,ts,df,fun i hi hne=>?_,fx,fun x hx hl=>(hn _ (vd_ x hx).2.1 hl).elim,hbox,hb,fun hl=>(hn 0 (by decide) hl).elim,fun _ x hx=>?_,fun hl=>(hn 70 (by decide) hl).elim,fun hl=>(hn 71 (by decide) hl).elim⟩
 ·have:=h2 i (List.mem_range.2 hi)
  rw[Bool.or_eq_true] at this
  rcases this with h|h
  ·exact absurd (List.contains_iff_mem.1 h) hne
  ·exact h
 ·cases hg:l.getD x.1 false
  ·rfl
  ·exact(hn _ (z0a_ x hx).2.1 hg).elim
end
end Go.Proofs.YtakfpngfpknedaaGreatDoor
