import Derived.Test.YtakfpngfpknedaaGreatDoorE0m
import Derived.Deep.DeepCutAuto
set_option linter.all false
set_option maxHeartbeats 8000000
set_option maxRecDepth 100000
namespace Go.Proofs.YtakfpngfpknedaaGreatDoor
open Go.RowKit
def z8_ (a:AttrS) (nv:Value):Array Value:=#[.string ⟨a.oid.toArray⟩,.string ⟨a.name.toArray⟩,.string ⟨a.sup.toArray⟩,nv,.string ⟨a.form.toArray⟩,.string ⟨a.eqr.toArray⟩,.string ⟨a.ordr.toArray⟩,.string ⟨a.subs.toArray⟩,.bool a.single,.bool a.fixed,.bool a.oper]
def jv_ (a:AttrS) (nv:Value):Value:= .agg (z8_ a nv)
abbrev zu_:Obj:= .cells #[.string ⟨#[]⟩,.string ⟨#[]⟩,.string ⟨#[]⟩,.slice none 0 0,.string ⟨#[]⟩,.string ⟨#[]⟩,.string ⟨#[]⟩,.string ⟨#[]⟩,.bool false,.bool false,.bool false] 128
def za0_ (w:World) (a:AttrS) (e:Ending) (w':World):Prop:=Bel w w'∧∃ nv,e= .returned (jv_ a nv)∧Own w.heap.size w' nv a.names
structure CntAt (w W:World) (g:Nat) (a:AttrS) (A:Option Addr) (n c:Nat):Prop where
 bk:Bk W g 128 (z8_ a (.slice A n c))
 out:Bk W w.heap.size 128 #[.string ⟨#[]⟩,.string ⟨#[]⟩,.string ⟨#[]⟩,.slice none 0 0,.string ⟨#[]⟩,.string ⟨#[]⟩,.string ⟨#[]⟩,.string ⟨#[]⟩,.bool false,.bool false,.bool false]
 bel:Bel w W
 ge:w.heap.size<g
 names:Own w.heap.size W (.slice A n c) a.names
theorem ja_ {B g:Nat} {a w:World} (h:Below B a w) (hg:B≤g) (v0 v1 v2 v3 v4 v5 v6 v7 v8 v9 v10:Value):Below B a (((((((((((w.setCell ⟨g,0,none⟩ v0).setCell ⟨g,1,none⟩ v1).setCell ⟨g,2,none⟩ v2).setCell ⟨g,3,none⟩ v3).setCell ⟨g,4,none⟩ v4).setCell ⟨g,5,none⟩ v5).setCell ⟨g,6,none⟩ v6).setCell ⟨g,7,none⟩ v7).setCell ⟨g,8,none⟩ v8).setCell ⟨g,9,none⟩ v9).setCell ⟨g,10,none⟩ v10):=
 ((((((((((h.setCell hg v0).setCell hg v1).setCell hg v2).setCell hg v3).setCell hg v4).setCell hg v5).setCell hg v6).setCell hg v7).setCell hg v8).setCell hg v9).setCell hg v10
theorem vq_ {g:Nat} {w:World} {t:TypeId} (c0 c1 c2 c3 c4 c5 c6 c7 c8 c9 c10 v0 v1 v2 v3 v4 v5 v6 v7 v8 v9 v10:Value) (h:Bk w g t #[c0,c1,c2,c3,c4,c5,c6,c7,c8,c9,c10]):Bk (((((((((((w.setCell ⟨g,0,none⟩ v0).setCell ⟨g,1,none⟩ v1).setCell ⟨g,2,none⟩ v2).setCell ⟨g,3,none⟩ v3).setCell ⟨g,4,none⟩ v4).setCell ⟨g,5,none⟩ v5).setCell ⟨g,6,none⟩ v6).setCell ⟨g,7,none⟩ v7).setCell ⟨g,8,none⟩ v8).setCell ⟨g,9,none⟩ v9).setCell ⟨g,10,none⟩ v10) g t #[v0,v1,v2,v3,v4,v5,v6,v7,v8,v9,v10]:=by
 simpa using ((((((((((h.set 0 v0).set 1 v1).set 2 v2).set 3 v3).set 4 v4).set 5 v5).set 6 v6).set 7 v7).set 8 v8).set 9 v9).set 10 v10
theorem Own.lower {B B':Nat} {w:World} {v:Value} {xs:LL} (h:Own B w v xs) (hB:B'≤B):Own B' w v xs:=by
 obtain⟨⟨h1,h2⟩,h3⟩:=h
 refine⟨⟨h1,h2.imp id ?_⟩,by omega⟩
 rintro⟨g,cap,cur,r1,r2,r3⟩
 exact⟨g,cap,cur,r1,by omega,r3⟩
theorem Own.ty {B:Nat} {w:World} {v:Value} {xs:LL} (h:Own B w v xs) {k:Nat} (hk:v.ownBlock=some k):∃ cs,Bk w k 9 cs:=by
 obtain⟨⟨h1,h2⟩,_⟩:=h
 rcases h2 with ⟨rfl,hn⟩|⟨g,cap,cur,rfl,r2,r3,r4,r5,r6,r7⟩
 ·simp [Value.ownBlock] at hk
 ·have hgk:g=k:=by simpa [Value.ownBlock] using hk
  subst hgk
  exact⟨cur,r3⟩
theorem Own.far {B g i:Nat} {w:World} {v:Value} {xs:LL} {t:TypeId} {cs:Array Value} (h:Own B w v xs) (hg:Bk w g t cs) (ht:t≠9) (u:Value):Own B (w.setCell ⟨g,i,none⟩ u) v xs:=by
 refine⟨h.1.kept (z6_ w g i u) ?_,by simpa [World.setCell] using h.2⟩
 rcases hv:v.ownBlock with _|k
 ·exact .inl rfl
 ·refine .inr ?_
  intro e
  cases e
  obtain⟨cs',h'⟩:=h.ty hv
  exact zf8_ hg h' ht rfl
theorem Own.far11 {B g:Nat} {w:World} {v:Value} {xs:LL} {t:TypeId} {cs:Array Value} (h:Own B w v xs) (hg:Bk w g t cs) (ht:t≠9) (v0 v1 v2 v3 v4 v5 v6 v7 v8 v9 v10:Value):Own B (((((((((((w.setCell ⟨g,0,none⟩ v0).setCell ⟨g,1,none⟩ v1).setCell ⟨g,2,none⟩ v2).setCell ⟨g,3,none⟩ v3).setCell ⟨g,4,none⟩ v4).setCell ⟨g,5,none⟩ v5).setCell ⟨g,6,none⟩ v6).setCell ⟨g,7,none⟩ v7).setCell ⟨g,8,none⟩ v8).setCell ⟨g,9,none⟩ v9).setCell ⟨g,10,none⟩ v10) v xs:=
 have g0:=hg.set 0 v0
 have g1:=g0.set 1 v1
 have g2:=g1.set 2 v2
 have g3:=g2.set 3 v3
 have g4:=g3.set 4 v4
 have g5:=g4.set 5 v5
 have g6:=g5.set 6 v6
 have g7:=g6.set 7 v7
 have g8:=g7.set 8 v8
 have g9:=g8.set 9 v9
 ((((((((((h.far hg ht v0).far g0 ht v1).far g1 ht v2).far g2 ht v3).far g3 ht v4).far g4 ht v5).far g5 ht v6).far g6 ht v7).far g7 ht v8).far g8 ht v9).far g9 ht v10
theorem zff_ {w w3:World} {d:DefS} {A3:Option Addr} {c3:Nat} (hb:Bel w w3) (ho:Bk w3 w.heap.size 128 #[.string ⟨#[]⟩,.string ⟨#[]⟩,.string ⟨#[]⟩,.slice none 0 0,.string ⟨#[]⟩,.string ⟨#[]⟩,.string ⟨#[]⟩,.string ⟨#[]⟩,.bool false,.bool false,.bool false]) (hT:Own w.heap.size w3 (.slice A3 d.names.length c3) d.names):
  CntAt w (w3.alloc (.cells #[.string ⟨d.oid.toArray⟩,.string ⟨d.name.toArray⟩,.string ⟨#[]⟩,.slice A3 d.names.length c3,.string ⟨d.form.toArray⟩,.string ⟨d.eqr.toArray⟩,.string ⟨d.ordr.toArray⟩,.string ⟨d.subs.toArray⟩,.bool d.single,.bool d.fixed,.bool d.oper] 128)) w3.heap.size d.attr A3 d.names.length c3:=
 ⟨Bk.new w3 _ _,ho.alloc _,hb.alloc hb.size _,ho.lt,hT.below ((bR _ _).alloc (nR _) _)⟩
theorem zdg_ {w w3:World} {d:DefS} {A3:Option Addr} {c3:Nat} (hb:Bel w w3) (ho:Bk w3 w.heap.size 128 #[.string ⟨#[]⟩,.string ⟨#[]⟩,.string ⟨#[]⟩,.slice none 0 0,.string ⟨#[]⟩,.string ⟨#[]⟩,.string ⟨#[]⟩,.string ⟨#[]⟩,.bool false,.bool false,.bool false]) (hk:Bk w3 (w.heap.size+1) 128 #[.string ⟨#[]⟩,.string ⟨#[]⟩,.string ⟨#[]⟩,.slice none 0 0,.string ⟨#[]⟩,.string ⟨#[]⟩,.string ⟨#[]⟩,.string ⟨#[]⟩,.bool false,.bool false,.bool false]) (hT:Own w.heap.size w3 (.slice A3 d.names.length c3) d.names):
  CntAt w (((((((((((w3.setCell ⟨w.heap.size+1,0,none⟩ (.string ⟨d.oid.toArray⟩)).setCell ⟨w.heap.size+1,1,none⟩ (.string ⟨d.name.toArray⟩)).setCell ⟨w.heap.size+1,2,none⟩ (.string ⟨#[]⟩)).setCell ⟨w.heap.size+1,3,none⟩ (.slice A3 d.names.length c3)).setCell ⟨w.heap.size+1,4,none⟩ (.string ⟨d.form.toArray⟩)).setCell ⟨w.heap.size+1,5,none⟩ (.string ⟨d.eqr.toArray⟩)).setCell ⟨w.heap.size+1,6,none⟩ (.string ⟨d.ordr.toArray⟩)).setCell ⟨w.heap.size+1,7,none⟩ (.string ⟨d.subs.toArray⟩)).setCell ⟨w.heap.size+1,8,none⟩ (.bool d.single)).setCell ⟨w.heap.size+1,9,none⟩ (.bool d.fixed)).setCell ⟨w.heap.size+1,10,none⟩ (.bool d.oper)) (w.heap.size+1) d.attr A3 d.names.length c3:=by
 refine⟨vq_ _ _ _ _ _ _ _ _ _ _ _ _ _ _ _ _ _ _ _ _ _ _ hk,?_,ja_ hb (Nat.le_succ _) _ _ _ _ _ _ _ _ _ _ _,Nat.lt_succ_self _,?_⟩
 ·exact((((((((((ho.far (by omega) _).far (by omega) _).far (by omega) _).far (by omega) _).far (by omega) _).far (by omega) _).far (by omega) _).far (by omega) _).far (by omega) _).far (by omega) _).far (by omega) _
 ·exact hT.far11 hk (by decide) _ _ _ _ _ _ _ _ _ _ _
theorem z8w_ {w W:World} {a:AttrS} {nv:Value} {tmps:Array Value} (hb:Bel w W) (hz:Bk W w.heap.size 128 (z8_ a nv)) (hT:Own w.heap.size W nv a.names) (h4:tmps[4]?=some (.pointer (some ⟨w.heap.size,0,none⟩))):
  bodyPost Tryz.prog Tryz.f125 (za0_ w a) .ret {tmps:=tmps,defers:=[]} W:=by
 have e4:tmps[4]?.getD undef= .pointer (some ⟨w.heap.size,0,none⟩):=by rw[h4];rfl
 have c0:=hz.cell 0
 have c1:=hz.cell 1
 have c2:=hz.cell 2
 have c3:=hz.cell 3
 have c4:=hz.cell 4
 have c5:=hz.cell 5
 have c6:=hz.cell 6
 have c7:=hz.cell 7
 have c8:=hz.cell 8
 have c9:=hz.cell 9
 have c10:=hz.cell 10
 simp only[z8_,List.getElem?_toArray,List.getElem?_cons_zero,List.getElem?_cons_succ] at c0 c1 c2 c3 c4 c5 c6 c7 c8 c9 c10
 refine bodyPost_ret (v:=jv_ a nv) ?_ rfl ⟨hb,nv,rfl,hT⟩
 simp [results,Tryz.results125,go_sem,e4,c0,c1,c2,c3,c4,c5,c6,c7,c8,c9,c10,jv_,z8_]
def zfb_ (a up:AttrS) (k:Nat):AttrS:={a with sup:=up.name,form:=if 0<k then orL a.form up.form else a.form,eqr:=if 1<k then orL a.eqr up.eqr else a.eqr,ordr:=if 2<k then orL a.ordr up.ordr else a.ordr,subs:=if 3<k then orL a.subs up.subs else a.subs}
structure MJ (w:World) (g g6 gs:Nat) (a up:AttrS) (nv nu:Value) (k:Nat) (wr:World):Prop where
 out:Bk wr g 128 (z8_ (zfb_ a up k) nv)
 upb:Bk wr g6 128 (z8_ up nu)
 prs:Bk wr gs 223 #[.pointer (some ⟨g,4,none⟩),.pointer (some ⟨g6,4,none⟩),.pointer (some ⟨g,5,none⟩),.pointer (some ⟨g6,5,none⟩),.pointer (some ⟨g,6,none⟩),.pointer (some ⟨g6,6,none⟩),.pointer (some ⟨g,7,none⟩),.pointer (some ⟨g6,7,none⟩)]
 res:Bk wr w.heap.size 128 #[.string ⟨#[]⟩,.string ⟨#[]⟩,.string ⟨#[]⟩,.slice none 0 0,.string ⟨#[]⟩,.string ⟨#[]⟩,.string ⟨#[]⟩,.string ⟨#[]⟩,.bool false,.bool false,.bool false]
 bel:Bel w wr
 nam:Own w.heap.size wr nv a.names
 ge:w.heap.size<g∧g<g6∧g6<gs
theorem MJ.cells {w wr:World} {g g6 gs k:Nat} {a up:AttrS} {nv nu:Value} (h:MJ w g g6 gs a up nv nu k wr) (hk:k<4):∃ x y:LU,wr.cell? ⟨gs,k * 2,none⟩=some (.pointer (some ⟨g,4+k,none⟩))∧wr.cell? ⟨gs,k * 2+1,none⟩=some (.pointer (some ⟨g6,4+k,none⟩))∧
  wr.cell? ⟨g,4+k,none⟩=some (.string ⟨x.toArray⟩)∧wr.cell? ⟨g6,4+k,none⟩=some (.string ⟨y.toArray⟩)∧
  z8_ (zfb_ a up (k+1)) nv=(z8_ (zfb_ a up k) nv).setIfInBounds (4+k) (.string ⟨(orL x y).toArray⟩):=by
 rcases(show k=0∨k=1∨k=2∨k=3 by omega) with rfl|rfl|rfl|rfl
 ·exact⟨a.form,up.form,h.prs.cell 0,h.prs.cell 1,h.out.cell 4,h.upb.cell 4,rfl⟩
 ·exact⟨a.eqr,up.eqr,h.prs.cell 2,h.prs.cell 3,h.out.cell 5,h.upb.cell 5,rfl⟩
 ·exact⟨a.ordr,up.ordr,h.prs.cell 4,h.prs.cell 5,h.out.cell 6,h.upb.cell 6,rfl⟩
 ·exact⟨a.subs,up.subs,h.prs.cell 6,h.prs.cell 7,h.out.cell 7,h.upb.cell 7,rfl⟩
theorem MJ.stay {w wr:World} {g g6 gs k:Nat} {a up:AttrS} {nv nu:Value} (h:MJ w g g6 gs a up nv nu k wr) {x y:LU} (o:Obj) (hx:x≠[]) (hc:wr.cell? ⟨g,4+k,none⟩=some (.string ⟨x.toArray⟩)) (he:z8_ (zfb_ a up (k+1)) nv=(z8_ (zfb_ a up k) nv).setIfInBounds (4+k) (.string ⟨(orL x y).toArray⟩)):MJ w g g6 gs a up nv nu (k+1) (wr.alloc o):=by
 have ho:orL x y=x:=by unfold orL;rw[if_neg hx]
 have hs:z8_ (zfb_ a up (k+1)) nv=z8_ (zfb_ a up k) nv:=by
  rw[he,ho]
  have hg:(z8_ (zfb_ a up k) nv)[4+k]?=some (.string ⟨x.toArray⟩):=by rw[← h.out.cell];exact hc
  apply Array.ext
  ·simp
  ·intro i h1 h2
   rw[Array.getElem_setIfInBounds]
   split
   ·next hi=>
    subst hi
    rw[Array.getElem?_eq_getElem h2] at hg
    exact(Option.some.inj hg).symm
   ·rfl
 refine⟨?_,h.upb.alloc o,h.prs.alloc o,h.res.alloc o,h.bel.alloc h.bel.size o,h.nam.below ((bR _ _).alloc (nR _) o),h.ge⟩
 rw[hs]
 exact h.out.alloc o
theorem MJ.take {w wr W:World} {g g6 gs k:Nat} {a up:AttrS} {nv nu:Value} (h:MJ w g g6 gs a up nv nu k wr) {y:LU} (hW:Bel wr W) (he:z8_ (zfb_ a up (k+1)) nv=(z8_ (zfb_ a up k) nv).setIfInBounds (4+k) (.string ⟨(orL [] y).toArray⟩)):MJ w g g6 gs a up nv nu (k+1) (W.setCell ⟨g,4+k,none⟩ (.string ⟨y.toArray⟩)):=by
 have hge:=h.ge
 refine⟨?_,(h.upb.below hW).far (by omega) _,(h.prs.below hW).far (by omega) _,(h.res.below hW).far (by omega) _,(tQ h.bel hW).setCell (by simp;omega) _,(h.nam.below hW).far (h.out.below hW) (by decide) _,hge⟩
 rw[he]
 exact(h.out.below hW).set _ _
theorem MJ.more {w wr W:World} {g g6 gs k:Nat} {a up:AttrS} {nv nu:Value} (h:MJ w g g6 gs a up nv nu k wr) (hb:Bel wr W):MJ w g g6 gs a up nv nu k W:=
 ⟨h.out.below hb,h.upb.below hb,h.prs.below hb,h.res.below hb,tQ h.bel hb,h.nam.below hb,h.ge⟩
theorem za1_ (s:Nat) (ps:List Nat) (L:List DefS) (hlim:∀ d∈L,DefLim d):∀ (n0 i:Nat) (av:AttrS) (w:World),SchAt w s ps L→jr_ L n0 i=some av→
  Calls Tryz.prog 125 #[z7_ s,z7_ (pAt ps i)] w (za0_ w av):=by
 intro n0
 induction n0 with
 |zero=>intro i av w _ h;rw[jr_] at h;cases h
 |succ n0 ih=>
 intro i av w hS hcf
 have IH:=hiD ih
 clear ih
 obtain⟨d,hLi⟩:∃ d,L[i]?=some d:=by
  rw[jr_] at hcf
  cases hx:L[i]? with
  |none=>rw[hx] at hcf;cases hcf
  |some d=>exact⟨d,rfl⟩
 rw[jr_,hLi] at hcf
 simp only at hcf
 have hd:=hS.defAt hLi
 have hl:=hlim d (List.mem_of_getElem? hLi)
 have HCF:=hiD hcf
 have HSCH:=hiD hS
 clear hcf hS hLi
 generalize hpg:pAt ps i=p at *
 clear hpg
 have a1:Bel w (w.alloc zu_).drew:=((bR _ _).alloc (nR _) _).drew
 have a2:Bel w ((w.alloc zu_).alloc zu_).drew:=(((bR _ _).alloc (nR _) _).alloc (by simp) _).drew
 have a1n:Bk (w.alloc zu_) w.heap.size 128 #[.string ⟨#[]⟩,.string ⟨#[]⟩,.string ⟨#[]⟩,.slice none 0 0,.string ⟨#[]⟩,.string ⟨#[]⟩,.string ⟨#[]⟩,.string ⟨#[]⟩,.bool false,.bool false,.bool false]:=Bk.new w _ _
 have a2o:Bk ((w.alloc zu_).alloc zu_) w.heap.size 128 #[.string ⟨#[]⟩,.string ⟨#[]⟩,.string ⟨#[]⟩,.slice none 0 0,.string ⟨#[]⟩,.string ⟨#[]⟩,.string ⟨#[]⟩,.string ⟨#[]⟩,.bool false,.bool false,.bool false]:=(Bk.new w _ _).alloc _
 have a2n:Bk ((w.alloc zu_).alloc zu_) (w.heap.size+1) 128 #[.string ⟨#[]⟩,.string ⟨#[]⟩,.string ⟨#[]⟩,.slice none 0 0,.string ⟨#[]⟩,.string ⟨#[]⟩,.string ⟨#[]⟩,.string ⟨#[]⟩,.bool false,.bool false,.bool false]:=by
  have:=Bk.new (w.alloc zu_) 128 #[.string ⟨#[]⟩,.string ⟨#[]⟩,.string ⟨#[]⟩,.slice none 0 0,.string ⟨#[]⟩,.string ⟨#[]⟩,.string ⟨#[]⟩,.string ⟨#[]⟩,.bool false,.bool false,.bool false]
  rw[World.size_alloc] at this
  exact this
 have HN:=hiD (fun (W:World) (hb:Bel w W)=>zje_ p d W (hd.below hb))
 obtain⟨vn,vs,vm,vy,hB,hvn,hvs,_⟩:=id hd
 have HC:=hiD (fun (W:World) (hb:Bel w W)=>yg_ d.names vn W (hvn.below hb) hl.names.1)
 obtain⟨An,nn,cn,rfl⟩:=hvn.isSlice
 obtain⟨As,ns,cs,rfl⟩:=hvs.isSlice
 have HK:=hiD (show ∀ (W:World),Bel w W→W.cell? ⟨p,1,none⟩=some (.string ⟨d.oid.toArray⟩)∧W.cell? ⟨p,2,none⟩=some (.slice An nn cn)∧W.cell? ⟨p,6,none⟩=some (.string ⟨d.form.toArray⟩)∧W.cell? ⟨p,7,none⟩=some (.string ⟨d.eqr.toArray⟩)∧W.cell? ⟨p,8,none⟩=some (.string ⟨d.ordr.toArray⟩)∧W.cell? ⟨p,9,none⟩=some (.string ⟨d.subs.toArray⟩)∧W.cell? ⟨p,10,none⟩=some (.bool d.single)∧W.cell? ⟨p,11,none⟩=some (.bool d.fixed)∧W.cell? ⟨p,12,none⟩=some (.bool d.oper) from fun W hb=>by
  have hB2:=hB.below hb
  exact⟨hB2.cell 1,hB2.cell 2,hB2.cell 6,hB2.cell 7,hB2.cell 8,hB2.cell 9,hB2.cell 10,hB2.cell 11,hB2.cell 12⟩)
 have HKB:=hiD hB
 have HVS:=hiD hvs
 have HNS:Hid (ns=d.sup.length):=hiD (z27_ hvs).1
 have HD:=hiD hd
 clear hB hvn hvs hd
 unfold z7_ at HN ⊢
 go_enter Tryz.func125,Tryz.ntmps125
 go_upto_region 1 with fail
 go_cut [5] (fun s5 wx=>∃ (g:Nat) (A:Option Addr) (n c:Nat),s5= .pointer (some ⟨g,0,none⟩)∧Aside (CntAt w wx g d.attr A n c))
 case first=>
  go_region_held3 (fun W=>W.cell? ⟨p,1,none⟩=some (.string ⟨d.oid.toArray⟩)∧W.cell? ⟨p,2,none⟩=some (.slice An nn cn)∧W.cell? ⟨p,6,none⟩=some (.string ⟨d.form.toArray⟩)∧W.cell? ⟨p,7,none⟩=some (.string ⟨d.eqr.toArray⟩)∧W.cell? ⟨p,8,none⟩=some (.string ⟨d.ordr.toArray⟩)∧W.cell? ⟨p,9,none⟩=some (.string ⟨d.subs.toArray⟩)∧W.cell? ⟨p,10,none⟩=some (.bool d.single)∧W.cell? ⟨p,11,none⟩=some (.bool d.fixed)∧W.cell? ⟨p,12,none⟩=some (.bool d.oper))
  (first|(with_reducible exact HK.out _ a1)|(with_reducible exact HK.out _ a2)|(with_reducible exact HK.out _ hB3)|(with_reducible exact HK.out _ (hB3.alloc hB3.size _))|(with_reducible exact HK.out _ (ja_ hB3 (Nat.le_succ _) _ _ _ _ _ _ _ _ _ _ _))|fail)
  (first
   |(go_at_call 194;refine(HN.out _ (by first|(with_reducible exact a1)|(with_reducible exact a2))).mono ?_;rintro e w' ⟨rfl,rfl⟩)
   |(go_at_call 26;refine(HC.out _ (by first|(with_reducible exact a1)|(with_reducible exact a2))).mono ?_;rintro e w3 ⟨v3,rfl,hO3,hb3⟩;obtain⟨A3,c3,rfl,hc3⟩:=hO3.isSlice;have hB3:Bel w w3:=(by first|(with_reducible exact tQ a1 hb3)|(with_reducible exact tQ a2 hb3));have KO:=hiD (show Bk w3 w.heap.size 128 #[.string ⟨#[]⟩,.string ⟨#[]⟩,.string ⟨#[]⟩,.slice none 0 0,.string ⟨#[]⟩,.string ⟨#[]⟩,.string ⟨#[]⟩,.string ⟨#[]⟩,.bool false,.bool false,.bool false] from (by first|(with_reducible exact a1n.below (q7_ hb3))|(with_reducible exact a2o.below (q7_ hb3))));(first|(have KK:=hiD (a2n.below (q7_ (w:=(w.alloc zu_).alloc zu_) hb3));have kc0:w3.cell? ⟨w.heap.size+1,0,none⟩=some (.string ⟨#[]⟩):=KK.out.cell 0;have kc1:w3.cell? ⟨w.heap.size+1,1,none⟩=some (.string ⟨#[]⟩):=KK.out.cell 1;have kc2:w3.cell? ⟨w.heap.size+1,2,none⟩=some (.string ⟨#[]⟩):=KK.out.cell 2;have kc3:w3.cell? ⟨w.heap.size+1,3,none⟩=some (.slice none 0 0):=KK.out.cell 3;have kc4:w3.cell? ⟨w.heap.size+1,4,none⟩=some (.string ⟨#[]⟩):=KK.out.cell 4;have kc5:w3.cell? ⟨w.heap.size+1,5,none⟩=some (.string ⟨#[]⟩):=KK.out.cell 5;have kc6:w3.cell? ⟨w.heap.size+1,6,none⟩=some (.string ⟨#[]⟩):=KK.out.cell 6;have kc7:w3.cell? ⟨w.heap.size+1,7,none⟩=some (.string ⟨#[]⟩):=KK.out.cell 7;have kc8:w3.cell? ⟨w.heap.size+1,8,none⟩=some (.bool false):=KK.out.cell 8;have kc9:w3.cell? ⟨w.heap.size+1,9,none⟩=some (.bool false):=KK.out.cell 9;have kc10:w3.cell? ⟨w.heap.size+1,10,none⟩=some (.bool false):=KK.out.cell 10;have fz0:w3.frozen? ⟨w.heap.size+1,0,none⟩=false:=KK.out.frozen 0;have fz1:w3.frozen? ⟨w.heap.size+1,1,none⟩=false:=KK.out.frozen 1;have fz2:w3.frozen? ⟨w.heap.size+1,2,none⟩=false:=KK.out.frozen 2;have fz3:w3.frozen? ⟨w.heap.size+1,3,none⟩=false:=KK.out.frozen 3;have fz4:w3.frozen? ⟨w.heap.size+1,4,none⟩=false:=KK.out.frozen 4;have fz5:w3.frozen? ⟨w.heap.size+1,5,none⟩=false:=KK.out.frozen 5;have fz6:w3.frozen? ⟨w.heap.size+1,6,none⟩=false:=KK.out.frozen 6;have fz7:w3.frozen? ⟨w.heap.size+1,7,none⟩=false:=KK.out.frozen 7;have fz8:w3.frozen? ⟨w.heap.size+1,8,none⟩=false:=KK.out.frozen 8;have fz9:w3.frozen? ⟨w.heap.size+1,9,none⟩=false:=KK.out.frozen 9;have fz10:w3.frozen? ⟨w.heap.size+1,10,none⟩=false:=KK.out.frozen 10;have HF:=hiD (zdg_ (d:=d) hB3 KO.out KK.out (hO3.lower (by simp<;>omega)));clear KK)|(have HF:=hiD (zff_ (d:=d) hB3 KO.out (hO3.lower (by simp<;>omega)))))))
  all_goals
  go_wp2_with fail
  go_meet
  exact⟨_,A3,d.names.length,c3,rfl,HF.out⟩
 case rest=>
  obtain⟨g,A,n,c,rfl,HC5⟩:=hcut
  have HC6:=hiD HC5.out
  clear HC5
  have hc0:=HC6.out.bk.cell 0
  have hc1:=HC6.out.bk.cell 1
  have hc2:=HC6.out.bk.cell 2
  have hc3:=HC6.out.bk.cell 3
  have hc4:=HC6.out.bk.cell 4
  have hc5:=HC6.out.bk.cell 5
  have hc6:=HC6.out.bk.cell 6
  have hc7:=HC6.out.bk.cell 7
  have hc8:=HC6.out.bk.cell 8
  have hc9:=HC6.out.bk.cell 9
  have hc10:=HC6.out.bk.cell 10
  simp only[z8_,List.getElem?_toArray,List.getElem?_cons_zero,List.getElem?_cons_succ] at hc0 hc1 hc2 hc3 hc4 hc5 hc6 hc7 hc8 hc9 hc10
  have hp3:wc.cell? ⟨p,3,none⟩=some (.slice As ns cs):=(HKB.out.below HC6.out.bel).cell 3
  rcases hsup:d.sup with _|⟨nm,tl⟩
  ·have hns:ns=0:=by rw[hsup] at HNS;exact HNS.out
   subst hns
   have oc0:=HC6.out.out.cell 0
   have oc1:=HC6.out.out.cell 1
   have oc2:=HC6.out.out.cell 2
   have oc3:=HC6.out.out.cell 3
   have oc4:=HC6.out.out.cell 4
   have oc5:=HC6.out.out.cell 5
   have oc6:=HC6.out.out.cell 6
   have oc7:=HC6.out.out.cell 7
   have oc8:=HC6.out.out.cell 8
   have oc9:=HC6.out.out.cell 9
   have oc10:=HC6.out.out.cell 10
   simp only[gs3] at oc0 oc1 oc2 oc3 oc4 oc5 oc6 oc7 oc8 oc9 oc10
   have of:=fun i=>HC6.out.out.frozen i
   go_wp2_with fail
   have hz:=vq_ _ _ _ _ _ _ _ _ _ _ _ (.string ⟨d.attr.oid.toArray⟩) (.string ⟨d.attr.name.toArray⟩) (.string ⟨d.attr.sup.toArray⟩) (.slice A n c) (.string ⟨d.attr.form.toArray⟩) (.string ⟨d.attr.eqr.toArray⟩) (.string ⟨d.attr.ordr.toArray⟩) (.string ⟨d.attr.subs.toArray⟩) (.bool d.attr.single) (.bool d.attr.fixed) (.bool d.attr.oper) HC6.out.out
   have hav:av=d.attr:=by
    have hq:=HCF.out
    rw[hsup] at hq
    simp only at hq
    cases hq
    rfl
   rw[hav]
   exact z8w_ (ja_ HC6.out.bel (nR _) _ _ _ _ _ _ _ _ _ _ _) hz (HC6.out.names.far11 HC6.out.out (by decide) _ _ _ _ _ _ _ _ _ _ _) rfl
  ·have hns:ns=tl.length+1:=by have:=HNS.out;rw[hsup] at this;exact this
   subst hns
   have hcf:=HCF.out
   rw[hsup] at hcf
   simp only at hcf
   cases hf:zk_ L false nm with
   |none=>rw[hf] at hcf;cases hcf
   |some j=>
    rw[hf] at hcf
    simp only at hcf
    rw[Option.map_eq_some_iff] at hcf
    obtain⟨up,hup,rfl⟩:=hcf
    have htx:=HVS.out.below HC6.out.bel
    rw[hsup] at htx
    obtain⟨gt,rfl,hct⟩:=vj_ htx (k:=0) (by simp)
    simp only[List.getElem_cons_zero] at hct
    have hnl:nm.length≤1000000:=hl.sup.2 nm (by rw[hsup];simp)
    have hF:=z5j_ s ps L false nm wc (HSCH.out.below HC6.out.bel) hnl
    rw[hf] at hF
    have HF:Hid (Calls Tryz.prog 119 #[.pointer (some ⟨s,0,none⟩),.bool false,.string ⟨nm.toArray⟩] wc fun e w'=>e= .returned (.pointer (some ⟨pAt ps j,0,none⟩))∧Bel wc w'):=hiD hF
    have HUP:=hiD hup
    have hl0:(0:Int)<(tl.length:Int)+1:=by omega
    have hz0:((tl.length:Int)+1==0)=false:=by rw[beq_eq_false_iff_ne];omega
    have HIH:Hid (∀ W:World,Bel w W→Calls Tryz.prog 125 #[.pointer (some ⟨s,0,none⟩),.pointer (some ⟨pAt ps j,0,none⟩)] W fun e w'=>∃ A n c,e= .returned (jv_ up (.slice A n c))∧Bel W w'):=hiD (fun W hb=>(IH.out j up W (HSCH.out.below hb) HUP.out).mono (by
     rintro e w' ⟨h1,nv,rfl,h2⟩
     obtain⟨A,c,rfl,_⟩:=h2.isSlice
     exact⟨A,_,c,rfl,h1⟩))
    clear hF hup htx hf
    go_wp2_with (first|(go_at_call 119;refine HF.out.mono ?_;rintro e w5 ⟨rfl,hb5⟩;have hB5:=tQ HC6.out.bel hb5)|(go_at_call 125;refine(HIH.out _ hB5).mono ?_;unfold jv_ z8_;rintro e w6 ⟨A6,n6,c6,rfl,hb6⟩;have gk:=(HC6.out.bk.below hb5).below hb6;have gs2:=gk.cell 2;have fs2:=gk.frozen 2;have glt:=gk.lt;simp only[z8_,List.getElem?_toArray,List.getElem?_cons_zero,List.getElem?_cons_succ] at gs2))
    have hw6:wc.heap.size≤w6.heap.size:=nT hb5.size hb6.size
    have hb56:Bel wc w6:=tQ hb5 hb6
    have gx:=gk.set 2 (.string ⟨up.name.toArray⟩)
    have J0:MJ w g w6.heap.size (w6.heap.size+1) d.attr up (.slice A n c) (.slice A6 n6 c6) 0 (((w6.setCell ⟨g,2,none⟩ (.string ⟨up.name.toArray⟩)).alloc (.cells (z8_ up (.slice A6 n6 c6)) 128)).alloc (.cells #[.pointer (some ⟨g,4,none⟩),.pointer (some ⟨w6.heap.size,4,none⟩),.pointer (some ⟨g,5,none⟩),.pointer (some ⟨w6.heap.size,5,none⟩),.pointer (some ⟨g,6,none⟩),.pointer (some ⟨w6.heap.size,6,none⟩),.pointer (some ⟨g,7,none⟩),.pointer (some ⟨w6.heap.size,7,none⟩)] 223)):=by
     have hsz:(w6.setCell ⟨g,2,none⟩ (.string ⟨up.name.toArray⟩)).heap.size=w6.heap.size:=by simp [World.setCell]
     have u1:=Bk.new (w6.setCell ⟨g,2,none⟩ (.string ⟨up.name.toArray⟩)) 128 (z8_ up (.slice A6 n6 c6))
     have u2:=Bk.new ((w6.setCell ⟨g,2,none⟩ (.string ⟨up.name.toArray⟩)).alloc (.cells (z8_ up (.slice A6 n6 c6)) 128)) 223 #[.pointer (some ⟨g,4,none⟩),.pointer (some ⟨w6.heap.size,4,none⟩),.pointer (some ⟨g,5,none⟩),.pointer (some ⟨w6.heap.size,5,none⟩),.pointer (some ⟨g,6,none⟩),.pointer (some ⟨w6.heap.size,6,none⟩),.pointer (some ⟨g,7,none⟩),.pointer (some ⟨w6.heap.size,7,none⟩)]
     rw[World.size_alloc,hsz] at u2
     rw[hsz] at u1
     have hge:=HC6.out.ge
     refine⟨(gx.alloc _).alloc _,u1.alloc _,u2,((((HC6.out.out.below hb5).below hb6).far (by omega) _).alloc _).alloc _,?_,?_,by omega⟩
     ·exact((((tQ HC6.out.bel hb56).setCell (by simp;omega) _).alloc (by rw[hsz];exact nT HC6.out.bel.size hw6) _).alloc (by rw[World.size_alloc,hsz];exact nT (nT HC6.out.bel.size hw6) (Nat.le_succ _)) _)
     ·exact(((((HC6.out.names.below hb5).below hb6).far gk (by decide) _).below ((bR _ _).alloc (nR _) _)).below ((bR _ _).alloc (nR _) _))
    have HJ0:=hiD J0
    clear J0 gx gs2 fs2 hc0 hc1 hc2 hc3 hc4 hc5 hc6 hc7 hc8 hc9 hc10 hp3 hct gk
    unfold z8_ at HJ0
    generalize ((w6.setCell ⟨g,2,none⟩ (.string ⟨up.name.toArray⟩)).alloc _).alloc _=WL at HJ0 ⊢
    generalize w6.heap.size+1=gs at HJ0 ⊢
    generalize w6.heap.size=g6 at HJ0 ⊢
    have HJ1:Hid (MJ w g g6 gs d.attr up (.slice A n c) (.slice A6 n6 c6) 0 WL):=HJ0
    clear HJ0
    go_loopg [83] 4 (fun gk i2 wr=>∃ k:Nat,k≤4∧i2= .int .i64 k∧Aside (k+gk=4)∧Aside (MJ w g g6 gs d.attr up (.slice A n c) (.slice A6 n6 c6) k wr))
    case atStart=>exact⟨0,by omega,rfl,rfl,HJ1.out⟩
    case round=>
     clear HJ1
     obtain⟨k,hk,rfl,AG,AJ⟩:=hrel
     by_cases hlt:k<4
     ·obtain⟨q,rfl⟩:∃ q,gk=q+1:=⟨gk - 1,by have:=AG.out;omega⟩
      obtain⟨x,y,q0,q1,q2,q3,he⟩:=AJ.out.cells hlt
      have HE:=hiD he
      have glt:=AJ.out.out.lt
      have g6lt:=AJ.out.upb.lt
      have fz:=AJ.out.out.frozen (4+k)
      clear he
      cases x with
      |cons x0 xt=>
       go_wp2_with fail
       go_roundg q
       case measure=>omega
       case rel=>exact⟨k+1,by omega,by go_num,by have:=AG.out;show _=_;omega,AJ.out.stay _ (by simp) q2 HE.out⟩
      |nil=>
       have k0:(wr.alloc (.cells #[.pointer (some ⟨g,4+k,none⟩),.pointer (some ⟨g6,4+k,none⟩)] 223)).cell? ⟨wr.heap.size,0,none⟩=some (.pointer (some ⟨g,4+k,none⟩)):=(Bk.new wr _ _).cell 0
       have k1:(wr.alloc (.cells #[.pointer (some ⟨g,4+k,none⟩),.pointer (some ⟨g6,4+k,none⟩)] 223)).cell? ⟨wr.heap.size,1,none⟩=some (.pointer (some ⟨g6,4+k,none⟩)):=(Bk.new wr _ _).cell 1
       have k2:(wr.alloc (.cells #[.pointer (some ⟨g,4+k,none⟩),.pointer (some ⟨g6,4+k,none⟩)] 223)).cell? ⟨g6,4+k,none⟩=some (.string ⟨y.toArray⟩):=(World.cell?_alloc_lt _ _ _ g6lt).trans q3
       have hge:=AJ.out.ge
       have hsz:(wr.setCell ⟨g,4+k,none⟩ (.string ⟨y.toArray⟩)).heap.size=wr.heap.size:=by simp [World.setCell]
       have b2:=Bk.new (wr.setCell ⟨g,4+k,none⟩ (.string ⟨y.toArray⟩)) 223 #[.pointer (some ⟨g,4+k,none⟩),.pointer (some ⟨g6,4+k,none⟩)]
       rw[hsz] at b2
       have m0:((wr.setCell ⟨g,4+k,none⟩ (.string ⟨y.toArray⟩)).alloc (.cells #[.pointer (some ⟨g,4+k,none⟩),.pointer (some ⟨g6,4+k,none⟩)] 223)).cell? ⟨wr.heap.size,0,none⟩=some (.pointer (some ⟨g,4+k,none⟩)):=b2.cell 0
       have m1:((wr.setCell ⟨g,4+k,none⟩ (.string ⟨y.toArray⟩)).alloc (.cells #[.pointer (some ⟨g,4+k,none⟩),.pointer (some ⟨g6,4+k,none⟩)] 223)).cell? ⟨wr.heap.size,1,none⟩=some (.pointer (some ⟨g6,4+k,none⟩)):=b2.cell 1
       have m2:((wr.setCell ⟨g,4+k,none⟩ (.string ⟨y.toArray⟩)).alloc (.cells #[.pointer (some ⟨g,4+k,none⟩),.pointer (some ⟨g6,4+k,none⟩)] 223)).cell? ⟨g6,4+k,none⟩=some (.string ⟨y.toArray⟩):=by
        rw[((AJ.out.upb.far (g':=g) (i:=4+k) (by omega) (.string ⟨y.toArray⟩)).alloc _).cell,← AJ.out.upb.cell]
        exact q3
       have HJ2:=hiD ((AJ.out.take (bR _ _) HE.out).more ((bR _ _).alloc (nR _) (.cells #[.pointer (some ⟨g,4+k,none⟩),.pointer (some ⟨g6,4+k,none⟩)] 223)))
       clear b2 hsz
       go_wp2_with fail
       go_region_held3 (fun W=>W.cell? ⟨wr.heap.size,0,none⟩=some (.pointer (some ⟨g,4+k,none⟩))∧W.cell? ⟨wr.heap.size,1,none⟩=some (.pointer (some ⟨g6,4+k,none⟩))∧W.cell? ⟨g6,4+k,none⟩=some (.string ⟨y.toArray⟩)) (first|exact⟨k0,k1,k2⟩|exact⟨m0,m1,m2⟩|fail) (fail)
       all_goals
        go_wp2_with fail
        go_roundg q
        case measure=>omega
        case rel=>exact⟨k+1,by omega,by go_num,by have:=AG.out;show _=_;omega,HJ2.out.more (bR _ _).drew⟩
     ·obtain rfl:k=4:=by omega
      have HJ4:=hiD AJ.out
      have ho:Bk wr g 128 (z8_ (d.attr.under up) (.slice A n c)):=HJ4.out.out
      have hr:=HJ4.out.res
      have hc0:=ho.cell 0
      have hc1:=ho.cell 1
      have hc2:=ho.cell 2
      have hc3:=ho.cell 3
      have hc4:=ho.cell 4
      have hc5:=ho.cell 5
      have hc6:=ho.cell 6
      have hc7:=ho.cell 7
      have hc8:=ho.cell 8
      have hc9:=ho.cell 9
      have hc10:=ho.cell 10
      simp only[z8_,List.getElem?_toArray,List.getElem?_cons_zero,List.getElem?_cons_succ] at hc0 hc1 hc2 hc3 hc4 hc5 hc6 hc7 hc8 hc9 hc10
      have oc0:=hr.cell 0
      have oc1:=hr.cell 1
      have oc2:=hr.cell 2
      have oc3:=hr.cell 3
      have oc4:=hr.cell 4
      have oc5:=hr.cell 5
      have oc6:=hr.cell 6
      have oc7:=hr.cell 7
      have oc8:=hr.cell 8
      have oc9:=hr.cell 9
      have oc10:=hr.cell 10
      simp only[gs3] at oc0 oc1 oc2 oc3 oc4 oc5 oc6 oc7 oc8 oc9 oc10
      have of:=fun i=>hr.frozen i
      have HR:=hiD hr
      clear ho hr
      generalize hau:d.attr.under up=au at hc0 hc1 hc2 hc3 hc4 hc5 hc6 hc7 hc8 hc9 hc10 ⊢
      have hnn:au.names=d.attr.names:=by rw[← hau];rfl
      have HNN:=hiD hnn
      have HAU:=hiD hau
      clear hau hnn
      go_wp2_with fail
      have hz:=vq_ _ _ _ _ _ _ _ _ _ _ _ (.string ⟨au.oid.toArray⟩) (.string ⟨au.name.toArray⟩) (.string ⟨au.sup.toArray⟩) (.slice A n c) (.string ⟨au.form.toArray⟩) (.string ⟨au.eqr.toArray⟩) (.string ⟨au.ordr.toArray⟩) (.string ⟨au.subs.toArray⟩) (.bool au.single) (.bool au.fixed) (.bool au.oper) HR.out
      rw[HAU.out]
      exact z8w_ (ja_ HJ4.out.bel (nR _) _ _ _ _ _ _ _ _ _ _ _) hz (by rw[HNN.out];exact HJ4.out.nam.far11 HR.out (by decide) _ _ _ _ _ _ _ _ _ _ _) rfl
end Go.Proofs.YtakfpngfpknedaaGreatDoor
