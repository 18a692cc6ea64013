import Derived.Test.YtbekpphodbekiaaGreatDoorV17
set_option linter.all false
set_option maxHeartbeats 8000000
set_option maxRecDepth 100000
namespace Go.Proofs.YtbekpphodbekiaaGreatDoor
open Go.RowKit
theorem qa_ (w:World) (o:Obj):Bel w (w.alloc o):=(bR _ _).alloc (nR _) _
theorem zaz_ {L:List DefS} (hlim:∀ d∈L,DefLim d) (t:LU):(zt_ L t).name.length≤1000000:=by
 unfold zt_
 cases h:qp_ L t with
 |none=>exact Nat.zero_le _
 |some a=>
  obtain⟨j,d,_,hd,_,_,_,hn⟩:=kj_ h
  show a.name.length≤_
  rw[hn]
  exact zgb_ hlim (List.mem_of_getElem? hd)
theorem z42_ (L:List DefS) (t:LU):(qp_ L t=none∧qq_ L t=52)∨(qq_ L t=0∧∃ a,qp_ L t=some a∧zt_ L t=a):=by
 unfold qq_ zt_
 cases h:qp_ L t with
 |none=>exact .inl ⟨rfl,rfl⟩
 |some a=>exact .inr ⟨rfl,a,rfl,rfl⟩
theorem z68_ {L:List DefS} {a:Ent.AttrE} (had:List Ent.AttrE) (h:qp_ L a.typ=none):Ent.attrE (zo_ L) a had= .inl 17:=by
 unfold Ent.attrE zo_
 simp only[h]
 rfl
theorem z5c_ {L:List DefS} {a:Ent.AttrE} (had:List Ent.AttrE) {d:AttrS} (h:qp_ L a.typ=some d):Ent.attrE (zo_ L) a had=if a.vals.isEmpty then .inl 2 else if 200<a.vals.length then .inl 19 else match Ent.formsE (zo_ L) d.name a.vals with
  |none=> .inl 21
  |some l=>if had.any (fun b=>b.typ==d.name)||Ent.twiceE l then .inl 20 else .inr ⟨d.name,a.vals⟩:=by
 have e:(zo_ L).attr a.typ=some (z6m_ d):=by
  show (qp_ L a.typ).map z6m_=_
  rw[h];rfl
 unfold Ent.attrE
 rw[e]
 rfl
theorem zqb_ (bd:Nat) (nm:LU) (x:Ent.AttrE) (vx:Value) (w:World) (hv:vx.oneCell'=true) (hb:w.cell? ⟨bd,1,none⟩=some (.string ⟨nm.toArray⟩)):
  Calls Tryz.prog 40 #[.agg #[.string ⟨x.typ.toArray⟩,vx],.pointer (some ⟨bd,0,none⟩)] w fun e w'=>e= .returned (.bool (x.typ==nm))∧Bel w w':=by
 obtain⟨typ,vals⟩:=x
 simp only
 have hba:=qa_ w (.cells #[.string ⟨typ.toArray⟩,vx] 43)
 have hb2:=(hba.cell (p:=⟨bd,1,none⟩) (z9_ hb)).trans hb
 go_enter Tryz.func40,Tryz.ntmps40
 go_wp2_with fail
 all_goals
  go_ret
  exact⟨j7_ (by first|rfl|(rw[Bool.eq_iff_iff];simp)),by first|exact bR _ _|exact hba⟩
def y8_ (w:World) (R:Int ⊕ Ent.AttrE) (e:Ending) (w':World):Prop:=Bel w w'∧∃ A n c k t,e= .returned (.tuple #[.agg #[.string ⟨t⟩,.slice A n c],.int .i64 k])∧match R with
 | .inl q=>k=q∧q≠0
 | .inr b=>k=0∧t=b.typ.toArray∧n=b.vals.length∧Own w.heap.size w' (.slice A n c) b.vals
theorem z2s_ {w:World} {p i b o:Nat} {v u:Value} (h:w.cell? ⟨b,o,none⟩=some u) (hne:b≠p):(w.setCell ⟨p,i,none⟩ v).cell? ⟨b,o,none⟩=some u:=by
 rw[show (w.setCell ⟨p,i,none⟩ v).cell? ⟨b,o,none⟩=w.cell? ⟨b,o,none⟩ from World.cell?_of_block (Below.heap_setCell _ _ _ _ (fun e=>hne e))]
 exact h
theorem ji_ {g:Nat} {w:World} {t:TypeId} (c0 c1 v0 v1:Value) (h:Bk w g t #[c0,c1]):Bk ((w.setCell ⟨g,0,none⟩ v0).setCell ⟨g,1,none⟩ v1) g t #[v0,v1]:=by
 simpa using (h.set 0 v0).set 1 v1
theorem zx_ {B g:Nat} {a w:World} (h:Below B a w) (hg:B≤g) (v0 v1:Value):Below B a ((w.setCell ⟨g,0,none⟩ v0).setCell ⟨g,1,none⟩ v1):=(h.setCell hg v0).setCell hg v1
theorem z5p_ (w:World) (g:Nat) (v0 v1:Value):w.grownBy ((w.setCell ⟨g,0,none⟩ v0).setCell ⟨g,1,none⟩ v1) (some g):=gT (z7_ _ _ _ _) (z7_ _ _ _ _)
theorem jf_ {w W:World} {r0 r1:Value} {tmps:Array Value} {R:Int ⊕ Ent.AttrE} {k:Int} (hz:Bk W (w.heap.size+1) 43 #[r0,r1]) (h6:tmps[6]?=some (.pointer (some ⟨w.heap.size+1,0,none⟩))) (h7:tmps[7]?=some (.int .i64 k))
  (h:y8_ w R (.returned (.tuple #[.agg #[r0,r1],.int .i64 k])) W):
  bodyPost Tryz.prog Tryz.f18 (y8_ w R) .ret {tmps:=tmps,defers:=[]} W:=by
 have e6:tmps[6]?.getD undef= .pointer (some ⟨w.heap.size+1,0,none⟩):=by rw[h6];rfl
 have e7:tmps[7]?.getD undef= .int .i64 k:=by rw[h7];rfl
 have c0:=hz.cell 0
 have c1:=hz.cell 1
 simp only[gs3] at c0 c1
 refine bodyPost_ret (v:= .tuple #[.agg #[r0,r1],.int .i64 k]) ?_ rfl h
 simp [results,Tryz.results18,go_sem,e6,e7,c0,c1]
theorem zpw_ (s:Nat) (ps:List Nat) (L:List DefS) (hL:Sound L) (a:Ent.AttrE) (va:Value) (had:List Ent.AttrE) (vh:Value) (w:World) (hw:Env w) (hS:SchAt w s ps L) (hta:TextsA w va a.vals) (hh:AttrsA w vh had) (h1:a.typ.length≤140737488351232) (h2:a.vals.length≤1000000) (h3:had.length≤1000000):
  Calls Tryz.prog 18 #[.pointer (some ⟨s,0,none⟩),.agg #[.string ⟨a.typ.toArray⟩,va],vh] w (y8_ w (Ent.attrE (zo_ L) a had)):=by
 obtain⟨R,hR⟩:∃ R,Ent.attrE (zo_ L) a had=R:=⟨_,rfl⟩
 rw[hR]
 have HA:Hid (∀ (W:World),Bel w W→Calls Tryz.prog 11 #[.pointer (some ⟨s,0,none⟩),.string ⟨a.typ.toArray⟩] W fun e w'=>Bel W w'∧∃ A n c,e= .returned (.tuple #[zu_ (zt_ L a.typ) (.slice A n c),.int .i64 (qq_ L a.typ)])):=hiD fun W h=>x7_ s ps L hL a.typ W (hS.below h) h1
 have HF:Hid (∀ (W:World),Bel w W→Calls Tryz.prog 38 #[.pointer (some ⟨s,0,none⟩),.string ⟨(zt_ L a.typ).name.toArray⟩,va] W fun e w'=>Bel W w'∧∃ A c,e= .returned (.tuple #[.slice A ((Ent.formsE (zo_ L) (zt_ L a.typ).name a.vals).getD []).length c,.bool (Ent.formsE (zo_ L) (zt_ L a.typ).name a.vals).isSome])∧TextsA w' (.slice A ((Ent.formsE (zo_ L) (zt_ L a.typ).name a.vals).getD []).length c) ((Ent.formsE (zo_ L) (zt_ L a.typ).name a.vals).getD [])):=hiD fun W h=>zdz_ s ps L hL _ _ va W (hw.keep h) (hS.below h) (zaz_ hL.lim _) (hta.below h) h2
 have HC:Hid (∀ (W:World) (bd:Nat),Bel w W→W.cell? ⟨bd,1,none⟩=some (.string ⟨(zt_ L a.typ).name.toArray⟩)→Calls Tryz.prog 39 #[vh,.func (.func 40) #[] #[.pointer (some ⟨bd,0,none⟩)]] W fun e w'=>e= .returned (.bool (had.any fun b=>b.typ==(zt_ L a.typ).name))∧Bel W w'):=hiD fun W bd h hb=>z2i_ 40 #[.pointer (some ⟨bd,0,none⟩)] had vh W (hh.below h) h3 _ ⟨fun x _ vx W2 hv hW2=>zqb_ bd _ x vx W2 hv ((hW2.cell (p:=⟨bd,1,none⟩) (z9_ hb)).trans hb),fun _ _=>by kernel_rfl⟩
 have HT:Hid (∀ (v:Value) (W:World),TextsA W v ((Ent.formsE (zo_ L) (zt_ L a.typ).name a.vals).getD [])→Calls Tryz.prog 41 #[v] W fun e w'=>e= .returned (.bool (Ent.twiceE ((Ent.formsE (zo_ L) (zt_ L a.typ).name a.vals).getD [])))∧Bel W w'):=hiD fun v W h=>zov_ _ v W h (nT z9w_ h2)
 have HK:Hid (∀ (W:World),Bel w W→Calls Tryz.prog 27 #[va] W fun e w'=>∃ A c,e= .returned (.slice A a.vals.length c)∧Own W.heap.size w' (.slice A a.vals.length c) a.vals∧Bel W w'):=hiD fun W h=>(zmg_ a.vals va W (hta.below h) (nT h2 (by decide))).mono (by
  rintro e w' ⟨v,rfl,hO,hb⟩
  obtain⟨A,c,rfl,_⟩:=hO.isSlice
  exact⟨A,c,rfl,hO,hb⟩)
 have hcs:=z42_ L a.typ
 have hn:=@z68_ L a had
 have hs:=@z5c_ L a had
 rw[hR] at hn hs
 obtain⟨typ,vals⟩:=a
 simp only at *
 obtain⟨Av,cv,rfl,hcv,_⟩:=hta.at
 obtain⟨Ah,ch,rfl,hch⟩:=hh.isSlice
 unfold zu_ z0_ at HA
 generalize zt_ L typ=ad at *
 generalize qq_ L typ=ac at *
 have hbA:=qa_ w (.cells #[.string ⟨typ.toArray⟩,.slice Av vals.length cv] 43)
 have hkA0:=Bk.new w 43 #[.string ⟨typ.toArray⟩,.slice Av vals.length cv]
 have hb0:=hbA.alloc hbA.size (.cells #[.string ⟨#[]⟩,.slice none 0 0] 43)
 have hkA:=hkA0.alloc (.cells #[.string ⟨#[]⟩,.slice none 0 0] 43)
 have hkR:=Bk.new (w.alloc (.cells #[.string ⟨typ.toArray⟩,.slice Av vals.length cv] 43)) 43 #[.string ⟨#[]⟩,.slice none 0 0]
 rw[World.size_alloc] at hkR
 have a0:=hkA.cell 0
 simp only[gs3] at a0
 clear hbA hkA0 hS hL hw
 rcases hcs with ⟨hx,rfl⟩|⟨rfl,d,hx,hd⟩
 ·have hR1:=hn hx
  subst hR1
  clear hn hs HF HC HT HK hx hR hta hh
  go_enter Tryz.func18,Tryz.ntmps18
  go_wp2_with (go_at_call 11;(with_reducible refine(HA.out _ hb0).mono ?_);rintro e w1 ⟨hb1,A1,n1,c1,rfl⟩;have hB1:=tQ hb0 hb1;have hD:=qa_ w1 (.cells (adC ad A1 n1 c1) 38);have hB2:=tQ hB1 hD;have hkR2:=(hkR.below hb1).below hD;have r0:=hkR2.cell 0;have r1:=hkR2.cell 1;simp only[gs3] at r0 r1;have of:=fun i=>hkR2.frozen i)
  have hz:=ji_ _ _ (.string ⟨#[]⟩) (.slice none 0 0) hkR2
  exact jf_ hz rfl rfl ⟨zx_ hB2 (by omega) _ _,_,_,_,_,_,rfl,rfl,by decide⟩
 ·have hR1:=hs hx
  subst hd
  generalize (had.any fun b=>b.typ==ad.name)=bh at *
  by_cases h0:vals.length=0
  ·have hR2:R= .inl 2:=by
    rw[hR1]
    have:vals=[]:=List.eq_nil_of_length_eq_zero h0
    rw[this];rfl
   subst hR2
   clear hn hs HF HC HT HK hx hR1 hR hta hh
   obtain rfl:vals=[]:=List.eq_nil_of_length_eq_zero h0
   simp only[List.length_nil] at *
   go_enter Tryz.func18,Tryz.ntmps18
   go_wp2_with (go_at_call 11;(with_reducible refine(HA.out _ hb0).mono ?_);rintro e w1 ⟨hb1,A1,n1,c1,rfl⟩;have hB1:=tQ hb0 hb1;have hD:=qa_ w1 (.cells (adC ad A1 n1 c1) 38);have hB2:=tQ hB1 hD;have hkA2:=(hkA.below hb1).below hD;have hkR2:=(hkR.below hb1).below hD;have hkD2:=Bk.new w1 38 (adC ad A1 n1 c1);have x0:=hkA2.cell 0;have x1:=hkA2.cell 1;have r0:=hkR2.cell 0;have r1:=hkR2.cell 1;have d1:=hkD2.cell 1;simp only[gs3] at x0 x1 r0 r1 d1;have of:=fun i=>hkR2.frozen i)
   have hz:=ji_ _ _ (.string ⟨#[]⟩) (.slice none 0 0) hkR2
   exact jf_ hz rfl rfl ⟨zx_ hB2 (by omega) _ _,_,_,_,_,_,rfl,rfl,by decide⟩
  ·have hne:vals.isEmpty=false:=by cases vals with
    |nil=>exact absurd rfl h0
    |cons a b=>rfl
   rw[hne] at hR1
   simp only[Bool.false_eq_true,if_false] at hR1
   by_cases h5:200<vals.length
   ·have hR2:R= .inl 19:=by rw[hR1,if_pos h5]
    subst hR2
    clear hn hs HF HC HT HK hx hR1 hR hta hh
    go_enter Tryz.func18,Tryz.ntmps18
    go_wp2_with (go_at_call 11;(with_reducible refine(HA.out _ hb0).mono ?_);rintro e w1 ⟨hb1,A1,n1,c1,rfl⟩;have hB1:=tQ hb0 hb1;have hD:=qa_ w1 (.cells (adC ad A1 n1 c1) 38);have hB2:=tQ hB1 hD;have hkA2:=(hkA.below hb1).below hD;have hkR2:=(hkR.below hb1).below hD;have hkD2:=Bk.new w1 38 (adC ad A1 n1 c1);have x0:=hkA2.cell 0;have x1:=hkA2.cell 1;have r0:=hkR2.cell 0;have r1:=hkR2.cell 1;have d1:=hkD2.cell 1;simp only[gs3] at x0 x1 r0 r1 d1;have of:=fun i=>hkR2.frozen i)
    have hz:=ji_ _ _ (.string ⟨#[]⟩) (.slice none 0 0) hkR2
    exact jf_ hz rfl rfl ⟨zx_ hB2 (by omega) _ _,_,_,_,_,_,rfl,rfl,by decide⟩
   ·rw[if_neg h5] at hR1
    obtain⟨fo,hfo⟩:∃ fo,Ent.formsE (zo_ L) ad.name vals=fo:=⟨_,rfl⟩
    rw[hfo] at hR1 HF HT
    cases fo with
    |none=>
     have hR2:R= .inl 21:=hR1
     subst hR2
     clear hn hs HC HT HK hx hR1 hR hta hh hfo
     simp only[Option.getD_none,List.length_nil,Option.isSome_none] at HF
     go_enter Tryz.func18,Tryz.ntmps18
     go_wp2_with (first|(go_at_call 11;(with_reducible refine(HA.out _ hb0).mono ?_);rintro e w1 ⟨hb1,A1,n1,c1,rfl⟩;have hB1:=tQ hb0 hb1;have hD:=qa_ w1 (.cells (adC ad A1 n1 c1) 38);have hB2:=tQ hB1 hD;have hkA2:=(hkA.below hb1).below hD;have hkR2:=(hkR.below hb1).below hD;have hkD2:=Bk.new w1 38 (adC ad A1 n1 c1);have x0:=hkA2.cell 0;have x1:=hkA2.cell 1;have r0:=hkR2.cell 0;have r1:=hkR2.cell 1;have d1:=hkD2.cell 1;simp only[gs3] at x0 x1 r0 r1 d1;have of:=fun i=>hkR2.frozen i)|(go_at_call 38;(with_reducible refine(HF.out _ hB2).mono ?_);rintro e w3 ⟨hb3,A3,c3,rfl,hT3⟩;have hB3:=tQ hB2 hb3;have hkA3:=hkA2.below hb3;have hkR3:=hkR2.below hb3;have hkD3:=hkD2.below hb3;clear x0 x1 r0 r1 d1 of;have x0:=hkA3.cell 0;have x1:=hkA3.cell 1;have r0:=hkR3.cell 0;have r1:=hkR3.cell 1;have d1:=hkD3.cell 1;simp only[gs3] at x0 x1 r0 r1 d1;have of:=fun i=>hkR3.frozen i))
     have hz:=ji_ _ _ (.string ⟨#[]⟩) (.slice none 0 0) hkR3
     exact jf_ hz rfl rfl ⟨zx_ hB3 (by omega) _ _,_,_,_,_,_,rfl,rfl,by decide⟩
    |some l=>
     simp only at hR1
     simp only[Option.getD_some,Option.isSome_some] at HF HT
     clear hfo
     cases bh
     case true=>
      have hR2:R= .inl 20:=hR1
      subst hR2
      clear hn hs HT HK hx hR1 hR hta hh
      go_enter Tryz.func18,Tryz.ntmps18
      go_wp2_with (first|(go_at_call 11;(with_reducible refine(HA.out _ hb0).mono ?_);rintro e w1 ⟨hb1,A1,n1,c1,rfl⟩;have hB1:=tQ hb0 hb1;have hD:=qa_ w1 (.cells (adC ad A1 n1 c1) 38);have hB2:=tQ hB1 hD;have hkA2:=(hkA.below hb1).below hD;have hkR2:=(hkR.below hb1).below hD;have hkD2:=Bk.new w1 38 (adC ad A1 n1 c1);have x0:=hkA2.cell 0;have x1:=hkA2.cell 1;have r0:=hkR2.cell 0;have r1:=hkR2.cell 1;have d1:=hkD2.cell 1;simp only[gs3] at x0 x1 r0 r1 d1;have of:=fun i=>hkR2.frozen i)|(go_at_call 38;(with_reducible refine(HF.out _ hB2).mono ?_);rintro e w3 ⟨hb3,A3,c3,rfl,hT3⟩;have hB3:=tQ hB2 hb3;have hkA3:=hkA2.below hb3;have hkR3:=hkR2.below hb3;have hkD3:=hkD2.below hb3;clear x0 x1 r0 r1 d1 of;have x0:=hkA3.cell 0;have x1:=hkA3.cell 1;have r0:=hkR3.cell 0;have r1:=hkR3.cell 1;have d1:=hkD3.cell 1;simp only[gs3] at x0 x1 r0 r1 d1;have of:=fun i=>hkR3.frozen i)|(go_at_call 39;(with_reducible refine(HC.out _ _ hB3 d1).mono ?_);rintro e w4 ⟨rfl,hb4⟩;have hB4:=tQ hB3 hb4;have hkA4:=hkA3.below hb4;have hkR4:=hkR3.below hb4;have hkD4:=hkD3.below hb4;clear x0 x1 r0 r1 d1 of;have x0:=hkA4.cell 0;have x1:=hkA4.cell 1;have r0:=hkR4.cell 0;have r1:=hkR4.cell 1;have d1:=hkD4.cell 1;simp only[gs3] at x0 x1 r0 r1 d1;have of:=fun i=>hkR4.frozen i))
      have hz:=ji_ _ _ (.string ⟨#[]⟩) (.slice none 0 0) hkR4
      exact jf_ hz rfl rfl ⟨zx_ hB4 (by omega) _ _,_,_,_,_,_,rfl,rfl,by decide⟩
     case false=>
      generalize Ent.twiceE l=bt at *
      cases bt
      case true=>
       have hR2:R= .inl 20:=hR1
       subst hR2
       clear hn hs HK hx hR1 hR hta hh
       go_enter Tryz.func18,Tryz.ntmps18
       go_wp2_with (first|(go_at_call 11;(with_reducible refine(HA.out _ hb0).mono ?_);rintro e w1 ⟨hb1,A1,n1,c1,rfl⟩;have hB1:=tQ hb0 hb1;have hD:=qa_ w1 (.cells (adC ad A1 n1 c1) 38);have hB2:=tQ hB1 hD;have hkA2:=(hkA.below hb1).below hD;have hkR2:=(hkR.below hb1).below hD;have hkD2:=Bk.new w1 38 (adC ad A1 n1 c1);have x0:=hkA2.cell 0;have x1:=hkA2.cell 1;have r0:=hkR2.cell 0;have r1:=hkR2.cell 1;have d1:=hkD2.cell 1;simp only[gs3] at x0 x1 r0 r1 d1;have of:=fun i=>hkR2.frozen i)|(go_at_call 38;(with_reducible refine(HF.out _ hB2).mono ?_);rintro e w3 ⟨hb3,A3,c3,rfl,hT3⟩;have hB3:=tQ hB2 hb3;have hkA3:=hkA2.below hb3;have hkR3:=hkR2.below hb3;have hkD3:=hkD2.below hb3;clear x0 x1 r0 r1 d1 of;have x0:=hkA3.cell 0;have x1:=hkA3.cell 1;have r0:=hkR3.cell 0;have r1:=hkR3.cell 1;have d1:=hkD3.cell 1;simp only[gs3] at x0 x1 r0 r1 d1;have of:=fun i=>hkR3.frozen i)|(go_at_call 39;(with_reducible refine(HC.out _ _ hB3 d1).mono ?_);rintro e w4 ⟨rfl,hb4⟩;have hB4:=tQ hB3 hb4;have hkA4:=hkA3.below hb4;have hkR4:=hkR3.below hb4;have hkD4:=hkD3.below hb4;clear x0 x1 r0 r1 d1 of;have x0:=hkA4.cell 0;have x1:=hkA4.cell 1;have r0:=hkR4.cell 0;have r1:=hkR4.cell 1;have d1:=hkD4.cell 1;simp only[gs3] at x0 x1 r0 r1 d1;have of:=fun i=>hkR4.frozen i)|(go_at_call 41;(with_reducible refine(HT.out _ _ (hT3.below hb4)).mono ?_);rintro e w5 ⟨rfl,hb5⟩;have hB5:=tQ hB4 hb5;have hkA5:=hkA4.below hb5;have hkR5:=hkR4.below hb5;have hkD5:=hkD4.below hb5;clear x0 x1 r0 r1 d1 of;have x0:=hkA5.cell 0;have x1:=hkA5.cell 1;have r0:=hkR5.cell 0;have r1:=hkR5.cell 1;have d1:=hkD5.cell 1;simp only[gs3] at x0 x1 r0 r1 d1;have of:=fun i=>hkR5.frozen i))
       have hz:=ji_ _ _ (.string ⟨#[]⟩) (.slice none 0 0) hkR5
       exact jf_ hz rfl rfl ⟨zx_ hB5 (by omega) _ _,_,_,_,_,_,rfl,rfl,by decide⟩
      case false=>
       have hR2:R= .inr ⟨ad.name,vals⟩:=hR1
       subst hR2
       clear hn hs hx hR1 hR hta hh
       go_enter Tryz.func18,Tryz.ntmps18
       go_upto_region 14 with (first|(go_at_call 11;(with_reducible refine(HA.out _ hb0).mono ?_);rintro e w1 ⟨hb1,A1,n1,c1,rfl⟩;have hB1:=tQ hb0 hb1;have hD:=qa_ w1 (.cells (adC ad A1 n1 c1) 38);have hB2:=tQ hB1 hD;have hkA2:=(hkA.below hb1).below hD;have hkR2:=(hkR.below hb1).below hD;have hkD2:=Bk.new w1 38 (adC ad A1 n1 c1);have x0:=hkA2.cell 0;have x1:=hkA2.cell 1;have r0:=hkR2.cell 0;have r1:=hkR2.cell 1;have d1:=hkD2.cell 1;simp only[gs3] at x0 x1 r0 r1 d1;have of:=fun i=>hkR2.frozen i)|(go_at_call 38;(with_reducible refine(HF.out _ hB2).mono ?_);rintro e w3 ⟨hb3,A3,c3,rfl,hT3⟩;have hB3:=tQ hB2 hb3;have hkA3:=hkA2.below hb3;have hkR3:=hkR2.below hb3;have hkD3:=hkD2.below hb3;clear x0 x1 r0 r1 d1 of;have x0:=hkA3.cell 0;have x1:=hkA3.cell 1;have r0:=hkR3.cell 0;have r1:=hkR3.cell 1;have d1:=hkD3.cell 1;simp only[gs3] at x0 x1 r0 r1 d1;have of:=fun i=>hkR3.frozen i)|(go_at_call 39;(with_reducible refine(HC.out _ _ hB3 d1).mono ?_);rintro e w4 ⟨rfl,hb4⟩;have hB4:=tQ hB3 hb4;have hkA4:=hkA3.below hb4;have hkR4:=hkR3.below hb4;have hkD4:=hkD3.below hb4;clear x0 x1 r0 r1 d1 of;have x0:=hkA4.cell 0;have x1:=hkA4.cell 1;have r0:=hkR4.cell 0;have r1:=hkR4.cell 1;have d1:=hkD4.cell 1;simp only[gs3] at x0 x1 r0 r1 d1;have of:=fun i=>hkR4.frozen i)|(go_at_call 41;(with_reducible refine(HT.out _ _ (hT3.below hb4)).mono ?_);rintro e w5 ⟨rfl,hb5⟩;have hB5:=tQ hB4 hb5;have hkA5:=hkA4.below hb5;have hkR5:=hkR4.below hb5;have hkD5:=hkD4.below hb5;clear x0 x1 r0 r1 d1 of;have x0:=hkA5.cell 0;have x1:=hkA5.cell 1;have r0:=hkR5.cell 0;have r1:=hkR5.cell 1;have d1:=hkD5.cell 1;simp only[gs3] at x0 x1 r0 r1 d1;have of:=fun i=>hkR5.frozen i))
       have hsz1:=hb1.size
       rw[World.size_alloc,World.size_alloc] at hsz1
       go_region_held3 (fun w'=>w'.cell? ⟨w1.heap.size,1,none⟩=some (.string ⟨ad.name.toArray⟩)∧w'.cell? ⟨w.heap.size,1,none⟩=some (.slice Av vals.length cv)) (first|exact⟨d1,x1⟩|exact⟨y0,y1⟩|(refine⟨?_,?_⟩<;>(first|exact z2s_ (z2s_ y0 (by omega)) (by omega)|exact z2s_ (z2s_ y1 (by omega)) (by omega)))) (first|(go_at_call 27;(with_reducible refine(HK.out _ hB5.drew).mono ?_);rintro e w6 ⟨A6,c6,rfl,hO6,hb6⟩;have hB6:=tQ hB5.drew hb6;have hkA6:=(hkA5.below (bR w5.heap.size w5).drew).below hb6;have hkR6:=(hkR5.below (bR w5.heap.size w5).drew).below hb6;have hkD6:=(hkD5.below (bR w5.heap.size w5).drew).below hb6;have y1:=hkA6.cell 1;have y0:=hkD6.cell 1;have r06:=hkR6.cell 0;have r16:=hkR6.cell 1;simp only[gs3] at y1 y0 r06 r16;have of6:=fun i=>hkR6.frozen i)|fail)
       all_goals
        go_wp2_with fail
        have hz:=ji_ _ _ (.string ⟨ad.name.toArray⟩) (.slice A6 vals.length c6) hkR6
        have hgr:=z5p_ w6 (w.heap.size+1) (.string ⟨ad.name.toArray⟩) (.slice A6 vals.length c6)
        exact jf_ hz rfl rfl ⟨zx_ hB6 (by omega) _ _,_,_,_,_,_,rfl,rfl,rfl,rfl,(hO6.lower hB5.drew.size).keep2 hgr (hO6.apart hkR6 (by decide))⟩
theorem zr5_ (s:Nat) (ps:List Nat) (L:List DefS) (hL:Sound L) (a:Ent.AttrE) (va:Value) (had:List Ent.AttrE) (vh:Value) (w:World) (hw:Env w) (hS:SchAt w s ps L) (hta:TextsA w va a.vals) (hh:AttrsA w vh had) (h1:a.typ.length≤140737488351232) (h2:a.vals.length≤4611686018427387904) (h5:200<a.vals.length):
  Calls Tryz.prog 18 #[.pointer (some ⟨s,0,none⟩),.agg #[.string ⟨a.typ.toArray⟩,va],vh] w (y8_ w (Ent.attrE (zo_ L) a had)):=by
 obtain⟨R,hR⟩:∃ R,Ent.attrE (zo_ L) a had=R:=⟨_,rfl⟩
 rw[hR]
 have HA:Hid (∀ (W:World),Bel w W→Calls Tryz.prog 11 #[.pointer (some ⟨s,0,none⟩),.string ⟨a.typ.toArray⟩] W fun e w'=>Bel W w'∧∃ A n c,e= .returned (.tuple #[zu_ (zt_ L a.typ) (.slice A n c),.int .i64 (qq_ L a.typ)])):=hiD fun W h=>x7_ s ps L hL a.typ W (hS.below h) h1
 have hcs:=z42_ L a.typ
 have hn:=@z68_ L a had
 have hs:=@z5c_ L a had
 rw[hR] at hn hs
 obtain⟨typ,vals⟩:=a
 simp only at *
 obtain⟨Av,cv,rfl,hcv,_⟩:=hta.at
 obtain⟨Ah,ch,rfl,hch⟩:=hh.isSlice
 unfold zu_ z0_ at HA
 generalize zt_ L typ=ad at *
 generalize qq_ L typ=ac at *
 have hbA:=qa_ w (.cells #[.string ⟨typ.toArray⟩,.slice Av vals.length cv] 43)
 have hkA0:=Bk.new w 43 #[.string ⟨typ.toArray⟩,.slice Av vals.length cv]
 have hb0:=hbA.alloc hbA.size (.cells #[.string ⟨#[]⟩,.slice none 0 0] 43)
 have hkA:=hkA0.alloc (.cells #[.string ⟨#[]⟩,.slice none 0 0] 43)
 have hkR:=Bk.new (w.alloc (.cells #[.string ⟨typ.toArray⟩,.slice Av vals.length cv] 43)) 43 #[.string ⟨#[]⟩,.slice none 0 0]
 rw[World.size_alloc] at hkR
 have a0:=hkA.cell 0
 simp only[gs3] at a0
 clear hbA hkA0 hS hL hw
 rcases hcs with ⟨hx,rfl⟩|⟨rfl,d,hx,hd⟩
 ·have hR1:=hn hx
  subst hR1
  clear hn hs hx hR hta hh
  go_enter Tryz.func18,Tryz.ntmps18
  go_wp2_with (go_at_call 11;(with_reducible refine(HA.out _ hb0).mono ?_);rintro e w1 ⟨hb1,A1,n1,c1,rfl⟩;have hB1:=tQ hb0 hb1;have hD:=qa_ w1 (.cells (adC ad A1 n1 c1) 38);have hB2:=tQ hB1 hD;have hkR2:=(hkR.below hb1).below hD;have r0:=hkR2.cell 0;have r1:=hkR2.cell 1;simp only[gs3] at r0 r1;have of:=fun i=>hkR2.frozen i)
  have hz:=ji_ _ _ (.string ⟨#[]⟩) (.slice none 0 0) hkR2
  exact jf_ hz rfl rfl ⟨zx_ hB2 (by omega) _ _,_,_,_,_,_,rfl,rfl,by decide⟩
 ·have hR1:=hs hx
  subst hd
  generalize (had.any fun b=>b.typ==ad.name)=bh at *
  have h0:¬ vals.length=0:=by omega
  have hne:vals.isEmpty=false:=by cases vals with
   |nil=>exact absurd rfl h0
   |cons a b=>rfl
  rw[hne] at hR1
  simp only[Bool.false_eq_true,if_false] at hR1
  have hR2:R= .inl 19:=by rw[hR1,if_pos h5]
  subst hR2
  clear hn hs hx hR1 hR hta hh
  go_enter Tryz.func18,Tryz.ntmps18
  go_wp2_with (go_at_call 11;(with_reducible refine(HA.out _ hb0).mono ?_);rintro e w1 ⟨hb1,A1,n1,c1,rfl⟩;have hB1:=tQ hb0 hb1;have hD:=qa_ w1 (.cells (adC ad A1 n1 c1) 38);have hB2:=tQ hB1 hD;have hkA2:=(hkA.below hb1).below hD;have hkR2:=(hkR.below hb1).below hD;have hkD2:=Bk.new w1 38 (adC ad A1 n1 c1);have x0:=hkA2.cell 0;have x1:=hkA2.cell 1;have r0:=hkR2.cell 0;have r1:=hkR2.cell 1;have d1:=hkD2.cell 1;simp only[gs3] at x0 x1 r0 r1 d1;have of:=fun i=>hkR2.frozen i)
  have hz:=ji_ _ _ (.string ⟨#[]⟩) (.slice none 0 0) hkR2
  exact jf_ hz rfl rfl ⟨zx_ hB2 (by omega) _ _,_,_,_,_,_,rfl,rfl,by decide⟩
theorem zmf_ (s:Nat) (ps:List Nat) (L:List DefS) (hL:Sound L) (a:Ent.AttrE) (va:Value) (had:List Ent.AttrE) (vh:Value) (w:World) (hw:Env w) (hS:SchAt w s ps L) (hta:TextsA w va a.vals) (hh:AttrsA w vh had) (h1:a.typ.length≤140737488351232) (h2:a.vals.length≤4611686018427387904) (h3:had.length≤1000000):
  Calls Tryz.prog 18 #[.pointer (some ⟨s,0,none⟩),.agg #[.string ⟨a.typ.toArray⟩,va],vh] w (y8_ w (Ent.attrE (zo_ L) a had)):=by
 by_cases h5:200<a.vals.length
 ·exact zr5_ s ps L hL a va had vh w hw hS hta hh h1 h2 h5
 ·exact zpw_ s ps L hL a va had vh w hw hS hta hh h1 (by omega) h3
end Go.Proofs.YtbekpphodbekiaaGreatDoor
