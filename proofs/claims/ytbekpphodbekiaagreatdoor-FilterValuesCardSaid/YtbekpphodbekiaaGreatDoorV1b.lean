import Derived.Test.YtbekpphodbekiaaGreatDoorV1a
set_option linter.all false
set_option maxHeartbeats 8000000
set_option maxRecDepth 100000
namespace Go.Proofs.YtbekpphodbekiaaGreatDoor
open Go.RowKit
def z91_:List PanicEntry:=[{v:= .iface 39 (.int .i64 60),recovered:=true}]
theorem z1m_ (g h:Nat) (w:World) (v1 v2:Value) (hc1:w.cell? ⟨g,0,none⟩=some v1) (hc2:w.cell? ⟨h,0,none⟩=some v2) (hz1:w.frozen? ⟨g,0,none⟩=false) (hz2:w.frozen? ⟨h,0,none⟩=false) (hne:g≠h):
  CallsD Tryz.prog 24 #[.pointer (some ⟨g,0,none⟩),.pointer (some ⟨h,0,none⟩)] (.panicking qk_) w fun e u' w'=>
   e= .returned (.tuple #[])∧u'= .panicking z91_∧w'=(w.setCell ⟨g,0,none⟩ (.slice none 0 0)).setCell ⟨h,0,none⟩ (.int .i64 60):=by
 refine callsD_of_wpS Tryz.func24 rfl fun c₀ cs hu=>?_
 apply wpS_seq
 apply wpS_region
 simp [wpOpsS,go_sem,recoverD,hu,qk_,Tryz.ntmps24,Exit.thenS]
 refine wpS_of_wp ?_
 have hrep:(Array.replicate 15 undef:Array Value)=#[undef,undef,undef,undef,undef,undef,undef,undef,undef,undef,undef,undef,undef,undef,undef]:=rfl
 simp only[hrep,List.setIfInBounds_toArray,List.append_toArray,List.cons_append,List.nil_append,List.set_cons_zero,List.set_cons_succ]
 have hta:∀ W:World,(Instr.typeAssert (.iface 39 (.int .i64 60)) 20 39 true).run Tryz.prog W= .ok (.tuple #[.int .i64 60,.bool true]) W:=fun W=>by kernel_rfl
 have hc3:(w.setCell ⟨g,0,none⟩ (.slice none 0 0)).cell? ⟨h,0,none⟩=some v2:=by rw[show (w.setCell ⟨g,0,none⟩ (.slice none 0 0)).cell? ⟨h,0,none⟩=w.cell? ⟨h,0,none⟩ from World.cell?_of_block (Below.heap_setCell _ _ _ _ (Ne.symm hne))];exact hc2
 have hz3:(w.setCell ⟨g,0,none⟩ (.slice none 0 0)).frozen? ⟨h,0,none⟩=false:=(World.frozen?_setCell _ _ _ _).trans hz2
 go_wp2_with fail
 simp [bodyPostS,results,Tryz.results24,z91_]
theorem kt_ (g h:Nat) (w:World):
  CallsD Tryz.prog 24 #[.pointer (some ⟨g,0,none⟩),.pointer (some ⟨h,0,none⟩)] .returning w fun e u' w'=>e= .returned (.tuple #[])∧u'= .returning∧w'=w:=by
 refine callsD_of_wpS Tryz.func24 rfl fun c₀ cs hu=>?_
 apply wpS_seq
 apply wpS_region
 simp [wpOpsS,go_sem,recoverD,hu,Tryz.ntmps24,Exit.thenS]
 refine wpS_of_wp ?_
 have hrep:(Array.replicate 15 undef:Array Value)=#[undef,undef,undef,undef,undef,undef,undef,undef,undef,undef,undef,undef,undef,undef,undef]:=rfl
 simp only[hrep,List.setIfInBounds_toArray,List.append_toArray,List.cons_append,List.nil_append,List.set_cons_zero,List.set_cons_succ]
 go_wp2_with fail
 cases c₀
 simp_all [bodyPostS,results,Tryz.results24]
def zav_ (w:World) (r:List Fil.FilE × Int) (e:Ending) (w':World):Prop:=
 Bel w w'∧∃ v,e= .returned (.tuple #[v,.int .i64 r.2])∧FilsA w' v r.1
theorem FilsA.nil (w:World):FilsA w (.slice none 0 0) []:=⟨[],rfl,⟨none,0,rfl,nR _,fun j hj=>absurd hj (by simp)⟩,fun q hq=>by cases hq⟩
theorem yt_ {w W:World} {tmps:Array Value} {g h:Nat} {v:Value} {x:Int} {d:List Fil.FilE} (hb:Bel w W)
  (c1:W.cell? ⟨g,0,none⟩=some v) (c2:W.cell? ⟨h,0,none⟩=some (.int .i64 x)) (t2:tmps[2]?=some (.pointer (some ⟨g,0,none⟩))) (t3:tmps[3]?=some (.pointer (some ⟨h,0,none⟩)))
  (hd:FilsA W v d):Leaves Tryz.prog Tryz.f13 tmps (zav_ w (d,x)) [] .returning W:=by
 have e2:tmps[2]?.getD undef= .pointer (some ⟨g,0,none⟩):=by rw[t2];rfl
 have e3:tmps[3]?.getD undef= .pointer (some ⟨h,0,none⟩):=by rw[t3];rfl
 refine⟨.tuple #[v,.int .i64 x],?_,hb,v,rfl,hd⟩
 simp [results,Tryz.results13,go_sem,e2,e3,c1,c2]
theorem RdF.fils {N p:Nat} {w:World} {s:LU} {v:Value} {qs:List qd_} (h:RdF N p w s v qs):FilsA w v (qs.map (·.1)):=⟨qs,rfl,h.own.reads,h.any.ok⟩
theorem zcy_ {N p g:Nat} {w:World} {s:LU} {v u:Value} {qs:List qd_} {t:TypeId} {cs:Array Value} (h:RdF N p w s v qs) (hg:g<p) (hk:Bk w g t cs) (ht:t≠9):RdF N p (w.setCell ⟨g,0,none⟩ u) s v qs:=by
 have hgr:=z7_ w g 0 u
 exact⟨h.at_.grown hgr (fun e=>by cases e;omega),h.own.keep2 hgr (fun k hk2 e=>by have:=(h.own.lt k hk2).1;cases e;omega),h.any.far hk ht hgr,h.lim⟩
theorem zkk_ (s:LU) (w:World) (hw:Env w):
  Calls Tryz.prog 13 #[.string ⟨s.toArray⟩] w (zav_ w (Fil.parseF s)):=by
 have hmf:=z4b_
 by_cases hlen:65536<s.length
 ·have hR:Fil.parseF s=([],2):=by unfold Fil.parseF;rw[if_pos hlen]
  rw[hR]
  clear hR
  have hli:(s.length:Int)>65536:=by omega
  go_enter_defers Tryz.func13,Tryz.ntmps13
  go_wp2_with fail
  have hb:Bel w ((w.alloc (.cells #[.slice none 0 0] 23)).alloc (.cells #[.int .i64 2] 39)):=
   ((bR _ _).alloc (nR _) _).alloc (by simp) _
  refine yt_ (g:=w.heap.size) (h:=w.heap.size+1) (v:= .slice none 0 0) hb ?_ ?_ rfl rfl ?_
  ·simp [go_sem]
  ·simp [go_sem]
  ·exact FilsA.nil _
 ·have hb:Bel w (((w.alloc (.cells #[.slice none 0 0] 23)).alloc (.cells #[.int .i64 0] 39)).alloc (.cells #[.string ⟨s.toArray⟩,.slice none 0 0] 73)):=
   (((bR _ _).alloc (nR _) _).alloc (by simp) _).alloc (by simp;omega) _
  have hz:(zeroValue 73).run Tryz.prog ((w.alloc (.cells #[.slice none 0 0] 23)).alloc (.cells #[.int .i64 0] 39))= .ok (.agg #[.string ⟨#[]⟩,.slice none 0 0]) ((w.alloc (.cells #[.slice none 0 0] 23)).alloc (.cells #[.int .i64 0] 39)):=by kernel_rfl
  have k1:Bk (((w.alloc (.cells #[.slice none 0 0] 23)).alloc (.cells #[.int .i64 0] 39)).alloc (.cells #[.string ⟨s.toArray⟩,.slice none 0 0] 73)) w.heap.size 23 #[.slice none 0 0]:=((Bk.new w _ _).alloc _).alloc _
  have k2:Bk (((w.alloc (.cells #[.slice none 0 0] 23)).alloc (.cells #[.int .i64 0] 39)).alloc (.cells #[.string ⟨s.toArray⟩,.slice none 0 0] 73)) (w.heap.size+1) 39 #[.int .i64 0]:=by
   have:=Bk.new (w.alloc (.cells #[.slice none 0 0] 23)) 39 #[.int .i64 0]
   rw[show (w.alloc (.cells #[.slice none 0 0] 23)).heap.size=w.heap.size+1 by simp] at this
   exact this.alloc _
  have k3:Bk (((w.alloc (.cells #[.slice none 0 0] 23)).alloc (.cells #[.int .i64 0] 39)).alloc (.cells #[.string ⟨s.toArray⟩,.slice none 0 0] 73)) (w.heap.size+1+1) 73 #[.string ⟨s.toArray⟩,.slice none 0 0]:=by
   have:=Bk.new ((w.alloc (.cells #[.slice none 0 0] 23)).alloc (.cells #[.int .i64 0] 39)) 73 #[.string ⟨s.toArray⟩,.slice none 0 0]
   rw[show ((w.alloc (.cells #[.slice none 0 0] 23)).alloc (.cells #[.int .i64 0] 39)).heap.size=w.heap.size+1+1 by simp] at this
   exact this
  have hsz:(((w.alloc (.cells #[.slice none 0 0] 23)).alloc (.cells #[.int .i64 0] 39)).alloc (.cells #[.string ⟨s.toArray⟩,.slice none 0 0] 73)).heap.size=w.heap.size+3:=by simp
  have hli:¬ (s.length:Int)>65536:=by omega
  go_enter_defers Tryz.func13,Tryz.ntmps13
  generalize hW:(((w.alloc (.cells #[.slice none 0 0] 23)).alloc (.cells #[.int .i64 0] 39)).alloc (.cells #[.string ⟨s.toArray⟩,.slice none 0 0] 73))=W at hb k1 k2 k3 hsz
  have hRd:RdF W.heap.size (w.heap.size+1+1) W s (.slice none 0 0) []:=⟨k3,OwnFl.nil (by omega),FQT.nil _,fun q hq=>by cases hq⟩
  have hN:=zaa_ (w.heap.size+1+1) 20 (nR _) _ s _ _ W hRd (by omega)
  rw[show (20:Int) - ((20:Nat):Int)=0 from rfl] at hN
  simp only[List.length_nil] at hN
  rcases hn:Fil.filF 20 0 s with _|⟨l,r⟩
  ·have hR:Fil.parseF s=([],60):=by unfold Fil.parseF;rw[if_neg hlen,hn]
   rw[hn] at hN
   rw[hR]
   clear hR hn
   go_wp2_with (go_at_call 25;rw[hW])
   refine hN.mono ?_
   rintro e w1 ⟨h1,rfl⟩
   show Leaves _ _ _ _ _ _ _
   refine leaves_cons (u:= .panicking qk_) (fv:= .func 24) (cap:=#[.pointer (some ⟨w.heap.size,0,none⟩),.pointer (some ⟨w.heap.size+1,0,none⟩)]) (dargs:=#[]) (f:=24) (args:=#[.pointer (some ⟨w.heap.size,0,none⟩),.pointer (some ⟨w.heap.size+1,0,none⟩)]) (by simp) (by simp [go_sem]) ?_
   have j1:Bk w1 w.heap.size 23 #[.slice none 0 0]:=(h1.block _ (by omega)).trans k1
   have j2:Bk w1 (w.heap.size+1) 39 #[.int .i64 0]:=(h1.block _ (by omega)).trans k2
   refine(z1m_ w.heap.size (w.heap.size+1) w1 _ _ (j1.cell 0) (j2.cell 0) (j1.frozen 0) (j2.frozen 0) (by omega)).mono ?_
   rintro e u' w'' ⟨rfl,rfl,rfl⟩
   have b1:Bel w w1:=hb.trans (h1.mono (by omega))
   have b2:Bel w ((w1.setCell ⟨w.heap.size,0,none⟩ (.slice none 0 0)).setCell ⟨w.heap.size+1,0,none⟩ (.int .i64 60)):=(b1.setCell (nR _) _).setCell (by simp) _
   have l1:=(j1.set 0 (.slice none 0 0)).far (g':=w.heap.size+1) (i:=0) (by omega) (.int .i64 60)
   have l2:=(j2.far (g':=w.heap.size) (i:=0) (by omega) (.slice none 0 0)).set 0 (.int .i64 60)
   exact yt_ b2 (l1.cell 0) (l2.cell 0) rfl rfl (FilsA.nil _)
  ·have hwg:=Fil.fil_wgt _ _ _ _ _ hn
   have hfit:=Fil.fil_fit hn (by omega)
   rw[hn] at hN
   rcases r with _|⟨x,r⟩
   ·cases hv:Fil.validF l with
    |false=>
     have hR:Fil.parseF s=([],60):=by unfold Fil.parseF;rw[if_neg hlen,hn];simp [hv]
     rw[hR]
     clear hR hn
     go_wp2_with (go_at_call 25;rw[hW])
     refine hN.mono ?_
     rintro e w1 ⟨h1,rfl,v',ys,hys,hR1⟩
     rw[List.nil_append] at hR1
     subst hys
     have b1:Bel w w1:=hb.trans (h1.mono (by omega))
     have j1:Bk w1 w.heap.size 23 #[.slice none 0 0]:=(h1.block _ (by omega)).trans k1
     have j2:Bk w1 (w.heap.size+1) 39 #[.int .i64 0]:=(h1.block _ (by omega)).trans k2
     have hV:=z04_ _ v' w1 (hw.keep b1) hR1.fils (by omega) hfit
     rw[hv] at hV
     obtain⟨A,c,rfl,hc⟩:=hR1.own.isSlice
     obtain⟨q0,q1,_,_⟩:=hR1.cells
     have HV:=hiD hV
     clear hV
     go_wp2_with (go_at_call 5;refine HV.out.mono ?_;rintro e w2 ⟨rfl,hb2⟩;have i1:=j1.below hb2;have i2:=j2.below hb2;have f1:=i1.frozen 0;have f2:=i2.frozen 0;have f3:=(i2.far (g':=w.heap.size) (i:=0) (by omega) (.slice none 0 0)).frozen 0;have d1:=i1.cell 0;have d2:=i2.cell 0;have d3:=(i2.far (g':=w.heap.size) (i:=0) (by omega) (.slice none 0 0)).cell 0;have q2:=cQ hb2 q1)
     refine leaves_cons (u:= .returning) (fv:= .func 24) (cap:=#[.pointer (some ⟨w.heap.size,0,none⟩),.pointer (some ⟨w.heap.size+1,0,none⟩)]) (dargs:=#[]) (f:=24) (args:=#[.pointer (some ⟨w.heap.size,0,none⟩),.pointer (some ⟨w.heap.size+1,0,none⟩)]) (by simp) (by simp [go_sem]) ?_
     refine(kt_ w.heap.size (w.heap.size+1) _).mono ?_
     rintro e u' w'' ⟨rfl,rfl,rfl⟩
     have b2:Bel w w2:=tQ b1 hb2
     have b3:Bel w ((w2.setCell ⟨w.heap.size,0,none⟩ (.slice none 0 0)).setCell ⟨w.heap.size+1,0,none⟩ (.int .i64 60)):=(b2.setCell (nR _) _).setCell (by simp) _
     have l1:=(i1.set 0 (.slice none 0 0)).far (g':=w.heap.size+1) (i:=0) (by omega) (.int .i64 60)
     have l2:=(i2.far (g':=w.heap.size) (i:=0) (by omega) (.slice none 0 0)).set 0 (.int .i64 60)
     exact yt_ b3 (l1.cell 0) (l2.cell 0) rfl rfl (FilsA.nil _)
    |true=>
     have hR:Fil.parseF s=(l,0):=by unfold Fil.parseF;rw[if_neg hlen,hn];simp [hv]
     rw[hR]
     clear hR hn
     go_wp2_with (go_at_call 25;rw[hW])
     refine hN.mono ?_
     rintro e w1 ⟨h1,rfl,v',ys,hys,hR1⟩
     rw[List.nil_append] at hR1
     subst hys
     have b1:Bel w w1:=hb.trans (h1.mono (by omega))
     have j1:Bk w1 w.heap.size 23 #[.slice none 0 0]:=(h1.block _ (by omega)).trans k1
     have j2:Bk w1 (w.heap.size+1) 39 #[.int .i64 0]:=(h1.block _ (by omega)).trans k2
     have hV:=z04_ _ v' w1 (hw.keep b1) hR1.fils (by omega) hfit
     rw[hv] at hV
     obtain⟨A,c,rfl,hc⟩:=hR1.own.isSlice
     obtain⟨q0,q1,_,_⟩:=hR1.cells
     have HV:=hiD hV
     clear hV
     go_wp2_with (go_at_call 5;refine HV.out.mono ?_;rintro e w2 ⟨rfl,hb2⟩;have i1:=j1.below hb2;have i2:=j2.below hb2;have f1:=i1.frozen 0;have f2:=i2.frozen 0;have f3:=(i2.far (g':=w.heap.size) (i:=0) (by omega) (.slice A ys.length c)).frozen 0;have d1:=i1.cell 0;have d2:=i2.cell 0;have d3:=(i2.far (g':=w.heap.size) (i:=0) (by omega) (.slice A ys.length c)).cell 0;have q2:=cQ hb2 q1)
     refine leaves_cons (u:= .returning) (fv:= .func 24) (cap:=#[.pointer (some ⟨w.heap.size,0,none⟩),.pointer (some ⟨w.heap.size+1,0,none⟩)]) (dargs:=#[]) (f:=24) (args:=#[.pointer (some ⟨w.heap.size,0,none⟩),.pointer (some ⟨w.heap.size+1,0,none⟩)]) (by simp) (by simp [go_sem]) ?_
     refine(kt_ w.heap.size (w.heap.size+1) _).mono ?_
     rintro e u' w'' ⟨rfl,rfl,rfl⟩
     have b2:Bel w w2:=tQ b1 hb2
     have b3:Bel w ((w2.setCell ⟨w.heap.size,0,none⟩ (.slice A ys.length c)).setCell ⟨w.heap.size+1,0,none⟩ (.int .i64 0)):=(b2.setCell (nR _) _).setCell (by simp) _
     have l1:=(i1.set 0 (.slice A ys.length c)).far (g':=w.heap.size+1) (i:=0) (by omega) (.int .i64 0)
     have l2:=(i2.far (g':=w.heap.size) (i:=0) (by omega) (.slice A ys.length c)).set 0 (.int .i64 0)
     have m1:=zcy_ (u:=(.slice A ys.length c)) (hR1.below hb2) (by omega:w.heap.size<w.heap.size+1+1) i1 (by decide)
     have m2:=zcy_ (u:= .int .i64 0) m1 (by omega:w.heap.size+1<w.heap.size+1+1) (i2.far (g':=w.heap.size) (i:=0) (by omega) (.slice A ys.length c)) (by decide)
     exact yt_ b3 (l1.cell 0) (l2.cell 0) rfl rfl m2.fils
   ·skip
    have hR:Fil.parseF s=([],60):=by unfold Fil.parseF;rw[if_neg hlen,hn];simp
    rw[hR]
    clear hR hn
    go_wp2_with (go_at_call 25;rw[hW])
    refine hN.mono ?_
    rintro e w1 ⟨h1,rfl,v',ys,hys,hR1⟩
    rw[List.nil_append] at hR1
    subst hys
    have b1:Bel w w1:=hb.trans (h1.mono (by omega))
    have j1:Bk w1 w.heap.size 23 #[.slice none 0 0]:=(h1.block _ (by omega)).trans k1
    have j2:Bk w1 (w.heap.size+1) 39 #[.int .i64 0]:=(h1.block _ (by omega)).trans k2
    have hV:=z04_ _ v' w1 (hw.keep b1) hR1.fils (by omega) hfit
    obtain⟨A,c,rfl,hc⟩:=hR1.own.isSlice
    obtain⟨q0,q1,_,_⟩:=hR1.cells
    have i1:=j1;have i2:=j2;have f1:=i1.frozen 0;have f2:=i2.frozen 0;have f3:=(i2.far (g':=w.heap.size) (i:=0) (by omega) (.slice none 0 0)).frozen 0;have d1:=i1.cell 0;have d2:=i2.cell 0;have d3:=(i2.far (g':=w.heap.size) (i:=0) (by omega) (.slice none 0 0)).cell 0
    clear hV
    go_wp2_with fail
    refine leaves_cons (u:= .returning) (fv:= .func 24) (cap:=#[.pointer (some ⟨w.heap.size,0,none⟩),.pointer (some ⟨w.heap.size+1,0,none⟩)]) (dargs:=#[]) (f:=24) (args:=#[.pointer (some ⟨w.heap.size,0,none⟩),.pointer (some ⟨w.heap.size+1,0,none⟩)]) (by simp) (by simp [go_sem]) ?_
    refine(kt_ w.heap.size (w.heap.size+1) _).mono ?_
    rintro e u' w'' ⟨rfl,rfl,rfl⟩
    have b2:=b1
    have b3:Bel w ((w1.setCell ⟨w.heap.size,0,none⟩ (.slice none 0 0)).setCell ⟨w.heap.size+1,0,none⟩ (.int .i64 60)):=(b2.setCell (nR _) _).setCell (by simp) _
    have l1:=(i1.set 0 (.slice none 0 0)).far (g':=w.heap.size+1) (i:=0) (by omega) (.int .i64 60)
    have l2:=(i2.far (g':=w.heap.size) (i:=0) (by omega) (.slice none 0 0)).set 0 (.int .i64 60)
    exact yt_ b3 (l1.cell 0) (l2.cell 0) rfl rfl (FilsA.nil _)
end Go.Proofs.YtbekpphodbekiaaGreatDoor
namespace Go.Proofs.YtbekpphodbekiaaGreatDoor.Fil
open Go.RowKit
def aliveT:LU:=[40,38,40,99,110,61,65,42,98,42,41,40,33,40,115,110,62,61,120,41,41,41]
def aliveF:List FilE:=[⟨0,2,[],[],[],[],[]⟩,⟨4,0,[99,110],[],[65],[],[[98]]⟩,⟨2,1,[],[],[],[],[]⟩,⟨5,0,[115,110],[120],[],[],[]⟩]
theorem alive_parse:parseF aliveT=(aliveF,0):=by decide+kernel
theorem alive_print:printF aliveF=(aliveT,0):=by decide+kernel
theorem alive_pres:validF [⟨7,0,[99,110],[],[],[],[]⟩]=true:=by decide+kernel
end Go.Proofs.YtbekpphodbekiaaGreatDoor.Fil
namespace Go.Proofs.YtbekpphodbekiaaGreatDoor
open Go.RowKit
theorem znt_ {W:World} {g:Nat} {p:Fil.FilE} (hp:p.any=[]) (h:Bk W g 45 (z5_ (p,.slice none 0 0)).toArray):FilsA W (.slice (some ⟨g,0,none⟩) 1 1) [p]:=by
 refine⟨[(p,.slice none 0 0)],rfl,⟨some ⟨g,0,none⟩,1,rfl,nR _,fun j hj=>?_⟩,fun q hq=>?_⟩
 ·obtain rfl:j=0:=by simpa using hj
  refine⟨g,0,rfl,fun k u hu=>?_⟩
  rw[show 0+0 * 7+k=k by omega,h.cell k]
  simpa using hu
 ·obtain rfl:=List.mem_singleton.1 hq
  rw[hp]
  exact .inl ⟨rfl,rfl⟩
theorem zig_ (s:Nat) (ps:List Nat) (L:List DefS) (hL:Sound L) (en:Ent.EntryE) (va:Value) (p:Fil.FilE) (hop:p.op=7) (v:Value) (w:World) (hw:Env w) (hf:FilsA w v [p]) (hS:SchAt w s ps L) (hv:AttrsA w va en.attrs) (hl:en.attrs.length≤1000) (hvn:yj_ en.attrs≤1000000) (hlt:∀ a∈en.attrs,a.typ.length≤1000000) (ht:Fil.wgt [p]≤1000000) (hn:z61_ [p]) (hc:qq_ L p.typ=0) (hval:Fil.validF [p]=true):
  Calls Tryz.prog 10 #[.pointer (some ⟨s,0,none⟩),.agg #[.string ⟨en.dn.toArray⟩,va],v] w fun e w'=>e= .returned (.int .i64 (xv_ (!(Ent.findE (zo_ L) en p.typ).isEmpty)))∧Bel w w':=by
 have htl:p.typ.length≤1000000:=by
  have:z09_ p≤Fil.wgt [p]:=by simp [Fil.wgt]
  have:=(zph_ p).2
  omega
 have hE:=fun (W:World) (h:Bel w W)=>zop_ s ps L hL en va p hop [] v W (hf.below h) (hS.below h) (hv.below h) hl hvn hlt htl hc
 have hV:=fun (W:World) (h:Bel w W)=>z04_ [p] v W (hw.keep h) (hf.below h) (by omega) hn
 rw[hval] at hV
 have hb1:=ze_ w (.cells #[.string ⟨en.dn.toArray⟩,va] 30)
 have k1:=Bk.new w 30 #[.string ⟨en.dn.toArray⟩,va]
 have x0:=k1.cell 0
 have x1:=k1.cell 1
 simp only[gs3] at x0 x1
 have HB1:=hiD hb1
 have HE:=hiD hE
 have HV:=hiD hV
 obtain⟨A,c,rfl,_⟩:=hv.at
 obtain⟨Af,cf,rfl,_⟩:=hf.isSlice
 generalize xv_ (!(Ent.findE (zo_ L) en p.typ).isEmpty)=r at *
 clear hE hV hf hS hv hlt hc hval hb1 k1
 unfold wkV z4_ at HE
 go_enter Tryz.func10,Tryz.ntmps10
 go_wp2_with (first
  |(go_at_call 5;(refine(HV.out _ (by exact HB1.out)).mono ?_);rintro e w2 ⟨rfl,hb2⟩;have HB2:=hiD (tQ HB1.out hb2);have y0:=cQ hb2 x0;have y1:=cQ hb2 x1)
  |(go_at_call 20;(refine(HE.out _ (by exact HB2.out)).mono ?_);rintro e w3 ⟨rfl,hb3⟩))
 go_ret
 exact⟨rfl,tQ HB2.out hb3⟩
theorem zeq_ {w:World}:AttrsA w (.slice none 0 0) []:=⟨[],rfl,⟨none,0,rfl,nR _,fun _=>rfl,fun j hj=>absurd hj (by simp)⟩,fun q hq=>by cases hq⟩
def cnF:LU:=[99,110]
theorem cn8_c:qq_ baseL cnF=0:=by decide+kernel
theorem zdk_ (w:World) (hw:Env w):Calls Tryz.prog 6 #[] w fun e w'=>e= .returned (.bool true)∧Bel w w':=by
 have HBs:=hiD (fun W=>zo1_ W)
 have HNw:Hid (∀ (va vb:Value) (W:World),Bel w W→Texts W va baseA→Texts W vb baseC→Calls Tryz.prog 16 #[va,vb] W fun e w'=>Bel W w'∧∃ s ps,e= .returned (.tuple #[.pointer (some ⟨s,0,none⟩),.int .i64 0,.int .i64 0])∧SchAt w' s ps baseL):=hiD fun va vb W h h1 h2=>by
  have:=New_c va vb baseA baseC W (hw.keep h) h1 h2 (by rw[zae_,z8p_];omega) (fun x hx=>nT (z1v_ x hx) (by decide))
  rw[z7d_] at this
  exact this
 have HPa:Hid (Calls Tryz.prog 13 #[.string ⟨#[40,38,40,99,110,61,65,42,98,42,41,40,33,40,115,110,62,61,120,41,41,41]⟩] w fun e w'=>Bel w w'∧∃ v,e= .returned (.tuple #[v,.int .i64 0])∧FilsA w' v Fil.aliveF):=hiD (by
  have:=zkk_ Fil.aliveT w hw
  rw[Fil.alive_parse] at this
  exact this)
 have HPr:Hid (∀ W v,Env W→FilsA W v Fil.aliveF→Calls Tryz.prog 14 #[v] W fun e w'=>e= .returned (.tuple #[.string ⟨#[40,38,40,99,110,61,65,42,98,42,41,40,33,40,115,110,62,61,120,41,41,41]⟩,.int .i64 0])∧Bel W w'):=hiD fun W v hW hv=>by
  have:=zm1_ Fil.aliveF v W hW hv (by decide) (by intro p hp;simp only[Fil.aliveF,List.mem_cons,List.not_mem_nil,or_false] at hp;rcases hp with rfl|rfl|rfl|rfl<;>decide)
  rw[Fil.alive_print] at this
  exact this
 have HEv:Hid (∀ (W:World) (s:Nat) (ps:List Nat) (v:Value),Env W→SchAt W s ps baseL→FilsA W v [⟨7,0,cnF,[],[],[],[]⟩]→Calls Tryz.prog 10 #[.pointer (some ⟨s,0,none⟩),.agg #[.string ⟨#[]⟩,.slice none 0 0],v] W fun e w'=>e= .returned (.int .i64 0)∧Bel W w'):=hiD fun W s ps v hW hS hv=>by
  have:=zig_ s ps baseL base_sound ⟨[],[]⟩ (.slice none 0 0) ⟨7,0,cnF,[],[],[],[]⟩ rfl v W hW hv hS zeq_ (by decide) (by decide) (by simp) (by decide) (by intro p hp;obtain rfl:=List.mem_singleton.1 hp;decide) cn8_c Fil.alive_pres
  exact this
 have HB:Hid (Bel w w):=hiD (bR _ _)
 go_enter Tryz.func6,Tryz.ntmps6
 go_wp2_with (first
  |(go_at_call 13;(with_reducible refine HPa.out.mono ?_);rintro e w1 ⟨hb,v1,rfl,hg1⟩;obtain⟨A1,c1,rfl,_⟩:=hg1.isSlice;have HG1:=hiD hg1;clear hg1;have HB:=hiD hb;clear hb)
  |(go_at_call 14;(refine(HPr.out _ _ (by exact hw.keep HB.out) (by exact HG1.out)).mono ?_);rintro e w2 ⟨rfl,hb⟩;have HB:=hiD (tQ HB.out hb))
  |(go_at_call 15;(refine(HBs.out _).mono ?_);rintro e w3 ⟨rfl,hb,hA1,hC1⟩;have HB:=hiD (tQ HB.out hb))
  |(go_at_call 16;(refine(HNw.out _ _ _ (by exact HB.out) hA1.texts hC1.texts).mono ?_);rintro e w4 ⟨hb,s,ps,rfl,hS⟩;have HB:=hiD (tQ HB.out hb);have hbx:=ze_ w4 (.cells (z5_ (⟨7,0,cnF,[],[],[],[]⟩,.slice none 0 0)).toArray 45);have HX:=hiD (znt_ rfl (Bk.new w4 45 (z5_ (⟨7,0,cnF,[],[],[],[]⟩,.slice none 0 0)).toArray));have HS:=hiD (hS.below hbx);have HB:=hiD (tQ HB.out hbx))
  |(go_at_call 10;(refine(HEv.out _ s ps _ (by exact hw.keep HB.out) (by exact HS.out) (by exact HX.out)).mono ?_);rintro e w5 ⟨rfl,hb⟩;have HB:=hiD (tQ HB.out hb)))
 go_ret
 exact⟨rfl,HB.out⟩
end Go.Proofs.YtbekpphodbekiaaGreatDoor
