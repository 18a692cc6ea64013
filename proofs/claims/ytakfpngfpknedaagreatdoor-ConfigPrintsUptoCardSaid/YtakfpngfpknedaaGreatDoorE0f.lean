import Derived.Test.YtakfpngfpknedaaGreatDoorE0e
set_option linter.all false
set_option maxHeartbeats 8000000
set_option maxRecDepth 100000
namespace Go.Proofs.YtakfpngfpknedaaGreatDoor
open Go.RowKit
def z7t_ (br bd:Nat) (e o s:Nat × Nat × Nat) (f1 f2:Nat):List (LU × Value):=[
 (ym_,fnV 183 #[z7_ br,z7_ bd]),(yk_,fnV 185 #[z7_ br]),
 (z6k_,fnV 186 #[z7_ br,z7_ bd]),
 (qz_,fnV 231 #[z7_ e.1,z7_ e.2.1,z7_ e.2.2]),(j1_,fnV 231 #[z7_ o.1,z7_ o.2.1,z7_ o.2.2]),(ye_,fnV 231 #[z7_ s.1,z7_ s.2.1,z7_ s.2.2]),
 (xm_,fnV 188 #[z7_ br,z7_ bd]),(q2_,fnV 234 #[z7_ f1]),(zh_,fnV 234 #[z7_ f2]),
 (kf_,fnV 191 #[z7_ br,z7_ bd])]
structure BoxRule (w:World) (B r p i:Nat) (k:Int) (b:Nat × Nat × Nat):Prop where
 cr:w.cell? ⟨b.1,0,none⟩=some (z7_ r)
 ct:w.cell? ⟨b.2.1,0,none⟩=some (.pointer (some ⟨p,i,none⟩))
 ck:w.cell? ⟨b.2.2,0,none⟩=some (.int .i64 k)
 le:B≤b.1∧B≤b.2.1∧B≤b.2.2
structure BoxA (w:World) (B r p br bd:Nat) (e o s:Nat × Nat × Nat) (f1 f2:Nat):Prop where
 cr:w.cell? ⟨br,0,none⟩=some (z7_ r)
 cd:w.cell? ⟨bd,0,none⟩=some (z7_ p)
 ce:BoxRule w B r p 7 0 e
 co:BoxRule w B r p 8 1 o
 cs:BoxRule w B r p 9 2 s
 c1:w.cell? ⟨f1,0,none⟩=some (.pointer (some ⟨p,10,none⟩))
 c2:w.cell? ⟨f2,0,none⟩=some (.pointer (some ⟨p,11,none⟩))
 le:B≤br∧B≤bd∧B≤f1∧B≤f2
def z2q_ (w:World) (r p:Nat) (e:Ending) (w':World):Prop:=∃ m es c br bd eb ob sb f1 f2,e= .returned (.map (some m))∧MapS w' m es c (z7t_ br bd eb ob sb f1 f2)∧BoxA w' w.heap.size r p br bd eb ob sb f1 f2∧Bel w w'
theorem zda_ (r p:Nat) (d:DefS) (w:World) (hd:DefAt w p d) (hc:d.cls=false):
  Calls Tryz.prog 115 #[z7_ p,z7_ r] w (z2q_ w r p):=by
 have hmf:=z2x_
 have hmm:=@run_makeMap Tryz.prog
 obtain⟨vn,vs,vm,vy,hB⟩:=hd.bk
 have hplt:=hB.lt
 have hm0:MapS (((w.alloc (.cells #[.pointer (some ⟨p,0,none⟩)] 118)).alloc (.cells #[.pointer (some ⟨r,0,none⟩)] 157)).alloc (.map #[] 0)) (w.heap.size+1+1) #[] 0 []:=by
  have:=MapS.made ((w.alloc (.cells #[.pointer (some ⟨p,0,none⟩)] 118)).alloc (.cells #[.pointer (some ⟨r,0,none⟩)] 157))
  simpa using this
 obtain⟨W1,es1,hu1,hm1,hg1⟩:=hm0.upd ym_ (fnV 183 #[z7_ (w.heap.size+1),z7_ w.heap.size]) rfl
 obtain⟨W2,es2,hu2,hm2,hg2⟩:=hm1.upd yk_ (fnV 185 #[z7_ (w.heap.size+1)]) rfl
 obtain⟨W3,es3,hu3,hm3,hg3⟩:=hm2.upd z6k_ (fnV 186 #[z7_ (w.heap.size+1),z7_ w.heap.size]) rfl
 have hg12:=gT hg1 hg2
 have hgg:=gT hg12 hg3
 have i1:=((Bk.new w 118 #[.pointer (some ⟨p,0,none⟩)]).alloc (.cells #[.pointer (some ⟨r,0,none⟩)] 157)).alloc (.map #[] 0)
 have jd2:=i1.grown hg12 (by simp;omega)
 have jd:=i1.grown hgg (by simp;omega)
 have i2:=Bk.new (w.alloc (.cells #[.pointer (some ⟨p,0,none⟩)] 118)) 157 #[.pointer (some ⟨r,0,none⟩)]
 rw[World.size_alloc] at i2
 have i2:=i2.alloc (.map #[] 0)
 have jr2:=i2.grown hg12 (by simp)
 have jr:=i2.grown hgg (by simp)
 have jp:=(((hB.alloc (.cells #[.pointer (some ⟨p,0,none⟩)] 118)).alloc (.cells #[.pointer (some ⟨r,0,none⟩)] 157)).alloc (.map #[] 0)).grown hg12 (by simp;omega)
 have k0:W2.cell? ⟨p,0,none⟩=some (.bool false):=by rw[jp.cell 0];simp [zn_,hc]
 have d2:W2.cell? ⟨w.heap.size,0,none⟩=some (.pointer (some ⟨p,0,none⟩)):=jd2.cell 0
 have r2:W2.cell? ⟨w.heap.size+1,0,none⟩=some (.pointer (some ⟨r,0,none⟩)):=jr2.cell 0
 have d3:W3.cell? ⟨w.heap.size,0,none⟩=some (.pointer (some ⟨p,0,none⟩)):=jd.cell 0
 have r3:W3.cell? ⟨w.heap.size+1,0,none⟩=some (.pointer (some ⟨r,0,none⟩)):=jr.cell 0
 have hbel:Bel w W3:=((((bR _ _).alloc (nR _) _).alloc (by simp) _).alloc (by simp;omega) _).grown hgg (by simp;omega) (by intro k hk;cases hk;omega)
 have hHl:w.heap.size+1+1<W3.heap.size:=hm3.lt
 have d3x:(((W3.alloc (.cells #[.pointer (some ⟨r,0,none⟩)] 157)).alloc (.cells #[.pointer (some ⟨p,7,none⟩)] 80)).alloc (.cells #[.int .i64 0] 3)).cell? ⟨w.heap.size,0,none⟩=some (.pointer (some ⟨p,0,none⟩)):=(((jd.alloc _).alloc _).alloc _).cell 0
 have r3x:(((W3.alloc (.cells #[.pointer (some ⟨r,0,none⟩)] 157)).alloc (.cells #[.pointer (some ⟨p,7,none⟩)] 80)).alloc (.cells #[.int .i64 0] 3)).cell? ⟨w.heap.size+1,0,none⟩=some (.pointer (some ⟨r,0,none⟩)):=(((jr.alloc _).alloc _).alloc _).cell 0
 have d3y:((((((W3.alloc (.cells #[.pointer (some ⟨r,0,none⟩)] 157)).alloc (.cells #[.pointer (some ⟨p,7,none⟩)] 80)).alloc (.cells #[.int .i64 0] 3)).alloc (.cells #[.pointer (some ⟨r,0,none⟩)] 157)).alloc (.cells #[.pointer (some ⟨p,8,none⟩)] 80)).alloc (.cells #[.int .i64 1] 3)).cell? ⟨w.heap.size,0,none⟩=some (.pointer (some ⟨p,0,none⟩)):=((((((jd.alloc _).alloc _).alloc _).alloc _).alloc _).alloc _).cell 0
 have r3y:((((((W3.alloc (.cells #[.pointer (some ⟨r,0,none⟩)] 157)).alloc (.cells #[.pointer (some ⟨p,7,none⟩)] 80)).alloc (.cells #[.int .i64 0] 3)).alloc (.cells #[.pointer (some ⟨r,0,none⟩)] 157)).alloc (.cells #[.pointer (some ⟨p,8,none⟩)] 80)).alloc (.cells #[.int .i64 1] 3)).cell? ⟨w.heap.size+1,0,none⟩=some (.pointer (some ⟨r,0,none⟩)):=((((((jr.alloc _).alloc _).alloc _).alloc _).alloc _).alloc _).cell 0
 have jdD:Bk (((((((((W3.alloc (.cells #[.pointer (some ⟨r,0,none⟩)] 157)).alloc (.cells #[.pointer (some ⟨p,7,none⟩)] 80)).alloc (.cells #[.int .i64 0] 3)).alloc (.cells #[.pointer (some ⟨r,0,none⟩)] 157)).alloc (.cells #[.pointer (some ⟨p,8,none⟩)] 80)).alloc (.cells #[.int .i64 1] 3)).alloc (.cells #[.pointer (some ⟨r,0,none⟩)] 157)).alloc (.cells #[.pointer (some ⟨p,9,none⟩)] 80)).alloc (.cells #[.int .i64 2] 3)).drew _ _ _:=(((((((((jd.alloc _).alloc _).alloc _).alloc _).alloc _).alloc _).alloc _).alloc _).alloc _)
 have jrD:Bk (((((((((W3.alloc (.cells #[.pointer (some ⟨r,0,none⟩)] 157)).alloc (.cells #[.pointer (some ⟨p,7,none⟩)] 80)).alloc (.cells #[.int .i64 0] 3)).alloc (.cells #[.pointer (some ⟨r,0,none⟩)] 157)).alloc (.cells #[.pointer (some ⟨p,8,none⟩)] 80)).alloc (.cells #[.int .i64 1] 3)).alloc (.cells #[.pointer (some ⟨r,0,none⟩)] 157)).alloc (.cells #[.pointer (some ⟨p,9,none⟩)] 80)).alloc (.cells #[.int .i64 2] 3)).drew _ _ _:=(((((((((jr.alloc _).alloc _).alloc _).alloc _).alloc _).alloc _).alloc _).alloc _).alloc _)
 have d3z:(((((((((W3.alloc (.cells #[.pointer (some ⟨r,0,none⟩)] 157)).alloc (.cells #[.pointer (some ⟨p,7,none⟩)] 80)).alloc (.cells #[.int .i64 0] 3)).alloc (.cells #[.pointer (some ⟨r,0,none⟩)] 157)).alloc (.cells #[.pointer (some ⟨p,8,none⟩)] 80)).alloc (.cells #[.int .i64 1] 3)).alloc (.cells #[.pointer (some ⟨r,0,none⟩)] 157)).alloc (.cells #[.pointer (some ⟨p,9,none⟩)] 80)).alloc (.cells #[.int .i64 2] 3)).drew.cell? ⟨w.heap.size,0,none⟩=some (.pointer (some ⟨p,0,none⟩)):=jdD.cell 0
 have r3z:(((((((((W3.alloc (.cells #[.pointer (some ⟨r,0,none⟩)] 157)).alloc (.cells #[.pointer (some ⟨p,7,none⟩)] 80)).alloc (.cells #[.int .i64 0] 3)).alloc (.cells #[.pointer (some ⟨r,0,none⟩)] 157)).alloc (.cells #[.pointer (some ⟨p,8,none⟩)] 80)).alloc (.cells #[.int .i64 1] 3)).alloc (.cells #[.pointer (some ⟨r,0,none⟩)] 157)).alloc (.cells #[.pointer (some ⟨p,9,none⟩)] 80)).alloc (.cells #[.int .i64 2] 3)).drew.cell? ⟨w.heap.size+1,0,none⟩=some (.pointer (some ⟨r,0,none⟩)):=jrD.cell 0
 have hmD:MapS (((((((((W3.alloc (.cells #[.pointer (some ⟨r,0,none⟩)] 157)).alloc (.cells #[.pointer (some ⟨p,7,none⟩)] 80)).alloc (.cells #[.int .i64 0] 3)).alloc (.cells #[.pointer (some ⟨r,0,none⟩)] 157)).alloc (.cells #[.pointer (some ⟨p,8,none⟩)] 80)).alloc (.cells #[.int .i64 1] 3)).alloc (.cells #[.pointer (some ⟨r,0,none⟩)] 157)).alloc (.cells #[.pointer (some ⟨p,9,none⟩)] 80)).alloc (.cells #[.int .i64 2] 3)).drew (w.heap.size+1+1) es3 3 (_:List (LU × Value)):=((((((((((hm3.alloc _).alloc _).alloc _).alloc _).alloc _).alloc _).alloc _).alloc _).alloc _)).keep rfl
 obtain⟨W4a,W4,es4,hu4a,hu4,hm4,hg4a,hg4⟩:=hmD.pair qz_ (fnV 231 #[z7_ (W3.heap.size),z7_ (W3.heap.size+1),z7_ (W3.heap.size+1+1)]) rfl
 obtain⟨W5a,W5,es5,hu5a,hu5,hm5,hg5a,hg5⟩:=hm4.pair j1_ (fnV 231 #[z7_ (W3.heap.size+1+1+1),z7_ (W3.heap.size+1+1+1+1),z7_ (W3.heap.size+1+1+1+1+1)]) rfl
 obtain⟨W6a,W6,es6,hu6a,hu6,hm6,hg6a,hg6⟩:=hm5.pair ye_ (fnV 231 #[z7_ (W3.heap.size+1+1+1+1+1+1),z7_ (W3.heap.size+1+1+1+1+1+1+1),z7_ (W3.heap.size+1+1+1+1+1+1+1+1)]) rfl
 have hg456:=gT (gT hg4 hg5) hg6
 have d4a:W4a.cell? ⟨w.heap.size,0,none⟩=some (.pointer (some ⟨p,0,none⟩)):=(jdD.grown hg4a (by simp;omega)).cell 0
 have r4a:W4a.cell? ⟨w.heap.size+1,0,none⟩=some (.pointer (some ⟨r,0,none⟩)):=(jrD.grown hg4a (by simp)).cell 0
 have jd4:=jdD.grown hg4 (by simp;omega)
 have jr4:=jrD.grown hg4 (by simp)
 have d4:W4.cell? ⟨w.heap.size,0,none⟩=some (.pointer (some ⟨p,0,none⟩)):=jd4.cell 0
 have r4:W4.cell? ⟨w.heap.size+1,0,none⟩=some (.pointer (some ⟨r,0,none⟩)):=jr4.cell 0
 have d5a:W5a.cell? ⟨w.heap.size,0,none⟩=some (.pointer (some ⟨p,0,none⟩)):=(jd4.grown hg5a (by simp;omega)).cell 0
 have r5a:W5a.cell? ⟨w.heap.size+1,0,none⟩=some (.pointer (some ⟨r,0,none⟩)):=(jr4.grown hg5a (by simp)).cell 0
 have jd5:=jd4.grown hg5 (by simp;omega)
 have jr5:=jr4.grown hg5 (by simp)
 have d5:W5.cell? ⟨w.heap.size,0,none⟩=some (.pointer (some ⟨p,0,none⟩)):=jd5.cell 0
 have r5:W5.cell? ⟨w.heap.size+1,0,none⟩=some (.pointer (some ⟨r,0,none⟩)):=jr5.cell 0
 have d6a:W6a.cell? ⟨w.heap.size,0,none⟩=some (.pointer (some ⟨p,0,none⟩)):=(jd5.grown hg6a (by simp;omega)).cell 0
 have r6a:W6a.cell? ⟨w.heap.size+1,0,none⟩=some (.pointer (some ⟨r,0,none⟩)):=(jr5.grown hg6a (by simp)).cell 0
 have jd6:=jd5.grown hg6 (by simp;omega)
 have jr6:=jr5.grown hg6 (by simp)
 have d6:W6.cell? ⟨w.heap.size,0,none⟩=some (.pointer (some ⟨p,0,none⟩)):=jd6.cell 0
 have r6:W6.cell? ⟨w.heap.size+1,0,none⟩=some (.pointer (some ⟨r,0,none⟩)):=jr6.cell 0
 obtain⟨W7,es7,hu7,hm7,hg7⟩:=hm6.upd xm_ (fnV 188 #[z7_ (w.heap.size+1),z7_ w.heap.size]) rfl
 have jd7:=jd6.grown hg7 (by simp;omega)
 have jr7:=jr6.grown hg7 (by simp)
 have d7:W7.cell? ⟨w.heap.size,0,none⟩=some (.pointer (some ⟨p,0,none⟩)):=jd7.cell 0
 have r7:W7.cell? ⟨w.heap.size+1,0,none⟩=some (.pointer (some ⟨r,0,none⟩)):=jr7.cell 0
 have hH7:w.heap.size+1+1<W7.heap.size:=hm7.lt
 have d7x:(W7.alloc (.cells #[.pointer (some ⟨p,10,none⟩)] 82)).cell? ⟨w.heap.size,0,none⟩=some (.pointer (some ⟨p,0,none⟩)):=(jd7.alloc _).cell 0
 have r7x:(W7.alloc (.cells #[.pointer (some ⟨p,10,none⟩)] 82)).cell? ⟨w.heap.size+1,0,none⟩=some (.pointer (some ⟨r,0,none⟩)):=(jr7.alloc _).cell 0
 have jdE:Bk ((W7.alloc (.cells #[.pointer (some ⟨p,10,none⟩)] 82)).alloc (.cells #[.pointer (some ⟨p,11,none⟩)] 82)).drew _ _ _:=((jd7.alloc _).alloc _)
 have jrE:Bk ((W7.alloc (.cells #[.pointer (some ⟨p,10,none⟩)] 82)).alloc (.cells #[.pointer (some ⟨p,11,none⟩)] 82)).drew _ _ _:=((jr7.alloc _).alloc _)
 have d7y:((W7.alloc (.cells #[.pointer (some ⟨p,10,none⟩)] 82)).alloc (.cells #[.pointer (some ⟨p,11,none⟩)] 82)).drew.cell? ⟨w.heap.size,0,none⟩=some (.pointer (some ⟨p,0,none⟩)):=jdE.cell 0
 have r7y:((W7.alloc (.cells #[.pointer (some ⟨p,10,none⟩)] 82)).alloc (.cells #[.pointer (some ⟨p,11,none⟩)] 82)).drew.cell? ⟨w.heap.size+1,0,none⟩=some (.pointer (some ⟨r,0,none⟩)):=jrE.cell 0
 have hmE:MapS ((W7.alloc (.cells #[.pointer (some ⟨p,10,none⟩)] 82)).alloc (.cells #[.pointer (some ⟨p,11,none⟩)] 82)).drew (w.heap.size+1+1) es7 7 (_:List (LU × Value)):=(((hm7.alloc _).alloc _)).keep rfl
 obtain⟨W8a,W8,es8,hu8a,hu8,hm8,hg8a,hg8⟩:=hmE.pair q2_ (fnV 234 #[z7_ W7.heap.size]) rfl
 obtain⟨W9a,W9,es9,hu9a,hu9,hm9,hg9a,hg9⟩:=hm8.pair zh_ (fnV 234 #[z7_ (W7.heap.size+1)]) rfl
 have d8a:W8a.cell? ⟨w.heap.size,0,none⟩=some (.pointer (some ⟨p,0,none⟩)):=(jdE.grown hg8a (by simp;omega)).cell 0
 have r8a:W8a.cell? ⟨w.heap.size+1,0,none⟩=some (.pointer (some ⟨r,0,none⟩)):=(jrE.grown hg8a (by simp)).cell 0
 have jd8:=jdE.grown hg8 (by simp;omega)
 have jr8:=jrE.grown hg8 (by simp)
 have d8:W8.cell? ⟨w.heap.size,0,none⟩=some (.pointer (some ⟨p,0,none⟩)):=jd8.cell 0
 have r8:W8.cell? ⟨w.heap.size+1,0,none⟩=some (.pointer (some ⟨r,0,none⟩)):=jr8.cell 0
 have d9a:W9a.cell? ⟨w.heap.size,0,none⟩=some (.pointer (some ⟨p,0,none⟩)):=(jd8.grown hg9a (by simp;omega)).cell 0
 have r9a:W9a.cell? ⟨w.heap.size+1,0,none⟩=some (.pointer (some ⟨r,0,none⟩)):=(jr8.grown hg9a (by simp)).cell 0
 have jd9:=jd8.grown hg9 (by simp;omega)
 have jr9:=jr8.grown hg9 (by simp)
 have d9:W9.cell? ⟨w.heap.size,0,none⟩=some (.pointer (some ⟨p,0,none⟩)):=jd9.cell 0
 have r9:W9.cell? ⟨w.heap.size+1,0,none⟩=some (.pointer (some ⟨r,0,none⟩)):=jr9.cell 0
 obtain⟨W10,es10,hu10,hm10,hg10⟩:=hm9.upd kf_ (fnV 191 #[z7_ (w.heap.size+1),z7_ w.heap.size]) rfl
 have hgE:=gT (gT hg8 hg9) hg10
 have hfin:z2q_ w r p (.returned (.map (some (w.heap.size+1+1)))) W10:=by
  refine⟨_,_,_,w.heap.size+1,w.heap.size,(W3.heap.size,W3.heap.size+1,W3.heap.size+1+1),(W3.heap.size+1+1+1,W3.heap.size+1+1+1+1,W3.heap.size+1+1+1+1+1),(W3.heap.size+1+1+1+1+1+1,W3.heap.size+1+1+1+1+1+1+1,W3.heap.size+1+1+1+1+1+1+1+1),W7.heap.size,W7.heap.size+1,rfl,hm10,?_,?_⟩
  ·have hs7:W3.heap.size+9≤W7.heap.size:=by
    have q1:=hg456.size
    have q2:=hg7.size
    simp at q1
    omega
   have b0:=Bk.new W3 157 #[.pointer (some ⟨r,0,none⟩)]
   have c0:=((((((((((((b0.alloc (.cells #[.pointer (some ⟨p,7,none⟩)] 80)).alloc (.cells #[.int .i64 0] 3)).alloc (.cells #[.pointer (some ⟨r,0,none⟩)] 157)).alloc (.cells #[.pointer (some ⟨p,8,none⟩)] 80)).alloc (.cells #[.int .i64 1] 3)).alloc (.cells #[.pointer (some ⟨r,0,none⟩)] 157)).alloc (.cells #[.pointer (some ⟨p,9,none⟩)] 80)).alloc (.cells #[.int .i64 2] 3)).drewN 1).grown hg456 (by simp;omega)).grown hg7 (by simp;omega)))
   have e0:=(((c0.alloc (.cells #[.pointer (some ⟨p,10,none⟩)] 82)).alloc (.cells #[.pointer (some ⟨p,11,none⟩)] 82)).drewN 1).grown hgE (by simp;omega)
   have b1:=Bk.new (W3.alloc (.cells #[.pointer (some ⟨r,0,none⟩)] 157)) 80 #[.pointer (some ⟨p,7,none⟩)]
   rw[World.size_alloc] at b1
   have c1:=(((((((((((b1.alloc (.cells #[.int .i64 0] 3)).alloc (.cells #[.pointer (some ⟨r,0,none⟩)] 157)).alloc (.cells #[.pointer (some ⟨p,8,none⟩)] 80)).alloc (.cells #[.int .i64 1] 3)).alloc (.cells #[.pointer (some ⟨r,0,none⟩)] 157)).alloc (.cells #[.pointer (some ⟨p,9,none⟩)] 80)).alloc (.cells #[.int .i64 2] 3)).drewN 1).grown hg456 (by simp;omega)).grown hg7 (by simp;omega)))
   have e1:=(((c1.alloc (.cells #[.pointer (some ⟨p,10,none⟩)] 82)).alloc (.cells #[.pointer (some ⟨p,11,none⟩)] 82)).drewN 1).grown hgE (by simp;omega)
   have b2:=Bk.new ((W3.alloc (.cells #[.pointer (some ⟨r,0,none⟩)] 157)).alloc (.cells #[.pointer (some ⟨p,7,none⟩)] 80)) 3 #[.int .i64 0]
   rw[World.size_alloc,World.size_alloc] at b2
   have c2:=((((((((((b2.alloc (.cells #[.pointer (some ⟨r,0,none⟩)] 157)).alloc (.cells #[.pointer (some ⟨p,8,none⟩)] 80)).alloc (.cells #[.int .i64 1] 3)).alloc (.cells #[.pointer (some ⟨r,0,none⟩)] 157)).alloc (.cells #[.pointer (some ⟨p,9,none⟩)] 80)).alloc (.cells #[.int .i64 2] 3)).drewN 1).grown hg456 (by simp;omega)).grown hg7 (by simp;omega)))
   have e2:=(((c2.alloc (.cells #[.pointer (some ⟨p,10,none⟩)] 82)).alloc (.cells #[.pointer (some ⟨p,11,none⟩)] 82)).drewN 1).grown hgE (by simp;omega)
   have b3:=Bk.new (((W3.alloc (.cells #[.pointer (some ⟨r,0,none⟩)] 157)).alloc (.cells #[.pointer (some ⟨p,7,none⟩)] 80)).alloc (.cells #[.int .i64 0] 3)) 157 #[.pointer (some ⟨r,0,none⟩)]
   rw[World.size_alloc,World.size_alloc,World.size_alloc] at b3
   have c3:=(((((((((b3.alloc (.cells #[.pointer (some ⟨p,8,none⟩)] 80)).alloc (.cells #[.int .i64 1] 3)).alloc (.cells #[.pointer (some ⟨r,0,none⟩)] 157)).alloc (.cells #[.pointer (some ⟨p,9,none⟩)] 80)).alloc (.cells #[.int .i64 2] 3)).drewN 1).grown hg456 (by simp;omega)).grown hg7 (by simp;omega)))
   have e3:=(((c3.alloc (.cells #[.pointer (some ⟨p,10,none⟩)] 82)).alloc (.cells #[.pointer (some ⟨p,11,none⟩)] 82)).drewN 1).grown hgE (by simp;omega)
   have b4:=Bk.new ((((W3.alloc (.cells #[.pointer (some ⟨r,0,none⟩)] 157)).alloc (.cells #[.pointer (some ⟨p,7,none⟩)] 80)).alloc (.cells #[.int .i64 0] 3)).alloc (.cells #[.pointer (some ⟨r,0,none⟩)] 157)) 80 #[.pointer (some ⟨p,8,none⟩)]
   rw[World.size_alloc,World.size_alloc,World.size_alloc,World.size_alloc] at b4
   have c4:=((((((((b4.alloc (.cells #[.int .i64 1] 3)).alloc (.cells #[.pointer (some ⟨r,0,none⟩)] 157)).alloc (.cells #[.pointer (some ⟨p,9,none⟩)] 80)).alloc (.cells #[.int .i64 2] 3)).drewN 1).grown hg456 (by simp;omega)).grown hg7 (by simp;omega)))
   have e4:=(((c4.alloc (.cells #[.pointer (some ⟨p,10,none⟩)] 82)).alloc (.cells #[.pointer (some ⟨p,11,none⟩)] 82)).drewN 1).grown hgE (by simp;omega)
   have b5:=Bk.new (((((W3.alloc (.cells #[.pointer (some ⟨r,0,none⟩)] 157)).alloc (.cells #[.pointer (some ⟨p,7,none⟩)] 80)).alloc (.cells #[.int .i64 0] 3)).alloc (.cells #[.pointer (some ⟨r,0,none⟩)] 157)).alloc (.cells #[.pointer (some ⟨p,8,none⟩)] 80)) 3 #[.int .i64 1]
   rw[World.size_alloc,World.size_alloc,World.size_alloc,World.size_alloc,World.size_alloc] at b5
   have c5:=(((((((b5.alloc (.cells #[.pointer (some ⟨r,0,none⟩)] 157)).alloc (.cells #[.pointer (some ⟨p,9,none⟩)] 80)).alloc (.cells #[.int .i64 2] 3)).drewN 1).grown hg456 (by simp;omega)).grown hg7 (by simp;omega)))
   have e5:=(((c5.alloc (.cells #[.pointer (some ⟨p,10,none⟩)] 82)).alloc (.cells #[.pointer (some ⟨p,11,none⟩)] 82)).drewN 1).grown hgE (by simp;omega)
   have b6:=Bk.new ((((((W3.alloc (.cells #[.pointer (some ⟨r,0,none⟩)] 157)).alloc (.cells #[.pointer (some ⟨p,7,none⟩)] 80)).alloc (.cells #[.int .i64 0] 3)).alloc (.cells #[.pointer (some ⟨r,0,none⟩)] 157)).alloc (.cells #[.pointer (some ⟨p,8,none⟩)] 80)).alloc (.cells #[.int .i64 1] 3)) 157 #[.pointer (some ⟨r,0,none⟩)]
   rw[World.size_alloc,World.size_alloc,World.size_alloc,World.size_alloc,World.size_alloc,World.size_alloc] at b6
   have c6:=((((((b6.alloc (.cells #[.pointer (some ⟨p,9,none⟩)] 80)).alloc (.cells #[.int .i64 2] 3)).drewN 1).grown hg456 (by simp;omega)).grown hg7 (by simp;omega)))
   have e6:=(((c6.alloc (.cells #[.pointer (some ⟨p,10,none⟩)] 82)).alloc (.cells #[.pointer (some ⟨p,11,none⟩)] 82)).drewN 1).grown hgE (by simp;omega)
   have b7:=Bk.new (((((((W3.alloc (.cells #[.pointer (some ⟨r,0,none⟩)] 157)).alloc (.cells #[.pointer (some ⟨p,7,none⟩)] 80)).alloc (.cells #[.int .i64 0] 3)).alloc (.cells #[.pointer (some ⟨r,0,none⟩)] 157)).alloc (.cells #[.pointer (some ⟨p,8,none⟩)] 80)).alloc (.cells #[.int .i64 1] 3)).alloc (.cells #[.pointer (some ⟨r,0,none⟩)] 157)) 80 #[.pointer (some ⟨p,9,none⟩)]
   rw[World.size_alloc,World.size_alloc,World.size_alloc,World.size_alloc,World.size_alloc,World.size_alloc,World.size_alloc] at b7
   have c7:=(((((b7.alloc (.cells #[.int .i64 2] 3)).drewN 1).grown hg456 (by simp;omega)).grown hg7 (by simp;omega)))
   have e7:=(((c7.alloc (.cells #[.pointer (some ⟨p,10,none⟩)] 82)).alloc (.cells #[.pointer (some ⟨p,11,none⟩)] 82)).drewN 1).grown hgE (by simp;omega)
   have b8:=Bk.new ((((((((W3.alloc (.cells #[.pointer (some ⟨r,0,none⟩)] 157)).alloc (.cells #[.pointer (some ⟨p,7,none⟩)] 80)).alloc (.cells #[.int .i64 0] 3)).alloc (.cells #[.pointer (some ⟨r,0,none⟩)] 157)).alloc (.cells #[.pointer (some ⟨p,8,none⟩)] 80)).alloc (.cells #[.int .i64 1] 3)).alloc (.cells #[.pointer (some ⟨r,0,none⟩)] 157)).alloc (.cells #[.pointer (some ⟨p,9,none⟩)] 80)) 3 #[.int .i64 2]
   rw[World.size_alloc,World.size_alloc,World.size_alloc,World.size_alloc,World.size_alloc,World.size_alloc,World.size_alloc,World.size_alloc] at b8
   have c8:=((((b8.drewN 1).grown hg456 (by simp;omega)).grown hg7 (by simp;omega)))
   have e8:=(((c8.alloc (.cells #[.pointer (some ⟨p,10,none⟩)] 82)).alloc (.cells #[.pointer (some ⟨p,11,none⟩)] 82)).drewN 1).grown hgE (by simp;omega)
   have f0:=Bk.new W7 82 #[.pointer (some ⟨p,10,none⟩)]
   have f1:=Bk.new (W7.alloc (.cells #[.pointer (some ⟨p,10,none⟩)] 82)) 82 #[.pointer (some ⟨p,11,none⟩)]
   rw[World.size_alloc] at f1
   have g0:=((f0.alloc (.cells #[.pointer (some ⟨p,11,none⟩)] 82)).drewN 1).grown hgE (by simp;omega)
   have g1:=(f1.drewN 1).grown hgE (by simp;omega)
   exact⟨(jr9.grown hg10 (by simp)).cell 0,(jd9.grown hg10 (by simp;omega)).cell 0,⟨e0.cell 0,e1.cell 0,e2.cell 0,by simp only;omega⟩,⟨e3.cell 0,e4.cell 0,e5.cell 0,by simp only;omega⟩,⟨e6.cell 0,e7.cell 0,e8.cell 0,by simp only;omega⟩,g0.cell 0,g1.cell 0,by omega⟩
  ·have h0:Bel w (((((((((W3.alloc (.cells #[.pointer (some ⟨r,0,none⟩)] 157)).alloc (.cells #[.pointer (some ⟨p,7,none⟩)] 80)).alloc (.cells #[.int .i64 0] 3)).alloc (.cells #[.pointer (some ⟨r,0,none⟩)] 157)).alloc (.cells #[.pointer (some ⟨p,8,none⟩)] 80)).alloc (.cells #[.int .i64 1] 3)).alloc (.cells #[.pointer (some ⟨r,0,none⟩)] 157)).alloc (.cells #[.pointer (some ⟨p,9,none⟩)] 80)).alloc (.cells #[.int .i64 2] 3)).drew:=(((((((((hbel.alloc (by omega) _).alloc (by simp;omega) _).alloc (by simp;omega) _).alloc (by simp;omega) _).alloc (by simp;omega) _).alloc (by simp;omega) _).alloc (by simp;omega) _).alloc (by simp;omega) _).alloc (by simp;omega) _).drew
   have q1:=hg456.size
   have q2:=hg7.size
   simp at q1
   have h1:=(h0.grown hg456 (by simp;omega) (by intro k hk;cases hk;omega)).grown hg7 (by omega) (by intro k hk;cases hk;omega)
   have h2:Bel w ((W7.alloc (.cells #[.pointer (some ⟨p,10,none⟩)] 82)).alloc (.cells #[.pointer (some ⟨p,11,none⟩)] 82)).drew:=(((h1.alloc (by omega) _).alloc (by simp;omega) _)).drew
   exact h2.grown hgE (by simp;omega) (by intro k hk;cases hk;omega)
 have HFIN:=hiD hfin
 unfold ym_ fnV z7_ at hu1
 unfold yk_ fnV z7_ at hu2
 unfold z6k_ fnV z7_ at hu3
 unfold xm_ fnV z7_ at hu7
 unfold kf_ fnV z7_ at hu10
 unfold qz_ at hu4a
 unfold fnV z7_ at hu4
 rw[show ((3:Nat):Int)=3 from rfl] at hu4a hu4
 unfold j1_ at hu5a
 unfold fnV z7_ at hu5
 rw[show ((3+1:Nat):Int)=4 from rfl] at hu5a hu5
 unfold ye_ at hu6a
 unfold fnV z7_ at hu6
 rw[show ((3+1+1:Nat):Int)=5 from rfl] at hu6a hu6
 unfold q2_ at hu8a
 unfold fnV z7_ at hu8
 rw[show ((7:Nat):Int)=7 from rfl] at hu8a hu8
 unfold zh_ at hu9a
 unfold fnV z7_ at hu9
 rw[show ((7+1:Nat):Int)=8 from rfl] at hu9a hu9
 clear hfin hm0 hm1 hm2 hm3 hmD hm4 hm5 hm6 hm7 hmE hm8 hm9 hm10 hbel hg1 hg2 hg3 hg12 hgg hg4 hg4a hg5 hg5a hg6 hg6a hg7 hg8 hg8a hg9 hg9a hg10 hgE hg456 hB hd jd jr jd2 jr2 i1 i2 jp jdD jrD jd4 jr4 jd5 jr5 jd6 jr6 jd7 jr7 jdE jrE jd8 jr8 jd9 jr9
 have s2:=And.intro d2 r2
 have s3:=And.intro d3 r3
 have s3x:=And.intro d3x r3x
 have s3y:=And.intro d3y r3y
 have s3z:=And.intro d3z r3z
 have s4a:=And.intro d4a r4a
 have s4:=And.intro d4 r4
 have s5a:=And.intro d5a r5a
 have s5:=And.intro d5 r5
 have s6a:=And.intro d6a r6a
 have s6:=And.intro d6 r6
 have s7:=And.intro d7 r7
 have s7x:=And.intro d7x r7x
 have s7y:=And.intro d7y r7y
 have s8a:=And.intro d8a r8a
 have s8:=And.intro d8 r8
 have s9a:=And.intro d9a r9a
 have s9:=And.intro d9 r9
 clear d3x r3x d3y r3y d3z r3z d4a r4a d4 r4 d5a r5a d5 r5 d6a r6a d7x r7x d7y r7y d8a r8a d8 r8 d9a r9a
 unfold z7_
 go_enter Tryz.func115,Tryz.ntmps115
 go_wp2_with fail
 go_region_held3 (fun w'=>w'.cell? ⟨w.heap.size,0,none⟩=some (.pointer (some ⟨p,0,none⟩))∧w'.cell? ⟨w.heap.size+1,0,none⟩=some (.pointer (some ⟨r,0,none⟩))) (first|exact s2|exact s3|exact s3x|exact s3y|exact s3z|exact s4a|exact s4|exact s5a|exact s5|exact s6a|exact s6|exact s7|exact s7x|exact s7y|exact s8a|exact s8|exact s9a|exact s9) (first|(go_at_call 187;(with_reducible refine(z46_ r p 7 0 _).mono ?_);rintro e w' ⟨rfl,rfl⟩)|(go_at_call 187;(with_reducible refine(z46_ r p 8 1 _).mono ?_);rintro e w' ⟨rfl,rfl⟩)|(go_at_call 187;(with_reducible refine(z46_ r p 9 2 _).mono ?_);rintro e w' ⟨rfl,rfl⟩))
 all_goals
  go_wp2_with fail
  go_region_held3 (fun w'=>w'.cell? ⟨w.heap.size,0,none⟩=some (.pointer (some ⟨p,0,none⟩))∧w'.cell? ⟨w.heap.size+1,0,none⟩=some (.pointer (some ⟨r,0,none⟩))) (first|exact s2|exact s3|exact s3x|exact s3y|exact s3z|exact s4a|exact s4|exact s5a|exact s5|exact s6a|exact s6|exact s7|exact s7x|exact s7y|exact s8a|exact s8|exact s9a|exact s9) (first|(go_at_call 190;(with_reducible refine(z9l_ p 10 _).mono ?_);rintro e w' ⟨rfl,rfl⟩)|(go_at_call 190;(with_reducible refine(z9l_ p 11 _).mono ?_);rintro e w' ⟨rfl,rfl⟩))
  all_goals
   go_wp2_with fail
   go_ret
   exact HFIN.out
open Go.RowKit
theorem z0j_:∀ (n:Nat) (r:LU) (acc l:List Wd),qx_ n r acc=some l→(∀ x∈l,x∈acc∨x.1.length≤r.length)∧l.length≤acc.length+r.length
 |0,r,acc,l,h=>by
  rw[qx_] at h
  cases h
  exact⟨fun x hx=> .inl hx,by omega⟩
 |n+1,r,acc,l,h=>by
  have hd:(r.dropWhile zw_).length≤r.length:=(List.dropWhile_sublist _).length_le
  rw[qx_] at h
  cases hr:r.dropWhile zw_ with
  |nil=>
   rw[hr] at h
   cases h
   exact⟨fun x hx=> .inl hx,by omega⟩
  |cons c t=>
   rw[hr] at h hd
   simp only[List.length_cons] at hd
   simp only at h
   have key:∀ (u:LU) (x:Wd),u.length≤t.length→x.1.length≤t.length+1→qx_ n u (acc++[x])=some l→(∀ x∈l,x∈acc∨x.1.length≤r.length)∧l.length≤acc.length+r.length:=by
    intro u x hu hx hw
    obtain⟨h1,h2⟩:=z0j_ n u _ l hw
    simp only[List.length_append,List.length_cons,List.length_nil] at h2
    refine⟨fun y hy=>?_,by omega⟩
    rcases h1 y hy with h3|h3
    ·rcases List.mem_append.1 h3 with h4|h4
     ·exact .inl h4
     ·have:y=x:=by simpa using h4
      subst this
      exact .inr (by omega)
    ·exact .inr (by omega)
   split at h
   ·split at h
    ·refine key _ _ ?_ ?_ h
     ·have:=(List.dropWhile_sublist (fun x:UInt8=>x !=39) (l:=t)).length_le
      rw[List.length_tail]
      omega
     ·have:=(List.takeWhile_sublist (fun x:UInt8=>x !=39) (l:=t)).length_le
      simp only
      omega
    ·cases h
   ·split at h
    ·exact key _ _ (nR _) (by simp) h
    ·refine key _ _ ?_ ?_ h
     ·exact(List.dropWhile_sublist (fun c:UInt8=>!xe_ c) (l:=t)).length_le
     ·have:=(List.takeWhile_sublist (fun c:UInt8=>!xe_ c) (l:=t)).length_le
      simp only[List.length_cons]
      omega
theorem k0_ {s:LU} {l:List Wd} (h:yh_ s=some l):(∀ x∈l,x.1.length≤s.length)∧l.length≤s.length:=by
 obtain⟨h1,h2⟩:=z0j_ _ _ _ _ h
 simp only[List.length_nil] at h2
 refine⟨fun x hx=>?_,by omega⟩
 rcases h1 x hx with h3|h3
 ·cases h3
 ·exact h3
theorem jf_ {one:List Wd→Option (LU × List Wd)} (hc:∀ (l t:List Wd) (s:LU),one l=some (s,t)→∃ q,l=(s,q)::t) {l:List Wd} {x:LU × List Wd} (h:one l=some x):x.2<:+l:=by
 obtain⟨q,hq⟩:=hc l x.2 x.1 h
 rw[hq]
 exact List.suffix_cons _ _
theorem yw_ {sign:LU} {one:List Wd→Option (LU × List Wd)} (hc:∀ (l t:List Wd) (s:LU),one l=some (s,t)→∃ q,l=(s,q)::t) {many:Bool}:∀ (n:Nat) (l:List Wd) (acc:LL) (x:LL × List Wd),ka_ sign one many n l acc=some x→x.2<:+l
 |0,l,acc,x,h=>by rw[ka_] at h;cases h
 |n+1,l,acc,x,h=>by
  cases ho:one l with
  |none=>rw[vv_ ho] at h;cases h
  |some y=>
   have h0:=jf_ hc ho
   obtain⟨s,t⟩:=y
   rw[z09_ ho] at h
   simp only at h0
   split at h
   ·split at h
    ·cases h;exact h0
    ·split at h
     ·cases h;exact(List.tail_suffix _).trans h0
     ·split at h
      ·exact(yw_ hc n _ _ _ h).trans h0
      ·split at h
       ·exact((yw_ hc n _ _ _ h).trans (List.tail_suffix _)).trans h0
       ·cases h
   ·cases h
theorem z0k_ {sign:LU} {one:List Wd→Option (LU × List Wd)} (hc:∀ (l t:List Wd) (s:LU),one l=some (s,t)→∃ q,l=(s,q)::t) {l:List Wd} {x:LL × List Wd} (h:jo_ sign one l=some x):x.2<:+l:=by
 have:=yw_ hc _ _ _ _ h
 split at this
 ·exact this.trans (List.tail_suffix _)
 ·exact this
theorem yq_ {k:Int} {l:List Wd} {x:LU × List Wd} (h:z1t_ k l=some x):x.2<:+l:=by
 unfold z1t_ at h
 split at h
 ·cases h
 ·next s t hp=>
  split at h
  ·cases h
  ·split at h
   ·have h9:=jf_ (one:=ze_) (fun _ _ _=>zt_) hp
    cases h
    exact h9
   ·cases h
theorem q5_ {α:Type} {o:Option (α × List Wd)} {l:List Wd} (hs:∀ x,o=some x→x.2<:+l) {F:α→DefS} {y:DefS × List Wd} (h:(o.map fun x=>(F x.1,x.2))=some y):y.2<:+l∧∃ a,y.1=F a:=by
 cases o with
 |none=>cases h
 |some x=>cases h;exact⟨hs x rfl,x.1,rfl⟩
theorem yc_ {d:DefS} {f:LU} {l:List Wd} {y:DefS × List Wd} (h:qg_ d f l=some y):y.2<:+l∧y.1.cls=d.cls:=by
 have hp:∀ x,ze_ l=some x→x.2<:+l:=fun x hx=>jf_ (fun _ _ _=>zt_) hx
 have hq:∀ x,q4_ l=some x→x.2<:+l:=fun x hx=>jf_ (fun _ _ _=>xg_) hx
 have hn:∀ x,xp_ l=some x→x.2<:+l:=fun x hx=>jf_ (fun _ _ _=>y8_) hx
 have hln:∀ x,jo_ [36] xp_ l=some x→x.2<:+l:=fun x hx=>z0k_ (fun _ _ _=>y8_) hx
 have hlq:∀ x,jo_ [] q4_ l=some x→x.2<:+l:=fun x hx=>z0k_ (fun _ _ _=>xg_) hx
 unfold qg_ at h
 split at h
 ·unfold z5z_ at h
  split at h
  ·obtain⟨h1,a,h2⟩:=q5_ hlq (F:=fun a=>{d with names:=a}) h;exact⟨h1,by rw[h2]⟩
  split at h
  ·obtain⟨h1,a,h2⟩:=q5_ hq (F:=fun _=>d) h;exact⟨h1,by rw[h2]⟩
  split at h
  ·obtain⟨h1,a,h2⟩:=q5_ hln (F:=fun a=>{d with sup:=a}) h;exact⟨h1,by rw[h2]⟩
  split at h
  ·obtain⟨h1,a,h2⟩:=q5_ hln (F:=fun a=>{d with must:=a}) h;exact⟨h1,by rw[h2]⟩
  split at h
  ·obtain⟨h1,a,h2⟩:=q5_ hln (F:=fun a=>{d with may:=a}) h;exact⟨h1,by rw[h2]⟩
  ·cases h
 ·unfold z65_ at h
  by_cases g0:f=ym_
  ·rw[if_pos g0] at h;obtain⟨h1,a,h2⟩:=q5_ hlq (F:=fun a=>{d with names:=a}) h;exact⟨h1,by rw[h2]⟩
  rw[if_neg g0] at h
  by_cases g1:f=yk_
  ·rw[if_pos g1] at h;obtain⟨h1,a,h2⟩:=q5_ hq (F:=fun _=>d) h;exact⟨h1,by rw[h2]⟩
  rw[if_neg g1] at h
  by_cases g2:f=z6k_
  ·rw[if_pos g2] at h;obtain⟨h1,a,h2⟩:=q5_ hn (F:=fun a=>{d with sup:=[a]}) h;exact⟨h1,by rw[h2]⟩
  rw[if_neg g2] at h
  by_cases g3:f=qz_
  ·rw[if_pos g3] at h;obtain⟨h1,a,h2⟩:=q5_ (fun x=>yq_) (F:=fun a=>{d with eqr:=a}) h;exact⟨h1,by rw[h2]⟩
  rw[if_neg g3] at h
  by_cases g4:f=j1_
  ·rw[if_pos g4] at h;obtain⟨h1,a,h2⟩:=q5_ (fun x=>yq_) (F:=fun a=>{d with ordr:=a}) h;exact⟨h1,by rw[h2]⟩
  rw[if_neg g4] at h
  by_cases g5:f=ye_
  ·rw[if_pos g5] at h;obtain⟨h1,a,h2⟩:=q5_ (fun x=>yq_) (F:=fun a=>{d with subs:=a}) h;exact⟨h1,by rw[h2]⟩
  rw[if_neg g5] at h
  by_cases g6:f=xm_
  ·rw[if_pos g6] at h
   cases hpp:ze_ l with
   |none=>rw[hpp] at h;cases h
   |some x=>
    rw[hpp] at h
    simp only at h
    by_cases q:(z44_ x.1==0)=true
    ·rw[if_pos q] at h;cases h;exact⟨hp _ hpp,rfl⟩
    ·rw[if_neg q] at h;cases h
  rw[if_neg g6] at h
  by_cases g7:f=q2_
  ·rw[if_pos g7] at h;cases h;exact⟨List.suffix_refl _,rfl⟩
  rw[if_neg g7] at h
  by_cases g8:f=zh_
  ·rw[if_pos g8] at h;cases h;exact⟨List.suffix_refl _,rfl⟩
  rw[if_neg g8] at h
  by_cases g9:f=kf_
  ·rw[if_pos g9] at h
   cases hpp:ze_ l with
   |none=>rw[hpp] at h;cases h
   |some x=>
    rw[hpp] at h
    simp only at h
    by_cases q:(x.1==zb_||x.1==zl_)=true
    ·rw[if_pos q] at h;cases h;exact⟨hp _ hpp,rfl⟩
    ·rw[if_neg q] at h;cases h
  rw[if_neg g9] at h
  cases h
theorem Shorts.suffix {l t:List Wd} (h:Shorts l) (hs:t<:+l):Shorts t:=fun x hx=>h x (hs.subset hx)
def wordsC:LL:=[ym_,yk_,z6k_,z7f_,zjr_]
def wordsA:LL:=[ym_,yk_,z6k_,qz_,j1_,ye_,xm_,q2_,zh_,kf_]
def xw_ (cls:Bool) (f:LU):Bool:=if cls then wordsC.contains f else wordsA.contains f
theorem z4c_ {R:List (LU × Value)} {k:LU}:(qe_ R k).isSome=(R.map (·.1)).contains k:=by
 induction R with
 |nil=>rfl
 |cons x R ih=>
  rw[qe_,List.map_cons,List.contains_cons]
  by_cases h:k=x.1
  ·subst h;simp
  ·have:(k==x.1)=false:=beq_eq_false_iff_ne.2 h
   rw[if_neg h,this,ih]
   rfl
theorem z5n_ {l:LL} {f:LU} (h:l.contains f=false):∀ w∈l,¬ f=w:=by
 rintro w hw rfl
 rw[List.contains_eq_mem] at h
 simp [hw] at h
theorem z6p_ {d:DefS} {f:LU} (h:xw_ d.cls f=false) (l:List Wd):qg_ d f l=none:=by
 unfold xw_ at h
 unfold qg_
 split
 ·next hc=>
  rw[if_pos hc] at h
  have hn:=z5n_ h
  have m:∀ i (h:i<wordsC.length),¬ f=wordsC[i]:=fun i h=>hn _ (List.getElem_mem h)
  have h1:¬ f=ym_:=m 0 (by decide)
  have h2:¬ f=yk_:=m 1 (by decide)
  have h3:¬ f=z6k_:=m 2 (by decide)
  have h4:¬ f=z7f_:=m 3 (by decide)
  have h5:¬ f=zjr_:=m 4 (by decide)
  unfold z5z_
  rw[if_neg h1,if_neg h2,if_neg h3,if_neg h4,if_neg h5]
 ·next hc=>
  rw[if_neg hc] at h
  have hn:=z5n_ h
  have m:∀ i (h:i<wordsA.length),¬ f=wordsA[i]:=fun i h=>hn _ (List.getElem_mem h)
  have h1:¬ f=ym_:=m 0 (by decide)
  have h2:¬ f=yk_:=m 1 (by decide)
  have h3:¬ f=z6k_:=m 2 (by decide)
  have h4:¬ f=qz_:=m 3 (by decide)
  have h5:¬ f=j1_:=m 4 (by decide)
  have h6:¬ f=ye_:=m 5 (by decide)
  have h7:¬ f=xm_:=m 6 (by decide)
  have h8:¬ f=q2_:=m 7 (by decide)
  have h9:¬ f=zh_:=m 8 (by decide)
  have h10:¬ f=kf_:=m 9 (by decide)
  unfold z65_
  rw[if_neg h1,if_neg h2,if_neg h3,if_neg h4,if_neg h5,if_neg h6,if_neg h7,if_neg h8,if_neg h9,if_neg h10]
end Go.Proofs.YtakfpngfpknedaaGreatDoor
