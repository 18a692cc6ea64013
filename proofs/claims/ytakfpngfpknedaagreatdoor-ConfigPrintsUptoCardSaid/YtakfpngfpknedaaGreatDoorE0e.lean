import Derived.Test.YtakfpngfpknedaaGreatDoorE0d
set_option linter.all false
set_option maxHeartbeats 8000000
set_option maxRecDepth 100000
namespace Go.Proofs.YtakfpngfpknedaaGreatDoor
open Go.RowKit
theorem z53_ (w:World) (r c c':Nat) (es es':Array MapEntry):World.setMap (World.setMap w r es c) r es' c'=World.setMap w r es' c':=by
 simp [World.setMap]
structure MapS (w:World) (m:Nat) (es:Array MapEntry) (c:Nat) (R:List (LU × Value)):Prop where
 at_:w.heap[m]?=some (.map es c)
 has:MapR qm_ es R
 born:∀ e∈es.toList,e.born<c
theorem z7h_ (a b:LU):Instr.sameNow (.string) (qm_ a) (qm_ b)=some (decide (a=b)):=by
 simp only[Instr.sameNow,qm_]
 congr 1
 show (a.toArray==b.toArray)=decide (a=b)
 rw[Bool.eq_iff_iff,beq_iff_eq,decide_eq_true_iff]
 exact⟨List.toArray_inj,fun h=>by rw[h]⟩
theorem yr_:z6c_ Tryz.prog 9 qm_:=zcc_ (D:= .string) Tryz.underlying9 z7h_
theorem y2_ (b:Bool) (w:World) (k:LU):(Instr.checkKey b 10000 9 (qm_ k)).run Tryz.prog w= .ok () w:=by
 unfold qm_
 kernel_rfl
theorem MapS.lt {w:World} {m c:Nat} {es:Array MapEntry} {R:List (LU × Value)} (h:MapS w m es c R):m<w.heap.size:=(Array.getElem?_eq_some_iff.1 h.at_).1
theorem MapS.put {w:World} {m c:Nat} {es:Array MapEntry} {R:List (LU × Value)} (h:MapS w m es c R) (k:LU) (v:Value):MapS (World.setMap w m (es.push {key:=qm_ k,val:=v,born:=c}) (c+1)) m (es.push {key:=qm_ k,val:=v,born:=c}) (c+1) (R++[(k,v)]):=by
 refine⟨jg_ h.lt,h.has.push k v c,?_⟩
 intro e he
 simp only[Array.toList_push,List.mem_append,List.mem_singleton] at he
 rcases he with he|rfl
 ·have:=h.born e he;omega
 ·simp
theorem MapS.keep {w w':World} {m c:Nat} {es:Array MapEntry} {R:List (LU × Value)} (h:MapS w m es c R) (he:w'.heap[m]?=w.heap[m]?):MapS w' m es c R:=⟨he.trans h.at_,h.has,h.born⟩
theorem MapS.alloc {w:World} {m c:Nat} {es:Array MapEntry} {R:List (LU × Value)} (h:MapS w m es c R) (o:Obj):MapS (w.alloc o) m es c R:=h.keep (Below.heap_alloc w o m h.lt)
theorem MapS.made (w:World):MapS (w.alloc (.map #[] 0)) w.heap.size #[] 0 []:=⟨heap_alloc_new w _,rfl,fun e he=>by simp at he⟩
section
variable {w:World} {T E:TypeId} {m c:Nat} {es:Array MapEntry} {R:List (LU × Value)} {k:LU}
theorem MapS.update (hT:Tryz.prog.underlying T=some (.map 9 E)) (h:MapS w m es c R) (v:Value) (hn:qe_ R k=none):
  (Instr.mapUpdate T (.map (some m)) (qm_ k) v).run Tryz.prog w= .ok () (World.setMap w m (es.push {key:=qm_ k,val:=v,born:=c}) (c+1)):=
 z4r_ hT yr_ y2_ w m c es R h.at_ h.has k v hn
theorem MapS.entry (hT:Tryz.prog.underlying T=some (.map 9 E)) {z:Value} (hz:∀ w,(zeroValue E).run Tryz.prog w= .ok z w) (h:MapS w m es c R) (hn:qe_ R k=none):
  (Instr.mapEntry T (.map (some m)) (qm_ k)).run Tryz.prog w= .ok (.tuple #[z,.int .i64 c]) (World.setMap w m (es.push {key:=qm_ k,val:=z,born:=c}) (c+1)):=by
 obtain⟨q,hq,hm⟩:=yr_ w k es R h.has
 rw[hn] at hm
 obtain rfl:q=none:=by simpa using hm
 unfold Instr.mapEntry
 simp only[Sem.run_bind,run_underlying hT,Result.andThen_ok]
 simp only[getObj,Sem.run,Sem.run_bind,h.at_,Result.andThen_ok,y2_,hq,hz,setObj,World.setMap,pure]
 rfl
theorem MapS.store (h:MapS w m es c R) (z v:Value):
  (Instr.entryStore T (.map (some m)) (.int .i64 c) v).run Tryz.prog (World.setMap w m (es.push {key:=qm_ k,val:=z,born:=c}) (c+1))= .ok () (World.setMap w m (es.push {key:=qm_ k,val:=v,born:=c}) (c+1)):=by
 have hs:=jg_ (w:=w) (c:=c+1) (es:=es.push {key:=qm_ k,val:=z,born:=c}) h.lt
 have hf:(es.push {key:=qm_ k,val:=z,born:=c}).findIdx? (fun e=>(e.born:Int)==(c:Int))=some es.size:=by
  rw[Array.findIdx?_eq_some_iff_getElem]
  refine⟨by simp,by simp,?_⟩
  intro j hj
  have hje:j<es.size:=hj
  have:=h.born es[j] (by simp)
  rw[Array.getElem_push_lt hje]
  simp
  omega
 have ha:∀ W:World,(asInt (.int .i64 (c:Int))).run Tryz.prog W= .ok (c:Int) W:=fun _=>rfl
 unfold Instr.entryStore
 simp only[Sem.run_bind,getObj,Sem.run,hs,Result.andThen_ok,ha,hf,setObj]
 have e1:(es.push {key:=qm_ k,val:=z,born:=c}).modify es.size (fun e=>{e with val:=v})=es.push {key:=qm_ k,val:=v,born:=c}:=by
  apply Array.ext
  ·simp
  ·intro i h1 h2
   rw[Array.getElem_modify]
   by_cases hi:i=es.size
   ·subst hi;simp
   ·have hlt:i<es.size:=by simp at h2;omega
    rw[if_neg (Ne.symm hi),Array.getElem_push_lt hlt,Array.getElem_push_lt hlt]
 rw[e1]
 show Result.ok () _=_
 congr 1
 have:=z53_ w m (c+1) (c+1) (es.push {key:=qm_ k,val:=z,born:=c}) (es.push {key:=qm_ k,val:=v,born:=c})
 rw[← this]
 rfl
theorem MapS.ask (hT:Tryz.prog.underlying T=some (.map 9 E)) {z:Value} (hz:∀ w,(zeroValue E).run Tryz.prog w= .ok z w) (h:MapS w m es c R):
  (Instr.lookup T (.map (some m)) (qm_ k) true).run Tryz.prog w= .ok (.tuple #[(qe_ R k).getD z,.bool (qe_ R k).isSome]) w:=
 z1m_ hT yr_ y2_ hz w m c es R h.at_ h.has k
end
theorem zij_ (w:World):(zeroValue 29).run Tryz.prog w= .ok .nilFunc w:=by kernel_rfl
theorem z8h_:Tryz.prog.underlying 165=some (.map 9 29):=Tryz.underlying165
def fnV (f:FuncId) (cap:Array Value):Value:= .func (.func f) #[] cap
def z7g_ (br bd b1 b2 b3:Nat):List (LU × Value):=[
 (ym_,fnV 183 #[z7_ br,z7_ bd]),(yk_,fnV 185 #[z7_ br]),
 (z6k_,fnV 180 #[z7_ br,z7_ b1]),(z7f_,fnV 180 #[z7_ br,z7_ b2]),(zjr_,fnV 180 #[z7_ br,z7_ b3])]
theorem z41_ (br p i:Nat) (w:World):
  Calls Tryz.prog 179 #[.pointer (some ⟨p,i,none⟩),.pointer (some ⟨br,0,none⟩)] w fun e w'=>e= .returned (.func (.func 180) #[] #[.pointer (some ⟨br,0,none⟩),.pointer (some ⟨w.heap.size,0,none⟩)])∧w'=w.alloc (.cells #[.pointer (some ⟨p,i,none⟩)] 64):=by
 have hmf:=z2x_
 go_enter Tryz.func179,Tryz.ntmps179
 go_wp2_with fail
 go_ret
 exact⟨rfl,rfl⟩
theorem z9l_ (p i:Nat) (w:World):
  Calls Tryz.prog 190 #[.pointer (some ⟨p,i,none⟩)] w fun e w'=>e= .returned (.func (.func 234) #[] #[.pointer (some ⟨w.heap.size,0,none⟩)])∧w'=w.alloc (.cells #[.pointer (some ⟨p,i,none⟩)] 82):=by
 have hmf:=z2x_
 go_enter Tryz.func190,Tryz.ntmps190
 go_wp2_with fail
 go_ret
 exact⟨rfl,rfl⟩
theorem z46_ (r p i:Nat) (k:Int) (w:World):
  Calls Tryz.prog 187 #[.pointer (some ⟨r,0,none⟩),.pointer (some ⟨p,i,none⟩),.int .i64 k] w fun e w'=>e= .returned (.func (.func 231) #[] #[.pointer (some ⟨w.heap.size,0,none⟩),.pointer (some ⟨w.heap.size+1,0,none⟩),.pointer (some ⟨w.heap.size+1+1,0,none⟩)])∧w'=((w.alloc (.cells #[.pointer (some ⟨r,0,none⟩)] 157)).alloc (.cells #[.pointer (some ⟨p,i,none⟩)] 80)).alloc (.cells #[.int .i64 k] 3):=by
 have hmf:=z2x_
 go_enter Tryz.func187,Tryz.ntmps187
 go_wp2_with fail
 go_ret
 exact⟨rfl,rfl⟩
theorem q3_ (w:World) (m c:Nat) (es:Array MapEntry):w.grownBy (World.setMap w m es c) (some m):=
 ⟨rfl,rfl,rfl,by rw[kk_];exact nR _,fun k _ hne=>xl_ (by rintro rfl;exact hne rfl)⟩
theorem MapS.upd {w:World} {m c:Nat} {es:Array MapEntry} {R:List (LU × Value)} (h:MapS w m es c R) (k:LU) (v:Value) (hn:qe_ R k=none):
  ∃ W es',(Instr.mapUpdate 165 (.map (some m)) (.string ⟨k.toArray⟩) v).run Tryz.prog w= .ok () W∧MapS W m es' (c+1) (R++[(k,v)])∧w.grownBy W (some m):=
 ⟨_,_,h.update z8h_ v hn,h.put k v,q3_ _ _ _ _⟩
theorem MapS.pair {w:World} {m c:Nat} {es:Array MapEntry} {R:List (LU × Value)} (h:MapS w m es c R) (k:LU) (v:Value) (hn:qe_ R k=none):
  ∃ W1 W2 es',(Instr.mapEntry 165 (.map (some m)) (.string ⟨k.toArray⟩)).run Tryz.prog w= .ok (.tuple #[.nilFunc,.int .i64 c]) W1∧
   (Instr.entryStore 165 (.map (some m)) (.int .i64 c) v).run Tryz.prog W1= .ok () W2∧MapS W2 m es' (c+1) (R++[(k,v)])∧w.grownBy W1 (some m)∧w.grownBy W2 (some m):=
 ⟨_,_,_,h.entry z8h_ zij_ hn,h.store .nilFunc v,h.put k v,q3_ _ _ _ _,q3_ _ _ _ _⟩
structure BoxC (w:World) (B r p br bd b1 b2 b3:Nat):Prop where
 r:w.cell? ⟨br,0,none⟩=some (z7_ r)
 d:w.cell? ⟨bd,0,none⟩=some (z7_ p)
 c1:w.cell? ⟨b1,0,none⟩=some (.pointer (some ⟨p,3,none⟩))
 c2:w.cell? ⟨b2,0,none⟩=some (.pointer (some ⟨p,4,none⟩))
 c3:w.cell? ⟨b3,0,none⟩=some (.pointer (some ⟨p,5,none⟩))
 le:B≤br∧B≤bd∧B≤b1∧B≤b2∧B≤b3
def z3h_ (w:World) (r p:Nat) (e:Ending) (w':World):Prop:=∃ m es c br bd b1 b2 b3,e= .returned (.map (some m))∧MapS w' m es c (z7g_ br bd b1 b2 b3)∧BoxC w' w.heap.size r p br bd b1 b2 b3∧Bel w w'
theorem zeb_ (r p:Nat) (d:DefS) (w:World) (hd:DefAt w p d) (hc:d.cls=true):
  Calls Tryz.prog 115 #[z7_ p,z7_ r] w (z3h_ w r p):=by
 have hmf:=z2x_
 have hmm:=@run_makeMap Tryz.prog
 obtain⟨vn,vs,vm,vy,hB⟩:=hd.bk
 have hplt:=hB.lt
 have hm0:MapS (((w.alloc (.cells #[.pointer (some ⟨p,0,none⟩)] 118)).alloc (.cells #[.pointer (some ⟨r,0,none⟩)] 157)).alloc (.map #[] 0)) (w.heap.size+1+1) #[] 0 []:=by
  have:=MapS.made ((w.alloc (.cells #[.pointer (some ⟨p,0,none⟩)] 118)).alloc (.cells #[.pointer (some ⟨r,0,none⟩)] 157))
  simpa using this
 obtain⟨W1,es1,hu1,hm1,hg1⟩:=hm0.upd ym_ (fnV 183 #[z7_ (w.heap.size+1),z7_ w.heap.size]) rfl
 obtain⟨W2,es2,hu2,hm2,hg2⟩:=hm1.upd yk_ (fnV 185 #[z7_ (w.heap.size+1)]) rfl
 unfold ym_ fnV z7_ at hu1
 unfold yk_ fnV z7_ at hu2
 have hgg:=gT hg1 hg2
 have jd:=(((Bk.new w 118 #[.pointer (some ⟨p,0,none⟩)]).alloc (.cells #[.pointer (some ⟨r,0,none⟩)] 157)).alloc (.map #[] 0)).grown hgg (by simp;omega)
 have jr:=Bk.new (w.alloc (.cells #[.pointer (some ⟨p,0,none⟩)] 118)) 157 #[.pointer (some ⟨r,0,none⟩)]
 rw[World.size_alloc] at jr
 have jr:=(jr.alloc (.map #[] 0)).grown hgg (by simp)
 have jp:=(((hB.alloc (.cells #[.pointer (some ⟨p,0,none⟩)] 118)).alloc (.cells #[.pointer (some ⟨r,0,none⟩)] 157)).alloc (.map #[] 0)).grown hgg (by simp;omega)
 have kd:W2.cell? ⟨w.heap.size,0,none⟩=some (.pointer (some ⟨p,0,none⟩)):=jd.cell 0
 have kr:W2.cell? ⟨w.heap.size+1,0,none⟩=some (.pointer (some ⟨r,0,none⟩)):=jr.cell 0
 have k0:W2.cell? ⟨p,0,none⟩=some (.bool true):=by rw[jp.cell 0];simp [zn_,hc]
 have hbel:Bel w W2:=((((bR _ _).alloc (nR _) _).alloc (by simp) _).alloc (by simp;omega) _).grown hgg (by simp;omega) (by intro k hk;cases hk;omega)
 have HB:=hiD hbel
 have HM:=hiD (hm2:MapS W2 (w.heap.size+1+1) es2 2 [(ym_,fnV 183 #[z7_ (w.heap.size+1),z7_ w.heap.size]),(yk_,fnV 185 #[z7_ (w.heap.size+1)])])
 have HJ:=hiD (And.intro jd jr)
 obtain⟨H,hH⟩:∃ H,H=W2.heap.size:=⟨_,rfl⟩
 have hHl:w.heap.size+1+1<W2.heap.size:=hm2.lt
 have hmD:MapS (((W2.alloc (.cells #[.pointer (some ⟨p,3,none⟩)] 64)).alloc (.cells #[.pointer (some ⟨p,4,none⟩)] 64)).alloc (.cells #[.pointer (some ⟨p,5,none⟩)] 64)).drew (w.heap.size+1+1) es2 2 [(ym_,fnV 183 #[z7_ (w.heap.size+1),z7_ w.heap.size]),(yk_,fnV 185 #[z7_ (w.heap.size+1)])]:=(((hm2.alloc _).alloc _).alloc _).keep rfl
 obtain⟨W3a,W3,es3,hu3a,hu3,hm3,hg3a,hg3⟩:=hmD.pair z6k_ (fnV 180 #[z7_ (w.heap.size+1),z7_ H]) rfl
 obtain⟨W4a,W4,es4,hu4a,hu4,hm4,hg4a,hg4⟩:=hm3.pair z7f_ (fnV 180 #[z7_ (w.heap.size+1),z7_ (H+1)]) rfl
 obtain⟨W5a,W5,es5,hu5a,hu5,hm5,hg5a,hg5⟩:=hm4.pair zjr_ (fnV 180 #[z7_ (w.heap.size+1),z7_ (H+1+1)]) rfl
 have hgD:=gT (gT hg3 hg4) hg5
 have s1:(W2.alloc (.cells #[.pointer (some ⟨p,3,none⟩)] 64)).cell? ⟨w.heap.size,0,none⟩=some (.pointer (some ⟨p,0,none⟩)):=(jd.alloc _).cell 0
 have s2:((W2.alloc (.cells #[.pointer (some ⟨p,3,none⟩)] 64)).alloc (.cells #[.pointer (some ⟨p,4,none⟩)] 64)).cell? ⟨w.heap.size,0,none⟩=some (.pointer (some ⟨p,0,none⟩)):=((jd.alloc _).alloc _).cell 0
 have jD:Bk (((W2.alloc (.cells #[.pointer (some ⟨p,3,none⟩)] 64)).alloc (.cells #[.pointer (some ⟨p,4,none⟩)] 64)).alloc (.cells #[.pointer (some ⟨p,5,none⟩)] 64)).drew _ _ _:=((jd.alloc _).alloc _).alloc _
 have s3:(((W2.alloc (.cells #[.pointer (some ⟨p,3,none⟩)] 64)).alloc (.cells #[.pointer (some ⟨p,4,none⟩)] 64)).alloc (.cells #[.pointer (some ⟨p,5,none⟩)] 64)).drew.cell? ⟨w.heap.size,0,none⟩=some (.pointer (some ⟨p,0,none⟩)):=jD.cell 0
 have s4:W3a.cell? ⟨w.heap.size,0,none⟩=some (.pointer (some ⟨p,0,none⟩)):=(jD.grown hg3a (by simp;omega)).cell 0
 have j3:=jD.grown hg3 (by simp;omega)
 have s5:W3.cell? ⟨w.heap.size,0,none⟩=some (.pointer (some ⟨p,0,none⟩)):=j3.cell 0
 have s6:W4a.cell? ⟨w.heap.size,0,none⟩=some (.pointer (some ⟨p,0,none⟩)):=(j3.grown hg4a (by simp;omega)).cell 0
 have j4:=j3.grown hg4 (by simp;omega)
 have s7:W4.cell? ⟨w.heap.size,0,none⟩=some (.pointer (some ⟨p,0,none⟩)):=j4.cell 0
 have s8:W5a.cell? ⟨w.heap.size,0,none⟩=some (.pointer (some ⟨p,0,none⟩)):=(j4.grown hg5a (by simp;omega)).cell 0
 have s9:W5.cell? ⟨w.heap.size,0,none⟩=some (.pointer (some ⟨p,0,none⟩)):=(j4.grown hg5 (by simp;omega)).cell 0
 have hfin:z3h_ w r p (.returned (.map (some (w.heap.size+1+1)))) W5:=by
  subst hH
  refine⟨_,_,_,_,_,_,_,_,rfl,hm5,?_,?_⟩
  ·have b1:=Bk.new W2 64 #[.pointer (some ⟨p,3,none⟩)]
   have b2:=Bk.new (W2.alloc (.cells #[.pointer (some ⟨p,3,none⟩)] 64)) 64 #[.pointer (some ⟨p,4,none⟩)]
   have b3:=Bk.new ((W2.alloc (.cells #[.pointer (some ⟨p,3,none⟩)] 64)).alloc (.cells #[.pointer (some ⟨p,4,none⟩)] 64)) 64 #[.pointer (some ⟨p,5,none⟩)]
   rw[World.size_alloc] at b2
   rw[World.size_alloc,World.size_alloc] at b3
   have c1:=(((b1.alloc (.cells #[.pointer (some ⟨p,4,none⟩)] 64)).alloc (.cells #[.pointer (some ⟨p,5,none⟩)] 64)).drewN 1).grown hgD (by simp;omega)
   have c2:=((b2.alloc (.cells #[.pointer (some ⟨p,5,none⟩)] 64)).drewN 1).grown hgD (by simp;omega)
   have c3:=(b3.drewN 1).grown hgD (by simp;omega)
   have cr:=((((jr.alloc (.cells #[.pointer (some ⟨p,3,none⟩)] 64)).alloc (.cells #[.pointer (some ⟨p,4,none⟩)] 64)).alloc (.cells #[.pointer (some ⟨p,5,none⟩)] 64)).drewN 1).grown hgD (by simp)
   exact⟨cr.cell 0,s9,c1.cell 0,c2.cell 0,c3.cell 0,by omega⟩
  ·have h0:Bel w (((W2.alloc (.cells #[.pointer (some ⟨p,3,none⟩)] 64)).alloc (.cells #[.pointer (some ⟨p,4,none⟩)] 64)).alloc (.cells #[.pointer (some ⟨p,5,none⟩)] 64)).drew:=((((hbel.alloc (by omega) _).alloc (by simp;omega) _).alloc (by simp;omega) _).drew)
   exact h0.grown hgD (by simp;omega) (by intro k hk;cases hk;omega)
 have HFIN:=hiD hfin
 unfold z6k_ at hu3a
 unfold fnV z7_ at hu3
 rw[show ((2:Nat):Int)=2 from rfl] at hu3a hu3
 unfold z7f_ at hu4a
 unfold fnV z7_ at hu4
 rw[show ((2+1:Nat):Int)=3 from rfl] at hu4a hu4
 unfold zjr_ at hu5a
 unfold fnV z7_ at hu5
 rw[show ((2+1+1:Nat):Int)=4 from rfl] at hu5a hu5
 subst hH
 clear hm2 hm1 hm0 hbel hg1 hg2 hgg hB hd jd jr jp hmD hm3 hm4 hm5 hgD hg3 hg4 hg5 hg3a hg4a hg5a jD j3 j4 hfin HB HM HJ
 unfold z7_
 go_enter Tryz.func115,Tryz.ntmps115
 go_wp2_with fail
 clear hu1 hu2 hmm hmf
 go_region_held3 (fun w'=>w'.cell? ⟨w.heap.size,0,none⟩=some (.pointer (some ⟨p,0,none⟩))) (first|exact kd|exact s1|exact s2|exact s3|exact s4|exact s5|exact s6|exact s7|exact s8|exact s9) (first
  |(go_at_call 179;(with_reducible refine(z41_ (w.heap.size+1) p 3 _).mono ?_);rintro e w3 ⟨rfl,rfl⟩)
  |(go_at_call 179;(with_reducible refine(z41_ (w.heap.size+1) p 4 _).mono ?_);rintro e w4 ⟨rfl,rfl⟩)
  |(go_at_call 179;(with_reducible refine(z41_ (w.heap.size+1) p 5 _).mono ?_);rintro e w5 ⟨rfl,rfl⟩))
 all_goals
  go_wp2_with fail
  go_ret
  exact HFIN.out
end Go.Proofs.YtakfpngfpknedaaGreatDoor
