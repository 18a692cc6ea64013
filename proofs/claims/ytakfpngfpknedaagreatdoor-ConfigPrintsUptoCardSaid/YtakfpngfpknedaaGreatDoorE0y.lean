import Derived.Test.YtakfpngfpknedaaGreatDoorE0q
import Derived.Test.YtakfpngfpknedaaGreatDoorE0x
set_option linter.all false
set_option maxHeartbeats 8000000
set_option maxRecDepth 100000
set_option linter.all false
namespace Go.Proofs.YtakfpngfpknedaaGreatDoor
open Go.RowKit
def jw_ (c:Cfg.ConfE) (va vc vl vi vr vu:Value):Value:= .agg (za_ c va vc vl vi vr vu)
def IdxA (w:World) (v:Value) (xs:List Cfg.IndexE):Prop:=
 (xs=[]∧v= .slice none 0 0)∨∃ (b o c:Nat),v= .slice (some ⟨b,o,none⟩) xs.length c∧xs.length≤c∧∀ (j:Nat) u,(xs.flatMap zr_)[j]?=some u→w.cell? ⟨b,o+j,none⟩=some u
theorem IdxA.below {w w':World} {v:Value} {xs:List Cfg.IndexE} (h:IdxA w v xs) (hb:Bel w w'):IdxA w' v xs:=by
 rcases h with h|⟨b,o,c,rfl,hc,hx⟩
 ·exact .inl h
 ·exact .inr ⟨b,o,c,rfl,hc,fun j u hj=>(hb.cell (z9_ (hx j u hj))).trans (hx j u hj)⟩
theorem z76_:∀ xs:List Cfg.IndexE,(xs.flatMap zr_).length=xs.length * 4
 |[]=>rfl
 |x::l=>by
  rw[List.flatMap_cons,List.length_append,z76_ l,List.length_cons]
  simp only[zr_,List.length_cons,List.length_nil]
  omega
theorem OwnI.idxA {B:Nat} {w:World} {v:Value} {xs:List Cfg.IndexE} (h:OwnI B w v xs):IdxA w v xs:=by
 obtain⟨⟨h1,h2⟩,h3⟩:=h
 rcases h2 with ⟨rfl,hn⟩|⟨g,cap,cur,rfl,r2,r3,r4,r5,r6,r7⟩
 ·exact .inl ⟨List.eq_nil_of_length_eq_zero hn,rfl⟩
 ·refine .inr ⟨g,0,cap,rfl,r4,fun j u hj=>?_⟩
  rw[Nat.zero_add]
  have hl:j<xs.length * 4:=by
   have:=(List.getElem?_eq_some_iff.1 hj).1
   rw[z76_] at this
   exact this
  have hc:cur.toList[j]?=some u:=by
   have:(cur.toList.take (xs.length * 4))[j]?=some u:=by rw[r7];exact hj
   rw[List.getElem?_take,if_pos hl] at this
   exact this
  show World.cell? _ _=_
  simp only[World.cell?,r3]
  simpa using hc
def ConfA (w:World) (v:Value) (c:Cfg.ConfE):Prop:=∃ va vc vl vi vr vu,v=jw_ c va vc vl vi vr vu∧TextsA w va c.attrs∧TextsA w vc c.classes∧TextsA w vl c.acls∧IdxA w vi c.indexes∧TextsA w vr c.refs∧TextsA w vu c.unique
theorem ConfA.below {w w':World} {v:Value} {c:Cfg.ConfE} (h:ConfA w v c) (hb:Bel w w'):ConfA w' v c:=by
 obtain⟨va,vc,vl,vi,vr,vu,rfl,h1,h2,h3,h4,h5,h6⟩:=h
 exact⟨va,vc,vl,vi,vr,vu,rfl,h1.below hb,h2.below hb,h3.below hb,h4.below hb,h5.below hb,h6.below hb⟩
def ConfT (w:World) (v:Value) (c:Cfg.ConfE):Prop:=∃ va vc vl vi vr vu,v=jw_ c va vc vl vi vr vu∧Texts w va c.attrs∧Texts w vc c.classes∧Texts w vl c.acls∧IdxA w vi c.indexes∧Texts w vr c.refs∧Texts w vu c.unique
theorem ConfT.a {w:World} {v:Value} {c:Cfg.ConfE} (h:ConfT w v c):ConfA w v c:=by
 obtain⟨va,vc,vl,vi,vr,vu,rfl,h1,h2,h3,h4,h5,h6⟩:=h
 exact⟨va,vc,vl,vi,vr,vu,rfl,zp_ h1,zp_ h2,zp_ h3,h4,zp_ h5,zp_ h6⟩
theorem ConfT.below {w w':World} {v:Value} {c:Cfg.ConfE} (h:ConfT w v c) (hb:Bel w w'):ConfT w' v c:=by
 obtain⟨va,vc,vl,vi,vr,vu,rfl,h1,h2,h3,h4,h5,h6⟩:=h
 exact⟨va,vc,vl,vi,vr,vu,rfl,h1.below hb,h2.below hb,h3.below hb,h4.below hb,h5.below hb,h6.below hb⟩
theorem ConfB.reads {B p:Nat} {w:World} {c:Cfg.ConfE} {va vc vl vi vr vu:Value} (h:ConfB B p w c va vc vl vi vr vu):ConfT w (jw_ c va vc vl vi vr vu) c:=by
 refine⟨_,_,_,_,_,_,rfl,?_,?_,?_,h.idx.idxA,?_,?_⟩
 ·exact(h.rows.at_ 0 (by simp [zi_])).texts
 ·exact(h.rows.at_ 1 (by simp [zi_])).texts
 ·exact(h.rows.at_ 2 (by simp [zi_])).texts
 ·exact(h.rows.at_ 3 (by simp [zi_])).texts
 ·exact(h.rows.at_ 4 (by simp [zi_])).texts
theorem ConfB.mid {B p q:Nat} {w w':World} {c:Cfg.ConfE} {va vc vl vi vr vu:Value} (h:ConfB B p w c va vc vl vi vr vu) (hg:w.grownBy w' (some q)) (hq:q<B) (hne:p≠q):ConfB B p w' c va vc vl vi vr vu:=
 ⟨h.bk.grown hg (fun e=>hne (Option.some.inj e)),h.lt,h.rows.keep hg (fun k hk=>by cases hk;exact hq),h.idx.keep hg (fun k hk=>by cases hk;exact hq),h.far⟩
def PRet (w:World) (R:Cfg.ConfE × Int × Int) (e:Ending) (w':World):Prop:=Bel w w'∧∃ v,e= .returned (.tuple #[v,.int .i64 R.2.1,.int .i64 R.2.2])∧ConfT w' v R.1
/-! Twelve cells stored. -/
def zg0_ (W:World) (b:Nat) (v0 v1 v2 v3 v4 v5 v6 v7 v8 v9 v10 v11:Value):World:=(((((((((((W.setCell ⟨b,0,none⟩ v0).setCell ⟨b,1,none⟩ v1).setCell ⟨b,2,none⟩ v2).setCell ⟨b,3,none⟩ v3).setCell ⟨b,4,none⟩ v4).setCell ⟨b,5,none⟩ v5).setCell ⟨b,6,none⟩ v6).setCell ⟨b,7,none⟩ v7).setCell ⟨b,8,none⟩ v8).setCell ⟨b,9,none⟩ v9).setCell ⟨b,10,none⟩ v10).setCell ⟨b,11,none⟩ v11
section
variable {W:World} {b n:Nat} {t:TypeId} {u0 u1 u2 u3 u4 u5 u6 u7 u8 u9 u10 u11:Value} (v0 v1 v2 v3 v4 v5 v6 v7 v8 v9 v10 v11:Value)
theorem ji_ (h:Bk W b t #[u0,u1,u2,u3,u4,u5,u6,u7,u8,u9,u10,u11]):Bk (zg0_ W b v0 v1 v2 v3 v4 v5 v6 v7 v8 v9 v10 v11) b t #[v0,v1,v2,v3,v4,v5,v6,v7,v8,v9,v10,v11]:=by
 have:=((((((((((((h.set 0 v0).set 1 v1).set 2 v2).set 3 v3).set 4 v4).set 5 v5).set 6 v6).set 7 v7).set 8 v8).set 9 v9).set 10 v10).set 11 v11)
 simpa [zg0_] using this
theorem ql_:W.grownBy (zg0_ W b v0 v1 v2 v3 v4 v5 v6 v7 v8 v9 v10 v11) (some b):=(((((((((((((World.grownBy.refl W (some b)).trans (z6_ _ b 0 v0)).trans (z6_ _ b 1 v1)).trans (z6_ _ b 2 v2)).trans (z6_ _ b 3 v3)).trans (z6_ _ b 4 v4)).trans (z6_ _ b 5 v5)).trans (z6_ _ b 6 v6)).trans (z6_ _ b 7 v7)).trans (z6_ _ b 8 v8)).trans (z6_ _ b 9 v9)).trans (z6_ _ b 10 v10)).trans (z6_ _ b 11 v11))
theorem zo_ {a:World} (h:Below n a W) (hb:n≤b):Below n a (zg0_ W b v0 v1 v2 v3 v4 v5 v6 v7 v8 v9 v10 v11):=((((((((((((h.setCell (p:=⟨b,0,none⟩) hb v0).setCell (p:=⟨b,1,none⟩) hb v1).setCell (p:=⟨b,2,none⟩) hb v2).setCell (p:=⟨b,3,none⟩) hb v3).setCell (p:=⟨b,4,none⟩) hb v4).setCell (p:=⟨b,5,none⟩) hb v5).setCell (p:=⟨b,6,none⟩) hb v6).setCell (p:=⟨b,7,none⟩) hb v7).setCell (p:=⟨b,8,none⟩) hb v8).setCell (p:=⟨b,9,none⟩) hb v9).setCell (p:=⟨b,10,none⟩) hb v10).setCell (p:=⟨b,11,none⟩) hb v11)
end
theorem ju_ (w:World):ConfT w (jw_ Cfg.zeroC (.slice none 0 0) (.slice none 0 0) (.slice none 0 0) (.slice none 0 0) (.slice none 0 0) (.slice none 0 0)) Cfg.zeroC:=⟨_,_,_,_,_,_,rfl,.inl ⟨rfl,rfl⟩,.inl ⟨rfl,rfl⟩,.inl ⟨rfl,rfl⟩,.inl ⟨rfl,rfl⟩,.inl ⟨rfl,rfl⟩,.inl ⟨rfl,rfl⟩⟩
structure Out2 (B p q:Nat) (w w':World):Prop where
 os:w'.os=w.os
 tape:w'.tape=w.tape
 output:w'.output=w.output
 size:w.heap.size≤w'.heap.size
 block:∀ k,k<B→k≠p→k≠q→w'.heap[k]?=w.heap[k]?
section
variable {B p q n:Nat} {a w w':World}
theorem Out2.refl:Out2 B p q w w:=⟨rfl,rfl,rfl,nR _,fun _ _ _ _=>rfl⟩
theorem Out2.trans {c:World} (h:Out2 B p q a w) (k:Out2 B p q w c):Out2 B p q a c:=
 ⟨k.os.trans h.os,k.tape.trans h.tape,k.output.trans h.output,nT h.size k.size,fun i hi hn hm=>(k.block i hi hn hm).trans (h.block i hi hn hm)⟩
theorem OutB.two (h:OutB B p w w'):Out2 B p q w w':=⟨h.os,h.tape,h.output,h.size,fun k hk hn _=>h.block k hk hn⟩
theorem Out2.of_grown (hg:w.grownBy w' (some q)) (hB:B≤w.heap.size):Out2 B p q w w':=⟨hg.os,hg.tape,hg.output,hg.size,fun k hk _ hn=>hg.block k (by omega) (fun e=>hn (Option.some.inj e))⟩
theorem Out2.below (h:Out2 B p q w w') (hp:n≤p) (hq:n≤q) (hB:n≤B):Below n w w':=⟨h.os,h.tape,h.output,h.size,fun k hk=>h.block k (by omega) (by omega) (by omega)⟩
theorem Out2.bk (h:Out2 B p q w w') {g:Nat} {t:TypeId} {cs:Array Value} (hb:Bk w g t cs) (hg:g<B) (hp:g≠p) (hq:g≠q):Bk w' g t cs:=(h.block g hg hp hq).trans hb
end
structure All19 (B p m q:Nat) (w:World):Prop where
 size:w.heap.size=B
 mp:m<B∧m≠p∧m≠q
 qp:q<B∧q≠p
 seen:∃ es c,w.heap[q]?=some (.map es c)
 conf:∃ cs,Bk w p 25 cs
 map:∃ es c R,MapS w m es c R∧∀ n,(Cfg.kindOf n=none→qe_ R n=none)∧∀ k,Cfg.kindOf n=some k→∃ v,qe_ R n=some v∧WordK w p k v
theorem z1l_ (n:LU):(Cfg.kindOf n=none→∀ x∈entsL,x.2.1≠n)∧∀ k,Cfg.kindOf n=some k→∃ x∈entsL,x.2=(n,k):=by
 have h1:∀ x∈entsL,x.2∈Cfg.kinds:=by decide
 have h2:∀ y∈Cfg.kinds,∃ x∈entsL,x.2=y:=by decide
 unfold Cfg.kindOf
 constructor
 ·intro h x hx he
  rw[Option.map_eq_none_iff,List.find?_eq_none] at h
  exact h _ (h1 x hx) (by rw[he];exact beq_self_eq_true n)
 ·intro k hk
  obtain⟨y,hy,rfl⟩:=Option.map_eq_some_iff.1 hk
  have h3:=List.mem_of_find?_eq_some hy
  have h4:=List.find?_some hy
  obtain⟨x,hx,rfl⟩:=h2 _ h3
  exact⟨x,hx,by rw[← eq_of_beq h4]⟩
theorem All19.ask {B p m q:Nat} {w W:World} (h:All19 B p m q w) (ho:Out2 B p q w W) (n:LU):
  (Cfg.kindOf n=none→(Instr.lookup 47 (.map (some m)) (.string ⟨n.toArray⟩) true).run Tryz.prog W= .ok (.tuple #[.agg #[.bool false,.nilFunc],.bool false]) W)∧
  ∀ k,Cfg.kindOf n=some k→∃ v,WordK w p k v∧(Instr.lookup 47 (.map (some m)) (.string ⟨n.toArray⟩) true).run Tryz.prog W= .ok (.tuple #[v,.bool true]) W:=by
 obtain⟨es,c,R,hM,hL⟩:=h.map
 have hM2:MapS W m es c R:=hM.keep (ho.block m h.mp.1 h.mp.2.1 h.mp.2.2)
 have ha:=hM2.ask (k:=n) ziq_ zeroW
 constructor
 ·intro hk
  rw[(hL n).1 hk] at ha
  exact ha
 ·intro k hk
  obtain⟨v,hv,hw⟩:=(hL n).2 k hk
  rw[hv] at ha
  exact⟨v,hw,ha⟩
theorem All19.bk {B p m q:Nat} {w W:World} (h:All19 B p m q w) (ho:Out2 B p q w W) {b:Nat} {t:TypeId} {cs:Array Value} (hb:Bk w b t cs) (hB:b<B) (hp:b≠p):Bk W b t cs:=ho.bk hb hB hp (fun e=>by
 obtain⟨es,c,hm⟩:=h.seen
 subst e
 have:=hb.symm.trans hm
 simp at this)
theorem All19.made {p m:Nat} {w0 w:World} (hI:MapI w0 p (Array.replicate 72 true) m w) (hc:∃ cs,Bk w p 25 cs) (hp:p<m):All19 (w.heap.size+1) p m w.heap.size (w.alloc (.map #[] 0)):=by
 obtain⟨es,c,R,hM,hlt,h1,h2,h3⟩:=hI
 have hml:=hM.lt
 obtain⟨cs,hc⟩:=hc
 have hpl:=hc.lt
 refine⟨by rw[World.size_alloc],⟨by omega,by omega,by omega⟩,⟨by omega,by omega⟩,⟨_,_,heap_alloc_new w _⟩,⟨cs,hc.alloc _⟩,es,c,R,hM.alloc _,fun n=>⟨fun hn=>h3 n ((z1l_ n).1 hn),fun k hk=>?_⟩⟩
 obtain⟨x,hx,he⟩:=(z1l_ n).2 k hk
 obtain⟨v,hv,hw⟩:=h1 x hx (by
  have:∀ x∈entsL,(Array.replicate 72 true).getD x.1 false=true:=by decide
  exact this x hx)
 rw[he] at hv hw
 exact⟨v,hv,hw.below (zs_ _ _)⟩
end Go.Proofs.YtakfpngfpknedaaGreatDoor
set_option linter.all false
namespace Go.Proofs.YtakfpngfpknedaaGreatDoor
open Go.RowKit
theorem j9_ {w W:World} {tmps:Array Value} {b:Nat} {c:Cfg.ConfE} {va vc vl vi vr vu:Value} {code at_:Int} {R:Cfg.ConfE × Int × Int} (hz:Bk W b 25 (za_ c va vc vl vi vr vu)) (h2:tmps[2]?=some (.pointer (some ⟨b,0,none⟩))) (h3:tmps[3]?=some (.int .i64 code)) (h4:tmps[4]?=some (.int .i64 at_)) (hb:Below w.heap.size w W) (hc:ConfT W (jw_ c va vc vl vi vr vu) c) (hR:R=(c,code,at_)):
  bodyPost Tryz.prog Tryz.f7 (PRet w R) .ret {tmps:=tmps,defers:=[]} W:=by
 have e2:tmps[2]?.getD undef= .pointer (some ⟨b,0,none⟩):=by rw[h2];rfl
 have e3:tmps[3]?.getD undef= .int .i64 code:=by rw[h3];rfl
 have e4:tmps[4]?.getD undef= .int .i64 at_:=by rw[h4];rfl
 unfold za_ at hz
 have r0:=hz.cell 0
 have r1:=hz.cell 1
 have r2:=hz.cell 2
 have r3:=hz.cell 3
 have r4:=hz.cell 4
 have r5:=hz.cell 5
 have r6:=hz.cell 6
 have r7:=hz.cell 7
 have r8:=hz.cell 8
 have r9:=hz.cell 9
 have r10:=hz.cell 10
 have r11:=hz.cell 11
 simp only[List.getElem?_toArray,List.getElem?_cons_zero,List.getElem?_cons_succ] at r0 r1 r2 r3 r4 r5 r6 r7 r8 r9 r10 r11
 subst hR
 refine bodyPost_ret (v:= .tuple #[jw_ c va vc vl vi vr vu,.int .i64 code,.int .i64 at_]) ?_ rfl ⟨hb,_,rfl,hc⟩
 unfold jw_ za_
 simp [results,Tryz.results7,go_sem,e2,e3,e4,r0,r1,r2,r3,r4,r5,r6,r7,r8,r9,r10,r11]
theorem ConfB.slices {B p:Nat} {w:World} {c:Cfg.ConfE} {va vc vl vi vr vu:Value} (h:ConfB B p w c va vc vl vi vr vu):(∃ A n,va= .slice A c.attrs.length n)∧(∃ A n,vc= .slice A c.classes.length n)∧(∃ A n,vl= .slice A c.acls.length n)∧(∃ A n,vi= .slice A c.indexes.length n)∧(∃ A n,vr= .slice A c.refs.length n)∧(∃ A n,vu= .slice A c.unique.length n):=by
 refine⟨?_,?_,?_,?_,?_,?_⟩
 ·obtain⟨A,n,h1,_⟩:=(h.rows.at_ 0 (by simp [zi_])).isSlice;exact⟨A,n,h1⟩
 ·obtain⟨A,n,h1,_⟩:=(h.rows.at_ 1 (by simp [zi_])).isSlice;exact⟨A,n,h1⟩
 ·obtain⟨A,n,h1,_⟩:=(h.rows.at_ 2 (by simp [zi_])).isSlice;exact⟨A,n,h1⟩
 ·obtain⟨A,n,h1,_⟩:=h.idx.isSlice;exact⟨A,n,h1⟩
 ·obtain⟨A,n,h1,_⟩:=(h.rows.at_ 3 (by simp [zi_])).isSlice;exact⟨A,n,h1⟩
 ·obtain⟨A,n,h1,_⟩:=(h.rows.at_ 4 (by simp [zi_])).isSlice;exact⟨A,n,h1⟩
namespace Cfg
theorem go_none {l:List (List UInt8)} {k:Nat} {c:ConfE} {seen:List (List UInt8)} {t:Int} (h:k<l.length) (hk:kindOf (nameS l[k])=none):goC (l.drop k) k c seen t=(zeroC,50,(k:Int)):=by
 rw[List.drop_eq_getElem_cons h,goC,hk]
theorem go_empty {l:List (List UInt8)} {k:Nat} {c:ConfE} {seen:List (List UInt8)} {t:Int} (h:k<l.length) {kd:Kind} (hk:kindOf (nameS l[k])=some kd) (ha:argS l[k]=[]):goC (l.drop k) k c seen t=(zeroC,50,(k:Int)):=by
 rw[List.drop_eq_getElem_cons h,goC,hk]
 simp only[ha,if_true]
theorem go_bad {l:List (List UInt8)} {k:Nat} {c:ConfE} {seen:List (List UInt8)} {t:Int} (h:k<l.length) {kd:Kind} (hk:kindOf (nameS l[k])=some kd) (ha:argS l[k]≠[]) (hb:(takeK kd (argS l[k]) c).2=false):goC (l.drop k) k c seen t=(zeroC,50,(k:Int)):=by
 rw[List.drop_eq_getElem_cons h,goC,hk]
 simp only[ha,hb,if_false,Bool.false_eq_true]
theorem go_next {l:List (List UInt8)} {k:Nat} {c:ConfE} {seen:List (List UInt8)} {t:Int} (h:k<l.length) {kd:Kind} (hk:kindOf (nameS l[k])=some kd) (ha:argS l[k]≠[]) (hb:(takeK kd (argS l[k]) c).2=true):goC (l.drop k) k c seen t=goC (l.drop (k+1)) (k+1) (takeK kd (argS l[k]) c).1 (nameS l[k]::seen) (if seen.contains (nameS l[k]) && onceK kd && decide (t<0) then (k:Int) else t):=by
 rw[List.drop_eq_getElem_cons h,goC,hk]
 simp only[ha,hb,if_false,if_true]
end Cfg
set_option maxRecDepth 100000 in
theorem zbg_ (l:List (List UInt8)) (A:Option Addr) (cp:Nat) (w:World) (h200:200<l.length):
  Calls Tryz.prog 7 #[.slice A l.length cp] w (PRet w (Cfg.parseC l)):=by
 have hR:Cfg.parseC l=(Cfg.zeroC,2,0):=if_pos h200
 have hi:(200:Int)<(l.length:Int):=by omega
 have hz:=Bk.new w 25 #[.string ⟨#[]⟩,.string ⟨#[]⟩,.string ⟨#[]⟩,.int .i64 0,.slice none 0 0,.slice none 0 0,.slice none 0 0,.slice none 0 0,.bool false,.bool false,.slice none 0 0,.slice none 0 0]
 have hb0:=zs_ w (.cells #[.string ⟨#[]⟩,.string ⟨#[]⟩,.string ⟨#[]⟩,.int .i64 0,.slice none 0 0,.slice none 0 0,.slice none 0 0,.slice none 0 0,.bool false,.bool false,.slice none 0 0,.slice none 0 0] 25)
 rw[hR]
 have HZ:=Lib.hid hz
 have HB0:=Lib.hid hb0
 have f0:=hz.frozen 0
 have f1:=hz.frozen 1
 have f2:=hz.frozen 2
 have f3:=hz.frozen 3
 have f4:=hz.frozen 4
 have f5:=hz.frozen 5
 have f6:=hz.frozen 6
 have f7:=hz.frozen 7
 have f8:=hz.frozen 8
 have f9:=hz.frozen 9
 have f10:=hz.frozen 10
 have f11:=hz.frozen 11
 have r0:=hz.cell 0
 have r1:=hz.cell 1
 have r2:=hz.cell 2
 have r3:=hz.cell 3
 have r4:=hz.cell 4
 have r5:=hz.cell 5
 have r6:=hz.cell 6
 have r7:=hz.cell 7
 have r8:=hz.cell 8
 have r9:=hz.cell 9
 have r10:=hz.cell 10
 have r11:=hz.cell 11
 simp only[List.getElem?_toArray,List.getElem?_cons_zero,List.getElem?_cons_succ] at r0 r1 r2 r3 r4 r5 r6 r7 r8 r9 r10 r11
 clear hz hb0 hR h200
 go_enter Tryz.func7,Tryz.ntmps7
 go_wp2_with fail
 exact j9_ (c:=Cfg.zeroC) HZ.out rfl rfl rfl HB0.out (ju_ _) rfl
set_option maxRecDepth 100000 in
theorem zah_ (l:List (List UInt8)) (A:Option Addr) (cp:Nat) (w:World) (hw:Env w) (h200:¬ 200<l.length) (hcell:∀ j (hj:j<l.length),∃ a,A=some a∧w.cell? (a.add j)=some (.string ⟨l[j].toArray⟩)) (hs:∀ s∈l,s.length≤3000000):
  Calls Tryz.prog 7 #[.slice A l.length cp] w (PRet w (Cfg.parseC l)):=by
 have hR:Cfg.parseC l=Cfg.goC l 0 Cfg.zeroC [] (-1):=if_neg h200
 rw[hR]
 clear hR
 have hi:¬ (200:Int)<(l.length:Int):=by omega
 have hln:(l.length:Int)≤200:=by omega
 have HW19:=Lib.hid (fun (p:Nat) (W:World)=>zdh_ p W)
 have hmm:=@run_makeMap Tryz.prog
 have hz0:=Bk.new w 25 #[.string ⟨#[]⟩,.string ⟨#[]⟩,.string ⟨#[]⟩,.int .i64 0,.slice none 0 0,.slice none 0 0,.slice none 0 0,.slice none 0 0,.bool false,.bool false,.slice none 0 0,.slice none 0 0]
 have hb0:=zs_ w (.cells #[.string ⟨#[]⟩,.string ⟨#[]⟩,.string ⟨#[]⟩,.int .i64 0,.slice none 0 0,.slice none 0 0,.slice none 0 0,.slice none 0 0,.bool false,.bool false,.slice none 0 0,.slice none 0 0] 25)
 have hz2:=hz0.alloc (.cells #[.string ⟨#[]⟩,.string ⟨#[]⟩,.string ⟨#[]⟩,.int .i64 0,.slice none 0 0,.slice none 0 0,.slice none 0 0,.slice none 0 0,.bool false,.bool false,.slice none 0 0,.slice none 0 0] 25)
 have hb2:=hb0.alloc hb0.size (.cells #[.string ⟨#[]⟩,.string ⟨#[]⟩,.string ⟨#[]⟩,.int .i64 0,.slice none 0 0,.slice none 0 0,.slice none 0 0,.slice none 0 0,.bool false,.bool false,.slice none 0 0,.slice none 0 0] 25)
 have hp2:=Bk.new (w.alloc (.cells #[.string ⟨#[]⟩,.string ⟨#[]⟩,.string ⟨#[]⟩,.int .i64 0,.slice none 0 0,.slice none 0 0,.slice none 0 0,.slice none 0 0,.bool false,.bool false,.slice none 0 0,.slice none 0 0] 25)) 25 #[.string ⟨#[]⟩,.string ⟨#[]⟩,.string ⟨#[]⟩,.int .i64 0,.slice none 0 0,.slice none 0 0,.slice none 0 0,.slice none 0 0,.bool false,.bool false,.slice none 0 0,.slice none 0 0]
 rw[World.size_alloc] at hp2
 have HZ2:=Lib.hid hz2
 have HB2:=Lib.hid hb2
 have HP2:=Lib.hid hp2
 have HL:=Lib.hid hcell
 have HW:=Lib.hid hw
 have HS0:=Lib.hid hs
 clear hz0 hb0 hz2 hb2 hp2 hcell hw hs h200
 go_enter Tryz.func7,Tryz.ntmps7
 go_upto_region 4 with fail
 generalize (w.alloc (.cells #[.string ⟨#[]⟩,.string ⟨#[]⟩,.string ⟨#[]⟩,.int .i64 0,.slice none 0 0,.slice none 0 0,.slice none 0 0,.slice none 0 0,.bool false,.bool false,.slice none 0 0,.slice none 0 0] 25)).alloc (.cells #[.string ⟨#[]⟩,.string ⟨#[]⟩,.string ⟨#[]⟩,.int .i64 0,.slice none 0 0,.slice none 0 0,.slice none 0 0,.slice none 0 0,.bool false,.bool false,.slice none 0 0,.slice none 0 0] 25)=W2 at *
 go_upto_region 5 with (go_at_call 20;(with_reducible refine(HW19.out _ _).mono ?_);rintro e w3 ⟨m,rfl,hM,hb3⟩;have HM:=Lib.hid hM;have HB3:=Lib.hid hb3;clear hM hb3)
 have hpl:=HP2.out.lt
 have hA:=All19.made (p:=w.heap.size+1) HM.out ⟨_,HP2.out.below HB3.out⟩ (by
  obtain⟨_,_,_,_,h,_⟩:=HM.out
  omega)
 have hC:=ConfB.made (B:=w3.heap.size+1) (w:=w3.alloc (.map #[] 0)) ((HP2.out.below HB3.out).alloc (.map #[] 0)) (by have:=HB3.out.size;omega) (by rw[World.size_alloc];exact Nat.le_refl _)
 have hS:=SeenS.made w3
 have hbr:=(HZ2.out.below HB3.out).alloc (.map #[] 0)
 have hbw:=(HB2.out.trans (HB3.out.mono HB2.out.size)).alloc (Nat.le_trans HB2.out.size HB3.out.size) (.map #[] 0)
 have hq:w.heap.size+1<w3.heap.size:=by have:=HB3.out.size;omega
 have HA:=Lib.hid hA
 have HC0:=Lib.hid hC
 have HS1:=Lib.hid hS
 have HBR:=Lib.hid hbr
 have HBW:=Lib.hid hbw
 clear hA hC hS hbr hbw HZ2 HB2 HP2 HW19 HM HB3 hpl
 go_upto_region 6 with fail
 generalize w3.alloc (.map #[] 0)=w4 at *
 generalize w3.heap.size=q at *
 clear hmm
 go_wp2_with fail
 go_loopg [8,26] l.length (fun gk tw ix wr=>∃ (k:Nat) (c:Cfg.ConfE) (seen:List (List UInt8)) (t:Int) (va vc vl vi vr vu:Value),k≤l.length∧tw= .int .i64 t∧ix= .int .i64 (k:Int)∧Aside (k+gk=l.length)∧Aside (Cfg.goC l 0 Cfg.zeroC [] (-1)=Cfg.goC (l.drop k) k c seen t)∧Aside (Out2 (q+1) (w.heap.size+1) q w4 wr)∧Aside (ConfB (q+1) (w.heap.size+1) wr c va vc vl vi vr vu)∧Aside (SeenS wr q seen)∧Aside (Few k c))
 case atStart=>exact⟨0,Cfg.zeroC,[], -1,_,_,_,_,_,_,Nat.zero_le _,rfl,rfl,by show _=_;omega,rfl,Out2.refl,HC0.out,HS1.out,by refine⟨?_,?_,?_,?_,?_,?_⟩<;>exact Nat.zero_le _⟩
 case round=>
 clear HC0 HS1
 obtain⟨k,c,seen,t,va,vc,vl,vi,vr,vu,hk,rfl,rfl,AG,AE,AO,AC,AS,AF⟩:=hrel
 have HO:=Lib.hid AO.out
 have HC:=Lib.hid AC.out
 have HS:=Lib.hid AS.out
 have HF:=Lib.hid AF.out
 have HG:=Lib.hid AE.out
 clear AO AC AS AF AE
 have HOW:Hid (∀ {W:World},Out2 (q+1) (w.heap.size+1) q w4 W→Below w.heap.size w W):=Lib.hid fun h=>HBW.out.trans (h.below (by omega) (by omega) (by omega))
 have HEn:Hid (∀ {W:World},Out2 (q+1) (w.heap.size+1) q w4 W→Env W):=Lib.hid fun h=>HW.out.keep (HOW.out h)
 have HRr:Hid (∀ {W:World},Out2 (q+1) (w.heap.size+1) q w4 W→Bk W w.heap.size 25 #[.string ⟨#[]⟩,.string ⟨#[]⟩,.string ⟨#[]⟩,.int .i64 0,.slice none 0 0,.slice none 0 0,.slice none 0 0,.slice none 0 0,.bool false,.bool false,.slice none 0 0,.slice none 0 0]):=Lib.hid fun h=>h.bk HBR.out (by omega) (by omega) (by omega)
 by_cases hkl:k<l.length
 case neg=>
  obtain rfl:k=l.length:=by omega
  have hG:=HG.out
  rw[List.drop_of_length_le (Nat.le_refl _),Cfg.goC] at hG
  by_cases ht:(0:Int)≤t
  ·rw[if_pos ht] at hG
   have HGx:=Lib.hid hG
   have HR9:=Lib.hid (HRr.out HO.out)
   have HB9:=Lib.hid (HOW.out HO.out)
   have f0:=HR9.out.frozen 0
   have f1:=HR9.out.frozen 1
   have f2:=HR9.out.frozen 2
   have f3:=HR9.out.frozen 3
   have f4:=HR9.out.frozen 4
   have f5:=HR9.out.frozen 5
   have f6:=HR9.out.frozen 6
   have f7:=HR9.out.frozen 7
   have f8:=HR9.out.frozen 8
   have f9:=HR9.out.frozen 9
   have f10:=HR9.out.frozen 10
   have f11:=HR9.out.frozen 11
   have r0:=HR9.out.cell 0
   have r1:=HR9.out.cell 1
   have r2:=HR9.out.cell 2
   have r3:=HR9.out.cell 3
   have r4:=HR9.out.cell 4
   have r5:=HR9.out.cell 5
   have r6:=HR9.out.cell 6
   have r7:=HR9.out.cell 7
   have r8:=HR9.out.cell 8
   have r9:=HR9.out.cell 9
   have r10:=HR9.out.cell 10
   have r11:=HR9.out.cell 11
   simp only[List.getElem?_toArray,List.getElem?_cons_zero,List.getElem?_cons_succ] at r0 r1 r2 r3 r4 r5 r6 r7 r8 r9 r10 r11
   clear hG HA HBR HBW HL HW HS0 HOW HEn HRr HO HC HS HF HG
   go_wp2_with fail
   exact j9_ (c:=Cfg.zeroC) (ji_ (.string ⟨#[]⟩) (.string ⟨#[]⟩) (.string ⟨#[]⟩) (.int .i64 0) (.slice none 0 0) (.slice none 0 0) (.slice none 0 0) (.slice none 0 0) (.bool false) (.bool false) (.slice none 0 0) (.slice none 0 0) HR9.out) rfl rfl rfl (zo_ (.string ⟨#[]⟩) (.string ⟨#[]⟩) (.string ⟨#[]⟩) (.int .i64 0) (.slice none 0 0) (.slice none 0 0) (.slice none 0 0) (.slice none 0 0) (.bool false) (.bool false) (.slice none 0 0) (.slice none 0 0) HB9.out (Nat.le_refl _)) (ju_ _) HGx.out
  ·rw[if_neg ht] at hG
   have HGx:=Lib.hid hG
   have HR9:=Lib.hid (HRr.out HO.out)
   have HB9:=Lib.hid (HOW.out HO.out)
   obtain⟨⟨Aa,na,rfl⟩,⟨Ac,nc,rfl⟩,⟨Al,nl,rfl⟩,⟨Ai,ni,rfl⟩,⟨Ar,nr,rfl⟩,⟨Au,nu,rfl⟩⟩:=HC.out.slices
   have f0:=HR9.out.frozen 0
   have f1:=HR9.out.frozen 1
   have f2:=HR9.out.frozen 2
   have f3:=HR9.out.frozen 3
   have f4:=HR9.out.frozen 4
   have f5:=HR9.out.frozen 5
   have f6:=HR9.out.frozen 6
   have f7:=HR9.out.frozen 7
   have f8:=HR9.out.frozen 8
   have f9:=HR9.out.frozen 9
   have f10:=HR9.out.frozen 10
   have f11:=HR9.out.frozen 11
   have r0:=HR9.out.cell 0
   have r1:=HR9.out.cell 1
   have r2:=HR9.out.cell 2
   have r3:=HR9.out.cell 3
   have r4:=HR9.out.cell 4
   have r5:=HR9.out.cell 5
   have r6:=HR9.out.cell 6
   have r7:=HR9.out.cell 7
   have r8:=HR9.out.cell 8
   have r9:=HR9.out.cell 9
   have r10:=HR9.out.cell 10
   have r11:=HR9.out.cell 11
   simp only[List.getElem?_toArray,List.getElem?_cons_zero,List.getElem?_cons_succ] at r0 r1 r2 r3 r4 r5 r6 r7 r8 r9 r10 r11
   have hpc:=HC.out.bk
   unfold za_ at hpc
   have p0:=hpc.cell 0
   have p1:=hpc.cell 1
   have p2:=hpc.cell 2
   have p3:=hpc.cell 3
   have p4:=hpc.cell 4
   have p5:=hpc.cell 5
   have p6:=hpc.cell 6
   have p7:=hpc.cell 7
   have p8:=hpc.cell 8
   have p9:=hpc.cell 9
   have p10:=hpc.cell 10
   have p11:=hpc.cell 11
   simp only[List.getElem?_toArray,List.getElem?_cons_zero,List.getElem?_cons_succ] at p0 p1 p2 p3 p4 p5 p6 p7 p8 p9 p10 p11
   clear hG hpc HA HBR HBW HL HW HS0 HOW HEn HRr HO HS HF HG
   go_wp2_with fail
   exact j9_ (c:=c) (ji_ (.string ⟨c.suffix.toArray⟩) (.string ⟨c.root.toArray⟩) (.string ⟨c.secret.toArray⟩) (.int .i64 c.size) (.slice Aa c.attrs.length na) (.slice Ac c.classes.length nc) (.slice Al c.acls.length nl) (.slice Ai c.indexes.length ni) (.bool c.memberof) (.bool c.audit) (.slice Ar c.refs.length nr) (.slice Au c.unique.length nu) HR9.out) rfl rfl rfl (zo_ (.string ⟨c.suffix.toArray⟩) (.string ⟨c.root.toArray⟩) (.string ⟨c.secret.toArray⟩) (.int .i64 c.size) (.slice Aa c.attrs.length na) (.slice Ac c.classes.length nc) (.slice Al c.acls.length nl) (.slice Ai c.indexes.length ni) (.bool c.memberof) (.bool c.audit) (.slice Ar c.refs.length nr) (.slice Au c.unique.length nu) HB9.out (Nat.le_refl _)) (HC.out.mid (q:=w.heap.size) (ql_ (.string ⟨c.suffix.toArray⟩) (.string ⟨c.root.toArray⟩) (.string ⟨c.secret.toArray⟩) (.int .i64 c.size) (.slice Aa c.attrs.length na) (.slice Ac c.classes.length nc) (.slice Al c.acls.length nl) (.slice Ai c.indexes.length ni) (.bool c.memberof) (.bool c.audit) (.slice Ar c.refs.length nr) (.slice Au c.unique.length nu)) (by omega) (by omega)).reads HGx.out
 case pos=>
 obtain⟨g,rfl⟩:∃ g,gk=g+1:=⟨gk - 1,by have:=AG.out;omega⟩
 obtain⟨av,rfl,hcv⟩:=HL.out k hkl
 have hcw:=((HOW.out HO.out).cell (z9_ hcv)).trans hcv
 have hsl:=HS0.out _ (List.getElem_mem hkl)
 have H1:=Lib.hid (fun hk=>HG.out.trans (Cfg.go_none (c:=c) (seen:=seen) (t:=t) hkl hk))
 have H2:=Lib.hid (fun kd hk ha=>HG.out.trans (Cfg.go_empty (c:=c) (seen:=seen) (t:=t) hkl (kd:=kd) hk ha))
 have H3:=Lib.hid (fun kd hk ha hb=>HG.out.trans (Cfg.go_bad (c:=c) (seen:=seen) (t:=t) hkl (kd:=kd) hk ha hb))
 have H4:=Lib.hid (fun kd hk ha hb=>HG.out.trans (Cfg.go_next (c:=c) (seen:=seen) (t:=t) hkl (kd:=kd) hk ha hb))
 clear hcv HG
 generalize l[k]=s at *
 have hnl:=Cfg.nameS_len s
 have hal:=Cfg.argS_len s
 have HCl:=Lib.hid (fun (W:World)=>z0e_ s W (by omega))
 have HCu:=Lib.hid (fun (W:World) (hw:Env W)=>zie_ s W hw (by omega))
 have hBs:=HC.out.idx.2
 go_upto_region 11 with (first
  |(go_at_call 22;(with_reducible refine(HCl.out _).mono ?_);rintro e w5 ⟨rfl,hb⟩;have HO:=Lib.hid (HO.out.trans (OutB.of_below hb hBs).two);have HC:=Lib.hid (HC.out.below hb);have HS:=Lib.hid (HS.out.keep (hb.block _ HS.out.lt));have hBs:=HC.out.idx.2;clear hb)
  |(go_at_call 21;(with_reducible refine(HCu.out _ (HEn.out HO.out)).mono ?_);rintro e w6 ⟨rfl,hb⟩;have HO:=Lib.hid (HO.out.trans (OutB.of_below hb hBs).two);have HC:=Lib.hid (HC.out.below hb);have HS:=Lib.hid (HS.out.keep (hb.block _ HS.out.lt));have hBs:=HC.out.idx.2;clear hb))
 clear HCl HCu hcw
 generalize s.contains 32=hc32 at *
 obtain⟨nm,hnm⟩:∃ nm,Cfg.nameS s=nm:=⟨_,rfl⟩
 obtain⟨ar,har⟩:∃ ar,Cfg.argS s=ar:=⟨_,rfl⟩
 rw[hnm] at H1 H2 H3 H4 hnl
 rw[har] at H2 H3 H4 hal
 rw[hnm,har]
 clear hnm har
 have hask:=HA.out.ask HO.out nm
 cases hkd:Cfg.kindOf nm with
 |none=>
  have hask:=hask.1 hkd
  have HGx:=Lib.hid (H1.out hkd)
  clear H1 H2 H3 H4 hkd
  go_upto_region 12 with fail
  have hbx:=zs_ w6 (.cells #[.bool false,.nilFunc] 56)
  have HO7:=Lib.hid (HO.out.trans (OutB.of_below hbx hBs).two)
  clear hbx hask
  generalize w6.alloc (.cells #[.bool false,.nilFunc] 56)=w7 at *
  have HR9:=Lib.hid (HRr.out HO7.out)
  have HB9:=Lib.hid (HOW.out HO7.out)
  have f0:=HR9.out.frozen 0
  have f1:=HR9.out.frozen 1
  have f2:=HR9.out.frozen 2
  have f3:=HR9.out.frozen 3
  have f4:=HR9.out.frozen 4
  have f5:=HR9.out.frozen 5
  have f6:=HR9.out.frozen 6
  have f7:=HR9.out.frozen 7
  have f8:=HR9.out.frozen 8
  have f9:=HR9.out.frozen 9
  have f10:=HR9.out.frozen 10
  have f11:=HR9.out.frozen 11
  have r0:=HR9.out.cell 0
  have r1:=HR9.out.cell 1
  have r2:=HR9.out.cell 2
  have r3:=HR9.out.cell 3
  have r4:=HR9.out.cell 4
  have r5:=HR9.out.cell 5
  have r6:=HR9.out.cell 6
  have r7:=HR9.out.cell 7
  have r8:=HR9.out.cell 8
  have r9:=HR9.out.cell 9
  have r10:=HR9.out.cell 10
  have r11:=HR9.out.cell 11
  simp only[List.getElem?_toArray,List.getElem?_cons_zero,List.getElem?_cons_succ] at r0 r1 r2 r3 r4 r5 r6 r7 r8 r9 r10 r11
  clear HA HBR HBW HL HW HS0 HOW HEn HRr HO HC HS HF HO7
  go_wp2_with fail
  exact j9_ (c:=Cfg.zeroC) (ji_ (.string ⟨#[]⟩) (.string ⟨#[]⟩) (.string ⟨#[]⟩) (.int .i64 0) (.slice none 0 0) (.slice none 0 0) (.slice none 0 0) (.slice none 0 0) (.bool false) (.bool false) (.slice none 0 0) (.slice none 0 0) HR9.out) rfl rfl rfl (zo_ (.string ⟨#[]⟩) (.string ⟨#[]⟩) (.string ⟨#[]⟩) (.int .i64 0) (.slice none 0 0) (.slice none 0 0) (.slice none 0 0) (.slice none 0 0) (.bool false) (.bool false) (.slice none 0 0) (.slice none 0 0) HB9.out (Nat.le_refl _)) (ju_ _) HGx.out
 |some kd=>
  obtain⟨v,hK,hask⟩:=hask.2 kd hkd
  obtain⟨cs,hconf⟩:=HA.out.conf
  obtain⟨f,cap,rfl,hent,hT⟩:=zks_ (B:=q+1) (s:=ar) kd hconf (by rw[HA.out.size];exact Nat.le_refl _) hK (by omega)
  have HT:=Lib.hid hT
  have H2:=Lib.hid (H2.out kd hkd)
  have H3:=Lib.hid (H3.out kd hkd)
  have H4:=Lib.hid (H4.out kd hkd)
  clear hT hK hconf H1 hkd
  unfold x0_ at hask
  go_upto_region 12 with fail
  have hbx:=zs_ w6 (.cells #[.bool (Cfg.onceK kd),.func (.func f) #[] cap] 56)
  have hkx:=Bk.new w6 56 #[.bool (Cfg.onceK kd),.func (.func f) #[] cap]
  have HO7:=Lib.hid (HO.out.trans (OutB.of_below hbx hBs).two)
  have HC7:=Lib.hid (HC.out.below hbx)
  have HS7:=Lib.hid (HS.out.keep (hbx.block _ HS.out.lt))
  have HKX:=Lib.hid hkx
  have hwb:q+1≤w6.heap.size:=hBs
  clear hbx hask hkx HO HC HS hBs
  generalize w6.alloc (.cells #[.bool (Cfg.onceK kd),.func (.func f) #[] cap] 56)=w7 at *
  generalize w6.heap.size=wb at *
  by_cases hae:ar=[]
  ·have HGx:=Lib.hid (H2.out hae)
   have haB:(ar==[])=true:=beq_iff_eq.2 hae
   have HR9:=Lib.hid (HRr.out HO7.out)
   have HB9:=Lib.hid (HOW.out HO7.out)
   have f0:=HR9.out.frozen 0
   have f1:=HR9.out.frozen 1
   have f2:=HR9.out.frozen 2
   have f3:=HR9.out.frozen 3
   have f4:=HR9.out.frozen 4
   have f5:=HR9.out.frozen 5
   have f6:=HR9.out.frozen 6
   have f7:=HR9.out.frozen 7
   have f8:=HR9.out.frozen 8
   have f9:=HR9.out.frozen 9
   have f10:=HR9.out.frozen 10
   have f11:=HR9.out.frozen 11
   have r0:=HR9.out.cell 0
   have r1:=HR9.out.cell 1
   have r2:=HR9.out.cell 2
   have r3:=HR9.out.cell 3
   have r4:=HR9.out.cell 4
   have r5:=HR9.out.cell 5
   have r6:=HR9.out.cell 6
   have r7:=HR9.out.cell 7
   have r8:=HR9.out.cell 8
   have r9:=HR9.out.cell 9
   have r10:=HR9.out.cell 10
   have r11:=HR9.out.cell 11
   simp only[List.getElem?_toArray,List.getElem?_cons_zero,List.getElem?_cons_succ] at r0 r1 r2 r3 r4 r5 r6 r7 r8 r9 r10 r11
   clear HA HBR HBW HL HW HS0 HOW HEn HRr HF HO7 HC7 HS7 H2 H3 H4 HT HKX hent
   go_wp2_with fail
   exact j9_ (c:=Cfg.zeroC) (ji_ (.string ⟨#[]⟩) (.string ⟨#[]⟩) (.string ⟨#[]⟩) (.int .i64 0) (.slice none 0 0) (.slice none 0 0) (.slice none 0 0) (.slice none 0 0) (.bool false) (.bool false) (.slice none 0 0) (.slice none 0 0) HR9.out) rfl rfl rfl (zo_ (.string ⟨#[]⟩) (.string ⟨#[]⟩) (.string ⟨#[]⟩) (.int .i64 0) (.slice none 0 0) (.slice none 0 0) (.slice none 0 0) (.slice none 0 0) (.bool false) (.bool false) (.slice none 0 0) (.slice none 0 0) HB9.out (Nat.le_refl _)) (ju_ _) HGx.out
  have haB:(ar==[])=false:=beq_eq_false_iff_ne.2 hae
  have H3:=Lib.hid (H3.out hae)
  have H4:=Lib.hid (H4.out hae)
  have hcall:=HT.out w7 c va vc vl vi vr vu (fun hb hB hp=>HA.out.bk HO7.out hb hB hp) (fun W hW=>HEn.out (HO7.out.trans hW.two)) HC7.out (by
   have:=HF.out
   unfold Few at this ⊢
   omega)
  have HFt:=Lib.hid (zg4_ HF.out kd ar)
  have HCALL:=Lib.hid hcall
  clear hcall H2 HT hae HF
  obtain⟨R,hR⟩:∃ R,Cfg.takeK kd ar c=R:=⟨_,rfl⟩
  rw[hR] at H3 H4 HCALL HFt
  obtain⟨c',ok⟩:=R
  clear hR
  simp only at H3 H4 HFt
  unfold km_ at HCALL
  simp only at HCALL
  have hk1:=HKX.out.cell 1
  simp only[List.getElem?_toArray,List.getElem?_cons_zero,List.getElem?_cons_succ] at hk1
  cases ok
  case false=>
   have HGx:=Lib.hid (H3.out rfl)
   go_upto_region 13 with (with_reducible refine HCALL.out.mono ?_;rintro e w8 ⟨rfl,hO8,va',vc',vl',vi',vr',vu',hC8⟩;have HO8:=Lib.hid (HO7.out.trans hO8.two);clear hO8 hC8)
   have HR9:=Lib.hid (HRr.out HO8.out)
   have HB9:=Lib.hid (HOW.out HO8.out)
   have f0:=HR9.out.frozen 0
   have f1:=HR9.out.frozen 1
   have f2:=HR9.out.frozen 2
   have f3:=HR9.out.frozen 3
   have f4:=HR9.out.frozen 4
   have f5:=HR9.out.frozen 5
   have f6:=HR9.out.frozen 6
   have f7:=HR9.out.frozen 7
   have f8:=HR9.out.frozen 8
   have f9:=HR9.out.frozen 9
   have f10:=HR9.out.frozen 10
   have f11:=HR9.out.frozen 11
   have r0:=HR9.out.cell 0
   have r1:=HR9.out.cell 1
   have r2:=HR9.out.cell 2
   have r3:=HR9.out.cell 3
   have r4:=HR9.out.cell 4
   have r5:=HR9.out.cell 5
   have r6:=HR9.out.cell 6
   have r7:=HR9.out.cell 7
   have r8:=HR9.out.cell 8
   have r9:=HR9.out.cell 9
   have r10:=HR9.out.cell 10
   have r11:=HR9.out.cell 11
   simp only[List.getElem?_toArray,List.getElem?_cons_zero,List.getElem?_cons_succ] at r0 r1 r2 r3 r4 r5 r6 r7 r8 r9 r10 r11
   clear HA HBR HBW HL HW HS0 HOW HEn HRr HFt HO7 HC7 HS7 H3 H4 HKX HCALL HO8 hk1 hent
   go_wp2_with fail
   exact j9_ (c:=Cfg.zeroC) (ji_ (.string ⟨#[]⟩) (.string ⟨#[]⟩) (.string ⟨#[]⟩) (.int .i64 0) (.slice none 0 0) (.slice none 0 0) (.slice none 0 0) (.slice none 0 0) (.bool false) (.bool false) (.slice none 0 0) (.slice none 0 0) HR9.out) rfl rfl rfl (zo_ (.string ⟨#[]⟩) (.string ⟨#[]⟩) (.string ⟨#[]⟩) (.int .i64 0) (.slice none 0 0) (.slice none 0 0) (.slice none 0 0) (.slice none 0 0) (.bool false) (.bool false) (.slice none 0 0) (.slice none 0 0) HB9.out (Nat.le_refl _)) (ju_ _) HGx.out
  case true=>
  have H5:=Lib.hid (H4.out rfl)
  rw[show seen.contains nm=decide (nm∈seen) from List.contains_eq_mem ..] at H5
  clear H4
  go_upto_region 14 with (with_reducible refine HCALL.out.mono ?_;rintro e w8 ⟨rfl,hO8,va',vc',vl',vi',vr',vu',hC8⟩;have HO8:=Lib.hid (HO7.out.trans hO8.two);have HC8:=Lib.hid hC8;have HS8:=Lib.hid (HS7.out.keep (hO8.block q (by omega) (by omega)));have HOx:=Lib.hid hO8;clear hO8 hC8)
  have hsk:=HS8.out.ask nm
  have hBs:=HC8.out.idx.2
  have HK8:=Lib.hid (HOx.out.words _ _ HKX.out)
  clear HOx HKX HCALL H3 HO7 HC7 HS7 hk1 hent
  go_upto_region 15 with fail
  have hbx:=zs_ w8 (.cells #[] 58)
  have HO9:=Lib.hid (HO8.out.trans (OutB.of_below hbx hBs).two)
  have HC9:=Lib.hid (HC8.out.below hbx)
  have HS9:=Lib.hid (HS8.out.keep (hbx.block _ HS8.out.lt))
  have hk0:=(HK8.out.below hbx).cell 0
  simp only[List.getElem?_toArray,List.getElem?_cons_zero,List.getElem?_cons_succ] at hk0
  have hBs:=HC9.out.idx.2
  clear hbx hsk HO8 HC8 HS8 HK8
  generalize w8.alloc (.cells #[] 58)=w9 at *
  obtain⟨W10,hu,hS10,hg10⟩:=HS9.out.put nm
  have HO10:=Lib.hid (HO9.out.trans (Out2.of_grown (p:=w.heap.size+1) hg10 hBs))
  have HC10:=Lib.hid (HC9.out.mid hg10 (by omega) (by omega))
  have HS10:=Lib.hid hS10
  clear hS10 hg10 HO9 HC9 HS9 hBs HA HBR HBW HL HW HS0 HOW HEn HRr
  have HST:Hid (∀ t',(if decide (nm∈seen) && Cfg.onceK kd && decide (t<0) then (k:Int) else t)=t'→Cfg.goC l 0 Cfg.zeroC [] (-1)=Cfg.goC (l.drop (k+1)) (k+1) c' (nm::seen) t'):=Lib.hid fun t' ht=>ht ▸ H5.out
  clear H5
  generalize decide (nm∈seen)=had at *
  generalize Cfg.onceK kd=on at *
  by_cases hall:had=true∧on=true∧t<0
  ·obtain⟨rfl,rfl,htl⟩:=hall
   have HGn:=Lib.hid (HST.out (k:Int) (by simp [htl]))
   clear HST
   go_wp2_with fail
   go_roundg g
   case measure=>omega
   case rel=>exact⟨k+1,c',nm::seen,(k:Int),va',vc',vl',vi',vr',vu',by omega,rfl,by go_num,by have:=AG.out;show _=_;omega,HGn.out,HO10.out,HC10.out,HS10.out,HFt.out⟩
  have HGn:=Lib.hid (HST.out t (by
   rw[if_neg]
   intro h
   simp only[Bool.and_eq_true,decide_eq_true_eq] at h
   exact hall ⟨h.1.1,h.1.2,h.2⟩))
  clear HST
  cases had
  ·clear hall
   go_wp2_with fail
   go_roundg g
   case measure=>omega
   case rel=>exact⟨k+1,c',nm::seen,t,va',vc',vl',vi',vr',vu',by omega,rfl,by go_num,by have:=AG.out;show _=_;omega,HGn.out,HO10.out,HC10.out,HS10.out,HFt.out⟩
  cases on
  ·clear hall
   go_wp2_with fail
   go_roundg g
   case measure=>omega
   case rel=>exact⟨k+1,c',nm::seen,t,va',vc',vl',vi',vr',vu',by omega,rfl,by go_num,by have:=AG.out;show _=_;omega,HGn.out,HO10.out,HC10.out,HS10.out,HFt.out⟩
  have htl:¬ t<0:=fun h=>hall ⟨rfl,rfl,h⟩
  clear hall
  go_wp2_with fail
  go_roundg g
  case measure=>omega
  case rel=>exact⟨k+1,c',nm::seen,t,va',vc',vl',vi',vr',vu',by omega,rfl,by go_num,by have:=AG.out;show _=_;omega,HGn.out,HO10.out,HC10.out,HS10.out,HFt.out⟩
theorem za2_ (l:List (List UInt8)) (v:Value) (w:World) (hw:Env w) (hT:TextsA w v l) (hs:∀ s∈l,s.length≤3000000):Calls Tryz.prog 7 #[v] w (PRet w (Cfg.parseC l)):=by
 obtain⟨A,cp,rfl,_,hcell⟩:=hT.at
 by_cases h200:200<l.length
 ·exact zbg_ l A cp w h200
 ·exact zah_ l A cp w hw h200 hcell hs
end Go.Proofs.YtakfpngfpknedaaGreatDoor
