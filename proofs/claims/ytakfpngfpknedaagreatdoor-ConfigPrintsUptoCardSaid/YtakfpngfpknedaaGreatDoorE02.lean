import Derived.Test.YtakfpngfpknedaaGreatDoorE01
import Derived.Deep.RegionHeld3
import Derived.Laws.EntriesVeiled
import Derived.Laws.AppendOwnNone
set_option linter.all false
set_option maxHeartbeats 8000000
set_option maxRecDepth 100000
namespace Go.Proofs.YtakfpngfpknedaaGreatDoor
open Go.RowKit
def kv (n:LU) (k:Int):Value:= .agg #[.string ⟨n.toArray⟩,.int .i64 k]
theorem zh0_:Tryz.prog.underlying 265=some (.struct (Tryz.prog.fieldsOf 265)):=by kernel_rfl
theorem zk5_:Tryz.prog.stoodInHeld 265=false:=by kernel_rfl
theorem key_eq (w:World) (a b:LU) (i j:Int):(Op.equal 265 (kv a i) (kv b j)).run Tryz.prog w= .ok (a==b && i==j) w:=by
 unfold Op.equal Op.maxDepth kv
 rw[run_equalIn_agg w 9999 265 _ _ zh0_ zk5_]
 have hf : (Tryz.prog.fieldsOf 265).toList = [{ name := "name", type := 9, offset := 0, embedded := false, tag := "", pkgPath := "chancery/syntax", byteOffset := 0 }, { name := "kind", type := 3, offset := 1, embedded := false, tag := "", pkgPath := "chancery/syntax", byteOffset := 16 }] := by
  unfold Program.fieldsOf
  rw[Tryz.underlying265]
 rw[hf]
 have h1:=run_equalIn_string (P:=Tryz.prog) w 9998 9 ⟨a.toArray⟩ ⟨b.toArray⟩ Tryz.underlying9
 have h2:=run_equalIn_int (P:=Tryz.prog) w 9998 3 .i64 .i64 i j Tryz.underlying3
 have p1:∀ (c d:Value),(part 9 #[c,d] 0).run Tryz.prog w= .ok c w:=by intro c d;kernel_rfl
 have p2:∀ (c d:Value),(part 3 #[c,d] 1).run Tryz.prog w= .ok d w:=by intro c d;kernel_rfl
 simp only[Op.eqFields,ne_eq,String.reduceEq,not_false_eq_true,if_true,Sem.run_bind,p1,p2,h1,h2,Result.andThen_ok]
 have hl:∀ l:LU,(⟨l.toArray⟩:ByteArray).toList=l:=fun l=>by rw[ByteArray.toList_eq]
 rw[hl,hl]
 cases hab:(a==b)
 ·simp
 ·have hij:∀ (r:Bool),(if (!r)=true then (pure false:Sem Bool) else pure true)=pure r:=by intro r;cases r<;>rfl
  simp only[Bool.not_true,Bool.false_eq_true,if_false,Sem.run_bind,p2,h2,Result.andThen_ok,hij,Sem.run_pure,Bool.true_and]
def RulesAre (es:Array MapEntry) (R:List (LU × Int × Value)):Prop:=es.toList.map (fun e=>(e.key,e.val))=R.map (fun x=>(kv x.1 x.2.1,x.2.2))
def z01_ (n:LU) (k:Int):List (LU × Int × Value)→Option Value
 |[]=>none
 |x::R=>if n==x.1 && k==x.2.1 then some x.2.2 else z01_ n k R
theorem kd_ (w:World) (n:LU) (k:Int):∀ (es:List MapEntry) (R:List (LU × Int × Value)) (i:Nat),es.map (fun e=>(e.key,e.val))=R.map (fun x=>(kv x.1 x.2.1,x.2.2))→
  ∃ r,(Instr.findAsking 265 (kv n k) es i).run Tryz.prog w= .ok r w∧r.map (·.2)=z01_ n k R
 |[],[],i,_=>⟨none,rfl,rfl⟩
 |[],_::_,i,h=>by simp at h
 |_::_,[],i,h=>by simp at h
 |e::es,x::R,i,h=>by
  simp only[List.map_cons,List.cons.injEq,Prod.mk.injEq] at h
  obtain⟨r,hr,hm⟩:=kd_ w n k es R (i+1) h.2
  simp only[Instr.findAsking,Sem.run_bind,h.1.1,key_eq,Result.andThen_ok,z01_]
  cases hx:(n==x.1 && k==x.2.1)
  ·simp only[Bool.false_eq_true,if_false]
   exact⟨r,hr,hm⟩
  ·simp only[if_true]
   exact⟨some (i,e.val),rfl,by simp [h.1.2]⟩
theorem z1v_ (w:World) (n:LU) (k:Int) (es:Array MapEntry) (R:List (LU × Int × Value)) (h:RulesAre es R):
  ∃ r,(Instr.findKey 265 (kv n k) es.toList).run Tryz.prog w= .ok r w∧r.map (·.2)=z01_ n k R:=by
 unfold RulesAre at h
 obtain⟨es⟩:=es
 dsimp only at h ⊢
 unfold Instr.findKey
 simp only[Sem.run_bind,run_underlying Tryz.underlying265,Result.andThen_ok]
 cases es with
 |nil=>
  cases R with
  |nil=>exact⟨none,rfl,rfl⟩
  |cons _ _=>simp at h
 |cons e es=>
  cases R with
  |nil=>simp at h
  |cons x R=>
   have:∀ f,Instr.findNow (.struct f) (kv n k) (e::es) 0=none:=fun f=>by simp [Instr.findNow,Instr.sameNow]
   rw[this]
   exact kd_ w n k _ _ 0 h
theorem z0q_ (w:World) (b:Bool) (n:LU) (k:Int):(Instr.checkKey b 10000 265 (kv n k)).run Tryz.prog w= .ok () w:=by
 unfold kv
 kernel_rfl
def World.setMap (w:World) (r:Nat) (es:Array MapEntry) (c:Nat):World:={w with heap:=w.heap.setIfInBounds r (.map es c)}
theorem zb5_ (w:World) (r c:Nat) (es:Array MapEntry) (R:List (LU × Int × Value)) (hw:w.heap[r]?=some (.map es c)) (h:RulesAre es R) (n:LU) (k:Int) (v:Value) (hn:z01_ n k R=none):
  (Instr.mapUpdate 261 (.map (some r)) (kv n k) v).run Tryz.prog w= .ok () (World.setMap w r (es.push {key:=kv n k,val:=v,born:=c}) (c+1)):=by
 obtain⟨q,hq,hm⟩:=z1v_ w n k es R h
 rw[hn] at hm
 obtain rfl:q=none:=by simpa using hm
 unfold Instr.mapUpdate
 simp only[Sem.run_bind,run_underlying Tryz.underlying261,Result.andThen_ok]
 simp only[getObj,Sem.run,Sem.run_bind,hw,Result.andThen_ok,z0q_,hq,setObj,World.setMap]
theorem zas_ (w:World) (r c:Nat) (es:Array MapEntry) (R:List (LU × Int × Value)) (hw:w.heap[r]?=some (.map es c)) (h:RulesAre es R) (n:LU) (k:Int):
  (Instr.lookup 261 (.map (some r)) (kv n k) true).run Tryz.prog w= .ok (match z01_ n k R with|some v=> .tuple #[v,.bool true]|none=> .tuple #[.agg #[.string ⟨#[]⟩,.int .i64 0,.slice none 0 0,.nilFunc],.bool false]) w:=by
 obtain⟨q,hq,hm⟩:=z1v_ w n k es R h
 unfold Instr.lookup
 simp only[Sem.run_bind,run_underlying Tryz.underlying261,Result.andThen_ok]
 simp only[getObj,Sem.run,Sem.run_bind,hw,Result.andThen_ok,z0q_,hq,pure,Sem.run_pure]
 rw[← hm]
 cases q with
 |none=>
  have hz:(zeroValue 230).run Tryz.prog w= .ok (.agg #[.string ⟨#[]⟩,.int .i64 0,.slice none 0 0,.nilFunc]) w:=by kernel_rfl
  simp only[Sem.run_bind,hz,Result.andThen_ok]
  rfl
 |some x=>rfl
theorem RulesAre.push {es:Array MapEntry} {R:List (LU × Int × Value)} (h:RulesAre es R) (n:LU) (k:Int) (v:Value) (b:Nat):RulesAre (es.push {key:=kv n k,val:=v,born:=b}) (R++[(n,k,v)]):=by
 unfold RulesAre at h ⊢
 simp [h]
open Go.RowKit
def x7_:LU:=[77,97,116,99,104]
def q0_:LU:=[79,114,100,101,114,105,110,103,77,97,116,99,104]
def qa_:LU:=[83,117,98,115,116,114,105,110,103,115,77,97,116,99,104]
def kindOf (k:LU):Int:=if k=q0_ then 1 else if k=qa_ then 2 else 0
def kh_ (base:LU) (fo nv:Value) (k:LU):LU × Int × Value:=
 (z2_ (base++k),kindOf k,.agg #[.string ⟨(base++k).toArray⟩,.int .i64 (kindOf k),fo,nv])
def jb_ (base:LU) (fo nv:Value) (ks:LL):List (LU × Int × Value):=(x7_::ks).map (kh_ base fo nv)
def Texts (w:World) (v:Value) (xs:LL):Prop:=
 (xs=[]∧v= .slice none 0 0)∨∃ b c,v= .slice (some ⟨b,0,none⟩) xs.length c∧xs.length≤c∧b<w.heap.size∧∀ j (hj:j<xs.length),w.cell? ⟨b,j,none⟩=some (.string ⟨xs[j].toArray⟩)
theorem zic_ (a b:LU):(⟨a.toArray⟩:ByteArray)++⟨b.toArray⟩=⟨(a++b).toArray⟩:=by
 apply ByteArray.ext
 rw[ByteArray.data_append]
 simp
theorem jg_ {w:World} {r c:Nat} {es:Array MapEntry} (h:r<w.heap.size):(World.setMap w r es c).heap[r]?=some (.map es c):=by simp [World.setMap,h]
theorem kk_ {w:World} {r c:Nat} {es:Array MapEntry}:(World.setMap w r es c).heap.size=w.heap.size:=by simp [World.setMap]
theorem xl_ {w:World} {r c k:Nat} {es:Array MapEntry} (h:k≠r):(World.setMap w r es c).heap[k]?=w.heap[k]?:=by simp [World.setMap,Ne.symm h]
theorem kr_ {w:World} {r c p o:Nat} {es:Array MapEntry} (h:p≠r):(World.setMap w r es c).cell? ⟨p,o,none⟩=w.cell? ⟨p,o,none⟩:=World.cell?_of_block (xl_ h)
theorem xu_:∃ i,Tryz.prog.info? 9=some i∧i.zero=some (.string ⟨#[]⟩)∧i.size=1∧i.bytes=16:=by
 obtain⟨i,h1,h2,h3,h4⟩:=info_parts (show (Tryz.prog.info? 9).map (fun i=>(i.zero,i.size,i.bytes))=some (some (.string ⟨#[]⟩),1,16) by kernel_rfl)
 exact⟨i,h1,h2,h3,h4⟩
def qm_ (x:LU):Value:= .string ⟨x.toArray⟩
def Strs (W0 w:World) (v:Value) (xs:LL):Prop:=
 w.ownsRow W0.heap.size 9 1 v xs.length (xs.map qm_)∧Bel W0 w∧W0.heap.size≤w.heap.size
theorem Strs.nil (w:World):Strs w w (.slice none 0 0) []:=⟨World.ownsRow_nil _ _ _ _,bR _ _,nR _⟩
theorem Strs.below {W0 w:World} {v:Value} {xs:LL} (h:Strs W0 w v xs):Bel W0 w:=h.2.1
theorem Strs.le {W0 w:World} {v:Value} {xs:LL} (h:Strs W0 w v xs):W0.heap.size≤w.heap.size:=h.2.2
theorem Strs.grow {W0 w w':World} {v:Value} {xs:LL} (h:Strs W0 w v xs) (hb:Bel w w'):Strs W0 w' v xs:=by
 obtain⟨ho,hB,hle⟩:=h
 refine⟨ho.kept (row:=none) ⟨hb.os,hb.tape,hb.output,hb.size,fun k hk _=>hb.block k hk⟩ ?_,hB.trans (hb.mono hle),nT hle hb.size⟩
 rcases hv:v.ownBlock with _|g
 ·exact .inl rfl
 ·exact .inr (by simp)
theorem Strs.alloc {W0 w:World} {v:Value} {xs:LL} (h:Strs W0 w v xs) (o:Obj):Strs W0 (w.alloc o) v xs:=h.grow ((bR _ _).alloc (nR _) o)
theorem Strs.grown {W0 w w':World} {v v':Value} {xs xs':LL} (h:Strs W0 w v xs) (ho:w'.ownsRow W0.heap.size 9 1 v' xs'.length (xs'.map qm_)) (hg:w.grownBy w' v.ownBlock):Strs W0 w' v' xs':=
 ⟨ho,h.2.1.grown hg h.2.2 (fun k hk=>(h.1.lt k hk).1),nT h.2.2 hg.size⟩
theorem kp_ (g j:Nat):(⟨g,0,none⟩:Addr).add j=⟨g,j,none⟩:=by unfold Addr.add;split<;>simp_all
theorem Strs.texts {W0 w:World} {v:Value} {xs:LL} (h:Strs W0 w v xs):Texts w v xs:=by
 obtain⟨⟨h1,h2⟩,_,_⟩:=h
 rcases h2 with ⟨rfl,hn⟩|⟨g,cap,cur,rfl,r2,r3,r4,r5,r6,r7⟩
 ·exact .inl ⟨List.eq_nil_of_length_eq_zero hn,rfl⟩
 ·refine .inr ⟨g,cap,rfl,r4,(Array.getElem?_eq_some_iff.1 r3).1,fun j hj=>?_⟩
  simp only[World.cell?,r3]
  have:(cur.toList.take (xs.length * 1))[j]?=some (qm_ xs[j]):=by rw[r7];simp [hj]
  rw[List.getElem?_take] at this
  simpa [hj,qm_] using this
theorem Texts.keep {w w':World} {v:Value} {xs:LL} (h:Texts w v xs) (hb:∀ k,k<w.heap.size→w'.heap[k]?=w.heap[k]?) (hs:w.heap.size≤w'.heap.size):Texts w' v xs:=by
 rcases h with h|⟨b,c,rfl,hc,hlt,hcell⟩
 ·exact .inl h
 ·exact .inr ⟨b,c,rfl,hc,by omega,fun j hj=>by rw[World.cell?_of_block (w:=w) (hb b hlt)];exact hcell j hj⟩
theorem Texts.below {w w':World} {v:Value} {xs:LL} (h:Texts w v xs) (hb:Bel w w'):Texts w' v xs:=h.keep hb.block hb.size
theorem Texts.cons {w:World} {v:Value} {x:LU} {xs:LL} (h:Texts w v (x::xs)):∃ b c,v= .slice (some ⟨b,0,none⟩) (x::xs).length c∧(x::xs).length≤c∧b<w.heap.size∧Hid (∀ j (hj:j<(x::xs).length),w.cell? ⟨b,j,none⟩=some (.string ⟨(x::xs)[j].toArray⟩)):=by
 rcases h with ⟨h,_⟩|h
 ·cases h
 ·exact h
section
variable {ops:Array Oper} {rest:List Oper} {o:Oper} {a:Act} {Q:Exit→Act→World→Prop}
theorem zfq_ (hgd:o.guard=none) (s x:Operand) (ho:o.op= .call {callee:= .builtin .append,args:=#[s,x],argTypes:=#[22,22]})
  {v:Value} {xs:LL} {W0 w0:World} {c:LU} (hs:a.eval s=v) (hb:Strs W0 w0 v xs)
  (hx:a.eval x= .slice (some ⟨w0.heap.size,0,none⟩) 1 1) (hlen:xs.length<8796093022208)
  (h:∀ v' w',Strs W0 w' v' (xs++[c])→w0.grownBy w' v.ownBlock→wpList Tryz.prog ops Q rest (a.put o.dst v') w'):wpList Tryz.prog ops Q (o::rest) a (w0.alloc (.cells #[.string ⟨c.toArray⟩] 9)):=by
 obtain⟨i,h1,h2,h3,h4⟩:=xu_
 have hb':=hb.alloc (.cells #[.string ⟨c.toArray⟩] 9)
 refine wpList_append_own _ hgd s x 22 ho W0.heap.size 9 i (.string ⟨#[]⟩) 1 16 Tryz.underlying22 h1 h2 h3 h4 rfl (by decide) v _ _ hs hb'.1 ⟨w0.heap.size,0,none⟩ 1 1 [.string ⟨c.toArray⟩] hx rfl ?_ ?_ (by unfold maxLen;omega) (by omega) hb'.2.2 ?_
 ·intro j u hj
  match j,hj with
  |0,hj=>simp at hj;subst hj;simp [Addr.add]
  |(j+1),hj=>simp at hj
 ·intro u hu;simp at hu;subst hu;rfl
 ·intro v' w' ho' hg _
  refine h v' w' ?_ (gT (World.grownBy_alloc _ _ _) hg)
  exact hb'.grown (by simpa [qm_] using ho') hg
theorem ze3_ {w:World} (hgd:o.guard=none) (s x:Operand) (ho:o.op= .call {callee:= .builtin .append,args:=#[s,x],argTypes:=#[22,22]})
  {v xv:Value} {xs ys:LL} {W0:World} (hs:a.eval s=v) (hb:Strs W0 w v xs)
  (hx:a.eval x=xv) (hy:Texts w xv ys) (hlen:xs.length+ys.length<4398046511104)
  (h:∀ v' w',Strs W0 w' v' (xs++ys)→w.grownBy w' v.ownBlock→wpList Tryz.prog ops Q rest (a.put o.dst v') w'):wpList Tryz.prog ops Q (o::rest) a w:=by
 obtain⟨i,h1,h2,h3,h4⟩:=xu_
 rcases hy with ⟨rfl,rfl⟩|⟨b,c,rfl,hc,hlt,hcell⟩
 ·refine wpList_append_own_none hgd s x 22 ho W0.heap.size 9 i 1 Tryz.underlying22 h1 v _ _ hs hb.1 hx ?_
  exact h v w (by simpa using hb) (World.grownBy.refl _ _)
 ·refine wpList_append_own _ hgd s x 22 ho W0.heap.size 9 i (.string ⟨#[]⟩) 1 16 Tryz.underlying22 h1 h2 h3 h4 rfl (by decide) v _ _ hs hb.1 ⟨b,0,none⟩ ys.length c (ys.map qm_) hx (by simp) ?_ ?_ (by unfold maxLen;omega) (by omega) hb.2.2 ?_
  ·intro j u hj
   rw[kp_]
   have hjl:j<ys.length:=by simpa using (List.getElem?_eq_some_iff.1 hj).1
   rw[hcell j hjl]
   simp [hjl] at hj
   rw[← hj];rfl
  ·intro u hu
   simp at hu
   obtain⟨q,_,rfl⟩:=hu
   rfl
  ·intro v' w' ho' hg _
   refine h v' w' ?_ hg
   exact hb.grown (by simpa using ho') hg
end
theorem Strs.made1 (w:World) (c:LU):Strs w (w.alloc (.cells #[.string ⟨c.toArray⟩] 9)) (.slice (some ⟨w.heap.size,0,none⟩) 1 1) [c]:=by
 refine⟨?_,(bR _ _).alloc (nR _) _,by simp⟩
 refine⟨by simp,.inr ⟨w.heap.size,1,#[.string ⟨c.toArray⟩],rfl,nR _,by show (w.heap.push _)[w.heap.size]?=_;simp,nR _,by decide,rfl,by simp [qm_]⟩⟩
theorem put_c (base:LU) (fA:Option Addr) (fN fC:Nat) (nF:Fn) (n1 n2:Array Value) (fo nv kvv:Value) (hfo:fo= .slice fA fN fC) (hnv:nv= .func nF n1 n2) (ks:LL) (p r c:Nat) (es:Array MapEntry) (R:List (LU × Int × Value)) (w:World)
  (hp:w.cell? ⟨p,0,none⟩=some (.map (some r))) (hr:w.heap[r]?=some (.map es c)) (hes:RulesAre es R) (hks:Texts w kvv ks) (hkl:ks.length≤2) (hbl:base.length≤100) (hkk:∀ k∈ks,k.length≤100)
  (hfresh:∀ i x,(jb_ base fo nv ks)[i]?=some x→z01_ x.1 x.2.1 (R++(jb_ base fo nv ks).take i)=none):
  Calls Tryz.prog 265 #[.string ⟨base.toArray⟩,fo,nv,kvv,.pointer (some ⟨p,0,none⟩)] w fun e w'=>e= .returned (.tuple #[])∧
   ∃ es' c',w'.heap[r]?=some (.map es' c')∧RulesAre es' (R++jb_ base fo nv ks)∧w.grownBy w' (some r):=by
 subst hfo hnv
 have HF:=hiD hfresh
 clear hfresh
 go_enter Tryz.func265,Tryz.ntmps265
 go_wp2_with (at_builtin;refine ze3_ rfl _ _ rfl rfl (Strs.made1 w x7_) rfl (hks.below ((bR _ _).alloc (nR _) _)) (by simp;omega) ?_;intro v' w1 hs1 hg1;obtain⟨g,cp,rfl,hcp,hglt,hcells⟩:=hs1.texts.cons)
 have hB1:Bel w w1:=hs1.below
 have hrlt:r<w.heap.size:=(Array.getElem?_eq_some_iff.1 hr).1
 have hplt:p<w.heap.size:=z9_ hp
 have hr1:w1.heap[r]?=some (.map es c):=(hB1.block r hrlt).trans hr
 have hp1:w1.cell? ⟨p,0,none⟩=some (.map (some r)):=(hB1.cell (p:=⟨p,0,none⟩) hplt).trans hp
 have hpr:p≠r:=by rintro rfl;simp [World.cell?,hr1] at hp1
 have hgr:g≠r:=by
  rintro rfl
  have:=hcells.out 0 (by simp)
  simp [World.cell?,hr1] at this
 have hlen:(jb_ base (.slice fA fN fC) (.func nF n1 n2) ks).length=ks.length+1:=by simp [jb_]
 have HK:=hiD hkk
 have HB1:=hiD hB1
 clear hkk hB1 hs1 hg1 hks hp hr
 go_loopg [16] (ks.length+1) (fun gk s16 wr=>∃ (i:Nat) (es':Array MapEntry) (c':Nat),i≤ks.length+1∧s16= .int .i64 i∧Aside (i+gk=ks.length+1)∧Aside (wr.heap[r]?=some (.map es' c'))∧RulesAre es' (R++(jb_ base (.slice fA fN fC) (.func nF n1 n2) ks).take i)∧w1.grownBy wr (some r))
 case atStart=>exact⟨0,es,c,by omega,rfl,by show _=_;omega,hr1,by simpa using hes,World.grownBy.refl _ _⟩
 case round=>
  obtain⟨i,es',c',hi,rfl,AG,AR,hes',hg⟩:=hrel
  by_cases hlt:i<ks.length+1
  ·have hcell:wr.cell? ⟨g,i,none⟩=some (.string ⟨((x7_::ks)[i]'(by simpa using hlt)).toArray⟩):=hg.cell (hcells.out i (by simpa using hlt)) (by simpa using hgr)
   have hpc:wr.cell? ⟨p,0,none⟩=some (.map (some r)):=hg.cell hp1 (by simpa using hpr)
   have hnew:(jb_ base (.slice fA fN fC) (.func nF n1 n2) ks)[i]?=some (kh_ base (.slice fA fN fC) (.func nF n1 n2) ((x7_::ks)[i]'(by simpa using hlt))):=by
    unfold jb_;rw[List.getElem?_map,List.getElem?_eq_getElem (by simpa using hlt)];rfl
   have hfr:=HF.out i _ hnew
   have htk:(jb_ base (.slice fA fN fC) (.func nF n1 n2) ks).take (i+1)=(jb_ base (.slice fA fN fC) (.func nF n1 n2) ks).take i++[kh_ base (.slice fA fN fC) (.func nF n1 n2) ((x7_::ks)[i]'(by simpa using hlt))]:=by
    rw[List.take_add_one,hnew];rfl
   have hkl2:((x7_::ks)[i]'(by simpa using hlt)).length≤100:=by
    have hm:(x7_::ks)[i]'(by simpa using hlt)∈x7_::ks:=List.getElem_mem _
    rcases List.mem_cons.1 hm with h|h
    ·rw[h];decide
    ·exact HK.out _ h
   clear hcells hes
   generalize (x7_::ks)[i]'(by simpa using hlt)=k at *
   have happ:=zic_
   obtain⟨q,rfl⟩:∃ q,gk=q+1:=⟨gk - 1,by have:=AG.out;omega⟩
   have hup:=fun (W:World) (hW:W.heap[r]?=some (.map es' c'))=>zb5_ W r c' es' _ hW hes' (kh_ base (.slice fA fN fC) (.func nF n1 n2) k).1 (kh_ base (.slice fA fN fC) (.func nF n1 n2) k).2.1 (kh_ base (.slice fA fN fC) (.func nF n1 n2) k).2.2 hfr
   simp only[kh_,kv] at hup
   have HT:=hiD htk
   clear htk hnew hfr
   have hrw:r<wr.heap.size:=by have:=hg.size;have:=HB1.out.size;omega
   have hpw:p<wr.heap.size:=by have:=hg.size;have:=HB1.out.size;omega
   have hsl:(base++k).length≤140737488351232:=by simp;omega
   have hcat:=fun w=>run_string_add_lists (P:=Tryz.prog) w base k (by omega) (by omega)
   have Hup:=hiD hup
   clear hup happ
   have fin:∀ w2,Below wr.heap.size wr.drew w2→∃ es'' c'',(World.setMap w2 r (es'.push {key:=kv (z2_ (base++k)) (kindOf k),val:= .agg #[.string ⟨(base++k).toArray⟩,.int .i64 (kindOf k),.slice fA fN fC,.func nF n1 n2],born:=c'}) (c'+1)).heap[r]?=some (.map es'' c'')∧RulesAre es'' (R++(jb_ base (.slice fA fN fC) (.func nF n1 n2) ks).take (i+1))∧w1.grownBy (World.setMap w2 r (es'.push {key:=kv (z2_ (base++k)) (kindOf k),val:= .agg #[.string ⟨(base++k).toArray⟩,.int .i64 (kindOf k),.slice fA fN fC,.func nF n1 n2],born:=c'}) (c'+1)) (some r):=by
    intro w2 hb2
    have hsz:wr.heap.size≤w2.heap.size:=hb2.size
    refine⟨_,_,jg_ (by omega),?_,?_⟩
    ·rw[HT.out,← List.append_assoc]
     exact hes'.push _ _ _ _
    ·refine gT hg ⟨hb2.os,hb2.tape,hb2.output,by rw[kk_];exact hsz,fun j hj hne=>?_⟩
     rw[xl_ (by simpa using hne)]
     exact hb2.block j hj
   have Fin:=hiD fin
   clear fin
   have AG':Aside (i+1+q=ks.length+1):=by have:=AG.out;show _=_;omega
   by_cases hk1:k=q0_
   ·subst hk1
    have e0:kindOf q0_=1:=by decide
    rw[e0] at Hup Fin
    have e1:(q0_==[79,114,100,101,114,105,110,103,77,97,116,99,104])=true:=by decide
    clear e0
    go_wp2_with fail
    go_region_held3 (fun w'=>w'.cell? ⟨p,0,none⟩=some (.map (some r))) (first|exact hpc|exact hpc2|exact(kr_ hpr).trans hpc2) (first|(go_at_call 116;refine(xt_ _ _ hsl).mono ?_;rintro e w2 ⟨rfl,hb2⟩;have hpc2:w2.cell? ⟨p,0,none⟩=some (.map (some r)):=(hb2.cell (p:=⟨p,0,none⟩) hpw).trans hpc;have hu2:=Hup.out w2 ((hb2.block r hrw).trans AR.out)))
    go_wp2
    go_roundg q
    case measure=>omega
    case rel=>
     obtain⟨es'',c'',f1,f2,f3⟩:=Fin.out _ hb2
     exact⟨i+1,es'',c'',by omega,by go_num,AG'.out,f1,f2,f3⟩
   ·by_cases hk2:k=qa_
    ·subst hk2
     have e0:kindOf qa_=2:=by decide
     rw[e0] at Hup Fin
     have e1:(qa_==[79,114,100,101,114,105,110,103,77,97,116,99,104])=false:=by decide
     have e2:(qa_==[83,117,98,115,116,114,105,110,103,115,77,97,116,99,104])=true:=by decide
     clear e0 hk1
     go_wp2_with fail
     go_region_held3 (fun w'=>w'.cell? ⟨p,0,none⟩=some (.map (some r))) (first|exact hpc|exact hpc2|exact(kr_ hpr).trans hpc2) (first|(go_at_call 116;refine(xt_ _ _ hsl).mono ?_;rintro e w2 ⟨rfl,hb2⟩;have hpc2:w2.cell? ⟨p,0,none⟩=some (.map (some r)):=(hb2.cell (p:=⟨p,0,none⟩) hpw).trans hpc;have hu2:=Hup.out w2 ((hb2.block r hrw).trans AR.out)))
     go_wp2
     go_roundg q
     case measure=>omega
     case rel=>
      obtain⟨es'',c'',f1,f2,f3⟩:=Fin.out _ hb2
      exact⟨i+1,es'',c'',by omega,by go_num,AG'.out,f1,f2,f3⟩
    ·have e0:kindOf k=0:=by simp [kindOf,hk1,hk2]
     rw[e0] at Hup Fin
     have e1:(k==[79,114,100,101,114,105,110,103,77,97,116,99,104])=false:=by rw[beq_eq_false_iff_ne];exact hk1
     have e2:(k==[83,117,98,115,116,114,105,110,103,115,77,97,116,99,104])=false:=by rw[beq_eq_false_iff_ne];exact hk2
     clear hk1 hk2 e0
     go_wp2_with fail
     go_region_held3 (fun w'=>w'.cell? ⟨p,0,none⟩=some (.map (some r))) (first|exact hpc|exact hpc2|exact(kr_ hpr).trans hpc2) (first|(go_at_call 116;refine(xt_ _ _ hsl).mono ?_;rintro e w2 ⟨rfl,hb2⟩;have hpc2:w2.cell? ⟨p,0,none⟩=some (.map (some r)):=(hb2.cell (p:=⟨p,0,none⟩) hpw).trans hpc;have hu2:=Hup.out w2 ((hb2.block r hrw).trans AR.out)))
     go_wp2
     go_roundg q
     case measure=>omega
     case rel=>
      obtain⟨es'',c'',f1,f2,f3⟩:=Fin.out _ hb2
      exact⟨i+1,es'',c'',by omega,by go_num,AG'.out,f1,f2,f3⟩
  ·obtain rfl:i=ks.length+1:=by omega
   have hfin:RulesAre es' (R++jb_ base (.slice fA fN fC) (.func nF n1 n2) ks):=by
    rw[List.take_of_length_le (by omega)] at hes';exact hes'
   have hfg:w.grownBy wr (some r):=gT ⟨HB1.out.os,HB1.out.tape,HB1.out.output,HB1.out.size,fun k hk _=>HB1.out.block k hk⟩ hg
   have Hf:=hiD hfin
   clear hfin hes'
   go_wp2
   go_end0
   exact⟨rfl,es',c',AR.out,Hf.out,hfg⟩
open Go.RowKit
theorem z1y_ (fn:Fn) (first cap:Array Value) (w:World):(Instr.makeFunc fn first cap).run Tryz.prog w= .ok (.func fn first cap) w:=rfl
theorem zid_ (fold:Bool) (w:World):
  Calls Tryz.prog 267 #[.bool fold] w fun e w'=>e= .returned (.func (.func 289) #[] #[.pointer (some ⟨w.heap.size,0,none⟩)])∧w.alloc (.cells #[.bool fold] 4)=w':=by
 have hmf:=z1y_
 go_enter Tryz.func267,Tryz.ntmps267
 go_wp2
 go_ret
 exact⟨rfl,rfl⟩
inductive NormFn where
 |self
 |text (fold:Bool)
 |name
 |oid
 deriving DecidableEq
def normIs (w:World) (v:Value):NormFn→Prop
 | .self=>v= .func (.func 266) #[] #[]
 | .text fold=>∃ a,v= .func (.func 289) #[] #[.pointer (some ⟨a,0,none⟩)]∧w.cell? ⟨a,0,none⟩=some (.bool fold)
 | .name=>v= .func (.func 268) #[] #[]
 | .oid=>v= .func (.func 269) #[] #[]
theorem normIs.below {w w':World} {v:Value} {n:NormFn} (h:normIs w v n) (hb:Bel w w'):normIs w' v n:=by
 cases n with
 |text fold=>
  obtain⟨a,h1,h2⟩:=h
  exact⟨a,h1,(hb.cell (p:=⟨a,0,none⟩) (z9_ h2)).trans h2⟩
 |_=>exact h
def z0i_:LU:=[111,99,116,101,116,83,116,114,105,110,103]
def z3b_:LU:=[99,97,115,101,69,120,97,99,116]
def z2h_:LU:=[99,97,115,101,73,103,110,111,114,101]
def za3_:LU:=[105,110,116,101,103,101,114]
def z8y_:LU:=[98,111,111,108,101,97,110]
def xk_:LU:=[100,105,115,116,105,110,103,117,105,115,104,101,100,78,97,109,101]
def y0_:LU:=[111,98,106,101,99,116,73,100,101,110,116,105,102,105,101,114]
def yi_:LU:=[103,101,110,101,114,97,108,105,122,101,100,84,105,109,101]
def z4m_:LU:=[111,99,116,101,116,115]
def zb1_:LU:=[116,101,120,116]
def z2s_:LU:=[97,115,99,105,105]
def z19_:LU:=[105,110,116,101,103,101,114]
def z18_:LU:=[98,111,111,108,101,97,110]
def zh6_:LU:=[110,97,109,101]
def fOid:LU:=[111,105,100]
def zi4_:LU:=[116,105,109,101]
def bases:List (LU × LL × NormFn × LL):=[
 (z0i_,[z4m_],.self,[q0_]),
 (z3b_,[zb1_,z2s_],.text false,[q0_,qa_]),
 (z2h_,[zb1_,z2s_],.text true,[q0_,qa_]),
 (za3_,[z19_],.self,[q0_]),
 (z8y_,[z18_],.self,[]),
 (xk_,[zh6_],.name,[]),
 (y0_,[fOid],.oid,[]),
 (yi_,[zi4_],.self,[q0_])]
def tab:List (LU × Int × LL × NormFn):=
 bases.flatMap fun b=>(x7_::b.2.2.2).map fun k=>(b.1++k,kindOf k,b.2.1,b.2.2.1)
inductive Stand (w:World):List (LU × Int × Value)→List (LU × Int × LL × NormFn)→Prop
 |nil:Stand w [] []
 |cons {R:List (LU × Int × Value)} {T:List (LU × Int × LL × NormFn)} {n:LU} {k:Int} {f:LL} {nf:NormFn} {fo nv:Value} (hf:Texts w fo f) (hn:normIs w nv nf) (h:Stand w R T):
   Stand w ((z2_ n,k,.agg #[.string ⟨n.toArray⟩,.int .i64 k,fo,nv])::R) ((n,k,f,nf)::T)
theorem Stand.append {w:World} {R R':List (LU × Int × Value)} {T T':List (LU × Int × LL × NormFn)} (h:Stand w R T) (h':Stand w R' T'):Stand w (R++R') (T++T'):=by
 induction h with
 |nil=>exact h'
 |cons hf hn _ ih=>exact .cons hf hn ih
theorem Stand.news {w:World} (base:LU) {fo nv:Value} {f:LL} {nf:NormFn} (hf:Texts w fo f) (hn:normIs w nv nf) (ks:LL):Stand w (ks.map (kh_ base fo nv)) (ks.map fun k=>(base++k,kindOf k,f,nf)):=by
 induction ks with
 |nil=>exact .nil
 |cons k ks ih=>exact .cons hf hn ih
theorem Stand.keep {w w':World} {R:List (LU × Int × Value)} {T:List (LU × Int × LL × NormFn)} (h:Stand w R T) (hk:∀ v f,Texts w v f→Texts w' v f) (hn:∀ v f,normIs w v f→normIs w' v f):Stand w' R T:=by
 induction h with
 |nil=>exact .nil
 |cons hf hn' _ ih=>exact .cons (hk _ _ hf) (hn _ _ hn') ih
theorem zcv_ (w:World) (v:Value) (t:TypeId):(w.alloc (.cells #[v] t)).cell? ⟨w.heap.size,0,none⟩=some v:=by simp
theorem Texts.new1 (w:World) (x:LU):Texts (w.alloc (.cells #[.string ⟨x.toArray⟩] 9)) (.slice (some ⟨w.heap.size,0,none⟩) 1 1) [x]:=
 .inr ⟨w.heap.size,1,rfl,nR _,by simp,fun j hj=>by
  match j,hj with
  |0,_=>simp⟩
theorem Texts.new2 (w:World) (x y:LU):Texts (w.alloc (.cells #[.string ⟨x.toArray⟩,.string ⟨y.toArray⟩] 9)) (.slice (some ⟨w.heap.size,0,none⟩) 2 2) [x,y]:=
 .inr ⟨w.heap.size,2,rfl,nR _,by simp,fun j hj=>by
  match j,hj with
  |0,_=>simp
  |1,_=>simp⟩
theorem Texts.alloc {w:World} {v:Value} {xs:LL} (h:Texts w v xs) (o:Obj):Texts (w.alloc o) v xs:=h.below ((bR _ _).alloc (nR _) o)
theorem Texts.new1' (w:World) (o:Obj) (x:LU):Texts ((w.alloc o).alloc (.cells #[.string ⟨x.toArray⟩] 9)) (.slice (some ⟨w.heap.size+1,0,none⟩) 1 1) [x]:=by
 have:=Texts.new1 (w.alloc o) x
 rwa [World.size_alloc] at this
theorem Texts.new2' (w:World) (o:Obj) (x y:LU):Texts ((w.alloc o).alloc (.cells #[.string ⟨x.toArray⟩,.string ⟨y.toArray⟩] 9)) (.slice (some ⟨w.heap.size+1,0,none⟩) 2 2) [x,y]:=by
 have:=Texts.new2 (w.alloc o) x y
 rwa [World.size_alloc] at this
theorem Texts.none (w:World):Texts w (.slice none 0 0) []:= .inl ⟨rfl,rfl⟩
structure RS (w:World) (tv:Value) (p r:Nat) (W:World) (T:List (LU × Int × LL × NormFn)):Prop where
 below:Bel w W
 hp:w.heap.size≤p
 hr:w.heap.size≤r
 cell:W.cell? ⟨p,0,Option.none⟩=some (.map (some r))
 tt:Texts W tv [zb1_,z2s_]
 map:∃ es c R,W.heap[r]?=some (.map es c)∧RulesAre es R∧Stand W R T
theorem RS.grow {w:World} {tv:Value} {p r:Nat} {W W':World} {T:List (LU × Int × LL × NormFn)} (h:RS w tv p r W T) (hb:Bel W W'):RS w tv p r W' T:=by
 obtain⟨h1,h2,h3,h4,htt,es,c,R,h5,h6,h7⟩:=h
 have hrl:r<W.heap.size:=(Array.getElem?_eq_some_iff.1 h5).1
 exact⟨tQ h1 hb,h2,h3,(hb.cell (p:=⟨p,0,Option.none⟩) (z9_ h4)).trans h4,htt.below hb,es,c,R,(hb.block r hrl).trans h5,h6,h7.keep (fun _ _ h=>h.below hb) (fun _ _ h=>h.below hb)⟩
theorem RS.alloc {w:World} {tv:Value} {p r:Nat} {W:World} {T:List (LU × Int × LL × NormFn)} (h:RS w tv p r W T) (o:Obj):RS w tv p r (W.alloc o) T:=h.grow ((bR _ _).alloc (nR _) o)
def jt_ (n:LU) (k:Int):List (LU × Int × LL × NormFn)→Option (LU × Int × LL × NormFn)
 |[]=> .none
 |x::T=>if n==z2_ x.1 && k==x.2.1 then some x else jt_ n k T
theorem zb8_ {w:World} {R:List (LU × Int × Value)} {T:List (LU × Int × LL × NormFn)} (h:Stand w R T) (n:LU) (k:Int):
  (jt_ n k T= .none∧z01_ n k R= .none)∨∃ x fo nv,jt_ n k T=some x∧z01_ n k R=some (.agg #[.string ⟨x.1.toArray⟩,.int .i64 x.2.1,fo,nv])∧Texts w fo x.2.2.1∧normIs w nv x.2.2.2:=by
 induction h with
 |nil=>exact .inl ⟨rfl,rfl⟩
 |@cons R T n' k' f nf fo nv hf hn _ ih=>
  simp only[jt_,z01_]
  by_cases hx:(n==z2_ n' && k==k')=true
  ·rw[if_pos hx,if_pos hx]
   exact .inr ⟨_,fo,nv,rfl,rfl,hf,hn⟩
  ·rw[if_neg hx,if_neg hx]
   exact ih
def zik_ (base:LU) (ks:LL) (T:List (LU × Int × LL × NormFn)):Bool:=
 (List.range (ks.length+1)).all fun i=>match ((x7_::ks)[i]?) with
  | .none=>true
  |some k=>(jt_ (z2_ (base++k)) (kindOf k) (T++(((x7_::ks).take i).map fun k=>(base++k,kindOf k,[],NormFn.self))))|>.isNone
theorem zai_ {w:World} {R:List (LU × Int × Value)} {T:List (LU × Int × LL × NormFn)} (h:Stand w R T):R.map (fun x=>(x.1,x.2.1))=T.map (fun x=>(z2_ x.1,x.2.1)):=by
 induction h with
 |nil=>rfl
 |cons _ _ _ ih=>simp [ih]
theorem zku_ (T:List (LU × Int × LL × NormFn)) (R:List (LU × Int × Value)) (n:LU) (k:Int) (h:R.map (fun x=>(x.1,x.2.1))=T.map (fun x=>(z2_ x.1,x.2.1))):(z01_ n k R).isNone=(jt_ n k T).isNone:=by
 induction R generalizing T with
 |nil=>cases T with|nil=>rfl|cons _ _=>simp at h
 |cons x R ih=>
  cases T with
  |nil=>simp at h
  |cons y T=>
   simp only[List.map_cons,List.cons.injEq,Prod.mk.injEq] at h
   simp only[z01_,jt_,h.1.1,h.1.2]
   split
   ·rfl
   ·exact ih _ h.2
theorem xh_ {w:World} {tv:Value} {p r:Nat} {W:World} {T:List (LU × Int × LL × NormFn)} (h:RS w tv p r W T) (base:LU) {fA:Option Addr} {fN fC:Nat} {nF:Fn} {n1 n2:Array Value} {kvv:Value} {f:LL} {nf:NormFn} {ks:LL}
  (hf:Texts W (.slice fA fN fC) f) (hn:normIs W (.func nF n1 n2) nf) (hks:Texts W kvv ks) (hkl:ks.length≤2) (hbl:base.length≤100) (hkk:ks.all (fun k=>decide (k.length≤100))=true) (hfr:zik_ base ks T=true):
  Calls Tryz.prog 265 #[.string ⟨base.toArray⟩,.slice fA fN fC,.func nF n1 n2,kvv,.pointer (some ⟨p,0,Option.none⟩)] W fun e W'=>e= .returned (.tuple #[])∧
   RS w tv p r W' (T++(x7_::ks).map fun k=>(base++k,kindOf k,f,nf)):=by
 obtain⟨h1,h2,h3,h4,htt,es,c,R,h5,h6,h7⟩:=h
 have hrl:r<W.heap.size:=(Array.getElem?_eq_some_iff.1 h5).1
 refine(put_c base fA fN fC nF n1 n2 _ _ kvv rfl rfl ks p r c es R W h4 h5 h6 hks hkl hbl (fun k hk=>by simpa using List.all_eq_true.1 hkk k hk) ?_).mono ?_
 ·intro i x hx
  unfold jb_ at hx ⊢
  rw[List.getElem?_map] at hx
  obtain⟨k,hk,rfl⟩:=Option.map_eq_some_iff.1 hx
  have hi:i<ks.length+1:=by simpa using (List.getElem?_eq_some_iff.1 hk).1
  unfold zik_ at hfr
  have:=List.all_eq_true.1 hfr i (List.mem_range.2 hi)
  rw[hk] at this
  dsimp only at this
  rw[← zku_ _ (R++((x7_::ks).map (kh_ base (.slice fA fN fC) (.func nF n1 n2))).take i)] at this
  ·simpa [kh_] using this
  ·rw[List.map_append,List.map_append,zai_ h7,← List.map_take,List.map_map,List.map_map]
   rfl
 ·rintro e W' ⟨rfl,es',c',g1,g2,g3⟩
  have hT:∀ v xs,Texts W v xs→Texts W' v xs:=by
   intro v xs hx
   rcases hx with hx|⟨b,c,rfl,hc,hlt,hcell⟩
   ·exact .inl hx
   ·rcases xs with _|⟨x,xs⟩
    ·exact .inr ⟨b,c,rfl,hc,Nat.lt_of_lt_of_le hlt g3.size,fun j hj=>absurd hj (by simp)⟩
    ·have hb:b≠r:=by
      rintro rfl
      have:=hcell 0 (by simp)
      simp [World.cell?,h5] at this
     exact .inr ⟨b,c,rfl,hc,Nat.lt_of_lt_of_le hlt g3.size,fun j hj=>g3.cell (hcell j hj) (by simpa using hb)⟩
  have hN:∀ v f,normIs W v f→normIs W' v f:=by
   intro v f hx
   cases f with
   |text fold=>
    obtain⟨a,e1,e2⟩:=hx
    have hb:a≠r:=by rintro rfl;simp [World.cell?,h5] at e2
    exact⟨a,e1,g3.cell e2 (by simpa using hb)⟩
   |_=>exact hx
  have hpr:p≠r:=by rintro rfl;simp [World.cell?,h5] at h4
  refine⟨rfl,⟨?_,h2,h3,g3.cell h4 (by simpa using hpr),hT _ _ htt,es',c',_,g1,g2,?_⟩⟩
  ·exact h1.grown g3 h1.size (fun k hk=>by cases hk;exact h3)
  ·exact(h7.keep hT hN).append (Stand.news base (hT _ _ hf) (hN _ _ hn) (x7_::ks))
theorem zji_ (w:World):
  Calls Tryz.prog 236 #[] w fun e w'=>∃ r es c R,e= .returned (.map (some r))∧w'.heap[r]?=some (.map es c)∧RulesAre es R∧Stand w' R tab∧Bel w w':=by
 have hmm:=@run_makeMap Tryz.prog
 have hmf:=z1y_
 go_enter Tryz.func236,Tryz.ntmps236
 go_wp2_with fail
 obtain⟨W0,hW0⟩:∃ W0:World,((w.alloc (.cells #[.string ⟨#[116,101,120,116]⟩,.string ⟨#[97,115,99,105,105]⟩] 9)).alloc (.map #[] 0)).alloc (.cells #[.map (some (w.heap.size+1))] 261)=W0:=⟨_,rfl⟩
 rw[hW0]
 have hsz:w.heap.size+1+1+1=W0.heap.size:=by rw[← hW0];simp
 rw[hsz]
 have hRS:RS w (.slice (some ⟨w.heap.size,0,Option.none⟩) 2 2) (w.heap.size+1+1) (w.heap.size+1) W0 []:=by
  rw[← hW0]
  refine⟨(((bR _ _).alloc (nR _) _).alloc (by simp) _).alloc (by simp;omega) _,by omega,by omega,?_,((Texts.new2 w zb1_ z2s_).alloc _).alloc _,#[],0,[],?_,rfl,.nil⟩
  ·have:=zcv_ ((w.alloc (.cells #[.string ⟨#[116,101,120,116]⟩,.string ⟨#[97,115,99,105,105]⟩] 9)).alloc (.map #[] 0)) (.map (some (w.heap.size+1))) 261
   rwa [World.size_alloc,World.size_alloc] at this
  rw[Below.heap_alloc _ _ _ (by simp)]
  have:=heap_alloc_new (w.alloc (.cells #[.string ⟨#[116,101,120,116]⟩,.string ⟨#[97,115,99,105,105]⟩] 9)) (.map #[] 0)
  rwa [World.size_alloc] at this
 clear hsz
 clear hW0
 generalize w.heap.size+1+1=p at *
 generalize w.heap.size+1=r at *
 refine(xh_ ((hRS.alloc _).alloc _) z0i_ (nf:= .self) ((Texts.new1 W0 z4m_).alloc _) rfl (Texts.new1' W0 _ q0_) (by decide) (by decide) (by decide) (by decide+kernel)).mono ?_
 rintro e W1 ⟨rfl,h1⟩
 clear hRS
 go_wp2_with fail
 refine(zid_ _ _).mono ?_
 rintro e w2 ⟨rfl,rfl⟩
 go_wp2_with fail
 refine(xh_ ((h1.alloc _).alloc _) z3b_ (nf:= .text false) ((h1.tt.alloc _).alloc _) ⟨_,rfl,by simp⟩ (Texts.new2' W1 _ q0_ qa_) (by decide) (by decide) (by decide) (by decide+kernel)).mono ?_
 rintro e W2 ⟨rfl,h2⟩
 clear h1
 go_wp2_with fail
 refine(zid_ _ _).mono ?_
 rintro e w2 ⟨rfl,rfl⟩
 go_wp2_with fail
 refine(xh_ ((h2.alloc _).alloc _) z2h_ (nf:= .text true) ((h2.tt.alloc _).alloc _) ⟨_,rfl,by simp⟩ (Texts.new2' W2 _ q0_ qa_) (by decide) (by decide) (by decide) (by decide+kernel)).mono ?_
 rintro e W3 ⟨rfl,h3⟩
 clear h2
 go_wp2_with fail
 refine(xh_ ((h3.alloc _).alloc _) za3_ (nf:= .self) ((Texts.new1 W3 z19_).alloc _) rfl (Texts.new1' W3 _ q0_) (by decide) (by decide) (by decide) (by decide+kernel)).mono ?_
 rintro e W4 ⟨rfl,h4⟩
 clear h3
 go_wp2_with fail
 refine(xh_ (h4.alloc _) z8y_ (nf:= .self) (Texts.new1 W4 z18_) rfl (Texts.none _) (by decide) (by decide) (by decide) (by decide+kernel)).mono ?_
 rintro e W5 ⟨rfl,h5⟩
 clear h4
 go_wp2_with fail
 refine(xh_ (h5.alloc _) xk_ (nf:= .name) (Texts.new1 W5 zh6_) rfl (Texts.none _) (by decide) (by decide) (by decide) (by decide+kernel)).mono ?_
 rintro e W6 ⟨rfl,h6⟩
 clear h5
 go_wp2_with fail
 refine(xh_ (h6.alloc _) y0_ (nf:= .oid) (Texts.new1 W6 fOid) rfl (Texts.none _) (by decide) (by decide) (by decide) (by decide+kernel)).mono ?_
 rintro e W7 ⟨rfl,h7⟩
 clear h6
 go_wp2_with fail
 refine(xh_ ((h7.alloc _).alloc _) yi_ (nf:= .self) ((Texts.new1 W7 zi4_).alloc _) rfl (Texts.new1' W7 _ q0_) (by decide) (by decide) (by decide) (by decide+kernel)).mono ?_
 rintro e W8 ⟨rfl,h8⟩
 clear h7
 obtain⟨g1,g2,g3,g4,g5,es,c,R,g6,g7,g8⟩:=h8
 have G6:=hiD g6
 clear g6
 go_wp2_with fail
 go_ret
 exact⟨r,es,c,R,rfl,G6.out,g7,g8,g1⟩
end Go.Proofs.YtakfpngfpknedaaGreatDoor
