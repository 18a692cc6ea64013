import Derived.Test.YtbekpphodbekiaaGreatDoorW0c
import Derived.Lib.IndexAny
set_option linter.all false
set_option maxHeartbeats 8000000
set_option maxRecDepth 100000
namespace Go.Proofs.YtbekpphodbekiaaGreatDoor
open Go.RowKit
section
variable {P:Program} {κ:Type} [DecidableEq κ]
def MapR (kv:κ→Value) (es:Array MapEntry) (R:List (κ × Value)):Prop:=es.toList.map (fun e=>(e.key,e.val))=R.map (fun x=>(kv x.1,x.2))
def jj_ (R:List (κ × Value)) (k:κ):Option Value:=match R with
 |[]=>none
 |x::R=>if k=x.1 then some x.2 else jj_ R k
theorem z6p_ (R R':List (κ × Value)) (k:κ):jj_ (R++R') k=(jj_ R k).or (jj_ R' k):=by
 induction R with
 |nil=>simp [jj_]
 |cons x R ih=>
  simp only[List.cons_append,jj_]
  split
  ·rfl
  ·exact ih
theorem look_none {R:List (κ × Value)} {k:κ}:jj_ R k=none↔∀ x∈R,x.1≠k:=by
 induction R with
 |nil=>simp [jj_]
 |cons x R ih=>
  simp only[jj_,List.mem_cons,forall_eq_or_imp]
  by_cases h:k=x.1
  ·simp [h]
  ·rw[if_neg h,ih]
   constructor
   ·intro h';exact⟨fun e=>h e.symm,h'⟩
   ·intro h';exact h'.2
theorem MapR.push {kv:κ→Value} {es:Array MapEntry} {R:List (κ × Value)} (h:MapR kv es R) (k:κ) (v:Value) (b:Nat):MapR kv (es.push {key:=kv k,val:=v,born:=b}) (R++[(k,v)]):=by
 unfold MapR at h ⊢
 simp [h]
theorem MapR.nil (kv:κ→Value):MapR kv #[] []:=rfl
def z7d_ (P:Program) (K:TypeId) (kv:κ→Value):Prop:=∀ (w:World) (k:κ) (es:Array MapEntry) (R:List (κ × Value)),MapR kv es R→∃ q,(Instr.findKey K (kv k) es.toList).run P w= .ok q w∧q.map (·.2)=jj_ R k
theorem z5e_ {K:TypeId} {kv:κ→Value} (hEq:∀ w a b,(Op.equal K (kv a) (kv b)).run P w= .ok (decide (a=b)) w) (w:World) (k:κ):∀ (es:List MapEntry) (R:List (κ × Value)) (i:Nat),es.map (fun e=>(e.key,e.val))=R.map (fun x=>(kv x.1,x.2))→
  ∃ r,(Instr.findAsking K (kv k) es i).run P w= .ok r w∧r.map (·.2)=jj_ R k
 |[],[],i,_=>⟨none,rfl,rfl⟩
 |[],_::_,i,h=>by simp at h
 |_::_,[],i,h=>by simp at h
 |e::es,x::R,i,h=>by
  simp only[List.map_cons,List.cons.injEq,Prod.mk.injEq] at h
  obtain⟨r,hr,hm⟩:=z5e_ hEq w k es R (i+1) h.2
  simp only[Instr.findAsking,Sem.run_bind,h.1.1,hEq,Result.andThen_ok,jj_]
  by_cases hx:k=x.1
  ·simp only[hx,decide_true,if_true]
   exact⟨some (i,e.val),rfl,by simp [h.1.2]⟩
  ·simp only[hx,decide_false,Bool.false_eq_true,if_false]
   exact⟨r,hr,hm⟩
theorem z1k_ {K:TypeId} {kv:κ→Value} {D:TypeDesc} (hU:P.underlying K=some D) (hNow:∀ a b,Instr.sameNow D (kv a) (kv b)=none) (hEq:∀ w a b,(Op.equal K (kv a) (kv b)).run P w= .ok (decide (a=b)) w):z7d_ P K kv:=by
 intro w k es R h
 unfold MapR at h
 obtain⟨es⟩:=es
 dsimp only at h ⊢
 unfold Instr.findKey
 simp only[Sem.run_bind,run_underlying hU,Result.andThen_ok]
 cases es with
 |nil=>
  cases R with
  |nil=>exact⟨none,rfl,rfl⟩
  |cons _ _=>simp at h
 |cons e es=>
  cases R with
  |nil=>simp at h
  |cons x R=>
   have hk:e.key=kv x.1:=by
    simp only[List.map_cons,List.cons.injEq,Prod.mk.injEq] at h
    exact h.1.1
   have:Instr.findNow D (kv k) (e::es) 0=none:=by simp only[Instr.findNow,hk,hNow]
   rw[this]
   exact z5e_ hEq w k _ _ 0 h
theorem zh5_ {kv:κ→Value} {D:TypeDesc} (hNow:∀ a b,Instr.sameNow D (kv a) (kv b)=some (decide (a=b))) (k:κ):∀ (es:List MapEntry) (R:List (κ × Value)) (i:Nat),es.map (fun e=>(e.key,e.val))=R.map (fun x=>(kv x.1,x.2))→
  ∃ r,Instr.findNow D (kv k) es i=some r∧r.map (·.2)=jj_ R k
 |[],[],i,_=>⟨none,rfl,rfl⟩
 |[],_::_,i,h=>by simp at h
 |_::_,[],i,h=>by simp at h
 |e::es,x::R,i,h=>by
  simp only[List.map_cons,List.cons.injEq,Prod.mk.injEq] at h
  obtain⟨r,hr,hm⟩:=zh5_ hNow k es R (i+1) h.2
  simp only[Instr.findNow,h.1.1,hNow,jj_]
  by_cases hx:k=x.1
  ·simp only[hx,decide_true,if_true]
   exact⟨some (i,e.val),rfl,by simp [h.1.2]⟩
  ·simp only[hx,decide_false,if_false]
   exact⟨r,hr,hm⟩
theorem z8v_ {K:TypeId} {kv:κ→Value} {D:TypeDesc} (hU:P.underlying K=some D) (hNow:∀ a b,Instr.sameNow D (kv a) (kv b)=some (decide (a=b))):z7d_ P K kv:=by
 intro w k es R h
 obtain⟨r,hr,hm⟩:=zh5_ hNow k es.toList R 0 h
 unfold Instr.findKey
 simp only[Sem.run_bind,run_underlying hU,Result.andThen_ok,hr]
 exact⟨r,rfl,hm⟩
theorem z6u_ {T K E:TypeId} {kv:κ→Value} (hT:P.underlying T=some (.map K E)) (hF:z7d_ P K kv) (hC:∀ (b:Bool) w k,(Instr.checkKey b 10000 K (kv k)).run P w= .ok () w)
  (w:World) (r c:Nat) (es:Array MapEntry) (R:List (κ × Value)) (hw:w.heap[r]?=some (.map es c)) (h:MapR kv es R) (k:κ) (v:Value) (hn:jj_ R k=none):
  (Instr.mapUpdate T (.map (some r)) (kv k) v).run P w= .ok () (World.setMap w r (es.push {key:=kv k,val:=v,born:=c}) (c+1)):=by
 obtain⟨q,hq,hm⟩:=hF w k es R h
 rw[hn] at hm
 obtain rfl:q=none:=by simpa using hm
 unfold Instr.mapUpdate
 simp only[Sem.run_bind,run_underlying hT,Result.andThen_ok]
 simp only[getObj,Sem.run,Sem.run_bind,hw,Result.andThen_ok,hC,hq,setObj,World.setMap]
theorem zcx_ {T K E:TypeId} {kv:κ→Value} (hT:P.underlying T=some (.map K E)) (hF:z7d_ P K kv) (hC:∀ (b:Bool) w k,(Instr.checkKey b 10000 K (kv k)).run P w= .ok () w) {z:Value} (hz:∀ w,(zeroValue E).run P w= .ok z w)
  (w:World) (r c:Nat) (es:Array MapEntry) (R:List (κ × Value)) (hw:w.heap[r]?=some (.map es c)) (h:MapR kv es R) (k:κ):
  (Instr.lookup T (.map (some r)) (kv k) false).run P w= .ok ((jj_ R k).getD z) w:=by
 obtain⟨q,hq,hm⟩:=hF w k es R h
 unfold Instr.lookup
 simp only[Sem.run_bind,run_underlying hT,Result.andThen_ok]
 simp only[getObj,Sem.run,Sem.run_bind,hw,Result.andThen_ok,hC,hq,pure,Sem.run_pure]
 rw[← hm]
 cases q with
 |none=>
  simp only[Sem.run_bind,hz,Result.andThen_ok]
  rfl
 |some x=>rfl
theorem zaa_ {T K E:TypeId} {kv:κ→Value} (hT:P.underlying T=some (.map K E)) (hF:z7d_ P K kv) (hC:∀ (b:Bool) w k,(Instr.checkKey b 10000 K (kv k)).run P w= .ok () w) {z:Value} (hz:∀ w,(zeroValue E).run P w= .ok z w)
  (w:World) (r c:Nat) (es:Array MapEntry) (R:List (κ × Value)) (hw:w.heap[r]?=some (.map es c)) (h:MapR kv es R) (k:κ):
  (Instr.lookup T (.map (some r)) (kv k) true).run P w= .ok (.tuple #[(jj_ R k).getD z,.bool (jj_ R k).isSome]) w:=by
 obtain⟨q,hq,hm⟩:=hF w k es R h
 unfold Instr.lookup
 simp only[Sem.run_bind,run_underlying hT,Result.andThen_ok]
 simp only[getObj,Sem.run,Sem.run_bind,hw,Result.andThen_ok,hC,hq,pure,Sem.run_pure]
 rw[← hm]
 cases q with
 |none=>
  simp only[Sem.run_bind,hz,Result.andThen_ok]
  rfl
 |some x=>rfl
end
open Go.RowKit
structure Mods (S:List Nat) (w w':World):Prop where
 os:w'.os=w.os
 tape:w'.tape=w.tape
 output:w'.output=w.output
 size:w.heap.size≤w'.heap.size
 block:∀ k,k<w.heap.size→k ∉ S→w'.heap[k]?=w.heap[k]?
theorem Mods.refl (S:List Nat) (w:World):Mods S w w:=⟨rfl,rfl,rfl,nR _,fun _ _ _=>rfl⟩
theorem Mods.trans {S:List Nat} {a b c:World} (h:Mods S a b) (k:Mods S b c):Mods S a c:=
 ⟨k.os.trans h.os,k.tape.trans h.tape,k.output.trans h.output,nT h.size k.size,fun i hi hn=>(k.block i (Nat.lt_of_lt_of_le hi h.size) hn).trans (h.block i hi hn)⟩
theorem Mods.mono {S S':List Nat} {w w':World} (h:Mods S w w') (hs:∀ x∈S,x∈S'):Mods S' w w':=⟨h.os,h.tape,h.output,h.size,fun k hk hn=>h.block k hk (fun hx=>hn (hs k hx))⟩
theorem Mods.news {S S':List Nat} {w w':World} (h:Mods S w w') (hs:∀ x∈S,x∈S'∨w.heap.size≤x):Mods S' w w':=⟨h.os,h.tape,h.output,h.size,fun k hk hn=>h.block k hk (fun hx=>by
 rcases hs k hx with h1|h1
 ·exact hn h1
 ·omega)⟩
theorem Mods.of_below {w w':World} (h:Bel w w') (S:List Nat):Mods S w w':=⟨h.os,h.tape,h.output,h.size,fun k hk _=>h.block k hk⟩
theorem Mods.of_grown {w w':World} {r:Nat} (h:w.grownBy w' (some r)) {S:List Nat} (hr:r∈S):Mods S w w':=⟨h.os,h.tape,h.output,h.size,fun k hk hn=>h.block k hk (fun e=>by cases e;exact hn hr)⟩
theorem Mods.of_grown' {w w':World} {r:Option Nat} (h:w.grownBy w' r) {S:List Nat} (hr:∀ k,r=some k→k∈S):Mods S w w':=⟨h.os,h.tape,h.output,h.size,fun k hk hn=>h.block k hk (fun e=>hn (hr k e.symm))⟩
theorem Mods.drew {S:List Nat} {a w:World} (h:Mods S a w):Mods S a w.drew:=⟨h.os,h.tape,h.output,h.size,h.block⟩
theorem Mods.drewN {S:List Nat} {a w:World} (h:Mods S a w) (n:Nat):Mods S a (w.drewN n):=⟨h.os,h.tape,h.output,h.size,h.block⟩
theorem Mods.alloc {S:List Nat} {a w:World} (h:Mods S a w) (o:Obj):Mods S a (w.alloc o):=h.trans (Mods.of_below ((bR _ _).alloc (nR _) o) S)
theorem Mods.setCell {S:List Nat} {a w:World} (h:Mods S a w) {p:Addr} (hp:p.block∈S) (u:Value):Mods S a (w.setCell p u):=
 h.trans ⟨rfl,rfl,rfl,by simp [World.setCell],fun k hk hn=>Below.heap_setCell _ _ _ _ (by rintro rfl;exact hn hp)⟩
theorem Mods.setMap {S:List Nat} {a w:World} (h:Mods S a w) {r:Nat} (hr:r∈S) (es:Array MapEntry) (c:Nat):Mods S a (World.setMap w r es c):=
 h.trans ⟨rfl,rfl,rfl,by rw[vq_];exact nR _,fun k hk hn=>xz_ (by rintro rfl;exact hn hr)⟩
theorem Mods.below {S:List Nat} {B:Nat} {w w':World} (h:Mods S w w') (hB:B≤w.heap.size) (hS:∀ x∈S,B≤x):Below B w w':=
 ⟨h.os,h.tape,h.output,h.size,fun k hk=>h.block k (Nat.lt_of_lt_of_le hk hB) (fun hx=>by have:=hS k hx;omega)⟩
theorem Mods.same {S:List Nat} {w w':World} (h:Mods S w w') {g:Nat} {o:Obj} (ho:w.heap[g]?=some o) (hg:g ∉ S):w'.heap[g]?=some o:=
 (h.block g (Array.getElem?_eq_some_iff.1 ho).1 hg).trans ho
theorem Mods.bk {S:List Nat} {w w':World} (h:Mods S w w') {g:Nat} {t:TypeId} {cs:Array Value} (hb:Bk w g t cs) (hg:g ∉ S):Bk w' g t cs:=Mods.same h hb hg
theorem Mods.cell {S:List Nat} {w w':World} (h:Mods S w w') {g o:Nat} {v:Value} (hc:w.cell? ⟨g,o,none⟩=some v) (hg:g ∉ S):w'.cell? ⟨g,o,none⟩=some v:=by
 rw[World.cell?_of_block (w:=w) (h.block g (z9_ hc) hg)]
 exact hc
def NoText (w:World) (S:List Nat):Prop:=∀ g∈S,∀ s,w.cell? ⟨g,0,none⟩≠some (.string s)
theorem Texts.mods {S:List Nat} {w w':World} {v:Value} {xs:LL} (h:Texts w v xs) (hm:Mods S w w') (hS:NoText w S):Texts w' v xs:=by
 rcases h with h|⟨b,c,rfl,hc,hlt,hcell⟩
 ·exact .inl h
 ·refine .inr ⟨b,c,rfl,hc,Nat.lt_of_lt_of_le hlt hm.size,fun j hj=>hm.cell (hcell j hj) (fun hb=>?_)⟩
  exact hS b hb _ (hcell 0 (by omega))
open Go.RowKit
def yb_ (x:Wd):List Value:=[.string ⟨x.1.toArray⟩,.bool x.2]
def Wds (B:Nat) (w:World) (v:Value) (l:List Wd):Prop:=w.ownsRow B 182 2 v l.length (l.flatMap yb_)∧B≤w.heap.size
theorem Wds.lt {B:Nat} {w:World} {v:Value} {l:List Wd} (h:Wds B w v l):∀ k,v.ownBlock=some k→B≤k∧k<w.heap.size:=fun k hk=>h.1.lt k hk
theorem Wds.keep {B:Nat} {w w':World} {v:Value} {l:List Wd} (h:Wds B w v l) {r:Option Nat} (hg:w.grownBy w' r) (hr:∀ k,r=some k→k<B):Wds B w' v l:=by
 refine⟨h.1.kept hg ?_,nT h.2 hg.size⟩
 rcases hv:v.ownBlock with _|g
 ·exact .inl rfl
 ·refine .inr ?_
  intro he
  have:=hr g he.symm
  have:=(h.1.lt g hv).1
  omega
theorem Wds.below {B:Nat} {w w':World} {v:Value} {l:List Wd} (h:Wds B w v l) (hb:Bel w w'):Wds B w' v l:=h.keep (zc_ hb none) (fun k hk=>by cases hk)
theorem Wds.nil {B:Nat} {w:World} (hB:B≤w.heap.size):Wds B w (.slice none 0 0) []:=⟨World.ownsRow_nil _ _ _ _,hB⟩
theorem Wds.isSlice {B:Nat} {w:World} {v:Value} {l:List Wd} (h:Wds B w v l):∃ A c,v= .slice A l.length c∧l.length≤c:=by
 obtain⟨⟨h1,h2⟩,h3⟩:=h
 rcases h2 with ⟨rfl,hn⟩|⟨g,cap,cur,rfl,r2,r3,r4,_⟩
 ·exact⟨none,0,by rw[hn],by omega⟩
 ·exact⟨_,cap,rfl,r4⟩
theorem zmi_:∃ i,Tryz.prog.info? 182=some i∧i.zero=some (.agg #[.string ⟨#[]⟩,.bool false])∧i.size=2∧i.bytes=24:=by
 obtain⟨i,h1,h2,h3,h4⟩:=info_parts (show (Tryz.prog.info? 182).map (fun i=>(i.zero,i.size,i.bytes))=some (some (.agg #[.string ⟨#[]⟩,.bool false]),2,24) by kernel_rfl)
 exact⟨i,h1,h2,h3,h4⟩
theorem z7f_ {ops:Array Oper} {rest:List Oper} {o:Oper} {a:Act} {Q:Exit→Act→World→Prop} (hgd:o.guard=none) (s x:Operand) (ho:o.op= .call {callee:= .builtin .append,args:=#[s,x],argTypes:=#[128,128]})
  {v:Value} {l:List Wd} {B N:Nat} {w0:World} {t:LU} {q:Bool} (hs:a.eval s=v) (hb:Wds B w0 v l)
  (hx:a.eval x= .slice (some ⟨N,0,none⟩) 1 1) (hN:N=w0.heap.size) (hlen:l.length<1000000)
  (h:∀ v' w',Wds B w' v' (l++[(t,q)])→w0.grownBy w' v.ownBlock→wpList Tryz.prog ops Q rest (a.put o.dst v') w'):wpList Tryz.prog ops Q (o::rest) a (w0.alloc (.cells #[.string ⟨t.toArray⟩,.bool q] 182)):=by
 subst hN
 obtain⟨i,h1,h2,h3,h4⟩:=zmi_
 have hb':=hb.keep (World.grownBy_alloc w0 (.cells #[.string ⟨t.toArray⟩,.bool q] 182) none) (fun k hk=>by cases hk)
 refine wpList_append_own _ hgd s x 128 ho B 182 i (.agg #[.string ⟨#[]⟩,.bool false]) 2 24 Tryz.underlying128 h1 h2 h3 h4 rfl (by decide) v _ _ hs hb'.1 ⟨w0.heap.size,0,none⟩ 1 1 (yb_ (t,q)) hx rfl ?_ ?_ (by unfold maxLen;omega) (by omega) hb'.2 ?_
 ·intro j y hj
  match j,hj with
  |0,hj=>simp [yb_] at hj;subst hj;simp [Addr.add]
  |1,hj=>simp [yb_] at hj;subst hj;simp [Addr.add]
  |(j+2),hj=>simp [yb_] at hj
 ·intro y hy;simp [yb_] at hy;rcases hy with rfl|rfl<;>rfl
 ·intro v' w' ho' hg _
  refine h v' w' ⟨?_,nT hb'.2 hg.size⟩ (gT (World.grownBy_alloc _ _ _) hg)
  simpa using ho'
theorem z95_:∀ (l:List Wd) (j:Nat) (x:Wd),l[j]?=some x→(l.flatMap yb_)[2 * j]?=some (.string ⟨x.1.toArray⟩)∧(l.flatMap yb_)[2 * j+1]?=some (.bool x.2)
 |[],j,x,h=>by simp at h
 |y::l,0,x,h=>by
  simp at h;subst h
  simp [yb_]
 |y::l,j+1,x,h=>by
  have:=z95_ l j x (by simpa using h)
  simp only[List.flatMap_cons,yb_,List.cons_append,List.nil_append]
  rw[show 2 * (j+1)=2 * j+1+1 by omega]
  simpa using this
def WdsR (w:World) (v:Value) (l:List Wd):Prop:=
 ∃ A c,v= .slice A l.length c∧l.length≤c∧(l=[]∨∃ g o,A=some ⟨g,o,none⟩∧(∃ cs z,w.heap[g]?=some (.cells cs 182 z))∧∀ j x,l[j]?=some x→w.cell? ⟨g,o+2 * j,none⟩=some (.string ⟨x.1.toArray⟩)∧w.cell? ⟨g,o+2 * j+1,none⟩=some (.bool x.2))
theorem Wds.reads {B:Nat} {w:World} {v:Value} {l:List Wd} (h:Wds B w v l):WdsR w v l:=by
 obtain⟨⟨h1,h2⟩,h3⟩:=h
 rcases h2 with ⟨rfl,hn⟩|⟨g,cap,cur,rfl,r2,r3,r4,r5,r6,r7⟩
 ·exact⟨none,0,by rw[hn],by omega,.inl (List.eq_nil_of_length_eq_zero hn)⟩
 ·refine⟨_,cap,rfl,r4,?_⟩
  have key:∀ j x,l[j]?=some x→w.cell? ⟨g,2 * j,none⟩=some (.string ⟨x.1.toArray⟩)∧w.cell? ⟨g,2 * j+1,none⟩=some (.bool x.2):=by
   intro j x hj
   have hf:=z95_ l j x hj
   have hjl:j<l.length:=(List.getElem?_eq_some_iff.1 hj).1
   rw[← r7,List.getElem?_take,List.getElem?_take,if_pos (by omega),if_pos (by omega)] at hf
   simp only[World.cell?,r3]
   simpa using hf
  cases l with
  |nil=>exact .inl rfl
  |cons y t=>exact .inr ⟨g,0,rfl,⟨_,_,r3⟩,fun j x hj=>by rw[Nat.zero_add];exact key j x hj⟩
def NoWord (w:World) (S:List Nat):Prop:=∀ g∈S,∀ cs z,w.heap[g]?≠some (.cells cs 182 z)
theorem NoWord.of_bk {w:World} {g:Nat} {t:TypeId} {cs:Array Value} (h:Bk w g t cs) (ht:t≠182):NoWord w [g]:=by
 intro k hk cs' z
 have:k=g:=by simpa using hk
 subst this
 unfold Bk at h
 rw[h]
 intro e
 cases e
 exact ht rfl
theorem WdsR.mods {S:List Nat} {w w':World} {v:Value} {l:List Wd} (h:WdsR w v l) (hm:Mods S w w') (hS:NoWord w S):WdsR w' v l:=by
 obtain⟨A,c,rfl,hc,h⟩:=h
 refine⟨A,c,rfl,hc,h.imp id ?_⟩
 rintro⟨g,o,rfl,⟨cs,z,hs⟩,hx⟩
 have hg:g ∉ S:=fun hg=>hS g hg cs z hs
 exact⟨g,o,rfl,⟨cs,z,hm.same hs hg⟩,fun j x hj=>⟨hm.cell (hx j x hj).1 hg,hm.cell (hx j x hj).2 hg⟩⟩
theorem WdsR.below {w w':World} {v:Value} {l:List Wd} (h:WdsR w v l) (hb:Bel w w'):WdsR w' v l:=h.mods (Mods.of_below hb []) (fun g hg=>by cases hg)
theorem WdsR.uncons {w:World} {A:Option Addr} {n c:Nat} {x:Wd} {l:List Wd} (h:WdsR w (.slice A n c) (x::l)):∃ g o,A=some ⟨g,o,none⟩∧n=l.length+1∧l.length+1≤c∧w.cell? ⟨g,o,none⟩=some (.string ⟨x.1.toArray⟩)∧w.cell? ⟨g,o+1,none⟩=some (.bool x.2)∧
  ∀ A' c',l.length≤c'→(1<c→A'=some ⟨g,o+2,none⟩)→WdsR w (.slice A' l.length c') l:=by
 obtain⟨A0,c0,e,hc,h⟩:=h
 cases e
 rcases h with h|⟨g,o,rfl,hs,hx⟩
 ·cases h
 ·refine⟨g,o,rfl,rfl,hc,(hx 0 x rfl).1,(hx 0 x rfl).2,?_⟩
  intro A' c' hc' h1
  refine⟨A',c',rfl,hc',?_⟩
  cases l with
  |nil=>exact .inl rfl
  |cons y t=>
   simp only[List.length_cons] at hc
   refine .inr ⟨g,o+2,h1 (by omega),hs,fun j z hj=>?_⟩
   have:=hx (j+1) z (by simpa using hj)
   rw[show o+2 * (j+1)=o+2+2 * j by omega] at this
   exact this
def RdW (w:World) (r:Nat) (l:List Wd):Prop:=∃ v,Bk w r 133 #[v]∧WdsR w v l
theorem RdW.notext {w:World} {r:Nat} {l:List Wd} (h:RdW w r l):NoText w [r]:=by
 obtain⟨v,hb,A,c,rfl,_⟩:=h
 intro g hg s
 have:g=r:=by simpa using hg
 subst this
 rw[hb.cell 0]
 simp
theorem RdW.noword {w:World} {r:Nat} {l:List Wd} (h:RdW w r l):NoWord w [r]:=by
 obtain⟨v,hb,_⟩:=h
 exact NoWord.of_bk hb (by decide)
theorem RdW.mods {S:List Nat} {w w':World} {r:Nat} {l:List Wd} (h:RdW w r l) (hm:Mods S w w') (hr:r ∉ S) (hS:NoWord w S):RdW w' r l:=by
 obtain⟨v,hb,hw⟩:=h
 exact⟨v,hm.bk hb hr,hw.mods hm hS⟩
theorem RdW.below {w w':World} {r:Nat} {l:List Wd} (h:RdW w r l) (hb:Bel w w'):RdW w' r l:=h.mods (Mods.of_below hb []) (by simp) (fun g hg=>by cases hg)
open Go.RowKit
def stopCs:LU:=[32,9,10,13,40,41,36,39]
theorem zi8_ (c:UInt8):xu_ c=stopCs.contains c:=by
 unfold xu_ q1_ v9_ stopCs
 rw[Bool.eq_iff_iff]
 simp [or_assoc]
theorem z4q_ (c:UInt8):(q1_ c=true↔0≤Lib.indexByte [32,9,10,13] c):=by
 rw[z6m_]
 unfold q1_
 simp [or_assoc]
theorem z51_ (c:UInt8):(v9_ c=true↔0≤Lib.indexByte [40,41,36] c):=by
 rw[z6m_]
 unfold v9_
 simp [or_assoc]
theorem z3r_:∀ (l:LU) (c:UInt8),l.contains c=true→Lib.indexByte l c=((l.takeWhile (· !=c)).length:Int)∧(l.takeWhile (· !=c)).length<l.length
 |[],c,h=>by simp at h
 |b::l,c,h=>by
  rw[Lib.indexByte,List.takeWhile_cons]
  by_cases hb:b=c
  ·subst hb;simp
  ·have h1:l.contains c=true:=by
    simp only[List.contains_eq_mem,List.mem_cons,decide_eq_true_eq] at h ⊢
    rcases h with h|h
    ·exact absurd h.symm hb
    ·exact h
   obtain⟨h2,h3⟩:=z3r_ l c h1
   have h4:(b==c)=false:=beq_eq_false_iff_ne.2 hb
   have h5:(b !=c)=true:=by simp [hb]
   rw[h4,h5,h2]
   simp only[Bool.false_eq_true,if_false,if_true,List.length_cons]
   have h6:(((l.takeWhile (· !=c)).length:Int)== -1)=false:=by rw[beq_eq_false_iff_ne];omega
   rw[h6]
   simp only[Bool.false_eq_true,if_false]
   exact⟨by omega,by omega⟩
theorem z8b_ (l:LU) (c:UInt8) (h:l.contains c=false):Lib.indexByte l c= -1:=by
 have h1:=Lib.indexByte_ge l c
 have h2:¬ 0≤Lib.indexByte l c:=by
  rw[z6m_]
  simpa using h
 omega
theorem z8p_ (cs:LU):∀ l:LU,l.any cs.contains=true→Lib.indexAny l cs=((l.takeWhile (fun c=>!cs.contains c)).length:Int)∧(l.takeWhile (fun c=>!cs.contains c)).length<l.length
 |[],h=>by simp at h
 |b::l,h=>by
  rw[Lib.indexAny,List.takeWhile_cons]
  cases hb:cs.contains b
  ·have h1:l.any cs.contains=true:=by
    rw[List.any_cons,hb,Bool.false_or] at h
    exact h
   obtain⟨h2,h3⟩:=z8p_ cs l h1
   rw[h2]
   simp only[Bool.false_eq_true,if_false,Bool.not_false,if_true,List.length_cons]
   have h6:(((l.takeWhile (fun c=>!cs.contains c)).length:Int)== -1)=false:=by rw[beq_eq_false_iff_ne];omega
   rw[h6]
   simp only[Bool.false_eq_true,if_false]
   exact⟨by omega,by omega⟩
  ·simp
theorem z8a_ (cs:LU):∀ l:LU,l.any cs.contains=false→Lib.indexAny l cs= -1∧l.takeWhile (fun c=>!cs.contains c)=l
 |[],_=>by simp [Lib.indexAny]
 |b::l,h=>by
  rw[List.any_cons,Bool.or_eq_false_iff] at h
  obtain⟨h2,h3⟩:=z8a_ cs l h.2
  rw[Lib.indexAny,List.takeWhile_cons,h.1,h2,h3]
  simp
theorem zdg_:(fun c=>!xu_ c)=fun c=>!stopCs.contains c:=funext fun c=>by rw[zi8_]
theorem js_:∀ (n m:Nat) (r:LU) (acc:List Wd),r.length<n→r.length<m→j9_ n r acc=j9_ m r acc
 |0,_,_,_,h,_=>by omega
 |_+1,0,_,_,_,h=>by omega
 |n+1,m+1,r,acc,h1,h2=>by
  have hd:(r.dropWhile q1_).length≤r.length:=(List.dropWhile_sublist _).length_le
  rw[j9_,j9_]
  cases hr:r.dropWhile q1_ with
  |nil=>rfl
  |cons c t=>
   rw[hr] at hd
   simp only[List.length_cons] at hd
   simp only
   split
   ·split
    ·refine js_ n m _ _ ?_ ?_
     all_goals
      have:=(List.dropWhile_sublist (fun x:UInt8=>x !=39) (l:=t)).length_le
      rw[List.length_tail]
      omega
    ·rfl
   ·split
    ·exact js_ n m t _ (by omega) (by omega)
    ·refine js_ n m _ _ ?_ ?_
     all_goals
      have:=(List.dropWhile_sublist (fun c:UInt8=>!xu_ c) (l:=t)).length_le
      omega
theorem zed_ (n:Nat) {r:LU} (acc:List Wd) (h:r.dropWhile q1_=[]):j9_ (n+1) r acc=some acc:=by
 rw[j9_,h]
theorem z0l_ (n:Nat) {r t:LU} {c:UInt8} (acc:List Wd) (hn:r.length<n+1) (h:r.dropWhile q1_=c::t):j9_ (n+1) r acc=(
   if c==39 then (if t.contains 39 then j9_ (n+1) (t.dropWhile (· !=39)).tail (acc++[(t.takeWhile (· !=39),true)]) else none)
   else if v9_ c then j9_ (n+1) t (acc++[([c],false)])
   else j9_ (n+1) (t.dropWhile (fun c=>!xu_ c)) (acc++[(c::t.takeWhile (fun c=>!xu_ c),false)])):=by
 have hd:(r.dropWhile q1_).length≤r.length:=(List.dropWhile_sublist _).length_le
 rw[h] at hd
 simp only[List.length_cons] at hd
 have h1:=(List.dropWhile_sublist (fun x:UInt8=>x !=39) (l:=t)).length_le
 have h2:=(List.dropWhile_sublist (fun c:UInt8=>!xu_ c) (l:=t)).length_le
 rw[j9_,h]
 simp only
 rw[js_ n (n+1) (t.dropWhile (· !=39)).tail _ (by rw[List.length_tail];omega) (by rw[List.length_tail];omega),js_ n (n+1) t _ (by omega) (by omega),js_ n (n+1) (t.dropWhile fun c=>!xu_ c) _ (by omega) (by omega)]
theorem ys_ {α:Type} (p:α→Bool):∀ t:List α,t.drop (t.takeWhile p).length=t.dropWhile p
 |[]=>rfl
 |c::t=>by
  rw[List.takeWhile_cons,List.dropWhile_cons]
  cases p c
  ·rfl
  ·simpa using ys_ p t
theorem yy_ {α:Type} (p:α→Bool):∀ t:List α,t.take (t.takeWhile p).length=t.takeWhile p
 |[]=>rfl
 |c::t=>by
  rw[List.takeWhile_cons]
  cases p c
  ·rfl
  ·simpa using yy_ p t
open Go.RowKit
theorem znz_ (W:World) (a b:LU) (p q:Bool):(Op.equalIn 10000 182 (.agg #[.string ⟨a.toArray⟩,.bool p]) (.agg #[.string ⟨b.toArray⟩,.bool q])).run Tryz.prog W= .ok (a==b && p==q) W:=by
 have u9:=Tryz.underlying9
 have a9:=Tryz.isAgg9
 have z9:=Tryz.sizeOf9
 have u4:=Tryz.underlying4
 have a4:=Tryz.isAgg4
 have z4:=Tryz.sizeOf4
 have hS:Tryz.prog.underlying 182=some (.struct (Tryz.prog.fieldsOf 182)):=by kernel_rfl
 have hp:Tryz.prog.stoodInHeld 182=false:=by kernel_rfl
 rw[show (10000:Nat)=9999+1 from rfl,run_equalIn_agg W 9999 182 _ _ hS hp]
 simp only[Program.fieldsOf,Tryz.underlying182]
 go_simp
 by_cases h1:a=b<;>by_cases h2:p=q<;>simp [h1,h2]
theorem zl0_ (W:World) (a b:LU) (p q:Bool):(binOp .eql 182 (.agg #[.string ⟨a.toArray⟩,.bool p]) (.agg #[.string ⟨b.toArray⟩,.bool q])).run Tryz.prog W= .ok (.bool (a==b && p==q)) W:=by
 rw[run_eql_struct,znz_];rfl
theorem RdW.at {w:World} {r:Nat} {l:List Wd} (h:RdW w r l):∃ A c,Bk w r 133 #[.slice A l.length c]∧WdsR w (.slice A l.length c) l∧l.length≤c:=by
 obtain⟨v,hb,hw⟩:=h
 obtain⟨A,c,rfl,hc,_⟩:=id hw
 exact⟨A,c,hb,hw,hc⟩
theorem RdW.step {w:World} {r:Nat} {A:Option Addr} {n c:Nat} {x:Wd} {l:List Wd} (hb:Bk w r 133 #[.slice A n c]) {v:Value} (hw:WdsR w v l):RdW (w.setCell ⟨r,0,none⟩ v) r l:=by
 refine⟨v,by simpa using hb.set 0 v,hw.mods (S:=[r]) ((Mods.refl [r] w).setCell (by simp) v) (NoWord.of_bk hb (by decide))⟩
theorem is_nil (r:Nat) (s:LU) (w:World) (h:RdW w r []):
  Calls Tryz.prog 112 #[.pointer (some ⟨r,0,none⟩),.string ⟨s.toArray⟩] w fun e w'=>e= .returned (.bool false)∧w=w':=by
 obtain⟨A,c,hb,_,_⟩:=h.at
 have c0:=hb.cell 0
 simp at c0
 go_enter Tryz.func112,Tryz.ntmps112
 go_wp2_with fail
 go_ret
 exact⟨rfl,rfl⟩
theorem znp_ (r:Nat) (x:Wd) (l:List Wd) (s:LU) (w:World) (h:RdW w r (x::l)):
  Calls Tryz.prog 112 #[.pointer (some ⟨r,0,none⟩),.string ⟨s.toArray⟩] w fun e w'=>e= .returned (.bool (rIs (x::l) s))∧w=w':=by
 obtain⟨A,c,hb,hw,_⟩:=h.at
 obtain⟨g,o,rfl,_,hc,d0,d1,_⟩:=hw.uncons
 have c0:=hb.cell 0
 simp at c0
 obtain⟨t,q⟩:=x
 simp only at d0 d1
 have heq:=fun W=>zl0_ W t s q false
 clear hb hw
 have hl0:(0:Int)<(l.length:Int)+1:=by omega
 go_enter Tryz.func112,Tryz.ntmps112
 go_wp2_with fail
 go_ret
 exact⟨rfl,rfl⟩
theorem is_w (r:Nat) (l:List Wd) (s:LU) (w:World) (h:RdW w r l):
  Calls Tryz.prog 112 #[.pointer (some ⟨r,0,none⟩),.string ⟨s.toArray⟩] w fun e w'=>e= .returned (.bool (rIs l s))∧w=w':=by
 cases l with
 |nil=>exact is_nil r s w h
 |cons x l=>exact znp_ r x l s w h
theorem z0x_ (g o k c:Nat) (hc:k+1≤c):∃ A',(∀ W:World,(Instr.slice 128 (.slice (some ⟨g,o,none⟩) (k+1) c) (some (.int .i64 1)) none none).run Tryz.prog W= .ok (.slice A' k (c - 1)) W)∧(1<c→A'=some ⟨g,o+2,none⟩):=by
 by_cases h1:c=1
 ·refine⟨some ⟨g,o,none⟩,fun W=>?_,fun h=>by omega⟩
  have hk:k=0:=by omega
  subst h1 hk
  have hb:(Instr.sliceBounds true 1 1 (some (.int .i64 1)) none none).run Tryz.prog W= .ok (1,1,1) W:=by
   simp [Instr.sliceBounds,run_sliceBound]
  have h2:(sizeOf 182).run Tryz.prog W= .ok 2 W:=by kernel_rfl
  unfold Instr.slice
  simp only[Sem.run_bind,run_underlying Tryz.underlying128,Result.andThen_ok,hb,h2,Sem.run_pure]
  simp
 ·refine⟨some ⟨g,o+2,none⟩,fun W=>?_,fun _=>rfl⟩
  have hb:(Instr.sliceBounds true (k+1) c (some (.int .i64 1)) none none).run Tryz.prog W= .ok (1,k+1,c) W:=by
   have h1':(Instr.sliceBound (.int .i64 1) (k+1) BoundsCode.sliceB).run Tryz.prog W= .ok 1 W:=by
    have:=run_sliceBound (P:=Tryz.prog) (w:=W) .i64 1 (k+1) BoundsCode.sliceB (by omega) (by omega)
    exact this
   simp [Instr.sliceBounds,h1']
  have h2:(sizeOf 182).run Tryz.prog W= .ok 2 W:=by kernel_rfl
  unfold Instr.slice
  simp only[Sem.run_bind,run_underlying Tryz.underlying128,Result.andThen_ok,hb,h2,Sem.run_pure]
  have ha:(⟨g,o,none⟩:Addr).add (1 * 2)=⟨g,o+2,none⟩:=by unfold Addr.add;split<;>simp_all
  simp [ha]
  omega
def z74_ (w:World) (r:Nat) (l':List Wd) (v:Value) (e:Ending) (w':World):Prop:=e= .returned v∧RdW w' r l'∧w.grownBy w' (some r)
theorem z18_ (w:World) (r:Nat) (v:Value):w.grownBy (w.setCell ⟨r,0,none⟩ v) (some r):=z7_ w r 0 v
theorem zk3_ (r:Nat) (x:Wd) (l:List Wd) (s:LU) (w:World) (h:RdW w r (x::l)) (hs:rIs (x::l) s=true):
  Calls Tryz.prog 58 #[.pointer (some ⟨r,0,none⟩),.string ⟨s.toArray⟩] w (z74_ w r l (.bool true)):=by
 have HI:=hiD (is_w r (x::l) s w h)
 rw[hs] at HI
 obtain⟨A,c,hb,hw,_⟩:=h.at
 obtain⟨g,o,rfl,_,hc,d0,d1,hu⟩:=hw.uncons
 obtain⟨A',hsl,hA'⟩:=z0x_ g o l.length c hc
 have hfin:=RdW.step (x:=x) hb (hu A' (c - 1) (by omega) hA')
 have HF:=hiD hfin
 have c0:=hb.cell 0
 have f0:=hb.frozen 0
 simp at c0
 clear hfin hu hA' hw hb d0 d1 hs h
 go_enter Tryz.func58,Tryz.ntmps58
 go_wp2_with (go_at_call 112;refine HI.out.mono ?_;rintro e w1 ⟨rfl,rfl⟩)
 go_ret
 exact⟨rfl,HF.out,z18_ _ _ _⟩
theorem qo_ (r:Nat) (l:List Wd) (s:LU) (w:World) (h:RdW w r l) (hs:rIs l s=false):
  Calls Tryz.prog 58 #[.pointer (some ⟨r,0,none⟩),.string ⟨s.toArray⟩] w fun e w'=>e= .returned (.bool false)∧w=w':=by
 have HI:=hiD (is_w r l s w h)
 rw[hs] at HI
 clear hs h
 go_enter Tryz.func58,Tryz.ntmps58
 go_wp2_with (go_at_call 112;refine HI.out.mono ?_;rintro e w1 ⟨rfl,rfl⟩)
 go_ret
 exact⟨rfl,rfl⟩
def x7_ (s:LU) (b:Bool):Value:= .tuple #[.string ⟨s.toArray⟩,.bool b]
def z5l_ (w:World) (r:Nat) (o:Option (LU × List Wd)) (e:Ending) (w':World):Prop:=match o with
 |none=>∃ s,e= .returned (x7_ s false)∧Mods [r] w w'
 |some (s,l')=>e= .returned (x7_ s true)∧RdW w' r l'∧Mods [r] w w'
theorem zfh_ (r:Nat) (w:World) (h:RdW w r []):
  Calls Tryz.prog 119 #[.pointer (some ⟨r,0,none⟩)] w fun e w'=>e= .returned (x7_ [] false)∧w=w':=by
 obtain⟨A,c,hb,_,_⟩:=h.at
 have c0:=hb.cell 0
 simp at c0
 clear hb h
 go_enter Tryz.func119,Tryz.ntmps119
 go_wp2_with fail
 go_ret2
 exact⟨rfl,rfl⟩
theorem zge_ (r:Nat) (t:LU) (l:List Wd) (w:World) (h:RdW w r ((t,false)::l)):
  Calls Tryz.prog 119 #[.pointer (some ⟨r,0,none⟩)] w fun e w'=>e= .returned (x7_ [] false)∧w=w':=by
 obtain⟨A,c,hb,hw,_⟩:=h.at
 obtain⟨g,o,rfl,_,hc,d0,d1,_⟩:=hw.uncons
 have c0:=hb.cell 0
 simp at c0
 simp only at d0 d1
 have hne:((l.length:Int)+1==0)=false:=by rw[beq_eq_false_iff_ne];omega
 have hl0:(0:Int)<(l.length:Int)+1:=by omega
 clear hb h hw
 go_enter Tryz.func119,Tryz.ntmps119
 go_wp2_with fail
 go_ret2
 exact⟨rfl,rfl⟩
theorem zfb_ (r:Nat) (t:LU) (l:List Wd) (w:World) (h:RdW w r ((t,true)::l)):
  Calls Tryz.prog 119 #[.pointer (some ⟨r,0,none⟩)] w (z74_ w r l (x7_ t true)):=by
 obtain⟨A,c,hb,hw,_⟩:=h.at
 obtain⟨g,o,rfl,_,hc,d0,d1,hu⟩:=hw.uncons
 obtain⟨A',hsl,hA'⟩:=z0x_ g o l.length c hc
 have hfin:=RdW.step (x:=(t,true)) hb (hu A' (c - 1) (by omega) hA')
 have HF:=hiD hfin
 have c0:=hb.cell 0
 have f0:=hb.frozen 0
 simp at c0
 simp only at d0 d1
 have hne:((l.length:Int)+1==0)=false:=by rw[beq_eq_false_iff_ne];omega
 have hl0:(0:Int)<(l.length:Int)+1:=by omega
 clear hfin hu hA' hw hb h
 go_enter Tryz.func119,Tryz.ntmps119
 go_wp2_with fail
 go_ret2
 exact⟨rfl,HF.out,z18_ _ _ _⟩
theorem zcp_ (r:Nat) (l:List Wd) (w:World) (h:RdW w r l):
  Calls Tryz.prog 119 #[.pointer (some ⟨r,0,none⟩)] w (z5l_ w r (qc_ l)):=by
 match l,h with
 |[],h=>exact(zfh_ r w h).mono fun e w' ⟨he,hw⟩=>⟨[],he,hw ▸ Mods.refl _ _⟩
 |(t,false)::l,h=>exact(zge_ r t l w h).mono fun e w' ⟨he,hw⟩=>⟨[],he,hw ▸ Mods.refl _ _⟩
 |(t,true)::l,h=>exact(zfb_ r t l w h).mono fun e w' ⟨he,h1,h2⟩=>⟨he,h1,Mods.of_grown h2 (by simp)⟩
theorem za3_ (r:Nat) (w:World) (h:RdW w r []):
  Calls Tryz.prog 59 #[.pointer (some ⟨r,0,none⟩)] w fun e w'=>e= .returned (x7_ [] false)∧w=w':=by
 obtain⟨A,c,hb,_,_⟩:=h.at
 have c0:=hb.cell 0
 simp at c0
 clear hb h
 go_enter Tryz.func59,Tryz.ntmps59
 go_wp2_with fail
 go_ret2
 exact⟨rfl,rfl⟩
theorem z4o_ (r:Nat) (t:LU) (l:List Wd) (w:World) (h:RdW w r ((t,true)::l)):
  Calls Tryz.prog 59 #[.pointer (some ⟨r,0,none⟩)] w fun e w'=>e= .returned (x7_ [] false)∧w=w':=by
 obtain⟨A,c,hb,hw,_⟩:=h.at
 obtain⟨g,o,rfl,_,hc,d0,d1,_⟩:=hw.uncons
 have c0:=hb.cell 0
 simp at c0
 simp only at d0 d1
 have hne:((l.length:Int)+1==0)=false:=by rw[beq_eq_false_iff_ne];omega
 have hl0:(0:Int)<(l.length:Int)+1:=by omega
 clear hb h hw
 go_enter Tryz.func59,Tryz.ntmps59
 go_wp2_with fail
 go_ret2
 exact⟨rfl,rfl⟩
theorem z5n_ (l:LU) (w:World) (hw:Env w):Calls Tryz.prog 113 #[.string ⟨#[40,41,36]⟩,.string ⟨l.toArray⟩] w fun e w'=>e= .returned (.bool (Lib.contains [40,41,36] l))∧w=w':=by
 obtain⟨m,hm⟩:=hw.mx
 refine(Tryz.strings_Contains ⟨#[40,41,36]⟩ ⟨l.toArray⟩ m w (by decide) hm).mono ?_
 rintro e w' ⟨rfl,rfl⟩
 exact⟨rfl,rfl⟩
theorem zdh_ (r:Nat) (t:LU) (l:List Wd) (w:World) (hw:Env w) (h:RdW w r ((t,false)::l)) (hc:Lib.contains [40,41,36] t=true):
  Calls Tryz.prog 59 #[.pointer (some ⟨r,0,none⟩)] w fun e w'=>e= .returned (x7_ [] false)∧w=w':=by
 have HC:=hiD (z5n_ t w hw)
 rw[hc] at HC
 obtain⟨A,c,hb,hw,_⟩:=h.at
 obtain⟨g,o,rfl,_,hc,d0,d1,_⟩:=hw.uncons
 have c0:=hb.cell 0
 simp at c0
 simp only at d0 d1
 have hne:((l.length:Int)+1==0)=false:=by rw[beq_eq_false_iff_ne];omega
 have hl0:(0:Int)<(l.length:Int)+1:=by omega
 clear hb h hw
 go_enter Tryz.func59,Tryz.ntmps59
 go_wp2_with (go_at_call 113;refine HC.out.mono ?_;rintro e w1 ⟨rfl,rfl⟩)
 go_ret2
 exact⟨rfl,rfl⟩
theorem zgq_ (r:Nat) (t:LU) (l:List Wd) (w:World) (hw:Env w) (h:RdW w r ((t,false)::l)) (hc:Lib.contains [40,41,36] t=false):
  Calls Tryz.prog 59 #[.pointer (some ⟨r,0,none⟩)] w (z74_ w r l (x7_ t true)):=by
 have HC:=hiD (z5n_ t w hw)
 rw[hc] at HC
 obtain⟨A,c,hb,hw,_⟩:=h.at
 obtain⟨g,o,rfl,_,hc,d0,d1,hu⟩:=hw.uncons
 obtain⟨A',hsl,hA'⟩:=z0x_ g o l.length c hc
 have hfin:=RdW.step (x:=(t,false)) hb (hu A' (c - 1) (by omega) hA')
 have HF:=hiD hfin
 have c0:=hb.cell 0
 have f0:=hb.frozen 0
 simp at c0
 simp only at d0 d1
 have hne:((l.length:Int)+1==0)=false:=by rw[beq_eq_false_iff_ne];omega
 have hl0:(0:Int)<(l.length:Int)+1:=by omega
 clear hfin hu hA' hw hb h
 go_enter Tryz.func59,Tryz.ntmps59
 go_wp2_with (go_at_call 113;refine HC.out.mono ?_;rintro e w1 ⟨rfl,rfl⟩)
 go_ret2
 exact⟨rfl,HF.out,z18_ _ _ _⟩
theorem z7h_ (r:Nat) (l:List Wd) (w:World) (hw:Env w) (h:RdW w r l):
  Calls Tryz.prog 59 #[.pointer (some ⟨r,0,none⟩)] w (z5l_ w r (zh_ l)):=by
 match l,h with
 |[],h=>exact(za3_ r w h).mono fun e w' ⟨he,hw⟩=>⟨[],he,hw ▸ Mods.refl _ _⟩
 |(t,true)::l,h=>exact(z4o_ r t l w h).mono fun e w' ⟨he,hw⟩=>⟨[],he,hw ▸ Mods.refl _ _⟩
 |(t,false)::l,h=>
  cases hc:Lib.contains [40,41,36] t
  ·have hr:zh_ ((t,false)::l)=some (t,l):=by simp [zh_,hc]
   rw[hr]
   exact(zgq_ r t l w hw h hc).mono fun e w' ⟨he,h1,h2⟩=>⟨he,h1,Mods.of_grown h2 (by simp)⟩
  ·have hr:zh_ ((t,false)::l)=none:=by simp [zh_,hc]
   rw[hr]
   exact(zdh_ r t l w hw h hc).mono fun e w' ⟨he,hw⟩=>⟨[],he,hw ▸ Mods.refl _ _⟩
end Go.Proofs.YtbekpphodbekiaaGreatDoor
