import Derived.Test.YtakfpngfpknedaaGreatDoorE0n
import Derived.Maps.AppendAt
import Derived.Lib.IndexBytes
import Derived.Lib.Replace
import Derived.Lib.SlTrimSet
import Derived.Lib.Atoi
import Derived.Lib.SmallJoins
set_option linter.all false
set_option maxHeartbeats 8000000
set_option maxRecDepth 100000
namespace Go.Proofs.YtakfpngfpknedaaGreatDoor
open Go.RowKit
section
variable {ops:Array Oper} {o:Oper} {a:Act} {K:Act→World→Prop} {Q:Exit→Act→World→Prop} {E:Prop}
theorem z30_ {w:World} (hgd:o.guard=none) (s x:Operand) (ho:o.op= .call {callee:= .builtin .append,args:=#[s,x],argTypes:=#[22,22]})
  {v:Value} {b:Addr} {c:Nat} {xs ys:LL} {B:Nat} (hs:a.eval s=v) (hb:Own B w v xs)
  (hx:a.eval x= .slice (some b) ys.length c) (hcell:∀ j (hj:j<ys.length),w.cell? (b.add j)=some (.string ⟨ys[j].toArray⟩)) (hlen:xs.length+ys.length<4398046511104)
  (h:∀ v' w',Own B w' v' (xs++ys)→w.grownBy w' v.ownBlock→(v'.ownBlock=v.ownBlock∨v'.ownBlock=some w.heap.size)→K (a.put o.dst v') w'):
  if Region.wanted o (yielded ops a.tmps)=true then Oper.wp Tryz.prog o a w K Q else E:=by
 obtain⟨i,h1,h2,h3,h4⟩:=xu_
 have hw:Region.wanted o (yielded ops a.tmps)=true:=by simp [Region.wanted,hgd]
 rw[if_pos hw]
 obtain⟨v',w',hr,g2,g3,_,g5⟩:=run_append_own_at (P:=Tryz.prog) w B 22 o.type 9 i (.string ⟨#[]⟩) 1 16 Tryz.underlying22 h1 h2 h3 h4 rfl (by decide) v _ _ hb.1 b ys.length c (ys.map qm_) (by simp) (by
   intro j u hj
   have hjl:j<ys.length:=by simpa using (List.getElem?_eq_some_iff.1 hj).1
   rw[hcell j hjl]
   simp [hjl] at hj
   rw[← hj];rfl) (by
   intro u hu
   simp at hu
   obtain⟨q,_,rfl⟩:=hu
   rfl) (by unfold maxLen;omega) (by omega) hb.2
 unfold Oper.wp execOp
 simp only[ho,resolve,invoke,builtin,Sem.run_bind,Sem.run_pure,Result.andThen_ok,List.map_toArray,List.map_cons,List.map_nil,hs,hx,hr]
 exact h v' w' ⟨by simpa using g2,nT hb.2 g3.size⟩ g3 g5
end
abbrev zki_:=Value × LL
structure OwnL (B:Nat) (w:World) (L:List zki_):Prop where
 own:∀ r∈L,Own B w r.1 r.2
 apart:L.Pairwise fun a b=>∀ k,a.1.ownBlock=some k→b.1.ownBlock≠some k
theorem OwnL.keep {B:Nat} {w w':World} {L:List zki_} (h:OwnL B w L) {r:Option Nat} (hg:w.grownBy w' r) (hr:∀ k,r=some k→k<B):OwnL B w' L:=⟨fun x hx=>(h.own x hx).keep hg hr,h.apart⟩
theorem OwnL.below {B:Nat} {w w':World} {L:List zki_} (h:OwnL B w L) (hb:Bel w w'):OwnL B w' L:=⟨fun x hx=>(h.own x hx).below hb,h.apart⟩
theorem OwnL.at_ {B:Nat} {w:World} {L:List zki_} (h:OwnL B w L) (i:Nat) (hi:i<L.length):Own B w L[i].1 L[i].2:=h.own _ (List.getElem_mem hi)
theorem OwnL.ne {B:Nat} {w:World} {L:List zki_} (h:OwnL B w L) {i j:Nat} (hi:i<L.length) (hj:j<L.length) (hij:i≠j):∀ k,L[i].1.ownBlock=some k→L[j].1.ownBlock≠some k:=by
 intro k h1 h2
 rcases Nat.lt_or_gt_of_ne hij with hlt|hlt
 ·exact List.pairwise_iff_getElem.1 h.apart i j hi hj hlt k h1 h2
 ·exact List.pairwise_iff_getElem.1 h.apart j i hj hi hlt k h2 h1
theorem OwnL.set {B:Nat} {w w':World} {L:List zki_} (h:OwnL B w L) (i:Nat) (hi:i<L.length) {v':Value} {xs':LL} (hO:Own B w' v' xs') (hg:w.grownBy w' L[i].1.ownBlock) (ha:v'.ownBlock=L[i].1.ownBlock∨v'.ownBlock=some w.heap.size):OwnL B w' (L.set i (v',xs')):=by
 refine⟨fun x hx=>?_,?_⟩
 ·obtain⟨j,hj,rfl⟩:=List.getElem_of_mem hx
  rw[List.length_set] at hj
  rw[List.getElem_set]
  split
  ·exact hO
  ·next hne=>exact(h.at_ j hj).keep2 hg (fun k hk he=>h.ne hi hj hne k he hk)
 ·rw[List.pairwise_iff_getElem]
  intro a b hla hlb hab k
  rw[List.length_set] at hla hlb
  rw[List.getElem_set,List.getElem_set]
  have far:∀ j (hj:j<L.length),i≠j→∀ k,v'.ownBlock=some k→L[j].1.ownBlock≠some k:=fun j hj hne k hk hk2=>by
   rcases ha with ha|ha
   ·exact h.ne hi hj hne k (ha ▸ hk) hk2
   ·rw[ha] at hk
    cases hk
    have:=((h.at_ j hj).lt _ hk2).2
    omega
  split
  ·split
   ·omega
   ·next h1 h2=>exact far b hlb h2 k
  ·split
   ·next h1 h2=>exact fun hk hk2=>far a hla h1 k hk2 hk
   ·exact h.ne hla hlb (by omega) k
def zr_ (x:Cfg.IndexE):List Value:=[.string ⟨x.typ.toArray⟩,.bool x.eq,.bool x.pres,.bool x.sub]
def OwnI (B:Nat) (w:World) (v:Value) (xs:List Cfg.IndexE):Prop:=w.ownsRow B 63 4 v xs.length (xs.flatMap zr_)∧B≤w.heap.size
theorem OwnI.nil {B:Nat} {w:World} (hB:B≤w.heap.size):OwnI B w (.slice none 0 0) []:=⟨World.ownsRow_nil _ _ _ _,hB⟩
theorem OwnI.lt {B:Nat} {w:World} {v:Value} {xs:List Cfg.IndexE} (h:OwnI B w v xs):∀ k,v.ownBlock=some k→B≤k∧k<w.heap.size:=fun k hk=>h.1.lt k hk
theorem OwnI.keep2 {B:Nat} {w w':World} {v:Value} {xs:List Cfg.IndexE} (h:OwnI B w v xs) {r:Option Nat} (hg:w.grownBy w' r) (hr:∀ k,v.ownBlock=some k→r≠some k):OwnI B w' v xs:=by
 refine⟨h.1.kept hg ?_,nT h.2 hg.size⟩
 rcases hv:v.ownBlock with _|g
 ·exact .inl rfl
 ·exact .inr fun he=>hr g hv he.symm
theorem OwnI.keep {B:Nat} {w w':World} {v:Value} {xs:List Cfg.IndexE} (h:OwnI B w v xs) {r:Option Nat} (hg:w.grownBy w' r) (hr:∀ k,r=some k→k<B):OwnI B w' v xs:=h.keep2 hg fun k hk he=>by
 have:=hr k he
 have:=(h.lt k hk).1
 omega
theorem OwnI.below {B:Nat} {w w':World} {v:Value} {xs:List Cfg.IndexE} (h:OwnI B w v xs) (hb:Bel w w'):OwnI B w' v xs:=h.keep (z1_ hb none) (fun k hk=>by cases hk)
theorem OwnI.ty {B:Nat} {w:World} {v:Value} {xs:List Cfg.IndexE} (h:OwnI B w v xs):∀ k,v.ownBlock=some k→∃ t cs,Bk w k t cs∧t≠56:=by
 intro k hk
 obtain⟨⟨h1,h2⟩,h3⟩:=h
 rcases h2 with ⟨rfl,hn⟩|⟨g,cap,cur,rfl,r2,r3,_⟩
 ·simp [Value.ownBlock] at hk
 ·cases hk
  exact⟨_,_,r3,by decide⟩
theorem OwnI.isSlice {B:Nat} {w:World} {v:Value} {xs:List Cfg.IndexE} (h:OwnI B w v xs):∃ A c,v= .slice A xs.length c∧xs.length≤c:=by
 obtain⟨⟨h1,h2⟩,h3⟩:=h
 rcases h2 with ⟨rfl,hn⟩|⟨g,cap,cur,rfl,r2,r3,r4,_⟩
 ·exact⟨none,0,by rw[hn],by omega⟩
 ·exact⟨_,cap,rfl,r4⟩
def zi_ (c:Cfg.ConfE) (va vc vl vr vu:Value):List zki_:=[(va,c.attrs),(vc,c.classes),(vl,c.acls),(vr,c.refs),(vu,c.unique)]
def za_ (c:Cfg.ConfE) (va vc vl vi vr vu:Value):Array Value:=#[.string ⟨c.suffix.toArray⟩,.string ⟨c.root.toArray⟩,.string ⟨c.secret.toArray⟩,.int .i64 c.size,va,vc,vl,vi,.bool c.memberof,.bool c.audit,vr,vu]
structure ConfB (B p:Nat) (w:World) (c:Cfg.ConfE) (va vc vl vi vr vu:Value):Prop where
 bk:Bk w p 25 (za_ c va vc vl vi vr vu)
 lt:p<B
 rows:OwnL B w (zi_ c va vc vl vr vu)
 idx:OwnI B w vi c.indexes
 far:∀ r∈zi_ c va vc vl vr vu,∀ k,vi.ownBlock=some k→r.1.ownBlock≠some k
theorem ConfB.below {B p:Nat} {w w':World} {c:Cfg.ConfE} {va vc vl vi vr vu:Value} (h:ConfB B p w c va vc vl vi vr vu) (hb:Bel w w'):ConfB B p w' c va vc vl vi vr vu:=⟨h.bk.below hb,h.lt,h.rows.below hb,h.idx.below hb,h.far⟩
theorem ConfB.made {B p:Nat} {w:World} (hb:Bk w p 25 #[.string ⟨#[]⟩,.string ⟨#[]⟩,.string ⟨#[]⟩,.int .i64 0,.slice none 0 0,.slice none 0 0,.slice none 0 0,.slice none 0 0,.bool false,.bool false,.slice none 0 0,.slice none 0 0]) (hp:p<B) (hB:B≤w.heap.size):ConfB B p w Cfg.zeroC (.slice none 0 0) (.slice none 0 0) (.slice none 0 0) (.slice none 0 0) (.slice none 0 0) (.slice none 0 0):=by
 refine⟨hb,hp,⟨fun r hr=>?_,?_⟩,OwnI.nil hB,fun r hr k hk=>?_⟩
 ·simp only[zi_,Cfg.zeroC,List.mem_cons,List.not_mem_nil,or_false] at hr
  rcases hr with rfl|rfl|rfl|rfl|rfl<;>exact Own.nil hB
 ·simp [zi_,Value.ownBlock]
 ·simp [Value.ownBlock] at hk
structure OutB (B p:Nat) (w w':World):Prop where
 os:w'.os=w.os
 tape:w'.tape=w.tape
 output:w'.output=w.output
 size:w.heap.size≤w'.heap.size
 block:∀ k,k<B→k≠p→w'.heap[k]?=w.heap[k]?
 words:∀ (g:Nat) (cs:Array Value),Bk w g 56 cs→Bk w' g 56 cs
section
variable {B p:Nat} {a w w':World}
theorem OutB.refl:OutB B p w w:=⟨rfl,rfl,rfl,nR _,fun _ _ _=>rfl,fun _ _ h=>h⟩
theorem OutB.trans {c:World} (h:OutB B p a w) (k:OutB B p w c):OutB B p a c:=
 ⟨k.os.trans h.os,k.tape.trans h.tape,k.output.trans h.output,nT h.size k.size,fun i hi hn=>(k.block i hi hn).trans (h.block i hi hn),fun g cs hb=>k.words g cs (h.words g cs hb)⟩
theorem OutB.of_below (hb:Bel w w') (hB:B≤w.heap.size):OutB B p w w':=⟨hb.os,hb.tape,hb.output,hb.size,fun k hk _=>hb.block k (by omega),fun g cs h=>h.below hb⟩
theorem OutB.set {cs:Array Value} (hp:Bk w p 25 cs) (i:Nat) (u:Value):OutB B p w (w.setCell ⟨p,i,none⟩ u):=⟨rfl,rfl,rfl,by simp [World.setCell],fun k _ hn=>Below.heap_setCell _ _ _ _ (by rintro rfl;exact hn rfl),fun g cs h=>h.far (fun e=>by subst e;have:=h.symm.trans hp;simp at this) u⟩
theorem OutB.of_grown {r:Option Nat} (hg:w.grownBy w' r) (hr:∀ k,r=some k→B≤k) (ht:∀ k,r=some k→∃ t cs,Bk w k t cs∧t≠56) (hB:B≤w.heap.size):OutB B p w w':=⟨hg.os,hg.tape,hg.output,hg.size,fun k hk _=>hg.block k (by omega) (fun e=>by have:=hr k e.symm;omega),fun g cs h=>h.grown hg (fun e=>by
 obtain⟨t,cs',h',hn⟩:=ht g e.symm
 have:=h.symm.trans h'
 simp only[Option.some.injEq,Obj.cells.injEq] at this
 exact hn this.2.1.symm)⟩
theorem OutB.below {n:Nat} (h:OutB B p w w') (hp:n≤p) (hB:n≤B):Below n w w':=⟨h.os,h.tape,h.output,h.size,fun k hk=>h.block k (by omega) (by omega)⟩
theorem OutB.same (h:OutB B p w w') {g:Nat} {o:Obj} (ho:w.heap[g]?=some o) (hg:g<B) (hne:g≠p):w'.heap[g]?=some o:=(h.block g hg hne).trans ho
theorem OutB.bk (h:OutB B p w w') {g:Nat} {t:TypeId} {cs:Array Value} (hb:Bk w g t cs) (hg:g<B) (hne:g≠p):Bk w' g t cs:=h.same hb hg hne
end
theorem z5_ (w:World) (p i:Nat) (u:Value):w.grownBy (w.setCell ⟨p,i,none⟩ u) (some p):=⟨rfl,rfl,rfl,by simp [World.setCell],fun k hk hn=>Below.heap_setCell _ _ _ _ (by rintro rfl;exact hn rfl)⟩
section
variable {B p:Nat} {w w':World} {c:Cfg.ConfE} {va vc vl vi vr vu:Value}
theorem ConfB.put (h:ConfB B p w c va vc vl vi vr vu) (c':Cfg.ConfE) (j:Nat) (u:Value) (hc:(za_ c va vc vl vi vr vu).setIfInBounds j u=za_ c' va vc vl vi vr vu) (hr:zi_ c' va vc vl vr vu=zi_ c va vc vl vr vu) (hi:c'.indexes=c.indexes):ConfB B p (w.setCell ⟨p,j,none⟩ u) c' va vc vl vi vr vu:=by
 have hlt:=h.lt
 refine⟨hc ▸ h.bk.set j u,hlt,?_,?_,?_⟩
 ·rw[hr];exact h.rows.keep (z5_ _ _ _ _) (fun k hk=>by cases hk;exact hlt)
 ·rw[hi];exact h.idx.keep (z5_ _ _ _ _) (fun k hk=>by cases hk;exact hlt)
 ·rw[hr];exact h.far
theorem ConfB.grow (h:ConfB B p w c va vc vl vi vr vu) (c':Cfg.ConfE) {va' vc' vl' vr' vu' v':Value} {xs':LL} (i j:Nat) (hil:i<(zi_ c va vc vl vr vu).length) (hO:Own B w' v' xs') (hg:w.grownBy w' (zi_ c va vc vl vr vu)[i].1.ownBlock)
  (ha:v'.ownBlock=(zi_ c va vc vl vr vu)[i].1.ownBlock∨v'.ownBlock=some w.heap.size) (hc:(za_ c va vc vl vi vr vu).setIfInBounds j v'=za_ c' va' vc' vl' vi vr' vu') (hr:zi_ c' va' vc' vl' vr' vu'=(zi_ c va vc vl vr vu).set i (v',xs')) (hi:c'.indexes=c.indexes):
  ConfB B p (w'.setCell ⟨p,j,none⟩ v') c' va' vc' vl' vi vr' vu':=by
 have hlt:=h.lt
 have hrow:=(h.rows.at_ i hil).lt
 refine⟨hc ▸ (h.bk.grown hg (fun e=>?_)).set j v',hlt,?_,?_,?_⟩
 ·have:=(hrow p e.symm).1;omega
 ·rw[hr];exact(h.rows.set i hil hO hg ha).keep (z5_ _ _ _ _) (fun k hk=>by cases hk;exact hlt)
 ·rw[hi];exact(h.idx.keep2 hg (fun k hk he=>h.far _ (List.getElem_mem hil) k hk he)).keep (z5_ _ _ _ _) (fun k hk=>by cases hk;exact hlt)
 ·rw[hr]
  intro r hm k hk hk2
  obtain⟨q,hq,rfl⟩:=List.getElem_of_mem hm
  rw[List.length_set] at hq
  rw[List.getElem_set] at hk2
  split at hk2
  ·rcases ha with ha|ha
   ·exact h.far _ (List.getElem_mem hil) k hk (ha ▸ hk2)
   ·rw[ha] at hk2
    cases hk2
    have:=(h.idx.lt _ hk).2
    omega
  ·exact h.far _ (List.getElem_mem hq) k hk hk2
theorem ConfB.grow_idx (h:ConfB B p w c va vc vl vi vr vu) {v':Value} {xs':List Cfg.IndexE} (hO:OwnI B w' v' xs') (hg:w.grownBy w' vi.ownBlock) (ha:v'.ownBlock=vi.ownBlock∨v'.ownBlock=some w.heap.size):
  ConfB B p (w'.setCell ⟨p,7,none⟩ v') {c with indexes:=xs'} va vc vl v' vr vu:=by
 have hlt:=h.lt
 refine⟨?_,hlt,?_,?_,?_⟩
 ·have:=(h.bk.grown hg (fun e=>by have:=(h.idx.lt p e.symm).1;omega)).set 7 v'
  simpa [za_] using this
 ·refine OwnL.keep (B:=B) (w:=w') ⟨fun r hr=>(h.rows.own r hr).keep2 hg (fun k hk he=>h.far r hr k he hk),h.rows.apart⟩ (z5_ _ _ _ _) (fun k hk=>by cases hk;exact hlt)
 ·exact hO.keep (z5_ _ _ _ _) (fun k hk=>by cases hk;exact hlt)
 ·intro r hr k hk hk2
  rcases ha with ha|ha
  ·exact h.far r hr k (ha ▸ hk) hk2
  ·rw[ha] at hk
   cases hk
   have:=((h.rows.own r hr).lt _ hk2).2
   omega
end
def km_ (B p:Nat) (w:World) (R:Cfg.ConfE × Bool) (e:Ending) (w':World):Prop:=e= .returned (.bool R.2)∧OutB B p w w'∧∃ va vc vl vi vr vu,ConfB B p w' R.1 va vc vl vi vr vu
open Go.RowKit
namespace Cfg
theorem commas_ne:∀ l:LU,commas l≠[]
 |[]=>by simp [commas]
 |c::t=>by
  rw[commas]
  split
  ·simp
  ·split<;>simp
theorem commas_none:∀ l:LU,44 ∉ l→commas l=[l]
 |[],_=>rfl
 |c::t,h=>by
  simp only[List.mem_cons,not_or] at h
  rw[commas,if_neg (by simpa using fun hc=>h.1 hc.symm),commas_none t h.2]
theorem commas_cut:∀ (a b:LU),44 ∉ a→commas (a++44::b)=a::commas b
 |[],b,_=>by rw[List.nil_append,commas,if_pos (by rfl)]
 |c::a,b,h=>by
  simp only[List.mem_cons,not_or] at h
  rw[List.cons_append,commas,if_neg (by simpa using fun hc=>h.1 hc.symm),commas_cut a b h.2]
theorem idx44_none:∀ l:LU,44 ∉ l→Lib.index l [44]= -1
 |[],_=>by simp [Lib.index]
 |c::t,h=>by
  simp only[List.mem_cons,not_or] at h
  rw[Lib.index,idx44_none t h.2]
  simp [List.isPrefixOf,h.1]
theorem idx44_cut:∀ (a b:LU),44 ∉ a→Lib.index (a++44::b) [44]=(a.length:Int)
 |[],b,_=>by rw[List.nil_append,Lib.index];simp [List.isPrefixOf]
 |c::a,b,h=>by
  simp only[List.mem_cons,not_or] at h
  rw[List.cons_append,Lib.index,idx44_cut a b h.2]
  have:([44]:LU).isPrefixOf (c::(a++44::b))=false:=by simp [List.isPrefixOf,h.1]
  rw[this]
  simp
theorem cut44c (l:LU) (h:44∈l):∃ a b,l=a++44::b∧44 ∉ a:=by
 induction l with
 |nil=>cases h
 |cons c t ih=>
  by_cases hc:c=44
  ·exact⟨[],t,by rw[hc];rfl,by simp⟩
  ·have ht:44∈t:=(List.mem_cons.1 h).resolve_left (fun he=>hc he.symm)
   obtain⟨a,b,rfl,hn⟩:=ih ht
   refine⟨c::a,b,rfl,?_⟩
   simp only[List.mem_cons,not_or]
   exact⟨fun he=>hc he.symm,hn⟩
theorem commasB_eq:∀ (n:Nat) (l:LU),l.length≤n→(Lib.splitB ⟨#[44]⟩ 0 (Lib.countB ⟨l.toArray⟩ ⟨#[44]⟩) ⟨l.toArray⟩).map (·.data.toList)=commas l:=by
 intro n
 induction n with
 |zero=>
  intro l hl
  obtain rfl:l=[]:=List.eq_nil_of_length_eq_zero (by omega)
  rw[Lib.countB_miss _ _ (by exact idx44_none [] (by simp)),Lib.splitB_zero]
  rfl
 |succ n ih=>
  intro l hl
  by_cases h:44∈l
  ·obtain⟨a,b,rfl,hn⟩:=cut44c l h
   have hix:Lib.indexB ⟨(a++44::b).toArray⟩ ⟨#[44]⟩=(a.length:Int):=idx44_cut a b hn
   have e1:(⟨(a++44::b).toArray⟩:ByteArray).extract 0 (a.length+0)=⟨a.toArray⟩:=by
    ext1
    simp [ByteArray.data_extract]
   have e2:(⟨(a++44::b).toArray⟩:ByteArray).extract (a.length+(⟨#[44]⟩:ByteArray).size) (⟨(a++44::b).toArray⟩:ByteArray).size=⟨b.toArray⟩:=by
    ext1
    simp [ByteArray.data_extract,ByteArray.size]
    rw[show a.length+(b.length+1) - (a.length+1)=b.length by omega,List.take_length]
   rw[Lib.countB_hit _ _ a.length (by decide) hix,e2,Nat.add_comm 1,Lib.splitB_hit _ _ _ _ a.length hix,e1,e2,List.map_cons,ih b (by simp at hl;omega),commas_cut a b hn]
  ·rw[Lib.countB_miss _ _ (by exact idx44_none l h),Lib.splitB_zero,commas_none l h]
   rfl
theorem commas_len:∀ l:LU,(commas l).length≤l.length+1
 |[]=>by simp [commas]
 |c::t=>by
  have ih:=commas_len t
  rw[commas]
  split
  ·simp only[List.length_cons];omega
  ·split
   ·simp
   ·next x l h=>rw[h] at ih;simp only[List.length_cons] at ih ⊢;omega
theorem commas_sub:∀ (l x:LU),x∈commas l→x.length≤l.length
 |[],x,h=>by simp [commas] at h;subst h;simp
 |c::t,x,h=>by
  rw[commas] at h
  split at h
  ·rcases List.mem_cons.1 h with rfl|h
   ·simp
   ·have:=commas_sub t x h;simp;omega
  ·split at h
   ·simp at h;subst h;simp
   ·next y l hy=>
    rcases List.mem_cons.1 h with rfl|h
    ·have:=commas_sub t y (by rw[hy];exact List.mem_cons_self ..);simp;omega
    ·have:=commas_sub t x (by rw[hy];exact List.mem_cons_of_mem _ h);simp;omega
theorem idx_hit0 (c:UInt8) (l:LU):Lib.index (c::l) [c]=0:=by
 rw[Lib.index,if_pos (by simp [List.isPrefixOf])]
theorem idx_miss0 {b c:UInt8} (h:b≠c) (l:LU):Lib.index (b::l) [c]=if Lib.index l [c]== -1 then -1 else Lib.index l [c]+1:=by
 rw[Lib.index,if_neg (by simp [List.isPrefixOf,Ne.symm h])]
theorem cut_oneC (c:UInt8) (s:LU):Lib.cut s [c]=(s.takeWhile (· !=c),(s.dropWhile (· !=c)).tail,s.contains c):=by
 induction s with
 |nil=>
  unfold Lib.cut
  rw[if_neg (by rw[Lib.index];simp)]
  rfl
 |cons b s ih=>
  unfold Lib.cut at ih ⊢
  by_cases hb:b=c
  ·subst hb
   rw[idx_hit0,if_pos (by decide)]
   simp
  ·have hbc:(b==c)=false:=beq_eq_false_iff_ne.2 hb
   have hcb:(c==b)=false:=beq_eq_false_iff_ne.2 (Ne.symm hb)
   rw[idx_miss0 hb,List.contains_cons,hcb,Bool.false_or]
   have hge:=Lib.index_ge s [c]
   have hne:(b !=c)=true:=by simp [hb]
   rw[List.takeWhile_cons,if_pos hne,List.dropWhile_cons,if_pos hne]
   by_cases hi:Lib.index s [c]= -1
   ·rw[hi] at ih ⊢
    simp only[beq_self_eq_true,if_true]
    rw[if_neg (by decide)] at ih ⊢
    injection ih with h1 h2
    injection h2 with h2 h3
    rw[← h1,← h2,← h3]
   ·have e1:(Lib.index s [c]== -1)=false:=beq_eq_false_iff_ne.2 hi
    obtain⟨i,hi2⟩:∃ i:Nat,Lib.index s [c]=i:=⟨(Lib.index s [c]).toNat,by omega⟩
    rw[e1]
    simp only[Bool.false_eq_true,if_false]
    rw[hi2] at ih ⊢
    rw[if_pos (by omega)] at ih ⊢
    injection ih with h1 h2
    injection h2 with h2 h3
    rw[← h1,← h2,← h3]
    have e3:((i:Int)+1).toNat=i+1:=by omega
    have e4:((i:Int)).toNat=i:=by omega
    rw[e3,e4]
    rfl
end Cfg
theorem z9b_ {B:Nat} (w:World) (hB:B≤w.heap.size) (xs:LL) (hx:xs.length≤4000000):Own B (w.alloc (.cells (xs.map qm_).toArray 9)) (.slice (some ⟨w.heap.size,0,none⟩) xs.length xs.length) xs:=by
 refine⟨⟨by simp,.inr ⟨w.heap.size,xs.length,(xs.map qm_).toArray,rfl,hB,heap_alloc_new w _,nR _,by unfold maxLen;omega,by simp,?_⟩⟩,by rw[World.size_alloc];omega⟩
 show (List.take (xs.length * 1) _)=_
 rw[List.take_of_length_le (by simp)]
theorem zie_ (s:LU) (w:World) (hw:Env w) (hs:s.length≤4000000):Calls Tryz.prog 21 #[.string ⟨s.toArray⟩,.string ⟨#[32]⟩] w fun e w'=>e= .returned (.tuple #[.string ⟨(Cfg.nameS s).toArray⟩,.string ⟨(Cfg.argS s).toArray⟩,.bool (s.contains 32)])∧Bel w w':=by
 obtain⟨m,hm⟩:=hw.mx
 refine(Tryz.strings_Cut ⟨s.toArray⟩ ⟨#[32]⟩ m w (by show s.length<_;omega) hm).mono ?_
 rintro e w' ⟨rfl,n,rfl⟩
 have hc:Lib.cut s [32]=(Cfg.nameS s,Cfg.argS s,s.contains 32):=by
  rw[Cfg.cut_oneC 32 s]
  unfold Cfg.nameS Cfg.argS
  rw[List.drop_one]
 refine⟨?_,⟨rfl,rfl,rfl,nR _,fun _ _=>rfl⟩⟩
 show Ending.returned (.tuple #[.string ⟨(Lib.cut s [32]).1.toArray⟩,.string ⟨(Lib.cut s [32]).2.1.toArray⟩,.bool (Lib.cut s [32]).2.2])=_
 rw[hc]
theorem zgh_ (l:LU) (w:World) (hw:Env w) (hl:l.length≤3000000):
  Calls Tryz.prog 69 #[.string ⟨l.toArray⟩,.string ⟨#[44]⟩] w fun e w'=>e= .returned (.slice (some ⟨w.heap.size,0,none⟩) (Cfg.commas l).length (Cfg.commas l).length)∧Bel w w'∧Own w.heap.size w' (.slice (some ⟨w.heap.size,0,none⟩) (Cfg.commas l).length (Cfg.commas l).length) (Cfg.commas l):=by
 obtain⟨m,hm⟩:=hw.mx
 have hc:=Cfg.commasB_eq l.length l (nR _)
 have hn:(Cfg.commas l).length=Lib.countB ⟨l.toArray⟩ ⟨#[44]⟩+1:=by
  rw[← hc,List.length_map]
  exact Lib.splitB_all ⟨#[44]⟩ (by decide) 0 _ _ rfl
 refine(Tryz.strings_Split ⟨l.toArray⟩ ⟨#[44]⟩ m w (by simp [ByteArray.size];omega) hm (by decide)).mono ?_
 rintro e w' ⟨rfl,rfl⟩
 rw[← hn]
 have hlen:=Cfg.commas_len l
 have hown:=z9b_ w (nR _) (Cfg.commas l) (by omega)
 have hcells:(Lib.splitB ⟨#[44]⟩ 0 (Lib.countB ⟨l.toArray⟩ ⟨#[44]⟩) ⟨l.toArray⟩).map Value.string=(Cfg.commas l).map qm_:=by
  rw[← hc,List.map_map]
  refine List.map_congr_left fun x _=>?_
  simp [qm_]
 rw[hcells]
 exact⟨rfl,(bR _ _).alloc (nR _) _,hown⟩
/-! Numbers. -/
namespace Cfg
theorem dig_trim (c:UInt8):([48,49,50,51,52,53,54,55,56,57]:LU).contains c=digB c:=by
 have h:((List.range 256).all fun i=>([48,49,50,51,52,53,54,55,56,57]:LU).contains (UInt8.ofNat i)==digB (UInt8.ofNat i))=true:=by decide+kernel
 have:=List.all_eq_true.1 h c.toNat (List.mem_range.2 c.toNat_lt)
 rw[UInt8.ofNat_toNat] at this
 exact eq_of_beq this
theorem dropWhile_nil {α:Type} (p:α→Bool):∀ l:List α,l.dropWhile p=[]↔l.all p=true
 |[]=>by simp
 |x::l=>by
  rw[List.dropWhile_cons]
  split
  ·next h=>rw[dropWhile_nil p l];simp [h]
  ·next h=>simp [h]
theorem trim_nil (s:LU):Lib.trimS s [48,49,50,51,52,53,54,55,56,57]=[]↔s.all digB=true:=by
 have hp:(fun c=>([48,49,50,51,52,53,54,55,56,57]:LU).contains c)=digB:=funext dig_trim
 unfold Lib.trimS Lib.trimLeftS Lib.trimRightS
 rw[hp,dropWhile_nil]
 constructor
 ·intro h
  rw[List.all_reverse] at h
  cases hd:s.reverse.dropWhile digB with
  |nil=>
   have:=(dropWhile_nil digB s.reverse).1 hd
   rwa [List.all_reverse] at this
  |cons x l=>
   rw[hd] at h
   have h1:digB x=false:=by
    have:=List.head?_dropWhile_not digB s.reverse
    rw[hd] at this
    simpa using this
   simp [h1] at h
 ·intro h
  have:s.reverse.dropWhile digB=[]:=(dropWhile_nil digB _).2 (by rw[List.all_reverse];exact h)
  rw[this]
  rfl
theorem decFrom_all:∀ (l:LU) (acc:Nat),l.all digB=true→Lib.decFrom acc l=some (l.foldl (fun n c=>n * 10+(c.toNat - 48)) acc)
 |[],acc,_=>rfl
 |c::l,acc,h=>by
  rw[List.all_cons,Bool.and_eq_true] at h
  have hd:=of_decide_eq_true h.1
  rw[Lib.decFrom]
  have:Lib.digitVal c=some (c.toNat - 48):=by unfold Lib.digitVal;rw[if_pos hd]
  rw[this]
  exact decFrom_all l _ h.2
theorem atoi_val (s:LU) (hs:s≠[]) (h:s.all digB=true):Lib.atoi s=some (valN s:Int):=by
 cases s with
 |nil=>exact absurd rfl hs
 |cons c t=>
  have hd:digB c=true:=by rw[List.all_cons,Bool.and_eq_true] at h;exact h.1
  have hd2:=of_decide_eq_true hd
  have h45:(c==45)=false:=beq_eq_false_iff_ne.2 (fun e=>by subst e;revert hd2;decide)
  have h43:(c==43)=false:=beq_eq_false_iff_ne.2 (fun e=>by subst e;revert hd2;decide)
  unfold Lib.atoi
  simp only[h45,h43,Bool.false_eq_true,if_false]
  unfold Lib.decNat
  rw[if_neg (by simp),decFrom_all _ _ h]
  rfl
end Cfg
end Go.Proofs.YtakfpngfpknedaaGreatDoor
set_option linter.all false
namespace Go.Proofs.YtakfpngfpknedaaGreatDoor
open Go.RowKit
theorem zg1_ (s:LU) (w:World) (hs:s.length≤4000000):
  Calls Tryz.prog 49 #[.string ⟨s.toArray⟩] w fun e w'=>e= .returned (.tuple #[.int .i64 (Cfg.numS s).1,.bool (Cfg.numS s).2])∧Bel w w':=by
 have hget:=qb_
 cases hsc:s with
 |nil=>
  go_enter Tryz.func49,Tryz.ntmps49
  go_wp2_with fail
  go_ret2
  exact⟨rfl,bR _ _⟩
 |cons c t=>
  rw[← hsc]
  have hne:(s==[])=false:=by rw[hsc];rfl
  have hlen:s.length=t.length+1:=by rw[hsc];rfl
  have hc0:∀ h:0<s.length,s[0]=c:=by intro h;simp [hsc]
  by_cases h10:10<s.length
  ·have hv:Cfg.numS s=(0,false):=by unfold Cfg.numS;rw[if_pos (.inr (.inl h10))]
   rw[hv]
   have hi:(10:Int)<(s.length:Int):=by omega
   clear hv hsc hc0
   go_enter Tryz.func49,Tryz.ntmps49
   go_wp2_with fail
   go_ret2
   exact⟨rfl,bR _ _⟩
  have hi:¬ (10:Int)<(s.length:Int):=by omega
  have HT:Hid (∀ W:World,Calls Tryz.prog 67 #[.string ⟨s.toArray⟩,.string ⟨#[48,49,50,51,52,53,54,55,56,57]⟩] W fun e w'=>e= .returned (.string ⟨(Lib.trimS s [48,49,50,51,52,53,54,55,56,57]).toArray⟩)∧Bel W w'):=hiD fun W=>Tryz.strings_Trim_set ⟨s.toArray⟩ ⟨#[48,49,50,51,52,53,54,55,56,57]⟩ W (by show s.length≤_;omega) (by decide) (by
   intro j b hb
   have hm:b∈[48,49,50,51,52,53,54,55,56,57]:=List.mem_of_getElem? hb
   simp only[List.mem_cons,List.not_mem_nil,or_false] at hm
   rcases hm with rfl|rfl|rfl|rfl|rfl|rfl|rfl|rfl|rfl|rfl<;>decide)
  have HA:Hid (s.all Cfg.digB=true→∀ W:World,Calls Tryz.prog 68 #[.string ⟨s.toArray⟩] W fun e w'=>e= .returned (.tuple #[.int .i64 (Cfg.valN s:Int),.nilIface])∧Bel W w'):=hiD fun h W=>(Tryz.strconv_Atoi ⟨s.toArray⟩ _ (by show s.length≤_;omega) (Cfg.atoi_val s (by rw[hsc];simp) h) W).mono (by
   rintro e w' ⟨rfl,x,rfl⟩
   exact⟨rfl,Go.Joins.below_bytesWorld _ _ _ _ (nR _)⟩)
  have htn:=Cfg.trim_nil s
  by_cases h48:1<s.length∧s.headD 0=48
  ·have hv:Cfg.numS s=(0,false):=by unfold Cfg.numS;rw[if_pos (.inr (.inr (.inl h48)))]
   rw[hv]
   have hl1:(1:Int)<(s.length:Int):=by omega
   have hl0:(0:Int)<(s.length:Int):=by omega
   have hcc:s[0]'(by omega)=48:=by
    have:=h48.2
    rw[hsc] at this
    rw[hc0];exact this
   have hcb:((s[0]'(by omega)).toNat:Int)=48:=by rw[hcc];rfl
   clear hv hsc hc0 HT HA htn
   go_enter Tryz.func49,Tryz.ntmps49
   go_wp2_with fail
   go_ret2
   exact⟨rfl,bR _ _⟩
  ·have hl0:(0:Int)<(s.length:Int):=by omega
   have hcb:1<s.length→(((s[0]'(by omega)).toNat:Int)==48)=false:=fun h=>by
    rw[beq_eq_false_iff_ne]
    intro e
    refine h48 ⟨h,?_⟩
    rw[hsc]
    show c=48
    have:s[0]'(by omega)=c:=hc0 (by omega)
    rw[this] at e
    have e2:c.toNat=48:=by omega
    have:=UInt8.ofNat_toNat (x:=c)
    rw[e2] at this
    rw[← this];rfl
   have hnv:Cfg.numS s=if s.all Cfg.digB=true then ((Cfg.valN s:Int),decide (Cfg.valN s≤2147483647)) else (0,false):=by
    unfold Cfg.numS
    by_cases ha:s.all Cfg.digB=true
    ·rw[if_pos ha,if_neg]
     rintro(h|h|h|h)
     ·rw[hsc] at h;cases h
     ·exact h10 h
     ·exact h48 h
     ·rw[ha] at h;cases h
    ·rw[if_neg ha,if_pos (.inr (.inr (.inr (by simpa using ha))))]
   rw[hnv]
   have hd:decide (Cfg.valN s≤2147483647)=decide ((Cfg.valN s:Int)≤2147483647):=by rw[Bool.eq_iff_iff,decide_eq_true_iff,decide_eq_true_iff];omega
   rw[hd]
   clear hnv hsc hc0 hd
   generalize Lib.trimS s [48,49,50,51,52,53,54,55,56,57]=tr at *
   generalize Cfg.valN s=vn at *
   by_cases ha:s.all Cfg.digB=true
   ·rw[if_pos ha]
    obtain rfl:tr=[]:=htn.2 ha
    have HA:=hiD (HA.out ha)
    clear htn ha
    by_cases h1:1<s.length
    ·have hcb:=hcb h1
     have hl1:(1:Int)<(s.length:Int):=by omega
     go_enter Tryz.func49,Tryz.ntmps49
     go_wp2_with (first
      |(go_at_call 67;(with_reducible refine(HT.out _).mono ?_);rintro e w1 ⟨rfl,hb1⟩)
      |(go_at_call 68;(with_reducible refine(HA.out _).mono ?_);rintro e w2 ⟨rfl,hb2⟩))
     go_ret2
     exact⟨rfl,tQ hb1 hb2⟩
    ·have hl1:¬ (1:Int)<(s.length:Int):=by omega
     clear hcb
     go_enter Tryz.func49,Tryz.ntmps49
     go_wp2_with (first
      |(go_at_call 67;(with_reducible refine(HT.out _).mono ?_);rintro e w1 ⟨rfl,hb1⟩)
      |(go_at_call 68;(with_reducible refine(HA.out _).mono ?_);rintro e w2 ⟨rfl,hb2⟩))
     go_ret2
     exact⟨rfl,tQ hb1 hb2⟩
   ·rw[if_neg ha]
    have htr:(tr==[])=false:=beq_eq_false_iff_ne.2 (fun e=>ha (htn.1 e))
    clear htn ha HA
    by_cases h1:1<s.length
    ·have hcb:=hcb h1
     have hl1:(1:Int)<(s.length:Int):=by omega
     go_enter Tryz.func49,Tryz.ntmps49
     go_wp2_with (go_at_call 67;(with_reducible refine(HT.out _).mono ?_);rintro e w1 ⟨rfl,hb1⟩)
     go_ret2
     exact⟨rfl,hb1⟩
    ·have hl1:¬ (1:Int)<(s.length:Int):=by omega
     clear hcb
     go_enter Tryz.func49,Tryz.ntmps49
     go_wp2_with (go_at_call 67;(with_reducible refine(HT.out _).mono ?_);rintro e w1 ⟨rfl,hb1⟩)
     go_ret2
     exact⟨rfl,hb1⟩
theorem zap_ (s:LU) (w:World):Calls Tryz.prog 44 #[.string ⟨s.toArray⟩] w fun e w'=>e= .returned (.tuple #[.bool (Cfg.flagS s).1,.bool (Cfg.flagS s).2])∧w'=w:=by
 unfold Cfg.flagS Cfg.onB Cfg.offB
 by_cases h:s=[111,110]
 ·have hb:(s==[111,110])=true:=beq_iff_eq.2 h
  go_enter Tryz.func44,Tryz.ntmps44
  go_wp2_with fail
  go_ret2
  exact⟨by rw[hb];rfl,rfl⟩
 ·have hb:(s==[111,110])=false:=beq_eq_false_iff_ne.2 h
  go_enter Tryz.func44,Tryz.ntmps44
  go_wp2_with fail
  go_ret2
  exact⟨by rw[hb];rfl,rfl⟩
section
variable {B p:Nat} {w:World} {c:Cfg.ConfE} {va vc vl vi vr vu:Value}
theorem z03_ (j:Nat) (s:LU) (bt:Nat) (h:ConfB B p w c va vc vl vi vr vu) (hb:w.cell? ⟨bt,0,none⟩=some (.pointer (some ⟨p,j,none⟩))) (c':Cfg.ConfE) (u:Value) (hu:(za_ c va vc vl vi vr vu)[j]?=some u)
  (hc:(za_ c va vc vl vi vr vu).setIfInBounds j (.string ⟨s.toArray⟩)=za_ c' va vc vl vi vr vu) (hr:zi_ c' va vc vl vr vu=zi_ c va vc vl vr vu) (hi:c'.indexes=c.indexes):
  Calls Tryz.prog 41 #[.string ⟨s.toArray⟩,.pointer (some ⟨bt,0,none⟩)] w (km_ B p w (c',true)):=by
 have k0:=(h.bk.cell j).trans hu
 have f0:=h.bk.frozen j
 have H:=hiD (h.put c' j (.string ⟨s.toArray⟩) hc hr hi)
 have HP:=hiD h.bk
 clear h hu hc hr hi
 go_enter Tryz.func41,Tryz.ntmps41
 go_wp2_with fail
 go_ret
 exact⟨rfl,OutB.set HP.out _ _,_,_,_,_,_,_,H.out⟩
theorem z3r_ (j:Nat) (s:LU) (bt:Nat) (h:ConfB B p w c va vc vl vi vr vu) (hb:w.cell? ⟨bt,0,none⟩=some (.pointer (some ⟨p,j,none⟩))) (c':Cfg.ConfE) (u:Value) (hu:(za_ c va vc vl vi vr vu)[j]?=some u)
  (hc:(za_ c va vc vl vi vr vu).setIfInBounds j (.bool (Cfg.flagS s).1)=za_ c' va vc vl vi vr vu) (hr:zi_ c' va vc vl vr vu=zi_ c va vc vl vr vu) (hi:c'.indexes=c.indexes):
  Calls Tryz.prog 43 #[.string ⟨s.toArray⟩,.pointer (some ⟨bt,0,none⟩)] w (km_ B p w (c',(Cfg.flagS s).2)):=by
 have H:=hiD ((h.below (bR _ _).drew).put c' j (.bool (Cfg.flagS s).1) hc hr hi)
 have HO:Hid (∀ v,OutB B p w (w.drew.setCell ⟨p,j,none⟩ v)):=hiD fun v=>(OutB.of_below (bR _ _).drew (h.idx.2)).trans (OutB.set (h.bk.below (bR _ _).drew) _ _)
 have k0:w.cell? ⟨p,j,none⟩=some u:=(h.bk.cell j).trans hu
 have f0:w.frozen? ⟨p,j,none⟩=false:=h.bk.frozen j
 have HS:=hiD (fun (W:World)=>zap_ s W)
 clear h hu hc hr hi
 generalize Cfg.flagS s=R at *
 obtain⟨r1,r2⟩:=R
 simp only at *
 go_enter Tryz.func43,Tryz.ntmps43
 go_wp2_with fail
 go_region_with (first
  |(go_at_call 44;(with_reducible refine(HS.out _).mono ?_);rintro e ws ⟨rfl,rfl⟩))
 all_goals
  go_wp2_with fail
  go_ret
  exact⟨rfl,HO.out _,_,_,_,_,_,_,H.out⟩
theorem yo_ (j:Nat) (s:LU) (bt bm:Nat) (mf:FuncId) (ok:Bool) (v:Value) (xs:LL) (h:ConfB B p w c va vc vl vi vr vu)
  (hbt:Bk w bt 64 #[.pointer (some ⟨p,j,none⟩)]) (hbm:Bk w bm 54 #[.func (.func mf) #[] #[]]) (hlt:bt<B∧bm<B)
  (hent:∀ (args:Array Value) (W:World),(callFunc mf args).run Tryz.prog W= .ok (.enter mf args) W)
  (hM:∀ W,OutB B p w W→Calls Tryz.prog mf #[.string ⟨s.toArray⟩] W fun e w'=>e= .returned (.bool ok)∧Bel W w')
  (hO:Own B w v xs) (hv:(za_ c va vc vl vi vr vu)[j]?=some v) (hxl:xs.length≤1000000) (c':Cfg.ConfE)
  (hG:∀ W v' w',Bel w W→Own B w' v' (xs++[s])→W.grownBy w' v.ownBlock→(v'.ownBlock=v.ownBlock∨v'.ownBlock=some W.heap.size)→∃ va' vc' vl' vi' vr' vu',ConfB B p (w'.setCell ⟨p,j,none⟩ v') c' va' vc' vl' vi' vr' vu'):
  Calls Tryz.prog 46 #[.string ⟨s.toArray⟩,.pointer (some ⟨bt,0,none⟩),.pointer (some ⟨bm,0,none⟩)] w (km_ B p w (c',ok)):=by
 obtain⟨A0,c0,rfl,_⟩:=hO.isSlice
 have hb1:=(bR w.heap.size w).alloc (nR _) (.cells #[.string ⟨s.toArray⟩] 9)
 have hb2:Bel w (w.alloc (.cells #[.string ⟨s.toArray⟩] 9)).drew:=hb1.drew
 have hnp:bt≠p:=fun e=>by subst e;have:=hbt.symm.trans h.bk;simp at this
 have hnm:bm≠p:=fun e=>by subst e;have:=hbm.symm.trans h.bk;simp at this
 have t1:w.cell? ⟨bt,0,none⟩=some (.pointer (some ⟨p,j,none⟩)):=hbt.cell 0
 have t2:(w.alloc (.cells #[.string ⟨s.toArray⟩] 9)).cell? ⟨bt,0,none⟩=some (.pointer (some ⟨p,j,none⟩)):=(hbt.below hb1).cell 0
 have p1:=(h.bk.cell j).trans hv
 have p2:=((h.bk.below hb1).cell j).trans hv
 have hOd:=hO.below hb2
 have hy:∀ j (hj:j<[s].length),(w.alloc (.cells #[.string ⟨s.toArray⟩] 9)).drew.cell? ((⟨w.heap.size,0,none⟩:Addr).add j)=some (.string ⟨([s][j]).toArray⟩):=fun j hj=>by
  obtain rfl:j=0:=by simpa using hj
  exact(Bk.new w 9 #[.string ⟨s.toArray⟩]).cell 0
 have HB2:=hiD hb2
 have HBK:=hiD (h.bk.below hb2)
 have HBT:=hiD (hbt.below hb2)
 have HBM:=hiD (hbm.below hb2)
 have HV:=hiD hv
 have HG:=hiD fun v' w'=>hG _ v' w' hb2
 have HOM:=hiD hM
 have hpB:=h.lt
 have hBs:=h.idx.2
 have hrow:=hOd.lt
 clear hO h hbt hbm hv hb1 hb2 hG hM
 go_enter Tryz.func46,Tryz.ntmps46
 go_wp2_with fail
 go_region_law (first
  |(refine z30_ (b:=⟨w.heap.size,0,none⟩) (c:=1) (ys:=[s]) (by rfl) _ _ (by rfl) (by simp [Act.eval,Act.put]) hOd (by simp [Act.eval,Act.put]) hy (by simp only[List.length_singleton];omega) ?_;intro v5 w5 hO5 hg5 ha5;obtain⟨A5,c5,rfl,_⟩:=hO5.isSlice;have HO5:=hiD (And.intro hO5 (And.intro hg5 ha5));have p5:=(HBK.out.grown hg5 (fun e=>by have:=(hrow p e.symm).1;omega)).frozen j;have q5:=((HBK.out.grown hg5 (fun e=>by have:=(hrow p e.symm).1;omega)).cell j).trans HV.out;have t5:w5.cell? ⟨bt,0,none⟩=some (.pointer (some ⟨p,j,none⟩)):=(HBT.out.grown hg5 (fun e=>by have:=(hrow bt e.symm).1;omega)).cell 0;clear hO5 hg5 ha5)
  |fail)
 all_goals
  obtain⟨hO5,hg5,ha5⟩:=HO5.out
  simp only[List.length_append,List.length_singleton] at hO5 ha5
  have hOut:OutB B p w (w5.setCell ⟨p,j,none⟩ (.slice A5 (xs.length+1) c5)):=((OutB.of_below HB2.out hBs).trans (OutB.of_grown hg5 (fun k hk=>(hrow k hk).1) (fun k hk=>by obtain⟨cs,hc⟩:=hOd.ty hk;exact⟨_,cs,hc,by decide⟩) hOd.2)).trans (OutB.set (HBK.out.grown hg5 (fun e=>by have:=(hrow p e.symm).1;omega)) _ _)
  have m5:(w5.setCell ⟨p,j,none⟩ (.slice A5 (xs.length+1) c5)).cell? ⟨bm,0,none⟩=some (.func (.func mf) #[] #[]):=((HBM.out.grown hg5 (fun e=>by have:=(hrow bm e.symm).1;omega)).far hnm _).cell 0
  have HR:=hiD (And.intro hOut (HG.out _ _ hO5 hg5 ha5))
  clear hO5 hg5 ha5 hOut p5 q5 t5 HO5
  go_wp2_with ((with_reducible refine(HOM.out _ HR.out.1).mono ?_);rintro e w7 ⟨rfl,hb7⟩;have HB7:=hiD hb7;clear hb7)
  go_ret
  obtain⟨va',vc',vl',vi',vr',vu',hC⟩:=HR.out.2
  exact⟨rfl,HR.out.1.trans (OutB.of_below HB7.out (nT hBs HR.out.1.size)),_,_,_,_,_,_,hC.below HB7.out⟩
end
end Go.Proofs.YtakfpngfpknedaaGreatDoor
