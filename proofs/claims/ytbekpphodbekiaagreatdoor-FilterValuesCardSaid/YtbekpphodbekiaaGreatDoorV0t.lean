import Derived.Test.YtbekpphodbekiaaGreatDoorV0s
import Derived.SizedLaws
import Derived.Carry
import Derived.SliceStrings
import Derived.Deep.Slices
import Derived.Deep.Strs
import Derived.Lib.SmallJoins
set_option linter.all false
set_option maxHeartbeats 8000000
set_option maxRecDepth 100000
namespace Go.Proofs.YtbekpphodbekiaaGreatDoor
open Go.RowKit
abbrev qn_:=Ent.AttrE × Value
def js_ (q:qn_):List Value:=[.string ⟨q.1.typ.toArray⟩,q.2]
theorem xi_ (q:qn_):(js_ q).length=2:=rfl
theorem zdv_:∀ (l:List qn_) (j k:Nat) (u:Value) (h:j<l.length),(js_ l[j])[k]?=some u→(l.flatMap js_)[j * 2+k]?=some u
 |[],j,k,u,h,_=>absurd h (by simp)
 |q::l,0,k,u,h,hu=>by
  have hk:k<2:=by have:=(List.getElem?_eq_some_iff.1 hu).1;rw[xi_] at this;exact this
  rw[List.flatMap_cons,Nat.zero_mul,Nat.zero_add,List.getElem?_append_left (by rw[xi_];exact hk)]
  exact hu
 |q::l,j+1,k,u,h,hu=>by
  rw[List.flatMap_cons,List.getElem?_append_right (by rw[xi_];omega),xi_,show (j+1) * 2+k - 2=j * 2+k by omega]
  exact zdv_ l j k u (by simpa using h) hu
theorem jl_ (b o j:Nat):(⟨b,o,none⟩:Addr).add j=⟨b,o+j,none⟩:=by unfold Addr.add;split<;>simp_all
theorem zpo_ {w:World} {v:Value} {xs:LL} (h:Texts w v xs):TextsA w v xs:=by
 rcases h with ⟨rfl,rfl⟩|⟨b,c,rfl,hc,hlt,hx⟩
 ·exact .inl ⟨rfl,rfl⟩
 ·refine .inr ⟨⟨b,0,none⟩,c,rfl,hc,fun j hj=>?_⟩
  rw[jl_,Nat.zero_add]
  exact hx j hj
theorem Own.textsA {B:Nat} {w:World} {v:Value} {xs:LL} (h:Own B w v xs):TextsA w v xs:=zpo_ h.texts
def OwnAt (B:Nat) (w:World) (v:Value) (qs:List qn_):Prop:=w.ownsRow B 43 2 v qs.length (qs.flatMap js_)∧B≤w.heap.size
theorem OwnAt.nil {B:Nat} {w:World} (hB:B≤w.heap.size):OwnAt B w (.slice none 0 0) []:=⟨World.ownsRow_nil _ _ _ _,hB⟩
theorem OwnAt.lt {B:Nat} {w:World} {v:Value} {qs:List qn_} (h:OwnAt B w v qs):∀ k,v.ownBlock=some k→B≤k∧k<w.heap.size:=fun k hk=>h.1.lt k hk
theorem OwnAt.keep {B:Nat} {w w':World} {v:Value} {qs:List qn_} (h:OwnAt B w v qs) {r:Option Nat} (hg:w.grownBy w' r) (hr:∀ k,r=some k→k<B):OwnAt B w' v qs:=by
 refine⟨h.1.kept hg ?_,nT h.2 hg.size⟩
 rcases hv:v.ownBlock with _|g
 ·exact .inl rfl
 ·refine .inr ?_
  intro he
  have:=hr g he.symm
  have:=(h.1.lt g hv).1
  omega
theorem OwnAt.below {B:Nat} {w w':World} {v:Value} {qs:List qn_} (h:OwnAt B w v qs) (hb:Bel w w'):OwnAt B w' v qs:=h.keep (zc_ hb none) (fun k hk=>by cases hk)
theorem OwnAt.isSlice {B:Nat} {w:World} {v:Value} {qs:List qn_} (h:OwnAt B w v qs):∃ A c,v= .slice A qs.length c∧qs.length≤c:=by
 obtain⟨⟨h1,h2⟩,h3⟩:=h
 rcases h2 with ⟨rfl,hn⟩|⟨g,cap,cur,rfl,r2,r3,r4,_⟩
 ·exact⟨none,0,by rw[hn],by omega⟩
 ·exact⟨_,cap,rfl,r4⟩
theorem OwnAt.bel {B:Nat} {W w w':World} {v:Value} {qs:List qn_} (hb:Below B W w) (hO:OwnAt B w v qs) (hg:w.grownBy w' v.ownBlock):Below B W w':=hb.grown hg hO.2 (fun k hk=>(hO.lt k hk).1)
def AttrsQ (w:World) (v:Value) (qs:List qn_):Prop:=∃ A c,v= .slice A qs.length c∧qs.length≤c∧(A=none→c=0)∧∀ j (hj:j<qs.length),∃ b o,A=some ⟨b,o,none⟩∧∀ k u,(js_ qs[j])[k]?=some u→w.cell? ⟨b,o+j * 2+k,none⟩=some u
def AQOk (W:World) (qs:List qn_):Prop:=∀ q∈qs,TextsA W q.2 q.1.vals
theorem AQOk.below {w w':World} {qs:List qn_} (h:AQOk w qs) (hb:Bel w w'):AQOk w' qs:=fun q hq=>(h q hq).below hb
theorem AQOk.app {w:World} {qs ys:List qn_} (h:AQOk w qs) (h':AQOk w ys):AQOk w (qs++ys):=fun q hq=>(List.mem_append.1 hq).elim (h q) (h' q)
theorem AQOk.nil (w:World):AQOk w []:=fun q hq=>(by cases hq)
theorem AttrsQ.below {w w':World} {v:Value} {qs:List qn_} (h:AttrsQ w v qs) (hb:Bel w w'):AttrsQ w' v qs:=by
 obtain⟨A,c,rfl,hc,hn,hx⟩:=h
 refine⟨A,c,rfl,hc,hn,fun j hj=>?_⟩
 obtain⟨b,o,hA,hk⟩:=hx j hj
 exact⟨b,o,hA,fun k u hu=>(hb.cell (z9_ (hk k u hu))).trans (hk k u hu)⟩
def AttrsA (w:World) (v:Value) (l:List Ent.AttrE):Prop:=∃ qs:List qn_,qs.map (·.1)=l∧AttrsQ w v qs∧AQOk w qs
theorem AttrsA.below {w w':World} {v:Value} {l:List Ent.AttrE} (h:AttrsA w v l) (hb:Bel w w'):AttrsA w' v l:=by
 obtain⟨qs,h1,h2,h3⟩:=h
 exact⟨qs,h1,h2.below hb,h3.below hb⟩
theorem AttrsA.isSlice {w:World} {v:Value} {l:List Ent.AttrE} (h:AttrsA w v l):∃ A c,v= .slice A l.length c∧l.length≤c:=by
 obtain⟨qs,rfl,⟨A,c,rfl,hc,_⟩,_⟩:=h
 exact⟨A,c,by rw[List.length_map],by rw[List.length_map];exact hc⟩
theorem AttrsA.at {w:World} {v:Value} {l:List Ent.AttrE} (h:AttrsA w v l):∃ A c,v= .slice A l.length c∧l.length≤c∧∀ j (hj:j<l.length),∃ b o va,A=some ⟨b,o,none⟩∧w.cell? ⟨b,o+j * 2,none⟩=some (.string ⟨l[j].typ.toArray⟩)∧w.cell? ⟨b,o+j * 2+1,none⟩=some va∧TextsA w va l[j].vals:=by
 obtain⟨qs,rfl,⟨A,c,rfl,hc,hn,hx⟩,hq⟩:=h
 refine⟨A,c,by rw[List.length_map],by rw[List.length_map];exact hc,fun j hj=>?_⟩
 rw[List.length_map] at hj
 obtain⟨b,o,hA,hk⟩:=hx j hj
 have hm:=hq _ (List.getElem_mem hj)
 have g0:=hk 0 _ rfl
 have g1:=hk 1 _ rfl
 refine⟨b,o,qs[j].2,hA,?_,g1,?_⟩
 ·rw[List.getElem_map];exact g0
 ·rw[List.getElem_map];exact hm
theorem OwnAt.reads {B:Nat} {w:World} {v:Value} {qs:List qn_} (h:OwnAt B w v qs):AttrsQ w v qs:=by
 obtain⟨⟨h1,h2⟩,h3⟩:=h
 rcases h2 with ⟨rfl,hn⟩|⟨g,cap,cur,rfl,r2,r3,r4,r5,r6,r7⟩
 ·have:qs=[]:=List.eq_nil_of_length_eq_zero hn
  subst this
  exact⟨none,0,rfl,nR _,fun _=>rfl,fun j hj=>absurd hj (by simp)⟩
 ·refine⟨_,cap,rfl,r4,fun h=>(by cases h),fun j hj=>⟨g,0,rfl,fun k u hu=>?_⟩⟩
  have hf:=zdv_ qs j k u hj hu
  have hk:k<2:=by have:=(List.getElem?_eq_some_iff.1 hu).1;rw[xi_] at this;exact this
  rw[← r7,List.getElem?_take,if_pos (by omega)] at hf
  simp only[World.cell?,r3,Nat.zero_add]
  simpa using hf
theorem OwnAt.attrs {B:Nat} {w:World} {v:Value} {qs:List qn_} (h:OwnAt B w v qs) (hq:AQOk w qs):AttrsA w v (qs.map (·.1)):=⟨qs,rfl,h.reads,hq⟩
theorem zk4_:∃ i,Tryz.prog.info? 43=some i∧i.zero=some (.agg #[.string ⟨#[]⟩,.slice none 0 0])∧i.size=2∧i.bytes=40:=by
 obtain⟨i,h1,h2,h3,h4⟩:=info_parts (show (Tryz.prog.info? 43).map (fun i=>(i.zero,i.size,i.bytes))=some (some (.agg #[.string ⟨#[]⟩,.slice none 0 0]),2,40) by kernel_rfl)
 exact⟨i,h1,h2,h3,h4⟩
theorem zfm_ {ops:Array Oper} {rest:List Oper} {o:Oper} {a:Act} {Q:Exit→Act→World→Prop} (hgd:o.guard=none) (s x:Operand) (ho:o.op= .call {callee:= .builtin .append,args:=#[s,x],argTypes:=#[22,22]})
  {v:Value} {qs:List qn_} {B N:Nat} {w0:World} {t:LU} {va:Value} {vals:LL} (hv:va.oneCell'=true) (hs:a.eval s=v) (hb:OwnAt B w0 v qs)
  (hx:a.eval x= .slice (some ⟨N,0,none⟩) 1 1) (hN:N=w0.heap.size) (hlen:qs.length<1000000)
  (h:∀ v' w',OwnAt B w' v' (qs++[(⟨t,vals⟩,va)])→w0.grownBy w' v.ownBlock→wpList Tryz.prog ops Q rest (a.put o.dst v') w'):wpList Tryz.prog ops Q (o::rest) a (w0.alloc (.cells #[.string ⟨t.toArray⟩,va] 43)):=by
 subst hN
 obtain⟨i,h1,h2,h3,h4⟩:=zk4_
 have hb':=hb.keep (World.grownBy_alloc w0 (.cells #[.string ⟨t.toArray⟩,va] 43) none) (fun k hk=>by cases hk)
 refine wpList_append_own _ hgd s x 22 ho B 43 i (.agg #[.string ⟨#[]⟩,.slice none 0 0]) 2 40 Tryz.underlying22 h1 h2 h3 h4 rfl (by decide) v _ _ hs hb'.1 ⟨w0.heap.size,0,none⟩ 1 1 (js_ (⟨t,vals⟩,va)) hx rfl ?_ ?_ (by unfold maxLen;omega) (by omega) hb'.2 ?_
 ·intro j y hj
  match j,hj with
  |0,hj=>simp [js_] at hj;subst hj;simp [Addr.add]
  |1,hj=>simp [js_] at hj;subst hj;simp [Addr.add]
  |(j+2),hj=>simp [js_] at hj
 ·intro y hy;simp [js_] at hy;rcases hy with rfl|rfl<;>first|rfl|exact hv
 ·intro v' w' ho' hg _
  refine h v' w' ⟨?_,nT hb'.2 hg.size⟩ (gT (World.grownBy_alloc _ _ _) hg)
  simpa using ho'
open Go.ChangeShapes Go.WideShapes Go.ChangeAt Go.RowKit Go.Lib Go.Shelf Go.Deep Go.Joins
theorem list2 {α:Type} {l:List α} (h:l.length=2):∃ a b,l=[a,b]:=by
 match l,h with
 |[a,b],_=>exact⟨a,b,rfl⟩
theorem zhv_ {W:World} {a:Addr} {len cap:Nat} {ss:List ByteArray} (hl:len≤cap) (hz:ss.length=cap) (hcell:∀ i,i<ss.length→W.cell? (a.add i)=some (.string (ss.getD i ByteArray.empty))):
  TextsA W (.slice (some a) len cap) ((ss.take len).map fun s=>s.data.toList):=by
 have hlen:((ss.take len).map fun s=>s.data.toList).length=len:=by simp;omega
 refine .inr ⟨a,cap,by rw[hlen],by omega,fun j hj=>?_⟩
 have hj':j<len:=by omega
 rw[hcell j (by omega)]
 congr 2
 simp only[List.getElem_map,List.getElem_take]
 rw[List.getD_eq_getElem?_getD,List.getElem?_eq_getElem (by omega)]
 rfl
section
variable {H:Type} {enc:TypeId × Value→H} {W:World} {base:Nat} {fuel:Nat} {cs:List Value} {x:DataW H × List MemPlace}
instance:Inhabited qn_:=⟨(⟨[],[]⟩,.bool false)⟩
def ModsA (w:World) (v:Value) (l:List Ent.ModE):Prop:=∃ A c,v= .slice A l.length c∧l.length≤c∧∀ j (hj:j<l.length),∃ b o va,A=some ⟨b,o,none⟩∧w.cell? ⟨b,o+j * 3,none⟩=some (.int .i64 l[j].op)∧w.cell? ⟨b,o+j * 3+1,none⟩=some (.string ⟨l[j].typ.toArray⟩)∧w.cell? ⟨b,o+j * 3+2,none⟩=some va∧TextsA w va l[j].vals
theorem ModsA.below {w w':World} {v:Value} {l:List Ent.ModE} (h:ModsA w v l) (hb:Bel w w'):ModsA w' v l:=by
 obtain⟨A,c,rfl,hc,hx⟩:=h
 refine⟨A,c,rfl,hc,fun j hj=>?_⟩
 obtain⟨b,o,va,hA,c0,c1,c2,c3⟩:=hx j hj
 exact⟨b,o,va,hA,cQ hb c0,cQ hb c1,cQ hb c2,c3.below hb⟩
instance:Inhabited (Ent.ModE × Value):=⟨(⟨0,[],[]⟩,.bool false)⟩
end
end Go.Proofs.YtbekpphodbekiaaGreatDoor
namespace Go.Proofs.YtbekpphodbekiaaGreatDoor.Fil
open Go.RowKit
structure FilE where
 op:Int
 n:Int
 typ:LU
 val:LU
 ini:LU
 fin:LU
 any:LL
deriving DecidableEq
instance:Inhabited FilE:=⟨⟨0,0,[],[],[],[],[]⟩⟩
def mk (op:Int):FilE:=⟨op,0,[],[],[],[],[]⟩
def valF:LU→LU→LL→Option (LL × LU)
 |[],b,out=>some (out++[b],[])
 |x::t,b,out=>
  if x=41 then some (out++[b],x::t)
  else if x=92 then
   match t with
   |p::q::t'=>match zz_ [p,q] with
    |some y=>valF t' (b++y) out
    |none=>none
   |_=>none
  else if x=40∨x=0 then none
  else if x=42 then valF t [] (out++[b])
  else valF t (b++[x]) out
def isCut (c:UInt8):Bool:=c==61||c==62||c==60||c==126||c==40||c==41
def typF (s:LU):LU:=s.takeWhile fun c=>!isCut c
def signF (op:Int):LU:=if op=5 then [62,61] else if op=6 then [60,61] else if op=8 then [126,61] else [61]
def oneF (op:Int) (t s:LU):Option (FilE × LU):=match valF s [] [] with
 |some ([v],r)=>some (⟨op,0,t,v,[],[],[]⟩,r)
 |_=>none
def restF (t s:LU):Option (FilE × LU):=match valF s [] [] with
 |some (l,r)=>
  if s.take 2=[42,41] then some (⟨7,0,t,[],[],[],[]⟩,r)
  else if l.length=1 then some (⟨3,0,t,l.headD [],[],[],[]⟩,r)
  else some (⟨4,0,t,[],l.headD [],l.getLastD [],(l.drop 1).dropLast⟩,r)
 |none=>none
def itemF (s:LU):Option (FilE × LU):=
 let t:=typF s
 let r:=s.drop t.length
 if r.take 2=[62,61] then oneF 5 t (r.drop 2)
 else if r.take 2=[60,61] then oneF 6 t (r.drop 2)
 else if r.take 2=[126,61] then oneF 8 t (r.drop 2)
 else match r with
  |61::r'=>restF t r'
  |_=>none
def kidsF (g:Nat→LU→Option (List FilE × LU)):Nat→Nat→LU→Option (Nat × List FilE × LU)
 |0,_,s=>some (0,[],s)
 |f+1,k,s=>if s.head?=some 40 then
   match g k s with
   |some (l,s')=>match kidsF g f (k+l.length) s' with
    |some (n,l',r)=>some (n+1,l++l',r)
    |none=>none
   |none=>none
  else some (0,[],s)
def opF (s:LU):Option Int:=match s with
 |38::_=>some 0
 |124::_=>some 1
 |33::_=>some 2
 |_=>none
def bodyF (g:Nat→LU→Option (List FilE × LU)) (k:Nat) (s:LU):Option (List FilE × LU):=match opF s with
 |some o=>match kidsF g s.length (k+1) (s.drop 1) with
  |some (n,l,r)=>some (⟨o,n,[],[],[],[],[]⟩::l,r)
  |none=>none
 |none=>match itemF s with
  |some (p,r)=>some ([p],r)
  |none=>none
def filF:Nat→Nat→LU→Option (List FilE × LU)
 |0,_,_=>none
 |d+1,k,s=>if 100≤k then none else match s with
  |40::s1=>match bodyF (filF d) k s1 with
   |some (l,41::r)=>some (l,r)
   |_=>none
  |_=>none
def shapeB (p:FilE):Bool:=
 if p.op=0∨p.op=1∨p.op=2 then p.typ.isEmpty && p.val.isEmpty && p.ini.isEmpty && p.fin.isEmpty && p.any.isEmpty && decide (0≤p.n) && (decide (p.op≠2)||decide (p.n=1))
 else if p.op=3∨p.op=5∨p.op=6∨p.op=8 then decide (p.n=0) && p.ini.isEmpty && p.fin.isEmpty && p.any.isEmpty && zd_ p.typ
 else if p.op=4 then decide (p.n=0) && p.val.isEmpty && !(p.ini.isEmpty && p.fin.isEmpty && p.any.isEmpty) && !p.any.contains [] && zd_ p.typ
 else if p.op=7 then decide (p.n=0) && p.val.isEmpty && p.ini.isEmpty && p.fin.isEmpty && p.any.isEmpty && zd_ p.typ
 else false
def times {α:Type} (g:α→Option α):Nat→α→Option α
 |0,a=>some a
 |n+1,a=>(g a).bind (times g n)
def wholeF:Nat→List FilE→Option (List FilE)
 |0,_=>none
 |_+1,[]=>none
 |d+1,p::t=>if shapeB p then times (wholeF d) p.n.toNat t else none
def validF (l:List FilE):Bool:=decide (l.length≤100) && (wholeF 20 l==some [])
def escF (c:LU):LU:=if c.length=1∧(c.any fun x=>x==40||x==41||x==42||x==92||x==0||decide (128≤x.toNat)) then 92::z03_ c else c
def wrF:Nat→LU→LU
 |0,_=>[]
 |_+1,[]=>[]
 |f+1,x::t=>escF ((x::t).take (Lib.decodeL (x::t)).2)++wrF f ((x::t).drop (Lib.decodeL (x::t)).2)
def wrL (v:LU):LU:=wrF v.length v
def opB (o:Int):UInt8:=if o=0 then 38 else if o=1 then 124 else 33
def putsF (g:List FilE→LU × List FilE):Nat→List FilE→LU × List FilE
 |0,l=>([],l)
 |n+1,l=>((g l).1++(putsF g n (g l).2).1,(putsF g n (g l).2).2)
def itemT (p:FilE):LU:=
 if p.op=7 then p.typ++[61,42]
 else if p.op=4 then p.typ++61::(wrL p.ini++42::(p.any.flatMap fun x=>wrL x++[42]))++wrL p.fin
 else p.typ++signF p.op++wrL p.val
def putF:Nat→List FilE→LU × List FilE
 |0,l=>([],l)
 |_+1,[]=>([],[])
 |d+1,p::t=>if p.op=0∨p.op=1∨p.op=2 then (40::opB p.op::((putsF (putF d) p.n.toNat t).1++[41]),(putsF (putF d) p.n.toNat t).2) else (40::(itemT p++[41]),t)
def textF (l:List FilE):LU:=(putF 20 l).1
def parseF (s:LU):List FilE × Int:=if 65536<s.length then ([],2) else match filF 20 0 s with
 |some (l,r)=>if r.isEmpty && validF l then (l,0) else ([],60)
 |none=>([],60)
def printF (l:List FilE):LU × Int:=if validF l then (if 65536<(textF l).length then ([],2) else (textF l,0)) else ([],60)
/-! What is written is read. -/
theorem z4e_:∀ x:UInt8,zz_ (z03_ [x])=some [x]:=by
 have h:∀ n:Fin 256,zz_ (z03_ [UInt8.ofNat n.val])=some [UInt8.ofNat n.val]:=by decide+kernel
 intro x
 have:=h ⟨x.toNat,x.toNat_lt⟩
 simpa using this
theorem valF_cons (x:UInt8) (t b:LU) (out:LL):valF (x::t) b out=if x=41 then some (out++[b],x::t) else if x=92 then (match t with
   |p::q::t'=>match zz_ [p,q] with
    |some y=>valF t' (b++y) out
    |none=>none
   |_=>none) else if x=40∨x=0 then none else if x=42 then valF t [] (out++[b]) else valF t (b++[x]) out:=by
 rw[valF.eq_def]
 try rfl
theorem val_plain:∀ (c s b:LU) (out:LL),(∀ x∈c,x≠41∧x≠92∧x≠40∧x≠0∧x≠42)→valF (c++s) b out=valF s (b++c) out
 |[],s,b,out,_=>by simp
 |x::c,s,b,out,h=>by
  obtain⟨h1,h2,h3,h4,h5⟩:=h x (List.mem_cons_self ..)
  rw[List.cons_append,valF_cons,if_neg h1,if_neg h2,if_neg (by rintro(e|e);exact h3 e;exact h4 e),if_neg h5,val_plain c s _ out (fun y hy=>h y (List.mem_cons_of_mem _ hy)),List.append_assoc]
  rfl
theorem hex_two (x:UInt8):∃ p q,z03_ [x]=[p,q]:=⟨_,_,rfl⟩
theorem val_hex (x:UInt8) (s b:LU) (out:LL):valF (92::(z03_ [x]++s)) b out=valF s (b++[x]) out:=by
 have hu:=z4e_ x
 obtain⟨p,q,hp⟩:=hex_two x
 rw[hp] at hu ⊢
 rw[List.cons_append,List.cons_append,List.nil_append,valF_cons,if_neg (by decide),if_pos rfl]
 simp only[hu]
theorem dec_high (l:LU) (h:l≠[]) (h2:(Lib.decodeL l).2≠1):∀ x∈l.take (Lib.decodeL l).2,128≤x.toNat:=by
 have hle:=Lib.decodeL_le l h
 rw[Lib.decodeL_N] at h2 hle ⊢
 have gd:∀ (j:Nat),j<l.length→l[j]?=some (l.getD j 0):=fun j hj=>by
  rw[List.getD_eq_getElem?_getD,List.getElem?_eq_getElem hj];rfl
 rcases Lib.decodeN_shape l.length (l.getD 0 0).toNat (l.getD 1 0).toNat (l.getD 2 0).toNat (l.getD 3 0).toNat with ⟨c,e⟩|⟨c1,c2,c3,cv,e⟩|⟨c1,c2,c3,c4,cv,cs,e⟩|⟨c1,c2,c3,c4,c5,cv,cw,e⟩|e<;>rw[e] at h2 hle ⊢<;>dsimp only at h2 hle ⊢
 ·exact absurd rfl h2
 ·intro x hx
  obtain⟨j,hj,rfl⟩:=List.mem_iff_getElem.1 hx
  have hj':j<2:=by simp at hj;omega
  rw[List.getElem_take]
  have hg:=gd j (by omega)
  rw[List.getElem?_eq_getElem (by omega)] at hg
  rw[Option.some.inj hg]
  match j,hj' with
  |0,_=>omega
  |1,_=>omega
 ·intro x hx
  obtain⟨j,hj,rfl⟩:=List.mem_iff_getElem.1 hx
  have hj':j<3:=by simp at hj;omega
  rw[List.getElem_take]
  have hg:=gd j (by omega)
  rw[List.getElem?_eq_getElem (by omega)] at hg
  rw[Option.some.inj hg]
  match j,hj' with
  |0,_=>omega
  |1,_=>omega
  |2,_=>omega
 ·intro x hx
  obtain⟨j,hj,rfl⟩:=List.mem_iff_getElem.1 hx
  have hj':j<4:=by simp at hj;omega
  rw[List.getElem_take]
  have hg:=gd j (by omega)
  rw[List.getElem?_eq_getElem (by omega)] at hg
  rw[Option.some.inj hg]
  match j,hj' with
  |0,_=>omega
  |1,_=>omega
  |2,_=>omega
  |3,_=>omega
 ·exact absurd rfl h2
theorem dec_pos (l:LU) (h:l≠[]):1≤(Lib.decodeL l).2:=by
 rw[Lib.decodeL_N]
 rcases Lib.decodeN_shape l.length (l.getD 0 0).toNat (l.getD 1 0).toNat (l.getD 2 0).toNat (l.getD 3 0).toNat with ⟨c,e⟩|⟨c1,c2,c3,cv,e⟩|⟨c1,c2,c3,c4,cv,cs,e⟩|⟨c1,c2,c3,c4,c5,cv,cw,e⟩|e<;>rw[e]<;>dsimp only<;>omega
theorem val_esc (c s b:LU) (out:LL) (h:c.length=1∨∀ x∈c,128≤x.toNat):valF (escF c++s) b out=valF s (b++c) out:=by
 unfold escF
 split
 ·next hc=>
  obtain⟨x,rfl⟩:=List.length_eq_one_iff.1 hc.1
  rw[List.cons_append,val_hex]
 ·next hc=>
  refine val_plain c s b out fun x hx=>?_
  have key:¬ (x=40∨x=41∨x=42∨x=92∨x=0):=by
   intro hs
   rcases h with h|h
   ·refine hc ⟨h,?_⟩
    rw[List.any_eq_true]
    refine⟨x,hx,?_⟩
    rcases hs with rfl|rfl|rfl|rfl|rfl<;>decide
   ·have:=h x hx
    rcases hs with rfl|rfl|rfl|rfl|rfl<;>revert this<;>decide
  simp only[not_or] at key
  exact⟨key.2.1,key.2.2.2.1,key.1,key.2.2.2.2,key.2.2.1⟩
theorem val_wr:∀ (f:Nat) (v s b:LU) (out:LL),v.length≤f→valF (wrF f v++s) b out=valF s (b++v) out
 |0,v,s,b,out,h=>by
  have:v=[]:=List.length_eq_zero_iff.1 (Nat.le_zero.1 h)
  subst this
  simp [wrF]
 |f+1,[],s,b,out,h=>by simp [wrF]
 |f+1,x::t,s,b,out,h=>by
  have hne:x::t≠[]:=by simp
  have h1:=dec_pos (x::t) hne
  have h2:=Lib.decodeL_le (x::t) hne
  have h3:=dec_high (x::t) hne
  rw[wrF]
  generalize (Lib.decodeL (x::t)).2=n at *
  rw[List.append_assoc,val_esc _ _ _ _ (by
   by_cases e:n=1
   ·left;rw[List.length_take,e];simp
   ·right;exact h3 e),val_wr f _ _ _ _ (by rw[List.length_drop];simp only[List.length_cons] at h ⊢;omega),List.append_assoc,List.take_append_drop]
theorem val_written (v s b:LU) (out:LL):valF (wrL v++s) b out=valF s (b++v) out:=val_wr _ _ _ _ _ (nR _)
theorem val_end (s b:LU) (out:LL):valF (41::s) b out=some (out++[b],41::s):=by rw[valF_cons,if_pos rfl]
theorem val_star (s b:LU) (out:LL):valF (42::s) b out=valF s [] (out++[b]):=by
 rw[valF_cons,if_neg (by decide),if_neg (by decide),if_neg (by decide),if_pos rfl]
theorem val_any:∀ (any:LL) (s:LU) (out:LL),valF ((any.flatMap fun x=>wrL x++[42])++s) [] out=valF s [] (out++any)
 |[],s,out=>by simp
 |x::any,s,out=>by
  rw[List.flatMap_cons,List.append_assoc,List.append_assoc,val_written,List.cons_append,List.nil_append,val_star,val_any any s _,List.nil_append,List.append_assoc]
  rfl
end Go.Proofs.YtbekpphodbekiaaGreatDoor.Fil
namespace Go.Proofs.YtbekpphodbekiaaGreatDoor.Fil
open Go.RowKit
theorem not_cut {t:LU} (h:zd_ t=true):∀ c∈t,isCut c=false:=by
 intro c hc
 have h1:=zdj_ h c hc
 cases h2:isCut c with
 |false=>rfl
 |true=>
  exfalso
  unfold isCut at h2
  simp only[Bool.or_eq_true,beq_iff_eq] at h2
  rcases h2 with ((((rfl|rfl)|rfl)|rfl)|rfl)|rfl<;>exact absurd h1 (by decide)
theorem typ_read {t:LU} (h:zd_ t=true) (x:UInt8) (r:LU) (hx:isCut x=true):typF (t++x::r)=t:=by
 unfold typF
 rw[List.takeWhile_append_of_pos (fun c hc=>by rw[not_cut h c hc];rfl),List.takeWhile_cons_of_neg (by rw[hx];simp),List.append_nil]
theorem sign_three {o:Int} (h:o=3):signF o=[61]:=by subst h;rfl
theorem one_read (op:Int) (t v s:LU):oneF op t (wrL v++41::s)=some (⟨op,0,t,v,[],[],[]⟩,41::s):=by
 unfold oneF
 rw[val_written,val_end]
 rfl
theorem val_two {r l:LU} {x:LL} (h2:r.take 2=[42,41]) (h:valF r [] []=some (x,l)):x=[[],[]]:=by
 obtain⟨u,rfl⟩:∃ u,r=42::41::u:=by
  match r,h2 with
  |a::b::u,h2=>simp only[List.take_succ_cons,List.take_zero,List.cons.injEq,and_true] at h2;exact⟨u,by rw[h2.1,h2.2]⟩
 rw[val_star,val_end] at h
 simp only[Option.some.injEq,Prod.mk.injEq] at h
 rw[← h.1];rfl
theorem item_read (p:FilE) (s:LU) (hs:shapeB p=true) (ho:¬ (p.op=0∨p.op=1∨p.op=2)):itemF (itemT p++41::s)=some (p,41::s):=by
 obtain⟨op,n,typ,val,ini,fin,any⟩:=p
 unfold shapeB at hs
 simp only at hs ho
 rw[if_neg ho] at hs
 unfold itemT
 simp only
 split at hs
 ·next h4=>
  simp only[Bool.and_eq_true,decide_eq_true_eq,List.isEmpty_iff] at hs
  obtain⟨⟨⟨⟨rfl,rfl⟩,rfl⟩,rfl⟩,ht⟩:=hs
  rcases h4 with rfl|rfl|rfl|rfl
  ·rw[if_neg (by decide),if_neg (by decide),sign_three rfl]
   have e:(typ++[61]++wrL val++41::s)=typ++61::(wrL val++41::s):=by simp
   unfold itemF
   rw[e,typ_read ht 61 _ (by decide)]
   simp only
   rw[List.drop_left,if_neg (by simp),if_neg (by simp),if_neg (by simp)]
   simp only
   unfold restF
   rw[val_written,val_end]
   simp only[List.nil_append]
   rw[if_neg (fun h2=>by
    have hv:valF (wrL val++41::s) [] []=some ([val],41::s):=by rw[val_written,val_end];rfl
    have:=val_two h2 hv
    cases this),if_pos (by simp)]
   rfl
  ·rw[if_neg (by decide),if_neg (by decide)]
   have e:(typ++signF 5++wrL val++41::s)=typ++62::(61::(wrL val++41::s)):=by simp [signF]
   unfold itemF
   rw[e,typ_read ht 62 _ (by decide)]
   simp only
   rw[List.drop_left,if_pos (by simp)]
   exact one_read 5 typ val s
  ·rw[if_neg (by decide),if_neg (by decide)]
   have e:(typ++signF 6++wrL val++41::s)=typ++60::(61::(wrL val++41::s)):=by simp [signF]
   unfold itemF
   rw[e,typ_read ht 60 _ (by decide)]
   simp only
   rw[List.drop_left,if_neg (by simp),if_pos (by simp)]
   exact one_read 6 typ val s
  ·rw[if_neg (by decide),if_neg (by decide)]
   have e:(typ++signF 8++wrL val++41::s)=typ++126::(61::(wrL val++41::s)):=by simp [signF]
   unfold itemF
   rw[e,typ_read ht 126 _ (by decide)]
   simp only
   rw[List.drop_left,if_neg (by simp),if_neg (by simp),if_pos (by simp)]
   exact one_read 8 typ val s
 ·split at hs
  ·next h4=>
   subst h4
   simp only[Bool.and_eq_true,decide_eq_true_eq,List.isEmpty_iff,Bool.not_eq_true'] at hs
   obtain⟨⟨⟨⟨rfl,rfl⟩,hne⟩,_⟩,ht⟩:=hs
   rw[if_neg (by decide),if_pos rfl]
   have e:(typ++61::(wrL ini++42::(any.flatMap fun x=>wrL x++[42]))++wrL fin++41::s)=typ++61::(wrL ini++(42::((any.flatMap fun x=>wrL x++[42])++(wrL fin++41::s)))):=by simp
   have hv:valF (wrL ini++(42::((any.flatMap fun x=>wrL x++[42])++(wrL fin++41::s)))) [] []=some ((ini::any)++[fin],41::s):=by
    rw[val_written,val_star,val_any,val_written,val_end]
    simp
   unfold itemF
   rw[e,typ_read ht 61 _ (by decide)]
   simp only
   rw[List.drop_left,if_neg (by simp),if_neg (by simp),if_neg (by simp)]
   simp only
   unfold restF
   rw[hv]
   simp only
   rw[if_neg (fun h2=>by
    have h3:=val_two h2 hv
    have h4:any=[]:=by
     have:=congrArg List.length h3
     simp at this
     exact this
    subst h4
    simp at h3
    obtain⟨rfl,rfl⟩:=h3
    simp at hne),if_neg (by simp)]
   have hgl:(ini::any++[fin]).getLastD []=fin:=by
    rw[List.getLastD_eq_getLast?,List.getLast?_concat];rfl
   rw[hgl]
   simp
  ·split at hs
   ·next h7=>
    subst h7
    simp only[Bool.and_eq_true,decide_eq_true_eq,List.isEmpty_iff] at hs
    obtain⟨⟨⟨⟨⟨rfl,rfl⟩,rfl⟩,rfl⟩,rfl⟩,ht⟩:=hs
    rw[if_pos rfl]
    have e:(typ++[61,42]++41::s)=typ++61::(42::41::s):=by simp
    unfold itemF
    rw[e,typ_read ht 61 _ (by decide)]
    simp only
    rw[List.drop_left,if_neg (by simp),if_neg (by simp),if_neg (by simp)]
    simp only
    unfold restF
    rw[val_star,val_end]
    simp
   ·cases hs
theorem times_len {g:List FilE→Option (List FilE)} (hg:∀ a b,g a=some b→b.length<a.length):∀ n a b,times g n a=some b→b.length+n≤a.length
 |0,a,b,h=>by cases h;simp
 |n+1,a,b,h=>by
  rw[times] at h
  cases hc:g a with
  |none=>rw[hc] at h;cases h
  |some c=>
   rw[hc] at h
   have h1:=times_len hg n c b h
   have h2:=hg a c hc
   omega
theorem whole_len:∀ d p r,wholeF d p=some r→r.length<p.length
 |0,p,r,h=>by cases h
 |d+1,[],r,h=>by cases h
 |d+1,x::t,r,h=>by
  rw[wholeF] at h
  split at h
  ·have:=times_len (whole_len d) _ _ _ h
   simp only[List.length_cons];omega
  ·cases h
def Back (d:Nat) (l r:List FilE):Prop:=∃ c,l=c++r∧(putF d l).2=r∧(∃ u,(putF d l).1=40::u)∧∀ k s,k+c.length≤100→filF d k ((putF d l).1++s)=some (c,s)
theorem puts_len {d:Nat} (hd:∀ l r,wholeF d l=some r→Back d l r):∀ n t r,times (wholeF d) n t=some r→n≤(putsF (putF d) n t).1.length∧(putsF (putF d) n t).2=r
 |0,t,r,h=>by cases h;exact⟨Nat.zero_le _,rfl⟩
 |n+1,t,r,h=>by
  rw[times] at h
  cases hb:wholeF d t with
  |none=>rw[hb] at h;cases h
  |some b=>
   rw[hb] at h
   obtain⟨c,e,h2,⟨u,hu⟩,h3⟩:=hd t b hb
   obtain⟨i1,i2⟩:=puts_len hd n b r h
   rw[putsF,h2]
   refine⟨?_,i2⟩
   rw[List.length_append,hu,List.length_cons]
   show n+1≤u.length+1+(putsF (putF d) n b).1.length
   omega
theorem kids_read {d:Nat} (hd:∀ l r,wholeF d l=some r→Back d l r):∀ n t r,times (wholeF d) n t=some r→∃ c,t=c++r∧∀ k s f,s.head?≠some 40→k+c.length≤100→n≤f→kidsF (filF d) f k ((putsF (putF d) n t).1++s)=some (n,c,s)
 |0,t,r,h=>by
  cases h
  refine⟨[],rfl,fun k s f hs hk hf=>?_⟩
  rw[putsF,List.nil_append]
  cases f with
  |zero=>rfl
  |succ f=>rw[kidsF,if_neg hs]
 |n+1,t,r,h=>by
  rw[times] at h
  cases hb:wholeF d t with
  |none=>rw[hb] at h;cases h
  |some b=>
   rw[hb] at h
   obtain⟨c1,e1,h2,⟨u,hu⟩,h3⟩:=hd t b hb
   obtain⟨c2,e2,h4⟩:=kids_read hd n b r h
   refine⟨c1++c2,by rw[e1,e2,List.append_assoc],fun k s f hs hk hf=>?_⟩
   obtain⟨f',rfl⟩:∃ f',f=f'+1:=⟨f - 1,by omega⟩
   rw[List.length_append] at hk
   rw[putsF,h2,List.append_assoc,kidsF,if_pos (by rw[hu];rfl),h3 k _ (by omega)]
   simp only
   rw[h4 _ s f' hs (by omega) (by omega)]
theorem shape_n {p:FilE} (h:shapeB p=true):0≤p.n∧(¬ (p.op=0∨p.op=1∨p.op=2)→p.n=0):=by
 unfold shapeB at h
 split at h
 ·next ho=>
  simp only[Bool.and_eq_true,decide_eq_true_eq] at h
  exact⟨h.1.2,fun hn=>absurd ho hn⟩
 ·split at h
  ·simp only[Bool.and_eq_true,decide_eq_true_eq] at h
   omega
  ·split at h
   ·simp only[Bool.and_eq_true,decide_eq_true_eq] at h
    omega
   ·split at h
    ·simp only[Bool.and_eq_true,decide_eq_true_eq] at h
     omega
    ·cases h
theorem shape_kids {p:FilE} (h:shapeB p=true) (ho:p.op=0∨p.op=1∨p.op=2):p=⟨p.op,(p.n.toNat:Nat),[],[],[],[],[]⟩:=by
 have hn:=(shape_n h).1
 unfold shapeB at h
 rw[if_pos ho] at h
 obtain⟨op,n,typ,val,ini,fin,any⟩:=p
 simp only[Bool.and_eq_true,decide_eq_true_eq,List.isEmpty_iff] at h hn ⊢
 obtain⟨⟨⟨⟨⟨⟨rfl,rfl⟩,rfl⟩,rfl⟩,rfl⟩,_⟩,_⟩:=h
 rw[Int.toNat_of_nonneg hn]
theorem op_read (o:Int) (h:o=0∨o=1∨o=2) (s:LU):opF (opB o::s)=some o:=by
 rcases h with rfl|rfl|rfl<;>rfl
theorem op_none (p:FilE) (s:LU) (hs:shapeB p=true) (ho:¬ (p.op=0∨p.op=1∨p.op=2)):opF (itemT p++s)=none:=by
 have ht:zd_ p.typ=true:=by
  unfold shapeB at hs
  rw[if_neg ho] at hs
  split at hs
  ·simp only[Bool.and_eq_true] at hs;exact hs.2
  ·split at hs
   ·simp only[Bool.and_eq_true] at hs;exact hs.2
   ·split at hs
    ·simp only[Bool.and_eq_true] at hs;exact hs.2
    ·cases hs
 have hne:=zp7_ ht
 obtain⟨x,t,hx⟩:∃ x t,p.typ=x::t:=by
  cases h:p.typ with
  |nil=>exact absurd h hne
  |cons x t=>exact⟨x,t,rfl⟩
 have hc:=zdj_ ht x (by rw[hx];exact List.mem_cons_self ..)
 have hi:∃ u,itemT p++s=x::u:=by
  unfold itemT
  rw[hx]
  split
  ·exact⟨_,rfl⟩
  ·split<;>exact⟨_,rfl⟩
 obtain⟨u,hu⟩:=hi
 rw[hu]
 unfold opF
 split
 ·next h=>cases h;exact absurd hc (by decide)
 ·next h=>cases h;exact absurd hc (by decide)
 ·next h=>cases h;exact absurd hc (by decide)
 ·rfl
theorem filF_cons (d k:Nat) (s1:LU) (h:¬ 100≤k):filF (d+1) k (40::s1)=match bodyF (filF d) k s1 with
   |some (l,41::r)=>some (l,r)
   |_=>none:=by
 rw[filF.eq_def]
 simp only
 rw[if_neg h]
 try rfl
theorem fil_back:∀ d l r,wholeF d l=some r→Back d l r
 |0,l,r,h=>by cases h
 |d+1,[],r,h=>by cases h
 |d+1,p::t,r,h=>by
  rw[wholeF] at h
  split at h
  case isFalse=>cases h
  case isTrue hs=>
   have hsn:=shape_n hs
   have hd:=fil_back d
   by_cases ho:p.op=0∨p.op=1∨p.op=2
   ·obtain⟨hl,h2⟩:=puts_len hd _ _ _ h
    obtain⟨c,e,h3⟩:=kids_read hd _ _ _ h
    have hp:=shape_kids hs ho
    refine⟨p::c,by rw[e];rfl,?_,?_,fun k s hk=>?_⟩
    ·rw[putF,if_pos ho];exact h2
    ·rw[putF,if_pos ho];exact⟨_,rfl⟩
    ·rw[List.length_cons] at hk
     rw[putF,if_pos ho,List.cons_append,filF_cons _ _ _ (by omega),List.cons_append]
     unfold bodyF
     rw[op_read p.op ho]
     simp only[List.drop_succ_cons,List.drop_zero]
     rw[List.append_assoc,List.cons_append,List.nil_append,h3 _ (41::s) _ (by simp) (by omega) (by simp only[List.length_cons,List.length_append];omega)]
     simp only
     rw[← hp]
   ·have hn:p.n=0:=hsn.2 ho
    rw[hn] at h
    simp only[Int.toNat_zero,times,Option.some.injEq] at h
    subst h
    refine⟨[p],rfl,?_,?_,fun k s hk=>?_⟩
    ·rw[putF,if_neg ho]
    ·rw[putF,if_neg ho];exact⟨_,rfl⟩
    ·simp only[List.length_singleton] at hk
     rw[putF,if_neg ho,List.cons_append,filF_cons _ _ _ (by omega)]
     unfold bodyF
     rw[List.append_assoc,op_none p _ hs ho]
     simp only
     rw[List.cons_append,List.nil_append,item_read p s hs ho]
     rfl
theorem parse_no {s:LU} (hs:s.length≤65536) (h:(parseF s).2≠0):parseF s=([],60):=by
 unfold parseF at h ⊢
 rw[if_neg (by omega)] at h ⊢
 split at h
 ·split at h
  ·exact absurd rfl h
  ·next hc=>rw[if_neg hc]
 ·rfl
end Go.Proofs.YtbekpphodbekiaaGreatDoor.Fil
