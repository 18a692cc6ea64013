import Derived.Test.YtbekpphodbekiaaGreatDoorV10
import Derived.Deep.RegionLaw
import Derived.Deep.MidRow
set_option linter.all false
set_option maxHeartbeats 8000000
set_option maxRecDepth 100000
namespace Go.Proofs.YtbekpphodbekiaaGreatDoor.Fil
open Go.RowKit
theorem times_mono {g h:List FilE→Option (List FilE)} (hgh:∀ a b,g a=some b→h a=some b):∀ n a b,times g n a=some b→times h n a=some b
 |0,a,b,e=>e
 |n+1,a,b,e=>by
  rw[times] at e ⊢
  cases hc:g a with
  |none=>rw[hc] at e;cases e
  |some c=>
   rw[hc] at e
   rw[hgh a c hc]
   exact times_mono hgh n c b e
theorem whole_mono:∀ d l r,wholeF d l=some r→wholeF (d+1) l=some r
 |0,l,r,h=>by cases h
 |d+1,[],r,h=>by cases h
 |d+1,p::t,r,h=>by
  rw[wholeF] at h ⊢
  split at h
  ·next hs=>rw[if_pos hs];exact times_mono (whole_mono d) _ _ _ h
  ·cases h
theorem whole_more {d e:Nat} (hde:d≤e) {l r:List FilE} (h:wholeF d l=some r):wholeF e l=some r:=by
 induction e with
 |zero=>
  have:d=0:=by omega
  subst this;exact h
 |succ e ih=>
  by_cases he:d=e+1
  ·subst he;exact h
  ·exact whole_mono e l r (ih (by omega))
theorem times_cut {g:List FilE→Option (List FilE)} (hg:∀ a b,g a=some b→∃ c,a=c++b∧∀ b',g (c++b')=some b'):∀ n a b,times g n a=some b→∃ c,a=c++b∧∀ b',times g n (c++b')=some b'
 |0,a,b,e=>by cases e;exact⟨[],rfl,fun _=>rfl⟩
 |n+1,a,b,e=>by
  rw[times] at e
  cases hc:g a with
  |none=>rw[hc] at e;cases e
  |some x=>
   rw[hc] at e
   obtain⟨c1,e1,h1⟩:=hg a x hc
   obtain⟨c2,e2,h2⟩:=times_cut hg n x b e
   refine⟨c1++c2,by rw[e1,e2,List.append_assoc],fun b'=>?_⟩
   rw[List.append_assoc,times,h1]
   exact h2 b'
theorem whole_cut:∀ d l r,wholeF d l=some r→∃ c,l=c++r∧∀ r',wholeF d (c++r')=some r'
 |0,l,r,h=>by cases h
 |d+1,[],r,h=>by cases h
 |d+1,p::t,r,h=>by
  rw[wholeF] at h
  split at h
  case isFalse=>cases h
  case isTrue hs=>
   obtain⟨c,e,hc⟩:=times_cut (whole_cut d) _ _ _ h
   refine⟨p::c,by rw[e];rfl,fun r'=>?_⟩
   rw[List.cons_append,wholeF,if_pos hs]
   exact hc r'
theorem whole_own {d:Nat} {f:List FilE} (h:wholeF d f=some []) (r:List FilE):wholeF d (f++r)=some r:=by
 obtain⟨c,e,hc⟩:=whole_cut d f [] h
 rw[List.append_nil] at e
 subst e
 exact hc r
def kidsL:Nat→List FilE→List (List FilE)
 |0,_=>[]
 |n+1,l=>l.take (l.length - ((wholeF 20 l).getD []).length)::kidsL n ((wholeF 20 l).getD [])
theorem kids_cons {d n:Nat} {f r:List FilE} (hd:d≤20) (h:wholeF d f=some []):kidsL (n+1) (f++r)=f::kidsL n r:=by
 rw[kidsL,whole_more hd (whole_own h r)]
 simp
def someF (wins:Int):Int→List Int→Int
 |told,[]=>told
 |told,v::l=>if v=wins then wins else if v=2 then someF wins 2 l else someF wins told l
def notV (v:Int):Int:=if v=2 then 2 else 1 - v
def evalF (leaf:FilE→Int):Nat→List FilE→Int
 |0,_=>2
 |_+1,[]=>2
 |d+1,p::t=>if p.op=0 then someF 0 1 ((kidsL p.n.toNat t).map (evalF leaf d)) else if p.op=1 then someF 1 0 ((kidsL p.n.toNat t).map (evalF leaf d)) else if p.op=2 then notV (evalF leaf d t) else leaf p
def evalL (leaf:FilE→Int) (l:List FilE):Int:=if validF l then evalF leaf 20 l else 2
theorem kids_whole {d:Nat} (hd:d≤20):∀ n t r,times (wholeF d) n t=some r→∃ ks:List (List FilE),kidsL n t=ks∧ks.length=n∧∀ k∈ks,wholeF d k=some []
 |0,t,r,h=>⟨[],rfl,rfl,fun k hk=>by cases hk⟩
 |n+1,t,r,h=>by
  rw[times] at h
  cases hb:wholeF d t with
  |none=>rw[hb] at h;cases h
  |some b=>
   rw[hb] at h
   obtain⟨c,e,hc⟩:=whole_cut d t b hb
   have h0:wholeF d c=some []:=by have:=hc [];rwa [List.append_nil] at this
   obtain⟨ks,h1,h2,h3⟩:=kids_whole hd n b r h
   refine⟨c::ks,by rw[e,kids_cons hd h0,h1],by rw[List.length_cons,h2],fun k hk=>?_⟩
   rcases List.mem_cons.1 hk with rfl|hk
   ·exact h0
   ·exact h3 k hk
def Three (v:Int):Prop:=v=0∨v=1∨v=2
theorem some_three {w:Int} (hw:w=0∨w=1):∀ (l:List Int) (t:Int),Three t→Three (someF w t l)
 |[],t,h=>h
 |v::l,t,h=>by
  rw[someF]
  split
  ·rcases hw with rfl|rfl<;>simp [Three]
  ·split
   ·exact some_three hw l 2 (by simp [Three])
   ·exact some_three hw l t h
theorem not_three {v:Int} (h:Three v):Three (notV v):=by
 unfold notV Three at *
 split<;>omega
theorem eval_three (leaf:FilE→Int) (hl:∀ p,Three (leaf p)):∀ d l,Three (evalF leaf d l)
 |0,l=>by simp [evalF,Three]
 |d+1,[]=>by simp [evalF,Three]
 |d+1,p::t=>by
  rw[evalF]
  split
  ·exact some_three (.inl rfl) _ _ (by simp [Three])
  ·split
   ·exact some_three (.inr rfl) _ _ (by simp [Three])
   ·split
    ·exact not_three (eval_three leaf hl d t)
    ·exact hl p
/-! The law FilterLogic. -/
def opE (op:Int) (n:Nat):FilE:=⟨op,n,[],[],[],[],[]⟩
end Go.Proofs.YtbekpphodbekiaaGreatDoor.Fil
namespace Go.Proofs.YtbekpphodbekiaaGreatDoor
open Go.RowKit
def OwnV (B:Nat) (w:World) (v:Value) (vs:List Value):Prop:=w.ownsRow B 23 1 v vs.length vs∧B≤w.heap.size
theorem OwnV.nil {B:Nat} {w:World} (hB:B≤w.heap.size):OwnV B w (.slice none 0 0) []:=⟨World.ownsRow_nil _ _ _ _,hB⟩
theorem OwnV.lt {B:Nat} {w:World} {v:Value} {vs:List Value} (h:OwnV B w v vs):∀ k,v.ownBlock=some k→B≤k∧k<w.heap.size:=fun k hk=>h.1.lt k hk
theorem OwnV.keep {B:Nat} {w w':World} {v:Value} {vs:List Value} (h:OwnV B w v vs) {r:Option Nat} (hg:w.grownBy w' r) (hr:∀ k,v.ownBlock=some k→r≠some k):OwnV B w' v vs:=by
 obtain⟨⟨h1,h2⟩,h3⟩:=h
 refine⟨⟨h1,?_⟩,nT h3 hg.size⟩
 rcases h2 with h2|⟨g,cap,cur,rfl,r2,r3,r4⟩
 ·exact .inl h2
 ·exact .inr ⟨g,cap,cur,rfl,r2,(hg.block g (Array.getElem?_eq_some_iff.1 r3).1 (fun e=>hr g rfl e.symm)).trans r3,r4⟩
theorem OwnV.below {B:Nat} {w w':World} {v:Value} {vs:List Value} (h:OwnV B w v vs) (hb:Bel w w'):OwnV B w' v vs:=h.keep (zc_ hb none) (fun k _ he=>by cases he)
theorem OwnV.isSlice {B:Nat} {w:World} {v:Value} {vs:List Value} (h:OwnV B w v vs):∃ A c,v= .slice A vs.length c∧vs.length≤c:=by
 obtain⟨⟨h1,h2⟩,_⟩:=h
 rcases h2 with ⟨rfl,hn⟩|⟨g,cap,cur,rfl,r2,r3,r4,_⟩
 ·exact⟨none,0,by rw[hn],by omega⟩
 ·exact⟨_,cap,rfl,r4⟩
theorem OwnV.at {B:Nat} {w:World} {v:Value} {vs:List Value} (h:OwnV B w v vs):∃ A c,v= .slice A vs.length c∧vs.length≤c∧∀ j (hj:j<vs.length),∃ g,A=some ⟨g,0,none⟩∧w.cell? ⟨g,j,none⟩=some vs[j]:=by
 obtain⟨⟨h1,h2⟩,_⟩:=h
 rcases h2 with ⟨rfl,hn⟩|⟨g,cap,cur,rfl,r2,r3,r4,r5,r6,r7⟩
 ·exact⟨none,0,by rw[hn],by omega,fun j hj=>absurd hj (by omega)⟩
 ·refine⟨_,cap,rfl,r4,fun j hj=>⟨g,rfl,?_⟩⟩
  have:cur.toList[j]?=some vs[j]:=by
   rw[← List.getElem?_eq_getElem hj]
   conv=>rhs;rw[← r7]
   rw[List.getElem?_take,if_pos (by omega)]
  simp only[World.cell?,r3]
  simpa using this
theorem OwnV.bel {B:Nat} {W w w':World} {v:Value} {vs:List Value} (hb:Below B W w) (hO:OwnV B w v vs) (hg:w.grownBy w' v.ownBlock):Below B W w':=hb.grown hg hO.2 (fun k hk=>(hO.lt k hk).1)
theorem infoV:∃ i,Tryz.prog.info? 23=some i∧i.zero=some (.slice none 0 0)∧i.size=1∧i.bytes=24:=by
 obtain⟨i,h1,h2,h3,h4⟩:=info_parts (show (Tryz.prog.info? 23).map (fun i=>(i.zero,i.size,i.bytes))=some (some (.slice none 0 0),1,24) by kernel_rfl)
 exact⟨i,h1,h2,h3,h4⟩
theorem zmu_ {ops:Array Oper} {rest:List Oper} {o:Oper} {a:Act} {Q:Exit→Act→World→Prop} (hgd:o.guard=none) (s x:Operand) (ho:o.op= .call {callee:= .builtin .append,args:=#[s,x],argTypes:=#[58,58]})
  {v u:Value} {vs:List Value} {B N:Nat} {w0:World} (hu:u.oneCell'=true) (hs:a.eval s=v) (hb:OwnV B w0 v vs)
  (hx:a.eval x= .slice (some ⟨N,0,none⟩) 1 1) (hN:N=w0.heap.size) (hlen:vs.length<1000000000)
  (h:∀ v' w',OwnV B w' v' (vs++[u])→w0.grownBy w' v.ownBlock→wpList Tryz.prog ops Q rest (a.put o.dst v') w'):wpList Tryz.prog ops Q (o::rest) a (w0.alloc (.cells #[u] 23)):=by
 subst hN
 obtain⟨i,h1,h2,h3,h4⟩:=infoV
 have hb':=hb.below ((bR _ _).alloc (nR _) (.cells #[u] 23))
 refine wpList_append_own _ hgd s x 58 ho B 23 i (.slice none 0 0) 1 24 Tryz.underlying58 h1 h2 h3 h4 rfl (by decide) v _ _ hs hb'.1 ⟨w0.heap.size,0,none⟩ 1 1 [u] hx rfl ?_ ?_ (by unfold maxLen;omega) (by omega) hb'.2 ?_
 ·intro j x hj
  match j,hj with
  |0,hj=>simp at hj;subst hj;simp [Addr.add]
  |(j+1),hj=>simp at hj
 ·intro x hx;simp at hx;subst hx;exact hu
 ·intro v' w' ho' hg _
  refine h v' w' ⟨?_,nT hb'.2 hg.size⟩ (gT (World.grownBy_alloc _ _ _) hg)
  simpa using ho'
theorem FilsA.take {w:World} {v:Value} {l:List Fil.FilE} (h:FilsA w v l) (hl:l≠[]) (k:Nat) (hk:k≤l.length):∃ A c,v= .slice A l.length c∧(∀ W,(Instr.slice 23 v none (some (.int .i64 (k:Int))) none).run Tryz.prog W= .ok (.slice A k c) W)∧FilsA w (.slice A k c) (l.take k):=by
 obtain⟨qs,hq,⟨A,c,rfl,hc,hx⟩,hok⟩:=h
 have hql:qs.length=l.length:=by rw[← hq,List.length_map]
 have hpos:0<qs.length:=by rw[hql];exact List.length_pos_iff.2 hl
 obtain⟨b,o,rfl,_⟩:=hx 0 hpos
 refine⟨_,c,by rw[hql],fun W=>?_,⟨qs.take k,by rw[← hq,List.map_take],⟨_,c,by rw[List.length_take,hql,Nat.min_eq_left hk],by rw[List.length_take];omega,fun j hj=>?_⟩,fun q hq2=>hok q (List.mem_of_mem_take hq2)⟩⟩
 ·have h1:∀ w,(Instr.sliceBounds true qs.length c none (some (.int .i64 (k:Int))) none).run Tryz.prog w= .ok (0,k,c) w:=fun w=>by
   simp [Instr.sliceBounds,run_sliceBound,show k≤c by omega]
  unfold Instr.slice
  simp only[Sem.run_bind,run_underlying Tryz.underlying23,Result.andThen_ok,h1,zdn_,Sem.run_pure]
  simp [Addr.add]
 ·rw[List.length_take] at hj
  obtain⟨b',o',he,hk'⟩:=hx j (by omega)
  refine⟨b',o',he,fun i u hu=>hk' i u ?_⟩
  rw[List.getElem_take] at hu
  exact hu
inductive Fa2 {α β:Type} (R:α→β→Prop):List α→List β→Prop
 |nil:Fa2 R [] []
 |cons {a:α} {b:β} {l:List α} {m:List β}:R a b→Fa2 R l m→Fa2 R (a::l) (b::m)
def zpm_ (w0 w:World) (ks:List (List Fil.FilE)) (e:Ending) (w':World):Prop:=Bel w w'∧∃ v vs,e= .returned v∧OwnV w.heap.size w' v vs∧Fa2 (FilsA w0) vs ks
theorem zdp_ {α β:Type} {R:α→β→Prop}:∀ {l:List α} {m:List β} {a:α} {b:β},Fa2 R l m→R a b→Fa2 R (l++[a]) (m++[b])
 |[],[],_,_,_,h=> .cons h .nil
 |_::_,_::_,_,_,.cons h1 h2,h=> .cons h1 (zdp_ h2 h)
theorem zcm_ {α β:Type} {R:α→β→Prop}:∀ {l:List α} {m:List β},Fa2 R l m→l.length=m.length
 |[],[],_=>rfl
 |_::_,_::_,.cons _ h=>by rw[List.length_cons,List.length_cons,zcm_ h]
theorem zie_ {α β:Type} {R:α→β→Prop}:∀ {l:List α} {m:List β},Fa2 R l m→∀ j (h1:j<l.length) (h2:j<m.length),R l[j] m[j]
 |[],[],_,j,h1,_=>absurd h1 (by simp)
 |_::_,_::_,.cons h _,0,_,_=>h
 |_::_,_::_,.cons _ h,j+1,h1,h2=>zie_ h j (by simpa using h1) (by simpa using h2)
theorem zol_ (w0:World) (hw:Env w0) (p:Fil.FilE) (t r:List Fil.FilE) (v:Value) (w:World) (hv:FilsA w0 v (p::t)) (hb:Bel w0 w) (d:Nat) (hd:d≤20) (hn0:0≤p.n) (hwh:Fil.times (Fil.wholeF d) p.n.toNat t=some r) (hl:LimF (p::t)) (hfit:z61_ (p::t)):
  Calls Tryz.prog 86 #[v] w (zpm_ w0 w (Fil.kidsL p.n.toNat t)):=by
 obtain⟨b,o,c,va,vt,rfl,hc,⟨c0,c1,c2,c3,c4,c5,c6⟩,hta,hsl,ht⟩:=hv.tail
 have hlt:=hl.tail
 have htn:=hlt.1
 have d1:=cQ hb c1
 obtain⟨n,hn⟩:∃ n:Nat,p.n=n:=⟨p.n.toNat,by omega⟩
 rw[hn] at d1 hwh ⊢
 rw[Int.toNat_natCast] at hwh ⊢
 have hnt:n≤t.length:=by have:=(Fil.times_suf (Fil.whole_suf d) _ _ _ hwh).1;omega
 have hft:z61_ t:=fun q hq=>hfit q (List.mem_cons_of_mem _ hq)
 have HW:=hiD (fun (l:List Fil.FilE) (u:Value) (W:World) (h:FilsA w0 u l) (hB:Bel w0 W) (hwg:LimF l) (hN:z61_ l)=>z86_ w0 hw 20 (nR _) l u W h hB hwg hN)
 obtain⟨KL,hKL⟩:∃ KL,Fil.kidsL n t=KL:=⟨_,rfl⟩
 rw[hKL]
 have HKL:=hiD hKL
 have HT:=hiD ht
 have HWH:=hiD hwh
 have HLT:=hiD hlt
 obtain⟨At,ct,rfl,hct⟩:=ht.isSlice
 have hi1:(0:Int)<(t.length:Int)+1:=by omega
 clear c0 c1 c2 c3 c4 c5 c6 hta hv ht hKL hwh hn hn0 hfit hl hlt
 go_enter Tryz.func86,Tryz.ntmps86
 go_wp2_with fail
 go_quiet (fail)
 go_wp2_with fail
 go_loopg [0,3,14] n (fun gk vf vo ix wr=>∃ (j:Nat) (lj:List Fil.FilE) (vs:List Value) (done:List (List Fil.FilE)),ix= .int .i64 (j:Int)∧Aside (j+gk=n)∧Aside (FilsA w0 vf lj)∧Aside (Fil.times (Fil.wholeF d) gk lj=some r)∧Aside (done++Fil.kidsL gk lj=KL)∧Aside (done.length=j)∧Aside (OwnV w.heap.size wr vo vs)∧Aside (Fa2 (FilsA w0) vs done)∧Aside (LimF lj)∧Aside (z61_ lj)∧Aside (Bel w wr))
 case atStart=>exact⟨0,t,[],[],rfl,by show _=_;omega,HT.out,HWH.out,HKL.out,rfl,OwnV.nil (nR _),.nil,HLT.out,hft,(by exact zr_ (bR _ _) _)⟩
 case round=>
  clear HKL HT HWH
  obtain⟨j,lj,vs,done,rfl,AG,AF,AT,AK,AD,AO,A2,AW,AN,AB⟩:=hrel
  obtain⟨Aj,cj,rfl,hcj⟩:=AF.out.isSlice
  obtain⟨Ao,co,rfl,hco⟩:=AO.out.isSlice
  cases gk with
  |zero=>
   have hj:j=n:=AG.out
   subst hj
   have hK:done=KL:=by have:=AK.out;simpa [Fil.kidsL] using this
   subst hK
   go_wp2_with fail
   go_ret
   exact⟨AB.out,_,vs,rfl,AO.out,A2.out⟩
  |succ q=>
   have hji:(j:Int)<(n:Int):=by have:=AG.out;omega
   obtain⟨l2,hl2,ht2⟩:∃ l2,Fil.wholeF d lj=some l2∧Fil.times (Fil.wholeF d) q l2=some r:=by
    have:=AT.out
    rw[show Fil.times (Fil.wholeF d) (q+1) lj=(Fil.wholeF d lj).bind (Fil.times (Fil.wholeF d) q) from rfl] at this
    cases hc:Fil.wholeF d lj with
    |none=>rw[hc] at this;cases this
    |some l2=>rw[hc] at this;exact⟨l2,rfl,this⟩
   have hl20:=Fil.whole_more hd hl2
   have hC:=HW.out lj (.slice Aj lj.length cj) wr AF.out (tQ hb AB.out) AW.out AN.out
   rw[hl20] at hC
   rw[show (20:Int) - ((20:Nat):Int)=0 from rfl] at hC
   have HC:=hiD hC
   obtain⟨hlen2,cc,hcc⟩:=Fil.whole_suf d lj l2 hl2
   have HN2:Hid (z61_ l2):=hiD fun q hq=>AN.out q (by rw[hcc];exact List.mem_append_right _ hq)
   have hne:lj≠[]:=by intro e;rw[e] at hlen2;simp at hlen2
   obtain⟨A3,c3,he3,hsl3,hf3⟩:=AF.out.take hne (lj.length - l2.length) (by omega)
   injection he3 with he3a _ he3b
   subst he3a he3b
   have hK2:(done++[lj.take (lj.length - l2.length)])++Fil.kidsL q l2=KL:=by
    have:=AK.out
    rw[Fil.kidsL,hl20] at this
    rw[List.append_assoc]
    exact this
   have hws:IntKind.i64.wrap ((lj.length:Int) - (l2.length:Int))=((lj.length - l2.length:Nat):Int):=by
    have:=AW.out.1
    rw[IntWalk.i64_in _ (by omega)];omega
   have HK2:=hiD hK2
   have HT2:=hiD ht2
   have HF3:=hiD hf3
   have hvl:vs.length<1000000000:=by have:=zcm_ A2.out;have:=AD.out;omega
   have hq2:((lj.length - l2.length:Nat):Int)=(lj.length:Int) - (l2.length:Int):=by omega
   rw[hq2] at hsl3 hws
   have HW2:Hid (LimF l2):=hiD (LimF.suf (a:=cc) (by rw[← hcc];exact AW.out))
   clear hcc hl2 hl20 ht2 hK2 hf3 hC
   go_wp2_with (first
    |(go_at_call 12;(with_reducible refine HC.out.mono ?_);rintro e w2 ⟨hb2,v2,rfl,hf2⟩;obtain⟨A2',c2',rfl,_⟩:=hf2.isSlice;have HF2:=hiD hf2;have HO2:=hiD (AO.out.below hb2);have HB2:=hiD (tQ AB.out hb2);clear hf2)
    |(at_builtin;refine zmu_ (u:= .slice Aj (lj.length - l2.length) cj) rfl _ _ rfl rfl rfl HO2.out rfl rfl hvl ?_;intro v' w6 hO6 hg6))
   go_roundg q
   case measure=>omega
   case rel=>exact⟨j+1,l2,_,_,by go_num,by have:=AG.out;show _=_;omega,HF2.out,HT2.out,HK2.out,by have:=AD.out;show _=_;rw[List.length_append,List.length_singleton];omega,hO6,zdp_ A2.out HF3.out,HW2.out,HN2.out,HO2.out.bel HB2.out hg6⟩
open Go.RowKit
theorem OwnFl.one {B:Nat} (w:World) (hB:B≤w.heap.size) (q:qd_):OwnFl B (w.alloc (.cells (z5_ q).toArray 45)) (.slice (some ⟨w.heap.size,0,none⟩) 1 1) [q]:=by
 refine⟨⟨by simp [z5_],.inr ⟨w.heap.size,1,_,rfl,hB,heap_alloc_new w _,nR _,by decide,by simp [z5_],?_⟩⟩,by simp;omega⟩
 simp [z5_]
theorem FilsA.parts {w:World} {v:Value} {l:List Fil.FilE} (h:FilsA w v l) (hl:l≠[]):∃ qs b o c,qs.map (·.1)=l∧v= .slice (some ⟨b,o,none⟩) qs.length c∧(∀ j (hj:j<qs.length) k u,(z5_ qs[j])[k]?=some u→w.cell? ⟨b,o+j * 7+k,none⟩=some u)∧(∀ q∈qs,q.2.oneCell'=true)∧FQOk w qs:=by
 obtain⟨qs,hq,⟨A,c,rfl,hc,hx⟩,hok⟩:=h
 have hpos:0<qs.length:=by
  have:qs.length=l.length:=by rw[← hq,List.length_map]
  rw[this];exact List.length_pos_iff.2 hl
 obtain⟨b,o,rfl,_⟩:=hx 0 hpos
 refine⟨qs,b,o,c,hq,rfl,fun j hj k u hu=>?_,fun q hq=>?_,hok⟩
 ·obtain⟨b',o',he,hk⟩:=hx j hj
  cases he
  exact hk k u hu
 ·rcases hok q hq with ⟨_,h⟩|⟨a,c,h,_⟩<;>rw[h]<;>rfl
open Go.RowKit
def PartsA (w:World) (v:Value) (ls:List (List Fil.FilE)):Prop:=∃ vs A c,v= .slice A ls.length c∧(∀ j (_:j<vs.length),∃ g,A=some ⟨g,0,none⟩∧w.cell? ⟨g,j,none⟩=some vs[j])∧Fa2 (FilsA w) vs ls
theorem PartsA.nil (w:World):PartsA w (.slice none 0 0) []:=⟨[],none,0,rfl,fun j hj=>absurd hj (by simp),.nil⟩
theorem zp9_ (w:World) (hw:Env w):Calls Tryz.prog 8 #[] w fun e w'=>∃ s ps,e= .returned (.pointer (some ⟨s,0,none⟩))∧Bel w w'∧SchAt w' s ps baseL:=by
 have HBs:=hiD (fun W=>zo1_ W)
 have HNw:Hid (∀ (va vb:Value) (W:World),Bel w W→Texts W va baseA→Texts W vb baseC→Calls Tryz.prog 16 #[va,vb] W fun e w'=>Bel W w'∧∃ s ps,e= .returned (.tuple #[.pointer (some ⟨s,0,none⟩),.int .i64 0,.int .i64 0])∧SchAt w' s ps baseL):=hiD fun va vb W h h1 h2=>by
  have:=New_c va vb baseA baseC W (hw.keep h) h1 h2 (by rw[zae_,z8p_];omega) (fun x hx=>nT (z1v_ x hx) (by decide))
  rw[z7d_] at this
  exact this
 go_enter Tryz.func8,Tryz.ntmps8
 go_wp2_with (first
  |(go_at_call 15;(refine(HBs.out _).mono ?_);rintro e w3 ⟨rfl,hb3,hA1,hC1⟩)
  |(go_at_call 16;(refine(HNw.out _ _ _ hb3 hA1.texts hC1.texts).mono ?_);rintro e w4 ⟨hb4,s,ps,rfl,hS⟩;have HB4:=hiD (tQ hb3 hb4);have HS4:=hiD hS;clear hS hb4))
 go_ret
 exact⟨s,ps,rfl,HB4.out,HS4.out⟩
open Go.RowKit
theorem zj1_ (w0:World) (hw:Env w0) (p:Fil.FilE) (t r:List Fil.FilE) (v:Value) (w:World) (hv:FilsA w0 v (p::t)) (hb:Bel w0 w) (d:Nat) (hd:d≤20) (hn0:0≤p.n) (hwh:Fil.times (Fil.wholeF d) p.n.toNat t=some r) (hl:LimF (p::t)) (hfit:z61_ (p::t)) (wk:Value) (ev:List Fil.FilE→Int) (wins:Int) (hwins:wins=0∨wins=1)
  (hE:∀ k∈Fil.kidsL p.n.toNat t,∀ (u:Value) (W:World),FilsA w0 u k→Bel w0 W→Calls Tryz.prog 20 #[wk,u] W fun e w'=>e= .returned (.int .i64 (ev k))∧Bel W w'):
  Calls Tryz.prog 42 #[v,.func (.func 20) #[wk] #[],.int .i64 wins] w fun e w'=>e= .returned (.int .i64 (Fil.someF wins (1 - wins) ((Fil.kidsL p.n.toNat t).map ev)))∧Bel w w':=by
 have hK:=zol_ w0 hw p t r v w hv hb d hd hn0 hwh hl hfit
 have hkl:(Fil.kidsL p.n.toNat t).length≤100000000:=by
  obtain⟨ks,h1,h2,_⟩:=Fil.kids_whole hd p.n.toNat t r hwh
  have h3:=(Fil.times_suf (Fil.whole_suf d) _ _ _ hwh).1
  have h4:=hl.tail.1
  rw[h1,h2]
  omega
 obtain⟨A,c,rfl,hc⟩:=hv.isSlice
 generalize Fil.kidsL p.n.toNat t=ks at *
 obtain⟨R,hR⟩:∃ R,Fil.someF wins (1 - wins) (ks.map ev)=R:=⟨_,rfl⟩
 rw[hR]
 have HR:=hiD hR
 have HK:=hiD hK
 have HE:=hiD hE
 clear hK hE hR hwh hfit hv hn0
 generalize (p::t).length=m at *
 have hw1:IntKind.i64.wrap (1 - wins)=1 - wins:=IntWalk.i64_in _ (by omega)
 go_enter Tryz.func42,Tryz.ntmps42
 go_wp2_with (go_at_call 86;(with_reducible refine HK.out.mono ?_);rintro e w1 ⟨hb1,v1,vs,rfl,hO1,h2⟩;have hvl:=zcm_ h2;obtain⟨A1,c1,rfl,hc1,hat⟩:=hO1.at;have HAT:=hiD hat;have H2:=hiD h2;clear hat h2)
 go_loopg [7,16] ks.length (fun gk told ix wr=>∃ (j:Nat) (x:Int),j≤ks.length∧ix= .int .i64 (j:Int)∧told= .int .i64 x∧Aside (j+gk=ks.length)∧Aside (Fil.someF wins x ((ks.drop j).map ev)=R)∧Aside (Bel w1 wr))
 case atStart=>exact⟨0,1 - wins,by omega,rfl,by first|rfl|(congr 1),by show _=_;omega,HR.out,bR _ _⟩
 case round=>
  clear HR
  obtain⟨j,x,hj,rfl,rfl,AG,AS,AB⟩:=hrel
  by_cases hlt:j<ks.length
  ·have hji:(j:Int)<(vs.length:Int):=by omega
   obtain⟨q,rfl⟩:∃ q,gk=q+1:=⟨gk - 1,by have:=AG.out;omega⟩
   obtain⟨g,rfl,y1⟩:=HAT.out j (by omega)
   have hf:=zie_ H2.out j (by omega) hlt
   obtain⟨Ak,ck,hk,_⟩:=hf.isSlice
   have y2:=cQ AB.out y1
   have hB0:Bel w0 wr:=(tQ hb hb1).trans (AB.out.mono (nT hb.size hb1.size))
   have hC:=HE.out ks[j] (List.getElem_mem hlt) vs[j] wr hf hB0
   have hS:R=if ev ks[j]=wins then wins else if ev ks[j]=2 then Fil.someF wins 2 ((ks.drop (j+1)).map ev) else Fil.someF wins x ((ks.drop (j+1)).map ev):=by
    rw[← AS.out,List.drop_eq_getElem_cons hlt,List.map_cons,Fil.someF]
   rw[hk] at hC y2
   generalize ks[j].length=lk at *
   generalize ev ks[j]=z at *
   have HC:=hiD hC
   clear hC hf hk y1 AS
   by_cases hz:z=wins
   ·subst hz
    rw[if_pos rfl] at hS
    subst hS
    go_wp2_with (go_at_call 20;(with_reducible refine HC.out.mono ?_);rintro e w2 ⟨rfl,hb2⟩)
    go_ret
    exact⟨rfl,(tQ hb1 AB.out).trans (hb2.mono (nT hb1.size AB.out.size))⟩
   ·have hzb:(z==wins)=false:=beq_eq_false_iff_ne.2 hz
    rw[if_neg hz] at hS
    by_cases h2:z=2
    ·subst h2
     rw[if_pos rfl] at hS
     have HS:=hiD hS
     clear hS
     go_wp2_with (go_at_call 20;(with_reducible refine HC.out.mono ?_);rintro e w2 ⟨rfl,hb2⟩)
     go_roundg q
     case measure=>omega
     case rel=>exact⟨j+1,2,by omega,by go_num,rfl,by have:=AG.out;show _=_;omega,HS.out.symm,tQ AB.out hb2⟩
    ·have h2b:(z==2)=false:=beq_eq_false_iff_ne.2 h2
     rw[if_neg h2] at hS
     have HS:=hiD hS
     clear hS
     go_wp2_with (go_at_call 20;(with_reducible refine HC.out.mono ?_);rintro e w2 ⟨rfl,hb2⟩)
     go_roundg q
     case measure=>omega
     case rel=>exact⟨j+1,x,by omega,by go_num,rfl,by have:=AG.out;show _=_;omega,HS.out.symm,tQ AB.out hb2⟩
  ·obtain rfl:j=ks.length:=by omega
   have hS:x=R:=by have:=AS.out;rw[List.drop_length] at this;exact this
   subst hS
   go_wp2_with fail
   go_ret
   exact⟨rfl,tQ hb1 AB.out⟩
open Go.RowKit
open Go.RowKit
theorem zfa_ {w:World} {b o:Nat} {p:Fil.FilE} {va:Value} (h:w.rangeAt b o (z5_ (p,va))):(Instr.loadAt 45 (.pointer (some ⟨b,o,none⟩))).run Tryz.prog w= .ok (x4_ p va) w:=
 run_loadAt_mid w b o 45 (z5_ (p,va)) _ h Tryz.underlying45 rfl (by kernel_rfl)
end Go.Proofs.YtbekpphodbekiaaGreatDoor
