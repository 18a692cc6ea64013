import Derived.Test.YtbekpphodbekiaaGreatDoorV0t
set_option linter.all false
set_option maxHeartbeats 8000000
set_option maxRecDepth 100000
namespace Go.Proofs.YtbekpphodbekiaaGreatDoor
open Go.RowKit
abbrev qd_:=Fil.FilE × Value
def z5_ (q:qd_):List Value:=[.int .i64 q.1.op,.int .i64 q.1.n,.string ⟨q.1.typ.toArray⟩,.string ⟨q.1.val.toArray⟩,.string ⟨q.1.ini.toArray⟩,.string ⟨q.1.fin.toArray⟩,q.2]
theorem ju_ (q:qd_):(z5_ q).length=7:=rfl
def FQOk (w:World) (qs:List qd_):Prop:=∀ q∈qs,TextsA w q.2 q.1.any
theorem FQOk.below {w w':World} {qs:List qd_} (h:FQOk w qs) (hb:Bel w w'):FQOk w' qs:=fun q hq=>(h q hq).below hb
def FilsQ (w:World) (v:Value) (qs:List qd_):Prop:=∃ A c,v= .slice A qs.length c∧qs.length≤c∧∀ j (hj:j<qs.length),∃ b o,A=some ⟨b,o,none⟩∧∀ k u,(z5_ qs[j])[k]?=some u→w.cell? ⟨b,o+j * 7+k,none⟩=some u
def FilsA (w:World) (v:Value) (l:List Fil.FilE):Prop:=∃ qs,qs.map (·.1)=l∧FilsQ w v qs∧FQOk w qs
theorem FilsQ.below {w w':World} {v:Value} {qs:List qd_} (h:FilsQ w v qs) (hb:Bel w w'):FilsQ w' v qs:=by
 obtain⟨A,c,rfl,hc,hx⟩:=h
 refine⟨A,c,rfl,hc,fun j hj=>?_⟩
 obtain⟨b,o,hA,hk⟩:=hx j hj
 exact⟨b,o,hA,fun k u hu=>(hb.cell (z9_ (hk k u hu))).trans (hk k u hu)⟩
theorem FilsA.below {w w':World} {v:Value} {l:List Fil.FilE} (h:FilsA w v l) (hb:Bel w w'):FilsA w' v l:=by
 obtain⟨qs,h1,h2,h3⟩:=h
 exact⟨qs,h1,h2.below hb,h3.below hb⟩
theorem FilsA.isSlice {w:World} {v:Value} {l:List Fil.FilE} (h:FilsA w v l):∃ A c,v= .slice A l.length c∧l.length≤c:=by
 obtain⟨qs,rfl,⟨A,c,h1,h2,_⟩,_⟩:=h
 rw[List.length_map]
 exact⟨A,c,h1,h2⟩
theorem FilsA.at {w:World} {v:Value} {l:List Fil.FilE} (h:FilsA w v l):∃ A c,v= .slice A l.length c∧l.length≤c∧∀ j (hj:j<l.length),∃ b o va,A=some ⟨b,o,none⟩∧w.cell? ⟨b,o+j * 7,none⟩=some (.int .i64 l[j].op)∧w.cell? ⟨b,o+j * 7+1,none⟩=some (.int .i64 l[j].n)∧w.cell? ⟨b,o+j * 7+2,none⟩=some (.string ⟨l[j].typ.toArray⟩)∧w.cell? ⟨b,o+j * 7+3,none⟩=some (.string ⟨l[j].val.toArray⟩)∧w.cell? ⟨b,o+j * 7+4,none⟩=some (.string ⟨l[j].ini.toArray⟩)∧w.cell? ⟨b,o+j * 7+5,none⟩=some (.string ⟨l[j].fin.toArray⟩)∧w.cell? ⟨b,o+j * 7+6,none⟩=some va∧TextsA w va l[j].any:=by
 obtain⟨qs,rfl,⟨A,c,h1,h2,hx⟩,hq⟩:=h
 refine⟨A,c,by rw[List.length_map];exact h1,by rw[List.length_map];exact h2,fun j hj=>?_⟩
 have hj':j<qs.length:=by simpa using hj
 obtain⟨b,o,hA,hk⟩:=hx j hj'
 simp only[List.getElem_map]
 exact⟨b,o,qs[j].2,hA,hk 0 _ rfl,hk 1 _ rfl,hk 2 _ rfl,hk 3 _ rfl,hk 4 _ rfl,hk 5 _ rfl,hk 6 _ rfl,hq _ (List.getElem_mem hj')⟩
def OwnFl (B:Nat) (w:World) (v:Value) (qs:List qd_):Prop:=w.ownsRow B 45 7 v qs.length (qs.flatMap z5_)∧B≤w.heap.size
theorem OwnFl.nil {B:Nat} {w:World} (hB:B≤w.heap.size):OwnFl B w (.slice none 0 0) []:=⟨World.ownsRow_nil _ _ _ _,hB⟩
theorem OwnFl.lt {B:Nat} {w:World} {v:Value} {qs:List qd_} (h:OwnFl B w v qs):∀ k,v.ownBlock=some k→B≤k∧k<w.heap.size:=fun k hk=>h.1.lt k hk
theorem OwnFl.keep2 {B:Nat} {w w':World} {v:Value} {qs:List qd_} (h:OwnFl B w v qs) {r:Option Nat} (hg:w.grownBy w' r) (hr:∀ k,v.ownBlock=some k→r≠some k):OwnFl B w' v qs:=by
 obtain⟨⟨h1,h2⟩,h3⟩:=h
 refine⟨⟨h1,?_⟩,nT h3 hg.size⟩
 rcases h2 with h2|⟨g,cap,cur,rfl,r2,r3,r4⟩
 ·exact .inl h2
 ·exact .inr ⟨g,cap,cur,rfl,r2,(hg.block g (Array.getElem?_eq_some_iff.1 r3).1 (fun e=>hr g rfl e.symm)).trans r3,r4⟩
theorem OwnFl.below {B:Nat} {w w':World} {v:Value} {qs:List qd_} (h:OwnFl B w v qs) (hb:Bel w w'):OwnFl B w' v qs:=h.keep2 (zc_ hb none) (fun k _ he=>by cases he)
theorem OwnFl.bel {B:Nat} {W w w':World} {v:Value} {qs:List qd_} (hb:Below B W w) (hO:OwnFl B w v qs) (hg:w.grownBy w' v.ownBlock):Below B W w':=hb.grown hg hO.2 (fun k hk=>(hO.lt k hk).1)
theorem OwnFl.isSlice {B:Nat} {w:World} {v:Value} {qs:List qd_} (h:OwnFl B w v qs):∃ A c,v= .slice A qs.length c∧qs.length≤c:=by
 obtain⟨⟨h1,h2⟩,_⟩:=h
 rcases h2 with ⟨rfl,hn⟩|⟨g,cap,cur,rfl,r2,r3,r4,_⟩
 ·exact⟨none,0,by rw[hn],by omega⟩
 ·exact⟨_,cap,rfl,r4⟩
theorem zcu_:∀ (l:List qd_) (j:Nat) (hj:j<l.length) (k:Nat),k<7→(l.flatMap z5_)[j * 7+k]?=(z5_ l[j])[k]?
 |[],j,hj,_,_=>absurd hj (by simp)
 |g::l,0,_,k,hk=>by
  rw[List.flatMap_cons,Nat.zero_mul,Nat.zero_add,List.getElem?_append_left (by rw[ju_];omega)]
  rfl
 |g::l,j+1,hj,k,hk=>by
  have ih:=zcu_ l j (by simpa using hj) k hk
  rw[List.flatMap_cons,List.getElem?_append_right (by rw[ju_];omega)]
  simp only[List.getElem_cons_succ]
  rw[← ih]
  congr 1
  rw[ju_];omega
theorem OwnFl.reads {B:Nat} {w:World} {v:Value} {qs:List qd_} (h:OwnFl B w v qs):FilsQ w v qs:=by
 obtain⟨⟨h1,h2⟩,_⟩:=h
 rcases h2 with ⟨rfl,hn⟩|⟨g,cap,cur,rfl,r2,r3,r4,r5,r6,r7⟩
 ·have:qs=[]:=List.eq_nil_of_length_eq_zero hn
  subst this
  exact⟨none,0,rfl,nR _,fun j hj=>absurd hj (by simp)⟩
 ·refine⟨_,cap,rfl,r4,fun j hj=>⟨g,0,rfl,fun k u hu=>?_⟩⟩
  have hk:k<7:=by have:=(List.getElem?_eq_some_iff.1 hu).1;rwa [ju_] at this
  have hf:=zcu_ qs j hj k hk
  rw[hu,← r7,List.getElem?_take,if_pos (by omega)] at hf
  simp only[World.cell?,r3,Nat.zero_add]
  simpa using hf
theorem zo5_:∃ i,Tryz.prog.info? 45=some i∧i.zero=some (.agg #[.int .i64 0,.int .i64 0,.string ⟨#[]⟩,.string ⟨#[]⟩,.string ⟨#[]⟩,.string ⟨#[]⟩,.slice none 0 0])∧i.size=7∧i.bytes=104:=by
 obtain⟨i,h1,h2,h3,h4⟩:=info_parts (show (Tryz.prog.info? 45).map (fun i=>(i.zero,i.size,i.bytes))=some (some (.agg #[.int .i64 0,.int .i64 0,.string ⟨#[]⟩,.string ⟨#[]⟩,.string ⟨#[]⟩,.string ⟨#[]⟩,.slice none 0 0]),7,104) by kernel_rfl)
 exact⟨i,h1,h2,h3,h4⟩
theorem zqf_ {ops:Array Oper} {rest:List Oper} {o:Oper} {a:Act} {Q:Exit→Act→World→Prop} (hgd:o.guard=none) (s x:Operand) (ho:o.op= .call {callee:= .builtin .append,args:=#[s,x],argTypes:=#[23,23]})
  {v va:Value} {qs:List qd_} {B N:Nat} {w0:World} {p:Fil.FilE} (hva:va.oneCell'=true) (hs:a.eval s=v) (hb:OwnFl B w0 v qs)
  (hx:a.eval x= .slice (some ⟨N,0,none⟩) 1 1) (hN:N=w0.heap.size) (hlen:qs.length<1000000)
  (h:∀ v' w',OwnFl B w' v' (qs++[(p,va)])→w0.grownBy w' v.ownBlock→wpList Tryz.prog ops Q rest (a.put o.dst v') w'):wpList Tryz.prog ops Q (o::rest) a (w0.alloc (.cells #[.int .i64 p.op,.int .i64 p.n,.string ⟨p.typ.toArray⟩,.string ⟨p.val.toArray⟩,.string ⟨p.ini.toArray⟩,.string ⟨p.fin.toArray⟩,va] 45)):=by
 subst hN
 obtain⟨i,h1,h2,h3,h4⟩:=zo5_
 have hb':=hb.keep2 (World.grownBy_alloc w0 (.cells #[.int .i64 p.op,.int .i64 p.n,.string ⟨p.typ.toArray⟩,.string ⟨p.val.toArray⟩,.string ⟨p.ini.toArray⟩,.string ⟨p.fin.toArray⟩,va] 45) none) (fun k _ he=>by cases he)
 refine wpList_append_own _ hgd s x 23 ho B 45 i _ 7 104 Tryz.underlying23 h1 h2 h3 h4 rfl (by decide) v _ _ hs hb'.1 ⟨w0.heap.size,0,none⟩ 1 1 (z5_ (p,va)) hx rfl ?_ ?_ (by unfold maxLen;omega) (by omega) hb'.2 ?_
 ·intro j u hj
  match j,hj with
  |0,hj=>simp [z5_] at hj;subst hj;simp [Addr.add]
  |1,hj=>simp [z5_] at hj;subst hj;simp [Addr.add]
  |2,hj=>simp [z5_] at hj;subst hj;simp [Addr.add]
  |3,hj=>simp [z5_] at hj;subst hj;simp [Addr.add]
  |4,hj=>simp [z5_] at hj;subst hj;simp [Addr.add]
  |5,hj=>simp [z5_] at hj;subst hj;simp [Addr.add]
  |6,hj=>simp [z5_] at hj;subst hj;simp [Addr.add]
  |(j+7),hj=>simp [z5_] at hj
 ·intro u hu;simp [z5_] at hu;rcases hu with rfl|rfl|rfl|rfl|rfl|rfl|rfl<;>first|rfl|exact hva
 ·intro v' w' ho' hg _
  refine h v' w' ⟨?_,nT hb'.2 hg.size⟩ (gT (World.grownBy_alloc _ _ _) hg)
  simpa using ho'
open Go.ChangeShapes Go.WideShapes Go.ChangeAt Go.RowKit Go.Lib Go.Shelf Go.Deep Go.Joins
section
variable {H:Type} {enc:TypeId × Value→H} {W:World} {base:Nat} {fuel:Nat} {cs:List Value} {x:DataW H × List MemPlace}
def z09_ (a:Fil.FilE):Nat:=1+a.typ.length+a.val.length+a.ini.length+a.fin.length+(a.any.length+(a.any.map List.length).sum)
def z61_ (l:List Fil.FilE):Prop:=∀ p∈l,p.n≤9223372036854775807
instance:Inhabited qd_:=⟨(⟨0,0,[],[],[],[],[]⟩,.bool false)⟩
end
open Go.RowKit
theorem Own.keep2 {B:Nat} {w w':World} {v:Value} {xs:LL} (h:Own B w v xs) {r:Option Nat} (hg:w.grownBy w' r) (hr:∀ k,v.ownBlock=some k→r≠some k):Own B w' v xs:=by
 refine⟨h.1.kept hg ?_,nT h.2 hg.size⟩
 rcases hv:v.ownBlock with _|g
 ·exact .inl rfl
 ·refine .inr ?_
  intro he
  exact hr g hv he.symm
def seenP (ps l:List Nat):List (Nat × Value):=l.map fun i=>(pAt ps i,Value.agg #[])
def SeenP (w:World) (m:Nat) (ps l:List Nat):Prop:=∃ es c,w.heap[m]?=some (.map es c)∧MapR z8_ es (seenP ps l)
theorem SeenP.lt {w:World} {m:Nat} {ps l:List Nat} (h:SeenP w m ps l):m<w.heap.size:=by
 obtain⟨es,c,h1,_⟩:=h
 exact(Array.getElem?_eq_some_iff.1 h1).1
theorem SeenP.keep {w w':World} {m:Nat} {ps l:List Nat} (h:SeenP w m ps l) (he:w'.heap[m]?=w.heap[m]?):SeenP w' m ps l:=by
 obtain⟨es,c,h1,h2⟩:=h
 exact⟨es,c,he.trans h1,h2⟩
theorem SeenP.below {w w':World} {m:Nat} {ps l:List Nat} (h:SeenP w m ps l) (hb:Bel w w'):SeenP w' m ps l:=h.keep (hb.block m h.lt)
theorem SeenP.made (w:World) (ps:List Nat):SeenP (w.alloc (.map #[] 0)) w.heap.size ps []:=⟨_,_,heap_alloc_new w _,rfl⟩
section
variable {P:Program} {κ:Type} [DecidableEq κ]
end
structure NmOK (L:List DefS) (l:LL):Prop where
 nodup:l.Nodup
 of:∀ x∈l,x∈L.map DefS.name
theorem NmOK.nil (L:List DefS):NmOK L []:=⟨by simp,fun x hx=>by simp at hx⟩
theorem zdd_ {α:Type} [DecidableEq α]:∀ (l M:List α),l.Nodup→(∀ x∈l,x∈M)→l.length≤M.length
 |[],M,_,_=>Nat.zero_le _
 |x::t,M,hn,h=>by
  rw[List.nodup_cons] at hn
  have hx:=h x (by simp)
  have h1:=zdd_ t (M.erase x) hn.2 (fun y hy=>(List.mem_erase_of_ne (by rintro rfl;exact hn.1 hy)).2 (h y (by simp [hy])))
  have h2:=List.length_erase_of_mem hx
  have h3:0<M.length:=List.length_pos_of_mem hx
  simp only[List.length_cons]
  omega
theorem NmOK.len {L:List DefS} {l:LL} (h:NmOK L l):l.length≤L.length:=by
 have:=zdd_ l (L.map DefS.name) h.nodup h.of
 simpa using this
theorem NmOK.add {L:List DefS} {l:LL} (h:NmOK L l) {e:DefS} (he:e∈L) (hc:l.contains e.name=false):NmOK L (l++[e.name]):=by
 refine⟨?_,?_⟩
 ·rw[List.nodup_append]
  refine⟨h.nodup,by simp,fun a ha b hb=>?_⟩
  have hb':b=e.name:=by simpa using hb
  subst hb'
  rintro rfl
  rw[List.contains_iff_mem.2 ha] at hc
  cases hc
 ·intro x hx
  rcases List.mem_append.1 hx with hx|hx
  ·exact h.of x hx
  ·rw[List.mem_singleton.1 hx]
   exact List.mem_map_of_mem he
theorem zgb_ {L:List DefS} (hlim:∀ d∈L,DefLim d) {d:DefS} (hd:d∈L):d.name.length≤1000000:=by
 have h:=hlim d hd
 unfold DefS.name
 cases hn:d.names with
 |nil=>exact h.oid
 |cons x t=>exact h.names.2 x (by rw[hn];simp)
open Go.RowKit
theorem ze_ (w:World) (o:Obj):Bel w (w.alloc o):=(bR _ _).alloc (nR _) _
def TxT (w:World) (v:Value) (xs:LL):Prop:=TextsA w v xs∧∀ k,v.ownBlock=some k→∃ cs,Bk w k 9 cs
theorem TxT.nil (w:World):TxT w (.slice none 0 0) []:=⟨.inl ⟨rfl,rfl⟩,fun k hk=>by cases hk⟩
theorem TxT.keep {w w':World} {v:Value} {xs:LL} {r:Option Nat} (h:TxT w v xs) (hg:w.grownBy w' r) (hr:∀ k,v.ownBlock=some k→r≠some k):TxT w' v xs:=by
 obtain⟨h1,h2⟩:=h
 refine⟨?_,fun k hk=>?_⟩
 ·rcases h1 with ⟨rfl,rfl⟩|⟨a,c,rfl,hc,hx⟩
  ·exact .inl ⟨rfl,rfl⟩
  ·refine .inr ⟨a,c,rfl,hc,fun j hj=>?_⟩
   have h0:=hx j hj
   have hb:(a.add j).block=a.block:=by unfold Addr.add;split<;>rfl
   rw[World.cell?_of_block (w:=w) (w':=w') (a:=a.add j) (hg.block _ (z9_ h0) (by rw[hb];exact fun e=>hr a.block rfl e.symm))]
   exact h0
 ·obtain⟨cs,hb⟩:=h2 k hk
  exact⟨cs,hb.grown hg (fun e=>hr k hk e.symm)⟩
theorem TxT.below {w w':World} {v:Value} {xs:LL} (h:TxT w v xs) (hb:Bel w w'):TxT w' v xs:=h.keep (zc_ hb none) (fun k _ he=>by cases he)
theorem TxT.far {w w':World} {v:Value} {xs:LL} {g:Nat} {t:TypeId} {cs:Array Value} (h:TxT w v xs) (hk:Bk w g t cs) (ht:t≠9) (hg:w.grownBy w' (some g)):TxT w' v xs:=h.keep hg (fun k hv e=>by
 obtain⟨cs',hb⟩:=h.2 k hv
 cases e
 exact z4w_ hk hb ht rfl)
def FQT (w:World) (qs:List qd_):Prop:=∀ q∈qs,TxT w q.2 q.1.any
theorem FQT.nil (w:World):FQT w []:=fun q hq=>by cases hq
theorem FQT.ok {w:World} {qs:List qd_} (h:FQT w qs):FQOk w qs:=fun q hq=>(h q hq).1
theorem FQT.below {w w':World} {qs:List qd_} (h:FQT w qs) (hb:Bel w w'):FQT w' qs:=fun q hq=>(h q hq).below hb
theorem FQT.far {w w':World} {qs:List qd_} {g:Nat} {t:TypeId} {cs:Array Value} (h:FQT w qs) (hk:Bk w g t cs) (ht:t≠9) (hg:w.grownBy w' (some g)):FQT w' qs:=fun q hq=>(h q hq).far hk ht hg
theorem OwnFl.ty {B:Nat} {w:World} {v:Value} {qs:List qd_} (h:OwnFl B w v qs) {k:Nat} (hk:v.ownBlock=some k):∃ cs,Bk w k 45 cs:=by
 obtain⟨⟨h1,h2⟩,_⟩:=h
 rcases h2 with ⟨rfl,_⟩|⟨g,cap,cur,rfl,r2,r3,r4⟩
 ·cases hk
 ·cases hk;exact⟨cur,r3⟩
theorem FQT.grown {B:Nat} {w w':World} {v:Value} {qs ys:List qd_} (h:FQT w ys) (hO:OwnFl B w v qs) (hg:w.grownBy w' v.ownBlock):FQT w' ys:=by
 intro q hq
 cases hv:v.ownBlock with
 |none=>rw[hv] at hg;exact(h q hq).keep hg (fun k _ e=>by cases e)
 |some k=>
  obtain⟨cs,hb⟩:=hO.ty hv
  rw[hv] at hg
  exact(h q hq).far hb (by decide) hg
structure RdF (N p:Nat) (w:World) (s:LU) (v:Value) (qs:List qd_):Prop where
 at_:Bk w p 73 #[.string ⟨s.toArray⟩,v]
 own:OwnFl (p+1) w v qs
 any:FQT w qs
 lim:∀ q∈qs,∀ k,q.2.ownBlock=some k→k<N
theorem RdF.lt {N p:Nat} {w:World} {s:LU} {v:Value} {qs:List qd_} (h:RdF N p w s v qs):p<w.heap.size:=h.at_.lt
theorem RdF.fit {N p:Nat} {w:World} {s:LU} {v:Value} {qs:List qd_} (h:RdF N p w s v qs):RdF w.heap.size p w s v qs:=⟨h.at_,h.own,h.any,fun q hq k hk=>by
 obtain⟨cs,hb⟩:=(h.any q hq).2 k hk
 exact hb.lt⟩
theorem RdF.below {N p:Nat} {w w':World} {s:LU} {v:Value} {qs:List qd_} (h:RdF N p w s v qs) (hb:Bel w w'):RdF N p w' s v qs:=⟨h.at_.below hb,h.own.below hb,h.any.below hb,h.lim⟩
theorem RdF.ne {N p:Nat} {w:World} {s:LU} {v:Value} {qs:List qd_} (h:RdF N p w s v qs):∀ k,v.ownBlock=some k→(some p:Option Nat)≠some k:=fun k hk e=>by
 have:=(h.own.lt k hk).1
 cases e
 omega
theorem RdF.cells {N p:Nat} {w:World} {s:LU} {v:Value} {qs:List qd_} (h:RdF N p w s v qs):w.cell? ⟨p,0,none⟩=some (.string ⟨s.toArray⟩)∧w.cell? ⟨p,1,none⟩=some v∧w.frozen? ⟨p,0,none⟩=false∧w.frozen? ⟨p,1,none⟩=false:=⟨h.at_.cell 0,h.at_.cell 1,h.at_.frozen 0,h.at_.frozen 1⟩
theorem z2r_ {w:World} {g g':Nat} {cs cs':Array Value} {t t':TypeId} {fz fz':Nat × Nat} (h:w.heap[g]?=some (.cells cs t fz)) (h':w.heap[g']?=some (.cells cs' t' fz')) (ht:t≠t'):g≠g':=by
 rintro rfl
 rw[h] at h'
 cases h'
 exact ht rfl
theorem RdF.beside {N p:Nat} {w w':World} {s:LU} {v:Value} {qs:List qd_} {r:Option Nat} (h:RdF N p w s v qs) (hg:w.grownBy w' r) (hr:∀ g,r=some g→N≤g∧∃ cs t fz,w.heap[g]?=some (.cells cs t fz)∧t≠45∧t≠73):RdF N p w' s v qs:=by
 refine⟨h.at_.grown hg (fun e=>?_),h.own.keep2 hg (fun k hk e=>?_),fun q hq=>(h.any q hq).keep hg (fun k hk e=>?_),h.lim⟩
 ·obtain⟨_,cs,t,fz,h1,_,h3⟩:=hr p e.symm
  exact z2r_ h1 h.at_ h3 rfl
 ·obtain⟨_,cs,t,fz,h1,h2,_⟩:=hr k e
  obtain⟨cs',hb⟩:=h.own.ty hk
  exact z2r_ h1 hb h2 rfl
 ·have:=(hr k e).1
  have:=h.lim q hq k hk
  omega
theorem RdF.setS {N p:Nat} {w:World} {s:LU} {v:Value} {qs:List qd_} (h:RdF N p w s v qs) (t:LU):RdF N p (w.setCell ⟨p,0,none⟩ (.string ⟨t.toArray⟩)) t v qs∧Below p w (w.setCell ⟨p,0,none⟩ (.string ⟨t.toArray⟩)):=by
 have hg:=z7_ w p 0 (.string ⟨t.toArray⟩)
 refine⟨⟨?_,h.own.keep2 hg h.ne,h.any.far h.at_ (by decide) hg,h.lim⟩,(bR p w).setCell (nR p) _⟩
 have:=h.at_.set 0 (.string ⟨t.toArray⟩)
 simpa using this
theorem RdF.setO {N N' p:Nat} {w w':World} {s:LU} {v v':Value} {qs ys:List qd_} (h:RdF N p w s v qs) (hO:OwnFl (p+1) w' v' ys) (hg:w.grownBy w' v.ownBlock) (hT:FQT w' ys) (hl:∀ q∈ys,∀ k,q.2.ownBlock=some k→k<N'):RdF N' p (w'.setCell ⟨p,1,none⟩ v') s v' ys∧Below p w (w'.setCell ⟨p,1,none⟩ v'):=by
 have hP:Bk w' p 73 #[.string ⟨s.toArray⟩,v]:=h.at_.grown hg (fun e=>h.ne p e.symm rfl)
 have hg2:=z7_ w' p 1 v'
 refine⟨⟨?_,hO.keep2 hg2 (fun k hk e=>?_),hT.far hP (by decide) hg2,hl⟩,?_⟩
 ·have:=hP.set 1 v'
  simpa using this
 ·have:=(hO.lt k hk).1
  cases e
  omega
 ·exact((bR p w).grown hg (Nat.le_of_lt h.lt) (fun k hk=>by have:=(h.own.lt k hk).1;omega)).setCell (nR _) _
open Go.RowKit
theorem z1n_ (s:LU) (k:Nat) (hk:k≤s.length) (W:World):(Instr.slice 9 (.string ⟨s.toArray⟩) (some (.int .i64 (k:Int))) none none).run Tryz.prog W= .ok (.string ⟨(s.drop k).toArray⟩) W:=by
 rw[run_slice_string_from_if W 9 ⟨s.toArray⟩ .i64 (k:Int) Tryz.underlying9,if_pos ⟨by omega,by simp [ByteArray.size];omega⟩,ByteArray.extract_mk]
 congr 3
 rw[Int.toNat_natCast,List.take_of_length_le]
 simp [ByteArray.size]
theorem sl_to (s:LU) (k:Nat) (hk:k≤s.length) (W:World):(Instr.slice 9 (.string ⟨s.toArray⟩) none (some (.int .i64 (k:Int))) none).run Tryz.prog W= .ok (.string ⟨(s.take k).toArray⟩) W:=by
 rw[run_slice_string_to_if W 9 ⟨s.toArray⟩ .i64 (k:Int) Tryz.underlying9,if_pos ⟨by omega,by simp [ByteArray.size];omega⟩,ByteArray.extract_mk]
 simp
def qk_:List PanicEntry:=[{v:= .iface 39 (.int .i64 60),recovered:=false}]
def xn_ (c:UInt8):LU→Option LU
 |[]=>none
 |x::t=>if x=c then some t else none
theorem z5x_ (N p:Nat) (c:UInt8) (s:LU) (v:Value) (qs:List qd_) (w:World) (h:RdF N p w s v qs):
  Calls Tryz.prog 51 #[.pointer (some ⟨p,0,none⟩),.int .u8 c.toNat] w fun e w'=>w.grownBy w' (some p)∧match xn_ c s with
   |some t=>e= .returned (.tuple #[])∧RdF N p w' t v qs
   |none=>e= .panicked qk_:=by
 obtain⟨R,hR⟩:∃ R,xn_ c s=R:=⟨_,rfl⟩
 rw[hR]
 obtain⟨c0,c1,f0,f1⟩:=h.cells
 have HR:=hiD h
 have hget:=qe_
 clear h
 cases s with
 |nil=>
  subst hR
  go_enter Tryz.func51,Tryz.ntmps51
  go_wp2_with fail
  refine⟨rfl,?_⟩
  exact⟨World.grownBy.refl _ _,rfl⟩
 |cons x t=>
  have hsl:∀ W:World,(Instr.slice 9 (.string ⟨(x::t).toArray⟩) (some (.int .i64 1)) none none).run Tryz.prog W= .ok (.string ⟨t.toArray⟩) W:=fun W=>z1n_ (x::t) 1 (by simp) W
  by_cases hx:x=c
  ·subst hx
   have hR2:R=some t:=by rw[← hR];exact if_pos rfl
   subst hR2
   have hs:=HR.out.setS t
   clear hR
   go_enter Tryz.func51,Tryz.ntmps51
   go_wp2_with fail
   go_end0
   exact⟨z7_ _ _ _ _,rfl,hs.1⟩
  ·have hR2:R=none:=by rw[← hR];exact if_neg hx
   subst hR2
   have hxn:((x.toNat:Int) !=(c.toNat:Int))=true:=by
    rw[bne_iff_ne]
    intro e
    exact hx (UInt8.toNat_inj.1 (Int.ofNat.inj e))
   clear hR
   go_enter Tryz.func51,Tryz.ntmps51
   go_wp2_with fail
   refine⟨rfl,?_⟩
   exact⟨World.grownBy.refl _ _,rfl⟩
open Go.RowKit
theorem zqc_ (c:UInt8):decide (Lib.indexByte [61,62,60,126,40,41] c<0)=!Fil.isCut c:=by
 have h:∀ n:Fin 256,decide (Lib.indexByte [61,62,60,126,40,41] (UInt8.ofNat n.val)<0)=!Fil.isCut (UInt8.ofNat n.val):=by decide+kernel
 have:=h ⟨c.toNat,c.toNat_lt⟩
 simpa using this
theorem typ_at {s:LU}:∀ {k:Nat},k≤s.length→(∀ j (_:j<k) (hl:j<s.length),Fil.isCut s[j]=false)→(∀ (hl:k<s.length),Fil.isCut s[k]=true)→Fil.typF s=s.take k:=by
 intro k hk h1 h2
 have e:s=s.take k++s.drop k:=(List.take_append_drop k s).symm
 unfold Fil.typF
 conv=>lhs;rw[e]
 rw[List.takeWhile_append_of_pos (fun c hc=>by
  obtain⟨j,hj,rfl⟩:=List.mem_iff_getElem.1 hc
  rw[List.length_take] at hj
  rw[List.getElem_take,h1 j (by omega) (by omega)]
  rfl)]
 by_cases hl:k<s.length
 ·rw[List.drop_eq_getElem_cons hl,List.takeWhile_cons_of_neg (by rw[h2 hl];simp),List.append_nil]
 ·rw[List.drop_eq_nil_of_le (by omega)]
  simp
theorem fTyp_c (N p:Nat) (s:LU) (v:Value) (qs:List qd_) (w:World) (h:RdF N p w s v qs) (hs:s.length≤1000000):
  Calls Tryz.prog 102 #[.pointer (some ⟨p,0,none⟩)] w fun e w'=>e= .returned (.string ⟨(Fil.typF s).toArray⟩)∧RdF N p w' (s.drop (Fil.typF s).length) v qs∧w.grownBy w' (some p):=by
 obtain⟨R,hR⟩:∃ R,Fil.typF s=R:=⟨_,rfl⟩
 rw[hR]
 have HRR:=hiD hR
 obtain⟨c0,c1,f0,f1⟩:=h.cells
 have HR:=hiD h
 have hget:=qe_
 have HIB:=hiD (fun (x:UInt8) W=>zl_ [61,62,60,126,40,41] x W)
 clear h hR
 go_enter Tryz.func102,Tryz.ntmps102
 go_wp2_with fail
 go_loopg [3] s.length (fun gk i wr=>∃ k:Nat,k≤s.length∧i= .int .i64 (k:Int)∧Aside (k+gk=s.length)∧w=wr∧Aside (∀ j (_:j<k) (hl:j<s.length),Fil.isCut s[j]=false))
 case atStart=>exact⟨0,by omega,rfl,by show _=_;omega,rfl,fun j hj=>by omega⟩
 case round=>
  obtain⟨k,hk,rfl,AG,rfl,AN⟩:=hrel
  have fin:(∀ (hl:k<s.length),Fil.isCut s[k]=true)→R=s.take k:=fun h2=>HRR.out.symm.trans (typ_at hk AN.out h2)
  have HF:=hiD fin
  have hs1:=fun W=>sl_to s k hk W
  have hs2:=fun W=>z1n_ s k hk W
  clear fin
  by_cases hlt:k<s.length
  ·have hkl:(k:Int)<(s.length:Int):=by omega
   have hk0:(0:Int)≤(k:Int):=by omega
   have hci:=zqc_ s[k]
   cases hc:Fil.isCut s[k] with
   |false=>
    rw[hc] at hci
    have hneg:Lib.indexByte [61,62,60,126,40,41] s[k]<0:=of_decide_eq_true hci
    have AN2:Aside (∀ j (_:j<k+1) (hl:j<s.length),Fil.isCut s[j]=false):=by
     intro j hj hl
     by_cases e:j=k
     ·subst e;exact hc
     ·exact AN.out j (by omega) hl
    obtain⟨q,rfl⟩:∃ q,gk=q+1:=⟨gk - 1,by have:=AG.out;omega⟩
    go_wp2_with (go_at_call 52;(with_reducible refine(HIB.out _ _).mono ?_);rintro e w1 ⟨rfl,rfl⟩)
    go_roundg q
    case measure=>omega
    case rel=>exact⟨k+1,by omega,by go_num,by have:=AG.out;show _=_;omega,rfl,AN2.out⟩
   |true=>
    rw[hc] at hci
    have hneg:¬ Lib.indexByte [61,62,60,126,40,41] s[k]<0:=of_decide_eq_false hci
    have hfin:=HF.out (fun _=>hc)
    subst hfin
    go_wp2_with (first
     |(go_at_call 52;(with_reducible refine(HIB.out _ _).mono ?_);rintro e w1 ⟨rfl,rfl⟩)
     |(go_at_call 110;refine(vz_ (s.take k) _ (by rw[List.length_take];omega)).mono ?_;rintro e w3 ⟨rfl,hb3⟩;have hR3:=HR.out.below hb3;obtain⟨d0,d1,g0,g1⟩:=hR3.cells))
    go_ret
    have hz:=hR3.setS (s.drop k)
    refine⟨rfl,?_,gT (zc_ hb3 _) (z7_ _ _ _ _)⟩
    rw[List.length_take,Nat.min_eq_left hk]
    exact hz.1
  ·obtain rfl:k=s.length:=by omega
   have hfin:R=s:=(HF.out (fun hl=>by omega)).trans List.take_length
   subst hfin
   simp only[List.take_length,List.drop_length] at hs1 hs2
   go_wp2_with (go_at_call 110;refine(vz_ _ _ (by omega)).mono ?_;rintro e w3 ⟨rfl,hb3⟩;have hR3:=HR.out.below hb3;obtain⟨d0,d1,g0,g1⟩:=hR3.cells)
   go_ret
   have hz:=hR3.setS []
   refine⟨rfl,?_,gT (zc_ hb3 _) (z7_ _ _ _ _)⟩
   rw[List.drop_length]
   exact hz.1
end Go.Proofs.YtbekpphodbekiaaGreatDoor
