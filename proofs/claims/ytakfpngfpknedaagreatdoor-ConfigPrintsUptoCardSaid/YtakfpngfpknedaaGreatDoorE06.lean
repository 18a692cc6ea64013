import Derived.Test.YtakfpngfpknedaaGreatDoorE05
set_option linter.all false
set_option maxHeartbeats 8000000
set_option maxRecDepth 100000
namespace Go.Proofs.YtakfpngfpknedaaGreatDoor
open Go.RowKit
def zl2_ (w:World) (b:Nat) (s:LU) (o:Option (List (LU × LU) × LU)) (e:Ending) (w':World):Prop:=
 w.grownBy w' (some b)∧match o with
  |none=>e= .panicked vz_
  |some (l,r)=>∃ v,e= .returned v∧Avas w.heap.size w' v l∧RdAt w' b s r
theorem zii_ (b:Nat) (s r:LU) (w:World) (hw:Env w) (hO:Off b) (h:RdAt w b s r) (hs:s.length≤65536):
  Calls Tryz.prog 241 #[.pointer (some ⟨b,0,none⟩)] w (zl2_ w b s (xc_ r)):=by
 have hbw:=h.lt
 have hP:=zio_ b s r w hw hO h hs
 have hrl:r.length≤s.length:=by obtain⟨i,_,hd',_⟩:=h;rw[← hd'];simp
 rcases hp:ya_ r with _|⟨⟨t,u⟩,r1⟩
 ·have hq:xc_ r=none:=by unfold xc_;rw[hp]
  rw[hp] at hP
  have Hq:=hiD hq
  clear hq hp h
  go_enter Tryz.func241,Tryz.ntmps241
  go_wp2_with (go_at_call 271;refine hP.mono ?_;rintro e w1 ⟨h1,rfl⟩)
  refine⟨rfl,?_⟩
  rw[Hq.out]
  exact⟨h1,rfl⟩
 ·have hq:xc_ r=jq_ r1.length r1 [(t,u)]:=by unfold xc_;rw[hp]
  have hr1:=x5_ hp
  rw[hp] at hP
  generalize hV:xc_ r=V
  rw[hq] at hV
  have HV:=hiD hV
  simp only[Option.map_some,zi9_] at hP
  clear hq hp h hV
  go_enter Tryz.func241,Tryz.ntmps241
  go_wp2_with (go_at_call 271;refine hP.mono ?_;rintro e w1 ⟨h1,rfl,r1'⟩)
  have hsz:=h1.size
  clear hP
  go_loopg [3] r1.length (fun gk v wr=>∃ (r':LU) (acc:List (LU × LU)),r'.length≤gk∧acc.length+r'.length≤s.length+1∧RdAt wr b s r'∧Avas w.heap.size wr v acc∧Aside (jq_ r'.length r' acc=V)∧w.grownBy wr (some b))
  case atStart=>
   exact⟨r1,[(t,u)],nR _,by simp;omega,r1'.below ((bR _ _).alloc (nR _) _),Avas.made1 (t,u) hsz,HV.out,gT h1 (World.grownBy_alloc _ _ _)⟩
  case round=>
   obtain⟨r',acc,hlen,hal,hR,hA,AV,hg⟩:=hrel
   have hI:=zar_ b s r' 43 wr hR
   cases h43:hd r' 43
   ·rw[h43] at hI
    have hfin:some (acc,r')=V:=by
     have:=AV.out
     cases hn:r'.length with
     |zero=>rw[hn,jq_,h43] at this;exact this
     |succ n=>rw[hn,jq_,h43] at this;exact this
    have Hf:=hiD hfin
    clear hfin AV h43
    go_wp2_with (go_at_call 242;refine hI.mono ?_;rintro e w2 ⟨rfl,n2,rfl⟩)
    go_ret
    rw[← Hf.out]
    exact⟨gT hg (z3_ _ _ _),_,rfl,hA,hR⟩
   ·rw[h43] at hI
    obtain⟨c,t',rfl⟩:∃ c t',r'=c::t':=by
     cases r' with
     |nil=>cases h43
     |cons c t'=>exact⟨c,t',rfl⟩
    simp only[List.length_cons] at hlen hal
    have hAV:jq_ (t'.length+1) (c::t') acc=V:=AV.out
    rw[jq_,h43,if_pos rfl] at hAV
    simp only[List.tail_cons] at hAV
    obtain⟨i,hi,c1,f1,hnx⟩:=hR.next
    have HAV:=hiD hAV
    clear AV h43 hR hAV
    go_wp2_with (go_at_call 242;refine hI.mono ?_;rintro e w2 ⟨rfl,n2,rfl⟩)
    have g2:w.grownBy ((wr.drewN n2).setCell ⟨b,1,none⟩ (.int .i64 ((i:Int)+1))) (some b):=gT hg (gT (z3_ _ _ _) (zf_ _))
    have a2:Avas w.heap.size ((wr.drewN n2).setCell ⟨b,1,none⟩ (.int .i64 ((i:Int)+1))) u3 acc:=hA.keep (gT (z3_ _ n2 _) (zf_ (b:=b) _)) (fun k hk=>by cases hk;exact hbw)
    have r2:RdAt ((wr.drewN n2).setCell ⟨b,1,none⟩ (.int .i64 ((i:Int)+1))) b s t':=hnx
    have hEQ:(wr.setCell ⟨b,1,none⟩ (.int .i64 ((i:Int)+1))).drewN n2=(wr.drewN n2).setCell ⟨b,1,none⟩ (.int .i64 ((i:Int)+1)):=rfl
    try rw[hEQ]
    clear hEQ hnx
    generalize (wr.drewN n2).setCell ⟨b,1,none⟩ (.int .i64 ((i:Int)+1))=W2 at *
    have hP:=zio_ b s t' W2 (hw.grown hO g2) hO r2 hs
    rcases hp:ya_ t' with _|⟨⟨x,y⟩,r3⟩
    ·rw[hp] at hP
     have hf:none=V:=by have:=HAV.out;rw[hp] at this;exact this
     have Hf:=hiD hf
     clear hf hp
     refine hP.mono ?_
     rintro e w3 ⟨h3,rfl⟩
     refine⟨rfl,?_⟩
     rw[← Hf.out]
     exact⟨gT g2 h3,rfl⟩
    ·have hr3:=x5_ hp
     rw[hp] at hP
     have hf:jq_ r3.length r3 (acc++[(x,y)])=V:=by
      have:=HAV.out
      rw[hp] at this
      dsimp only at this
      rw[← this]
      exact z3o_ _ _ _ _ (nR _) (by omega)
     have Hf:=hiD hf
     simp only[Option.map_some,zi9_] at hP
     clear hf hp
     refine hP.mono ?_
     rintro e w3 ⟨h3,rfl,r3'⟩
     have a3:=a2.keep h3 (fun k hk=>by cases hk;exact hbw)
     have g3:=gT g2 h3
     clear hP c1 f1 a2 g2 r2 h3
     go_wp2_with (at_builtin;refine zhz_ rfl _ _ rfl rfl a3 rfl rfl (by omega) ?_;intro v' w4 a4 h4)
     go_roundg r3.length
     case measure=>omega
     case rel=>exact⟨r3,_,nR _,by simp;omega,a3.rd h4 hbw r3',a4,Hf.out,a3.grown g3 h4⟩
open Go.RowKit
inductive PartsAre (B:Nat) (w:World):List Value→List (List (LU × LU))→Prop
 |nil:PartsAre B w [] []
 |cons {v:Value} {p:List (LU × LU)} {vs:List Value} {d:List (List (LU × LU))} (h:Avas B w v p) (t:PartsAre B w vs d):PartsAre B w (v::vs) (p::d)
theorem PartsAre.len {B:Nat} {w:World} {vs:List Value} {d:List (List (LU × LU))} (h:PartsAre B w vs d):vs.length=d.length:=by
 induction h with
 |nil=>rfl
 |cons _ _ ih=>simp [ih]
theorem PartsAre.snoc {B:Nat} {w:World} {vs:List Value} {d:List (List (LU × LU))} {v:Value} {p:List (LU × LU)} (h:PartsAre B w vs d) (hv:Avas B w v p):PartsAre B w (vs++[v]) (d++[p]):=by
 induction h with
 |nil=>exact .cons hv .nil
 |cons h _ ih=>exact .cons h ih
theorem PartsAre.imp {B B':Nat} {w w':World} {vs:List Value} {d:List (List (LU × LU))} (h:PartsAre B w vs d) (hi:∀ v p,v∈vs→Avas B w v p→Avas B' w' v p):PartsAre B' w' vs d:=by
 induction h with
 |nil=>exact .nil
 |cons h _ ih=>exact .cons (hi _ _ (by simp) h) (ih fun v p hv=>hi v p (by simp [hv]))
theorem PartsAre.get {B:Nat} {w:World} {vs:List Value} {d:List (List (LU × LU))} (h:PartsAre B w vs d):∀ (i:Nat) (p:List (LU × LU)),d[i]?=some p→∃ v,vs[i]?=some v∧Avas B w v p:=by
 induction h with
 |nil=>intro i p hp;simp at hp
 |cons h _ ih=>
  intro i p hp
  cases i with
  |zero=>simp at hp;subst hp;exact⟨_,rfl,h⟩
  |succ i=>exact ih i p hp
theorem Avas.lower {B B':Nat} {w:World} {v:Value} {l:List (LU × LU)} (h:Avas B w v l) (hB:B'≤B):Avas B' w v l:=by
 obtain⟨⟨h1,h2⟩,h3⟩:=h
 refine⟨⟨h1,h2.imp id ?_⟩,by omega⟩
 rintro⟨g,cap,cur,r1,r2,r3⟩
 exact⟨g,cap,cur,r1,by omega,r3⟩
theorem Avas.isSlice {B:Nat} {w:World} {v:Value} {l:List (LU × LU)} (h:Avas B w v l):∃ A c,v= .slice A l.length c∧l.length≤c:=by
 obtain⟨⟨h1,h2⟩,h3⟩:=h
 rcases h2 with ⟨rfl,hn⟩|⟨g,cap,cur,rfl,r2,r3,r4,_⟩
 ·exact⟨none,0,by rw[hn],by omega⟩
 ·exact⟨_,cap,rfl,r4⟩
theorem PartsAre.mem {B:Nat} {w:World} {vs:List Value} {d:List (List (LU × LU))} (h:PartsAre B w vs d) {u:Value} (hu:u∈vs):∃ q,Avas B w u q:=by
 induction h with
 |nil=>simp at hu
 |cons hA _ ih=>
  rcases List.mem_cons.1 hu with rfl|hu
  ·exact⟨_,hA⟩
  ·exact ih hu
def DnV (B:Nat) (w:World) (v:Value) (d:List (List (LU × LU))) (vs:List Value):Prop:=
 w.ownsRow B 187 1 v d.length vs∧B≤w.heap.size∧PartsAre B w vs d∧vs.Pairwise (fun a b=>a.ownBlock=none∨a.ownBlock≠b.ownBlock)
def DnAt (B:Nat) (w:World) (v:Value) (d:List (List (LU × LU))):Prop:=∃ vs,DnV B w v d vs
theorem zkt_:∃ i,Tryz.prog.info? 187=some i∧i.zero=some (.slice none 0 0)∧i.size=1∧i.bytes=24:=by
 obtain⟨i,h1,h2,h3,h4⟩:=info_parts (show (Tryz.prog.info? 187).map (fun i=>(i.zero,i.size,i.bytes))=some (some (.slice none 0 0),1,24) by kernel_rfl)
 exact⟨i,h1,h2,h3,h4⟩
theorem z2f_ {B:Nat} {w:World} {v u:Value} {n:Nat} {xs:List Value} {p:List (LU × LU)} (h:w.ownsRow B 187 1 v n xs) (hu:Avas B w u p):u.ownBlock=none∨u.ownBlock≠v.ownBlock:=by
 rcases h.2 with ⟨rfl,_⟩|⟨g,cap,cur,rfl,_,hg,_⟩
 ·rcases hu.1.2 with ⟨rfl,_⟩|⟨g',cap',cur',rfl,_,hg',_⟩
  ·exact .inl rfl
  ·exact .inr (by simp [Value.ownBlock])
 ·rcases hu.1.2 with ⟨rfl,_⟩|⟨g',cap',cur',rfl,_,hg',_⟩
  ·exact .inl rfl
  ·refine .inr ?_
   intro e
   have:g'=g:=by simpa [Value.ownBlock] using e
   subst this
   rw[hg] at hg'
   injection hg' with hg'
   injection hg' with _ ht
   exact absurd ht (by decide)
theorem z00_ {B:Nat} {w w':World} {u:Value} {p:List (LU × LU)} {r:Option Nat} (hu:Avas B w u p) (hg:w.grownBy w' r) (hne:u.ownBlock=none∨u.ownBlock≠r):Avas B w' u p:=
 ⟨hu.1.kept hg hne,nT hu.2 hg.size⟩
theorem DnV.lt {B:Nat} {w:World} {v:Value} {d:List (List (LU × LU))} {vs:List Value} (h:DnV B w v d vs):∀ u∈vs,∀ k,u.ownBlock=some k→k<w.heap.size:=by
 intro u hu k hk
 obtain⟨q,hq⟩:=h.2.2.1.mem hu
 exact(hq.lt k hk).2
theorem DnV.own {B:Nat} {w:World} {v:Value} {d:List (List (LU × LU))} {vs:List Value} (h:DnV B w v d vs):∀ k,v.ownBlock=some k→B≤k∧k<w.heap.size:=fun k hk=>h.1.lt k hk
theorem DnV.keep {B:Nat} {w w':World} {v:Value} {d:List (List (LU × LU))} {vs:List Value} (h:DnV B w v d vs) {r:Option Nat} (hg:w.grownBy w' r) (hr:∀ k,r=some k→k<B):DnV B w' v d vs:=by
 obtain⟨h1,h2,h3,h4⟩:=h
 refine⟨h1.kept hg ?_,nT h2 hg.size,h3.imp fun u q _ hu=>hu.keep hg hr,h4⟩
 rcases hv:v.ownBlock with _|g
 ·exact .inl rfl
 ·refine .inr ?_
  intro he
  have:=hr g he.symm
  have:=(h1.lt g hv).1
  omega
theorem dn_one {ops:Array Oper} {rest:List Oper} {o:Oper} {a:Act} {Q:Exit→Act→World→Prop} (hgd:o.guard=none) (s x:Operand) (ho:o.op= .call {callee:= .builtin .append,args:=#[s,x],argTypes:=#[183,183]})
  {v pv:Value} {d:List (List (LU × LU))} {vs:List Value} {p:List (LU × LU)} {B B' N:Nat} {w0:World} (hs:a.eval s=v) (hd:DnV B w0 v d vs) (hp:Avas B' w0 pv p) (hB':B≤B')
  (hold:∀ u∈vs,∀ k,u.ownBlock=some k→k<B')
  (hx:a.eval x= .slice (some ⟨N,0,none⟩) 1 1) (hN:N=w0.heap.size) (hlen:d.length<1000000)
  (h:∀ v' w',DnV B w' v' (d++[p]) (vs++[pv])→w0.grownBy w' v.ownBlock→wpList Tryz.prog ops Q rest (a.put o.dst v') w'):wpList Tryz.prog ops Q (o::rest) a (w0.alloc (.cells #[pv] 187)):=by
 subst hN
 obtain⟨i,h1,h2,h3,h4⟩:=zkt_
 obtain⟨d1,d2,d3,d4⟩:=hd
 have d1':=d1.alloc (.cells #[pv] 187)
 refine wpList_append_own _ hgd s x 183 ho B 187 i (.slice none 0 0) 1 24 Tryz.underlying183 h1 h2 h3 h4 rfl (by decide) v _ _ hs d1' ⟨w0.heap.size,0,none⟩ 1 1 [pv] hx rfl ?_ ?_ (by unfold maxLen;omega) (by omega) (by simp;omega) ?_
 ·intro j y hj
  match j,hj with
  |0,hj=>simp at hj;subst hj;simp [Addr.add]
  |(j+1),hj=>simp at hj
 ·intro y hy
  simp at hy
  subst hy
  obtain⟨A,c,rfl,_⟩:=hp.isSlice
  rfl
 ·intro v' w' ho' hg _
  have hg':w0.grownBy w' v.ownBlock:=gT (World.grownBy_alloc _ _ _) hg
  refine h v' w' ⟨by simpa using ho',nT d2 hg'.size,?_,?_⟩ hg'
  ·refine PartsAre.snoc (d3.imp fun u q _ hu=>z00_ hu hg' (z2f_ d1 hu)) ?_
   exact z00_ (hp.lower hB') hg' (z2f_ d1 (hp.lower hB'))
  ·rw[List.pairwise_append]
   refine⟨d4,by simp,?_⟩
   intro u hu y hy
   simp at hy
   subst hy
   rcases hub:u.ownBlock with _|k
   ·exact .inl rfl
   ·refine .inr ?_
    intro e
    have h5:=hold u hu k hub
    have h6:=(hp.lt k e.symm).1
    omega
theorem DnV.made1 {B B':Nat} {w:World} {pv:Value} {p:List (LU × LU)} (hp:Avas B' w pv p) (hB':B≤B'):DnV B (w.alloc (.cells #[pv] 187)) (.slice (some ⟨w.heap.size,0,none⟩) 1 1) [p] [pv]:=by
 have hle:=hp.2
 refine⟨⟨rfl,.inr ⟨w.heap.size,1,#[pv],rfl,by omega,heap_alloc_new w _,nR _,by decide,rfl,rfl⟩⟩,by simp;omega,.cons ?_ .nil,by simp⟩
 exact(z00_ hp (World.grownBy_alloc w _ none) (by rcases pv.ownBlock with _|g;exact .inl rfl;exact .inr (by simp))).lower hB'
theorem DnV.rd {w0 w w':World} {v:Value} {d:List (List (LU × LU))} {vs:List Value} {s r:LU} {b:Nat} (h:DnV w0.heap.size w v d vs) (hg:w.grownBy w' v.ownBlock) (hb:b<w0.heap.size) (hR:RdAt w b s r):RdAt w' b s r:=
 hR.grown hg (fun e=>by have:=(h.own b e.symm).1;omega)
theorem DnV.grown {w0 w w':World} {v:Value} {d:List (List (LU × LU))} {vs:List Value} {r:Option Nat} (h:DnV w0.heap.size w v d vs) (hg0:w0.grownBy w r) (hg:w.grownBy w' v.ownBlock):w0.grownBy w' r:=
 ⟨hg.os.trans hg0.os,hg.tape.trans hg0.tape,hg.output.trans hg0.output,nT hg0.size hg.size,fun k hk hne=>by
  rw[hg.block k (Nat.lt_of_lt_of_le hk hg0.size)]
  ·exact hg0.block k hk hne
  ·intro e
   have:=(h.own k e.symm).1
   omega⟩
def jn_:Nat→LU→List (List (LU × LU))→Option (List (List (LU × LU)) × LU)
 |0,r,acc=>if hd r 44 then none else some (acc,r)
 |n+1,r,acc=>if hd r 44 then (match xc_ r.tail with
  |none=>none
  |some (x,r')=>jn_ n r' (acc++[x])) else some (acc,r)
def z1h_:Option (List (List (LU × LU)) × LU)→Option (List (List (LU × LU)))
 |none=>none
 |some (d,r')=>if r'=[] then some d else none
def z56_:Option (List (LU × LU) × LU)→Option (List (List (LU × LU)))
 |none=>none
 |some (p,r)=>z1h_ (jn_ r.length r [p])
def z22_ (s:LU):Option (List (List (LU × LU))):=if s=[] then some [] else z56_ (xc_ s)
theorem z5g_:∀ (n:Nat) (r r':LU) (acc l:List (LU × LU)),jq_ n r acc=some (l,r')→r'.length≤r.length
 |0,r,r',acc,l,h=>by
  rw[jq_] at h
  split at h
  ·cases h
  ·cases h;exact nR _
 |n+1,r,r',acc,l,h=>by
  rw[jq_] at h
  split at h
  ·split at h
   ·cases h
   ·next x r2 hp=>
    have h1:=x5_ hp
    have h2:=z5g_ n r2 r' _ l h
    have h3:r.tail.length≤r.length:=by simp
    omega
  ·cases h;exact nR _
theorem yx_ {r r':LU} {l:List (LU × LU)} (h:xc_ r=some (l,r')):r'.length<r.length:=by
 unfold xc_ at h
 split at h
 ·cases h
 ·next x r2 hp=>
  have h1:=x5_ hp
  have h2:=z5g_ _ _ _ _ _ h
  omega
theorem z2z_:∀ (n m:Nat) (r:LU) (acc:List (List (LU × LU))),r.length≤n→r.length≤m→jn_ n r acc=jn_ m r acc
 |0,m,r,acc,h,_=>by
  obtain rfl:r=[]:=List.eq_nil_of_length_eq_zero (by omega)
  cases m<;>rfl
 |n+1,0,r,acc,_,h=>by
  obtain rfl:r=[]:=List.eq_nil_of_length_eq_zero (by omega)
  rfl
 |n+1,m+1,r,acc,h1,h2=>by
  rw[jn_,jn_]
  split
  ·cases hp:xc_ r.tail with
   |none=>rfl
   |some y=>
    obtain⟨x,r'⟩:=y
    have h3:=yx_ hp
    have h4:r.tail.length≤r.length:=by simp
    exact z2z_ n m r' _ (by omega) (by omega)
  ·rfl
open Go.RowKit
def zkq_ (w:World) (b:Nat) (o:Option (List (List (LU × LU)))) (e:Ending) (w':World):Prop:=
 w.grownBy w' (some b)∧match o with
  |none=>e= .panicked vz_
  |some d=>∃ v,e= .returned v∧DnAt w.heap.size w' v d
theorem zft_ (b:Nat) (s:LU) (w:World) (hw:Env w) (hO:Off b) (h:RdAt w b s s) (hs:s.length≤65536):
  Calls Tryz.prog 204 #[.pointer (some ⟨b,0,none⟩)] w (zkq_ w b (z22_ s)):=by
 have hbw:=h.lt
 have c0:w.cell? ⟨b,0,none⟩=some (.string ⟨s.toArray⟩):=by obtain⟨i,_,_,hR⟩:=h;exact hR.c0
 by_cases hse:s=[]
 ·subst hse
  go_enter Tryz.func204,Tryz.ntmps204
  go_wp2_with fail
  go_ret
  exact⟨World.grownBy.refl _ _,_,rfl,[],World.ownsRow_nil _ _ _ _,nR _,.nil,by simp⟩
 ·have hie:s.isEmpty=false:=by cases s<;>simp_all
  have hP:=zii_ b s s w hw hO h hs
  have hnm:z22_ s=z56_ (xc_ s):=by unfold z22_;rw[if_neg hse]
  have HNM:=hiD hnm
  clear hnm hse
  rcases hp:xc_ s with _|⟨p,r⟩
  ·rw[hp] at hP
   have hq:z22_ s=none:=by rw[HNM.out,hp];rfl
   have Hq:=hiD hq
   clear hq hp h
   go_enter Tryz.func204,Tryz.ntmps204
   go_wp2_with (go_at_call 241;refine hP.mono ?_;rintro e w1 ⟨h1,rfl⟩)
   refine⟨rfl,?_⟩
   rw[Hq.out]
   exact⟨h1,rfl⟩
  ·rw[hp] at hP
   have hr1:=yx_ hp
   have hq:z22_ s=z1h_ (jn_ r.length r [p]):=by rw[HNM.out,hp];rfl
   generalize hV:jn_ r.length r [p]=V at hq
   have HQ:=hiD hq
   have HV:=hiD hV
   clear hq hp h hV HNM
   go_enter Tryz.func204,Tryz.ntmps204
   go_wp2_with (go_at_call 241;refine hP.mono ?_;rintro e w1 ⟨h1,pv,rfl,ha1,r1'⟩;obtain⟨A1,cp1,rfl,hcp1⟩:=ha1.isSlice)
   clear hP c0
   go_loopg [3] r.length (fun gk v wr=>∃ (r':LU) (acc:List (List (LU × LU))),r'.length≤gk∧acc.length+r'.length≤s.length+1∧RdAt wr b s r'∧DnAt w.heap.size wr v acc∧Aside (jn_ r'.length r' acc=V)∧w.grownBy wr (some b))
   case atStart=>
    exact⟨r,[p],nR _,by simp;omega,r1'.below ((bR _ _).alloc (nR _) _),⟨_,DnV.made1 ha1 (nR _)⟩,HV.out,gT h1 (World.grownBy_alloc _ _ _)⟩
   case round=>
    obtain⟨r',acc,hlen,hal,hR,⟨vs,hD⟩,AV,hg⟩:=hrel
    have hI:=zar_ b s r' 44 wr hR
    cases h44:hd r' 44
    ·rw[h44] at hI
     have hfin:some (acc,r')=V:=by
      have:=AV.out
      cases hn:r'.length with
      |zero=>rw[hn,jn_,h44] at this;exact this
      |succ n=>rw[hn,jn_,h44] at this;exact this
     have Hf:=hiD hfin
     have hEn:=fun w' (hR:RdAt w' b s r')=>z9o_ b s r' w' hR
     have HR:=hiD hR
     cases r' with
     |nil=>
      have HEn:=hiD hEn
      clear hfin AV h44 hEn hR
      go_wp2_with (first|(go_at_call 242;refine hI.mono ?_;rintro e w2 ⟨rfl,n2,rfl⟩)|(go_at_call 243;refine(HEn.out _ (by exact HR.out)).mono ?_;rintro e w2 ⟨rfl,n3,rfl⟩))
      go_ret
      rw[HQ.out,← Hf.out]
      exact⟨gT hg (z3_ _ _ _),_,rfl,vs,hD.keep (z3_ _ _ none) (fun k hk=>by cases hk)⟩
     |cons c t=>
      have HEn:=hiD hEn
      clear hfin AV h44 hEn hR
      go_wp2_with (first|(go_at_call 242;refine hI.mono ?_;rintro e w2 ⟨rfl,n2,rfl⟩)|(go_at_call 243;refine(HEn.out _ (by exact HR.out)).mono ?_;rintro e w2 ⟨rfl,n3,rfl⟩))
      refine⟨rfl,?_⟩
      rw[HQ.out,← Hf.out]
      exact⟨gT hg (z3_ _ _ _),rfl⟩
    ·rw[h44] at hI
     obtain⟨c,t',rfl⟩:∃ c t',r'=c::t':=by
      cases r' with
      |nil=>cases h44
      |cons c t'=>exact⟨c,t',rfl⟩
     simp only[List.length_cons] at hlen hal
     have hAV:jn_ (t'.length+1) (c::t') acc=V:=AV.out
     rw[jn_,h44,if_pos rfl] at hAV
     simp only[List.tail_cons] at hAV
     obtain⟨i,hi,c1,f1,hnx⟩:=hR.next
     have HAV:=hiD hAV
     clear AV h44 hR hAV
     go_wp2_with (go_at_call 242;refine hI.mono ?_;rintro e w2 ⟨rfl,n2,rfl⟩)
     have g2:w.grownBy ((wr.drewN n2).setCell ⟨b,1,none⟩ (.int .i64 ((i:Int)+1))) (some b):=gT hg (gT (z3_ _ _ _) (zf_ _))
     have a2:DnV w.heap.size ((wr.drewN n2).setCell ⟨b,1,none⟩ (.int .i64 ((i:Int)+1))) u3 acc vs:=hD.keep (gT (z3_ _ n2 _) (zf_ (b:=b) _)) (fun k hk=>by cases hk;exact hbw)
     have r2:RdAt ((wr.drewN n2).setCell ⟨b,1,none⟩ (.int .i64 ((i:Int)+1))) b s t':=hnx
     have hEQ:(wr.setCell ⟨b,1,none⟩ (.int .i64 ((i:Int)+1))).drewN n2=(wr.drewN n2).setCell ⟨b,1,none⟩ (.int .i64 ((i:Int)+1)):=rfl
     try rw[hEQ]
     clear hEQ hnx
     generalize (wr.drewN n2).setCell ⟨b,1,none⟩ (.int .i64 ((i:Int)+1))=W2 at *
     have hP:=zii_ b s t' W2 (hw.grown hO g2) hO r2 hs
     have hsz2:=g2.size
     rcases hp:xc_ t' with _|⟨q,r3⟩
     ·rw[hp] at hP
      have hf:none=V:=by have:=HAV.out;rw[hp] at this;exact this
      have Hf:=hiD hf
      clear hf hp
      refine hP.mono ?_
      rintro e w3 ⟨h3,rfl⟩
      refine⟨rfl,?_⟩
      rw[HQ.out,← Hf.out]
      exact⟨gT g2 h3,rfl⟩
     ·have hr3:=yx_ hp
      rw[hp] at hP
      have hf:jn_ r3.length r3 (acc++[q])=V:=by
       have:=HAV.out
       rw[hp] at this
       dsimp only at this
       rw[← this]
       exact z2z_ _ _ _ _ (nR _) (by omega)
      have Hf:=hiD hf
      clear hf hp
      refine hP.mono ?_
      rintro e w3 ⟨h3,pv,rfl,ha3,r3'⟩
      have hold:=a2.lt
      have Hold:=hiD hold
      have a3:=a2.keep h3 (fun k hk=>by cases hk;exact hbw)
      have g3:=gT g2 h3
      clear hP c1 f1 a2 g2 r2 h3 hold
      obtain⟨A3,cp3,rfl,hcp3⟩:=ha3.isSlice
      go_wp2_with (at_builtin;refine dn_one rfl _ _ rfl rfl a3 ha3 hsz2 Hold.out rfl rfl (by omega) ?_;intro v' w4 a4 h4)
      go_roundg r3.length
      case measure=>omega
      case rel=>exact⟨r3,_,nR _,by simp;omega,a3.rd h4 hbw r3',⟨_,a4⟩,Hf.out,a3.grown g3 h4⟩
open Go.RowKit
def RdnR (w:World) (v:Value) (p:List (LU × LU)):Prop:=
 ∃ A c,v= .slice A p.length c∧p.length≤c∧(p=[]∨∃ g o,A=some ⟨g,o,none⟩∧g<w.heap.size∧∀ j x,p[j]?=some x→w.cell? ⟨g,o+2 * j,none⟩=some (.string ⟨x.1.toArray⟩)∧w.cell? ⟨g,o+2 * j+1,none⟩=some (.string ⟨x.2.toArray⟩))
def DnR (w:World) (v:Value) (d:List (List (LU × LU))):Prop:=
 ∃ A c,v= .slice A d.length c∧d.length≤c∧(d=[]∨∃ g o,A=some ⟨g,o,none⟩∧g<w.heap.size∧∀ j p,d[j]?=some p→∃ pv,w.cell? ⟨g,o+j,none⟩=some pv∧RdnR w pv p)
theorem RdnR.below {w w':World} {v:Value} {p:List (LU × LU)} (h:RdnR w v p) (hb:Bel w w'):RdnR w' v p:=by
 obtain⟨A,c,rfl,hc,h⟩:=h
 refine⟨A,c,rfl,hc,h.imp id ?_⟩
 rintro⟨g,o,rfl,hg,hx⟩
 refine⟨g,o,rfl,Nat.lt_of_lt_of_le hg hb.size,fun j x hj=>?_⟩
 rw[hb.cell (p:=⟨g,o+2 * j,none⟩) hg,hb.cell (p:=⟨g,o+2 * j+1,none⟩) hg]
 exact hx j x hj
theorem DnR.below {w w':World} {v:Value} {d:List (List (LU × LU))} (h:DnR w v d) (hb:Bel w w'):DnR w' v d:=by
 obtain⟨A,c,rfl,hc,h⟩:=h
 refine⟨A,c,rfl,hc,h.imp id ?_⟩
 rintro⟨g,o,rfl,hg,hx⟩
 refine⟨g,o,rfl,Nat.lt_of_lt_of_le hg hb.size,fun j p hj=>?_⟩
 obtain⟨pv,h1,h2⟩:=hx j p hj
 exact⟨pv,(hb.cell (p:=⟨g,o+j,none⟩) hg).trans h1,h2.below hb⟩
theorem z50_:∀ (l:List (LU × LU)) (j:Nat) (x:LU × LU),l[j]?=some x→(l.flatMap qt_)[2 * j]?=some (.string ⟨x.1.toArray⟩)∧(l.flatMap qt_)[2 * j+1]?=some (.string ⟨x.2.toArray⟩)
 |[],j,x,h=>by simp at h
 |y::l,0,x,h=>by
  simp at h;subst h
  simp [qt_]
 |y::l,j+1,x,h=>by
  have:=z50_ l j x (by simpa using h)
  simp only[List.flatMap_cons,qt_,List.cons_append,List.nil_append]
  rw[show 2 * (j+1)=2 * j+1+1 by omega]
  simpa using this
theorem Avas.reads {B:Nat} {w:World} {v:Value} {p:List (LU × LU)} (h:Avas B w v p):RdnR w v p:=by
 obtain⟨⟨h1,h2⟩,h3⟩:=h
 rcases h2 with ⟨rfl,hn⟩|⟨g,cap,cur,rfl,r2,r3,r4,r5,r6,r7⟩
 ·exact⟨none,0,by rw[hn],by omega,.inl (List.eq_nil_of_length_eq_zero hn)⟩
 ·refine⟨_,cap,rfl,r4,.inr ⟨g,0,rfl,(Array.getElem?_eq_some_iff.1 r3).1,fun j x hj=>?_⟩⟩
  have hf:=z50_ p j x hj
  have hjl:j<p.length:=(List.getElem?_eq_some_iff.1 hj).1
  rw[← r7,List.getElem?_take,List.getElem?_take,if_pos (by omega),if_pos (by omega)] at hf
  simp only[World.cell?,r3,Nat.zero_add]
  simpa using hf
theorem DnAt.reads {B:Nat} {w:World} {v:Value} {d:List (List (LU × LU))} (h:DnAt B w v d):DnR w v d:=by
 obtain⟨vs,⟨h1,h2⟩,h3,h4,h5⟩:=h
 rcases h2 with ⟨rfl,hn⟩|⟨g,cap,cur,rfl,r2,r3,r4,r5,r6,r7⟩
 ·exact⟨none,0,by rw[hn],by omega,.inl (List.eq_nil_of_length_eq_zero hn)⟩
 ·refine⟨_,cap,rfl,r4,.inr ⟨g,0,rfl,(Array.getElem?_eq_some_iff.1 r3).1,fun j p hj=>?_⟩⟩
  obtain⟨pv,hv,hA⟩:=h4.get j p hj
  have hjl:j<d.length:=(List.getElem?_eq_some_iff.1 hj).1
  rw[← r7,List.getElem?_take,if_pos (by omega)] at hv
  refine⟨pv,?_,hA.reads⟩
  simp only[World.cell?,r3,Nat.zero_add]
  simpa using hv
def AvaE (_W:World) (ev:Value) (x:LU × LU):Prop:=ev=zi9_ x
theorem z88_ (p:List (LU × LU)) (v:Value) (w:World) (hv:RdnR w v p) (hl:p.length≤1000000) (P:(LU × LU)→Bool)
  (hF:∀ x∈p,∀ W ev,Bel w W→AvaE W ev x→Calls Tryz.prog 246 #[ev] W fun e W'=>e= .returned (.bool (P x))∧Bel W W'):
  Calls Tryz.prog 256 #[v,.func (.func 246) #[] #[]] w fun e w'=>(∃ i:Int,e= .returned (.int .i64 i)∧decide (0≤i)=p.any P)∧Bel w w':=by
 have HF:=hiD hF
 clear hF
 obtain⟨A,c,rfl,hc,hx⟩:=hv
 go_enter Tryz.func256,Tryz.ntmps256
 go_wp2_with fail
 go_loopg [8] p.length (fun gk i wr=>∃ k:Nat,k≤p.length∧i= .int .i64 k∧Aside (k+gk=p.length)∧Bel w wr∧Aside (p.any P=(p.drop k).any P))
 case atStart=>exact⟨0,by omega,rfl,by show _=_;omega,bR _ _,rfl⟩
 case round=>
  obtain⟨k,hk,rfl,AG,hB,AS⟩:=hrel
  by_cases hlt:k<p.length
  ·obtain⟨q,rfl⟩:∃ q,gk=q+1:=⟨gk - 1,by have:=AG.out;omega⟩
   obtain⟨g,o,rfl,hg,hcells⟩:=hx.resolve_left (by intro h;rw[h] at hlt;simp at hlt)
   have hel:=List.getElem?_eq_getElem hlt
   have AS':Aside (p.any P=(P p[k]||(p.drop (k+1)).any P)):=by have:=AS.out;rw[List.drop_eq_getElem_cons hlt] at this;exact this
   have hc2:=hcells k p[k] hel
   have c0:wr.cell? ⟨g,o+2 * k,none⟩=some (.string ⟨p[k].1.toArray⟩):=(hB.cell (p:=⟨g,o+2 * k,none⟩) hg).trans hc2.1
   have c1:wr.cell? ⟨g,o+2 * k+1,none⟩=some (.string ⟨p[k].2.toArray⟩):=(hB.cell (p:=⟨g,o+2 * k+1,none⟩) hg).trans hc2.2
   have c0':wr.cell? ⟨g,o+k * 2,none⟩=some (.string ⟨p[k].1.toArray⟩):=by rw[Nat.mul_comm];exact c0
   have c1':wr.cell? ⟨g,o+k * 2+1,none⟩=some (.string ⟨p[k].2.toArray⟩):=by rw[Nat.mul_comm];exact c1
   have HC:Hid (∀ W,Bel w W→Calls Tryz.prog 246 #[.agg #[.string ⟨p[k].1.toArray⟩,.string ⟨p[k].2.toArray⟩]] W fun e W'=>e= .returned (.bool (P p[k]))∧Bel W W'):=fun W hW=>HF.out p[k] (List.getElem_mem hlt) W _ hW rfl
   clear hcells hel AS
   cases hP:P p[k]
   ·have HP:=hiD hP
    have HC':=HC.out
    rw[hP] at HC'
    have HC2:=hiD HC'
    clear hP HC HC'
    go_wp2_with (go_at_call 246;refine(HC2.out _ hB).mono ?_;rintro e w2 ⟨rfl,hb2⟩)
    go_roundg q
    case measure=>omega
    case rel=>exact⟨k+1,by omega,by go_num,by have:=AG.out;show _=_;omega,tQ hB hb2,by have:=AS'.out;rw[HP.out] at this;exact this⟩
   ·have HP:=hiD hP
    have HC':=HC.out
    rw[hP] at HC'
    have HC2:=hiD HC'
    clear hP HC HC'
    go_wp2_with (go_at_call 246;refine(HC2.out _ hB).mono ?_;rintro e w2 ⟨rfl,hb2⟩)
    go_ret
    exact⟨⟨k,rfl,by rw[AS'.out,HP.out];simp⟩,tQ hB hb2⟩
  ·obtain rfl:k=p.length:=by omega
   have hs:p.any P=false:=by have:=AS.out;rw[List.drop_length] at this;exact this
   have Hs:=hiD hs
   clear hs AS
   go_wp2_with fail
   go_ret
   exact⟨⟨-1,rfl,by rw[Hs.out];rfl⟩,hB⟩
theorem z8l_ (p:List (LU × LU)) (v:Value) (w:World) (hv:RdnR w v p) (hl:p.length≤1000000) (P:(LU × LU)→Bool)
  (hF:∀ x∈p,∀ W ev,Bel w W→AvaE W ev x→Calls Tryz.prog 246 #[ev] W fun e W'=>e= .returned (.bool (P x))∧Bel W W'):
  Calls Tryz.prog 213 #[v,.func (.func 246) #[] #[]] w fun e w'=>e= .returned (.bool (p.any P))∧Bel w w':=by
 have hI:=z88_ p v w hv hl P hF
 obtain⟨A,c,rfl,hc,hx⟩:=hv
 clear hF hx
 go_enter Tryz.func213,Tryz.ntmps213
 go_wp2_with (go_at_call 256;refine hI.mono ?_;rintro e w1 ⟨⟨i,rfl,hi⟩,hb1⟩;have Hi:=hiD hi;clear hi)
 all_goals
  go_ret
  exact⟨xd_ (by rw[← Hi.out]),hb1⟩
theorem zb9_ (p:List (LU × LU)) (v:Value) (w:World) (hv:RdnR w v p) (hl:p.length≤1000000) (P:(LU × LU)→Bool)
  (hF:∀ x∈p,∀ W ev,Bel w W→AvaE W ev x→Calls Tryz.prog 214 #[ev] W fun e W'=>e= .returned (.bool (P x))∧Bel W W'):
  Calls Tryz.prog 256 #[v,.func (.func 214) #[] #[]] w fun e w'=>(∃ i:Int,e= .returned (.int .i64 i)∧decide (0≤i)=p.any P)∧Bel w w':=by
 have HF:=hiD hF
 clear hF
 obtain⟨A,c,rfl,hc,hx⟩:=hv
 go_enter Tryz.func256,Tryz.ntmps256
 go_wp2_with fail
 go_loopg [8] p.length (fun gk i wr=>∃ k:Nat,k≤p.length∧i= .int .i64 k∧Aside (k+gk=p.length)∧Bel w wr∧Aside (p.any P=(p.drop k).any P))
 case atStart=>exact⟨0,by omega,rfl,by show _=_;omega,bR _ _,rfl⟩
 case round=>
  obtain⟨k,hk,rfl,AG,hB,AS⟩:=hrel
  by_cases hlt:k<p.length
  ·obtain⟨q,rfl⟩:∃ q,gk=q+1:=⟨gk - 1,by have:=AG.out;omega⟩
   obtain⟨g,o,rfl,hg,hcells⟩:=hx.resolve_left (by intro h;rw[h] at hlt;simp at hlt)
   have hel:=List.getElem?_eq_getElem hlt
   have AS':Aside (p.any P=(P p[k]||(p.drop (k+1)).any P)):=by have:=AS.out;rw[List.drop_eq_getElem_cons hlt] at this;exact this
   have hc2:=hcells k p[k] hel
   have c0:wr.cell? ⟨g,o+2 * k,none⟩=some (.string ⟨p[k].1.toArray⟩):=(hB.cell (p:=⟨g,o+2 * k,none⟩) hg).trans hc2.1
   have c1:wr.cell? ⟨g,o+2 * k+1,none⟩=some (.string ⟨p[k].2.toArray⟩):=(hB.cell (p:=⟨g,o+2 * k+1,none⟩) hg).trans hc2.2
   have c0':wr.cell? ⟨g,o+k * 2,none⟩=some (.string ⟨p[k].1.toArray⟩):=by rw[Nat.mul_comm];exact c0
   have c1':wr.cell? ⟨g,o+k * 2+1,none⟩=some (.string ⟨p[k].2.toArray⟩):=by rw[Nat.mul_comm];exact c1
   have HC:Hid (∀ W,Bel w W→Calls Tryz.prog 214 #[.agg #[.string ⟨p[k].1.toArray⟩,.string ⟨p[k].2.toArray⟩]] W fun e W'=>e= .returned (.bool (P p[k]))∧Bel W W'):=fun W hW=>HF.out p[k] (List.getElem_mem hlt) W _ hW rfl
   clear hcells hel AS
   cases hP:P p[k]
   ·have HP:=hiD hP
    have HC':=HC.out
    rw[hP] at HC'
    have HC2:=hiD HC'
    clear hP HC HC'
    go_wp2_with (go_at_call 214;refine(HC2.out _ hB).mono ?_;rintro e w2 ⟨rfl,hb2⟩)
    go_roundg q
    case measure=>omega
    case rel=>exact⟨k+1,by omega,by go_num,by have:=AG.out;show _=_;omega,tQ hB hb2,by have:=AS'.out;rw[HP.out] at this;exact this⟩
   ·have HP:=hiD hP
    have HC':=HC.out
    rw[hP] at HC'
    have HC2:=hiD HC'
    clear hP HC HC'
    go_wp2_with (go_at_call 214;refine(HC2.out _ hB).mono ?_;rintro e w2 ⟨rfl,hb2⟩)
    go_ret
    exact⟨⟨k,rfl,by rw[AS'.out,HP.out];simp⟩,tQ hB hb2⟩
  ·obtain rfl:k=p.length:=by omega
   have hs:p.any P=false:=by have:=AS.out;rw[List.drop_length] at this;exact this
   have Hs:=hiD hs
   clear hs AS
   go_wp2_with fail
   go_ret
   exact⟨⟨-1,rfl,by rw[Hs.out];rfl⟩,hB⟩
theorem zat_ (p:List (LU × LU)) (v:Value) (w:World) (hv:RdnR w v p) (hl:p.length≤1000000) (P:(LU × LU)→Bool)
  (hF:∀ x∈p,∀ W ev,Bel w W→AvaE W ev x→Calls Tryz.prog 214 #[ev] W fun e W'=>e= .returned (.bool (P x))∧Bel W W'):
  Calls Tryz.prog 213 #[v,.func (.func 214) #[] #[]] w fun e w'=>e= .returned (.bool (p.any P))∧Bel w w':=by
 have hI:=zb9_ p v w hv hl P hF
 obtain⟨A,c,rfl,hc,hx⟩:=hv
 clear hF hx
 go_enter Tryz.func213,Tryz.ntmps213
 go_wp2_with (go_at_call 256;refine hI.mono ?_;rintro e w1 ⟨⟨i,rfl,hi⟩,hb1⟩;have Hi:=hiD hi;clear hi)
 all_goals
  go_ret
  exact⟨xd_ (by rw[← Hi.out]),hb1⟩
theorem z8o_ (p:List (List (LU × LU))) (v:Value) (w:World) (hv:DnR w v p) (hl:p.length≤1000000) (P:(List (LU × LU))→Bool)
  (hF:∀ x∈p,∀ W ev,Bel w W→RdnR W ev x→Calls Tryz.prog 245 #[ev] W fun e W'=>e= .returned (.bool (P x))∧Bel W W'):
  Calls Tryz.prog 272 #[v,.func (.func 245) #[] #[]] w fun e w'=>(∃ i:Int,e= .returned (.int .i64 i)∧decide (0≤i)=p.any P)∧Bel w w':=by
 have HF:=hiD hF
 clear hF
 obtain⟨A,c,rfl,hc,hx⟩:=hv
 go_enter Tryz.func272,Tryz.ntmps272
 go_wp2_with fail
 go_loopg [8] p.length (fun gk i wr=>∃ k:Nat,k≤p.length∧i= .int .i64 k∧Aside (k+gk=p.length)∧Bel w wr∧Aside (p.any P=(p.drop k).any P))
 case atStart=>exact⟨0,by omega,rfl,by show _=_;omega,bR _ _,rfl⟩
 case round=>
  obtain⟨k,hk,rfl,AG,hB,AS⟩:=hrel
  by_cases hlt:k<p.length
  ·obtain⟨q,rfl⟩:∃ q,gk=q+1:=⟨gk - 1,by have:=AG.out;omega⟩
   obtain⟨g,o,rfl,hg,hcells⟩:=hx.resolve_left (by intro h;rw[h] at hlt;simp at hlt)
   have hel:=List.getElem?_eq_getElem hlt
   have AS':Aside (p.any P=(P p[k]||(p.drop (k+1)).any P)):=by have:=AS.out;rw[List.drop_eq_getElem_cons hlt] at this;exact this
   obtain⟨pv,hp1,hp2⟩:=hcells k p[k] hel
   have c0:wr.cell? ⟨g,o+k,none⟩=some pv:=(hB.cell (p:=⟨g,o+k,none⟩) hg).trans hp1
   have HC:Hid (∀ W,Bel w W→Calls Tryz.prog 245 #[pv] W fun e W'=>e= .returned (.bool (P p[k]))∧Bel W W'):=fun W hW=>HF.out p[k] (List.getElem_mem hlt) W _ hW (hp2.below hW)
   clear hcells hel AS
   cases hP:P p[k]
   ·have HP:=hiD hP
    have HC':=HC.out
    rw[hP] at HC'
    have HC2:=hiD HC'
    clear hP HC HC'
    go_wp2_with (go_at_call 245;refine(HC2.out _ hB).mono ?_;rintro e w2 ⟨rfl,hb2⟩)
    go_roundg q
    case measure=>omega
    case rel=>exact⟨k+1,by omega,by go_num,by have:=AG.out;show _=_;omega,tQ hB hb2,by have:=AS'.out;rw[HP.out] at this;exact this⟩
   ·have HP:=hiD hP
    have HC':=HC.out
    rw[hP] at HC'
    have HC2:=hiD HC'
    clear hP HC HC'
    go_wp2_with (go_at_call 245;refine(HC2.out _ hB).mono ?_;rintro e w2 ⟨rfl,hb2⟩)
    go_ret
    exact⟨⟨k,rfl,by rw[AS'.out,HP.out];simp⟩,tQ hB hb2⟩
  ·obtain rfl:k=p.length:=by omega
   have hs:p.any P=false:=by have:=AS.out;rw[List.drop_length] at this;exact this
   have Hs:=hiD hs
   clear hs AS
   go_wp2_with fail
   go_ret
   exact⟨⟨-1,rfl,by rw[Hs.out];rfl⟩,hB⟩
theorem z83_ (p:List (List (LU × LU))) (v:Value) (w:World) (hv:DnR w v p) (hl:p.length≤1000000) (P:(List (LU × LU))→Bool)
  (hF:∀ x∈p,∀ W ev,Bel w W→RdnR W ev x→Calls Tryz.prog 245 #[ev] W fun e W'=>e= .returned (.bool (P x))∧Bel W W'):
  Calls Tryz.prog 244 #[v,.func (.func 245) #[] #[]] w fun e w'=>e= .returned (.bool (p.any P))∧Bel w w':=by
 have hI:=z8o_ p v w hv hl P hF
 obtain⟨A,c,rfl,hc,hx⟩:=hv
 clear hF hx
 go_enter Tryz.func244,Tryz.ntmps244
 go_wp2_with (go_at_call 272;refine hI.mono ?_;rintro e w1 ⟨⟨i,rfl,hi⟩,hb1⟩;have Hi:=hiD hi;clear hi)
 all_goals
  go_ret
  exact⟨xd_ (by rw[← Hi.out]),hb1⟩
open Go.RowKit
def j3_ (x:LU × LU):Bool:=decide (1024<x.2.length)
def qq_ (p:List (LU × LU)):Bool:=decide (4<p.length)||p.any j3_
def zz_ (d:List (List (LU × LU))):Bool:=decide (20<d.length)||d.any qq_
theorem z7e_ (x:LU × LU) (w:World):
  Calls Tryz.prog 246 #[zi9_ x] w fun e w'=>e= .returned (.bool (j3_ x))∧Bel w w':=by
 obtain⟨x1,x2⟩:=x
 show Calls Tryz.prog 246 #[.agg #[.string ⟨x1.toArray⟩,.string ⟨x2.toArray⟩]] w _
 go_enter Tryz.func246,Tryz.ntmps246
 go_wp2_with fail
 go_ret
 exact⟨xd_ (by simp only[j3_];exact decide_eq_decide.2 (by omega)),(bR _ _).alloc (nR _) _⟩
theorem zao_ (p:List (LU × LU)) (v:Value) (w:World) (hv:RdnR w v p) (hl:p.length≤1000000):
  Calls Tryz.prog 245 #[v] w fun e w'=>e= .returned (.bool (qq_ p))∧Bel w w':=by
 have hC:=fun (W:World) (hB:Bel w W)=>z8l_ p v W (hv.below hB) hl j3_ (fun x _ W' ev _ (he:AvaE W' ev x)=>by rw[he];exact z7e_ x W')
 obtain⟨A,c,rfl,hc,hx⟩:=hv
 clear hx
 by_cases h4:4<p.length
 ·have hR:qq_ p=true:=by simp [qq_,h4]
  rw[hR]
  clear hR hC
  generalize p.length=n at *
  go_enter Tryz.func245,Tryz.ntmps245
  go_wp2_with fail
  go_ret
  exact⟨rfl,bR _ _⟩
 ·have hR:qq_ p=p.any j3_:=by simp [qq_,h4]
  rw[hR]
  clear hR
  generalize p.length=n at *
  generalize p.any j3_=R at *
  have hz:decide ((4:Int)<(n:Int))=false:=decide_eq_false (by omega)
  go_enter Tryz.func245,Tryz.ntmps245
  go_wp2_with (go_at_call 213;refine(hC _ (bR _ _)).mono ?_;rintro e w2 ⟨rfl,hb2⟩)
  go_ret
  exact⟨xd_ (by simp [hz]),hb2⟩
theorem z23_ (d:List (List (LU × LU))) (v:Value) (w:World) (hv:DnR w v d) (hl:d.length≤1000000) (hl2:∀ p∈d,p.length≤1000000):
  Calls Tryz.prog 205 #[v] w fun e w'=>e= .returned (.bool (zz_ d))∧Bel w w':=by
 have hC:=fun (W:World) (hB:Bel w W)=>z83_ d v W (hv.below hB) hl qq_ (fun x hx W' ev _ (he:RdnR W' ev x)=>zao_ x ev W' he (hl2 x hx))
 obtain⟨A,c,rfl,hc,hx⟩:=hv
 clear hx hl2
 by_cases h4:20<d.length
 ·have hR:zz_ d=true:=by simp [zz_,h4]
  rw[hR]
  clear hR hC
  generalize d.length=n at *
  go_enter Tryz.func205,Tryz.ntmps205
  go_wp2_with fail
  go_ret
  exact⟨rfl,bR _ _⟩
 ·have hR:zz_ d=d.any qq_:=by simp [zz_,h4]
  rw[hR]
  clear hR
  generalize d.length=n at *
  generalize d.any qq_=R at *
  have hz:decide ((20:Int)<(n:Int))=false:=decide_eq_false (by omega)
  go_enter Tryz.func205,Tryz.ntmps205
  go_wp2_with (go_at_call 244;refine(hC _ (bR _ _)).mono ?_;rintro e w2 ⟨rfl,hb2⟩)
  go_ret
  exact⟨xd_ (by simp [hz]),hb2⟩
end Go.Proofs.YtakfpngfpknedaaGreatDoor
