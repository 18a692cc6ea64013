import Derived.Test.YtakfpngfpknedaaGreatDoorE0i
import Derived.LaidEqlPtr
import Derived.Lib.SliceRun
set_option linter.all false
set_option maxHeartbeats 8000000
set_option maxRecDepth 100000
namespace Go.Proofs.YtakfpngfpknedaaGreatDoor
open Go.RowKit
theorem read_c (s:LU) (cls:Bool) (w:World) (hw:Env w) (hs:s.length≤1000000):
  Calls Tryz.prog 74 #[.string ⟨s.toArray⟩,.bool cls] w (z07_ w (zb7_ s cls)):=by
 unfold zb7_
 cases hn:yh_ s with
 |none=>exact z6q_ s cls w hs hn
 |some l=>
  simp only
  cases h40:rIs l [40]
  ·exact z8q_ s cls l w hs hn h40
  ·simp only[if_true]
   cases hp:ze_ l.tail with
   |none=>exact z69_ s cls l w hw hs hn h40 hp
   |some x=>
    obtain⟨oid,t⟩:=x
    simp only
    cases ho:zc_ oid && z33_ oid
    ·exact zab_ s cls l t oid w hw hs hn h40 hp ho
    ·rw[Bool.and_eq_true] at ho
     exact ziy_ s cls l t oid w hw hs hn h40 hp ho.1 ho.2
structure AskS (w:World) (f:FuncId) (cap:Array Value) (xs:LL) (P:LU→Bool):Prop where
 call:∀ x∈xs,∀ W,Bel w W→Calls Tryz.prog f (#[.string ⟨x.toArray⟩]++cap) W fun e W'=>e= .returned (.bool (P x))∧Bel W W'
 enter:∀ (args:Array Value) (W:World),(callFunc f args).run Tryz.prog W= .ok (.enter f args) W
theorem z66_ (f:FuncId) (cap:Array Value) (xs:LL) (v:Value) (w:World) (hv:Texts w v xs) (hl:xs.length≤1000000) (P:LU→Bool) (hF:AskS w f cap xs P):
  Calls Tryz.prog 151 #[v,.func (.func f) #[] cap] w fun e w'=>(∃ i:Int,e= .returned (.int .i64 i)∧decide (0≤i)=xs.any P)∧Bel w w':=by
 have HF:=hiD hF.call
 have hent:=hF.enter
 clear hF
 have HV:=hiD hv
 obtain⟨A,n,c,rfl⟩:=hv.isSlice
 have hn:n=xs.length:=by
  rcases hv with ⟨rfl,h⟩|⟨b,c',h,_⟩
  ·cases h;rfl
  ·cases h;rfl
 subst hn
 clear hv
 go_enter Tryz.func151,Tryz.ntmps151
 go_wp2_with fail
 go_loopg [8] xs.length (fun gk i wr=>∃ k:Nat,k≤xs.length∧i= .int .i64 k∧Aside (k+gk=xs.length)∧Bel w wr∧Aside (xs.any P=(xs.drop k).any P))
 case atStart=>exact⟨0,by omega,rfl,by show _=_;omega,bR _ _,rfl⟩
 case round=>
  obtain⟨k,hk,rfl,AG,hB,AS⟩:=hrel
  by_cases hlt:k<xs.length
  ·obtain⟨q,rfl⟩:∃ q,gk=q+1:=⟨gk - 1,by have:=AG.out;omega⟩
   obtain⟨g,hg,hcell⟩:∃ g,A=some ⟨g,0,none⟩∧w.cell? ⟨g,k,none⟩=some (.string ⟨xs[k].toArray⟩):=by
    rcases HV.out with ⟨h,_⟩|⟨b,c',h,_,_,hx⟩
    ·rw[h] at hlt;simp at hlt
    ·cases h;exact⟨b,rfl,hx k hlt⟩
   subst hg
   have AS':Aside (xs.any P=(P xs[k]||(xs.drop (k+1)).any P)):=by have:=AS.out;rw[List.drop_eq_getElem_cons hlt] at this;exact this
   have c0:wr.cell? ⟨g,k,none⟩=some (.string ⟨xs[k].toArray⟩):=(hB.cell (p:=⟨g,k,none⟩) (z9_ hcell)).trans hcell
   have hC:=HF.out xs[k] (List.getElem_mem hlt) wr hB
   clear AS hcell
   cases hP:P xs[k]
   all_goals
    have HP:=hiD hP
    rw[hP] at hC
    have HC:=hiD hC
    clear hP hC
   ·go_wp2_with ((with_reducible refine HC.out.mono ?_);rintro e w2 ⟨rfl,hb2⟩)
    go_roundg q
    case measure=>omega
    case rel=>exact⟨k+1,by omega,by go_num,by have:=AG.out;show _=_;omega,tQ hB hb2,by have:=AS'.out;rw[HP.out] at this;exact this⟩
   ·go_wp2_with ((with_reducible refine HC.out.mono ?_);rintro e w2 ⟨rfl,hb2⟩)
    go_ret
    exact⟨⟨k,rfl,by rw[AS'.out,HP.out];simp⟩,tQ hB hb2⟩
  ·obtain rfl:k=xs.length:=by omega
   have hs:xs.any P=false:=by have:=AS.out;rw[List.drop_length] at this;exact this
   have Hs:=hiD hs
   clear hs AS
   go_wp2_with fail
   go_ret
   exact⟨⟨-1,rfl,by rw[Hs.out];rfl⟩,hB⟩
theorem j4_ (f:FuncId) (cap:Array Value) (xs:LL) (v:Value) (w:World) (hv:Texts w v xs) (hl:xs.length≤1000000) (P:LU→Bool) (hF:AskS w f cap xs P):
  Calls Tryz.prog 86 #[v,.func (.func f) #[] cap] w fun e w'=>e= .returned (.bool (xs.any P))∧Bel w w':=by
 have hI:=z66_ f cap xs v w hv hl P hF
 obtain⟨A,n,c,rfl⟩:=hv.isSlice
 clear hF hv
 go_enter Tryz.func86,Tryz.ntmps86
 go_wp2_with (go_at_call 151;refine hI.mono ?_;rintro e w1 ⟨⟨i,rfl,hi⟩,hb1⟩;have Hi:=hiD hi;clear hi)
 all_goals
  go_ret
  exact⟨xd_ (by rw[← Hi.out]),hb1⟩
structure AskP (w:World) (f:FuncId) (cap:Array Value) (ps:List Nat) (P:Nat→Bool):Prop where
 call:∀ x∈ps,∀ W,Bel w W→Calls Tryz.prog f (#[z7_ x]++cap) W fun e W'=>e= .returned (.bool (P x))∧Bel W W'
 enter:∀ (args:Array Value) (W:World),(callFunc f args).run Tryz.prog W= .ok (.enter f args) W
theorem z6v_ (f:FuncId) (cap:Array Value) (ps:List Nat) (v:Value) (w:World) (hv:PtrsR w v ps) (hl:ps.length≤1000000) (P:Nat→Bool) (hF:AskP w f cap ps P):
  Calls Tryz.prog 192 #[v,.func (.func f) #[] cap] w fun e w'=>(∃ i:Int,e= .returned (.int .i64 i)∧decide (0≤i)=ps.any P)∧Bel w w':=by
 have HF:=hiD hF.call
 have hent:=hF.enter
 clear hF
 obtain⟨A,c,rfl,hc,hx⟩:=hv
 go_enter Tryz.func192,Tryz.ntmps192
 go_wp2_with fail
 go_loopg [8] ps.length (fun gk i wr=>∃ k:Nat,k≤ps.length∧i= .int .i64 k∧Aside (k+gk=ps.length)∧Bel w wr∧Aside (ps.any P=(ps.drop k).any P))
 case atStart=>exact⟨0,by omega,rfl,by show _=_;omega,bR _ _,rfl⟩
 case round=>
  obtain⟨k,hk,rfl,AG,hB,AS⟩:=hrel
  by_cases hlt:k<ps.length
  ·obtain⟨q,rfl⟩:∃ q,gk=q+1:=⟨gk - 1,by have:=AG.out;omega⟩
   obtain⟨g,rfl,hcells⟩:=hx.resolve_left (by intro h;rw[h] at hlt;simp at hlt)
   have hcell:w.cell? ⟨g,k,none⟩=some (.pointer (some ⟨ps[k],0,none⟩)):=hcells k ps[k] (List.getElem?_eq_getElem hlt)
   have AS':Aside (ps.any P=(P ps[k]||(ps.drop (k+1)).any P)):=by have:=AS.out;rw[List.drop_eq_getElem_cons hlt] at this;exact this
   have c0:wr.cell? ⟨g,k,none⟩=some (.pointer (some ⟨ps[k],0,none⟩)):=(hB.cell (p:=⟨g,k,none⟩) (z9_ hcell)).trans hcell
   have hC:=HF.out ps[k] (List.getElem_mem hlt) wr hB
   unfold z7_ at hC
   clear AS hcell hcells
   cases hP:P ps[k]
   all_goals
    have HP:=hiD hP
    rw[hP] at hC
    have HC:=hiD hC
    clear hP hC
   ·go_wp2_with ((with_reducible refine HC.out.mono ?_);rintro e w2 ⟨rfl,hb2⟩)
    go_roundg q
    case measure=>omega
    case rel=>exact⟨k+1,by omega,by go_num,by have:=AG.out;show _=_;omega,tQ hB hb2,by have:=AS'.out;rw[HP.out] at this;exact this⟩
   ·go_wp2_with ((with_reducible refine HC.out.mono ?_);rintro e w2 ⟨rfl,hb2⟩)
    go_ret
    exact⟨⟨k,rfl,by rw[AS'.out,HP.out];simp⟩,tQ hB hb2⟩
  ·obtain rfl:k=ps.length:=by omega
   have hs:ps.any P=false:=by have:=AS.out;rw[List.drop_length] at this;exact this
   have Hs:=hiD hs
   clear hs AS
   go_wp2_with fail
   go_ret
   exact⟨⟨-1,rfl,by rw[Hs.out];rfl⟩,hB⟩
theorem z1p_ (f:FuncId) (cap:Array Value) (ps:List Nat) (v:Value) (w:World) (hv:PtrsR w v ps) (hl:ps.length≤1000000) (P:Nat→Bool) (hF:AskP w f cap ps P):
  Calls Tryz.prog 120 #[v,.func (.func f) #[] cap] w fun e w'=>e= .returned (.bool (ps.any P))∧Bel w w':=by
 have hI:=z6v_ f cap ps v w hv hl P hF
 obtain⟨A,c,rfl,hc,hx⟩:=hv
 clear hF hx
 go_enter Tryz.func120,Tryz.ntmps120
 go_wp2_with (go_at_call 192;refine hI.mono ?_;rintro e w1 ⟨⟨i,rfl,hi⟩,hb1⟩;have Hi:=hiD hi;clear hi)
 all_goals
  go_ret
  exact⟨xd_ (by rw[← Hi.out]),hb1⟩
def ze4_ (w:World) (p:Nat) (ps:List Nat):Prop:=∀ q∈ps,(binOp .eql 118 (.pointer (some ⟨p,0,none⟩)) (.pointer (some ⟨q,0,none⟩))).run Tryz.prog w= .ok (.bool (p==q)) w
theorem zey_:∃ j,Tryz.prog.info? 161=some j∧j.size≠0:=by
 obtain⟨j,h1,h2⟩:∃ j,Tryz.prog.info? 161=some j∧j.size=14:=by
  have h:(Tryz.prog.info? 161).map (·.size)=some 14:=by kernel_rfl
  cases hj:Tryz.prog.info? 161 with
  |none=>rw[hj] at h;cases h
  |some j=>rw[hj] at h;exact⟨j,rfl,by simpa using h⟩
 exact⟨j,h1,by omega⟩
theorem zd9_ {w:World} {p q:Nat} {cp cq:Array Value} (hp:Bk w p 161 cp) (hq:Bk w q 161 cq):
  (binOp .eql 118 (.pointer (some ⟨p,0,none⟩)) (.pointer (some ⟨q,0,none⟩))).run Tryz.prog w= .ok (.bool (p==q)) w:=by
 obtain⟨j,h1,h2⟩:=zey_
 by_cases h:p=q
 ·subst h
  rw[run_eql_ptr_same w _ Tryz.underlying118 h1]
  simp
 ·rw[run_eql_ptr_other (a:=⟨p,0,none⟩) (b:=⟨q,0,none⟩) w Tryz.underlying118 h1 h2 (by intro e;exact h (congrArg Addr.block e)) hp hq]
  have:(p==q)=false:=beq_eq_false_iff_ne.2 h
  rw[this]
theorem zfm_ (p:Nat) (ps:List Nat) (v:Value) (w:World) (hv:PtrsR w v ps) (hl:ps.length≤1000000) (hE:ze4_ w p ps):
  Calls Tryz.prog 235 #[v,z7_ p] w fun e w'=>(∃ i:Int,e= .returned (.int .i64 i)∧decide (0≤i)=ps.contains p)∧w=w':=by
 have HE:=hiD hE
 clear hE
 obtain⟨A,c,rfl,hc,hx⟩:=hv
 unfold z7_
 go_enter Tryz.func235,Tryz.ntmps235
 go_wp2_with fail
 go_loopg [8] ps.length (fun gk i wr=>∃ k:Nat,k≤ps.length∧i= .int .i64 k∧Aside (k+gk=ps.length)∧Aside (wr=w)∧Aside (ps.contains p=(ps.drop k).contains p))
 case atStart=>exact⟨0,by omega,rfl,by show _=_;omega,rfl,rfl⟩
 case round=>
  obtain⟨k,hk,rfl,AG,AW,AS⟩:=hrel
  obtain rfl:wr=w:=AW.out
  clear AW
  by_cases hlt:k<ps.length
  ·obtain⟨q,rfl⟩:∃ q,gk=q+1:=⟨gk - 1,by have:=AG.out;omega⟩
   obtain⟨g,rfl,hcells⟩:=hx.resolve_left (by intro h;rw[h] at hlt;simp at hlt)
   have hcell:wr.cell? ⟨g,k,none⟩=some (.pointer (some ⟨ps[k],0,none⟩)):=hcells k ps[k] (List.getElem?_eq_getElem hlt)
   have hq:=HE.out ps[k] (List.getElem_mem hlt)
   have AS':Aside (ps.contains p=((p==ps[k])||(ps.drop (k+1)).contains p)):=by have:=AS.out;rw[List.drop_eq_getElem_cons hlt,List.contains_cons] at this;exact this
   clear AS hcells
   cases hP:p==ps[k]
   all_goals
    have HP:=hiD hP
    rw[hP] at hq
    clear hP
   ·go_wp2_with fail
    go_roundg q
    case measure=>omega
    case rel=>exact⟨k+1,by omega,by go_num,by have:=AG.out;show _=_;omega,rfl,by have:=AS'.out;rw[HP.out] at this;exact this⟩
   ·go_wp2_with fail
    go_ret
    exact⟨⟨k,rfl,by rw[AS'.out,HP.out];simp⟩,rfl⟩
  ·obtain rfl:k=ps.length:=by omega
   have hs:ps.contains p=false:=by have:=AS.out;rw[List.drop_length] at this;exact this
   have Hs:=hiD hs
   clear hs AS
   go_wp2_with fail
   go_ret
   exact⟨⟨-1,rfl,by rw[Hs.out];rfl⟩,rfl⟩
theorem z7s_ (p:Nat) (ps:List Nat) (v:Value) (w:World) (hv:PtrsR w v ps) (hl:ps.length≤1000000) (hE:ze4_ w p ps):
  Calls Tryz.prog 193 #[v,z7_ p] w fun e w'=>e= .returned (.bool (ps.contains p))∧w=w':=by
 have hI:=zfm_ p ps v w hv hl hE
 obtain⟨A,c,rfl,hc,hx⟩:=hv
 clear hE hx
 unfold z7_ at hI ⊢
 go_enter Tryz.func193,Tryz.ntmps193
 go_wp2_with (go_at_call 235;refine hI.mono ?_;rintro e w1 ⟨⟨i,rfl,hi⟩,rfl⟩;have Hi:=hiD hi;clear hi)
 all_goals
  go_ret
  exact⟨xd_ (by rw[← Hi.out]),rfl⟩
theorem z27_ {w:World} {A:Option Addr} {n c:Nat} {xs:LL} (h:Texts w (.slice A n c) xs):n=xs.length∧xs.length≤c:=by
 rcases h with ⟨rfl,h⟩|⟨b,c',h,hc,_⟩
 ·cases h;exact⟨rfl,nR _⟩
 ·cases h;exact⟨rfl,hc⟩
theorem vj_ {w:World} {A:Option Addr} {n c:Nat} {xs:LL} (h:Texts w (.slice A n c) xs) {k:Nat} (hk:k<xs.length):∃ g,A=some ⟨g,0,none⟩∧w.cell? ⟨g,k,none⟩=some (.string ⟨xs[k].toArray⟩):=by
 rcases h with ⟨h,_⟩|⟨b,c',h,_,_,hx⟩
 ·rw[h] at hk;simp at hk
 ·cases h;exact⟨b,rfl,hx k hk⟩
theorem zhm_ (x:LU) (xs:LL) (v:Value) (w:World) (hv:Texts w v xs) (hl:xs.length≤1000000):
  Calls Tryz.prog 136 #[v,.string ⟨x.toArray⟩] w fun e w'=>(∃ i:Int,e= .returned (.int .i64 i)∧decide (0≤i)=xs.contains x)∧w=w':=by
 have HV:=hiD hv
 obtain⟨A,n,c,rfl⟩:=hv.isSlice
 obtain⟨rfl,hc⟩:=z27_ hv
 clear hv
 go_enter Tryz.func136,Tryz.ntmps136
 go_wp2_with fail
 go_loopg [8] xs.length (fun gk i wr=>∃ k:Nat,k≤xs.length∧i= .int .i64 k∧Aside (k+gk=xs.length)∧Aside (wr=w)∧Aside (xs.contains x=(xs.drop k).contains x))
 case atStart=>exact⟨0,by omega,rfl,by show _=_;omega,rfl,rfl⟩
 case round=>
  obtain⟨k,hk,rfl,AG,AW,AS⟩:=hrel
  obtain rfl:wr=w:=AW.out
  clear AW
  by_cases hlt:k<xs.length
  ·obtain⟨q,rfl⟩:∃ q,gk=q+1:=⟨gk - 1,by have:=AG.out;omega⟩
   obtain⟨g,rfl,hcell⟩:=vj_ HV.out hlt
   have AS':Aside (xs.contains x=((x==xs[k])||(xs.drop (k+1)).contains x)):=by have:=AS.out;rw[List.drop_eq_getElem_cons hlt,List.contains_cons] at this;exact this
   clear AS
   cases hP:x==xs[k]
   ·have HP:=hiD hP
    go_wp2_with fail
    go_roundg q
    case measure=>omega
    case rel=>exact⟨k+1,by omega,by go_num,by have:=AG.out;show _=_;omega,rfl,by have:=AS'.out;rw[HP.out] at this;exact this⟩
   ·have HP:=hiD hP
    go_wp2_with fail
    go_ret
    exact⟨⟨k,rfl,by rw[AS'.out,HP.out];simp⟩,rfl⟩
  ·obtain rfl:k=xs.length:=by omega
   have hs:xs.contains x=false:=by have:=AS.out;rw[List.drop_length] at this;exact this
   have Hs:=hiD hs
   clear hs AS
   go_wp2_with fail
   go_ret
   exact⟨⟨-1,rfl,by rw[Hs.out];rfl⟩,rfl⟩
theorem z8e_ (x:LU) (xs:LL) (v:Value) (w:World) (hv:Texts w v xs) (hl:xs.length≤1000000):
  Calls Tryz.prog 196 #[v,.string ⟨x.toArray⟩] w fun e w'=>e= .returned (.bool (xs.contains x))∧w=w':=by
 have hI:=zhm_ x xs v w hv hl
 obtain⟨A,n,c,rfl⟩:=hv.isSlice
 clear hv
 go_enter Tryz.func196,Tryz.ntmps196
 go_wp2_with (go_at_call 136;refine hI.mono ?_;rintro e w1 ⟨⟨i,rfl,hi⟩,rfl⟩;have Hi:=hiD hi;clear hi)
 all_goals
  go_ret
  exact⟨xd_ (by rw[← Hi.out]),rfl⟩
theorem z9k_ {ops:Array Oper} {rest:List Oper} {o:Oper} {a:Act} {Q:Exit→Act→World→Prop} {w:World} (hgd:o.guard=none) (s x:Operand) (ho:o.op= .call {callee:= .builtin .append,args:=#[s,x],argTypes:=#[22,22]})
  {v xv:Value} {xs ys:LL} {B:Nat} (hs:a.eval s=v) (hb:Own B w v xs)
  (hx:a.eval x=xv) (hy:Texts w xv ys) (hlen:xs.length+ys.length<4398046511104)
  (h:∀ v' w',Own B w' v' (xs++ys)→w.grownBy w' v.ownBlock→wpList Tryz.prog ops Q rest (a.put o.dst v') w'):wpList Tryz.prog ops Q (o::rest) a w:=by
 obtain⟨i,h1,h2,h3,h4⟩:=xu_
 rcases hy with ⟨rfl,rfl⟩|⟨b,c,rfl,hc,hlt,hcell⟩
 ·refine wpList_append_own_none hgd s x 22 ho B 9 i 1 Tryz.underlying22 h1 v _ _ hs hb.1 hx ?_
  exact h v w (by simpa using hb) (World.grownBy.refl _ _)
 ·refine wpList_append_own _ hgd s x 22 ho B 9 i (.string ⟨#[]⟩) 1 16 Tryz.underlying22 h1 h2 h3 h4 rfl (by decide) v _ _ hs hb.1 ⟨b,0,none⟩ ys.length c (ys.map qm_) hx (by simp) ?_ ?_ (by unfold maxLen;omega) (by omega) hb.2 ?_
  ·intro j u hj
   rw[kp_]
   have hjl:j<ys.length:=by simpa using (List.getElem?_eq_some_iff.1 hj).1
   rw[hcell j hjl]
   simp [hjl] at hj
   rw[← hj];rfl
  ·intro u hu
   simp at hu
   obtain⟨q,_,rfl⟩:=hu
   rfl
  ·intro v' w' ho' hg _
   exact h v' w' ⟨by simpa using ho',nT hb.2 hg.size⟩ hg
theorem zdy_ (w:World):Own w.heap.size (w.alloc (.cells #[] 9)) (.slice (some ⟨w.heap.size,0,none⟩) 0 0) []:=
 ⟨⟨rfl,.inr ⟨w.heap.size,0,#[],rfl,nR _,heap_alloc_new w _,nR _,by decide,rfl,rfl⟩⟩,by simp⟩
theorem Own.bel {B:Nat} {W w w':World} {v:Value} {xs:LL} (hb:Below B W w) (hO:Own B w v xs) (hg:w.grownBy w' v.ownBlock):Below B W w':=hb.grown hg hO.2 (fun k hk=>(hO.lt k hk).1)
theorem yg_ (xs:LL) (v:Value) (w:World) (hv:Texts w v xs) (hl:xs.length≤1000000):
  Calls Tryz.prog 26 #[v] w fun e w'=>∃ v',e= .returned v'∧Own w.heap.size w' v' xs∧Bel w w':=by
 have hb0:Bel w (w.alloc (.cells #[] 9)):=(bR _ _).alloc (nR _) _
 have hv1:=hv.below hb0
 have ho:=zdy_ w
 have hq:=fun (a:Option Addr) (n c:Nat)=>Lib.run_eql_slice_nil (P:=Tryz.prog) w 22 9 a n c 0 0 Tryz.underlying22
 rcases id hv with ⟨rfl,rfl⟩|⟨b,c,rfl,hc,hlt,hx⟩
 ·go_enter Tryz.func26,Tryz.ntmps26
  go_wp2_with fail
  go_ret
  exact⟨_,rfl,Own.nil (nR _),bR _ _⟩
 ·clear hx hv
  go_enter Tryz.func26,Tryz.ntmps26
  go_wp2_with (at_builtin;refine z9k_ rfl _ _ rfl rfl ho rfl hv1 (by simp;omega) ?_;intro v' w1 hO1 hg1)
  go_ret
  exact⟨_,rfl,by simpa using hO1,Own.bel hb0 ho hg1⟩
end Go.Proofs.YtakfpngfpknedaaGreatDoor
