import Derived.Test.YtakfpngfpknedaaGreatDoorE0j
set_option linter.all false
set_option maxHeartbeats 8000000
set_option maxRecDepth 100000
namespace Go.Proofs.YtakfpngfpknedaaGreatDoor
open Go.RowKit
section
variable {ops:Array Oper} {o:Oper} {a:Act} {K:Act→World→Prop} {Q:Exit→Act→World→Prop} {E:Prop}
theorem z4l_ {w:World} (hgd:o.guard=none) (s x:Operand) (ho:o.op= .call {callee:= .builtin .append,args:=#[s,x],argTypes:=#[22,22]})
  {v xv:Value} {xs ys:LL} {B:Nat} (hs:a.eval s=v) (hb:Own B w v xs)
  (hx:a.eval x=xv) (hy:Texts w xv ys) (hlen:xs.length+ys.length<4398046511104)
  (h:∀ v' w',Own B w' v' (xs++ys)→w.grownBy w' v.ownBlock→K (a.put o.dst v') w'):
  if Region.wanted o (yielded ops a.tmps)=true then Oper.wp Tryz.prog o a w K Q else E:=by
 obtain⟨i,h1,h2,h3,h4⟩:=xu_
 rcases hy with ⟨rfl,rfl⟩|⟨b,c,rfl,hc,hlt,hcell⟩
 ·have hw:Region.wanted o (yielded ops a.tmps)=true:=by simp [Region.wanted,hgd]
  rw[if_pos hw]
  have hr:(Builtin.append_ #[22,22] o.type #[v,.slice none 0 0]).run Tryz.prog w= .ok v w:=by
   rcases hb.1.2 with ⟨rfl,_⟩|⟨g,cap,cur,rfl,_,_,hnc,_⟩
   ·simp [Builtin.append_,run_underlying Tryz.underlying22,sizeOf,typeInfo,h1,Builtin.lenOf,Builtin.firstCells]
   ·simp [Builtin.append_,run_underlying Tryz.underlying22,sizeOf,typeInfo,h1,Builtin.lenOf,Builtin.firstCells,hnc,storeCells]
  unfold Oper.wp execOp
  simp only[ho,resolve,invoke,builtin,Sem.run_bind,Sem.run_pure,Result.andThen_ok,List.map_toArray,List.map_cons,List.map_nil,hs,hx,hr]
  exact h v w (by simpa using hb) (World.grownBy.refl _ _)
 ·refine xa_ hgd s x 22 ho B 9 i (.string ⟨#[]⟩) 1 16 Tryz.underlying22 h1 h2 h3 h4 rfl (by decide) v _ _ hs hb.1 ⟨b,0,none⟩ ys.length c (ys.map qm_) hx (by simp) ?_ ?_ (by unfold maxLen;omega) (by omega) hb.2 ?_
  ·intro j u hj
   rw[kp_]
   have hjl:j<ys.length:=by simpa using (List.getElem?_eq_some_iff.1 hj).1
   rw[hcell j hjl]
   simp [hjl] at hj
   rw[← hj];rfl
  ·intro u hu
   simp at hu
   obtain⟨q,_,rfl⟩:=hu
   rfl
  ·intro v' w' ho' hg
   exact h v' w' ⟨by simpa using ho',nT hb.2 hg.size⟩ hg
end
theorem z6a_ {w w':World} {r:Option Nat} (h:w.drew.grownBy w' r):w.grownBy w' r:=⟨h.os,h.tape,h.output,h.size,h.block⟩
structure DefLim (d:DefS):Prop where
 oid:d.oid.length≤1000000
 names:d.names.length≤1000000∧∀ x∈d.names,x.length≤1000000
 sup:d.sup.length≤1000000∧∀ x∈d.sup,x.length≤1000000
 must:d.must.length≤1000000∧∀ x∈d.must,x.length≤1000000
 may:d.may.length≤1000000∧∀ x∈d.may,x.length≤1000000
def OwnP (B:Nat) (w:World) (v:Value) (ps:List Nat):Prop:=w.ownsRow B 118 1 v ps.length (ps.map z7_)∧B≤w.heap.size∧(ps=[]→v= .slice none 0 0)
theorem OwnP.nil {B:Nat} {w:World} (hB:B≤w.heap.size):OwnP B w (.slice none 0 0) []:=⟨World.ownsRow_nil _ _ _ _,hB,fun _=>rfl⟩
theorem OwnP.lt {B:Nat} {w:World} {v:Value} {ps:List Nat} (h:OwnP B w v ps):∀ k,v.ownBlock=some k→B≤k∧k<w.heap.size:=fun k hk=>h.1.lt k hk
theorem OwnP.keep {B:Nat} {w w':World} {v:Value} {ps:List Nat} (h:OwnP B w v ps) {r:Option Nat} (hg:w.grownBy w' r) (hr:∀ k,v.ownBlock=some k→r≠some k):OwnP B w' v ps:=by
 refine⟨h.1.kept hg ?_,nT h.2.1 hg.size,h.2.2⟩
 rcases hv:v.ownBlock with _|g
 ·exact .inl rfl
 ·exact .inr (fun he=>hr g hv he.symm)
theorem OwnP.below {B:Nat} {w w':World} {v:Value} {ps:List Nat} (h:OwnP B w v ps) (hb:Bel w w'):OwnP B w' v ps:=h.keep (z1_ hb none) (fun k _ he=>by cases he)
theorem OwnP.isSlice {B:Nat} {w:World} {v:Value} {ps:List Nat} (h:OwnP B w v ps):∃ A c,v= .slice A ps.length c∧ps.length≤c:=by
 obtain⟨⟨h1,h2⟩,_⟩:=h
 rcases h2 with ⟨rfl,hn⟩|⟨g,cap,cur,rfl,r2,r3,r4,_⟩
 ·exact⟨none,0,by rw[hn],by omega⟩
 ·exact⟨_,cap,rfl,r4⟩
theorem OwnP.ty {B:Nat} {w:World} {v:Value} {ps:List Nat} (h:OwnP B w v ps) {k:Nat} (hk:v.ownBlock=some k):∃ cs,Bk w k 118 cs:=by
 obtain⟨⟨h1,h2⟩,_⟩:=h
 rcases h2 with ⟨rfl,hn⟩|⟨g,cap,cur,rfl,r2,r3,r4,r5,r6,r7⟩
 ·simp [Value.ownBlock] at hk
 ·have hgk:g=k:=by simpa [Value.ownBlock] using hk
  subst hgk
  exact⟨cur,r3⟩
theorem zf8_ {w:World} {g g':Nat} {t t':TypeId} {cs cs':Array Value} (h:Bk w g t cs) (h':Bk w g' t' cs') (hne:t≠t'):g≠g':=by
 rintro rfl
 unfold Bk at h h'
 rw[h] at h'
 cases h'
 exact hne rfl
theorem OwnP.reads {B:Nat} {w:World} {v:Value} {ps:List Nat} (h:OwnP B w v ps):PtrsR w v ps:=by
 obtain⟨⟨h1,h2⟩,_⟩:=h
 rcases h2 with ⟨rfl,hn⟩|⟨g,cap,cur,rfl,r2,r3,r4,r5,r6,r7⟩
 ·exact⟨none,0,by rw[hn],by omega,.inl (List.eq_nil_of_length_eq_zero hn)⟩
 ·refine⟨_,cap,rfl,r4,.inr ⟨g,rfl,fun j p hj=>?_⟩⟩
  have hjl:j<ps.length:=(List.getElem?_eq_some_iff.1 hj).1
  simp only[World.cell?,r3]
  have:(cur.toList.take (ps.length * 1))[j]?=some (z7_ p):=by rw[r7];simp [hj]
  rw[List.getElem?_take] at this
  simpa [hjl] using this
theorem OwnP.notext {B:Nat} {w:World} {v:Value} {ps:List Nat} (h:OwnP B w v ps) {k:Nat} (hk:v.ownBlock=some k):NoText w [k]:=by
 intro x hx u hu
 have:x=k:=by simpa using hx
 subst this
 obtain⟨A',c',rfl,_,hx'⟩:=h.reads
 cases ps with
 |nil=>
  rw[h.2.2 rfl] at hk
  simp [Value.ownBlock] at hk
 |cons p t=>
  rcases hx' with hx'|⟨g',rfl,hcl⟩
  ·cases hx'
  ·have hgk:g'=x:=by simpa [Value.ownBlock] using hk
   subst hgk
   rw[hcl 0 p rfl] at hu
   cases hu
theorem zl6_:∃ i,Tryz.prog.info? 118=some i∧i.zero=some (.pointer none)∧i.size=1∧i.bytes=8:=by
 obtain⟨i,h1,h2,h3,h4⟩:=info_parts (show (Tryz.prog.info? 118).map (fun i=>(i.zero,i.size,i.bytes))=some (some (.pointer none),1,8) by kernel_rfl)
 exact⟨i,h1,h2,h3,h4⟩
theorem zd8_ {ops:Array Oper} {rest:List Oper} {o:Oper} {a:Act} {Q:Exit→Act→World→Prop} (hgd:o.guard=none) (s x:Operand) (ho:o.op= .call {callee:= .builtin .append,args:=#[s,x],argTypes:=#[115,115]})
  {v:Value} {ps:List Nat} {B N:Nat} {w0:World} {p:Nat} (hs:a.eval s=v) (hb:OwnP B w0 v ps)
  (hx:a.eval x= .slice (some ⟨N,0,none⟩) 1 1) (hN:N=w0.heap.size) (hlen:ps.length<4398046511104)
  (h:∀ v' w',OwnP B w' v' (ps++[p])→w0.grownBy w' v.ownBlock→wpList Tryz.prog ops Q rest (a.put o.dst v') w'):wpList Tryz.prog ops Q (o::rest) a (w0.alloc (.cells #[.pointer (some ⟨p,0,none⟩)] 118)):=by
 subst hN
 obtain⟨i,h1,h2,h3,h4⟩:=zl6_
 have hb':=hb.below ((bR _ _).alloc (nR _) (.cells #[.pointer (some ⟨p,0,none⟩)] 118))
 refine wpList_append_own _ hgd s x 115 ho B 118 i (.pointer none) 1 8 Tryz.underlying115 h1 h2 h3 h4 rfl (by decide) v _ _ hs hb'.1 ⟨w0.heap.size,0,none⟩ 1 1 [z7_ p] hx rfl ?_ ?_ (by unfold maxLen;omega) (by omega) hb'.2.1 ?_
 ·intro j u hj
  match j,hj with
  |0,hj=>simp at hj;subst hj;simp [Addr.add,z7_]
  |(j+1),hj=>simp at hj
 ·intro u hu;simp at hu;subst hu;rfl
 ·intro v' w' ho' hg _
  refine h v' w' ⟨?_,nT hb'.2.1 hg.size,fun he=>absurd he (by simp)⟩ (gT (World.grownBy_alloc _ _ _) hg)
  simpa using ho'
theorem OwnP.bel {B:Nat} {W w w':World} {v:Value} {ps:List Nat} (hb:Below B W w) (hO:OwnP B w v ps) (hg:w.grownBy w' v.ownBlock):Below B W w':=hb.grown hg hO.2.1 (fun k hk=>(hO.lt k hk).1)
structure SchB (B:Nat) (w:World) (s m:Nat) (ps:List Nat) (L:List DefS):Prop where
 head:∃ lv,Bk w s 117 #[lv,.map (some m)]∧OwnP B w lv ps
 map:∃ es c,w.heap[m]?=some (.map es c)∧MapR kvS es (xr_ ps L)
 len:ps.length=L.length
 nodup:ps.Nodup
 defs:∀ (i p:Nat) (d:DefS),ps[i]?=some p→L[i]?=some d→DefAt w p d
 new:B≤s∧B≤m
theorem z5s_:∀ (ps:List Nat) (L:List DefS) (k:Bool × LU) (v:Value),qe_ (xr_ ps L) k=some v→∃ q,v=z7_ q
 |[],_,k,v,h=>by simp [xr_,qe_] at h
 |_::_,[],k,v,h=>by simp [xr_,qe_] at h
 |p::ps,d::L,k,v,h=>by
  rw[xr_,xi_,z17_] at h
  split at h
  ·simp at h;exact⟨p,h.symm⟩
  ·exact z5s_ ps L k v (by simpa using h)
def z2n_ (ps:List Nat) (L:List DefS) (p:Nat) (ks:List (Bool × LU)):List ((Bool × LU) × Value):=xr_ ps L++ks.map fun k=>(k,z7_ p)
theorem za7_ (ps:List Nat) (L:List DefS) (p:Nat) (ks:List (Bool × LU)) (k:Bool × LU):z2n_ ps L p (ks++[k])=z2n_ ps L p ks++[(k,z7_ p)]:=by
 simp [z2n_]
theorem zb6_ {ps:List Nat} {L:List DefS} (hl:ps.length=L.length) (p:Nat) (ks:List (Bool × LU)) (k:Bool × LU):
  ((L.flatMap DefS.keys++ks).contains k=false→qe_ (z2n_ ps L p ks) k=none)∧((L.flatMap DefS.keys++ks).contains k=true→∃ q,qe_ (z2n_ ps L p ks) k=some (z7_ q)):=by
 unfold z2n_
 rw[xi_,z17_]
 have hk:=z3w_ ps L hl
 constructor
 ·intro h
  have h':k ∉ L.flatMap DefS.keys∧k ∉ ks:=by
   rw[List.contains_eq_mem,decide_eq_false_iff_not,List.mem_append,not_or] at h
   exact h
  have h1:qe_ (xr_ ps L) k=none:=by
   rw[look_none]
   rintro x hx rfl
   exact h'.1 (by rw[← hk];exact List.mem_map_of_mem hx)
  rw[h1,if_neg h'.2]
  rfl
 ·intro h
  cases hl1:qe_ (xr_ ps L) k with
  |some v=>
   obtain⟨q,rfl⟩:=z5s_ ps L k v hl1
   exact⟨q,rfl⟩
  |none=>
   have h1:k ∉ L.flatMap DefS.keys:=by
    intro hm
    rw[← hk] at hm
    obtain⟨x,hx,hx2⟩:=List.mem_map.1 hm
    exact look_none.1 hl1 x hx hx2
   have h2:k∈ks:=by
    rw[List.contains_eq_mem,decide_eq_true_eq,List.mem_append] at h
    exact h.resolve_left h1
   rw[if_pos h2]
   exact⟨p,rfl⟩
theorem zbd_ {M ks:List (Bool × LU)} {k:Bool × LU} (hk:M.contains k=false):kv_ M (k::ks)=kv_ (M++[k]) ks:=by
 rw[kv_,hk];rfl
theorem zae_ {M ks:List (Bool × LU)} {k:Bool × LU} (hk:M.contains k=true):kv_ M (k::ks)=false:=by
 rw[kv_,hk];rfl
theorem zbv_ (w:World) (m c:Nat) (es:Array MapEntry) (R:List ((Bool × LU) × Value)) (hw:w.heap[m]?=some (.map es c)) (h:MapR kvS es R) (k:Bool × LU) (v:Value) (hn:qe_ R k=none):
  ∃ W es' c',(Instr.mapUpdate 114 (.map (some m)) (.agg #[.bool k.1,.string ⟨k.2.toArray⟩]) v).run Tryz.prog w= .ok () W∧W.heap[m]?=some (.map es' c')∧MapR kvS es' (R++[(k,v)])∧w.grownBy W (some m):=
 ⟨_,_,_,z4r_ Tryz.underlying114 z58_ z6y_ w m c es R hw h k v hn,jg_ (Array.getElem?_eq_some_iff.1 hw).1,h.push k v c,q3_ _ _ _ _⟩
structure PJ (w1:World) (m p:Nat) (ps:List Nat) (L:List DefS) (c:Bool) (ns:LL) (R:Bool) (wr:World) (k:Nat):Prop where
 map:∃ es cl,wr.heap[m]?=some (.map es cl)∧MapR kvS es (z2n_ ps L p ((ns.take k).map fun n=>(c,z2_ n)))
 mods:Mods [m] w1 wr
 rest:kv_ (L.flatMap DefS.keys++(ns.take k).map fun n=>(c,z2_ n)) ((ns.drop k).map fun n=>(c,z2_ n))=R
structure KeyAt (wr W:World) (kb:Nat) (c:Bool) (n:LU):Prop where
 bk:Bk W kb 168 #[.bool c,.string ⟨n.toArray⟩]
 bel:Bel wr W
 ge:wr.heap.size≤kb
def z3q_ (B:Nat) (w:World) (s m:Nat) (ps:List Nat) (L:List DefS) (p:Nat) (d:DefS) (e:Ending) (w':World):Prop:=Below B w w'∧match kv_ (L.flatMap DefS.keys) d.keys with
 |true=>e= .returned (.bool true)∧SchB B w' s m (ps++[p]) (L++[d])∧∀ v xs,Texts w v xs→Texts w' v xs
 |false=>e= .returned (.bool false)
theorem z5i_ {w:World} {m p:Nat} {t:TypeId} {cs:Array Value} {es:Array MapEntry} {c:Nat} (hm:w.heap[m]?=some (.map es c)) (hp:Bk w p t cs):p≠m:=by
 rintro rfl
 unfold Bk at hp
 rw[hm] at hp
 cases hp
theorem put_c6 (B s m p:Nat) (ps:List Nat) (L:List DefS) (d:DefS) (w:World) (hS:SchB B w s m ps L) (hB0:B≤w.heap.size) (hpsl:ps.length<4398046511104) (hpn:p ∉ ps) (hd:DefAt w p d) (hl:DefLim d):
  Calls Tryz.prog 75 #[z7_ s,z7_ p] w (z3q_ B w s m ps L p d):=by
 have hd0:=hiD hd
 obtain⟨vn,vs,vm,vy,hB,hvn,_⟩:=id hd
 have c0:w.cell? ⟨p,0,none⟩=some (.bool d.cls):=hB.cell 0
 have c1:w.cell? ⟨p,1,none⟩=some (.string ⟨d.oid.toArray⟩):=hB.cell 1
 have c2:w.cell? ⟨p,2,none⟩=some vn:=hB.cell 2
 have hplt:=hB.lt
 have hbo:Bel w (w.alloc (.cells #[.string ⟨d.oid.toArray⟩] 9)):=(bR _ _).alloc (nR _) _
 have ho1:Own w.heap.size (w.alloc (.cells #[.string ⟨d.oid.toArray⟩] 9)) (.slice (some ⟨w.heap.size,0,none⟩) 1 1) [d.oid]:=by
  have:=Strs.made1 w d.oid
  exact⟨this.1,this.2.2⟩
 have hy1:=hvn.below hbo
 obtain⟨An,nn,cn,rfl⟩:=hvn.isSlice
 have hln:[d.oid].length+d.names.length<4398046511104:=by have:=hl.names.1;simp;omega
 have HO:=hiD ho1
 have HY:=hiD hy1
 have HL:=hiD hl
 have s1:(w.alloc (.cells #[.string ⟨d.oid.toArray⟩] 9)).cell? ⟨p,1,none⟩=some (.string ⟨d.oid.toArray⟩):=(hB.alloc _).cell 1
 have s2:(w.alloc (.cells #[.string ⟨d.oid.toArray⟩] 9)).cell? ⟨p,2,none⟩=some (.slice An nn cn):=(hB.alloc _).cell 2
 have HBK:=hiD (hB.alloc (.cells #[.string ⟨d.oid.toArray⟩] 9))
 clear ho1 hy1 hvn hB hd hl hbo
 unfold z7_
 go_enter Tryz.func75,Tryz.ntmps75
 go_wp2_with fail
 go_region_held3 (fun w'=>w'.cell? ⟨p,1,none⟩=some (.string ⟨d.oid.toArray⟩)∧w'.cell? ⟨p,2,none⟩=some (.slice An nn cn)) (first|exact⟨c1,c2⟩|exact⟨s1,s2⟩|exact s3) ((refine z4l_ (v:= .slice (some ⟨w.heap.size,0,none⟩) 1 1) (xv:= .slice An nn cn) (xs:=[d.oid]) (ys:=d.names) (B:=w.heap.size) (by rfl) _ _ (by rfl) rfl HO.out rfl HY.out hln ?_;intro v1 w1 hO1 hg0;have hg1:=z6a_ hg0;have hB1:=HBK.out.grown hg1 (by simp [Value.ownBlock];omega);have s3:w1.cell? ⟨p,1,none⟩=some (.string ⟨d.oid.toArray⟩)∧w1.cell? ⟨p,2,none⟩=some (.slice An nn cn):=⟨hB1.cell 1,hB1.cell 2⟩;obtain⟨A1,cp1,rfl,hcp1⟩:=hO1.isSlice))
 all_goals
  have hb1:Bel w w1:=((bR _ _).alloc (nR _) _).grown hg1 (by simp) (by intro k hk;simp [Value.ownBlock] at hk;omega)
  have HB1:=hiD hb1
  have HBP:=hiD hB1
  obtain⟨es0,cl0,hm0,hM0⟩:=hS.map
  obtain⟨lv,hs0,hown⟩:=hS.head
  obtain⟨Al,cl1,rfl,hcl1⟩:=hown.isSlice
  have HOWN:=hiD hown
  have hmlt:=(Array.getElem?_eq_some_iff.1 hm0).1
  have hm1:w1.heap[m]?=some (.map es0 cl0):=(hb1.block m hmlt).trans hm0
  have HS1:=hiD (hs0.below hb1)
  have HMW:Hid (∃ es cl,w1.heap[m]?=some (.map es cl)):=hiD ⟨_,_,hm1⟩
  have HPM:=hiD (z5i_ hm1 hB1)
  have HSM:=hiD (z5i_ hm1 (hs0.below hb1))
  have HO1:=hiD hO1
  obtain⟨R,hR⟩:∃ R,kv_ (L.flatMap DefS.keys) d.keys=R:=⟨_,rfl⟩
  obtain⟨ns,hns⟩:∃ ns,[d.oid]++d.names=ns:=⟨_,rfl⟩
  have hkeys:d.keys=ns.map fun n=>(d.cls,z2_ n):=by rw[← hns];rfl
  have hnsl:∀ x∈ns,x.length≤1000000:=by
   intro x hx
   rw[← hns] at hx
   rcases List.mem_append.1 hx with h|h
   ·have:x=d.oid:=by simpa using h
    rw[this]
    exact HL.out.oid
   ·exact HL.out.names.2 x h
  have hlen:(d.names.length:Int)+1=(ns.length:Int):=by rw[← hns];simp
  have hnl:ns.length≤1000001:=by rw[← hns];have:=HL.out.names.1;simp;omega
  rw[hns] at HO1 hcp1
  have J0:PJ w1 m p ps L d.cls ns R w1 0:=⟨⟨es0,cl0,hm1,by simpa [z2n_] using hM0⟩,Mods.refl _ _,by rw[List.take_zero,List.drop_zero,List.map_nil,List.append_nil,← hkeys];exact hR⟩
  have HJ0:=hiD J0
  have HR:=hiD hR
  have HNS:=hiD hnsl
  have HKE:=hiD hkeys
  clear J0 hR hnsl hkeys hm1 hmlt hm0 hM0 hown hs0 hb1 hg0 hg1 s3 s1 s2 c1 c2 c0 hO1 hB1 hln
  go_wp2_with fail
  rw[hns,hlen]
  clear hlen hns
  go_loopg [19] ns.length (fun gk i wr=>∃ k:Nat,k≤ns.length∧i= .int .i64 k∧Aside (k+gk=ns.length)∧Aside (PJ w1 m p ps L d.cls ns R wr k))
  case atStart=>exact⟨0,Nat.zero_le _,rfl,by show _=_;omega,HJ0.out⟩
  case round=>
   clear HJ0
   obtain⟨k,hk,rfl,AG,AJ⟩:=hrel
   by_cases hlt:k<ns.length
   ·obtain⟨q,rfl⟩:∃ q,gk=q+1:=⟨gk - 1,by have:=AG.out;omega⟩
    have hT:Texts wr (.slice A1 ns.length cp1) ns:=by
     obtain⟨es,cl,hm,hM⟩:=AJ.out.map
     obtain⟨esx,clx,hmx⟩:=HMW.out
     exact HO1.out.texts.mods AJ.out.mods (NoText.of_map hmx)
    obtain⟨g,rfl,ck⟩:=vj_ hT hlt
    have cp0:wr.cell? ⟨p,0,none⟩=some (.bool d.cls):=(AJ.out.mods.bk HBP.out (by simpa using HPM.out)).cell 0
    have hpl:p<wr.heap.size:=(AJ.out.mods.bk HBP.out (by simpa using HPM.out)).lt
    have cs1:wr.cell? ⟨s,1,none⟩=some (.map (some m)):=(AJ.out.mods.bk HS1.out (by simpa using HSM.out)).cell 1
    have hpne:p≠wr.heap.size:=by omega
    have hnk:=HNS.out ns[k] (List.getElem_mem hlt)
    clear hT
    go_wp2_with fail
    go_region_held3 (fun w'=>w'.cell? ⟨p,0,none⟩=some (.bool d.cls)) (first|exact cp0|exact cp2|exact qw_ (qw_ cp2 hpne) hpne|go_keep) ((go_at_call 116;refine(xt_ ns[k] _ (by omega)).mono ?_;rintro e w2 ⟨rfl,hb2⟩;have cp2:w2.cell? ⟨p,0,none⟩=some (.bool d.cls):=(hb2.cell (p:=⟨p,0,none⟩) (by simp;omega)).trans (by first|exact cp0|exact(World.cell?_alloc_lt _ _ _ hpl).trans cp0);(first|(have hb2a:Below (wr.alloc (.cells #[.bool false,.string ⟨#[]⟩] 168)).heap.size (wr.alloc (.cells #[.bool false,.string ⟨#[]⟩] 168)) w2:=q7_ hb2;have kk2:=(Bk.new wr 168 #[.bool false,.string ⟨#[]⟩]).below hb2a;have kf0:=kk2.frozen 0;have kf1:=kk2.frozen 1;have kc0:w2.cell? ⟨wr.heap.size,0,none⟩=some (.bool false):=kk2.cell 0;have kc1:w2.cell? ⟨wr.heap.size,1,none⟩=some (.string ⟨#[]⟩):=kk2.cell 1)|skip)))
    all_goals
     first
     |(have HK:=hiD (⟨Bk.new w2 _ _,(q7_ hb2).alloc hb2.size _,hb2.size⟩:KeyAt wr (w2.alloc (.cells #[.bool d.cls,.string ⟨(z2_ ns[k]).toArray⟩] 168)) w2.heap.size d.cls (z2_ ns[k]));generalize w2.alloc (.cells #[.bool d.cls,.string ⟨(z2_ ns[k]).toArray⟩] 168)=W4 at *;generalize w2.heap.size=kb at *)
     |(have HK:=hiD (⟨(kk2.set 0 (.bool d.cls)).set 1 (.string ⟨(z2_ ns[k]).toArray⟩),((((bR _ _).alloc (nR _) _).trans (hb2a.mono (by simp))).setCell (nR _) _).setCell (nR _) _,nR _⟩:KeyAt wr ((w2.setCell ⟨wr.heap.size,0,none⟩ (.bool d.cls)).setCell ⟨wr.heap.size,1,none⟩ (.string ⟨(z2_ ns[k]).toArray⟩)) wr.heap.size d.cls (z2_ ns[k]));generalize (w2.setCell ⟨wr.heap.size,0,none⟩ (.bool d.cls)).setCell ⟨wr.heap.size,1,none⟩ (.string ⟨(z2_ ns[k]).toArray⟩)=W4 at *;clear kk2 kf0 kf1 kc0 kc1 hb2a;generalize wr.heap.size=kb at HK ⊢)
     clear hb2 cp2
     have cs4:W4.cell? ⟨s,1,none⟩=some (.map (some m)):=((AJ.out.mods.bk HS1.out (by simpa using HSM.out)).below HK.out.bel).cell 1
     have ck0:W4.cell? ⟨kb,0,none⟩=some (.bool d.cls):=HK.out.bk.cell 0
     have ck1:W4.cell? ⟨kb,1,none⟩=some (.string ⟨(z2_ ns[k]).toArray⟩):=HK.out.bk.cell 1
     obtain⟨es,cl,hmm,hM⟩:=AJ.out.map
     have hm4:W4.heap[m]?=some (.map es cl):=(HK.out.bel.block m (Array.getElem?_eq_some_iff.1 hmm).1).trans hmm
     have hrest:=AJ.out.rest
     rw[List.drop_eq_getElem_cons hlt,List.map_cons] at hrest
     obtain⟨l1,l2⟩:=zb6_ hS.len p ((ns.take k).map fun n=>(d.cls,z2_ n)) (d.cls,z2_ ns[k])
     have hlk:=z8x_ W4.drew m cl es _ hm4 hM (d.cls,z2_ ns[k])
     unfold kvS at hlk
     cases hcon:(L.flatMap DefS.keys++(ns.take k).map fun n=>(d.cls,z2_ n)).contains (d.cls,z2_ ns[k])
     ·have hup:=zbv_ W4.drew.drew m cl es _ hm4 hM (d.cls,z2_ ns[k]) (z7_ p) (l1 hcon)
      rw[l1 hcon] at hlk
      rw[zbd_ hcon] at hrest
      obtain⟨W6,es6,c6,hu6,hm6,hM6,hg6⟩:=hup
      have hmlt:=(Array.getElem?_eq_some_iff.1 hmm).1
      have hkm:kb≠m:=by have:=HK.out.ge;omega
      have cs6:W6.cell? ⟨s,1,none⟩=some (.map (some m)):=hg6.cell cs4 (by simpa using HSM.out)
      have ck60:W6.cell? ⟨kb,0,none⟩=some (.bool d.cls):=hg6.cell ck0 (by simpa using hkm)
      have ck61:W6.cell? ⟨kb,1,none⟩=some (.string ⟨(z2_ ns[k]).toArray⟩):=hg6.cell ck1 (by simpa using hkm)
      have hmods:Mods [m] w1 W6:=(AJ.out.mods.trans (Mods.of_below HK.out.bel _)).drew.drew.trans (Mods.of_grown hg6 (List.mem_singleton_self m))
      have hmap:∃ es cl,W6.heap[m]?=some (.map es cl)∧MapR kvS es (z2n_ ps L p ((ns.take (k+1)).map fun n=>(d.cls,z2_ n))):=by
       rw[List.take_succ_eq_append_getElem hlt,List.map_append,List.map_cons,List.map_nil,za7_]
       exact⟨_,_,hm6,hM6⟩
      have hrest2:kv_ (L.flatMap DefS.keys++(ns.take (k+1)).map fun n=>(d.cls,z2_ n)) ((ns.drop (k+1)).map fun n=>(d.cls,z2_ n))=R:=by
       rw[List.take_succ_eq_append_getElem hlt,List.map_append,List.map_cons,List.map_nil,← List.append_assoc]
       exact hrest
      have HJ2:=hiD (⟨hmap,hmods,hrest2⟩:PJ w1 m p ps L d.cls ns R W6 (k+1))
      clear hmods hmap hrest2 hkm hmlt hg6
      clear hrest hm6 hM6 hcon l1 l2 hM hmm hm4
      simp only[Option.getD_none] at hlk
      unfold z7_ at hu6
      go_wp2_with fail
      go_region_held3 (fun w'=>w'.cell? ⟨s,1,none⟩=some (.map (some m))∧w'.cell? ⟨kb,0,none⟩=some (.bool d.cls)∧w'.cell? ⟨kb,1,none⟩=some (.string ⟨(z2_ ns[k]).toArray⟩)) (exact⟨cs4,ck0,ck1⟩) (fail)
      go_wp2_with fail
      go_region_held3 (fun w'=>w'.cell? ⟨s,1,none⟩=some (.map (some m))∧w'.cell? ⟨kb,0,none⟩=some (.bool d.cls)∧w'.cell? ⟨kb,1,none⟩=some (.string ⟨(z2_ ns[k]).toArray⟩)) (first|exact⟨cs4,ck0,ck1⟩|exact⟨cs6,ck60,ck61⟩) (fail)
      go_wp2_with fail
      go_roundg q
      case measure=>omega
      case rel=>exact⟨k+1,by omega,by go_num,by have:=AG.out;show _=_;omega,HJ2.out⟩
     ·obtain⟨qp,hqp⟩:=l2 hcon
      rw[hqp] at hlk
      rw[zae_ hcon] at hrest
      have HREST:=hiD hrest
      have hBW:Below B w W4.drew:=by
       have h1:=HB1.out
       have h2:Below B w1 wr:=AJ.out.mods.below (nT hB0 h1.size) (by intro x hx;simp at hx;rw[hx];exact hS.new.2)
       exact(((h1.mono hB0).trans h2).trans (HK.out.bel.mono (nT (nT hB0 h1.size) AJ.out.mods.size))).drew
      have HBW:=hiD hBW
      clear hrest hcon l1 l2 hM hmm hm4 hqp hBW
      simp only[Option.getD_some] at hlk
      unfold z7_ at hlk
      go_wp2_with fail
      go_region_held3 (fun w'=>w'.cell? ⟨s,1,none⟩=some (.map (some m))∧w'.cell? ⟨kb,0,none⟩=some (.bool d.cls)∧w'.cell? ⟨kb,1,none⟩=some (.string ⟨(z2_ ns[k]).toArray⟩)) (exact⟨cs4,ck0,ck1⟩) (fail)
      go_wp2_with fail
      go_ret
      unfold z3q_
      rw[HR.out,← HREST.out]
      exact⟨HBW.out,rfl⟩
   ·obtain rfl:k=ns.length:=by omega
    have hR1:R=true:=by rw[← AJ.out.rest,List.drop_length];rfl
    have HR1:=hiD hR1
    have hs2:=AJ.out.mods.bk HS1.out (by simpa using HSM.out)
    have cs0:wr.cell? ⟨s,0,none⟩=some (.slice Al ps.length cl1):=hs2.cell 0
    obtain⟨es1,cl2,hm2,hM2⟩:=AJ.out.map
    obtain⟨esw,clw,hmw⟩:=HMW.out
    have ho1:=HOWN.out.below HB1.out
    have ho2:OwnP B wr (.slice Al ps.length cl1) ps:=ho1.keep (r:=some m) ⟨AJ.out.mods.os,AJ.out.mods.tape,AJ.out.mods.output,AJ.out.mods.size,fun j hj hne=>AJ.out.mods.block j hj (by intro hx;apply hne;simp at hx;rw[hx])⟩ (fun j hj he=>by
     cases he
     obtain⟨cs,hcs⟩:=ho1.ty hj
     exact z5i_ hmw hcs rfl)
    have hslt:=hs2.lt
    have HS2:=hiD hs2
    have HO2:=hiD ho2
    have HM2:=hiD (And.intro hm2 hM2)
    have hpl:ps.length<4398046511104:=hpsl
    have hbr:Below B w wr:=((HB1.out.mono hB0).trans (AJ.out.mods.below (nT hB0 HB1.out.size) (by intro x hx;simp at hx;rw[hx];exact hS.new.2)))
    have HBR:=hiD hbr
    clear hm2 hM2 hmw ho1 ho2 hs2 hR1 hbr
    go_wp2_with (at_builtin;refine zd8_ (v:= .slice Al ps.length cl1) (p:=p) rfl _ _ rfl rfl HO2.out rfl rfl hpl ?_;intro v7 w7 hO7 hg7;have hne7:(Value.slice Al ps.length cl1).ownBlock≠some s:=(fun he=>by obtain⟨cs,hcs⟩:=HO2.out.ty he;exact zf8_ hcs HS2.out (by decide) rfl);have hs7:=HS2.out.grown hg7 (Ne.symm hne7);have cs7:w7.cell? ⟨s,0,none⟩=some (.slice Al ps.length cl1):=hs7.cell 0;have fs7:=hs7.frozen 0;obtain⟨A7,c7,rfl,hc7⟩:=hO7.isSlice)
    go_ret
    unfold z3q_
    rw[HR.out,HR1.out]
    have hl1:(ps++[p]).length=ps.length+1:=by simp
    rw[hl1] at hO7
    obtain⟨hm2,hM2⟩:=HM2.out
    obtain⟨esw,clw,hmw⟩:=HMW.out
    have hs8:Bk (w7.setCell ⟨s,0,none⟩ (.slice A7 (ps.length+1) c7)) s 117 #[.slice A7 (ps.length+1) c7,.map (some m)]:=by simpa using hs7.set 0 (.slice A7 (ps.length+1) c7)
    have hb7:Below B w w7:=OwnP.bel HBR.out HO2.out hg7
    have hom:(Value.slice Al ps.length cl1).ownBlock≠some m:=fun he=>by
     obtain⟨cs,hcs⟩:=HO2.out.ty he
     exact z5i_ hm2 hcs rfl
    have hm7:w7.heap[m]?=some (.map es1 cl2):=(hg7.block m (Array.getElem?_eq_some_iff.1 hm2).1 (Ne.symm hom)).trans hm2
    have hkeep:∀ q e,DefAt w q e→DefAt (w7.setCell ⟨s,0,none⟩ (.slice A7 (ps.length+1) c7)) q e:=by
     intro q e hq
     have q1:=hq.below HB1.out
     obtain⟨_,_,_,_,qb1⟩:=q1.bk
     have q2:=q1.mods AJ.out.mods (by simpa using z5i_ hmw qb1) (NoText.of_map hmw)
     obtain⟨_,_,_,_,qb2⟩:=q2.bk
     have q3:DefAt w7 q e:=by
      rcases hv:(Value.slice Al ps.length cl1).ownBlock with _|g7
      ·rw[hv] at hg7
       exact q2.below ⟨hg7.os,hg7.tape,hg7.output,hg7.size,fun j hj=>hg7.block j hj (by simp)⟩
      ·rw[hv] at hg7
       obtain⟨cs,hcs⟩:=HO2.out.ty hv
       refine q2.mods (Mods.of_grown hg7 (List.mem_singleton_self _)) (by simpa using (zf8_ qb2 hcs (by decide))) ?_
       exact HO2.out.notext hv
     obtain⟨_,_,_,_,qb3⟩:=q3.bk
     refine q3.mods ((Mods.refl [s] w7).setCell (List.mem_singleton_self s) _) (by simpa using (zf8_ qb3 hs7 (by decide))) ?_
     intro x hx u hu
     have:x=s:=by simpa using hx
     subst this
     rw[cs7] at hu
     cases hu
    have hkeepT:∀ v xs,Texts w v xs→Texts (w7.setCell ⟨s,0,none⟩ (.slice A7 (ps.length+1) c7)) v xs:=by
     intro v xs hq
     have q1:=hq.below HB1.out
     have q2:=q1.mods AJ.out.mods (NoText.of_map hmw)
     have q3:Texts w7 v xs:=by
      rcases hv:(Value.slice Al ps.length cl1).ownBlock with _|g7
      ·rw[hv] at hg7
       exact q2.below ⟨hg7.os,hg7.tape,hg7.output,hg7.size,fun j hj=>hg7.block j hj (by simp)⟩
      ·rw[hv] at hg7
       exact q2.mods (Mods.of_grown hg7 (List.mem_singleton_self _)) (HO2.out.notext hv)
     refine q3.mods ((Mods.refl [s] w7).setCell (List.mem_singleton_self s) _) ?_
     intro x hx u hu
     have:x=s:=by simpa using hx
     subst this
     rw[cs7] at hu
     cases hu
    have ho8:OwnP B (w7.setCell ⟨s,0,none⟩ (.slice A7 (ps.length+1) c7)) (.slice A7 (ps.length+1) c7) (ps++[p]):=hO7.keep (z6_ w7 s 0 _) (fun j hj he=>by
     cases he
     obtain⟨cs,hcs⟩:=hO7.ty hj
     exact zf8_ hcs hs7 (by decide) rfl)
    have hmap:(w7.setCell ⟨s,0,none⟩ (.slice A7 (ps.length+1) c7)).heap[m]?=some (.map es1 cl2):=(Below.heap_setCell _ _ _ _ HSM.out.symm).trans hm7
    have hkr:xr_ (ps++[p]) (L++[d])=z2n_ ps L p (ns.map fun n=>(d.cls,z2_ n)):=by
     rw[z3m_ ps L p d hS.len,HKE.out]
     rfl
    rw[List.take_length] at hM2
    refine⟨hb7.setCell hS.new.1 _,rfl,⟨⟨_,hs8,ho8⟩,⟨_,_,hmap,by rw[hkr];exact hM2⟩,by simp [hS.len],?_,?_,hS.new⟩,hkeepT⟩
    ·rw[List.nodup_append]
     exact⟨hS.nodup,by simp,fun a ha b hb=>by
      have:b=p:=by simpa using hb
      subst this
      rintro rfl
      exact hpn ha⟩
    ·intro i q e hq he
     rw[List.getElem?_append] at hq he
     rw[hS.len] at hq
     split at hq
     ·next hi=>
      rw[if_pos hi] at he
      exact hkeep q e (hS.defs i q e hq he)
     ·next hi=>
      rw[if_neg hi] at he
      cases hj:i - L.length with
      |zero=>
       rw[hj] at hq he
       simp at hq he
       subst hq he
       exact hkeep _ _ hd0.out
      |succ j=>
       rw[hj] at hq
       simp at hq
end Go.Proofs.YtakfpngfpknedaaGreatDoor
