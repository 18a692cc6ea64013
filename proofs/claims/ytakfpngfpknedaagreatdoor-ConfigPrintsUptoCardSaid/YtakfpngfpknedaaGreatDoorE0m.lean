import Derived.Test.YtakfpngfpknedaaGreatDoorE0l
set_option linter.all false
set_option maxHeartbeats 8000000
set_option maxRecDepth 100000
namespace Go.Proofs.YtakfpngfpknedaaGreatDoor
open Go.RowKit
theorem ze6_ {ps:List Nat} (hn:ps.Nodup) {i j:Nat} (hi:i<ps.length) (hj:j<ps.length):(pAt ps j==pAt ps i)=(j==i):=by
 by_cases h:j=i
 ·subst h;simp
 ·have:pAt ps j≠pAt ps i:=fun e=>h (zet_ hn hj hi e)
  rw[beq_eq_false_iff_ne.2 this,beq_eq_false_iff_ne.2 h]
theorem z8n_ (w:World) (q:Nat):(binOp .eql 118 (.pointer none) (.pointer (some ⟨q,0,none⟩))).run Tryz.prog w= .ok (.bool false) w:=by
 obtain⟨j,h1,h2⟩:=zey_
 have hp:=Tryz.underlying118
 have h:∀ d:Nat,(Op.equalIn (d+1) 118 (.pointer none) (.pointer (some ⟨q,0,none⟩))).run Tryz.prog w= .ok false w:=fun d=>by
  simp [Op.equalIn,run_underlying hp]
 simp only[binOp]
 simp [Op.equal,Op.maxDepth,h 9999]
theorem zk3_ (bs bd s i:Nat) (ps:List Nat) (L:List DefS) (d:DefS) (n:LU) (w:World) (hS:SchAt w s ps L) (hd:L[i]?=some d) (h1:w.cell? ⟨bs,0,none⟩=some (z7_ s)) (h2:w.cell? ⟨bd,0,none⟩=some (z7_ (pAt ps i))) (hn:n.length≤1000000):
  Calls Tryz.prog 123 #[.string ⟨n.toArray⟩,z7_ bs,z7_ bd] w fun e w'=>e= .returned (.bool (zk_ L d.cls n==some i))∧Bel w w':=by
 have hi:i<L.length:=(List.getElem?_eq_some_iff.1 hd).1
 have HF0:=fun (W:World) (hb:Bel w W)=>z5j_ s ps L d.cls n W (hS.below hb) hn
 have h1':w.cell? ⟨bs,0,none⟩=some (.pointer (some ⟨s,0,none⟩)):=h1
 have h2':w.cell? ⟨bd,0,none⟩=some (.pointer (some ⟨pAt ps i,0,none⟩)):=h2
 obtain⟨vn,vs,vm,vy,hB⟩:=(hS.defAt hd).bk
 have c0:w.cell? ⟨pAt ps i,0,none⟩=some (.bool d.cls):=hB.cell 0
 have HK:=hiD (fun (W:World) (hb:Bel w W)=>(⟨(hb.cell (p:=⟨bs,0,none⟩) (z9_ h1)).trans h1',(hb.cell (p:=⟨bd,0,none⟩) (z9_ h2)).trans h2',(hb.cell (p:=⟨pAt ps i,0,none⟩) (z9_ c0)).trans c0⟩:W.cell? ⟨bs,0,none⟩=some (.pointer (some ⟨s,0,none⟩))∧W.cell? ⟨bd,0,none⟩=some (.pointer (some ⟨pAt ps i,0,none⟩))∧W.cell? ⟨pAt ps i,0,none⟩=some (.bool d.cls)))
 unfold z7_ at HF0 ⊢
 cases hf:zk_ L d.cls n with
 |none=>
  rw[hf] at HF0
  have HF:Hid (∀ W:World,Bel w W→Calls Tryz.prog 119 #[.pointer (some ⟨s,0,none⟩),.bool d.cls,.string ⟨n.toArray⟩] W fun e w'=>e= .returned (.pointer none)∧Bel W w'):=hiD HF0
  have heq:=fun W=>z8n_ W (pAt ps i)
  have c1:=(HK.out _ (bR _ _)).1
  have c2:=(HK.out _ (bR _ _)).2.1
  clear HF0 hS hB hd h1 h2
  go_enter Tryz.func123,Tryz.ntmps123
  go_wp2_with fail
  go_region_held3 (fun W=>W.cell? ⟨bs,0,none⟩=some (.pointer (some ⟨s,0,none⟩))∧W.cell? ⟨bd,0,none⟩=some (.pointer (some ⟨pAt ps i,0,none⟩))∧W.cell? ⟨pAt ps i,0,none⟩=some (.bool d.cls)) (first|exact HK.out _ (bR _ _).drew|exact HK.out _ hb2|fail) ((go_at_call 119;refine(HF.out _ (bR _ _).drew).mono ?_;rintro e w2 ⟨rfl,hb2x⟩;have hb2:=q7_ hb2x;clear hb2x))
  all_goals
   go_wp2_with fail
   go_ret
   exact⟨rfl,hb2⟩
 |some j=>
  rw[hf] at HF0
  have HF:Hid (∀ W:World,Bel w W→Calls Tryz.prog 119 #[.pointer (some ⟨s,0,none⟩),.bool d.cls,.string ⟨n.toArray⟩] W fun e w'=>e= .returned (.pointer (some ⟨pAt ps j,0,none⟩))∧Bel W w'):=hiD HF0
  have hj:=vl_ hf
  have HE:=hiD (fun (W:World) (hb:Bel w W)=>(by
   obtain⟨cj,hbj⟩:=hS.bkAt hj
   have:=zd9_ (hbj.below hb) (hB.below hb)
   rw[ze6_ hS.nodup (by rw[hS.len];exact hi) (by rw[hS.len];exact hj)] at this
   exact this:(binOp .eql 118 (.pointer (some ⟨pAt ps j,0,none⟩)) (.pointer (some ⟨pAt ps i,0,none⟩))).run Tryz.prog W= .ok (.bool (j==i)) W))
  have hjs:(some j==some i)=(j==i):=rfl
  rw[hjs]
  have c1:=(HK.out _ (bR _ _)).1
  have c2:=(HK.out _ (bR _ _)).2.1
  clear HF0 hS hB hd h1 h2 hf
  generalize (j==i)=b at HE ⊢
  have HK2:=hiD (fun (W:World) (hb:Bel w W)=>(⟨(HK.out W hb).1,(HK.out W hb).2.1,(HK.out W hb).2.2,HE.out W hb⟩:W.cell? ⟨bs,0,none⟩=some (.pointer (some ⟨s,0,none⟩))∧W.cell? ⟨bd,0,none⟩=some (.pointer (some ⟨pAt ps i,0,none⟩))∧W.cell? ⟨pAt ps i,0,none⟩=some (.bool d.cls)∧(binOp .eql 118 (.pointer (some ⟨pAt ps j,0,none⟩)) (.pointer (some ⟨pAt ps i,0,none⟩))).run Tryz.prog W= .ok (.bool b) W))
  go_enter Tryz.func123,Tryz.ntmps123
  go_wp2_with fail
  go_region_held3 (fun W=>W.cell? ⟨bs,0,none⟩=some (.pointer (some ⟨s,0,none⟩))∧W.cell? ⟨bd,0,none⟩=some (.pointer (some ⟨pAt ps i,0,none⟩))∧W.cell? ⟨pAt ps i,0,none⟩=some (.bool d.cls)∧(binOp .eql 118 (.pointer (some ⟨pAt ps j,0,none⟩)) (.pointer (some ⟨pAt ps i,0,none⟩))).run Tryz.prog W= .ok (.bool b) W) (first|exact HK2.out _ (bR _ _).drew|exact HK2.out _ hb2|fail) ((go_at_call 119;refine(HF.out _ (bR _ _).drew).mono ?_;rintro e w2 ⟨rfl,hb2x⟩;have hb2:=q7_ hb2x;clear hb2x))
  all_goals
   go_wp2_with fail
   go_ret
   exact⟨rfl,hb2⟩
def z6n_ (L:List DefS) (c:Bool) (i:Nat) (xs:LL):Bool:=xs.any fun n=>zk_ L c n==some i
theorem zam_ (bs bd s i:Nat) (ps:List Nat) (L:List DefS) (d:DefS) (xs:LL) (v:Value) (w:World) (hv:Texts w v xs) (hS:SchAt w s ps L) (hd:L[i]?=some d) (h1:w.cell? ⟨bs,0,none⟩=some (z7_ s)) (h2:w.cell? ⟨bd,0,none⟩=some (z7_ (pAt ps i))) (hx:xs.length≤1000000∧∀ x∈xs,x.length≤1000000):
  Calls Tryz.prog 86 #[v,.func (.func 123) #[] #[z7_ bs,z7_ bd]] w fun e w'=>e= .returned (.bool (z6n_ L d.cls i xs))∧Bel w w':=
 j4_ 123 #[z7_ bs,z7_ bd] xs v w hv hx.1 (fun n=>zk_ L d.cls n==some i)
  ⟨fun x hxx W hb=>zk3_ bs bd s i ps L d x W (hS.below hb) hd ((hb.cell (p:=⟨bs,0,none⟩) (z9_ h1)).trans h1) ((hb.cell (p:=⟨bd,0,none⟩) (z9_ h2)).trans h2) (hx.2 x hxx),fun _ _=>by kernel_rfl⟩
theorem zgf_ (bs bd s i a:Nat) (ps:List Nat) (L:List DefS) (d da:DefS) (w:World) (hS:SchAt w s ps L) (hd:L[i]?=some d) (ha:L[a]?=some da) (hl:DefLim da) (h1:w.cell? ⟨bs,0,none⟩=some (z7_ s)) (h2:w.cell? ⟨bd,0,none⟩=some (z7_ (pAt ps i))):
  Calls Tryz.prog 122 #[z7_ (pAt ps a),z7_ bs,z7_ bd] w fun e w'=>e= .returned (.bool (z6n_ L d.cls i da.sup))∧Bel w w':=by
 have hmf:=z2x_
 obtain⟨vn,vs,vm,vy,hB,_,ht,_⟩:=hS.defAt ha
 have c3:w.cell? ⟨pAt ps a,3,none⟩=some vs:=hB.cell 3
 have HA:=hiD (zam_ bs bd s i ps L d da.sup vs w ht hS hd h1 h2 hl.sup)
 obtain⟨A,n,c,rfl⟩:=ht.isSlice
 clear hS hd ha hB ht h1 h2
 unfold z7_ at HA ⊢
 go_enter Tryz.func122,Tryz.ntmps122
 go_wp2_with (go_at_call 86;refine HA.out.mono ?_;rintro e w1 ⟨rfl,hb⟩)
 go_ret
 exact⟨rfl,hb⟩
theorem zb4_ {L:List DefS} {i j:Nat} (h:Reach L i j) {d e:DefS} (hd:L[i]?=some d) (he:L[j]?=some e):e.cls=d.cls:=by
 induction h generalizing d with
 |refl=>rw[hd] at he;cases he;rfl
 |step hu _ ih=>
  unfold yv_ at hu
  rw[hd] at hu
  obtain⟨n,_,hf⟩:=List.mem_filterMap.1 hu
  obtain⟨d',h1,h2,_⟩:=z1c_ hf
  rw[ih h1 he,h2]
def atP (ps:List Nat) (q:Nat):Nat:=(ps.findIdx? (·==q)).getD 0
theorem zcd_ {ps:List Nat} (hn:ps.Nodup) {i:Nat} (hi:i<ps.length):atP ps (pAt ps i)=i:=by
 have h:ps.findIdx? (·==pAt ps i)=some i:=by
  rw[List.findIdx?_eq_some_iff_getElem]
  have hg:ps[i]=pAt ps i:=by
   have:=yu_ hi
   rw[List.getElem?_eq_getElem hi] at this
   exact Option.some.inj this
  refine⟨hi,by rw[hg];simp,fun j hj=>?_⟩
  have hjl:j<ps.length:=by omega
  have hg2:ps[j]=pAt ps j:=by
   have:=yu_ hjl
   rw[List.getElem?_eq_getElem hjl] at this
   exact Option.some.inj this
  rw[hg2,ze6_ hn hi hjl]
  simp
  omega
 unfold atP
 rw[h]
 rfl
theorem z9a_ {α:Type} {f g:α→Bool}:∀ {l:List α},(∀ a∈l,f a=g a)→l.any f=l.any g
 |[],_=>rfl
 |x::l,h=>by rw[List.any_cons,List.any_cons,h x (List.mem_cons_self ..),z9a_ (fun a ha=>h a (List.mem_cons_of_mem _ ha))]
def z4o_ (L:List DefS) (c:Bool) (i:Nat) (a:Nat):Bool:=match L[a]? with
 |none=>false
 |some d=>z6n_ L c i d.sup
theorem zkv_ (s i:Nat) (ps:List Nat) (L:List DefS) (d:DefS) (w:World) (hS:SchAt w s ps L) (hlim:∀ d∈L,DefLim d) (hN:L.length≤1000) (hk:∀ d∈L,∀ n∈d.sup,(zk_ L d.cls n).isSome=true) (hd:L[i]?=some d):
  Calls Tryz.prog 77 #[z7_ s,z7_ (pAt ps i)] w fun e w'=>e= .returned (.bool (yj_ L i))∧Bel w w':=by
 have hmf:=z2x_
 have hi:i<L.length:=(List.getElem?_eq_some_iff.1 hd).1
 have hb0:Bel w ((w.alloc (.cells #[.pointer (some ⟨s,0,none⟩)] 32)).alloc (.cells #[.pointer (some ⟨pAt ps i,0,none⟩)] 118)):=((bR _ _).alloc (nR _) _).alloc (by simp) _
 have k1:=(Bk.new w 32 #[.pointer (some ⟨s,0,none⟩)]).alloc (.cells #[.pointer (some ⟨pAt ps i,0,none⟩)] 118)
 have k2:=Bk.new (w.alloc (.cells #[.pointer (some ⟨s,0,none⟩)] 32)) 118 #[.pointer (some ⟨pAt ps i,0,none⟩)]
 rw[World.size_alloc] at k2
 have hA:=zkf_ _ s ps L (hS.below hb0) hlim hN hk (L.length+1) i [] (.slice none 0 0) _ (bR _ _) (by simp) (by simp) hi (by simp) (OwnP.nil (nR _))
 have hsays:=z1w_ L i hi
 change Calls _ _ _ _ (AbRet _ _ ps (vk_ L i [])) at hA
 have hloop:yj_ L i=(vk_ L i []).any (z4o_ L d.cls i):=by
  unfold yj_
  rw[Bool.eq_iff_iff,List.any_eq_true,List.any_eq_true]
  have hcl:∀ a∈vk_ L i [],∀ e,L[a]?=some e→e.cls=d.cls:=fun a ha e he=>zb4_ ((z2y_ hi a).1 ha) hd he
  constructor
  ·rintro⟨a,ha,h⟩
   refine⟨a,ha,?_⟩
   unfold z4o_ z6n_
   cases he:L[a]? with
   |none=>rw[he] at h;exact h
   |some e=>rw[he] at h;simp only at h ⊢;rw[← hcl a ha e he];exact h
  ·rintro⟨a,ha,h⟩
   refine⟨a,ha,?_⟩
   unfold z4o_ z6n_ at h
   cases he:L[a]? with
   |none=>rw[he] at h;exact h
   |some e=>rw[he] at h;simp only at h ⊢;rw[hcl a ha e he];exact h
 rw[hloop]
 have hany:((vk_ L i []).map (pAt ps)).any (fun q=>z4o_ L d.cls i (atP ps q))=(vk_ L i []).any (z4o_ L d.cls i):=by
  rw[List.any_map]
  exact z9a_ (fun a ha=>by
   show z4o_ L d.cls i (atP ps (pAt ps a))=_
   rw[zcd_ hS.nodup (by rw[hS.len];exact hsays.lt a ha)])
 rw[← hany]
 obtain⟨R,hR⟩:∃ R,vk_ L i []=R:=⟨_,rfl⟩
 rw[hR] at hA hsays ⊢
 have hRlen:(R.map (pAt ps)).length≤1000000:=by
  have:=qu_ _ R hsays.nodup hsays.lt
  simp
  omega
 have HC:=hiD (fun (v:Value) (w1:World) (hb:Below (w.heap.size+1+1) ((w.alloc (.cells #[.pointer (some ⟨s,0,none⟩)] 32)).alloc (.cells #[.pointer (some ⟨pAt ps i,0,none⟩)] 118)) w1) (hv:PtrsR w1 v (R.map (pAt ps)))=>
  z1p_ 122 #[z7_ w.heap.size,z7_ (w.heap.size+1)] (R.map (pAt ps)) v w1 hv hRlen (fun q=>z4o_ L d.cls i (atP ps q))
   ⟨fun q hq W hW=>by
    obtain⟨a,ha,rfl⟩:=List.mem_map.1 hq
    have hal:=hsays.lt a ha
    have haL:L[a]?=some L[a]:=List.getElem?_eq_getElem hal
    have hb1:Bel w W:=(hb0.trans (hb.mono (by omega))).trans (hW.mono (by have:=hb.size;simp at this;omega))
    have hz:w.heap.size+1+1≤w1.heap.size:=by have:=hb.size;simpa using this
    have q1:=((k1.below (hb.mono (by simp))).below hW).cell 0
    have q2:=((k2.below (hb.mono (by simp))).below hW).cell 0
    have:=zgf_ w.heap.size (w.heap.size+1) s i a ps L d L[a] W (hS.below hb1) hd haL (hlim _ (List.getElem_mem hal)) q1 q2
    rw[zcd_ hS.nodup (by rw[hS.len];exact hal)]
    unfold z4o_
    rw[haL]
    exact this,fun _ _=>by kernel_rfl⟩)
 have HA:=hiD hA
 clear hA hany hloop hR k1 k2 hS hk hlim hsays
 generalize ((R.map (pAt ps)).any fun q=>z4o_ L d.cls i (atP ps q))=b at HC ⊢
 unfold z7_ at HA HC ⊢
 go_enter Tryz.func77,Tryz.ntmps77
 go_wp2_with (first|(go_at_call 121;refine HA.out.mono ?_;rintro e w1 ⟨hb1,v1,rfl,hO1⟩;have hb1':Below (w.heap.size+1+1) ((w.alloc (.cells #[.pointer (some ⟨s,0,none⟩)] 32)).alloc (.cells #[.pointer (some ⟨pAt ps i,0,none⟩)] 118)) w1:=hb1.mono (by simp))|(go_at_call 120;refine(HC.out _ _ hb1' hO1.reads).mono ?_;rintro e w2 ⟨rfl,hb2⟩))
 go_ret
 exact⟨rfl,(hb0.trans (hb1'.mono (by omega))).trans (hb2.mono (by have:=hb1'.size;simp at this;omega))⟩
end Go.Proofs.YtakfpngfpknedaaGreatDoor
