import Derived.Test.YtbekpphodbekiaaGreatDoorV0y
set_option linter.all false
set_option maxHeartbeats 8000000
set_option maxRecDepth 100000
namespace Go.Proofs.YtbekpphodbekiaaGreatDoor
open Go.RowKit
abbrev adC (ad:AttrS) (A:Option Addr) (n c:Nat):Array Value:=#[.string ⟨ad.oid.toArray⟩,.string ⟨ad.name.toArray⟩,.string ⟨ad.sup.toArray⟩,.slice A n c,.string ⟨ad.form.toArray⟩,.string ⟨ad.eqr.toArray⟩,.string ⟨ad.ordr.toArray⟩,.string ⟨ad.subs.toArray⟩,.bool ad.single,.bool ad.fixed,.bool ad.oper]
def zt_ (L:List DefS) (t:LU):AttrS:=(qp_ L t).getD z3h_
def qq_ (L:List DefS) (t:LU):Int:=if (qp_ L t).isSome then 0 else 52
theorem z5t_ (L:List DefS) (t:LU):(zt_ L t).name=Ent.nameE (zo_ L) t:=by
 unfold zt_ Ent.nameE zo_
 simp only
 cases qp_ L t<;>rfl
theorem x7_ (s:Nat) (ps:List Nat) (L:List DefS) (hL:Sound L) (t:LU) (w:World) (hS:SchAt w s ps L) (ht:t.length≤140737488351232):
  Calls Tryz.prog 11 #[.pointer (some ⟨s,0,none⟩),.string ⟨t.toArray⟩] w fun e w'=>Bel w w'∧∃ A n c,e= .returned (.tuple #[zu_ (zt_ L t) (.slice A n c),.int .i64 (qq_ L t)]):=by
 unfold zt_ qq_
 cases hf:zg_ L false t with
 |none=>
  have ha:qp_ L t=none:=by unfold qp_;rw[hf]
  rw[ha]
  refine(z1e_ s ps L t w hS ht hf).mono ?_
  rintro e w' ⟨h1,h2⟩
  exact⟨h1,none,0,0,h2⟩
 |some j=>
  obtain⟨a,ha⟩:=hL.counts t j hf
  have ha2:qp_ L t=some a:=by unfold qp_;rw[hf];exact ha
  rw[ha2]
  refine(z19_ s ps L hL.lim t j a w hS ht hf ha).mono ?_
  rintro e w' ⟨h1,nv,rfl,h2⟩
  obtain⟨A,c,rfl,_⟩:=h2.isSlice
  exact⟨h1,A,_,c,rfl⟩
def nmV (k:LU × LU):Value:= .agg #[.string ⟨k.1.toArray⟩,.string ⟨k.2.toArray⟩]
theorem eq_nmV (W:World) (a b:LU × LU):(Op.equal 103 (nmV a) (nmV b)).run Tryz.prog W= .ok (decide (a=b)) W:=by
 obtain⟨p,a⟩:=a
 obtain⟨q,b⟩:=b
 have u9:=Tryz.underlying9
 have a9:=Tryz.isAgg9
 have z9:=Tryz.sizeOf9
 have hS:Tryz.prog.underlying 103=some (.struct (Tryz.prog.fieldsOf 103)):=by kernel_rfl
 have hp:Tryz.prog.stoodInHeld 103=false:=by kernel_rfl
 unfold Op.equal Op.maxDepth nmV
 rw[run_equalIn_agg W 9999 103 _ _ hS hp]
 simp only[Program.fieldsOf,Tryz.underlying103]
 go_simp
 by_cases h1:a=b<;>by_cases h2:p=q<;>simp [h1,h2]
theorem z9e_ (b:Bool) (w:World) (k:LU × LU):(Instr.checkKey b 10000 103 (nmV k)).run Tryz.prog w= .ok () w:=by
 unfold nmV
 kernel_rfl
theorem z9p_:z7h_ Tryz.prog 103 nmV:=z24_ Tryz.underlying103 (fun a b=>by simp [Instr.sameNow]) eq_nmV
def SetN (w:World) (m:Nat) (xs:List (LU × LU)):Prop:=∃ es c,w.heap[m]?=some (.map es c)∧MapR nmV es (xs.map fun x=>(x,Value.agg #[]))
theorem SetN.lt {w:World} {m:Nat} {xs:List (LU × LU)} (h:SetN w m xs):m<w.heap.size:=by
 obtain⟨es,c,h1,_⟩:=h
 exact(Array.getElem?_eq_some_iff.1 h1).1
theorem SetN.below {w w':World} {m:Nat} {xs:List (LU × LU)} (h:SetN w m xs) (hb:Bel w w'):SetN w' m xs:=by
 have hl:=h.lt
 obtain⟨es,c,h1,h2⟩:=h
 exact⟨es,c,(hb.block m hl).trans h1,h2⟩
theorem SetN.made (w:World):SetN (w.alloc (.map #[] 0)) w.heap.size []:=⟨#[],0,heap_alloc_new w _,rfl⟩
theorem zd0_ {w:World} {m:Nat} {xs:List (LU × LU)} (h:SetN w m xs) (a b:LU):
  (Instr.lookup 100 (.map (some m)) (.agg #[.string ⟨a.toArray⟩,.string ⟨b.toArray⟩]) true).run Tryz.prog w= .ok (.tuple #[.agg #[],.bool (xs.contains (a,b))]) w:=by
 obtain⟨es,c,h1,h2⟩:=h
 have hz:∀ w,(zeroValue 101).run Tryz.prog w= .ok (.agg #[]) w:=fun w=>by kernel_rfl
 have:=zac_ Tryz.underlying100 z9p_ z9e_ hz w m c es _ h1 h2 (a,b)
 rw[xz_] at this
 unfold nmV at this
 rw[this]
 by_cases hx:(a,b)∈xs
 ·rw[if_pos hx,List.contains_iff_mem.2 hx];rfl
 ·have:xs.contains (a,b)=false:=by
   cases hc:xs.contains (a,b) with
   |false=>rfl
   |true=>exact absurd (List.contains_iff_mem.1 hc) hx
  rw[if_neg hx,this];rfl
theorem zmi_ {w:World} {m:Nat} {xs:List (LU × LU)} (h:SetN w m xs) (a b:LU) (hn:(a,b) ∉ xs):
  ∃ W,(Instr.mapUpdate 100 (.map (some m)) (.agg #[.string ⟨a.toArray⟩,.string ⟨b.toArray⟩]) (.agg #[])).run Tryz.prog w= .ok () W∧SetN W m (xs++[(a,b)])∧w.grownBy W (some m):=by
 obtain⟨es,c,h1,h2⟩:=h
 have hl:jo_ (xs.map fun x=>(x,Value.agg #[])) (a,b)=none:=by
  rw[xz_,if_neg hn]
 have hu:=z6v_ Tryz.underlying100 z9p_ z9e_ w m c es _ h1 h2 (a,b) (.agg #[]) hl
 refine⟨_,hu,⟨_,_,jv_ (Array.getElem?_eq_some_iff.1 h1).1,?_⟩,qi_ _ _ _ _⟩
 have:=h2.push (a,b) (.agg #[]) c
 rw[List.map_append]
 exact this
theorem zdz_ (s:Nat) (ps:List Nat) (L:List DefS) (hL:Sound L) (t:LU) (vs:LL) (v:Value) (w:World) (hw:Env w) (hS:SchAt w s ps L) (ht:t.length≤1000000) (hv:TextsA w v vs) (hl:vs.length≤1000000):
  Calls Tryz.prog 38 #[.pointer (some ⟨s,0,none⟩),.string ⟨t.toArray⟩,v] w fun e w'=>Bel w w'∧∃ A c,e= .returned (.tuple #[.slice A ((Ent.formsE (zo_ L) t vs).getD []).length c,.bool (Ent.formsE (zo_ L) t vs).isSome])∧TextsA w' (.slice A ((Ent.formsE (zo_ L) t vs).getD []).length c) ((Ent.formsE (zo_ L) t vs).getD []):=by
 refine(zq6_ s ps L hL t vs v w hw hS ht hv (nT hl (by decide))).mono ?_
 rintro e w' ⟨h1,h2⟩
 cases ho:Ent.formsE (zo_ L) t vs with
 |none=>
  rw[ho] at h2
  exact⟨h1,none,0,h2,.inl ⟨rfl,rfl⟩⟩
 |some l=>
  rw[ho] at h2
  obtain⟨v',rfl,hO⟩:=h2
  obtain⟨A,c,rfl,_⟩:=hO.isSlice
  exact⟨h1,A,c,rfl,hO.textsA⟩
theorem z9w_ {S:Ent.SchE} {t:LU} {vs:LL}:((Ent.formsE S t vs).getD []).length≤vs.length:=by
 unfold Ent.formsE
 split<;>simp
theorem parse_no {x:LU} (h:(zh_ x).1≠0):(zh_ x).2=[]:=by
 unfold zh_ at h ⊢
 split
 ·rfl
 ·next hx=>
  rw[if_neg hx] at h
  split
  ·rfl
  ·next d hd=>
   rw[hd] at h
   simp only at h
   split
   ·rfl
   ·next ht=>
    rw[if_neg ht] at h
    exact absurd rfl h
theorem z5d_ (L:List DefS) (x:LU):(zo_ L).first x=(zh_ x).2.head?:=by
 show (if (zh_ x).1=0 then (zh_ x).2.head? else none)=_
 split
 ·rfl
 ·next h=>rw[parse_no h];rfl
theorem zib_ (S:Ent.SchE) (dn:LU) (l:List Ent.AttrE) (k:Nat) (h:k<l.length):Ent.haveE S ⟨dn,l.take (k+1)⟩=Ent.haveE S ⟨dn,l.take k⟩++((Ent.formsE S l[k].typ l[k].vals).getD []).map fun n=>(l[k].typ,n):=by
 unfold Ent.haveE
 simp only
 rw[List.take_succ_eq_append_getElem h,List.flatMap_append,List.flatMap_cons,List.flatMap_nil,List.append_nil]
theorem zm5_ (S:Ent.SchE) (dn:LU) (l:List Ent.AttrE) (k:Nat):∃ rest,Ent.haveE S ⟨dn,l⟩=Ent.haveE S ⟨dn,l.take k⟩++rest:=by
 refine⟨Ent.haveE S ⟨dn,l.drop k⟩,?_⟩
 unfold Ent.haveE
 simp only
 rw[← List.flatMap_append,List.take_append_drop]
theorem zhp_ {x:LU}:(∀ p∈(zh_ x).2,p≠[]∧p.length≤4∧∀ y∈p,y.1.length≤64∧y.2.length≤1024)∧(zh_ x).2.length≤20:=by
 by_cases h0:(zh_ x).1=0
 ·have hp:zh_ x=(0,(zh_ x).2):=by rw[← h0]
  have htl:=z52_ hp
  have hne:=z40_ (s:=x)
  have hty:=z1u_ (s:=x)
  refine⟨fun p hp=>⟨hne p hp,?_⟩,by unfold q2_ at htl;simp at htl;omega⟩
  unfold q2_ at htl
  rw[Bool.or_eq_false_iff] at htl
  have h1:=List.any_eq_false.1 htl.2 p hp
  unfold qx_ at h1
  simp only[Bool.or_eq_true,decide_eq_true_eq,not_or] at h1
  refine⟨by omega,fun x hx=>?_⟩
  have h2:p.any qz_=false:=by simpa using h1.2
  have h3:=List.any_eq_false.1 h2 x hx
  unfold qz_ at h3
  simp at h3
  refine⟨?_,h3⟩
  have h4:=hty p hp x hx
  unfold zd_ at h4
  split at h4
  ·simp at h4
  ·next e=>rw[e];simp only[Bool.and_eq_true,decide_eq_true_eq] at h4;exact h4.1
 ·rw[parse_no h0]
  exact⟨fun p hp=>(by cases hp),by simp⟩
theorem rdn_at {w:World} {A:Option Addr} {n c:Nat} {p:List (LU × LU)} (h:RdnR w (.slice A n c) p):n=p.length∧p.length≤c∧∀ j (hj:j<p.length),∃ g o,A=some ⟨g,o,none⟩∧w.cell? ⟨g,o+j * 2,none⟩=some (.string ⟨p[j].1.toArray⟩)∧w.cell? ⟨g,o+j * 2+1,none⟩=some (.string ⟨p[j].2.toArray⟩):=by
 obtain⟨A',c',hsl,hc,h⟩:=h
 cases hsl
 refine⟨rfl,hc,fun j hj=>?_⟩
 rcases h with rfl|⟨g,o,rfl,hg,hx⟩
 ·simp at hj
 ·obtain⟨h1,h2⟩:=hx j _ (List.getElem?_eq_getElem hj)
  exact⟨g,o,rfl,by rw[Nat.mul_comm j 2];exact h1,by rw[Nat.mul_comm j 2];exact h2⟩
theorem zmw_ {w:World} {A:Option Addr} {n c:Nat} {p:List (LU × LU)} {d:List (List (LU × LU))} (h:DnR w (.slice A n c) (p::d)):n=d.length+1∧d.length+1≤c∧∃ g o,A=some ⟨g,o,none⟩∧∃ B m k,w.cell? ⟨g,o,none⟩=some (.slice B m k)∧RdnR w (.slice B m k) p:=by
 obtain⟨A',c',hsl,hc,h⟩:=h
 cases hsl
 refine⟨rfl,hc,?_⟩
 rcases h with h|⟨g,o,rfl,hg,hx⟩
 ·cases h
 ·obtain⟨pv,h1,h2⟩:=hx 0 p rfl
  obtain⟨B,k,rfl,_⟩:=id h2
  exact⟨g,o,rfl,B,_,k,by simpa using h1,h2⟩
theorem zcn_ {w:World} {m c:Nat} {es:Array MapEntry} (hm:w.heap[m]?=some (.map es c)) {p:Addr} {v:Value} (hc:w.cell? p=some v):p.block≠m:=by
 intro h
 unfold World.cell? at hc
 rw[h,hm] at hc
 simp at hc
theorem zem_ {w w':World} {m:Nat} {xs:List (LU × LU)} (hs:SetN w m xs) (hg:w.grownBy w' (some m)) {p:Addr} {v:Value} (hc:w.cell? p=some v):w'.cell? p=some v:=by
 obtain⟨es,c,hm,_⟩:=hs
 rw[World.cell?_of_block (w:=w) (w':=w') (a:=p) (hg.block p.block (z9_ hc) (by intro e;exact zcn_ hm hc (Option.some.inj e)))]
 exact hc
theorem zek_ {α β:Type} {X:List α} {f:β→α} {l:List β} (h:(X++l.map f).Nodup) {j:Nat} (hj:j<l.length):f l[j] ∉ X++(l.take j).map f:=by
 have e:X++l.map f=(X++(l.take j).map f)++f l[j]::(l.drop (j+1)).map f:=by
  conv=>lhs;rw[← List.take_append_drop j l,List.drop_eq_getElem_cons hj]
  rw[List.map_append,List.map_cons,List.append_assoc]
 rw[e,List.nodup_append] at h
 intro hm
 exact h.2.2 _ hm _ (List.mem_cons_self ..) rfl
theorem own_no (s:Nat) (dn:LU) (va:Value) (w:World) (hw:Env w) (hva:va.oneCell'=true) (hd:(zh_ dn).2=[]):
  Calls Tryz.prog 19 #[.pointer (some ⟨s,0,none⟩),.agg #[.string ⟨dn.toArray⟩,va]] w fun e w'=>e= .returned (.bool false)∧Bel w w':=by
 have hb0:Bel w (w.alloc (.cells #[.string ⟨dn.toArray⟩,va] 30)):=(bR _ _).alloc (nR _) _
 have hP:=vy_ dn _ (hw.keep hb0)
 unfold z2p_ at hP
 rw[hd] at hP
 have HP:Hid (Calls Tryz.prog 33 #[.string ⟨dn.toArray⟩] (w.alloc (.cells #[.string ⟨dn.toArray⟩,va] 30)) fun e w'=>∃ (A:Option Addr) (c:Nat) (k:Int),e= .returned (.tuple #[.slice A 0 c,.int .i64 k])∧Below (w.alloc (.cells #[.string ⟨dn.toArray⟩,va] 30)).heap.size (w.alloc (.cells #[.string ⟨dn.toArray⟩,va] 30)) w'):=hiD (hP.mono (by
  rintro e w' ⟨h1,v,rfl,h2⟩
  obtain⟨A,c,rfl,_⟩:=h2.isSlice
  exact⟨A,c,_,rfl,h1⟩))
 clear hP hw
 go_enter Tryz.func19,Tryz.ntmps19
 go_wp2_with (go_at_call 33;(with_reducible refine HP.out.mono ?_);rintro e w1 ⟨A,c,k,rfl,hb1⟩)
 go_ret
 exact⟨rfl,tQ hb0 hb1⟩
theorem zpy_ (s:Nat) (ps:List Nat) (L:List DefS) (hL:Sound L) (dn:LU) (attrs:List Ent.AttrE) (va:Value) (w:World) (hw:Env w) (hS:SchAt w s ps L) (hv:AttrsA w va attrs) (hl:attrs.length≤1000) (hlt:∀ a∈attrs,a.typ.length≤1000000∧a.vals.length≤1000000) (hnd:(Ent.haveE (zo_ L) ⟨dn,attrs⟩).Nodup) (p0:List (LU × LU)) (d0:List (List (LU × LU))) (hd:(zh_ dn).2=p0::d0):
  Calls Tryz.prog 19 #[.pointer (some ⟨s,0,none⟩),.agg #[.string ⟨dn.toArray⟩,va]] w fun e w'=>e= .returned (.bool (Ent.ownE (zo_ L) ⟨dn,attrs⟩))∧Bel w w':=by
 obtain⟨A,c,rfl,hc,hcell⟩:=hv.at
 have hb0:Bel w (w.alloc (.cells #[.string ⟨dn.toArray⟩,.slice A attrs.length c] 30)):=(bR _ _).alloc (nR _) _
 have hk0:Bk (w.alloc (.cells #[.string ⟨dn.toArray⟩,.slice A attrs.length c] 30)) w.heap.size 30 #[.string ⟨dn.toArray⟩,.slice A attrs.length c]:=Bk.new w _ _
 have hP:=vy_ dn _ (hw.keep hb0)
 have hsz:=(zhp_ (x:=dn)).1
 unfold z2p_ at hP
 rw[hd] at hP hsz
 have hp0:=hsz p0 (List.mem_cons_self ..)
 have HP:Hid (Calls Tryz.prog 33 #[.string ⟨dn.toArray⟩] (w.alloc (.cells #[.string ⟨dn.toArray⟩,.slice A attrs.length c] 30)) fun e w'=>∃ (g o n k2:Nat) (B:Option Addr) (m q:Nat) (k:Int),e= .returned (.tuple #[.slice (some ⟨g,o,none⟩) (n+1) k2,.int .i64 k])∧n+1≤k2∧w'.cell? ⟨g,o,none⟩=some (.slice B m q)∧RdnR w' (.slice B m q) p0∧Below (w.alloc (.cells #[.string ⟨dn.toArray⟩,.slice A attrs.length c] 30)).heap.size (w.alloc (.cells #[.string ⟨dn.toArray⟩,.slice A attrs.length c] 30)) w'):=hiD (hP.mono (by
  rintro e w' ⟨h1,v,rfl,h2⟩
  obtain⟨A',c',rfl,_⟩:=h2.isSlice
  obtain⟨e1,e2,g,o,rfl,B,m,q,h3,h4⟩:=zmw_ h2.reads
  exact⟨g,o,d0.length,c',B,m,q,_,rfl,e2,h3,h4,h1⟩))
 obtain⟨R,hR⟩:∃ R,Ent.ownE (zo_ L) ⟨dn,attrs⟩=R:=⟨_,rfl⟩
 have hR0:(p0.all fun p=>(Ent.haveE (zo_ L) ⟨dn,attrs⟩).contains (Ent.nameE (zo_ L) p.1,Ent.normF (zo_ L) p.1 p.2))=R:=by
  rw[← hR]
  unfold Ent.ownE
  simp only[z5d_,hd]
  rfl
 rw[hR]
 have HF:Hid (∀ k (hk:k<attrs.length),∀ (v:Value) (W:World),Bel w W→TextsA W v attrs[k].vals→Calls Tryz.prog 38 #[.pointer (some ⟨s,0,none⟩),.string ⟨attrs[k].typ.toArray⟩,v] W fun e w'=>Bel W w'∧∃ A c,e= .returned (.tuple #[.slice A ((Ent.formsE (zo_ L) attrs[k].typ attrs[k].vals).getD []).length c,.bool (Ent.formsE (zo_ L) attrs[k].typ attrs[k].vals).isSome])∧TextsA w' (.slice A ((Ent.formsE (zo_ L) attrs[k].typ attrs[k].vals).getD []).length c) ((Ent.formsE (zo_ L) attrs[k].typ attrs[k].vals).getD [])):=hiD fun k hk v W h ht=>zdz_ s ps L hL _ _ v W (hw.keep h) (hS.below h) (hlt _ (List.getElem_mem hk)).1 ht (hlt _ (List.getElem_mem hk)).2
 have HA:Hid (∀ (t:LU) (W:World),Bel w W→t.length≤64→Calls Tryz.prog 11 #[.pointer (some ⟨s,0,none⟩),.string ⟨t.toArray⟩] W fun e w'=>Bel W w'∧∃ A n c,e= .returned (.tuple #[zu_ (zt_ L t) (.slice A n c),.int .i64 (qq_ L t)])):=hiD fun t W h ht=>x7_ s ps L hL t W (hS.below h) (by omega)
 have HN:Hid (∀ (t x:LU) (W:World),Bel w W→t.length≤64→Calls Tryz.prog 34 #[.pointer (some ⟨s,0,none⟩),.string ⟨t.toArray⟩,.string ⟨x.toArray⟩] W fun e w'=>e= .returned (.tuple #[.string ⟨(zf_ L t x).2.toArray⟩,.int .i64 (zf_ L t x).1])∧Bel W w'):=hiD fun t x W h ht=>z73_ s ps L hL.lim hL.rul hL.counts t x W (hw.keep h) (hS.below h) (by omega)
 have HV:=hiD hcell
 have HR:=hiD hR0
 have HND:=hiD hnd
 have HSZ:=hiD hp0
 have HLT:=hiD hlt
 have hadd:=jl_
 have hmm:=@run_makeMap Tryz.prog
 clear hv hcell hS hw hL hR hR0 hnd hP hsz hd hp0 hlt
 go_enter Tryz.func19,Tryz.ntmps19
 go_wp2_with (go_at_call 33;(with_reducible refine HP.out.mono ?_);rintro e w1 ⟨g,o,n,k2,B,m,q,k,rfl,hnk,hpc,hpr,hb1⟩;have hB1:=tQ hb0 hb1;have hk1:=hk0.below hb1;have e1:(w1.alloc (.map #[] 0)).cell? ⟨w.heap.size,1,none⟩=some (.slice A attrs.length c):=(hk1.alloc (.map #[] 0)).cell 1;have hb2:Bel w1 (w1.alloc (.map #[] 0)):=(bR _ _).alloc (nR _) _;have hB2:=tQ hB1 hb2;have hs2:=SetN.made w1)
 have HPC:=hiD hpc
 have HPR:=hiD hpr
 go_loopg [35] attrs.length (fun gk i wr=>∃ k:Nat,k≤attrs.length∧i= .int .i64 k∧Aside (k+gk=attrs.length)∧Aside (Bel w1 wr∧SetN wr w1.heap.size (Ent.haveE (zo_ L) ⟨dn,attrs.take k⟩)))
 case atStart=>exact⟨0,by omega,rfl,by show _=_;omega,⟨hb2,by simpa [Ent.haveE] using hs2⟩⟩
 case round=>
  clear hb2 hB2 hs2
  obtain⟨k,hk,rfl,AG,AB⟩:=hrel
  obtain⟨wo,hwo⟩:∃ wo,wo=wr:=⟨_,rfl⟩
  subst hwo
  by_cases hlt:k<attrs.length
  ·obtain⟨qg,rfl⟩:∃ q,gk=q+1:=⟨gk - 1,by have:=AG.out;omega⟩
   obtain⟨b,oa,vx,rfl,c0,c1,hta⟩:=HV.out k hlt
   have hBo:=tQ hB1 AB.out.1
   have q0:=cQ hBo c0
   have q1:=cQ hBo c1
   obtain⟨Av,nv,cv,rfl⟩:∃ A n c,vx= .slice A n c:=by
    obtain⟨A,c,h,_⟩:=hta.at
    exact⟨A,_,c,h⟩
   have HF1:=hiD (HF.out k hlt (.slice Av nv cv))
   have hlv:=(HLT.out _ (List.getElem_mem hlt)).2
   have htk:=zib_ (zo_ L) dn attrs k hlt
   obtain⟨rest,hall⟩:=zm5_ (zo_ L) dn attrs (k+1)
   have hnd:(Ent.haveE (zo_ L) ⟨dn,attrs.take k⟩++((Ent.formsE (zo_ L) attrs[k].typ attrs[k].vals).getD []).map fun n=>(attrs[k].typ,n)).Nodup:=by
    have:=HND.out
    rw[hall,htk] at this
    exact(List.nodup_append.1 this).1
   have HT:=hiD htk
   have hfl:=z9w_ (S:=zo_ L) (t:=attrs[k].typ) (vs:=attrs[k].vals)
   clear c0 c1 hall htk
   generalize attrs[k]=x at *
   obtain⟨typ,vals⟩:=x
   simp only at q0 hta HF1 hnd HT hlv hfl
   generalize (Ent.formsE (zo_ L) typ vals).getD []=l at *
   generalize (Ent.formsE (zo_ L) typ vals).isSome=ob at *
   have hbx:Bel wo (wo.alloc (.cells #[.string ⟨typ.toArray⟩,.slice Av nv cv] 43)):=(bR _ _).alloc (nR _) _
   have hBx:=tQ hBo hbx
   have hkx:Bk (wo.alloc (.cells #[.string ⟨typ.toArray⟩,.slice Av nv cv] 43)) wo.heap.size 43 #[.string ⟨typ.toArray⟩,.slice Av nv cv]:=Bk.new wo _ _
   have HF2:=hiD (HF1.out _ hBx (hta.below hBx))
   have hs1:=AB.out.2.below hbx
   have hB1x:=tQ AB.out.1 hbx
   clear hta HF1
   go_wp2_with (go_at_call 38;(with_reducible refine HF2.out.mono ?_);rintro e w3 ⟨hb3,Af,cf,rfl,hTf⟩)
   obtain⟨Af',cf',hsl,hcf,hfc⟩:=hTf.at
   cases hsl
   have HFC:=hiD hfc
   have hk3:=hkx.below hb3
   have hs3:=hs1.below hb3
   have hB3:=tQ hB1x hb3
   clear hfc hTf
   go_loopg [50] l.length (fun gk i wr=>∃ j:Nat,j≤l.length∧i= .int .i64 j∧Aside (j+gk=l.length)∧Aside (w3.heap.size≤wr.heap.size∧w3.grownBy wr (some w1.heap.size)∧SetN wr w1.heap.size (Ent.haveE (zo_ L) ⟨dn,attrs.take k⟩++(l.take j).map fun n=>(typ,n))))
   case atStart=>exact⟨0,by omega,rfl,by show _=_;omega,⟨nR _,World.grownBy.refl _ _,by simpa using hs3⟩⟩
   case round=>
    obtain⟨j,hj,rfl,AG2,AC⟩:=hrel
    have hgw:=AC.out.2.1
    have hne:wo.heap.size≠w1.heap.size:=by
     have:=AB.out.2.lt
     omega
    have hkr:=hk3.grown hgw (by intro h;exact hne (Option.some.inj h))
    have e0:wr.cell? ⟨wo.heap.size,0,none⟩=some (.string ⟨typ.toArray⟩):=hkr.cell 0
    by_cases hjl:j<l.length
    ·obtain⟨q2,rfl⟩:∃ q,gk=q+1:=⟨gk - 1,by have:=AG2.out;omega⟩
     obtain⟨fa,rfl,f0⟩:=HFC.out j hjl
     have f0r:=zem_ hs3 hgw f0
     obtain⟨W1,hup,hs4,hg4⟩:=zmi_ AC.out.2.2 typ l[j] (zek_ hnd hjl)
     have hg5:=gT hgw hg4
     have hsz4:=nT AC.out.1 hg4.size
     have hs5:SetN W1 w1.heap.size (Ent.haveE (zo_ L) ⟨dn,attrs.take k⟩++(l.take (j+1)).map fun n=>(typ,n)):=by
      rw[List.take_succ_eq_append_getElem hjl,List.map_append,← List.append_assoc]
      exact hs4
     have HS5:=hiD hs5
     clear hs4 hs5 f0
     generalize l[j]=y at *
     go_wp2_with fail
     go_roundg q2
     case measure=>omega
     case rel=>exact⟨j+1,by omega,by go_num,by have:=AG2.out;show _=_;omega,⟨hsz4,hg5,HS5.out⟩⟩
    ·obtain rfl:j=l.length:=by omega
     have hBw:=hB3.grown hgw hB3.size (fun k hk=>by cases hk;exact nR _)
     have hsw:=AC.out.2.2
     rw[List.take_length,← HT.out] at hsw
     clear AC
     go_wp2_with fail
     go_roundg qg
     case measure=>omega
     case rel=>exact⟨k+1,by omega,by go_num,by have:=AG.out;show _=_;omega,⟨hBw,hsw⟩⟩
  ·obtain rfl:k=attrs.length:=by omega
   have hs:=AB.out.2
   rw[List.take_length] at hs
   have hpc2:=cQ AB.out.1 HPC.out
   obtain⟨rfl,hpq,hpx⟩:=rdn_at (HPR.out.below AB.out.1)
   have HPX:=hiD hpx
   have HS:=hiD hs
   have hB0:=AB.out.1
   have hplen:p0.length≤4:=HSZ.out.2.1
   clear hs hpx AB HV HF HND HPR HPC
   obtain⟨H,hH⟩:∃ H,Ent.haveE (zo_ L) ⟨dn,attrs⟩=H:=⟨_,rfl⟩
   rw[hH] at HS HR
   clear hH
   go_wp2_with fail
   go_loopg [66] p0.length (fun gk i wr=>∃ k:Nat,k≤p0.length∧i= .int .i64 k∧Aside (k+gk=p0.length)∧Aside (Bel wo wr)∧Aside (((p0.drop k).all fun p=>H.contains (Ent.nameE (zo_ L) p.1,Ent.normF (zo_ L) p.1 p.2))=R))
   case atStart=>exact⟨0,by omega,rfl,by show _=_;omega,bR _ _,HR.out⟩
   case round=>
    clear HR
    obtain⟨k,hk,rfl,AG3,AD,AS⟩:=hrel
    by_cases hkl:k<p0.length
    ·obtain⟨q3,rfl⟩:∃ q,gk=q+1:=⟨gk - 1,by have:=AG3.out;omega⟩
     obtain⟨g2,o2,rfl,c0,c1⟩:=HPX.out k hkl
     have d0:=cQ AD.out c0
     have d1:=cQ AD.out c1
     have hty:=(HSZ.out.2.2 _ (List.getElem_mem hkl)).1
     have AS':Aside ((H.contains (Ent.nameE (zo_ L) p0[k].1,Ent.normF (zo_ L) p0[k].1 p0[k].2) && (p0.drop (k+1)).all fun p=>H.contains (Ent.nameE (zo_ L) p.1,Ent.normF (zo_ L) p.1 p.2))=R):=by have:=AS.out;rw[List.drop_eq_getElem_cons hkl,List.all_cons] at this;exact this
     clear AS c0 c1
     generalize p0[k]=x at *
     obtain⟨ty,vx⟩:=x
     simp only at d0 d1 hty AS'
     have hBr:=hB1.trans ((tQ hB0 AD.out).mono hB1.size)
     have hba:Bel wr (wr.alloc (.cells #[.string ⟨ty.toArray⟩,.string ⟨vx.toArray⟩] 90)):=(bR _ _).alloc (nR _) _
     have hBa:=tQ hBr hba
     have hka:Bk (wr.alloc (.cells #[.string ⟨ty.toArray⟩,.string ⟨vx.toArray⟩] 90)) wr.heap.size 90 #[.string ⟨ty.toArray⟩,.string ⟨vx.toArray⟩]:=Bk.new wr _ _
     have HA1:=hiD (HA.out ty _ hBa hty)
     have HN1:=hiD (fun W h=>HN.out ty vx W h hty)
     rw[← z5t_] at AS'
     unfold zu_ z0_ at HA1
     have hnf:Ent.normF (zo_ L) ty vx=(zf_ L ty vx).2:=rfl
     rw[hnf] at AS'
     clear hnf
     generalize zt_ L ty=ad at *
     generalize qq_ L ty=ac at *
     generalize zf_ L ty vx=np at *
     obtain⟨nc,nx⟩:=np
     simp only at HN1 AS'
     have hsr:=HS.out.below (tQ AD.out hba)
     cases hct:H.contains (ad.name,nx)
     ·have AS2:Aside (R=false):=by have:=AS'.out;rw[hct] at this;exact this.symm
      clear AS'
      go_wp2_with (first
       |(go_at_call 11;(with_reducible refine HA1.out.mono ?_);rintro e w4 ⟨hb4,A4,n4,c4,rfl⟩;have hb5:Bel w4 (w4.alloc (.cells #[.string ⟨ad.oid.toArray⟩,.string ⟨ad.name.toArray⟩,.string ⟨ad.sup.toArray⟩,.slice A4 n4 c4,.string ⟨ad.form.toArray⟩,.string ⟨ad.eqr.toArray⟩,.string ⟨ad.ordr.toArray⟩,.string ⟨ad.subs.toArray⟩,.bool ad.single,.bool ad.fixed,.bool ad.oper] 38)):=(bR _ _).alloc (nR _) _;have hk5:Bk (w4.alloc (.cells #[.string ⟨ad.oid.toArray⟩,.string ⟨ad.name.toArray⟩,.string ⟨ad.sup.toArray⟩,.slice A4 n4 c4,.string ⟨ad.form.toArray⟩,.string ⟨ad.eqr.toArray⟩,.string ⟨ad.ordr.toArray⟩,.string ⟨ad.subs.toArray⟩,.bool ad.single,.bool ad.fixed,.bool ad.oper] 38)) w4.heap.size 38 #[.string ⟨ad.oid.toArray⟩,.string ⟨ad.name.toArray⟩,.string ⟨ad.sup.toArray⟩,.slice A4 n4 c4,.string ⟨ad.form.toArray⟩,.string ⟨ad.eqr.toArray⟩,.string ⟨ad.ordr.toArray⟩,.string ⟨ad.subs.toArray⟩,.bool ad.single,.bool ad.fixed,.bool ad.oper]:=Bk.new w4 _ _;have hB4:=tQ hBa hb4;have hB5:=tQ hB4 hb5;have hka5:=(hka.below hb4).below hb5;have z0:=hka5.cell 0;have z1:=hka5.cell 1;simp only[gs3] at z0 z1;have hs5:=(hsr.below hb4).below hb5)
       |(go_at_call 34;(with_reducible refine(HN1.out _ hB5).mono ?_);rintro e w6 ⟨rfl,hb6⟩;have hB6:=tQ hB5 hb6;have y1:=(hk5.below hb6).cell 1;simp only[gs3] at y1;have hask:=zd0_ (hs5.below hb6) ad.name nx;rw[hct] at hask))
      go_ret
      exact⟨j7_ AS2.out.symm,hB6.alloc hB6.size _⟩
     ·have AS2:Aside (((p0.drop (k+1)).all fun p=>H.contains (Ent.nameE (zo_ L) p.1,Ent.normF (zo_ L) p.1 p.2))=R):=(by have:=AS'.out;rw[hct] at this;simpa using this:((p0.drop (k+1)).all fun p=>H.contains (Ent.nameE (zo_ L) p.1,Ent.normF (zo_ L) p.1 p.2))=R)
      clear AS'
      go_wp2_with (first
       |(go_at_call 11;(with_reducible refine HA1.out.mono ?_);rintro e w4 ⟨hb4,A4,n4,c4,rfl⟩;have hb5:Bel w4 (w4.alloc (.cells #[.string ⟨ad.oid.toArray⟩,.string ⟨ad.name.toArray⟩,.string ⟨ad.sup.toArray⟩,.slice A4 n4 c4,.string ⟨ad.form.toArray⟩,.string ⟨ad.eqr.toArray⟩,.string ⟨ad.ordr.toArray⟩,.string ⟨ad.subs.toArray⟩,.bool ad.single,.bool ad.fixed,.bool ad.oper] 38)):=(bR _ _).alloc (nR _) _;have hk5:Bk (w4.alloc (.cells #[.string ⟨ad.oid.toArray⟩,.string ⟨ad.name.toArray⟩,.string ⟨ad.sup.toArray⟩,.slice A4 n4 c4,.string ⟨ad.form.toArray⟩,.string ⟨ad.eqr.toArray⟩,.string ⟨ad.ordr.toArray⟩,.string ⟨ad.subs.toArray⟩,.bool ad.single,.bool ad.fixed,.bool ad.oper] 38)) w4.heap.size 38 #[.string ⟨ad.oid.toArray⟩,.string ⟨ad.name.toArray⟩,.string ⟨ad.sup.toArray⟩,.slice A4 n4 c4,.string ⟨ad.form.toArray⟩,.string ⟨ad.eqr.toArray⟩,.string ⟨ad.ordr.toArray⟩,.string ⟨ad.subs.toArray⟩,.bool ad.single,.bool ad.fixed,.bool ad.oper]:=Bk.new w4 _ _;have hB4:=tQ hBa hb4;have hB5:=tQ hB4 hb5;have hka5:=(hka.below hb4).below hb5;have z0:=hka5.cell 0;have z1:=hka5.cell 1;simp only[gs3] at z0 z1;have hs5:=(hsr.below hb4).below hb5)
       |(go_at_call 34;(with_reducible refine(HN1.out _ hB5).mono ?_);rintro e w6 ⟨rfl,hb6⟩;have hB6:=tQ hB5 hb6;have y1:=(hk5.below hb6).cell 1;simp only[gs3] at y1;have hask:=zd0_ (hs5.below hb6) ad.name nx;rw[hct] at hask))
      have hB7:=hB6.alloc hB6.size (.cells #[] 101)
      have hX7:Bel wo (w6.alloc (.cells #[] 101)):=by
       have x1:=tQ AD.out hba
       have x2:=tQ x1 hb4
       have x3:=tQ x2 hb5
       have x4:=tQ x3 hb6
       exact x4.alloc x4.size _
      go_roundg q3
      case measure=>omega
      case rel=>exact⟨k+1,by omega,by go_num,by have:=AG3.out;show _=_;omega,hX7,AS2.out⟩
    ·obtain rfl:k=p0.length:=by omega
     have AS2:Aside (R=true):=by have:=AS.out;rw[List.drop_length] at this;exact this.symm
     clear AS
     go_wp2_with fail
     go_ret
     exact⟨j7_ AS2.out.symm,hB1.trans ((tQ hB0 AD.out).mono hB1.size)⟩
theorem own_c (s:Nat) (ps:List Nat) (L:List DefS) (hL:Sound L) (dn:LU) (attrs:List Ent.AttrE) (va:Value) (w:World) (hw:Env w) (hS:SchAt w s ps L) (hv:AttrsA w va attrs) (hl:attrs.length≤1000) (hlt:∀ a∈attrs,a.typ.length≤1000000∧a.vals.length≤1000000) (hnd:(Ent.haveE (zo_ L) ⟨dn,attrs⟩).Nodup):
  Calls Tryz.prog 19 #[.pointer (some ⟨s,0,none⟩),.agg #[.string ⟨dn.toArray⟩,va]] w fun e w'=>e= .returned (.bool (Ent.ownE (zo_ L) ⟨dn,attrs⟩))∧Bel w w':=by
 cases hd:(zh_ dn).2 with
 |nil=>
  have:Ent.ownE (zo_ L) ⟨dn,attrs⟩=false:=by
   unfold Ent.ownE
   simp only[z5d_,hd]
   rfl
  rw[this]
  obtain⟨A,c,rfl,_⟩:=hv.isSlice
  exact own_no s dn _ w hw rfl hd
 |cons p0 d0=>exact zpy_ s ps L hL dn attrs va w hw hS hv hl hlt hnd p0 d0 hd
open Go.RowKit
def atI:Option Nat→Int
 |none=> -1
 |some k=>k
theorem zow_ {α:Type} {P:α→Bool} {l:List α} {k:Nat} (hk:k<l.length) (h:∀ y∈l.take k,P y=false) (hp:P l[k]=true):l.findIdx? P=some k:=by
 rw[List.findIdx?_eq_some_iff_getElem]
 refine⟨hk,hp,fun j hj=>?_⟩
 have:l[j]∈l.take k:=List.mem_take_iff_getElem.2 ⟨j,by omega,rfl⟩
 simp [h _ this]
theorem zks_ {α:Type} {P:α→Bool} {l:List α} (h:∀ y∈l,P y=false):l.findIdx? P=none:=by
 rw[List.findIdx?_eq_none_iff]
 exact fun y hy=>h y hy
theorem zik_ {α:Type} {P:α→Bool} {l:List α} {k:Nat} (hk:k<l.length) (h:∀ y∈l.take k,P y=false) (hp:P l[k]=false):∀ y∈l.take (k+1),P y=false:=by
 intro y hy
 rw[List.take_succ_eq_append_getElem hk] at hy
 rcases List.mem_append.1 hy with hy|hy
 ·exact h y hy
 ·rw[List.mem_singleton.1 hy];exact hp
theorem zgn_ {α:Type} {P:α→Bool} (l:List α):decide (0≤atI (l.findIdx? P))=l.any P:=by
 cases h:l.findIdx? P with
 |none=>
  rw[List.findIdx?_eq_none_iff] at h
  have:l.any P=false:=by
   rw[List.any_eq_false]
   intro y hy
   simp [h y hy]
  rw[this];rfl
 |some k=>
  obtain⟨hk,hp,_⟩:=List.findIdx?_eq_some_iff_getElem.1 h
  have:l.any P=true:=List.any_eq_true.2 ⟨_,List.getElem_mem hk,hp⟩
  rw[this];simp [atI]
structure AskAt (w:World) (f:FuncId) (cap:Array Value) (l:List Ent.AttrE) (P:Ent.AttrE→Bool):Prop where
 call:∀ x∈l,∀ (vx:Value) W,vx.oneCell'=true→Bel w W→Calls Tryz.prog f (#[.agg #[.string ⟨x.typ.toArray⟩,vx]]++cap) W fun e W'=>e= .returned (.bool (P x))∧Bel W W'
 enter:∀ (args:Array Value) (W:World),(callFunc f args).run Tryz.prog W= .ok (.enter f args) W
theorem z7t_ (f:FuncId) (cap:Array Value) (l:List Ent.AttrE) (v:Value) (w:World) (hv:AttrsA w v l) (hl:l.length≤1000000) (P:Ent.AttrE→Bool) (hF:AskAt w f cap l P):
  Calls Tryz.prog 85 #[v,.func (.func f) #[] cap] w fun e w'=>e= .returned (.int .i64 (atI (l.findIdx? P)))∧Bel w w':=by
 obtain⟨R,hR⟩:∃ R,atI (l.findIdx? P)=R:=⟨_,rfl⟩
 rw[hR]
 have HF:=hiD hF.call
 have hent:=hF.enter
 clear hF
 obtain⟨A,c,rfl,hc,hcell⟩:=hv.at
 have HV:=hiD hcell
 have HR:=hiD hR
 clear hv hcell hR
 have hadd:=jl_
 go_enter Tryz.func85,Tryz.ntmps85
 go_wp2_with fail
 go_loopg [8] l.length (fun gk i wr=>∃ k:Nat,k≤l.length∧i= .int .i64 k∧Aside (k+gk=l.length)∧Bel w wr∧Aside (∀ y∈l.take k,P y=false))
 case atStart=>exact⟨0,by omega,rfl,by show _=_;omega,bR _ _,fun y hy=>(by simp at hy)⟩
 case round=>
  obtain⟨k,hk,rfl,AG,hB,AS⟩:=hrel
  by_cases hlt:k<l.length
  ·obtain⟨q,rfl⟩:∃ q,gk=q+1:=⟨gk - 1,by have:=AG.out;omega⟩
   obtain⟨b,o,va,rfl,c0,c1,hta⟩:=HV.out k hlt
   obtain⟨Av,nv,cv,rfl⟩:∃ A n c,va= .slice A n c:=by
    obtain⟨A,c,h,_⟩:=hta.at
    exact⟨A,_,c,h⟩
   have d0:=cQ hB c0
   have d1:=cQ hB c1
   have hC:=HF.out l[k] (List.getElem_mem hlt) (.slice Av nv cv) wr rfl hB
   have HN:=hiD (fun h=>zik_ hlt AS.out h)
   have HH:=hiD (fun h=>zow_ hlt AS.out h)
   clear AS c0 c1 hta
   generalize l[k]=x at hC HN HH d0 d1
   cases hP:P x
   all_goals
    rw[hP] at hC HN HH
    have HC:=hiD hC
    clear hP hC
   ·go_wp2_with ((with_reducible refine HC.out.mono ?_);rintro e w2 ⟨rfl,hb2⟩)
    go_roundg q
    case measure=>omega
    case rel=>exact⟨k+1,by omega,by go_num,by have:=AG.out;show _=_;omega,tQ hB hb2,HN.out trivial⟩
   ·go_wp2_with ((with_reducible refine HC.out.mono ?_);rintro e w2 ⟨rfl,hb2⟩)
    go_ret
    refine⟨?_,tQ hB hb2⟩
    rw[← HR.out,HH.out trivial]
    rfl
  ·obtain rfl:k=l.length:=by omega
   have HM:=hiD (zks_ (P:=P) (l:=l) (fun y hy=>AS.out y (by rw[List.take_length];exact hy)))
   clear AS
   go_wp2_with fail
   go_ret
   refine⟨?_,hB⟩
   rw[← HR.out,HM.out]
   rfl
theorem z2i_ (f:FuncId) (cap:Array Value) (l:List Ent.AttrE) (v:Value) (w:World) (hv:AttrsA w v l) (hl:l.length≤1000000) (P:Ent.AttrE→Bool) (hF:AskAt w f cap l P):
  Calls Tryz.prog 39 #[v,.func (.func f) #[] cap] w fun e w'=>e= .returned (.bool (l.any P))∧Bel w w':=by
 have hI:=z7t_ f cap l v w hv hl P hF
 have hi:=zgn_ (P:=P) l
 obtain⟨i,hie⟩:∃ i,atI (l.findIdx? P)=i:=⟨_,rfl⟩
 rw[hie] at hI hi
 have Hi:=hiD hi
 obtain⟨A,c,rfl,hc⟩:=hv.isSlice
 clear hF hv hie hi
 go_enter Tryz.func39,Tryz.ntmps39
 go_wp2_with (go_at_call 85;refine hI.mono ?_;rintro e w1 ⟨rfl,hb1⟩)
 all_goals
  go_ret
  exact⟨j7_ (by rw[← Hi.out]),hb1⟩
theorem z83_ (f:FuncId) (cap:Array Value) (xs:LL) (v:Value) (w:World) (hv:TextsA w v xs) (hl:xs.length≤4611686018427387904) (P:LU→Bool) (hF:AskS w f cap xs P):
  Calls Tryz.prog 127 #[v,.func (.func f) #[] cap] w fun e w'=>(∃ i:Int,e= .returned (.int .i64 i)∧decide (0≤i)=xs.any P)∧Bel w w':=by
 have HF:=hiD hF.call
 have hent:=hF.enter
 clear hF
 obtain⟨A,c,rfl,hc,hcell⟩:=hv.at
 have HV:=hiD hcell
 clear hv hcell
 go_enter Tryz.func127,Tryz.ntmps127
 go_wp2_with fail
 go_loopg [8] xs.length (fun gk i wr=>∃ k:Nat,k≤xs.length∧i= .int .i64 k∧Aside (k+gk=xs.length)∧Bel w wr∧Aside (xs.any P=(xs.drop k).any P))
 case atStart=>exact⟨0,by omega,rfl,by show _=_;omega,bR _ _,rfl⟩
 case round=>
  obtain⟨k,hk,rfl,AG,hB,AS⟩:=hrel
  by_cases hlt:k<xs.length
  ·obtain⟨q,rfl⟩:∃ q,gk=q+1:=⟨gk - 1,by have:=AG.out;omega⟩
   obtain⟨a,rfl,c0⟩:=HV.out k hlt
   have AS':Aside (xs.any P=(P xs[k]||(xs.drop (k+1)).any P)):=by have:=AS.out;rw[List.drop_eq_getElem_cons hlt] at this;exact this
   have d0:=cQ hB c0
   have hC:=HF.out xs[k] (List.getElem_mem hlt) wr hB
   clear AS c0
   generalize xs[k]=x at hC AS' d0
   cases hP:P x
   all_goals
    have HP:=hiD hP
    rw[hP] at hC
    have HC:=hiD hC
    clear hP hC
   ·go_wp2_with ((with_reducible refine HC.out.mono ?_);rintro e w2 ⟨rfl,hb2⟩)
    go_roundg q
    case measure=>omega
    case rel=>exact⟨k+1,by omega,by go_num,by have:=AG.out;show _=_;omega,tQ hB hb2,by have:=AS'.out;rw[HP.out] at this;exact this⟩
   ·go_wp2_with ((with_reducible refine HC.out.mono ?_);rintro e w2 ⟨rfl,hb2⟩)
    go_ret
    exact⟨⟨k,rfl,by rw[AS'.out,HP.out];simp⟩,tQ hB hb2⟩
  ·obtain rfl:k=xs.length:=by omega
   have hs:xs.any P=false:=by have:=AS.out;rw[List.drop_length] at this;exact this
   have Hs:=hiD hs
   clear hs AS
   go_wp2_with fail
   go_ret
   exact⟨⟨-1,rfl,by rw[Hs.out];rfl⟩,hB⟩
theorem z2f_ (f:FuncId) (cap:Array Value) (xs:LL) (v:Value) (w:World) (hv:TextsA w v xs) (hl:xs.length≤4611686018427387904) (P:LU→Bool) (hF:AskS w f cap xs P):
  Calls Tryz.prog 64 #[v,.func (.func f) #[] cap] w fun e w'=>e= .returned (.bool (xs.any P))∧Bel w w':=by
 have hI:=z83_ f cap xs v w hv hl P hF
 obtain⟨A,c,rfl,hc,_⟩:=hv.at
 clear hF hv
 go_enter Tryz.func64,Tryz.ntmps64
 go_wp2_with (go_at_call 127;refine hI.mono ?_;rintro e w1 ⟨⟨i,rfl,hi⟩,hb1⟩;have Hi:=hiD hi;clear hi)
 all_goals
  go_ret
  exact⟨j7_ (by rw[← Hi.out]),hb1⟩
theorem zh7_ (x:LU) (xs:LL) (v:Value) (w:World) (hv:TextsA w v xs) (hl:xs.length≤4611686018427387904):
  Calls Tryz.prog 97 #[v,.string ⟨x.toArray⟩] w fun e w'=>e= .returned (.int .i64 (atI (xs.findIdx? (·==x))))∧w=w':=by
 obtain⟨R,hR⟩:∃ R:Int,(atI (xs.findIdx? (·==x)))=R:=⟨_,rfl⟩
 rw[hR]
 obtain⟨A,c,rfl,hc,hcell⟩:=hv.at
 have HV:=hiD hcell
 have HR:=hiD hR
 clear hv hcell hR
 go_enter Tryz.func97,Tryz.ntmps97
 go_wp2_with fail
 go_loopg [8] xs.length (fun gk i wr=>∃ k:Nat,k≤xs.length∧i= .int .i64 k∧Aside (k+gk=xs.length)∧w=wr∧Aside (∀ y∈xs.take k,y≠x))
 case atStart=>exact⟨0,by omega,rfl,by show _=_;omega,rfl,by show ∀ y∈_,_;simp⟩
 case round=>
  obtain⟨k,hk,rfl,AG,rfl,AS⟩:=hrel
  by_cases hlt:k<xs.length
  ·obtain⟨q,rfl⟩:∃ q,gk=q+1:=⟨gk - 1,by have:=AG.out;omega⟩
   obtain⟨a,rfl,hcell⟩:=HV.out k hlt
   have HRk:Hid (xs[k]=x→R=k):=hiD fun he=>by
    have:xs.findIdx? (·==x)=some k:=by
     rw[List.findIdx?_eq_some_iff_getElem]
     refine⟨hlt,by simpa using he,fun j hj=>?_⟩
     have:=AS.out xs[j] (by rw[List.mem_take_iff_getElem];exact⟨j,by omega,rfl⟩)
     simpa using this
    rw[← HR.out,this];rfl
   have HAS:Hid (xs[k]≠x→∀ y∈xs.take (k+1),y≠x):=hiD fun he y hy=>by
    rw[List.take_succ_eq_append_getElem hlt] at hy
    rcases List.mem_append.1 hy with hy|hy
    ·exact AS.out y hy
    ·rw[List.mem_singleton.1 hy];exact he
   clear AS
   generalize xs[k]=y at hcell HRk HAS
   by_cases hyx:x=y
   ·subst hyx
    have Hf:=hiD (HRk.out rfl)
    clear HRk HAS
    go_wp2_with fail
    all_goals
     go_ret
     exact⟨by rw[Hf.out];try rfl,rfl⟩
   ·have hb1:(x==y)=false:=beq_eq_false_iff_ne.2 hyx
    have hb2:(y==x)=false:=beq_eq_false_iff_ne.2 (Ne.symm hyx)
    have Hf:=hiD (HAS.out (Ne.symm hyx))
    clear HRk HAS hyx
    go_wp2_with fail
    go_roundg q
    case measure=>omega
    case rel=>exact⟨k+1,by omega,by go_num,by have:=AG.out;show _=_;omega,rfl,Hf.out⟩
  ·obtain rfl:k=xs.length:=by omega
   have hs:R= -1:=by
    have:xs.findIdx? (·==x)=none:=by
     rw[List.findIdx?_eq_none_iff]
     intro y hy
     have:=AS.out y (by rw[List.take_length];exact hy)
     simpa using this
    rw[← HR.out,this];rfl
   have Hs:=hiD hs
   clear hs AS
   go_wp2_with fail
   go_ret
   exact⟨by rw[Hs.out];try rfl,rfl⟩
theorem z2c_ (x:LU) (xs:LL) (v:Value) (w:World) (hv:TextsA w v xs) (hl:xs.length≤4611686018427387904):
  Calls Tryz.prog 49 #[v,.string ⟨x.toArray⟩] w fun e w'=>e= .returned (.bool (xs.contains x))∧w=w':=by
 have hI:=zh7_ x xs v w hv hl
 have hi:decide (0≤atI (xs.findIdx? (·==x)))=xs.contains x:=by
  rw[zgn_,List.contains_eq_any_beq]
  congr 1
  funext y
  rw[Bool.eq_iff_iff,beq_iff_eq,beq_iff_eq]
  exact eq_comm
 obtain⟨i,hie⟩:∃ i,atI (xs.findIdx? (·==x))=i:=⟨_,rfl⟩
 rw[hie] at hI hi
 have Hi:=hiD hi
 obtain⟨A,c,rfl,hc,_⟩:=hv.at
 clear hv hie hi
 go_enter Tryz.func49,Tryz.ntmps49
 go_wp2_with (go_at_call 97;refine hI.mono ?_;rintro e w1 ⟨rfl,rfl⟩)
 all_goals
  go_ret
  exact⟨j7_ (by rw[← Hi.out]),rfl⟩
end Go.Proofs.YtbekpphodbekiaaGreatDoor
