import Derived.Test.YtbekpphodbekiaaGreatDoorV0r
set_option linter.all false
set_option maxHeartbeats 8000000
set_option maxRecDepth 100000
namespace Go.Proofs.YtbekpphodbekiaaGreatDoor
open Go.RowKit
theorem zdr_ (r v:LU):zci_ r v= .tuple #[.string ⟨(kv_ r v).2.toArray⟩,.int .i64 (kv_ r v).1]:=by
 unfold zci_ kv_
 cases z7j_ (z2_ r) 0 with
 |none=>rfl
 |some x=>
  simp only
  cases yo_ x v<;>rfl
theorem z88_ (s:Nat) (ps:List Nat) (L:List DefS) (x v:LU) (w:World) (hS:SchAt w s ps L) (hx:x.length≤140737488351232) (hf:zg_ L false x=none):
  Calls Tryz.prog 34 #[z8_ s,.string ⟨x.toArray⟩,.string ⟨v.toArray⟩] w fun e w'=>e= .returned (.tuple #[.string ⟨(zf_ L x v).2.toArray⟩,.int .i64 (zf_ L x v).1])∧Bel w w':=by
 have hn:zf_ L x v=(52,[]):=by unfold zf_;rw[hf]
 rw[hn]
 have HA:Hid (Calls Tryz.prog 11 #[.pointer (some ⟨s,0,none⟩),.string ⟨x.toArray⟩] w fun e w'=>e= .returned (.tuple #[zu_ z3h_ (.slice none 0 0),.int .i64 52])∧Bel w w'):=hiD ((z1e_ s ps L x w hS hx hf).mono (by
  rintro e w' ⟨h1,h2⟩
  exact⟨h2,h1⟩))
 clear hS hf hn
 unfold z8_
 unfold zu_ z0_ z3h_ at HA
 go_enter Tryz.func34,Tryz.ntmps34
 go_wp2_with (go_at_call 11;refine HA.out.mono ?_;rintro e w1 ⟨rfl,hb1⟩)
 all_goals
  go_ret2
  exact⟨rfl,by first|exact hb1|exact hb1.alloc hb1.size _|assumption⟩
theorem z8v_ (s:Nat) (ps:List Nat) (L:List DefS) (hlim:∀ d∈L,DefLim d) (x v:LU) (i:Nat) (a:AttrS) (w:World) (hw:Env w) (hS:SchAt w s ps L) (hx:x.length≤140737488351232) (hf:zg_ L false x=some i) (ha:q6_ L i=some a) (hel:a.eqr.length≤1000000):
  Calls Tryz.prog 34 #[z8_ s,.string ⟨x.toArray⟩,.string ⟨v.toArray⟩] w fun e w'=>e= .returned (.tuple #[.string ⟨(zf_ L x v).2.toArray⟩,.int .i64 (zf_ L x v).1])∧Bel w w':=by
 have hn:zf_ L x v=(if qc_ a.form v then (if a.eqr==[] then (0,v) else kv_ a.eqr v) else (40,[])):=by
  unfold zf_
  rw[hf]
  simp only
  rw[ha]
 rw[hn]
 have HA:Hid (Calls Tryz.prog 11 #[.pointer (some ⟨s,0,none⟩),.string ⟨x.toArray⟩] w fun e w'=>∃ A n c,e= .returned (.tuple #[zu_ a (.slice A n c),.int .i64 0])∧Bel w w'):=hiD ((z19_ s ps L hlim x i a w hS hx hf ha).mono (by
  rintro e w' ⟨h1,nv,rfl,h2⟩
  obtain⟨A,c,rfl,_⟩:=h2.isSlice
  exact⟨A,_,c,rfl,h1⟩))
 have HV:Hid (∀ W:World,Bel w W→Calls Tryz.prog 74 #[.string ⟨a.form.toArray⟩,.string ⟨v.toArray⟩] W fun e w'=>e= .returned (.bool (qc_ a.form v))∧Bel W w'):=hiD fun W h=>zj6_ a.form v W (hw.keep h)
 have HN:Hid (∀ W:World,Bel w W→Calls Tryz.prog 75 #[.string ⟨a.eqr.toArray⟩,.string ⟨v.toArray⟩] W fun e w'=>e= .returned (.tuple #[.string ⟨(kv_ a.eqr v).2.toArray⟩,.int .i64 (kv_ a.eqr v).1])∧Bel W w'):=hiD fun W h=>by
  rw[← zdr_]
  exact zo0_ a.eqr v W (hw.keep h) (by omega)
 clear hS hlim hf ha hn hw
 unfold z8_
 unfold zu_ z0_ at HA
 obtain⟨f,hfm⟩:∃ f,a.form=f:=⟨_,rfl⟩
 obtain⟨r,hr⟩:∃ r,a.eqr=r:=⟨_,rfl⟩
 rw[hfm,hr] at HA
 rw[hfm] at HV ⊢
 rw[hr] at HN hel ⊢
 clear hfm hr
 cases hv:qc_ f v with
 |false=>
  rw[hv] at HV
  simp only[Bool.false_eq_true,if_false]
  clear hv HN
  go_enter Tryz.func34,Tryz.ntmps34
  go_wp2_with (first|(go_at_call 11;refine HA.out.mono ?_;rintro e w1 ⟨A,n,c,rfl,hb1⟩)|(go_at_call 74;refine(HV.out _ (hb1.alloc hb1.size _)).mono ?_;rintro e w3 ⟨rfl,hb3⟩))
  all_goals
   go_ret2
   exact⟨rfl,(hb1.alloc hb1.size _).trans (hb3.mono (hb1.alloc hb1.size _).size)⟩
 |true=>
  rw[hv] at HV
  simp only[if_true]
  clear hv
  rcases r with _|⟨r0,rt⟩
  ·clear HN
   go_enter Tryz.func34,Tryz.ntmps34
   go_wp2_with (first|(go_at_call 11;refine HA.out.mono ?_;rintro e w1 ⟨A,n,c,rfl,hb1⟩)|(go_at_call 74;refine(HV.out _ (hb1.alloc hb1.size _)).mono ?_;rintro e w3 ⟨rfl,hb3⟩;have f5:=(hb3.cell (p:=⟨w1.heap.size,5,none⟩) (by show w1.heap.size<_;rw[World.size_alloc];omega)).trans ((Bk.new w1 _ _).cell 5);simp only[gs3] at f5))
   all_goals
    go_ret2
    exact⟨rfl,(hb1.alloc hb1.size _).trans (hb3.mono (hb1.alloc hb1.size _).size)⟩
  ·generalize kv_ (r0::rt) v=nr at HN ⊢
   obtain⟨ne,ns⟩:=nr
   simp only at HN
   go_enter Tryz.func34,Tryz.ntmps34
   go_wp2_with (first|(go_at_call 11;refine HA.out.mono ?_;rintro e w1 ⟨A,n,c,rfl,hb1⟩)|(go_at_call 74;refine(HV.out _ (hb1.alloc hb1.size _)).mono ?_;rintro e w3 ⟨rfl,hb3⟩;have f5:=(hb3.cell (p:=⟨w1.heap.size,5,none⟩) (by show w1.heap.size<_;rw[World.size_alloc];omega)).trans ((Bk.new w1 _ _).cell 5);simp only[gs3] at f5;have hB3:=(hb1.alloc hb1.size _).trans (hb3.mono (hb1.alloc hb1.size _).size))|(go_at_call 75;refine(HN.out _ hB3).mono ?_;rintro e w4 ⟨rfl,hb4⟩))
   all_goals
    go_ret2
    exact⟨rfl,tQ hB3 hb4⟩
theorem z9v_ (s:Nat) (ps:List Nat) (L:List DefS) (hlim:∀ d∈L,DefLim d) (hrl:∀ d∈L,RuleLim d) (hk:∀ t i,zg_ L false t=some i→∃ a,q6_ L i=some a) (x v:LU) (w:World) (hw:Env w) (hS:SchAt w s ps L) (hx:x.length≤140737488351232):
  Calls Tryz.prog 34 #[z8_ s,.string ⟨x.toArray⟩,.string ⟨v.toArray⟩] w fun e w'=>e= .returned (.tuple #[.string ⟨(zf_ L x v).2.toArray⟩,.int .i64 (zf_ L x v).1])∧Bel w w':=by
 cases hf:zg_ L false x with
 |none=>exact z88_ s ps L x v w hS hx hf
 |some i=>
  obtain⟨a,ha⟩:=hk x i hf
  exact z8v_ s ps L hlim x v i a w hw hS hx hf ha (x0_ hrl _ _ _ ha).1
theorem z73_ (s:Nat) (ps:List Nat) (L:List DefS) (hlim:∀ d∈L,DefLim d) (hrl:∀ d∈L,RuleLim d) (hk:∀ t i,zg_ L false t=some i→∃ a,q6_ L i=some a) (x v:LU) (w:World) (hw:Env w) (hS:SchAt w s ps L) (hx:x.length≤1000000):
  Calls Tryz.prog 34 #[z8_ s,.string ⟨x.toArray⟩,.string ⟨v.toArray⟩] w fun e w'=>e= .returned (.tuple #[.string ⟨(zf_ L x v).2.toArray⟩,.int .i64 (zf_ L x v).1])∧Bel w w':=
 z9v_ s ps L hlim hrl hk x v w hw hS (nT hx (by decide))
theorem z3k_ {α β:Type} {f:α→Int × β}:∀ {l:List α} {k:Nat} {x:α},(∀ y∈l.take k,(f y).1=0)→l[k]?=some x→(f x).1≠0→zbz_ f l=((f x).1,[])
 |[],k,x,_,h,_=>by simp at h
 |y::t,0,x,_,h,hx=>by
  simp at h
  subst h
  rw[zbz_,if_pos hx]
 |y::t,k+1,x,h0,h,hx=>by
  have h1:(f y).1=0:=h0 y (by simp)
  have ih:=z3k_ (f:=f) (l:=t) (k:=k) (x:=x) (fun z hz=>h0 z (by simp [hz])) (by simpa using h) hx
  rw[zbz_,if_neg (by simpa using h1),ih,if_pos hx]
def z0a_ {α:Type} (f:α→α) (p:List α) (j:Nat):List α:=(p.take j).map f++p.drop j
theorem z8b_ {α:Type} (f:α→α) (p:List α) (j:Nat):(z0a_ f p j).length=p.length:=by simp [z0a_];omega
theorem z60_ {α:Type} (f:α→α) (p:List α):z0a_ f p 0=p:=by simp [z0a_]
theorem z8x_ {α:Type} (f:α→α) (p:List α):z0a_ f p p.length=p.map f:=by simp [z0a_]
theorem zcr_ {α:Type} (f:α→α) (p:List α) (j:Nat) (h:j<p.length):(z0a_ f p j)[j]?=some p[j]:=by
 unfold z0a_
 rw[List.getElem?_append_right (by simp;omega)]
 simp [Nat.min_eq_left (Nat.le_of_lt h)]
theorem z6a_ {α:Type} (f:α→α) (p:List α) (j:Nat) (h:j<p.length):(z0a_ f p j).set j (f p[j])=z0a_ f p (j+1):=by
 have hl:((p.take j).map f).length=j:=by simp;omega
 unfold z0a_
 rw[List.set_append_right _ _ (by omega),hl,Nat.sub_self,List.drop_eq_getElem_cons h,List.set_cons_zero,List.take_succ_eq_append_getElem h,List.map_append,List.append_assoc]
 rfl
theorem z0s_ {α:Type} {P:α→Prop} {p:List α} {j:Nat} (h:j<p.length) (h0:∀ y∈p.take j,P y) (h1:P p[j]):∀ y∈p.take (j+1),P y:=by
 intro y hy
 rw[List.take_succ_eq_append_getElem h] at hy
 rcases List.mem_append.1 hy with hy|hy
 ·exact h0 y hy
 ·have:y=p[j]:=by simpa using hy
  rw[this]
  exact h1
def zh0_ (L:List DefS) (x:LU × LU):LU × LU:=(z2z_ L x).2
def z1k_ (L:List DefS) (p:List (LU × LU)):List (LU × LU):=zaj_ (p.map (zh0_ L))
theorem z75_ {L:List DefS} {p:List (LU × LU)} (h:∀ x∈p,(z2z_ L x).1=0):z4o_ L p=(0,z1k_ L p):=by
 unfold z4o_
 rw[zc4_ h]
 rfl
theorem zg9_ {L:List DefS} {p:List (LU × LU)} {j:Nat} (hj:j<p.length) (h0:∀ y∈p.take j,(z2z_ L y).1=0) (h:(z2z_ L p[j]).1≠0):(z4o_ L p).1=(z2z_ L p[j]).1:=by
 unfold z4o_
 rw[z3k_ h0 (List.getElem?_eq_getElem hj) h]
theorem zpe_ {L:List DefS} {s:LU} (h:(zh_ s).1≠0):z5u_ L s=((zh_ s).1,[]):=by unfold z5u_;rw[if_pos h]
theorem znf_ {L:List DefS} {s:LU} {d:List (List (LU × LU))} {k:Nat} (h:zh_ s=(0,d)) (hk:k<d.length) (h0:∀ y∈d.take k,(z4o_ L y).1=0) (h1:(z4o_ L d[k]).1≠0):z5u_ L s=((z4o_ L d[k]).1,[]):=by
 unfold z5u_
 rw[h]
 simp only[ne_eq,not_true_eq_false,if_false]
 rw[z3k_ h0 (List.getElem?_eq_getElem hk) h1,if_pos h1]
theorem key_ok {L:List DefS} {s:LU} {d:List (List (LU × LU))} (h:zh_ s=(0,d)) (h0:∀ y∈d,∀ x∈y,(z2z_ L x).1=0):z5u_ L s=je_ (d.map (z1k_ L)):=by
 unfold z5u_
 rw[h]
 simp only[ne_eq,not_true_eq_false,if_false]
 have e:zbz_ (z4o_ L) d=(0,d.map (z1k_ L)):=by
  rw[zc4_ (fun y hy=>by rw[z75_ (h0 y hy)])]
  congr 1
  exact List.map_congr_left (fun y hy=>by rw[z75_ (h0 y hy)])
 rw[e]
 simp
theorem zip_ (L:List DefS) (x:LU × LU):z2z_ L x=((zf_ L x.1 x.2).1,(z2_ (z22_ L x.1),(zf_ L x.1 x.2).2)):=rfl
theorem zbf_ {L:List DefS} {i:Nat} {d:DefS} {a:AttrS} (hd:L[i]?=some d) (ha:q6_ L i=some a):a.name=d.name:=by
 unfold q6_ at ha
 rw[qv_,hd] at ha
 simp only at ha
 split at ha
 ·cases ha;rfl
 ·split at ha
  ·cases ha
  ·rw[Option.map_eq_some_iff] at ha
   obtain⟨u,_,rfl⟩:=ha
   rfl
theorem zhx_ {L:List DefS} {t:LU} {i:Nat} {a:AttrS} (hf:zg_ L false t=some i) (ha:q6_ L i=some a):z22_ L t=a.name:=by
 obtain⟨d,hd,_⟩:=kx_ hf
 unfold z22_ z9t_
 rw[hf]
 simp only
 rw[hd,zbf_ hd ha]
theorem zbu_ {L:List DefS} {t v:LU} (hf:zg_ L false t=none):zf_ L t v=(52,[]):=by unfold zf_;rw[hf]
open Go.RowKit Go.Sort
theorem z52_ {s:LU} {d:List (List (LU × LU))} (h:zh_ s=(0,d)):q2_ d=false:=by
 unfold zh_ at h
 split at h
 ·simp at h
 ·next h1=>
  split at h
  ·simp at h
  ·next d' hd=>
   split at h
   ·simp at h
   ·next h2=>
    cases h
    simpa using h2
theorem zh2_ (w:World) (g j:Nat) (l:List (LU × LU)) (h:RowA w g l) (hj:j<l.length) (u:Value):
  w.cell? ⟨g,j * 2,none⟩=some (.string ⟨l[j].1.toArray⟩)∧w.frozen? ⟨g,j * 2,none⟩=false∧(w.setCell ⟨g,j * 2,none⟩ u).cell? ⟨g,j * 2+1,none⟩=some (.string ⟨l[j].2.toArray⟩)∧(w.setCell ⟨g,j * 2,none⟩ u).frozen? ⟨g,j * 2+1,none⟩=false:=by
 have a:=h.at2 (List.getElem?_eq_getElem hj)
 refine⟨a.1,a.2.2.1,(q0_ _ _ _ _ _ (by omega)).trans a.2.1,?_⟩
 rw[World.frozen?_setCell]
 exact a.2.2.2
theorem zez_ {L:List DefS} (hlim:∀ d∈L,DefLim d) (t:LU):(z22_ L t).length≤1000000:=by
 unfold z22_
 cases hf:zg_ L false t with
 |none=>simp
 |some i=>
  simp only
  unfold z9t_
  cases hd:L[i]? with
  |none=>simp
  |some d=>
   simp only
   have h:=hlim d (List.mem_of_getElem? hd)
   unfold DefS.name
   cases hn:d.names with
   |nil=>exact h.oid
   |cons x t=>exact h.names.2 x (by rw[hn];simp)
theorem zrb_ (s:Nat) (L:List DefS) (x:LU) (w:World) (hw:Env w) (her:(zh_ x).1≠0):
  Calls Tryz.prog 17 #[z8_ s,.string ⟨x.toArray⟩] w fun e w'=>e= .returned (vd_ (z5u_ L x))∧Bel w w':=by
 rw[zpe_ her]
 have hP:=vy_ x w hw
 generalize zh_ x=ps at *
 obtain⟨er,d⟩:=ps
 have hbn:((er:Int) !=0)=true:=bne_iff_ne.2 her
 have HP:=hiD hP
 clear hP her
 unfold z8_
 go_enter Tryz.func17,Tryz.ntmps17
 go_wp2_with (go_at_call 33;refine HP.out.mono ?_;rintro e w1 ⟨hb1,v,rfl,hd⟩;obtain⟨A0,c0,rfl,hc0⟩:=hd.isSlice)
 go_ret2
 exact⟨rfl,hb1⟩
theorem Key_ok (s:Nat) (ps:List Nat) (L:List DefS) (hlim:∀ d∈L,DefLim d) (hrl:∀ d∈L,RuleLim d) (hk:∀ t i,zg_ L false t=some i→∃ a,q6_ L i=some a) (x:LU) (w:World) (hw:Env w) (hS:SchAt w s ps L) (d:List (List (LU × LU))) (hp:zh_ x=(0,d)):
  Calls Tryz.prog 17 #[z8_ s,.string ⟨x.toArray⟩] w fun e w'=>e= .returned (vd_ (z5u_ L x))∧Bel w w':=by
 have htl:=z52_ hp
 have hP:=vy_ x w hw
 have hne:=z40_ (s:=x)
 have hty:=z1u_ (s:=x)
 rw[hp] at hP hne hty
 simp only at hne hty
 have hbn:((0:Int) !=0)=false:=by decide
 have HP:=hiD hP
 have HNE:=hiD hne
 have hd20:d.length≤20:=by unfold q2_ at htl;simp at htl;omega
 have HSM:Hid (∀ p∈d,p.length≤4∧∀ x∈p,x.1.length≤64∧x.2.length≤1024):=by
  refine hiD fun p hp=>?_
  unfold q2_ at htl
  rw[Bool.or_eq_false_iff] at htl
  have h1:=List.any_eq_false.1 htl.2 p hp
  unfold qx_ at h1
  simp only[Bool.or_eq_true,decide_eq_true_eq,not_or] at h1
  refine⟨by omega,fun x hx=>?_⟩
  have h2:p.any qz_=false:=by simpa using h1.2
  have h3:=List.any_eq_false.1 h2 x hx
  unfold qz_ at h3
  simp at h3
  refine⟨?_,h3⟩
  have h4:=hty p hp x hx
  unfold zd_ at h4
  split at h4
  ·simp at h4
  ·next e=>rw[e];simp only[Bool.and_eq_true,decide_eq_true_eq] at h4;exact h4.1
 have HAN:Hid (∀ (t:LU) (W:World),Bel w W→t.length≤64→zg_ L false t=none→Calls Tryz.prog 11 #[.pointer (some ⟨s,0,none⟩),.string ⟨t.toArray⟩] W fun e w'=>e= .returned (.tuple #[zu_ z3h_ (.slice none 0 0),.int .i64 52])∧Bel W w'):=hiD fun t W h hl hf=>(zk0_ s ps L t W (hS.below h) (by omega) hf).mono (by
  rintro e w' ⟨h1,h2⟩
  exact⟨h2,h1⟩)
 have HAS:Hid (∀ (t:LU) (i:Nat) (a:AttrS) (W:World),Bel w W→t.length≤64→zg_ L false t=some i→q6_ L i=some a→Calls Tryz.prog 11 #[.pointer (some ⟨s,0,none⟩),.string ⟨t.toArray⟩] W fun e w'=>∃ A n c,e= .returned (.tuple #[zu_ a (.slice A n c),.int .i64 0])∧Bel W w'):=hiD fun t i a W h hl hf ha=>(ziz_ s ps L hlim t i a W (hS.below h) (by omega) hf ha).mono (by
  rintro e w' ⟨h1,nv,rfl,h2⟩
  obtain⟨A,c,rfl,_⟩:=h2.isSlice
  exact⟨A,_,c,rfl,h1⟩)
 have HNT:Hid (∀ (t v:LU) (W:World),Bel w W→t.length≤64→Calls Tryz.prog 34 #[.pointer (some ⟨s,0,none⟩),.string ⟨t.toArray⟩,.string ⟨v.toArray⟩] W fun e w'=>e= .returned (.tuple #[.string ⟨(zf_ L t v).2.toArray⟩,.int .i64 (zf_ L t v).1])∧Bel W w'):=hiD fun t v W h hl=>z73_ s ps L hlim hrl hk t v W (hw.keep h) (hS.below h) (by omega)
 have HNM:=hiD (zez_ hlim)
 have HK:=hiD hk
 have HKF:Hid (∀ (k:Nat) (hk:k<d.length) (p:List (LU × LU)) (j:Nat) (hj:j<p.length),d[k]=p→(∀ y∈d.take k,∀ z∈y,(z2z_ L z).1=0)→(∀ y∈p.take j,(z2z_ L y).1=0)→(z2z_ L p[j]).1≠0→z5u_ L x=((z2z_ L p[j]).1,[])):=hiD fun k hk p j hj he h0 h1 h2=>by
  subst he
  have h3:=zg9_ hj h1 h2
  have h4:=znf_ (L:=L) hp hk (fun y hy=>by rw[z75_ (h0 y hy)]) (by rw[h3];exact h2)
  rw[h4,h3]
 have HKO:Hid ((∀ y∈d,∀ z∈y,(z2z_ L z).1=0)→z5u_ L x=je_ (d.map (z1k_ L))):=hiD fun h=>key_ok hp h
 clear hP hne hty htl hS hlim hrl hk hp
 unfold z8_
 unfold zu_ z0_ z3h_ at HAN
 go_enter Tryz.func17,Tryz.ntmps17
 go_wp2_with fail
 refine HP.out.mono ?_
 rintro e w1 ⟨hb1,v,rfl,hd⟩
 change DnAt w.heap.size w1 v d at hd
 obtain⟨A0,c0,rfl,hc0⟩:=hd.isSlice
 by_cases hdn:d=[]
 ·subst hdn
  have hPr:=z74_ [] (.slice A0 0 c0) w1 (hw.keep hb1) hd.reads (by simp) (by simp)
  rw[show je_ []=(0,[]) by decide] at hPr
  simp only[vd_] at hPr
  have HPr:=hiD hPr
  have hfin:z5u_ L x=(0,[]):=by rw[HKO.out (by simp),List.map_nil];decide
  have HF:=hiD hfin
  clear hPr hfin
  simp only[List.length_nil]
  go_wp2_with fail
  go_loopg [25] 0 (fun gk i wr=>i= .int .i64 0∧wr=w1)
  case atStart=>exact⟨rfl,rfl⟩
  case round=>
   obtain⟨rfl,rfl⟩:=hrel
   go_wp2_with (go_at_call 37;refine HPr.out.mono ?_;rintro e w2 ⟨rfl,hb2⟩)
   go_ret2
   rw[HF.out]
   exact⟨rfl,tQ hb1 hb2⟩
 ·have hlpos:0<d.length:=List.length_pos_iff.2 hdn
  obtain⟨gd,rfl⟩:∃ gd,A0=some ⟨gd,0,none⟩:=by
   obtain⟨vs,⟨h1,h2⟩,_⟩:=hd
   rcases h2 with ⟨hv,hn⟩|⟨g,cap,cur,hv,_⟩
   ·have:=(Value.slice.inj hv).2.1;omega
   ·have:=(Value.slice.inj hv).1;exact⟨g,this⟩
  have hS0:zcz_ w.heap.size w1 gd d:=hd.nm HNE.out
  clear hd
  go_wp2_with fail
  go_loopg [25] d.length (fun gk i wr=>∃ k:Nat,k≤d.length∧i= .int .i64 k∧Aside (k+gk=d.length)∧Bel w wr∧zcz_ w.heap.size wr gd (z0a_ (z1k_ L) d k)∧Aside (∀ y∈d.take k,∀ z∈y,(z2z_ L z).1=0))
  case atStart=>exact⟨0,by omega,rfl,by show _=_;omega,hb1,by rw[z60_];exact hS0,fun y hy=>by simp at hy⟩
  case round=>
   obtain⟨k,hk,rfl,AG,hB,hS,AD⟩:=hrel
   obtain⟨wo,hwo⟩:∃ wo,wo=wr:=⟨_,rfl⟩
   subst hwo
   by_cases hlt:k<d.length
   ·obtain⟨q,rfl⟩:∃ q,gk=q+1:=⟨gk - 1,by have:=AG.out;omega⟩
    obtain⟨LM,hL,hNM⟩:=hS
    have hLlen:LM.length=d.length:=by have:=congrArg List.length hL;rw[List.length_map,z8b_] at this;exact this
    obtain⟨⟨g,cap,p⟩,hLk⟩:∃ x,LM[k]?=some x:=⟨_,List.getElem?_eq_getElem (by omega)⟩
    have hpk:d[k]=p:=by
     have h1:(LM.map (·.2.2))[k]?=some p:=by rw[List.getElem?_map,hLk];rfl
     rw[hL,zcr_ _ _ _ hlt] at h1
     exact Option.some.inj h1
    have hpm:p∈d:=hpk ▸ List.getElem_mem hlt
    have hx:=hNM.2.2.2 k _ hLk
    simp only at hx
    obtain⟨x1,x2,x3,x4,x5,x6⟩:=hx
    obtain⟨hp4,hpx⟩:=HSM.out p hpm
    have HL:=hiD hL
    have HLK:=hiD hLk
    have HPX:=hiD hpx
    have HPK:=hiD hpk
    have hgd:=hNM.1
    clear hL hLk hpx hpk
    go_wp2_with fail
    go_loopg [32] p.length (fun gk i wi=>∃ j:Nat,j≤p.length∧i= .int .i64 j∧Aside (j+gk=p.length)∧wo.grownBy wi (some g)∧RowA wi g (z0a_ (zh0_ L) p j)∧Aside (∀ y∈p.take j,(z2z_ L y).1=0))
    case atStart=>exact⟨0,by omega,rfl,by show _=_;omega,World.grownBy.refl _ _,by rw[z60_];exact x3,fun y hy=>by simp at hy⟩
    case round=>
     obtain⟨j,hj,rfl,AG2,hgi,hR,AP⟩:=hrel
     by_cases hjl:j<p.length
     ·obtain⟨q2,rfl⟩:∃ q2,gk=q2+1:=⟨gk - 1,by have:=AG2.out;omega⟩
      have hAt:=zcr_ (zh0_ L) p j hjl
      have ha:=hR.at2 hAt
      obtain⟨d0,d1,z0,z1⟩:=ha
      obtain⟨l64,l1024⟩:=HPX.out p[j] (List.getElem_mem hjl)
      have hlen:=z8b_ (zh0_ L) p j
      have HSU:=hiD (z6a_ (zh0_ L) p j hjl)
      have HR:=hiD hR
      have HGI:=hiD hgi
      have hglt:g<wr.heap.size:=z9_ d0
      have hBr:Bel w wr:=hB.grown hgi hB.size (fun k hk=>by cases hk;exact x5)
      have hBA:=hBr.alloc hBr.size (.cells #[.string ⟨p[j].1.toArray⟩,.string ⟨p[j].2.toArray⟩] 90)
      have kA:=Bk.new wr 90 #[.string ⟨p[j].1.toArray⟩,.string ⟨p[j].2.toArray⟩]
      have HBA:=hiD hBA
      have HKA:=hiD kA
      have HFAIL:Hid ((z2z_ L p[j]).1≠0→z5u_ L x=((z2z_ L p[j]).1,[])):=hiD fun h=>HKF.out k hlt p j hjl HPK.out AD.out AP.out h
      clear hR hgi hBr hBA kA
      cases hf:zg_ L false p[j].1 with
      |none=>
       have hfail:z5u_ L x=(52,[]):=by
        have he:(z2z_ L p[j]).1=52:=by rw[zip_,zbu_ hf]
        rw[HFAIL.out (by rw[he];decide),he]
       have HF:=hiD hfail
       have HC:=hiD (HAN.out p[j].1 _ HBA.out l64 hf)
       clear hfail hf
       go_wp2_with (go_at_call 11;refine HC.out.mono ?_;rintro e w2 ⟨rfl,hb2⟩)
       go_ret2
       rw[HF.out]
       exact⟨rfl,HBA.out.trans ((hb2.alloc hb2.size _).mono HBA.out.size)⟩
      |some i=>
       obtain⟨a,hca⟩:=HK.out _ _ hf
       have hnm:z22_ L p[j].1=a.name:=zhx_ hf hca
       have hnl:a.name.length≤1000000:=by rw[← hnm];exact HNM.out _
       have hav:z2z_ L p[j]=((zf_ L p[j].1 p[j].2).1,(z2_ a.name,(zf_ L p[j].1 p[j].2).2)):=by rw[zip_,hnm]
       have hNT:=fun W h=>HNT.out p[j].1 p[j].2 W h l64
       have HC:=hiD (HAS.out p[j].1 i a _ HBA.out l64 hf hca)
       unfold zu_ z0_ at HC
       generalize zf_ L p[j].1 p[j].2=nr at hav hNT
       obtain⟨ne,ns⟩:=nr
       simp only at hav hNT
       have HNT2:=hiD hNT
       have HAV:=hiD hav
       clear hNT hav hnm hf hca
       by_cases hne:ne=0
       ·subst hne
        go_wp2_with (first|(go_at_call 11;refine HC.out.mono ?_;rintro e w2 ⟨A,n,c,rfl,hb2⟩;have kA2:=HKA.out.below hb2;have hB2:=tQ HBA.out hb2;have f0:=fun z=>(kA2.alloc z).cell 0;have f1:=fun z=>(kA2.alloc z).cell 1;simp only[gs3] at f0 f1)|(go_at_call 34;refine(HNT2.out _ (hB2.alloc hB2.size _)).mono ?_;rintro e w4 ⟨rfl,hb4⟩;have hB4:=(hB2.alloc hB2.size _).trans (hb4.mono (hB2.alloc hB2.size _).size);have n4:=(hb4.cell (p:=⟨w2.heap.size,1,none⟩) (by show w2.heap.size<_;rw[World.size_alloc];omega)).trans ((Bk.new w2 _ _).cell 1);simp only[gs3] at n4;have g4:wr.grownBy w4 none:=gT (World.grownBy_alloc _ _ _) (gT (zc_ hb2 none) (gT (World.grownBy_alloc _ _ _) (zc_ hb4 none))))|(go_at_call 35;refine(yh_ _ _ (by omega)).mono ?_;rintro e w5 ⟨rfl,hb5⟩;have g5:=gT g4 (zc_ hb5 none);have hR5:=HR.out.keep g5 (by simp);have ss:=zh2_ w5 g j _ hR5 (by omega);have s0:=(ss (.string ⟨(z2_ a.name).toArray⟩)).1;have s1:=(ss (.string ⟨(z2_ a.name).toArray⟩)).2.1;have s2:=(ss (.string ⟨(z2_ a.name).toArray⟩)).2.2.1;have s3:=(ss (.string ⟨(z2_ a.name).toArray⟩)).2.2.2))
        go_roundg q2
        case measure=>omega
        case rel=>
         refine⟨j+1,by omega,by go_num,by have:=AG2.out;show _=_;omega,gT HGI.out (gT (z0l_ g5 _) (gT (z7_ _ _ _ _) (z7_ _ _ _ _))),?_,?_⟩
         ·have h:=hR5.set (j:=j) (by omega) (z2_ a.name,ns)
          rw[← HSU.out,show zh0_ L p[j]=(z2_ a.name,ns) by unfold zh0_;rw[HAV.out]]
          exact h
         ·exact z0s_ hjl AP.out (by rw[HAV.out])
       ·have hfail:z5u_ L x=(ne,[]):=by
         have he:(z2z_ L p[j]).1=ne:=by rw[HAV.out]
         rw[HFAIL.out (by rw[he];exact hne),he]
        have HF:=hiD hfail
        have hq:((ne:Int) !=0)=true:=bne_iff_ne.2 hne
        clear hfail hne
        go_wp2_with (first|(go_at_call 11;refine HC.out.mono ?_;rintro e w2 ⟨A,n,c,rfl,hb2⟩;have kA2:=HKA.out.below hb2;have hB2:=tQ HBA.out hb2;have f0:=fun z=>(kA2.alloc z).cell 0;have f1:=fun z=>(kA2.alloc z).cell 1;simp only[gs3] at f0 f1)|(go_at_call 34;refine(HNT2.out _ (hB2.alloc hB2.size _)).mono ?_;rintro e w4 ⟨rfl,hb4⟩))
        go_ret2
        rw[HF.out]
        exact⟨rfl,(hB2.alloc hB2.size _).trans (hb4.mono (hB2.alloc hB2.size _).size)⟩
     ·obtain rfl:j=p.length:=by omega
      have hRp:RowA wr g (p.map (zh0_ L)):=by rw[z8x_] at hR;exact hR
      have hPart:=zoi_ (p.map (zh0_ L)) g cap wr hRp (by simp;omega) (by simp;exact x4)
      rw[List.length_map] at hPart
      have hPart':Calls Tryz.prog 36 #[.slice (some ⟨g,0,none⟩) p.length cap] wr fun e w'=>e= .returned (.slice (some ⟨g,0,none⟩) (z1k_ L p).length cap)∧RowA w' g (z1k_ L p)∧wr.grownBy w' (some g):=hPart
      have hnl:(z1k_ L p).length≤p.length:=by have:=z0f_ (p.map (zh0_ L));rw[List.length_map] at this;exact this
      have HGI:=hiD hgi
      have HAP:Hid (∀ z∈p,(z2z_ L z).1=0):=hiD (by have:=AP.out;rw[List.take_length] at this;exact this)
      clear hRp hPart hR hgi AP
      go_wp2_with fail
      refine hPart'.mono ?_
      rintro e w7 ⟨rfl,hR7,hg7⟩
      have g7:=gT HGI.out hg7
      have c7:w7.cell? ⟨gd,k,none⟩=some (.slice (some ⟨g,0,none⟩) p.length cap):=g7.cell x1 (by intro e;exact x6 (Option.some.inj e).symm)
      have z7:w7.frozen? ⟨gd,k,none⟩=false:=(World.frozen?_of_block (a:=⟨gd,k,none⟩) (g7.block gd hgd (by intro e;exact x6 (Option.some.inj e).symm))).trans x2
      have hNM7:=hNM.part HLK.out g7 hR7 (nT hnl x4)
      have hB7:Bel w w7:=hB.grown g7 hB.size (fun k hk=>by cases hk;exact x5)
      have hgdB:=hNM.2.1
      have HNM7:=hiD hNM7
      have HB7:=hiD hB7
      clear hNM7 hB7
      go_wp2_with fail
      go_roundg q
      case measure=>omega
      case rel=>
       refine⟨k+1,by omega,by go_num,by have:=AG.out;show _=_;omega,HB7.out.setCell hgdB _,⟨_,?_,HNM7.out⟩,?_⟩
       ·rw[List.map_set,HL.out]
        show (z0a_ (z1k_ L) d k).set k (z1k_ L p)=_
        rw[← HPK.out]
        exact z6a_ (z1k_ L) d k hlt
       ·exact z0s_ (P:=fun y=>∀ z∈y,(z2z_ L z).1=0) hlt AD.out (by rw[HPK.out];exact HAP.out)
   ·obtain rfl:k=d.length:=by omega
    obtain⟨LM,hL,hNM⟩:=hS
    rw[z8x_] at hL
    have hLlen:LM.length=d.length:=by have:=congrArg List.length hL;simpa using this
    have hall:∀ y∈d,∀ z∈y,(z2z_ L z).1=0:=by have:=AD.out;rw[List.take_length] at this;exact this
    have hfin:=HKO.out hall
    have hdr:=hNM.dnR (c:=c0) (by omega)
    rw[hL,hLlen] at hdr
    have hPr:=z74_ (d.map (z1k_ L)) (.slice (some ⟨gd,0,none⟩) d.length c0) wo (hw.keep hB) hdr (by simp;omega) (fun p hp=>by
     obtain⟨p0,hp0,rfl⟩:=List.mem_map.1 hp
     obtain⟨h4,hx⟩:=HSM.out p0 hp0
     have:=z0f_ (p0.map (zh0_ L))
     rw[List.length_map] at this
     refine⟨by unfold z1k_;omega,fun x hx'=>?_⟩
     have:=z9s_ _ x hx'
     obtain⟨y,hy,rfl⟩:=List.mem_map.1 this
     show (z2_ (z22_ L y.1)).length≤_
     rw[z5f_]
     exact HNM.out _)
    rw[← hfin] at hPr
    obtain⟨pr,hpr⟩:∃ pr,z5u_ L x=pr:=⟨_,rfl⟩
    rw[hpr] at hPr
    have HF:=hiD hpr
    clear hpr
    obtain⟨pe,ps⟩:=pr
    simp only[vd_] at hPr
    have HPr:=hiD hPr
    clear hPr hdr hL hNM hfin hall AD
    go_wp2_with (go_at_call 37;refine HPr.out.mono ?_;rintro e w2 ⟨rfl,hb2⟩)
    go_ret2
    rw[HF.out]
    exact⟨rfl,tQ hB hb2⟩
open Go.RowKit
open Go.RowKit
theorem zcg_ {B:Nat} (w:World) (hB:B≤w.heap.size) (xs:LL) (hx:xs.length≤1000000):Own B (w.alloc (.cells (xs.map jp_).toArray 9)) (.slice (some ⟨w.heap.size,0,none⟩) xs.length xs.length) xs:=by
 refine⟨⟨by simp,.inr ⟨w.heap.size,xs.length,(xs.map jp_).toArray,rfl,hB,heap_alloc_new w _,nR _,by unfold maxLen;omega,by simp,?_⟩⟩,by rw[World.size_alloc];omega⟩
 show (List.take (xs.length * 1) _)=_
 rw[List.take_of_length_le (by simp)]
theorem Base_w (w:World):Calls Tryz.prog 15 #[] w fun e w'=>e= .returned (.tuple #[.slice (some ⟨w.heap.size,0,none⟩) 18 18,.slice (some ⟨w.heap.size+1,0,none⟩) 10 10])∧(w.alloc (.cells (baseA.map jp_).toArray 9)).alloc (.cells (baseC.map jp_).toArray 9)=w':=by
 go_enter Tryz.func15,Tryz.ntmps15
 go_wp2_with fail
 go_ret2
 exact⟨rfl,rfl⟩
theorem zo1_ (w:World):Calls Tryz.prog 15 #[] w fun e w'=>e= .returned (.tuple #[.slice (some ⟨w.heap.size,0,none⟩) 18 18,.slice (some ⟨w.heap.size+1,0,none⟩) 10 10])∧Bel w w'∧Own w.heap.size w' (.slice (some ⟨w.heap.size,0,none⟩) 18 18) baseA∧Own (w.heap.size+1) w' (.slice (some ⟨w.heap.size+1,0,none⟩) 10 10) baseC:=by
 refine(Base_w w).mono ?_
 rintro e w' ⟨rfl,rfl⟩
 have h1:=zcg_ (B:=w.heap.size) w (nR _) baseA (by decide)
 have h2:=zcg_ (B:=w.heap.size+1) (w.alloc (.cells (baseA.map jp_).toArray 9)) (by rw[World.size_alloc];omega) baseC (by decide)
 rw[World.size_alloc] at h2
 exact⟨rfl,((bR _ _).alloc (nR _) _).alloc (by simp) _,h1.below ((bR _ _).alloc (nR _) _),h2⟩
open Go.RowKit
structure Sound (L:List DefS):Prop where
 says:NewSays L
 lim:∀ d∈L,DefLim d
 rul:∀ d∈L,RuleLim d
theorem Sound.counts {L:List DefS} (h:Sound L) (t:LU) (i:Nat) (hf:zg_ L false t=some i):∃ a,q6_ L i=some a:=by
 obtain⟨d,hd,hc,_⟩:=kx_ hf
 exact h.says.counts hd hc
theorem zgq_ {a c:LL} {L:List DefS} (h:zdw_ a c= .inr L):ql_ a.length 0 (a++c) []= .inr L:=by
 unfold zdw_ at h
 split at h
 ·cases h
 ·split at h
  ·cases h
  ·next L' hr=>
   split at h
   ·cases h
   ·split at h
    ·cases h
    ·split at h
     ·cases h
     ·cases h
      exact hr
theorem zmc_ {a c:LL} {L:List DefS} (h:zdw_ a c= .inr L) (hs:∀ x∈a++c,x.length≤1000000):Sound L:=by
 have hl:=z3n_ _ _ _ _ _ hs (fun d hd=>by simp at hd) (zgq_ h)
 exact⟨zjn_ h,fun d hd=>(hl.1 d hd).1,fun d hd=>(hl.1 d hd).2⟩
theorem z1v_:∀ x∈baseA++baseC,x.length≤1000:=by decide+kernel
theorem zae_:baseA.length=18:=rfl
theorem z8p_:baseC.length=10:=rfl
theorem base_sound:Sound baseL:=zmc_ z7d_ (fun x hx=>nT (z1v_ x hx) (by decide))
theorem Key_c (s:Nat) (ps:List Nat) (L:List DefS) (hL:Sound L) (x:LU) (w:World) (hw:Env w) (hS:SchAt w s ps L):
  Calls Tryz.prog 17 #[z8_ s,.string ⟨x.toArray⟩] w fun e w'=>e= .returned (vd_ (z5u_ L x))∧Bel w w':=by
 by_cases h:(zh_ x).1=0
 ·exact Key_ok s ps L hL.lim hL.rul hL.counts x w hw hS (zh_ x).2 (by rw[← h])
 ·exact zrb_ s L x w hw h
open Go.RowKit
def TextsA (w:World) (v:Value) (xs:LL):Prop:=
 (xs=[]∧v= .slice none 0 0)∨∃ (a:Addr) (c:Nat),v= .slice (some a) xs.length c∧xs.length≤c∧∀ j (hj:j<xs.length),w.cell? (a.add j)=some (.string ⟨xs[j].toArray⟩)
theorem TextsA.below {w w':World} {v:Value} {xs:LL} (h:TextsA w v xs) (hb:Bel w w'):TextsA w' v xs:=by
 rcases h with h|⟨a,c,rfl,hc,hx⟩
 ·exact .inl h
 ·exact .inr ⟨a,c,rfl,hc,fun j hj=>(hb.cell (z9_ (hx j hj))).trans (hx j hj)⟩
theorem TextsA.at {w:World} {v:Value} {xs:LL} (h:TextsA w v xs):∃ A c,v= .slice A xs.length c∧xs.length≤c∧(∀ j (hj:j<xs.length),∃ a,A=some a∧w.cell? (a.add j)=some (.string ⟨xs[j].toArray⟩)):=by
 rcases h with ⟨rfl,rfl⟩|⟨a,c,rfl,hc,hcell⟩
 ·exact⟨_,_,rfl,Nat.zero_le _,fun j hj=>by simp at hj⟩
 ·exact⟨_,_,rfl,hc,fun j hj=>⟨a,rfl,hcell j hj⟩⟩
theorem zah_ {ops:Array Oper} {rest:List Oper} {o:Oper} {a:Act} {Q:Exit→Act→World→Prop} {w:World} (hgd:o.guard=none) (s x:Operand) (ho:o.op= .call {callee:= .builtin .append,args:=#[s,x],argTypes:=#[36,36]})
  {v xv:Value} {xs ys:LL} {B:Nat} (hs:a.eval s=v) (hb:Own B w v xs)
  (hx:a.eval x=xv) (hy:TextsA w xv ys) (hlen:xs.length+ys.length<4398046511104)
  (h:∀ v' w',Own B w' v' (xs++ys)→w.grownBy w' v.ownBlock→wpList Tryz.prog ops Q rest (a.put o.dst v') w'):wpList Tryz.prog ops Q (o::rest) a w:=by
 obtain⟨i,h1,h2,h3,h4⟩:=k2_
 rcases hy with ⟨rfl,rfl⟩|⟨b,c,rfl,hc,hcell⟩
 ·refine wpList_append_own_none hgd s x 36 ho B 9 i 1 Tryz.underlying36 h1 v _ _ hs hb.1 hx ?_
  exact h v w (by simpa using hb) (World.grownBy.refl _ _)
 ·refine wpList_append_own _ hgd s x 36 ho B 9 i (.string ⟨#[]⟩) 1 16 Tryz.underlying36 h1 h2 h3 h4 rfl (by decide) v _ _ hs hb.1 b ys.length c (ys.map jp_) hx (by simp) ?_ ?_ (by unfold maxLen;omega) (by omega) hb.2 ?_
  ·intro j u hj
   have hjl:j<ys.length:=by simpa using (List.getElem?_eq_some_iff.1 hj).1
   rw[hcell j hjl]
   simp [hjl] at hj
   rw[← hj];rfl
  ·intro u hu
   simp at hu
   obtain⟨q,_,rfl⟩:=hu
   rfl
  ·intro v' w' ho' hg _
   exact h v' w' ⟨by simpa using ho',nT hb.2 hg.size⟩ hg
end Go.Proofs.YtbekpphodbekiaaGreatDoor
