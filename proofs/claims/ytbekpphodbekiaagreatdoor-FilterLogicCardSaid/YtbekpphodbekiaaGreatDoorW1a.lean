import Derived.Test.YtbekpphodbekiaaGreatDoorW10
set_option linter.all false
set_option maxHeartbeats 8000000
set_option maxRecDepth 100000
namespace Go.Proofs.YtbekpphodbekiaaGreatDoor
open Go.RowKit
theorem OwnFl.isSlice1 {B:Nat} {w:World} {v:Value} {qs:List q6_} {q:q6_} (h:OwnFl B w v (qs++[q])):∃ A c,v= .slice A (qs.length+1) c∧qs.length+1≤c:=by
 obtain⟨A,c,h1,h2⟩:=h.isSlice
 rw[List.length_append,List.length_singleton] at h1 h2
 exact⟨A,c,h1,h2⟩
def z1z_ (o:Option (List Fil.FilE × LU)):Option (List Fil.FilE × LU):=match o with
 |some (l,r)=>match xf_ 41 r with
  |some r'=>some (l,r')
  |none=>none
 |none=>none
theorem ziz_ {d k:Nat} {s:LU} (h:xf_ 40 s=none):Fil.filF (d+1) k s=none:=by
 unfold Fil.filF
 split
 ·rfl
 ·split
  ·next s1=>rw[show xf_ 40 (40::s1)=some s1 from rfl] at h;cases h
  ·rfl
theorem z8l_ {d k:Nat} {s s1:LU} (hk:¬ 100≤k) (h:xf_ 40 s=some s1):Fil.filF (d+1) k s=z1z_ (Fil.bodyF (Fil.filF d) k s1):=by
 obtain rfl:s=40::s1:=by
  cases s with
  |nil=>cases h
  |cons x u=>
   by_cases hx:x=40
   ·have h1:xf_ 40 (x::u)=some u:=if_pos hx
    rw[h1] at h
    cases h;rw[hx]
   ·have h1:xf_ 40 (x::u)=none:=if_neg hx
    rw[h1] at h
    cases h
 unfold Fil.filF
 rw[if_neg hk]
 simp only
 cases Fil.bodyF (Fil.filF d) k s1 with
 |none=>rfl
 |some lr=>
  obtain⟨l,r⟩:=lr
  cases r with
  |nil=>rfl
  |cons x u=>
   by_cases hx:x=41
   ·subst hx;rfl
   ·have h1:xf_ 41 (x::u)=none:=if_neg hx
    unfold z1z_
    simp only[h1]
    split
    ·next e=>cases e;exact absurd rfl hx
    ·rfl
theorem zjw_ (N p:Nat) (s:LU) (v:Value) (qs:List q6_) (w:World) (h:RdF N p w s v qs) (hs:s.length≤1000000):
  Calls Tryz.prog 53 #[.pointer (some ⟨p,0,none⟩)] w fun e w'=>w.grownBy w' (some p)∧match Fil.itemF s with
   |some (f,r)=>∃ A n c,e= .returned (.agg #[.int .i64 f.op,.int .i64 f.n,.string ⟨f.typ.toArray⟩,.string ⟨f.val.toArray⟩,.string ⟨f.ini.toArray⟩,.string ⟨f.fin.toArray⟩,.slice A n c])∧TxT w' (.slice A n c) f.any∧RdF w'.heap.size p w' r v qs
   |none=>e= .panicked qk_:=by
 refine(zpd_ N p s v qs w h hs).mono ?_
 intro e w' hr
 obtain⟨h1,h2⟩:=hr
 refine⟨h1,?_⟩
 cases hi:Fil.itemF s with
 |none=>rw[hi] at h2;exact h2
 |some fr=>
  obtain⟨f,r⟩:=fr
  rw[hi] at h2
  obtain⟨A,n,c,he,hT,_,hR⟩:=h2
  exact⟨A,n,c,he,hT,hR.fit⟩
theorem z91_ (d N p:Nat) (s s1:LU) (v:Value) (qs:List q6_) (w:World) (x:Int) (hx1:x<20) (h:RdF N p w s v qs) (hs:s.length≤1000000) (h100:¬ 100≤qs.length) (htk:xf_ 40 s=some s1) (hop:Fil.opF s1=none):
  Calls Tryz.prog 25 #[.pointer (some ⟨p,0,none⟩),.int .i64 x] w (FRet p w qs (Fil.filF (d+1) qs.length s)):=by
 rw[z8l_ h100 htk]
 have hbody:Fil.bodyF (Fil.filF d) qs.length s1=match Fil.itemF s1 with
  |some (p,r)=>some ([p],r)
  |none=>none:=by unfold Fil.bodyF;rw[hop];rfl
 rw[hbody]
 obtain⟨A,c,rfl,hc⟩:=h.own.isSlice
 obtain⟨c0,c1,f0,f1⟩:=h.cells
 have hl1:=z41_ htk
 have hs1:s1.length≤1000000:=by omega
 have hlt:(qs.length:Int)<100:=by omega
 have hql:qs.length<1000000:=by omega
 have HT40:Hid (Calls Tryz.prog 51 #[.pointer (some ⟨p,0,none⟩),.int .u8 40] w fun e w'=>w.grownBy w' (some p)∧e= .returned (.tuple #[])∧RdF N p w' s1 (.slice A qs.length c) qs):=hiD ((z5q_ N p 40 s _ qs w h).mono (by intro e w' hr;rw[htk] at hr;exact hr))
 have hgp:=fun (w':World) (hg:w.grownBy w' (some p))=>h.grownP hg
 have HGP:=hiD hgp
 have HI:=hiD (fun W (hW:RdF N p W s1 (.slice A qs.length c) qs)=>zjw_ N p s1 (.slice A qs.length c) qs W hW hs1)
 clear h htk hbody hgp
 have hP2:=fun (w2:World) (hg:w.grownBy w2 (some p))=>HGP.out w2 hg
 have hP2:=fun (w2:World) (hg:w.grownBy w2 (some p))=>HGP.out w2 hg
 have hP2:=fun (w2:World) (hg:w.grownBy w2 (some p))=>HGP.out w2 hg
 have hP2:=fun (w2:World) (hg:w.grownBy w2 (some p))=>HGP.out w2 hg
 have hP2:=fun (w2:World) (hg:w.grownBy w2 (some p))=>HGP.out w2 hg
 cases s1 with
 |nil=>
  rw[show Fil.itemF []=none from rfl] at HI ⊢
  have HI2:Hid (∀ W,RdF N p W [] (.slice A qs.length c) qs→Calls Tryz.prog 53 #[.pointer (some ⟨p,0,none⟩)] W fun e w'=>W.grownBy w' (some p)∧((Hid False∧e= .returned (.agg #[.int .i64 0,.int .i64 0,.string ⟨#[]⟩,.string ⟨#[]⟩,.string ⟨#[]⟩,.string ⟨#[]⟩,.slice none 0 0]))∨e= .panicked qk_)):=hiD fun W hW=>(HI.out W hW).mono fun e w' hr=>⟨hr.1,.inr hr.2⟩
  go_enter Tryz.func25,Tryz.ntmps25
  go_wp2_with (go_at_call 51;(with_reducible refine HT40.out.mono ?_);rintro e w2 ⟨hg2,rfl,hR2⟩;have HR2:=hiD hR2;obtain⟨d0,d1,g0,g1⟩:=hR2.cells;clear hR2)
  go_region_law (first|(go_simp;go_at_call 53;(refine(HI2.out _ (by exact HR2.out.below (bR _ _).drew)).mono ?_);rintro e w5 ⟨hg5,(⟨HF,rfl⟩|rfl)⟩;rotate_left;go_simp;(refine⟨rfl,?_⟩);exact⟨((HGP.out _ hg2).drew).trans ((HR2.out.below (bR _ _).drew).grownP hg5),rfl⟩;have HR5:Hid (RdF w5.heap.size p w5 [] (.slice A qs.length c) qs):=HF.out.elim;obtain⟨k0,k1,kf0,kf1⟩:=HR5.out.cells;have ka:=fun (o:Obj)=>((zd_ w5 o).cell (z9_ k1)).trans k1)|(refine xv_ (p:=⟨0,0,[],[],[],[],[]⟩) (va:= .slice none 0 0) (v:= .slice A qs.length c) (qs:=qs) (B:=p+1) (w0:=w5) (by rfl) (.tmp 41) (.tmp 44) (by rfl) rfl rfl HR5.out.own rfl hql ?_;intro v' w6 hO6 hg6;obtain⟨A6,c6,rfl,hc6⟩:=hO6.isSlice1;have k6:=HR5.out.at_.grown hg6 (fun e=>HR5.out.ne p e.symm rfl);have z1:=k6.cell 1;have zf:=k6.frozen 1;simp only[gs3] at z1))
  all_goals exact HF.out.elim
 |cons y u=>
  have hix:Lib.indexByte [38,124,33] y<0:=by
   have:=zn8_ y u
   rw[hop] at this
   by_cases h:Lib.indexByte [38,124,33] y<0
   ·exact h
   ·rw[if_neg h] at this;cases this
  have HIB:=hiD (fun W=>zl_ [38,124,33] y W)
  have hget:=qd_
  cases hi:Fil.itemF (y::u) with
  |none=>
   rw[hi] at HI
   have HI2:Hid (∀ W,RdF N p W (y::u) (.slice A qs.length c) qs→Calls Tryz.prog 53 #[.pointer (some ⟨p,0,none⟩)] W fun e w'=>W.grownBy w' (some p)∧((Hid False∧e= .returned (.agg #[.int .i64 0,.int .i64 0,.string ⟨#[]⟩,.string ⟨#[]⟩,.string ⟨#[]⟩,.string ⟨#[]⟩,.slice none 0 0]))∨e= .panicked qk_)):=hiD fun W hW=>(HI.out W hW).mono fun e w' hr=>⟨hr.1,.inr hr.2⟩
   go_enter Tryz.func25,Tryz.ntmps25
   go_wp2_with (first|(go_at_call 51;(with_reducible refine HT40.out.mono ?_);rintro e w2 ⟨hg2,rfl,hR2⟩;have HR2:=hiD hR2;obtain⟨d0,d1,g0,g1⟩:=hR2.cells;clear hR2)|(go_at_call 52;(with_reducible refine(HIB.out _).mono ?_);rintro e w5 ⟨rfl,rfl⟩))
   go_region_law (first|(go_simp;go_at_call 53;(refine(HI2.out _ (by exact HR2.out.below (bR _ _).drew)).mono ?_);rintro e w5 ⟨hg5,(⟨HF,rfl⟩|rfl)⟩;rotate_left;go_simp;(refine⟨rfl,?_⟩);exact⟨((HGP.out _ hg2).drew).trans ((HR2.out.below (bR _ _).drew).grownP hg5),rfl⟩;have HR5:Hid (RdF w5.heap.size p w5 [] (.slice A qs.length c) qs):=HF.out.elim;obtain⟨k0,k1,kf0,kf1⟩:=HR5.out.cells;have ka:=fun (o:Obj)=>((zd_ w5 o).cell (z9_ k1)).trans k1)|(refine xv_ (p:=⟨0,0,[],[],[],[],[]⟩) (va:= .slice none 0 0) (v:= .slice A qs.length c) (qs:=qs) (B:=p+1) (w0:=w5) (by rfl) (.tmp 41) (.tmp 44) (by rfl) rfl rfl HR5.out.own rfl hql ?_;intro v' w6 hO6 hg6;obtain⟨A6,c6,rfl,hc6⟩:=hO6.isSlice1;have k6:=HR5.out.at_.grown hg6 (fun e=>HR5.out.ne p e.symm rfl);have z1:=k6.cell 1;have zf:=k6.frozen 1;simp only[gs3] at z1))
   all_goals exact HF.out.elim
  |some fr=>
   obtain⟨f,r⟩:=fr
   rw[hi] at HI
   have hrl:=z7u_ hi
   clear hi
   simp only[z1z_]
   have HT41:Hid (∀ (M:Nat) (W:World) (v':Value) (ys:List q6_),RdF M p W r v' ys→Calls Tryz.prog 51 #[.pointer (some ⟨p,0,none⟩),.int .u8 41] W fun e w'=>W.grownBy w' (some p)∧match xf_ 41 r with
    |some t=>e= .returned (.tuple #[])∧RdF M p w' t v' ys
    |none=>e= .panicked qk_):=hiD fun M W v' ys hW=>z5q_ M p 41 r v' ys W hW
   cases h41:xf_ 41 r with
   |none=>
    rw[h41] at HT41
    go_enter Tryz.func25,Tryz.ntmps25
    go_wp2_with (first|(go_at_call 51;(with_reducible refine HT40.out.mono ?_);rintro e w2 ⟨hg2,rfl,hR2⟩;have HR2:=hiD hR2;obtain⟨d0,d1,g0,g1⟩:=hR2.cells;clear hR2)|(go_at_call 52;(with_reducible refine(HIB.out _).mono ?_);rintro e w5 ⟨rfl,rfl⟩))
    go_region_law (first|(go_simp;go_at_call 53;(refine(HI.out _ (by exact HR2.out.below (bR _ _).drew)).mono ?_);rintro e w5 ⟨hg5,A5,n5,c5,rfl,hT5,hR5⟩;have HR5:=hiD hR5;obtain⟨k0,k1,kf0,kf1⟩:=hR5.cells;clear hR5;have ka:=fun (o:Obj)=>((zd_ w5 o).cell (z9_ k1)).trans k1)|(refine xv_ (p:=f) (va:= .slice A5 n5 c5) (v:= .slice A qs.length c) (qs:=qs) (B:=p+1) (w0:=w5) (by rfl) (.tmp 41) (.tmp 44) (by rfl) rfl rfl HR5.out.own rfl hql ?_;intro v' w6 hO6 hg6;obtain⟨A6,c6,rfl,hc6⟩:=hO6.isSlice1;have hM:=HR5.out.more hO6 hg6 hT5;have k6:=HR5.out.at_.grown hg6 (fun e=>HR5.out.ne p e.symm rfl);have z1:=k6.cell 1;have zf:=k6.frozen 1;simp only[gs3] at z1))
    all_goals
     have hM2:=hiD hM.1
     have hM3:=hM.2
     clear hM
     go_wp2_with (go_at_call 51;(refine(HT41.out _ _ _ _ (by exact hM2.out)).mono ?_);rintro e w7 ⟨hg7,rfl⟩)
     refine⟨rfl,?_⟩
     exact⟨((((HGP.out _ hg2).drew).trans ((HR2.out.below (bR _ _).drew).grownP hg5)).trans hM3).trans (hM2.out.grownP hg7),rfl⟩
   |some r'=>
    rw[h41] at HT41
    go_enter Tryz.func25,Tryz.ntmps25
    go_wp2_with (first|(go_at_call 51;(with_reducible refine HT40.out.mono ?_);rintro e w2 ⟨hg2,rfl,hR2⟩;have HR2:=hiD hR2;obtain⟨d0,d1,g0,g1⟩:=hR2.cells;clear hR2)|(go_at_call 52;(with_reducible refine(HIB.out _).mono ?_);rintro e w5 ⟨rfl,rfl⟩))
    go_region_law (first|(go_simp;go_at_call 53;(refine(HI.out _ (by exact HR2.out.below (bR _ _).drew)).mono ?_);rintro e w5 ⟨hg5,A5,n5,c5,rfl,hT5,hR5⟩;have HR5:=hiD hR5;obtain⟨k0,k1,kf0,kf1⟩:=hR5.cells;clear hR5;have ka:=fun (o:Obj)=>((zd_ w5 o).cell (z9_ k1)).trans k1)|(refine xv_ (p:=f) (va:= .slice A5 n5 c5) (v:= .slice A qs.length c) (qs:=qs) (B:=p+1) (w0:=w5) (by rfl) (.tmp 41) (.tmp 44) (by rfl) rfl rfl HR5.out.own rfl hql ?_;intro v' w6 hO6 hg6;obtain⟨A6,c6,rfl,hc6⟩:=hO6.isSlice1;have hM:=HR5.out.more hO6 hg6 hT5;have k6:=HR5.out.at_.grown hg6 (fun e=>HR5.out.ne p e.symm rfl);have z1:=k6.cell 1;have zf:=k6.frozen 1;simp only[gs3] at z1))
    all_goals
     have hM2:=hiD hM.1
     have hM3:=hM.2
     clear hM
     go_wp2_with (go_at_call 51;(refine(HT41.out _ _ _ _ (by exact hM2.out)).mono ?_);rintro e w7 ⟨hg7,rfl,hR7⟩)
     go_end0
     exact⟨((((HGP.out _ hg2).drew).trans ((HR2.out.below (bR _ _).drew).grownP hg5)).trans hM3).trans (hM2.out.grownP hg7),rfl,_,[(f,_)],rfl,hR7.fit⟩
open Go.RowKit
def yk_ (o:Int) (n:Nat):Fil.FilE:=⟨o,n,[],[],[],[],[]⟩
def z2w_ (g:Nat→LU→Option (List Fil.FilE × LU)) (o:Int) (f k n:Nat) (l:List Fil.FilE) (r:LU):Option (List Fil.FilE × LU):=match Fil.kidsF g f k r with
 |some (m,l',r')=>z1z_ (some (yk_ o (n+m)::(l++l'),r'))
 |none=>none
theorem zi3_ (g:Nat→LU→Option (List Fil.FilE × LU)) (o:Int) (f k n:Nat) (l:List Fil.FilE) (r:LU) (h:r.head?≠some 40):z2w_ g o f k n l r=z1z_ (some (yk_ o n::l,r)):=by
 have h1:Fil.kidsF g f k r=some (0,[],r):=by
  cases f with
  |zero=>rfl
  |succ f=>unfold Fil.kidsF;rw[if_neg h]
 unfold z2w_
 rw[h1]
 simp
theorem zf1_ (g:Nat→LU→Option (List Fil.FilE × LU)) (o:Int) (f k n:Nat) (l:List Fil.FilE) (r:LU) (h:r.head?=some 40) (hg:g k r=none):z2w_ g o (f+1) k n l r=none:=by
 unfold z2w_ Fil.kidsF
 rw[if_pos h,hg]
theorem zfe_ (g:Nat→LU→Option (List Fil.FilE × LU)) (o:Int) (f k n:Nat) (l l1:List Fil.FilE) (r r1:LU) (h:r.head?=some 40) (hg:g k r=some (l1,r1)):z2w_ g o (f+1) k n l r=z2w_ g o f (k+l1.length) (n+1) (l++l1) r1:=by
 unfold z2w_
 cases hk:Fil.kidsF g f (k+l1.length) r1 with
 |none=>
  have e:Fil.kidsF g (f+1) k r=none:=by
   rw[Fil.kidsF,if_pos h,hg]
   simp only[hk]
  rw[e]
 |some x=>
  obtain⟨m,l2,r2⟩:=x
  have e:Fil.kidsF g (f+1) k r=some (m+1,l1++l2,r2):=by
   rw[Fil.kidsF,if_pos h,hg]
   simp only[hk]
  rw[e]
  simp only[List.append_assoc]
  rw[show n+(m+1)=n+1+m by omega]
theorem zn7_ (qs ys:List q6_) (q:q6_):qs.length<(qs++q::ys).length:=by rw[List.length_append,List.length_cons];omega
theorem zp0_ (qs ys:List q6_) (q:q6_):(qs.length:Int)<((qs++q::ys).length:Int):=by have:=zn7_ qs ys q;omega
theorem z6t_ (o:Int) (n:Nat) (qs ys:List q6_) (h:qs.length<(qs++(yk_ o n,Value.slice none 0 0)::ys).length):(qs++(yk_ o n,Value.slice none 0 0)::ys)[qs.length]=(yk_ o n,Value.slice none 0 0)∧(qs++(yk_ o n,Value.slice none 0 0)::ys).set qs.length (zao_ (yk_ o n,Value.slice none 0 0) ((n:Int)+1))=qs++(yk_ o (n+1),Value.slice none 0 0)::ys:=by
 refine⟨by simp,?_⟩
 rw[List.set_append_right (h:=nR _)]
 simp [zao_,yk_]
theorem z9l_ (d N p:Nat) (s s1:LU) (v:Value) (qs:List q6_) (w:World) (x o:Int) (hx1:x<20) (hx0:0≤x) (h:RdF N p w s v qs) (hs:s.length≤1000000) (h100:¬ 100≤qs.length) (htk:xf_ 40 s=some s1) (hop:Fil.opF s1=some o)
  (ih:∀ (N:Nat) (s:LU) (v:Value) (qs:List q6_) (w:World),RdF N p w s v qs→s.length≤1000000→Calls Tryz.prog 25 #[.pointer (some ⟨p,0,none⟩),.int .i64 (x+1)] w (FRet p w qs (Fil.filF d qs.length s))):
  Calls Tryz.prog 25 #[.pointer (some ⟨p,0,none⟩),.int .i64 x] w (FRet p w qs (Fil.filF (d+1) qs.length s)):=by
 rw[z8l_ h100 htk]
 obtain⟨R,hR⟩:∃ R,z1z_ (Fil.bodyF (Fil.filF d) qs.length s1)=R:=⟨_,rfl⟩
 rw[hR]
 obtain⟨y,u,rfl⟩:∃ y u,s1=y::u:=by
  cases s1 with
  |nil=>cases hop
  |cons y u=>exact⟨y,u,rfl⟩
 have hix:Lib.indexByte [38,124,33] y=o∧0≤o:=by
  have:=zn8_ y u
  rw[hop] at this
  by_cases h:Lib.indexByte [38,124,33] y<0
  ·rw[if_pos h] at this;cases this
  ·rw[if_neg h] at this;cases this;omega
 have hK:z2w_ (Fil.filF d) o (u.length+1) (qs.length+1) 0 [] u=R:=by
  rw[← hR]
  unfold z2w_ Fil.bodyF
  rw[hop]
  simp only[List.length_cons,List.drop_succ_cons,List.drop_zero]
  cases Fil.kidsF (Fil.filF d) (u.length+1) (qs.length+1) u with
  |none=>rfl
  |some z=>obtain⟨m,l,r⟩:=z;simp [yk_]
 have hIB:=fun W=>zl_ [38,124,33] y W
 rw[hix.1] at hIB
 have HIB:=hiD hIB
 have ho0:=hix.2
 obtain⟨A,c,rfl,hc⟩:=h.own.isSlice
 obtain⟨c0,c1,f0,f1⟩:=h.cells
 have hl1:=z41_ htk
 simp only[List.length_cons] at hl1
 have hget:=qd_
 have hlt:(qs.length:Int)<100:=by omega
 have hql:qs.length<1000000:=by omega
 have HT40:Hid (Calls Tryz.prog 51 #[.pointer (some ⟨p,0,none⟩),.int .u8 40] w fun e w'=>w.grownBy w' (some p)∧e= .returned (.tuple #[])∧RdF N p w' (y::u) (.slice A qs.length c) qs):=hiD ((z5q_ N p 40 s _ qs w h).mono (by intro e w' hr;rw[htk] at hr;exact hr))
 have HGP:=hiD (fun (w':World) (hg:w.grownBy w' (some p))=>h.grownP hg)
 have HKK:=hiD hK
 have HIH:=hiD ih
 have hsl:∀ W:World,(Instr.slice 9 (.string ⟨(y::u).toArray⟩) (some (.int .i64 1)) none none).run Tryz.prog W= .ok (.string ⟨u.toArray⟩) W:=fun W=>z0y_ (y::u) 1 (by simp) W
 clear h htk hR hK ih hIB hix hop
 go_enter Tryz.func25,Tryz.ntmps25
 go_wp2_with (first|(go_at_call 51;(with_reducible refine HT40.out.mono ?_);rintro e w2 ⟨hg2,rfl,hR2⟩;have HR2:=hiD hR2;obtain⟨d0,d1,g0,g1⟩:=hR2.cells;clear hR2;have HR3:=hiD (HR2.out.setS u).1;have HB3:=hiD (HR2.out.setS u).2;have HN:=hiD (show w2.heap.size=(w2.setCell ⟨p,0,none⟩ (.string ⟨u.toArray⟩)).heap.size by simp [World.setCell]))|(go_at_call 52;(with_reducible refine(HIB.out _).mono ?_);rintro e w5 ⟨rfl,rfl⟩)|(at_builtin;refine zov_ (p:=⟨o,0,[],[],[],[],[]⟩) (va:= .slice none 0 0) (v:= .slice A qs.length c) (qs:=qs) (B:=p+1) (N:=w2.heap.size) rfl (.tmp 62) (.tmp 65) rfl rfl rfl HR3.out.own rfl HN.out hql ?_;intro v' w6 hO6 hg6;obtain⟨A6,c6,rfl,hc6⟩:=hO6.isSlice1;have HM:=hiD (HR3.out.more hO6 hg6 (TxT.nil _));have k6:=HR3.out.at_.grown hg6 (fun e=>HR3.out.ne p e.symm rfl);have z1:=k6.cell 1;have zf:=k6.frozen 1;simp only[gs3] at z1))
 go_loopg [] (u.length+1) (fun gk wr=>∃ (r:LU) (v':Value) (n:Nat) (ys:List q6_),Aside (r.length+n≤u.length)∧Aside (r.length≤gk)∧Aside (z2w_ (Fil.filF d) o gk (qs.length+1+ys.length) n (ys.map (·.1)) r=R)∧Aside (RdF wr.heap.size p wr r v' (qs++(yk_ o n,Value.slice none 0 0)::ys))∧Aside (Below p w wr))
 case atStart=>exact⟨u,_,0,[],nR _,by show _≤_;omega,HKK.out,HM.out.1.fit,((HGP.out _ hg2).trans HB3.out).trans HM.out.2⟩
 case round=>
  clear HKK HT40 HR2 HR3 HB3 HN HM HGP hg2 hO6 hg6 k6 z1 zf
  obtain⟨r,v',n,ys,AN,AG,AK,AR,AB⟩:=hrel
  obtain⟨b0,b1,bf0,bf1⟩:=AR.out.cells
  have hrl:r.length≤1000000:=by have:=AN.out;omega
  have hP:∀ W:World,Calls Tryz.prog 54 #[.string ⟨r.toArray⟩,.string ⟨#[40]⟩] W fun e w'=>e= .returned (.bool (Lib.hasPrefix r [40]))∧W=w':=
   fun W=>(Tryz.strings_HasPrefix ⟨r.toArray⟩ ⟨#[40]⟩ W).mono fun _ _ h=>⟨h.1,h.2.symm⟩
  rw[zoa_] at hP
  by_cases hh:r.head?=some 40
  ·rw[decide_eq_true hh] at hP
   have HP:=hiD hP
   clear hP
   have hr1:1≤r.length:=by cases r with
    |nil=>cases hh
    |cons a b=>simp
   obtain⟨q,rfl⟩:∃ q,gk=q+1:=⟨gk - 1,by have:=AG.out;omega⟩
   have hlen:(qs++(yk_ o n,Value.slice none 0 0)::ys).length=qs.length+1+ys.length:=by simp;omega
   have HI:=hiD (fun (W:World) (hW:RdF wr.heap.size p W r v' (qs++(yk_ o n,Value.slice none 0 0)::ys))=>HIH.out _ r v' _ W hW hrl)
   rw[hlen] at HI
   have hwx:IntKind.i64.wrap (x+1)=x+1:=IntWalk.i64_in _ (by omega)
   cases hf:Fil.filF d (qs.length+1+ys.length) r with
   |none=>
    have hfin:R=none:=AK.out.symm.trans (zf1_ _ _ _ _ _ _ _ hh hf)
    subst hfin
    rw[hf] at HI
    clear hf
    go_wp2_with (first
     |(go_at_call 54;(with_reducible refine(HP.out _).mono ?_);rintro e w5 ⟨rfl,rfl⟩)
     |(go_at_call 25;(refine(HI.out _ (by exact AR.out)).mono ?_);rintro e w5 ⟨hb5,rfl⟩))
    refine⟨rfl,?_⟩
    exact⟨AB.out.trans hb5,rfl⟩
   |some lr=>
    obtain⟨l,r2⟩:=lr
    have hr2:=z2j_ _ _ _ _ _ hf
    have AK2:Aside (z2w_ (Fil.filF d) o q (qs.length+1+ys.length+l.length) (n+1) (ys.map (·.1)++l) r2=R):=(zfe_ _ _ _ _ _ _ _ _ _ hh hf).symm.trans AK.out
    rw[hf] at HI
    clear hf AK
    have hn1:(n:Int)≤1000000:=by have:=AN.out;omega
    have hwn:IntKind.i64.wrap ((n:Int)+1)=(n:Int)+1:=IntWalk.i64_in _ (by omega)
    go_wp2_with (first
     |(go_at_call 54;(with_reducible refine(HP.out _).mono ?_);rintro e w5 ⟨rfl,rfl⟩)
     |(go_at_call 25;(refine(HI.out _ (by exact AR.out)).mono ?_);rintro e w5 ⟨hb5,rfl,v5,zs,rfl,hR5⟩;rw[List.append_assoc,List.cons_append] at hR5;have hj5:=zn7_ qs (ys++zs) (yk_ o n,Value.slice none 0 0);obtain⟨g,c5,rfl,hc5,hpg,q1,qf,hset⟩:=hR5.bump hj5;have HR5:=hiD hR5;obtain⟨k0,k1,kf0,kf1⟩:=hR5.cells;clear hR5;have HST:=hiD (hset ((n:Int)+1));rw[(z6t_ o n qs (ys++zs) hj5).1,(z6t_ o n qs (ys++zs) hj5).2] at HST;rw[(z6t_ o n qs (ys++zs) hj5).1] at q1;simp only[yk_] at q1;clear hset;have hji:=zp0_ qs (ys++zs) (yk_ o n,Value.slice none 0 0);generalize (qs++(yk_ o n,Value.slice none 0 0)::(ys++zs)).length=L5 at *))
    go_roundg q
    case measure=>omega
    case rel=>exact⟨r2,_,n+1,ys++zs,by have:=AN.out;show _≤_;omega,by have:=AG.out;show _≤_;omega,by show _=_;rw[List.length_append,List.map_append,← Nat.add_assoc];simpa using AK2.out,HST.out.1.fit,(AB.out.trans hb5).trans HST.out.2⟩
  ·rw[decide_eq_false hh] at hP
   have HP:=hiD hP
   have hfin:R=z1z_ (some (yk_ o n::ys.map (·.1),r)):=AK.out.symm.trans (zi3_ _ _ _ _ _ _ _ hh)
   clear hP AK
   simp only[z1z_] at hfin
   have HT41:=hiD (fun (W:World) (hW:RdF wr.heap.size p W r v' (qs++(yk_ o n,Value.slice none 0 0)::ys))=>z5q_ wr.heap.size p 41 r v' _ W hW)
   cases h41:xf_ 41 r with
   |none=>
    rw[h41] at HT41 hfin
    subst hfin
    go_wp2_with (first
     |(go_at_call 54;(with_reducible refine(HP.out _).mono ?_);rintro e w5 ⟨rfl,rfl⟩)
     |(go_at_call 51;(refine(HT41.out _ (by exact AR.out)).mono ?_);rintro e w7 ⟨hg7,rfl⟩))
    refine⟨rfl,?_⟩
    exact⟨AB.out.trans (AR.out.grownP hg7),rfl⟩
   |some r'=>
    rw[h41] at HT41 hfin
    simp only at hfin
    subst hfin
    go_wp2_with (first
     |(go_at_call 54;(with_reducible refine(HP.out _).mono ?_);rintro e w5 ⟨rfl,rfl⟩)
     |(go_at_call 51;(refine(HT41.out _ (by exact AR.out)).mono ?_);rintro e w7 ⟨hg7,rfl,hR7⟩))
    go_end0
    exact⟨AB.out.trans (AR.out.grownP hg7),rfl,_,(yk_ o n,Value.slice none 0 0)::ys,rfl,hR7.fit⟩
open Go.RowKit
theorem vn_ (N p:Nat) (s:LU) (v:Value) (qs:List q6_) (w:World) (x:Int) (R:Option (List Fil.FilE × LU)) (hR:R=none) (hb:20≤x∨x<20∧100≤qs.length∨x<20∧qs.length<100∧xf_ 40 s=none) (h:RdF N p w s v qs):Calls Tryz.prog 25 #[.pointer (some ⟨p,0,none⟩),.int .i64 x] w (FRet p w qs R):=by
 subst hR
 obtain⟨A,c,rfl,hc⟩:=h.own.isSlice
 obtain⟨c0,c1,f0,f1⟩:=h.cells
 have HR:=hiD h
 rcases hb with hb|⟨hx,hb⟩|⟨hx,hl,hb⟩
 ·clear h
  go_enter Tryz.func25,Tryz.ntmps25
  go_wp2_with fail
  refine⟨rfl,?_⟩
  exact⟨bR _ _,rfl⟩
 ·have hi:(100:Int)≤(qs.length:Int):=by omega
  clear h
  go_enter Tryz.func25,Tryz.ntmps25
  go_wp2_with fail
  refine⟨rfl,?_⟩
  exact⟨bR _ _,rfl⟩
 ·have hi:(qs.length:Int)<100:=by omega
  have HT:Hid (Calls Tryz.prog 51 #[.pointer (some ⟨p,0,none⟩),.int .u8 40] w fun e w'=>w.grownBy w' (some p)∧e= .panicked qk_):=hiD ((z5q_ N p 40 s _ qs w h).mono (by intro e w' hr;rw[hb] at hr;exact hr))
  clear h hb
  go_enter Tryz.func25,Tryz.ntmps25
  go_wp2_with (go_at_call 51;(with_reducible refine HT.out.mono ?_);rintro e w2 ⟨hg2,rfl⟩)
  refine⟨rfl,?_⟩
  exact⟨HR.out.grownP hg2,rfl⟩
theorem z8t_ (p:Nat):∀ (d:Nat),d≤20→∀ (N:Nat) (s:LU) (v:Value) (qs:List q6_) (w:World),RdF N p w s v qs→s.length≤1000000→
  Calls Tryz.prog 25 #[.pointer (some ⟨p,0,none⟩),.int .i64 (20 - (d:Int))] w (FRet p w qs (Fil.filF d qs.length s))
 |0,_,N,s,v,qs,w,h,_=>vn_ N p s v qs w _ _ rfl (.inl (by omega)) h
 |d+1,hd,N,s,v,qs,w,h,hs=>by
  have hx:(20:Int) - ((d+1:Nat):Int)<20:=by omega
  have hx0:(0:Int)≤20 - ((d+1:Nat):Int):=by omega
  have ih:=z8t_ p d (by omega)
  by_cases h100:100≤qs.length
  ·exact vn_ N p s v qs w _ _ (by unfold Fil.filF;rw[if_pos h100]) (.inr (.inl ⟨hx,h100⟩)) h
  ·cases htk:xf_ 40 s with
   |none=>exact vn_ N p s v qs w _ _ (ziz_ htk) (.inr (.inr ⟨hx,by omega,htk⟩)) h
   |some s1=>
    cases hop:Fil.opF s1 with
    |none=>exact z91_ d N p s s1 v qs w _ hx h hs h100 htk hop
    |some o=>
     refine z9l_ d N p s s1 v qs w _ o hx hx0 h hs h100 htk hop ?_
     rw[show (20:Int) - ((d+1:Nat):Int)+1=20 - (d:Int) by omega]
     exact ih
open Go.RowKit
def z7r_:List PanicEntry:=[{v:= .iface 39 (.int .i64 60),recovered:=true}]
theorem z1i_ (g h:Nat) (w:World) (v1 v2:Value) (hc1:w.cell? ⟨g,0,none⟩=some v1) (hc2:w.cell? ⟨h,0,none⟩=some v2) (hz1:w.frozen? ⟨g,0,none⟩=false) (hz2:w.frozen? ⟨h,0,none⟩=false) (hne:g≠h):
  CallsD Tryz.prog 24 #[.pointer (some ⟨g,0,none⟩),.pointer (some ⟨h,0,none⟩)] (.panicking qk_) w fun e u' w'=>
   e= .returned (.tuple #[])∧u'= .panicking z7r_∧w'=(w.setCell ⟨g,0,none⟩ (.slice none 0 0)).setCell ⟨h,0,none⟩ (.int .i64 60):=by
 refine callsD_of_wpS Tryz.func24 rfl fun c₀ cs hu=>?_
 apply wpS_seq
 apply wpS_region
 simp [wpOpsS,go_sem,recoverD,hu,qk_,Tryz.ntmps24,Exit.thenS]
 refine wpS_of_wp ?_
 have hrep:(Array.replicate 15 undef:Array Value)=#[undef,undef,undef,undef,undef,undef,undef,undef,undef,undef,undef,undef,undef,undef,undef]:=rfl
 simp only[hrep,List.setIfInBounds_toArray,List.append_toArray,List.cons_append,List.nil_append,List.set_cons_zero,List.set_cons_succ]
 have hta:∀ W:World,(Instr.typeAssert (.iface 39 (.int .i64 60)) 20 39 true).run Tryz.prog W= .ok (.tuple #[.int .i64 60,.bool true]) W:=fun W=>by kernel_rfl
 have hc3:(w.setCell ⟨g,0,none⟩ (.slice none 0 0)).cell? ⟨h,0,none⟩=some v2:=by rw[show (w.setCell ⟨g,0,none⟩ (.slice none 0 0)).cell? ⟨h,0,none⟩=w.cell? ⟨h,0,none⟩ from World.cell?_of_block (Below.heap_setCell _ _ _ _ (Ne.symm hne))];exact hc2
 have hz3:(w.setCell ⟨g,0,none⟩ (.slice none 0 0)).frozen? ⟨h,0,none⟩=false:=(World.frozen?_setCell _ _ _ _).trans hz2
 go_wp2_with fail
 simp [bodyPostS,results,Tryz.results24,z7r_]
theorem ke_ (g h:Nat) (w:World):
  CallsD Tryz.prog 24 #[.pointer (some ⟨g,0,none⟩),.pointer (some ⟨h,0,none⟩)] .returning w fun e u' w'=>e= .returned (.tuple #[])∧u'= .returning∧w'=w:=by
 refine callsD_of_wpS Tryz.func24 rfl fun c₀ cs hu=>?_
 apply wpS_seq
 apply wpS_region
 simp [wpOpsS,go_sem,recoverD,hu,Tryz.ntmps24,Exit.thenS]
 refine wpS_of_wp ?_
 have hrep:(Array.replicate 15 undef:Array Value)=#[undef,undef,undef,undef,undef,undef,undef,undef,undef,undef,undef,undef,undef,undef,undef]:=rfl
 simp only[hrep,List.setIfInBounds_toArray,List.append_toArray,List.cons_append,List.nil_append,List.set_cons_zero,List.set_cons_succ]
 go_wp2_with fail
 cases c₀
 simp_all [bodyPostS,results,Tryz.results24]
def z7v_ (w:World) (r:List Fil.FilE × Int) (e:Ending) (w':World):Prop:=
 Bel w w'∧∃ v,e= .returned (.tuple #[v,.int .i64 r.2])∧FilsA w' v r.1
theorem FilsA.nil (w:World):FilsA w (.slice none 0 0) []:=⟨[],rfl,⟨none,0,rfl,nR _,fun j hj=>absurd hj (by simp)⟩,fun q hq=>by cases hq⟩
theorem ym_ {w W:World} {tmps:Array Value} {g h:Nat} {v:Value} {x:Int} {d:List Fil.FilE} (hb:Bel w W)
  (c1:W.cell? ⟨g,0,none⟩=some v) (c2:W.cell? ⟨h,0,none⟩=some (.int .i64 x)) (t2:tmps[2]?=some (.pointer (some ⟨g,0,none⟩))) (t3:tmps[3]?=some (.pointer (some ⟨h,0,none⟩)))
  (hd:FilsA W v d):Leaves Tryz.prog Tryz.f13 tmps (z7v_ w (d,x)) [] .returning W:=by
 have e2:tmps[2]?.getD undef= .pointer (some ⟨g,0,none⟩):=by rw[t2];rfl
 have e3:tmps[3]?.getD undef= .pointer (some ⟨h,0,none⟩):=by rw[t3];rfl
 refine⟨.tuple #[v,.int .i64 x],?_,hb,v,rfl,hd⟩
 simp [results,Tryz.results13,go_sem,e2,e3,c1,c2]
theorem RdF.fils {N p:Nat} {w:World} {s:LU} {v:Value} {qs:List q6_} (h:RdF N p w s v qs):FilsA w v (qs.map (·.1)):=⟨qs,rfl,h.own.reads,h.any.ok⟩
theorem zc4_ {N p g:Nat} {w:World} {s:LU} {v u:Value} {qs:List q6_} {t:TypeId} {cs:Array Value} (h:RdF N p w s v qs) (hg:g<p) (hk:Bk w g t cs) (ht:t≠9):RdF N p (w.setCell ⟨g,0,none⟩ u) s v qs:=by
 have hgr:=z7_ w g 0 u
 exact⟨h.at_.grown hgr (fun e=>by cases e;omega),h.own.keep2 hgr (fun k hk2 e=>by have:=(h.own.lt k hk2).1;cases e;omega),h.any.far hk ht hgr,h.lim⟩
theorem zms_ (s:LU) (w:World) (hw:Env w):
  Calls Tryz.prog 13 #[.string ⟨s.toArray⟩] w (z7v_ w (Fil.parseF s)):=by
 have hmf:=z2z_
 by_cases hlen:65536<s.length
 ·have hR:Fil.parseF s=([],2):=by unfold Fil.parseF;rw[if_pos hlen]
  rw[hR]
  clear hR
  have hli:(s.length:Int)>65536:=by omega
  go_enter_defers Tryz.func13,Tryz.ntmps13
  go_wp2_with fail
  have hb:Bel w ((w.alloc (.cells #[.slice none 0 0] 23)).alloc (.cells #[.int .i64 2] 39)):=
   ((bR _ _).alloc (nR _) _).alloc (by simp) _
  refine ym_ (g:=w.heap.size) (h:=w.heap.size+1) (v:= .slice none 0 0) hb ?_ ?_ rfl rfl ?_
  ·simp [go_sem]
  ·simp [go_sem]
  ·exact FilsA.nil _
 ·have hb:Bel w (((w.alloc (.cells #[.slice none 0 0] 23)).alloc (.cells #[.int .i64 0] 39)).alloc (.cells #[.string ⟨s.toArray⟩,.slice none 0 0] 73)):=
   (((bR _ _).alloc (nR _) _).alloc (by simp) _).alloc (by simp;omega) _
  have hz:(zeroValue 73).run Tryz.prog ((w.alloc (.cells #[.slice none 0 0] 23)).alloc (.cells #[.int .i64 0] 39))= .ok (.agg #[.string ⟨#[]⟩,.slice none 0 0]) ((w.alloc (.cells #[.slice none 0 0] 23)).alloc (.cells #[.int .i64 0] 39)):=by kernel_rfl
  have k1:Bk (((w.alloc (.cells #[.slice none 0 0] 23)).alloc (.cells #[.int .i64 0] 39)).alloc (.cells #[.string ⟨s.toArray⟩,.slice none 0 0] 73)) w.heap.size 23 #[.slice none 0 0]:=((Bk.new w _ _).alloc _).alloc _
  have k2:Bk (((w.alloc (.cells #[.slice none 0 0] 23)).alloc (.cells #[.int .i64 0] 39)).alloc (.cells #[.string ⟨s.toArray⟩,.slice none 0 0] 73)) (w.heap.size+1) 39 #[.int .i64 0]:=by
   have:=Bk.new (w.alloc (.cells #[.slice none 0 0] 23)) 39 #[.int .i64 0]
   rw[show (w.alloc (.cells #[.slice none 0 0] 23)).heap.size=w.heap.size+1 by simp] at this
   exact this.alloc _
  have k3:Bk (((w.alloc (.cells #[.slice none 0 0] 23)).alloc (.cells #[.int .i64 0] 39)).alloc (.cells #[.string ⟨s.toArray⟩,.slice none 0 0] 73)) (w.heap.size+1+1) 73 #[.string ⟨s.toArray⟩,.slice none 0 0]:=by
   have:=Bk.new ((w.alloc (.cells #[.slice none 0 0] 23)).alloc (.cells #[.int .i64 0] 39)) 73 #[.string ⟨s.toArray⟩,.slice none 0 0]
   rw[show ((w.alloc (.cells #[.slice none 0 0] 23)).alloc (.cells #[.int .i64 0] 39)).heap.size=w.heap.size+1+1 by simp] at this
   exact this
  have hsz:(((w.alloc (.cells #[.slice none 0 0] 23)).alloc (.cells #[.int .i64 0] 39)).alloc (.cells #[.string ⟨s.toArray⟩,.slice none 0 0] 73)).heap.size=w.heap.size+3:=by simp
  have hli:¬ (s.length:Int)>65536:=by omega
  go_enter_defers Tryz.func13,Tryz.ntmps13
  generalize hW:(((w.alloc (.cells #[.slice none 0 0] 23)).alloc (.cells #[.int .i64 0] 39)).alloc (.cells #[.string ⟨s.toArray⟩,.slice none 0 0] 73))=W at hb k1 k2 k3 hsz
  have hRd:RdF W.heap.size (w.heap.size+1+1) W s (.slice none 0 0) []:=⟨k3,OwnFl.nil (by omega),FQT.nil _,fun q hq=>by cases hq⟩
  have hN:=z8t_ (w.heap.size+1+1) 20 (nR _) _ s _ _ W hRd (by omega)
  rw[show (20:Int) - ((20:Nat):Int)=0 from rfl] at hN
  simp only[List.length_nil] at hN
  rcases hn:Fil.filF 20 0 s with _|⟨l,r⟩
  ·have hR:Fil.parseF s=([],60):=by unfold Fil.parseF;rw[if_neg hlen,hn]
   rw[hn] at hN
   rw[hR]
   clear hR hn
   go_wp2_with (go_at_call 25;rw[hW])
   refine hN.mono ?_
   rintro e w1 ⟨h1,rfl⟩
   show Leaves _ _ _ _ _ _ _
   refine leaves_cons (u:= .panicking qk_) (fv:= .func 24) (cap:=#[.pointer (some ⟨w.heap.size,0,none⟩),.pointer (some ⟨w.heap.size+1,0,none⟩)]) (dargs:=#[]) (f:=24) (args:=#[.pointer (some ⟨w.heap.size,0,none⟩),.pointer (some ⟨w.heap.size+1,0,none⟩)]) (by simp) (by simp [go_sem]) ?_
   have j1:Bk w1 w.heap.size 23 #[.slice none 0 0]:=(h1.block _ (by omega)).trans k1
   have j2:Bk w1 (w.heap.size+1) 39 #[.int .i64 0]:=(h1.block _ (by omega)).trans k2
   refine(z1i_ w.heap.size (w.heap.size+1) w1 _ _ (j1.cell 0) (j2.cell 0) (j1.frozen 0) (j2.frozen 0) (by omega)).mono ?_
   rintro e u' w'' ⟨rfl,rfl,rfl⟩
   have b1:Bel w w1:=hb.trans (h1.mono (by omega))
   have b2:Bel w ((w1.setCell ⟨w.heap.size,0,none⟩ (.slice none 0 0)).setCell ⟨w.heap.size+1,0,none⟩ (.int .i64 60)):=(b1.setCell (nR _) _).setCell (by simp) _
   have l1:=(j1.set 0 (.slice none 0 0)).far (g':=w.heap.size+1) (i:=0) (by omega) (.int .i64 60)
   have l2:=(j2.far (g':=w.heap.size) (i:=0) (by omega) (.slice none 0 0)).set 0 (.int .i64 60)
   exact ym_ b2 (l1.cell 0) (l2.cell 0) rfl rfl (FilsA.nil _)
  ·have hwg:=Fil.fil_wgt _ _ _ _ _ hn
   have hfit:=Fil.fil_fit hn (by omega)
   rw[hn] at hN
   rcases r with _|⟨x,r⟩
   ·cases hv:Fil.validF l with
    |false=>
     have hR:Fil.parseF s=([],60):=by unfold Fil.parseF;rw[if_neg hlen,hn];simp [hv]
     rw[hR]
     clear hR hn
     go_wp2_with (go_at_call 25;rw[hW])
     refine hN.mono ?_
     rintro e w1 ⟨h1,rfl,v',ys,hys,hR1⟩
     rw[List.nil_append] at hR1
     subst hys
     have b1:Bel w w1:=hb.trans (h1.mono (by omega))
     have j1:Bk w1 w.heap.size 23 #[.slice none 0 0]:=(h1.block _ (by omega)).trans k1
     have j2:Bk w1 (w.heap.size+1) 39 #[.int .i64 0]:=(h1.block _ (by omega)).trans k2
     have hV:=z0j_ _ v' w1 (hw.keep b1) hR1.fils (by omega) hfit
     rw[hv] at hV
     obtain⟨A,c,rfl,hc⟩:=hR1.own.isSlice
     obtain⟨q0,q1,_,_⟩:=hR1.cells
     have HV:=hiD hV
     clear hV
     go_wp2_with (go_at_call 5;refine HV.out.mono ?_;rintro e w2 ⟨rfl,hb2⟩;have i1:=j1.below hb2;have i2:=j2.below hb2;have f1:=i1.frozen 0;have f2:=i2.frozen 0;have f3:=(i2.far (g':=w.heap.size) (i:=0) (by omega) (.slice none 0 0)).frozen 0;have d1:=i1.cell 0;have d2:=i2.cell 0;have d3:=(i2.far (g':=w.heap.size) (i:=0) (by omega) (.slice none 0 0)).cell 0;have q2:=cQ hb2 q1)
     refine leaves_cons (u:= .returning) (fv:= .func 24) (cap:=#[.pointer (some ⟨w.heap.size,0,none⟩),.pointer (some ⟨w.heap.size+1,0,none⟩)]) (dargs:=#[]) (f:=24) (args:=#[.pointer (some ⟨w.heap.size,0,none⟩),.pointer (some ⟨w.heap.size+1,0,none⟩)]) (by simp) (by simp [go_sem]) ?_
     refine(ke_ w.heap.size (w.heap.size+1) _).mono ?_
     rintro e u' w'' ⟨rfl,rfl,rfl⟩
     have b2:Bel w w2:=tQ b1 hb2
     have b3:Bel w ((w2.setCell ⟨w.heap.size,0,none⟩ (.slice none 0 0)).setCell ⟨w.heap.size+1,0,none⟩ (.int .i64 60)):=(b2.setCell (nR _) _).setCell (by simp) _
     have l1:=(i1.set 0 (.slice none 0 0)).far (g':=w.heap.size+1) (i:=0) (by omega) (.int .i64 60)
     have l2:=(i2.far (g':=w.heap.size) (i:=0) (by omega) (.slice none 0 0)).set 0 (.int .i64 60)
     exact ym_ b3 (l1.cell 0) (l2.cell 0) rfl rfl (FilsA.nil _)
    |true=>
     have hR:Fil.parseF s=(l,0):=by unfold Fil.parseF;rw[if_neg hlen,hn];simp [hv]
     rw[hR]
     clear hR hn
     go_wp2_with (go_at_call 25;rw[hW])
     refine hN.mono ?_
     rintro e w1 ⟨h1,rfl,v',ys,hys,hR1⟩
     rw[List.nil_append] at hR1
     subst hys
     have b1:Bel w w1:=hb.trans (h1.mono (by omega))
     have j1:Bk w1 w.heap.size 23 #[.slice none 0 0]:=(h1.block _ (by omega)).trans k1
     have j2:Bk w1 (w.heap.size+1) 39 #[.int .i64 0]:=(h1.block _ (by omega)).trans k2
     have hV:=z0j_ _ v' w1 (hw.keep b1) hR1.fils (by omega) hfit
     rw[hv] at hV
     obtain⟨A,c,rfl,hc⟩:=hR1.own.isSlice
     obtain⟨q0,q1,_,_⟩:=hR1.cells
     have HV:=hiD hV
     clear hV
     go_wp2_with (go_at_call 5;refine HV.out.mono ?_;rintro e w2 ⟨rfl,hb2⟩;have i1:=j1.below hb2;have i2:=j2.below hb2;have f1:=i1.frozen 0;have f2:=i2.frozen 0;have f3:=(i2.far (g':=w.heap.size) (i:=0) (by omega) (.slice A ys.length c)).frozen 0;have d1:=i1.cell 0;have d2:=i2.cell 0;have d3:=(i2.far (g':=w.heap.size) (i:=0) (by omega) (.slice A ys.length c)).cell 0;have q2:=cQ hb2 q1)
     refine leaves_cons (u:= .returning) (fv:= .func 24) (cap:=#[.pointer (some ⟨w.heap.size,0,none⟩),.pointer (some ⟨w.heap.size+1,0,none⟩)]) (dargs:=#[]) (f:=24) (args:=#[.pointer (some ⟨w.heap.size,0,none⟩),.pointer (some ⟨w.heap.size+1,0,none⟩)]) (by simp) (by simp [go_sem]) ?_
     refine(ke_ w.heap.size (w.heap.size+1) _).mono ?_
     rintro e u' w'' ⟨rfl,rfl,rfl⟩
     have b2:Bel w w2:=tQ b1 hb2
     have b3:Bel w ((w2.setCell ⟨w.heap.size,0,none⟩ (.slice A ys.length c)).setCell ⟨w.heap.size+1,0,none⟩ (.int .i64 0)):=(b2.setCell (nR _) _).setCell (by simp) _
     have l1:=(i1.set 0 (.slice A ys.length c)).far (g':=w.heap.size+1) (i:=0) (by omega) (.int .i64 0)
     have l2:=(i2.far (g':=w.heap.size) (i:=0) (by omega) (.slice A ys.length c)).set 0 (.int .i64 0)
     have m1:=zc4_ (u:=(.slice A ys.length c)) (hR1.below hb2) (by omega:w.heap.size<w.heap.size+1+1) i1 (by decide)
     have m2:=zc4_ (u:= .int .i64 0) m1 (by omega:w.heap.size+1<w.heap.size+1+1) (i2.far (g':=w.heap.size) (i:=0) (by omega) (.slice A ys.length c)) (by decide)
     exact ym_ b3 (l1.cell 0) (l2.cell 0) rfl rfl m2.fils
   ·skip
    have hR:Fil.parseF s=([],60):=by unfold Fil.parseF;rw[if_neg hlen,hn];simp
    rw[hR]
    clear hR hn
    go_wp2_with (go_at_call 25;rw[hW])
    refine hN.mono ?_
    rintro e w1 ⟨h1,rfl,v',ys,hys,hR1⟩
    rw[List.nil_append] at hR1
    subst hys
    have b1:Bel w w1:=hb.trans (h1.mono (by omega))
    have j1:Bk w1 w.heap.size 23 #[.slice none 0 0]:=(h1.block _ (by omega)).trans k1
    have j2:Bk w1 (w.heap.size+1) 39 #[.int .i64 0]:=(h1.block _ (by omega)).trans k2
    have hV:=z0j_ _ v' w1 (hw.keep b1) hR1.fils (by omega) hfit
    obtain⟨A,c,rfl,hc⟩:=hR1.own.isSlice
    obtain⟨q0,q1,_,_⟩:=hR1.cells
    have i1:=j1;have i2:=j2;have f1:=i1.frozen 0;have f2:=i2.frozen 0;have f3:=(i2.far (g':=w.heap.size) (i:=0) (by omega) (.slice none 0 0)).frozen 0;have d1:=i1.cell 0;have d2:=i2.cell 0;have d3:=(i2.far (g':=w.heap.size) (i:=0) (by omega) (.slice none 0 0)).cell 0
    clear hV
    go_wp2_with fail
    refine leaves_cons (u:= .returning) (fv:= .func 24) (cap:=#[.pointer (some ⟨w.heap.size,0,none⟩),.pointer (some ⟨w.heap.size+1,0,none⟩)]) (dargs:=#[]) (f:=24) (args:=#[.pointer (some ⟨w.heap.size,0,none⟩),.pointer (some ⟨w.heap.size+1,0,none⟩)]) (by simp) (by simp [go_sem]) ?_
    refine(ke_ w.heap.size (w.heap.size+1) _).mono ?_
    rintro e u' w'' ⟨rfl,rfl,rfl⟩
    have b2:=b1
    have b3:Bel w ((w1.setCell ⟨w.heap.size,0,none⟩ (.slice none 0 0)).setCell ⟨w.heap.size+1,0,none⟩ (.int .i64 60)):=(b2.setCell (nR _) _).setCell (by simp) _
    have l1:=(i1.set 0 (.slice none 0 0)).far (g':=w.heap.size+1) (i:=0) (by omega) (.int .i64 60)
    have l2:=(i2.far (g':=w.heap.size) (i:=0) (by omega) (.slice none 0 0)).set 0 (.int .i64 60)
    exact ym_ b3 (l1.cell 0) (l2.cell 0) rfl rfl (FilsA.nil _)
end Go.Proofs.YtbekpphodbekiaaGreatDoor
