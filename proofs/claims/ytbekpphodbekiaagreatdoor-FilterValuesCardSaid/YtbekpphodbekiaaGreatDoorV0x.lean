import Derived.Test.YtbekpphodbekiaaGreatDoorV0w
set_option linter.all false
set_option maxHeartbeats 8000000
set_option maxRecDepth 100000
namespace Go.Proofs.YtbekpphodbekiaaGreatDoor
open Go.RowKit
theorem ze3_ (t r:LU):∀ (os:List Int) (f:Fil.FilE) (r':LU),zb3_ t r os=some (f,r')→r'.length≤r.length
 |[],f,r',h=>by
  unfold zb3_ at h
  split at h
  ·next r1=>
   unfold Fil.restF at h
   cases hv:Fil.valF r1 [] [] with
   |none=>rw[hv] at h;cases h
   |some lr=>
    obtain⟨l,r2⟩:=lr
    have:=(kp_ _ r1 [] [] l r2 (nR _) hv).2
    rw[hv] at h
    simp only at h
    simp only[List.length_cons]
    split at h
    ·cases h;omega
    ·split at h<;>(cases h;omega)
  ·cases h
 |o::os,f,r',h=>by
  unfold zb3_ at h
  split at h
  ·unfold Fil.oneF at h
   cases hv:Fil.valF (r.drop 2) [] [] with
   |none=>rw[hv] at h;cases h
   |some lr=>
    obtain⟨l,r2⟩:=lr
    have:=(kp_ _ _ [] [] l r2 (nR _) hv).2
    rw[List.length_drop] at this
    rw[hv] at h
    match l,h with
    |[],h=>cases h
    |[x],h=>cases h;omega
    |_::_::_,h=>cases h
  ·exact ze3_ t r os f r' h
theorem z8c_ {s:LU} {f:Fil.FilE} {r:LU} (h:Fil.itemF s=some (f,r)):r.length≤s.length:=by
 have:=ze3_ _ _ _ _ _ (z2y_ s ▸ h)
 rw[List.length_drop] at this
 omega
theorem z98_ {g:Nat→LU→Option (List Fil.FilE × LU)} (hg:∀ k s l r,g k s=some (l,r)→r.length<s.length):∀ (f k:Nat) (s:LU) (n:Nat) (l:List Fil.FilE) (r:LU),Fil.kidsF g f k s=some (n,l,r)→r.length≤s.length
 |0,k,s,n,l,r,h=>by unfold Fil.kidsF at h;cases h;exact nR _
 |f+1,k,s,n,l,r,h=>by
  unfold Fil.kidsF at h
  split at h
  ·cases hk:g k s with
   |none=>rw[hk] at h;cases h
   |some lr=>
    obtain⟨l1,s1⟩:=lr
    have h1:=hg _ _ _ _ hk
    rw[hk] at h
    simp only at h
    cases h2:Fil.kidsF g f (k+l1.length) s1 with
    |none=>rw[h2] at h;cases h
    |some nlr=>
     obtain⟨n2,l2,r2⟩:=nlr
     have h3:=z98_ hg f _ _ _ _ _ h2
     rw[h2] at h
     cases h
     omega
  ·cases h;exact nR _
theorem zhn_ {g:Nat→LU→Option (List Fil.FilE × LU)} (hg:∀ k s l r,g k s=some (l,r)→r.length<s.length) {k:Nat} {s:LU} {l:List Fil.FilE} {r:LU} (h:Fil.bodyF g k s=some (l,r)):r.length≤s.length:=by
 unfold Fil.bodyF at h
 split at h
 ·split at h
  ·next hk=>
   have:=z98_ hg _ _ _ _ _ _ hk
   cases h
   rw[List.length_drop] at this
   omega
  ·cases h
 ·split at h
  ·next hi=>cases h;exact z8c_ hi
  ·cases h
theorem z2o_:∀ (d k:Nat) (s:LU) (l:List Fil.FilE) (r:LU),Fil.filF d k s=some (l,r)→r.length<s.length
 |0,k,s,l,r,h=>by cases h
 |d+1,k,s,l,r,h=>by
  unfold Fil.filF at h
  split at h
  ·cases h
  ·split at h
   ·next s1=>
    split at h
    ·next hb=>
     have:=zhn_ (z2o_ d) hb
     simp only[List.length_cons] at this ⊢
     cases h
     omega
    ·cases h
   ·cases h
theorem op_none {s:LU} (h:Fil.opF s=none) (x:UInt8) (t:LU) (e:s=x::t):x≠38∧x≠124∧x≠33:=by
 subst e
 refine⟨?_,?_,?_⟩<;>(rintro rfl;cases h)
theorem zo2_ (x:UInt8) (t:LU):Fil.opF (x::t)=if Lib.indexByte [38,124,33] x<0 then none else some (Lib.indexByte [38,124,33] x):=by
 by_cases h1:x=38
 ·subst h1;rfl
 by_cases h2:x=124
 ·subst h2;rfl
 by_cases h3:x=33
 ·subst h3;rfl
 have hn:Fil.opF (x::t)=none:=by
  unfold Fil.opF
  split
  ·next e=>cases e;exact absurd rfl h1
  ·next e=>cases e;exact absurd rfl h2
  ·next e=>cases e;exact absurd rfl h3
  ·rfl
 have h:∀ n:Fin 256,UInt8.ofNat n.val≠38→UInt8.ofNat n.val≠124→UInt8.ofNat n.val≠33→Lib.indexByte [38,124,33] (UInt8.ofNat n.val)<0:=by decide+kernel
 have h4:=h ⟨x.toNat,x.toNat_lt⟩
 simp only[UInt8.ofNat_toNat] at h4
 rw[hn,if_pos (h4 h1 h2 h3)]
theorem zpj_ (s:LU):Lib.hasPrefix s [40]=decide (s.head?=some 40):=by
 cases s with
 |nil=>rfl
 |cons x t=>
  by_cases h:x=40
  ·subst h;rfl
  ·have h1:Lib.hasPrefix (x::t) [40]=false:=by
    unfold Lib.hasPrefix
    simp [List.isPrefixOf,Ne.symm h]
   rw[h1]
   exact(decide_eq_false (by simpa using h)).symm
def FRet (p:Nat) (w:World) (qs:List qd_) (R:Option (List Fil.FilE × LU)) (e:Ending) (w':World):Prop:=Below p w w'∧match R with
 |some (l,r)=>e= .returned (.tuple #[])∧∃ v' ys,ys.map (·.1)=l∧RdF w'.heap.size p w' r v' (qs++ys)
 |none=>e= .panicked qk_
end Go.Proofs.YtbekpphodbekiaaGreatDoor
namespace Go.Proofs.YtbekpphodbekiaaGreatDoor.Fil
open Go.RowKit
theorem shape_kids8 (p:FilE) (ho:p.op=0∨p.op=1∨p.op=2):shapeB p=(decide (p=⟨p.op,p.n,[],[],[],[],[]⟩) && decide (0≤p.n) && (p.op !=2||p.n==1)):=by
 obtain⟨o,n,t,v,i,f,a⟩:=p
 simp only at ho
 unfold shapeB
 simp only
 rw[if_pos ho,Bool.eq_iff_iff]
 simp only[Bool.and_eq_true,Bool.or_eq_true,decide_eq_true_eq,List.isEmpty_iff,FilE.mk.injEq,true_and,bne_iff_ne,beq_iff_eq]
 constructor
 ·rintro⟨⟨⟨⟨⟨⟨h1,h2⟩,h3⟩,h4⟩,h5⟩,h6⟩,h7⟩
  exact⟨⟨⟨h1,h2,h3,h4,h5⟩,h6⟩,h7⟩
 ·rintro⟨⟨⟨h1,h2,h3,h4,h5⟩,h6⟩,h7⟩
  exact⟨⟨⟨⟨⟨⟨h1,h2⟩,h3⟩,h4⟩,h5⟩,h6⟩,h7⟩
theorem shape_val (p:FilE) (ho:p.op=3∨p.op=5∨p.op=6∨p.op=8):shapeB p=(decide (p=⟨p.op,0,p.typ,p.val,[],[],[]⟩) && zd_ p.typ):=by
 obtain⟨o,n,t,v,i,f,a⟩:=p
 simp only at ho
 unfold shapeB
 simp only
 rw[if_neg (by omega),if_pos ho,Bool.eq_iff_iff]
 simp only[Bool.and_eq_true,decide_eq_true_eq,List.isEmpty_iff,FilE.mk.injEq,true_and]
 constructor
 ·rintro⟨⟨⟨⟨h1,h2⟩,h3⟩,h4⟩,h5⟩
  exact⟨⟨h1,h2,h3,h4⟩,h5⟩
 ·rintro⟨⟨h1,h2,h3,h4⟩,h5⟩
  exact⟨⟨⟨⟨h1,h2⟩,h3⟩,h4⟩,h5⟩
theorem shape_pres (p:FilE) (ho:p.op=7):shapeB p=(decide (p=⟨p.op,0,p.typ,[],[],[],[]⟩) && zd_ p.typ):=by
 obtain⟨o,n,t,v,i,f,a⟩:=p
 simp only at ho
 subst ho
 unfold shapeB
 simp only
 rw[if_neg (by decide),if_neg (by decide),if_neg (by decide),if_pos trivial,Bool.eq_iff_iff]
 simp only[Bool.and_eq_true,decide_eq_true_eq,List.isEmpty_iff,FilE.mk.injEq,true_and]
 constructor
 ·rintro⟨⟨⟨⟨⟨h1,h2⟩,h3⟩,h4⟩,h5⟩,h6⟩
  exact⟨⟨h1,h2,h3,h4,h5⟩,h6⟩
 ·rintro⟨⟨h1,h2,h3,h4,h5⟩,h6⟩
  exact⟨⟨⟨⟨⟨h1,h2⟩,h3⟩,h4⟩,h5⟩,h6⟩
theorem shape_sub (p:FilE) (ho:p.op=4) (h1:¬ (p.ini=[]∧p.fin=[]∧p.any=[])) (h2:p.any.contains []=false):shapeB p=(decide (p=⟨p.op,0,p.typ,[],p.ini,p.fin,p.any⟩) && zd_ p.typ):=by
 obtain⟨o,n,t,v,i,f,a⟩:=p
 simp only at ho h1 h2
 subst ho
 unfold shapeB
 simp only
 have h3:(i.isEmpty && f.isEmpty && a.isEmpty)=false:=by
  rw[← Bool.not_eq_true]
  simp only[Bool.and_eq_true,List.isEmpty_iff]
  rintro⟨⟨x,y⟩,z⟩
  exact h1 ⟨x,y,z⟩
 rw[if_neg (by decide),if_neg (by decide),if_pos trivial,h2,h3,Bool.eq_iff_iff]
 simp
theorem shape_sub_no (p:FilE) (ho:p.op=4) (h:(p.ini=[]∧p.fin=[]∧p.any=[])∨p.any.contains []=true):shapeB p=false:=by
 obtain⟨o,n,t,v,i,f,a⟩:=p
 simp only at ho h
 subst ho
 unfold shapeB
 simp only
 rw[if_neg (by decide),if_neg (by decide),if_pos trivial]
 rcases h with ⟨rfl,rfl,rfl⟩|h
 ·simp
 ·rw[h];simp
theorem shape_no (p:FilE) (ho:p.op<0∨8<p.op):shapeB p=false:=by
 unfold shapeB
 rw[if_neg (by omega),if_neg (by omega),if_neg (by omega),if_neg (by omega)]
def wgt (l:List FilE):Nat:=(l.map z09_).sum
theorem wgt_cons (p:FilE) (l:List FilE):wgt (p::l)=z09_ p+wgt l:=by simp [wgt]
theorem wgt_app (a b:List FilE):wgt (a++b)=wgt a+wgt b:=by simp [wgt]
theorem wgt_len (l:List FilE):l.length≤wgt l:=by
 induction l with
 |nil=>simp [wgt]
 |cons p l ih=>rw[wgt_cons,List.length_cons];unfold z09_;omega
theorem times_suf {g:List FilE→Option (List FilE)} (hg:∀ a b,g a=some b→b.length<a.length∧∃ c,a=c++b):∀ n a b,times g n a=some b→b.length+n≤a.length∧∃ c,a=c++b
 |0,a,b,h=>by cases h;exact⟨nR _,[],rfl⟩
 |n+1,a,b,h=>by
  unfold times at h
  cases hc:g a with
  |none=>rw[hc] at h;cases h
  |some c=>
   rw[hc] at h
   obtain⟨h1,u,hu⟩:=times_suf hg n c b h
   obtain⟨h2,z,hz⟩:=hg a c hc
   exact⟨by omega,z++u,by rw[hz,hu,List.append_assoc]⟩
theorem whole_suf:∀ d l r,wholeF d l=some r→r.length<l.length∧∃ c,l=c++r
 |0,l,r,h=>by cases h
 |d+1,[],r,h=>by cases h
 |d+1,p::t,r,h=>by
  unfold wholeF at h
  split at h
  ·obtain⟨h1,c,hc⟩:=times_suf (whole_suf d) _ _ _ h
   exact⟨by simp only[List.length_cons];omega,p::c,by rw[hc];rfl⟩
  ·cases h
theorem whole_wgt {d:Nat} {l r:List FilE} (h:wholeF d l=some r):wgt r≤wgt l:=by
 obtain⟨_,c,rfl⟩:=whole_suf d l r h
 rw[wgt_app];omega
theorem wrF_len:∀ (f:Nat) (v:LU),(wrF f v).length≤3 * v.length
 |0,v=>by simp [wrF]
 |f+1,[]=>by simp [wrF]
 |f+1,x::t=>by
  have hne:x::t≠[]:=by simp
  have h1:=dec_pos (x::t) hne
  have h2:=Lib.decodeL_le (x::t) hne
  rw[wrF]
  generalize (Lib.decodeL (x::t)).2=n at *
  have h3:=wrF_len f ((x::t).drop n)
  have h4:(escF ((x::t).take n)).length≤3 * n:=by
   unfold escF
   split
   ·next hc=>
    obtain⟨y,hy⟩:=List.length_eq_one_iff.1 hc.1
    rw[hy]
    have:(92::z03_ [y]).length=3:=rfl
    omega
   ·rw[List.length_take];omega
  rw[List.length_append]
  rw[List.length_drop] at h3
  omega
theorem wrL_len8 (v:LU):(wrL v).length≤3 * v.length:=wrF_len _ v
theorem any_len:∀ a:LL,(a.flatMap fun x=>wrL x++[42]).length≤3 * (a.map List.length).sum+a.length
 |[]=>by simp
 |x::a=>by
  have:=any_len a
  have:=wrL_len8 x
  simp only[List.flatMap_cons,List.length_append,List.length_cons,List.length_nil,List.map_cons,List.sum_cons]
  omega
theorem itemT_len (p:FilE):(itemT p).length+2≤4 * z09_ p:=by
 have h1:=wrL_len8 p.val
 have h2:=wrL_len8 p.ini
 have h3:=wrL_len8 p.fin
 have h4:=any_len p.any
 have h5:(signF p.op).length≤2:=by unfold signF;split<;>(try split)<;>(try split)<;>decide
 unfold itemT z09_
 split
 ·simp only[List.length_append,List.length_cons,List.length_nil];omega
 ·split
  ·simp only[List.length_append,List.length_cons];omega
  ·simp only[List.length_append];omega
theorem val_wgt:∀ (n:Nat) (s b:LU) (o l:LL) (r:LU),s.length≤n→valF s b o=some (l,r)→l.length+(l.map List.length).sum+r.length≤s.length+b.length+o.length+(o.map List.length).sum+1
 |n,[],b,o,l,r,_,h=>by rw[valF.eq_def] at h;simp at h;obtain⟨rfl,rfl⟩:=h;simp;omega
 |0,x::t,b,o,l,r,hn,h=>by simp at hn
 |n+1,x::t,b,o,l,r,hn,h=>by
  simp only[List.length_cons] at hn ⊢
  rw[valF_cons] at h
  by_cases h41:x=41
  ·rw[if_pos h41] at h;simp at h;obtain⟨rfl,rfl⟩:=h;simp;omega
  rw[if_neg h41] at h
  by_cases h92:x=92
  ·rw[if_pos h92] at h
   match t,h with
   |[],h=>cases h
   |[a],h=>cases h
   |a::q::t',h=>
    simp only at h
    cases hu:zz_ [a,q] with
    |none=>rw[hu] at h;cases h
    |some y=>
     rw[hu] at h
     have hy:=z85_ hu
     simp only[List.length_cons] at hn ⊢
     have:=val_wgt n t' _ _ _ _ (by omega) h
     rw[List.length_append] at this
     omega
  rw[if_neg h92] at h
  by_cases h40:x=40∨x=0
  ·rw[if_pos h40] at h;cases h
  rw[if_neg h40] at h
  by_cases h42:x=42
  ·rw[if_pos h42] at h
   have:=val_wgt n t _ _ _ _ (by omega) h
   simp at this ⊢
   omega
  ·rw[if_neg h42] at h
   have:=val_wgt n t _ _ _ _ (by omega) h
   rw[List.length_append,List.length_singleton] at this
   omega
theorem sum_dropLast:∀ (x:LU) (l:LL),l≠[]→(((x::l).drop 1).dropLast.map List.length).sum+((x::l).headD []).length+((x::l).getLastD []).length=((x::l).map List.length).sum∧((x::l).drop 1).dropLast.length+2=(x::l).length
 |x,[],h=>absurd rfl h
 |x,[y],_=>by simp
 |x,y::z::l,_=>by
  have:=sum_dropLast y (z::l) (by simp)
  simp only[List.drop_succ_cons,List.drop_zero,List.headD_cons,List.map_cons,List.sum_cons,List.length_cons] at this ⊢
  rw[List.dropLast_cons_of_ne_nil (by simp)]
  rw[show (x::y::z::l).getLastD []=(y::z::l).getLastD [] from rfl]
  simp only[List.map_cons,List.sum_cons,List.length_cons]
  omega
theorem one_wgt {o:Int} {t s:LU} {f:FilE} {r:LU} (h:oneF o t s=some (f,r)):z09_ f+r.length≤t.length+s.length+1:=by
 unfold oneF at h
 cases hv:valF s [] [] with
 |none=>rw[hv] at h;cases h
 |some lr=>
  obtain⟨l,r2⟩:=lr
  have:=val_wgt _ s [] [] l r2 (nR _) hv
  rw[hv] at h
  match l,h,this with
  |[],h,_=>cases h
  |[x],h,this=>
   cases h
   simp [z09_] at this ⊢
   omega
  |_::_::_,h,_=>cases h
theorem rest_wgt {t s:LU} {f:FilE} {r:LU} (h:restF t s=some (f,r)):z09_ f+r.length≤t.length+s.length+1:=by
 unfold restF at h
 cases hv:valF s [] [] with
 |none=>rw[hv] at h;cases h
 |some lr=>
  obtain⟨l,r2⟩:=lr
  have h1:=val_wgt _ s [] [] l r2 (nR _) hv
  have h2:=(kp_ _ s [] [] l r2 (nR _) hv).1
  rw[hv] at h
  simp only[List.length_nil,List.map_nil,List.sum_nil] at h h1
  have h5:=List.length_pos_iff.2 h2
  split at h
  ·cases h
   simp [z09_]
   omega
  ·split at h
   ·next hl=>
    obtain⟨x,rfl⟩:=List.length_eq_one_iff.1 hl
    cases h
    simp [z09_] at h1 ⊢
    omega
   ·next hl=>
    obtain⟨x,l,rfl⟩:=List.exists_cons_of_ne_nil h2
    have h3:=sum_dropLast x l (by rintro rfl;simp at hl)
    cases h
    simp only[z09_,List.length_nil]
    omega
theorem go_wgt (t r:LU):∀ (os:List Int) (f:FilE) (r':LU),(∀ o∈os,o=5∨o=6∨o=8)→zb3_ t r os=some (f,r')→z09_ f+r'.length≤t.length+r.length
 |[],f,r',_,h=>by
  unfold zb3_ at h
  split at h
  ·have:=rest_wgt h
   simp only[List.length_cons];omega
  ·cases h
 |o::os,f,r',ho,h=>by
  unfold zb3_ at h
  split at h
  ·next h2=>
   have h1:=one_wgt h
   have h3:(signF o).length=2:=by rcases ho o (List.mem_cons_self ..) with rfl|rfl|rfl<;>rfl
   rw[← h2,List.length_take] at h3
   rw[List.length_drop] at h1
   omega
  ·exact go_wgt t r os f r' (fun o h=>ho o (List.mem_cons_of_mem _ h)) h
theorem item_wgt {s:LU} {f:FilE} {r:LU} (h:itemF s=some (f,r)):z09_ f+r.length≤s.length:=by
 have:=go_wgt _ _ _ _ _ (by simp) (z2y_ s ▸ h)
 have h2:(typF s).length≤s.length:=by unfold typF;exact(List.takeWhile_prefix _).length_le
 rw[List.length_drop] at this
 omega
theorem kids_wgt {g:Nat→LU→Option (List FilE × LU)} (hg:∀ k s l r,g k s=some (l,r)→wgt l+r.length≤s.length):∀ (f k:Nat) (s:LU) (n:Nat) (l:List FilE) (r:LU),kidsF g f k s=some (n,l,r)→wgt l+r.length≤s.length
 |0,k,s,n,l,r,h=>by unfold kidsF at h;cases h;simp [wgt]
 |f+1,k,s,n,l,r,h=>by
  unfold kidsF at h
  split at h
  ·cases hk:g k s with
   |none=>rw[hk] at h;cases h
   |some lr=>
    obtain⟨l1,s1⟩:=lr
    have h1:=hg _ _ _ _ hk
    rw[hk] at h
    simp only at h
    cases h2:kidsF g f (k+l1.length) s1 with
    |none=>rw[h2] at h;cases h
    |some nlr=>
     obtain⟨n2,l2,r2⟩:=nlr
     have h3:=kids_wgt hg f _ _ _ _ _ h2
     rw[h2] at h
     cases h
     rw[wgt_app]
     omega
  ·cases h;simp [wgt]
theorem fil_wgt:∀ (d k:Nat) (s:LU) (l:List FilE) (r:LU),filF d k s=some (l,r)→wgt l+r.length≤s.length
 |0,k,s,l,r,h=>by cases h
 |d+1,k,s,l,r,h=>by
  unfold filF at h
  split at h
  ·cases h
  ·split at h
   ·next s1=>
    cases hb:bodyF (filF d) k s1 with
    |none=>rw[hb] at h;cases h
    |some lr=>
     obtain⟨l1,r1⟩:=lr
     have h1:wgt l1+r1.length≤s1.length+1:=by
      unfold bodyF at hb
      split at hb
      ·next o ho=>
       cases hk:kidsF (filF d) s1.length (k+1) (s1.drop 1) with
       |none=>rw[hk] at hb;cases hb
       |some z=>
        obtain⟨n,l2,r2⟩:=z
        have h2:=kids_wgt (fil_wgt d) _ _ _ _ _ _ hk
        rw[hk] at hb
        cases hb
        rw[wgt_cons]
        rw[List.length_drop] at h2
        have:z09_ (⟨o,n,[],[],[],[],[]⟩:FilE)=1:=by simp [z09_]
        omega
      ·cases hi:itemF s1 with
       |none=>rw[hi] at hb;cases hb
       |some z=>
        obtain⟨p,r2⟩:=z
        have h2:=item_wgt hi
        rw[hi] at hb
        cases hb
        simp [wgt]
        omega
     rw[hb] at h
     split at h
     ·next e=>
      cases e
      cases h
      simp only[List.length_cons] at h1 ⊢
      omega
     ·cases h
   ·cases h
theorem kids_n {g:Nat→LU→Option (List FilE × LU)} (hg:∀ k s l r,g k s=some (l,r)→r.length<s.length):∀ (f k:Nat) (s:LU) (n:Nat) (l:List FilE) (r:LU),kidsF g f k s=some (n,l,r)→n+r.length≤s.length
 |0,k,s,n,l,r,h=>by unfold kidsF at h;cases h;omega
 |f+1,k,s,n,l,r,h=>by
  unfold kidsF at h
  split at h
  ·cases hk:g k s with
   |none=>rw[hk] at h;cases h
   |some lr=>
    obtain⟨l1,s1⟩:=lr
    have h1:=hg _ _ _ _ hk
    rw[hk] at h
    simp only at h
    cases h2:kidsF g f (k+l1.length) s1 with
    |none=>rw[h2] at h;cases h
    |some nlr=>
     obtain⟨n2,l2,r2⟩:=nlr
     have h3:=kids_n hg f _ _ _ _ _ h2
     rw[h2] at h
     cases h
     omega
  ·cases h;omega
theorem kids_all {g:Nat→LU→Option (List FilE × LU)} {P:FilE→Prop} (m:Nat) (hl:∀ k s l r,g k s=some (l,r)→r.length<s.length) (hg:∀ k s l r,s.length≤m→g k s=some (l,r)→∀ p∈l,P p):∀ (f k:Nat) (s:LU) (n:Nat) (l:List FilE) (r:LU),s.length≤m→kidsF g f k s=some (n,l,r)→∀ p∈l,P p
 |0,k,s,n,l,r,_,h=>by unfold kidsF at h;cases h;simp
 |f+1,k,s,n,l,r,hm,h=>by
  unfold kidsF at h
  split at h
  ·cases hk:g k s with
   |none=>rw[hk] at h;cases h
   |some lr=>
    obtain⟨l1,s1⟩:=lr
    have h1:=hl _ _ _ _ hk
    rw[hk] at h
    simp only at h
    cases h2:kidsF g f (k+l1.length) s1 with
    |none=>rw[h2] at h;cases h
    |some nlr=>
     obtain⟨n2,l2,r2⟩:=nlr
     have h3:=kids_all m hl hg f _ _ _ _ _ (by omega) h2
     rw[h2] at h
     cases h
     intro p hp
     rcases List.mem_append.1 hp with hp|hp
     ·exact hg _ _ _ _ hm hk p hp
     ·exact h3 p hp
  ·cases h;simp
theorem item_n {s:LU} {f:FilE} {r:LU} (h:itemF s=some (f,r)):f.n=0:=by
 have key:∀ os,zb3_ (typF s) (s.drop (typF s).length) os=some (f,r)→f.n=0:=by
  intro os
  induction os with
  |nil=>
   intro h
   unfold zb3_ at h
   split at h
   ·unfold restF at h
    split at h
    ·split at h
     ·cases h;rfl
     ·split at h<;>(cases h;rfl)
    ·cases h
   ·cases h
  |cons o os ih=>
   intro h
   unfold zb3_ at h
   split at h
   ·unfold oneF at h
    split at h
    ·cases h;rfl
    ·cases h
   ·exact ih h
 exact key _ (z2y_ s ▸ h)
theorem fil_n:∀ (d k:Nat) (s:LU) (l:List FilE) (r:LU) (m:Nat),s.length≤m→filF d k s=some (l,r)→∀ p∈l,p.n≤(m:Int)
 |0,k,s,l,r,m,_,h=>by cases h
 |d+1,k,s,l,r,m,hm,h=>by
  unfold filF at h
  split at h
  ·cases h
  ·split at h
   ·next s1=>
    simp only[List.length_cons] at hm
    cases hb:bodyF (filF d) k s1 with
    |none=>rw[hb] at h;cases h
    |some lr=>
     obtain⟨l1,r1⟩:=lr
     have h1:∀ p∈l1,p.n≤(m:Int):=by
      unfold bodyF at hb
      split at hb
      ·next o ho=>
       cases hk:kidsF (filF d) s1.length (k+1) (s1.drop 1) with
       |none=>rw[hk] at hb;cases hb
       |some z=>
        obtain⟨n,l2,r2⟩:=z
        have hdl:(s1.drop 1).length≤m:=by rw[List.length_drop];omega
        have h2:=kids_n (z2o_ d) _ _ _ _ _ _ hk
        have h3:=kids_all m (P:=fun p=>p.n≤(m:Int)) (z2o_ d) (fun k s l r hs hf=>fil_n d k s l r m hs hf) _ _ _ _ _ _ hdl hk
        rw[hk] at hb
        cases hb
        intro p hp
        rcases List.mem_cons.1 hp with rfl|hp
        ·show (n:Int)≤(m:Int)
         omega
        ·exact h3 p hp
      ·cases hi:itemF s1 with
       |none=>rw[hi] at hb;cases hb
       |some z=>
        obtain⟨p,r2⟩:=z
        have h2:=item_n hi
        rw[hi] at hb
        cases hb
        intro q hq
        rcases List.mem_cons.1 hq with rfl|hq
        ·omega
        ·cases hq
     rw[hb] at h
     split at h
     ·next e=>
      cases e
      cases h
      exact h1
     ·cases h
   ·cases h
theorem fil_fit {d k:Nat} {s:LU} {l:List FilE} {r:LU} (h:filF d k s=some (l,r)) (hs:s.length≤1000000):z61_ l:=fun p hp=>by
 have:=fil_n d k s l r 1000000 hs h p hp
 omega
theorem puts_wgt {g:List FilE→LU × List FilE} (hg:∀ l,(g l).1.length+4 * wgt (g l).2≤4 * wgt l):∀ n l,(putsF g n l).1.length+4 * wgt (putsF g n l).2≤4 * wgt l
 |0,l=>by simp [putsF]
 |n+1,l=>by
  have h1:=hg l
  have h2:=puts_wgt hg n (g l).2
  simp only[putsF,List.length_append]
  omega
theorem put_wgt:∀ d l,(putF d l).1.length+4 * wgt (putF d l).2≤4 * wgt l
 |0,l=>by simp [putF]
 |d+1,[]=>by simp [putF]
 |d+1,p::t=>by
  rw[putF,wgt_cons]
  have hp:1≤z09_ p:=by unfold z09_;omega
  split
  ·have:=puts_wgt (put_wgt d) p.n.toNat t
   simp only[List.length_cons,List.length_append,List.length_nil]
   omega
  ·have:=itemT_len p
   simp only[List.length_cons,List.length_append,List.length_nil]
   omega
end Go.Proofs.YtbekpphodbekiaaGreatDoor.Fil
namespace Go.Proofs.YtbekpphodbekiaaGreatDoor
open Go.RowKit
theorem z7a_ (a b:Fil.FilE) (va vb:Value) (w:World) (ha:TextsA w va a.any) (hb:TextsA w vb b.any) (hl:a.any.length≤8796093021952):
  Calls Tryz.prog 48 #[x4_ a va,x4_ b vb] w fun e w'=>e= .returned (.bool (decide (a=b)))∧Bel w w':=by
 obtain⟨o1,m1,t1,u1,i1,f1,y1⟩:=a
 obtain⟨o2,m2,t2,u2,i2,f2,y2⟩:=b
 simp only at ha hb hl
 unfold x4_
 simp only
 have hb1:=ze_ w (.cells #[.int .i64 o1,.int .i64 m1,.string ⟨t1.toArray⟩,.string ⟨u1.toArray⟩,.string ⟨i1.toArray⟩,.string ⟨f1.toArray⟩,va] 45)
 have hk1:=Bk.new w 45 #[.int .i64 o1,.int .i64 m1,.string ⟨t1.toArray⟩,.string ⟨u1.toArray⟩,.string ⟨i1.toArray⟩,.string ⟨f1.toArray⟩,va]
 obtain⟨W1,hW1⟩:∃ W1,W1=w.alloc (.cells #[.int .i64 o1,.int .i64 m1,.string ⟨t1.toArray⟩,.string ⟨u1.toArray⟩,.string ⟨i1.toArray⟩,.string ⟨f1.toArray⟩,va] 45):=⟨_,rfl⟩
 have hsz:W1.heap.size=w.heap.size+1:=by rw[hW1];simp
 rw[← hW1] at hb1 hk1
 have hb2:=ze_ W1 (.cells #[.int .i64 o2,.int .i64 m2,.string ⟨t2.toArray⟩,.string ⟨u2.toArray⟩,.string ⟨i2.toArray⟩,.string ⟨f2.toArray⟩,vb] 45)
 have hk2:=Bk.new W1 45 #[.int .i64 o2,.int .i64 m2,.string ⟨t2.toArray⟩,.string ⟨u2.toArray⟩,.string ⟨i2.toArray⟩,.string ⟨f2.toArray⟩,vb]
 rw[hsz] at hk2
 have hk1':=hk1.below hb2
 rw[hW1] at hk1' hk2 hb2
 have hB:=(hW1 ▸ hb1:Bel w _).trans (hb2.mono (hW1 ▸ hb1:Bel w _).size)
 have p0:=hk1'.cell 0
 have p1:=hk1'.cell 1
 have p2:=hk1'.cell 2
 have p3:=hk1'.cell 3
 have p4:=hk1'.cell 4
 have p5:=hk1'.cell 5
 have p6:=hk1'.cell 6
 have q0:=hk2.cell 0
 have q1:=hk2.cell 1
 have q2:=hk2.cell 2
 have q3:=hk2.cell 3
 have q4:=hk2.cell 4
 have q5:=hk2.cell 5
 have q6:=hk2.cell 6
 simp only[gs3] at p0 p1 p2 p3 p4 p5 p6 q0 q1 q2 q3 q4 q5 q6
 have HE:=hiD (zgr_ y1 y2 va vb _ (ha.below hB) (hb.below hB) hl)
 have HB:=hiD hB
 obtain⟨Aa,ca,rfl,_,_⟩:=ha.at
 obtain⟨Ab,cb,rfl,_,_⟩:=hb.at
 clear hk1 hk2 hk1' hb1 hb2 hB ha hb hW1 hsz
 by_cases h0:o1=o2
 rotate_left
 ·have hd:decide ((⟨o1,m1,t1,u1,i1,f1,y1⟩:Fil.FilE)=⟨o2,m2,t2,u2,i2,f2,y2⟩)=false:=decide_eq_false fun e=>h0 (by injection e)
  have hx:(o1==o2)=false:=beq_eq_false_iff_ne.2 h0
  rw[hd]
  go_enter Tryz.func48,Tryz.ntmps48
  go_wp2_with fail
  go_ret
  exact⟨rfl,HB.out⟩
 subst h0
 by_cases h1:m1=m2
 rotate_left
 ·have hd:decide ((⟨o1,m1,t1,u1,i1,f1,y1⟩:Fil.FilE)=⟨o1,m2,t2,u2,i2,f2,y2⟩)=false:=decide_eq_false fun e=>h1 (by injection e)
  have hx:(m1==m2)=false:=beq_eq_false_iff_ne.2 h1
  rw[hd]
  go_enter Tryz.func48,Tryz.ntmps48
  go_wp2_with fail
  go_ret
  exact⟨rfl,HB.out⟩
 subst h1
 by_cases h2:t1=t2
 rotate_left
 ·have hd:decide ((⟨o1,m1,t1,u1,i1,f1,y1⟩:Fil.FilE)=⟨o1,m1,t2,u2,i2,f2,y2⟩)=false:=decide_eq_false fun e=>h2 (by injection e)
  have hx:(t1==t2)=false:=beq_eq_false_iff_ne.2 h2
  rw[hd]
  go_enter Tryz.func48,Tryz.ntmps48
  go_wp2_with fail
  go_ret
  exact⟨rfl,HB.out⟩
 subst h2
 by_cases h3:u1=u2
 rotate_left
 ·have hd:decide ((⟨o1,m1,t1,u1,i1,f1,y1⟩:Fil.FilE)=⟨o1,m1,t1,u2,i2,f2,y2⟩)=false:=decide_eq_false fun e=>h3 (by injection e)
  have hx:(u1==u2)=false:=beq_eq_false_iff_ne.2 h3
  rw[hd]
  go_enter Tryz.func48,Tryz.ntmps48
  go_wp2_with fail
  go_ret
  exact⟨rfl,HB.out⟩
 subst h3
 by_cases h4:i1=i2
 rotate_left
 ·have hd:decide ((⟨o1,m1,t1,u1,i1,f1,y1⟩:Fil.FilE)=⟨o1,m1,t1,u1,i2,f2,y2⟩)=false:=decide_eq_false fun e=>h4 (by injection e)
  have hx:(i1==i2)=false:=beq_eq_false_iff_ne.2 h4
  rw[hd]
  go_enter Tryz.func48,Tryz.ntmps48
  go_wp2_with fail
  go_ret
  exact⟨rfl,HB.out⟩
 subst h4
 by_cases h5:f1=f2
 rotate_left
 ·have hd:decide ((⟨o1,m1,t1,u1,i1,f1,y1⟩:Fil.FilE)=⟨o1,m1,t1,u1,i1,f2,y2⟩)=false:=decide_eq_false fun e=>h5 (by injection e)
  have hx:(f1==f2)=false:=beq_eq_false_iff_ne.2 h5
  rw[hd]
  go_enter Tryz.func48,Tryz.ntmps48
  go_wp2_with fail
  go_ret
  exact⟨rfl,HB.out⟩
 subst h5
 have hd:decide ((⟨o1,m1,t1,u1,i1,f1,y1⟩:Fil.FilE)=⟨o1,m1,t1,u1,i1,f1,y2⟩)=decide (y1=y2):=by
  simp
 rw[hd]
 generalize decide (y1=y2)=R at *
 go_enter Tryz.func48,Tryz.ntmps48
 go_wp2_with (go_at_call 96;(with_reducible refine HE.out.mono ?_);rintro e w3 ⟨rfl,hb3⟩)
 go_ret
 exact⟨j7_ (by simp),tQ HB.out hb3⟩
open Go.RowKit
end Go.Proofs.YtbekpphodbekiaaGreatDoor
