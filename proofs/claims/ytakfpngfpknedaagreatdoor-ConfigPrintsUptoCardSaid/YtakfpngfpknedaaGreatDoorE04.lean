import Derived.Test.YtakfpngfpknedaaGreatDoorE03
set_option linter.all false
set_option maxHeartbeats 8000000
set_option maxRecDepth 100000
namespace Go.Proofs.YtakfpngfpknedaaGreatDoor
open Go.RowKit
def k2_ (a b:Int):UInt8:=UInt8.ofNat (16 * a+b).toNat
def j7_:LU→Option LU
 |[]=>some []
 |[_]=>none
 |a::b::t=>if q1_ a.toNat<0∨q1_ b.toNat<0 then none else (j7_ t).map (k2_ (q1_ a.toNat) (q1_ b.toNat)::·)
theorem k5_ (c:Int): -1≤q1_ c∧q1_ c≤15:=by
 unfold q1_
 repeat' split
 all_goals omega
theorem z7z_:∀ x y:Fin 16,(bits BinOp.or IntKind.i64 ((x.val:Int) * 16) (y.val:Int)) % 256=((k2_ (x.val:Int) (y.val:Int)).toNat:Int):=by decide+kernel
theorem z0p_ (x y:Int) (h1:0≤x) (h2:x≤15) (h3:0≤y) (h4:y≤15):bits BinOp.or IntKind.i64 (x * 16) y % 256=((k2_ x y).toNat:Int):=by
 obtain⟨a,rfl⟩:=Int.eq_ofNat_of_zero_le h1
 obtain⟨b,rfl⟩:=Int.eq_ofNat_of_zero_le h3
 exact z7z_ ⟨a,by omega⟩ ⟨b,by omega⟩
theorem z02_ (l:LU) (w:World) (hl:l.length≤1099511627776):
  Calls Tryz.prog 310 #[.string ⟨l.toArray⟩] w fun e w'=>e= .returned (x4_ 11 (j7_ l))∧Bel w w':=by
 have hget:=qb_
 by_cases hodd:l.length % 2=0
 ·have h1:(((l.length:Int) % 2) !=0)=false:=by simp;omega
  go_enter Tryz.func310,Tryz.ntmps310
  go_wp2_with (at_make;refine z9v_ rfl _ _ rfl (l.length / 2) _ rfl rfl (by simp) (by omega) ?_;intro w1 hb1)
  go_loopg [4,5] l.length (fun gk v i wr=>∃ (p:Nat) (acc:LU),p≤l.length∧i= .int .i64 p∧l.length - p≤gk∧Aside (p % 2=0)∧Buf w wr v acc∧acc.length≤p∧Aside (j7_ l=(j7_ (l.drop p)).map (acc++·)))
  case atStart=>exact⟨0,[],by omega,rfl,by omega,rfl,hb1,by simp,by show _=_;simp⟩
  case round=>
   obtain⟨p,acc,hp,rfl,hgk,AP,hbuf,hacc,AU⟩:=hrel
   by_cases hlt:p<l.length
   ·have hlt1:p+1<l.length:=by have:=AP.out;omega
    have hdr:l.drop p=l[p]::l[p+1]::l.drop (p+2):=by
     rw[List.drop_eq_getElem_cons hlt,List.drop_eq_getElem_cons hlt1]
    have hra:=k5_ l[p].toNat
    have hrb:=k5_ l[p+1].toNat
    have HDD:=hiD (fun (c:Int) (w:World) (h0:0≤c) (h1:c<256)=>z47_ c w h0 h1)
    have ha8:(l[p].toNat:Int)<256:=by have:=UInt8.toNat_lt l[p];omega
    have hb8:(l[p+1].toNat:Int)<256:=by have:=UInt8.toNat_lt l[p+1];omega
    have hk0:(0:Int)≤(p:Int):=by omega
    have hk1:(p:Int)<(l.length:Int):=by omega
    have hk2:(p:Int)+1<(l.length:Int):=by omega
    have hk3:((p:Int)+1).toNat=p+1:=by omega
    have hk4:(0:Int)≤(p:Int)+1:=by omega
    have hk5:IntKind.i64.wrap ((p:Int)+1)=(p:Int)+1:=IntWalk.i64_in _ (by omega)
    have AU':Aside (j7_ l=(if q1_ l[p].toNat<0∨q1_ l[p+1].toNat<0 then none else (j7_ (l.drop (p+2))).map (k2_ (q1_ l[p].toNat) (q1_ l[p+1].toNat)::·)).map (acc++·)):=by
     have:=AU.out
     rw[hdr,j7_] at this
     exact this
    clear hdr AU
    go_wp2_with fail
    go_quiet ((go_at_call 309;exact x1_ (HDD.out _ _ (by omega) (by omega))))
    clear hk5
    generalize q1_ l[p].toNat=x at hra AU' ⊢
    generalize q1_ l[p+1].toNat=y at hrb AU' ⊢
    by_cases hneg:x<0∨y<0
    ·have hno:j7_ l=none:=by have:=AU'.out;rw[if_pos hneg] at this;exact this
     have Hno:=hiD hno
     clear hno
     have hB:=hbuf.below
     rcases hneg with h|h
     ·go_wp2_with fail
      go_ret2
      exact⟨by rw[Hno.out];rfl,z0_ hB _⟩
     ·go_wp2_with fail
      all_goals
       go_ret2
       exact⟨by rw[Hno.out];rfl,z0_ hB _⟩
    ·have hx0:0≤x:=by omega
     have hy0:0≤y:=by omega
     have AU2:Aside (j7_ l=(j7_ (l.drop (p+2))).map ((acc++[k2_ x y])++·)):=by
      have:=AU'.out
      rw[if_neg hneg,Option.map_map] at this
      show _=_
      rw[this]
      congr 1
      funext z
      simp
     have hx15:x≤15:=hra.2
     have hy15:y≤15:=hrb.2
     clear hneg hra hrb AU'
     have hbits:=z0p_ x y hx0 hx15 hy0 hy15
     have hbufN:=hbuf.drewN nq
     go_wp2_with (at_builtin;refine zv_ rfl _ _ rfl rfl hbufN rfl (by omega) ?_;intro v' w2 hb2 hg2)
     go_roundg (l.length - (p+2))
     case measure=>omega
     case rel=>exact⟨p+2,_,by omega,by go_num,nR _,by have:=AP.out;show _=_;omega,hb2,by simp;omega,AU2.out⟩
   ·have hfin:j7_ l=some acc:=by
     have:=AU.out
     rw[List.drop_eq_nil_of_le (by omega),j7_] at this
     simpa using this
    have Hf:=hiD hfin
    have hst:=k6_ hbuf
    have hB:=hbuf.below
    clear AU hfin
    go_wp2
    go_ret2
    exact⟨by rw[Hf.out];rfl,hB⟩
 ·have h1:(((l.length:Int) % 2) !=0)=true:=by simp;omega
  have hno:∀ (n:Nat) (l:LU),l.length≤n→l.length % 2≠0→j7_ l=none:=by
   intro n
   induction n with
   |zero=>intro l h1 h2;omega
   |succ n ih=>
    intro l h1 h2
    match l,h1,h2 with
    |[],_,h2=>simp at h2
    |[_],_,_=>rfl
    |a::b::t,h1,h2=>
     rw[j7_,ih t (by simp at h1;omega) (by simp at h2;omega)]
     split<;>rfl
  rw[hno l.length l (nR _) hodd]
  clear hno
  go_enter Tryz.func310,Tryz.ntmps310
  go_wp2
  go_ret2
  exact⟨rfl,bR _ _⟩
open Go.RowKit
def z67_ (c:UInt8):Bool:=decide (0≤q1_ c.toNat)
def z9d_ (t:LU):Option (LU × LU):=match j7_ (t.takeWhile z67_) with
 |none=>none
 |some v=>if v=[] then none else some (v,t.dropWhile z67_)
theorem hex_c (b:Nat) (s t:LU) (x:UInt8) (w:World) (h:RdAt w b s (x::t)) (hs:s.length≤65536):
  Calls Tryz.prog 303 #[.pointer (some ⟨b,0,none⟩)] w (zbw_ w b s ((z9d_ t).map fun x=>(.string ⟨x.1.toArray⟩,x.2))):=by
 have hget:=qb_
 have hext:=z0x_
 obtain⟨i0,hi0,hd0,hRd0⟩:=h
 have ⟨hlt0,hdt⟩:=x3_ hd0
 subst hdt
 clear hd0
 have hc1:=hRd0.c1
 have hf1:=hRd0.f1
 have HR0:=hiD hRd0
 clear hRd0
 go_enter Tryz.func303,Tryz.ntmps303
 go_wp2_with fail
 have hRd1:Rd (w.setCell ⟨b,1,none⟩ (.int .i64 ((i0:Int)+1))) b s (i0+1):=HR0.out.set (i0+1)
 have hg1:w.grownBy (w.setCell ⟨b,1,none⟩ (.int .i64 ((i0:Int)+1))) (some b):=zf_ _
 generalize w.setCell ⟨b,1,none⟩ (.int .i64 ((i0:Int)+1))=w0 at *
 clear hc1 hf1
 have hc1:=hRd1.c1
 have ec:((i0+1:Nat):Int)=(i0:Int)+1:=by omega
 rw[ec] at hc1
 clear ec
 go_wp2_with fail
 clear hc1
 rw[show ((i0:Int)+1)=((i0+1:Nat):Int) from by omega]
 obtain⟨i,rfl⟩:∃ i,i=i0+1:=⟨_,rfl⟩
 generalize hie:i0+1=i at *
 have hi:i≤s.length:=by omega
 have HRi:=hiD hRd1
 have HIE:=hiD hie
 clear hRd1 hie
 go_loopg [] (s.length - i) (fun gk wr=>∃ j,i≤j∧j≤s.length∧s.length - j≤gk∧Rd wr b s j∧Aside ((sub s i j).all z67_=true)∧w.grownBy wr (some b))
 case atStart=>exact⟨i,nR _,hi,nR _,HRi.out,by show _=_;simp [sub],hg1⟩
 case round=>
  obtain⟨j,hij,hj,hgk,hRd,AT,hg⟩:=hrel
  have h0:=hRd.c0
  have h1:=hRd.c1
  have hf1:=hRd.f1
  have hEn:=fun w' (hR:Rd w' b s j)=>z4u_ b s j w' hR
  have HRj:=hiD hRd
  clear hRd
  have hsl:(sub s i j).length≤1099511627776:=by rw[z24_];omega
  have hi0:(0:Int)≤(i:Int):=by omega
  have hij':(i:Int)≤(j:Int):=by omega
  have hjl':(j:Int)≤(s.length:Int):=by omega
  by_cases hc:∃ hlt:j<s.length,0≤q1_ s[j].toNat
  ·obtain⟨hlt,hty⟩:=hc
   have hb:((j:Int)==(s.length:Int))=false:=by rw[beq_eq_false_iff_ne];omega
   rw[hb] at hEn
   have hj1:(j:Int)<(s.length:Int):=by omega
   have hIT:=fun w=>z47_ (s[j].toNat) w (by omega) (by have:=UInt8.toNat_lt s[j];omega)
   have AT':Aside ((sub s i (j+1)).all z67_=true):=by
    have:=AT.out
    show _=_
    rw[show sub s i (j+1)=sub s i j++[s[j]] by
     unfold sub
     rw[show j+1 - i=(j - i)+1 by omega,List.take_add_one,List.getElem?_drop,show i+(j - i)=j by omega,List.getElem?_eq_getElem hlt];rfl]
    simp only[List.all_append,this,Bool.true_and,List.all_cons,List.all_nil,Bool.and_true]
    exact decide_eq_true hty
   have HEn:=hiD hEn
   clear hEn hb AT
   go_wp2_with fail
   go_quiet (first|(go_at_call 243;exact xz_ (HEn.out _ (HRj.out.drewN _)))|(go_at_call 309;exact x1_ (hIT _)))
   go_wp2_with fail
   go_roundg (s.length - (j+1))
   case measure=>omega
   case rel=>exact⟨j+1,by omega,by omega,nR _,(HRj.out.drewN nq).set (j+1),AT'.out,gT hg (gT (z3_ _ _ _) (zf_ _))⟩
  ·have hstop:(s.drop j).takeWhile z67_=[]:=by
    cases hd':s.drop j with
    |nil=>rfl
    |cons x t=>
     have ⟨hlt,_⟩:=x3_ hd'
     have hx:s[j]=x:=by rw[List.drop_eq_getElem_cons hlt] at hd';exact(List.cons.inj hd').1
     have:z67_ x=false:=by
      cases h:z67_ x
      ·rfl
      ·exact absurd ⟨hlt,by rw[hx];exact of_decide_eq_true h⟩ hc
     simp [this]
   have hcut:=vf_ (p:=z67_) (s.drop i) (s.drop j) ⟨j - i,by rw[List.drop_drop];congr 1;omega,by have:=AT.out;unfold sub at this;exact this⟩ hstop
   have htyp:z9d_ (s.drop i)=match j7_ (sub s i j) with|none=>none|some v=>if v=[] then none else some (v,s.drop j):=by
    unfold z9d_
    rw[hcut.1,hcut.2]
    have:(s.drop i).take ((s.drop i).length - (s.drop j).length)=sub s i j:=by unfold sub;congr 1;simp;omega
    rw[this]
   have HT:=hiD htyp
   clear htyp hcut hstop AT
   have hEW:∀ n w2,Below wr.heap.size (wr.drewN n) w2→w.grownBy w2 (some b):=fun n w2 hb=>gT hg (gT (z3_ _ n _) (z1_ hb _))
   have HEW:=hiD hEW
   clear hEW
   by_cases hlt:j<s.length
   ·have hb:((j:Int)==(s.length:Int))=false:=by rw[beq_eq_false_iff_ne];omega
    rw[hb] at hEn
    have hj1:(j:Int)<(s.length:Int):=by omega
    have hIT:=fun w=>z47_ (s[j].toNat) w (by omega) (by have:=UInt8.toNat_lt s[j];omega)
    have hty:¬ 0≤q1_ s[j].toNat:=fun h=>hc ⟨hlt,h⟩
    have hty':q1_ s[j].toNat<0:=by omega
    have HEn:=hiD hEn
    clear hEn hb hty hc
    go_wp2_with fail
    go_quiet (first|(go_at_call 243;exact xz_ (HEn.out _ (HRj.out.drewN _)))|(go_at_call 309;exact x1_ (hIT _)))
    go_wp2_with fail
    rcases hT:j7_ (sub s i j) with _|v
    ·have hty:z9d_ (s.drop i)=none:=by rw[HT.out,hT]
     have Hty:=hiD hty
     clear hty
     go_region_held3 (fun w'=>w'.cell? ⟨b,0,none⟩=some (.string ⟨s.toArray⟩)∧w'.cell? ⟨b,1,none⟩=some (.int .i64 j)) (first|exact⟨h0,h1⟩|exact⟨hc0',hc1'⟩) (first|(go_at_call 310;refine(z02_ _ _ hsl).mono ?_;rintro e w2 ⟨rfl,hb2⟩;rw[hT];simp only[x4_];have hR2:=(HRj.out.drewN (nq+1)).below hb2;have hc0':=hR2.c0;have hc1':=hR2.c1))
     have HR2:=hiD hR2
     clear HRj h0 h1 hR2
     go_wp2_with fail
     refine⟨rfl,?_⟩
     rw[HIE.out,Hty.out]
     exact⟨HEW.out _ _ hb2,rfl⟩
    ·by_cases hv:v=[]
     ·have hty:z9d_ (s.drop i)=none:=by rw[HT.out,hT];dsimp only;rw[if_pos hv]
      have Hty:=hiD hty
      subst hv
      clear hty
      go_region_held3 (fun w'=>w'.cell? ⟨b,0,none⟩=some (.string ⟨s.toArray⟩)∧w'.cell? ⟨b,1,none⟩=some (.int .i64 j)) (first|exact⟨h0,h1⟩|exact⟨hc0',hc1'⟩) (first|(go_at_call 310;refine(z02_ _ _ hsl).mono ?_;rintro e w2 ⟨rfl,hb2⟩;rw[hT];simp only[x4_];have hR2:=(HRj.out.drewN (nq+1)).below hb2;have hc0':=hR2.c0;have hc1':=hR2.c1))
      have HR2:=hiD hR2
      clear HRj h0 h1 hR2
      go_wp2_with fail
      refine⟨rfl,?_⟩
      rw[HIE.out,Hty.out]
      exact⟨HEW.out _ _ hb2,rfl⟩
     ·have hty:z9d_ (s.drop i)=some (v,s.drop j):=by rw[HT.out,hT];dsimp only;rw[if_neg hv]
      have Hty:=hiD hty
      have hve:v.isEmpty=false:=by cases v<;>simp_all
      clear hty
      go_region_held3 (fun w'=>w'.cell? ⟨b,0,none⟩=some (.string ⟨s.toArray⟩)∧w'.cell? ⟨b,1,none⟩=some (.int .i64 j)) (first|exact⟨h0,h1⟩|exact⟨hc0',hc1'⟩) (first|(go_at_call 310;refine(z02_ _ _ hsl).mono ?_;rintro e w2 ⟨rfl,hb2⟩;rw[hT];simp only[x4_];have hR2:=(HRj.out.drewN (nq+1)).below hb2;have hc0':=hR2.c0;have hc1':=hR2.c1))
      have HR2:=hiD hR2
      clear HRj h0 h1 hR2
      go_wp2_with fail
      go_ret
      rw[HIE.out,Hty.out]
      exact⟨HEW.out _ _ hb2,rfl,j,hj,rfl,HR2.out⟩
   ·obtain rfl:j=s.length:=by omega
    have hb:((s.length:Int)==(s.length:Int))=true:=by simp
    rw[hb] at hEn
    have HEn:=hiD hEn
    clear hEn hb hc
    go_wp2_with fail
    go_quiet (first|(go_at_call 243;exact xz_ (HEn.out _ (HRj.out.drewN _))))
    go_wp2_with fail
    rcases hT:j7_ (sub s i s.length) with _|v
    ·have hty:z9d_ (s.drop i)=none:=by rw[HT.out,hT]
     have Hty:=hiD hty
     clear hty
     go_region_held3 (fun w'=>w'.cell? ⟨b,0,none⟩=some (.string ⟨s.toArray⟩)∧w'.cell? ⟨b,1,none⟩=some (.int .i64 s.length)) (first|exact⟨h0,h1⟩|exact⟨hc0',hc1'⟩) (first|(go_at_call 310;refine(z02_ _ _ hsl).mono ?_;rintro e w2 ⟨rfl,hb2⟩;rw[hT];simp only[x4_];have hR2:=(HRj.out.drewN (nq+1)).below hb2;have hc0':=hR2.c0;have hc1':=hR2.c1))
     have HR2:=hiD hR2
     clear HRj h0 h1 hR2
     go_wp2_with fail
     refine⟨rfl,?_⟩
     rw[HIE.out,Hty.out]
     exact⟨HEW.out _ _ hb2,rfl⟩
    ·by_cases hv:v=[]
     ·have hty:z9d_ (s.drop i)=none:=by rw[HT.out,hT];dsimp only;rw[if_pos hv]
      have Hty:=hiD hty
      subst hv
      clear hty
      go_region_held3 (fun w'=>w'.cell? ⟨b,0,none⟩=some (.string ⟨s.toArray⟩)∧w'.cell? ⟨b,1,none⟩=some (.int .i64 s.length)) (first|exact⟨h0,h1⟩|exact⟨hc0',hc1'⟩) (first|(go_at_call 310;refine(z02_ _ _ hsl).mono ?_;rintro e w2 ⟨rfl,hb2⟩;rw[hT];simp only[x4_];have hR2:=(HRj.out.drewN (nq+1)).below hb2;have hc0':=hR2.c0;have hc1':=hR2.c1))
      have HR2:=hiD hR2
      clear HRj h0 h1 hR2
      go_wp2_with fail
      refine⟨rfl,?_⟩
      rw[HIE.out,Hty.out]
      exact⟨HEW.out _ _ hb2,rfl⟩
     ·have hty:z9d_ (s.drop i)=some (v,s.drop s.length):=by rw[HT.out,hT];dsimp only;rw[if_neg hv]
      have Hty:=hiD hty
      have hve:v.isEmpty=false:=by cases v<;>simp_all
      clear hty
      go_region_held3 (fun w'=>w'.cell? ⟨b,0,none⟩=some (.string ⟨s.toArray⟩)∧w'.cell? ⟨b,1,none⟩=some (.int .i64 s.length)) (first|exact⟨h0,h1⟩|exact⟨hc0',hc1'⟩) (first|(go_at_call 310;refine(z02_ _ _ hsl).mono ?_;rintro e w2 ⟨rfl,hb2⟩;rw[hT];simp only[x4_];have hR2:=(HRj.out.drewN (nq+1)).below hb2;have hc0':=hR2.c0;have hc1':=hR2.c1))
      have HR2:=hiD hR2
      clear HRj h0 h1 hR2
      go_wp2_with fail
      go_ret
      rw[HIE.out,Hty.out]
      exact⟨HEW.out _ _ hb2,rfl,s.length,hj,rfl,HR2.out⟩
open Go.RowKit
theorem zq_ (cs:LU) (x:UInt8) (w:World):
  Calls Tryz.prog 175 #[.string ⟨cs.toArray⟩,.int .u8 x.toNat] w fun e w'=>e= .returned (.int .i64 (Lib.indexByte cs x))∧w=w':=by
 refine(Tryz.strings_IndexByte ⟨cs.toArray⟩ x.toNat w).mono ?_
 rintro e w' ⟨rfl,rfl⟩
 exact⟨by simp,rfl⟩
def ze9_:LU:=[34,43,44,59,60,62,92,61,35,32]
def z0w_:LU:=[34,43,44,59,60,62,92]
def zjj_ (c:UInt8):LU→Option (UInt8 × LU)
 |[]=>none
 |d::t=>if q1_ c.toNat<0∨q1_ d.toNat<0 then none else some (k2_ (q1_ c.toNat) (q1_ d.toNat),t)
def zg7_:LU→Option (UInt8 × LU)
 |[]=>none
 |c::t=>if 0≤Lib.indexByte ze9_ c then some (c,t) else zjj_ c t
theorem z4x_ {P:Program} {f:FuncId} {args:Array Value} {w:World} {a n:Nat} {v:Value}
  (h:Calls P f args (w.drewN (a+n)) fun e w'=>e= .returned v∧w.drewN (a+n)=w'):
  Calls P f args (w.drewN (a+n)) fun e w''=>e= .returned v∧∃ m,w''=w.drewN (a+m):=
 h.mono fun _ _ ⟨he,hm⟩=>⟨he,n,hm.symm⟩
theorem zhk_ (b:Nat) (s t:LU) (x:UInt8) (w:World) (h:RdAt w b s (x::t)) (hs:s.length≤65536):
  Calls Tryz.prog 304 #[.pointer (some ⟨b,0,none⟩)] w (zbw_ w b s ((zg7_ t).map fun x=>(.int .u8 x.1.toNat,x.2))):=by
 have hget:=qb_
 obtain⟨i,hi,hd0,hRd⟩:=h
 have ⟨hlt,hdt⟩:=x3_ hd0
 clear hd0 hi
 have h0:=hRd.c0
 have h1:=hRd.c1
 have hf1:=hRd.f1
 have HR:=hiD hRd
 clear hRd
 have hi0:(0:Int)≤(i:Int):=by omega
 have hk3:((i:Int)+1).toNat=i+1:=by omega
 have hk4:(0:Int)≤(i:Int)+1:=by omega
 have hk5:IntKind.i64.wrap ((i:Int)+1)=(i:Int)+1:=IntWalk.i64_in _ (by omega)
 cases t with
 |nil=>
  have hl:i+1=s.length:=by
   have:=congrArg List.length hdt
   simp at this;omega
  have hd1:decide ((i:Int)+1<(s.length:Int))=false:=by rw[decide_eq_false_iff_not];omega
  have HL:=hiD hl
  clear hl hdt
  go_enter Tryz.func304,Tryz.ntmps304
  go_wp2_with fail
  go_quiet (fail)
  have hw2:IntKind.i64.wrap ((i:Int)+2)=(i:Int)+2:=IntWalk.i64_in _ (by omega)
  have hge:(s.length:Int)≤(i:Int)+2:=by have:=HL.out;omega
  clear hk5
  go_wp2_with fail
  go_quiet (fail)
  clear hw2
  go_wp2_with fail
  exact⟨rfl,z3_ _ _ _,rfl⟩
 |cons c t=>
  have hl:i+1<s.length:=by
   have:=congrArg List.length hdt
   simp at this;omega
  have hsc:s[i+1]=c:=by rw[List.drop_eq_getElem_cons hl] at hdt;exact(List.cons.inj hdt).1
  have hdt2:s.drop (i+2)=t:=by rw[List.drop_eq_getElem_cons hl] at hdt;exact(List.cons.inj hdt).2
  have hd1:(i:Int)+1<(s.length:Int):=by omega
  have hIB:=fun w=>zq_ ze9_ s[i+1] w
  have HE:Hid (zg7_ (c::t)=if 0≤Lib.indexByte ze9_ c then some (c,t) else zjj_ c t):=hiD rfl
  have HIB:=hiD hIB
  clear hdt hIB
  have HSC:=hiD hsc
  have HD2:=hiD hdt2
  clear hsc hdt2
  by_cases hix:0≤Lib.indexByte ze9_ s[i+1]
  ·have hes:zg7_ (c::t)=some (c,t):=by rw[HE.out,if_pos (by rw[← HSC.out];exact hix)]
   have Hes:=hiD hes
   clear hes
   go_enter Tryz.func304,Tryz.ntmps304
   go_wp2_with fail
   go_quiet ((go_at_call 175;exact x1_ (HIB.out _)))
   clear hk5
   go_wp2_with fail
   have hR2:Rd ((w.drewN nq).setCell ⟨b,1,none⟩ (.int .i64 ((i:Int)+2))) b s (i+2):=(HR.out.drewN nq).set (i+2)
   have hg2:w.grownBy ((w.drewN nq).setCell ⟨b,1,none⟩ (.int .i64 ((i:Int)+2))) (some b):=gT (z3_ _ _ _) (zf_ _)
   generalize (w.drewN nq).setCell ⟨b,1,none⟩ (.int .i64 ((i:Int)+2))=W at *
   have c0:=hR2.c0
   have c1:W.cell? ⟨b,1,none⟩=some (.int .i64 ((i:Int)+2)):=hR2.c1
   have hm1:IntKind.i64.wrap ((i:Int)+2 - 1)=(i:Int)+1:=by rw[show (i:Int)+2 - 1=(i:Int)+1 by omega];exact IntWalk.i64_in _ (by omega)
   have HR2:=hiD hR2
   clear h0 h1 hf1 hR2
   go_quiet (fail)
   clear hm1
   go_wp2_with fail
   go_ret
   rw[Hes.out]
   refine⟨gT hg2 (z3_ _ _ _),?_,i+2,by omega,HD2.out,HR2.out⟩
   show Ending.returned (.int .u8 s[i+1].toNat)=_
   rw[HSC.out]
  ·have hes:zg7_ (c::t)=zjj_ c t:=by rw[HE.out,if_neg (by rw[← HSC.out];exact hix)]
   have Hes:=hiD hes
   clear hes
   have hix':Lib.indexByte ze9_ s[i+1]<0:=by omega
   have hq3:((i:Int)+2).toNat=i+2:=by omega
   have hq4:(0:Int)≤(i:Int)+2:=by omega
   clear hix
   cases t with
   |nil=>
    have hl2:s.length≤i+2:=by have:=congrArg List.length HD2.out;simp at this;omega
    have hge:(s.length:Int)≤(i:Int)+2:=by omega
    go_enter Tryz.func304,Tryz.ntmps304
    go_wp2_with fail
    go_quiet ((go_at_call 175;exact x1_ (HIB.out _)))
    have hw2:IntKind.i64.wrap ((i:Int)+2)=(i:Int)+2:=IntWalk.i64_in _ (by omega)
    clear hk5
    go_wp2_with fail
    go_quiet (fail)
    clear hw2
    go_wp2_with fail
    refine⟨rfl,?_⟩
    rw[Hes.out]
    exact⟨z3_ _ _ _,rfl⟩
   |cons d t=>
    have hl2:i+2<s.length:=by have:=congrArg List.length HD2.out;simp at this;omega
    have hlt2:(i:Int)+2<(s.length:Int):=by omega
    have hsd:s[i+2]=d:=by have:=HD2.out;rw[List.drop_eq_getElem_cons hl2] at this;exact(List.cons.inj this).1
    have hdt3:s.drop (i+3)=t:=by have:=HD2.out;rw[List.drop_eq_getElem_cons hl2] at this;exact(List.cons.inj this).2
    have HSD:=hiD hsd
    have HD3:=hiD hdt3
    have HDD:=hiD (fun (c:Int) (w:World) (h0:0≤c) (h1:c<256)=>z47_ c w h0 h1)
    have ha8:(s[i+1].toNat:Int)<256:=by have:=UInt8.toNat_lt s[i+1];omega
    have hb8:(s[i+2].toNat:Int)<256:=by have:=UInt8.toNat_lt s[i+2];omega
    clear hsd hdt3
    go_enter Tryz.func304,Tryz.ntmps304
    go_wp2_with fail
    go_quiet ((go_at_call 175;exact x1_ (HIB.out _)))
    have hw2:IntKind.i64.wrap ((i:Int)+2)=(i:Int)+2:=IntWalk.i64_in _ (by omega)
    go_wp2_with fail
    go_quiet (fail)
    go_wp2_with fail
    go_quiet ((go_at_call 309;exact z4x_ (HDD.out _ _ (by omega) (by omega))))
    have hra:=k5_ s[i+1].toNat
    have hrb:=k5_ s[i+2].toNat
    have h2:zjj_ c (d::t)=if q1_ s[i+1].toNat<0∨q1_ s[i+2].toNat<0 then none else some (k2_ (q1_ s[i+1].toNat) (q1_ s[i+2].toNat),t):=by rw[HSC.out,HSD.out];rfl
    have H2:=hiD h2
    clear h2 hw2 hk5
    generalize q1_ s[i+1].toNat=p at hra H2 ⊢
    generalize q1_ s[i+2].toNat=q at hrb H2 ⊢
    by_cases hneg:p<0∨q<0
    ·have hno:zjj_ c (d::t)=none:=by rw[H2.out,if_pos hneg]
     have Hno:=hiD hno
     clear hno
     rcases hneg with h|h
     ·go_wp2_with fail
      refine⟨rfl,?_⟩
      rw[Hes.out,Hno.out]
      exact⟨z3_ _ _ _,rfl⟩
     ·go_wp2_with fail
      all_goals
       refine⟨rfl,?_⟩
       rw[Hes.out,Hno.out]
       exact⟨z3_ _ _ _,rfl⟩
    ·have hyes:zjj_ c (d::t)=some (k2_ p q,t):=by rw[H2.out,if_neg hneg]
     have Hyes:=hiD hyes
     have hx0:0≤p:=by omega
     have hy0:0≤q:=by omega
     have hx15:p≤15:=hra.2
     have hy15:q≤15:=hrb.2
     have hbits:=z0p_ p q hx0 hx15 hy0 hy15
     clear hneg hyes hra hrb
     go_wp2_with fail
     go_ret
     rw[Hes.out,Hyes.out]
     exact⟨gT (z3_ _ _ _) (zf_ _),zjx_ hbits,i+3,by omega,HD3.out,(HR.out.drewN _).set (i+3)⟩
open Go.RowKit
def BufO (B:Nat) (w:World) (v:Value) (l:LU):Prop:=w.ownsRowF B 5 1 v l.length (Lib.byteCells l)∧B≤w.heap.size
theorem BufO.nil (w:World):BufO w.heap.size w (.slice none 0 0) []:=⟨World.ownsRowF_nil _ _ _ _,nR _⟩
theorem BufO.lt {B:Nat} {w:World} {v:Value} {l:LU} (h:BufO B w v l):∀ k,v.ownBlock=some k→B≤k∧k<w.heap.size:=fun k hk=>h.1.lt k hk
theorem BufO.keep {B:Nat} {w w':World} {v:Value} {l:LU} (h:BufO B w v l) {r:Option Nat} (hg:w.grownBy w' r) (hr:∀ k,r=some k→k<B):BufO B w' v l:=by
 refine⟨h.1.kept hg ?_,nT h.2 hg.size⟩
 rcases hv:v.ownBlock with _|g
 ·exact .inl rfl
 ·refine .inr ?_
  intro he
  have h1:=hr g he.symm
  have h2:=(h.lt g hv).1
  omega
theorem BufO.string {B:Nat} {w:World} {v:Value} {l:LU} (h:BufO B w v l):(convert 103 9 v).run Tryz.prog w= .ok (.string ⟨l.toArray⟩) w:=z0g_ h.1
theorem BufO.alloc {B:Nat} {w:World} {v:Value} {l:LU} (h:BufO B w v l) (o:Obj):BufO B (w.alloc o) v l:=h.keep (World.grownBy_alloc w o none) (fun k hk=>by cases hk)
theorem BufO.drewN {B:Nat} {w:World} {v:Value} {l:LU} (h:BufO B w v l) (n:Nat):BufO B (w.drewN n) v l:=h
theorem BufO.stringTake {B:Nat} {w:World} {v:Value} {l:LU} (h:BufO B w v l) {k:Nat} (hk:k≤l.length):∃ A c,v= .slice A l.length c∧l.length≤c∧(convert 103 9 (.slice A k c)).run Tryz.prog w= .ok (.string ⟨(l.take k).toArray⟩) w:=by
 by_cases hl:l=[]
 ·subst hl
  obtain⟨⟨h1,h2⟩,h3⟩:=h
  obtain rfl:k=0:=by simpa using hk
  rcases h2 with ⟨rfl,hn⟩|⟨g,cap,cur,fz,rfl,r2,r3,r4,r5,r6,r7,r8⟩
  ·refine⟨none,0,rfl,by simp,?_⟩
   rw[run_convert_bytes_nil (w:=w) (P:=Tryz.prog) 103 5 Tryz.underlying103 Tryz.underlying5 0 0 9 Tryz.underlying9]
   rfl
  ·exact⟨some ⟨g,0,none⟩,cap,rfl,r5,run_convert_bytes_back w 103 9 5 ⟨g,0,none⟩ cap [] Tryz.underlying103 Tryz.underlying5 Tryz.underlying9 (fun j hj=>absurd hj (by simp))⟩
 ·obtain⟨g,cap,rfl,hc,_,_,hcell⟩:=z96_ h.1 hl
  refine⟨some ⟨g,0,none⟩,cap,rfl,hc,?_⟩
  have hkl:(l.take k).length=k:=by simp;omega
  have:=run_convert_bytes_back (P:=Tryz.prog) w 103 9 5 ⟨g,0,none⟩ cap (l.take k) Tryz.underlying103 Tryz.underlying5 Tryz.underlying9 (fun j hj=>by
   rw[hkl] at hj
   rw[kp_,hcell j (by omega)]
   simp)
  rwa [hkl] at this
section
variable {ops:Array Oper} {rest:List Oper} {o:Oper} {a:Act} {Q:Exit→Act→World→Prop}
theorem z6j_ (hgd:o.guard=none) (s x:Operand) (ho:o.op= .call {callee:= .builtin .append,args:=#[s,x],argTypes:=#[103,103]})
  {v:Value} {l:LU} {B:Nat} {w0:World} {c:UInt8} (hs:a.eval s=v) (hb:BufO B w0 v l)
  (hx:a.eval x= .slice (some ⟨w0.heap.size,0,none⟩) 1 1) (hlen:l.length<140737488355328)
  (h:∀ v' w',BufO B w' v' (l++[c])→w0.grownBy w' v.ownBlock→wpList Tryz.prog ops Q rest (a.put o.dst v') w'):wpList Tryz.prog ops Q (o::rest) a (w0.alloc (.cells #[.int .u8 c.toNat] 5)):=by
 obtain⟨i,h1,h2,h3,h4⟩:=infoByte
 have hb':=hb.alloc (.cells #[.int .u8 c.toNat] 5)
 refine wpList_append_ownF _ hgd s x 103 ho B 5 i (.int .u8 0) 1 1 Tryz.underlying103 h1 h2 h3 h4 rfl (by decide) v _ _ hs hb'.1 ⟨w0.heap.size,0,none⟩ 1 1 [.int .u8 c.toNat] hx rfl ?_ ?_ (by unfold maxLen;omega) (by omega) hb'.2 ?_
 ·intro j u hj
  match j,hj with
  |0,hj=>simp at hj;subst hj;simp [Addr.add]
  |(j+1),hj=>simp at hj
 ·intro u hu;simp at hu;subst hu;rfl
 ·intro v' w' ho' hg _
  refine h v' w' ⟨?_,nT hb'.2 hg.size⟩ (gT (World.grownBy_alloc _ _ _) hg)
  simpa [Lib.byteCells] using ho'
end
theorem BufO.rd {w0 w w':World} {v:Value} {l s:LU} {b i:Nat} (h:BufO w0.heap.size w v l) (hg:w.grownBy w' v.ownBlock) (hb:b<w0.heap.size) (hR:Rd w b s i):Rd w' b s i:=by
 unfold Rd at hR ⊢
 rw[hg.block b (Array.getElem?_eq_some_iff.1 hR).1]
 ·exact hR
 ·intro e
  have:=(h.lt b e.symm).1
  omega
theorem BufO.grown {w0 w w':World} {v:Value} {l:LU} {r:Option Nat} (h:BufO w0.heap.size w v l) (hg0:w0.grownBy w r) (hg:w.grownBy w' v.ownBlock):w0.grownBy w' r:=
 ⟨hg.os.trans hg0.os,hg.tape.trans hg0.tape,hg.output.trans hg0.output,nT hg0.size hg.size,fun k hk hne=>by
  rw[hg.block k (Nat.lt_of_lt_of_le hk hg0.size)]
  ·exact hg0.block k hk hne
  ·intro e
   have:=(h.lt k e.symm).1
   omega⟩
end Go.Proofs.YtakfpngfpknedaaGreatDoor
