import Derived.Test.YtakfpngfpknedaaGreatDoorE13
set_option linter.all false
set_option maxHeartbeats 8000000
set_option maxRecDepth 100000
namespace Go.Proofs.YtakfpngfpknedaaGreatDoor
open Go.RowKit
theorem z97_ (c:Int) (w:World):
  Calls Tryz.prog 158 #[.int .u8 c] w fun e w'=>e= .returned (.bool (z6o_ c))∧w=w':=by
 go_enter Tryz.func158,Tryz.ntmps158
 go_wp2
 all_goals (go_ret;refine⟨xd_ ?_,rfl⟩;unfold z6o_;rw[Bool.eq_iff_iff];simp;omega)
theorem z7i_ (c:Int) (w:World):
  Calls Tryz.prog 159 #[.int .u8 c] w fun e w'=>e= .returned (.bool (digB c))∧w=w':=by
 go_enter Tryz.func159,Tryz.ntmps159
 go_wp2
 all_goals (go_ret;refine⟨xd_ ?_,rfl⟩;unfold digB;rw[Bool.eq_iff_iff];simp;omega)
theorem z35_ (c:UInt8):digB c.toNat=je_ c:=by unfold digB je_;rw[Bool.eq_iff_iff];simp;omega
theorem ky_ {x:UInt8} (h:x≠46) (t:LU):∃ y r,spl 46 t=y::r∧spl 46 (x::t)=(x::y)::r:=by
 have hne:=zig_ 46 t
 cases hs:spl 46 t with
 |nil=>exact absurd hs hne
 |cons y r=>exact⟨y,r,rfl,by rw[spl,if_neg h,hs]⟩
theorem z13_ {c:UInt8} (h:je_ c=true):c≠46:=by rintro rfl;exact absurd h (by decide)
theorem zdm_:∀ (cur t:LU),(∀ c∈cur,je_ c=true)→spl 46 (cur++46::t)=cur::spl 46 t
 |[],t,_=>by rw[List.nil_append,spl,if_pos rfl]
 |x::cur,t,h=>by
  have ih:=zdm_ cur t (fun c hc=>h c (by simp [hc]))
  obtain⟨y,r,e1,e2⟩:=ky_ (z13_ (h x (by simp))) (cur++46::t)
  rw[List.cons_append,e2]
  rw[ih] at e1
  cases e1;rfl
theorem zfa_:∀ (cur:LU),(∀ c∈cur,je_ c=true)→spl 46 cur=[cur]
 |[],_=>rfl
 |x::cur,h=>by
  have ih:=zfa_ cur (fun c hc=>h c (by simp [hc]))
  obtain⟨y,r,e1,e2⟩:=ky_ (z13_ (h x (by simp))) cur
  rw[e2]
  rw[ih] at e1
  cases e1;rfl
theorem z4p_:∀ (cur t:LU),(∀ c∈cur,c≠46)→∃ y r,spl 46 (cur++t)=(cur++y)::r
 |[],t,_=>by
  have hne:=zig_ 46 t
  cases hs:spl 46 t with
  |nil=>exact absurd hs hne
  |cons y r=>exact⟨y,r,by rw[List.nil_append,hs];rfl⟩
 |x::cur,t,h=>by
  obtain⟨y,r,e⟩:=z4p_ cur t (fun c hc=>h c (by simp [hc]))
  obtain⟨y',r',e1,e2⟩:=ky_ (h x (by simp)) (cur++t)
  rw[e] at e1
  cases e1
  exact⟨y,r,by rw[List.cons_append,e2];rfl⟩
theorem va_ {cur y:LU} {c:UInt8} (hc:je_ c=false):xx_ (cur++c::y)=false:=by
 unfold xx_
 rw[Bool.and_eq_false_iff]
 right
 rw[List.all_append,List.all_cons,hc];simp
def NSt (l:LU) (p f i:Nat):Prop:=
 jm_ l=((spl 46 (l.drop f)).all xx_ && decide (1<p+(spl 46 (l.drop f)).length))∧f≤i∧i≤l.length∧∃ cur,l.drop f=cur++l.drop i∧cur.length=i - f∧∀ c∈cur,je_ c=true
theorem NSt.start (l:LU):NSt l 0 0 0:=by
 refine⟨?_,nR _,Nat.zero_le _,[],by simp,rfl,by simp⟩
 unfold jm_
 rw[zh9_]
 simp
theorem NSt.dig {l:LU} {p f i:Nat} (h:NSt l p f i) (hi:i<l.length) (hd:je_ l[i]=true):NSt l p f (i+1):=by
 obtain⟨h1,h2,h3,cur,h4,h5,h6⟩:=h
 refine⟨h1,by omega,by omega,cur++[l[i]],?_,by simp;omega,?_⟩
 ·rw[h4,List.drop_eq_getElem_cons hi];simp
 ·intro c hc
  rw[List.mem_append,List.mem_singleton] at hc
  rcases hc with hc|rfl
  ·exact h6 c hc
  ·exact hd
theorem NSt.empty {l:LU} {p f i:Nat} (h:NSt l p f i) (he:i=f) (hd:∀ hi:i<l.length,je_ l[i]=false):jm_ l=false:=by
 obtain⟨h1,h2,h3,cur,h4,h5,h6⟩:=h
 subst he
 rw[h1,Bool.and_eq_false_iff]
 left
 by_cases hi:i<l.length
 ·rw[List.drop_eq_getElem_cons hi]
  have hdd:=hd hi
  by_cases h46:l[i]=46
  ·rw[h46,spl,if_pos rfl];simp [xx_]
  ·obtain⟨y,r,e⟩:=z4p_ [l[i]] (l.drop (i+1)) (by simpa using h46)
   rw[List.singleton_append] at e
   rw[e,List.all_cons]
   have:=va_ (cur:=[]) (y:=y) hdd
   rw[List.nil_append] at this
   simp only[List.singleton_append]
   rw[this];rfl
 ·rw[List.drop_eq_nil_of_le (by omega)];simp [spl,xx_]
theorem z8u_ {l cur:LU} {f i:Nat} (h4:l.drop f=cur++l.drop i) (h5:cur.length=i - f) (hlt:f<i) (hf:f<l.length):∃ t,cur=l[f]::t:=by
 cases cur with
 |nil=>simp at h5;omega
 |cons x t=>
  rw[List.drop_eq_getElem_cons hf,List.cons_append] at h4
  exact⟨t,by rw[(List.cons.inj h4).1]⟩
theorem NSt.zero {l:LU} {p f i:Nat} (h:NSt l p f i) (hlt:f+1<i) (hf:f<l.length) (h48:l[f]=48):jm_ l=false:=by
 obtain⟨h1,h2,h3,cur,h4,h5,h6⟩:=h
 obtain⟨t,rfl⟩:=z8u_ h4 h5 (by omega) hf
 rw[h1,Bool.and_eq_false_iff]
 left
 obtain⟨y,r,e⟩:=z4p_ (l[f]::t) (l.drop i) (fun c hc=>z13_ (h6 c hc))
 rw[h4,e,List.all_cons,h48]
 have:xx_ ((48::t)++y)=false:=by
  unfold xx_
  have hl:1<((48::t)++y).length:=by simp at h5 ⊢;omega
  rw[decide_eq_true hl]
  simp
 rw[this];rfl
theorem NSt.bad {l:LU} {p f i:Nat} (h:NSt l p f i) (hi:i<l.length) (hd:je_ l[i]=false) (h46:l[i]≠46):jm_ l=false:=by
 obtain⟨h1,h2,h3,cur,h4,h5,h6⟩:=h
 rw[h1,Bool.and_eq_false_iff]
 left
 rw[List.drop_eq_getElem_cons hi] at h4
 obtain⟨y,r,e⟩:=z4p_ (cur++[l[i]]) (l.drop (i+1)) (fun c hc=>by
  rw[List.mem_append,List.mem_singleton] at hc
  rcases hc with hc|rfl
  ·exact z13_ (h6 c hc)
  ·exact h46)
 rw[show cur++[l[i]]++l.drop (i+1)=l.drop f by rw[h4];simp] at e
 rw[e,List.all_cons]
 have:=va_ (cur:=cur) (y:=y) hd
 rw[show cur++[l[i]]++y=cur++l[i]::y by simp,this];rfl
theorem z9t_ {l cur:LU} {f i:Nat} (h4:l.drop f=cur++l.drop i) (h5:cur.length=i - f) (hlt:f<i) (hf:f<l.length) (h6:∀ c∈cur,je_ c=true) (hz:¬ (l[f]=48∧f+1<i)):xx_ cur=true:=by
 obtain⟨t,rfl⟩:=z8u_ h4 h5 hlt hf
 unfold xx_
 simp only[List.isEmpty_cons,Bool.not_false,Bool.true_and,Bool.and_eq_true]
 refine⟨?_,List.all_eq_true.2 h6⟩
 simp only[List.head?_cons]
 rw[Bool.not_eq_true',Bool.and_eq_false_iff]
 by_cases h:l[f]=48
 ·left;apply decide_eq_false;intro h1;apply hz;exact⟨h,by rw[h5] at h1;omega⟩
 ·right;rw[beq_eq_false_iff_ne];simpa using h
theorem NSt.dot {l:LU} {p f i:Nat} (h:NSt l p f i) (hi:i<l.length) (h46:l[i]=46) (hlt:f≠i) (hz:∀ hf:f<l.length,¬ (l[f]=48∧f+1<i)):NSt l (p+1) (i+1) (i+1):=by
 obtain⟨h1,h2,h3,cur,h4,h5,h6⟩:=h
 have hf:f<l.length:=by omega
 have hg:=z9t_ h4 h5 (by omega) hf h6 (hz hf)
 refine⟨?_,nR _,by omega,[],by simp,by simp,by simp⟩
 rw[List.drop_eq_getElem_cons hi,h46] at h4
 rw[h1,h4,zdm_ cur _ h6,List.all_cons,hg,Bool.true_and,List.length_cons]
 congr 1
 exact decide_eq_decide.2 (by omega)
theorem NSt.fin {l:LU} {p f i:Nat} (h:NSt l p f i) (hi:i=l.length) (hlt:f≠i) (hz:∀ hf:f<l.length,¬ (l[f]=48∧f+1<i)):jm_ l=decide (0<p):=by
 obtain⟨h1,h2,h3,cur,h4,h5,h6⟩:=h
 have hf:f<l.length:=by omega
 have hg:=z9t_ h4 h5 (by omega) hf h6 (hz hf)
 subst hi
 rw[List.drop_length,List.append_nil] at h4
 rw[h1,h4,zfa_ cur h6]
 simp [hg]
theorem zbz_ (l:LU) (w:World) (hl:l.length≤4000000):
  Calls Tryz.prog 160 #[.string ⟨l.toArray⟩] w fun e w'=>e= .returned (.bool (jm_ l))∧w=w':=by
 have hget:=qb_
 obtain⟨O,hO⟩:∃ O,jm_ l=O:=⟨_,rfl⟩
 rw[hO]
 have HO:=hiD hO
 clear hO
 go_enter Tryz.func160,Tryz.ntmps160
 go_wp2
 go_loop [3,4,5] (fun p f i=>∃ P F I:Nat,p= .int .i64 P∧f= .int .i64 F∧i= .int .i64 I∧P≤I∧I≤l.length+1∧F≤I∧(I≤l.length→NSt l P F I)∧(I=l.length+1→O=decide (0<P))) (fun _ _ i=>l.length+2 - (intOf i).toNat)
 case atStart=>exact⟨0,0,0,rfl,rfl,rfl,by omega,by omega,by omega,fun _=>NSt.start l,fun h=>by omega⟩
 case round=>
  obtain⟨P,F,I,rfl,rfl,rfl,hP,hI,hF,hN,hE⟩:=hrel
  have HE:=hiD hE
  have HN:=hiD hN
  clear hE hN
  by_cases hle:I≤l.length
  ·have hn:=HN.out hle
   have Hn:=hiD hn
   clear hn
   by_cases hlt:I<l.length
   ·by_cases hd:je_ l[I]=true
    ·have hD:=z7i_ (l[I].toNat) w
     rw[z35_,hd] at hD
     have hnx:=hiD (Hn.out.dig hlt hd)
     clear hd
     go_wp2_with (go_at_call 159;refine hD.mono ?_;rintro e w' ⟨rfl,rfl⟩)
     go_round
     case rel=>exact⟨P,F,I+1,rfl,rfl,by go_num,by omega,by omega,by omega,fun _=>hnx.out,fun h=>by omega⟩
     case measure=>simp [intOf];omega
    ·have hd':je_ l[I]=false:=by simpa using hd
     have hD:=z7i_ (l[I].toNat) w
     rw[z35_,hd'] at hD
     clear hd
     by_cases hef:I=F
     ·subst hef
      have hfin:O=false:=by rw[← HO.out];exact Hn.out.empty rfl (fun _=>hd')
      subst hfin
      clear hd'
      go_wp2_with (go_at_call 159;refine hD.mono ?_;rintro e w' ⟨rfl,rfl⟩)
      go_ret
      exact⟨rfl,rfl⟩
     ·have hef':((I:Int)==(F:Int))=false:=beq_eq_false_iff_ne.2 (by omega)
      have hfl:F<l.length:=by omega
      by_cases h48:l[F]=48
      ·have q48:((l[F].toNat:Int)==48)=true:=by rw[h48];rfl
       by_cases hg:F+1<I
       ·have hfin:O=false:=by rw[← HO.out];exact Hn.out.zero hg hfl h48
        subst hfin
        have hg':(F:Int)+1<(I:Int):=by omega
        clear hd' h48 hg
        go_wp2_with (go_at_call 159;refine hD.mono ?_;rintro e w' ⟨rfl,rfl⟩)
        go_ret
        exact⟨rfl,rfl⟩
       ·have hg':¬ (F:Int)+1<(I:Int):=by omega
        by_cases h46:l[I]=46
        ·have q46:((l[I].toNat:Int) !=46)=false:=by rw[h46];rfl
         have hnx:=hiD (Hn.out.dot hlt h46 (by omega) (fun _ h=>hg h.2))
         clear hd' h48 hg h46
         go_wp2_with (go_at_call 159;refine hD.mono ?_;rintro e w' ⟨rfl,rfl⟩)
         go_round
         case rel=>exact⟨P+1,I+1,I+1,by go_num,by go_num,by go_num,by omega,by omega,by omega,fun _=>hnx.out,fun h=>by omega⟩
         case measure=>simp [intOf];omega
        ·have q46:((l[I].toNat:Int) !=46)=true:=by rw[bne_iff_ne];intro e;exact h46 (UInt8.toNat_inj.1 (by have:(46:UInt8).toNat=46:=rfl;omega))
         have hfin:O=false:=by rw[← HO.out];exact Hn.out.bad hlt hd' h46
         subst hfin
         clear hd' h48 hg h46
         go_wp2_with (go_at_call 159;refine hD.mono ?_;rintro e w' ⟨rfl,rfl⟩)
         go_ret
         exact⟨rfl,rfl⟩
      ·have q48:((l[F].toNat:Int)==48)=false:=by rw[beq_eq_false_iff_ne];intro e;exact h48 (UInt8.toNat_inj.1 (by have:(48:UInt8).toNat=48:=rfl;omega))
       by_cases h46:l[I]=46
       ·have q46:((l[I].toNat:Int) !=46)=false:=by rw[h46];rfl
        have hnx:=hiD (Hn.out.dot hlt h46 (by omega) (fun _ h=>h48 h.1))
        clear hd' h48 h46
        go_wp2_with (go_at_call 159;refine hD.mono ?_;rintro e w' ⟨rfl,rfl⟩)
        go_round
        case rel=>exact⟨P+1,I+1,I+1,by go_num,by go_num,by go_num,by omega,by omega,by omega,fun _=>hnx.out,fun h=>by omega⟩
        case measure=>simp [intOf];omega
       ·have q46:((l[I].toNat:Int) !=46)=true:=by rw[bne_iff_ne];intro e;exact h46 (UInt8.toNat_inj.1 (by have:(46:UInt8).toNat=46:=rfl;omega))
        have hfin:O=false:=by rw[← HO.out];exact Hn.out.bad hlt hd' h46
        subst hfin
        clear hd' h48 h46
        go_wp2_with (go_at_call 159;refine hD.mono ?_;rintro e w' ⟨rfl,rfl⟩)
        go_ret
        exact⟨rfl,rfl⟩
   ·obtain rfl:I=l.length:=by omega
    by_cases hef:l.length=F
    ·subst hef
     have hfin:O=false:=by rw[← HO.out];exact Hn.out.empty rfl (fun h=>by omega)
     subst hfin
     go_wp2_with fail
     go_ret
     exact⟨rfl,rfl⟩
    ·have hef':((l.length:Int)==(F:Int))=false:=beq_eq_false_iff_ne.2 (by omega)
     have hfl:F<l.length:=by omega
     by_cases h48:l[F]=48
     ·have q48:((l[F].toNat:Int)==48)=true:=by rw[h48];rfl
      by_cases hg:F+1<l.length
      ·have hfin:O=false:=by rw[← HO.out];exact Hn.out.zero hg hfl h48
       subst hfin
       have hg':(F:Int)+1<(l.length:Int):=by omega
       clear h48 hg
       go_wp2_with fail
       go_ret
       exact⟨rfl,rfl⟩
      ·have hg':¬ (F:Int)+1<(l.length:Int):=by omega
       have hfin:=hiD (Hn.out.fin rfl (by omega) (fun _ h=>hg h.2))
       clear h48 hg
       go_wp2_with fail
       go_round
       case rel=>exact⟨P,l.length+1,l.length+1,rfl,by go_num,by go_num,by omega,by omega,by omega,fun h=>by omega,fun _=>by rw[← HO.out];exact hfin.out⟩
       case measure=>simp [intOf]
     ·have q48:((l[F].toNat:Int)==48)=false:=by rw[beq_eq_false_iff_ne];intro e;exact h48 (UInt8.toNat_inj.1 (by have:(48:UInt8).toNat=48:=rfl;omega))
      have hfin:=hiD (Hn.out.fin rfl (by omega) (fun _ h=>h48 h.1))
      clear h48
      go_wp2_with fail
      go_round
      case rel=>exact⟨P,l.length+1,l.length+1,rfl,by go_num,by go_num,by omega,by omega,by omega,fun h=>by omega,fun _=>by rw[← HO.out];exact hfin.out⟩
      case measure=>simp [intOf]
  ·obtain rfl:I=l.length+1:=by omega
   have hfin:=HE.out rfl
   have Hf:=hiD hfin
   have hle':¬ ((l.length:Int)+1≤(l.length:Int)):=by omega
   clear hfin
   by_cases hp:0<P
   ·have hp':(0:Int)<(P:Int):=by omega
    go_wp2_with fail
    go_ret
    exact⟨xd_ (by rw[Hf.out,decide_eq_true hp]),rfl⟩
   ·have hp':¬ (0:Int)<(P:Int):=by omega
    go_wp2_with fail
    go_ret
    exact⟨xd_ (by rw[Hf.out,decide_eq_false hp]),rfl⟩
theorem zdj_ (c:UInt8):qk_ c=(z6o_ c.toNat||digB c.toNat||((c.toNat:Int)==45)):=by
 unfold qk_ xo_
 rw[Bool.eq_iff_iff]
 simp only[Bool.and_eq_true,Bool.or_eq_true,beq_iff_eq,Bool.not_eq_true',beq_eq_false_iff_ne]
 unfold z6o_ digB
 simp only[Bool.and_eq_true,Bool.or_eq_true,decide_eq_true_eq]
 have h46:c=46↔c.toNat=46:=by rw[← UInt8.toNat_inj];rfl
 rw[ne_eq,h46]
 omega
theorem z4w_ (l:LU) (w:World) (hl:l.length≤4000000):
  Calls Tryz.prog 95 #[.string ⟨l.toArray⟩] w fun e w'=>e= .returned (.bool (zc_ l))∧w=w':=by
 have hget:=qb_
 by_cases h0:l=[]
 ·subst h0
  go_enter Tryz.func95,Tryz.ntmps95
  go_wp2_with fail
  go_ret
  exact⟨rfl,rfl⟩
 ·have hp:0<l.length:=List.length_pos_iff.2 h0
  have hp':¬ ((l.length:Int)<1):=by omega
  have hi0:(0:Int)<(l.length:Int):=by omega
  by_cases h64:l.length≤64
  ·have h64':¬ ((64:Int)<(l.length:Int)):=by omega
   have hL:=z97_ (l[0].toNat) w
   have hty:zc_ l=if z6o_ l[0].toNat then l.all qk_ else jm_ l:=by
    cases l with
    |nil=>exact absurd rfl h0
    |cons c m=>
     show (decide ((c::m).length≤64) && (if z6o_ c.toNat then (c::m).all qk_ else jm_ (c::m)))=_
     rw[decide_eq_true h64,Bool.true_and];rfl
   cases hlet:z6o_ l[0].toNat
   ·rw[hlet] at hL hty
    have hty':zc_ l=jm_ l:=by simpa using hty
    rw[hty']
    have hNm:=zbz_ l w hl
    generalize jm_ l=O at *
    clear hty hty' hlet
    go_enter Tryz.func95,Tryz.ntmps95
    go_wp2_with (first|(go_at_call 158;refine hL.mono ?_;rintro e w' ⟨rfl,rfl⟩)|(go_at_call 160;refine hNm.mono ?_;rintro e w' ⟨rfl,rfl⟩))
    go_ret
    exact⟨rfl,rfl⟩
   ·rw[hlet] at hL hty
    have hty':zc_ l=l.all qk_:=by simpa using hty
    rw[hty']
    clear hty hty' hlet
    obtain⟨O,hO⟩:∃ O,l.all qk_=O:=⟨_,rfl⟩
    rw[hO]
    have HO:=hiD hO
    clear hO
    go_enter Tryz.func95,Tryz.ntmps95
    go_wp2_with (go_at_call 158;refine hL.mono ?_;rintro e w' ⟨rfl,rfl⟩)
    go_loop [3] (fun i=>∃ k:Nat,k≤l.length∧i= .int .i64 k∧Aside (O=(l.drop k).all qk_)) (fun i=>l.length - (intOf i).toNat)
    case atStart=>exact⟨0,Nat.zero_le _,rfl,by show _=_;rw[← HO.out];rfl⟩
    case round=>
     clear hL
     obtain⟨k,hk,rfl,AS⟩:=hrel
     by_cases hlt:k<l.length
     ·have AS':Aside (O=(qk_ l[k] && (l.drop (k+1)).all qk_)):=by show _=_;rw[AS.out,List.drop_eq_getElem_cons hlt,List.all_cons]
      have hLk:=z97_ (l[k].toNat) w
      have hDk:=z7i_ (l[k].toNat) w
      rw[zdj_] at AS'
      clear AS
      cases c1:z6o_ l[k].toNat
      ·cases c2:digB l[k].toNat
       ·cases c3:((l[k].toNat:Int)==45)
        ·rw[c1] at hLk
         rw[c2] at hDk
         have hfin:O=false:=by rw[AS'.out,c1,c2,c3];rfl
         subst hfin
         have c3':((l[k].toNat:Int) !=45)=true:=by rw[bne,c3];rfl
         clear c1 c2 c3 AS'
         go_wp2_with (first|(go_at_call 158;refine hLk.mono ?_;rintro e w' ⟨rfl,rfl⟩)|(go_at_call 159;refine hDk.mono ?_;rintro e w' ⟨rfl,rfl⟩))
         go_ret
         exact⟨rfl,rfl⟩
        ·rw[c1] at hLk
         rw[c2] at hDk
         have hfin:=hiD (show O=(l.drop (k+1)).all qk_ by rw[AS'.out,c1,c2,c3];rfl)
         have c3':((l[k].toNat:Int) !=45)=false:=by rw[bne,c3];rfl
         clear c1 c2 c3 AS'
         go_wp2_with (first|(go_at_call 158;refine hLk.mono ?_;rintro e w' ⟨rfl,rfl⟩)|(go_at_call 159;refine hDk.mono ?_;rintro e w' ⟨rfl,rfl⟩))
         go_round
         case rel=>exact⟨k+1,by omega,by go_num,hfin.out⟩
         case measure=>simp [intOf];omega
       ·rw[c1] at hLk
        rw[c2] at hDk
        have hfin:=hiD (show O=(l.drop (k+1)).all qk_ by rw[AS'.out,c1,c2];rfl)
        clear c1 c2 AS'
        go_wp2_with (first|(go_at_call 158;refine hLk.mono ?_;rintro e w' ⟨rfl,rfl⟩)|(go_at_call 159;refine hDk.mono ?_;rintro e w' ⟨rfl,rfl⟩))
        go_round
        case rel=>exact⟨k+1,by omega,by go_num,hfin.out⟩
        case measure=>simp [intOf];omega
      ·rw[c1] at hLk
       have hfin:=hiD (show O=(l.drop (k+1)).all qk_ by rw[AS'.out,c1];rfl)
       clear c1 AS' hDk
       go_wp2_with (go_at_call 158;refine hLk.mono ?_;rintro e w' ⟨rfl,rfl⟩)
       go_round
       case rel=>exact⟨k+1,by omega,by go_num,hfin.out⟩
       case measure=>simp [intOf];omega
     ·obtain rfl:k=l.length:=by omega
      have hfin:O=true:=by rw[AS.out,List.drop_length];rfl
      subst hfin
      clear AS
      go_wp2_with fail
      go_ret
      exact⟨rfl,rfl⟩
  ·have h64':(64:Int)<(l.length:Int):=by omega
   have hty:zc_ l=false:=by
    cases l with
    |nil=>exact absurd rfl h0
    |cons c m=>
     show (decide ((c::m).length≤64) && (if z6o_ c.toNat then (c::m).all qk_ else jm_ (c::m)))=_
     rw[decide_eq_false h64,Bool.false_and]
   rw[hty]
   clear hty
   go_enter Tryz.func95,Tryz.ntmps95
   go_wp2_with fail
   go_ret
   exact⟨rfl,rfl⟩
end Go.Proofs.YtakfpngfpknedaaGreatDoor
set_option linter.all false
namespace Go.Proofs.YtakfpngfpknedaaGreatDoor
open Go.RowKit
theorem once_r (n:LU) (w:World):Calls Tryz.prog 66 #[.string ⟨n.toArray⟩] w fun e w'=>e= .returned (.bool (Cfg.onceN n))∧w'=w:=by
 unfold Cfg.onceN Cfg.wSuffix Cfg.wRoot Cfg.wSecret Cfg.wSize Cfg.wMember Cfg.wAudit
 cases h0:n==[115,117,102,102,105,120]
 case true=>
  go_enter Tryz.func66,Tryz.ntmps66
  go_wp2_with fail
  go_ret
  exact⟨rfl,rfl⟩
 case false=>
 cases h1:n==[114,111,111,116]
 case true=>
  go_enter Tryz.func66,Tryz.ntmps66
  go_wp2_with fail
  go_ret
  exact⟨rfl,rfl⟩
 case false=>
 cases h2:n==[115,101,99,114,101,116]
 case true=>
  go_enter Tryz.func66,Tryz.ntmps66
  go_wp2_with fail
  go_ret
  exact⟨rfl,rfl⟩
 case false=>
 cases h3:n==[115,105,122,101]
 case true=>
  go_enter Tryz.func66,Tryz.ntmps66
  go_wp2_with fail
  go_ret
  exact⟨rfl,rfl⟩
 case false=>
 cases h4:n==[109,101,109,98,101,114,111,102]
 case true=>
  go_enter Tryz.func66,Tryz.ntmps66
  go_wp2_with fail
  go_ret
  exact⟨rfl,rfl⟩
 case false=>
 cases h5:n==[97,117,100,105,116]
 all_goals
  go_enter Tryz.func66,Tryz.ntmps66
  go_wp2_with fail
  go_ret
  exact⟨rfl,rfl⟩
def zhb_ (s:LU):Int:=if (Cfg.numS s).2=true then (Cfg.numS s).1 else -1
theorem zkd_ (s:LU) (h:s.all Cfg.digB=true):Cfg.valN s<10 ^ s.length:=by
 have go:∀ (s:LU) (a:Nat),s.all Cfg.digB=true→s.foldl (fun n c=>n * 10+(c.toNat - 48)) a<(a+1) * 10 ^ s.length:=by
  intro s
  induction s with
  |nil=>intro a _;simp
  |cons x l ih=>
   intro a h
   rw[List.all_cons,Bool.and_eq_true] at h
   have hx:=h.1
   unfold Cfg.digB at hx
   rw[decide_eq_true_iff] at hx
   have h1:=ih (a * 10+(x.toNat - 48)) h.2
   rw[List.foldl_cons,List.length_cons,Nat.pow_succ,Nat.mul_comm (10 ^ l.length) 10,← Nat.mul_assoc]
   refine Nat.lt_of_lt_of_le h1 (Nat.mul_le_mul_right _ ?_)
   omega
 have:=go s 0 h
 rw[Nat.zero_add,Nat.one_mul] at this
 exact this
theorem zgs_ (s:LU) (w:World) (hs:s.length≤4000000):Calls Tryz.prog 93 #[.string ⟨s.toArray⟩] w fun e w'=>e= .returned (.int .i64 (zhb_ s))∧w'=w:=by
 have hget:=qb_
 obtain⟨R,hR⟩:∃ R,zhb_ s=R:=⟨_,rfl⟩
 rw[hR]
 by_cases h0:s=[]
 ·subst h0
  obtain rfl:R= -1:=by rw[← hR];rfl
  go_enter Tryz.func93,Tryz.ntmps93
  go_wp2_with fail
  go_ret
  exact⟨rfl,rfl⟩
 have hp:0<s.length:=List.length_pos_iff.2 h0
 have hl0:((s.length:Int)==0)=false:=beq_eq_false_iff_ne.2 (by omega)
 have hi0:(0:Int)<(s.length:Int):=by omega
 by_cases h10:10<s.length
 ·have h10':(10:Int)<(s.length:Int):=by omega
  obtain rfl:R= -1:=by
   have hn:Cfg.numS s=(0,false):=if_pos (.inr (.inl h10))
   rw[← hR];unfold zhb_;rw[hn];rfl
  go_enter Tryz.func93,Tryz.ntmps93
  go_wp2_with fail
  go_ret
  exact⟨rfl,rfl⟩
 have h10':¬ (10:Int)<(s.length:Int):=by omega
 have hd0:s.headD 0=s[0]:=by cases s with
  |nil=>exact absurd rfl h0
  |cons a l=>rfl
 by_cases h48:s[0]=48
 ·have q48:((s[0].toNat:Int)==48)=true:=by rw[h48];rfl
  by_cases h1:1<s.length
  ·have h1':(1:Int)<(s.length:Int):=by omega
   obtain rfl:R= -1:=by
    have hn:Cfg.numS s=(0,false):=if_pos (.inr (.inr (.inl ⟨h1,by rw[hd0,h48]⟩)))
    rw[← hR];unfold zhb_;rw[hn];rfl
   clear hR hd0
   go_enter Tryz.func93,Tryz.ntmps93
   go_wp2_with fail
   go_ret
   exact⟨rfl,rfl⟩
  ·obtain⟨a,rfl⟩:∃ a,s=[a]:=List.length_eq_one_iff.1 (by omega)
   obtain rfl:a=48:=h48
   obtain rfl:R=0:=by rw[← hR];decide
   go_enter Tryz.func93,Tryz.ntmps93
   go_wp2_with fail
   go_loop [3,4] (fun v i=>(v= .int .i64 0∧i= .int .i64 0)∨(v= .int .i64 0∧i= .int .i64 1)) (fun _ i=>1 - (intOf i).toNat)
   case atStart=>exact .inl ⟨rfl,rfl⟩
   case round=>
    rcases hrel with ⟨rfl,rfl⟩|⟨rfl,rfl⟩
    ·go_wp2_with fail
     go_round
     case rel=>exact .inr ⟨rfl,rfl⟩
     case measure=>simp [intOf]
    ·go_wp2_with fail
     go_ret
     exact⟨rfl,rfl⟩
 ·have q48:((s[0].toNat:Int)==48)=false:=by rw[beq_eq_false_iff_ne];intro e;exact h48 (UInt8.toNat_inj.1 (by have:(48:UInt8).toNat=48:=rfl;omega))
  have hnv:zhb_ s=if s.all Cfg.digB=true then (if Cfg.valN s≤2147483647 then (Cfg.valN s:Int) else -1) else -1:=by
   by_cases ha:s.all Cfg.digB=true
   ·have hn:Cfg.numS s=((Cfg.valN s:Int),decide (Cfg.valN s≤2147483647)):=if_neg (by
     rintro(h|h|h|h)
     ·exact h0 h
     ·exact h10 h
     ·exact h48 (hd0 ▸ h.2)
     ·rw[ha] at h;cases h)
    rw[if_pos ha]
    unfold zhb_
    rw[hn]
    simp
   ·have hn:Cfg.numS s=(0,false):=if_pos (.inr (.inr (.inr (by simpa using ha))))
    rw[if_neg ha]
    unfold zhb_
    rw[hn]
    rfl
  rw[hR] at hnv
  have HR:=hiD hnv
  have hs10:s.length≤10:=by omega
  clear hR hnv hd0 h48 h10
  go_enter Tryz.func93,Tryz.ntmps93
  go_wp2_with fail
  go_loop [3,4] (fun v i=>∃ k n:Nat,k≤s.length∧n<10000000000∧v= .int .i64 n∧i= .int .i64 k∧Aside (n=Cfg.valN (s.take k)∧(s.take k).all Cfg.digB=true)) (fun _ i=>s.length - (intOf i).toNat)
  case atStart=>exact⟨0,0,Nat.zero_le _,by omega,rfl,rfl,rfl,rfl⟩
  case round=>
   obtain⟨k,n,hk,hn,rfl,rfl,AV⟩:=hrel
   by_cases hlt:k<s.length
   ·have hki:(k:Int)<(s.length:Int):=by omega
    have ht:s.take (k+1)=s.take k++[s[k]]:=List.take_succ_eq_append_getElem hlt
    by_cases hd:Cfg.digB s[k]=true
    ·have hd2:48≤s[k].toNat∧s[k].toNat≤57:=by unfold Cfg.digB at hd;exact decide_eq_true_iff.1 hd
     have AV2:Aside (n * 10+(s[k].toNat - 48)=Cfg.valN (s.take (k+1))∧(s.take (k+1)).all Cfg.digB=true):=by
      obtain⟨h1,h2⟩:=AV.out
      refine⟨?_,?_⟩
      ·rw[ht,Cfg.valN_snoc,← h1]
      ·rw[ht,List.all_append,h2];simpa using hd
     have hlim:n * 10+(s[k].toNat - 48)<10000000000:=by
      have h1:=zkd_ _ AV2.out.2
      rw[← AV2.out.1,List.length_take,Nat.min_eq_left (by omega)] at h1
      have h2:10 ^ (k+1)≤10 ^ 10:=Nat.pow_le_pow_right (by decide) (by omega)
      have h3:(10:Nat) ^ 10=10000000000:=by decide
      omega
     have c1:¬ (s[k].toNat:Int)<48:=by omega
     have c2:¬ (57:Int)<(s[k].toNat:Int):=by omega
     have hsub:(s[k] - 48).toNat=s[k].toNat - 48:=by rw[UInt8.toNat_sub_of_le _ _ (by rw[UInt8.le_iff_toNat_le];exact hd2.1)];rfl
     clear AV hd ht
     go_wp2_with fail
     go_round
     case rel=>exact⟨k+1,n * 10+(s[k].toNat - 48),by omega,hlim,by go_num,by go_num,AV2.out⟩
     case measure=>simp [intOf];omega
    ·have hd3:¬ (48≤s[k].toNat∧s[k].toNat≤57):=by unfold Cfg.digB at hd;simpa using hd
     obtain rfl:R= -1:=by
      rw[HR.out,if_neg]
      intro h
      rw[List.all_eq_true] at h
      exact hd (h _ (List.getElem_mem hlt))
     clear AV hd ht
     by_cases c1:(s[k].toNat:Int)<48
     ·go_wp2_with fail
      go_ret
      exact⟨rfl,rfl⟩
     ·have c2:(57:Int)<(s[k].toNat:Int):=by omega
      go_wp2_with fail
      go_ret
      exact⟨rfl,rfl⟩
   ·obtain rfl:k=s.length:=by omega
    obtain⟨h1,h2⟩:=AV.out
    rw[List.take_length] at h1 h2
    have hr:=HR.out
    rw[if_pos h2,← h1] at hr
    clear AV h1 h2 HR
    by_cases hb:n≤2147483647
    ·rw[if_pos hb] at hr
     have hb':¬ (2147483647:Int)<(n:Int):=by omega
     subst hr
     go_wp2_with fail
     go_ret
     exact⟨rfl,rfl⟩
    ·rw[if_neg hb] at hr
     have hb':(2147483647:Int)<(n:Int):=by omega
     subst hr
     go_wp2_with fail
     go_ret
     exact⟨rfl,rfl⟩
theorem zkw_ (x:Cfg.IndexE) (w:World):Calls Tryz.prog 38 #[.agg #[.string ⟨x.typ.toArray⟩,.bool x.eq,.bool x.pres,.bool x.sub]] w fun e w'=>e= .returned (.string ⟨(Lib.join (Cfg.kindsI x) [44]).toArray⟩)∧Bel w w':=by
 obtain⟨ty,a,b,c⟩:=x
 have k1:=Bk.new w 63 #[.string ⟨ty.toArray⟩,.bool a,.bool b,.bool c]
 have b1:=(bR w.heap.size w).alloc (nR _) (.cells #[.string ⟨ty.toArray⟩,.bool a,.bool b,.bool c] 63)
 have p1:=k1.cell 1
 have p2:=k1.cell 2
 have p3:=k1.cell 3
 simp only[gs3] at p1 p2 p3
 have ad0:∀ W,(Op.stringOp .add ⟨#[]⟩ ⟨#[44,101,113]⟩).run Tryz.prog W= .ok (.string ⟨#[44,101,113]⟩) W:=fun _=>by kernel_rfl
 have ad1:∀ W,(Op.stringOp .add ⟨#[]⟩ ⟨#[44,112,114,101,115]⟩).run Tryz.prog W= .ok (.string ⟨#[44,112,114,101,115]⟩) W:=fun _=>by kernel_rfl
 have ad2:∀ W,(Op.stringOp .add ⟨#[]⟩ ⟨#[44,115,117,98]⟩).run Tryz.prog W= .ok (.string ⟨#[44,115,117,98]⟩) W:=fun _=>by kernel_rfl
 have ad3:∀ W,(Op.stringOp .add ⟨#[44,101,113]⟩ ⟨#[44,112,114,101,115]⟩).run Tryz.prog W= .ok (.string ⟨#[44,101,113,44,112,114,101,115]⟩) W:=fun _=>by kernel_rfl
 have ad4:∀ W,(Op.stringOp .add ⟨#[44,101,113]⟩ ⟨#[44,115,117,98]⟩).run Tryz.prog W= .ok (.string ⟨#[44,101,113,44,115,117,98]⟩) W:=fun _=>by kernel_rfl
 have ad5:∀ W,(Op.stringOp .add ⟨#[44,112,114,101,115]⟩ ⟨#[44,115,117,98]⟩).run Tryz.prog W= .ok (.string ⟨#[44,112,114,101,115,44,115,117,98]⟩) W:=fun _=>by kernel_rfl
 have ad6:∀ W,(Op.stringOp .add ⟨#[44,101,113,44,112,114,101,115]⟩ ⟨#[44,115,117,98]⟩).run Tryz.prog W= .ok (.string ⟨#[44,101,113,44,112,114,101,115,44,115,117,98]⟩) W:=fun _=>by kernel_rfl
 have ex0:∀ W,(Instr.slice 9 (.string ⟨#[44,101,113]⟩) (some (.int .i64 1)) none none).run Tryz.prog W= .ok (.string ⟨#[101,113]⟩) W:=fun _=>by kernel_rfl
 have ex1:∀ W,(Instr.slice 9 (.string ⟨#[44,112,114,101,115]⟩) (some (.int .i64 1)) none none).run Tryz.prog W= .ok (.string ⟨#[112,114,101,115]⟩) W:=fun _=>by kernel_rfl
 have ex2:∀ W,(Instr.slice 9 (.string ⟨#[44,115,117,98]⟩) (some (.int .i64 1)) none none).run Tryz.prog W= .ok (.string ⟨#[115,117,98]⟩) W:=fun _=>by kernel_rfl
 have ex3:∀ W,(Instr.slice 9 (.string ⟨#[44,101,113,44,112,114,101,115]⟩) (some (.int .i64 1)) none none).run Tryz.prog W= .ok (.string ⟨#[101,113,44,112,114,101,115]⟩) W:=fun _=>by kernel_rfl
 have ex4:∀ W,(Instr.slice 9 (.string ⟨#[44,101,113,44,115,117,98]⟩) (some (.int .i64 1)) none none).run Tryz.prog W= .ok (.string ⟨#[101,113,44,115,117,98]⟩) W:=fun _=>by kernel_rfl
 have ex5:∀ W,(Instr.slice 9 (.string ⟨#[44,112,114,101,115,44,115,117,98]⟩) (some (.int .i64 1)) none none).run Tryz.prog W= .ok (.string ⟨#[112,114,101,115,44,115,117,98]⟩) W:=fun _=>by kernel_rfl
 have ex6:∀ W,(Instr.slice 9 (.string ⟨#[44,101,113,44,112,114,101,115,44,115,117,98]⟩) (some (.int .i64 1)) none none).run Tryz.prog W= .ok (.string ⟨#[101,113,44,112,114,101,115,44,115,117,98]⟩) W:=fun _=>by kernel_rfl
 clear k1
 cases a<;>cases b<;>cases c<;>
  (go_enter Tryz.func38,Tryz.ntmps38
   go_wp2_with fail
   go_ret
   exact⟨by first|rfl|(congr 1),b1⟩)
end Go.Proofs.YtakfpngfpknedaaGreatDoor
