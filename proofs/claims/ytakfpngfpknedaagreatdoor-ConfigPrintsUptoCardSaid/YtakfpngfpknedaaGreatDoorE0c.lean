import Derived.Test.YtakfpngfpknedaaGreatDoorE0b
set_option linter.all false
set_option maxHeartbeats 8000000
set_option maxRecDepth 100000
namespace Go.Proofs.YtakfpngfpknedaaGreatDoor
open Go.RowKit
structure LJ (w:World) (r:Nat) (sign:LU) (one:List Wd→Option (LU × List Wd)) (many:Bool) (R:Option (LL × List Wd)) (gk:Nat) (out:Value) (wr:World) (l:List Wd) (acc:LL):Prop where
 fuel:l.length<gk
 own:Own w.heap.size wr out acc
 rd:RdW wr r l
 mods:Mods [r] w wr
 rest:ka_ sign one many gk l acc=R
 num:acc.length+l.length≤1000000
 short:Shorts l
theorem LJ.env {w:World} {r:Nat} {sign:LU} {one:List Wd→Option (LU × List Wd)} {many:Bool} {R:Option (LL × List Wd)} {gk:Nat} {out:Value} {wr:World} {l:List Wd} {acc:LL} (h:LJ w r sign one many R gk out wr l acc) (hw:Env w) (hO:Off r):Env wr:=hw.mods h.mods (by simpa using hO)
theorem Shorts.tail {x:Wd} {l:List Wd} (h:Shorts (x::l)):Shorts l:=fun y hy=>h y (List.mem_cons_of_mem _ hy)
theorem vv_ {sign:LU} {one:List Wd→Option (LU × List Wd)} {many:Bool} {n:Nat} {l:List Wd} {acc:LL} (h:one l=none):ka_ sign one many (n+1) l acc=none:=by
 rw[ka_,h]
theorem z09_ {sign:LU} {one:List Wd→Option (LU × List Wd)} {many:Bool} {n:Nat} {l t:List Wd} {s:LU} {acc:LL} (h:one l=some (s,t)):ka_ sign one many (n+1) l acc=if zc_ s then
    (if !many then some (acc++[s],t)
     else if rIs t [41] then some (acc++[s],t.tail)
     else if sign==[] then ka_ sign one many n t (acc++[s])
     else if rIs t sign then ka_ sign one many n t.tail (acc++[s]) else none)
   else none:=by
 rw[ka_,h]
theorem zhs_ {l:List Wd} {s:LU} (h:rIs l s=true):∃ x,l=x::l.tail:=by
 cases l with
 |nil=>cases h
 |cons x t=>exact⟨x,rfl⟩
theorem y1_ {one:List Wd→Option (LU × List Wd)} (hc:∀ (l t:List Wd) (s:LU),one l=some (s,t)→∃ q,l=(s,q)::t) {l:List Wd} (hs:Shorts l) {x:LU × List Wd} (h:one l=some x):x.1.length≤1000000:=by
 obtain⟨q,hq⟩:=hc l x.2 x.1 h
 rw[hq] at hs
 exact hs _ (List.mem_cons_self ..)
theorem j2_ (r:Nat) (l:List Wd) (s:LU) (w:World) (h:RdW w r l) (hs:rIs l s=true):
  Calls Tryz.prog 112 #[.pointer (some ⟨r,0,none⟩),.string ⟨s.toArray⟩] w (z4h_ w r l.tail (.bool true)):=by
 obtain⟨x,hx⟩:=zhs_ hs
 rw[hx] at h hs
 exact zgm_ r x l.tail s w h hs
theorem list_c (f:FuncId) (one:List Wd→Option (LU × List Wd)) (sign:LU) (hsg:sign=[]∨sign=[36]) (r:Nat) (l:List Wd) (w:World) (hw:Env w) (hO:Off r) (hone:OneOK f r one) (h:RdW w r l) (hs:Shorts l) (hl:l.length≤1000000):
  Calls Tryz.prog 181 #[.pointer (some ⟨r,0,none⟩),.string ⟨sign.toArray⟩,.func (.func f) #[.pointer (some ⟨r,0,none⟩)] #[]] w (zkh_ w r (jo_ sign one l)):=by
 obtain⟨R,hR⟩:∃ R,jo_ sign one l=R:=⟨_,rfl⟩
 rw[hR]
 have hrw:r<w.heap.size:=by obtain⟨v,hb,_⟩:=h;exact hb.lt
 have HH:=hiD h
 have HS:=hiD hs
 unfold jo_ at hR
 have HR:=hiD hR
 clear h hs hR
 have HT0:Hid (Calls Tryz.prog 112 #[.pointer (some ⟨r,0,none⟩),.string ⟨#[40]⟩] w fun e w'=>e= .returned (.bool (rIs l [40]))∧RdW w' r (if rIs l [40] then l.tail else l)∧Mods [r] w w'):=hiD (by
  cases hm:rIs l [40]
  ·exact(qj_ r l [40] w HH.out hm).mono fun e w' ⟨he,hw'⟩=>⟨he,hw' ▸ HH.out,hw' ▸ Mods.refl _ _⟩
  ·exact(j2_ r l [40] w HH.out hm).mono fun e w' ⟨he,h1,h2⟩=>⟨he,h1,Mods.of_grown h2 (by simp)⟩)
 have HL0:Hid ((if rIs l [40] then l.tail else l).length≤l.length∧Shorts (if rIs l [40] then l.tail else l)):=hiD (by
  cases rIs l [40]
  ·exact⟨nR _,HS.out⟩
  ·exact⟨by simp,fun x hx=>HS.out x (List.mem_of_mem_tail hx)⟩)
 generalize (if rIs l [40] then l.tail else l)=l0 at HT0 HR HL0
 generalize rIs l [40]=many at HT0 HR
 have hent:=hone.enter
 clear HS HH
 go_enter Tryz.func181,Tryz.ntmps181
 go_wp2_with (go_at_call 112;refine HT0.out.mono ?_;rintro e w1 ⟨rfl,hr1,hm1⟩)
 go_loopg [9] (l.length+1) (fun gk out wr=>∃ (l':List Wd) (acc:LL),Aside (LJ w r sign one many R gk out wr l' acc))
 case atStart=>
  refine⟨l0,[],?_⟩
  have hl0:=HL0.out
  exact(⟨by omega,Own.nil hm1.size,hr1,hm1,HR.out,by simp only[List.length_nil];omega,hl0.2⟩:LJ w r sign one many R _ _ _ _ _)
 case round=>
  clear HT0 HR HL0
  obtain⟨l',acc,AJ⟩:=hrel
  obtain⟨q,rfl⟩:∃ q,gk=q+1:=⟨gk - 1,by have:=AJ.out.fuel;omega⟩
  have H1:=hone.call wr l' (AJ.out.env hw hO) AJ.out.rd AJ.out.short
  obtain⟨Ao,co,rfl,hco⟩:=AJ.out.own.isSlice
  cases ho:one l' with
  |none=>
   rw[ho] at H1
   have hfin:R=none:=by rw[← AJ.out.rest,vv_ ho]
   have Hf:=hiD hfin
   clear hfin ho
   have H1':Hid (Calls Tryz.prog f #[.pointer (some ⟨r,0,none⟩)] wr fun e w'=>∃ s:LU,e= .returned (.tuple #[.string ⟨s.toArray⟩,.bool false])∧Mods [r] wr w'):=hiD H1
   clear H1
   go_wp2_with ((with_reducible refine H1'.out.mono ?_);rintro e w2 ⟨s,rfl,hm2⟩)
   go_ret2
   rw[Hf.out]
   exact⟨rfl,AJ.out.mods.trans hm2⟩
  |some xx=>
   obtain⟨s,t⟩:=xx
   rw[ho] at H1
   have H1':Hid (Calls Tryz.prog f #[.pointer (some ⟨r,0,none⟩)] wr fun e w'=>e= .returned (.tuple #[.string ⟨s.toArray⟩,.bool true])∧RdW w' r t∧Mods [r] wr w'):=hiD H1
   clear H1
   have hc:=hone.cons l' t s ho
   have hstep:=z09_ (sign:=sign) (many:=many) (n:=q) (acc:=acc) ho
   rw[AJ.out.rest] at hstep
   have HS:=hiD hstep
   have hsl:=y1_ hone.cons AJ.out.short ho
   simp only at hsl
   have hlt:l'.length=t.length+1:=by obtain⟨q',hq⟩:=hc;rw[hq];rfl
   have hst:Shorts t:=by have:=AJ.out.short;obtain⟨q',hq⟩:=hc;rw[hq] at this;exact this.tail
   have hfuel:=AJ.out.fuel
   have hnum:=AJ.out.num
   have HST:=hiD hst
   have HT:=hiD (fun (W:World) (hm:Mods [r] wr W)=>qf_ s W ((AJ.out.env hw hO).mods hm (by simpa using hO)) (by omega))
   clear hc hstep ho hst
   have HO:=hiD (fun (w2 w3:World) (hm2:Mods [r] wr w2) (hb3:Bel w2 w3)=>(AJ.out.own.mods hm2 hrw).below hb3)
   have HM:=hiD (fun (w2 w3:World) (hm2:Mods [r] wr w2) (hb3:Bel w2 w3)=>(AJ.out.mods.trans hm2).trans (Mods.of_below hb3 [r]))
   have H79:Hid (Mods [r] w wr):=hiD AJ.out.mods
   clear AJ
   cases hT:zc_ s
   ·rw[hT] at HT HS
    simp only[Bool.false_eq_true,if_false] at HS
    clear hT
    go_wp2_with (first|((with_reducible refine H1'.out.mono ?_);rintro e w2 ⟨rfl,hr2,hm2⟩)|(go_at_call 52;refine(HT.out _ hm2).mono ?_;rintro e w3 ⟨rfl,hb3⟩))
    go_ret2
    rw[HS.out]
    exact⟨rfl,HM.out _ _ hm2 hb3⟩
   ·rw[hT] at HT HS
    simp only[if_true] at HS
    clear hT
    cases many
    ·simp only[Bool.not_false,if_true] at HS
     go_wp2_with (first|((with_reducible refine H1'.out.mono ?_);rintro e w2 ⟨rfl,hr2,hm2⟩)|(go_at_call 52;refine(HT.out _ hm2).mono ?_;rintro e w3 ⟨rfl,hb3⟩;have hO3:=HO.out _ _ hm2 hb3)|(at_builtin;refine qh_ (c:=s) rfl _ _ rfl rfl hO3 rfl rfl (by omega) ?_;intro v' w4 hO4 hg4))
     go_ret2
     rw[HS.out]
     exact⟨v',rfl,hO4.texts,(hr2.below hb3).owned hO3 hrw hg4,(HM.out _ _ hm2 hb3).owned hO3 hg4⟩
    ·simp only[Bool.not_true,Bool.false_eq_true,if_false] at HS
     cases h41:rIs t [41]
     ·rw[h41] at HS
      simp only[Bool.false_eq_true,if_false] at HS
      have H41:=hiD h41
      clear h41
      rcases hsg with rfl|rfl
      ·have hS2:Hid (R=ka_ [] one true q t (acc++[s])):=hiD HS.out
       clear HS
       go_wp2_with (first|((with_reducible refine H1'.out.mono ?_);rintro e w2 ⟨rfl,hr2,hm2⟩)|(go_at_call 52;refine(HT.out _ hm2).mono ?_;rintro e w3 ⟨rfl,hb3⟩;have hO3:=HO.out _ _ hm2 hb3)|(at_builtin;refine qh_ (c:=s) rfl _ _ rfl rfl hO3 rfl rfl (by omega) ?_;intro v' w4 hO4 hg4;have hr4:=(hr2.below hb3).owned hO3 hrw hg4)|(go_at_call 112;(with_reducible refine(qj_ r t [41] _ hr4 H41.out).mono ?_);rintro e w5 ⟨rfl,rfl⟩))
       go_roundg q
       case measure=>omega
       case rel=>exact⟨t,acc++[s],(⟨by omega,hO4,hr4,(HM.out _ _ hm2 hb3).owned hO3 hg4,hS2.out.symm,by simp only[List.length_append,List.length_cons,List.length_nil];omega,HST.out⟩:LJ w r [] one true R q v' _ t (acc++[s]))⟩
      ·cases h36:rIs t [36]
       ·have hS2:Hid (R=none):=hiD (by rw[HS.out,h36];rfl)
        have H36:=hiD h36
        clear HS h36
        go_wp2_with (first|((with_reducible refine H1'.out.mono ?_);rintro e w2 ⟨rfl,hr2,hm2⟩)|(go_at_call 52;refine(HT.out _ hm2).mono ?_;rintro e w3 ⟨rfl,hb3⟩;have hO3:=HO.out _ _ hm2 hb3)|(at_builtin;refine qh_ (c:=s) rfl _ _ rfl rfl hO3 rfl rfl (by omega) ?_;intro v' w4 hO4 hg4;have hr4:=(hr2.below hb3).owned hO3 hrw hg4)|(go_at_call 112;(with_reducible refine(qj_ r t [41] _ hr4 H41.out).mono ?_);rintro e w5 ⟨rfl,rfl⟩)|(go_at_call 112;(with_reducible refine(qj_ r t [36] _ hr4 H36.out).mono ?_);rintro e w5 ⟨rfl,rfl⟩))
        go_ret2
        rw[hS2.out]
        exact⟨rfl,(HM.out _ _ hm2 hb3).owned hO3 hg4⟩
       ·have hS2:Hid (R=ka_ [36] one true q t.tail (acc++[s])):=hiD (by rw[HS.out,h36];rfl)
        have H36:=hiD h36
        have htl:t.tail.length≤t.length:=by simp
        clear HS h36
        go_wp2_with (first|((with_reducible refine H1'.out.mono ?_);rintro e w2 ⟨rfl,hr2,hm2⟩)|(go_at_call 52;refine(HT.out _ hm2).mono ?_;rintro e w3 ⟨rfl,hb3⟩;have hO3:=HO.out _ _ hm2 hb3)|(at_builtin;refine qh_ (c:=s) rfl _ _ rfl rfl hO3 rfl rfl (by omega) ?_;intro v' w4 hO4 hg4;have hr4:=(hr2.below hb3).owned hO3 hrw hg4)|(go_at_call 112;(with_reducible refine(qj_ r t [41] _ hr4 H41.out).mono ?_);rintro e w5 ⟨rfl,rfl⟩)|(go_at_call 112;(with_reducible refine(j2_ r t [36] _ hr4 H36.out).mono ?_);rintro e w6 ⟨rfl,hr6,hg6⟩))
        go_roundg q
        case measure=>omega
        case rel=>exact⟨t.tail,acc++[s],(⟨by omega,hO4.keep hg6 (fun k hk=>by cases hk;exact hrw),hr6,((HM.out _ _ hm2 hb3).owned hO3 hg4).trans (Mods.of_grown hg6 (by simp)),hS2.out.symm,by simp only[List.length_append,List.length_cons,List.length_nil];omega,fun x hx=>HST.out x (List.mem_of_mem_tail hx)⟩:LJ w r [36] one true R q v' _ t.tail (acc++[s]))⟩
     ·rw[h41] at HS
      simp only[if_true] at HS
      have H41:=hiD h41
      clear h41
      go_wp2_with (first|((with_reducible refine H1'.out.mono ?_);rintro e w2 ⟨rfl,hr2,hm2⟩)|(go_at_call 52;refine(HT.out _ hm2).mono ?_;rintro e w3 ⟨rfl,hb3⟩;have hO3:=HO.out _ _ hm2 hb3)|(at_builtin;refine qh_ (c:=s) rfl _ _ rfl rfl hO3 rfl rfl (by omega) ?_;intro v' w4 hO4 hg4;have hr4:=(hr2.below hb3).owned hO3 hrw hg4)|(go_at_call 112;(with_reducible refine(j2_ r t [41] _ hr4 H41.out).mono ?_);rintro e w6 ⟨rfl,hr6,hg6⟩))
      go_ret2
      rw[HS.out]
      exact⟨v',rfl,(hO4.keep hg6 (fun k hk=>by cases hk;exact hrw)).texts,hr6,((HM.out _ _ hm2 hb3).owned hO3 hg4).trans (Mods.of_grown hg6 (by simp))⟩
theorem qu_:∀ (N:Nat) (l:List Nat),l.Nodup→(∀ x∈l,x<N)→l.length≤N
 |0,l,_,h=>by
  cases l with
  |nil=>simp
  |cons x t=>exact absurd (h x (by simp)) (by omega)
 |N+1,l,hn,h=>by
  by_cases hm:N∈l
  ·have h1:=qu_ N (l.erase N) (hn.erase N) (fun x hx=>by
    have h2:=h x (List.mem_of_mem_erase hx)
    have h3:x≠N:=by
     intro e
     subst e
     exact(hn.not_mem_erase) hx
    omega)
   have h4:=List.length_erase_of_mem hm
   omega
  ·have h1:=qu_ N l hn (fun x hx=>by
    have h2:=h x hx
    have h3:x≠N:=by rintro rfl;exact hm hx
    omega)
   omega
def yv_ (L:List DefS) (i:Nat):List Nat:=match L[i]? with
 |none=>[]
 |some d=>d.sup.filterMap fun nm=>zk_ L d.cls nm
theorem kl_ (f:Nat→List Nat→List Nat) (g:LU→Option Nat):∀ (s:LL) (acc:List Nat),
  s.foldl (fun l nm=>match g nm with
   |none=>l
   |some j=>f j l) acc=(s.filterMap g).foldl (fun l j=>f j l) acc
 |[],acc=>rfl
 |x::s,acc=>by
  rw[List.foldl_cons,List.filterMap_cons]
  cases hg:g x with
  |none=>exact kl_ f g s acc
  |some j=>exact kl_ f g s _
theorem z7n_ (L:List DefS) (n i:Nat) (l:List Nat):qr_ L (n+1) i l=if l.contains i then l else (yv_ L i).foldl (fun l j=>qr_ L n j l) (l++[i]):=by
 rw[qr_]
 split
 ·rfl
 ·unfold yv_
  cases L[i]? with
  |none=>rfl
  |some d=>exact kl_ (fun j l=>qr_ L n j l) (fun nm=>zk_ L d.cls nm) d.sup _
theorem vl_ {L:List DefS} {c:Bool} {n:LU} {j:Nat} (h:zk_ L c n=some j):j<L.length:=by
 unfold zk_ at h
 exact(List.findIdx?_eq_some_iff_getElem.1 h).1
theorem z9i_ {L:List DefS} {i j:Nat} (h:j∈yv_ L i):j<L.length:=by
 unfold yv_ at h
 split at h
 ·simp at h
 ·obtain⟨n,_,hf⟩:=List.mem_filterMap.1 h
  exact vl_ hf
inductive Reach (L:List DefS):Nat→Nat→Prop
 |refl (i:Nat):Reach L i i
 |step {i u j:Nat} (h:u∈yv_ L i) (t:Reach L u j):Reach L i j
theorem Reach.trans {L:List DefS} {i j k:Nat} (h:Reach L i j) (t:Reach L j k):Reach L i k:=by
 induction h with
 |refl=>exact t
 |step h _ ih=>exact .step h (ih t)
theorem Reach.lt {L:List DefS} {i j:Nat} (h:Reach L i j) (hi:i<L.length):j<L.length:=by
 induction h with
 |refl=>exact hi
 |step h _ ih=>exact ih (z9i_ h)
structure AboveSays (L:List DefS) (i:Nat) (l R:List Nat):Prop where
 grown:∃ t,R=l++t
 nodup:R.Nodup
 lt:∀ v∈R,v<L.length
 self:i∈R
 closed:∀ v∈R,v ∉ l→∀ u∈yv_ L v,u∈R
 reach:∀ v∈R,v∈l∨Reach L i v
theorem kn_ (L:List DefS):∀ (n i:Nat) (l:List Nat),l.Nodup→(∀ v∈l,v<L.length)→i<L.length→L.length+1≤n+l.length→AboveSays L i l (qr_ L n i l)
 |0,i,l,hn,hl,hi,hf=>by
  have:=qu_ _ l hn hl
  omega
 |n+1,i,l,hn,hl,hi,hf=>by
  rw[z7n_]
  split
  ·next hc=>
   have hm:i∈l:=by simpa using hc
   exact⟨⟨[],by simp⟩,hn,hl,hm,fun v hv hnv=>absurd hv hnv,fun v hv=> .inl hv⟩
  ·next hc=>
   have hm:i ∉ l:=by simpa using hc
   have hn1:(l++[i]).Nodup:=by
    rw[List.nodup_append]
    refine⟨hn,by simp,?_⟩
    intro a ha b hb
    have hb':b=i:=by simpa using hb
    subst hb'
    rintro rfl
    exact hm ha
   have key:∀ (S:List Nat) (R:List Nat),(∀ j∈S,j∈yv_ L i)→(∃ t,R=l++[i]++t)→R.Nodup→(∀ v∈R,v<L.length)→(∀ v∈R,v ∉ l→v≠i→∀ u∈yv_ L v,u∈R)→(∀ v∈R,v∈l∨Reach L i v)→
     (∃ t,S.foldl (fun l j=>qr_ L n j l) R=R++t)∧(S.foldl (fun l j=>qr_ L n j l) R).Nodup∧(∀ v∈S.foldl (fun l j=>qr_ L n j l) R,v<L.length)∧(∀ j∈S,j∈S.foldl (fun l j=>qr_ L n j l) R)∧
     (∀ v∈S.foldl (fun l j=>qr_ L n j l) R,v ∉ l→v≠i→∀ u∈yv_ L v,u∈S.foldl (fun l j=>qr_ L n j l) R)∧(∀ v∈S.foldl (fun l j=>qr_ L n j l) R,v∈l∨Reach L i v):=by
    intro S
    induction S with
    |nil=>intro R _ _ h2 h3 h4 h5;exact⟨⟨[],by simp⟩,h2,h3,fun j hj=>(by simp at hj),h4,h5⟩
    |cons j S ih=>
     intro R h0 h1 h2 h3 h4 h5
     obtain⟨t1,ht1⟩:=h1
     have hj:=h0 j (by simp)
     have hA:=kn_ L n j R h2 h3 (z9i_ hj) (by rw[ht1];simp only[List.length_append,List.length_cons,List.length_nil];omega)
     obtain⟨t2,ht2⟩:=hA.grown
     rw[List.foldl_cons]
     generalize qr_ L n j R=R2 at *
     have hsub:∀ v∈R,v∈R2:=fun v hv=>by rw[ht2];exact List.mem_append_left _ hv
     obtain⟨⟨t3,ht3⟩,g2,g3,g4,g5,g6⟩:=ih R2 (fun x hx=>h0 x (by simp [hx])) ⟨t1++t2,by rw[ht2,ht1];simp⟩ hA.nodup hA.lt
      (fun v hv hvl hvi u hu=>by
       by_cases hvR:v∈R
       ·exact hsub u (h4 v hvR hvl hvi u hu)
       ·exact hA.closed v hv hvR u hu)
      (fun v hv=>by
       rcases hA.reach v hv with h|h
       ·exact h5 v h
       ·exact .inr (.step hj h))
     refine⟨⟨t2++t3,by rw[ht3,ht2];simp⟩,g2,g3,?_,g5,g6⟩
     intro x hx
     rcases List.mem_cons.1 hx with rfl|hx
     ·rw[ht3];exact List.mem_append_left _ hA.self
     ·exact g4 x hx
   obtain⟨⟨t,ht⟩,g2,g3,g4,g5,g6⟩:=key (yv_ L i) (l++[i]) (fun j hj=>hj) ⟨[],by simp⟩ hn1
    (fun v hv=>by
     rcases List.mem_append.1 hv with h|h
     ·exact hl v h
     ·have:v=i:=by simpa using h
      omega)
    (fun v hv hvl hvi=>absurd (List.mem_append.1 hv) (by simp [hvl,hvi]))
    (fun v hv=>by
     rcases List.mem_append.1 hv with h|h
     ·exact .inl h
     ·have:v=i:=by simpa using h
      subst this
      exact .inr (.refl _))
   refine⟨⟨[i]++t,by rw[ht];simp⟩,g2,g3,by rw[ht];simp,?_,g6⟩
   intro v hv hvl u hu
   by_cases hvi:v=i
   ·subst hvi;exact g4 u hu
   ·exact g5 v hv hvl hvi u hu
theorem z1w_ (L:List DefS) (i:Nat) (hi:i<L.length):AboveSays L i [] (vk_ L i []):=kn_ L _ i [] (by simp) (by simp) hi (by simp)
theorem zfs_ {L:List DefS} {S:List Nat} (hc:∀ v∈S,∀ u∈yv_ L v,u∈S) {a j:Nat} (hr:Reach L a j) (ha:a∈S):j∈S:=by
 induction hr with
 |refl=>exact ha
 |step hu _ ih=>exact ih (hc _ ha _ hu)
theorem z2y_ {L:List DefS} {i:Nat} (hi:i<L.length) (j:Nat):j∈vk_ L i []↔Reach L i j:=by
 have h:=z1w_ L i hi
 constructor
 ·intro hj
  rcases h.reach j hj with h'|h'
  ·simp at h'
  ·exact h'
 ·intro hr
  exact zfs_ (fun v hv u hu=>h.closed v hv (by simp) u hu) hr h.self
def Acyc (L:List DefS):Prop:=∀ i j,i<L.length→Reach L i j→i ∉ yv_ L j
theorem zec_ {L:List DefS} (h:∀ i,i<L.length→yj_ L i=false):Acyc L:=by
 intro i j hi hr hs
 have hl:=h i hi
 unfold yj_ at hl
 rw[List.any_eq_false] at hl
 have:=hl j ((z2y_ hi j).2 hr)
 unfold yv_ at hs
 cases hL:L[j]? with
 |none=>rw[hL] at hs;simp at hs
 |some d=>
  rw[hL] at this hs
  apply this
  obtain⟨n,hn,hf⟩:=List.mem_filterMap.1 hs
  simp only[List.any_eq_true]
  exact⟨n,hn,by simp [hf]⟩
theorem z1c_ {L:List DefS} {c:Bool} {n:LU} {j:Nat} (h:zk_ L c n=some j):∃ d,L[j]?=some d∧d.cls=c∧(c,z2_ n)∈d.keys:=by
 unfold zk_ at h
 obtain⟨h1,h2,_⟩:=List.findIdx?_eq_some_iff_getElem.1 h
 refine⟨L[j],List.getElem?_eq_getElem h1,?_,by simpa using h2⟩
 have h3:(c,z2_ n)∈L[j].keys:=by simpa using h2
 unfold DefS.keys at h3
 obtain⟨_,_,e⟩:=List.mem_map.1 h3
 exact congrArg Prod.fst e
theorem z0m_ {L:List DefS} (hA:Acyc L) (hk:∀ d∈L,d.cls=false→∀ s∈d.sup,(zk_ L false s).isSome=true):∀ (n i:Nat) (l:List Nat),(∀ d,L[i]?=some d→d.cls=false)→l.Nodup→(∀ v∈l,v<L.length∧∃ u,Reach L v u∧i∈yv_ L u)→i<L.length→L.length+1≤n+l.length→(jr_ L n i).isSome=true
 |0,i,l,_,hn,hl,hi,hf=>by
  have:=qu_ _ l hn (fun v hv=>(hl v hv).1)
  omega
 |n+1,i,l,hcl,hn,hl,hi,hf=>by
  rw[jr_]
  have hLi:L[i]?=some L[i]:=List.getElem?_eq_getElem hi
  rw[hLi]
  simp only
  have hcf:L[i].cls=false:=hcl _ hLi
  split
  ·rfl
  ·next s rest hs=>
   have hk1:=hk L[i] (List.getElem_mem _) hcf s (by rw[hs];simp)
   cases hfd:zk_ L false s with
   |none=>rw[hfd] at hk1;cases hk1
   |some j=>
    simp only[Option.isSome_map]
    have hji:j∈yv_ L i:=by
     unfold yv_
     rw[hLi]
     exact List.mem_filterMap.2 ⟨s,by rw[hs];simp,by rw[hcf];exact hfd⟩
    have hil:i ∉ l:=by
     intro hil
     obtain⟨_,u,hr,hu⟩:=hl i hil
     exact hA i u hi hr hu
    refine z0m_ hA hk n j (l++[i]) ?_ ?_ ?_ (vl_ hfd) (by simp only[List.length_append,List.length_cons,List.length_nil];omega)
    ·intro d hd
     obtain⟨d',h1,h2,_⟩:=z1c_ hfd
     rw[h1] at hd
     cases hd
     exact h2
    ·rw[List.nodup_append]
     refine⟨hn,by simp,?_⟩
     intro a ha b hb
     have hb':b=i:=by simpa using hb
     subst hb'
     rintro rfl
     exact hil ha
    ·intro v hv
     rcases List.mem_append.1 hv with hv|hv
     ·obtain⟨h1,u,hr,hu⟩:=hl v hv
      exact⟨h1,i,hr.trans (.step hu (.refl _)),hji⟩
     ·have:v=i:=by simpa using hv
      subst this
      exact⟨hi,v,.refl _,hji⟩
theorem z0s_ {L:List DefS} (hA:Acyc L) (hk:∀ d∈L,d.cls=false→∀ s∈d.sup,(zk_ L false s).isSome=true) {i:Nat} {d:DefS} (hd:L[i]?=some d) (hc:d.cls=false):∃ a,q9_ L i=some a:=by
 have hi:i<L.length:=(List.getElem?_eq_some_iff.1 hd).1
 exact Option.isSome_iff_exists.1 (z0m_ hA hk (L.length+1) i [] (fun d' h=>by rw[hd] at h;cases h;exact hc) (by simp) (by simp) hi (by simp))
theorem z5u_:∀ (M ks:List (Bool × LU)),kv_ M ks=true↔ks.Nodup∧∀ k∈ks,k ∉ M
 |M,[]=>by simp [kv_]
 |M,k::ks=>by
  rw[kv_,Bool.and_eq_true,z5u_ (M++[k]) ks,List.nodup_cons]
  simp only[Bool.not_eq_true',List.contains_eq_mem,decide_eq_false_iff_not,List.mem_append,List.mem_cons,List.not_mem_nil,or_false,not_or]
  constructor
  ·rintro⟨h1,h2,h3⟩
   refine⟨⟨fun hk=>(h3 k hk).2 rfl,h2⟩,fun x hx=>?_⟩
   rcases hx with rfl|hx
   ·exact h1
   ·exact(h3 x hx).1
  ·rintro⟨⟨h1,h2⟩,h3⟩
   exact⟨h3 k (.inl rfl),h2,fun x hx=>⟨h3 x (.inr hx),fun e=>h1 (e ▸ hx)⟩⟩
theorem z0v_:∀ (na i:Nat) (xs:LL) (L L':List DefS),(L.flatMap DefS.keys).Nodup→q8_ na i xs L= .inr L'→(L'.flatMap DefS.keys).Nodup
 |na,i,[],L,L',h,e=>by
  rw[q8_] at e
  cases e
  exact h
 |na,i,s::xs,L,L',h,e=>by
  rw[q8_] at e
  split at e
  ·cases e
  ·next d hd=>
   split at e
   ·next hp=>
    refine z0v_ na (i+1) xs _ L' ?_ e
    rw[z5u_] at hp
    rw[List.flatMap_append,List.nodup_append]
    refine⟨h,by simpa using hp.1,?_⟩
    intro a ha b hb
    have hb':b∈d.keys:=by simpa using hb
    rintro rfl
    exact hp.2 a hb' ha
   ·cases e
theorem zgy_ {L:List DefS} (hN:(L.flatMap DefS.keys).Nodup) {x:Nat} {d:DefS} (hd:L[x]?=some d) {c:Bool} {n:LU} (hk:(c,z2_ n)∈d.keys):zk_ L c n=some x:=by
 have hx:x<L.length:=(List.getElem?_eq_some_iff.1 hd).1
 have hdx:L[x]=d:=(List.getElem?_eq_some_iff.1 hd).2
 unfold zk_
 rw[List.findIdx?_eq_some_iff_getElem]
 refine⟨hx,by rw[hdx];simpa using hk,?_⟩
 intro j hj
 have hjl:j<L.length:=by omega
 rw[Bool.not_eq_true,← Bool.not_eq_true']
 simp only[Bool.not_eq_true',List.contains_eq_mem,decide_eq_false_iff_not]
 intro hm
 have hsplit:L=L.take x++d::L.drop (x+1):=by
  rw[← hdx]
  simp
 rw[hsplit,List.flatMap_append,List.nodup_append] at hN
 have h1:(c,z2_ n)∈(L.take x).flatMap DefS.keys:=by
  rw[List.mem_flatMap]
  refine⟨L[j],?_,hm⟩
  rw[List.mem_take_iff_getElem]
  exact⟨j,by omega,rfl⟩
 have h2:(c,z2_ n)∈(d::L.drop (x+1)).flatMap DefS.keys:=by
  rw[List.flatMap_cons]
  exact List.mem_append_left _ hk
 exact hN.2.2 _ h1 _ h2 rfl
theorem zgl_ (d:DefS):(d.cls,z2_ d.name)∈d.keys:=by
 unfold DefS.keys DefS.name
 cases d.names with
 |nil=>simp
 |cons n t=>simp
structure NewSays (L:List DefS):Prop where
 keys:(L.flatMap DefS.keys).Nodup
 known:∀ d∈L,xb_ L d=true
 acyc:Acyc L
 fits:∀ i d,L[i]?=some d→z06_ L d i=true
 len:L.length≤300
theorem z1k_:∀ (na i:Nat) (xs:LL) (L L':List DefS),q8_ na i xs L= .inr L'→L'.length=L.length+xs.length
 |na,i,[],L,L',e=>by rw[q8_] at e;cases e;simp
 |na,i,s::xs,L,L',e=>by
  rw[q8_] at e
  split at e
  ·cases e
  ·split at e
   ·have:=z1k_ na (i+1) xs _ L' e
    simp at this ⊢
    omega
   ·cases e
theorem zcl_ {attrs classes:LL} {L:List DefS} (h:z98_ attrs classes= .inr L):NewSays L:=by
 unfold z98_ at h
 split at h
 ·cases h
 ·next hl=>
  split at h
  ·cases h
  ·next L' hr=>
   split at h
   ·cases h
   ·next hk=>
    split at h
    ·cases h
    ·next hlo=>
     split at h
     ·cases h
     ·next hf=>
      cases h
      have hlen:=z1k_ _ _ _ _ _ hr
      rw[List.findIdx?_eq_none_iff] at hk
      rw[List.find?_eq_none] at hlo hf
      refine⟨z0v_ _ _ _ [] _ (by simp) hr,fun d hd=>by simpa using hk d hd,zec_ (fun i hi=>by simpa using hlo i (by simpa using hi)),?_,by simp at hlen;omega⟩
      intro i d hd
      have hi:i<L.length:=(List.getElem?_eq_some_iff.1 hd).1
      have:=hf i (by simpa using hi)
      rw[hd] at this
      simpa using this
theorem NewSays.sup_known {L:List DefS} (h:NewSays L):∀ d∈L,∀ s∈d.sup,(zk_ L d.cls s).isSome=true:=by
 intro d hd s hs
 have:=h.known d hd
 unfold xb_ at this
 rw[Bool.and_eq_true,Bool.and_eq_true,List.all_eq_true] at this
 exact this.1.1 s hs
theorem NewSays.counts {L:List DefS} (h:NewSays L) {i:Nat} {d:DefS} (hd:L[i]?=some d) (hc:d.cls=false):∃ a,q9_ L i=some a:=
 z0s_ h.acyc (fun d hd hc s hs=>by rw[← hc];exact h.sup_known d hd s hs) hd hc
open Go.RowKit
def z7_ (p:Nat):Value:= .pointer (some ⟨p,0,none⟩)
def zn_ (d:DefS) (vn vs vm vy:Value):Array Value:=#[.bool d.cls,.string ⟨d.oid.toArray⟩,vn,vs,vm,vy,.string ⟨d.form.toArray⟩,.string ⟨d.eqr.toArray⟩,.string ⟨d.ordr.toArray⟩,.string ⟨d.subs.toArray⟩,.bool d.single,.bool d.fixed,.bool d.oper,.int .i64 d.kind]
def DefAt (w:World) (p:Nat) (d:DefS):Prop:=∃ vn vs vm vy,Bk w p 161 (zn_ d vn vs vm vy)∧Texts w vn d.names∧Texts w vs d.sup∧Texts w vm d.must∧Texts w vy d.may
theorem DefAt.mods {S:List Nat} {w w':World} {p:Nat} {d:DefS} (h:DefAt w p d) (hm:Mods S w w') (hp:p ∉ S) (hS:NoText w S):DefAt w' p d:=by
 obtain⟨vn,vs,vm,vy,h1,h2,h3,h4,h5⟩:=h
 exact⟨vn,vs,vm,vy,hm.bk h1 hp,h2.mods hm hS,h3.mods hm hS,h4.mods hm hS,h5.mods hm hS⟩
theorem DefAt.below {w w':World} {p:Nat} {d:DefS} (h:DefAt w p d) (hb:Bel w w'):DefAt w' p d:=h.mods (Mods.of_below hb []) (by simp) (fun g hg=>by cases hg)
theorem DefAt.notext {w:World} {p:Nat} {d:DefS} (h:DefAt w p d):NoText w [p]:=by
 obtain⟨vn,vs,vm,vy,h1,_⟩:=h
 intro g hg s
 have:g=p:=by simpa using hg
 subst this
 rw[h1.cell 0]
 simp [zn_]
theorem DefAt.lt {w:World} {p:Nat} {d:DefS} (h:DefAt w p d):p<w.heap.size:=by
 obtain⟨vn,vs,vm,vy,h1,_⟩:=h
 exact h1.lt
theorem NoText.app {w:World} {S S':List Nat} (h:NoText w S) (h':NoText w S'):NoText w (S++S'):=by
 intro g hg s
 rcases List.mem_append.1 hg with h1|h1
 ·exact h g h1 s
 ·exact h' g h1 s
def kvS (k:Bool × LU):Value:= .agg #[.bool k.1,.string ⟨k.2.toArray⟩]
def xr_:List Nat→List DefS→List ((Bool × LU) × Value)
 |p::ps,d::L=>d.keys.map (fun k=>(k,z7_ p))++xr_ ps L
 |_,_=>[]
theorem z17_ {κ:Type} [DecidableEq κ] (v:Value) (k:κ):∀ ks:List κ,qe_ (ks.map fun x=>(x,v)) k=if k∈ks then some v else none
 |[]=>by simp [qe_]
 |x::ks=>by
  rw[List.map_cons,qe_,z17_ v k ks]
  by_cases h:k=x
  ·simp [h]
  ·simp [h]
theorem z6m_:∀ (ps:List Nat) (L:List DefS),ps.length=L.length→∀ (c:Bool) (n:LU),qe_ (xr_ ps L) (c,z2_ n)=(zk_ L c n).map (fun j=>z7_ (ps.getD j 0))
 |[],[],_,c,n=>by simp [xr_,qe_,zk_]
 |[],_::_,h,_,_=>by simp at h
 |_::_,[],h,_,_=>by simp at h
 |p::ps,d::L,h,c,n=>by
  have ih:=z6m_ ps L (by simpa using h) c n
  rw[xr_,xi_,z17_,ih]
  unfold zk_
  rw[List.findIdx?_cons]
  by_cases hd:(c,z2_ n)∈d.keys
  ·have:d.keys.contains (c,z2_ n)=true:=by simpa using hd
   rw[if_pos hd,if_pos this]
   rfl
  ·have:¬ d.keys.contains (c,z2_ n)=true:=by simpa using hd
   rw[if_neg hd,if_neg this,Option.map_map]
   simp only[Option.none_or]
   congr 1
theorem z3m_:∀ (ps:List Nat) (L:List DefS) (p:Nat) (d:DefS),ps.length=L.length→xr_ (ps++[p]) (L++[d])=xr_ ps L++d.keys.map (fun k=>(k,z7_ p))
 |[],[],p,d,_=>by simp [xr_]
 |[],_::_,_,_,h=>by simp at h
 |_::_,[],_,_,h=>by simp at h
 |q::ps,e::L,p,d,h=>by
  rw[List.cons_append,List.cons_append,xr_,xr_,z3m_ ps L p d (by simpa using h),List.append_assoc]
theorem z3w_:∀ (ps:List Nat) (L:List DefS),ps.length=L.length→(xr_ ps L).map (·.1)=L.flatMap DefS.keys
 |[],[],_=>rfl
 |[],_::_,h=>by simp at h
 |_::_,[],h=>by simp at h
 |p::ps,d::L,h=>by
  rw[xr_,List.map_append,z3w_ ps L (by simpa using h),List.flatMap_cons,List.map_map]
  congr 1
  exact(List.map_congr_left (fun _ _=>rfl)).trans (List.map_id _)
def PtrsR (w:World) (v:Value) (ps:List Nat):Prop:=∃ A c,v= .slice A ps.length c∧ps.length≤c∧(ps=[]∨∃ g,A=some ⟨g,0,none⟩∧∀ (j p:Nat),ps[j]?=some p→w.cell? ⟨g,j,none⟩=some (z7_ p))
theorem PtrsR.mods {S:List Nat} {w w':World} {v:Value} {ps:List Nat} (h:PtrsR w v ps) (hm:Mods S w w') (hS:∀ g∈S,∀ p,w.cell? ⟨g,0,none⟩≠some (z7_ p)):PtrsR w' v ps:=by
 obtain⟨A,c,rfl,hc,h⟩:=h
 refine⟨A,c,rfl,hc,?_⟩
 cases ps with
 |nil=>exact .inl rfl
 |cons q t=>
  rcases h with h|⟨g,rfl,hx⟩
  ·cases h
  ·have hg:g ∉ S:=fun hg=>hS g hg q (hx 0 q rfl)
   exact .inr ⟨g,rfl,fun j p hj=>hm.cell (hx j p hj) hg⟩
theorem PtrsR.below {w w':World} {v:Value} {ps:List Nat} (h:PtrsR w v ps) (hb:Bel w w'):PtrsR w' v ps:=h.mods (Mods.of_below hb []) (fun g hg=>by cases hg)
structure SchAt (w:World) (s:Nat) (ps:List Nat) (L:List DefS):Prop where
 head:∃ lv m es c,Bk w s 117 #[lv,.map (some m)]∧PtrsR w lv ps∧w.heap[m]?=some (.map es c)∧MapR kvS es (xr_ ps L)
 len:ps.length=L.length
 nodup:ps.Nodup
 defs:∀ (i p:Nat) (d:DefS),ps[i]?=some p→L[i]?=some d→DefAt w p d
theorem SchAt.below {w w':World} {s:Nat} {ps:List Nat} {L:List DefS} (h:SchAt w s ps L) (hb:Bel w w'):SchAt w' s ps L:=by
 obtain⟨⟨lv,m,es,c,h1,h2,h3,h4⟩,h5,h6,h7⟩:=h
 exact⟨⟨lv,m,es,c,h1.below hb,h2.below hb,(hb.block m (Array.getElem?_eq_some_iff.1 h3).1).trans h3,h4⟩,h5,h6,fun i p d hp hd=>(h7 i p d hp hd).below hb⟩
end Go.Proofs.YtakfpngfpknedaaGreatDoor
