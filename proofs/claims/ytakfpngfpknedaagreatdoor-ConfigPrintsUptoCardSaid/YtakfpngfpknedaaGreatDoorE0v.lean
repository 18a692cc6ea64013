import Derived.Test.YtakfpngfpknedaaGreatDoorE0u
import Derived.OrdersHeld
set_option linter.all false
set_option maxHeartbeats 8000000
set_option maxRecDepth 100000
namespace Go.Proofs.YtakfpngfpknedaaGreatDoor
open Go.RowKit Go.Sort
theorem z3j_ {s:LU} {d:List (List (LU × LU))} (h:zd_ s=(0,d)):zz_ d=false:=by
 unfold zd_ at h
 split at h
 ·simp at h
 ·next h1=>
  split at h
  ·simp at h
  ·next d' hd=>
   split at h
   ·simp at h
   ·next h2=>
    cases h
    simpa using h2
theorem zf2_ (w:World) (g j:Nat) (l:List (LU × LU)) (h:RowA w g l) (hj:j<l.length) (u:Value):
  w.cell? ⟨g,j * 2,none⟩=some (.string ⟨l[j].1.toArray⟩)∧w.frozen? ⟨g,j * 2,none⟩=false∧(w.setCell ⟨g,j * 2,none⟩ u).cell? ⟨g,j * 2+1,none⟩=some (.string ⟨l[j].2.toArray⟩)∧(w.setCell ⟨g,j * 2,none⟩ u).frozen? ⟨g,j * 2+1,none⟩=false:=by
 have a:=h.at2 (List.getElem?_eq_getElem hj)
 refine⟨a.1,a.2.2.1,(zy_ _ _ _ _ _ (by omega)).trans a.2.1,?_⟩
 rw[World.frozen?_setCell]
 exact a.2.2.2
theorem zbk_ {L:List DefS} (hlim:∀ d∈L,DefLim d) (t:LU):(z0u_ L t).length≤1000000:=by
 unfold z0u_
 cases hf:zk_ L false t with
 |none=>simp
 |some i=>
  simp only
  unfold zdp_
  cases hd:L[i]? with
  |none=>simp
  |some d=>
   simp only
   have h:=hlim d (List.mem_of_getElem? hd)
   unfold DefS.name
   cases hn:d.names with
   |nil=>exact h.oid
   |cons x t=>exact h.names.2 x (by rw[hn];simp)
theorem zj2_ (s:Nat) (L:List DefS) (x:LU) (w:World) (hw:Env w) (her:(zd_ x).1≠0):
  Calls Tryz.prog 81 #[z7_ s,.string ⟨x.toArray⟩] w fun e w'=>e= .returned (z0r_ (z37_ L x))∧Bel w w':=by
 rw[zke_ her]
 have hP:=kw_ x w hw
 generalize zd_ x=ps at *
 obtain⟨er,d⟩:=ps
 have hbn:((er:Int) !=0)=true:=bne_iff_ne.2 her
 have HP:=hiD hP
 clear hP her
 unfold z7_
 go_enter Tryz.func81,Tryz.ntmps81
 go_wp2_with (go_at_call 144;refine HP.out.mono ?_;rintro e w1 ⟨hb1,v,rfl,hd⟩;obtain⟨A0,c0,rfl,hc0⟩:=hd.isSlice)
 go_ret2
 exact⟨rfl,hb1⟩
theorem Key_ok (s:Nat) (ps:List Nat) (L:List DefS) (hlim:∀ d∈L,DefLim d) (hrl:∀ d∈L,RuleLim d) (hk:∀ t i,zk_ L false t=some i→∃ a,q9_ L i=some a) (x:LU) (w:World) (hw:Env w) (hS:SchAt w s ps L) (d:List (List (LU × LU))) (hp:zd_ x=(0,d)):
  Calls Tryz.prog 81 #[z7_ s,.string ⟨x.toArray⟩] w fun e w'=>e= .returned (z0r_ (z37_ L x))∧Bel w w':=by
 have htl:=z3j_ hp
 have hP:=kw_ x w hw
 have hne:=z6d_ (s:=x)
 have hty:=z2o_ (s:=x)
 rw[hp] at hP hne hty
 simp only at hne hty
 have hbn:((0:Int) !=0)=false:=by decide
 have HP:=hiD hP
 have HNE:=hiD hne
 have hd20:d.length≤20:=by unfold zz_ at htl;simp at htl;omega
 have HSM:Hid (∀ p∈d,p.length≤4∧∀ x∈p,x.1.length≤64∧x.2.length≤1024):=by
  refine hiD fun p hp=>?_
  unfold zz_ at htl
  rw[Bool.or_eq_false_iff] at htl
  have h1:=List.any_eq_false.1 htl.2 p hp
  unfold qq_ at h1
  simp only[Bool.or_eq_true,decide_eq_true_eq,not_or] at h1
  refine⟨by omega,fun x hx=>?_⟩
  have h2:p.any j3_=false:=by simpa using h1.2
  have h3:=List.any_eq_false.1 h2 x hx
  unfold j3_ at h3
  simp at h3
  refine⟨?_,h3⟩
  have h4:=hty p hp x hx
  unfold zc_ at h4
  split at h4
  ·simp at h4
  ·next e=>rw[e];simp only[Bool.and_eq_true,decide_eq_true_eq] at h4;exact h4.1
 have HAN:Hid (∀ (t:LU) (W:World),Bel w W→t.length≤64→zk_ L false t=none→Calls Tryz.prog 83 #[.pointer (some ⟨s,0,none⟩),.string ⟨t.toArray⟩] W fun e w'=>e= .returned (.tuple #[jv_ z2v_ (.slice none 0 0),.int .i64 52])∧Bel W w'):=hiD fun t W h hl hf=>(zdx_ s ps L t W (hS.below h) (by omega) hf).mono (by
  rintro e w' ⟨h1,h2⟩
  exact⟨h2,h1⟩)
 have HAS:Hid (∀ (t:LU) (i:Nat) (a:AttrS) (W:World),Bel w W→t.length≤64→zk_ L false t=some i→q9_ L i=some a→Calls Tryz.prog 83 #[.pointer (some ⟨s,0,none⟩),.string ⟨t.toArray⟩] W fun e w'=>∃ A n c,e= .returned (.tuple #[jv_ a (.slice A n c),.int .i64 0])∧Bel W w'):=hiD fun t i a W h hl hf ha=>(zde_ s ps L hlim t i a W (hS.below h) (by omega) hf ha).mono (by
  rintro e w' ⟨h1,nv,rfl,h2⟩
  obtain⟨A,c,rfl,_⟩:=h2.isSlice
  exact⟨A,_,c,rfl,h1⟩)
 have HNT:Hid (∀ (t v:LU) (W:World),Bel w W→t.length≤64→Calls Tryz.prog 145 #[.pointer (some ⟨s,0,none⟩),.string ⟨t.toArray⟩,.string ⟨v.toArray⟩] W fun e w'=>e= .returned (.tuple #[.string ⟨(qi_ L t v).2.toArray⟩,.int .i64 (qi_ L t v).1])∧Bel W w'):=hiD fun t v W h hl=>zi2_ s ps L hlim hrl hk t v W (hw.keep h) (hS.below h) (by omega)
 have HNM:=hiD (zbk_ hlim)
 have HK:=hiD hk
 have HKF:Hid (∀ (k:Nat) (hk:k<d.length) (p:List (LU × LU)) (j:Nat) (hj:j<p.length),d[k]=p→(∀ y∈d.take k,∀ z∈y,(z15_ L z).1=0)→(∀ y∈p.take j,(z15_ L y).1=0)→(z15_ L p[j]).1≠0→z37_ L x=((z15_ L p[j]).1,[])):=hiD fun k hk p j hj he h0 h1 h2=>by
  subst he
  have h3:=zau_ hj h1 h2
  have h4:=zfc_ (L:=L) hp hk (fun y hy=>by rw[z4n_ (h0 y hy)]) (by rw[h3];exact h2)
  rw[h4,h3]
 have HKO:Hid ((∀ y∈d,∀ z∈y,(z15_ L z).1=0)→z37_ L x=j5_ (d.map (z0h_ L))):=hiD fun h=>key_ok hp h
 clear hP hne hty htl hS hlim hrl hk hp
 unfold z7_
 unfold jv_ z8_ z2v_ at HAN
 go_enter Tryz.func81,Tryz.ntmps81
 go_wp2_with fail
 refine HP.out.mono ?_
 rintro e w1 ⟨hb1,v,rfl,hd⟩
 change DnAt w.heap.size w1 v d at hd
 obtain⟨A0,c0,rfl,hc0⟩:=hd.isSlice
 by_cases hdn:d=[]
 ·subst hdn
  have hPr:=z45_ [] (.slice A0 0 c0) w1 (hw.keep hb1) hd.reads (by simp) (by simp)
  rw[show j5_ []=(0,[]) by decide] at hPr
  simp only[z0r_] at hPr
  have HPr:=hiD hPr
  have hfin:z37_ L x=(0,[]):=by rw[HKO.out (by simp),List.map_nil];decide
  have HF:=hiD hfin
  clear hPr hfin
  simp only[List.length_nil]
  go_wp2_with fail
  go_loopg [25] 0 (fun gk i wr=>i= .int .i64 0∧wr=w1)
  case atStart=>exact⟨rfl,rfl⟩
  case round=>
   obtain⟨rfl,rfl⟩:=hrel
   go_wp2_with (go_at_call 147;refine HPr.out.mono ?_;rintro e w2 ⟨rfl,hb2⟩)
   go_ret2
   rw[HF.out]
   exact⟨rfl,tQ hb1 hb2⟩
 ·have hlpos:0<d.length:=List.length_pos_iff.2 hdn
  obtain⟨gd,rfl⟩:∃ gd,A0=some ⟨gd,0,none⟩:=by
   obtain⟨vs,⟨h1,h2⟩,_⟩:=hd
   rcases h2 with ⟨hv,hn⟩|⟨g,cap,cur,hv,_⟩
   ·have:=(Value.slice.inj hv).2.1;omega
   ·have:=(Value.slice.inj hv).1;exact⟨g,this⟩
  have hS0:z9q_ w.heap.size w1 gd d:=hd.nm HNE.out
  clear hd
  go_wp2_with fail
  go_loopg [25] d.length (fun gk i wr=>∃ k:Nat,k≤d.length∧i= .int .i64 k∧Aside (k+gk=d.length)∧Bel w wr∧z9q_ w.heap.size wr gd (v2_ (z0h_ L) d k)∧Aside (∀ y∈d.take k,∀ z∈y,(z15_ L z).1=0))
  case atStart=>exact⟨0,by omega,rfl,by show _=_;omega,hb1,by rw[z39_];exact hS0,fun y hy=>by simp at hy⟩
  case round=>
   obtain⟨k,hk,rfl,AG,hB,hS,AD⟩:=hrel
   obtain⟨wo,hwo⟩:∃ wo,wo=wr:=⟨_,rfl⟩
   subst hwo
   by_cases hlt:k<d.length
   ·obtain⟨q,rfl⟩:∃ q,gk=q+1:=⟨gk - 1,by have:=AG.out;omega⟩
    obtain⟨LM,hL,hNM⟩:=hS
    have hLlen:LM.length=d.length:=by have:=congrArg List.length hL;rw[List.length_map,z7a_] at this;exact this
    obtain⟨⟨g,cap,p⟩,hLk⟩:∃ x,LM[k]?=some x:=⟨_,List.getElem?_eq_getElem (by omega)⟩
    have hpk:d[k]=p:=by
     have h1:(LM.map (·.2.2))[k]?=some p:=by rw[List.getElem?_map,hLk];rfl
     rw[hL,z9x_ _ _ _ hlt] at h1
     exact Option.some.inj h1
    have hpm:p∈d:=hpk ▸ List.getElem_mem hlt
    have hx:=hNM.2.2.2 k _ hLk
    simp only at hx
    obtain⟨x1,x2,x3,x4,x5,x6⟩:=hx
    obtain⟨hp4,hpx⟩:=HSM.out p hpm
    have HL:=hiD hL
    have HLK:=hiD hLk
    have HPX:=hiD hpx
    have HPK:=hiD hpk
    have hgd:=hNM.1
    clear hL hLk hpx hpk
    go_wp2_with fail
    go_loopg [32] p.length (fun gk i wi=>∃ j:Nat,j≤p.length∧i= .int .i64 j∧Aside (j+gk=p.length)∧wo.grownBy wi (some g)∧RowA wi g (v2_ (zdt_ L) p j)∧Aside (∀ y∈p.take j,(z15_ L y).1=0))
    case atStart=>exact⟨0,by omega,rfl,by show _=_;omega,World.grownBy.refl _ _,by rw[z39_];exact x3,fun y hy=>by simp at hy⟩
    case round=>
     obtain⟨j,hj,rfl,AG2,hgi,hR,AP⟩:=hrel
     by_cases hjl:j<p.length
     ·obtain⟨q2,rfl⟩:∃ q2,gk=q2+1:=⟨gk - 1,by have:=AG2.out;omega⟩
      have hAt:=z9x_ (zdt_ L) p j hjl
      have ha:=hR.at2 hAt
      obtain⟨d0,d1,z0,z1⟩:=ha
      obtain⟨l64,l1024⟩:=HPX.out p[j] (List.getElem_mem hjl)
      have hlen:=z7a_ (zdt_ L) p j
      have HSU:=hiD (z2r_ (zdt_ L) p j hjl)
      have HR:=hiD hR
      have HGI:=hiD hgi
      have hglt:g<wr.heap.size:=z9_ d0
      have hBr:Bel w wr:=hB.grown hgi hB.size (fun k hk=>by cases hk;exact x5)
      have hBA:=hBr.alloc hBr.size (.cells #[.string ⟨p[j].1.toArray⟩,.string ⟨p[j].2.toArray⟩] 189)
      have kA:=Bk.new wr 189 #[.string ⟨p[j].1.toArray⟩,.string ⟨p[j].2.toArray⟩]
      have HBA:=hiD hBA
      have HKA:=hiD kA
      have HFAIL:Hid ((z15_ L p[j]).1≠0→z37_ L x=((z15_ L p[j]).1,[])):=hiD fun h=>HKF.out k hlt p j hjl HPK.out AD.out AP.out h
      clear hR hgi hBr hBA kA
      cases hf:zk_ L false p[j].1 with
      |none=>
       have hfail:z37_ L x=(52,[]):=by
        have he:(z15_ L p[j]).1=52:=by rw[zex_,z7m_ hf]
        rw[HFAIL.out (by rw[he];decide),he]
       have HF:=hiD hfail
       have HC:=hiD (HAN.out p[j].1 _ HBA.out l64 hf)
       clear hfail hf
       go_wp2_with (go_at_call 83;refine HC.out.mono ?_;rintro e w2 ⟨rfl,hb2⟩)
       go_ret2
       rw[HF.out]
       exact⟨rfl,HBA.out.trans ((hb2.alloc hb2.size _).mono HBA.out.size)⟩
      |some i=>
       obtain⟨a,hca⟩:=HK.out _ _ hf
       have hnm:z0u_ L p[j].1=a.name:=zf6_ hf hca
       have hnl:a.name.length≤1000000:=by rw[← hnm];exact HNM.out _
       have hav:z15_ L p[j]=((qi_ L p[j].1 p[j].2).1,(z2_ a.name,(qi_ L p[j].1 p[j].2).2)):=by rw[zex_,hnm]
       have hNT:=fun W h=>HNT.out p[j].1 p[j].2 W h l64
       have HC:=hiD (HAS.out p[j].1 i a _ HBA.out l64 hf hca)
       unfold jv_ z8_ at HC
       generalize qi_ L p[j].1 p[j].2=nr at hav hNT
       obtain⟨ne,ns⟩:=nr
       simp only at hav hNT
       have HNT2:=hiD hNT
       have HAV:=hiD hav
       clear hNT hav hnm hf hca
       by_cases hne:ne=0
       ·subst hne
        go_wp2_with (first|(go_at_call 83;refine HC.out.mono ?_;rintro e w2 ⟨A,n,c,rfl,hb2⟩;have kA2:=HKA.out.below hb2;have hB2:=tQ HBA.out hb2;have f0:=fun z=>(kA2.alloc z).cell 0;have f1:=fun z=>(kA2.alloc z).cell 1;simp only[gs3] at f0 f1)|(go_at_call 145;refine(HNT2.out _ (hB2.alloc hB2.size _)).mono ?_;rintro e w4 ⟨rfl,hb4⟩;have hB4:=(hB2.alloc hB2.size _).trans (hb4.mono (hB2.alloc hB2.size _).size);have n4:=(hb4.cell (p:=⟨w2.heap.size,1,none⟩) (by show w2.heap.size<_;rw[World.size_alloc];omega)).trans ((Bk.new w2 _ _).cell 1);simp only[gs3] at n4;have g4:wr.grownBy w4 none:=gT (World.grownBy_alloc _ _ _) (gT (z1_ hb2 none) (gT (World.grownBy_alloc _ _ _) (z1_ hb4 none))))|(go_at_call 116;refine(xt_ _ _ (by omega)).mono ?_;rintro e w5 ⟨rfl,hb5⟩;have g5:=gT g4 (z1_ hb5 none);have hR5:=HR.out.keep g5 (by simp);have ss:=zf2_ w5 g j _ hR5 (by omega);have s0:=(ss (.string ⟨(z2_ a.name).toArray⟩)).1;have s1:=(ss (.string ⟨(z2_ a.name).toArray⟩)).2.1;have s2:=(ss (.string ⟨(z2_ a.name).toArray⟩)).2.2.1;have s3:=(ss (.string ⟨(z2_ a.name).toArray⟩)).2.2.2))
        go_roundg q2
        case measure=>omega
        case rel=>
         refine⟨j+1,by omega,by go_num,by have:=AG2.out;show _=_;omega,gT HGI.out (gT (vh_ g5 _) (gT (z6_ _ _ _ _) (z6_ _ _ _ _))),?_,?_⟩
         ·have h:=hR5.set (j:=j) (by omega) (z2_ a.name,ns)
          rw[← HSU.out,show zdt_ L p[j]=(z2_ a.name,ns) by unfold zdt_;rw[HAV.out]]
          exact h
         ·exact vc_ hjl AP.out (by rw[HAV.out])
       ·have hfail:z37_ L x=(ne,[]):=by
         have he:(z15_ L p[j]).1=ne:=by rw[HAV.out]
         rw[HFAIL.out (by rw[he];exact hne),he]
        have HF:=hiD hfail
        have hq:((ne:Int) !=0)=true:=bne_iff_ne.2 hne
        clear hfail hne
        go_wp2_with (first|(go_at_call 83;refine HC.out.mono ?_;rintro e w2 ⟨A,n,c,rfl,hb2⟩;have kA2:=HKA.out.below hb2;have hB2:=tQ HBA.out hb2;have f0:=fun z=>(kA2.alloc z).cell 0;have f1:=fun z=>(kA2.alloc z).cell 1;simp only[gs3] at f0 f1)|(go_at_call 145;refine(HNT2.out _ (hB2.alloc hB2.size _)).mono ?_;rintro e w4 ⟨rfl,hb4⟩))
        go_ret2
        rw[HF.out]
        exact⟨rfl,(hB2.alloc hB2.size _).trans (hb4.mono (hB2.alloc hB2.size _).size)⟩
     ·obtain rfl:j=p.length:=by omega
      have hRp:RowA wr g (p.map (zdt_ L)):=by rw[z6l_] at hR;exact hR
      have hPart:=zi7_ (p.map (zdt_ L)) g cap wr hRp (by simp;omega) (by simp;exact x4)
      rw[List.length_map] at hPart
      have hPart':Calls Tryz.prog 146 #[.slice (some ⟨g,0,none⟩) p.length cap] wr fun e w'=>e= .returned (.slice (some ⟨g,0,none⟩) (z0h_ L p).length cap)∧RowA w' g (z0h_ L p)∧wr.grownBy w' (some g):=hPart
      have hnl:(z0h_ L p).length≤p.length:=by have:=vb_ (p.map (zdt_ L));rw[List.length_map] at this;exact this
      have HGI:=hiD hgi
      have HAP:Hid (∀ z∈p,(z15_ L z).1=0):=hiD (by have:=AP.out;rw[List.take_length] at this;exact this)
      clear hRp hPart hR hgi AP
      go_wp2_with fail
      refine hPart'.mono ?_
      rintro e w7 ⟨rfl,hR7,hg7⟩
      have g7:=gT HGI.out hg7
      have c7:w7.cell? ⟨gd,k,none⟩=some (.slice (some ⟨g,0,none⟩) p.length cap):=g7.cell x1 (by intro e;exact x6 (Option.some.inj e).symm)
      have z7:w7.frozen? ⟨gd,k,none⟩=false:=(World.frozen?_of_block (a:=⟨gd,k,none⟩) (g7.block gd hgd (by intro e;exact x6 (Option.some.inj e).symm))).trans x2
      have hNM7:=hNM.part HLK.out g7 hR7 (nT hnl x4)
      have hB7:Bel w w7:=hB.grown g7 hB.size (fun k hk=>by cases hk;exact x5)
      have hgdB:=hNM.2.1
      have HNM7:=hiD hNM7
      have HB7:=hiD hB7
      clear hNM7 hB7
      go_wp2_with fail
      go_roundg q
      case measure=>omega
      case rel=>
       refine⟨k+1,by omega,by go_num,by have:=AG.out;show _=_;omega,HB7.out.setCell hgdB _,⟨_,?_,HNM7.out⟩,?_⟩
       ·rw[List.map_set,HL.out]
        show (v2_ (z0h_ L) d k).set k (z0h_ L p)=_
        rw[← HPK.out]
        exact z2r_ (z0h_ L) d k hlt
       ·exact vc_ (P:=fun y=>∀ z∈y,(z15_ L z).1=0) hlt AD.out (by rw[HPK.out];exact HAP.out)
   ·obtain rfl:k=d.length:=by omega
    obtain⟨LM,hL,hNM⟩:=hS
    rw[z6l_] at hL
    have hLlen:LM.length=d.length:=by have:=congrArg List.length hL;simpa using this
    have hall:∀ y∈d,∀ z∈y,(z15_ L z).1=0:=by have:=AD.out;rw[List.take_length] at this;exact this
    have hfin:=HKO.out hall
    have hdr:=hNM.dnR (c:=c0) (by omega)
    rw[hL,hLlen] at hdr
    have hPr:=z45_ (d.map (z0h_ L)) (.slice (some ⟨gd,0,none⟩) d.length c0) wo (hw.keep hB) hdr (by simp;omega) (fun p hp=>by
     obtain⟨p0,hp0,rfl⟩:=List.mem_map.1 hp
     obtain⟨h4,hx⟩:=HSM.out p0 hp0
     have:=vb_ (p0.map (zdt_ L))
     rw[List.length_map] at this
     refine⟨by unfold z0h_;omega,fun x hx'=>?_⟩
     have:=z5k_ _ x hx'
     obtain⟨y,hy,rfl⟩:=List.mem_map.1 this
     show (z2_ (z0u_ L y.1)).length≤_
     rw[z3i_]
     exact HNM.out _)
    rw[← hfin] at hPr
    obtain⟨pr,hpr⟩:∃ pr,z37_ L x=pr:=⟨_,rfl⟩
    rw[hpr] at hPr
    have HF:=hiD hpr
    clear hpr
    obtain⟨pe,ps⟩:=pr
    simp only[z0r_] at hPr
    have HPr:=hiD hPr
    clear hPr hdr hL hNM hfin hall AD
    go_wp2_with (go_at_call 147;refine HPr.out.mono ?_;rintro e w2 ⟨rfl,hb2⟩)
    go_ret2
    rw[HF.out]
    exact⟨rfl,tQ hB hb2⟩
open Go.RowKit
open Go.RowKit
theorem zdr_ {B:Nat} (w:World) (hB:B≤w.heap.size) (xs:LL) (hx:xs.length≤1000000):Own B (w.alloc (.cells (xs.map qm_).toArray 9)) (.slice (some ⟨w.heap.size,0,none⟩) xs.length xs.length) xs:=by
 refine⟨⟨by simp,.inr ⟨w.heap.size,xs.length,(xs.map qm_).toArray,rfl,hB,heap_alloc_new w _,nR _,by unfold maxLen;omega,by simp,?_⟩⟩,by rw[World.size_alloc];omega⟩
 show (List.take (xs.length * 1) _)=_
 rw[List.take_of_length_le (by simp)]
theorem Base_w (w:World):Calls Tryz.prog 55 #[] w fun e w'=>e= .returned (.tuple #[.slice (some ⟨w.heap.size,0,none⟩) 18 18,.slice (some ⟨w.heap.size+1,0,none⟩) 10 10])∧(w.alloc (.cells (baseA.map qm_).toArray 9)).alloc (.cells (baseC.map qm_).toArray 9)=w':=by
 go_enter Tryz.func55,Tryz.ntmps55
 go_wp2_with fail
 go_ret2
 exact⟨rfl,rfl⟩
theorem Base_c (w:World):Calls Tryz.prog 55 #[] w fun e w'=>e= .returned (.tuple #[.slice (some ⟨w.heap.size,0,none⟩) 18 18,.slice (some ⟨w.heap.size+1,0,none⟩) 10 10])∧Bel w w'∧Own w.heap.size w' (.slice (some ⟨w.heap.size,0,none⟩) 18 18) baseA∧Own (w.heap.size+1) w' (.slice (some ⟨w.heap.size+1,0,none⟩) 10 10) baseC:=by
 refine(Base_w w).mono ?_
 rintro e w' ⟨rfl,rfl⟩
 have h1:=zdr_ (B:=w.heap.size) w (nR _) baseA (by decide)
 have h2:=zdr_ (B:=w.heap.size+1) (w.alloc (.cells (baseA.map qm_).toArray 9)) (by rw[World.size_alloc];omega) baseC (by decide)
 rw[World.size_alloc] at h2
 exact⟨rfl,((bR _ _).alloc (nR _) _).alloc (by simp) _,h1.below ((bR _ _).alloc (nR _) _),h2⟩
open Go.RowKit
structure Sound (L:List DefS):Prop where
 says:NewSays L
 lim:∀ d∈L,DefLim d
 rul:∀ d∈L,RuleLim d
theorem Sound.counts {L:List DefS} (h:Sound L) (t:LU) (i:Nat) (hf:zk_ L false t=some i):∃ a,q9_ L i=some a:=by
 obtain⟨d,hd,hc,_⟩:=z1c_ hf
 exact h.says.counts hd hc
theorem ze0_ {a c:LL} {L:List DefS} (h:z98_ a c= .inr L):q8_ a.length 0 (a++c) []= .inr L:=by
 unfold z98_ at h
 split at h
 ·cases h
 ·split at h
  ·cases h
  ·next L' hr=>
   split at h
   ·cases h
   ·split at h
    ·cases h
    ·split at h
     ·cases h
     ·cases h
      exact hr
theorem zhg_ {a c:LL} {L:List DefS} (h:z98_ a c= .inr L) (hs:∀ x∈a++c,x.length≤1000000):Sound L:=by
 have hl:=z1f_ _ _ _ _ _ hs (fun d hd=>by simp at hd) (ze0_ h)
 exact⟨zcl_ h,fun d hd=>(hl.1 d hd).1,fun d hd=>(hl.1 d hd).2⟩
theorem z34_:∀ x∈baseA++baseC,x.length≤1000:=by decide+kernel
theorem zc7_:baseA.length=18:=rfl
theorem zd1_:baseC.length=10:=rfl
theorem base_sound:Sound xq_:=zhg_ z9m_ (fun x hx=>nT (z34_ x hx) (by decide))
theorem Key_c (s:Nat) (ps:List Nat) (L:List DefS) (hL:Sound L) (x:LU) (w:World) (hw:Env w) (hS:SchAt w s ps L):
  Calls Tryz.prog 81 #[z7_ s,.string ⟨x.toArray⟩] w fun e w'=>e= .returned (z0r_ (z37_ L x))∧Bel w w':=by
 by_cases h:(zd_ x).1=0
 ·exact Key_ok s ps L hL.lim hL.rul hL.counts x w hw hS (zd_ x).2 (by rw[← h])
 ·exact zj2_ s L x w hw h
open Go.RowKit
def TextsA (w:World) (v:Value) (xs:LL):Prop:=
 (xs=[]∧v= .slice none 0 0)∨∃ (a:Addr) (c:Nat),v= .slice (some a) xs.length c∧xs.length≤c∧∀ j (hj:j<xs.length),w.cell? (a.add j)=some (.string ⟨xs[j].toArray⟩)
theorem TextsA.below {w w':World} {v:Value} {xs:LL} (h:TextsA w v xs) (hb:Bel w w'):TextsA w' v xs:=by
 rcases h with h|⟨a,c,rfl,hc,hx⟩
 ·exact .inl h
 ·exact .inr ⟨a,c,rfl,hc,fun j hj=>(hb.cell (z9_ (hx j hj))).trans (hx j hj)⟩
theorem zp_ {w:World} {v:Value} {xs:LL} (h:Texts w v xs):TextsA w v xs:=by
 rcases h with ⟨rfl,rfl⟩|⟨b,c,rfl,hc,hlt,hx⟩
 ·exact .inl ⟨rfl,rfl⟩
 ·exact .inr ⟨⟨b,0,none⟩,c,rfl,hc,fun j hj=>by rw[kp_];exact hx j hj⟩
theorem TextsA.at {w:World} {v:Value} {xs:LL} (h:TextsA w v xs):∃ A c,v= .slice A xs.length c∧xs.length≤c∧(∀ j (hj:j<xs.length),∃ a,A=some a∧w.cell? (a.add j)=some (.string ⟨xs[j].toArray⟩)):=by
 rcases h with ⟨rfl,rfl⟩|⟨a,c,rfl,hc,hcell⟩
 ·exact⟨_,_,rfl,Nat.zero_le _,fun j hj=>by simp at hj⟩
 ·exact⟨_,_,rfl,hc,fun j hj=>⟨a,rfl,hcell j hj⟩⟩
end Go.Proofs.YtakfpngfpknedaaGreatDoor
set_option linter.all false
namespace Go.Proofs.YtakfpngfpknedaaGreatDoor
open Go.RowKit
theorem z3c_ (k:LU) (v:Value):∀ (es:List MapEntry) (R:List (LU × Value)) (i:Nat),es.map (fun e=>(e.key,e.val))=R.map (fun x=>(qm_ x.1,x.2))→qe_ R k=some v→
  ∃ j e,Instr.findNow .string (qm_ k) es i=some (some (i+j,v))∧es[j]?=some e∧e.key=qm_ k∧e.val=v
 |[],[],i,_,hl=>by cases hl
 |[],_::_,i,h,_=>by simp at h
 |_::_,[],i,h,_=>by simp at h
 |e::es,x::R,i,h,hl=>by
  simp only[List.map_cons,List.cons.injEq,Prod.mk.injEq] at h
  rw[qe_] at hl
  by_cases hx:k=x.1
  ·rw[if_pos hx] at hl
   cases hl
   refine⟨0,e,?_,rfl,by rw[h.1.1,hx],h.1.2⟩
   simp only[Instr.findNow,h.1.1,z7h_,hx,decide_true]
   rw[← h.1.2]
   rfl
  ·rw[if_neg hx] at hl
   obtain⟨j,e',hr,h1,h2,h3⟩:=z3c_ k v es R (i+1) h.2 hl
   refine⟨j+1,e',?_,by simpa using h1,h2,h3⟩
   simp only[Instr.findNow,h.1.1,z7h_,hx,decide_false]
   rw[hr,show i+1+j=i+(j+1) by omega]
theorem z5p_ {β:Type} {es:Array MapEntry} {i:Nat} {f:MapEntry→MapEntry} {g:MapEntry→β} (h:∀ e,es.toList[i]?=some e→g (f e)=g e):(es.modify i f).toList.map g=es.toList.map g:=by
 rw[Array.toList_modify]
 apply List.ext_getElem?
 intro j
 rw[List.getElem?_map,List.getElem?_map,List.getElem?_modify]
 cases hj:es.toList[j]? with
 |none=>rfl
 |some e=>
  by_cases hij:i=j
  ·subst hij
   simp [h e hj]
  ·simp [hij]
theorem zi6_ (a:ByteArray):(a==a)=true:=by
 cases a with
 |mk d=>exact beq_self_eq_true d
theorem zd6_ {w:World} {T E:TypeId} {m c:Nat} {es:Array MapEntry} {R:List (LU × Value)} (hT:Tryz.prog.underlying T=some (.map 9 E)) (h1:w.heap[m]?=some (.map es c)) (h2:MapR qm_ es R) (k:LU) (v:Value) (hl:qe_ R k=some v):
  ∃ es',(Instr.mapUpdate T (.map (some m)) (qm_ k) v).run Tryz.prog w= .ok () (World.setMap w m es' c)∧MapR qm_ es' R:=by
 obtain⟨es⟩:=es
 have h2':=h2
 unfold MapR at h2
 dsimp only at h2
 obtain⟨j,e,hr,g1,g2,g3⟩:=z3c_ k v es R 0 h2 hl
 rw[Nat.zero_add] at hr
 have hf:(Instr.findKey 9 (qm_ k) es).run Tryz.prog w= .ok (some (j,v)) w:=by
  unfold Instr.findKey
  simp only[Sem.run_bind,run_underlying Tryz.underlying9,Result.andThen_ok]
  rw[hr]
  rfl
 have hkeep:Instr.sameBits 10000 (qm_ k) (qm_ k)=true:=by
  unfold qm_
  simp [Instr.sameBits]
  exact zi6_ _
 refine⟨Array.modify ⟨es⟩ j fun e=>{e with key:=qm_ k,val:=v},?_,?_⟩
 ·unfold Instr.mapUpdate
  simp only[Sem.run_bind,run_underlying hT,Result.andThen_ok]
  have hes:((⟨es⟩:Array MapEntry)[j]?).map (·.key)=some (qm_ k):=by
   rw[List.getElem?_toArray,g1,Option.map_some,g2]
  simp only[getObj,Sem.run,Sem.run_bind,h1,Result.andThen_ok,y2_,hf,setObj,World.setMap,hes,Option.getD_some,Instr.keyThatStays,hkeep,if_true,pure,Sem.run_pure]
  try rfl
 ·unfold MapR
  rw[z5p_ (fun e' he'=>?_)]
  ·exact h2
  ·have he:e'=e:=by
    have:es[j]?=some e':=he'
    rw[g1] at this
    exact(Option.some.inj this).symm
   subst he
   simp [g2,g3]
theorem z6e_ (w:World):(zeroValue 58).run Tryz.prog w= .ok (.agg #[]) w:=by kernel_rfl
theorem z48_:Tryz.prog.underlying 50=some (.map 9 58):=Tryz.underlying50
def SeenS (w:World) (m:Nat) (xs:LL):Prop:=∃ es c R,w.heap[m]?=some (.map es c)∧MapR qm_ es R∧∀ n,qe_ R n=if xs.contains n=true then some (.agg #[]) else none
theorem SeenS.made (w:World):SeenS (w.alloc (.map #[] 0)) w.heap.size []:=⟨#[],0,[],heap_alloc_new w _,rfl,fun n=>by simp [qe_]⟩
theorem SeenS.keep {w w':World} {m:Nat} {xs:LL} (h:SeenS w m xs) (he:w'.heap[m]?=w.heap[m]?):SeenS w' m xs:=by
 obtain⟨es,c,R,h1,h2,h3⟩:=h
 exact⟨es,c,R,he.trans h1,h2,h3⟩
theorem SeenS.lt {w:World} {m:Nat} {xs:LL} (h:SeenS w m xs):m<w.heap.size:=by
 obtain⟨es,c,R,h1,_⟩:=h
 exact(Array.getElem?_eq_some_iff.1 h1).1
theorem SeenS.ask {w:World} {m:Nat} {xs:LL} (h:SeenS w m xs) (n:LU):
  (Instr.lookup 50 (.map (some m)) (.string ⟨n.toArray⟩) true).run Tryz.prog w= .ok (.tuple #[.agg #[],.bool (xs.contains n)]) w:=by
 obtain⟨es,c,R,h1,h2,h3⟩:=h
 have:=z1m_ z48_ yr_ y2_ z6e_ w m c es R h1 h2 n
 rw[h3 n] at this
 rw[show (Value.string ⟨n.toArray⟩)=qm_ n from rfl,this]
 cases xs.contains n<;>rfl
theorem zb2_ (R:List (LU × Value)) (k n:LU) (v:Value):qe_ (R++[(k,v)]) n=(qe_ R n).or (if n=k then some v else none):=by
 induction R with
 |nil=>simp [qe_]
 |cons x R ih=>
  rw[List.cons_append,qe_,qe_]
  split
  ·simp
  ·exact ih
theorem SeenS.put {w:World} {m:Nat} {xs:LL} (h:SeenS w m xs) (n:LU):
  ∃ W,(Instr.mapUpdate 50 (.map (some m)) (.string ⟨n.toArray⟩) (.agg #[])).run Tryz.prog w= .ok () W∧SeenS W m (n::xs)∧w.grownBy W (some m):=by
 obtain⟨es,c,R,h1,h2,h3⟩:=h
 have hlt:=(Array.getElem?_eq_some_iff.1 h1).1
 cases hc:xs.contains n with
 |false=>
  have hn:qe_ R n=none:=by rw[h3,hc];rfl
  refine⟨_,z4r_ z48_ yr_ y2_ w m c es R h1 h2 n (.agg #[]) hn,⟨_,c+1,_,jg_ hlt,h2.push n (.agg #[]) c,fun x=>?_⟩,q3_ _ _ _ _⟩
  rw[zb2_,h3 x,List.contains_cons]
  by_cases hx:x=n
  ·subst hx
   rw[hc]
   simp
  ·have:(x==n)=false:=beq_eq_false_iff_ne.2 hx
   rw[this,if_neg hx]
   simp
 |true=>
  have hn:qe_ R n=some (.agg #[]):=by rw[h3,hc];rfl
  obtain⟨es',hr,hR⟩:=zd6_ z48_ h1 h2 n (.agg #[]) hn
  refine⟨_,hr,⟨es',c,R,jg_ hlt,hR,fun x=>?_⟩,q3_ _ _ _ _⟩
  rw[h3 x,List.contains_cons]
  by_cases hx:x=n
  ·subst hx
   rw[hc]
   simp
  ·have:(x==n)=false:=beq_eq_false_iff_ne.2 hx
   rw[this]
   simp
open Go.RowKit
theorem z9y_ (l:Array Bool) (i:Nat) (h:l.getD i true=false):(l.setIfInBounds i true).toList.count false+1=l.toList.count false:=by
 have hi:i<l.size:=by
  apply Nat.lt_of_not_le
  intro hn
  rw[Array.getD_eq_getD_getElem?,Array.getElem?_eq_none hn] at h
  cases h
 have he:l.toList[i]'(by simpa using hi)=false:=by
  rw[Array.getD_eq_getD_getElem?,Array.getElem?_eq_getElem hi] at h
  simpa using h
 have hm:false∈l.toList:=he ▸ List.getElem_mem _
 have hp:=List.count_pos_iff.2 hm
 rw[Array.toList_setIfInBounds,List.count_set (h:=by simpa using hi),he]
 rw[if_pos (by rfl),if_neg (by decide)]
 omega
section
variable {P:Program} {ops:Array Oper} {Q:Exit→Act→World→Prop} {md:Region.Mode} {S:World→Prop}
theorem z3e_ {l:Array Bool} (h:l.toList.count false=0):Region.ready md ops l=[]:=by
 refine List.eq_nil_iff_forall_not_mem.2 fun i hi=>?_
 have h1:=(mem_ready.1 hi).1
 have:=z9y_ l i h1
 omega
theorem zj_ {l:Array Bool} {k:Nat} (hi:k∈Region.ready md ops l) (j:Nat) (hd:((ops[k]?).map fun o=>o.after.any fun e=>Region.binds md e && e.on==j).getD false=true):l.getD j false=true:=by
 obtain⟨_,o,ho,hall⟩:=mem_ready.1 hi
 rw[ho] at hd
 obtain⟨e,he,h2⟩:=Array.any_eq_true'.1 hd
 rw[Bool.and_eq_true,beq_iff_eq] at h2
 rw[← h2.2]
 exact hall e he h2.1
theorem zek_ (hd:((List.range ops.size).all fun i=>((ops[i]?).map fun o=>o.after.all fun e=>decide (e.on<i)).getD true)=true) {l:Array Bool} (hl:l.size=ops.size) (hr:Region.ready md ops l=[]):∀ i,i<ops.size→l.getD i false=true:=by
 intro i
 induction i using Nat.strongRecOn with
 |_ i ih=>
  intro hi
  cases hb:l.getD i true with
  |true=>
   rw[Array.getD_eq_getD_getElem?,Array.getElem?_eq_getElem (by omega)] at hb ⊢
   exact hb
  |false=>
   have:i∈Region.ready md ops l:=mem_ready.2 ⟨hb,ops[i],Array.getElem?_eq_getElem hi,fun e he _=>by
    have h1:=List.all_eq_true.1 hd i (List.mem_range.2 hi)
    rw[Array.getElem?_eq_getElem hi] at h1
    have h2:=of_decide_eq_true (Array.all_eq_true_iff_forall_mem.1 h1 e he)
    exact ih e.on h2 (by omega)⟩
   rw[hr] at this
   cases this
theorem z3v_ (I:Array Bool→Act→World→Prop) (hS:∀ l a w,I l a w→S w) (hlast:∀ l a w,I l a w→Region.ready md ops l=[]→Q .normal a w)
  (hstep:∀ l a w i,I l a w→i∈Region.ready md ops l→wpOp P ops Q i (fun a' w'=>I (l.setIfInBounds i true) a' w') a w):
  ∀ (fuel:Nat) (l:Array Bool) (a:Act) (w:World),l.toList.count false≤fuel→I l a w→wpAnyH P md ops Q S fuel l a w
 |0,l,a,w,hf,h=>⟨z3e_ (by omega),hlast l a w h (z3e_ (by omega))⟩
 |fuel+1,l,a,w,hf,h=>by
  refine⟨fun hr=>hlast l a w h hr,fun i hi=>?_⟩
  have hc:=z9y_ l i (mem_ready.1 hi).1
  exact wpOp_mono (fun a' w' h'=>⟨hS _ _ _ h',z3v_ I hS hlast hstep fuel _ a' w' (by omega) h'⟩) (hstep l a w i h hi)
variable {i:Nat} {o:Oper} {a:Act} {w w':World} {K:Act→World→Prop}
theorem z42_ {v:Value} (hi:ops[i]?=some o) (hg:o.guard=none) (he:(execOp a.eval o).run P w= .ok (.value v) w') (h:K (a.put o.dst v) w'):wpOp P ops Q i K a w:=by
 unfold wpOp
 simp only[hi]
 rw[if_pos (by simp [Region.wanted,hg])]
 left
 unfold Oper.wp
 rw[he]
 simp only[Oper.upon]
 exact h
theorem qc_ (hi:ops[i]?=some o) (hg:o.guard=none) (he:(execOp a.eval o).run P w= .ok .skip w') (h:K (a.put o.dst undef) w'):wpOp P ops Q i K a w:=by
 unfold wpOp
 simp only[hi]
 rw[if_pos (by simp [Region.wanted,hg])]
 left
 unfold Oper.wp
 rw[he]
 simp only[Oper.upon]
 exact h
theorem xn_ {f:FuncId} {args:Array Value} {R:Ending→World→Prop} (hi:ops[i]?=some o) (hg:o.guard=none) (he:(execOp a.eval o).run P w= .ok (.enter f args) w) (hc:Calls P f args w R) (h:∀ e w',R e w'→∃ v,e= .returned v∧K (a.put o.dst v) w'):wpOp P ops Q i K a w:=by
 unfold wpOp
 simp only[hi]
 rw[if_pos (by simp [Region.wanted,hg])]
 left
 unfold Oper.wp
 rw[he]
 simp only[Oper.upon]
 refine hc.mono fun e w' hr=>?_
 obtain⟨v,rfl,hk⟩:=h e w' hr
 exact hk
end
end Go.Proofs.YtakfpngfpknedaaGreatDoor
