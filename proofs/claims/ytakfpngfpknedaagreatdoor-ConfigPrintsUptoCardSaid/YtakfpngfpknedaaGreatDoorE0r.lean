import Derived.Test.YtakfpngfpknedaaGreatDoorE0a
import Derived.Outline
set_option linter.all false
set_option maxHeartbeats 8000000
set_option maxRecDepth 100000
namespace Go.Proofs.YtakfpngfpknedaaGreatDoor
open Go.RowKit Go.Sort
def xs_ (w:World) (o:Option LU) (e:Ending) (w':World):Prop:=
 Bel w w'∧∃ r,e= .returned (.tuple #[.string ⟨r.toArray⟩,.bool o.isSome])∧∀ m,o=some m→r=m
theorem RowA.setT {w:World} {g:Nat} {l:List (LU × LU)} (h:RowA w g l) {j:Nat} (hj:j<l.length) (t:LU):
  RowA (w.setCell ⟨g,j * 2,none⟩ (.string ⟨t.toArray⟩)) g (l.set j (t,l[j].2)):=by
 have hc:=h.at2 (List.getElem?_eq_getElem hj)
 refine⟨by simp [World.setCell];exact h.1,fun i y hi=>?_⟩
 rw[World.frozen?_setCell,World.frozen?_setCell]
 rw[List.getElem?_set] at hi
 by_cases hij:j=i
 ·subst hij
  rw[if_pos rfl,if_pos hj] at hi
  cases hi
  rw[Nat.mul_comm 2 j]
  exact⟨⟨v9_ _ _ _ _ _ hc.1,hc.2.2.1⟩,(zy_ _ _ _ _ _ (by omega)).trans hc.2.1,hc.2.2.2⟩
 ·rw[if_neg hij] at hi
  have hx:=h.2 i y hi
  exact⟨⟨(zy_ _ _ _ _ _ (by omega)).trans hx.1.1,hx.1.2⟩,(zy_ _ _ _ _ _ (by omega)).trans hx.2.1,hx.2.2⟩
theorem RowA.setV {w:World} {g:Nat} {l:List (LU × LU)} (h:RowA w g l) {j:Nat} (hj:j<l.length) (t:LU):
  RowA (w.setCell ⟨g,j * 2+1,none⟩ (.string ⟨t.toArray⟩)) g (l.set j (l[j].1,t)):=by
 have hc:=h.at2 (List.getElem?_eq_getElem hj)
 refine⟨by simp [World.setCell];exact h.1,fun i y hi=>?_⟩
 rw[World.frozen?_setCell,World.frozen?_setCell]
 rw[List.getElem?_set] at hi
 by_cases hij:j=i
 ·subst hij
  rw[if_pos rfl,if_pos hj] at hi
  cases hi
  rw[Nat.mul_comm 2 j]
  exact⟨⟨(zy_ _ _ _ _ _ (by omega)).trans hc.1,hc.2.2.1⟩,v9_ _ _ _ _ _ hc.2.1,hc.2.2.2⟩
 ·rw[if_neg hij] at hi
  have hx:=h.2 i y hi
  exact⟨⟨(zy_ _ _ _ _ _ (by omega)).trans hx.1.1,hx.1.2⟩,(zy_ _ _ _ _ _ (by omega)).trans hx.2.1,hx.2.2⟩
def upto (p:List (LU × LU)) (j:Nat):List (LU × LU):=(p.take j).map z1x_++p.drop j
theorem zfp_ (p:List (LU × LU)) (j:Nat):(upto p j).length=p.length:=by simp [upto];omega
theorem ze2_ (p:List (LU × LU)) (j:Nat) (h:j<p.length):(upto p j)[j]?=some p[j]:=by
 unfold upto
 rw[List.getElem?_append_right (by simp;omega)]
 simp [Nat.min_eq_left (Nat.le_of_lt h)]
theorem ze1_ (p:List (LU × LU)) (j:Nat) (h:j<p.length):(upto p j).set j (z1x_ p[j])=upto p (j+1):=by
 have hl:((p.take j).map z1x_).length=j:=by simp;omega
 unfold upto
 rw[List.set_append_right _ _ (by omega),hl,Nat.sub_self,List.drop_eq_getElem_cons h,List.set_cons_zero,List.take_succ_eq_append_getElem h,List.map_append,List.append_assoc]
 rfl
theorem vh_ {w w':World} (h:w.grownBy w' none) (r:Option Nat):w.grownBy w' r:=⟨h.os,h.tape,h.output,h.size,fun k hk _=>h.block k hk (by simp)⟩
def z9q_ (B:Nat) (w:World) (gd:Nat) (M:List (List (LU × LU))):Prop:=∃ L:List z43_,L.map (·.2.2)=M∧NM B w gd L
theorem zjn_ (s:LU) (w:World) (hw:Env w) (her:(zd_ s).1≠0):
  Calls Tryz.prog 268 #[.string ⟨s.toArray⟩] w (xs_ w (z4a_ s)):=by
 have hP:=kw_ s w hw
 have hno:z4a_ s=none:=by unfold z4a_;rw[if_neg her]
 rw[hno]
 clear hno
 generalize zd_ s=ps at *
 obtain⟨er,d⟩:=ps
 have hbn:((er:Int) !=0)=true:=bne_iff_ne.2 her
 have HP:=hiD hP
 clear hP her
 go_enter Tryz.func268,Tryz.ntmps268
 go_wp2_with (go_at_call 144;refine HP.out.mono ?_;rintro e w1 ⟨hb1,v,rfl,hd⟩;obtain⟨A0,c0,rfl,hc0⟩:=hd.isSlice)
 go_ret2
 exact⟨hb1,_,rfl,by simp⟩
theorem zkl_ (s:LU) (w:World) (hw:Env w) (her:(zd_ s).1=0) (htl:zz_ (zd_ s).2=false):
  Calls Tryz.prog 268 #[.string ⟨s.toArray⟩] w (xs_ w (z4a_ s)):=by
 have hP:=kw_ s w hw
 have hne:=z6d_ (s:=s)
 have hty:=z2o_ (s:=s)
 have hN:z4a_ s=(if (j5_ ((zd_ s).2.map z10_)).1=0 then some (j5_ ((zd_ s).2.map z10_)).2 else none):=by unfold z4a_;rw[if_pos her]
 generalize zd_ s=ps at *
 obtain⟨er,d⟩:=ps
 simp only at hne hty hN her htl
 subst her
 have hbn:((0:Int) !=0)=false:=by decide
 have HN:=hiD hN
 have HP:=hiD hP
 have HNE:=hiD hne
 have hd20:d.length≤20:=by unfold zz_ at htl;simp at htl;omega
 have HSM:Hid (∀ p∈d,p.length≤4∧∀ x∈p,x.1.length≤64∧x.2.length≤1024):=by
  refine hiD fun p hp=>?_
  unfold zz_ at htl
  rw[Bool.or_eq_false_iff] at htl
  have h1:=List.any_eq_false.1 htl.2 p hp
  unfold qq_ at h1
  simp only[Bool.or_eq_true,decide_eq_true_eq,not_or] at h1
  refine⟨by omega,fun x hx=>?_⟩
  have h2:p.any j3_=false:=by simpa using h1.2
  have h3:=List.any_eq_false.1 h2 x hx
  unfold j3_ at h3
  simp at h3
  refine⟨?_,h3⟩
  have h4:=hty p hp x hx
  unfold zc_ at h4
  split at h4
  ·simp at h4
  ·next e=>rw[e];simp only[Bool.and_eq_true,decide_eq_true_eq] at h4;exact h4.1
 clear hN hP hne hty htl
 go_enter Tryz.func268,Tryz.ntmps268
 go_wp2_with fail
 refine HP.out.mono ?_
 rintro e w1 ⟨hb1,v,rfl,hd⟩
 change DnAt w.heap.size w1 v d at hd
 obtain⟨A0,c0,rfl,hc0⟩:=hd.isSlice
 by_cases hdn:d=[]
 ·subst hdn
  have hPr:=z45_ [] (.slice A0 0 c0) w1 (hw.keep hb1) hd.reads (by simp) (by simp)
  rw[show j5_ []=(0,[]) by decide] at hPr
  simp only[z0r_] at hPr
  have HPr:=hiD hPr
  clear hPr
  simp only[List.length_nil]
  go_wp2_with fail
  go_loopg [22] 0 (fun gk i wr=>i= .int .i64 0∧wr=w1)
  case atStart=>exact⟨rfl,rfl⟩
  case round=>
   obtain⟨rfl,rfl⟩:=hrel
   go_wp2_with (go_at_call 147;refine HPr.out.mono ?_;rintro e w2 ⟨rfl,hb2⟩)
   go_ret2
   rw[HN.out]
   exact⟨tQ hb1 hb2,[],rfl,fun m h=>by cases h;decide⟩
 ·have hlpos:0<d.length:=List.length_pos_iff.2 hdn
  obtain⟨gd,rfl⟩:∃ gd,A0=some ⟨gd,0,none⟩:=by
   obtain⟨vs,⟨h1,h2⟩,_⟩:=hd
   rcases h2 with ⟨hv,hn⟩|⟨g,cap,cur,hv,_⟩
   ·have:=(Value.slice.inj hv).2.1;omega
   ·have:=(Value.slice.inj hv).1;exact⟨g,this⟩
  have hS0:z9q_ w.heap.size w1 gd d:=hd.nm HNE.out
  clear hd
  go_wp2_with fail
  go_loopg [22] d.length (fun gk i wr=>∃ k:Nat,k≤d.length∧i= .int .i64 k∧Aside (k+gk=d.length)∧Bel w wr∧z9q_ w.heap.size wr gd ((d.take k).map z10_++d.drop k))
  case atStart=>exact⟨0,by omega,rfl,by show _=_;omega,hb1,by simpa using hS0⟩
  case round=>
   obtain⟨k,hk,rfl,AG,hB,hS⟩:=hrel
   obtain⟨wo,hwo⟩:∃ wo,wo=wr:=⟨_,rfl⟩
   subst hwo
   by_cases hlt:k<d.length
   ·obtain⟨q,rfl⟩:∃ q,gk=q+1:=⟨gk - 1,by have:=AG.out;omega⟩
    obtain⟨L,hL,hNM⟩:=hS
    have hLlen:L.length=d.length:=by have:=congrArg List.length hL;simp at this;omega
    obtain⟨⟨g,cap,p⟩,hLk⟩:∃ x,L[k]?=some x:=⟨_,List.getElem?_eq_getElem (by omega)⟩
    have hpk:d[k]=p:=by
     have h1:(L.map (·.2.2))[k]?=some p:=by rw[List.getElem?_map,hLk];rfl
     rw[hL,List.getElem?_append_right (by simp;omega)] at h1
     simp [Nat.min_eq_left hk,List.getElem?_eq_getElem hlt] at h1
     exact h1
    have hpm:p∈d:=hpk ▸ List.getElem_mem hlt
    have hx:=hNM.2.2.2 k _ hLk
    simp only at hx
    obtain⟨x1,x2,x3,x4,x5,x6⟩:=hx
    obtain⟨hp4,hpx⟩:=HSM.out p hpm
    have HL:=hiD hL
    have HLK:=hiD hLk
    have HPX:=hiD hpx
    have HPK:=hiD hpk
    have hgd:=hNM.1
    clear hL hLk hpx hpk
    go_wp2_with fail
    go_loopg [29] p.length (fun gk i wi=>∃ j:Nat,j≤p.length∧i= .int .i64 j∧Aside (j+gk=p.length)∧wo.grownBy wi (some g)∧RowA wi g (upto p j))
    case atStart=>exact⟨0,by omega,rfl,by show _=_;omega,World.grownBy.refl _ _,by simpa [upto] using x3⟩
    case round=>
     obtain⟨j,hj,rfl,AG2,hgi,hR⟩:=hrel
     by_cases hjl:j<p.length
     ·obtain⟨q2,rfl⟩:∃ q2,gk=q2+1:=⟨gk - 1,by have:=AG2.out;omega⟩
      have ha:=hR.at2 (ze2_ p j hjl)
      obtain⟨d0,d1,z0,z1⟩:=ha
      obtain⟨l64,l1024⟩:=HPX.out p[j] (List.getElem_mem hjl)
      have hlen:=zfp_ p j
      have hsetT:=fun t=>RowA.setT (w:=wr) hR (j:=j) (by omega) t
      have hAt:=ze2_ p j hjl
      have HSU:=hiD (ze1_ p j hjl)
      have HAT:=hiD hAt
      have HR:=hiD hR
      have HGI:=hiD hgi
      have hnA:z1x_ p[j]=(z2_ p[j].1,(z1g_ p[j].2 true).getD p[j].2):=rfl
      have HNA:=hiD hnA
      clear hAt hsetT hnA hR hgi
      have hglt:g<wr.heap.size:=z9_ d0
      go_wp2_with fail
      have kA:=Bk.new wr 189 #[.string ⟨p[j].1.toArray⟩,.string ⟨p[j].2.toArray⟩]
      have hgA:=World.grownBy_alloc wr (.cells #[.string ⟨p[j].1.toArray⟩,.string ⟨p[j].2.toArray⟩] 189) none
      refine(xt_ _ _ (by omega)).mono ?_
      rintro e w4 ⟨rfl,hb4⟩
      have kA4:=kA.below hb4
      have g4:wr.grownBy w4 none:=gT hgA ⟨hb4.os,hb4.tape,hb4.output,hb4.size,fun k hk _=>hb4.block k hk⟩
      have hR4:=HR.out.keep g4 (by simp)
      have ha4:=hR4.at2 HAT.out
      have c4:=ha4.1
      have z4:=ha4.2.2.1
      have f4:(w4.setCell ⟨g,j * 2,none⟩ (.string ⟨(z2_ p[j].1).toArray⟩)).cell? ⟨wr.heap.size,1,none⟩=some (.string ⟨p[j].2.toArray⟩):=(kA4.far (by omega) _).cell 1
      have hR5:=hR4.setT (j:=j) (by omega) (z2_ p[j].1)
      have g5:=gT (vh_ g4 (some g)) (z6_ w4 g (j * 2) (.string ⟨(z2_ p[j].1).toArray⟩))
      go_wp2_with fail
      generalize w4.setCell ⟨g,j * 2,none⟩ (.string ⟨(z2_ p[j].1).toArray⟩)=w5 at *
      have hgj:(upto p j)[j]'(by omega)=p[j]:=(List.getElem?_eq_some_iff.1 HAT.out).2
      rw[hgj] at hR5
      have hB5:Bel w w5:=(hB.grown HGI.out hB.size (fun k hk=>by cases hk;exact x5)).grown g5 (nT hB.size HGI.out.size) (fun k hk=>by cases hk;exact x5)
      have hPr:=z25_ p[j].2 true w5 (hw.keep hB5) (by omega)
      have AG3:Aside (j+1+q2=p.length):=by have:=AG2.out;show _=_;omega
      have hj5:j<((upto p j).set j (z2_ p[j].1,p[j].2)).length:=by simp;omega
      have hg5:g<w5.heap.size:=hR5.1
      clear hgj c4 z4 hR4 ha4 g4 kA4 kA hgA hb4 f4 hB5
      cases hpp:z1g_ p[j].2 true with
      |none=>
       rw[hpp] at hPr
       have hfinA:z1x_ p[j]=(z2_ p[j].1,p[j].2):=by rw[HNA.out,hpp];rfl
       have hsu:=HSU.out
       rw[hfinA] at hsu
       have HSU2:=hiD hsu
       simp only[x4_] at hPr
       clear hpp hfinA hsu
       refine hPr.mono ?_
       rintro e w6 ⟨rfl,hb6⟩
       have g6:w5.grownBy w6 none:=⟨hb6.os,hb6.tape,hb6.output,hb6.size,fun k hk _=>hb6.block k hk⟩
       have hR6:=hR5.keep g6 (by simp)
       go_wp2_with fail
       go_roundg q2
       case measure=>omega
       case rel=>exact⟨j+1,by omega,by go_num,AG3.out,gT HGI.out (gT g5 (vh_ g6 _)),by rw[← HSU2.out];exact hR6⟩
      |some t=>
       rw[hpp] at hPr
       have hfinA:z1x_ p[j]=(z2_ p[j].1,t):=by rw[HNA.out,hpp];rfl
       have hsu:=HSU.out
       rw[hfinA] at hsu
       have HSU2:=hiD hsu
       simp only[x4_] at hPr
       clear hpp hfinA hsu
       refine hPr.mono ?_
       rintro e w6 ⟨rfl,hb6⟩
       have g6:w5.grownBy w6 none:=⟨hb6.os,hb6.tape,hb6.output,hb6.size,fun k hk _=>hb6.block k hk⟩
       have hR6:=hR5.keep g6 (by simp)
       have ha6:=hR6.at2 (j:=j) (List.getElem?_eq_getElem hj5)
       have c6:=ha6.2.1
       have z6:=ha6.2.2.2
       have hR7:=hR6.setV hj5 t
       simp only[List.getElem_set_self,List.set_set] at hR7
       have HR7:=hiD hR7
       clear ha6 hR7 hR6 hR5
       go_wp2_with fail
       go_roundg q2
       case measure=>omega
       case rel=>exact⟨j+1,by omega,by go_num,AG3.out,gT HGI.out (gT g5 (gT (vh_ g6 _) (z6_ _ _ _ _))),by rw[← HSU2.out];exact HR7.out⟩
     ·obtain rfl:j=p.length:=by omega
      have hRp:RowA wr g (p.map z1x_):=by have:=hR;unfold upto at this;simpa using this
      have hPart:=zi7_ (p.map z1x_) g cap wr hRp (by simp;omega) (by simp;exact x4)
      rw[List.length_map] at hPart
      have hPart':Calls Tryz.prog 146 #[.slice (some ⟨g,0,none⟩) p.length cap] wr fun e w'=>e= .returned (.slice (some ⟨g,0,none⟩) (z10_ p).length cap)∧RowA w' g (z10_ p)∧wr.grownBy w' (some g):=hPart
      have hnl:(z10_ p).length≤p.length:=by have:=vb_ (p.map z1x_);rw[List.length_map] at this;exact this
      have HGI:=hiD hgi
      clear hRp hPart hR hgi
      go_wp2_with fail
      refine hPart'.mono ?_
      rintro e w7 ⟨rfl,hR7,hg7⟩
      have g7:=gT HGI.out hg7
      have c7:w7.cell? ⟨gd,k,none⟩=some (.slice (some ⟨g,0,none⟩) p.length cap):=g7.cell x1 (by intro e;exact x6 (Option.some.inj e).symm)
      have z7:w7.frozen? ⟨gd,k,none⟩=false:=(World.frozen?_of_block (a:=⟨gd,k,none⟩) (g7.block gd hgd (by intro e;exact x6 (Option.some.inj e).symm))).trans x2
      have hNM7:=hNM.part HLK.out g7 hR7 (nT hnl x4)
      have hB7:Bel w w7:=hB.grown g7 hB.size (fun k hk=>by cases hk;exact x5)
      have hgdB:=hNM.2.1
      have HNM7:=hiD hNM7
      have HB7:=hiD hB7
      clear hNM7 hB7
      go_wp2_with fail
      go_roundg q
      case measure=>omega
      case rel=>
       refine⟨k+1,by omega,by go_num,by have:=AG.out;show _=_;omega,HB7.out.setCell hgdB _,_,?_,HNM7.out⟩
       rw[List.map_set,HL.out]
       have hl1:((d.take k).map z10_).length=k:=by simp;omega
       rw[List.set_append_right _ _ (by omega),hl1,Nat.sub_self,List.drop_eq_getElem_cons hlt,List.set_cons_zero,List.take_succ_eq_append_getElem hlt,List.map_append,List.append_assoc,HPK.out]
       rfl
   ·obtain rfl:k=d.length:=by omega
    obtain⟨L,hL,hNM⟩:=hS
    simp only[List.take_length,List.drop_length,List.append_nil] at hL
    have hLlen:L.length=d.length:=by have:=congrArg List.length hL;simpa using this
    have hdr:=hNM.dnR (c:=c0) (by omega)
    rw[hL,hLlen] at hdr
    have hPr:=z45_ (d.map z10_) (.slice (some ⟨gd,0,none⟩) d.length c0) wo (hw.keep hB) hdr (by simp;omega) (fun p hp=>by
     obtain⟨p0,hp0,rfl⟩:=List.mem_map.1 hp
     obtain⟨h4,hx⟩:=HSM.out p0 hp0
     have:=vb_ (p0.map z1x_)
     rw[List.length_map] at this
     refine⟨by unfold z10_;omega,fun x hx'=>?_⟩
     have:=z5k_ _ x hx'
     obtain⟨y,hy,rfl⟩:=List.mem_map.1 this
     have:=(hx y hy).1
     show (z2_ y.1).length≤_
     rw[z3i_];omega)
    generalize j5_ (d.map z10_)=pr at *
    obtain⟨pe,ps⟩:=pr
    simp only[z0r_] at hPr
    have HPr:=hiD hPr
    clear hPr hdr hL hNM
    by_cases hpe:pe=0
    ·subst hpe
     go_wp2_with (go_at_call 147;refine HPr.out.mono ?_;rintro e w2 ⟨rfl,hb2⟩)
     go_ret2
     rw[HN.out]
     exact⟨tQ hB hb2,ps,rfl,fun m h=>by simp at h;exact h⟩
    ·have hq:((pe:Int)==0)=false:=beq_eq_false_iff_ne.2 hpe
     go_wp2_with (go_at_call 147;refine HPr.out.mono ?_;rintro e w2 ⟨rfl,hb2⟩)
     go_ret2
     rw[HN.out]
     exact⟨tQ hB hb2,ps,by simp [hpe],fun m h=>by simp [hpe] at h⟩
open Go.RowKit Go.Sort
def kTrue:LU:=[84,82,85,69]
def zih_:LU:=[70,65,76,83,69]
def zjo_ (v:LU):Bool:=v==kTrue||v==zih_
def zl3_ (v:LU):Bool:=!v.isEmpty && (z1g_ v false).isSome
def zin_ (f v:LU):Bool:=
 if f=z4m_ then true
 else if f=zb1_ then zl3_ v
 else if f=z2s_ then ys_ v
 else if f=z19_ then intL v
 else if f=z18_ then zjo_ v
 else if f=zh6_ then (zd_ v).1==0
 else if f=fOid then zc_ v
 else if f=zi4_ then zcb_ v
 else false
def j6_ (f v:LU):Bool:=decide (v.length≤1024) && zin_ f v
section
variable (f v:LU) (w:World) (hw:Env w) (hv:v.length≤1024)
def zm_ (f v:LU) (w:World) (b:Bool):Prop:=
 Calls Tryz.prog 206 #[.string ⟨f.toArray⟩,.string ⟨v.toArray⟩] w fun e w'=>e= .returned (.bool b)∧Bel w w'
set_option maxRecDepth 100000
set_option maxHeartbeats 1000000
theorem za8_ (hv:¬ v.length≤1024):zm_ f v w false:=by
 unfold zm_
 have hv':1024<v.length:=by omega
 go_enter Tryz.func206,Tryz.ntmps206
 go_wp2
 go_ret
 exact⟨rfl,bR _ _⟩
include hv
theorem zl4_ (e1:(f==[111,99,116,101,116,115])=true):zm_ f v w true:=by
 unfold zm_
 go_enter Tryz.func206,Tryz.ntmps206
 go_wp2
 go_ret
 exact⟨rfl,bR _ _⟩
theorem zjy_ (e1:(f==[111,99,116,101,116,115])=false) (e2:(f==[116,101,120,116])=false) (e3:(f==[97,115,99,105,105])=true):zm_ f v w (ys_ v):=by
 unfold zm_
 go_enter Tryz.func206,Tryz.ntmps206
 go_wp2_with (go_at_call 248;refine(zea_ v _ hv).mono ?_;rintro e w' ⟨rfl,rfl⟩)
 go_ret
 exact⟨rfl,bR _ _⟩
theorem zjl_ (e1:(f==[111,99,116,101,116,115])=false) (e2:(f==[116,101,120,116])=false) (e3:(f==[97,115,99,105,105])=false) (e4:(f==[105,110,116,101,103,101,114])=true):zm_ f v w (intL v):=by
 unfold zm_
 go_enter Tryz.func206,Tryz.ntmps206
 go_wp2_with (go_at_call 249;refine(z7o_ v _ (by omega)).mono ?_;rintro e w' ⟨rfl,hb⟩)
 go_ret
 exact⟨rfl,hb⟩
theorem zj3_ (e1:(f==[111,99,116,101,116,115])=false) (e2:(f==[116,101,120,116])=false) (e3:(f==[97,115,99,105,105])=false) (e4:(f==[105,110,116,101,103,101,114])=false) (e5:(f==[98,111,111,108,101,97,110])=true):zm_ f v w (zjo_ v):=by
 unfold zm_ zjo_
 cases h1:v==[84,82,85,69]<;>cases h2:v==[70,65,76,83,69]
 all_goals
  have h1':(v==kTrue)=_:=h1
  have h2':(v==zih_)=_:=h2
  rw[h1',h2']
  clear h1' h2'
  go_enter Tryz.func206,Tryz.ntmps206
  go_wp2
  go_ret
  exact⟨rfl,bR _ _⟩
theorem zjb_ (e1:(f==[111,99,116,101,116,115])=false) (e2:(f==[116,101,120,116])=false) (e3:(f==[97,115,99,105,105])=false) (e4:(f==[105,110,116,101,103,101,114])=false) (e5:(f==[98,111,111,108,101,97,110])=false) (e6:(f==[110,97,109,101])=false) (e7:(f==[111,105,100])=false) (e8:(f==[116,105,109,101])=true):zm_ f v w (zcb_ v):=by
 unfold zm_
 go_enter Tryz.func206,Tryz.ntmps206
 go_wp2_with (go_at_call 250;refine(zfe_ v _ (by omega)).mono ?_;rintro e w' ⟨rfl,hb⟩)
 go_ret
 exact⟨rfl,hb⟩
theorem ziv_ (e1:(f==[111,99,116,101,116,115])=false) (e2:(f==[116,101,120,116])=false) (e3:(f==[97,115,99,105,105])=false) (e4:(f==[105,110,116,101,103,101,114])=false) (e5:(f==[98,111,111,108,101,97,110])=false) (e6:(f==[110,97,109,101])=false) (e7:(f==[111,105,100])=false) (e8:(f==[116,105,109,101])=false):zm_ f v w false:=by
 unfold zm_
 go_enter Tryz.func206,Tryz.ntmps206
 go_wp2
 go_ret
 exact⟨rfl,bR _ _⟩
include hw
theorem zjm_ (e1:(f==[111,99,116,101,116,115])=false) (e2:(f==[116,101,120,116])=true):zm_ f v w (zl3_ v):=by
 unfold zm_ zl3_
 have hP:=z25_ v false w hw (by omega)
 cases hp:z1g_ v false<;>cases hn:v.isEmpty
 all_goals
  rw[hp] at hP
  simp only[x4_] at hP
  go_enter Tryz.func206,Tryz.ntmps206
  go_wp2_with (go_at_call 247;refine hP.mono ?_;rintro e w' ⟨rfl,hb⟩)
  go_ret
  exact⟨rfl,hb⟩
theorem zkj_ (e1:(f==[111,99,116,101,116,115])=false) (e2:(f==[116,101,120,116])=false) (e3:(f==[97,115,99,105,105])=false) (e4:(f==[105,110,116,101,103,101,114])=false) (e5:(f==[98,111,111,108,101,97,110])=false) (e6:(f==[110,97,109,101])=true):zm_ f v w ((zd_ v).1==0):=by
 unfold zm_
 have hP:=kw_ v w hw
 generalize zd_ v=ps at *
 obtain⟨er,d⟩:=ps
 have HP:=hiD hP
 clear hP
 go_enter Tryz.func206,Tryz.ntmps206
 go_wp2_with (go_at_call 144;refine HP.out.mono ?_;rintro e w1 ⟨hb1,v,rfl,hd⟩;obtain⟨A0,c0,rfl,hc0⟩:=hd.isSlice)
 go_ret
 exact⟨rfl,hb1⟩
theorem zir_ (e1:(f==[111,99,116,101,116,115])=false) (e2:(f==[116,101,120,116])=false) (e3:(f==[97,115,99,105,105])=false) (e4:(f==[105,110,116,101,103,101,114])=false) (e5:(f==[98,111,111,108,101,97,110])=false) (e6:(f==[110,97,109,101])=false) (e7:(f==[111,105,100])=true):zm_ f v w (zc_ v):=by
 unfold zm_
 go_enter Tryz.func206,Tryz.ntmps206
 go_wp2_with (go_at_call 52;refine(qf_ v _ hw (by omega)).mono ?_;rintro e w' ⟨rfl,hb⟩)
 go_ret
 exact⟨rfl,hb⟩
end
theorem zco_ (f v:LU) (w:World) (hw:Env w):
  Calls Tryz.prog 206 #[.string ⟨f.toArray⟩,.string ⟨v.toArray⟩] w fun e w'=>e= .returned (.bool (j6_ f v))∧Bel w w':=by
 change zm_ f v w (j6_ f v)
 unfold j6_
 by_cases hv:v.length≤1024
 ·rw[decide_eq_true hv,Bool.true_and]
  have no:∀ l:LU,f≠l→(f==l)=false:=fun l h=>beq_eq_false_iff_ne.2 h
  have ye:∀ l:LU,f=l→(f==l)=true:=fun l h=>beq_iff_eq.2 h
  unfold zin_
  by_cases h1:f=z4m_
  ·rw[if_pos h1];exact zl4_ f v w hv (ye _ h1)
  rw[if_neg h1]
  by_cases h2:f=zb1_
  ·rw[if_pos h2];exact zjm_ f v w hw hv (no _ h1) (ye _ h2)
  rw[if_neg h2]
  by_cases h3:f=z2s_
  ·rw[if_pos h3];exact zjy_ f v w hv (no _ h1) (no _ h2) (ye _ h3)
  rw[if_neg h3]
  by_cases h4:f=z19_
  ·rw[if_pos h4];exact zjl_ f v w hv (no _ h1) (no _ h2) (no _ h3) (ye _ h4)
  rw[if_neg h4]
  by_cases h5:f=z18_
  ·rw[if_pos h5];exact zj3_ f v w hv (no _ h1) (no _ h2) (no _ h3) (no _ h4) (ye _ h5)
  rw[if_neg h5]
  by_cases h6:f=zh6_
  ·rw[if_pos h6];exact zkj_ f v w hw hv (no _ h1) (no _ h2) (no _ h3) (no _ h4) (no _ h5) (ye _ h6)
  rw[if_neg h6]
  by_cases h7:f=fOid
  ·rw[if_pos h7];exact zir_ f v w hw hv (no _ h1) (no _ h2) (no _ h3) (no _ h4) (no _ h5) (no _ h6) (ye _ h7)
  rw[if_neg h7]
  by_cases h8:f=zi4_
  ·rw[if_pos h8];exact zjb_ f v w hv (no _ h1) (no _ h2) (no _ h3) (no _ h4) (no _ h5) (no _ h6) (no _ h7) (ye _ h8)
  rw[if_neg h8]
  exact ziv_ f v w hv (no _ h1) (no _ h2) (no _ h3) (no _ h4) (no _ h5) (no _ h6) (no _ h7) (no _ h8)
 ·rw[decide_eq_false hv,Bool.false_and]
  exact za8_ f v w hv
open Go.RowKit Go.Sort
theorem self_c (v:LU) (w:World):Calls Tryz.prog 266 #[.string ⟨v.toArray⟩] w (xs_ w (some v)):=by
 go_enter Tryz.func266,Tryz.ntmps266
 go_wp2
 go_ret2
 exact⟨bR _ _,v,rfl,fun m h=>by cases h;rfl⟩
theorem oid_c (v:LU) (w:World) (hv:v.length≤1024):Calls Tryz.prog 269 #[.string ⟨v.toArray⟩] w (xs_ w (some (z2_ v))):=by
 go_enter Tryz.func269,Tryz.ntmps269
 go_wp2_with (go_at_call 116;refine(xt_ v _ (by omega)).mono ?_;rintro e w' ⟨rfl,hb⟩)
 go_ret2
 exact⟨hb,_,rfl,fun m h=>by cases h;rfl⟩
theorem ziu_ (v:LU) (fold:Bool) (a:Nat) (w:World) (hw:Env w) (hc:w.cell? ⟨a,0,none⟩=some (.bool fold)) (hv:v.length≤1024):
  Calls Tryz.prog 289 #[.string ⟨v.toArray⟩,.pointer (some ⟨a,0,none⟩)] w (xs_ w (z1g_ v fold)):=by
 have hP:=z25_ v fold w hw (by omega)
 cases hp:z1g_ v fold
 ·rw[hp] at hP
  clear hp
  simp only[x4_] at hP
  go_enter Tryz.func289,Tryz.ntmps289
  go_wp2_with (go_at_call 247;refine hP.mono ?_;rintro e w' ⟨rfl,hb⟩)
  go_ret2
  exact⟨hb,[],rfl,fun m h=>by cases h⟩
 ·rw[hp] at hP
  clear hp
  simp only[x4_] at hP
  go_enter Tryz.func289,Tryz.ntmps289
  go_wp2_with (go_at_call 247;refine hP.mono ?_;rintro e w' ⟨rfl,hb⟩)
  go_ret2
  exact⟨hb,_,rfl,fun m h=>by cases h;rfl⟩
theorem name_c (s:LU) (w:World) (hw:Env w):Calls Tryz.prog 268 #[.string ⟨s.toArray⟩] w (xs_ w (z4a_ s)):=by
 by_cases her:(zd_ s).1=0
 ·refine zkl_ s w hw her ?_
  unfold zd_ at her ⊢
  split at her
  ·simp at her
  ·next h1=>
   rw[if_neg h1]
   split at her
   ·simp at her
   ·next d hd=>
    split at her
    ·simp at her
    ·next h2=>simp only[hd,if_neg h2];simpa using h2
 ·exact zjn_ s w hw her
theorem zdl_ (f v:LU) (a:Nat) (w:World) (hw:Env w) (hc:w.cell? ⟨a,0,none⟩=some (.string ⟨v.toArray⟩)):
  Calls Tryz.prog 277 #[.string ⟨f.toArray⟩,.pointer (some ⟨a,0,none⟩)] w fun e w'=>e= .returned (.bool (j6_ f v))∧Bel w w':=by
 have hV:=zco_ f v w hw
 generalize j6_ f v=b at *
 go_enter Tryz.func277,Tryz.ntmps277
 go_wp2_with (go_at_call 206;refine hV.mono ?_;rintro e w' ⟨rfl,hb⟩)
 go_ret
 exact⟨rfl,hb⟩
theorem zci_ (p:LL) (v:Value) (w:World) (hv:Texts w v p) (hl:p.length≤1000000) (a:Nat) (P:LU→Bool)
  (hF:∀ x∈p,∀ W,Bel w W→Calls Tryz.prog 277 #[.string ⟨x.toArray⟩,.pointer (some ⟨a,0,none⟩)] W fun e W'=>e= .returned (.bool (P x))∧Bel W W'):
  Calls Tryz.prog 151 #[v,.func (.func 277) #[] #[.pointer (some ⟨a,0,none⟩)]] w fun e w'=>(∃ i:Int,e= .returned (.int .i64 i)∧decide (0≤i)=p.any P)∧Bel w w':=by
 have HF:=hiD hF
 clear hF
 obtain⟨A,c,rfl,hc,hx⟩:∃ A c,v= .slice A p.length c∧p.length≤c∧(p=[]∨∃ g,A=some ⟨g,0,none⟩∧g<w.heap.size∧∀ j (hj:j<p.length),w.cell? ⟨g,j,none⟩=some (.string ⟨p[j].toArray⟩)):=by
  rcases hv with ⟨rfl,rfl⟩|⟨b,c,rfl,h1,h2,h3⟩
  ·exact⟨none,0,rfl,nR _,.inl rfl⟩
  ·exact⟨_,c,rfl,h1,.inr ⟨b,rfl,h2,h3⟩⟩
 have HX:=hiD hx
 clear hx
 go_enter Tryz.func151,Tryz.ntmps151
 go_wp2_with fail
 go_loopg [8] p.length (fun gk i wr=>∃ k:Nat,k≤p.length∧i= .int .i64 k∧Aside (k+gk=p.length)∧Bel w wr∧Aside (p.any P=(p.drop k).any P))
 case atStart=>exact⟨0,by omega,rfl,by show _=_;omega,bR _ _,rfl⟩
 case round=>
  obtain⟨k,hk,rfl,AG,hB,AS⟩:=hrel
  by_cases hlt:k<p.length
  ·obtain⟨q,rfl⟩:∃ q,gk=q+1:=⟨gk - 1,by have:=AG.out;omega⟩
   obtain⟨g,rfl,hg,hcells⟩:=HX.out.resolve_left (by intro h;rw[h] at hlt;simp at hlt)
   have AS':Aside (p.any P=(P p[k]||(p.drop (k+1)).any P)):=by have:=AS.out;rw[List.drop_eq_getElem_cons hlt] at this;exact this
   have c0:wr.cell? ⟨g,k,none⟩=some (.string ⟨p[k].toArray⟩):=(hB.cell (p:=⟨g,k,none⟩) hg).trans (hcells k hlt)
   have HC:Hid (∀ W,Bel w W→Calls Tryz.prog 277 #[.string ⟨p[k].toArray⟩,.pointer (some ⟨a,0,none⟩)] W fun e W'=>e= .returned (.bool (P p[k]))∧Bel W W'):=fun W hW=>HF.out p[k] (List.getElem_mem hlt) W hW
   clear hcells AS
   cases hP:P p[k]
   ·have HP:=hiD hP
    have HC':=HC.out
    rw[hP] at HC'
    have HC2:=hiD HC'
    clear hP HC HC'
    go_wp2_with (go_at_call 277;refine(HC2.out _ hB).mono ?_;rintro e w2 ⟨rfl,hb2⟩)
    go_roundg q
    case measure=>omega
    case rel=>exact⟨k+1,by omega,by go_num,by have:=AG.out;show _=_;omega,tQ hB hb2,by have:=AS'.out;rw[HP.out] at this;exact this⟩
   ·have HP:=hiD hP
    have HC':=HC.out
    rw[hP] at HC'
    have HC2:=hiD HC'
    clear hP HC HC'
    go_wp2_with (go_at_call 277;refine(HC2.out _ hB).mono ?_;rintro e w2 ⟨rfl,hb2⟩)
    go_ret
    exact⟨⟨k,rfl,by rw[AS'.out,HP.out];simp⟩,tQ hB hb2⟩
  ·obtain rfl:k=p.length:=by omega
   have hs:p.any P=false:=by have:=AS.out;rw[List.drop_length] at this;exact this
   have Hs:=hiD hs
   clear hs AS
   go_wp2_with fail
   go_ret
   exact⟨⟨-1,rfl,by rw[Hs.out];rfl⟩,hB⟩
theorem zc9_ (p:LL) (v:Value) (w:World) (hv:Texts w v p) (hl:p.length≤1000000) (a:Nat) (P:LU→Bool)
  (hF:∀ x∈p,∀ W,Bel w W→Calls Tryz.prog 277 #[.string ⟨x.toArray⟩,.pointer (some ⟨a,0,none⟩)] W fun e W'=>e= .returned (.bool (P x))∧Bel W W'):
  Calls Tryz.prog 86 #[v,.func (.func 277) #[] #[.pointer (some ⟨a,0,none⟩)]] w fun e w'=>e= .returned (.bool (p.any P))∧Bel w w':=by
 have hI:=zci_ p v w hv hl a P hF
 obtain⟨A0,n0,c0,rfl⟩:=hv.isSlice
 clear hF hv
 go_enter Tryz.func86,Tryz.ntmps86
 go_wp2_with (go_at_call 151;refine hI.mono ?_;rintro e w1 ⟨⟨i,rfl,hi⟩,hb1⟩;have Hi:=hiD hi;clear hi)
 all_goals
  go_ret
  exact⟨xd_ (by rw[← Hi.out]),hb1⟩
end Go.Proofs.YtakfpngfpknedaaGreatDoor
