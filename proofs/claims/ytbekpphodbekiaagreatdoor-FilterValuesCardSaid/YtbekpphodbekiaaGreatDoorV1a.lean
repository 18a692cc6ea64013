import Derived.Test.YtbekpphodbekiaaGreatDoorV17
set_option linter.all false
set_option maxHeartbeats 8000000
set_option maxRecDepth 100000
namespace Go.Proofs.YtbekpphodbekiaaGreatDoor
open Go.RowKit
theorem zfe_ (w0:World) (hw:Env w0) (p:Fil.FilE) (t:List Fil.FilE) (v:Value) (w:World) (acc:LU) (hv:FilsA w0 v (p::t)) (hb:Bel w0 w) (hI:IsB w0.heap.size w0.heap.size acc w) (hl:Fil.wgt (p::t)≤1048576) (ha:acc.length+4 * Fil.wgt (p::t)≤1000000000) (ho:p.op=0∨p.op=1∨p.op=2) (hn:0≤p.n) (d:Nat) (r:List Fil.FilE) (hwh:Fil.times (Fil.wholeF d) p.n.toNat t=some r)
  (ih:∀ (l r:List Fil.FilE) (v:Value) (w:World) (acc:LU),Fil.wholeF d l=some r→FilsA w0 v l→Bel w0 w→IsB w0.heap.size w0.heap.size acc w→Fil.wgt l≤1048576→acc.length+4 * Fil.wgt l≤1000000000→Calls Tryz.prog 55 #[.pointer (some ⟨w0.heap.size,0,none⟩),v] w (z1l_ w0 w acc (Fil.putF d l))):
  Calls Tryz.prog 55 #[.pointer (some ⟨w0.heap.size,0,none⟩),v] w (z1l_ w0 w acc (40::Fil.opB p.op::((Fil.putsF (Fil.putF d) p.n.toNat t).1++[41]),(Fil.putsF (Fil.putF d) p.n.toNat t).2)):=by
 obtain⟨bb,oo,c,vy,vt,rfl,hc,⟨c0,c1,c2,c3,c4,c5,c6⟩,hta,hsl,ht⟩:=hv.tail
 rw[Fil.wgt_cons] at hl ha
 have hW:=fun (x:LU) (W:World) (hW:Bel w0 W) (h:x.length≤1048576)=>kz_ x W (hw.keep hW) (by omega)
 have HWr:=hiD hW
 have hBp:=hI.lt
 obtain⟨Ay,cy,rfl,hyc,hy⟩:=hta.at
 obtain⟨At,ct,rfl,hct⟩:=ht.isSlice
 have HT:=hiD ht
 obtain⟨o,n,ty,va,i,f,y⟩:=p
 unfold z09_ at hl ha
 simp only at c0 c1 c2 c3 c4 c5 c6 hl ha hyc hy ho hn hwh
 have d0:=cQ hb c0
 have d1:=cQ hb c1
 have d2:=cQ hb c2
 have d3:=cQ hb c3
 have d4:=cQ hb c4
 have d5:=cQ hb c5
 have d6:=cQ hb c6
 have hk1:=Bk.new w 45 #[.int .i64 o,.int .i64 n,.string ⟨ty.toArray⟩,.string ⟨va.toArray⟩,.string ⟨i.toArray⟩,.string ⟨f.toArray⟩,.slice Ay y.length cy]
 have hb1:=ze_ w (.cells #[.int .i64 o,.int .i64 n,.string ⟨ty.toArray⟩,.string ⟨va.toArray⟩,.string ⟨i.toArray⟩,.string ⟨f.toArray⟩,.slice Ay y.length cy] 45)
 have hI1:=hI.below hb1
 have hbb:=tQ hb hb1
 have hpn:w.heap.size≠w0.heap.size:=by omega
 have hi1:(0:Int)<(t.length:Int)+1:=by omega
 obtain⟨a1,ha1⟩:∃ a1,acc++[40]=a1:=⟨_,rfl⟩
 have ha1l:a1.length=acc.length+1:=by rw[← ha1,List.length_append];rfl
 have HB1:=hiD hbb
 have HK1:=hiD hk1
 have HI1:=hiD hI1
 have hb10:Below w0.heap.size w (w.alloc (.cells #[.int .i64 o,.int .i64 n,.string ⟨ty.toArray⟩,.string ⟨va.toArray⟩,.string ⟨i.toArray⟩,.string ⟨f.toArray⟩,.slice Ay y.length cy] 45)):=hb1.mono hb.size
 have HB10:=hiD hb10
 have H40:Hid (∀ W,IsB w0.heap.size w0.heap.size acc W→Calls Tryz.prog 107 #[.pointer (some ⟨w0.heap.size,0,none⟩),.int .u8 40] W fun e w'=>e= .returned .nilIface∧IsB w0.heap.size w0.heap.size a1 w'∧Below w0.heap.size W w'∧Oth w0.heap.size W w'):=hiD fun W hW=>q9_ _ _ acc a1 40 ha1 W hW (by omega)
 clear c0 c1 c2 c3 c4 c5 c6 hv ht hb hI hW hk1 hb1 hI1 hbb hb10
 obtain⟨n,rfl⟩:∃ N:Nat,n=N:=⟨n.toNat,by omega⟩
 rw[show (⟨o,(n:Int),ty,va,i,f,y⟩:Fil.FilE).n.toNat=n from Int.toNat_natCast n,show (⟨o,(n:Int),ty,va,i,f,y⟩:Fil.FilE).op=o from rfl]
 rw[Int.toNat_natCast] at hwh
 have hnt:n≤t.length:=by have:=(Fil.times_suf (Fil.whole_suf d) _ _ _ hwh).1;omega
 have htw:=Fil.wgt_len t
 obtain⟨a2,ha2⟩:∃ a2,a1++[Fil.opB o]=a2:=⟨_,rfl⟩
 have ha2l:a2.length=a1.length+1:=by rw[← ha2,List.length_append];rfl
 have hpw:=Fil.puts_wgt (Fil.put_wgt d) n t
 obtain⟨a3,ha3⟩:∃ a3,a2++(Fil.putsF (Fil.putF d) n t).1=a3:=⟨_,rfl⟩
 have ha3l:a3.length=a2.length+(Fil.putsF (Fil.putF d) n t).1.length:=by rw[← ha3,List.length_append]
 obtain⟨a4,ha4⟩:∃ a4,a3++[41]=a4:=⟨_,rfl⟩
 obtain⟨lN,hlN⟩:∃ lN,(Fil.putsF (Fil.putF d) n t).2=lN:=⟨_,rfl⟩
 have hfin:acc++(40::Fil.opB o::((Fil.putsF (Fil.putF d) n t).1++[41]))=a4:=by
  rw[← ha4,← ha3,← ha2,← ha1]
  simp
 have HF:=hiD hfin
 have HA3:=hiD ha3
 have HLN:=hiD hlN
 have HWH:=hiD hwh
 have IH:=hiD ih
 have H41:Hid (∀ W,IsB w0.heap.size w0.heap.size a3 W→Calls Tryz.prog 107 #[.pointer (some ⟨w0.heap.size,0,none⟩),.int .u8 41] W fun e w'=>e= .returned .nilIface∧IsB w0.heap.size w0.heap.size a4 w'∧Below w0.heap.size W w'∧Oth w0.heap.size W w'):=hiD fun W hW=>q9_ _ _ a3 a4 41 ha4 W hW (by omega)
 have HOP:=hiD (fun W hW=>q9_ w0.heap.size w0.heap.size a1 a2 (Fil.opB o) ha2 W hW (by omega))
 have H2L:=hiD (show a2.length+4 * Fil.wgt t≤1000000000 by omega)
 have htw2:Fil.wgt t≤1048576:=by omega
 rw[hlN]
 clear hfin ha1 ha2 ha3 ha4 hlN hwh ih hpw ha3l
 have hget:=qe_
 rcases ho with rfl|rfl|rfl
 all_goals
  first
   |rw[show ((Fil.opB 0).toNat:Int)=38 from rfl] at HOP
   |rw[show ((Fil.opB 1).toNat:Int)=124 from rfl] at HOP
   |rw[show ((Fil.opB 2).toNat:Int)=33 from rfl] at HOP
  go_enter Tryz.func55,Tryz.ntmps55
  go_wp2_with (first
   |(go_at_call 107;(with_reducible refine(HOP.out _ HI3.out).mono ?_);rintro e w7 ⟨rfl,hI7,hb7,ho7⟩;have HI7:=hiD hI7;have hk7:=HK3.out.oth ho7 hpn (by decide);have x1:=hk7.cell 1;simp only[gs3] at x1;have HB7:=hiD (HBw3.out.trans hb7);have HB07:=hiD (HB3.out.trans hb7))
   |(go_at_call 107;(with_reducible refine(H40.out _ HI1.out).mono ?_);rintro e w3 ⟨rfl,hI3,hb3,ho3⟩;have hk3:=HK1.out.oth ho3 hpn (by decide);have e0:=hk3.cell 0;have e1:=hk3.cell 1;have e2:=hk3.cell 2;have e3:=hk3.cell 3;have e4:=hk3.cell 4;have e5:=hk3.cell 5;have e6:=hk3.cell 6;simp only[gs3] at e0 e1 e2 e3 e4 e5 e6;have HI3:=hiD hI3;have HK3:=hiD hk3;have HB3:=hiD (HB1.out.trans hb3);have HBw3:=hiD (HB10.out.trans hb3);clear hI3 hk3 ho3 hb3))
  go_loopg [1,40] n (fun gk vj ix wr=>∃ (j:Nat) (lj:List Fil.FilE) (aj:LU),ix= .int .i64 (j:Int)∧Aside (j+gk=n)∧Aside (FilsA w0 vj lj)∧Aside (Fil.times (Fil.wholeF d) gk lj=some r)∧Aside (aj++(Fil.putsF (Fil.putF d) gk lj).1=a3)∧Aside ((Fil.putsF (Fil.putF d) gk lj).2=lN)∧Aside (IsB w0.heap.size w0.heap.size aj wr)∧Aside (Fil.wgt lj≤1048576)∧Aside (aj.length+4 * Fil.wgt lj≤1000000000)∧Aside (Below w0.heap.size w wr)∧Aside (Bel w0 wr))
  case atStart=>exact⟨0,t,a2,rfl,by show _=_;omega,HT.out,HWH.out,HA3.out,HLN.out,HI7.out,htw2,H2L.out,HB7.out,HB07.out⟩
  case round=>
   clear HI3 HK3 HB3 HBw3 HI7 HB7 HB07 hk7 x1 hI7 hb7 ho7 HT HWH HA3 HLN e0 e1 e2 e3 e4 e5 e6
   obtain⟨j,lj,aj,rfl,AG,AF,AT,AA,AL,AI,AW,AN,AB,AB0⟩:=hrel
   obtain⟨Aj,cj,rfl,hcj⟩:=AF.out.isSlice
   cases gk with
   |zero=>
    have hj:j=n:=AG.out
    subst hj
    have h3:aj=a3:=by have:=AA.out;simpa [Fil.putsF] using this
    have h4:lj=lN:=AL.out
    subst h3 h4
    go_wp2_with (go_at_call 107;(with_reducible refine(H41.out _ AI.out).mono ?_);rintro e w8 ⟨rfl,hI8,hb8,_⟩)
    go_ret
    exact⟨AB.out.trans hb8,hI8.cast HF.out.symm,_,rfl,AF.out⟩
   |succ q=>
    have hji:(j:Int)<(n:Int):=by have:=AG.out;omega
    obtain⟨l2,hl2,ht2⟩:∃ l2,Fil.wholeF d lj=some l2∧Fil.times (Fil.wholeF d) q l2=some r:=by
     have:=AT.out
     rw[show Fil.times (Fil.wholeF d) (q+1) lj=(Fil.wholeF d lj).bind (Fil.times (Fil.wholeF d) q) from rfl] at this
     cases hc:Fil.wholeF d lj with
     |none=>rw[hc] at this;cases this
     |some l2=>rw[hc] at this;exact⟨l2,rfl,this⟩
    obtain⟨_, -,hp2, -⟩:=Fil.fil_back d lj l2 hl2
    have hpw:=Fil.put_wgt d lj
    have hwg:=Fil.whole_wgt hl2
    have HC:=hiD (IH.out lj l2 (.slice Aj lj.length cj) wr aj hl2 AF.out AB0.out AI.out AW.out AN.out)
    have hA2:(aj++(Fil.putF d lj).1)++(Fil.putsF (Fil.putF d) q (Fil.putF d lj).2).1=a3:=by rw[List.append_assoc];exact AA.out
    have hL2:(Fil.putsF (Fil.putF d) q (Fil.putF d lj).2).2=lN:=AL.out
    rw[hp2] at hA2 hL2 hpw
    have HA2:=hiD hA2
    have HL2:=hiD hL2
    have HT2:=hiD ht2
    have HN2:=hiD (show (aj++(Fil.putF d lj).1).length+4 * Fil.wgt l2≤1000000000 by rw[List.length_append];have:=AN.out;omega)
    have HW2:=hiD (show Fil.wgt l2≤1048576 by have:=AW.out;omega)
    have HP2:=hiD hp2
    clear hA2 hL2 ht2 hl2 hpw hwg hp2
    go_wp2_with (go_at_call 55;(with_reducible refine HC.out.mono ?_);rintro e w2 ⟨hb2,hI2,v2,rfl,hf2⟩)
    go_roundg q
    case measure=>omega
    case rel=>exact⟨j+1,l2,_,by go_num,by have:=AG.out;show _=_;omega,HP2.out ▸ hf2,HT2.out,HA2.out,HL2.out,hI2,HW2.out,HN2.out,AB.out.trans hb2,AB0.out.trans hb2⟩
theorem zof_ (w0:World) (hw:Env w0):∀ (d:Nat) (l r:List Fil.FilE) (v:Value) (w:World) (acc:LU),Fil.wholeF d l=some r→FilsA w0 v l→Bel w0 w→IsB w0.heap.size w0.heap.size acc w→Fil.wgt l≤1048576→acc.length+4 * Fil.wgt l≤1000000000→Calls Tryz.prog 55 #[.pointer (some ⟨w0.heap.size,0,none⟩),v] w (z1l_ w0 w acc (Fil.putF d l))
 |0,l,r,v,w,acc,h,_,_,_,_,_=>by cases h
 |d+1,[],r,v,w,acc,h,_,_,_,_,_=>by cases h
 |d+1,p::t,r,v,w,acc,h,hv,hb,hI,hl,ha=>by
  have hs:Fil.shapeB p=true:=by
   unfold Fil.wholeF at h
   split at h
   ·next hs=>exact hs
   ·cases h
  have hn:=shape_n hs
  rw[Fil.wholeF,if_pos hs] at h
  rw[Fil.putF]
  by_cases h0:p.op=0∨p.op=1∨p.op=2
  ·rw[if_pos h0]
   exact zfe_ w0 hw p t v w acc hv hb hI hl ha h0 hn d r h (zof_ w0 hw d)
  ·rw[if_neg h0]
   by_cases h1:p.op<0∨8<p.op
   ·rw[Fil.shape_no p h1] at hs;cases hs
   by_cases h7:p.op=7
   ·exact zey_ w0 hw p t v w acc hv hb hI hl ha h7
   by_cases h4:p.op=4
   ·exact zk9_ w0 hw p t v w acc hv hb hI hl ha h4
   ·exact zk7_ w0 hw p t v w acc hv hb hI hl ha (by omega)
theorem zpp_ (l r:List Fil.FilE) (v:Value) (w:World) (hw:Env w) (hv:FilsA w v l) (hl:Fil.wgt l≤1048576) (h:Fil.wholeF 20 l=some r):
  Calls Tryz.prog 26 #[v] w fun e w'=>e= .returned (.string ⟨(Fil.textF l).toArray⟩)∧Bel w w':=by
 have hP:=zof_ w hw 20 l r v (w.alloc (.cells #[.pointer none,.slice none 0 0] 126)) [] h hv ((bR _ _).alloc (nR _) _) (IsB.new w) hl (by rw[List.length_nil];omega)
 have hb0:Bel w (w.alloc (.cells #[.pointer none,.slice none 0 0] 126)):=(bR _ _).alloc (nR _) _
 rw[show Fil.textF l=(Fil.putF 20 l).1 from rfl]
 have HP:=hiD hP
 have HB0:=hiD hb0
 obtain⟨A,c,rfl,hc⟩:=hv.isSlice
 generalize Fil.putF 20 l=X at *
 clear hP hb0 hv h
 go_enter Tryz.func26,Tryz.ntmps26
 go_wp2_with (first
  |(go_at_call 55;(with_reducible refine HP.out.mono ?_);rintro e w2 ⟨hb2,hI2,v2,rfl,hf2⟩;obtain⟨A2,c2,rfl,hc2⟩:=hf2.isSlice;have HI2:=hiD hI2)
  |(go_at_call 56;(refine(z8r_ w.heap.size w.heap.size _ w2 HI2.out).mono ?_);rintro e w3 ⟨rfl,_,hb3⟩))
 go_ret
 exact⟨by simp,(HB0.out.trans hb2).trans hb3⟩
theorem zm1_ (l:List Fil.FilE) (v:Value) (w:World) (hw:Env w) (hv:FilsA w v l) (hl:Fil.wgt l≤1048576) (hn:z61_ l):
  Calls Tryz.prog 14 #[v] w fun e w'=>e= .returned (.tuple #[.string ⟨(Fil.printF l).1.toArray⟩,.int .i64 (Fil.printF l).2])∧Bel w w':=by
 have hV:=z04_ l v w hw hv (by omega) hn
 have HV:=hiD hV
 obtain⟨A,c,rfl,hc⟩:=hv.isSlice
 clear hV
 cases hb:Fil.validF l with
 |false=>
  have hR:Fil.printF l=([],60):=by unfold Fil.printF;rw[hb];rfl
  rw[hR]
  rw[hb] at HV
  clear hR hb hv
  go_enter Tryz.func14,Tryz.ntmps14
  go_wp2_with (go_at_call 5;(with_reducible refine HV.out.mono ?_);rintro e w2 ⟨rfl,hb2⟩)
  go_ret2
  exact⟨rfl,hb2⟩
 |true=>
  have hR:Fil.printF l=if 65536<(Fil.textF l).length then ([],2) else (Fil.textF l,0):=by unfold Fil.printF;rw[hb];rfl
  rw[hb] at HV
  have hwh:Fil.wholeF 20 l=some []:=by
   unfold Fil.validF at hb
   simp only[Bool.and_eq_true,beq_iff_eq] at hb
   exact hb.2
  have hT:=fun (W:World) (hb:Bel w W)=>zpp_ l [] (.slice A l.length c) W (hw.keep hb) (hv.below hb) hl hwh
  have HT:=hiD hT
  clear hb hv hwh hT
  rw[hR]
  clear hR
  generalize Fil.textF l=X at *
  by_cases hX:65536<X.length
  ·have hXi:((X.length:Int)>65536):=by omega
   rw[if_pos hX]
   go_enter Tryz.func14,Tryz.ntmps14
   go_wp2_with (first
    |(go_at_call 5;(with_reducible refine HV.out.mono ?_);rintro e w2 ⟨rfl,hb2⟩)
    |(go_at_call 26;(refine(HT.out _ hb2).mono ?_);rintro e w3 ⟨rfl,hb3⟩))
   go_ret2
   exact⟨rfl,tQ hb2 hb3⟩
  ·have hXi:¬ ((X.length:Int)>65536):=by omega
   rw[if_neg hX]
   go_enter Tryz.func14,Tryz.ntmps14
   go_wp2_with (first
    |(go_at_call 5;(with_reducible refine HV.out.mono ?_);rintro e w2 ⟨rfl,hb2⟩)
    |(go_at_call 26;(refine(HT.out _ hb2).mono ?_);rintro e w3 ⟨rfl,hb3⟩))
   go_ret2
   exact⟨rfl,tQ hb2 hb3⟩
open Go.RowKit
theorem OwnFl.isSlice1 {B:Nat} {w:World} {v:Value} {qs:List qd_} {q:qd_} (h:OwnFl B w v (qs++[q])):∃ A c,v= .slice A (qs.length+1) c∧qs.length+1≤c:=by
 obtain⟨A,c,h1,h2⟩:=h.isSlice
 rw[List.length_append,List.length_singleton] at h1 h2
 exact⟨A,c,h1,h2⟩
def z2b_ (o:Option (List Fil.FilE × LU)):Option (List Fil.FilE × LU):=match o with
 |some (l,r)=>match xn_ 41 r with
  |some r'=>some (l,r')
  |none=>none
 |none=>none
theorem zhi_ {d k:Nat} {s:LU} (h:xn_ 40 s=none):Fil.filF (d+1) k s=none:=by
 unfold Fil.filF
 split
 ·rfl
 ·split
  ·next s1=>rw[show xn_ 40 (40::s1)=some s1 from rfl] at h;cases h
  ·rfl
theorem za4_ {d k:Nat} {s s1:LU} (hk:¬ 100≤k) (h:xn_ 40 s=some s1):Fil.filF (d+1) k s=z2b_ (Fil.bodyF (Fil.filF d) k s1):=by
 obtain rfl:s=40::s1:=by
  cases s with
  |nil=>cases h
  |cons x u=>
   by_cases hx:x=40
   ·have h1:xn_ 40 (x::u)=some u:=if_pos hx
    rw[h1] at h
    cases h;rw[hx]
   ·have h1:xn_ 40 (x::u)=none:=if_neg hx
    rw[h1] at h
    cases h
 unfold Fil.filF
 rw[if_neg hk]
 simp only
 cases Fil.bodyF (Fil.filF d) k s1 with
 |none=>rfl
 |some lr=>
  obtain⟨l,r⟩:=lr
  cases r with
  |nil=>rfl
  |cons x u=>
   by_cases hx:x=41
   ·subst hx;rfl
   ·have h1:xn_ 41 (x::u)=none:=if_neg hx
    unfold z2b_
    simp only[h1]
    split
    ·next e=>cases e;exact absurd rfl hx
    ·rfl
theorem zkr_ (N p:Nat) (s:LU) (v:Value) (qs:List qd_) (w:World) (h:RdF N p w s v qs) (hs:s.length≤1000000):
  Calls Tryz.prog 53 #[.pointer (some ⟨p,0,none⟩)] w fun e w'=>w.grownBy w' (some p)∧match Fil.itemF s with
   |some (f,r)=>∃ A n c,e= .returned (.agg #[.int .i64 f.op,.int .i64 f.n,.string ⟨f.typ.toArray⟩,.string ⟨f.val.toArray⟩,.string ⟨f.ini.toArray⟩,.string ⟨f.fin.toArray⟩,.slice A n c])∧TxT w' (.slice A n c) f.any∧RdF w'.heap.size p w' r v qs
   |none=>e= .panicked qk_:=by
 refine(zqn_ N p s v qs w h hs).mono ?_
 intro e w' hr
 obtain⟨h1,h2⟩:=hr
 refine⟨h1,?_⟩
 cases hi:Fil.itemF s with
 |none=>rw[hi] at h2;exact h2
 |some fr=>
  obtain⟨f,r⟩:=fr
  rw[hi] at h2
  obtain⟨A,n,c,he,hT,_,hR⟩:=h2
  exact⟨A,n,c,he,hT,hR.fit⟩
theorem z9a_ (d N p:Nat) (s s1:LU) (v:Value) (qs:List qd_) (w:World) (x:Int) (hx1:x<20) (h:RdF N p w s v qs) (hs:s.length≤1000000) (h100:¬ 100≤qs.length) (htk:xn_ 40 s=some s1) (hop:Fil.opF s1=none):
  Calls Tryz.prog 25 #[.pointer (some ⟨p,0,none⟩),.int .i64 x] w (FRet p w qs (Fil.filF (d+1) qs.length s)):=by
 rw[za4_ h100 htk]
 have hbody:Fil.bodyF (Fil.filF d) qs.length s1=match Fil.itemF s1 with
  |some (p,r)=>some ([p],r)
  |none=>none:=by unfold Fil.bodyF;rw[hop];rfl
 rw[hbody]
 obtain⟨A,c,rfl,hc⟩:=h.own.isSlice
 obtain⟨c0,c1,f0,f1⟩:=h.cells
 have hl1:=z3a_ htk
 have hs1:s1.length≤1000000:=by omega
 have hlt:(qs.length:Int)<100:=by omega
 have hql:qs.length<1000000:=by omega
 have HT40:Hid (Calls Tryz.prog 51 #[.pointer (some ⟨p,0,none⟩),.int .u8 40] w fun e w'=>w.grownBy w' (some p)∧e= .returned (.tuple #[])∧RdF N p w' s1 (.slice A qs.length c) qs):=hiD ((z5x_ N p 40 s _ qs w h).mono (by intro e w' hr;rw[htk] at hr;exact hr))
 have hgp:=fun (w':World) (hg:w.grownBy w' (some p))=>h.grownP hg
 have HGP:=hiD hgp
 have HI:=hiD (fun W (hW:RdF N p W s1 (.slice A qs.length c) qs)=>zkr_ N p s1 (.slice A qs.length c) qs W hW hs1)
 clear h htk hbody hgp
 have hP2:=fun (w2:World) (hg:w.grownBy w2 (some p))=>HGP.out w2 hg
 have hP2:=fun (w2:World) (hg:w.grownBy w2 (some p))=>HGP.out w2 hg
 have hP2:=fun (w2:World) (hg:w.grownBy w2 (some p))=>HGP.out w2 hg
 have hP2:=fun (w2:World) (hg:w.grownBy w2 (some p))=>HGP.out w2 hg
 have hP2:=fun (w2:World) (hg:w.grownBy w2 (some p))=>HGP.out w2 hg
 cases s1 with
 |nil=>
  rw[show Fil.itemF []=none from rfl] at HI ⊢
  have HI2:Hid (∀ W,RdF N p W [] (.slice A qs.length c) qs→Calls Tryz.prog 53 #[.pointer (some ⟨p,0,none⟩)] W fun e w'=>W.grownBy w' (some p)∧((Hid False∧e= .returned (.agg #[.int .i64 0,.int .i64 0,.string ⟨#[]⟩,.string ⟨#[]⟩,.string ⟨#[]⟩,.string ⟨#[]⟩,.slice none 0 0]))∨e= .panicked qk_)):=hiD fun W hW=>(HI.out W hW).mono fun e w' hr=>⟨hr.1,.inr hr.2⟩
  go_enter Tryz.func25,Tryz.ntmps25
  go_wp2_with (go_at_call 51;(with_reducible refine HT40.out.mono ?_);rintro e w2 ⟨hg2,rfl,hR2⟩;have HR2:=hiD hR2;obtain⟨d0,d1,g0,g1⟩:=hR2.cells;clear hR2)
  go_region_law (first|(go_simp;go_at_call 53;(refine(HI2.out _ (by exact HR2.out.below (bR _ _).drew)).mono ?_);rintro e w5 ⟨hg5,(⟨HF,rfl⟩|rfl)⟩;rotate_left;go_simp;(refine⟨rfl,?_⟩);exact⟨((HGP.out _ hg2).drew).trans ((HR2.out.below (bR _ _).drew).grownP hg5),rfl⟩;have HR5:Hid (RdF w5.heap.size p w5 [] (.slice A qs.length c) qs):=HF.out.elim;obtain⟨k0,k1,kf0,kf1⟩:=HR5.out.cells;have ka:=fun (o:Obj)=>((ze_ w5 o).cell (z9_ k1)).trans k1)|(refine y6_ (p:=⟨0,0,[],[],[],[],[]⟩) (va:= .slice none 0 0) (v:= .slice A qs.length c) (qs:=qs) (B:=p+1) (w0:=w5) (by rfl) (.tmp 41) (.tmp 44) (by rfl) rfl rfl HR5.out.own rfl hql ?_;intro v' w6 hO6 hg6;obtain⟨A6,c6,rfl,hc6⟩:=hO6.isSlice1;have k6:=HR5.out.at_.grown hg6 (fun e=>HR5.out.ne p e.symm rfl);have z1:=k6.cell 1;have zf:=k6.frozen 1;simp only[gs3] at z1))
  all_goals exact HF.out.elim
 |cons y u=>
  have hix:Lib.indexByte [38,124,33] y<0:=by
   have:=zo2_ y u
   rw[hop] at this
   by_cases h:Lib.indexByte [38,124,33] y<0
   ·exact h
   ·rw[if_neg h] at this;cases this
  have HIB:=hiD (fun W=>zl_ [38,124,33] y W)
  have hget:=qe_
  cases hi:Fil.itemF (y::u) with
  |none=>
   rw[hi] at HI
   have HI2:Hid (∀ W,RdF N p W (y::u) (.slice A qs.length c) qs→Calls Tryz.prog 53 #[.pointer (some ⟨p,0,none⟩)] W fun e w'=>W.grownBy w' (some p)∧((Hid False∧e= .returned (.agg #[.int .i64 0,.int .i64 0,.string ⟨#[]⟩,.string ⟨#[]⟩,.string ⟨#[]⟩,.string ⟨#[]⟩,.slice none 0 0]))∨e= .panicked qk_)):=hiD fun W hW=>(HI.out W hW).mono fun e w' hr=>⟨hr.1,.inr hr.2⟩
   go_enter Tryz.func25,Tryz.ntmps25
   go_wp2_with (first|(go_at_call 51;(with_reducible refine HT40.out.mono ?_);rintro e w2 ⟨hg2,rfl,hR2⟩;have HR2:=hiD hR2;obtain⟨d0,d1,g0,g1⟩:=hR2.cells;clear hR2)|(go_at_call 52;(with_reducible refine(HIB.out _).mono ?_);rintro e w5 ⟨rfl,rfl⟩))
   go_region_law (first|(go_simp;go_at_call 53;(refine(HI2.out _ (by exact HR2.out.below (bR _ _).drew)).mono ?_);rintro e w5 ⟨hg5,(⟨HF,rfl⟩|rfl)⟩;rotate_left;go_simp;(refine⟨rfl,?_⟩);exact⟨((HGP.out _ hg2).drew).trans ((HR2.out.below (bR _ _).drew).grownP hg5),rfl⟩;have HR5:Hid (RdF w5.heap.size p w5 [] (.slice A qs.length c) qs):=HF.out.elim;obtain⟨k0,k1,kf0,kf1⟩:=HR5.out.cells;have ka:=fun (o:Obj)=>((ze_ w5 o).cell (z9_ k1)).trans k1)|(refine y6_ (p:=⟨0,0,[],[],[],[],[]⟩) (va:= .slice none 0 0) (v:= .slice A qs.length c) (qs:=qs) (B:=p+1) (w0:=w5) (by rfl) (.tmp 41) (.tmp 44) (by rfl) rfl rfl HR5.out.own rfl hql ?_;intro v' w6 hO6 hg6;obtain⟨A6,c6,rfl,hc6⟩:=hO6.isSlice1;have k6:=HR5.out.at_.grown hg6 (fun e=>HR5.out.ne p e.symm rfl);have z1:=k6.cell 1;have zf:=k6.frozen 1;simp only[gs3] at z1))
   all_goals exact HF.out.elim
  |some fr=>
   obtain⟨f,r⟩:=fr
   rw[hi] at HI
   have hrl:=z8c_ hi
   clear hi
   simp only[z2b_]
   have HT41:Hid (∀ (M:Nat) (W:World) (v':Value) (ys:List qd_),RdF M p W r v' ys→Calls Tryz.prog 51 #[.pointer (some ⟨p,0,none⟩),.int .u8 41] W fun e w'=>W.grownBy w' (some p)∧match xn_ 41 r with
    |some t=>e= .returned (.tuple #[])∧RdF M p w' t v' ys
    |none=>e= .panicked qk_):=hiD fun M W v' ys hW=>z5x_ M p 41 r v' ys W hW
   cases h41:xn_ 41 r with
   |none=>
    rw[h41] at HT41
    go_enter Tryz.func25,Tryz.ntmps25
    go_wp2_with (first|(go_at_call 51;(with_reducible refine HT40.out.mono ?_);rintro e w2 ⟨hg2,rfl,hR2⟩;have HR2:=hiD hR2;obtain⟨d0,d1,g0,g1⟩:=hR2.cells;clear hR2)|(go_at_call 52;(with_reducible refine(HIB.out _).mono ?_);rintro e w5 ⟨rfl,rfl⟩))
    go_region_law (first|(go_simp;go_at_call 53;(refine(HI.out _ (by exact HR2.out.below (bR _ _).drew)).mono ?_);rintro e w5 ⟨hg5,A5,n5,c5,rfl,hT5,hR5⟩;have HR5:=hiD hR5;obtain⟨k0,k1,kf0,kf1⟩:=hR5.cells;clear hR5;have ka:=fun (o:Obj)=>((ze_ w5 o).cell (z9_ k1)).trans k1)|(refine y6_ (p:=f) (va:= .slice A5 n5 c5) (v:= .slice A qs.length c) (qs:=qs) (B:=p+1) (w0:=w5) (by rfl) (.tmp 41) (.tmp 44) (by rfl) rfl rfl HR5.out.own rfl hql ?_;intro v' w6 hO6 hg6;obtain⟨A6,c6,rfl,hc6⟩:=hO6.isSlice1;have hM:=HR5.out.more hO6 hg6 hT5;have k6:=HR5.out.at_.grown hg6 (fun e=>HR5.out.ne p e.symm rfl);have z1:=k6.cell 1;have zf:=k6.frozen 1;simp only[gs3] at z1))
    all_goals
     have hM2:=hiD hM.1
     have hM3:=hM.2
     clear hM
     go_wp2_with (go_at_call 51;(refine(HT41.out _ _ _ _ (by exact hM2.out)).mono ?_);rintro e w7 ⟨hg7,rfl⟩)
     refine⟨rfl,?_⟩
     exact⟨((((HGP.out _ hg2).drew).trans ((HR2.out.below (bR _ _).drew).grownP hg5)).trans hM3).trans (hM2.out.grownP hg7),rfl⟩
   |some r'=>
    rw[h41] at HT41
    go_enter Tryz.func25,Tryz.ntmps25
    go_wp2_with (first|(go_at_call 51;(with_reducible refine HT40.out.mono ?_);rintro e w2 ⟨hg2,rfl,hR2⟩;have HR2:=hiD hR2;obtain⟨d0,d1,g0,g1⟩:=hR2.cells;clear hR2)|(go_at_call 52;(with_reducible refine(HIB.out _).mono ?_);rintro e w5 ⟨rfl,rfl⟩))
    go_region_law (first|(go_simp;go_at_call 53;(refine(HI.out _ (by exact HR2.out.below (bR _ _).drew)).mono ?_);rintro e w5 ⟨hg5,A5,n5,c5,rfl,hT5,hR5⟩;have HR5:=hiD hR5;obtain⟨k0,k1,kf0,kf1⟩:=hR5.cells;clear hR5;have ka:=fun (o:Obj)=>((ze_ w5 o).cell (z9_ k1)).trans k1)|(refine y6_ (p:=f) (va:= .slice A5 n5 c5) (v:= .slice A qs.length c) (qs:=qs) (B:=p+1) (w0:=w5) (by rfl) (.tmp 41) (.tmp 44) (by rfl) rfl rfl HR5.out.own rfl hql ?_;intro v' w6 hO6 hg6;obtain⟨A6,c6,rfl,hc6⟩:=hO6.isSlice1;have hM:=HR5.out.more hO6 hg6 hT5;have k6:=HR5.out.at_.grown hg6 (fun e=>HR5.out.ne p e.symm rfl);have z1:=k6.cell 1;have zf:=k6.frozen 1;simp only[gs3] at z1))
    all_goals
     have hM2:=hiD hM.1
     have hM3:=hM.2
     clear hM
     go_wp2_with (go_at_call 51;(refine(HT41.out _ _ _ _ (by exact hM2.out)).mono ?_);rintro e w7 ⟨hg7,rfl,hR7⟩)
     go_end0
     exact⟨((((HGP.out _ hg2).drew).trans ((HR2.out.below (bR _ _).drew).grownP hg5)).trans hM3).trans (hM2.out.grownP hg7),rfl,_,[(f,_)],rfl,hR7.fit⟩
open Go.RowKit
def yl_ (o:Int) (n:Nat):Fil.FilE:=⟨o,n,[],[],[],[],[]⟩
def z3r_ (g:Nat→LU→Option (List Fil.FilE × LU)) (o:Int) (f k n:Nat) (l:List Fil.FilE) (r:LU):Option (List Fil.FilE × LU):=match Fil.kidsF g f k r with
 |some (m,l',r')=>z2b_ (some (yl_ o (n+m)::(l++l'),r'))
 |none=>none
theorem zi5_ (g:Nat→LU→Option (List Fil.FilE × LU)) (o:Int) (f k n:Nat) (l:List Fil.FilE) (r:LU) (h:r.head?≠some 40):z3r_ g o f k n l r=z2b_ (some (yl_ o n::l,r)):=by
 have h1:Fil.kidsF g f k r=some (0,[],r):=by
  cases f with
  |zero=>rfl
  |succ f=>unfold Fil.kidsF;rw[if_neg h]
 unfold z3r_
 rw[h1]
 simp
theorem zfl_ (g:Nat→LU→Option (List Fil.FilE × LU)) (o:Int) (f k n:Nat) (l:List Fil.FilE) (r:LU) (h:r.head?=some 40) (hg:g k r=none):z3r_ g o (f+1) k n l r=none:=by
 unfold z3r_ Fil.kidsF
 rw[if_pos h,hg]
theorem zel_ (g:Nat→LU→Option (List Fil.FilE × LU)) (o:Int) (f k n:Nat) (l l1:List Fil.FilE) (r r1:LU) (h:r.head?=some 40) (hg:g k r=some (l1,r1)):z3r_ g o (f+1) k n l r=z3r_ g o f (k+l1.length) (n+1) (l++l1) r1:=by
 unfold z3r_
 cases hk:Fil.kidsF g f (k+l1.length) r1 with
 |none=>
  have e:Fil.kidsF g (f+1) k r=none:=by
   rw[Fil.kidsF,if_pos h,hg]
   simp only[hk]
  rw[e]
 |some x=>
  obtain⟨m,l2,r2⟩:=x
  have e:Fil.kidsF g (f+1) k r=some (m+1,l1++l2,r2):=by
   rw[Fil.kidsF,if_pos h,hg]
   simp only[hk]
  rw[e]
  simp only[List.append_assoc]
  rw[show n+(m+1)=n+1+m by omega]
theorem zo9_ (qs ys:List qd_) (q:qd_):qs.length<(qs++q::ys).length:=by rw[List.length_append,List.length_cons];omega
theorem zpk_ (qs ys:List qd_) (q:qd_):(qs.length:Int)<((qs++q::ys).length:Int):=by have:=zo9_ qs ys q;omega
theorem z6u_ (o:Int) (n:Nat) (qs ys:List qd_) (h:qs.length<(qs++(yl_ o n,Value.slice none 0 0)::ys).length):(qs++(yl_ o n,Value.slice none 0 0)::ys)[qs.length]=(yl_ o n,Value.slice none 0 0)∧(qs++(yl_ o n,Value.slice none 0 0)::ys).set qs.length (zbp_ (yl_ o n,Value.slice none 0 0) ((n:Int)+1))=qs++(yl_ o (n+1),Value.slice none 0 0)::ys:=by
 refine⟨by simp,?_⟩
 rw[List.set_append_right (h:=nR _)]
 simp [zbp_,yl_]
theorem z95_ (d N p:Nat) (s s1:LU) (v:Value) (qs:List qd_) (w:World) (x o:Int) (hx1:x<20) (hx0:0≤x) (h:RdF N p w s v qs) (hs:s.length≤1000000) (h100:¬ 100≤qs.length) (htk:xn_ 40 s=some s1) (hop:Fil.opF s1=some o)
  (ih:∀ (N:Nat) (s:LU) (v:Value) (qs:List qd_) (w:World),RdF N p w s v qs→s.length≤1000000→Calls Tryz.prog 25 #[.pointer (some ⟨p,0,none⟩),.int .i64 (x+1)] w (FRet p w qs (Fil.filF d qs.length s))):
  Calls Tryz.prog 25 #[.pointer (some ⟨p,0,none⟩),.int .i64 x] w (FRet p w qs (Fil.filF (d+1) qs.length s)):=by
 rw[za4_ h100 htk]
 obtain⟨R,hR⟩:∃ R,z2b_ (Fil.bodyF (Fil.filF d) qs.length s1)=R:=⟨_,rfl⟩
 rw[hR]
 obtain⟨y,u,rfl⟩:∃ y u,s1=y::u:=by
  cases s1 with
  |nil=>cases hop
  |cons y u=>exact⟨y,u,rfl⟩
 have hix:Lib.indexByte [38,124,33] y=o∧0≤o:=by
  have:=zo2_ y u
  rw[hop] at this
  by_cases h:Lib.indexByte [38,124,33] y<0
  ·rw[if_pos h] at this;cases this
  ·rw[if_neg h] at this;cases this;omega
 have hK:z3r_ (Fil.filF d) o (u.length+1) (qs.length+1) 0 [] u=R:=by
  rw[← hR]
  unfold z3r_ Fil.bodyF
  rw[hop]
  simp only[List.length_cons,List.drop_succ_cons,List.drop_zero]
  cases Fil.kidsF (Fil.filF d) (u.length+1) (qs.length+1) u with
  |none=>rfl
  |some z=>obtain⟨m,l,r⟩:=z;simp [yl_]
 have hIB:=fun W=>zl_ [38,124,33] y W
 rw[hix.1] at hIB
 have HIB:=hiD hIB
 have ho0:=hix.2
 obtain⟨A,c,rfl,hc⟩:=h.own.isSlice
 obtain⟨c0,c1,f0,f1⟩:=h.cells
 have hl1:=z3a_ htk
 simp only[List.length_cons] at hl1
 have hget:=qe_
 have hlt:(qs.length:Int)<100:=by omega
 have hql:qs.length<1000000:=by omega
 have HT40:Hid (Calls Tryz.prog 51 #[.pointer (some ⟨p,0,none⟩),.int .u8 40] w fun e w'=>w.grownBy w' (some p)∧e= .returned (.tuple #[])∧RdF N p w' (y::u) (.slice A qs.length c) qs):=hiD ((z5x_ N p 40 s _ qs w h).mono (by intro e w' hr;rw[htk] at hr;exact hr))
 have HGP:=hiD (fun (w':World) (hg:w.grownBy w' (some p))=>h.grownP hg)
 have HKK:=hiD hK
 have HIH:=hiD ih
 have hsl:∀ W:World,(Instr.slice 9 (.string ⟨(y::u).toArray⟩) (some (.int .i64 1)) none none).run Tryz.prog W= .ok (.string ⟨u.toArray⟩) W:=fun W=>z1n_ (y::u) 1 (by simp) W
 clear h htk hR hK ih hIB hix hop
 go_enter Tryz.func25,Tryz.ntmps25
 go_wp2_with (first|(go_at_call 51;(with_reducible refine HT40.out.mono ?_);rintro e w2 ⟨hg2,rfl,hR2⟩;have HR2:=hiD hR2;obtain⟨d0,d1,g0,g1⟩:=hR2.cells;clear hR2;have HR3:=hiD (HR2.out.setS u).1;have HB3:=hiD (HR2.out.setS u).2;have HN:=hiD (show w2.heap.size=(w2.setCell ⟨p,0,none⟩ (.string ⟨u.toArray⟩)).heap.size by simp [World.setCell]))|(go_at_call 52;(with_reducible refine(HIB.out _).mono ?_);rintro e w5 ⟨rfl,rfl⟩)|(at_builtin;refine zqf_ (p:=⟨o,0,[],[],[],[],[]⟩) (va:= .slice none 0 0) (v:= .slice A qs.length c) (qs:=qs) (B:=p+1) (N:=w2.heap.size) rfl (.tmp 62) (.tmp 65) rfl rfl rfl HR3.out.own rfl HN.out hql ?_;intro v' w6 hO6 hg6;obtain⟨A6,c6,rfl,hc6⟩:=hO6.isSlice1;have HM:=hiD (HR3.out.more hO6 hg6 (TxT.nil _));have k6:=HR3.out.at_.grown hg6 (fun e=>HR3.out.ne p e.symm rfl);have z1:=k6.cell 1;have zf:=k6.frozen 1;simp only[gs3] at z1))
 go_loopg [] (u.length+1) (fun gk wr=>∃ (r:LU) (v':Value) (n:Nat) (ys:List qd_),Aside (r.length+n≤u.length)∧Aside (r.length≤gk)∧Aside (z3r_ (Fil.filF d) o gk (qs.length+1+ys.length) n (ys.map (·.1)) r=R)∧Aside (RdF wr.heap.size p wr r v' (qs++(yl_ o n,Value.slice none 0 0)::ys))∧Aside (Below p w wr))
 case atStart=>exact⟨u,_,0,[],nR _,by show _≤_;omega,HKK.out,HM.out.1.fit,((HGP.out _ hg2).trans HB3.out).trans HM.out.2⟩
 case round=>
  clear HKK HT40 HR2 HR3 HB3 HN HM HGP hg2 hO6 hg6 k6 z1 zf
  obtain⟨r,v',n,ys,AN,AG,AK,AR,AB⟩:=hrel
  obtain⟨b0,b1,bf0,bf1⟩:=AR.out.cells
  have hrl:r.length≤1000000:=by have:=AN.out;omega
  have hP:∀ W:World,Calls Tryz.prog 54 #[.string ⟨r.toArray⟩,.string ⟨#[40]⟩] W fun e w'=>e= .returned (.bool (Lib.hasPrefix r [40]))∧W=w':=
   fun W=>(Tryz.strings_HasPrefix ⟨r.toArray⟩ ⟨#[40]⟩ W).mono fun _ _ h=>⟨h.1,h.2.symm⟩
  rw[zpj_] at hP
  by_cases hh:r.head?=some 40
  ·rw[decide_eq_true hh] at hP
   have HP:=hiD hP
   clear hP
   have hr1:1≤r.length:=by cases r with
    |nil=>cases hh
    |cons a b=>simp
   obtain⟨q,rfl⟩:∃ q,gk=q+1:=⟨gk - 1,by have:=AG.out;omega⟩
   have hlen:(qs++(yl_ o n,Value.slice none 0 0)::ys).length=qs.length+1+ys.length:=by simp;omega
   have HI:=hiD (fun (W:World) (hW:RdF wr.heap.size p W r v' (qs++(yl_ o n,Value.slice none 0 0)::ys))=>HIH.out _ r v' _ W hW hrl)
   rw[hlen] at HI
   have hwx:IntKind.i64.wrap (x+1)=x+1:=IntWalk.i64_in _ (by omega)
   cases hf:Fil.filF d (qs.length+1+ys.length) r with
   |none=>
    have hfin:R=none:=AK.out.symm.trans (zfl_ _ _ _ _ _ _ _ hh hf)
    subst hfin
    rw[hf] at HI
    clear hf
    go_wp2_with (first
     |(go_at_call 54;(with_reducible refine(HP.out _).mono ?_);rintro e w5 ⟨rfl,rfl⟩)
     |(go_at_call 25;(refine(HI.out _ (by exact AR.out)).mono ?_);rintro e w5 ⟨hb5,rfl⟩))
    refine⟨rfl,?_⟩
    exact⟨AB.out.trans hb5,rfl⟩
   |some lr=>
    obtain⟨l,r2⟩:=lr
    have hr2:=z2o_ _ _ _ _ _ hf
    have AK2:Aside (z3r_ (Fil.filF d) o q (qs.length+1+ys.length+l.length) (n+1) (ys.map (·.1)++l) r2=R):=(zel_ _ _ _ _ _ _ _ _ _ hh hf).symm.trans AK.out
    rw[hf] at HI
    clear hf AK
    have hn1:(n:Int)≤1000000:=by have:=AN.out;omega
    have hwn:IntKind.i64.wrap ((n:Int)+1)=(n:Int)+1:=IntWalk.i64_in _ (by omega)
    go_wp2_with (first
     |(go_at_call 54;(with_reducible refine(HP.out _).mono ?_);rintro e w5 ⟨rfl,rfl⟩)
     |(go_at_call 25;(refine(HI.out _ (by exact AR.out)).mono ?_);rintro e w5 ⟨hb5,rfl,v5,zs,rfl,hR5⟩;rw[List.append_assoc,List.cons_append] at hR5;have hj5:=zo9_ qs (ys++zs) (yl_ o n,Value.slice none 0 0);obtain⟨g,c5,rfl,hc5,hpg,q1,qf,hset⟩:=hR5.bump hj5;have HR5:=hiD hR5;obtain⟨k0,k1,kf0,kf1⟩:=hR5.cells;clear hR5;have HST:=hiD (hset ((n:Int)+1));rw[(z6u_ o n qs (ys++zs) hj5).1,(z6u_ o n qs (ys++zs) hj5).2] at HST;rw[(z6u_ o n qs (ys++zs) hj5).1] at q1;simp only[yl_] at q1;clear hset;have hji:=zpk_ qs (ys++zs) (yl_ o n,Value.slice none 0 0);generalize (qs++(yl_ o n,Value.slice none 0 0)::(ys++zs)).length=L5 at *))
    go_roundg q
    case measure=>omega
    case rel=>exact⟨r2,_,n+1,ys++zs,by have:=AN.out;show _≤_;omega,by have:=AG.out;show _≤_;omega,by show _=_;rw[List.length_append,List.map_append,← Nat.add_assoc];simpa using AK2.out,HST.out.1.fit,(AB.out.trans hb5).trans HST.out.2⟩
  ·rw[decide_eq_false hh] at hP
   have HP:=hiD hP
   have hfin:R=z2b_ (some (yl_ o n::ys.map (·.1),r)):=AK.out.symm.trans (zi5_ _ _ _ _ _ _ _ hh)
   clear hP AK
   simp only[z2b_] at hfin
   have HT41:=hiD (fun (W:World) (hW:RdF wr.heap.size p W r v' (qs++(yl_ o n,Value.slice none 0 0)::ys))=>z5x_ wr.heap.size p 41 r v' _ W hW)
   cases h41:xn_ 41 r with
   |none=>
    rw[h41] at HT41 hfin
    subst hfin
    go_wp2_with (first
     |(go_at_call 54;(with_reducible refine(HP.out _).mono ?_);rintro e w5 ⟨rfl,rfl⟩)
     |(go_at_call 51;(refine(HT41.out _ (by exact AR.out)).mono ?_);rintro e w7 ⟨hg7,rfl⟩))
    refine⟨rfl,?_⟩
    exact⟨AB.out.trans (AR.out.grownP hg7),rfl⟩
   |some r'=>
    rw[h41] at HT41 hfin
    simp only at hfin
    subst hfin
    go_wp2_with (first
     |(go_at_call 54;(with_reducible refine(HP.out _).mono ?_);rintro e w5 ⟨rfl,rfl⟩)
     |(go_at_call 51;(refine(HT41.out _ (by exact AR.out)).mono ?_);rintro e w7 ⟨hg7,rfl,hR7⟩))
    go_end0
    exact⟨AB.out.trans (AR.out.grownP hg7),rfl,_,(yl_ o n,Value.slice none 0 0)::ys,rfl,hR7.fit⟩
open Go.RowKit
theorem vl_ (N p:Nat) (s:LU) (v:Value) (qs:List qd_) (w:World) (x:Int) (R:Option (List Fil.FilE × LU)) (hR:R=none) (hb:20≤x∨x<20∧100≤qs.length∨x<20∧qs.length<100∧xn_ 40 s=none) (h:RdF N p w s v qs):Calls Tryz.prog 25 #[.pointer (some ⟨p,0,none⟩),.int .i64 x] w (FRet p w qs R):=by
 subst hR
 obtain⟨A,c,rfl,hc⟩:=h.own.isSlice
 obtain⟨c0,c1,f0,f1⟩:=h.cells
 have HR:=hiD h
 rcases hb with hb|⟨hx,hb⟩|⟨hx,hl,hb⟩
 ·clear h
  go_enter Tryz.func25,Tryz.ntmps25
  go_wp2_with fail
  refine⟨rfl,?_⟩
  exact⟨bR _ _,rfl⟩
 ·have hi:(100:Int)≤(qs.length:Int):=by omega
  clear h
  go_enter Tryz.func25,Tryz.ntmps25
  go_wp2_with fail
  refine⟨rfl,?_⟩
  exact⟨bR _ _,rfl⟩
 ·have hi:(qs.length:Int)<100:=by omega
  have HT:Hid (Calls Tryz.prog 51 #[.pointer (some ⟨p,0,none⟩),.int .u8 40] w fun e w'=>w.grownBy w' (some p)∧e= .panicked qk_):=hiD ((z5x_ N p 40 s _ qs w h).mono (by intro e w' hr;rw[hb] at hr;exact hr))
  clear h hb
  go_enter Tryz.func25,Tryz.ntmps25
  go_wp2_with (go_at_call 51;(with_reducible refine HT.out.mono ?_);rintro e w2 ⟨hg2,rfl⟩)
  refine⟨rfl,?_⟩
  exact⟨HR.out.grownP hg2,rfl⟩
theorem zaa_ (p:Nat):∀ (d:Nat),d≤20→∀ (N:Nat) (s:LU) (v:Value) (qs:List qd_) (w:World),RdF N p w s v qs→s.length≤1000000→
  Calls Tryz.prog 25 #[.pointer (some ⟨p,0,none⟩),.int .i64 (20 - (d:Int))] w (FRet p w qs (Fil.filF d qs.length s))
 |0,_,N,s,v,qs,w,h,_=>vl_ N p s v qs w _ _ rfl (.inl (by omega)) h
 |d+1,hd,N,s,v,qs,w,h,hs=>by
  have hx:(20:Int) - ((d+1:Nat):Int)<20:=by omega
  have hx0:(0:Int)≤20 - ((d+1:Nat):Int):=by omega
  have ih:=zaa_ p d (by omega)
  by_cases h100:100≤qs.length
  ·exact vl_ N p s v qs w _ _ (by unfold Fil.filF;rw[if_pos h100]) (.inr (.inl ⟨hx,h100⟩)) h
  ·cases htk:xn_ 40 s with
   |none=>exact vl_ N p s v qs w _ _ (zhi_ htk) (.inr (.inr ⟨hx,by omega,htk⟩)) h
   |some s1=>
    cases hop:Fil.opF s1 with
    |none=>exact z9a_ d N p s s1 v qs w _ hx h hs h100 htk hop
    |some o=>
     refine z95_ d N p s s1 v qs w _ o hx hx0 h hs h100 htk hop ?_
     rw[show (20:Int) - ((d+1:Nat):Int)+1=20 - (d:Int) by omega]
     exact ih
end Go.Proofs.YtbekpphodbekiaaGreatDoor
