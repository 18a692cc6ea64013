import Derived.Test.YtakfpngfpknedaaGreatDoorE0z
set_option linter.all false
set_option maxHeartbeats 8000000
set_option maxRecDepth 100000
namespace Go.Proofs.YtakfpngfpknedaaGreatDoor
open Go.RowKit
theorem zcw_ {α:Type} [BEq α] [LawfulBEq α] {p q:List α} {k:Nat} (hp:k<p.length) (hq:k<q.length):(p.drop k==q.drop k)=((p[k]==q[k]) && (p.drop (k+1)==q.drop (k+1))):=by
 rw[List.drop_eq_getElem_cons hp,List.drop_eq_getElem_cons hq]
 rfl
theorem zfl_ (a b:LU × LU):(!decide (a.1=b.1)||!decide (a.2=b.2))=!(a==b):=by
 obtain⟨a1,a2⟩:=a
 obtain⟨b1,b2⟩:=b
 by_cases h1:a1=b1<;>by_cases h2:a2=b2<;>simp [h1,h2]
theorem zg9_ (p q:List (LU × LU)) (v1 v2:Value) (w:World) (hv1:RdnR w v1 p) (hv2:RdnR w v2 q) (hl1:p.length≤1000000) (hl2:q.length≤1000000):
  Calls Tryz.prog 150 #[v1,v2] w fun e w'=>e= .returned (.bool (p==q))∧Bel w w':=by
 obtain⟨A1,c1,rfl,hc1,hx1⟩:=hv1
 obtain⟨A2,c2,rfl,hc2,hx2⟩:=hv2
 by_cases hlen:p.length=q.length
 ·rw[← hlen]
  obtain⟨R,hR⟩:∃ R,(p==q)=R:=⟨_,rfl⟩
  rw[hR]
  have hself:((p.length:Int) !=(p.length:Int))=false:=by simp
  go_enter Tryz.func150,Tryz.ntmps150
  go_wp2_with fail
  go_loopg [13] p.length (fun gk i wr=>∃ k:Nat,k≤p.length∧i= .int .i64 k∧Aside (k+gk=p.length)∧Bel w wr∧Aside ((p.drop k==q.drop k)=R))
  case atStart=>exact⟨0,by omega,rfl,by show _=_;omega,bR _ _,hR⟩
  case round=>
   clear hR
   obtain⟨k,hk,rfl,AG,hB,AR⟩:=hrel
   by_cases hlt:k<p.length
   ·obtain⟨gq,rfl⟩:∃ q,gk=q+1:=⟨gk - 1,by have:=AG.out;omega⟩
    have hltq:k<q.length:=by omega
    obtain⟨g,o,rfl,hg,hcells⟩:=hx1.resolve_left (by intro h;rw[h] at hlt;simp at hlt)
    obtain⟨g',o',rfl,hg',hcells'⟩:=hx2.resolve_left (by intro h;rw[h] at hltq;simp at hltq)
    have hp1:=hcells k p[k] (List.getElem?_eq_getElem hlt)
    have hq1:=hcells' k q[k] (List.getElem?_eq_getElem hltq)
    have x0:wr.cell? ⟨g,o+k * 2,none⟩=some (.string ⟨p[k].1.toArray⟩):=by rw[Nat.mul_comm];exact(hB.cell (p:=⟨g,o+2 * k,none⟩) hg).trans hp1.1
    have x1:wr.cell? ⟨g,o+k * 2+1,none⟩=some (.string ⟨p[k].2.toArray⟩):=by rw[Nat.mul_comm];exact(hB.cell (p:=⟨g,o+2 * k+1,none⟩) hg).trans hp1.2
    have y0:wr.cell? ⟨g',o'+k * 2,none⟩=some (.string ⟨q[k].1.toArray⟩):=by rw[Nat.mul_comm];exact(hB.cell (p:=⟨g',o'+2 * k,none⟩) hg').trans hq1.1
    have y1:wr.cell? ⟨g',o'+k * 2+1,none⟩=some (.string ⟨q[k].2.toArray⟩):=by rw[Nat.mul_comm];exact(hB.cell (p:=⟨g',o'+2 * k+1,none⟩) hg').trans hq1.2
    have hstep:=AR.out
    rw[zcw_ hlt hltq] at hstep
    have HST:=hiD hstep
    have hneq:=zem_
    have hN:=zfl_ p[k] q[k]
    have HB:=hiD hB
    clear hcells hcells' hp1 hq1 hstep AR hB
    go_wp2_with fail
    go_quiet (fail)
    have HBN:Bel w (wr.drewN nq):=⟨HB.out.os,HB.out.tape,HB.out.output,HB.out.size,HB.out.block⟩
    generalize wr.drewN nq=W2 at HBN ⊢
    clear x0 x1 y0 y1 hN hneq
    generalize (p[k]==q[k])=b at *
    cases b
    ·have hfin:R=false:=by rw[← HST.out];rfl
     have HF:=hiD hfin
     clear hfin
     simp only[Bool.not_false]
     go_wp2_with fail
     go_ret
     exact⟨by rw[HF.out];try rfl,HBN⟩
    ·have hfin:(p.drop (k+1)==q.drop (k+1))=R:=by rw[← HST.out];rfl
     have HF:=hiD hfin
     clear hfin
     simp only[Bool.not_true]
     go_wp2_with fail
     go_roundg gq
     case measure=>omega
     case rel=>exact⟨k+1,by omega,by go_num,by have:=AG.out;show _=_;omega,HBN,HF.out⟩
   ·obtain rfl:k=p.length:=by omega
    have hfin:R=true:=by rw[← AR.out,List.drop_length,hlen,List.drop_length];rfl
    have HF:=hiD hfin
    clear hfin AR hx1 hx2
    go_wp2_with fail
    go_ret
    exact⟨by rw[HF.out];try rfl,hB⟩
 ·have hne:((p.length:Int) !=(q.length:Int))=true:=bne_iff_ne.2 (by omega)
  have hfin:(p==q)=false:=by
   rw[beq_eq_false_iff_ne]
   rintro rfl
   exact hlen rfl
  rw[hfin]
  clear hx1 hx2
  go_enter Tryz.func150,Tryz.ntmps150
  go_wp2_with fail
  go_ret
  exact⟨rfl,bR _ _⟩
theorem zhc_ (p q:List (LU × LU)) (v1 v2:Value) (w:World) (hv1:RdnR w v1 p) (hv2:RdnR w v2 q) (hl1:p.length≤1000000) (hl2:q.length≤1000000):
  Calls Tryz.prog 149 #[v1,v2] w fun e w'=>e= .returned (.bool (p==q))∧Bel w w':=by
 have HC:=hiD (zg9_ p q v1 v2 w hv1 hv2 hl1 hl2)
 clear hv1 hv2
 go_enter Tryz.func149,Tryz.ntmps149
 go_wp2_with (go_at_call 150;refine HC.out.mono ?_;rintro e w1 ⟨rfl,hb⟩)
 go_ret
 exact⟨rfl,hb⟩
theorem z5b_ (d f:List (List (LU × LU))) (v1 v2:Value) (w:World) (hv1:DnR w v1 d) (hv2:DnR w v2 f) (hl1:d.length≤1000000) (hl2:f.length≤1000000) (hp1:∀ p∈d,p.length≤1000000) (hp2:∀ p∈f,p.length≤1000000):
  Calls Tryz.prog 148 #[v1,v2,.func (.func 149) #[] #[]] w fun e w'=>e= .returned (.bool (d==f))∧Bel w w':=by
 obtain⟨A1,c1,rfl,hc1,hx1⟩:=hv1
 obtain⟨A2,c2,rfl,hc2,hx2⟩:=hv2
 by_cases hlen:d.length=f.length
 ·rw[← hlen]
  obtain⟨R,hR⟩:∃ R,(d==f)=R:=⟨_,rfl⟩
  rw[hR]
  have hself:((d.length:Int) !=(d.length:Int))=false:=by simp
  have HP1:=hiD hp1
  have HP2:=hiD hp2
  have HLEN:=hiD hlen
  clear hp1 hp2 hlen
  go_enter Tryz.func148,Tryz.ntmps148
  go_wp2_with fail
  go_loopg [17] d.length (fun gk i wr=>∃ k:Nat,k≤d.length∧i= .int .i64 k∧Aside (k+gk=d.length)∧Bel w wr∧Aside ((d.drop k==f.drop k)=R))
  case atStart=>exact⟨0,by omega,rfl,by show _=_;omega,bR _ _,hR⟩
  case round=>
   clear hR
   obtain⟨k,hk,rfl,AG,hB,AR⟩:=hrel
   by_cases hlt:k<d.length
   ·obtain⟨gq,rfl⟩:∃ q,gk=q+1:=⟨gk - 1,by have:=AG.out;omega⟩
    have hltq:k<f.length:=by have:=HLEN.out;omega
    obtain⟨g,o,rfl,hg,hcells⟩:=hx1.resolve_left (by intro h;rw[h] at hlt;simp at hlt)
    obtain⟨g',o',rfl,hg',hcells'⟩:=hx2.resolve_left (by intro h;rw[h] at hltq;simp at hltq)
    obtain⟨pv1,e1,r1⟩:=hcells k d[k] (List.getElem?_eq_getElem hlt)
    obtain⟨pv2,e2,r2⟩:=hcells' k f[k] (List.getElem?_eq_getElem hltq)
    have x0:wr.cell? ⟨g,o+k,none⟩=some pv1:=(hB.cell (p:=⟨g,o+k,none⟩) hg).trans e1
    have y0:wr.cell? ⟨g',o'+k,none⟩=some pv2:=(hB.cell (p:=⟨g',o'+k,none⟩) hg').trans e2
    have HC:=hiD (zhc_ d[k] f[k] pv1 pv2 wr (r1.below hB) (r2.below hB) (HP1.out _ (List.getElem_mem hlt)) (HP2.out _ (List.getElem_mem hltq)))
    obtain⟨B1,b1,rfl,_⟩:=r1
    obtain⟨B2,b2,rfl,_⟩:=r2
    have hstep:=AR.out
    rw[zcw_ hlt hltq] at hstep
    have HST:=hiD hstep
    clear hcells hcells' hstep AR e1 e2
    generalize (d[k]==f[k])=b at *
    cases b
    ·have hfin:R=false:=by rw[← HST.out];rfl
     have HF:=hiD hfin
     clear hfin
     go_wp2_with (go_at_call 149;refine HC.out.mono ?_;rintro e w2 ⟨rfl,hb2⟩)
     go_ret
     exact⟨by rw[HF.out];try rfl,tQ hB hb2⟩
    ·have hfin:(d.drop (k+1)==f.drop (k+1))=R:=by rw[← HST.out];rfl
     have HF:=hiD hfin
     clear hfin
     go_wp2_with (go_at_call 149;refine HC.out.mono ?_;rintro e w2 ⟨rfl,hb2⟩)
     go_roundg gq
     case measure=>omega
     case rel=>exact⟨k+1,by omega,by go_num,by have:=AG.out;show _=_;omega,tQ hB hb2,HF.out⟩
   ·obtain rfl:k=d.length:=by omega
    have hfin:R=true:=by rw[← AR.out,List.drop_length,HLEN.out,List.drop_length];rfl
    have HF:=hiD hfin
    clear hfin AR hx1 hx2
    go_wp2_with fail
    go_ret
    exact⟨by rw[HF.out];try rfl,hB⟩
 ·have hne:((d.length:Int) !=(f.length:Int))=true:=bne_iff_ne.2 (by omega)
  have hfin:(d==f)=false:=by
   rw[beq_eq_false_iff_ne]
   rintro rfl
   exact hlen rfl
  rw[hfin]
  clear hx1 hx2
  go_enter Tryz.func148,Tryz.ntmps148
  go_wp2_with fail
  go_ret
  exact⟨rfl,bR _ _⟩
open Go.RowKit
theorem zi3_ (A:Option Addr) (n c k:Nat) (hk:k≤n) (w:World):(Instr.slice 183 (.slice A n c) (some (.int .i64 (k:Int))) none none).run Tryz.prog w= .ok (.slice (if c=k then A else A.map (·.add (k * 1))) (n - k) (c - k)) w:=by
 have h1:(Instr.sliceBounds true n c (some (.int .i64 k)) none none).run Tryz.prog w= .ok (k,n,c) w:=by
  simp [Instr.sliceBounds,run_sliceBound,hk]
 have h2:(sizeOf 187).run Tryz.prog w= .ok 1 w:=by kernel_rfl
 unfold Instr.slice
 simp only[Sem.run_bind,run_underlying Tryz.underlying183,Result.andThen_ok,h1,h2,Sem.run_pure]
theorem add_at (g o j:Nat):(⟨g,o,none⟩:Addr).add j=⟨g,o+j,none⟩:=by unfold Addr.add;split<;>simp_all
theorem DnR.drop {w:World} {A:Option Addr} {n c:Nat} {d:List (List (LU × LU))} (h:DnR w (.slice A n c) d) (k:Nat):n=d.length∧DnR w (.slice (if c=k then A else A.map (·.add (k * 1))) (n - k) (c - k)) (d.drop k):=by
 obtain⟨A',c',e,hc,hx⟩:=h
 cases e
 refine⟨rfl,_,_,by rw[List.length_drop],by rw[List.length_drop];omega,?_⟩
 by_cases hk:d.length≤k
 ·exact .inl (List.drop_eq_nil_of_le hk)
 ·right
  obtain⟨g,o,rfl,hg,hcells⟩:=hx.resolve_left (by rintro rfl;simp at hk)
  refine⟨g,o+k,?_,hg,fun j p hj=>?_⟩
  ·rw[if_neg (by omega),Option.map_some,add_at]
   simp
  ·rw[List.getElem?_drop] at hj
   have:=hcells (k+j) p hj
   rw[← Nat.add_assoc] at this
   exact this
theorem zag_ {w:World} {A:Option Addr} {n c:Nat} {d:List (List (LU × LU))} (h:DnR w (.slice A n c) d) (k:Nat) (hk:k≤n):∃ A',(∀ W,(Instr.slice 183 (.slice A n c) (some (.int .i64 (k:Int))) none none).run Tryz.prog W= .ok (.slice A' (n - k) (c - k)) W)∧DnR w (.slice A' (n - k) (c - k)) (d.drop k):=
 ⟨_,fun W=>zi3_ A n c k hk W,(h.drop k).2⟩
theorem z2e_ (a:LU):(zd_ a).2.length≤1000000∧∀ p∈(zd_ a).2,p.length≤1000000:=by
 by_cases h:(zd_ a).1=0
 ·have htl:=z3j_ (s:=a) (d:=(zd_ a).2) (by rw[← h])
  unfold zz_ at htl
  rw[Bool.or_eq_false_iff] at htl
  refine⟨by have:=htl.1;simp at this;omega,fun p hp=>?_⟩
  have h1:=List.any_eq_false.1 htl.2 p hp
  unfold qq_ at h1
  simp only[Bool.or_eq_true,decide_eq_true_eq,not_or] at h1
  omega
 ·have:(zd_ a).2=[]:=by
   unfold zd_ at h ⊢
   split
   ·rfl
   ·next h1=>
    rw[if_neg h1] at h
    split
    ·rfl
    ·next d hd=>
     rw[hd] at h
     simp only at h
     split
     ·rfl
     ·next h2=>rw[if_neg h2] at h;exact absurd rfl h
  rw[this]
  simp
theorem zeh_ (sv:Value) (a b:LU) (w:World) (hw:Env w):
  Calls Tryz.prog 82 #[sv,.string ⟨a.toArray⟩,.string ⟨b.toArray⟩] w fun e w'=>e= .returned (.bool (z2t_ a b))∧Bel w w':=by
 have hPa:=kw_ a w hw
 have hPb:=fun (W:World) (h:Bel w W)=>kw_ b W (hw.keep h)
 have hla:(zd_ a).2.length≤1000000∧∀ p∈(zd_ a).2,p.length≤1000000:=z2e_ a
 have hlb:(zd_ b).2.length≤1000000∧∀ p∈(zd_ b).2,p.length≤1000000:=z2e_ b
 unfold z2t_
 generalize zd_ a=pa at *
 generalize zd_ b=pb at *
 obtain⟨ea,da⟩:=pa
 obtain⟨eb,db⟩:=pb
 simp only at hla hlb ⊢
 have HPa:=hiD hPa
 have HPb:=hiD hPb
 have HLA:=hiD hla.2
 have HLB:=hiD hlb.2
 have la:=hla.1
 have lb:=hlb.1
 have hmf:=z2x_
 clear hPa hPb hla hlb hw
 by_cases he:ea=0
 ·subst he
  by_cases hf:eb=0
  ·subst hf
   by_cases hl:db.length≤da.length
   ·rw[decide_eq_true hl]
    show Calls _ _ _ _ fun e w'=>e= .returned (.bool (da.drop (da.length - db.length)==db))∧_
    have hnl:¬ (da.length:Int)<(db.length:Int):=by omega
    have hsub:IntKind.i64.wrap ((da.length:Int) - (db.length:Int))=((da.length - db.length:Nat):Int):=by rw[IntWalk.i64_in _ (by omega)];omega
    have hdl:(da.drop (da.length - db.length)).length≤1000000:=by rw[List.length_drop];omega
    have HDP:Hid (∀ p∈da.drop (da.length - db.length),p.length≤1000000):=hiD fun p hp=>HLA.out p (List.mem_of_mem_drop hp)
    obtain⟨k,hk⟩:∃ k,da.length - db.length=k:=⟨_,rfl⟩
    have hkl:k≤da.length:=by omega
    rw[hk] at hsub hdl HDP ⊢
    clear hk
    have HEQ:Hid (∀ (v1 v2:Value) (W:World),DnR W v1 (da.drop k)→DnR W v2 db→Calls Tryz.prog 148 #[v1,v2,.func (.func 149) #[] #[]] W fun e w'=>e= .returned (.bool (da.drop k==db))∧Bel W w'):=hiD fun v1 v2 W h1 h2=>z5b_ _ _ v1 v2 W h1 h2 hdl lb HDP.out HLB.out
    generalize (da.drop k==db)=R at HEQ ⊢
    go_enter Tryz.func82,Tryz.ntmps82
    go_wp2_with (first|(go_at_call 144;(with_reducible refine HPa.out.mono ?_);rintro e w1 ⟨hb1,v1,rfl,hd1⟩;obtain⟨A1,c1,rfl,hc1⟩:=hd1.isSlice;obtain⟨B1,hsl,hdr⟩:=zag_ hd1.reads k hkl;have HDR:=hiD hdr;clear hdr)|(go_at_call 144;(with_reducible refine(HPb.out _ hb1).mono ?_);rintro e w2 ⟨hb2,v2,rfl,hd2⟩;obtain⟨A2,c2,rfl,hc2⟩:=hd2.isSlice;have HR2:=hiD hd2.reads;have hB2:=tQ hb1 hb2)|(go_at_call 148;refine(HEQ.out _ _ _ (HDR.out.below hb2) HR2.out).mono ?_;rintro e w3 ⟨rfl,hb3⟩))
    all_goals
     go_ret
     exact⟨rfl,tQ hB2 hb3⟩
   ·rw[decide_eq_false hl]
    have hnl:(da.length:Int)<(db.length:Int):=by omega
    go_enter Tryz.func82,Tryz.ntmps82
    go_wp2_with (first|(go_at_call 144;(with_reducible refine HPa.out.mono ?_);rintro e w1 ⟨hb1,v1,rfl,hd1⟩;obtain⟨A1,c1,rfl,hc1⟩:=hd1.isSlice)|(go_at_call 144;(with_reducible refine(HPb.out _ hb1).mono ?_);rintro e w2 ⟨hb2,v2,rfl,hd2⟩;obtain⟨A2,c2,rfl,hc2⟩:=hd2.isSlice;have hB2:=tQ hb1 hb2))
    all_goals
     go_ret
     exact⟨rfl,hB2⟩
  ·have hbn:((eb:Int) !=0)=true:=bne_iff_ne.2 hf
   have hbe:(eb==0)=false:=beq_eq_false_iff_ne.2 hf
   have hfin:((0:Int)==0 && eb==0 && decide (db.length≤da.length) && (da.drop (da.length - db.length)==db))=false:=by rw[hbe];rfl
   rw[hfin]
   clear hfin hbe
   go_enter Tryz.func82,Tryz.ntmps82
   go_wp2_with (first|(go_at_call 144;(with_reducible refine HPa.out.mono ?_);rintro e w1 ⟨hb1,v1,rfl,hd1⟩;obtain⟨A1,c1,rfl,hc1⟩:=hd1.isSlice)|(go_at_call 144;(with_reducible refine(HPb.out _ hb1).mono ?_);rintro e w2 ⟨hb2,v2,rfl,hd2⟩;obtain⟨A2,c2,rfl,hc2⟩:=hd2.isSlice;have hB2:=tQ hb1 hb2))
   all_goals
    go_ret
    exact⟨rfl,hB2⟩
 ·have hbn:((ea:Int) !=0)=true:=bne_iff_ne.2 he
  have hbe:(ea==0)=false:=beq_eq_false_iff_ne.2 he
  have hfin:(ea==0 && eb==0 && decide (db.length≤da.length) && (da.drop (da.length - db.length)==db))=false:=by rw[hbe];rfl
  rw[hfin]
  clear hfin hbe
  go_enter Tryz.func82,Tryz.ntmps82
  go_wp2_with (first|(go_at_call 144;(with_reducible refine HPa.out.mono ?_);rintro e w1 ⟨hb1,v1,rfl,hd1⟩;obtain⟨A1,c1,rfl,hc1⟩:=hd1.isSlice)|(go_at_call 144;(with_reducible refine(HPb.out _ hb1).mono ?_);rintro e w2 ⟨hb2,v2,rfl,hd2⟩;obtain⟨A2,c2,rfl,hc2⟩:=hd2.isSlice;have hB2:=tQ hb1 hb2))
  all_goals
   go_ret
   exact⟨rfl,hB2⟩
end Go.Proofs.YtakfpngfpknedaaGreatDoor
set_option linter.all false
namespace Go.Proofs.YtakfpngfpknedaaGreatDoor
open Go.RowKit
/-! A pair of texts as a map's key. -/
def tyV (k:LU × LU):Value:= .agg #[.string ⟨k.1.toArray⟩,.string ⟨k.2.toArray⟩]
theorem eq_tyV (W:World) (a b:LU × LU):(Op.equal 132 (tyV a) (tyV b)).run Tryz.prog W= .ok (decide (a=b)) W:=by
 obtain⟨p,a⟩:=a
 obtain⟨q,b⟩:=b
 have u9:=Tryz.underlying9
 have a9:=Tryz.isAgg9
 have z9:=Tryz.sizeOf9
 have hS:Tryz.prog.underlying 132=some (.struct (Tryz.prog.fieldsOf 132)):=by kernel_rfl
 have hp:Tryz.prog.stoodInHeld 132=false:=by kernel_rfl
 unfold Op.equal Op.maxDepth tyV
 rw[run_equalIn_agg W 9999 132 _ _ hS hp]
 simp only[Program.fieldsOf,Tryz.underlying132]
 go_simp
 by_cases h1:a=b<;>by_cases h2:p=q<;>simp [h1,h2]
theorem z73_ (b:Bool) (w:World) (k:LU × LU):(Instr.checkKey b 10000 132 (tyV k)).run Tryz.prog w= .ok () w:=by
 unfold tyV
 kernel_rfl
theorem z5a_:z6c_ Tryz.prog 132 tyV:=z0n_ Tryz.underlying132 (fun a b=>by simp [Instr.sameNow]) eq_tyV
def z1n_ (w:World) (m:Nat):Prop:=w.heap[m]?=some (.map #[] 0)
theorem zay_ {w:World} {m:Nat} (h:z1n_ w m) (a b:LU):
  (Instr.lookup 95 (.map (some m)) (.agg #[.string ⟨a.toArray⟩,.string ⟨b.toArray⟩]) true).run Tryz.prog w= .ok (.tuple #[.agg #[],.bool false]) w:=
 z1m_ Tryz.underlying95 z5a_ z73_ z6e_ w m 0 #[] [] h rfl (a,b)
theorem zbu_ {w:World} {m:Nat} (h:z1n_ w m) (a b:LU):
  ∃ W,(Instr.mapUpdate 95 (.map (some m)) (.agg #[.string ⟨a.toArray⟩,.string ⟨b.toArray⟩]) (.agg #[])).run Tryz.prog w= .ok () W∧w.grownBy W (some m):=
 ⟨_,z4r_ Tryz.underlying95 z5a_ z73_ w m 0 #[] [] h rfl (a,b) (.agg #[]) rfl,q3_ _ _ _ _⟩
section
variable {w:World} {c:Cfg.ConfE} {va vc vl vi vr vu:Value} {cp s:Nat} {sx rt:LU}
theorem zd2_ {A:Option Addr} {n:Nat} (h:Bk w cp 35 (z2k_ c va vc (.slice A 0 n) vi vr vu (.pointer (some ⟨s,0,none⟩)) sx rt)):
  Calls Tryz.prog 57 #[.pointer (some ⟨cp,0,none⟩)] w fun e w'=>e= .returned (.bool true)∧w'=w:=by
 have c6:=h.cell 6
 have c13:=h.cell 13
 simp only[z2k_,List.getElem?_toArray,List.getElem?_cons_zero,List.getElem?_cons_succ] at c6 c13
 clear h
 go_enter Tryz.func57,Tryz.ntmps57
 go_wp2_with fail
 go_loopg [13] 0 (fun gk i wr=>i= .int .i64 0∧wr=w)
 case atStart=>exact⟨rfl,rfl⟩
 case round=>
  obtain⟨rfl,rfl⟩:=hrel
  go_wp2_with fail
  go_ret
  exact⟨rfl,rfl⟩
theorem zjh_ (ps:List Nat) (k1 k2:LU) (hw:Env w) (hS:SchAt w s ps xq_) (h:Bk w cp 35 (z2k_ c va vc vl vi vr vu (.pointer (some ⟨s,0,none⟩)) sx rt)) (hk1:z37_ xq_ c.suffix=(0,k1)) (hk2:z37_ xq_ c.root=(0,k2)) (hne:k1≠[])
  (hu1:z2t_ k1 [99,110,61,99,111,110,102,105,103]=false) (hu2:z2t_ [99,110,61,99,111,110,102,105,103] k1=false) (hcs:∀ W,w.grownBy W (some cp)→SchAt W s ps xq_) (hce:∀ W,w.grownBy W (some cp)→Env W):
  Calls Tryz.prog 58 #[.pointer (some ⟨cp,0,none⟩)] w fun e w'=>e= .returned (.bool true)∧w.grownBy w' (some cp)∧Bk w' cp 35 (z2k_ c va vc vl vi vr vu (.pointer (some ⟨s,0,none⟩)) k1 k2):=by
 have HK1:Hid (∀ W,w.grownBy W (some cp)→Calls Tryz.prog 81 #[.pointer (some ⟨s,0,none⟩),.string ⟨c.suffix.toArray⟩] W fun e w'=>e= .returned (.tuple #[.string ⟨k1.toArray⟩,.int .i64 0])∧Bel W w'):=hiD fun W h=>by
  have:=Key_c s ps xq_ base_sound c.suffix W (hce W h) (hcs W h)
  rw[hk1] at this
  exact this
 have HK2:Hid (∀ W,w.grownBy W (some cp)→Calls Tryz.prog 81 #[.pointer (some ⟨s,0,none⟩),.string ⟨c.root.toArray⟩] W fun e w'=>e= .returned (.tuple #[.string ⟨k2.toArray⟩,.int .i64 0])∧Bel W w'):=hiD fun W h=>by
  have:=Key_c s ps xq_ base_sound c.root W (hce W h) (hcs W h)
  rw[hk2] at this
  exact this
 have HU1:Hid (∀ W,w.grownBy W (some cp)→Calls Tryz.prog 82 #[.pointer (some ⟨s,0,none⟩),.string ⟨k1.toArray⟩,.string ⟨#[99,110,61,99,111,110,102,105,103]⟩] W fun e w'=>e= .returned (.bool false)∧Bel W w'):=hiD fun W h=>by
  have:=zeh_ (.pointer (some ⟨s,0,none⟩)) k1 [99,110,61,99,111,110,102,105,103] W (hce W h)
  rw[hu1] at this
  exact this
 have HU2:Hid (∀ W,w.grownBy W (some cp)→Calls Tryz.prog 82 #[.pointer (some ⟨s,0,none⟩),.string ⟨#[99,110,61,99,111,110,102,105,103]⟩,.string ⟨k1.toArray⟩] W fun e w'=>e= .returned (.bool false)∧Bel W w'):=hiD fun W h=>by
  have:=zeh_ (.pointer (some ⟨s,0,none⟩)) [99,110,61,99,111,110,102,105,103] k1 W (hce W h)
  rw[hu2] at this
  exact this
 have HP0:=hiD h
 have hne2:((⟨k1.toArray⟩:ByteArray) !=⟨#[]⟩)=true:=by
  show (!(k1.toArray==#[]))=true
  have:(k1.toArray==#[])=false:=beq_eq_false_iff_ne.2 (fun e=>hne (by simpa using e))
  rw[this];rfl
 have hne3:(k1 !=[])=true:=bne_iff_ne.2 hne
 have hne4:decide (k1=[])=false:=decide_eq_false hne
 have hne5:(k1==[])=false:=beq_eq_false_iff_ne.2 hne
 clear hw hS hcs hce hk1 hk2 hu1 hu2 h
 have hg0:w.grownBy w (some cp):=World.grownBy.refl _ _
 have HG0:=hiD hg0
 clear hg0
 have c0:=HP0.out.cell 0
 have c1:=HP0.out.cell 1
 have c12:=HP0.out.cell 12
 have c14:=HP0.out.cell 14
 have f14:=HP0.out.frozen 14
 simp only[z2k_,List.getElem?_toArray,List.getElem?_cons_zero,List.getElem?_cons_succ] at c0 c1 c12 c14
 go_enter Tryz.func58,Tryz.ntmps58
 go_upto_region 2 with fail
 go_cut [3] (fun s3 wx=>s3= .int .i64 0∧Aside (w.grownBy wx (some cp))∧Aside (Bk wx cp 35 (z2k_ c va vc vl vi vr vu (.pointer (some ⟨s,0,none⟩)) k1 rt)))
 case first=>
  go_region_with (first
   |(go_at_call 81;(with_reducible refine(HK1.out _ (HG0.out.trans (z1_ (bR _ _).drew _))).mono ?_);rintro e w1 ⟨rfl,hb⟩;have HP1:=hiD ((HP0.out.below (bR _ _).drew).below hb);have HG1:=hiD ((HG0.out.trans (z1_ (bR _ _).drew _)).trans (z1_ hb _));have g0:=HP1.out.cell 0;have g12:=HP1.out.cell 12;have g14:=HP1.out.cell 14;have h14:=HP1.out.frozen 14;simp only[z2k_,List.getElem?_toArray,List.getElem?_cons_zero,List.getElem?_cons_succ] at g0 g12 g14;clear hb)
   |fail)
  all_goals
   go_wp2_with fail
   go_meet
   exact⟨rfl,HG1.out.trans (z6_ _ _ _ _),by show Bk _ _ _ _;simpa [z2k_] using HP1.out.set 14 (.string ⟨k1.toArray⟩)⟩
 case rest=>
 obtain⟨rfl,AG,AP⟩:=hcut
 have HG0:=hiD AG.out
 have HP0:=hiD AP.out
 clear AG AP c0 c1 c12 c14 f14
 have c1:=HP0.out.cell 1
 have c12:=HP0.out.cell 12
 have c15:=HP0.out.cell 15
 have f15:=HP0.out.frozen 15
 simp only[z2k_,List.getElem?_toArray,List.getElem?_cons_zero,List.getElem?_cons_succ] at c1 c12 c15
 go_upto_region 3 with fail
 go_cut [4] (fun s3 wx=>s3= .int .i64 0∧Aside (w.grownBy wx (some cp))∧Aside (Bk wx cp 35 (z2k_ c va vc vl vi vr vu (.pointer (some ⟨s,0,none⟩)) k1 k2)))
 case first=>
  go_region_with (first
   |(go_at_call 81;(with_reducible refine(HK2.out _ (HG0.out.trans (z1_ (bR _ _).drew _))).mono ?_);rintro e w1 ⟨rfl,hb⟩;have HP1:=hiD ((HP0.out.below (bR _ _).drew).below hb);have HG1:=hiD ((HG0.out.trans (z1_ (bR _ _).drew _)).trans (z1_ hb _));have g0:=HP1.out.cell 1;have g12:=HP1.out.cell 12;have g14:=HP1.out.cell 15;have h14:=HP1.out.frozen 15;simp only[z2k_,List.getElem?_toArray,List.getElem?_cons_zero,List.getElem?_cons_succ] at g0 g12 g14;clear hb)
   |fail)
  all_goals
   go_wp2_with fail
   go_meet
   exact⟨rfl,HG1.out.trans (z6_ _ _ _ _),by show Bk _ _ _ _;simpa [z2k_] using HP1.out.set 15 (.string ⟨k2.toArray⟩)⟩
 case rest=>
 obtain⟨rfl,AG,AP⟩:=hcut
 have HG0:=hiD AG.out
 have HP0:=hiD AP.out
 clear AG AP c1 c12 c15 f15 HK1 HK2
 obtain⟨wr,hwr⟩:∃ x,x=wc:=⟨_,rfl⟩
 subst hwr
 have HC:Hid (Bel wr wr):=hiD (bR _ _)
 have HS:Hid (∀ W,Bel wr W→W.cell? ⟨cp,12,none⟩=some (.pointer (some ⟨s,0,none⟩))∧W.cell? ⟨cp,14,none⟩=some (.string ⟨k1.toArray⟩)):=hiD fun W h=>⟨(HP0.out.below h).cell 12,(HP0.out.below h).cell 14⟩
 have HU1:Hid (∀ W,Bel wr W→_):=hiD fun W h=>HU1.out W (HG0.out.trans (z1_ h _))
 have HU2:Hid (∀ W,Bel wr W→_):=hiD fun W h=>HU2.out W (HG0.out.trans (z1_ h _))
 obtain⟨c12,c14⟩:=HS.out _ HC.out
 go_upto_region 4 with fail
 go_region_held3 (fun W=>W.cell? ⟨cp,12,none⟩=some (.pointer (some ⟨s,0,none⟩))∧W.cell? ⟨cp,14,none⟩=some (.string ⟨k1.toArray⟩)) (first|exact HS.out _ HC.out.drew|exact HS.out _ HC.out) (first
  |(go_at_call 82;(with_reducible refine(HU1.out _ HC.out.drew).mono ?_);rintro e w2 ⟨rfl,hb⟩;have HC:=hiD (tQ HC.out.drew hb);clear hb)
  |(go_at_call 82;(with_reducible refine(HU2.out _ HC.out).mono ?_);rintro e w3 ⟨rfl,hb⟩;have HC:=hiD (tQ HC.out hb);clear hb)
  |fail)
 all_goals
  go_wp2_with fail
  go_ret
  exact⟨rfl,HG0.out.trans (z1_ HC.out _),HP0.out.below HC.out⟩
end
end Go.Proofs.YtakfpngfpknedaaGreatDoor
set_option linter.all false
namespace Go.Proofs.YtakfpngfpknedaaGreatDoor
open Go.RowKit
section
variable {w:World} {c:Cfg.ConfE} {va vc vl vi vr vu sv:Value} {cp s:Nat} {sx rt:List UInt8}
theorem z3a_ (wd:List UInt8) (A:Option Addr) (n:Nat) (p m:Value):Calls Tryz.prog 59 #[p,.string ⟨wd.toArray⟩,.slice A 0 n,m] w fun e w'=>e= .returned (.tuple #[.bool false,.bool false])∧w'=w:=by
 go_enter Tryz.func59,Tryz.ntmps59
 go_wp2_with fail
 go_loopg [9,19] 0 (fun gk tw i wr=>tw= .bool false∧i= .int .i64 0∧wr=w)
 case atStart=>exact⟨rfl,rfl,rfl⟩
 case round=>
  obtain⟨rfl,rfl,rfl⟩:=hrel
  go_wp2_with fail
  go_ret2
  exact⟨rfl,rfl⟩
set_option maxRecDepth 100000 in
theorem zdw_ (wd t:List UInt8) (ps:List Nat) (m g n:Nat) (hS:SchAt w s ps xq_) (h:Bk w cp 35 (z2k_ c va vc vl vi vr vu (.pointer (some ⟨s,0,none⟩)) sx rt)) (hm:z1n_ w m) (ht:w.cell? ⟨g,0,none⟩=some (.string ⟨t.toArray⟩)) (htl:t.length≤1000000) (j:Nat) (a:AttrS) (hf:zk_ xq_ false t=some j) (ha:q9_ xq_ j=some a):
  Calls Tryz.prog 59 #[.pointer (some ⟨cp,0,none⟩),.string ⟨wd.toArray⟩,.slice (some ⟨g,0,none⟩) 1 n,.map (some m)] w fun e w'=>e= .returned (.tuple #[.bool false,.bool false])∧w.grownBy w' (some m):=by
 have HA:Hid (∀ W,Below w.heap.size w W→Calls Tryz.prog 83 #[.pointer (some ⟨s,0,none⟩),.string ⟨t.toArray⟩] W fun e w'=>Below W.heap.size W w'∧∃ A n k,e= .returned (.tuple #[jv_ a (.slice A n k),.int .i64 0])):=Lib.hid fun W h=>by
  refine(z0f_ s ps xq_ base_sound.lim t j a W (hS.below h) (Nat.le_trans htl (by decide)) hf ha).mono ?_
  rintro e w' ⟨h1,nv,rfl,h2⟩
  obtain⟨A,c,rfl,_⟩:=h2.isSlice
  exact⟨h1,A,_,c,rfl⟩
 have c12:=h.cell 12
 simp only[z2k_,List.getElem?_toArray,List.getElem?_cons_zero,List.getElem?_cons_succ] at c12
 have hml:m<w.heap.size:=(Array.getElem?_eq_some_iff.1 hm).1
 have HM:=Lib.hid hm
 unfold jv_ z8_ at HA
 clear hS h hf ha hm
 go_enter Tryz.func59,Tryz.ntmps59
 go_wp2_with fail
 go_loopg [9,19] 1 (fun gk tw i wr=>∃ k:Nat,k≤1∧tw= .bool false∧i= .int .i64 (k:Int)∧Aside (k+gk=1)∧Aside (w.grownBy wr (some m))∧Aside (k=0→wr=w))
 case atStart=>exact⟨0,Nat.zero_le _,rfl,rfl,rfl,World.grownBy.refl _ _,fun _=>rfl⟩
 case round=>
  obtain⟨k,hk,rfl,rfl,AG,AB,AE⟩:=hrel
  by_cases hk1:k<1
  case neg=>
   obtain rfl:k=1:=by omega
   go_wp2_with fail
   go_ret2
   exact⟨rfl,AB.out⟩
  case pos=>
  obtain⟨q,rfl⟩:∃ q,gk=q+1:=⟨gk - 1,by have:=AG.out;omega⟩
  obtain rfl:k=0:=by omega
  obtain rfl:=AE.out rfl
  clear AB AE
  go_upto_region 8 with (go_at_call 83;(with_reducible refine(HA.out _ (Below.refl _ _)).mono ?_);rintro e w1 ⟨hb,A1,n1,c1,rfl⟩;have HB1:=Lib.hid hb;clear hb)
  have k2:=Bk.new (w1.alloc (.cells #[.string ⟨a.oid.toArray⟩,.string ⟨a.name.toArray⟩,.string ⟨a.sup.toArray⟩,.slice A1 n1 c1,.string ⟨a.form.toArray⟩,.string ⟨a.eqr.toArray⟩,.string ⟨a.ordr.toArray⟩,.string ⟨a.subs.toArray⟩,.bool a.single,.bool a.fixed,.bool a.oper] 128)) 132 #[.string ⟨wd.toArray⟩,.string ⟨a.oid.toArray⟩]
  rw[World.size_alloc] at k2
  have b2:=(HB1.out.alloc HB1.out.size (.cells #[.string ⟨a.oid.toArray⟩,.string ⟨a.name.toArray⟩,.string ⟨a.sup.toArray⟩,.slice A1 n1 c1,.string ⟨a.form.toArray⟩,.string ⟨a.eqr.toArray⟩,.string ⟨a.ordr.toArray⟩,.string ⟨a.subs.toArray⟩,.bool a.single,.bool a.fixed,.bool a.oper] 128)).alloc (by rw[World.size_alloc];have:=HB1.out.size;omega) (.cells #[.string ⟨wd.toArray⟩,.string ⟨a.oid.toArray⟩] 132)
  generalize (w1.alloc (.cells #[.string ⟨a.oid.toArray⟩,.string ⟨a.name.toArray⟩,.string ⟨a.sup.toArray⟩,.slice A1 n1 c1,.string ⟨a.form.toArray⟩,.string ⟨a.eqr.toArray⟩,.string ⟨a.ordr.toArray⟩,.string ⟨a.subs.toArray⟩,.bool a.single,.bool a.fixed,.bool a.oper] 128)).alloc (.cells #[.string ⟨wd.toArray⟩,.string ⟨a.oid.toArray⟩] 132)=w3 at *
  generalize w1.heap.size+1=bt at *
  have hm3:z1n_ w3 m:=(b2.block m hml).trans HM.out
  have hask:=zay_ hm3 wd a.oid
  have t0:=k2.cell 0
  have t1:=k2.cell 1
  simp only[List.getElem?_toArray,List.getElem?_cons_zero,List.getElem?_cons_succ] at t0 t1
  have K2:=Lib.hid k2
  have B2:=Lib.hid b2
  have HM3:=Lib.hid hm3
  clear k2 b2 hm3 HB1
  go_upto_region 9 with fail
  have b4:=zs_ w3 (.cells #[] 58)
  have k4:=K2.out.below b4
  have B4:=Lib.hid (B2.out.trans (b4.mono B2.out.size))
  have hm4:z1n_ (w3.alloc (.cells #[] 58)) m:=(b4.block m (Nat.lt_of_lt_of_le hml B2.out.size)).trans HM3.out
  clear b4 t0 t1 hask
  generalize w3.alloc (.cells #[] 58)=w4 at *
  obtain⟨W,hu,hg⟩:=zbu_ hm4 wd a.oid
  have HGW:=Lib.hid ((z1_ B4.out (some m)).trans hg)
  have t0:=k4.cell 0
  have t1:=k4.cell 1
  simp only[List.getElem?_toArray,List.getElem?_cons_zero,List.getElem?_cons_succ] at t0 t1
  clear k4 hm4 hg
  go_wp2_with fail
  go_roundg q
  case measure=>omega
  case rel=>exact⟨1,by omega,rfl,by go_num,by have:=AG.out;show _=_;omega,HGW.out,fun h=>by omega⟩
end
end Go.Proofs.YtakfpngfpknedaaGreatDoor
set_option linter.all false
namespace Go.Proofs.YtakfpngfpknedaaGreatDoor
open Go.RowKit
theorem z9s_ (g:FuncId) (bx:Nat) (w:World):Calls Tryz.prog 84 #[.func (.func g) #[] #[],.pointer (some ⟨bx,0,none⟩)] w fun e w'=>∃ b,e= .returned (.func (.func 85) #[] #[.pointer (some ⟨bx,0,none⟩),.pointer (some ⟨b,0,none⟩)])∧Bel w w':=by
 have hmf:=z2x_
 have b1:=zs_ w (.cells #[.func (.func g) #[] #[]] 133)
 go_enter Tryz.func84,Tryz.ntmps84
 go_wp2_with fail
 go_ret
 exact⟨_,rfl,b1⟩
section
variable {w:World} {c:Cfg.ConfE} {va vc vl vi vr vu sv:Value} {cp s:Nat} {sx rt:LU}
theorem zbp_ {A B:Option Addr} {n m:Nat} (h:Bk w cp 35 (z2k_ c va vc vl vi (.slice A 0 n) (.slice B 0 m) sv sx rt)) (hr:Texts w (.slice A 0 n) []) (hu:Texts w (.slice B 0 m) []):
  Calls Tryz.prog 60 #[.pointer (some ⟨cp,0,none⟩)] w fun e w'=>e= .returned (.bool true)∧Bel w w':=by
 have hmf:=z2x_
 have hent:∀ (args:Array Value) (W:World),(callFunc 84 args).run Tryz.prog W= .ok (.enter 84 args) W:=fun _ _=>by kernel_rfl
 have b1:=zs_ w (.cells #[.pointer (some ⟨cp,0,none⟩)] 31)
 have hk:=Bk.new w 31 #[.pointer (some ⟨cp,0,none⟩)]
 have HCF:Hid (∀ (xs:Value) (cap:Array Value) (W:World),Texts W xs []→Calls Tryz.prog 86 #[xs,.func (.func 85) #[] cap] W fun e w'=>e= .returned (.bool false)∧Bel W w'):=hiD fun xs cap W h=>
  j4_ 85 cap [] xs W h (Nat.zero_le _) (fun _=>false) ⟨fun x hx=>absurd hx (by simp),fun _ _=>by kernel_rfl⟩
 have HR:=hiD (fun (W:World) (hb:Bel w W)=>hr.below hb)
 have HU:=hiD (fun (W:World) (hb:Bel w W)=>hu.below hb)
 have HS:Hid (∀ W,Below (w.alloc (.cells #[.pointer (some ⟨cp,0,none⟩)] 31)).heap.size (w.alloc (.cells #[.pointer (some ⟨cp,0,none⟩)] 31)) W→W.cell? ⟨w.heap.size,0,none⟩=some (.pointer (some ⟨cp,0,none⟩))∧W.cell? ⟨cp,10,none⟩=some (.slice A 0 n)∧W.cell? ⟨cp,11,none⟩=some (.slice B 0 m)):=hiD fun W hb=>⟨(hk.below hb).cell 0,((h.below b1).below hb).cell 10,((h.below b1).below hb).cell 11⟩
 have HB1:=hiD b1
 clear h hr hu b1 hk
 go_enter Tryz.func60,Tryz.ntmps60
 go_upto_region 2 with fail
 generalize w.alloc (.cells #[.pointer (some ⟨cp,0,none⟩)] 31)=w1 at *
 have HC:Hid (Bel w1 w1):=hiD (bR _ _)
 have HUP:Hid (∀ {W:World},Bel w1 W→Bel w W):=hiD fun h=>tQ HB1.out h
 obtain⟨c0,c10,c11⟩:=HS.out _ HC.out
 go_region_held3 (fun W=>W.cell? ⟨w.heap.size,0,none⟩=some (.pointer (some ⟨cp,0,none⟩))∧W.cell? ⟨cp,10,none⟩=some (.slice A 0 n)∧W.cell? ⟨cp,11,none⟩=some (.slice B 0 m)) (first|exact HS.out _ HC.out.drew|exact HS.out _ HC.out) (first
  |((with_reducible refine(z9s_ 87 w.heap.size _).mono ?_);rintro e w2 ⟨b2,rfl,hb⟩;have HC:=hiD (tQ HC.out.drew hb);clear hb)
  |(go_at_call 86;(with_reducible refine(HCF.out _ _ _ (HR.out _ (HUP.out HC.out))).mono ?_);rintro e w3 ⟨rfl,hb⟩;have HC:=hiD (tQ HC.out hb);clear hb)
  |((with_reducible refine(z9s_ 88 w.heap.size _).mono ?_);rintro e w4 ⟨b4,rfl,hb⟩;have HC:=hiD (tQ HC.out hb);clear hb)
  |(go_at_call 86;(with_reducible refine(HCF.out _ _ _ (HU.out _ (HUP.out HC.out))).mono ?_);rintro e w5 ⟨rfl,hb⟩;have HC:=hiD (tQ HC.out hb);clear hb)
  |fail)
 all_goals
  go_wp2_with fail
  go_ret
  exact⟨rfl,HUP.out HC.out⟩
end
end Go.Proofs.YtakfpngfpknedaaGreatDoor
