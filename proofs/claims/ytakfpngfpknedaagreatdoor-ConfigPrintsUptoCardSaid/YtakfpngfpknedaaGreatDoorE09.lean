import Derived.Test.YtakfpngfpknedaaGreatDoorE07
import Derived.Test.YtakfpngfpknedaaGreatDoorEso
import Derived.Sort.LotA
set_option linter.all false
set_option maxHeartbeats 8000000
set_option maxRecDepth 100000
namespace Go.Proofs.YtakfpngfpknedaaGreatDoor
open Go.RowKit
section
variable {ops:Array Oper} {o:Oper} {a:Act} {K:Act→World→Prop} {Q:Exit→Act→World→Prop} {E:Prop}
theorem xa_ {P:Program} {w:World} (hgd:o.guard=none) (s x:Operand) (t:TypeId)
  (ho:o.op= .call {callee:= .builtin .append,args:=#[s,x],argTypes:=#[t,t]})
  (base:Nat) (e:TypeId) (i:TypeInfo) (z:Value) (size bytes:Nat) (ht:P.underlying t=some (.slice e)) (hi:P.info? e=some i) (hz:i.zero=some z)
  (hsize:i.size=size) (hby:i.bytes=bytes) (hzs:z.cells.size=size) (hsz:0<size)
  (v:Value) (n:Nat) (xs:List Value) (hs:a.eval s=v) (hown:w.ownsRow base e size v n xs)
  (ad:Addr) (m c:Nat) (news:List Value) (hx:a.eval x= .slice (some ad) m c) (hl:news.length=m * size) (hnews:∀ j u,news[j]?=some u→w.cell? (ad.add j)=some u) (h1:∀ u∈news,u.oneCell'=true)
  (h63:n+m≤maxLen) (hbytes:(n+m) * bytes≤140737488355328) (hbase:base≤w.heap.size)
  (h:∀ v' w',w'.ownsRow base e size v' (n+m) (xs++news)→w.grownBy w' v.ownBlock→K (a.put o.dst v') w'):
  if Region.wanted o (yielded ops a.tmps)=true then Oper.wp P o a w K Q else E:=by
 have hw:Region.wanted o (yielded ops a.tmps)=true:=by simp [Region.wanted,hgd]
 rw[if_pos hw]
 obtain⟨v',w',hr,h2,h3,h4⟩:=run_append_own (P:=P) w base t o.type e i z size bytes ht hi hz hsize hby hzs hsz v n xs hown ad m c news hl hnews h1 h63 hbytes hbase
 unfold Oper.wp execOp
 simp only[ho,resolve,invoke,builtin,Sem.run_bind,Sem.run_pure,Result.andThen_ok,List.map_toArray,List.map_cons,List.map_nil,hs,hx,hr]
 exact h v' w' h2 h3
theorem zhu_ (hgd:o.guard=none) (s x:Operand) (ho:o.op= .call {callee:= .builtin .append,args:=#[s,x],argTypes:=#[22,22]})
  {v:Value} {xs:LL} {W0 w0:World} {c:LU} (hs:a.eval s=v) (hb:Strs W0 w0 v xs)
  (hx:a.eval x= .slice (some ⟨w0.heap.size,0,none⟩) 1 1) (hlen:xs.length<4398046511104)
  (h:∀ v' w',Strs W0 w' v' (xs++[c])→w0.grownBy w' v.ownBlock→K (a.put o.dst v') w'):
  if Region.wanted o (yielded ops a.tmps)=true then Oper.wp Tryz.prog o a (w0.alloc (.cells #[.string ⟨c.toArray⟩] 9)).drew K Q else E:=by
 obtain⟨i,h1,h2,h3,h4⟩:=xu_
 have hb0:=hb.alloc (.cells #[.string ⟨c.toArray⟩] 9)
 have hb':Strs W0 (w0.alloc (.cells #[.string ⟨c.toArray⟩] 9)).drew v xs:=⟨hb0.1,hb0.2.1.drew,hb0.2.2⟩
 refine xa_ hgd s x 22 ho W0.heap.size 9 i (.string ⟨#[]⟩) 1 16 Tryz.underlying22 h1 h2 h3 h4 rfl (by decide) v _ _ hs hb'.1 ⟨w0.heap.size,0,none⟩ 1 1 [.string ⟨c.toArray⟩] hx rfl ?_ ?_ (by unfold maxLen;omega) (by omega) hb'.2.2 ?_
 ·intro j u hj
  match j,hj with
  |0,hj=>simp at hj;subst hj;simp [Addr.add]
  |(j+1),hj=>simp at hj
 ·intro u hu;simp at hu;subst hu;rfl
 ·intro v' w' ho' hg
  refine h v' w' ?_ (gT (World.grownBy_alloc _ _ _) ⟨hg.os,hg.tape,hg.output,hg.size,hg.block⟩)
  exact hb'.grown (by simpa [qm_] using ho') hg
theorem z2l_ (hgd:o.guard=none) (s x:Operand) (ho:o.op= .call {callee:= .builtin .append,args:=#[s,x],argTypes:=#[22,22]})
  {v:Value} {xs:LL} {W0 w0:World} {c:LU} (hs:a.eval s=v) (hb:Strs W0 w0 v xs)
  (hx:a.eval x= .slice (some ⟨w0.heap.size,0,none⟩) 1 1) (hlen:xs.length<4398046511104)
  (h:∀ v' w',Strs W0 w' v' (xs++[c])→w0.grownBy w' v.ownBlock→K (a.put o.dst v') w'):
  if Region.wanted o (yielded ops a.tmps)=true then Oper.wp Tryz.prog o a (w0.alloc (.cells #[.string ⟨c.toArray⟩] 9)) K Q else E:=by
 obtain⟨i,h1,h2,h3,h4⟩:=xu_
 have hb0:=hb.alloc (.cells #[.string ⟨c.toArray⟩] 9)
 have hb':Strs W0 (w0.alloc (.cells #[.string ⟨c.toArray⟩] 9)) v xs:=hb0
 refine xa_ hgd s x 22 ho W0.heap.size 9 i (.string ⟨#[]⟩) 1 16 Tryz.underlying22 h1 h2 h3 h4 rfl (by decide) v _ _ hs hb'.1 ⟨w0.heap.size,0,none⟩ 1 1 [.string ⟨c.toArray⟩] hx rfl ?_ ?_ (by unfold maxLen;omega) (by omega) hb'.2.2 ?_
 ·intro j u hj
  match j,hj with
  |0,hj=>simp at hj;subst hj;simp [Addr.add]
  |(j+1),hj=>simp at hj
 ·intro u hu;simp at hu;subst hu;rfl
 ·intro v' w' ho' hg
  refine h v' w' ?_ (gT (World.grownBy_alloc _ _ _) ⟨hg.os,hg.tape,hg.output,hg.size,hg.block⟩)
  exact hb'.grown (by simpa [qm_] using ho') hg
end
def z0r_ (r:Int × LU):Value:= .tuple #[.string ⟨r.2.toArray⟩,.int .i64 r.1]
theorem z45_ (d:List (List (LU × LU))) (v:Value) (w:World) (hw:Env w) (hv:DnR w v d) (hl:d.length≤1000000) (hl2:∀ p∈d,p.length≤1000000∧∀ x∈p,x.1.length≤1000000):
  Calls Tryz.prog 147 #[v] w fun e w'=>e= .returned (z0r_ (j5_ d))∧Bel w w':=by
 have HV:=hiD hv
 have HC:=hiD (fun (p:List (LU × LU)) (hp:p∈d) (pv:Value) (W:World) (hB:Bel w W) (hr:RdnR W pv p)=>zat_ p pv W hr (hl2 p hp).1 vy_ (fun x hx W' ev hB' (he:AvaE W' ev x)=>by rw[he];exact zhp_ x W' ((hw.keep hB).keep hB') (by have:=(hl2 p hp).2 x hx;omega)))
 have HT:=hiD (fun (W:World) (hB:Bel w W)=>z23_ d v W (hv.below hB) hl (fun p hp=>(hl2 p hp).1))
 obtain⟨A,c,rfl,hc,hx⟩:=hv
 have HX:=hiD hx
 clear hx hl2
 go_enter Tryz.func147,Tryz.ntmps147
 go_wp2_with fail
 go_loopg [15] d.length (fun gk i wr=>∃ k:Nat,k≤d.length∧i= .int .i64 k∧Aside (k+gk=d.length)∧Bel w wr∧Aside (d.any x6_=(d.drop k).any x6_))
 case atStart=>exact⟨0,by omega,rfl,by show _=_;omega,bR _ _,rfl⟩
 case round=>
  obtain⟨k,hk,rfl,AG,hB,AS⟩:=hrel
  by_cases hlt:k<d.length
  ·obtain⟨q,rfl⟩:∃ q,gk=q+1:=⟨gk - 1,by have:=AG.out;omega⟩
   obtain⟨g,o,rfl,hg,hcells⟩:=HX.out.resolve_left (by intro h;rw[h] at hlt;simp at hlt)
   obtain⟨pv,hp1,hp2⟩:=hcells k d[k] (List.getElem?_eq_getElem hlt)
   have c0:wr.cell? ⟨g,o+k,none⟩=some pv:=(hB.cell (p:=⟨g,o+k,none⟩) hg).trans hp1
   have AS':Aside (d.any x6_=(x6_ d[k]||(d.drop (k+1)).any x6_)):=by have:=AS.out;rw[List.drop_eq_getElem_cons hlt] at this;exact this
   have hC:=HC.out d[k] (List.getElem_mem hlt) pv wr hB (hp2.below hB)
   obtain⟨A2,c2,rfl,hc2,hx2⟩:=hp2
   clear hcells AS hx2 hp1
   by_cases he:d[k]=[]
   ·have hfin:j5_ d=(30,[]):=by unfold j5_;rw[AS'.out,he];rfl
    have Hf:=hiD hfin
    have hlen0:(d[k].length:Int)=0:=by rw[he];rfl
    clear hfin hC
    go_wp2_with fail
    all_goals
     go_ret2
     exact⟨by rw[Hf.out];rfl,hB⟩
   ·have hne:((d[k].length:Int)==0)=false:=by
     apply beq_eq_false_iff_ne.2
     intro h
     exact he (List.eq_nil_of_length_eq_zero (by omega))
    have hpb:x6_ d[k]=d[k].any vy_:=by
     unfold x6_
     cases hdk:d[k] with
     |nil=>exact absurd hdk he
     |cons a t=>rfl
    rw[hpb] at AS'
    clear hpb he
    cases hA:d[k].any vy_
    ·rw[hA] at hC AS'
     clear hA
     generalize d[k].length=nk at hC hne c0 hc2
     go_wp2_with (go_at_call 213;refine hC.mono ?_;rintro e w2 ⟨rfl,hb2⟩)
     go_roundg q
     case measure=>omega
     case rel=>exact⟨k+1,by omega,by go_num,by have:=AG.out;show _=_;omega,tQ hB hb2,AS'.out⟩
    ·rw[hA] at hC AS'
     have hfin:j5_ d=(30,[]):=by unfold j5_;rw[AS'.out];rfl
     have Hf:=hiD hfin
     clear hfin hA
     generalize d[k].length=nk at hC hne c0 hc2
     go_wp2_with (go_at_call 213;refine hC.mono ?_;rintro e w2 ⟨rfl,hb2⟩)
     all_goals
      go_ret2
      exact⟨by rw[Hf.out];rfl,tQ hB hb2⟩
  ·obtain rfl:k=d.length:=by omega
   have hs:d.any x6_=false:=by have:=AS.out;rw[List.drop_length] at this;exact this
   have hT:=HT.out wr hB
   cases hTL:zz_ d
   ·obtain⟨n20,hgood⟩:=zh8_ hs hTL
    have hfin:j5_ d=k7_ (z2b_ d):=by unfold j5_;rw[hs,hTL];rfl
    have Hf:=hiD hfin
    have HG:=hiD hgood
    rw[hTL] at hT
    clear hfin hTL hs AS HC HT hgood
    go_wp2_with (go_at_call 205;refine hT.mono ?_;rintro e w1 ⟨rfl,hb1⟩)
    clear hT
    have hB1:Bel w w1:=tQ hB hb1
    go_loopg [6,31] d.length (fun gk ps i wr=>∃ k:Nat,k≤d.length∧i= .int .i64 k∧Aside (k+gk=d.length)∧Strs w1 wr ps ((d.take k).map vw_))
    case atStart=>exact⟨0,by omega,rfl,by show _=_;omega,by simpa using Strs.nil w1⟩
    case round=>
     obtain⟨k,hk,rfl,AG2,hS⟩:=hrel
     have hSB:=hS.below
     have hBr:Bel w wr:=tQ hB1 hSB
     by_cases hlt:k<d.length
     ·obtain⟨q,rfl⟩:∃ q,gk=q+1:=⟨gk - 1,by have:=AG2.out;omega⟩
      obtain⟨g,o,rfl,hg,hcells⟩:=HX.out.resolve_left (by intro h;rw[h] at hlt;simp at hlt)
      obtain⟨pv,hp1,hp2⟩:=hcells k d[k] (List.getElem?_eq_getElem hlt)
      have c0:wr.cell? ⟨g,o+k,none⟩=some pv:=(hBr.cell (p:=⟨g,o+k,none⟩) hg).trans hp1
      obtain⟨hpne,hp4,hpx⟩:=HG.out d[k] (List.getElem_mem hlt)
      have HSN:=hiD (show (d.take (k+1)).map vw_=(d.take k).map vw_++[vw_ d[k]] by rw[List.take_succ_eq_append_getElem hlt,List.map_append];rfl)
      have hpl:=z5c_ hp4 hpx
      generalize hP:d[k]=p at *
      generalize (d.take k).map vw_=acc at hS HSN
      obtain⟨A2,c2,rfl,hc2,hx2⟩:=hp2
      obtain⟨g2,o2,rfl,hg2,hx3⟩:=hx2.resolve_left hpne
      have HX3:=hiD hx3
      have HPX:=hiD hpx
      clear hcells hp1 hx3 hpx hP
      go_wp2_with fail
      obtain⟨wo,hwo⟩:∃ wo,wo=wr:=⟨_,rfl⟩
      subst hwo
      go_loopg [9,37] p.length (fun gk qs i wi=>∃ j:Nat,j≤p.length∧i= .int .i64 j∧Aside (j+gk=p.length)∧Strs wo wi qs ((p.take j).map z11_))
      case atStart=>exact⟨0,by omega,rfl,by show _=_;omega,by simpa using Strs.nil wo⟩
      case round=>
       obtain⟨j,hj,rfl,AG3,hQ⟩:=hrel
       have hQB:=hQ.below
       have hBi:Bel w wr:=tQ hBr hQB
       by_cases hjl:j<p.length
       ·obtain⟨q2,rfl⟩:∃ q2,gk=q2+1:=⟨gk - 1,by have:=AG3.out;omega⟩
        have hx4:=HX3.out j p[j] (List.getElem?_eq_getElem hjl)
        have d0:wr.cell? ⟨g2,o2+j * 2,none⟩=some (.string ⟨p[j].1.toArray⟩):=by rw[Nat.mul_comm];exact(hBi.cell (p:=⟨g2,o2+2 * j,none⟩) hg2).trans hx4.1
        have d1:wr.cell? ⟨g2,o2+j * 2+1,none⟩=some (.string ⟨p[j].2.toArray⟩):=by rw[Nat.mul_comm];exact(hBi.cell (p:=⟨g2,o2+2 * j+1,none⟩) hg2).trans hx4.2
        obtain⟨x64,x1024⟩:=HPX.out p[j] (List.getElem_mem hjl)
        have HSN2:=hiD (show (p.take (j+1)).map z11_=(p.take j).map z11_++[p[j].1++61::jj_ p[j].2] by rw[List.take_succ_eq_append_getElem hjl,List.map_append];simp [z11_])
        have hql:((p.take j).map z11_).length≤4:=by simp;omega
        generalize (p.take j).map z11_=acc2 at hQ HSN2 hql
        generalize p[j].1=x1 at *
        generalize p[j].2=x2 at *
        clear hx4
        have hcat1:=fun w=>run_string_add_lists (P:=Tryz.prog) w x1 [61] (by omega) (by simp)
        have hwl:=z0t_ x2
        have hcat2:=fun w=>run_string_add_lists (P:=Tryz.prog) w (x1++[61]) (jj_ x2) (by simp;omega) (by omega)
        go_wp2_with fail
        have e3:Env (wr.alloc (.cells #[.string ⟨x1.toArray⟩,.string ⟨x2.toArray⟩] 189)):=(hw.keep hBi).keep ((bR _ _).alloc (nR _) _)
        have kA:=Bk.new wr 189 #[.string ⟨x1.toArray⟩,.string ⟨x2.toArray⟩]
        have hQ3:=hQ.alloc (.cells #[.string ⟨x1.toArray⟩,.string ⟨x2.toArray⟩] 189)
        have hown:=fun k hk=>(hQ.1.lt k hk).2
        generalize (wr.alloc (.cells #[.string ⟨x1.toArray⟩,.string ⟨x2.toArray⟩] 189))=W3 at *
        generalize wr.heap.size=gx at kA hown ⊢
        have f0:W3.cell? ⟨gx,0,none⟩=some (.string ⟨x1.toArray⟩):=kA.cell 0
        have f1:W3.cell? ⟨gx,1,none⟩=some (.string ⟨x2.toArray⟩):=kA.cell 1
        have hgx:=kA.lt
        have HOWN:=hiD hown
        clear hown
        have HE3:=hiD e3
        have HQ3:=hiD hQ3
        clear e3 kA hQ3 hQB hBi d0 d1 hQ
        go_region_held3 (fun w'=>w'.cell? ⟨gx,0,none⟩=some (.string ⟨x1.toArray⟩)∧w'.cell? ⟨gx,1,none⟩=some (.string ⟨x2.toArray⟩)) (first|exact⟨f0,f1⟩|exact⟨f0',f1'⟩|exact⟨f0'',f1''⟩|exact⟨(World.cell?_alloc_lt _ _ _ hgx4).trans f0',(World.cell?_alloc_lt _ _ _ hgx4).trans f1'⟩) (first|(go_at_call 215;refine(zf4_ x2 _ (HE3.out.keep (bR _ _).drew) (by omega)).mono ?_;rintro e w4 ⟨rfl,hb4⟩;have f0':w4.cell? ⟨gx,0,none⟩=some (.string ⟨x1.toArray⟩):=(hb4.cell (p:=⟨gx,0,none⟩) hgx).trans f0;have f1':w4.cell? ⟨gx,1,none⟩=some (.string ⟨x2.toArray⟩):=(hb4.cell (p:=⟨gx,1,none⟩) hgx).trans f1;have hgx4:gx<w4.heap.size:=Nat.lt_of_lt_of_le hgx hb4.size;have HQ4:Hid (Strs wo w4 _ acc2):=HQ3.out.grow ⟨hb4.os,hb4.tape,hb4.output,hb4.size,hb4.block⟩)|(refine z2l_ (by rfl) _ _ (by rfl) rfl HQ4.out rfl (by omega) ?_;intro v5 w5 hQ5 hg5;have f0'':w5.cell? ⟨gx,0,none⟩=some (.string ⟨x1.toArray⟩):=hg5.cell f0' (fun e=>by have:=HOWN.out gx e.symm;omega);have f1'':w5.cell? ⟨gx,1,none⟩=some (.string ⟨x2.toArray⟩):=hg5.cell f1' (fun e=>by have:=HOWN.out gx e.symm;omega)))
        all_goals
         go_wp2_with fail
         go_roundg q2
         case measure=>omega
         case rel=>exact⟨j+1,by omega,by go_num,by have:=AG3.out;show _=_;omega,by rw[HSN2.out];exact hQ5⟩
       ·obtain rfl:j=p.length:=by omega
        rw[List.take_length] at hQ
        have hQT:=hQ.texts
        have hJ:=fun W (hT:Texts W u9 (p.map z11_))=>zen_ (p.map z11_) [43] u9 W hT (by simp;omega) (by show (vw_ p).length≤_;omega)
        have hacc:acc.length≤20:=by have:=congrArg List.length HSN.out;simp at this;omega
        go_wp2_with (first|(go_at_call 62;refine(hJ _ hQT).mono ?_;rintro e w6 ⟨rfl,hb6⟩;have hS6:=(hS.grow hQB).grow hb6)|(at_builtin;refine zfq_ (c:=vw_ p) rfl _ _ rfl rfl hS6 rfl (by omega) ?_;intro v7 w7 hS7 hg7))
        go_roundg q
        case measure=>omega
        case rel=>exact⟨k+1,by omega,by go_num,by have:=AG2.out;show _=_;omega,by rw[HSN.out];exact hS7⟩
     ·obtain rfl:k=d.length:=by omega
      rw[List.take_length] at hS
      have hST:=hS.texts
      have hnl:(z2b_ d).length≤20 * 12557:=by
       have:=z4t_ 12556 [44] (by decide) (d.map vw_) (fun z hz=>by obtain⟨x,hx,rfl⟩:=List.mem_map.1 hz;exact z5c_ (HG.out x hx).2.1 (HG.out x hx).2.2)
       rw[List.length_map] at this
       have h2:d.length * (12556+1)≤20 * 12557:=Nat.mul_le_mul n20 (nR _)
       unfold z2b_
       omega
      have hJ:=fun W (hT:Texts W u6 (d.map vw_))=>zen_ (d.map vw_) [44] u6 W hT (by simp;omega) (by show (z2b_ d).length≤_;omega)
      have HJ:=hiD hJ
      have HST:=hiD hST
      clear hJ hST
      by_cases hbig:65536<(z2b_ d).length
      ·have hpf:k7_ (z2b_ d)=(2,[]):=by unfold k7_;rw[if_pos hbig]
       rw[hpf] at Hf
       clear hpf
       go_wp2_with (go_at_call 62;refine(HJ.out _ HST.out).mono ?_;change ∀ e w',e=Ending.returned (.string ⟨(z2b_ d).toArray⟩)∧_→_;rintro e w6 ⟨rfl,hb6⟩)
       go_ret2
       exact⟨by rw[Hf.out];rfl,tQ hBr hb6⟩
      ·have hpf:k7_ (z2b_ d)=(0,z2b_ d):=by unfold k7_;rw[if_neg hbig]
       rw[hpf] at Hf
       clear hpf
       go_wp2_with (go_at_call 62;refine(HJ.out _ HST.out).mono ?_;change ∀ e w',e=Ending.returned (.string ⟨(z2b_ d).toArray⟩)∧_→_;rintro e w6 ⟨rfl,hb6⟩)
       go_ret2
       exact⟨by rw[Hf.out];rfl,tQ hBr hb6⟩
   ·have hfin:j5_ d=(2,[]):=by unfold j5_;rw[hs,hTL];rfl
    have Hf:=hiD hfin
    rw[hTL] at hT
    clear hfin hTL hs AS HC HT
    go_wp2_with (go_at_call 205;refine hT.mono ?_;rintro e w1 ⟨rfl,hb1⟩)
    go_ret2
    exact⟨by rw[Hf.out];rfl,tQ hB hb1⟩
open Go.RowKit Go.Sort
def xj_ (a b:LU × LU):Int:=orV (z1a_ a.1 b.1) (z1a_ a.2 b.2)
theorem zkp_ (a b:LU × LU) (w:World):
  Calls Tryz.prog 209 #[zi9_ a,zi9_ b] w fun e w'=>e= .returned (.int .i64 (xj_ a b))∧∃ q os',w'=grow (w.drewN q) os':=by
 obtain⟨a1,a2⟩:=a
 obtain⟨b1,b2⟩:=b
 show Calls Tryz.prog 209 #[.agg #[.string ⟨a1.toArray⟩,.string ⟨a2.toArray⟩],.agg #[.string ⟨b1.toArray⟩,.string ⟨b2.toArray⟩]] w _
 have hb:Bel w ((w.alloc (.cells #[.string ⟨a1.toArray⟩,.string ⟨a2.toArray⟩] 189)).alloc (.cells #[.string ⟨b1.toArray⟩,.string ⟨b2.toArray⟩] 189)):=((bR _ _).alloc (nR _) _).alloc (by simp) _
 have k1:=(Bk.new w 189 #[.string ⟨a1.toArray⟩,.string ⟨a2.toArray⟩]).alloc (.cells #[.string ⟨b1.toArray⟩,.string ⟨b2.toArray⟩] 189)
 have k2:=Bk.new (w.alloc (.cells #[.string ⟨a1.toArray⟩,.string ⟨a2.toArray⟩] 189)) 189 #[.string ⟨b1.toArray⟩,.string ⟨b2.toArray⟩]
 rw[show (w.alloc (.cells #[.string ⟨a1.toArray⟩,.string ⟨a2.toArray⟩] 189)).heap.size=w.heap.size+1 by simp] at k2
 have HC:=hiD (fun (x y:LU) (W:World)=>zef_ x y W)
 have HO:=hiD (fun (b:Nat) (x y:Int) (W:World) h0 h1=>Or_c b x y W h0 h1)
 have hR:xj_ (a1,a2) (b1,b2)=orV (z1a_ a1 b1) (z1a_ a2 b2):=rfl
 rw[hR]
 clear hR
 go_enter Tryz.func209,Tryz.ntmps209
 go_wp2_with fail
 have hW:((w.alloc (.cells #[.string ⟨a1.toArray⟩,.string ⟨a2.toArray⟩] 189)).alloc (.cells #[.string ⟨b1.toArray⟩,.string ⟨b2.toArray⟩] 189))=grow w #[.cells #[.string ⟨a1.toArray⟩,.string ⟨a2.toArray⟩] 189,.cells #[.string ⟨b1.toArray⟩,.string ⟨b2.toArray⟩] 189]:=by rw[alloc_eq_grow,alloc_eq_grow,grow_grow];rfl
 have HW:=hiD hW
 clear hW
 generalize ((w.alloc (.cells #[.string ⟨a1.toArray⟩,.string ⟨a2.toArray⟩] 189)).alloc (.cells #[.string ⟨b1.toArray⟩,.string ⟨b2.toArray⟩] 189))=W at *
 have f0:W.cell? ⟨w.heap.size,0,none⟩=some (.string ⟨a1.toArray⟩):=k1.cell 0
 have f1:W.cell? ⟨w.heap.size,1,none⟩=some (.string ⟨a2.toArray⟩):=k1.cell 1
 have f2:W.cell? ⟨w.heap.size+1,0,none⟩=some (.string ⟨b1.toArray⟩):=k2.cell 0
 have f3:W.cell? ⟨w.heap.size+1,1,none⟩=some (.string ⟨b2.toArray⟩):=k2.cell 1
 have hl1:=k1.lt
 have hl2:=k2.lt
 clear k1 k2
 go_region_held3 (fun w'=>w'.cell? ⟨w.heap.size,0,none⟩=some (.string ⟨a1.toArray⟩)∧w'.cell? ⟨w.heap.size,1,none⟩=some (.string ⟨a2.toArray⟩)∧w'.cell? ⟨w.heap.size+1,0,none⟩=some (.string ⟨b1.toArray⟩)∧w'.cell? ⟨w.heap.size+1,1,none⟩=some (.string ⟨b2.toArray⟩)) (first|exact⟨f0,f1,f2,f3⟩|exact⟨(World.cell?_alloc_lt _ _ _ hl1).trans f0,(World.cell?_alloc_lt _ _ _ hl1).trans f1,(World.cell?_alloc_lt _ _ _ hl2).trans f2,(World.cell?_alloc_lt _ _ _ hl2).trans f3⟩) (first|(go_at_call 211;refine(HC.out _ _ _).mono ?_;rintro e w1 ⟨rfl,rfl⟩)|(go_at_call 210;refine(HO.out _ (z1a_ a1 b1) (z1a_ a2 b2) _ (by simp [go_sem]) (by simp [go_sem])).mono ?_;rintro e w1 ⟨rfl,rfl⟩))
 all_goals
  go_wp2_with fail
  go_ret
  refine⟨rfl,?_⟩
  rw[HW.out]
  exact⟨1,_,by rw[alloc_eq_grow,grow_grow];rfl⟩
def z7c_ (x:LU × LU):List Value:=[.string ⟨x.1.toArray⟩,.string ⟨x.2.toArray⟩]
theorem z8b_ (blk off size:Nat) (w:World):CmpLays Tryz.prog 209 #[] z7c_ 2 xj_ blk off size w:=
 fun _ _ _ _ x y=>zkp_ x y _
def z0z_ (p:List (LU × LU)):Array (LU × LU):=Sort.insertionSort (ltOf xj_) p.toArray 0 p.length
theorem zaq_ (p:List (LU × LU)) (blk cap:Nat) (w:World) (hH:HoldsK z7c_ 2 w blk 0 p.toArray) (hblk:blk<w.heap.size) (h12:p.length≤12):
  Calls Tryz.prog 208 #[.slice (some ⟨blk,0,none⟩) p.length cap,.func (.func 209) #[] #[]] w fun e w'=>e= .returned (.tuple #[])∧∃ n os,w'=sortWorldK z7c_ 2 w blk 0 n (z0z_ p) os:=by
 have eg:∀ args w,(callFunc 209 args).run Tryz.prog w= .ok (.enter 209 args) w:=enters_of Tryz.func209 (by kernel_rfl) rfl
 have hcon:=fun lim=>AnyQ.pdqsortCmpFunc_small Tryz.sortAva 2 Tryz.isAgg189 Tryz.sizeOf189 z7c_ (fun _=>rfl) (fun x v hv=>by simp [z7c_] at hv;rcases hv with rfl|rfl<;>rfl) xj_ 209 #[] blk 0 cap 0 p.length lim p.toArray w eg (z8b_ blk 0 p.toArray.size w) hH hblk (Nat.zero_le _) (by simp) (by simp;omega) (by omega)
 change ∀ lim,Calls Tryz.prog 253 _ _ _ at hcon
 simp only[List.size_toArray] at hcon
 have HL:=hiD (Tryz.bits_Len (p.length:Int) w (by omega) (by omega))
 unfold z0z_
 generalize Sort.insertionSort (ltOf xj_) p.toArray 0 p.length=R at hcon ⊢
 have HC:=hiD hcon
 have hcv:IntKind.u64.wrap (p.length:Int)=(p.length:Int):=by first|exact IntWalk.u64_in _ (by omega)|(unfold IntKind.wrap;simp;omega)
 clear hcon hH
 go_enter Tryz.func208,Tryz.ntmps208
 go_wp2_with (first|(go_at_call 254;refine HL.out.mono ?_;rintro e w1 ⟨rfl,rfl⟩)|(go_at_call 253;refine(HC.out _).mono ?_;rintro e w' ⟨rfl,n,os,rfl⟩))
 go_end0
 exact⟨rfl,n,os,rfl⟩
open Go.RowKit Go.Sort
structure Ord {α:Type} (f:α→α→Int):Prop where
 swap:∀ a b,f b a= -f a b
 zero:∀ a b,f a b=0↔a=b
 trans:∀ a b c,f a b≤0→f b c≤0→f a c≤0
theorem Ord.lt_trans {α:Type} {f:α→α→Int} (h:Ord f) (a b c:α) (h1:f a b<0) (h2:f b c<0):f a c<0:=by
 have h3:=h.trans a b c (by omega) (by omega)
 rcases Int.lt_or_eq_of_le h3 with h4|h4
 ·exact h4
 ·have:=(h.zero a c).1 h4
  subst this
  have:=h.swap a b
  omega
theorem Ord.swo {α:Type} {f:α→α→Int} (h:Ord f):SWO (ltOf f) where
 irrefl x:=by have:=(h.zero x x).2 rfl;simp [ltOf,this]
 trans x y z h1 h2:=by
  simp only[ltOf,decide_eq_true_eq] at *
  exact h.lt_trans x y z h1 h2
 ntrans x y z h1 h2:=by
  simp only[ltOf,decide_eq_false_iff_not] at *
  have a:=h.swap x y
  have b:=h.swap y z
  have c:=h.swap x z
  have:=h.trans z y x (by omega) (by omega)
  omega
theorem z6x_:∀ a b:LU,z1a_ b a= -z1a_ a b
 |[],[]=>rfl
 |[],_::_=>rfl
 |_::_,[]=>rfl
 |x::a,y::b=>by
  have ih:=z6x_ a b
  unfold z1a_ at *
  simp only[Lib.compareBytes,UInt8.lt_iff_toNat_lt]
  rcases Nat.lt_trichotomy x.toNat y.toNat with h|h|h
  ·rw[if_neg (by omega),if_pos h,if_pos h];rfl
  ·rw[if_neg (by omega),if_neg (by omega),if_neg (by omega),if_neg (by omega)];exact ih
  ·rw[if_pos h,if_neg (by omega),if_pos h]
theorem z5w_:∀ a b:LU,z1a_ a b=0↔a=b
 |[],[]=>by simp [z1a_,Lib.compareBytes]
 |[],_::_=>by simp [z1a_,Lib.compareBytes]
 |_::_,[]=>by simp [z1a_,Lib.compareBytes]
 |x::a,y::b=>by
  have ih:=z5w_ a b
  unfold z1a_ at *
  simp only[Lib.compareBytes,UInt8.lt_iff_toNat_lt]
  rcases Nat.lt_trichotomy x.toNat y.toNat with h|h|h
  ·rw[if_pos h];simp;intro e;subst e;omega
  ·rw[if_neg (by omega),if_neg (by omega),ih]
   have:=UInt8.toNat_inj.1 h
   simp [this]
  ·rw[if_neg (by omega),if_pos h];simp;intro e;subst e;omega
theorem z3f_:∀ a b c:LU,z1a_ a b≤0→z1a_ b c≤0→z1a_ a c≤0
 |[],_,[],_,_=>by decide
 |[],_,_::_,_,_=>by simp [z1a_,Lib.compareBytes]
 |_::_,[],_,h,_=>by simp [z1a_,Lib.compareBytes] at h
 |_::_,_::_,[],_,h=>by simp [z1a_,Lib.compareBytes] at h
 |x::a,y::b,z::c,h1,h2=>by
  have ih:=z3f_ a b c
  unfold z1a_ at *
  simp only[Lib.compareBytes,UInt8.lt_iff_toNat_lt] at *
  rcases Nat.lt_trichotomy x.toNat y.toNat with h|h|h
  ·rcases Nat.lt_trichotomy y.toNat z.toNat with k|k|k
   ·rw[if_pos (by omega)];decide
   ·rw[if_pos (by omega)];decide
   ·rw[if_neg (by omega),if_pos k] at h2;omega
  ·rw[if_neg (by omega),if_neg (by omega)] at h1
   rcases Nat.lt_trichotomy y.toNat z.toNat with k|k|k
   ·rw[if_pos (by omega)];decide
   ·rw[if_neg (by omega),if_neg (by omega)] at h2
    rw[if_neg (by omega),if_neg (by omega)]
    exact ih h1 h2
   ·rw[if_neg (by omega),if_pos k] at h2;omega
  ·rw[if_neg (by omega),if_pos h] at h1;omega
theorem cmpB_ord:Ord z1a_:=⟨z6x_,z5w_,z3f_⟩
theorem zka_ (x y:Int):orV (-x) (-y)= -orV x y:=by unfold orV;split<;>split<;>omega
theorem zhf_ (x y:Int):orV x y=0↔x=0∧y=0:=by unfold orV;split<;>omega
theorem Ord.lex {α β:Type} {f:α→α→Int} {g:β→β→Int} (hf:Ord f) (hg:Ord g):Ord (fun a b:α × β=>orV (f a.1 b.1) (g a.2 b.2)) where
 swap a b:=by show orV (f b.1 a.1) (g b.2 a.2)= -orV (f a.1 b.1) (g a.2 b.2);rw[hf.swap,hg.swap,zka_]
 zero a b:=by
  rw[zhf_,hf.zero,hg.zero]
  constructor
  ·rintro⟨h1,h2⟩;exact Prod.ext h1 h2
  ·rintro rfl;exact⟨rfl,rfl⟩
 trans a b c h1 h2:=by
  have t:=hf.trans a.1 b.1 c.1
  have l:=hf.lt_trans a.1 b.1 c.1
  have u:=hg.trans a.2 b.2 c.2
  have e1:=hf.zero a.1 b.1
  have e2:=hf.zero b.1 c.1
  unfold orV at *
  split at h1
  ·next h=>
   have h':=e1.1 h
   rw[h'] at *
   split at h2
   ·next k=>rw[if_pos k];exact u h1 h2
   ·next k=>rw[if_neg k];exact h2
  ·next h=>
   split at h2
   ·next k=>
    have k':=e2.1 k
    rw[← k',if_neg h];exact h1
   ·next k=>
    have:=l (by omega) (by omega)
    rw[if_neg (by omega)];omega
theorem avaCmp_ord:Ord xj_:=cmpB_ord.lex cmpB_ord
open Go.RowKit Go.Sort
def RowA (w:World) (g:Nat) (l:List (LU × LU)):Prop:=
 g<w.heap.size∧∀ j x,l[j]?=some x→(w.cell? ⟨g,2 * j,none⟩=some (.string ⟨x.1.toArray⟩)∧w.frozen? ⟨g,2 * j,none⟩=false)∧(w.cell? ⟨g,2 * j+1,none⟩=some (.string ⟨x.2.toArray⟩)∧w.frozen? ⟨g,2 * j+1,none⟩=false)
theorem Avas.row {B g n c:Nat} {w:World} {l:List (LU × LU)} (h:Avas B w (.slice (some ⟨g,0,none⟩) n c) l):RowA w g l:=by
 obtain⟨⟨h1,h2⟩,h3⟩:=h
 rcases h2 with ⟨hn,_⟩|⟨g',cap,cur,e,r2,r3,r4,r5,r6,r7⟩
 ·cases hn
 ·cases e
  refine⟨(Array.getElem?_eq_some_iff.1 r3).1,fun j x hj=>?_⟩
  have hf:=z50_ l j x hj
  have hjl:j<l.length:=(List.getElem?_eq_some_iff.1 hj).1
  rw[← r7,List.getElem?_take,List.getElem?_take,if_pos (by omega),if_pos (by omega)] at hf
  simp only[World.cell?,World.frozen?,r3]
  simp only[Array.getElem?_toList] at hf
  simp [hf.1,hf.2]
theorem RowA.holds {w:World} {g:Nat} {l:List (LU × LU)} (h:RowA w g l):HoldsK z7c_ 2 w g 0 l.toArray:=by
 intro j hj
 have hj2:j<l.length * 2:=by simpa using hj
 have hd:j / 2<l.length:=by omega
 have hx:=h.2 (j / 2) l[j / 2] (List.getElem?_eq_getElem hd)
 rw[get_flatK z7c_ 2 l.toArray j (by simpa using hj2)]
 have e:l.toArray[j / 2]! =l[j / 2]:=by simp [hd]
 rw[e,Nat.zero_add]
 rcases Nat.mod_two_eq_zero_or_one j with h0|h0
 ·have e2:2 * (j / 2)=j:=by omega
  rw[e2] at hx
  rw[h0]
  exact hx.1
 ·have e2:2 * (j / 2)+1=j:=by omega
  rw[e2] at hx
  rw[h0]
  exact hx.2
theorem RowA.of_holds {w:World} {g:Nat} {l:List (LU × LU)} (hg:g<w.heap.size) (h:HoldsK z7c_ 2 w g 0 l.toArray):RowA w g l:=by
 refine⟨hg,fun j x hj=>?_⟩
 have hjl:j<l.length:=(List.getElem?_eq_some_iff.1 hj).1
 have hxe:l[j]=x:=(List.getElem?_eq_some_iff.1 hj).2
 have a:=h (2 * j) (by simp;omega)
 have b:=h (2 * j+1) (by simp;omega)
 rw[get_flatK z7c_ 2 l.toArray _ (by simp;omega),Nat.zero_add] at a b
 have e1:(2 * j) / 2=j:=by omega
 have e2:(2 * j+1) / 2=j:=by omega
 have e3:(2 * j) % 2=0:=by omega
 have e4:(2 * j+1) % 2=1:=by omega
 rw[e1,e3,show l.toArray[j]! =x by simp [hjl,hxe]] at a
 rw[e2,e4,show l.toArray[j]! =x by simp [hjl,hxe]] at b
 exact⟨a,b⟩
theorem z4q_ {w:World} {g n:Nat} {l m:List (LU × LU)} {os:Array Obj} (h:RowA w g l) (hs:m.length=l.length):
  RowA (sortWorldK z7c_ 2 w g 0 n m.toArray os) g m∧w.grownBy (sortWorldK z7c_ 2 w g 0 n m.toArray os) (some g):=by
 have h1:=holdsK_putRowK z7c_ 2 (Go.Sort.ahead w n) g 0 l.toArray m.toArray (holdsK_ahead z7c_ 2 w n g 0 _ h.holds) (by simp [hs])
 have hg1:g<(putRowK z7c_ 2 (Go.Sort.ahead w n) g 0 m.toArray).heap.size:=by
  show g<(putRow id (Go.Sort.ahead w n) g 0 _).heap.size
  rw[size_putRow];exact h.1
 have hsz:(sortWorldK z7c_ 2 w g 0 n m.toArray os).heap.size=w.heap.size+os.size:=by
  show (grow (putRow id (Go.Sort.ahead w n) g 0 _) os).heap.size=_
  rw[size_grow,size_putRow];rfl
 refine⟨RowA.of_holds (by have:=h.1;omega) (holdsK_grow z7c_ 2 _ os g 0 _ hg1 h1),rfl,rfl,rfl,by omega,fun k hk hne=>?_⟩
 show (grow (putRow id (Go.Sort.ahead w n) g 0 _) os).heap[k]?=_
 rw[heap_grow_old _ _ (by rw[size_putRow];exact hk)]
 show (mapBlock (Go.Sort.ahead w n) g _).heap[k]?=_
 simp only[mapBlock,Array.getElem?_modify]
 rw[if_neg (by intro e;exact hne (by rw[e]))]
 rfl
theorem Sort_c (p:List (LU × LU)) (g cap:Nat) (w:World) (h:RowA w g p) (h12:p.length≤12):
  Calls Tryz.prog 208 #[.slice (some ⟨g,0,none⟩) p.length cap,.func (.func 209) #[] #[]] w fun e w'=>e= .returned (.tuple #[])∧RowA w' g (z0z_ p).toList∧w.grownBy w' (some g):=by
 refine(zaq_ p g cap w h.holds h.1 h12).mono ?_
 rintro e w' ⟨rfl,n,os,rfl⟩
 have hlen:(z0z_ p).toList.length=p.length:=by
  have:=(insertionSort_holds (lt:=ltOf xj_) avaCmp_ord.swo p.toArray 0 p.length (Nat.zero_le _) (by simp)).1.1
  simpa [z0z_] using this
 have:=z4q_ (n:=n) (os:=os) h hlen
 simp only[Array.toArray_toList] at this
 exact⟨rfl,this⟩
end Go.Proofs.YtakfpngfpknedaaGreatDoor
