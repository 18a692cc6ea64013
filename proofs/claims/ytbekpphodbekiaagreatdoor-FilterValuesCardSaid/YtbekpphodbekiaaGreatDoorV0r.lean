import Derived.Test.YtbekpphodbekiaaGreatDoorV0q
import Derived.OwnWalk
set_option linter.all false
set_option maxHeartbeats 8000000
set_option maxRecDepth 100000
namespace Go.Proofs.YtbekpphodbekiaaGreatDoor
open Go.RowKit
theorem SchB.below {B:Nat} {w w':World} {s m:Nat} {ps:List Nat} {L:List DefS} (h:SchB B w s m ps L) (hb:Bel w w'):SchB B w' s m ps L:=by
 obtain⟨⟨lv,h1,h2⟩,⟨es,c,h3,h4⟩,h5,h6,h7,h8⟩:=h
 exact⟨⟨lv,h1.below hb,h2.below hb⟩,⟨es,c,(hb.block m (Array.getElem?_eq_some_iff.1 h3).1).trans h3,h4⟩,h5,h6,fun i p d hp hd=>(h7 i p d hp hd).below hb,h8⟩
theorem SchB.notin {B:Nat} {w:World} {s m p:Nat} {ps:List Nat} {L:List DefS} (h:SchB B w s m ps L) (hp:w.heap.size≤p):p ∉ ps:=by
 intro hm
 obtain⟨i,hi,he⟩:=List.getElem_of_mem hm
 have hiL:i<L.length:=by rw[← h.len];exact hi
 obtain⟨_,_,_,_,hB⟩:=(h.defs i p L[i] (by rw[List.getElem?_eq_getElem hi,he]) (List.getElem?_eq_getElem hiL)).bk
 have:=hB.lt
 omega
theorem kr_ {n i:Nat} {p:Nat→Bool} (hi:i<n) (hp:p i=true) (h:∀ t,t<i→p t=false):(List.range n).find? p=some i:=by
 rw[List.find?_range_eq_some]
 exact⟨hp,List.mem_range.2 hi,fun j hj=>by simp [h j hj]⟩
theorem kf_ {n:Nat} {p:Nat→Bool} (h:∀ t,t<n→p t=false):(List.range n).find? p=none:=by
 rw[List.find?_range_eq_none]
 exact fun j hj=>by simp [h j hj]
theorem z1q_ {L:List DefS} {d:DefS} (h:xq_ L d=true):∀ n∈d.sup,(zg_ L d.cls n).isSome=true:=by
 unfold xq_ at h
 rw[Bool.and_eq_true,Bool.and_eq_true,List.all_eq_true] at h
 exact h.1.1
def NewRet (w:World) (o:(Int × Nat) ⊕ List DefS) (e:Ending) (w':World):Prop:=Bel w w'∧match o with
 | .inl x=>e= .returned (.tuple #[.pointer none,.int .i64 x.1,.int .i64 (x.2:Int)])
 | .inr L=>∃ s ps,e= .returned (.tuple #[z8_ s,.int .i64 0,.int .i64 0])∧SchAt w' s ps L
def yv_ (R:(Int × Nat) ⊕ List DefS):(Int × Nat) ⊕ List DefS:=match R with
 | .inl x=> .inl x
 | .inr L=>match L.findIdx? (fun d=>!xq_ L d) with
  |some i=> .inl (52,i)
  |none=>match (List.range L.length).find? (fun i=>k6_ L i) with
   |some i=> .inl (53,i)
   |none=>match (List.range L.length).find? (fun i=>!((L[i]?).map (fun d=>z14_ L d i)).getD false) with
    |some i=> .inl (50,i)
    |none=> .inr L
theorem zjr_ {a c:LL} (h:¬ 300<a.length+c.length):zdw_ a c=yv_ (ql_ a.length 0 (a++c) []):=by
 unfold zdw_ yv_
 rw[if_neg h]
 generalize ql_ a.length 0 (a++c) []=R
 cases R with
 |inl x=>rfl
 |inr L=>
  simp only
  cases L.findIdx? (fun d=>!xq_ L d) with
  |some i=>rfl
  |none=>
   simp only
   cases (List.range L.length).find? (fun i=>k6_ L i) with
   |some i=>rfl
   |none=>
    simp only
    cases (List.range L.length).find? (fun i=>!((L[i]?).map (fun d=>z14_ L d i)).getD false)<;>rfl
structure NJ (w:World) (s m na:Nat) (v:Value) (xs:LL) (R:(Int × Nat) ⊕ List DefS) (wr:World) (k:Nat) (ps:List Nat) (L:List DefS):Prop where
 sch:SchB w.heap.size wr s m ps L
 bel:Bel w wr
 txt:Texts wr v xs
 len:L.length=k
 lim:∀ d∈L,k4_ d
 rest:ql_ na k (xs.drop k) L=R
theorem New_c (va vb:Value) (xa xc:LL) (w:World) (hw:Env w) (hva:Texts w va xa) (hvb:Texts w vb xc) (hlen:xa.length+xc.length≤1000000) (hs:∀ x∈xa++xc,x.length≤1000000):
  Calls Tryz.prog 16 #[va,vb] w (NewRet w (zdw_ xa xc)):=by
 have hmm:=@run_makeMap Tryz.prog
 by_cases h300:300<xa.length+xc.length
 ·have hN:zdw_ xa xc= .inl (2,0):=by unfold zdw_;rw[if_pos h300]
  rw[hN]
  obtain⟨Aa,na,ca,rfl,hna⟩:∃ A n c,va= .slice A n c∧n=xa.length:=by
   rcases hva with ⟨h,rfl⟩|⟨b,c,rfl,_⟩
   ·exact⟨_,_,_,rfl,by rw[h];rfl⟩
   ·exact⟨_,_,_,rfl,rfl⟩
  obtain⟨Ab,nb,cb,rfl,hnb⟩:∃ A n c,vb= .slice A n c∧n=xc.length:=by
   rcases hvb with ⟨h,rfl⟩|⟨b,c,rfl,_⟩
   ·exact⟨_,_,_,rfl,by rw[h];rfl⟩
   ·exact⟨_,_,_,rfl,rfl⟩
  subst hna hnb
  have hgt:(300:Int)<(xa.length:Int)+(xc.length:Int):=by omega
  clear hva hvb
  go_enter Tryz.func16,Tryz.ntmps16
  go_wp2_with fail
  go_ret3
  exact⟨bR _ _,rfl⟩
 ·obtain⟨R,hR⟩:∃ R,ql_ xa.length 0 (xa++xc) []=R:=⟨_,rfl⟩
  have HEQ0:zdw_ xa xc=yv_ R:=by rw[zjr_ h300,hR]
  have HVB:=hiD hvb
  have HVA:=hiD hva
  obtain⟨Aa,na,ca,rfl,hna⟩:∃ A n c,va= .slice A n c∧n=xa.length:=by
   rcases hva with ⟨h,rfl⟩|⟨b,c,rfl,_⟩
   ·exact⟨_,_,_,rfl,by rw[h];rfl⟩
   ·exact⟨_,_,_,rfl,rfl⟩
  obtain⟨Ab,nb,cb,rfl,hnb⟩:∃ A n c,vb= .slice A n c∧n=xc.length:=by
   rcases hvb with ⟨h,rfl⟩|⟨b,c,rfl,_⟩
   ·exact⟨_,_,_,rfl,by rw[h];rfl⟩
   ·exact⟨_,_,_,rfl,rfl⟩
  subst hna hnb
  have hgt:¬ (300:Int)<(xa.length:Int)+(xc.length:Int):=by omega
  have hb2:Bel w ((w.alloc (.map #[] 0)).alloc (.cells #[.slice none 0 0,.map (some w.heap.size)] 79)):=((bR _ _).alloc (nR _) _).alloc (by simp) _
  have hal:xa.length≤1000000:=by omega
  have hac:xa.length+xc.length<4398046511104:=by omega
  clear hva hvb
  go_enter Tryz.func16,Tryz.ntmps16
  go_wp2_with (first|(go_at_call 27;refine(zdm_ xa _ _ (HVA.out.below hb2) hal).mono ?_;rintro e w3 ⟨v3,rfl,hO3,hb3⟩;have hB3:=tQ hb2 hb3;have hvb3:=HVB.out.below hB3)|(at_builtin;refine zd8_ rfl _ _ rfl rfl hO3 rfl hvb3 hac ?_;intro v4 w4 hO4 hg4;obtain⟨A4,c4,rfl,hc4⟩:=hO4.isSlice))
  have hl3:=fun k hk=>hO3.lt k hk
  have hb4:Bel w w4:=hB3.grown hg4 hB3.size (fun k hk=>by have:=(hl3 k hk).1;simp at this;omega)
  have hT4:=hO4.texts
  have J0:NJ w (w.heap.size+1) w.heap.size xa.length (.slice A4 (xa++xc).length c4) (xa++xc) R w4 0 [] []:=by
   have q2:=Bk.new (w.alloc (.map #[] 0)) 79 #[.slice none 0 0,.map (some w.heap.size)]
   rw[World.size_alloc] at q2
   have q4:=(q2.below hb3).grown hg4 (fun he=>by have:=(hl3 _ he.symm).1;simp at this;omega)
   have m2:((w.alloc (.map #[] 0)).alloc (.cells #[.slice none 0 0,.map (some w.heap.size)] 79)).heap[w.heap.size]?=some (.map #[] 0):=(((bR (w.alloc (.map #[] 0)).heap.size (w.alloc (.map #[] 0))).alloc (nR _) _).block _ (by simp)).trans (heap_alloc_new w _)
   have m3:w3.heap[w.heap.size]?=some (.map #[] 0):=(hb3.block _ (by simp;omega)).trans m2
   have m4:w4.heap[w.heap.size]?=some (.map #[] 0):=(hg4.block _ (Array.getElem?_eq_some_iff.1 m3).1 (fun he=>by have:=(hl3 _ he.symm).1;simp at this;omega)).trans m3
   exact⟨⟨⟨_,q4,OwnP.nil hb4.size⟩,⟨_,_,m4,MapR.nil _⟩,rfl,List.nodup_nil,(fun i p d hp=>by simp at hp),⟨Nat.le_succ _,nR _⟩⟩,hb4,hT4,rfl,(fun d hd=>by cases hd),by rw[List.drop_zero];exact hR⟩
  have HJ0:=hiD J0
  clear J0 hT4 hl3 hb4 hO4 hg4 hO3 hb3 hB3 hvb3 hb2 hR
  generalize hxs:xa++xc=xs at *
  have hn:xs.length=xa.length+xc.length:=by rw[← hxs];simp
  have HN:=hiD hn
  rw[hn] at HJ0
  have HX:=hiD hs
  have HEQ:Hid (zdw_ xa xc=yv_ R):=hiD HEQ0
  clear hxs hn hs
  generalize w.heap.size+1=s at HJ0 ⊢
  go_loopg [31] (xa.length+xc.length) (fun gk i wr=>∃ (k:Nat) (ps:List Nat) (L:List DefS),k≤xa.length+xc.length∧i= .int .i64 k∧Aside (k+gk=xa.length+xc.length)∧Aside (NJ w s w.heap.size xa.length (.slice A4 (xa.length+xc.length) c4) xs R wr k ps L))
  case atStart=>exact⟨0,[],[],Nat.zero_le _,rfl,by show _=_;omega,HJ0.out⟩
  case round=>
   clear HJ0
   obtain⟨k,ps,L,hk,rfl,AG,AJ⟩:=hrel
   by_cases hlt:k<xa.length+xc.length
   ·obtain⟨q,rfl⟩:∃ q,gk=q+1:=⟨gk - 1,by have:=AG.out;omega⟩
    have hltx:k<xs.length:=by rw[HN.out];exact hlt
    obtain⟨g,rfl,ck⟩:=z0w_ AJ.out.txt hltx
    have hxk:=HX.out _ (List.getElem_mem hltx)
    have hE:Env wr:=hw.keep AJ.out.bel
    obtain⟨cls,hcls⟩:∃ cls,decide (xa.length≤k)=cls:=⟨_,rfl⟩
    have hcls2:decide ((xa.length:Int)≤(k:Int))=cls:=by rw[← hcls];exact decide_eq_decide.2 Int.ofNat_le
    have hRD:=read_c xs[k] cls wr hE hxk
    have hrest:=AJ.out.rest
    rw[List.drop_eq_getElem_cons hltx,ql_,hcls] at hrest
    cases ho:zf5_ xs[k] cls with
    |none=>
     rw[ho] at hRD hrest
     have HRD:=hiD hRD
     have HREST:=hiD hrest
     clear hRD hrest ho hxk hE
     go_wp2_with (go_at_call 28;refine HRD.out.mono ?_;rintro e w5 ⟨hb5,rfl⟩)
     all_goals
      go_ret3
      rw[HEQ.out,← HREST.out]
      exact⟨tQ AJ.out.bel hb5,rfl⟩
    |some d=>
     rw[ho] at hRD hrest
     have hlimd:=(zat_ hxk ho).1
     have HLD:=hiD hlimd
     have HRD:Hid (Calls Tryz.prog 28 #[.string ⟨xs[k].toArray⟩,.bool cls] wr fun e w'=>∃ p,e= .returned (.pointer (some ⟨p,0,none⟩))∧wr.heap.size≤p∧DefAt w' p d∧Bel wr w'):=hiD (hRD.mono (by
      rintro e w' ⟨h1,p,rfl,h2,h3⟩
      exact⟨p,rfl,h2,h3,h1⟩))
     simp only at hrest
     have HREST:=hiD hrest
     have hpl:ps.length<4398046511104:=by rw[AJ.out.sch.len,AJ.out.len];omega
     have HPUT:Hid (∀ (p:Nat) (W:World),Bel wr W→wr.heap.size≤p→DefAt W p d→Calls Tryz.prog 29 #[.pointer (some ⟨s,0,none⟩),.pointer (some ⟨p,0,none⟩)] W (z65_ w.heap.size W s w.heap.size ps L p d)):=hiD (fun p W hb hp hd=>put_c6 w.heap.size s w.heap.size p ps L d W (AJ.out.sch.below hb) (nT AJ.out.bel.size hb.size) hpl (AJ.out.sch.notin hp) hd hlimd.1)
     clear hRD hrest hxk hE hlimd hpl
     cases hok:vv_ (L.flatMap DefS.keys) d.keys with
     |true=>
      have HOK:=hiD hok
      clear hok
      go_wp2_with (first|(go_at_call 28;refine HRD.out.mono ?_;rintro e w5 ⟨p,rfl,hp5,hd5,hb5⟩)|(go_at_call 29;refine(HPUT.out _ _ hb5 hp5 hd5).mono ?_;unfold z65_;rw[HOK.out];rintro e w6 ⟨hb6,rfl,hs6,ht6⟩))
      go_roundg q
      case measure=>omega
      case rel=>
       refine⟨k+1,ps++[p],L++[d],by omega,by go_num,by have:=AG.out;show _=_;omega,⟨hs6,AJ.out.bel.trans ((hb5.mono AJ.out.bel.size).trans hb6),ht6 _ _ (AJ.out.txt.below hb5),by simp [AJ.out.len],?_,?_⟩⟩
       ·intro x hx
        rcases List.mem_append.1 hx with hx|hx
        ·exact AJ.out.lim x hx
        ·rw[List.mem_singleton.1 hx];exact HLD.out
       ·have:=HREST.out;rw[HOK.out] at this;simpa using this
     |false=>
      have HOK:=hiD hok
      clear hok
      go_wp2_with (first|(go_at_call 28;refine HRD.out.mono ?_;rintro e w5 ⟨p,rfl,hp5,hd5,hb5⟩)|(go_at_call 29;refine(HPUT.out _ _ hb5 hp5 hd5).mono ?_;unfold z65_;rw[HOK.out];rintro e w6 ⟨hb6,rfl⟩))
      all_goals
       have hr:R= .inl (51,k):=by have:=HREST.out;rw[HOK.out] at this;simpa using this.symm
       go_ret3
       rw[HEQ.out,hr]
       exact⟨AJ.out.bel.trans ((hb5.mono AJ.out.bel.size).trans hb6),rfl⟩
   ·obtain rfl:k=xa.length+xc.length:=by omega
    obtain⟨we,rfl⟩:∃ x,x=wr:=⟨_,rfl⟩
    have hR:R= .inr L:=by rw[← AJ.out.rest,List.drop_eq_nil_of_le (by rw[HN.out];exact nR _),ql_]
    have hpl:ps.length≤1000:=by rw[AJ.out.sch.len,AJ.out.len];omega
    have hSA:=AJ.out.sch.at
    obtain⟨lv,hs0,hown⟩:=AJ.out.sch.head
    obtain⟨Al,cl,rfl,hcl,hpc⟩:=hown.reads
    have cs0:we.cell? ⟨s,0,none⟩=some (.slice Al ps.length cl):=hs0.cell 0
    have HRR:Hid (zdw_ xa xc=yv_ (.inr L)):=hiD (by rw[HEQ.out,hR])
    have HSA:=hiD hSA
    have HB:=hiD AJ.out.bel
    have HLIM:=hiD AJ.out.lim
    have HPC:=hiD hpc
    have HLEN:=hiD hSA.len
    have HS0:=hiD hs0
    clear hR hSA hown hpc hs0 AJ HX
    go_wp2_with fail
    go_loopg [58] ps.length (fun gk i wr=>∃ j:Nat,j≤ps.length∧i= .int .i64 j∧Aside (j+gk=ps.length)∧Bel we wr∧Aside (∀ t d,t<j→L[t]?=some d→xq_ L d=true))
    case atStart=>exact⟨0,Nat.zero_le _,rfl,by show _=_;omega,bR _ _,fun t d ht=>absurd ht (by omega)⟩
    case round=>
     obtain⟨j,hj,rfl,BG,hB,BK⟩:=hrel
     by_cases hjl:j<ps.length
     ·obtain⟨q,rfl⟩:∃ q,gk=q+1:=⟨gk - 1,by have:=BG.out;omega⟩
      have hjL:j<L.length:=by rw[← HLEN.out];exact hjl
      have hLj:L[j]?=some L[j]:=List.getElem?_eq_getElem hjL
      obtain⟨g2,rfl,hcells⟩:=HPC.out.resolve_left (by rintro rfl;simp at hjl)
      have cj:we.cell? ⟨g2,j,none⟩=some (.pointer (some ⟨pAt ps j,0,none⟩)):=hcells j _ (kd_ hjl)
      have cq:wr.cell? ⟨g2,j,none⟩=some (.pointer (some ⟨pAt ps j,0,none⟩)):=(hB.cell (p:=⟨g2,j,none⟩) (z9_ cj)).trans cj
      have hK:=zos_ s (pAt ps j) ps L L[j] wr (HSA.out.below hB) ((HSA.out.below hB).defAt hLj) (HLIM.out _ (List.getElem_mem hjL)).1
      clear hcells cj
      unfold z8_ at hK
      cases hkn:xq_ L L[j]
      all_goals
       rw[hkn] at hK
       have HK:=hiD hK
       have HKN:=hiD hkn
       clear hK hkn
      ·go_wp2_with (go_at_call 30;refine HK.out.mono ?_;rintro e w7 ⟨rfl,hb7⟩)
       all_goals
        have hf:L.findIdx? (fun d=>!xq_ L d)=some j:=by
         rw[List.findIdx?_eq_some_iff_getElem]
         refine⟨hjL,by rw[HKN.out];rfl,fun t ht=>?_⟩
         rw[BK.out t _ ht (List.getElem?_eq_getElem (by omega))]
         simp
        go_ret3
        rw[HRR.out]
        unfold yv_
        simp only
        rw[hf]
        exact⟨HB.out.trans ((tQ hB hb7).mono HB.out.size),rfl⟩
      ·go_wp2_with (go_at_call 30;refine HK.out.mono ?_;rintro e w7 ⟨rfl,hb7⟩)
       go_roundg q
       case measure=>omega
       case rel=>
        refine⟨j+1,by omega,by go_num,by have:=BG.out;show _=_;omega,tQ hB hb7,?_⟩
        intro t d ht hd
        rcases Nat.lt_or_ge t j with h1|h1
        ·exact BK.out t d h1 hd
        ·obtain rfl:t=j:=by omega
         rw[hLj] at hd
         cases hd
         exact HKN.out
     ·obtain rfl:j=ps.length:=by omega
      have hknow:∀ d∈L,xq_ L d=true:=by
       intro d hd
       obtain⟨t,ht,rfl⟩:=List.getElem_of_mem hd
       exact BK.out t _ (by rw[HLEN.out];exact ht) (List.getElem?_eq_getElem ht)
      have hf1:L.findIdx? (fun d=>!xq_ L d)=none:=by
       rw[List.findIdx?_eq_none_iff]
       intro d hd
       rw[hknow d hd]
       rfl
      have HKNOW:=hiD hknow
      have HF1:=hiD hf1
      obtain⟨w2,rfl⟩:∃ x,x=wr:=⟨_,rfl⟩
      have cs2:w2.cell? ⟨s,0,none⟩=some (.slice Al ps.length cl):=(hB.cell (p:=⟨s,0,none⟩) (z9_ cs0)).trans cs0
      have HB2:=hiD hB
      clear hknow hf1 hB BK
      go_wp2_with fail
      go_loopg [74] ps.length (fun gk i wr=>∃ j:Nat,j≤ps.length∧i= .int .i64 j∧Aside (j+gk=ps.length)∧Bel we wr∧Aside (∀ t,t<j→k6_ L t=false))
      case atStart=>exact⟨0,Nat.zero_le _,rfl,by show _=_;omega,HB2.out,fun t ht=>absurd ht (by omega)⟩
      case round=>
       obtain⟨j,hj,rfl,BG,hB,BK⟩:=hrel
       by_cases hjl:j<ps.length
       ·obtain⟨q,rfl⟩:∃ q,gk=q+1:=⟨gk - 1,by have:=BG.out;omega⟩
        have hjL:j<L.length:=by rw[← HLEN.out];exact hjl
        have hLj:L[j]?=some L[j]:=List.getElem?_eq_getElem hjL
        obtain⟨g2,rfl,hcells⟩:=HPC.out.resolve_left (by rintro rfl;simp at hjl)
        have cj:we.cell? ⟨g2,j,none⟩=some (.pointer (some ⟨pAt ps j,0,none⟩)):=hcells j _ (kd_ hjl)
        have cq:wr.cell? ⟨g2,j,none⟩=some (.pointer (some ⟨pAt ps j,0,none⟩)):=(hB.cell (p:=⟨g2,j,none⟩) (z9_ cj)).trans cj
        have hK:=zqw_ s j ps L L[j] wr (HSA.out.below hB) (fun d hd=>(HLIM.out d hd).1) (by rw[← HLEN.out];omega) (fun d hd=>z1q_ (HKNOW.out d hd)) hLj
        clear hcells cj
        unfold z8_ at hK
        cases hkn:k6_ L j
        all_goals
         rw[hkn] at hK
         have HK:=hiD hK
         have HKN:=hiD hkn
         clear hK hkn
        ·go_wp2_with (go_at_call 31;refine HK.out.mono ?_;rintro e w7 ⟨rfl,hb7⟩)
         go_roundg q
         case measure=>omega
         case rel=>
          refine⟨j+1,by omega,by go_num,by have:=BG.out;show _=_;omega,tQ hB hb7,?_⟩
          intro t ht
          rcases Nat.lt_or_ge t j with h1|h1
          ·exact BK.out t h1
          ·obtain rfl:t=j:=by omega
           exact HKN.out
        ·go_wp2_with (go_at_call 31;refine HK.out.mono ?_;rintro e w7 ⟨rfl,hb7⟩)
         all_goals
          have hf:(List.range L.length).find? (fun i=>k6_ L i)=some j:=kr_ hjL HKN.out BK.out
          go_ret3
          rw[HRR.out]
          unfold yv_
          simp only
          rw[HF1.out]
          simp only
          rw[hf]
          exact⟨HB.out.trans ((tQ hB hb7).mono HB.out.size),rfl⟩
       ·obtain rfl:j=ps.length:=by omega
        have hlo:∀ t,t<L.length→k6_ L t=false:=fun t ht=>BK.out t (by rw[HLEN.out];exact ht)
        have HF2:=hiD (kf_ hlo)
        have HAC:=hiD (zil_ hlo)
        obtain⟨w4b,rfl⟩:∃ x,x=wr:=⟨_,rfl⟩
        have cs4:w4b.cell? ⟨s,0,none⟩=some (.slice Al ps.length cl):=(hB.cell (p:=⟨s,0,none⟩) (z9_ cs0)).trans cs0
        have HB4:=hiD hB
        clear hlo hB BK cs2
        go_wp2_with fail
        go_loopg [89] ps.length (fun gk i wr=>∃ j:Nat,j≤ps.length∧i= .int .i64 j∧Aside (j+gk=ps.length)∧Bel we wr∧Aside (∀ t,t<j→(!((L[t]?).map (fun d=>z14_ L d t)).getD false)=false))
        case atStart=>exact⟨0,Nat.zero_le _,rfl,by show _=_;omega,HB4.out,fun t ht=>absurd ht (by omega)⟩
        case round=>
         obtain⟨j,hj,rfl,BG,hB,BK⟩:=hrel
         by_cases hjl:j<ps.length
         ·obtain⟨q,rfl⟩:∃ q,gk=q+1:=⟨gk - 1,by have:=BG.out;omega⟩
          have hjL:j<L.length:=by rw[← HLEN.out];exact hjl
          have hLj:L[j]?=some L[j]:=List.getElem?_eq_getElem hjL
          obtain⟨g2,rfl,hcells⟩:=HPC.out.resolve_left (by rintro rfl;simp at hjl)
          have cj:we.cell? ⟨g2,j,none⟩=some (.pointer (some ⟨pAt ps j,0,none⟩)):=hcells j _ (kd_ hjl)
          have cq:wr.cell? ⟨g2,j,none⟩=some (.pointer (some ⟨pAt ps j,0,none⟩)):=(hB.cell (p:=⟨g2,j,none⟩) (z9_ cj)).trans cj
          have hK:=fits_c s j ps L L[j] wr (HSA.out.below hB) (fun d hd=>(HLIM.out d hd).1) (fun d hd=>(HLIM.out d hd).2) hLj
           (fun hc n hn=>by have:=z1q_ (HKNOW.out _ (List.getElem_mem hjL)) n hn;rw[hc] at this;exact this)
           (fun hc=>by
            obtain⟨a,ha⟩:=z29_ HAC.out (fun d hd hc s hs=>by have:=z1q_ (HKNOW.out d hd) s hs;rw[hc] at this;exact this) hLj hc
            rw[ha];rfl)
          clear hcells cj
          unfold z8_ at hK
          cases hkn:z14_ L L[j] j
          all_goals
           rw[hkn] at hK
           have HK:=hiD hK
           have HKN:=hiD hkn
           clear hK hkn
          ·go_wp2_with (go_at_call 32;refine HK.out.mono ?_;rintro e w7 ⟨rfl,hb7⟩)
           all_goals
            have hf:(List.range L.length).find? (fun i=>!((L[i]?).map (fun d=>z14_ L d i)).getD false)=some j:=kr_ hjL (by rw[hLj];simp [HKN.out]) BK.out
            go_ret3
            rw[HRR.out]
            unfold yv_
            simp only
            rw[HF1.out]
            simp only
            rw[HF2.out]
            simp only
            rw[hf]
            exact⟨HB.out.trans ((tQ hB hb7).mono HB.out.size),rfl⟩
          ·go_wp2_with (go_at_call 32;refine HK.out.mono ?_;rintro e w7 ⟨rfl,hb7⟩)
           go_roundg q
           case measure=>omega
           case rel=>
            refine⟨j+1,by omega,by go_num,by have:=BG.out;show _=_;omega,tQ hB hb7,?_⟩
            intro t ht
            rcases Nat.lt_or_ge t j with h1|h1
            ·exact BK.out t h1
            ·obtain rfl:t=j:=by omega
             rw[hLj]
             simp [HKN.out]
         ·obtain rfl:j=ps.length:=by omega
          have hfi:∀ t,t<L.length→(!((L[t]?).map (fun d=>z14_ L d t)).getD false)=false:=fun t ht=>BK.out t (by rw[HLEN.out];exact ht)
          have HF3:=hiD (kf_ hfi)
          clear hfi BK
          go_wp2_with fail
          go_ret3
          rw[HRR.out]
          unfold yv_
          simp only
          rw[HF1.out]
          simp only
          rw[HF2.out]
          simp only
          rw[HF3.out]
          exact⟨tQ HB.out hB,s,ps,rfl,HSA.out.below hB⟩
open Go.RowKit
theorem zr8_ (s:Nat) (ps:List Nat) (L:List DefS) (a b:LU) (w:World) (hS:SchAt w s ps L) (hlim:∀ d∈L,DefLim d) (hN:L.length≤1000) (hk:∀ d∈L,∀ n∈d.sup,(zg_ L d.cls n).isSome=true) (ha:a.length≤1000000) (hb:b.length≤1000000):
  Calls Tryz.prog 195 #[z8_ s,.string ⟨a.toArray⟩,.string ⟨b.toArray⟩] w fun e w'=>e= .returned (.bool (k8_ L a b))∧Bel w w':=by
 have HA0:=z38_ s ps L false a w hS ha
 have HB0:=fun (W:World) (h:Bel w W)=>z38_ s ps L false b W (hS.below h) hb
 have HA:=hiD HA0
 have HB:=hiD HB0
 unfold k8_
 clear HA0 HB0
 unfold zmk_ z8_ at HA HB
 unfold z8_
 cases h1:zg_ L false a with
 |none=>
  rw[h1] at HA
  simp only at HA ⊢
  cases h2:zg_ L false b
  all_goals
   rw[h2] at HB
   simp only at HB
   clear hS hk hlim
   go_enter Tryz.func195,Tryz.ntmps195
   go_wp2_with (first|(go_at_call 21;(with_reducible refine HA.out.mono ?_);rintro e w1 ⟨rfl,hb1⟩)|(go_at_call 21;(with_reducible refine(HB.out _ hb1).mono ?_);rintro e w2 ⟨rfl,hb2⟩))
   all_goals
    go_ret
    exact⟨rfl,tQ hb1 hb2⟩
 |some x=>
  rw[h1] at HA
  simp only at HA ⊢
  have hx:=y4_ h1
  cases h2:zg_ L false b with
  |none=>
   rw[h2] at HB
   simp only at HB
   clear hS hk hlim
   go_enter Tryz.func195,Tryz.ntmps195
   go_wp2_with (first|(go_at_call 21;(with_reducible refine HA.out.mono ?_);rintro e w1 ⟨rfl,hb1⟩)|(go_at_call 21;(with_reducible refine(HB.out _ hb1).mono ?_);rintro e w2 ⟨rfl,hb2⟩))
   all_goals
    go_ret
    exact⟨rfl,tQ hb1 hb2⟩
  |some y=>
   rw[h2] at HB
   simp only at HB
   have hy:=y4_ h2
   have hsays:=z02_ L x hx
   have HAB:Hid (∀ W:World,Bel w W→Calls Tryz.prog 66 #[.pointer (some ⟨s,0,none⟩),.pointer (some ⟨pAt ps x,0,none⟩),.slice none 0 0] W (zre_ w.heap.size W ps (j9_ L x []))):=hiD (fun W h=>zh1_ w s ps L hS hlim hN hk (L.length+1) x [] (.slice none 0 0) W h (by simp) (by simp) hx (by simp) (OwnP.nil h.size))
   have hcm:((j9_ L x []).map (pAt ps)).contains (pAt ps y)=(j9_ L x []).contains y:=z1y_ hS.nodup (fun v hv=>by rw[hS.len];exact hsays.lt v hv) (by rw[hS.len];exact hy)
   have hlen:((j9_ L x []).map (pAt ps)).length≤1000000:=by
    have:=qu_ _ (j9_ L x []) hsays.nodup hsays.lt
    simp
    omega
   have HC:Hid (∀ (v:Value) (W:World),Bel w W→OwnP w.heap.size W v ((j9_ L x []).map (pAt ps))→Calls Tryz.prog 129 #[v,.pointer (some ⟨pAt ps y,0,none⟩)] W fun e w'=>e= .returned (.bool ((j9_ L x []).contains y))∧W=w'):=hiD (fun v W h ho=>by
    have:=z46_ (pAt ps y) _ v W ho.reads hlen (z9x_ hS h hy hsays.lt)
    rw[hcm] at this
    exact this)
   clear hS hk hlim hcm hlen hsays
   have HA2:Hid (Calls Tryz.prog 21 #[.pointer (some ⟨s,0,none⟩),.bool false,.string ⟨a.toArray⟩] w fun e w'=>e= .returned (.pointer (some ⟨pAt ps x,0,none⟩))∧Bel w w'):=HA
   have HB2:Hid (∀ W:World,Bel w W→Calls Tryz.prog 21 #[.pointer (some ⟨s,0,none⟩),.bool false,.string ⟨b.toArray⟩] W fun e w'=>e= .returned (.pointer (some ⟨pAt ps y,0,none⟩))∧Bel W w'):=HB
   clear HA HB
   show Calls _ _ _ _ fun e w'=>e= .returned (.bool ((j9_ L x []).contains y))∧Bel w w'
   generalize (j9_ L x []).contains y=q at HC ⊢
   go_enter Tryz.func195,Tryz.ntmps195
   go_wp2_with (first|(go_at_call 21;(with_reducible refine HA2.out.mono ?_);rintro e w1 ⟨rfl,hb1⟩)|(go_at_call 21;(with_reducible refine(HB2.out _ hb1).mono ?_);rintro e w2 ⟨rfl,hb2⟩;have hB2:=tQ hb1 hb2)|(go_at_call 66;refine(HAB.out _ hB2).mono ?_;rintro e w3 ⟨hb3,v3,rfl,hO3⟩;have hB3:=hB2.trans hb3)|(go_at_call 129;refine(HC.out _ _ hB3 hO3).mono ?_;rintro e w4 ⟨rfl,rfl⟩))
   all_goals
    go_ret
    exact⟨rfl,hB3⟩
open Go.RowKit
def z3h_:AttrS:=⟨[],[],[],[],[],[],[],[],false,false,false⟩
def qp_ (L:List DefS) (t:LU):Option AttrS:=match zg_ L false t with
 |none=>none
 |some j=>q6_ L j
def z1i_ (w:World) (o:Option AttrS) (e:Ending) (w':World):Prop:=Bel w w'∧match o with
 |none=>e= .returned (.tuple #[zu_ z3h_ (.slice none 0 0),.int .i64 52])
 |some a=>∃ nv,e= .returned (.tuple #[zu_ a nv,.int .i64 0])∧Own w.heap.size w' nv a.names
theorem z9g_ {w W:World} {a:AttrS} {nv:Value} {tmps:Array Value} {o:Option AttrS} {er:Int} (hz:Bk W w.heap.size 38 (z0_ a nv)) (h4:tmps[4]?=some (.pointer (some ⟨w.heap.size,0,none⟩))) (h5:tmps[5]?=some (.int .i64 er))
  (h:z1i_ w o (.returned (.tuple #[zu_ a nv,.int .i64 er])) W):
  bodyPost Tryz.prog Tryz.f11 (z1i_ w o) .ret {tmps:=tmps,defers:=[]} W:=by
 have e4:tmps[4]?.getD undef= .pointer (some ⟨w.heap.size,0,none⟩):=by rw[h4];rfl
 have e5:tmps[5]?.getD undef= .int .i64 er:=by rw[h5];rfl
 have c0:=hz.cell 0
 have c1:=hz.cell 1
 have c2:=hz.cell 2
 have c3:=hz.cell 3
 have c4:=hz.cell 4
 have c5:=hz.cell 5
 have c6:=hz.cell 6
 have c7:=hz.cell 7
 have c8:=hz.cell 8
 have c9:=hz.cell 9
 have c10:=hz.cell 10
 simp only[z0_,List.getElem?_toArray,List.getElem?_cons_zero,List.getElem?_cons_succ] at c0 c1 c2 c3 c4 c5 c6 c7 c8 c9 c10
 refine bodyPost_ret (v:= .tuple #[zu_ a nv,.int .i64 er]) ?_ rfl h
 simp [results,Tryz.results11,go_sem,e4,e5,c0,c1,c2,c3,c4,c5,c6,c7,c8,c9,c10,zu_,z0_]
theorem z1e_ (s:Nat) (ps:List Nat) (L:List DefS) (x:LU) (w:World) (hS:SchAt w s ps L) (hx:x.length≤140737488351232) (hf:zg_ L false x=none):
  Calls Tryz.prog 11 #[z8_ s,.string ⟨x.toArray⟩] w (z1i_ w none):=by
 have hb0:Bel w (w.alloc zw_):=(bR _ _).alloc (nR _) _
 have hF:=zby_ s ps L false x _ (hS.below hb0) hx
 rw[hf] at hF
 have HF:Hid (Calls Tryz.prog 21 #[.pointer (some ⟨s,0,none⟩),.bool false,.string ⟨x.toArray⟩] (w.alloc zw_) fun e w'=>e= .returned (.pointer none)∧Below (w.alloc zw_).heap.size (w.alloc zw_) w'):=hiD hF
 have hk:Bk (w.alloc zw_) w.heap.size 38 #[.string ⟨#[]⟩,.string ⟨#[]⟩,.string ⟨#[]⟩,.slice none 0 0,.string ⟨#[]⟩,.string ⟨#[]⟩,.string ⟨#[]⟩,.string ⟨#[]⟩,.bool false,.bool false,.bool false]:=Bk.new w _ _
 have HK:=hiD hk
 clear hF hS hf hk
 unfold z8_
 go_enter Tryz.func11,Tryz.ntmps11
 go_wp2_with (go_at_call 21;refine HF.out.mono ?_;rintro e w1 ⟨rfl,hb1⟩;have hk1:=HK.out.below hb1;have oc0:=hk1.cell 0;have oc1:=hk1.cell 1;have oc2:=hk1.cell 2;have oc3:=hk1.cell 3;have oc4:=hk1.cell 4;have oc5:=hk1.cell 5;have oc6:=hk1.cell 6;have oc7:=hk1.cell 7;have oc8:=hk1.cell 8;have oc9:=hk1.cell 9;have oc10:=hk1.cell 10;simp only[gs3] at oc0 oc1 oc2 oc3 oc4 oc5 oc6 oc7 oc8 oc9 oc10;have of:=fun i=>hk1.frozen i)
 have hz:=z0u_ _ _ _ _ _ _ _ _ _ _ _ (.string ⟨#[]⟩) (.string ⟨#[]⟩) (.string ⟨#[]⟩) (.slice none 0 0) (.string ⟨#[]⟩) (.string ⟨#[]⟩) (.string ⟨#[]⟩) (.string ⟨#[]⟩) (.bool false) (.bool false) (.bool false) hk1
 exact z9g_ (a:=z3h_) (nv:= .slice none 0 0) (er:=52) hz rfl rfl ⟨jw_ (tQ hb0 hb1) (nR _) _ _ _ _ _ _ _ _ _ _ _,rfl⟩
theorem zk0_ (s:Nat) (ps:List Nat) (L:List DefS) (x:LU) (w:World) (hS:SchAt w s ps L) (hx:x.length≤1000000) (hf:zg_ L false x=none):
  Calls Tryz.prog 11 #[z8_ s,.string ⟨x.toArray⟩] w (z1i_ w none):=
 z1e_ s ps L x w hS (nT hx (by decide)) hf
theorem z19_ (s:Nat) (ps:List Nat) (L:List DefS) (hlim:∀ d∈L,DefLim d) (x:LU) (j:Nat) (a:AttrS) (w:World) (hS:SchAt w s ps L) (hx:x.length≤140737488351232) (hf:zg_ L false x=some j) (ha:q6_ L j=some a):
  Calls Tryz.prog 11 #[z8_ s,.string ⟨x.toArray⟩] w (z1i_ w (some a)):=by
 have hb0:Bel w (w.alloc zw_):=(bR _ _).alloc (nR _) _
 have hF:=zby_ s ps L false x _ (hS.below hb0) hx
 rw[hf] at hF
 have HF:Hid (Calls Tryz.prog 21 #[.pointer (some ⟨s,0,none⟩),.bool false,.string ⟨x.toArray⟩] (w.alloc zw_) fun e w'=>e= .returned (.pointer (some ⟨pAt ps j,0,none⟩))∧Below (w.alloc zw_).heap.size (w.alloc zw_) w'):=hiD hF
 have HC:Hid (∀ W:World,Bel w W→Calls Tryz.prog 22 #[.pointer (some ⟨s,0,none⟩),.pointer (some ⟨pAt ps j,0,none⟩)] W fun e w'=>∃ A n c,e= .returned (zu_ a (.slice A n c))∧Bel W w'∧Own W.heap.size w' (.slice A n c) a.names):=hiD (fun W h=>(zdg_ s ps L hlim (L.length+1) j a W (hS.below h) ha).mono (by
  rintro e w' ⟨h1,nv,rfl,h2⟩
  obtain⟨A,c,rfl,_⟩:=h2.isSlice
  exact⟨A,_,c,rfl,h1,h2⟩))
 have hk:Bk (w.alloc zw_) w.heap.size 38 #[.string ⟨#[]⟩,.string ⟨#[]⟩,.string ⟨#[]⟩,.slice none 0 0,.string ⟨#[]⟩,.string ⟨#[]⟩,.string ⟨#[]⟩,.string ⟨#[]⟩,.bool false,.bool false,.bool false]:=Bk.new w _ _
 have HK:=hiD hk
 clear hF hS hf hk ha hlim
 unfold z8_
 go_enter Tryz.func11,Tryz.ntmps11
 go_wp2_with (first|(go_at_call 21;refine HF.out.mono ?_;rintro e w1 ⟨rfl,hb1⟩;have hB1:=tQ hb0 hb1;have hk1:=HK.out.below hb1)|(go_at_call 22;refine(HC.out _ hB1).mono ?_;unfold zu_ z0_;rintro e w2 ⟨A,n,c,rfl,hb2,hO2⟩;have hk2:=hk1.below hb2;have oc0:=hk2.cell 0;have oc1:=hk2.cell 1;have oc2:=hk2.cell 2;have oc3:=hk2.cell 3;have oc4:=hk2.cell 4;have oc5:=hk2.cell 5;have oc6:=hk2.cell 6;have oc7:=hk2.cell 7;have oc8:=hk2.cell 8;have oc9:=hk2.cell 9;have oc10:=hk2.cell 10;simp only[gs3] at oc0 oc1 oc2 oc3 oc4 oc5 oc6 oc7 oc8 oc9 oc10;have of:=fun i=>hk2.frozen i))
 have hz:=z0u_ _ _ _ _ _ _ _ _ _ _ _ (.string ⟨a.oid.toArray⟩) (.string ⟨a.name.toArray⟩) (.string ⟨a.sup.toArray⟩) (.slice A n c) (.string ⟨a.form.toArray⟩) (.string ⟨a.eqr.toArray⟩) (.string ⟨a.ordr.toArray⟩) (.string ⟨a.subs.toArray⟩) (.bool a.single) (.bool a.fixed) (.bool a.oper) hk2
 exact z9g_ (a:=a) (nv:= .slice A n c) (er:=0) hz rfl rfl ⟨jw_ (tQ hB1 hb2) (nR _) _ _ _ _ _ _ _ _ _ _ _,_,rfl,(hO2.lower hB1.size).far11 hk2 (by decide) _ _ _ _ _ _ _ _ _ _ _⟩
theorem ziz_ (s:Nat) (ps:List Nat) (L:List DefS) (hlim:∀ d∈L,DefLim d) (x:LU) (j:Nat) (a:AttrS) (w:World) (hS:SchAt w s ps L) (hx:x.length≤1000000) (hf:zg_ L false x=some j) (ha:q6_ L j=some a):
  Calls Tryz.prog 11 #[z8_ s,.string ⟨x.toArray⟩] w (z1i_ w (some a)):=
 z19_ s ps L hlim x j a w hS (nT hx (by decide)) hf ha
open Ent
def z6m_ (a:AttrS):InfoE:=⟨a.name,a.oid,a.eqr,a.single,a.fixed,a.oper⟩
def classE (c:ClassS):ClassE:=⟨c.name,c.kind,c.must,c.may⟩
def zo_ (L:List DefS):SchE where
 attr t:=(qp_ L t).map z6m_
 norm:=zf_ L
 sub:=k8_ L
 eqn:=kv_
 first dn:=if (zh_ dn).1=0 then (zh_ dn).2.head? else none
 named nm:=(z5u_ L nm).1==0
 cls c:=(zg_ L true c).bind fun i=>(classD L i).map classE
 above c:=match zg_ L true c with
  |some i=>aboveN L i
  |none=>[]
theorem kj_ {L:List DefS} {t:LU} {a:AttrS} (h:qp_ L t=some a):∃ j d,zg_ L false t=some j∧L[j]?=some d∧d.cls=false∧q6_ L j=some a∧a.oid=d.oid∧a.name=d.name:=by
 unfold qp_ at h
 split at h
 ·cases h
 ·next j hj=>
  obtain⟨d,hd,hc,_⟩:=kx_ hj
  obtain⟨e1,e2,_⟩:=zbw_ _ hd h
  exact⟨j,d,hj,hd,hc,h,e1,e2⟩
theorem z0o_ {L:List DefS} (hN:NewSays L) {j:Nat} {d:DefS} (hd:L[j]?=some d) (hc:d.cls=false):zg_ L false d.name=some j∧zg_ L false d.oid=some j:=
 ⟨z7k_ hN.keys hd (by have:=zcv_ d;rw[hc] at this;exact this),z7k_ hN.keys hd (by have:=zqv_ d;rw[hc] at this;exact this)⟩
theorem z2n_ {L:List DefS} (hN:NewSays L):SchLaw (zo_ L):=by
 have one:∀ t d,(zo_ L).attr t=some d→∃ a j D,qp_ L t=some a∧d=z6m_ a∧zg_ L false t=some j∧L[j]?=some D∧D.cls=false∧q6_ L j=some a∧a.oid=D.oid∧a.name=D.name:=by
  intro t d h
  obtain⟨a,ha,hd⟩:=Option.map_eq_some_iff.1 h
  obtain⟨j,D,h1,h2,h3,h4,h5,h6⟩:=kj_ ha
  exact⟨a,j,D,ha,hd.symm,h1,h2,h3,h4,h5,h6⟩
 have same:∀ t u d,(zo_ L).attr t=some d→(zo_ L).attr u=some d→zg_ L false t=zg_ L false u:=by
  intro t u d h1 h2
  obtain⟨a,j,D,_,ha,f1,f2,f3,_,f5,_⟩:=one t d h1
  obtain⟨b,k,E,_,hb,g1,g2,g3,_,g5,_⟩:=one u d h2
  have ho:D.oid=E.oid:=by
   have:d.oid=a.oid:=by rw[ha];rfl
   have:d.oid=b.oid:=by rw[hb];rfl
   rw[← f5,← g5]
   simp_all
  have q1:=(z0o_ hN f2 f3).2
  have q2:=(z0o_ hN g2 g3).2
  rw[ho,q2] at q1
  rw[f1,g1]
  exact q1.symm
 refine⟨?_,?_,?_,?_,?_,?_,?_⟩
 ·intro t d h
  obtain⟨a,j,D,_,ha,f1,f2,f3,f4,f5,f6⟩:=one t d h
  have q:=(z0o_ hN f2 f3).1
  rw[ha]
  show (qp_ L a.name).map z6m_=_
  unfold qp_
  rw[f6,q]
  simp only
  rw[f4]
  rfl
 ·intro t d h
  obtain⟨a,j,D,_,ha,f1,f2,f3,f4,f5,f6⟩:=one t d h
  have q:=(z0o_ hN f2 f3).2
  rw[ha]
  show (qp_ L a.oid).map z6m_=_
  unfold qp_
  rw[f5,q]
  simp only
  rw[f4]
  rfl
 ·intro t u v h
  show zf_ L t v=zf_ L u v
  cases ht:(zo_ L).attr t with
  |some d=>
   unfold zf_
   rw[same t u d ht (h ▸ ht)]
  |none=>
   have hu:(zo_ L).attr u=none:=h ▸ ht
   have no:∀ x,(zo_ L).attr x=none→zf_ L x v=(52,[]):=by
    intro x hx
    have hx':qp_ L x=none:=Option.map_eq_none_iff.1 hx
    unfold qp_ at hx'
    unfold zf_
    cases hf:zg_ L false x with
    |none=>rfl
    |some i=>
     rw[hf] at hx'
     simp only at hx' ⊢
     rw[hx']
   rw[no t ht,no u hu]
 ·intro t v h
  change (zf_ L t v).1=0 at h
  show ((qp_ L t).map z6m_).isSome=true
  unfold zf_ at h
  unfold qp_
  cases hf:zg_ L false t with
  |none=>rw[hf] at h;cases h
  |some i=>
   rw[hf] at h
   simp only at h ⊢
   cases hc:q6_ L i with
   |none=>rw[hc] at h;cases h
   |some a=>rfl
 ·intro t u d h1 h2
  obtain⟨a,j,D,_,ha,f1,f2,f3,f4,f5,f6⟩:=one t d h1
  have hs:=same t u d h1 h2
  show k8_ L t u=true
  unfold k8_
  rw[← hs,f1]
  simp only
  rw[List.contains_iff_mem]
  exact(z1a_ (y4_ f1) j).2 (.refl _)
 ·intro t d v h hq hok
  obtain⟨a,j,D,_,ha,f1,f2,f3,f4,f5,f6⟩:=one t d h
  change (zf_ L t v).1=0 at hok
  show (zf_ L t v).2=v
  unfold zf_ at hok ⊢
  rw[f1] at hok ⊢
  simp only at hok ⊢
  rw[f4] at hok ⊢
  simp only at hok ⊢
  have hq':a.eqr=[]:=by rw[ha] at hq;exact hq
  split
  ·next hv=>rw[if_pos (by rw[hq'];rfl)]
  ·next hv=>rw[if_neg hv] at hok;cases hok
 ·intro t d v h hq hok
  obtain⟨a,j,D,_,ha,f1,f2,f3,f4,f5,f6⟩:=one t d h
  change (zf_ L t v).1=0 at hok
  show zf_ L t v=kv_ d.eqr v
  unfold zf_ at hok ⊢
  rw[f1] at hok ⊢
  simp only at hok ⊢
  rw[f4] at hok ⊢
  simp only at hok ⊢
  have hq':a.eqr≠[]:=by rw[ha] at hq;exact hq
  split
  ·next hv=>
   rw[if_neg (by simpa using hq'),ha]
   rfl
  ·next hv=>rw[if_neg hv] at hok;cases hok
end Go.Proofs.YtbekpphodbekiaaGreatDoor
