import Derived.Test.YtakfpngfpknedaaGreatDoorE04
set_option linter.all false
set_option maxHeartbeats 8000000
set_option maxRecDepth 100000
namespace Go.Proofs.YtakfpngfpknedaaGreatDoor
open Go.RowKit
theorem z9o_ (b:Nat) (s r:LU) (w:World) (h:RdAt w b s r):
  Calls Tryz.prog 243 #[.pointer (some ⟨b,0,none⟩)] w fun e w'=>e= .returned (.bool r.isEmpty)∧∃ n,w'=w.drewN n:=by
 obtain⟨i,h1,rfl,h3⟩:=h
 refine(z4u_ b s i w h3).mono ?_
 rintro e w' ⟨rfl,h⟩
 refine⟨xd_ ?_,h⟩
 rw[Bool.eq_iff_iff]
 simp
 omega
theorem z4k_ (A:Option Addr) (n c k:Nat) (hk:k≤c) (w:World):(Instr.slice 103 (.slice A n c) none (some (.int .i64 k)) none).run Tryz.prog w= .ok (.slice A k c) w:=by
 have h1:(Instr.sliceBounds true n c none (some (.int .i64 k)) none).run Tryz.prog w= .ok (0,k,c) w:=by
  simp [Instr.sliceBounds,run_sliceBound,hk]
 have h2:(sizeOf 5).run Tryz.prog w= .ok 1 w:=by kernel_rfl
 unfold Instr.slice
 simp only[Sem.run_bind,run_underlying Tryz.underlying103,Result.andThen_ok,h1,h2,Sem.run_pure]
 have ha:∀ x:Addr,x.add 0=x:=fun x=>by simp [Addr.add]
 cases A with
 |none=>simp
 |some x=>simp;intro _;exact ha x
theorem BufO.stringTakeN {B:Nat} {w:World} {v:Value} {l:LU} (h:BufO B w v l) {k:Nat} (hk:k≤l.length):∃ A c,v= .slice A l.length c∧l.length≤c∧∀ q,(convert 103 9 (.slice A k c)).run Tryz.prog (w.drewN q)= .ok (.string ⟨(l.take k).toArray⟩) (w.drewN q):=by
 obtain⟨A,c,rfl,hc,_⟩:=h.stringTake hk
 refine⟨A,c,rfl,hc,fun q=>?_⟩
 obtain⟨A',c',hv,_,hr⟩:=(h.drewN q).stringTake hk
 cases hv
 exact hr
theorem z3y_ {ops:Array Oper} {rest:List Oper} {o:Oper} {a:Act} {Q:Exit→Act→World→Prop} (hgd:o.guard=none) (s x:Operand) (ho:o.op= .call {callee:= .builtin .append,args:=#[s,x],argTypes:=#[103,103]})
  {v:Value} {l:LU} {B N:Nat} {w0:World} {c:UInt8} (hs:a.eval s=v) (hb:BufO B w0 v l)
  (hx:a.eval x= .slice (some ⟨N,0,none⟩) 1 1) (hN:N=w0.heap.size) (hlen:l.length<140737488355328)
  (h:∀ v' w',BufO B w' v' (l++[c])→w0.grownBy w' v.ownBlock→wpList Tryz.prog ops Q rest (a.put o.dst v') w'):wpList Tryz.prog ops Q (o::rest) a (w0.alloc (.cells #[.int .u8 c.toNat] 5)):=by
 subst hN
 exact z6j_ hgd s x ho hs hb hx hlen h
def z55_:Nat→LU→LU→Nat→Option (LU × LU)
 |_,[],acc,long=>some (acc.take long,[])
 |0,_::_,_,_=>none
 |n+1,c::t,acc,long=>
  if (c.toNat:Int)=44∨(c.toNat:Int)=43 then some (acc.take long,c::t)
  else if (c.toNat:Int)=92 then match zg7_ t with
   |none=>none
   |some (x,t')=>z55_ n t' (acc++[x]) (acc.length+1)
  else if (c.toNat:Int)=0∨0≤Lib.indexByte z0w_ c then none
  else z55_ n t (acc++[c]) (if (c.toNat:Int)=32 then long else acc.length+1)
def vr_ (r:LU):Option (LU × LU):=if hd r 35 then z9d_ r.tail else z55_ r.length r [] 0
theorem z54_ {t t':LU} {x:UInt8} (h:zg7_ t=some (x,t')):t'.length<t.length:=by
 cases t with
 |nil=>cases h
 |cons c t=>
  rw[zg7_] at h
  split at h
  ·cases h;simp
  ·cases t with
   |nil=>cases h
   |cons d t=>
    rw[zjj_] at h
    split at h
    ·cases h
    ·cases h;simp;omega
theorem z1r_:∀ (n m:Nat) (r acc:LU) (long:Nat),r.length≤n→r.length≤m→z55_ n r acc long=z55_ m r acc long
 |_,_,[],_,_,_,_=>by simp [z55_]
 |0,_,_::_,_,_,h,_=>absurd h (by simp)
 |_,0,_::_,_,_,_,h=>absurd h (by simp)
 |n+1,m+1,c::t,acc,long,h1,h2=>by
  simp only[List.length_cons] at h1 h2
  simp only[z55_]
  split
  ·rfl
  ·split
   ·cases he:zg7_ t with
    |none=>rfl
    |some y=>
     obtain⟨x,t'⟩:=y
     have:=z54_ he
     exact z1r_ n m t' _ _ (by omega) (by omega)
   ·split
    ·rfl
    ·exact z1r_ n m t _ _ (by omega) (by omega)
theorem RdAt.cellsX {w:World} {b:Nat} {s t:LU} {c:UInt8} (h:RdAt w b s (c::t)):∃ i,∃ hlt:i<s.length,s[i]=c∧s.drop (i+1)=t∧Rd w b s i:=by
 obtain⟨i,h1,h2,h3⟩:=h
 have ⟨hlt,hdt⟩:=x3_ h2
 refine⟨i,hlt,?_,hdt,h3⟩
 rw[List.drop_eq_getElem_cons hlt] at h2
 exact(List.cons.inj h2).1
theorem zkr_ (b:Nat) (s r:LU) (w:World) (h:RdAt w b s r) (hs:s.length≤65536):
  Calls Tryz.prog 292 #[.pointer (some ⟨b,0,none⟩)] w (zbw_ w b s ((vr_ r).map fun x=>(.string ⟨x.1.toArray⟩,x.2))):=by
 have hI:=zar_ b s r 35 w h
 have hbw:=h.lt
 have HR:=hiD h
 clear h
 cases h35:hd r 35
 ·have hv:vr_ r=z55_ r.length r [] 0:=by unfold vr_;rw[h35];rfl
  rw[hv]
  rw[h35] at hI
  clear hv h35
  generalize hV:z55_ r.length r [] 0=V
  have HV:=hiD hV
  clear hV
  go_enter Tryz.func292,Tryz.ntmps292
  go_wp2_with (go_at_call 242;refine hI.mono ?_;rintro e w1 ⟨rfl,n1,rfl⟩)
  go_loopg [3,4] r.length (fun gk v lg wr=>∃ (r' acc:LU) (long:Nat),r'.length≤gk∧lg= .int .i64 long∧long≤acc.length∧acc.length+r'.length≤s.length∧RdAt wr b s r'∧BufO w.heap.size wr v acc∧Aside (z55_ r'.length r' acc long=V)∧w.grownBy wr (some b))
  case atStart=>
   refine⟨r,[],0,nR _,rfl,nR _,?_,HR.out,BufO.nil w,HV.out,z3_ _ _ _⟩
   obtain⟨i,hi,hd',_⟩:=HR.out
   rw[← hd'];simp
  case round=>
   obtain⟨r',acc,long,hlen,rfl,hlong,hacc,hRr,hbuf,AV,hg⟩:=hrel
   have hEn:=fun w' (hR:RdAt w' b s r')=>z9o_ b s r' w' hR
   have hIs:=fun c w' (hR:RdAt w' b s r')=>zar_ b s r' c w' hR
   cases r' with
   |nil=>
    obtain⟨A,cp,rfl,hcp,hst⟩:=hbuf.stringTakeN hlong
    have hfin:some (acc.take long,[])=V:=by have:=AV.out;simpa [z55_] using this
    have Hf:=hiD hfin
    have HRr:=hiD hRr
    have HEn:=hiD hEn
    have hsl:=z4k_ A acc.length cp long (by omega)
    clear hfin AV hRr hEn
    go_wp2_with (go_at_call 243;refine(HEn.out _ (by exact HRr.out)).mono ?_;rintro e w1 ⟨rfl,n2,rfl⟩)
    go_ret
    rw[← Hf.out]
    exact⟨gT hg (z3_ _ _ _),rfl,HRr.out⟩
   |cons c t=>
    simp only[List.length_cons] at hlen hacc
    obtain⟨i,hlt,hsc,hdt,hRd⟩:=hRr.cellsX
    have hAV:z55_ (t.length+1) (c::t) acc long=V:=AV.out
    rw[z55_] at hAV
    have HAV:=hiD hAV
    have HRr:=hiD hRr
    have HEn:=hiD hEn
    have HIs:=hiD hIs
    have HRd:=hiD hRd
    clear AV hAV hRr hEn hIs
    have h44d:hd (c::t) 44=decide ((c.toNat:Int)=44):=by
     show ((c.toNat:Int)==44)=_
     rw[Bool.eq_iff_iff];simp
    have h43d:hd (c::t) 43=decide ((c.toNat:Int)=43):=by
     show ((c.toNat:Int)==43)=_
     rw[Bool.eq_iff_iff];simp
    by_cases h44:(c.toNat:Int)=44
    ·obtain⟨A,cp,rfl,hcp,hst⟩:=hbuf.stringTakeN hlong
     have hfin:some (acc.take long,c::t)=V:=by rw[← HAV.out,if_pos (.inl h44)]
     have Hf:=hiD hfin
     rw[decide_eq_true h44] at h44d
     have H44:=hiD h44d
     have hsl:=z4k_ A acc.length cp long (by omega)
     clear hfin h44d h43d h44 hRd hdt hsc
     go_wp2_with (first|(go_at_call 243;refine(HEn.out _ (by exact HRr.out)).mono ?_;rintro e w1 ⟨rfl,n2,rfl⟩)|(go_at_call 242;refine(HIs.out _ _ (by exact HRr.out)).mono ?_;rintro e w1 ⟨rfl,n2,rfl⟩;rw[H44.out]))
     go_ret
     rw[← Hf.out]
     exact⟨gT hg (z3_ _ _ _),rfl,HRr.out⟩
    ·rw[decide_eq_false h44] at h44d
     have H44:=hiD h44d
     clear h44d
     by_cases h43:(c.toNat:Int)=43
     ·obtain⟨A,cp,rfl,hcp,hst⟩:=hbuf.stringTakeN hlong
      have hfin:some (acc.take long,c::t)=V:=by rw[← HAV.out,if_pos (.inr h43)]
      have Hf:=hiD hfin
      rw[decide_eq_true h43] at h43d
      have H43:=hiD h43d
      have hsl:=z4k_ A acc.length cp long (by omega)
      clear hfin h43d h44 h43 hRd hdt hsc
      go_wp2_with (first|(go_at_call 243;refine(HEn.out _ (by exact HRr.out)).mono ?_;rintro e w1 ⟨rfl,n2,rfl⟩)|(go_at_call 242;refine(HIs.out _ _ (by exact HRr.out)).mono ?_;rintro e w1 ⟨rfl,n2,rfl⟩;first|rw[H44.out]|rw[H43.out]))
      go_ret
      rw[← Hf.out]
      exact⟨gT hg (z3_ _ _ _),rfl,HRr.out⟩
     ·rw[decide_eq_false h43] at h43d
      have H43:=hiD h43d
      have hAV2:=HAV.out
      rw[if_neg (fun h=>h.elim h44 h43)] at hAV2
      have HAV2:=hiD hAV2
      subst hsc
      have c0:=hRd.c0
      have c1:=hRd.c1
      have f1:=hRd.f1
      have hget:=qb_
      have hi0:(0:Int)≤(i:Int):=by omega
      have hi1:(i:Int)<(s.length:Int):=by omega
      have HDT:=hiD hdt
      clear h43d hAV2 h44 h43 hRd hdt HAV
      by_cases h92:(s[i].toNat:Int)=92
      ·have h92':((s[i].toNat:Int)==92)=true:=by simp [h92]
       have hE:=fun w' (hR:RdAt w' b s (s[i]::t))=>zhk_ b s t s[i] w' hR hs
       have hAV3:=HAV2.out
       rw[if_pos h92] at hAV3
       rcases hesc:zg7_ t with _|⟨x,t'⟩
       ·rw[hesc] at hE hAV3
        have HE:=hiD hE
        have Hf:=hiD hAV3
        clear hE hAV3 HAV2 h92
        go_wp2_with (first|(go_at_call 243;refine(HEn.out _ (by exact HRr.out)).mono ?_;rintro e w1 ⟨rfl,n2,rfl⟩)|(go_at_call 242;refine(HIs.out _ _ (by exact HRr.out)).mono ?_;rintro e w1 ⟨rfl,n2,rfl⟩;first|rw[H44.out]|rw[H43.out]))
        go_quiet (fail)
        go_wp2_with (go_at_call 304;refine(HE.out _ (by exact HRr.out)).mono ?_;rintro e w3 ⟨hg3,rfl⟩)
        refine⟨rfl,?_⟩
        rw[← Hf.out]
        exact⟨gT hg (gT (z3_ _ _ _) hg3),rfl⟩
       ·have hel:=z54_ hesc
        rw[hesc] at hE hAV3
        have hAV4:z55_ t'.length t' (acc++[x]) (acc.length+1)=V:=by
         rw[← hAV3]
         exact z1r_ _ _ _ _ _ (nR _) (by omega)
        have HE:=hiD hE
        have Hf:=hiD hAV4
        clear hE hAV3 hAV4 HAV2 h92 hesc
        go_wp2_with (first|(go_at_call 243;refine(HEn.out _ (by exact HRr.out)).mono ?_;rintro e w1 ⟨rfl,n2,rfl⟩)|(go_at_call 242;refine(HIs.out _ _ (by exact HRr.out)).mono ?_;rintro e w1 ⟨rfl,n2,rfl⟩;first|rw[H44.out]|rw[H43.out]))
        go_quiet (fail)
        go_wp2_with (first|(go_at_call 304;refine(HE.out _ (by exact HRr.out)).mono ?_;rintro e w3 ⟨hg3,rfl,hR3⟩;have hb3:=(hbuf.drewN _).keep hg3 (fun k hk=>by cases hk;exact hbw))|(at_builtin;refine z6j_ rfl _ _ rfl rfl hb3 rfl (by omega) ?_;intro v' w4 hb4 hg4;obtain⟨A4,cp4,rfl,hcp4⟩:=z4b_ hb4.1))
        go_roundg t'.length
        case measure=>omega
        case rel=>
         obtain⟨j,hj1,hj2,hj3⟩:=hR3
         exact⟨t',acc++[x],acc.length+1,nR _,by simp,by simp,by simp;omega,⟨j,hj1,hj2,hb3.rd hg4 hbw hj3⟩,by simpa using hb4,Hf.out,hb3.grown (gT hg (gT (z3_ _ _ _) hg3)) hg4⟩
      ·have h92':((s[i].toNat:Int)==92)=false:=by simp [h92]
       have hAV3:=HAV2.out
       rw[if_neg h92] at hAV3
       have hIB:=fun w=>zq_ z0w_ s[i] w
       have HIB:=hiD hIB
       clear h92 HAV2 hIB
       by_cases hz:(s[i].toNat:Int)=0
       ·have hz':((s[i].toNat:Int)==0)=true:=beq_iff_eq.2 hz
        rw[if_pos (.inl hz)] at hAV3
        have Hf:=hiD hAV3
        clear hAV3 hz
        go_wp2_with (first|(go_at_call 243;refine(HEn.out _ (by exact HRr.out)).mono ?_;rintro e w1 ⟨rfl,n2,rfl⟩)|(go_at_call 242;refine(HIs.out _ _ (by exact HRr.out)).mono ?_;rintro e w1 ⟨rfl,n2,rfl⟩;first|rw[H44.out]|rw[H43.out]))
        go_quiet (fail)
        go_wp2_with fail
        refine⟨rfl,?_⟩
        rw[← Hf.out]
        exact⟨gT hg (z3_ _ _ _),rfl⟩
       ·have hz':((s[i].toNat:Int)==0)=false:=beq_eq_false_iff_ne.2 hz
        by_cases hsp:0≤Lib.indexByte z0w_ s[i]
        ·rw[if_pos (.inr hsp)] at hAV3
         have Hf:=hiD hAV3
         clear hAV3 hz
         go_wp2_with (first|(go_at_call 243;refine(HEn.out _ (by exact HRr.out)).mono ?_;rintro e w1 ⟨rfl,n2,rfl⟩)|(go_at_call 242;refine(HIs.out _ _ (by exact HRr.out)).mono ?_;rintro e w1 ⟨rfl,n2,rfl⟩;first|rw[H44.out]|rw[H43.out]))
         go_quiet (fail)
         go_wp2_with (go_at_call 175;refine(HIB.out _).mono ?_;rintro e w3 ⟨rfl,rfl⟩)
         refine⟨rfl,?_⟩
         rw[← Hf.out]
         exact⟨gT hg (z3_ _ _ _),rfl⟩
        ·rw[if_neg (fun h=>h.elim hz hsp)] at hAV3
         have hsp':Lib.indexByte z0w_ s[i]<0:=by omega
         clear hz hsp
         by_cases h32:(s[i].toNat:Int)=32
         ·have h32':((s[i].toNat:Int) !=32)=false:=bne_eq_false_iff_eq.2 h32
          rw[if_pos h32] at hAV3
          have Hf:=hiD hAV3
          clear hAV3 h32
          go_wp2_with (first|(go_at_call 243;refine(HEn.out _ (by exact HRr.out)).mono ?_;rintro e w1 ⟨rfl,n2,rfl⟩)|(go_at_call 242;refine(HIs.out _ _ (by exact HRr.out)).mono ?_;rintro e w1 ⟨rfl,n2,rfl⟩;first|rw[H44.out]|rw[H43.out]))
          go_quiet (fail)
          go_wp2_with (first|(go_at_call 175;refine(HIB.out _).mono ?_;rintro e w3 ⟨rfl,rfl⟩)|(at_builtin;refine z3y_ rfl _ _ rfl rfl (hbuf.keep (gT (z3_ _ _ _) (zf_ _)) (fun k hk=>by cases hk;exact hbw)) rfl (by simp [World.setCell]) (by omega) ?_;intro v' w4 hb4 hg4;obtain⟨A4,cp4,rfl,hcp4⟩:=z4b_ hb4.1))
          go_roundg t.length
          case measure=>omega
          case rel=>
           refine⟨t,acc++[s[i]],long,nR _,by simp,by simp;try omega,by simp;omega,⟨i+1,by omega,HDT.out,?_⟩,by simpa using hb4,Hf.out,?_⟩
           ·exact(hbuf.keep (gT (z3_ _ _ _) (zf_ _)) (fun k hk=>by cases hk;exact hbw)).rd hg4 hbw ((HRd.out.drewN _).set (i+1))
           ·exact(hbuf.keep (gT (z3_ _ _ _) (zf_ _)) (fun k hk=>by cases hk;exact hbw)).grown (gT hg (gT (z3_ _ _ _) (zf_ _))) hg4
         ·have h32':((s[i].toNat:Int) !=32)=true:=bne_iff_ne.2 h32
          rw[if_neg h32] at hAV3
          have Hf:=hiD hAV3
          clear hAV3 h32
          go_wp2_with (first|(go_at_call 243;refine(HEn.out _ (by exact HRr.out)).mono ?_;rintro e w1 ⟨rfl,n2,rfl⟩)|(go_at_call 242;refine(HIs.out _ _ (by exact HRr.out)).mono ?_;rintro e w1 ⟨rfl,n2,rfl⟩;first|rw[H44.out]|rw[H43.out]))
          go_quiet (fail)
          go_wp2_with (first|(go_at_call 175;refine(HIB.out _).mono ?_;rintro e w3 ⟨rfl,rfl⟩)|(at_builtin;refine z3y_ rfl _ _ rfl rfl (hbuf.keep (gT (z3_ _ _ _) (zf_ _)) (fun k hk=>by cases hk;exact hbw)) rfl (by simp [World.setCell]) (by omega) ?_;intro v' w4 hb4 hg4;obtain⟨A4,cp4,rfl,hcp4⟩:=z4b_ hb4.1))
          go_roundg t.length
          case measure=>omega
          case rel=>
           refine⟨t,acc++[s[i]],acc.length+1,nR _,by simp,by simp;try omega,by simp;omega,⟨i+1,by omega,HDT.out,?_⟩,by simpa using hb4,Hf.out,?_⟩
           ·exact(hbuf.keep (gT (z3_ _ _ _) (zf_ _)) (fun k hk=>by cases hk;exact hbw)).rd hg4 hbw ((HRd.out.drewN _).set (i+1))
           ·exact(hbuf.keep (gT (z3_ _ _ _) (zf_ _)) (fun k hk=>by cases hk;exact hbw)).grown (gT hg (gT (z3_ _ _ _) (zf_ _))) hg4
 ·have hv:vr_ r=z9d_ r.tail:=by unfold vr_;rw[h35];rfl
  rw[hv]
  rw[h35] at hI
  obtain⟨c,t,rfl⟩:∃ c t,r=c::t:=by
   cases r with
   |nil=>cases h35
   |cons c t=>exact⟨c,t,rfl⟩
  have hH:=fun w' (hR:RdAt w' b s (c::t))=>hex_c b s t c w' hR hs
  simp only[List.tail_cons]
  rcases hhx:z9d_ t with _|y
  ·rw[hhx] at hH
   have HH:=hiD hH
   clear hH hv h35 hhx
   go_enter Tryz.func292,Tryz.ntmps292
   go_wp2_with (first|(go_at_call 242;refine hI.mono ?_;rintro e w1 ⟨rfl,n1,rfl⟩)|(go_at_call 303;refine(HH.out _ (by exact HR.out)).mono ?_;rintro e w3 ⟨hg3,rfl⟩))
   exact⟨rfl,gT (z3_ _ _ _) hg3,rfl⟩
  ·rw[hhx] at hH
   have HH:=hiD hH
   clear hH hv h35 hhx
   go_enter Tryz.func292,Tryz.ntmps292
   go_wp2_with (first|(go_at_call 242;refine hI.mono ?_;rintro e w1 ⟨rfl,n1,rfl⟩)|(go_at_call 303;refine(HH.out _ (by exact HR.out)).mono ?_;rintro e w3 ⟨hg3,rfl,hR3⟩))
   go_ret
   exact⟨gT (z3_ _ _ _) hg3,rfl,hR3⟩
open Go.RowKit
def Off (b:Nat):Prop:=b≠4∧b≠5∧b≠0
theorem Env.grown {w W:World} {b:Nat} (h:Env w) (hb:Off b) (hg:w.grownBy W (some b)):Env W:=by
 obtain⟨⟨h1,h2⟩,m,hm⟩:=h
 obtain⟨b1,b2,b3⟩:=hb
 refine⟨⟨fun c hc=>hg.cell (h1 c hc) (by simpa using b1.symm),fun i hi=>⟨hg.cell (h2 i hi).1 (by simpa using b2.symm),hg.cell (h2 i hi).2 (by simpa using b2.symm)⟩⟩,m,hg.cell hm (by simpa using b3.symm)⟩
def Bk (w:World) (g:Nat) (t:TypeId) (cs:Array Value):Prop:=w.heap[g]?=some (.cells cs t (0,0))
theorem Bk.lt {w:World} {g:Nat} {t:TypeId} {cs:Array Value} (h:Bk w g t cs):g<w.heap.size:=(Array.getElem?_eq_some_iff.1 h).1
theorem Bk.cell {w:World} {g:Nat} {t:TypeId} {cs:Array Value} (h:Bk w g t cs) (i:Nat):w.cell? ⟨g,i,none⟩=cs[i]?:=by unfold Bk at h;simp [World.cell?,h]
theorem Bk.frozen {w:World} {g:Nat} {t:TypeId} {cs:Array Value} (h:Bk w g t cs) (i:Nat):w.frozen? ⟨g,i,none⟩=false:=by unfold Bk at h;simp [World.frozen?,h]
theorem Bk.new (w:World) (t:TypeId) (cs:Array Value):Bk (w.alloc (.cells cs t)) w.heap.size t cs:=heap_alloc_new w _
theorem Bk.grown {w w':World} {g:Nat} {t:TypeId} {cs:Array Value} {r:Option Nat} (h:Bk w g t cs) (hg:w.grownBy w' r) (hne:some g≠r):Bk w' g t cs:=(hg.block g h.lt hne).trans h
theorem Bk.below {w w':World} {g:Nat} {t:TypeId} {cs:Array Value} (h:Bk w g t cs) (hb:Bel w w'):Bk w' g t cs:=(hb.block g h.lt).trans h
theorem Bk.alloc {w:World} {g:Nat} {t:TypeId} {cs:Array Value} (h:Bk w g t cs) (o:Obj):Bk (w.alloc o) g t cs:=h.grown (World.grownBy_alloc w o none) (by simp)
theorem Bk.drewN {w:World} {g:Nat} {t:TypeId} {cs:Array Value} (h:Bk w g t cs) (n:Nat):Bk (w.drewN n) g t cs:=h
theorem Bk.set {w:World} {g:Nat} {t:TypeId} {cs:Array Value} (h:Bk w g t cs) (i:Nat) (u:Value):Bk (w.setCell ⟨g,i,none⟩ u) g t (cs.setIfInBounds i u):=by
 unfold Bk at h ⊢
 simp [World.setCell,Array.getElem?_modify,h]
theorem Bk.far {w:World} {g g' i:Nat} {t:TypeId} {cs:Array Value} (h:Bk w g t cs) (hne:g≠g') (u:Value):Bk (w.setCell ⟨g',i,none⟩ u) g t cs:=(Below.heap_setCell w _ u g hne).trans h
theorem RdAt.grown {w w':World} {b:Nat} {s r:LU} {k:Option Nat} (h:RdAt w b s r) (hg:w.grownBy w' k) (hne:some b≠k):RdAt w' b s r:=by
 obtain⟨i,h1,h2,h3⟩:=h
 exact⟨i,h1,h2,(hg.block b h3.lt hne).trans h3⟩
theorem RdAt.next {w:World} {b:Nat} {s t:LU} {c:UInt8} (h:RdAt w b s (c::t)):∃ i:Nat,i<s.length∧w.cell? ⟨b,1,none⟩=some (.int .i64 i)∧w.frozen? ⟨b,1,none⟩=false∧RdAt (w.setCell ⟨b,1,none⟩ (.int .i64 ((i:Int)+1))) b s t:=by
 obtain⟨i,h1,h2,h3⟩:=h
 have ⟨hlt,hdt⟩:=x3_ h2
 exact⟨i,hlt,h3.c1,h3.f1,i+1,by omega,hdt,h3.set (i+1)⟩
theorem vs_ {w w1 w2:World} {b g:Nat} (h:w.grownBy w1 (some b)) (hg:w1.grownBy w2 (some g)) (hge:w.heap.size≤g):w.grownBy w2 (some b):=
 ⟨hg.os.trans h.os,hg.tape.trans h.tape,hg.output.trans h.output,nT h.size hg.size,fun k hk hne=>by
  rw[hg.block k (Nat.lt_of_lt_of_le hk h.size) (by intro e;cases e;omega)]
  exact h.block k hk hne⟩
def blk (r:LU):LU:=r.dropWhile (·==32)
def ya_ (r:LU):Option ((LU × LU) × LU):=
 match zc8_ (blk r) with
 |none=>none
 |some (t,r2)=>if hd (blk r2) 61 then (match vr_ (blk (blk r2).tail) with
   |none=>none
   |some (v,r5)=>some ((t,v),blk r5)) else none
def zi9_ (x:LU × LU):Value:= .agg #[.string ⟨x.1.toArray⟩,.string ⟨x.2.toArray⟩]
theorem zio_ (b:Nat) (s r:LU) (w:World) (hw:Env w) (hO:Off b) (h:RdAt w b s r) (hs:s.length≤65536):
  Calls Tryz.prog 271 #[.pointer (some ⟨b,0,none⟩)] w (zbw_ w b s ((ya_ r).map fun x=>(zi9_ x.1,x.2))):=by
 have hbw:=h.lt
 have HR:=hiD h
 clear h
 have hz:(zeroValue 189).run Tryz.prog w= .ok (.agg #[.string ⟨#[]⟩,.string ⟨#[]⟩]) w:=by kernel_rfl
 go_enter Tryz.func271,Tryz.ntmps271
 go_wp2_with fail
 have e0:Env ((w.alloc (.cells #[.string ⟨#[]⟩,.string ⟨#[]⟩] 189)).alloc (.cells #[.string ⟨#[]⟩,.string ⟨#[]⟩] 189)):=(hw.keep ((bR _ _).alloc (nR _) _)).keep ((bR _ _).alloc (nR _) _)
 have k0:Bk ((w.alloc (.cells #[.string ⟨#[]⟩,.string ⟨#[]⟩] 189)).alloc (.cells #[.string ⟨#[]⟩,.string ⟨#[]⟩] 189)) w.heap.size 189 #[.string ⟨#[]⟩,.string ⟨#[]⟩]:=(Bk.new w _ _).alloc _
 have k1:Bk ((w.alloc (.cells #[.string ⟨#[]⟩,.string ⟨#[]⟩] 189)).alloc (.cells #[.string ⟨#[]⟩,.string ⟨#[]⟩] 189)) (w.heap.size+1) 189 #[.string ⟨#[]⟩,.string ⟨#[]⟩]:=by
  have:=Bk.new (w.alloc (.cells #[.string ⟨#[]⟩,.string ⟨#[]⟩] 189)) 189 #[.string ⟨#[]⟩,.string ⟨#[]⟩]
  rwa [World.size_alloc] at this
 have g0:w.grownBy ((w.alloc (.cells #[.string ⟨#[]⟩,.string ⟨#[]⟩] 189)).alloc (.cells #[.string ⟨#[]⟩,.string ⟨#[]⟩] 189)) (some b):=gT (World.grownBy_alloc _ _ _) (World.grownBy_alloc _ _ _)
 have r0:RdAt ((w.alloc (.cells #[.string ⟨#[]⟩,.string ⟨#[]⟩] 189)).alloc (.cells #[.string ⟨#[]⟩,.string ⟨#[]⟩] 189)) b s r:=(HR.out.below ((bR _ _).alloc (nR _) _)).below ((bR _ _).alloc (nR _) _)
 generalize (w.alloc (.cells #[.string ⟨#[]⟩,.string ⟨#[]⟩] 189)).alloc (.cells #[.string ⟨#[]⟩,.string ⟨#[]⟩] 189)=W0 at *
 have hn0:some w.heap.size≠some b:=by simp;omega
 have hn1:some (w.heap.size+1)≠some b:=by simp;omega
 clear hz
 refine(z16_ b s r W0 r0 (by omega)).mono ?_
 rintro e W1 ⟨rfl,r1,h1⟩
 have e1:=e0.grown hO h1
 have g1:=gT g0 h1
 have K0:=hiD (k0.grown h1 hn0)
 have K1:=hiD (k1.grown h1 hn1)
 clear e0 g0 k0 k1 r0 h1 HR
 have hT:=typ_c b s (blk r) W1 e1 r1 hs (fun W hg=>e1.grown hO hg)
 rcases hty:zc8_ (blk r) with _|⟨t,r2⟩
 ·have hp:ya_ r=none:=by unfold ya_;rw[hty]
  rw[hty] at hT
  have Hp:=hiD hp
  clear hp hty
  go_wp2_with fail
  refine hT.mono ?_
  rintro e W2 ⟨h2,rfl⟩
  refine⟨rfl,?_⟩
  rw[Hp.out]
  exact⟨gT g1 h2,rfl⟩
 ·rw[hty] at hT
  have HTy:=hiD hty
  clear hty
  go_wp2_with fail
  refine hT.mono ?_
  rintro e W2 ⟨h2,rfl,r2'⟩
  have e2:=e1.grown hO h2
  have g2:=gT g1 h2
  have k0:=K0.out.grown h2 hn0
  have k1:=K1.out.grown h2 hn1
  have c10:=k1.cell 0
  have c11:=k1.cell 1
  have f10:=k1.frozen 0
  simp at c10 c11
  clear hT e1 g1 r1 K0 K1 h2
  have K0:=hiD k0
  have K1:=hiD k1
  clear k0 k1
  go_wp2_with fail
  have k0:=K0.out.far (g':=w.heap.size+1) (i:=0) (by omega) (.string ⟨t.toArray⟩)
  have k1:=K1.out.set 0 (.string ⟨t.toArray⟩)
  have g3:w.grownBy (W2.setCell ⟨w.heap.size+1,0,none⟩ (.string ⟨t.toArray⟩)) (some b):=vs_ g2 (zf_ _) (by omega)
  have hgs:W2.grownBy (W2.setCell ⟨w.heap.size+1,0,none⟩ (.string ⟨t.toArray⟩)) (some (w.heap.size+1)):=zf_ _
  have e3:Env (W2.setCell ⟨w.heap.size+1,0,none⟩ (.string ⟨t.toArray⟩)):=hw.grown hO g3
  have r3:=r2'.grown hgs (Ne.symm hn1)
  generalize W2.setCell ⟨w.heap.size+1,0,none⟩ (.string ⟨t.toArray⟩)=W3 at *
  refine(z16_ b s r2 W3 r3 (by omega)).mono ?_
  rintro e W4 ⟨rfl,r4,h4⟩
  have g4:=gT g3 h4
  have K0:=hiD (k0.grown h4 hn0)
  have K1:=hiD (k1.grown h4 hn1)
  clear c10 c11 f10 r2' r3 g2 g3 e2 e3 h4 k0 k1 hgs
  have hI:=zar_ b s (blk r2) 61 W4 r4
  cases h61:hd (blk r2) 61
  ·have hp:ya_ r=none:=by unfold ya_;rw[HTy.out];dsimp only;rw[h61];rfl
   rw[h61] at hI
   have Hp:=hiD hp
   clear hp h61
   go_wp2_with fail
   refine hI.mono ?_
   rintro e W5 ⟨rfl,n5,rfl⟩
   go_wp2_with fail
   refine⟨rfl,?_⟩
   rw[Hp.out]
   exact⟨gT g4 (z3_ _ _ _),rfl⟩
  ·rw[h61] at hI
   obtain⟨c,r3,hr3⟩:∃ c t,blk r2=c::t:=by
    cases hb:blk r2 with
    |nil=>rw[hb] at h61;cases h61
    |cons c t=>exact⟨c,t,rfl⟩
   have HR3:=hiD hr3
   have H61:=hiD h61
   have r4':RdAt W4 b s (c::r3):=by rw[← hr3];exact r4
   clear hr3 h61 r4
   go_wp2_with fail
   refine hI.mono ?_
   rintro e W5 ⟨rfl,n5,rfl⟩
   obtain⟨i,hi,c1,f1,r5⟩:=(r4'.drewN n5).next
   have c1':W4.cell? ⟨b,1,none⟩=some (.int .i64 i):=c1
   have f1':W4.frozen? ⟨b,1,none⟩=false:=f1
   clear c1 f1
   go_wp2_with fail
   have g5:w.grownBy ((W4.drewN n5).setCell ⟨b,1,none⟩ (.int .i64 ((i:Int)+1))) (some b):=gT g4 (gT (z3_ _ _ _) (zf_ _))
   have k0:=(K0.out.drewN n5).grown (zf_ (b:=b) (o:=1) (.int .i64 ((i:Int)+1))) hn0
   have k1:=(K1.out.drewN n5).grown (zf_ (b:=b) (o:=1) (.int .i64 ((i:Int)+1))) hn1
   have hEQ:(W4.setCell ⟨b,1,none⟩ (.int .i64 ((i:Int)+1))).drewN n5=(W4.drewN n5).setCell ⟨b,1,none⟩ (.int .i64 ((i:Int)+1)):=rfl
   try rw[hEQ]
   clear hEQ
   generalize (W4.drewN n5).setCell ⟨b,1,none⟩ (.int .i64 ((i:Int)+1))=W6 at *
   refine(z16_ b s r3 W6 r5 (by omega)).mono ?_
   rintro e W7 ⟨rfl,r7,h7⟩
   have g7:=gT g5 h7
   have K0:=hiD (k0.grown h7 hn0)
   have K1:=hiD (k1.grown h7 hn1)
   clear c1' f1' k0 k1 r5 g4 g5 h7 hI r4'
   have hV:=zkr_ b s (blk r3) W7 r7 hs
   rcases hva:vr_ (blk r3) with _|⟨v,r8⟩
   ·have hp:ya_ r=none:=by unfold ya_;rw[HTy.out];dsimp only;rw[H61.out,if_pos rfl,HR3.out];simp only[List.tail_cons];rw[hva]
    rw[hva] at hV
    have Hp:=hiD hp
    clear hp hva
    go_wp2_with fail
    refine hV.mono ?_
    rintro e W8 ⟨h8,rfl⟩
    refine⟨rfl,?_⟩
    rw[Hp.out]
    exact⟨gT g7 h8,rfl⟩
   ·have hp:ya_ r=some ((t,v),blk r8):=by unfold ya_;rw[HTy.out];dsimp only;rw[H61.out,if_pos rfl,HR3.out];simp only[List.tail_cons];rw[hva]
    rw[hva] at hV
    have Hp:=hiD hp
    clear hp hva
    go_wp2_with fail
    refine hV.mono ?_
    rintro e W8 ⟨h8,rfl,r8'⟩
    have g8:=gT g7 h8
    have k0:=K0.out.grown h8 hn0
    have k1:=K1.out.grown h8 hn1
    have c10:=k1.cell 0
    have c11:=k1.cell 1
    have f11:=k1.frozen 1
    simp at c10 c11
    have K0:=hiD k0
    have K1:=hiD k1
    clear hV g7 r7 h8 k0 k1
    go_wp2_with fail
    have k0:=K0.out.far (g':=w.heap.size+1) (i:=1) (by omega) (.string ⟨v.toArray⟩)
    have k1:=K1.out.set 1 (.string ⟨v.toArray⟩)
    have g9:w.grownBy (W8.setCell ⟨w.heap.size+1,1,none⟩ (.string ⟨v.toArray⟩)) (some b):=vs_ g8 (zf_ _) (by omega)
    have hgs:W8.grownBy (W8.setCell ⟨w.heap.size+1,1,none⟩ (.string ⟨v.toArray⟩)) (some (w.heap.size+1)):=zf_ _
    have r9:=r8'.grown hgs (Ne.symm hn1)
    generalize W8.setCell ⟨w.heap.size+1,1,none⟩ (.string ⟨v.toArray⟩)=W9 at *
    refine(z16_ b s r8 W9 r9 (by omega)).mono ?_
    rintro e W10 ⟨rfl,r10,h10⟩
    have g10:=gT g9 h10
    have k0:=k0.grown h10 hn0
    have k1:=k1.grown h10 hn1
    clear c10 c11 f11 hgs
    have c10:=k1.cell 0
    have c11:=k1.cell 1
    have c00:=k0.cell 0
    have c01:=k0.cell 1
    have f00:=k0.frozen 0
    have f01:=k0.frozen 1
    simp at c10 c11 c00 c01
    have K0:=hiD k0
    clear k0 k1 g8 g9 r8' r9 h10
    go_wp2_with fail
    have hs1:W10.grownBy (W10.setCell ⟨w.heap.size,0,none⟩ (.string ⟨t.toArray⟩)) (some w.heap.size):=zf_ _
    have hs2:(W10.setCell ⟨w.heap.size,0,none⟩ (.string ⟨t.toArray⟩)).grownBy ((W10.setCell ⟨w.heap.size,0,none⟩ (.string ⟨t.toArray⟩)).setCell ⟨w.heap.size,1,none⟩ (.string ⟨v.toArray⟩)) (some w.heap.size):=zf_ _
    have kf:=(K0.out.set 0 (.string ⟨t.toArray⟩)).set 1 (.string ⟨v.toArray⟩)
    have cf0:=kf.cell 0
    have cf1:=kf.cell 1
    simp at cf0 cf1
    refine bodyPost_ret (v:= .agg #[.string ⟨t.toArray⟩,.string ⟨v.toArray⟩]) (by simp [results,Tryz.results271,go_sem,cf0,cf1]) rfl ?_
    rw[Hp.out]
    exact⟨vs_ (vs_ g10 hs1 (nR _)) hs2 (nR _),rfl,(r10.grown hs1 (Ne.symm hn0)).grown hs2 (Ne.symm hn0)⟩
open Go.RowKit
def qt_ (x:LU × LU):List Value:=[.string ⟨x.1.toArray⟩,.string ⟨x.2.toArray⟩]
def Avas (B:Nat) (w:World) (v:Value) (l:List (LU × LU)):Prop:=w.ownsRow B 189 2 v l.length (l.flatMap qt_)∧B≤w.heap.size
theorem Avas.lt {B:Nat} {w:World} {v:Value} {l:List (LU × LU)} (h:Avas B w v l):∀ k,v.ownBlock=some k→B≤k∧k<w.heap.size:=fun k hk=>h.1.lt k hk
theorem Avas.keep {B:Nat} {w w':World} {v:Value} {l:List (LU × LU)} (h:Avas B w v l) {r:Option Nat} (hg:w.grownBy w' r) (hr:∀ k,r=some k→k<B):Avas B w' v l:=by
 refine⟨h.1.kept hg ?_,nT h.2 hg.size⟩
 rcases hv:v.ownBlock with _|g
 ·exact .inl rfl
 ·refine .inr ?_
  intro he
  have h1:=hr g he.symm
  have h2:=(h.lt g hv).1
  omega
theorem Avas.made1 {B:Nat} {w:World} (x:LU × LU) (hB:B≤w.heap.size):Avas B (w.alloc (.cells #[.string ⟨x.1.toArray⟩,.string ⟨x.2.toArray⟩] 189)) (.slice (some ⟨w.heap.size,0,none⟩) 1 1) [x]:=by
 refine⟨⟨by simp [qt_],.inr ⟨w.heap.size,1,#[.string ⟨x.1.toArray⟩,.string ⟨x.2.toArray⟩],rfl,hB,heap_alloc_new w _,nR _,by decide,rfl,by simp [qt_]⟩⟩,by simp;omega⟩
theorem zjg_:∃ i,Tryz.prog.info? 189=some i∧i.zero=some (.agg #[.string ⟨#[]⟩,.string ⟨#[]⟩])∧i.size=2∧i.bytes=32:=by
 obtain⟨i,h1,h2,h3,h4⟩:=info_parts (show (Tryz.prog.info? 189).map (fun i=>(i.zero,i.size,i.bytes))=some (some (.agg #[.string ⟨#[]⟩,.string ⟨#[]⟩]),2,32) by kernel_rfl)
 exact⟨i,h1,h2,h3,h4⟩
theorem zhz_ {ops:Array Oper} {rest:List Oper} {o:Oper} {a:Act} {Q:Exit→Act→World→Prop} (hgd:o.guard=none) (s x:Operand) (ho:o.op= .call {callee:= .builtin .append,args:=#[s,x],argTypes:=#[187,187]})
  {v:Value} {l:List (LU × LU)} {B N:Nat} {w0:World} {t u:LU} (hs:a.eval s=v) (hb:Avas B w0 v l)
  (hx:a.eval x= .slice (some ⟨N,0,none⟩) 1 1) (hN:N=w0.heap.size) (hlen:l.length<1000000)
  (h:∀ v' w',Avas B w' v' (l++[(t,u)])→w0.grownBy w' v.ownBlock→wpList Tryz.prog ops Q rest (a.put o.dst v') w'):wpList Tryz.prog ops Q (o::rest) a (w0.alloc (.cells #[.string ⟨t.toArray⟩,.string ⟨u.toArray⟩] 189)):=by
 subst hN
 obtain⟨i,h1,h2,h3,h4⟩:=zjg_
 have hb':=hb.keep (World.grownBy_alloc w0 (.cells #[.string ⟨t.toArray⟩,.string ⟨u.toArray⟩] 189) none) (fun k hk=>by cases hk)
 refine wpList_append_own _ hgd s x 187 ho B 189 i (.agg #[.string ⟨#[]⟩,.string ⟨#[]⟩]) 2 32 Tryz.underlying187 h1 h2 h3 h4 rfl (by decide) v _ _ hs hb'.1 ⟨w0.heap.size,0,none⟩ 1 1 (qt_ (t,u)) hx rfl ?_ ?_ (by unfold maxLen;omega) (by omega) hb'.2 ?_
 ·intro j y hj
  match j,hj with
  |0,hj=>simp [qt_] at hj;subst hj;simp [Addr.add]
  |1,hj=>simp [qt_] at hj;subst hj;simp [Addr.add]
  |(j+2),hj=>simp [qt_] at hj
 ·intro y hy;simp [qt_] at hy;rcases hy with rfl|rfl<;>rfl
 ·intro v' w' ho' hg _
  refine h v' w' ⟨?_,nT hb'.2 hg.size⟩ (gT (World.grownBy_alloc _ _ _) hg)
  simpa using ho'
theorem Avas.rd {w0 w w':World} {v:Value} {l:List (LU × LU)} {s r:LU} {b:Nat} (h:Avas w0.heap.size w v l) (hg:w.grownBy w' v.ownBlock) (hb:b<w0.heap.size) (hR:RdAt w b s r):RdAt w' b s r:=
 hR.grown hg (fun e=>by have:=(h.lt b e.symm).1;omega)
theorem Avas.grown {w0 w w':World} {v:Value} {l:List (LU × LU)} {r:Option Nat} (h:Avas w0.heap.size w v l) (hg0:w0.grownBy w r) (hg:w.grownBy w' v.ownBlock):w0.grownBy w' r:=
 ⟨hg.os.trans hg0.os,hg.tape.trans hg0.tape,hg.output.trans hg0.output,nT hg0.size hg.size,fun k hk hne=>by
  rw[hg.block k (Nat.lt_of_lt_of_le hk hg0.size)]
  ·exact hg0.block k hk hne
  ·intro e
   have:=(h.lt k e.symm).1
   omega⟩
def jq_:Nat→LU→List (LU × LU)→Option (List (LU × LU) × LU)
 |0,r,acc=>if hd r 43 then none else some (acc,r)
 |n+1,r,acc=>if hd r 43 then (match ya_ r.tail with
  |none=>none
  |some (x,r')=>jq_ n r' (acc++[x])) else some (acc,r)
def xc_ (r:LU):Option (List (LU × LU) × LU):=match ya_ r with
 |none=>none
 |some (x,r')=>jq_ r'.length r' [x]
theorem qv_ (p:UInt8→Bool) (l:LU):(l.dropWhile p).length≤l.length:=(List.dropWhile_sublist p).length_le
theorem zg3_ {r r' v:LU} (h:z9d_ r=some (v,r')):r'.length≤r.length:=by
 unfold z9d_ at h
 split at h
 ·cases h
 ·split at h
  ·cases h
  ·cases h;exact qv_ _ _
theorem z4e_:∀ (n:Nat) (r acc:LU) (long:Nat) (v r':LU),z55_ n r acc long=some (v,r')→r'.length≤r.length
 |_,[],_,_,v,r',h=>by simp [z55_] at h;simp [h.2]
 |0,_::_,_,_,v,r',h=>by simp [z55_] at h
 |n+1,c::t,acc,long,v,r',h=>by
  rw[z55_] at h
  split at h
  ·cases h;exact nR _
  ·split at h
   ·split at h
    ·cases h
    ·next x t' he=>
     have:=z54_ he
     have:=z4e_ n t' _ _ v r' h
     simp;omega
   ·split at h
    ·cases h
    ·have:=z4e_ n t _ _ v r' h
     simp;omega
theorem zbn_ {r r' v:LU} (h:vr_ r=some (v,r')):r'.length≤r.length:=by
 unfold vr_ at h
 split at h
 ·have:=zg3_ h
  simp at this;omega
 ·exact z4e_ _ _ _ _ _ _ h
theorem x5_ {r r':LU} {x:LU × LU} (h:ya_ r=some (x,r')):r'.length<r.length:=by
 unfold ya_ at h
 split at h
 ·cases h
 ·next t r2 ht=>
  split at h
  ·next h61=>
   split at h
   ·cases h
   ·next v r5 hv=>
    cases h
    have h1:=qv_ (·==32) r5
    have h2:=zbn_ hv
    have h3:=qv_ (·==32) (blk r2).tail
    have h4:(blk r2).tail.length<(blk r2).length:=by
     cases hb:blk r2 with
     |nil=>rw[hb] at h61;cases h61
     |cons c t=>simp
    have h5:=qv_ (·==32) r2
    have h6:r2.length≤(blk r).length:=by
     unfold zc8_ at ht
     split at ht
     ·cases ht;exact qv_ _ _
     ·cases ht
    have h7:=qv_ (·==32) r
    unfold blk at *
    omega
  ·cases h
theorem z3o_:∀ (n m:Nat) (r:LU) (acc:List (LU × LU)),r.length≤n→r.length≤m→jq_ n r acc=jq_ m r acc
 |0,m,r,acc,h,_=>by
  obtain rfl:r=[]:=List.eq_nil_of_length_eq_zero (by omega)
  cases m<;>rfl
 |n+1,0,r,acc,_,h=>by
  obtain rfl:r=[]:=List.eq_nil_of_length_eq_zero (by omega)
  rfl
 |n+1,m+1,r,acc,h1,h2=>by
  rw[jq_,jq_]
  split
  ·cases hp:ya_ r.tail with
   |none=>rfl
   |some y=>
    obtain⟨x,r'⟩:=y
    have h3:=x5_ hp
    have h4:r.tail.length≤r.length:=by simp
    exact z3o_ n m r' _ (by omega) (by omega)
  ·rfl
end Go.Proofs.YtakfpngfpknedaaGreatDoor
