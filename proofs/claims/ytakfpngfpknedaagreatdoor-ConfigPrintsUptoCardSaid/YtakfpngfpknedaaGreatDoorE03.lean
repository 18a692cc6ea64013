import Derived.Test.YtakfpngfpknedaaGreatDoorE02
import Derived.Lib.SplitLaws
import Derived.StillTailTactics
set_option linter.all false
set_option maxHeartbeats 8000000
set_option maxRecDepth 100000
namespace Go.Proofs.YtakfpngfpknedaaGreatDoor
open Go.RowKit
def qy_ (n:LU):Option (LU × Int × LL × NormFn):=(jt_ n 0 tab).or ((jt_ n 1 tab).or (jt_ n 2 tab))
def RowAt (w:World) (b:Nat) (x:LU × Int × LL × NormFn):Prop:=
 ∃ fA fN fC nF n1 n2,w.heap[b]?=some (.cells #[.string ⟨x.1.toArray⟩,.int .i64 x.2.1,.slice fA fN fC,.func nF n1 n2] 230 (0,0))∧Texts w (.slice fA fN fC) x.2.2.1∧normIs w (.func nF n1 n2) x.2.2.2
theorem RowAt.below {w w':World} {b:Nat} {x:LU × Int × LL × NormFn} (h:RowAt w b x) (hb:Bel w w'):RowAt w' b x:=by
 obtain⟨fA,fN,fC,nF,n1,n2,h1,h2,h3⟩:=h
 exact⟨fA,fN,fC,nF,n1,n2,(hb.block b (Array.getElem?_eq_some_iff.1 h1).1).trans h1,h2.below hb,h3.below hb⟩
theorem RowAt.lt {w:World} {b:Nat} {x:LU × Int × LL × NormFn} (h:RowAt w b x):b<w.heap.size:=by
 obtain⟨fA,fN,fC,nF,n1,n2,h1,h2,h3⟩:=h
 exact(Array.getElem?_eq_some_iff.1 h1).1
theorem Texts.isSlice {w:World} {v:Value} {xs:LL} (h:Texts w v xs):∃ A n c,v= .slice A n c:=by
 rcases h with ⟨_,rfl⟩|⟨b,c,rfl,_⟩
 ·exact⟨_,_,_,rfl⟩
 ·exact⟨_,_,_,rfl⟩
theorem normIs.isFunc {w:World} {v:Value} {n:NormFn} (h:normIs w v n):∃ F a b,v= .func F a b:=by
 cases n with
 |text fold=>obtain⟨a,rfl,_⟩:=h;exact⟨_,_,_,rfl⟩
 |_=>exact⟨_,_,_,h⟩
def zjp_ (w:World) (o:Option (LU × Int × LL × NormFn)) (e:Ending) (w':World):Prop:=
 Bel w w'∧match o with
  |none=>e= .returned (.pointer none)
  |some x=>∃ b,e= .returned (.pointer (some ⟨b,0,none⟩))∧w.heap.size≤b∧RowAt w' b x
theorem zdn_ (l:LU) (w:World) (hl:l.length≤140737488351232):
  Calls Tryz.prog 195 #[.string ⟨l.toArray⟩] w (zjp_ w (qy_ (z2_ l))):=by
 go_enter Tryz.func195,Tryz.ntmps195
 go_wp2_with (go_at_call 236;refine(zji_ w).mono ?_;rintro e w1 ⟨r,es,c,R,rfl,h1,h2,h3,h4⟩)
 have hr1:r<w1.heap.size:=(Array.getElem?_eq_some_iff.1 h1).1
 have H1:=hiD h1
 clear h1
 go_loopg [4] 3 (fun gk i wr=>∃ k:Nat,k≤3∧i= .int .i64 k∧Aside (k+gk=3)∧Bel w1 wr∧Aside (qy_ (z2_ l)=if k=0 then qy_ (z2_ l) else if k=1 then (jt_ (z2_ l) 1 tab).or (jt_ (z2_ l) 2 tab) else if k=2 then jt_ (z2_ l) 2 tab else none))
 case atStart=>exact⟨0,by omega,rfl,by show _=_;omega,bR _ _,by show _=_;simp⟩
 case round=>
  obtain⟨k,hk,rfl,AG,hB,AT⟩:=hrel
  by_cases hk3:k=3
  ·subst hk3
   have hnone:qy_ (z2_ l)=none:=by have:=AT.out;simpa using this
   have Hnone:=hiD hnone
   clear AG hnone
   go_wp2
   go_ret
   rw[Hnone.out]
   exact⟨tQ h4 hB,rfl⟩
  ·obtain⟨q,rfl⟩:∃ q,gk=q+1:=⟨gk - 1,by have:=AG.out;omega⟩
   have hlk:∀ W,Bel w1 W→(Instr.lookup 261 (.map (some r)) (.agg #[.string ⟨(z2_ l).toArray⟩,.int .i64 k]) true).run Tryz.prog W= .ok (match z01_ (z2_ l) k R with|some v=> .tuple #[v,.bool true]|none=> .tuple #[.agg #[.string ⟨#[]⟩,.int .i64 0,.slice none 0 0,.nilFunc],.bool false]) W:=
    fun W hW=>zas_ W r c es R ((hW.block r hr1).trans H1.out) h2 (z2_ l) k
   rcases zb8_ h3 (z2_ l) k with ⟨hT,hR⟩|⟨x,fo,nv,hT,hR,hf,hn⟩
   ·rw[hR] at hlk
    have AT':Aside (qy_ (z2_ l)=if k+1=0 then qy_ (z2_ l) else if k+1=1 then (jt_ (z2_ l) 1 tab).or (jt_ (z2_ l) 2 tab) else if k+1=2 then jt_ (z2_ l) 2 tab else none):=by
     have:=AT.out
     show _=_
     rcases(show k=0∨k=1∨k=2 by omega) with rfl|rfl|rfl
     ·have hT0:jt_ (z2_ l) 0 tab=none:=hT
      simp [qy_,hT0]
     ·have hT0:jt_ (z2_ l) 1 tab=none:=hT
      simp at this;simp [this,hT0]
     ·have hT0:jt_ (z2_ l) 2 tab=none:=hT
      simp at this;simp [this,hT0]
    have Hlk:=hiD hlk
    clear hlk hR hT AT h3 h2
    go_wp2_with (go_at_call 116;refine(xt_ _ _ hl).mono ?_;rintro e w2 ⟨rfl,hb2⟩;have hlk2:=Hlk.out w2 (tQ hB hb2))
    go_roundg q
    case measure=>omega
    case rel=>exact⟨k+1,by omega,by go_num,by have:=AG.out;show _=_;omega,(tQ hB hb2).alloc (nT hB.size hb2.size) _,AT'.out⟩
   ·rw[hR] at hlk
    have hsome:qy_ (z2_ l)=some x:=by
     have:=AT.out
     rcases(show k=0∨k=1∨k=2 by omega) with rfl|rfl|rfl
     ·have hT0:jt_ (z2_ l) 0 tab=some x:=hT
      simp [qy_,hT0]
     ·have hT0:jt_ (z2_ l) 1 tab=some x:=hT
      simp at this;simp [this,hT0]
     ·have hT0:jt_ (z2_ l) 2 tab=some x:=hT
      simp at this;simp [this,hT0]
    obtain⟨fA,fN,fC,rfl⟩:=hf.isSlice
    obtain⟨nF,n1,n2,rfl⟩:=hn.isFunc
    have Hsome:=hiD hsome
    have Hlk:=hiD hlk
    clear hlk hR hT AT h3 h2 hsome
    go_wp2_with (go_at_call 116;refine(xt_ _ _ hl).mono ?_;rintro e w2 ⟨rfl,hb2⟩;have hlk2:=Hlk.out w2 (tQ hB hb2))
    go_ret
    rw[Hsome.out]
    have hb12:Bel w1 w2:=tQ hB hb2
    have hba:=(bR w2.heap.size w2).alloc (nR _) (.cells #[.string ⟨x.1.toArray⟩,.int .i64 x.2.1,.slice fA fN fC,.func nF n1 n2] 230)
    refine⟨(tQ h4 hb12).alloc (nT h4.size hb12.size) _,w2.heap.size,rfl,nT h4.size hb12.size,fA,fN,fC,nF,n1,n2,heap_alloc_new w2 _,(hf.below hb12).below hba,(hn.below hb12).below hba⟩
open Go.RowKit
def zim_ (n:LU) (k:Int):Option (LU × Int × LL × NormFn):=(qy_ n).filter (fun x=>x.2.1==k)
def AskRet (w:World) (o:Option (LU × Int × LL × NormFn)) (e:Ending) (w':World):Prop:=
 Bel w w'∧match o with
  |none=>e= .returned (.tuple #[.pointer none,.int .i64 41])
  |some x=>∃ b,e= .returned (.tuple #[.pointer (some ⟨b,0,none⟩),.int .i64 0])∧w.heap.size≤b∧RowAt w' b x
theorem ziz_ (l:LU) (k:Int) (w:World) (hl:l.length≤140737488351232):
  Calls Tryz.prog 251 #[.string ⟨l.toArray⟩,.int .i64 k] w (AskRet w (zim_ (z2_ l) k)):=by
 have hc:=zdn_ l w hl
 unfold zim_
 cases hr:qy_ (z2_ l) with
 |none=>
  rw[hr] at hc
  go_enter Tryz.func251,Tryz.ntmps251
  go_wp2_with (go_at_call 195;refine hc.mono ?_;rintro e w1 ⟨hb,rfl⟩)
  go_ret2
  exact⟨hb,rfl⟩
 |some x=>
  rw[hr] at hc
  by_cases hk:x.2.1=k
  ·have ho:(some x).filter (fun x:LU × Int × LL × NormFn=>x.2.1==k)=some x:=by simp [hk]
   have Ho:=hiD ho
   have hk1:(x.2.1 !=k)=false:=by simp [hk]
   clear ho hr hk
   go_enter Tryz.func251,Tryz.ntmps251
   go_wp2_with (go_at_call 195;refine hc.mono ?_;rintro e w1 ⟨hb,b,rfl,hbb,hrow⟩;obtain⟨fA,fN,fC,nF,n1,n2,h1,h2,h3⟩:=id hrow;have hcell:w1.cell? ⟨b,1,none⟩=some (.int .i64 x.2.1):=by simp [World.cell?,h1])
   go_ret2
   rw[Ho.out]
   exact⟨hb,b,rfl,hbb,hrow⟩
  ·have ho:(some x).filter (fun x:LU × Int × LL × NormFn=>x.2.1==k)=none:=by simp [hk]
   have Ho:=hiD ho
   have hk1:(x.2.1 !=k)=true:=by simp [hk]
   clear ho hr hk
   go_enter Tryz.func251,Tryz.ntmps251
   go_wp2_with (go_at_call 195;refine hc.mono ?_;rintro e w1 ⟨hb,b,rfl,hbb,hrow⟩;obtain⟨fA,fN,fC,nF,n1,n2,h1,h2,h3⟩:=id hrow;have hcell:w1.cell? ⟨b,1,none⟩=some (.int .i64 x.2.1):=by simp [World.cell?,h1])
   go_ret2
   rw[Ho.out]
   exact⟨hb,rfl⟩
def zkg_ (n:LU):Value:=match qy_ n with
 |none=> .tuple #[.string ⟨#[]⟩,.int .i64 0,.int .i64 41]
 |some x=> .tuple #[.string ⟨x.1.toArray⟩,.int .i64 x.2.1,.int .i64 0]
theorem Rule_c (l:LU) (w:World) (hl:l.length≤140737488351232):
  Calls Tryz.prog 232 #[.string ⟨l.toArray⟩] w fun e w'=>e= .returned (zkg_ (z2_ l))∧Bel w w':=by
 have hc:=zdn_ l w hl
 unfold zkg_
 cases hr:qy_ (z2_ l) with
 |none=>
  rw[hr] at hc
  go_enter Tryz.func232,Tryz.ntmps232
  go_wp2_with (go_at_call 195;refine hc.mono ?_;rintro e w1 ⟨hb,rfl⟩)
  go_ret3
  exact⟨rfl,hb⟩
 |some x=>
  rw[hr] at hc
  clear hr
  go_enter Tryz.func232,Tryz.ntmps232
  go_wp2_with (go_at_call 195;refine hc.mono ?_;rintro e w1 ⟨hb,b,rfl,hbb,hrow⟩;obtain⟨fA,fN,fC,nF,n1,n2,h1,h2,h3⟩:=id hrow;have hcell:w1.cell? ⟨b,1,none⟩=some (.int .i64 x.2.1):=(by simp [World.cell?,h1]);have hcell0:w1.cell? ⟨b,0,none⟩=some (.string ⟨x.1.toArray⟩):=(by simp [World.cell?,h1]))
  go_quiet (fail)
  go_wp2
  go_ret3
  exact⟨rfl,z0_ hb _⟩
open Go.RowKit
theorem z5x_ (sep:ByteArray):∀ (k:Nat) (s:ByteArray),∀ x∈Lib.splitB sep 0 k s,x.size≤s.size
 |0,s,x,hx=>by simp [Lib.splitB] at hx;subst hx;exact nR _
 |k+1,s,x,hx=>by
  rw[Lib.splitB] at hx
  split at hx
  ·simp at hx;subst hx;exact nR _
  ·rcases List.mem_cons.1 hx with h|h
   ·subst h;simp [ByteArray.size_extract];omega
   ·have:=z5x_ sep k _ x h
    simp [ByteArray.size_extract] at this
    omega
def z7b_ (l:LU):LL:=(Lib.splitB ⟨#[46]⟩ 0 (Lib.countB ⟨l.toArray⟩ ⟨#[46]⟩) ⟨l.toArray⟩).map (·.data.toList)
theorem zl0_ {l x:LU} (h:x∈z7b_ l):x.length≤l.length:=by
 unfold z7b_ at h
 obtain⟨y,hy,rfl⟩:=List.mem_map.1 h
 have:=z5x_ _ _ _ y hy
 show y.data.size≤l.length
 exact this
theorem z8z_ (l:LU):(z7b_ l).length=Lib.countB ⟨l.toArray⟩ ⟨#[46]⟩+1∧(z7b_ l).length≤l.length+1:=by
 have h1:(z7b_ l).length=Lib.countB ⟨l.toArray⟩ ⟨#[46]⟩+1:=by
  unfold z7b_
  rw[List.length_map]
  exact Lib.splitB_all ⟨#[46]⟩ (by decide) 0 _ _ rfl
 have h2:Lib.countB ⟨l.toArray⟩ ⟨#[46]⟩≤(⟨l.toArray⟩:ByteArray).size:=Lib.countB_le ⟨#[46]⟩ (by decide) _ _ (nR _)
 exact⟨h1,by simp [ByteArray.size] at h2;omega⟩
theorem zjd_ (l:LU) (w:World) (hw:Env w) (hl:l.length≤65536):
  Calls Tryz.prog 69 #[.string ⟨l.toArray⟩,.string ⟨#[46]⟩] w fun e w'=>e= .returned (.slice (some ⟨w.heap.size,0,none⟩) (z7b_ l).length (z7b_ l).length)∧w'=w.alloc (.cells ((z7b_ l).map qm_).toArray 9):=by
 obtain⟨m,hm⟩:=hw.mx
 refine(Tryz.strings_Split ⟨l.toArray⟩ ⟨#[46]⟩ m w (by simp [ByteArray.size];omega) hm (by decide)).mono ?_
 rintro e w' ⟨rfl,rfl⟩
 rw[← (z8z_ l).1]
 refine⟨rfl,?_⟩
 congr 3
 unfold z7b_
 rw[List.map_map]
 refine List.map_congr_left fun x _=>?_
 simp [qm_]
def xx_ (n:LU):Bool:=!n.isEmpty && !(decide (1<n.length) && n.head?==some 48) && n.all je_
def jm_ (l:LU):Bool:=(z7b_ l).all xx_ && decide (1<(z7b_ l).length)
theorem zj0_ (l:LU) (w:World) (hw:Env w) (hl:l.length≤64):
  Calls Tryz.prog 71 #[.string ⟨l.toArray⟩] w fun e w'=>e= .returned (.bool (jm_ l))∧Bel w w':=by
 have hget:=qb_
 have hS:=zjd_ l w hw (by omega)
 unfold jm_
 have hle:∀ x∈z7b_ l,x.length≤l.length:=fun x hx=>zl0_ hx
 have hcnt:=(z8z_ l).2
 generalize z7b_ l=S at *
 have HL:=hiD hle
 clear hle
 go_enter Tryz.func71,Tryz.ntmps71
 go_wp2_with (go_at_call 69;refine hS.mono ?_;rintro e w1 ⟨rfl,rfl⟩)
 have hca:∀ k (hk:k<S.length),(w.alloc (.cells (S.map qm_).toArray 9)).cell? ⟨w.heap.size,k,none⟩=some (.string ⟨S[k].toArray⟩):=by
  intro k hk
  rw[World.cell?_alloc_mark]
  simp [qm_,hk]
 have HC:=hiD hca
 clear hca hS
 have hsz:w.heap.size<(w.alloc (.cells (S.map qm_).toArray 9)).heap.size:=by simp
 have hbw:Bel w (w.alloc (.cells (S.map qm_).toArray 9)):=(bR _ _).alloc (nR _) _
 generalize w.alloc (.cells (S.map qm_).toArray 9)=W at *
 go_loopg [10] S.length (fun gk i wr=>∃ k:Nat,k≤S.length∧i= .int .i64 k∧Aside (k+gk=S.length)∧Bel W wr∧Aside (S.all xx_=(S.drop k).all xx_))
 case atStart=>exact⟨0,by omega,rfl,by show _=_;omega,bR _ _,rfl⟩
 case round=>
  obtain⟨k,hk,rfl,AG,hB,AS⟩:=hrel
  have hBB:Bel w wr:=hbw.trans (hB.mono (by omega))
  by_cases hlt:k<S.length
  ·have hcell:wr.cell? ⟨w.heap.size,k,none⟩=some (.string ⟨S[k].toArray⟩):=(hB.cell (p:=⟨w.heap.size,k,none⟩) hsz).trans (HC.out k hlt)
   have hsl:S[k].length≤64:=by have:=HL.out _ (List.getElem_mem hlt);omega
   have AS':Aside (S.all xx_=(xx_ S[k] && (S.drop (k+1)).all xx_)):=by have:=AS.out;rw[List.drop_eq_getElem_cons hlt] at this;exact this
   obtain⟨q,rfl⟩:∃ q,gk=q+1:=⟨gk - 1,by have:=AG.out;omega⟩
   generalize S[k]=n at *
   have hT:=fun w=>Tryz.strings_Trim_set ⟨n.toArray⟩ ⟨#[48,49,50,51,52,53,54,55,56,57]⟩ w (by simp [ByteArray.size];omega) (by decide) (z3u_ (by decide))
   simp only at hT
   have hiff:=v1_ n [48,49,50,51,52,53,54,55,56,57]
   rw[yy_] at hiff
   generalize Lib.trimS n [48,49,50,51,52,53,54,55,56,57]=t at *
   have Hiff:=hiD hiff
   clear hiff AS
   cases n with
   |nil=>
    clear hT
    go_wp2
    go_ret
    exact⟨xd_ (by rw[AS'.out];rfl),hBB⟩
   |cons c m=>
    simp only[List.length_cons] at hsl
    by_cases h48:m≠[]∧c=48
    ·obtain⟨hm,rfl⟩:=h48
     have hml:0<m.length:=List.length_pos_iff.2 hm
     have hso:xx_ (48::m)=false:=by
      have h1:decide (1<(48::m).length)=true:=by rw[decide_eq_true_eq,List.length_cons];omega
      unfold xx_;rw[h1];rfl
     have Hso:=hiD hso
     clear hT hso hm
     go_wp2
     go_ret
     exact⟨xd_ (by rw[AS'.out,Hso.out];rfl),hBB⟩
    ·have hno:xx_ (c::m)=(c::m).all je_:=by
      unfold xx_
      have:(!(decide (1<(c::m).length) && (c::m).head?==some 48))=true:=by
       rw[Bool.not_eq_true',Bool.and_eq_false_iff]
       by_cases hm:m=[]
       ·left;subst hm;rfl
       ·right
        have hc:c≠48:=fun h=>h48 ⟨hm,h⟩
        simp [hc]
      rw[this];simp
     have Hno:=hiD hno
     clear hno
     have h48':(m.length=0)∨((c.toNat:Int)==48)=false:=by
      by_cases hm:m=[]
      ·left;simp [hm]
      ·right;rw[beq_eq_false_iff_ne];intro h;exact h48 ⟨hm,UInt8.toNat_inj.1 (show _=48 by omega)⟩
     clear h48
     by_cases ht:t=[]
     ·have hall:(c::m).all je_=true:=Hiff.out.1 ht
      have Hall:=hiD hall
      subst ht
      clear hall
      rcases h48' with h|h
      ·obtain rfl:m=[]:=List.eq_nil_of_length_eq_zero h
       go_wp2_with (go_at_call 67;refine(hT _).mono ?_;rintro e w2 ⟨rfl,hb2⟩)
       go_roundg q
       case measure=>omega
       case rel=>exact⟨k+1,by omega,by go_num,by have:=AG.out;show _=_;omega,tQ hB hb2,by have:=AS'.out;rw[Hno.out,Hall.out] at this;exact this⟩
      ·go_wp2_with (go_at_call 67;refine(hT _).mono ?_;rintro e w2 ⟨rfl,hb2⟩)
       all_goals
        go_roundg q
        case measure=>omega
        case rel=>exact⟨k+1,by omega,by go_num,by have:=AG.out;show _=_;omega,tQ hB hb2,by have:=AS'.out;rw[Hno.out,Hall.out] at this;exact this⟩
     ·have hall:(c::m).all je_=false:=by
       cases h:(c::m).all je_
       ·rfl
       ·exact absurd (Hiff.out.2 h) ht
      have hte:t.isEmpty=false:=by cases t<;>simp_all
      have Hall:=hiD hall
      clear hall ht
      rcases h48' with h|h
      ·obtain rfl:m=[]:=List.eq_nil_of_length_eq_zero h
       go_wp2_with (go_at_call 67;refine(hT _).mono ?_;rintro e w2 ⟨rfl,hb2⟩)
       go_ret
       exact⟨xd_ (by rw[AS'.out,Hno.out,Hall.out];rfl),tQ hBB hb2⟩
      ·go_wp2_with (go_at_call 67;refine(hT _).mono ?_;rintro e w2 ⟨rfl,hb2⟩)
       all_goals
        go_ret
        exact⟨xd_ (by rw[AS'.out,Hno.out,Hall.out];rfl),tQ hBB hb2⟩
  ·obtain rfl:k=S.length:=by omega
   have hs:S.all xx_=true:=by have:=AS.out;rw[List.drop_length] at this;exact this
   have Hs:=hiD hs
   clear hs AS
   go_wp2
   all_goals
    go_ret
    refine⟨xd_ ?_,hBB⟩
    rw[Hs.out,Bool.true_and]
    show decide ((1:Int)<(S.length:Int))=_
    exact decide_eq_decide.2 (by omega)
def qk_ (c:UInt8):Bool:=xo_ c.toNat && !(c==46)
def zc_ (l:LU):Bool:=match l with
 |[]=>false
 |c::m=>decide ((c::m).length≤64) && (if z6o_ c.toNat then (c::m).all qk_ else jm_ (c::m))
theorem zb0_ (l:LU) (w:World) (h0:0<l.length) (h64:l.length≤64) (hlet:z6o_ (l[0].toNat)=true):
  Calls Tryz.prog 52 #[.string ⟨l.toArray⟩] w fun e w'=>e= .returned (.bool (l.all qk_))∧w=w':=by
 have hget:=qb_
 have hne:l.isEmpty=false:=by cases l with|nil=>exact absurd h0 (by simp)|cons _ _=>rfl
 have h0':(0:Int)<(l.length:Int):=by omega
 have hlc:=z0b_ (l[0].toNat) w
 rw[hlet] at hlc
 clear hlet
 go_enter Tryz.func52,Tryz.ntmps52
 go_wp2_with (first|(go_at_call 70;refine hlc.mono ?_;rintro e w1 ⟨rfl,rfl⟩))
 clear hlc
 go_loopg [21] l.length (fun gk i wr=>∃ k:Nat,k≤l.length∧i= .int .i64 k∧Aside (k+gk=l.length)∧Aside (wr=w)∧Aside (l.all qk_=(l.drop k).all qk_))
 case atStart=>exact⟨0,by omega,rfl,by show _=_;omega,rfl,rfl⟩
 case round=>
  obtain⟨k,hk,rfl,AG,AW,AS⟩:=hrel
  obtain rfl:wr=w:=AW.out
  by_cases hlt:k<l.length
  ·have AS':Aside (l.all qk_=(qk_ l[k] && (l.drop (k+1)).all qk_)):=by have:=AS.out;rw[List.drop_eq_getElem_cons hlt] at this;exact this
   obtain⟨q,rfl⟩:∃ q,gk=q+1:=⟨gk - 1,by have:=AG.out;omega⟩
   clear AS
   have hit:=z4j_ (l[k].toNat) wr
   have hpt:qk_ l[k]=(xo_ l[k].toNat && !(l[k]==46)):=rfl
   have Hpt:=hiD hpt
   clear hpt
   cases h1:xo_ l[k].toNat
   ·rw[h1] at hit
    have H1:=hiD h1
    clear h1
    go_wp2_with (first|(go_at_call 72;refine hit.mono ?_;rintro e w1 ⟨rfl,rfl⟩))
    go_ret
    exact⟨xd_ (by rw[AS'.out,Hpt.out,H1.out];rfl),rfl⟩
   ·rw[h1] at hit
    have H1:=hiD h1
    clear h1
    by_cases h46:l[k]=46
    ·have h46':((l[k].toNat:Int)==46)=true:=by rw[h46];rfl
     have hb:(l[k]==46)=true:=by simp [h46]
     have Hb:=hiD hb
     clear h46 hb
     go_wp2_with (first|(go_at_call 72;refine hit.mono ?_;rintro e w1 ⟨rfl,rfl⟩))
     go_ret
     exact⟨xd_ (by rw[AS'.out,Hpt.out,H1.out,Hb.out];rfl),rfl⟩
    ·have h46':((l[k].toNat:Int)==46)=false:=by rw[beq_eq_false_iff_ne];intro h;exact h46 (UInt8.toNat_inj.1 (show _=46 by omega))
     have hb:(l[k]==46)=false:=by simp [h46]
     have Hb:=hiD hb
     clear h46 hb
     go_wp2_with (first|(go_at_call 72;refine hit.mono ?_;rintro e w1 ⟨rfl,rfl⟩))
     go_roundg q
     case measure=>omega
     case rel=>exact⟨k+1,by omega,by go_num,by have:=AG.out;show _=_;omega,rfl,by have:=AS'.out;rw[Hpt.out,H1.out,Hb.out] at this;exact this⟩
  ·obtain rfl:k=l.length:=by omega
   have hs:l.all qk_=true:=by have:=AS.out;rw[List.drop_length] at this;exact this
   have Hs:=hiD hs
   clear hs AS
   go_wp2
   go_ret
   exact⟨xd_ (by rw[Hs.out]),rfl⟩
theorem qf_ (l:LU) (w:World) (hw:Env w) (hl:l.length≤1099511627776):
  Calls Tryz.prog 52 #[.string ⟨l.toArray⟩] w fun e w'=>e= .returned (.bool (zc_ l))∧Bel w w':=by
 cases hl':l with
 |nil=>
  go_enter Tryz.func52,Tryz.ntmps52
  go_wp2
  go_ret
  exact⟨rfl,bR _ _⟩
 |cons c m=>
  rw[← hl']
  have h0:0<l.length:=by rw[hl'];simp
  have hc0:l[0]=c:=by simp [hl']
  have hne:l.isEmpty=false:=by rw[hl'];rfl
  have hty:zc_ l=(decide (l.length≤64) && (if z6o_ (l[0].toNat) then l.all qk_ else jm_ l)):=by rw[hc0];rw[hl'];rfl
  rw[hty]
  clear hl' hty hc0
  have hget:=qb_
  have h0':(0:Int)<(l.length:Int):=by omega
  by_cases h64:l.length≤64
  ·rw[decide_eq_true h64,Bool.true_and]
   cases hlet:z6o_ l[0].toNat
   ·have hO:=zj0_ l w hw h64
    have hlc:=z0b_ (l[0].toNat) w
    rw[hlet] at hlc
    clear hlet
    go_enter Tryz.func52,Tryz.ntmps52
    go_wp2_with (first|(go_at_call 70;refine hlc.mono ?_;rintro e w1 ⟨rfl,rfl⟩)|(go_at_call 71;refine hO.mono ?_;rintro e w1 ⟨rfl,hb1⟩))
    go_ret
    exact⟨rfl,hb1⟩
   ·refine(zb0_ l w h0 h64 hlet).mono ?_
    rintro e w' ⟨rfl,rfl⟩
    exact⟨rfl,bR _ _⟩
  ·have h64':(64:Int)<(l.length:Int):=by omega
   rw[decide_eq_false h64,Bool.false_and]
   clear h64
   go_enter Tryz.func52,Tryz.ntmps52
   go_wp2_with fail
   go_ret
   exact⟨rfl,bR _ _⟩
open Go.RowKit
def Rd (w:World) (b:Nat) (s:LU) (i:Nat):Prop:=w.heap[b]?=some (.cells #[.string ⟨s.toArray⟩,.int .i64 i] 236 (0,0))
theorem Rd.lt {w:World} {b i:Nat} {s:LU} (h:Rd w b s i):b<w.heap.size:=(Array.getElem?_eq_some_iff.1 h).1
theorem Rd.c0 {w:World} {b i:Nat} {s:LU} (h:Rd w b s i):w.cell? ⟨b,0,none⟩=some (.string ⟨s.toArray⟩):=by unfold Rd at h;simp [World.cell?,h]
theorem Rd.c1 {w:World} {b i:Nat} {s:LU} (h:Rd w b s i):w.cell? ⟨b,1,none⟩=some (.int .i64 i):=by unfold Rd at h;simp [World.cell?,h]
theorem Rd.f1 {w:World} {b i:Nat} {s:LU} (h:Rd w b s i):w.frozen? ⟨b,1,none⟩=false:=by unfold Rd at h;simp [World.frozen?,h]
theorem Rd.set {w:World} {b i:Nat} {s:LU} (h:Rd w b s i) (j:Nat):Rd (w.setCell ⟨b,1,none⟩ (.int .i64 j)) b s j:=by
 unfold Rd at h ⊢
 simp [World.setCell,Array.getElem?_modify,h]
theorem Rd.below {w w':World} {b i:Nat} {s:LU} (h:Rd w b s i) (hb:Bel w w'):Rd w' b s i:=(hb.block b h.lt).trans h
theorem Rd.drewN {w:World} {b i:Nat} {s:LU} (h:Rd w b s i) (n:Nat):Rd (w.drewN n) b s i:=h
theorem zf_ {w:World} {b o:Nat} (v:Value):w.grownBy (w.setCell ⟨b,o,none⟩ v) (some b):=
 ⟨rfl,rfl,rfl,by simp [World.setCell],fun k _ hne=>Below.heap_setCell _ _ _ _ (by simpa using hne)⟩
theorem z1_ {w w':World} (hb:Bel w w') (r:Option Nat):w.grownBy w' r:=⟨hb.os,hb.tape,hb.output,hb.size,fun k hk _=>hb.block k hk⟩
theorem z3_ (w:World) (n:Nat) (r:Option Nat):w.grownBy (w.drewN n) r:=⟨rfl,rfl,rfl,nR _,fun _ _ _=>rfl⟩
theorem z4u_ (b:Nat) (s:LU) (i:Nat) (w:World) (h:Rd w b s i):
  Calls Tryz.prog 243 #[.pointer (some ⟨b,0,none⟩)] w fun e w'=>e= .returned (.bool ((i:Int)==(s.length:Int)))∧∃ n,w'=w.drewN n:=by
 have h0:=h.c0
 have h1:=h.c1
 go_enter Tryz.func243,Tryz.ntmps243
 go_wp2
 go_quiet (fail)
 go_wp2
 go_ret
 exact⟨rfl,nq,rfl⟩
def isC (s:LU) (i:Nat) (c:Int):Bool:=match s[i]? with
 |some x=>(x.toNat:Int)==c
 |none=>false
theorem is_c (b:Nat) (s:LU) (i:Nat) (c:Int) (w:World) (h:Rd w b s i) (hi:i≤s.length):
  Calls Tryz.prog 242 #[.pointer (some ⟨b,0,none⟩),.int .u8 c] w fun e w'=>e= .returned (.bool (isC s i c))∧∃ n,w'=w.drewN n:=by
 have hget:=qb_
 have h0:=h.c0
 have h1:=h.c1
 have hE:=fun w' (hR:Rd w' b s i)=>z4u_ b s i w' hR
 unfold isC
 by_cases hlt:i<s.length
 ·have hb:((i:Int)==(s.length:Int))=false:=by rw[beq_eq_false_iff_ne];omega
  rw[hb] at hE
  rw[List.getElem?_eq_getElem hlt]
  clear hb
  dsimp only
  have HR:=hiD h
  clear h
  have hi0:(0:Int)≤(i:Int):=by omega
  have hi1:(i:Int)<(s.length:Int):=by omega
  go_enter Tryz.func242,Tryz.ntmps242
  go_wp2
  go_quiet ((go_at_call 243;exact Calls.quiet_of (hE _ (HR.out.drewN _))))
  go_wp2
  go_ret
  exact⟨rfl,nq,rfl⟩
 ·obtain rfl:i=s.length:=by omega
  rw[List.getElem?_eq_none (nR _)]
  dsimp only
  have hb:((s.length:Int)==(s.length:Int))=true:=by simp
  rw[hb] at hE
  have HR:=hiD h
  clear h hb
  go_enter Tryz.func242,Tryz.ntmps242
  go_wp2
  go_quiet ((go_at_call 243;exact Calls.quiet_of (hE _ (HR.out.drewN _))))
  go_wp2
  go_ret
  exact⟨rfl,nq,rfl⟩
open Go.RowKit
def RdAt (w:World) (b:Nat) (s r:LU):Prop:=∃ i,i≤s.length∧s.drop i=r∧Rd w b s i
theorem RdAt.lt {w:World} {b:Nat} {s r:LU} (h:RdAt w b s r):b<w.heap.size:=by obtain⟨i,_,_,h⟩:=h;exact h.lt
theorem RdAt.below {w w':World} {b:Nat} {s r:LU} (h:RdAt w b s r) (hb:Bel w w'):RdAt w' b s r:=by
 obtain⟨i,h1,h2,h3⟩:=h;exact⟨i,h1,h2,h3.below hb⟩
theorem RdAt.drewN {w:World} {b:Nat} {s r:LU} (h:RdAt w b s r) (n:Nat):RdAt (w.drewN n) b s r:=h
theorem zgp_ {s:LU} {i:Nat} (c:Int):isC s i c=match s.drop i with|[]=>false|x::_=>(x.toNat:Int)==c:=by
 unfold isC
 rw[← List.head?_drop]
 cases s.drop i<;>rfl
def hd (r:LU) (c:Int):Bool:=match r with|[]=>false|x::_=>(x.toNat:Int)==c
theorem zar_ (b:Nat) (s r:LU) (c:Int) (w:World) (h:RdAt w b s r):
  Calls Tryz.prog 242 #[.pointer (some ⟨b,0,none⟩),.int .u8 c] w fun e w'=>e= .returned (.bool (hd r c))∧∃ n,w'=w.drewN n:=by
 obtain⟨i,h1,rfl,h3⟩:=h
 refine(is_c b s i c w h3 h1).mono ?_
 rintro e w' ⟨rfl,h⟩
 exact⟨xd_ ((zgp_ c).trans rfl),h⟩
theorem x3_ {s r:LU} {x:UInt8} {i:Nat} (h:s.drop i=x::r):i<s.length∧s.drop (i+1)=r:=by
 have hi:i<s.length:=by
  rcases Nat.lt_or_ge i s.length with h'|h'
  ·exact h'
  ·rw[List.drop_eq_nil_of_le h'] at h;cases h
 rw[List.drop_eq_getElem_cons hi] at h
 exact⟨hi,(List.cons.inj h).2⟩
theorem z16_ (b:Nat) (s r:LU) (w:World) (h:RdAt w b s r) (hs:s.length≤1099511627776):
  Calls Tryz.prog 290 #[.pointer (some ⟨b,0,none⟩)] w fun e w'=>e= .returned (.tuple #[])∧RdAt w' b s (r.dropWhile (·==32))∧w.grownBy w' (some b):=by
 have H:=hiD h
 clear h
 go_enter Tryz.func290,Tryz.ntmps290
 go_wp2_with fail
 go_loopg [] r.length (fun gk wr=>∃ r',r'.length≤gk∧RdAt wr b s r'∧Aside (r.dropWhile (·==32)=r'.dropWhile (·==32))∧w.grownBy wr (some b))
 case atStart=>exact⟨r,nR _,H.out,rfl,World.grownBy.refl _ _⟩
 case round=>
  obtain⟨r',hlen,hR,AD,hg⟩:=hrel
  have hI:=zar_ b s r' 32 wr hR
  obtain⟨i,hi,hd',hRd⟩:=hR
  cases hh:hd r' 32
  ·rw[hh] at hI
   have hfin:r'.dropWhile (·==32)=r':=by
    cases r' with
    |nil=>rfl
    |cons x t=>
     have:(x==32)=false:=by
      rw[beq_eq_false_iff_ne];intro h;subst h;simp [hd] at hh
     simp [List.dropWhile_cons,this]
   have Hf:=hiD hfin
   have Hd:=hiD hd'
   clear hh hfin hd'
   go_wp2_with (go_at_call 242;refine hI.mono ?_;rintro e w1 ⟨rfl,n,rfl⟩)
   go_end0
   exact⟨rfl,by rw[AD.out,Hf.out];exact⟨i,hi,Hd.out,hRd⟩,gT hg (z3_ _ _ _)⟩
  ·rw[hh] at hI
   obtain⟨t,rfl⟩:∃ t,r'=32::t:=by
    cases r' with
    |nil=>cases hh
    |cons x t=>
     refine⟨t,?_⟩
     simp [hd] at hh
     rw[UInt8.toNat_inj.1 (show x.toNat=(32:UInt8).toNat from by show _=32;omega)]
   have ⟨hlt,hdt⟩:=x3_ hd'
   have hc1:=hRd.c1
   have hf1:=hRd.f1
   have HR:=hiD hRd
   have Hd:=hiD hdt
   simp only[List.length_cons] at hlen
   clear hh hd' hdt hRd
   go_wp2_with (go_at_call 242;refine hI.mono ?_;rintro e w1 ⟨rfl,n,rfl⟩)
   go_roundg t.length
   case measure=>omega
   case rel=>
    refine⟨t,nR _,⟨i+1,by omega,Hd.out,?_⟩,by have:=AD.out;show _=_;rw[this];rfl,?_⟩
    ·exact(HR.out.drewN n).set (i+1)
    ·exact gT hg (gT (z3_ _ _ _) (zf_ _))
open Go.RowKit
def vz_:List PanicEntry:=[{v:= .iface 26 (.int .i64 30),recovered:=false}]
def zbw_ (w:World) (b:Nat) (s:LU) (o:Option (Value × LU)) (e:Ending) (w':World):Prop:=
 w.grownBy w' (some b)∧match o with
  |none=>e= .panicked vz_
  |some (v,r)=>e= .returned v∧RdAt w' b s r
theorem z0e_ (l:LU) (w:World) (hl:l.length≤1099511627776):
  Calls Tryz.prog 22 #[.string ⟨l.toArray⟩] w fun e w'=>e= .returned (.string ⟨l.toArray⟩)∧Bel w w':=by
 have hc:=Tryz.stringslite_Clone ⟨l.toArray⟩ w (by simp [ByteArray.size];omega)
 go_enter Tryz.func22,Tryz.ntmps22
 go_wp2_with (go_at_call 54;refine hc.mono ?_;rintro e w1 ⟨rfl,hb⟩)
 go_ret
 exact⟨rfl,hb⟩
def zg8_ (c:UInt8):Bool:=xo_ c.toNat
def zc8_ (r:LU):Option (LU × LU):=if zc_ (r.takeWhile zg8_) then some (r.takeWhile zg8_,r.dropWhile zg8_) else none
theorem xz_ {P:Program} {f:FuncId} {args:Array Value} {w:World} {n:Nat} {v:Value}
  (h:Calls P f args (w.drewN n) fun e w'=>e= .returned v∧∃ m,w'=(w.drewN n).drewN m):Calls P f args (w.drewN n) fun e w''=>e= .returned v∧∃ m,w''=w.drewN m:=Calls.quiet_of h
theorem vf_ {p:UInt8→Bool}:∀ (r r':LU),(∃ k,r'=r.drop k∧(r.take k).all p=true)→r'.takeWhile p=[]→r.takeWhile p=r.take (r.length - r'.length)∧r.dropWhile p=r'
 |r,r',⟨k,h1,h2⟩,h3=>by
  subst h1
  have hsplit:r=r.take k++r.drop k:=(List.take_append_drop k r).symm
  have hdw:(r.drop k).dropWhile p=r.drop k:=by
   cases hd:r.drop k with
   |nil=>rfl
   |cons x t=>
    rw[hd] at h3
    have:p x=false:=by
     cases hx:p x
     ·rfl
     ·simp [List.takeWhile_cons,hx] at h3
    simp [List.dropWhile_cons,this]
  have ht:∀ (a c:LU),a.all p=true→(a++c).takeWhile p=a++c.takeWhile p∧(a++c).dropWhile p=c.dropWhile p:=by
   intro a c ha
   induction a with
   |nil=>simp
   |cons y a ih=>
    simp only[List.all_cons,Bool.and_eq_true] at ha
    have:=ih ha.2
    simp [List.takeWhile_cons,List.dropWhile_cons,ha.1,this]
  have:=ht (r.take k) (r.drop k) h2
  rw[← hsplit,h3,hdw] at this
  refine⟨?_,this.2⟩
  rw[this.1,List.append_nil,List.length_drop]
  by_cases hk:k≤r.length
  ·congr 1;omega
  ·rw[List.take_of_length_le (by omega),List.take_of_length_le (by omega)]
theorem typ_c (b:Nat) (s r:LU) (w:World) (hw:Env w) (h:RdAt w b s r) (hs:s.length≤65536) (hE:∀ W,w.grownBy W (some b)→Env W):
  Calls Tryz.prog 291 #[.pointer (some ⟨b,0,none⟩)] w (zbw_ w b s ((zc8_ r).map fun x=>(.string ⟨x.1.toArray⟩,x.2))):=by
 have hget:=qb_
 have hext:=z0x_
 obtain⟨i,hi,rfl,hRd⟩:=h
 have hc1:=hRd.c1
 have HR:=hiD hRd
 have HE:=hiD hE
 clear hRd hE
 go_enter Tryz.func291,Tryz.ntmps291
 go_wp2_with fail
 clear hc1
 go_loopg [] (s.length - i) (fun gk wr=>∃ j,i≤j∧j≤s.length∧s.length - j≤gk∧Rd wr b s j∧Aside ((sub s i j).all zg8_=true)∧w.grownBy wr (some b))
 case atStart=>exact⟨i,nR _,hi,nR _,HR.out,by show _=_;simp [sub],World.grownBy.refl _ _⟩
 case round=>
  obtain⟨j,hij,hj,hgk,hRd,AT,hg⟩:=hrel
  have h0:=hRd.c0
  have h1:=hRd.c1
  have hf1:=hRd.f1
  have hEn:=fun w' (hR:Rd w' b s j)=>z4u_ b s j w' hR
  have HRj:=hiD hRd
  clear hRd
  have hsl:(sub s i j).length≤1099511627776:=by rw[z24_];omega
  have hi0:(0:Int)≤(i:Int):=by omega
  have hij':(i:Int)≤(j:Int):=by omega
  have hjl':(j:Int)≤(s.length:Int):=by omega
  by_cases hc:∃ hlt:j<s.length,xo_ s[j].toNat=true
  ·obtain⟨hlt,hty⟩:=hc
   have hb:((j:Int)==(s.length:Int))=false:=by rw[beq_eq_false_iff_ne];omega
   rw[hb] at hEn
   have hj1:(j:Int)<(s.length:Int):=by omega
   have hIT:=fun w=>z4j_ (s[j].toNat) w
   rw[hty] at hIT
   have AT':Aside ((sub s i (j+1)).all zg8_=true):=by
    have:=AT.out
    show _=_
    rw[show sub s i (j+1)=sub s i j++[s[j]] by
     unfold sub
     rw[show j+1 - i=(j - i)+1 by omega,List.take_add_one,List.getElem?_drop,show i+(j - i)=j by omega,List.getElem?_eq_getElem hlt];rfl]
    simp only[List.all_append,this,Bool.true_and,List.all_cons,List.all_nil,Bool.and_true]
    exact hty
   have HEn:=hiD hEn
   clear hEn hb hty AT
   go_wp2_with fail
   go_quiet (first|(go_at_call 243;exact xz_ (HEn.out _ (HRj.out.drewN _)))|(go_at_call 72;exact x1_ (hIT _)))
   go_wp2_with fail
   go_roundg (s.length - (j+1))
   case measure=>omega
   case rel=>exact⟨j+1,by omega,by omega,nR _,(HRj.out.drewN nq).set (j+1),AT'.out,gT hg (gT (z3_ _ _ _) (zf_ _))⟩
  ·have hstop:(s.drop j).takeWhile zg8_=[]:=by
    cases hd':s.drop j with
    |nil=>rfl
    |cons x t=>
     have ⟨hlt,_⟩:=x3_ hd'
     have hx:s[j]=x:=by rw[List.drop_eq_getElem_cons hlt] at hd';exact(List.cons.inj hd').1
     have:zg8_ x=false:=by
      cases h:zg8_ x
      ·rfl
      ·exact absurd ⟨hlt,by rw[hx];exact h⟩ hc
     simp [this]
   have hcut:=vf_ (p:=zg8_) (s.drop i) (s.drop j) ⟨j - i,by rw[List.drop_drop];congr 1;omega,by have:=AT.out;unfold sub at this;exact this⟩ hstop
   have htyp:zc8_ (s.drop i)=if zc_ (sub s i j) then some (sub s i j,s.drop j) else none:=by
    unfold zc8_
    rw[hcut.1,hcut.2]
    have:(s.drop i).take ((s.drop i).length - (s.drop j).length)=sub s i j:=by unfold sub;congr 1;simp;omega
    rw[this]
   have HT:=hiD htyp
   clear htyp hcut hstop AT
   have hEW:∀ n w2,Below wr.heap.size (wr.drewN n) w2→w.grownBy w2 (some b):=fun n w2 hb=>gT hg (gT (z3_ _ n _) (z1_ hb _))
   have HEW:=hiD hEW
   have hE0:=fun n=>HE.out (wr.drewN n) (gT hg (z3_ _ n _))
   have HE0:=hiD hE0
   clear hEW hE0
   by_cases hlt:j<s.length
   ·have hb:((j:Int)==(s.length:Int))=false:=by rw[beq_eq_false_iff_ne];omega
    rw[hb] at hEn
    have hj1:(j:Int)<(s.length:Int):=by omega
    have hIT:=fun w=>z4j_ (s[j].toNat) w
    have hty:xo_ s[j].toNat=false:=by
     cases h:xo_ s[j].toNat
     ·rfl
     ·exact absurd ⟨hlt,h⟩ hc
    rw[hty] at hIT
    have HEn:=hiD hEn
    clear hEn hb hty hc
    go_wp2_with fail
    go_quiet (first|(go_at_call 243;exact xz_ (HEn.out _ (HRj.out.drewN _)))|(go_at_call 72;exact x1_ (hIT _)))
    go_wp2_with fail
    cases hT:zc_ (sub s i j)
    ·have hty:zc8_ (s.drop i)=none:=by rw[HT.out,hT];rfl
     have Hty:=hiD hty
     clear hty
     go_region_held3 (fun w'=>w'.cell? ⟨b,0,none⟩=some (.string ⟨s.toArray⟩)∧w'.cell? ⟨b,1,none⟩=some (.int .i64 j)) (first|exact⟨h0,h1⟩|exact⟨hc0',hc1'⟩) (first|(go_at_call 52;refine(qf_ _ _ (HE0.out (nq+1)) hsl).mono ?_;rintro e w2 ⟨rfl,hb2⟩;rw[hT];have hR2:=(HRj.out.drewN (nq+1)).below hb2;have hc0':=hR2.c0;have hc1':=hR2.c1))
     clear HRj
     go_wp2_with fail
     refine⟨rfl,?_⟩
     rw[Hty.out]
     exact⟨HEW.out _ _ hb2,rfl⟩
    ·have hty:zc8_ (s.drop i)=some (sub s i j,s.drop j):=by rw[HT.out,hT];rfl
     have Hty:=hiD hty
     clear hty
     go_region_held3 (fun w'=>w'.cell? ⟨b,0,none⟩=some (.string ⟨s.toArray⟩)∧w'.cell? ⟨b,1,none⟩=some (.int .i64 j)) (first|exact⟨h0,h1⟩|exact⟨hc0',hc1'⟩) (first|(go_at_call 52;refine(qf_ _ _ (HE0.out (nq+1)) hsl).mono ?_;rintro e w2 ⟨rfl,hb2⟩;rw[hT];have hR2:=(HRj.out.drewN (nq+1)).below hb2;have hc0':=hR2.c0;have hc1':=hR2.c1))
     have HR2:=hiD hR2
     have HB2:=hiD hb2
     clear HRj h0 h1 hR2 hb2
     go_wp2_with fail
     go_region_held3 (fun w'=>w'.cell? ⟨b,0,none⟩=some (.string ⟨s.toArray⟩)∧w'.cell? ⟨b,1,none⟩=some (.int .i64 j)) (first|exact⟨hc0',hc1'⟩|exact⟨hc0'',hc1''⟩) (first|(go_at_call 22;refine(z0e_ _ _ hsl).mono ?_;rintro e w3 ⟨rfl,hb3⟩;have hR3:=(HR2.out.drewN 1).below hb3;have hc0'':=hR3.c0;have hc1'':=hR3.c1))
     go_wp2_with fail
     go_ret
     rw[Hty.out]
     exact⟨gT (HEW.out _ _ HB2.out) (gT (z3_ _ 1 _) (z1_ hb3 _)),rfl,j,hj,rfl,hR3⟩
   ·obtain rfl:j=s.length:=by omega
    have hb:((s.length:Int)==(s.length:Int))=true:=by simp
    rw[hb] at hEn
    have HEn:=hiD hEn
    clear hEn hb hc
    go_wp2_with fail
    go_quiet (first|(go_at_call 243;exact xz_ (HEn.out _ (HRj.out.drewN _))))
    go_wp2_with fail
    cases hT:zc_ (sub s i s.length)
    ·have hty:zc8_ (s.drop i)=none:=by rw[HT.out,hT];rfl
     have Hty:=hiD hty
     clear hty
     go_region_held3 (fun w'=>w'.cell? ⟨b,0,none⟩=some (.string ⟨s.toArray⟩)∧w'.cell? ⟨b,1,none⟩=some (.int .i64 s.length)) (first|exact⟨h0,h1⟩|exact⟨hc0',hc1'⟩) (first|(go_at_call 52;refine(qf_ _ _ (HE0.out (nq+1)) hsl).mono ?_;rintro e w2 ⟨rfl,hb2⟩;rw[hT];have hR2:=(HRj.out.drewN (nq+1)).below hb2;have hc0':=hR2.c0;have hc1':=hR2.c1))
     clear HRj
     go_wp2_with fail
     refine⟨rfl,?_⟩
     rw[Hty.out]
     exact⟨HEW.out _ _ hb2,rfl⟩
    ·have hty:zc8_ (s.drop i)=some (sub s i s.length,s.drop s.length):=by rw[HT.out,hT];rfl
     have Hty:=hiD hty
     clear hty
     go_region_held3 (fun w'=>w'.cell? ⟨b,0,none⟩=some (.string ⟨s.toArray⟩)∧w'.cell? ⟨b,1,none⟩=some (.int .i64 s.length)) (first|exact⟨h0,h1⟩|exact⟨hc0',hc1'⟩) (first|(go_at_call 52;refine(qf_ _ _ (HE0.out (nq+1)) hsl).mono ?_;rintro e w2 ⟨rfl,hb2⟩;rw[hT];have hR2:=(HRj.out.drewN (nq+1)).below hb2;have hc0':=hR2.c0;have hc1':=hR2.c1))
     have HR2:=hiD hR2
     have HB2:=hiD hb2
     clear HRj h0 h1 hR2 hb2
     go_wp2_with fail
     go_region_held3 (fun w'=>w'.cell? ⟨b,0,none⟩=some (.string ⟨s.toArray⟩)∧w'.cell? ⟨b,1,none⟩=some (.int .i64 s.length)) (first|exact⟨hc0',hc1'⟩|exact⟨hc0'',hc1''⟩) (first|(go_at_call 22;refine(z0e_ _ _ hsl).mono ?_;rintro e w3 ⟨rfl,hb3⟩;have hR3:=(HR2.out.drewN 1).below hb3;have hc0'':=hR3.c0;have hc1'':=hR3.c1))
     go_wp2_with fail
     go_ret
     rw[Hty.out]
     exact⟨gT (HEW.out _ _ HB2.out) (gT (z3_ _ 1 _) (z1_ hb3 _)),rfl,s.length,hj,rfl,hR3⟩
end Go.Proofs.YtakfpngfpknedaaGreatDoor
