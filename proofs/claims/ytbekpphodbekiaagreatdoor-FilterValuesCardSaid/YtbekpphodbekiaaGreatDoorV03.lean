import Derived.Test.YtbekpphodbekiaaGreatDoorV02
import Derived.Lib.SplitLaws
set_option linter.all false
set_option maxHeartbeats 8000000
set_option maxRecDepth 100000
namespace Go.Proofs.YtbekpphodbekiaaGreatDoor
open Go.RowKit
def j1_ (n:LU):Option (LU × Int × LL × NormFn):=(xc_ n 0 tab).or ((xc_ n 1 tab).or (xc_ n 2 tab))
def RowAt (w:World) (b:Nat) (x:LU × Int × LL × NormFn):Prop:=
 ∃ fA fN fC nF n1 n2,w.heap[b]?=some (.cells #[.string ⟨x.1.toArray⟩,.int .i64 x.2.1,.slice fA fN fC,.func nF n1 n2] 196 (0,0))∧Texts w (.slice fA fN fC) x.2.2.1∧normIs w (.func nF n1 n2) x.2.2.2
theorem RowAt.below {w w':World} {b:Nat} {x:LU × Int × LL × NormFn} (h:RowAt w b x) (hb:Bel w w'):RowAt w' b x:=by
 obtain⟨fA,fN,fC,nF,n1,n2,h1,h2,h3⟩:=h
 exact⟨fA,fN,fC,nF,n1,n2,(hb.block b (Array.getElem?_eq_some_iff.1 h1).1).trans h1,h2.below hb,h3.below hb⟩
theorem RowAt.lt {w:World} {b:Nat} {x:LU × Int × LL × NormFn} (h:RowAt w b x):b<w.heap.size:=by
 obtain⟨fA,fN,fC,nF,n1,n2,h1,h2,h3⟩:=h
 exact(Array.getElem?_eq_some_iff.1 h1).1
theorem Texts.isSlice {w:World} {v:Value} {xs:LL} (h:Texts w v xs):∃ A n c,v= .slice A n c:=by
 rcases h with ⟨_,rfl⟩|⟨b,c,rfl,_⟩
 ·exact⟨_,_,_,rfl⟩
 ·exact⟨_,_,_,rfl⟩
theorem normIs.isFunc {w:World} {v:Value} {n:NormFn} (h:normIs w v n):∃ F a b,v= .func F a b:=by
 cases n with
 |text fold=>obtain⟨a,rfl,_⟩:=h;exact⟨_,_,_,rfl⟩
 |_=>exact⟨_,_,_,h⟩
def zot_ (w:World) (o:Option (LU × Int × LL × NormFn)) (e:Ending) (w':World):Prop:=
 Bel w w'∧match o with
  |none=>e= .returned (.pointer none)
  |some x=>∃ b,e= .returned (.pointer (some ⟨b,0,none⟩))∧w.heap.size≤b∧RowAt w' b x
theorem zjy_ (l:LU) (w:World) (hl:l.length≤140737488351232):
  Calls Tryz.prog 130 #[.string ⟨l.toArray⟩] w (zot_ w (j1_ (z2_ l))):=by
 go_enter Tryz.func130,Tryz.ntmps130
 go_wp2_with (go_at_call 175;refine(zpc_ w).mono ?_;rintro e w1 ⟨r,es,c,R,rfl,h1,h2,h3,h4⟩)
 have hr1:r<w1.heap.size:=(Array.getElem?_eq_some_iff.1 h1).1
 have H1:=hiD h1
 clear h1
 go_loopg [4] 3 (fun gk i wr=>∃ k:Nat,k≤3∧i= .int .i64 k∧Aside (k+gk=3)∧Bel w1 wr∧Aside (j1_ (z2_ l)=if k=0 then j1_ (z2_ l) else if k=1 then (xc_ (z2_ l) 1 tab).or (xc_ (z2_ l) 2 tab) else if k=2 then xc_ (z2_ l) 2 tab else none))
 case atStart=>exact⟨0,by omega,rfl,by show _=_;omega,bR _ _,by show _=_;simp⟩
 case round=>
  obtain⟨k,hk,rfl,AG,hB,AT⟩:=hrel
  by_cases hk3:k=3
  ·subst hk3
   have hnone:j1_ (z2_ l)=none:=by have:=AT.out;simpa using this
   have Hnone:=hiD hnone
   clear AG hnone
   go_wp2
   go_ret
   rw[Hnone.out]
   exact⟨tQ h4 hB,rfl⟩
  ·obtain⟨q,rfl⟩:∃ q,gk=q+1:=⟨gk - 1,by have:=AG.out;omega⟩
   have hlk:∀ W,Bel w1 W→(Instr.lookup 223 (.map (some r)) (.agg #[.string ⟨(z2_ l).toArray⟩,.int .i64 k]) true).run Tryz.prog W= .ok (match z16_ (z2_ l) k R with|some v=> .tuple #[v,.bool true]|none=> .tuple #[.agg #[.string ⟨#[]⟩,.int .i64 0,.slice none 0 0,.nilFunc],.bool false]) W:=
    fun W hW=>zec_ W r c es R ((hW.block r hr1).trans H1.out) h2 (z2_ l) k
   rcases zg8_ h3 (z2_ l) k with ⟨hT,hR⟩|⟨x,fo,nv,hT,hR,hf,hn⟩
   ·rw[hR] at hlk
    have AT':Aside (j1_ (z2_ l)=if k+1=0 then j1_ (z2_ l) else if k+1=1 then (xc_ (z2_ l) 1 tab).or (xc_ (z2_ l) 2 tab) else if k+1=2 then xc_ (z2_ l) 2 tab else none):=by
     have:=AT.out
     show _=_
     rcases(show k=0∨k=1∨k=2 by omega) with rfl|rfl|rfl
     ·have hT0:xc_ (z2_ l) 0 tab=none:=hT
      simp [j1_,hT0]
     ·have hT0:xc_ (z2_ l) 1 tab=none:=hT
      simp at this;simp [this,hT0]
     ·have hT0:xc_ (z2_ l) 2 tab=none:=hT
      simp at this;simp [this,hT0]
    have Hlk:=hiD hlk
    clear hlk hR hT AT h3 h2
    go_wp2_with (go_at_call 35;refine(yh_ _ _ hl).mono ?_;rintro e w2 ⟨rfl,hb2⟩;have hlk2:=Hlk.out w2 (tQ hB hb2))
    go_roundg q
    case measure=>omega
    case rel=>exact⟨k+1,by omega,by go_num,by have:=AG.out;show _=_;omega,(tQ hB hb2).alloc (nT hB.size hb2.size) _,AT'.out⟩
   ·rw[hR] at hlk
    have hsome:j1_ (z2_ l)=some x:=by
     have:=AT.out
     rcases(show k=0∨k=1∨k=2 by omega) with rfl|rfl|rfl
     ·have hT0:xc_ (z2_ l) 0 tab=some x:=hT
      simp [j1_,hT0]
     ·have hT0:xc_ (z2_ l) 1 tab=some x:=hT
      simp at this;simp [this,hT0]
     ·have hT0:xc_ (z2_ l) 2 tab=some x:=hT
      simp at this;simp [this,hT0]
    obtain⟨fA,fN,fC,rfl⟩:=hf.isSlice
    obtain⟨nF,n1,n2,rfl⟩:=hn.isFunc
    have Hsome:=hiD hsome
    have Hlk:=hiD hlk
    clear hlk hR hT AT h3 h2 hsome
    go_wp2_with (go_at_call 35;refine(yh_ _ _ hl).mono ?_;rintro e w2 ⟨rfl,hb2⟩;have hlk2:=Hlk.out w2 (tQ hB hb2))
    go_ret
    rw[Hsome.out]
    have hb12:Bel w1 w2:=tQ hB hb2
    have hba:=(bR w2.heap.size w2).alloc (nR _) (.cells #[.string ⟨x.1.toArray⟩,.int .i64 x.2.1,.slice fA fN fC,.func nF n1 n2] 196)
    refine⟨(tQ h4 hb12).alloc (nT h4.size hb12.size) _,w2.heap.size,rfl,nT h4.size hb12.size,fA,fN,fC,nF,n1,n2,heap_alloc_new w2 _,(hf.below hb12).below hba,(hn.below hb12).below hba⟩
open Go.RowKit
def z7j_ (n:LU) (k:Int):Option (LU × Int × LL × NormFn):=(j1_ n).filter (fun x=>x.2.1==k)
def AskRet (w:World) (o:Option (LU × Int × LL × NormFn)) (e:Ending) (w':World):Prop:=
 Bel w w'∧match o with
  |none=>e= .returned (.tuple #[.pointer none,.int .i64 41])
  |some x=>∃ b,e= .returned (.tuple #[.pointer (some ⟨b,0,none⟩),.int .i64 0])∧w.heap.size≤b∧RowAt w' b x
theorem z76_ (l:LU) (k:Int) (w:World) (hl:l.length≤140737488351232):
  Calls Tryz.prog 141 #[.string ⟨l.toArray⟩,.int .i64 k] w (AskRet w (z7j_ (z2_ l) k)):=by
 have hc:=zjy_ l w hl
 unfold z7j_
 cases hr:j1_ (z2_ l) with
 |none=>
  rw[hr] at hc
  go_enter Tryz.func141,Tryz.ntmps141
  go_wp2_with (go_at_call 130;refine hc.mono ?_;rintro e w1 ⟨hb,rfl⟩)
  go_ret2
  exact⟨hb,rfl⟩
 |some x=>
  rw[hr] at hc
  by_cases hk:x.2.1=k
  ·have ho:(some x).filter (fun x:LU × Int × LL × NormFn=>x.2.1==k)=some x:=by simp [hk]
   have Ho:=hiD ho
   have hk1:(x.2.1 !=k)=false:=by simp [hk]
   clear ho hr hk
   go_enter Tryz.func141,Tryz.ntmps141
   go_wp2_with (go_at_call 130;refine hc.mono ?_;rintro e w1 ⟨hb,b,rfl,hbb,hrow⟩;obtain⟨fA,fN,fC,nF,n1,n2,h1,h2,h3⟩:=id hrow;have hcell:w1.cell? ⟨b,1,none⟩=some (.int .i64 x.2.1):=by simp [World.cell?,h1])
   go_ret2
   rw[Ho.out]
   exact⟨hb,b,rfl,hbb,hrow⟩
  ·have ho:(some x).filter (fun x:LU × Int × LL × NormFn=>x.2.1==k)=none:=by simp [hk]
   have Ho:=hiD ho
   have hk1:(x.2.1 !=k)=true:=by simp [hk]
   clear ho hr hk
   go_enter Tryz.func141,Tryz.ntmps141
   go_wp2_with (go_at_call 130;refine hc.mono ?_;rintro e w1 ⟨hb,b,rfl,hbb,hrow⟩;obtain⟨fA,fN,fC,nF,n1,n2,h1,h2,h3⟩:=id hrow;have hcell:w1.cell? ⟨b,1,none⟩=some (.int .i64 x.2.1):=by simp [World.cell?,h1])
   go_ret2
   rw[Ho.out]
   exact⟨hb,rfl⟩
def zld_ (n:LU):Value:=match j1_ n with
 |none=> .tuple #[.string ⟨#[]⟩,.int .i64 0,.int .i64 41]
 |some x=> .tuple #[.string ⟨x.1.toArray⟩,.int .i64 x.2.1,.int .i64 0]
theorem zoj_ (l:LU) (w:World) (hl:l.length≤140737488351232):
  Calls Tryz.prog 92 #[.string ⟨l.toArray⟩] w fun e w'=>e= .returned (zld_ (z2_ l))∧Bel w w':=by
 have hc:=zjy_ l w hl
 unfold zld_
 cases hr:j1_ (z2_ l) with
 |none=>
  rw[hr] at hc
  go_enter Tryz.func92,Tryz.ntmps92
  go_wp2_with (go_at_call 130;refine hc.mono ?_;rintro e w1 ⟨hb,rfl⟩)
  go_ret3
  exact⟨rfl,hb⟩
 |some x=>
  rw[hr] at hc
  clear hr
  go_enter Tryz.func92,Tryz.ntmps92
  go_wp2_with (go_at_call 130;refine hc.mono ?_;rintro e w1 ⟨hb,b,rfl,hbb,hrow⟩;obtain⟨fA,fN,fC,nF,n1,n2,h1,h2,h3⟩:=id hrow;have hcell:w1.cell? ⟨b,1,none⟩=some (.int .i64 x.2.1):=(by simp [World.cell?,h1]);have hcell0:w1.cell? ⟨b,0,none⟩=some (.string ⟨x.1.toArray⟩):=(by simp [World.cell?,h1]))
  go_quiet (fail)
  go_wp2
  go_ret3
  exact⟨rfl,zr_ hb _⟩
open Go.RowKit
theorem z9k_ (sep:ByteArray):∀ (k:Nat) (s:ByteArray),∀ x∈Lib.splitB sep 0 k s,x.size≤s.size
 |0,s,x,hx=>by simp [Lib.splitB] at hx;subst hx;exact nR _
 |k+1,s,x,hx=>by
  rw[Lib.splitB] at hx
  split at hx
  ·simp at hx;subst hx;exact nR _
  ·rcases List.mem_cons.1 hx with h|h
   ·subst h;simp [ByteArray.size_extract];omega
   ·have:=z9k_ sep k _ x h
    simp [ByteArray.size_extract] at this
    omega
def zb1_ (l:LU):LL:=(Lib.splitB ⟨#[46]⟩ 0 (Lib.countB ⟨l.toArray⟩ ⟨#[46]⟩) ⟨l.toArray⟩).map (·.data.toList)
theorem zq0_ {l x:LU} (h:x∈zb1_ l):x.length≤l.length:=by
 unfold zb1_ at h
 obtain⟨y,hy,rfl⟩:=List.mem_map.1 h
 have:=z9k_ _ _ _ y hy
 show y.data.size≤l.length
 exact this
theorem ze2_ (l:LU):(zb1_ l).length=Lib.countB ⟨l.toArray⟩ ⟨#[46]⟩+1∧(zb1_ l).length≤l.length+1:=by
 have h1:(zb1_ l).length=Lib.countB ⟨l.toArray⟩ ⟨#[46]⟩+1:=by
  unfold zb1_
  rw[List.length_map]
  exact Lib.splitB_all ⟨#[46]⟩ (by decide) 0 _ _ rfl
 have h2:Lib.countB ⟨l.toArray⟩ ⟨#[46]⟩≤(⟨l.toArray⟩:ByteArray).size:=Lib.countB_le ⟨#[46]⟩ (by decide) _ _ (nR _)
 exact⟨h1,by simp [ByteArray.size] at h2;omega⟩
theorem zp5_ (l:LU) (w:World) (hw:Env w) (hl:l.length≤65536):
  Calls Tryz.prog 158 #[.string ⟨l.toArray⟩,.string ⟨#[46]⟩] w fun e w'=>e= .returned (.slice (some ⟨w.heap.size,0,none⟩) (zb1_ l).length (zb1_ l).length)∧w'=w.alloc (.cells ((zb1_ l).map jp_).toArray 9):=by
 obtain⟨m,hm⟩:=hw.mx
 refine(Tryz.strings_Split ⟨l.toArray⟩ ⟨#[46]⟩ m w (by simp [ByteArray.size];omega) hm (by decide)).mono ?_
 rintro e w' ⟨rfl,rfl⟩
 rw[← (ze2_ l).1]
 refine⟨rfl,?_⟩
 congr 3
 unfold zb1_
 rw[List.map_map]
 refine List.map_congr_left fun x _=>?_
 simp [jp_]
def z2l_ (n:LU):Bool:=!n.isEmpty && !(decide (1<n.length) && n.head?==some 48) && n.all kg_
def z5l_ (l:LU):Bool:=(zb1_ l).all z2l_ && decide (1<(zb1_ l).length)
theorem zqx_ (l:LU) (w:World) (hw:Env w) (hl:l.length≤64):
  Calls Tryz.prog 99 #[.string ⟨l.toArray⟩] w fun e w'=>e= .returned (.bool (z5l_ l))∧Bel w w':=by
 have hget:=qe_
 have hS:=zp5_ l w hw (by omega)
 unfold z5l_
 have hle:∀ x∈zb1_ l,x.length≤l.length:=fun x hx=>zq0_ hx
 have hcnt:=(ze2_ l).2
 generalize zb1_ l=S at *
 have HL:=hiD hle
 clear hle
 go_enter Tryz.func99,Tryz.ntmps99
 go_wp2_with (go_at_call 158;refine hS.mono ?_;rintro e w1 ⟨rfl,rfl⟩)
 have hca:∀ k (hk:k<S.length),(w.alloc (.cells (S.map jp_).toArray 9)).cell? ⟨w.heap.size,k,none⟩=some (.string ⟨S[k].toArray⟩):=by
  intro k hk
  rw[World.cell?_alloc_mark]
  simp [jp_,hk]
 have HC:=hiD hca
 clear hca hS
 have hsz:w.heap.size<(w.alloc (.cells (S.map jp_).toArray 9)).heap.size:=by simp
 have hbw:Bel w (w.alloc (.cells (S.map jp_).toArray 9)):=(bR _ _).alloc (nR _) _
 generalize w.alloc (.cells (S.map jp_).toArray 9)=W at *
 go_loopg [10] S.length (fun gk i wr=>∃ k:Nat,k≤S.length∧i= .int .i64 k∧Aside (k+gk=S.length)∧Bel W wr∧Aside (S.all z2l_=(S.drop k).all z2l_))
 case atStart=>exact⟨0,by omega,rfl,by show _=_;omega,bR _ _,rfl⟩
 case round=>
  obtain⟨k,hk,rfl,AG,hB,AS⟩:=hrel
  have hBB:Bel w wr:=hbw.trans (hB.mono (by omega))
  by_cases hlt:k<S.length
  ·have hcell:wr.cell? ⟨w.heap.size,k,none⟩=some (.string ⟨S[k].toArray⟩):=(hB.cell (p:=⟨w.heap.size,k,none⟩) hsz).trans (HC.out k hlt)
   have hsl:S[k].length≤64:=by have:=HL.out _ (List.getElem_mem hlt);omega
   have AS':Aside (S.all z2l_=(z2l_ S[k] && (S.drop (k+1)).all z2l_)):=by have:=AS.out;rw[List.drop_eq_getElem_cons hlt] at this;exact this
   obtain⟨q,rfl⟩:∃ q,gk=q+1:=⟨gk - 1,by have:=AG.out;omega⟩
   generalize S[k]=n at *
   have hT:=fun w=>Tryz.strings_Trim_set ⟨n.toArray⟩ ⟨#[48,49,50,51,52,53,54,55,56,57]⟩ w (by simp [ByteArray.size];omega) (by decide) (z64_ (by decide))
   simp only at hT
   have hiff:=z0t_ n [48,49,50,51,52,53,54,55,56,57]
   rw[ke_] at hiff
   generalize Lib.trimS n [48,49,50,51,52,53,54,55,56,57]=t at *
   have Hiff:=hiD hiff
   clear hiff AS
   cases n with
   |nil=>
    clear hT
    go_wp2
    go_ret
    exact⟨j7_ (by rw[AS'.out];rfl),hBB⟩
   |cons c m=>
    simp only[List.length_cons] at hsl
    by_cases h48:m≠[]∧c=48
    ·obtain⟨hm,rfl⟩:=h48
     have hml:0<m.length:=List.length_pos_iff.2 hm
     have hso:z2l_ (48::m)=false:=by
      have h1:decide (1<(48::m).length)=true:=by rw[decide_eq_true_eq,List.length_cons];omega
      unfold z2l_;rw[h1];rfl
     have Hso:=hiD hso
     clear hT hso hm
     go_wp2
     go_ret
     exact⟨j7_ (by rw[AS'.out,Hso.out];rfl),hBB⟩
    ·have hno:z2l_ (c::m)=(c::m).all kg_:=by
      unfold z2l_
      have:(!(decide (1<(c::m).length) && (c::m).head?==some 48))=true:=by
       rw[Bool.not_eq_true',Bool.and_eq_false_iff]
       by_cases hm:m=[]
       ·left;subst hm;rfl
       ·right
        have hc:c≠48:=fun h=>h48 ⟨hm,h⟩
        simp [hc]
      rw[this];simp
     have Hno:=hiD hno
     clear hno
     have h48':(m.length=0)∨((c.toNat:Int)==48)=false:=by
      by_cases hm:m=[]
      ·left;simp [hm]
      ·right;rw[beq_eq_false_iff_ne];intro h;exact h48 ⟨hm,UInt8.toNat_inj.1 (show _=48 by omega)⟩
     clear h48
     by_cases ht:t=[]
     ·have hall:(c::m).all kg_=true:=Hiff.out.1 ht
      have Hall:=hiD hall
      subst ht
      clear hall
      rcases h48' with h|h
      ·obtain rfl:m=[]:=List.eq_nil_of_length_eq_zero h
       go_wp2_with (go_at_call 159;refine(hT _).mono ?_;rintro e w2 ⟨rfl,hb2⟩)
       go_roundg q
       case measure=>omega
       case rel=>exact⟨k+1,by omega,by go_num,by have:=AG.out;show _=_;omega,tQ hB hb2,by have:=AS'.out;rw[Hno.out,Hall.out] at this;exact this⟩
      ·go_wp2_with (go_at_call 159;refine(hT _).mono ?_;rintro e w2 ⟨rfl,hb2⟩)
       all_goals
        go_roundg q
        case measure=>omega
        case rel=>exact⟨k+1,by omega,by go_num,by have:=AG.out;show _=_;omega,tQ hB hb2,by have:=AS'.out;rw[Hno.out,Hall.out] at this;exact this⟩
     ·have hall:(c::m).all kg_=false:=by
       cases h:(c::m).all kg_
       ·rfl
       ·exact absurd (Hiff.out.2 h) ht
      have hte:t.isEmpty=false:=by cases t<;>simp_all
      have Hall:=hiD hall
      clear hall ht
      rcases h48' with h|h
      ·obtain rfl:m=[]:=List.eq_nil_of_length_eq_zero h
       go_wp2_with (go_at_call 159;refine(hT _).mono ?_;rintro e w2 ⟨rfl,hb2⟩)
       go_ret
       exact⟨j7_ (by rw[AS'.out,Hno.out,Hall.out];rfl),tQ hBB hb2⟩
      ·go_wp2_with (go_at_call 159;refine(hT _).mono ?_;rintro e w2 ⟨rfl,hb2⟩)
       all_goals
        go_ret
        exact⟨j7_ (by rw[AS'.out,Hno.out,Hall.out];rfl),tQ hBB hb2⟩
  ·obtain rfl:k=S.length:=by omega
   have hs:S.all z2l_=true:=by have:=AS.out;rw[List.drop_length] at this;exact this
   have Hs:=hiD hs
   clear hs AS
   go_wp2
   all_goals
    go_ret
    refine⟨j7_ ?_,hBB⟩
    rw[Hs.out,Bool.true_and]
    show decide ((1:Int)<(S.length:Int))=_
    exact decide_eq_decide.2 (by omega)
def kw_ (c:UInt8):Bool:=yi_ c.toNat && !(c==46)
def zd_ (l:LU):Bool:=match l with
 |[]=>false
 |c::m=>decide ((c::m).length≤64) && (if zly_ c.toNat then (c::m).all kw_ else z5l_ (c::m))
theorem zg7_ (l:LU) (w:World) (h0:0<l.length) (h64:l.length≤64) (hlet:zly_ (l[0].toNat)=true):
  Calls Tryz.prog 50 #[.string ⟨l.toArray⟩] w fun e w'=>e= .returned (.bool (l.all kw_))∧w=w':=by
 have hget:=qe_
 have hne:l.isEmpty=false:=by cases l with|nil=>exact absurd h0 (by simp)|cons _ _=>rfl
 have h0':(0:Int)<(l.length:Int):=by omega
 have hlc:=z1s_ (l[0].toNat) w
 rw[hlet] at hlc
 clear hlet
 go_enter Tryz.func50,Tryz.ntmps50
 go_wp2_with (first|(go_at_call 98;refine hlc.mono ?_;rintro e w1 ⟨rfl,rfl⟩))
 clear hlc
 go_loopg [21] l.length (fun gk i wr=>∃ k:Nat,k≤l.length∧i= .int .i64 k∧Aside (k+gk=l.length)∧Aside (wr=w)∧Aside (l.all kw_=(l.drop k).all kw_))
 case atStart=>exact⟨0,by omega,rfl,by show _=_;omega,rfl,rfl⟩
 case round=>
  obtain⟨k,hk,rfl,AG,AW,AS⟩:=hrel
  obtain rfl:wr=w:=AW.out
  by_cases hlt:k<l.length
  ·have AS':Aside (l.all kw_=(kw_ l[k] && (l.drop (k+1)).all kw_)):=by have:=AS.out;rw[List.drop_eq_getElem_cons hlt] at this;exact this
   obtain⟨q,rfl⟩:∃ q,gk=q+1:=⟨gk - 1,by have:=AG.out;omega⟩
   clear AS
   have hit:=z7n_ (l[k].toNat) wr
   have hpt:kw_ l[k]=(yi_ l[k].toNat && !(l[k]==46)):=rfl
   have Hpt:=hiD hpt
   clear hpt
   cases h1:yi_ l[k].toNat
   ·rw[h1] at hit
    have H1:=hiD h1
    clear h1
    go_wp2_with (first|(go_at_call 100;refine hit.mono ?_;rintro e w1 ⟨rfl,rfl⟩))
    go_ret
    exact⟨j7_ (by rw[AS'.out,Hpt.out,H1.out];rfl),rfl⟩
   ·rw[h1] at hit
    have H1:=hiD h1
    clear h1
    by_cases h46:l[k]=46
    ·have h46':((l[k].toNat:Int)==46)=true:=by rw[h46];rfl
     have hb:(l[k]==46)=true:=by simp [h46]
     have Hb:=hiD hb
     clear h46 hb
     go_wp2_with (first|(go_at_call 100;refine hit.mono ?_;rintro e w1 ⟨rfl,rfl⟩))
     go_ret
     exact⟨j7_ (by rw[AS'.out,Hpt.out,H1.out,Hb.out];rfl),rfl⟩
    ·have h46':((l[k].toNat:Int)==46)=false:=by rw[beq_eq_false_iff_ne];intro h;exact h46 (UInt8.toNat_inj.1 (show _=46 by omega))
     have hb:(l[k]==46)=false:=by simp [h46]
     have Hb:=hiD hb
     clear h46 hb
     go_wp2_with (first|(go_at_call 100;refine hit.mono ?_;rintro e w1 ⟨rfl,rfl⟩))
     go_roundg q
     case measure=>omega
     case rel=>exact⟨k+1,by omega,by go_num,by have:=AG.out;show _=_;omega,rfl,by have:=AS'.out;rw[Hpt.out,H1.out,Hb.out] at this;exact this⟩
  ·obtain rfl:k=l.length:=by omega
   have hs:l.all kw_=true:=by have:=AS.out;rw[List.drop_length] at this;exact this
   have Hs:=hiD hs
   clear hs AS
   go_wp2
   go_ret
   exact⟨j7_ (by rw[Hs.out]),rfl⟩
theorem j5_ (l:LU) (w:World) (hw:Env w) (hl:l.length≤1099511627776):
  Calls Tryz.prog 50 #[.string ⟨l.toArray⟩] w fun e w'=>e= .returned (.bool (zd_ l))∧Bel w w':=by
 cases hl':l with
 |nil=>
  go_enter Tryz.func50,Tryz.ntmps50
  go_wp2
  go_ret
  exact⟨rfl,bR _ _⟩
 |cons c m=>
  rw[← hl']
  have h0:0<l.length:=by rw[hl'];simp
  have hc0:l[0]=c:=by simp [hl']
  have hne:l.isEmpty=false:=by rw[hl'];rfl
  have hty:zd_ l=(decide (l.length≤64) && (if zly_ (l[0].toNat) then l.all kw_ else z5l_ l)):=by rw[hc0];rw[hl'];rfl
  rw[hty]
  clear hl' hty hc0
  have hget:=qe_
  have h0':(0:Int)<(l.length:Int):=by omega
  by_cases h64:l.length≤64
  ·rw[decide_eq_true h64,Bool.true_and]
   cases hlet:zly_ l[0].toNat
   ·have hO:=zqx_ l w hw h64
    have hlc:=z1s_ (l[0].toNat) w
    rw[hlet] at hlc
    clear hlet
    go_enter Tryz.func50,Tryz.ntmps50
    go_wp2_with (first|(go_at_call 98;refine hlc.mono ?_;rintro e w1 ⟨rfl,rfl⟩)|(go_at_call 99;refine hO.mono ?_;rintro e w1 ⟨rfl,hb1⟩))
    go_ret
    exact⟨rfl,hb1⟩
   ·refine(zg7_ l w h0 h64 hlet).mono ?_
    rintro e w' ⟨rfl,rfl⟩
    exact⟨rfl,bR _ _⟩
  ·have h64':(64:Int)<(l.length:Int):=by omega
   rw[decide_eq_false h64,Bool.false_and]
   clear h64
   go_enter Tryz.func50,Tryz.ntmps50
   go_wp2_with fail
   go_ret
   exact⟨rfl,bR _ _⟩
open Go.RowKit
def zjk_:LU:=[49,46,51,46,54,46,49,46,52,46,49,46,49,52,54,54,46,49,49,53,46,49,50,49,46,49,46]
def zia_ (n:LU):LU:=
 if n=[52,48] then [111,99,116,101,116,115] else
 if n=[49,53] then [116,101,120,116] else
 if n=[50,54] then [97,115,99,105,105] else
 if n=[50,55] then [105,110,116,101,103,101,114] else
 if n=[55] then [98,111,111,108,101,97,110] else
 if n=[49,50] then [110,97,109,101] else
 if n=[51,56] then [111,105,100] else
 if n=[50,52] then [116,105,109,101] else
 []
def z7g_ (l:LU):LU:=if Lib.hasPrefix l zjk_ then zia_ (l.drop 27) else []
def z7q_ (l:LU):Int:=if z7g_ l=[] then 52 else 0
theorem zh5_ (n:LU):n=[52,48]∨n=[49,53]∨n=[50,54]∨n=[50,55]∨n=[55]∨n=[49,50]∨n=[51,56]∨n=[50,52]∨((n==[52,48])=false∧(n==[49,53])=false∧(n==[50,54])=false∧(n==[50,55])=false∧(n==[55])=false∧(n==[49,50])=false∧(n==[51,56])=false∧(n==[50,52])=false∧zia_ n=[]):=by
 by_cases h0:n=[52,48]
 ·exact .inl h0
 by_cases h1:n=[49,53]
 ·exact .inr (.inl h1)
 by_cases h2:n=[50,54]
 ·exact .inr (.inr (.inl h2))
 by_cases h3:n=[50,55]
 ·exact .inr (.inr (.inr (.inl h3)))
 by_cases h4:n=[55]
 ·exact .inr (.inr (.inr (.inr (.inl h4))))
 by_cases h5:n=[49,50]
 ·exact .inr (.inr (.inr (.inr (.inr (.inl h5)))))
 by_cases h6:n=[51,56]
 ·exact .inr (.inr (.inr (.inr (.inr (.inr (.inl h6))))))
 by_cases h7:n=[50,52]
 ·exact .inr (.inr (.inr (.inr (.inr (.inr (.inr (.inl h7)))))))
 refine .inr (.inr (.inr (.inr (.inr (.inr (.inr (.inr ?_)))))))
 exact⟨beq_eq_false_iff_ne.2 h0,beq_eq_false_iff_ne.2 h1,beq_eq_false_iff_ne.2 h2,beq_eq_false_iff_ne.2 h3,beq_eq_false_iff_ne.2 h4,beq_eq_false_iff_ne.2 h5,beq_eq_false_iff_ne.2 h6,beq_eq_false_iff_ne.2 h7,by unfold zia_;rw[if_neg h0,if_neg h1,if_neg h2,if_neg h3,if_neg h4,if_neg h5,if_neg h6,if_neg h7]⟩
def strE (s:LU) (e:Int):Value:= .tuple #[.string ⟨s.toArray⟩,.int .i64 e]
theorem zmd_ (l n:LU) (w:World) (hC:Calls Tryz.prog 103 #[.string ⟨l.toArray⟩,.string ⟨#[49,46,51,46,54,46,49,46,52,46,49,46,49,52,54,54,46,49,49,53,46,49,50,49,46,49,46]⟩] w fun e w'=>e= .returned (.tuple #[.string ⟨n.toArray⟩,.bool true])∧w=w'):
  Calls Tryz.prog 124 #[.string ⟨l.toArray⟩] w fun e w'=>e= .returned (strE (zia_ n) (if zia_ n=[] then 52 else 0))∧w=w':=by
 rcases zh5_ n with rfl|rfl|rfl|rfl|rfl|rfl|rfl|rfl|⟨h0,h1,h2,h3,h4,h5,h6,h7,h8⟩
 all_goals try rw[h8]
 all_goals
  go_enter Tryz.func124,Tryz.ntmps124
  go_wp2_with (go_at_call 103;refine hC.mono ?_;rintro e w1 ⟨rfl,rfl⟩)
  go_ret2
  exact⟨rfl,rfl⟩
theorem zl9_ (l n:LU) (w:World) (hC:Calls Tryz.prog 103 #[.string ⟨l.toArray⟩,.string ⟨#[49,46,51,46,54,46,49,46,52,46,49,46,49,52,54,54,46,49,49,53,46,49,50,49,46,49,46]⟩] w fun e w'=>e= .returned (.tuple #[.string ⟨n.toArray⟩,.bool false])∧w=w'):
  Calls Tryz.prog 124 #[.string ⟨l.toArray⟩] w fun e w'=>e= .returned (strE [] 52)∧w=w':=by
 go_enter Tryz.func124,Tryz.ntmps124
 go_wp2_with (go_at_call 103;refine hC.mono ?_;rintro e w1 ⟨rfl,rfl⟩)
 go_ret2
 exact⟨rfl,rfl⟩
theorem zjc_ (l:LU) (w:World):Calls Tryz.prog 124 #[.string ⟨l.toArray⟩] w fun e w'=>e= .returned (strE (z7g_ l) (z7q_ l))∧w=w':=by
 have hC:Calls Tryz.prog 103 #[.string ⟨l.toArray⟩,.string ⟨#[49,46,51,46,54,46,49,46,52,46,49,46,49,52,54,54,46,49,49,53,46,49,50,49,46,49,46]⟩] w fun e w'=>e= .returned (.tuple #[.string ⟨(Lib.trimPrefix l zjk_).toArray⟩,.bool (Lib.hasPrefix l zjk_)])∧w=w':=
  (Tryz.strings_CutPrefix ⟨l.toArray⟩ ⟨#[49,46,51,46,54,46,49,46,52,46,49,46,49,52,54,54,46,49,49,53,46,49,50,49,46,49,46]⟩ w).mono fun _ _ h=>⟨h.1,h.2.symm⟩
 unfold z7q_ z7g_
 cases hp:Lib.hasPrefix l zjk_
 ·rw[hp] at hC;exact zl9_ l _ w hC
 ·rw[hp] at hC
  have ht:Lib.trimPrefix l zjk_=l.drop 27:=by unfold Lib.trimPrefix;rw[hp];rfl
  rw[ht] at hC
  exact zmd_ l _ w hC
def kb_:LU:=[78,65,77,69]
def ka_:LU:=[68,69,83,67]
def z8n_:LU:=[83,85,80]
def zc6_:LU:=[77,85,83,84]
def zp4_:LU:=[77,65,89]
def jj_:LU:=[69,81,85,65,76,73,84,89]
def jm_:LU:=[79,82,68,69,82,73,78,71]
def yw_:LU:=[83,85,66,83,84,82]
def yd_:LU:=[83,89,78,84,65,88]
def q7_:LU:=[83,73,78,71,76,69,45,86,65,76,85,69]
def zk_:LU:=[78,79,45,85,83,69,82,45,77,79,68,73,70,73,67,65,84,73,79,78]
def vh_:LU:=[85,83,65,71,69]
def yr_:LU:=[65,66,83,84,82,65,67,84]
def jz_:LU:=[83,84,82,85,67,84,85,82,65,76]
def xe_:LU:=[65,85,88,73,76,73,65,82,89]
def zb_:LU:=[100,105,114,101,99,116,111,114,121,79,112,101,114,97,116,105,111,110]
def zm_:LU:=[117,115,101,114,65,112,112,108,105,99,97,116,105,111,110,115]
def vj_:LU:=[97,32,107,105,110,100]
abbrev Wd:=LU × Bool
def q3_ (c:UInt8):Bool:=c==32||c==9||c==10||c==13
def vf_ (c:UInt8):Bool:=c==40||c==41||c==36
def xy_ (c:UInt8):Bool:=q3_ c||vf_ c||c==39
def ja_:Nat→LU→List Wd→Option (List Wd)
 |0,_,acc=>some acc
 |n+1,r,acc=>match r.dropWhile q3_ with
  |[]=>some acc
  |c::t=>
   if c==39 then (if t.contains 39 then ja_ n (t.dropWhile (· !=39)).tail (acc++[(t.takeWhile (· !=39),true)]) else none)
   else if vf_ c then ja_ n t (acc++[([c],false)])
   else ja_ n (t.dropWhile (fun c=>!xy_ c)) (acc++[(c::t.takeWhile (fun c=>!xy_ c),false)])
def k9_ (s:LU):Option (List Wd):=ja_ (s.length+1) s []
def rIs (l:List Wd) (s:LU):Bool:=match l with
 |[]=>false
 |(x,q)::_=>x==s && !q
def zi_ (l:List Wd):Option (LU × List Wd):=match l with
 |[]=>none
 |(x,q)::t=>if q||Lib.contains [40,41,36] x then none else some (x,t)
def qf_ (l:List Wd):Option (LU × List Wd):=match l with
 |[]=>none
 |(x,q)::t=>if q then some (x,t) else none
def yb_ (l:List Wd):Option (LU × List Wd):=match zi_ l with
 |none=>none
 |some (s,t)=>if zd_ s then some (s,t) else none
def v8_ (sign:LU) (one:List Wd→Option (LU × List Wd)) (many:Bool):Nat→List Wd→LL→Option (LL × List Wd)
 |0,_,_=>none
 |n+1,l,acc=>match one l with
  |none=>none
  |some (s,t)=>
   if zd_ s then
    (if !many then some (acc++[s],t)
     else if rIs t [41] then some (acc++[s],t.tail)
     else if sign==[] then v8_ sign one many n t (acc++[s])
     else if rIs t sign then v8_ sign one many n t.tail (acc++[s]) else none)
   else none
def x8_ (sign:LU) (one:List Wd→Option (LU × List Wd)) (l:List Wd):Option (LL × List Wd):=
 v8_ sign one (rIs l [40]) (l.length+1) (if rIs l [40] then l.tail else l) []
structure DefS where
 cls:Bool
 oid:LU
 names:LL
 sup:LL
 must:LL
 may:LL
 form:LU
 eqr:LU
 ordr:LU
 subs:LU
 single:Bool
 fixed:Bool
 oper:Bool
 kind:Int
 deriving DecidableEq
def DefS.new (cls:Bool) (oid:LU):DefS:=⟨cls,oid,[],[],[],[],[],[],[],[],false,false,false,1⟩
def z3t_ (k:Int) (l:List Wd):Option (LU × List Wd):=match zi_ l with
 |none=>none
 |some (s,t)=>match j1_ (z2_ s) with
  |none=>none
  |some x=>if x.2.1==k then some (x.1,t) else none
def z8u_ (d:DefS) (f:LU) (l:List Wd):Option (DefS × List Wd):=
 if f=kb_ then (x8_ [] qf_ l).map fun x=>({d with names:=x.1},x.2)
 else if f=ka_ then (qf_ l).map fun x=>(d,x.2)
 else if f=z8n_ then (x8_ [36] yb_ l).map fun x=>({d with sup:=x.1},x.2)
 else if f=zc6_ then (x8_ [36] yb_ l).map fun x=>({d with must:=x.1},x.2)
 else if f=zp4_ then (x8_ [36] yb_ l).map fun x=>({d with may:=x.1},x.2)
 else none
def za0_ (d:DefS) (f:LU) (l:List Wd):Option (DefS × List Wd):=
 if f=kb_ then (x8_ [] qf_ l).map fun x=>({d with names:=x.1},x.2)
 else if f=ka_ then (qf_ l).map fun x=>(d,x.2)
 else if f=z8n_ then (yb_ l).map fun x=>({d with sup:=[x.1]},x.2)
 else if f=jj_ then (z3t_ 0 l).map fun x=>({d with eqr:=x.1},x.2)
 else if f=jm_ then (z3t_ 1 l).map fun x=>({d with ordr:=x.1},x.2)
 else if f=yw_ then (z3t_ 2 l).map fun x=>({d with subs:=x.1},x.2)
 else if f=yd_ then (match zi_ l with
  |none=>none
  |some (s,t)=>if z7q_ s==0 then some ({d with form:=z7g_ s},t) else none)
 else if f=q7_ then some ({d with single:=true},l)
 else if f=zk_ then some ({d with fixed:=true},l)
 else if f=vh_ then (match zi_ l with
  |none=>none
  |some (s,t)=>if s==zb_||s==zm_ then some ({d with oper:=s==zb_},t) else none)
 else none
def qt_ (d:DefS) (f:LU) (l:List Wd):Option (DefS × List Wd):=if d.cls then z8u_ d f l else za0_ d f l
def kc_ (s:LU):Int:=if s=yr_ then 0 else if s=jz_ then 1 else if s=xe_ then 2 else -1
def yn_:Nat→DefS→LL→List Wd→Option DefS
 |0,_,_,_=>none
 |n+1,d,seen,l=>
  if rIs l [41] then (if l.tail=[] then some d else none)
  else match zi_ l with
   |none=>none
   |some (f,t)=>
    if d.cls && decide (0≤kc_ f) then (if seen.contains vj_ then none else yn_ n {d with kind:=kc_ f} (vj_::seen) t)
    else if seen.contains f then none
    else match qt_ d f t with
     |none=>none
     |some (d',t')=>yn_ n d' (f::seen) t'
def z5z_ (s:LU):Bool:=match s with
 |[]=>false
 |c::_=>48≤c && c≤57
def zf5_ (s:LU) (cls:Bool):Option DefS:=match k9_ s with
 |none=>none
 |some l=>if rIs l [40] then (match zi_ l.tail with
  |none=>none
  |some (oid,t)=>if zd_ oid && z5z_ oid then yn_ (t.length+1) (DefS.new cls oid) [] t else none) else none
def DefS.keys (d:DefS):List (Bool × LU):=(d.oid::d.names).map fun n=>(d.cls,z2_ n)
def vv_:List (Bool × LU)→List (Bool × LU)→Bool
 |_,[]=>true
 |M,k::ks=>!M.contains k && vv_ (M++[k]) ks
def zg_ (L:List DefS) (cls:Bool) (n:LU):Option Nat:=L.findIdx? fun d=>d.keys.contains (cls,z2_ n)
def ql_:Nat→Nat→LL→List DefS→(Int × Nat) ⊕ List DefS
 |_,_,[],L=> .inr L
 |na,i,s::rest,L=>match zf5_ s (decide (na≤i)) with
  |none=> .inl (50,i)
  |some d=>if vv_ (L.flatMap DefS.keys) d.keys then ql_ na (i+1) rest (L++[d]) else .inl (51,i)
def xq_ (L:List DefS) (d:DefS):Bool:=d.sup.all (fun n=>(zg_ L d.cls n).isSome) && d.must.all (fun n=>(zg_ L false n).isSome) && d.may.all (fun n=>(zg_ L false n).isSome)
def j2_ (L:List DefS):Nat→Nat→List Nat→List Nat
 |0,_,l=>l
 |n+1,i,l=>if l.contains i then l else match L[i]? with
  |none=>l++[i]
  |some d=>d.sup.foldl (fun l nm=>match zg_ L d.cls nm with
   |none=>l
   |some j=>j2_ L n j l) (l++[i])
def j9_ (L:List DefS) (i:Nat) (l:List Nat):List Nat:=j2_ L (L.length+1) i l
def k6_ (L:List DefS) (i:Nat):Bool:=(j9_ L i []).any fun a=>match L[a]? with
 |none=>false
 |some d=>d.sup.any fun n=>zg_ L d.cls n==some i
def DefS.name (d:DefS):LU:=match d.names with
 |[]=>d.oid
 |n::_=>n
structure AttrS where
 oid:LU
 name:LU
 sup:LU
 names:LL
 form:LU
 eqr:LU
 ordr:LU
 subs:LU
 single:Bool
 fixed:Bool
 oper:Bool
 deriving DecidableEq
def DefS.attr (d:DefS):AttrS:=⟨d.oid,d.name,[],d.names,d.form,d.eqr,d.ordr,d.subs,d.single,d.fixed,d.oper⟩
def orL (a b:LU):LU:=if a=[] then b else a
def AttrS.under (a up:AttrS):AttrS:={a with sup:=up.name,form:=orL a.form up.form,eqr:=orL a.eqr up.eqr,ordr:=orL a.ordr up.ordr,subs:=orL a.subs up.subs}
def qv_ (L:List DefS):Nat→Nat→Option AttrS
 |0,_=>none
 |n+1,i=>match L[i]? with
  |none=>none
  |some d=>match d.sup with
   |[]=>some d.attr
   |s::_=>match zg_ L false s with
    |none=>none
    |some j=>(qv_ L n j).map d.attr.under
def q6_ (L:List DefS) (i:Nat):Option AttrS:=qv_ L (L.length+1) i
def qw_ (r form:LU):Bool:=match j1_ (z2_ r) with
 |none=>false
 |some x=>x.2.2.1.contains form
def z14_ (L:List DefS) (d:DefS) (i:Nat):Bool:=
 if d.cls then !d.sup.any (fun n=>match zg_ L true n with
  |none=>false
  |some j=>match L[j]? with
   |none=>false
   |some u=>u.kind !=0 && u.kind !=d.kind)
 else match q6_ L i with
  |none=>false
  |some a=>[a.eqr,a.ordr,a.subs].all (fun r=>r==[]||qw_ r a.form) && !(a.form==[])
def zdw_ (attrs classes:LL):(Int × Nat) ⊕ List DefS:=
 if 300<attrs.length+classes.length then .inl (2,0)
 else match ql_ attrs.length 0 (attrs++classes) [] with
  | .inl x=> .inl x
  | .inr L=>match L.findIdx? (fun d=>!xq_ L d) with
   |some i=> .inl (52,i)
   |none=>match (List.range L.length).find? (fun i=>k6_ L i) with
    |some i=> .inl (53,i)
    |none=>match (List.range L.length).find? (fun i=>!((L[i]?).map (fun d=>z14_ L d i)).getD false) with
     |some i=> .inl (50,i)
     |none=> .inr L
end Go.Proofs.YtbekpphodbekiaaGreatDoor
