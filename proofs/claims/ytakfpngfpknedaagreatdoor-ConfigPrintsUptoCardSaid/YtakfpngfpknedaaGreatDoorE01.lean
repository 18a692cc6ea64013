import Derived.Test.YtakfpngfpknedaaGreatDoorE00
import Derived.Deep.LoopGhost
import Derived.Lib.MapLaws
import Derived.Deep.QuietTactic
import Derived.BigQuiet
import Derived.Lib.ConvBytes
set_option linter.all false
set_option maxHeartbeats 8000000
set_option maxRecDepth 100000
namespace Go.Proofs.YtakfpngfpknedaaGreatDoor
open Go.RowKit
def x4_ (err:Int):Option LU→Value
 |none=> .tuple #[.string ⟨#[]⟩,.int .i64 err]
 |some m=> .tuple #[.string ⟨m.toArray⟩,.int .i64 0]
theorem kt_ (n:Nat) (l:LU) (h:l≠[]):yp_ (n+1) l=((Lib.decodeL l).1:Int)::yp_ n (l.drop (Lib.decodeL l).2):=by
 cases l with
 |nil=>exact absurd rfl h
 |cons b l=>rfl
theorem jy_ (n:Nat):yp_ n []=[]:=by cases n<;>rfl
theorem z51_ (r:Int):1≤(kc_ r).length∧(kc_ r).length≤4:=by
 unfold kc_ Utf8.encode
 dsimp only
 repeat' split
 all_goals simp
theorem jx_ (l:LU) (h:l≠[]):1≤(Lib.decodeL l).2∧(Lib.decodeL l).2≤l.length∧(Lib.decodeL l).1≤1114111∧Lib.validRune ((Lib.decodeL l).1:Int)=true:=by
 refine⟨?_,Lib.decodeL_le l h,?_⟩
 all_goals
  rw[Lib.decodeL_N]
  have h0:(l.getD 0 0).toNat<256:=UInt8.toNat_lt _
  have h1:(l.getD 1 0).toNat<256:=UInt8.toNat_lt _
  have h2:(l.getD 2 0).toNat<256:=UInt8.toNat_lt _
  have h3:(l.getD 3 0).toNat<256:=UInt8.toNat_lt _
  generalize (l.getD 0 0).toNat=b0 at *
  generalize (l.getD 1 0).toNat=b1 at *
  generalize (l.getD 2 0).toNat=b2 at *
  generalize (l.getD 3 0).toNat=b3 at *
  rcases Lib.decodeN_shape l.length b0 b1 b2 b3 with ⟨c,e⟩|⟨c1,c2,c3,cv,e⟩|⟨c1,c2,c3,c4,cv,cs,e⟩|⟨c1,c2,c3,c4,c5,cv,cw,e⟩|e
  all_goals rw[e]
  all_goals dsimp only
  all_goals first|omega|(refine⟨by omega,?_⟩;unfold Lib.validRune;simp;try omega)
theorem z1e_:∀ (n m:Nat) (l:LU),l.length≤n→l.length≤m→yp_ n l=yp_ m l
 |0,m,l,h,_=>by
  obtain rfl:l=[]:=List.eq_nil_of_length_eq_zero (by omega)
  rw[jy_,jy_]
 |n+1,0,l,_,h=>by
  obtain rfl:l=[]:=List.eq_nil_of_length_eq_zero (by omega)
  rw[jy_,jy_]
 |n+1,m+1,l,hn,hm=>by
  by_cases h:l=[]
  ·subst h;rw[jy_,jy_]
  ·have:=jx_ l h
   rw[kt_ _ _ h,kt_ _ _ h,z1e_ n m _ (by simp;omega) (by simp;omega)]
theorem zba_ (l:LU) (h:l≠[]):z0d_ l=((Lib.decodeL l).1:Int)::z0d_ (l.drop (Lib.decodeL l).2):=by
 have:=jx_ l h
 have hp:0<l.length:=List.length_pos_iff.2 h
 unfold z0d_
 rw[show l.length=(l.length - 1)+1 by omega,kt_ _ _ h,z1e_ _ (l.drop (Lib.decodeL l).2).length _ (by simp;omega) (nR _)]
theorem zfu_ (r:Int) (h0:0≤r) (h1:r≤1114111):0≤(yn_ r).1∧(yn_ r).1≤1114111∧((yn_ r).2.2=false→(yn_ r).2.1=true→(yn_ r).1<0xD800∨0xF8FF<(yn_ r).1):=by
 unfold yn_
 repeat' split
 all_goals (simp only[Bool.false_eq_true,false_implies,implies_true,true_implies,and_true];try omega)
 next h=>unfold zga_ at h;omega
theorem z5d_ (r:Int) (h0:0≤r) (h1:r≤1114111) (h:r<0xD800∨0xF8FF<r):Lib.validRune (jk_ r)=true∧Lib.validRune r=true:=by
 unfold Lib.validRune jk_
 constructor
 ·repeat' split
  all_goals (simp;try omega)
 ·simp;try omega
theorem z14_ {r:Int} (h0:0≤r) (h:r<128):(kc_ r).length≤1:=by
 have hv:Utf8.valid r=true:=by unfold Utf8.valid;simp;omega
 unfold kc_ Utf8.encode
 dsimp only
 rw[if_pos hv,if_pos (by omega)]
 simp
theorem z92_ {r:Int} (h0:0≤r) (h:r<2048):(kc_ r).length≤2:=by
 have hv:Utf8.valid r=true:=by unfold Utf8.valid;simp;omega
 unfold kc_ Utf8.encode
 dsimp only
 rw[if_pos hv]
 split
 ·simp
 ·rw[if_pos (by omega)]
  simp
theorem za5_ {r:Int} (h0:0≤r) (h:r<65536):(kc_ r).length≤3:=by
 have hc:(if Utf8.valid r then r.toNat else Utf8.runeError)<65536:=by
  split
  ·omega
  ·unfold Utf8.runeError;omega
 unfold kc_ Utf8.encode
 dsimp only
 generalize (if Utf8.valid r then r.toNat else Utf8.runeError)=c at *
 repeat' split
 all_goals first|(simp;done)|omega
theorem z4g_ {r:Int} (h0:0≤r) (h:r<128):0≤jk_ r∧jk_ r<128:=by
 unfold jk_
 repeat' split
 all_goals omega
theorem zgw_ {r:Int} (h0:0≤r) (h:r<2048):0≤jk_ r∧jk_ r<2048:=by
 unfold jk_
 repeat' split
 all_goals omega
theorem zi0_ {r:Int} (h0:0≤r) (h:r<65536):0≤jk_ r∧jk_ r<65536:=by
 unfold jk_
 repeat' split
 all_goals omega
theorem zho_ (r:Int):(yn_ r).2.2=false→(yn_ r).2.1=true→(yn_ r).1=32∨((yn_ r).1=r∧¬ zga_ r):=by
 unfold yn_
 repeat' split
 all_goals simp only[Bool.false_eq_true,Bool.true_eq_false,false_implies,implies_true,true_implies,true_or]
 next h=>exact .inr ⟨by trivial,h⟩
theorem zjw_ (l:LU) (h:l≠[]):(yn_ ((Lib.decodeL l).1:Int)).2.2=false→(yn_ ((Lib.decodeL l).1:Int)).2.1=true→
  (kc_ (yn_ ((Lib.decodeL l).1:Int)).1).length≤(Lib.decodeL l).2∧(kc_ (jk_ (yn_ ((Lib.decodeL l).1:Int)).1)).length≤(Lib.decodeL l).2:=by
 intro a b
 have hv:=zho_ _ a b
 have hok:=jx_ l h
 have hsh:((Lib.decodeL l).1<128)∨((Lib.decodeL l).1<2048∧2≤(Lib.decodeL l).2)∨((Lib.decodeL l).1<65536∧3≤(Lib.decodeL l).2)∨4≤(Lib.decodeL l).2∨(Lib.decodeL l).1=65533:=by
  rw[Lib.decodeL_N]
  have h0:(l.getD 0 0).toNat<256:=UInt8.toNat_lt _
  have h1:(l.getD 1 0).toNat<256:=UInt8.toNat_lt _
  have h2:(l.getD 2 0).toNat<256:=UInt8.toNat_lt _
  have h3:(l.getD 3 0).toNat<256:=UInt8.toNat_lt _
  generalize (l.getD 0 0).toNat=b0 at *
  generalize (l.getD 1 0).toNat=b1 at *
  generalize (l.getD 2 0).toNat=b2 at *
  generalize (l.getD 3 0).toNat=b3 at *
  rcases Lib.decodeN_shape l.length b0 b1 b2 b3 with ⟨c,e⟩|⟨c1,c2,c3,cv,e⟩|⟨c1,c2,c3,c4,cv,cs,e⟩|⟨c1,c2,c3,c4,c5,cv,cw,e⟩|e
  all_goals rw[e]
  all_goals dsimp only
  all_goals omega
 clear a b
 generalize (yn_ ((Lib.decodeL l).1:Int)).1=x at *
 generalize (Lib.decodeL l).1=r at *
 generalize (Lib.decodeL l).2=n at *
 have h32:(kc_ 32).length≤1:=z14_ (by decide) (by decide)
 have hf32:(kc_ (jk_ 32)).length≤1:=z14_ (z4g_ (by decide) (by decide)).1 (z4g_ (by decide) (by decide)).2
 rcases hv with rfl|⟨rfl,hr⟩
 ·exact⟨by omega,by omega⟩
 ·have e1:=z51_ (r:Int)
  have e2:=z51_ (jk_ (r:Int))
  rcases hsh with h|⟨h,hn⟩|⟨h,hn⟩|hn|rfl
  ·have f:=z4g_ (r:=(r:Int)) (by omega) (by omega)
   have:=z14_ (r:=(r:Int)) (by omega) (by omega)
   have:=z14_ f.1 f.2
   exact⟨by omega,by omega⟩
  ·have f:=zgw_ (r:=(r:Int)) (by omega) (by omega)
   have:=z92_ (r:=(r:Int)) (by omega) (by omega)
   have:=z92_ f.1 f.2
   exact⟨by omega,by omega⟩
  ·have f:=zi0_ (r:=(r:Int)) (by omega) (by omega)
   have:=za5_ (r:=(r:Int)) (by omega) (by omega)
   have:=za5_ f.1 f.2
   exact⟨by omega,by omega⟩
  ·exact⟨by omega,by omega⟩
  ·exact absurd (show zga_ ((65533:Nat):Int) by unfold zga_;omega) hr
theorem zhr_ (l:LU) (fold:Bool) (w:World) (hw:Env w) (hl:l.length≤140737488355328):
  Calls Tryz.prog 273 #[.string ⟨l.toArray⟩,.bool fold] w fun e w'=>
   e= .returned (x4_ 10 (vu_ l fold))∧Bel w w':=by
 unfold vu_
 cases hv:Lib.validD l
 ·go_enter Tryz.func273,Tryz.ntmps273
  go_wp2_with (go_at_call 257;refine(zcj_ _ _ hw (by omega)).mono ?_;rintro e w1 ⟨rfl,hb1⟩;rw[hv])
  go_ret2
  exact⟨rfl,hb1⟩
 ·simp only[if_true]
  generalize hM:qn_ fold (z0d_ l) []=M
  have HM:=hiD hM
  clear hM
  go_enter Tryz.func273,Tryz.ntmps273
  go_wp2_with (go_at_call 257;refine(zcj_ _ _ hw (by omega)).mono ?_;rintro e w1 ⟨rfl,hb1⟩;rw[hv])
  clear hv
  go_loopg [6] l.length (fun gk v wr=>∃ (k:Nat) (acc:LU),k≤l.length∧Aside (k+gk=l.length)∧Aside (wr.heap[w1.heap.size]?=some (.stringIter ⟨l.toArray⟩ k))∧Buf w wr v acc∧acc.length≤k∧Aside (qn_ fold (z0d_ (l.drop k)) acc=M))
  case atStart=>
   refine⟨0,[],Nat.zero_le _,Nat.zero_add _,World.iter_heap _ _ _,?_,by simp,HM.out⟩
   exact((Buf.nil w).grow hb1).alloc _
  case round=>
   obtain⟨k,acc,hk,AG,AI,hbuf,hacc,AM⟩:=hrel
   have hlk:w.heap.size≤w1.heap.size:=hb1.size
   by_cases hlt:k<l.length
   ·have hne:l.drop k≠[]:=by intro h;have:=congrArg List.length h;simp at this;omega
    obtain⟨hn1,hn2,hr1,hr2⟩:=jx_ _ hne
    have hEN:=zjw_ _ hne
    have hd:=z32_ l k hlt
    have hnx:=fun ty=>Lib.run_next_any_at (P:=Tryz.prog) wr w1.heap.size ⟨l.toArray⟩ k ty AI.out hlt
    rw[hd] at hnx
    have AM':Aside (qn_ fold (((Lib.decodeL (l.drop k)).1:Int)::z0d_ (l.drop (k+(Lib.decodeL (l.drop k)).2))) acc=M):=by
     have:=AM.out
     rw[zba_ _ hne,List.drop_drop] at this
     exact this
    have hbuf':=hbuf.iterAt (q:=k+(Lib.decodeL (l.drop k)).2) AI.out hlk
    have AI':Aside ((wr.iterAt w1.heap.size ⟨l.toArray⟩ (k+(Lib.decodeL (l.drop k)).2)).heap[w1.heap.size]?=some (.stringIter ⟨l.toArray⟩ (k+(Lib.decodeL (l.drop k)).2))):=Lib.iterAt_heap _ _ _ _ _ AI.out
    simp only[List.length_drop] at hn2
    clear hd hne AM AI
    generalize (Lib.decodeL (l.drop k)).2=n at *
    generalize hr:(((Lib.decodeL (l.drop k)).1:Nat):Int)=r at *
    generalize (Lib.decodeL (l.drop k)).1=rn at *
    obtain⟨hm0,hm1,hm2⟩:=zfu_ r (by omega) (by omega)
    clear hr
    generalize hW:wr.iterAt w1.heap.size ⟨l.toArray⟩ (k+n)=W at *
    clear hW
    have hcM:=Map_c r W
    obtain⟨x,st,rf,hmr⟩:∃ x st rf,yn_ r=(x,st,rf):=⟨_,_,_,rfl⟩
    rw[hmr] at hcM hm0 hm1 hm2 hEN
    have AS:Aside (((if rf then none else if !st then some acc else if x=32∧acc.getLast?=some 32 then some acc else some (acc++kc_ (if fold then jk_ x else x))):Option LU).bind (qn_ fold (z0d_ (l.drop (k+n))))=M):=by
     have:=AM'.out
     rw[qn_,zk2_,hmr] at this
     exact this
    have AGn:Aside (k+n+(gk - n)=l.length):=by have:=AG.out;show _=_;omega
    have hgk:n≤gk:=by have:=AG.out;omega
    have hkn:k+n≤l.length:=by omega
    have hB:=hbuf'.below
    clear hmr AM' AG hbuf
    cases rf
    ·cases st
     ·go_wp2_with (go_at_call 293;refine hcM.mono ?_;rintro e w' ⟨rfl,rfl⟩)
      go_roundg (gk - n)
      case measure=>omega
      case rel=>exact⟨k+n,acc,hkn,AGn,AI',hbuf',by omega,AS.out⟩
     ·simp only[true_implies] at hm2 hEN
      by_cases hx:x=32
      ·subst hx
       have hfo:=z5d_ 32 hm0 hm1 hm2
       obtain⟨hel,hef⟩:=hEN
       by_cases hnil:acc=[]
       ·subst hnil
        have ASn:Aside (qn_ fold (z0d_ (l.drop (k+n))) ([]++kc_ (if fold then jk_ 32 else 32))=M):=by
         have:=AS.out
         rw[if_neg (by simp),if_neg (by simp),if_neg (by simp)] at this
         exact this
        obtain⟨Ad,cap,rfl,hcap⟩:=hbuf'.len
        clear AS
        cases fold
        all_goals
         go_wp2_with (first|(go_at_call 293;refine hcM.mono ?_;rintro e w' ⟨rfl,rfl⟩)|(go_at_call 294;refine(zel_ _ _ hm0 hm1).mono ?_;rintro e w' ⟨rfl,rfl⟩)|(go_at_call 295;refine(vn_ _ _ (by first|exact hfo.1|exact hfo.2)).mono ?_;rintro e w' ⟨rfl,rfl⟩)|(at_builtin;refine vp_ rfl _ _ rfl rfl hbuf' rfl (by first|(show 0+(kc_ 32).length≤_;omega)|(show 0+(kc_ (jk_ 32)).length≤_;omega)) ?_;intro v' w' hbuf2 hg2))
         go_roundg (gk - n)
         case measure=>omega
         case rel=>exact⟨k+n,_,hkn,AGn,hbuf'.other hg2 AI'.out (by intro c f h;cases h),hbuf2,by simp;omega,ASn.out⟩
       ·obtain⟨g,cap,rfl,hcap,hg1,hg2,hcell⟩:=hbuf'.cell hnil
        have hpos:0<acc.length:=List.length_pos_iff.2 hnil
        have hlast:=hcell (acc.length - 1) (by omega)
        have hgl:acc.getLast?=some (acc[acc.length - 1]'(by omega)):=by rw[List.getLast?_eq_getElem?,List.getElem?_eq_getElem]
        have hac:((acc.length:Int) - 1).toNat=acc.length - 1:=by omega
        clear hcell hnil
        by_cases h32:acc[acc.length - 1]'(by omega)=32
        ·have ASn:Aside (qn_ fold (z0d_ (l.drop (k+n))) acc=M):=by
          have:=AS.out
          rw[if_neg (by simp),if_neg (by simp),if_pos ⟨rfl,by rw[hgl,h32]⟩] at this
          exact this
         rw[h32] at hlast
         clear AS hgl h32
         go_wp2_with (first|(go_at_call 293;refine hcM.mono ?_;rintro e w' ⟨rfl,rfl⟩))
         go_roundg (gk - n)
         case measure=>omega
         case rel=>exact⟨k+n,_,hkn,AGn,AI'.out,hbuf',by omega,ASn.out⟩
        ·have ASn:Aside (qn_ fold (z0d_ (l.drop (k+n))) (acc++kc_ (if fold then jk_ 32 else 32))=M):=by
          have:=AS.out
          rw[if_neg (by simp),if_neg (by simp),if_neg (by rw[hgl];simp [h32])] at this
          exact this
         have hneq:((acc[acc.length - 1]'(by omega)).toNat:Int)≠32:=by
          intro h;exact h32 (UInt8.toNat_inj.1 (show _=32 by omega))
         generalize ((acc[acc.length - 1]'(by omega)).toNat:Int)=cl at hlast hneq
         have hcl:(cl==32)=false:=by simp [hneq]
         clear AS hgl h32 hneq
         cases fold
         all_goals
          go_wp2_with (first|(go_at_call 293;refine hcM.mono ?_;rintro e w' ⟨rfl,rfl⟩)|(go_at_call 294;refine(zel_ _ _ hm0 hm1).mono ?_;rintro e w' ⟨rfl,rfl⟩)|(go_at_call 295;refine(vn_ _ _ (by first|exact hfo.1|exact hfo.2)).mono ?_;rintro e w' ⟨rfl,rfl⟩)|(at_builtin;refine vp_ rfl _ _ rfl rfl hbuf' rfl (by first|(show acc.length+(kc_ 32).length≤_;omega)|(show acc.length+(kc_ (jk_ 32)).length≤_;omega)) ?_;intro v' w' hbuf2 hg2))
          go_roundg (gk - n)
          case measure=>omega
          case rel=>exact⟨k+n,_,hkn,AGn,hbuf'.other hg2 AI'.out (by intro c f h;cases h),hbuf2,by simp;omega,ASn.out⟩
      ·have hx1:(x==32)=false:=by simp [hx]
       have hfo:=z5d_ x hm0 hm1 hm2
       have ASn:Aside (qn_ fold (z0d_ (l.drop (k+n))) (acc++kc_ (if fold then jk_ x else x))=M):=by
        have:=AS.out
        rw[if_neg (by simp),if_neg (by simp),if_neg (by simp [hx])] at this
        exact this
       clear AS
       cases fold
       ·have hel:=hEN.1
        go_wp2_with (first|(go_at_call 293;refine hcM.mono ?_;rintro e w' ⟨rfl,rfl⟩)|(go_at_call 295;refine(vn_ _ _ hfo.2).mono ?_;rintro e w' ⟨rfl,rfl⟩)|(at_builtin;refine vp_ rfl _ _ rfl rfl hbuf' rfl (show acc.length+(kc_ x).length≤_ by omega) ?_;intro v' w' hbuf2 hg2))
        go_roundg (gk - n)
        case measure=>omega
        case rel=>exact⟨k+n,_,hkn,AGn,hbuf'.other hg2 AI'.out (by intro c f h;cases h),hbuf2,by simp;omega,ASn.out⟩
       ·have hel:=hEN.2
        go_wp2_with (first|(go_at_call 293;refine hcM.mono ?_;rintro e w' ⟨rfl,rfl⟩)|(go_at_call 294;refine(zel_ _ _ hm0 hm1).mono ?_;rintro e w' ⟨rfl,rfl⟩)|(go_at_call 295;refine(vn_ _ _ hfo.1).mono ?_;rintro e w' ⟨rfl,rfl⟩)|(at_builtin;refine vp_ rfl _ _ rfl rfl hbuf' rfl (show acc.length+(kc_ (jk_ x)).length≤_ by omega) ?_;intro v' w' hbuf2 hg2))
        go_roundg (gk - n)
        case measure=>omega
        case rel=>exact⟨k+n,_,hkn,AGn,hbuf'.other hg2 AI'.out (by intro c f h;cases h),hbuf2,by simp;omega,ASn.out⟩
    ·obtain rfl:none=M:=AS.out
     go_wp2_with (go_at_call 293;refine hcM.mono ?_;rintro e w' ⟨rfl,rfl⟩)
     go_ret2
     exact⟨rfl,hB⟩
   ·obtain rfl:k=l.length:=by omega
    obtain rfl:some acc=M:=by have:=AM.out;rw[List.drop_length] at this;exact this
    have hnx:=fun ty=>Lib.run_next_end_at (P:=Tryz.prog) wr w1.heap.size ⟨l.toArray⟩ l.length ty AI.out (by simp [ByteArray.size])
    have hst:=k6_ hbuf
    have hB:=hbuf.below
    clear AM hbuf AI
    go_wp2
    go_ret2
    exact⟨rfl,hB⟩
open Go.RowKit
def z1g_ (l:LU) (fold:Bool):Option LU:=
 match vu_ l fold with
 |none=>none
 |some t=>if Lib.trimB t 32=[]∧l≠[] then some [32] else some (Lib.trimB t 32)
theorem z4y_ {w w':World} (h:w'=w∨w'=w.drew):Bel w w':=by
 rcases h with rfl|rfl
 ·exact bR _ _
 ·exact(bR _ _).drew
theorem encLen (r:List Int) (fold:Bool):∀ acc m,qn_ fold r acc=some m→m.length≤acc.length+4 * r.length:=by
 induction r with
 |nil=>intro acc m h;cases h;simp
 |cons x r ih=>
  intro acc m h
  rw[qn_] at h
  obtain⟨a1,h1,h2⟩:=Option.bind_eq_some_iff.1 h
  have:=ih _ _ h2
  have hl:a1.length≤acc.length+4:=by
   unfold zk2_ at h1
   split at h1
   ·cases h1
   ·split at h1
    ·cases h1;omega
    ·split at h1
     ·cases h1;omega
     ·cases h1
      simp only[List.length_append]
      have:=(z51_ (if fold then jk_ (yn_ x).1 else (yn_ x).1)).2
      omega
  simp;omega
theorem z2u_:∀ (n:Nat) (l:LU),(yp_ n l).length≤n
 |0,_=>by simp [yp_]
 |n+1,[]=>by simp [yp_]
 |n+1,b::l=>by simp [yp_];exact z2u_ n _
theorem z8d_ {l m:LU} {fold:Bool} (h:vu_ l fold=some m):m.length≤4 * l.length:=by
 unfold vu_ at h
 split at h
 ·have:=encLen _ _ _ _ h
  have h2:=z2u_ l.length l
  unfold z0d_ at this
  simp at this;omega
 ·cases h
theorem z25_ (l:LU) (fold:Bool) (w:World) (hw:Env w) (hl:l.length≤1099511627776):
  Calls Tryz.prog 247 #[.string ⟨l.toArray⟩,.bool fold] w fun e w'=>
   e= .returned (x4_ 10 (z1g_ l fold))∧Bel w w':=by
 have hc:=zhr_ l fold w hw (by omega)
 unfold z1g_
 rcases hm:vu_ l fold with _|t
 ·rw[hm] at hc
  clear hm
  simp only[x4_] at hc ⊢
  go_enter Tryz.func247,Tryz.ntmps247
  go_wp2_with (go_at_call 273;refine hc.mono ?_;rintro e w1 ⟨rfl,hb1⟩)
  go_ret2
  exact⟨rfl,hb1⟩
 ·rw[hm] at hc
  have hlen:=z8d_ hm
  clear hm
  simp only[x4_] at hc
  dsimp only
  have hT:=fun w=>Tryz.strings_Trim_one ⟨t.toArray⟩ 32 (by decide) w (by simp [ByteArray.size];omega)
  simp only at hT
  generalize Lib.trimB t 32=t' at *
  by_cases h1:t'=[]
  ·subst h1
   by_cases h2:l=[]
   ·subst h2
    simp only[ne_eq,not_true,and_false,if_false]
    go_enter Tryz.func247,Tryz.ntmps247
    go_wp2_with (first|(go_at_call 273;refine hc.mono ?_;rintro e w1 ⟨rfl,hb1⟩)|(go_at_call 67;refine(hT _).mono ?_;rintro e w2 ⟨rfl,hb2⟩))
    go_ret2
    exact⟨rfl,hb1.trans ((z4y_ hb2).mono hb1.size)⟩
   ·have h3:l.isEmpty=false:=by cases l<;>simp_all
    rw[if_pos ⟨rfl,h2⟩]
    go_enter Tryz.func247,Tryz.ntmps247
    go_wp2_with (first|(go_at_call 273;refine hc.mono ?_;rintro e w1 ⟨rfl,hb1⟩)|(go_at_call 67;refine(hT _).mono ?_;rintro e w2 ⟨rfl,hb2⟩))
    go_ret2
    exact⟨rfl,hb1.trans ((z4y_ hb2).mono hb1.size)⟩
  ·have h3:t'.isEmpty=false:=by cases t'<;>simp_all
   rw[if_neg (fun h=>h1 h.1)]
   go_enter Tryz.func247,Tryz.ntmps247
   go_wp2_with (first|(go_at_call 273;refine hc.mono ?_;rintro e w1 ⟨rfl,hb1⟩)|(go_at_call 67;refine(hT _).mono ?_;rintro e w2 ⟨rfl,hb2⟩))
   go_ret2
   exact⟨rfl,hb1.trans ((z4y_ hb2).mono hb1.size)⟩
open Go.RowKit
def orV (x y:Int):Int:=if x=0 then y else x
theorem Or_c (b:Nat) (x y:Int) (w:World) (h0:w.cell? ⟨b,0,none⟩=some (.int .i64 x)) (h1:w.cell? ⟨b,1,none⟩=some (.int .i64 y)):
  Calls Tryz.prog 210 #[.slice (some ⟨b,0,none⟩) 2 2] w fun e w'=>e= .returned (.int .i64 (orV x y))∧w=w':=by
 go_enter Tryz.func210,Tryz.ntmps210
 go_wp2
 go_loopg [8] 2 (fun gk i wr=>∃ k:Nat,k≤2∧i= .int .i64 k∧Aside (k+gk=2)∧Aside (wr=w)∧Aside (1≤k→x=0)∧Aside (2≤k→y=0))
 case atStart=>exact⟨0,by omega,rfl,rfl,rfl,fun h=>absurd h (by omega),fun h=>absurd h (by omega)⟩
 case round=>
  obtain⟨k,hk,rfl,AG,AW,AX,AY⟩:=hrel
  obtain rfl:wr=w:=AW.out
  have hg:=AG.out
  by_cases hk2:k=2
  ·subst hk2
   have hx:=AX.out (by omega)
   have hy:=AY.out (by omega)
   subst hx;subst hy
   clear hg
   go_wp2
   go_ret
   exact⟨rfl,rfl⟩
  ·by_cases hk1:k=1
   ·subst hk1
    have hx:=AX.out (by omega)
    subst hx
    clear hk2
    by_cases hy:y=0
    ·subst hy
     obtain⟨q,rfl⟩:∃ q,gk=q+1:=⟨gk - 1,by omega⟩
     clear hg
     go_wp2
     go_roundg q
     case measure=>omega
     case rel=>exact⟨2,by omega,rfl,by have:=AG.out;show _=_;omega,rfl,fun _=>by trivial,fun _=>by trivial⟩
    ·have hy1:(y !=0)=true:=by simp [hy]
     clear hg
     go_wp2
     go_ret
     exact⟨zjx_ (by simp [orV]),rfl⟩
   ·obtain rfl:k=0:=by omega
    clear hk2 hk1
    by_cases hx:x=0
    ·subst hx
     obtain⟨q,rfl⟩:∃ q,gk=q+1:=⟨gk - 1,by omega⟩
     clear hg
     go_wp2
     go_roundg q
     case measure=>omega
     case rel=>exact⟨1,by omega,rfl,by have:=AG.out;show _=_;omega,rfl,fun _=>by trivial,fun h=>absurd h (by omega)⟩
    ·have hx1:(x !=0)=true:=by simp [hx]
     clear hg
     go_wp2
     go_ret
     exact⟨zjx_ (by simp [orV,hx]),rfl⟩
/-! digits -/
def je_ (c:UInt8):Bool:=decide (48≤c.toNat) && decide (c.toNat≤57)
def z8c_ (l:LU):Bool:=!l.isEmpty && l.all je_
theorem j8_ {α:Type} (p:α→Bool) (l:List α):l.dropWhile p=[]↔l.all p=true:=by
 induction l with
 |nil=>simp
 |cons a l ih=>
  by_cases h:p a
  ·simp [List.dropWhile_cons,h,ih]
  ·simp [List.dropWhile_cons,h]
theorem v1_ (l cs:LU):Lib.trimS l cs=[]↔l.all (cs.contains ·)=true:=by
 unfold Lib.trimS Lib.trimLeftS Lib.trimRightS
 rw[j8_]
 constructor
 ·intro h
  by_cases h2:(l.reverse.dropWhile (cs.contains ·))=[]
  ·rw[j8_] at h2
   simpa [List.all_reverse] using h2
  ·exfalso
   obtain⟨x,t,hx⟩:=List.exists_cons_of_ne_nil h2
   have hh:=List.head?_dropWhile_not (cs.contains ·) l.reverse
   rw[hx] at hh h
   simp at hh h
   exact absurd h.2 (by simp [hh])
 ·intro h
  have h2:(l.reverse.dropWhile (cs.contains ·))=[]:=by rw[j8_];simpa [List.all_reverse] using h
  rw[h2];rfl
theorem yy_:(fun c:UInt8=>([48,49,50,51,52,53,54,55,56,57]:LU).contains c)=je_:=by
 funext c
 have:∀ n:Fin 256,([48,49,50,51,52,53,54,55,56,57]:LU).contains (UInt8.ofNat n.val)=je_ (UInt8.ofNat n.val):=by decide+kernel
 have h:=this ⟨c.toNat,UInt8.toNat_lt c⟩
 simpa using h
theorem z3u_ {l:LU} (h:l.all (fun b=>decide (b.toNat<128))=true):∀ (j:Nat) b,l[j]?=some b→b.toNat<128:=
 fun _ b hb=>of_decide_eq_true (List.all_eq_true.1 h b (List.mem_of_getElem? hb))
theorem z3k_ (l:LU) (w:World) (hl:l.length≤9223372036854775807):
  Calls Tryz.prog 274 #[.string ⟨l.toArray⟩] w fun e w'=>e= .returned (.bool (z8c_ l))∧Bel w w':=by
 have hT:=Tryz.strings_Trim_set ⟨l.toArray⟩ ⟨#[48,49,50,51,52,53,54,55,56,57]⟩ w (by simpa [ByteArray.size] using hl) (by decide) (z3u_ (by decide))
 simp only at hT
 have hiff:=v1_ l [48,49,50,51,52,53,54,55,56,57]
 rw[yy_] at hiff
 unfold z8c_
 by_cases h0:l=[]
 ·subst h0
  clear hT hiff
  go_enter Tryz.func274,Tryz.ntmps274
  go_wp2
  go_ret
  exact⟨rfl,bR _ _⟩
 ·have he:l.isEmpty=false:=by cases l<;>simp_all
  rw[he]
  have Hiff:=hiD hiff
  clear hiff
  generalize Lib.trimS l [48,49,50,51,52,53,54,55,56,57]=t at *
  go_enter Tryz.func274,Tryz.ntmps274
  go_wp2_with (go_at_call 67;refine hT.mono ?_;rintro e w1 ⟨rfl,hb1⟩)
  go_ret
  exact⟨xd_ (by rw[Bool.eq_iff_iff];simp only[List.isEmpty_iff,Hiff.out,Bool.not_false,Bool.true_and]),hb1⟩
/-! integers -/
def intL (l:LU):Bool:=
 let n:=Lib.trimPrefix l [45]
 z8c_ n && decide (n.length≤40) && (n.head? !=some 48||(n==[48] && !Lib.hasPrefix l [45]))
theorem z7o_ (l:LU) (w:World) (hl:l.length≤65536):
  Calls Tryz.prog 249 #[.string ⟨l.toArray⟩] w fun e w'=>e= .returned (.bool (intL l))∧Bel w w':=by
 have hget:=qb_
 have hC:=Tryz.strings_CutPrefix ⟨l.toArray⟩ ⟨#[45]⟩ w
 simp only at hC
 unfold intL
 dsimp only
 have hn:(Lib.trimPrefix l [45]).length≤65536:=by unfold Lib.trimPrefix;split<;>(try simp)<;>omega
 generalize Lib.trimPrefix l [45]=n at *
 generalize Lib.hasPrefix l [45]=hp at *
 have hD:=z3k_ n w (by omega)
 cases hd:z8c_ n
 ·rw[hd] at hD
  go_enter Tryz.func249,Tryz.ntmps249
  go_wp2_with (first|(go_at_call 233;refine hC.mono ?_;rintro e w1 ⟨rfl,rfl⟩)|(go_at_call 274;refine hD.mono ?_;rintro e w1 ⟨rfl,hb1⟩))
  go_ret
  exact⟨rfl,hb1⟩
 ·rw[hd] at hD
  by_cases h40:n.length≤40
  ·obtain⟨c,m,rfl⟩:∃ c m,n=c::m:=by cases n with|nil=>exact absurd hd (by decide)|cons c m=>exact⟨c,m,rfl⟩
   rw[decide_eq_true h40]
   simp only[List.length_cons] at h40
   by_cases hc:c=48
   ·subst hc
    cases m with
    |nil=>
     cases hp
     all_goals
      go_enter Tryz.func249,Tryz.ntmps249
      go_wp2_with (first|(go_at_call 233;refine hC.mono ?_;rintro e w1 ⟨rfl,rfl⟩)|(go_at_call 274;refine hD.mono ?_;rintro e w1 ⟨rfl,hb1⟩))
      go_ret
      exact⟨rfl,hb1⟩
    |cons c2 m=>
     simp only[List.length_cons] at h40
     have hne:(([48]:LU)==48::c2::m)=false:=by simp
     have hne2:((48::c2::m:LU)==[48])=false:=by simp
     go_enter Tryz.func249,Tryz.ntmps249
     go_wp2_with (first|(go_at_call 233;refine hC.mono ?_;rintro e w1 ⟨rfl,rfl⟩)|(go_at_call 274;refine hD.mono ?_;rintro e w1 ⟨rfl,hb1⟩))
     go_ret
     exact⟨xd_ (by rw[hne2];simp),hb1⟩
   ·have hc1:((c.toNat:Int) !=48)=true:=by
     rw[bne_iff_ne];intro h;exact hc (UInt8.toNat_inj.1 (show _=48 by omega))
    go_enter Tryz.func249,Tryz.ntmps249
    go_wp2_with (first|(go_at_call 233;refine hC.mono ?_;rintro e w1 ⟨rfl,rfl⟩)|(go_at_call 274;refine hD.mono ?_;rintro e w1 ⟨rfl,hb1⟩))
    go_ret
    exact⟨xd_ (by simp [hc]),hb1⟩
  ·go_enter Tryz.func249,Tryz.ntmps249
   go_wp2_with (first|(go_at_call 233;refine hC.mono ?_;rintro e w1 ⟨rfl,rfl⟩)|(go_at_call 274;refine hD.mono ?_;rintro e w1 ⟨rfl,hb1⟩))
   go_ret
   exact⟨xd_ (by simp [h40]),hb1⟩
open Go.RowKit
def z2i_:LU→Int→Int
 |[],n=>n
 |c::l,n=>z2i_ l (10 * n+((c.toNat:Int) - 48))
theorem zfg_ (l:LU) (h:l.all je_=true):∀ n,0≤n→0≤z2i_ l n∧z2i_ l n<(n+1) * 10 ^ l.length:=by
 induction l with
 |nil=>intro n hn;simp [z2i_];omega
 |cons c l ih=>
  intro n hn
  simp only[List.all_cons,Bool.and_eq_true] at h
  have hc:=h.1
  unfold je_ at hc
  simp at hc
  have:=ih h.2 (10 * n+((c.toNat:Int) - 48)) (by omega)
  simp only[z2i_]
  refine⟨this.1,Int.lt_of_lt_of_le this.2 ?_⟩
  simp only[List.length_cons,Int.pow_succ]
  have h10:(0:Int)≤10 ^ l.length:=Int.le_of_lt (Int.pow_pos (by omega))
  calc (10 * n+((c.toNat:Int) - 48)+1) * 10 ^ l.length≤((n+1) * 10) * 10 ^ l.length:=Int.mul_le_mul_of_nonneg_right (by omega) h10
   _=(n+1) * (10 ^ l.length * 10):=by rw[Int.mul_assoc,Int.mul_comm 10]
theorem zi1_ (l:LU) (w:World) (hl:l.length≤4) (hd:l.all je_=true):
  Calls Tryz.prog 275 #[.string ⟨l.toArray⟩] w fun e w'=>e= .returned (.int .i64 (z2i_ l 0))∧w=w':=by
 have hget:=qb_
 go_enter Tryz.func275,Tryz.ntmps275
 have HD:=hiD hd
 clear hd
 go_wp2
 go_loopg [3,7] l.length (fun gk n i wr=>∃ (k:Nat) (m:Int),k≤l.length∧i= .int .i64 k∧n= .int .i64 m∧0≤m∧m≤99999∧Aside (k+gk=l.length)∧Aside (wr=w)∧Aside (z2i_ l 0=z2i_ (l.drop k) m)∧Aside (m<10 ^ k))
 case atStart=>exact⟨0,0,by omega,rfl,rfl,by omega,by omega,by show _=_;omega,rfl,rfl,by show _<_;decide⟩
 case round=>
  obtain⟨k,m,hk,rfl,rfl,hm0,hm1,AG,AW,AN,AB⟩:=hrel
  obtain rfl:wr=w:=AW.out
  by_cases hlt:k<l.length
  ·have hdk:je_ l[k]=true:=List.all_eq_true.1 HD.out _ (List.getElem_mem hlt)
   have AN':Aside (z2i_ l 0=z2i_ (l.drop (k+1)) (10 * m+((l[k].toNat:Int) - 48))):=by
    have:=AN.out
    rw[List.drop_eq_getElem_cons hlt] at this
    exact this
   unfold je_ at hdk
   simp at hdk
   have hkk:k=0∨k=1∨k=2∨k=3:=by omega
   have hmk:m<10 ^ k:=AB.out
   have hm9:m≤999:=by rcases hkk with rfl|rfl|rfl|rfl<;>simp at hmk<;>omega
   have AB':Aside (10 * m+((l[k].toNat:Int) - 48)<10 ^ (k+1)):=by
    show _<_
    rw[Int.pow_succ]
    omega
   obtain⟨q,rfl⟩:∃ q,gk=q+1:=⟨gk - 1,by have:=AG.out;omega⟩
   clear hkk hmk
   obtain⟨hd1,hd2⟩:=hdk
   have hd3:(48:Int)≤(l[k].toNat:Int):=by omega
   have hd4:(l[k].toNat:Int)≤57:=by omega
   clear hd1 hd2
   go_wp2
   go_roundg q
   case measure=>omega
   case rel=>exact⟨k+1,_,by omega,by go_num,rfl,by omega,by omega,by have:=AG.out;show _=_;omega,rfl,AN'.out,AB'.out⟩
  ·obtain rfl:k=l.length:=by omega
   go_wp2
   go_ret
   exact⟨zjx_ (by rw[AN.out,List.drop_length];rfl),rfl⟩
open Go.RowKit
theorem x1_ {P:Program} {f:FuncId} {args:Array Value} {w:World} {n:Nat} {v:Value}
  (h:Calls P f args (w.drewN n) fun e w'=>e= .returned v∧w.drewN n=w'):Calls P f args (w.drewN n) fun e w''=>e= .returned v∧∃ m,w''=w.drewN m:=
 h.mono fun _ _ ⟨he,hm⟩=>⟨he,n,hm.symm⟩
theorem z0_ {B:Nat} {a w:World} (h:Below B a w) (n:Nat):Below B a (w.drewN n):=⟨h.os,h.tape,h.output,h.size,h.block⟩
def sub (l:LU) (a b:Nat):LU:=(l.drop a).take (b - a)
theorem z0x_ (l:LU) (a b:Nat):(⟨l.toArray⟩:ByteArray).extract a b=⟨(sub l a b).toArray⟩:=by
 have h:=Lib.extract_data ⟨l.toArray⟩ a b
 generalize (⟨l.toArray⟩:ByteArray).extract a b=x at h
 cases x with|mk d=>cases d with|mk d=>simp at h;subst h;rfl
theorem z24_ (l:LU) (a b:Nat):(sub l a b).length=min b l.length - a:=by simp [sub];omega
theorem zeu_ {l:LU} {p:UInt8→Bool} {k:Nat} (h:(l.take k).all p=true) {a b:Nat} (hb:b≤k):(sub l a b).all p=true:=by
 rw[List.all_eq_true] at h ⊢
 intro x hx
 refine h x ?_
 unfold sub at hx
 rw[List.mem_iff_getElem?] at hx ⊢
 obtain⟨i,hi⟩:=hx
 rw[List.getElem?_take] at hi
 split at hi
 ·rw[List.getElem?_drop] at hi
  exact⟨a+i,by rw[List.getElem?_take,if_pos (by omega)];exact hi⟩
 ·cases hi
def zcb_ (l:LU):Bool:=
 decide (l.length=15) && z8c_ (sub l 0 14) && (l[14]?==some 90) &&
 (decide (1≤z2i_ (sub l 4 6) 0) && decide (z2i_ (sub l 4 6) 0≤12) && decide (1≤z2i_ (sub l 6 8) 0) && decide (z2i_ (sub l 6 8) 0≤zkm_ (z2i_ (sub l 0 4) 0) (z2i_ (sub l 4 6) 0))) &&
 decide (z2i_ (sub l 8 10) 0<24) && decide (z2i_ (sub l 10 12) 0<60) && decide (z2i_ (sub l 12 14) 0<60)
theorem zfe_ (l:LU) (w:World) (hl:l.length≤65536):
  Calls Tryz.prog 250 #[.string ⟨l.toArray⟩] w fun e w'=>e= .returned (.bool (zcb_ l))∧Bel w w':=by
 have hget:=qb_
 have hext:=z0x_
 by_cases h15:l.length=15
 ·have hD:=z3k_ (sub l 0 14) w (by rw[z24_];omega)
  unfold zcb_
  cases hdg:z8c_ (sub l 0 14)
  ·rw[hdg] at hD
   have h15a:((l.length:Int) !=15)=false:=by simp [h15]
   have h15b:(15:Int)≤(l.length:Int):=by omega
   clear h15
   go_enter Tryz.func250,Tryz.ntmps250
   go_wp2_with (first|(go_at_call 274;refine hD.mono ?_;rintro e w1 ⟨rfl,hb1⟩))
   go_ret
   exact⟨xd_ (by simp),hb1⟩
  rw[hdg] at hD
  have hall:(l.take 14).all je_=true:=by
   unfold z8c_ sub at hdg
   simp only[List.drop_zero,Nat.sub_zero,Bool.and_eq_true] at hdg
   exact hdg.2
  have nA:∀ (a b:Nat) (w:World),b≤14→b - a≤4→Calls Tryz.prog 275 #[.string ⟨(sub l a b).toArray⟩] w fun e w'=>e= .returned (.int .i64 (z2i_ (sub l a b) 0))∧w=w':=
   fun a b w h1 h2=>zi1_ (sub l a b) w (by rw[z24_];omega) (zeu_ hall h1)
  have r0:=zfg_ (sub l 0 4) (zeu_ hall (by omega)) 0 (by omega)
  rw[z24_,h15] at r0
  simp at r0
  have hq0:(0:Int)≤z2i_ (sub l 0 4) 0:=r0.1
  have hq1:z2i_ (sub l 0 4) 0<10000:=r0.2
  have h15a:((l.length:Int) !=15)=false:=by simp [h15]
  have h15b:(15:Int)≤(l.length:Int):=by omega
  have h15c:(l.length:Int)≤15:=by omega
  have h14:14<l.length:=by omega
  have hg14:l[14]?=some l[14]:=List.getElem?_eq_getElem h14
  by_cases hz:l[14]=90
  ·rw[hg14,hz]
   have hz1:((l[14].toNat:Int) !=90)=false:=by rw[hz];rfl
   have H15:=hiD h15
   clear hz hg14 hall h15 r0 hdg
   go_enter Tryz.func250,Tryz.ntmps250
   go_wp2_with (first|(go_at_call 274;refine hD.mono ?_;rintro e w1 ⟨rfl,hb1⟩))
   go_quiet ((go_at_call 275;exact x1_ (nA _ _ _ (by omega) (by omega))))
   go_wp2_with (first|(go_at_call 275;refine(nA _ _ _ (by omega) (by omega)).mono ?_;rintro e w2 ⟨rfl,rfl⟩)|(go_at_call 276;refine(days_c _ _ _ hq0 hq1).mono ?_;rintro e w2 ⟨rfl,rfl⟩))
   all_goals (go_ret;refine⟨xd_ ?_,(hb1.trans (z0_ (bR _ _) nq))⟩)
   all_goals (rw[Bool.eq_iff_iff];simp [H15.out];try omega)
  ·rw[hg14]
   have hz1:((l[14].toNat:Int) !=90)=true:=by rw[bne_iff_ne];intro h;exact hz (UInt8.toNat_inj.1 (show _=90 by omega))
   go_enter Tryz.func250,Tryz.ntmps250
   go_wp2_with (first|(go_at_call 274;refine hD.mono ?_;rintro e w1 ⟨rfl,hb1⟩))
   go_ret
   exact⟨xd_ (by simp [hz]),hb1⟩
 ·have h15a:((l.length:Int) !=15)=true:=by rw[bne_iff_ne];omega
  go_enter Tryz.func250,Tryz.ntmps250
  go_wp2
  go_ret
  exact⟨xd_ (by simp [zcb_,h15]),bR _ _⟩
open Go.RowKit
def lowB (c:UInt8):UInt8:=if 65≤c.toNat∧c.toNat≤90 then c+32 else c
def z2_ (l:LU):LU:=l.map lowB
theorem xt_ (l:LU) (w:World) (hl:l.length≤140737488351232):
  Calls Tryz.prog 116 #[.string ⟨l.toArray⟩] w fun e w'=>e= .returned (.string ⟨(z2_ l).toArray⟩)∧Bel w w':=by
 have hcv:=Lib.run_convert_string_bytes (P:=Tryz.prog) w 9 103 5 ⟨l.toArray⟩ Tryz.underlying9 Tryz.underlying103 Tryz.underlying5
 go_enter Tryz.func116,Tryz.ntmps116
 go_wp2
 clear hcv
 go_loopg [10] l.length (fun gk i wr=>∃ k:Nat,k≤l.length∧i= .int .i64 k∧Aside (k+gk=l.length)∧Bel w wr∧w.heap.size<wr.heap.size∧Aside (∀ j (hj:j<l.length),wr.cell? ⟨w.heap.size,j,none⟩=some (.int .u8 ((if j<k then lowB l[j] else l[j]).toNat)))∧Aside (∀ j,j<l.length→wr.frozen? ⟨w.heap.size,j,none⟩=false))
 case atStart=>
  refine⟨0,by omega,rfl,by show _=_;omega,⟨rfl,rfl,rfl,by rw[Lib.bytesWorld_size];omega,fun k hk=>Lib.bytesWorld_at_old _ _ _ _ hk⟩,by rw[Lib.bytesWorld_size];omega,?_,?_⟩
  ·intro j hj
   rw[Lib.bytesWorld_cell _ _ _ _ hj]
   simp [List.getD,hj]
  ·intro j hj
   simp only[World.frozen?,Lib.bytesWorld_at_new]
   have:j<(Lib.bytesCells w 5 ⟨l.toArray⟩).size:=by simp [Lib.bytesCells];omega
   simp;omega
 case round=>
  obtain⟨k,hk,rfl,AG,hB,hsz,AC,AF⟩:=hrel
  by_cases hlt:k<l.length
  ·have hck:=AC.out k hlt
   rw[if_neg (by omega)] at hck
   have hfk:=AF.out k hlt
   have hcap:=grownCap_ge w l.length 0 5
   obtain⟨q,rfl⟩:∃ q,gk=q+1:=⟨gk - 1,by have:=AG.out;omega⟩
   by_cases hc:65≤l[k].toNat∧l[k].toNat≤90
   ·have hc1:(65:Int)≤(l[k].toNat:Int):=by omega
    have hc2:(l[k].toNat:Int)≤90:=by omega
    go_wp2
    go_roundg q
    case measure=>omega
    case rel=>
     refine⟨k+1,by omega,by go_num,by have:=AG.out;show _=_;omega,hB.setCell (nR _) _,by simpa [World.setCell] using hsz,?_,?_⟩
     ·intro j hj
      by_cases hjk:j=k
      ·subst hjk
       rw[World.cell?_setCell_same _ _ _ hck,if_pos (by omega)]
       simp only[lowB,if_pos hc,UInt8.toNat_add]
       have:(l[j].toNat+(32:UInt8).toNat) % 2 ^ 8=l[j].toNat+32:=by show (l[j].toNat+32) % 256=_;omega
       rw[this];rfl
      ·rw[World.cell?_setCell_other _ _ _ _ (by intro h;injection h with _ h;exact hjk h.symm),AC.out j hj]
       by_cases h:j<k
       ·rw[if_pos h,if_pos (by omega)]
       ·rw[if_neg h,if_neg (by omega)]
     ·intro j hj
      rw[World.frozen?_setCell];exact AF.out j hj
   ·go_wp2
    all_goals
     go_roundg q
     case measure=>omega
     case rel=>
      refine⟨k+1,by omega,by go_num,by have:=AG.out;show _=_;omega,hB,hsz,?_,AF.out⟩
      intro j hj
      rw[AC.out j hj]
      by_cases h:j<k
      ·rw[if_pos h,if_pos (by omega)]
      ·by_cases hjk:j=k
       ·subst hjk
        rw[if_neg h,if_pos (by omega)]
        simp only[lowB,if_neg hc]
       ·rw[if_neg h,if_neg (by omega)]
  ·obtain rfl:k=l.length:=by omega
   have hcap:=grownCap_ge w l.length 0 5
   have hst:=run_convert_bytes_back (P:=Tryz.prog) wr 103 9 5 ⟨w.heap.size,0,none⟩ (grownCap w l.length 0 5) (z2_ l) Tryz.underlying103 Tryz.underlying5 Tryz.underlying9 (by
    intro j hj
    have hj':j<l.length:=by simpa [z2_] using hj
    have hadd:(⟨w.heap.size,0,none⟩:Addr).add j=⟨w.heap.size,j,none⟩:=by unfold Addr.add;split<;>simp_all
    rw[hadd,AC.out j hj',if_pos hj']
    simp [z2_])
   rw[show (z2_ l).length=l.length by simp [z2_]] at hst
   go_wp2
   go_ret
   exact⟨rfl,hB⟩
open Go.RowKit
end Go.Proofs.YtakfpngfpknedaaGreatDoor
