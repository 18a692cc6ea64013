import Derived.Test.YtbekpphodbekiaaGreatDoorV14
set_option linter.all false
set_option maxHeartbeats 8000000
set_option maxRecDepth 100000
namespace Go.Proofs.YtbekpphodbekiaaGreatDoor
open Go.RowKit
theorem z31_ (fold:Bool):∀ (rs acc:List Int),z4u_ fold rs acc=(z4u_ fold rs []).map (acc++·)
 |[],acc=>by simp [z4u_]
 |r::rs,acc=>by
  rw[z4u_,z4u_]
  split
  ·rfl
  ·split
   ·exact z31_ fold rs acc
   ·rw[z31_ fold rs (acc++_),z31_ fold rs ([]++_)]
    cases z4u_ fold rs []<;>simp
theorem map_v (r:Int):((qh_ r).2.2=true∧(zdb_ r).2=2)∨((qh_ r).2.2=false∧(qh_ r).2.1=false∧(zdb_ r).2=1)∨((qh_ r).2.2=false∧(qh_ r).2.1=true∧(zdb_ r).2=0∧(zdb_ r).1=(qh_ r).1):=by
 unfold qh_ zdb_
 repeat' split
 all_goals simp
theorem fold32 (x:Int):zn_ x=32↔x=32:=by
 unfold zn_
 repeat' split
 all_goals omega
theorem z0n_ (fold:Bool):∀ (rs a:List Int),vr_ fold rs a=(z4u_ fold rs []).map (fun L=>z01_ L a)
 |[],a=>rfl
 |r::rs,a=>by
  rcases map_v r with ⟨h1,h2⟩|⟨h1,h2,h3⟩|⟨h1,h2,h3,h4⟩
  ·have hG:z4u_ fold (r::rs) []=none:=by rw[z4u_,if_pos h2]
   have hs:ku_ fold a r=none:=by unfold ku_;rw[if_pos h1]
   rw[vr_,hG,hs];rfl
  ·have hG:z4u_ fold (r::rs) []=z4u_ fold rs []:=by rw[z4u_,if_neg (by omega),if_pos h3]
   have hs:ku_ fold a r=some a:=by unfold ku_;rw[if_neg (by simp [h1]),if_pos (by simp [h2])]
   rw[vr_,hG,hs]
   exact z0n_ fold rs a
  ·have hG:z4u_ fold (r::rs) []=(z4u_ fold rs []).map (fun L=>(if fold then zn_ (qh_ r).1 else (qh_ r).1)::L):=by
    rw[z4u_,if_neg (by omega),if_neg (by omega),h4,z31_];rfl
   have hs:ku_ fold a r=if (qh_ r).1=32∧a.getLast?=some 32 then some a else some (a++[if fold then zn_ (qh_ r).1 else (qh_ r).1]):=by
    unfold ku_;rw[if_neg (by simp [h1]),if_neg (by simp [h2])]
   rw[vr_,hG,hs,Option.map_map]
   generalize (qh_ r).1=x
   have h32:((if fold=true then zn_ x else x)=32)↔x=32:=by cases fold<;>simp [fold32]
   by_cases hc:x=32∧a.getLast?=some 32
   ·rw[if_pos hc]
    have e:((fun L=>z01_ L a) ∘ fun L=>(if fold=true then zn_ x else x)::L)=fun L=>z01_ L a:=by
     funext L
     show z01_ (_::L) a=_
     rw[z01_,if_pos ⟨h32.2 hc.1,hc.2⟩]
    rw[e]
    exact z0n_ fold rs a
   ·rw[if_neg hc]
    have e:((fun L=>z01_ L a) ∘ fun L=>(if fold=true then zn_ x else x)::L)=fun L=>z01_ L (a++[if fold=true then zn_ x else x]):=by
     funext L
     show z01_ (_::L) a=_
     rw[z01_,if_neg (fun h=>hc ⟨h32.1 h.1,h.2⟩)]
    rw[e]
    exact z0n_ fold rs _
theorem zr3_ {L:List Int} (h:NoTwo L):zff_ L=z6h_ (z4v_ L):=by
 have hl:(z4v_ L).head?≠some 32∧∃ a,L=a++z4v_ L∧(a=[]∨a=[32]):=by
  unfold z4v_
  cases L with
  |nil=>exact⟨by simp,[],by simp⟩
  |cons x t=>
   by_cases hx:x=32
   ·subst hx
    simp only[List.head?_cons,if_true,List.tail_cons]
    refine⟨fun e=>?_,[32],by simp⟩
    apply h 0
    constructor
    ·rfl
    ·cases t with
     |nil=>simp at e
     |cons y t=>simpa using e
   ·simp only[List.head?_cons,Option.some.injEq,hx,if_false]
    exact⟨by simp [hx],[],by simp⟩
 obtain⟨h1,a,h2,h3⟩:=hl
 have hnl:NoTwo (z4v_ L):=by
  have:L=a++z4v_ L++[]:=by simpa using h2
  exact NoTwo.infix (this ▸ h)
 generalize z4v_ L=M at *
 have key:zff_ M=z6h_ M:=by
  unfold zff_ z6h_
  rcases List.eq_nil_or_concat M with rfl|⟨b,y,rfl⟩
  ·rfl
  ·rw[List.concat_eq_append] at *
   by_cases hy:y=32
   ·subst hy
    simp only[List.getLast?_append,List.getLast?_singleton,Option.some_or,if_true,List.dropLast_concat,List.reverse_append,List.reverse_singleton,List.singleton_append,List.dropWhile_cons,beq_self_eq_true]
    have hb:b.reverse.head?≠some 32:=by
     rw[List.head?_reverse]
     intro e
     rw[List.getLast?_eq_getElem?] at e
     have hlt:b.length - 1<b.length:=(List.getElem?_eq_some_iff.1 e).1
     apply hnl (b.length - 1)
     constructor
     ·rw[List.getElem?_append_left hlt];exact e
     ·rw[show b.length - 1+1=b.length by omega,List.getElem?_append_right (nR _)];simp
    rw[xb_ 32 b.reverse hb,List.reverse_reverse]
    apply xb_
    cases b with
    |nil=>simp
    |cons z b=>simpa using h1
   ·simp only[List.getLast?_append,List.getLast?_singleton,Option.some_or,Option.some.injEq,hy,if_false]
    rw[xb_ 32 (b++[y]).reverse (by simp [hy]),List.reverse_reverse]
    exact xb_ 32 _ h1
 rw[← key]
 rcases h3 with rfl|rfl
 ·rw[h2];rfl
 ·rw[h2]
  unfold zff_
  simp only[List.singleton_append,List.reverse_cons]
  rcases List.eq_nil_or_concat M with rfl|⟨b,y,rfl⟩
  ·decide
  ·rw[List.concat_eq_append] at *
   by_cases hall:(b++[y]).reverse.dropWhile (·==32)=[]
   ·-- then all of M are blanks:but its head is none
    exfalso
    have hd:∀ x∈(b++[y]).reverse,(x==32)=true:=by
     rw[qy_] at hall
     exact List.all_eq_true.1 hall
    cases hb:b++[y] with
    |nil=>simp at hb
    |cons z t=>
     rw[hb] at h1
     have:=hd z (by rw[hb];simp)
     apply h1
     simp at this ⊢
     exact this
   ·rw[List.dropWhile_append]
    rw[if_neg (by simpa using hall)]
    rw[List.reverse_append]
    simp
def zpb_ (l:LU) (fold:Bool):Option LU:=if Lib.validD l then (z4u_ fold (jn_ l) []).map (fun L=>if z6h_ (z4v_ (z01_ L []))=[]∧l≠[] then [32] else cat (z6h_ (z4v_ (z01_ L [])))) else none
theorem prep_G (l:LU) (fold:Bool):xx_ l fold=zpb_ l fold:=by
 unfold xx_ zpb_
 cases hv:Lib.validD l
 ·unfold qo_;rw[hv];rfl
 ·rw[zjq_ l fold hv,z0n_]
  simp only[if_true]
  cases hm:z4u_ fold (jn_ l) [] with
  |none=>rfl
  |some L=>
   have hm2:vr_ fold (jn_ l) []=some (z01_ L []):=by rw[z0n_,hm];rfl
   have hn:=zd5_ fold (jn_ l) [] _ (z3g_ _ l (nR _) hv).2 (by simp) (by intro i hi;simp at hi) hm2
   simp only[Option.map_some]
   rw[zl1_ _ (fun r hr=>(hn.1 r hr).2.2),zr3_ hn.2]
   by_cases hc:z6h_ (z4v_ (z01_ L []))=[]∧l≠[]
   ·rw[if_pos hc,if_pos ⟨cat_nil.2 hc.1,hc.2⟩]
   ·rw[if_neg hc,if_neg (fun h=>hc ⟨cat_nil.1 h.1,h.2⟩)]
open Go.RowKit
open Go.RowKit Go.Sort
section
variable (f v:LU) (w:World) (hv:v.length≤1024)
set_option maxRecDepth 100000
set_option maxHeartbeats 1000000
end
open Go.RowKit Go.Sort
open Go.RowKit Go.Sort
def jh_ (xs:LL) (i:Nat):LL:=(xs.drop i).take (xs.length - 1 - i)
theorem z6q_ {xs:LL} {i:Nat} (h:i<xs.length - 1):jh_ xs i=xs[i]'(by omega)::jh_ xs (i+1):=by
 unfold jh_
 rw[List.drop_eq_getElem_cons (by omega),show xs.length - 1 - i=(xs.length - 1 - (i+1))+1 by omega,List.take_succ_cons]
theorem zap_ {xs:LL} {i:Nat} (h:xs.length - 1≤i):jh_ xs i=[]:=by
 unfold jh_
 rw[show xs.length - 1 - i=0 by omega,List.take_zero]
open Go.RowKit Go.Sort
open Go.RowKit Go.Sort
def TxA (w:World) (v:Value) (xs:LL):Prop:=
 (xs=[]∧v= .slice none 0 0)∨∃ (a:Addr) (c:Nat),v= .slice (some a) xs.length c∧xs.length≤c∧∀ j (hj:j<xs.length),w.cell? (a.add j)=some (.string ⟨xs[j].toArray⟩)
theorem TxA.below {w w':World} {v:Value} {xs:LL} (h:TxA w v xs) (hb:Bel w w'):TxA w' v xs:=by
 rcases h with h|⟨a,c,rfl,hc,hx⟩
 ·exact .inl h
 ·exact .inr ⟨a,c,rfl,hc,fun j hj=>(hb.cell (z9_ (hx j hj))).trans (hx j hj)⟩
section
variable {ops:Array Oper} {rest:List Oper} {o:Oper} {a:Act} {Q:Exit→Act→World→Prop}
theorem zfp_ {w:World} (hgd:o.guard=none) (s x:Operand) (ho:o.op= .call {callee:= .builtin .append,args:=#[s,x],argTypes:=#[36,36]})
  {v xv:Value} {xs ys:LL} {W0:World} (hs:a.eval s=v) (hb:Strs W0 w v xs)
  (hx:a.eval x=xv) (hy:TxA w xv ys) (hlen:xs.length+ys.length≤8796093022208)
  (h:∀ v' w',Strs W0 w' v' (xs++ys)→w.grownBy w' v.ownBlock→wpList Tryz.prog ops Q rest (a.put o.dst v') w'):wpList Tryz.prog ops Q (o::rest) a w:=by
 obtain⟨i,h1,h2,h3,h4⟩:=k2_
 rcases hy with ⟨rfl,rfl⟩|⟨b,c,rfl,hc,hcell⟩
 ·refine wpList_append_own_none hgd s x 36 ho W0.heap.size 9 i 1 Tryz.underlying36 h1 v _ _ hs hb.1 hx ?_
  exact h v w (by simpa using hb) (World.grownBy.refl _ _)
 ·refine wpList_append_own _ hgd s x 36 ho W0.heap.size 9 i (.string ⟨#[]⟩) 1 16 Tryz.underlying36 h1 h2 h3 h4 rfl (by decide) v _ _ hs hb.1 b ys.length c (ys.map jp_) hx (by simp) ?_ ?_ (by unfold maxLen;omega) (by omega) hb.2.2 ?_
  ·intro j u hj
   have hjl:j<ys.length:=by simpa using (List.getElem?_eq_some_iff.1 hj).1
   rw[hcell j hjl]
   simp [hjl] at hj
   rw[← hj];rfl
  ·intro u hu
   simp at hu
   obtain⟨q,_,rfl⟩:=hu
   rfl
  ·intro v' w' ho' hg _
   refine h v' w' ?_ hg
   exact hb.grown (by simpa using ho') hg
end
def z0z_ (w:World) (r:Int × LL) (e:Ending) (w':World):Prop:=
 Bel w w'∧∃ v,e= .returned (.tuple #[v,.int .i64 r.1])∧Texts w' v r.2
open Go.RowKit Go.Sort
open Go.RowKit Go.Sort
def zcp_ (fold:Bool):LU:=bif fold then [99,97,115,101,73,103,110,111,114,101,83,117,98,115,116,114,105,110,103,115,77,97,116,99,104] else [99,97,115,101,69,120,97,99,116,83,117,98,115,116,114,105,110,103,115,77,97,116,99,104]
def zj7_ (xs:LL):LU:=xs.headD []
def zg0_ (xs:LL):LU:=xs.getLastD []
open Go.RowKit Go.Sort
theorem znk_ {xs:LL} (h:0<xs.length):zj7_ xs=xs[0]:=by
 cases xs with
 |nil=>cases h
 |cons x xs=>rfl
theorem zlo_ {xs:LL} (h:xs.length - 1<xs.length):zg0_ xs=xs[xs.length - 1]:=by
 unfold zg0_
 rw[List.getLastD_eq_getLast?,List.getLast?_eq_getElem?,List.getElem?_eq_getElem h]
 rfl
open Go.RowKit Go.Sort
def goP:LU→LL→Bool
 |_,[]=>true
 |s,p::ps=>if Lib.index s p<0 then false else goP (s.drop ((Lib.index s p).toNat+p.length)) ps
def z3w_ (s:LU) (xs:LL) (a z:LU):Bool:=
 if Lib.hasPrefix s a=true then (if Lib.hasSuffix (s.drop a.length) z=true then goP ((s.drop a.length).take ((s.drop a.length).length - z.length)) (jh_ xs 1) else false) else false
theorem zl3_ (s p:LU):Lib.index s p= -1∨(0≤Lib.index s p∧Lib.index s p+p.length≤s.length):=by
 induction s with
 |nil=>
  unfold Lib.index
  cases p with
  |nil=>right;simp
  |cons _ _=>left;rfl
 |cons b l ih=>
  unfold Lib.index
  by_cases h:p.isPrefixOf (b::l)=true
  ·rw[if_pos h]
   right
   have:=(List.isPrefixOf_iff_prefix.1 h).length_le
   exact⟨Int.le_refl _,by omega⟩
  ·rw[if_neg h]
   rcases ih with e|⟨e1,e2⟩
   ·rw[e];left;rfl
   ·have hn:(Lib.index l p== -1)=false:=beq_eq_false_iff_ne.2 (by omega)
    rw[hn]
    right
    simp only[Bool.false_eq_true,if_false,List.length_cons]
    omega
theorem zlp_ (s:LU) (xs:LL) (b c:Nat) (w:World) (hw:Env w) (hs:s.length≤1000000) (hn:2≤xs.length) (hc:xs.length≤c) (hN:xs.length≤8796093022208)
  (hcell:∀ j (hj:j<xs.length),w.cell? ⟨b,j,none⟩=some (.string ⟨xs[j].toArray⟩)) (hxl:∀ x∈xs,x.length≤140737488355328):
  Calls Tryz.prog 157 #[.string ⟨s.toArray⟩,.slice (some ⟨b,0,none⟩) xs.length c] w fun e w'=>e= .returned (.bool (z3w_ s xs (xs[0]'(by omega)) (xs[xs.length - 1]'(by omega))))∧w=w':=by
 have f0:=hcell 0 (by omega)
 have f1:=hcell (xs.length - 1) (by omega)
 have HC:=hiD hcell
 have HXL:=hiD hxl
 clear hcell hxl
 obtain⟨R,hR⟩:∃ R,z3w_ s xs (xs[0]'(by omega)) (xs[xs.length - 1]'(by omega))=R:=⟨_,rfl⟩
 rw[hR]
 unfold z3w_ at hR
 generalize xs[0]'(by omega)=a at *
 generalize xs[xs.length - 1]'(by omega)=z at *
 have HR:=hiD hR
 clear hR
 have hi1:IntKind.i64.wrap ((xs.length:Int) - 1)=((xs.length - 1:Nat):Int):=by
  rw[IntWalk.i64_in _ (by omega)];omega
 have hi2:((xs.length:Int) - 1)=((xs.length - 1:Nat):Int):=by omega
 have hmx:=hw.mx
 obtain⟨mx,hmx⟩:=hmx
 have HP:=hiD (fun W=>Tryz.strings_CutPrefix ⟨s.toArray⟩ ⟨a.toArray⟩ W)
 simp only[Lib.trimPrefix] at HP
 cases hp:Lib.hasPrefix s a
 ·have hRR:R=false:=by rw[← HR.out,hp];rfl
  have HRR:=hiD hRR
  rw[hp] at HP
  clear hRR HR hp
  go_enter Tryz.func157,Tryz.ntmps157
  go_wp2_with (go_at_call 103;refine(HP.out _).mono ?_;rintro e w1 ⟨rfl,rfl⟩)
  go_ret
  exact⟨j7_ HRR.out.symm,rfl⟩
 ·rw[hp] at HP
  simp only[if_true] at HP
  have HS:=hiD (fun W=>Tryz.strings_CutSuffix ⟨(s.drop a.length).toArray⟩ ⟨z.toArray⟩ W (by simp [ByteArray.size];omega))
  simp only[Lib.trimSuffix] at HS
  have hs1:(s.drop a.length).length≤1000000:=by simp;omega
  generalize s.drop a.length=s1 at *
  cases hq:Lib.hasSuffix s1 z
  ·have hRR:R=false:=by rw[← HR.out,hp,hq];rfl
   have HRR:=hiD hRR
   rw[hq] at HS
   clear hRR HR hp hq
   go_enter Tryz.func157,Tryz.ntmps157
   go_wp2_with (first|(go_at_call 103;refine(HP.out _).mono ?_;rintro e w1 ⟨rfl,rfl⟩)|(go_at_call 202;refine(HS.out _).mono ?_;rintro e w1 ⟨rfl,rfl⟩))
   go_ret
   exact⟨j7_ HRR.out.symm,rfl⟩
  ·rw[hq] at HS
   simp only[if_true] at HS
   have hs2:(s1.take (s1.length - z.length)).length≤1000000:=by simp;omega
   have hRR:R=goP (s1.take (s1.length - z.length)) (jh_ xs 1):=by rw[← HR.out,hp,hq];rfl
   have HRR:=hiD hRR
   clear hRR HR hp hq
   generalize s1.take (s1.length - z.length)=S at *
   have hc2:¬ (c=1):=by omega
   go_enter Tryz.func157,Tryz.ntmps157
   go_wp2_with (first|(go_at_call 103;refine(HP.out _).mono ?_;rintro e w1 ⟨rfl,rfl⟩)|(go_at_call 202;refine(HS.out _).mono ?_;rintro e w1 ⟨rfl,rfl⟩))
   clear f0 f1 hs hs1 HP HS hc2
   have HK:=hiD (fun k (hk:k<xs.length - 1 - 1)=>HC.out (1+k) (by omega))
   have HMS:=hiD (fun k (hk:k<xs.length - 1 - 1)=>z6q_ (xs:=xs) (i:=1+k) (by omega))
   have HME:=hiD (fun k (hk:xs.length - 1 - 1≤k)=>zap_ (xs:=xs) (i:=1+k) (by omega))
   have HXK:=hiD (fun k (hk:k<xs.length - 1 - 1)=>HXL.out (xs[1+k]'(by omega)) (List.getElem_mem _))
   have hNb:xs.length - 1 - 1≤8796093022208:=by omega
   have hLast:=hiD (show xs.length - 1 - 1<xs.length from by omega)
   go_loopg [6,42] (xs.length - 1 - 1) (fun gk t i wr=>∃ (k:Nat) (T:LU),k≤xs.length - 1 - 1∧i= .int .i64 k∧t= .string ⟨T.toArray⟩∧T.length≤1000000∧Aside (k+gk=xs.length - 1 - 1)∧w1=wr∧Aside (R=goP T (jh_ xs (1+k))))
   case atStart=>exact⟨0,S,by omega,rfl,rfl,hs2,by show _=_;omega,rfl,HRR.out⟩
   case round=>
    obtain⟨k,T,hk,rfl,rfl,hT,AG,rfl,AT⟩:=hrel
    have hext:=z26_
    by_cases hlt:k<xs.length - 1 - 1
    ·obtain⟨q,rfl⟩:∃ q,gk=q+1:=⟨gk - 1,by have:=AG.out;omega⟩
     have fc:=HK.out k hlt
     have hxk:=HXK.out k hlt
     have AT2:Aside (R=if Lib.index T (xs[1+k]'(by omega))<0 then false else goP (T.drop ((Lib.index T (xs[1+k]'(by omega))).toNat+(xs[1+k]'(by omega)).length)) (jh_ xs (1+k+1))):=by
      show _=_
      rw[AT.out,HMS.out k hlt,goP]
     have HI:=hiD (Tryz.strings_Index ⟨T.toArray⟩ ⟨(xs[1+k]'(by omega)).toArray⟩ mx w1 (by simp [ByteArray.size];omega) hmx)
     have hil:=zl3_ T (xs[1+k]'(by omega))
     simp only at HI
     clear AT
     generalize xs[1+k]'(by omega)=x at *
     generalize Lib.index T x=F at *
     rcases hil with rfl|⟨hF0,hFl⟩
     ·have hR2:R=false:=by rw[AT2.out];rfl
      have HR2:=hiD hR2
      clear hR2 AT2 HRR
      go_wp2_with (go_at_call 171;refine HI.out.mono ?_;rintro e wA ⟨rfl,rfl⟩)
      go_ret
      exact⟨j7_ HR2.out.symm,rfl⟩
     ·obtain⟨f,rfl⟩:∃ f:Nat,F=f:=⟨F.toNat,by omega⟩
      have AT3:Aside (R=goP (T.drop (f+x.length)) (jh_ xs (1+k+1))):=by
       show _=_
       rw[AT2.out,if_neg (by omega)];rfl
      have hfb:(f:Int)+(x.length:Int)≤(T.length:Int):=hFl
      have hsub:sub T (f+x.length) T.length=T.drop (f+x.length):=by
       unfold sub
       rw[List.take_of_length_le (by simp)]
      clear AT2 hFl
      go_wp2_with (go_at_call 171;refine HI.out.mono ?_;rintro e wA ⟨rfl,rfl⟩)
      go_roundg q
      case measure=>omega
      case rel=>exact⟨k+1,T.drop (f+x.length),by omega,by go_num,by rw[hsub],by simp;omega,by have:=AG.out;show _=_;omega,rfl,by rw[show 1+(k+1)=1+k+1 by omega];exact AT3.out⟩
    ·have hR2:R=true:=by rw[AT.out,HME.out k (by omega),goP]
     have HR2:=hiD hR2
     clear hR2 AT HRR
     go_wp2_with fail
     go_ret
     exact⟨j7_ HR2.out.symm,rfl⟩
open Go.RowKit Go.Sort
theorem z7y_ (fold:Bool) (i f:LU) (xs:LL) (v:Value) (w:World) (hx:TxA w v xs) (hN:xs.length≤8796093022208) (hany:xs.any (fun x=>x==[])=true):
  Calls Tryz.prog 93 #[.string ⟨i.toArray⟩,v,.string ⟨f.toArray⟩,.bool fold] w (z0z_ w (1,[])):=by
 rcases hx with ⟨rfl,rfl⟩|⟨a,c,rfl,hc,hcell⟩
 ·cases hany
 have HC:=hiD hcell
 clear hcell
 go_enter Tryz.func93,Tryz.ntmps93
 go_wp2_with fail
 go_loopg [19] xs.length (fun gk t wr=>∃ k:Nat,k≤xs.length∧t= .int .i64 k∧Aside (k+gk=xs.length)∧w=wr∧Aside ((xs.drop k).any (fun x=>x==[])=true))
 case atStart=>exact⟨0,by omega,rfl,by show _=_;omega,rfl,hany⟩
 case round=>
  obtain⟨k,hk,rfl,AG,rfl,AT⟩:=hrel
  have hlt:k<xs.length:=by
   apply Classical.byContradiction
   intro h
   have:=AT.out
   rw[List.drop_eq_nil_of_le (by omega)] at this
   cases this
  obtain⟨q,rfl⟩:∃ q,gk=q+1:=⟨gk - 1,by have:=AG.out;omega⟩
  have fc:=HC.out k hlt
  have AT2:(xs[k]==[]||(xs.drop (k+1)).any (fun x=>x==[]))=true:=by
   have:=AT.out
   rw[List.drop_eq_getElem_cons hlt,List.any_cons] at this
   exact this
  have HA2:=hiD AT2
  clear AT AT2
  generalize xs[k]=x at *
  cases hb:(x==[])
  ·go_wp2_with fail
   go_roundg q
   case measure=>omega
   case rel=>exact⟨k+1,by omega,by go_num,by have:=AG.out;show _=_;omega,rfl,by have:=HA2.out;rw[hb] at this;exact this⟩
  ·go_wp2_with fail
   go_ret2
   exact⟨bR _ _,_,rfl,.inl ⟨rfl,rfl⟩⟩
def y3_ (fold:Bool):LL→LL→Option (LL)
 |[],acc=>some acc
 |x::xs,acc=>(qo_ x fold).bind fun y=>y3_ fold xs (acc++[y])
def zo4_:LU:=[32]
def z2q_ (l:LL):LL:=
 let l1:=l.set 0 (Lib.trimPrefix (l.headD []) zo4_)
 l1.set (l.length - 1) (Lib.trimSuffix (l1.getLastD []) zo4_)
theorem Strs.opened {W0 w:World} {v:Value} {xs:LL} (h:Strs W0 w v xs) (hn:0<xs.length):∃ g cap,v= .slice (some ⟨g,0,none⟩) xs.length cap∧xs.length≤cap∧W0.heap.size≤g∧g<w.heap.size∧(∀ j (hj:j<xs.length),w.cell? ⟨g,j,none⟩=some (.string ⟨xs[j].toArray⟩))∧(∀ j,j<xs.length→w.frozen? ⟨g,j,none⟩=false):=by
 have ht:=h.texts
 obtain⟨⟨h1,h2⟩,_,_⟩:=h
 rcases h2 with ⟨rfl,hz⟩|⟨g,cap,cur,rfl,r2,r3,r4,r5,r6,r7⟩
 ·omega
 ·rcases ht with ⟨rfl,_⟩|⟨b,c,e,hc,hlt,hcell⟩
  ·simp at hn
  ·cases e
   refine⟨g,cap,rfl,hc,r2,hlt,hcell,fun j hj=>?_⟩
   simp only[World.frozen?,r3]
   simp
open Go.RowKit Go.Sort
def resP:Option (LL)→Int × LL
 |none=>(10,[])
 |some l=>(0,z2q_ l)
theorem zlf_ (a b:LU):(Lib.trimPrefix a b).length≤a.length:=by
 unfold Lib.trimPrefix
 split
 ·first|(simp;done)|(simp;omega)
 ·exact nR _
theorem zn2_ (a b:LU):(Lib.trimSuffix a b).length≤a.length:=by
 unfold Lib.trimSuffix
 split
 ·first|(simp;done)|(simp;omega)
 ·exact nR _
theorem z28_ {fold:Bool} {B:Nat}:∀ (xs acc L:LL),y3_ fold xs acc=some L→(∀ x∈xs,x.length≤B)→(∀ y∈acc,y.length≤B)→L.length=acc.length+xs.length∧∀ y∈L,y.length≤B
 |[],acc,L,h,_,ha=>by
  rw[y3_] at h
  cases h
  exact⟨by simp,ha⟩
 |x::xs,acc,L,h,hx,ha=>by
  rw[y3_] at h
  obtain⟨y,h1,h2⟩:=Option.bind_eq_some_iff.1 h
  have:=z28_ xs (acc++[y]) L h2 (fun z hz=>hx z (List.mem_cons_of_mem _ hz)) (fun z hz=>by
   rcases List.mem_append.1 hz with hz|hz
   ·exact ha z hz
   ·rw[List.mem_singleton.1 hz];exact nT (z3p_ h1) (hx x (List.mem_cons_self ..)))
  refine⟨?_,this.2⟩
  rw[this.1]
  simp
  omega
theorem z35_ {l:LL} (h2:2≤l.length):z2q_ l=(l.set 0 (Lib.trimPrefix (l[0]'(by omega)) [32])).set (l.length - 1) (Lib.trimSuffix (l[l.length - 1]'(by omega)) [32]):=by
 unfold z2q_
 have e1:l.headD []=l[0]'(by omega):=by
  cases l with
  |nil=>simp at h2
  |cons x xs=>rfl
 have e2:∀ y,(l.set 0 y).getLastD []=l[l.length - 1]'(by omega):=by
  intro y
  rw[List.getLastD_eq_getLast?,List.getLast?_eq_getElem?,List.length_set,List.getElem?_set_ne (by omega),List.getElem?_eq_getElem (by omega)]
  rfl
 simp only[e1,e2]
 rfl
theorem zhl_ {w:World} {g n cap:Nat} {l:LL} (p q:LU) (h2:2≤l.length) (hn:n=l.length) (hc:n≤cap) (hg:g<w.heap.size) (hcell:∀ j (hj:j<l.length),w.cell? ⟨g,j,none⟩=some (.string ⟨l[j].toArray⟩)):
  Texts ((w.setCell ⟨g,0,none⟩ (.string ⟨p.toArray⟩)).setCell ⟨g,l.length - 1,none⟩ (.string ⟨q.toArray⟩)) (.slice (some ⟨g,0,none⟩) n cap) ((l.set 0 p).set (l.length - 1) q):=by
 subst hn
 refine .inr ⟨g,cap,by simp,by simpa using hc,by simpa [World.setCell] using hg,fun j hj=>?_⟩
 have hj':j<l.length:=by simpa using hj
 by_cases h1:j=l.length - 1
 ·subst h1
  rw[World.cell?_setCell_same _ _ _ (by rw[World.cell?_setCell_other _ _ _ _ (by intro h;injection h with _ h;omega)];exact hcell _ hj')]
  simp
 ·rw[World.cell?_setCell_other _ _ _ _ (by intro h;injection h with _ h;omega)]
  by_cases h0:j=0
  ·subst h0
   rw[World.cell?_setCell_same _ _ _ (hcell 0 hj')]
   rw[List.getElem_set_ne (by omega)]
   simp
  ·rw[World.cell?_setCell_other _ _ _ _ (by intro h;injection h with _ h;omega),hcell j hj']
   rw[List.getElem_set_ne (by omega),List.getElem_set_ne (by omega)]
theorem zfo_ (fold:Bool) (i f:LU) (xs:LL) (v:Value) (w:World) (hw:Env w) (hx:TxA w v xs) (hN:xs.length≤8796093021952) (hany:xs.any (fun x=>x==[])=false)
  (hlen:∀ x∈[i]++xs++[f],x.length≤140737488355328):
  Calls Tryz.prog 93 #[.string ⟨i.toArray⟩,v,.string ⟨f.toArray⟩,.bool fold] w (z0z_ w (resP (y3_ fold ([i]++xs++[f]) []))):=by
 obtain⟨R,hR⟩:∃ R,y3_ fold ([i]++xs++[f]) []=R:=⟨_,rfl⟩
 rw[hR]
 have HR:=hiD hR
 clear hR
 obtain⟨A,c,rfl,hcell⟩:∃ A c,v= .slice A xs.length c∧(∀ j (hj:j<xs.length),∃ a,A=some a∧w.cell? (a.add j)=some (.string ⟨xs[j].toArray⟩)):=by
  rcases hx with ⟨rfl,rfl⟩|⟨a,c,rfl,hc,hcell⟩
  ·exact⟨_,_,rfl,fun j hj=>by simp at hj⟩
  ·exact⟨_,_,rfl,fun j hj=>⟨a,rfl,hcell j hj⟩⟩
 have hne:∀ j (hj:j<xs.length),(xs[j]==[])=false:=by
  intro j hj
  rw[List.any_eq_false] at hany
  have:=hany xs[j] (List.getElem_mem _)
  simpa using this
 have HC:=hiD hcell
 have HX:=hiD hx
 have HNE:=hiD hne
 have HLEN:=hiD hlen
 have HW:=hiD hw
 clear hcell hx hany hne hlen hw
 go_enter Tryz.func93,Tryz.ntmps93
 go_wp2_with fail
 go_loopg [19] xs.length (fun gk t wr=>∃ k:Nat,k≤xs.length∧t= .int .i64 k∧Aside (k+gk=xs.length)∧w=wr)
 case atStart=>exact⟨0,by omega,rfl,by show _=_;omega,rfl⟩
 case round=>
  obtain⟨k,hk,rfl,AG,rfl⟩:=hrel
  by_cases hlt:k<xs.length
  ·obtain⟨q,rfl⟩:∃ q,gk=q+1:=⟨gk - 1,by have:=AG.out;omega⟩
   obtain⟨a,rfl,fc⟩:=HC.out k hlt
   have hb:=HNE.out k hlt
   generalize xs[k]=x at *
   go_wp2_with fail
   go_roundg q
   case measure=>omega
   case rel=>exact⟨k+1,by omega,by go_num,by have:=AG.out;show _=_;omega,rfl⟩
  ·clear HC HNE AG
   go_wp2_with (first
    |(at_builtin;refine zfp_ rfl _ _ rfl rfl (Strs.made1 w i) rfl (HX.out.below ((bR _ _).alloc (nR _) _)) (by simp;omega) ?_;intro v1 w1 hs1 hg1;obtain⟨g1,cp1,rfl,hcp1,hglt1,hcells1⟩:=hs1.texts.cons;have HS1:=hiD hs1;clear hs1 hg1 hcells1)
    |(at_builtin;refine z81_ rfl _ _ rfl rfl HS1.out rfl (by simp;omega) ?_;intro v2 w2 hs2 hg2;obtain⟨g2,cp2,rfl,hcp2,hglt2,hcells2⟩:=hs2.texts.cons;have HS2:=hiD hs2;clear hs2 hg2))
   have HR2:Hid (y3_ fold (i::([].append xs).append [f]) []=R):=HR
   have HLEN2:Hid (∀ x∈(i::([].append xs).append [f]),x.length≤140737488355328):=HLEN
   have HB2:=hiD HS2.out.below
   have hnl:(i::([].append xs).append [f]).length=xs.length+2:=by simp
   clear HR HLEN HS1 HS2 HX hcp1 hglt1
   generalize i::([].append xs).append [f]=l at *
   have hl2:2≤l.length:=by omega
   have hlN:l.length≤8796093021954:=by omega
   have hnl2:xs.length+1+1=l.length:=by omega
   try rw[hnl2]
   have hnl3:((xs.length:Int)+1+1)=(l.length:Int):=by omega
   try rw[hnl3]
   clear hnl hnl2 hnl3 hN hlt hk
   go_loopg [12,34] l.length (fun gk out t wr=>∃ (k:Nat) (acc:LL),k≤l.length∧t= .int .i64 k∧Aside (k+gk=l.length)∧Strs w2 wr out acc∧acc.length=k∧Aside (∀ y∈acc,y.length≤140737488355328)∧Aside (R=y3_ fold (l.drop k) acc))
   case atStart=>exact⟨0,[],by omega,rfl,by show _=_;omega,Strs.nil _,rfl,(by intro y hy;cases hy),HR2.out.symm⟩
   case round=>
    obtain⟨k2,acc,hk2,rfl,AG2,hO,hacc,AY,AT2⟩:=hrel
    have HO:=hiD hO
    have hB:=hO.below
    have hle:=hO.le
    clear hO
    by_cases hlt2:k2<l.length
    ·obtain⟨q,rfl⟩:∃ q,gk=q+1:=⟨gk - 1,by have:=AG2.out;omega⟩
     have fc:wr.cell? ⟨g2,k2,none⟩=some (.string ⟨l[k2].toArray⟩):=(hB.cell (p:=⟨g2,k2,none⟩) hglt2).trans (hcells2.out k2 hlt2)
     have hxl:l[k2].length≤140737488355328:=HLEN2.out _ (List.getElem_mem _)
     have AT3:Aside (R=(qo_ l[k2] fold).bind fun y=>y3_ fold (l.drop (k2+1)) (acc++[y])):=by
      show _=_
      rw[AT2.out,List.drop_eq_getElem_cons hlt2,y3_]
     have HEW:Hid (Env wr):=hiD ((HW.out.keep HB2.out).keep hB)
     have HM:=hiD (zdy_ l[k2] fold wr HEW.out (by omega))
     clear AT2
     have HML:=hiD (fun (y:LU) (hh:qo_ l[k2] fold=some y)=>nT (z3p_ hh) hxl)
     generalize l[k2]=x at *
     generalize qo_ x fold=o at *
     cases o with
     |none=>
      have hRn:R=none:=AT3.out
      have HRn:=hiD hRn
      clear hRn AT3
      go_wp2_with (go_at_call 154;refine HM.out.mono ?_;rintro e wA ⟨rfl,hbA⟩;unfold qs_)
      go_ret2
      rw[HRn.out]
      exact⟨HB2.out.trans ((hB.trans (hbA.mono hle)).mono HB2.out.size),_,rfl,.inl ⟨rfl,rfl⟩⟩
     |some y=>
      have AT4:Aside (R=y3_ fold (l.drop (k2+1)) (acc++[y])):=AT3.out
      clear AT3
      go_wp2_with (first
       |(go_at_call 154;refine HM.out.mono ?_;rintro e wA ⟨rfl,hbA⟩;unfold qs_;have HO':=hiD (HO.out.grow hbA))
       |(at_builtin;refine z81_ rfl _ _ rfl rfl HO'.out rfl (by omega) ?_;intro v2 w3 hs3 hg3))
      go_roundg q
      case measure=>omega
      case rel=>exact⟨k2+1,acc++[y],by omega,by go_num,by have:=AG2.out;show _=_;omega,hs3,by rw[List.length_append,hacc];rfl,(by intro z hz;rcases List.mem_append.1 hz with hz|hz;exact AY.out z hz;rw[List.mem_singleton.1 hz];exact HML.out y rfl),AT4.out⟩
    ·have hRn:R=some acc:=by rw[AT2.out,List.drop_eq_nil_of_le (by omega),y3_]
     have HRn:=hiD hRn
     clear hRn AT2
     obtain⟨g3,cp3,rfl,hcp3,hg3,hg3l,hcell3,hfr3⟩:=HO.out.opened (by omega)
     have f0:=hcell3 0 (by omega)
     have r0:=hfr3 0 (by omega)
     have f1:=hcell3 (acc.length - 1) (by omega)
     have r1:=hfr3 (acc.length - 1) (by omega)
     have hTP:=Tryz.strings_TrimPrefix ⟨(acc[0]'(by omega)).toArray⟩ ⟨#[32]⟩ wr
     have hTS:=fun W=>Tryz.strings_TrimSuffix ⟨(acc[acc.length - 1]'(by omega)).toArray⟩ ⟨#[32]⟩ W (by have:=AY.out _ (List.getElem_mem (l:=acc) (n:=acc.length - 1) (by omega));simp [ByteArray.size];omega)
     have HTT:=hiD (fun p q=>zhl_ (n:=acc.length) (cap:=cp3) (l:=acc) p q (by omega) rfl hcp3 hg3l hcell3)
     have HTE:=hiD (z35_ (l:=acc) (by omega))
     simp only at hTP hTS
     have HTP:=hiD hTP
     have HTS:=hiD hTS
     clear hTP hTS AY
     have ha2:2≤acc.length:=by omega
     have hab:acc.length≤8796093021954:=by omega
     have hab2:((acc.length - 1:Nat):Int)≤8796093021954:=by omega
     generalize acc[0]'(by omega)=a0 at *
     generalize acc[acc.length - 1]'(by omega)=a1 at *
     generalize Lib.trimPrefix a0 [32]=p0 at *
     generalize Lib.trimSuffix a1 [32]=p1 at *
     have hi1:IntKind.i64.wrap ((acc.length:Int) - 1)=((acc.length - 1:Nat):Int):=by
      rw[IntWalk.i64_in _ (by omega)];omega
     have hi2:((acc.length:Int) - 1)=((acc.length - 1:Nat):Int):=by omega
     have f2:(wr.setCell ⟨g3,0,none⟩ (.string ⟨p0.toArray⟩)).cell? ⟨g3,acc.length - 1,none⟩=some (.string ⟨a1.toArray⟩):=by
      rw[World.cell?_setCell_other _ _ _ _ (by intro h;injection h with _ h;omega)];exact f1
     have r2:(wr.setCell ⟨g3,0,none⟩ (.string ⟨p0.toArray⟩)).frozen? ⟨g3,acc.length - 1,none⟩=false:=by
      rw[World.frozen?_setCell];exact r1
     clear hcell3 hfr3 hacc
     go_wp2_with (first|(go_at_call 155;refine HTP.out.mono ?_;rintro e wA ⟨rfl,hwA⟩;obtain rfl:=hwA)|(go_at_call 156;refine(HTS.out _).mono ?_;rintro e wB ⟨rfl,hwB⟩;obtain rfl:=hwB))
     go_ret2
     rw[HRn.out]
     have hB9:=tQ HB2.out hB
     refine⟨?_,_,rfl,?_⟩
     ·have hgw:w.heap.size≤g3:=nT HB2.out.size hg3
      exact(hB9.setCell (by simpa using hgw) _).setCell (by simpa using hgw) _
     ·show Texts _ _ (z2q_ acc)
      rw[HTE.out]
      exact HTT.out _ _
end Go.Proofs.YtbekpphodbekiaaGreatDoor
