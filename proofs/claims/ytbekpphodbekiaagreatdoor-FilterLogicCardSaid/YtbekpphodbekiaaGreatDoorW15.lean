import Derived.Test.YtbekpphodbekiaaGreatDoorW14
set_option linter.all false
set_option maxHeartbeats 8000000
set_option maxRecDepth 100000
namespace Go.Proofs.YtbekpphodbekiaaGreatDoor
open Go.RowKit Go.Sort
def jz_ (xs:LL) (i:Nat):LL:=(xs.drop i).take (xs.length - 1 - i)
theorem z71_ {xs:LL} {i:Nat} (h:i<xs.length - 1):jz_ xs i=xs[i]'(by omega)::jz_ xs (i+1):=by
 unfold jz_
 rw[List.drop_eq_getElem_cons (by omega),show xs.length - 1 - i=(xs.length - 1 - (i+1))+1 by omega,List.take_succ_cons]
theorem z9m_ {xs:LL} {i:Nat} (h:xs.length - 1≤i):jz_ xs i=[]:=by
 unfold jz_
 rw[show xs.length - 1 - i=0 by omega,List.take_zero]
open Go.RowKit Go.Sort
open Go.RowKit Go.Sort
def TxA (w:World) (v:Value) (xs:LL):Prop:=
 (xs=[]∧v= .slice none 0 0)∨∃ (a:Addr) (c:Nat),v= .slice (some a) xs.length c∧xs.length≤c∧∀ j (hj:j<xs.length),w.cell? (a.add j)=some (.string ⟨xs[j].toArray⟩)
theorem TxA.below {w w':World} {v:Value} {xs:LL} (h:TxA w v xs) (hb:Bel w w'):TxA w' v xs:=by
 rcases h with h|⟨a,c,rfl,hc,hx⟩
 ·exact .inl h
 ·exact .inr ⟨a,c,rfl,hc,fun j hj=>(hb.cell (z9_ (hx j hj))).trans (hx j hj)⟩
section
variable {ops:Array Oper} {rest:List Oper} {o:Oper} {a:Act} {Q:Exit→Act→World→Prop}
theorem ze5_ {w:World} (hgd:o.guard=none) (s x:Operand) (ho:o.op= .call {callee:= .builtin .append,args:=#[s,x],argTypes:=#[36,36]})
  {v xv:Value} {xs ys:LL} {W0:World} (hs:a.eval s=v) (hb:Strs W0 w v xs)
  (hx:a.eval x=xv) (hy:TxA w xv ys) (hlen:xs.length+ys.length≤8796093022208)
  (h:∀ v' w',Strs W0 w' v' (xs++ys)→w.grownBy w' v.ownBlock→wpList Tryz.prog ops Q rest (a.put o.dst v') w'):wpList Tryz.prog ops Q (o::rest) a w:=by
 obtain⟨i,h1,h2,h3,h4⟩:=k0_
 rcases hy with ⟨rfl,rfl⟩|⟨b,c,rfl,hc,hcell⟩
 ·refine wpList_append_own_none hgd s x 36 ho W0.heap.size 9 i 1 Tryz.underlying36 h1 v _ _ hs hb.1 hx ?_
  exact h v w (by simpa using hb) (World.grownBy.refl _ _)
 ·refine wpList_append_own _ hgd s x 36 ho W0.heap.size 9 i (.string ⟨#[]⟩) 1 16 Tryz.underlying36 h1 h2 h3 h4 rfl (by decide) v _ _ hs hb.1 b ys.length c (ys.map jw_) hx (by simp) ?_ ?_ (by unfold maxLen;omega) (by omega) hb.2.2 ?_
  ·intro j u hj
   have hjl:j<ys.length:=by simpa using (List.getElem?_eq_some_iff.1 hj).1
   rw[hcell j hjl]
   simp [hjl] at hj
   rw[← hj];rfl
  ·intro u hu
   simp at hu
   obtain⟨q,_,rfl⟩:=hu
   rfl
  ·intro v' w' ho' hg _
   refine h v' w' ?_ hg
   exact hb.grown (by simpa using ho') hg
end
def z0b_ (w:World) (r:Int × LL) (e:Ending) (w':World):Prop:=
 Bel w w'∧∃ v,e= .returned (.tuple #[v,.int .i64 r.1])∧Texts w' v r.2
open Go.RowKit Go.Sort
open Go.RowKit Go.Sort
def zit_ (fold:Bool):LU:=bif fold then [99,97,115,101,73,103,110,111,114,101,83,117,98,115,116,114,105,110,103,115,77,97,116,99,104] else [99,97,115,101,69,120,97,99,116,83,117,98,115,116,114,105,110,103,115,77,97,116,99,104]
def zka_ (xs:LL):LU:=xs.headD []
def zi1_ (xs:LL):LU:=xs.getLastD []
open Go.RowKit Go.Sort
theorem zjn_ {xs:LL} (h:0<xs.length):zka_ xs=xs[0]:=by
 cases xs with
 |nil=>cases h
 |cons x xs=>rfl
theorem zmf_ {xs:LL} (h:xs.length - 1<xs.length):zi1_ xs=xs[xs.length - 1]:=by
 unfold zi1_
 rw[List.getLastD_eq_getLast?,List.getLast?_eq_getElem?,List.getElem?_eq_getElem h]
 rfl
open Go.RowKit Go.Sort
def goP:LU→LL→Bool
 |_,[]=>true
 |s,p::ps=>if Lib.index s p<0 then false else goP (s.drop ((Lib.index s p).toNat+p.length)) ps
def z4y_ (s:LU) (xs:LL) (a z:LU):Bool:=
 if Lib.hasPrefix s a=true then (if Lib.hasSuffix (s.drop a.length) z=true then goP ((s.drop a.length).take ((s.drop a.length).length - z.length)) (jz_ xs 1) else false) else false
theorem zkj_ (s p:LU):Lib.index s p= -1∨(0≤Lib.index s p∧Lib.index s p+p.length≤s.length):=by
 induction s with
 |nil=>
  unfold Lib.index
  cases p with
  |nil=>right;simp
  |cons _ _=>left;rfl
 |cons b l ih=>
  unfold Lib.index
  by_cases h:p.isPrefixOf (b::l)=true
  ·rw[if_pos h]
   right
   have:=(List.isPrefixOf_iff_prefix.1 h).length_le
   exact⟨Int.le_refl _,by omega⟩
  ·rw[if_neg h]
   rcases ih with e|⟨e1,e2⟩
   ·rw[e];left;rfl
   ·have hn:(Lib.index l p== -1)=false:=beq_eq_false_iff_ne.2 (by omega)
    rw[hn]
    right
    simp only[Bool.false_eq_true,if_false,List.length_cons]
    omega
theorem zjz_ (s:LU) (xs:LL) (b c:Nat) (w:World) (hw:Env w) (hs:s.length≤1000000) (hn:2≤xs.length) (hc:xs.length≤c) (hN:xs.length≤8796093022208)
  (hcell:∀ j (hj:j<xs.length),w.cell? ⟨b,j,none⟩=some (.string ⟨xs[j].toArray⟩)) (hxl:∀ x∈xs,x.length≤140737488355328):
  Calls Tryz.prog 157 #[.string ⟨s.toArray⟩,.slice (some ⟨b,0,none⟩) xs.length c] w fun e w'=>e= .returned (.bool (z4y_ s xs (xs[0]'(by omega)) (xs[xs.length - 1]'(by omega))))∧w=w':=by
 have f0:=hcell 0 (by omega)
 have f1:=hcell (xs.length - 1) (by omega)
 have HC:=hiD hcell
 have HXL:=hiD hxl
 clear hcell hxl
 obtain⟨R,hR⟩:∃ R,z4y_ s xs (xs[0]'(by omega)) (xs[xs.length - 1]'(by omega))=R:=⟨_,rfl⟩
 rw[hR]
 unfold z4y_ at hR
 generalize xs[0]'(by omega)=a at *
 generalize xs[xs.length - 1]'(by omega)=z at *
 have HR:=hiD hR
 clear hR
 have hi1:IntKind.i64.wrap ((xs.length:Int) - 1)=((xs.length - 1:Nat):Int):=by
  rw[IntWalk.i64_in _ (by omega)];omega
 have hi2:((xs.length:Int) - 1)=((xs.length - 1:Nat):Int):=by omega
 have hmx:=hw.mx
 obtain⟨mx,hmx⟩:=hmx
 have HP:=hiD (fun W=>Tryz.strings_CutPrefix ⟨s.toArray⟩ ⟨a.toArray⟩ W)
 simp only[Lib.trimPrefix] at HP
 cases hp:Lib.hasPrefix s a
 ·have hRR:R=false:=by rw[← HR.out,hp];rfl
  have HRR:=hiD hRR
  rw[hp] at HP
  clear hRR HR hp
  go_enter Tryz.func157,Tryz.ntmps157
  go_wp2_with (go_at_call 103;refine(HP.out _).mono ?_;rintro e w1 ⟨rfl,rfl⟩)
  go_ret
  exact⟨j4_ HRR.out.symm,rfl⟩
 ·rw[hp] at HP
  simp only[if_true] at HP
  have HS:=hiD (fun W=>Tryz.strings_CutSuffix ⟨(s.drop a.length).toArray⟩ ⟨z.toArray⟩ W (by simp [ByteArray.size];omega))
  simp only[Lib.trimSuffix] at HS
  have hs1:(s.drop a.length).length≤1000000:=by simp;omega
  generalize s.drop a.length=s1 at *
  cases hq:Lib.hasSuffix s1 z
  ·have hRR:R=false:=by rw[← HR.out,hp,hq];rfl
   have HRR:=hiD hRR
   rw[hq] at HS
   clear hRR HR hp hq
   go_enter Tryz.func157,Tryz.ntmps157
   go_wp2_with (first|(go_at_call 103;refine(HP.out _).mono ?_;rintro e w1 ⟨rfl,rfl⟩)|(go_at_call 202;refine(HS.out _).mono ?_;rintro e w1 ⟨rfl,rfl⟩))
   go_ret
   exact⟨j4_ HRR.out.symm,rfl⟩
  ·rw[hq] at HS
   simp only[if_true] at HS
   have hs2:(s1.take (s1.length - z.length)).length≤1000000:=by simp;omega
   have hRR:R=goP (s1.take (s1.length - z.length)) (jz_ xs 1):=by rw[← HR.out,hp,hq];rfl
   have HRR:=hiD hRR
   clear hRR HR hp hq
   generalize s1.take (s1.length - z.length)=S at *
   have hc2:¬ (c=1):=by omega
   go_enter Tryz.func157,Tryz.ntmps157
   go_wp2_with (first|(go_at_call 103;refine(HP.out _).mono ?_;rintro e w1 ⟨rfl,rfl⟩)|(go_at_call 202;refine(HS.out _).mono ?_;rintro e w1 ⟨rfl,rfl⟩))
   clear f0 f1 hs hs1 HP HS hc2
   have HK:=hiD (fun k (hk:k<xs.length - 1 - 1)=>HC.out (1+k) (by omega))
   have HMS:=hiD (fun k (hk:k<xs.length - 1 - 1)=>z71_ (xs:=xs) (i:=1+k) (by omega))
   have HME:=hiD (fun k (hk:xs.length - 1 - 1≤k)=>z9m_ (xs:=xs) (i:=1+k) (by omega))
   have HXK:=hiD (fun k (hk:k<xs.length - 1 - 1)=>HXL.out (xs[1+k]'(by omega)) (List.getElem_mem _))
   have hNb:xs.length - 1 - 1≤8796093022208:=by omega
   have hLast:=hiD (show xs.length - 1 - 1<xs.length from by omega)
   go_loopg [6,42] (xs.length - 1 - 1) (fun gk t i wr=>∃ (k:Nat) (T:LU),k≤xs.length - 1 - 1∧i= .int .i64 k∧t= .string ⟨T.toArray⟩∧T.length≤1000000∧Aside (k+gk=xs.length - 1 - 1)∧w1=wr∧Aside (R=goP T (jz_ xs (1+k))))
   case atStart=>exact⟨0,S,by omega,rfl,rfl,hs2,by show _=_;omega,rfl,HRR.out⟩
   case round=>
    obtain⟨k,T,hk,rfl,rfl,hT,AG,rfl,AT⟩:=hrel
    have hext:=z42_
    by_cases hlt:k<xs.length - 1 - 1
    ·obtain⟨q,rfl⟩:∃ q,gk=q+1:=⟨gk - 1,by have:=AG.out;omega⟩
     have fc:=HK.out k hlt
     have hxk:=HXK.out k hlt
     have AT2:Aside (R=if Lib.index T (xs[1+k]'(by omega))<0 then false else goP (T.drop ((Lib.index T (xs[1+k]'(by omega))).toNat+(xs[1+k]'(by omega)).length)) (jz_ xs (1+k+1))):=by
      show _=_
      rw[AT.out,HMS.out k hlt,goP]
     have HI:=hiD (Tryz.strings_Index ⟨T.toArray⟩ ⟨(xs[1+k]'(by omega)).toArray⟩ mx w1 (by simp [ByteArray.size];omega) hmx)
     have hil:=zkj_ T (xs[1+k]'(by omega))
     simp only at HI
     clear AT
     generalize xs[1+k]'(by omega)=x at *
     generalize Lib.index T x=F at *
     rcases hil with rfl|⟨hF0,hFl⟩
     ·have hR2:R=false:=by rw[AT2.out];rfl
      have HR2:=hiD hR2
      clear hR2 AT2 HRR
      go_wp2_with (go_at_call 171;refine HI.out.mono ?_;rintro e wA ⟨rfl,rfl⟩)
      go_ret
      exact⟨j4_ HR2.out.symm,rfl⟩
     ·obtain⟨f,rfl⟩:∃ f:Nat,F=f:=⟨F.toNat,by omega⟩
      have AT3:Aside (R=goP (T.drop (f+x.length)) (jz_ xs (1+k+1))):=by
       show _=_
       rw[AT2.out,if_neg (by omega)];rfl
      have hfb:(f:Int)+(x.length:Int)≤(T.length:Int):=hFl
      have hsub:sub T (f+x.length) T.length=T.drop (f+x.length):=by
       unfold sub
       rw[List.take_of_length_le (by simp)]
      clear AT2 hFl
      go_wp2_with (go_at_call 171;refine HI.out.mono ?_;rintro e wA ⟨rfl,rfl⟩)
      go_roundg q
      case measure=>omega
      case rel=>exact⟨k+1,T.drop (f+x.length),by omega,by go_num,by rw[hsub],by simp;omega,by have:=AG.out;show _=_;omega,rfl,by rw[show 1+(k+1)=1+k+1 by omega];exact AT3.out⟩
    ·have hR2:R=true:=by rw[AT.out,HME.out k (by omega),goP]
     have HR2:=hiD hR2
     clear hR2 AT HRR
     go_wp2_with fail
     go_ret
     exact⟨j4_ HR2.out.symm,rfl⟩
open Go.RowKit Go.Sort
theorem z6o_ (fold:Bool) (i f:LU) (xs:LL) (v:Value) (w:World) (hx:TxA w v xs) (hN:xs.length≤8796093022208) (hany:xs.any (fun x=>x==[])=true):
  Calls Tryz.prog 93 #[.string ⟨i.toArray⟩,v,.string ⟨f.toArray⟩,.bool fold] w (z0b_ w (1,[])):=by
 rcases hx with ⟨rfl,rfl⟩|⟨a,c,rfl,hc,hcell⟩
 ·cases hany
 have HC:=hiD hcell
 clear hcell
 go_enter Tryz.func93,Tryz.ntmps93
 go_wp2_with fail
 go_loopg [19] xs.length (fun gk t wr=>∃ k:Nat,k≤xs.length∧t= .int .i64 k∧Aside (k+gk=xs.length)∧w=wr∧Aside ((xs.drop k).any (fun x=>x==[])=true))
 case atStart=>exact⟨0,by omega,rfl,by show _=_;omega,rfl,hany⟩
 case round=>
  obtain⟨k,hk,rfl,AG,rfl,AT⟩:=hrel
  have hlt:k<xs.length:=by
   apply Classical.byContradiction
   intro h
   have:=AT.out
   rw[List.drop_eq_nil_of_le (by omega)] at this
   cases this
  obtain⟨q,rfl⟩:∃ q,gk=q+1:=⟨gk - 1,by have:=AG.out;omega⟩
  have fc:=HC.out k hlt
  have AT2:(xs[k]==[]||(xs.drop (k+1)).any (fun x=>x==[]))=true:=by
   have:=AT.out
   rw[List.drop_eq_getElem_cons hlt,List.any_cons] at this
   exact this
  have HA2:=hiD AT2
  clear AT AT2
  generalize xs[k]=x at *
  cases hb:(x==[])
  ·go_wp2_with fail
   go_roundg q
   case measure=>omega
   case rel=>exact⟨k+1,by omega,by go_num,by have:=AG.out;show _=_;omega,rfl,by have:=HA2.out;rw[hb] at this;exact this⟩
  ·go_wp2_with fail
   go_ret2
   exact⟨bR _ _,_,rfl,.inl ⟨rfl,rfl⟩⟩
def y1_ (fold:Bool):LL→LL→Option (LL)
 |[],acc=>some acc
 |x::xs,acc=>(jy_ x fold).bind fun y=>y1_ fold xs (acc++[y])
def zn2_:LU:=[32]
def z2c_ (l:LL):LL:=
 let l1:=l.set 0 (Lib.trimPrefix (l.headD []) zn2_)
 l1.set (l.length - 1) (Lib.trimSuffix (l1.getLastD []) zn2_)
theorem Strs.opened {W0 w:World} {v:Value} {xs:LL} (h:Strs W0 w v xs) (hn:0<xs.length):∃ g cap,v= .slice (some ⟨g,0,none⟩) xs.length cap∧xs.length≤cap∧W0.heap.size≤g∧g<w.heap.size∧(∀ j (hj:j<xs.length),w.cell? ⟨g,j,none⟩=some (.string ⟨xs[j].toArray⟩))∧(∀ j,j<xs.length→w.frozen? ⟨g,j,none⟩=false):=by
 have ht:=h.texts
 obtain⟨⟨h1,h2⟩,_,_⟩:=h
 rcases h2 with ⟨rfl,hz⟩|⟨g,cap,cur,rfl,r2,r3,r4,r5,r6,r7⟩
 ·omega
 ·rcases ht with ⟨rfl,_⟩|⟨b,c,e,hc,hlt,hcell⟩
  ·simp at hn
  ·cases e
   refine⟨g,cap,rfl,hc,r2,hlt,hcell,fun j hj=>?_⟩
   simp only[World.frozen?,r3]
   simp
open Go.RowKit Go.Sort
def resP:Option (LL)→Int × LL
 |none=>(10,[])
 |some l=>(0,z2c_ l)
theorem zl8_ (a b:LU):(Lib.trimPrefix a b).length≤a.length:=by
 unfold Lib.trimPrefix
 split
 ·first|(simp;done)|(simp;omega)
 ·exact nR _
theorem zju_ (a b:LU):(Lib.trimSuffix a b).length≤a.length:=by
 unfold Lib.trimSuffix
 split
 ·first|(simp;done)|(simp;omega)
 ·exact nR _
theorem z1v_ {fold:Bool} {B:Nat}:∀ (xs acc L:LL),y1_ fold xs acc=some L→(∀ x∈xs,x.length≤B)→(∀ y∈acc,y.length≤B)→L.length=acc.length+xs.length∧∀ y∈L,y.length≤B
 |[],acc,L,h,_,ha=>by
  rw[y1_] at h
  cases h
  exact⟨by simp,ha⟩
 |x::xs,acc,L,h,hx,ha=>by
  rw[y1_] at h
  obtain⟨y,h1,h2⟩:=Option.bind_eq_some_iff.1 h
  have:=z1v_ xs (acc++[y]) L h2 (fun z hz=>hx z (List.mem_cons_of_mem _ hz)) (fun z hz=>by
   rcases List.mem_append.1 hz with hz|hz
   ·exact ha z hz
   ·rw[List.mem_singleton.1 hz];exact nT (z3q_ h1) (hx x (List.mem_cons_self ..)))
  refine⟨?_,this.2⟩
  rw[this.1]
  simp
  omega
theorem z3t_ {l:LL} (h2:2≤l.length):z2c_ l=(l.set 0 (Lib.trimPrefix (l[0]'(by omega)) [32])).set (l.length - 1) (Lib.trimSuffix (l[l.length - 1]'(by omega)) [32]):=by
 unfold z2c_
 have e1:l.headD []=l[0]'(by omega):=by
  cases l with
  |nil=>simp at h2
  |cons x xs=>rfl
 have e2:∀ y,(l.set 0 y).getLastD []=l[l.length - 1]'(by omega):=by
  intro y
  rw[List.getLastD_eq_getLast?,List.getLast?_eq_getElem?,List.length_set,List.getElem?_set_ne (by omega),List.getElem?_eq_getElem (by omega)]
  rfl
 simp only[e1,e2]
 rfl
theorem zhb_ {w:World} {g n cap:Nat} {l:LL} (p q:LU) (h2:2≤l.length) (hn:n=l.length) (hc:n≤cap) (hg:g<w.heap.size) (hcell:∀ j (hj:j<l.length),w.cell? ⟨g,j,none⟩=some (.string ⟨l[j].toArray⟩)):
  Texts ((w.setCell ⟨g,0,none⟩ (.string ⟨p.toArray⟩)).setCell ⟨g,l.length - 1,none⟩ (.string ⟨q.toArray⟩)) (.slice (some ⟨g,0,none⟩) n cap) ((l.set 0 p).set (l.length - 1) q):=by
 subst hn
 refine .inr ⟨g,cap,by simp,by simpa using hc,by simpa [World.setCell] using hg,fun j hj=>?_⟩
 have hj':j<l.length:=by simpa using hj
 by_cases h1:j=l.length - 1
 ·subst h1
  rw[World.cell?_setCell_same _ _ _ (by rw[World.cell?_setCell_other _ _ _ _ (by intro h;injection h with _ h;omega)];exact hcell _ hj')]
  simp
 ·rw[World.cell?_setCell_other _ _ _ _ (by intro h;injection h with _ h;omega)]
  by_cases h0:j=0
  ·subst h0
   rw[World.cell?_setCell_same _ _ _ (hcell 0 hj')]
   rw[List.getElem_set_ne (by omega)]
   simp
  ·rw[World.cell?_setCell_other _ _ _ _ (by intro h;injection h with _ h;omega),hcell j hj']
   rw[List.getElem_set_ne (by omega),List.getElem_set_ne (by omega)]
theorem zf7_ (fold:Bool) (i f:LU) (xs:LL) (v:Value) (w:World) (hw:Env w) (hx:TxA w v xs) (hN:xs.length≤8796093021952) (hany:xs.any (fun x=>x==[])=false)
  (hlen:∀ x∈[i]++xs++[f],x.length≤140737488355328):
  Calls Tryz.prog 93 #[.string ⟨i.toArray⟩,v,.string ⟨f.toArray⟩,.bool fold] w (z0b_ w (resP (y1_ fold ([i]++xs++[f]) []))):=by
 obtain⟨R,hR⟩:∃ R,y1_ fold ([i]++xs++[f]) []=R:=⟨_,rfl⟩
 rw[hR]
 have HR:=hiD hR
 clear hR
 obtain⟨A,c,rfl,hcell⟩:∃ A c,v= .slice A xs.length c∧(∀ j (hj:j<xs.length),∃ a,A=some a∧w.cell? (a.add j)=some (.string ⟨xs[j].toArray⟩)):=by
  rcases hx with ⟨rfl,rfl⟩|⟨a,c,rfl,hc,hcell⟩
  ·exact⟨_,_,rfl,fun j hj=>by simp at hj⟩
  ·exact⟨_,_,rfl,fun j hj=>⟨a,rfl,hcell j hj⟩⟩
 have hne:∀ j (hj:j<xs.length),(xs[j]==[])=false:=by
  intro j hj
  rw[List.any_eq_false] at hany
  have:=hany xs[j] (List.getElem_mem _)
  simpa using this
 have HC:=hiD hcell
 have HX:=hiD hx
 have HNE:=hiD hne
 have HLEN:=hiD hlen
 have HW:=hiD hw
 clear hcell hx hany hne hlen hw
 go_enter Tryz.func93,Tryz.ntmps93
 go_wp2_with fail
 go_loopg [19] xs.length (fun gk t wr=>∃ k:Nat,k≤xs.length∧t= .int .i64 k∧Aside (k+gk=xs.length)∧w=wr)
 case atStart=>exact⟨0,by omega,rfl,by show _=_;omega,rfl⟩
 case round=>
  obtain⟨k,hk,rfl,AG,rfl⟩:=hrel
  by_cases hlt:k<xs.length
  ·obtain⟨q,rfl⟩:∃ q,gk=q+1:=⟨gk - 1,by have:=AG.out;omega⟩
   obtain⟨a,rfl,fc⟩:=HC.out k hlt
   have hb:=HNE.out k hlt
   generalize xs[k]=x at *
   go_wp2_with fail
   go_roundg q
   case measure=>omega
   case rel=>exact⟨k+1,by omega,by go_num,by have:=AG.out;show _=_;omega,rfl⟩
  ·clear HC HNE AG
   go_wp2_with (first
    |(at_builtin;refine ze5_ rfl _ _ rfl rfl (Strs.made1 w i) rfl (HX.out.below ((bR _ _).alloc (nR _) _)) (by simp;omega) ?_;intro v1 w1 hs1 hg1;obtain⟨g1,cp1,rfl,hcp1,hglt1,hcells1⟩:=hs1.texts.cons;have HS1:=hiD hs1;clear hs1 hg1 hcells1)
    |(at_builtin;refine z6y_ rfl _ _ rfl rfl HS1.out rfl (by simp;omega) ?_;intro v2 w2 hs2 hg2;obtain⟨g2,cp2,rfl,hcp2,hglt2,hcells2⟩:=hs2.texts.cons;have HS2:=hiD hs2;clear hs2 hg2))
   have HR2:Hid (y1_ fold (i::([].append xs).append [f]) []=R):=HR
   have HLEN2:Hid (∀ x∈(i::([].append xs).append [f]),x.length≤140737488355328):=HLEN
   have HB2:=hiD HS2.out.below
   have hnl:(i::([].append xs).append [f]).length=xs.length+2:=by simp
   clear HR HLEN HS1 HS2 HX hcp1 hglt1
   generalize i::([].append xs).append [f]=l at *
   have hl2:2≤l.length:=by omega
   have hlN:l.length≤8796093021954:=by omega
   have hnl2:xs.length+1+1=l.length:=by omega
   try rw[hnl2]
   have hnl3:((xs.length:Int)+1+1)=(l.length:Int):=by omega
   try rw[hnl3]
   clear hnl hnl2 hnl3 hN hlt hk
   go_loopg [12,34] l.length (fun gk out t wr=>∃ (k:Nat) (acc:LL),k≤l.length∧t= .int .i64 k∧Aside (k+gk=l.length)∧Strs w2 wr out acc∧acc.length=k∧Aside (∀ y∈acc,y.length≤140737488355328)∧Aside (R=y1_ fold (l.drop k) acc))
   case atStart=>exact⟨0,[],by omega,rfl,by show _=_;omega,Strs.nil _,rfl,(by intro y hy;cases hy),HR2.out.symm⟩
   case round=>
    obtain⟨k2,acc,hk2,rfl,AG2,hO,hacc,AY,AT2⟩:=hrel
    have HO:=hiD hO
    have hB:=hO.below
    have hle:=hO.le
    clear hO
    by_cases hlt2:k2<l.length
    ·obtain⟨q,rfl⟩:∃ q,gk=q+1:=⟨gk - 1,by have:=AG2.out;omega⟩
     have fc:wr.cell? ⟨g2,k2,none⟩=some (.string ⟨l[k2].toArray⟩):=(hB.cell (p:=⟨g2,k2,none⟩) hglt2).trans (hcells2.out k2 hlt2)
     have hxl:l[k2].length≤140737488355328:=HLEN2.out _ (List.getElem_mem _)
     have AT3:Aside (R=(jy_ l[k2] fold).bind fun y=>y1_ fold (l.drop (k2+1)) (acc++[y])):=by
      show _=_
      rw[AT2.out,List.drop_eq_getElem_cons hlt2,y1_]
     have HEW:Hid (Env wr):=hiD ((HW.out.keep HB2.out).keep hB)
     have HM:=hiD (zcb_ l[k2] fold wr HEW.out (by omega))
     clear AT2
     have HML:=hiD (fun (y:LU) (hh:jy_ l[k2] fold=some y)=>nT (z3q_ hh) hxl)
     generalize l[k2]=x at *
     generalize jy_ x fold=o at *
     cases o with
     |none=>
      have hRn:R=none:=AT3.out
      have HRn:=hiD hRn
      clear hRn AT3
      go_wp2_with (go_at_call 154;refine HM.out.mono ?_;rintro e wA ⟨rfl,hbA⟩;unfold qp_)
      go_ret2
      rw[HRn.out]
      exact⟨HB2.out.trans ((hB.trans (hbA.mono hle)).mono HB2.out.size),_,rfl,.inl ⟨rfl,rfl⟩⟩
     |some y=>
      have AT4:Aside (R=y1_ fold (l.drop (k2+1)) (acc++[y])):=AT3.out
      clear AT3
      go_wp2_with (first
       |(go_at_call 154;refine HM.out.mono ?_;rintro e wA ⟨rfl,hbA⟩;unfold qp_;have HO':=hiD (HO.out.grow hbA))
       |(at_builtin;refine z6y_ rfl _ _ rfl rfl HO'.out rfl (by omega) ?_;intro v2 w3 hs3 hg3))
      go_roundg q
      case measure=>omega
      case rel=>exact⟨k2+1,acc++[y],by omega,by go_num,by have:=AG2.out;show _=_;omega,hs3,by rw[List.length_append,hacc];rfl,(by intro z hz;rcases List.mem_append.1 hz with hz|hz;exact AY.out z hz;rw[List.mem_singleton.1 hz];exact HML.out y rfl),AT4.out⟩
    ·have hRn:R=some acc:=by rw[AT2.out,List.drop_eq_nil_of_le (by omega),y1_]
     have HRn:=hiD hRn
     clear hRn AT2
     obtain⟨g3,cp3,rfl,hcp3,hg3,hg3l,hcell3,hfr3⟩:=HO.out.opened (by omega)
     have f0:=hcell3 0 (by omega)
     have r0:=hfr3 0 (by omega)
     have f1:=hcell3 (acc.length - 1) (by omega)
     have r1:=hfr3 (acc.length - 1) (by omega)
     have hTP:=Tryz.strings_TrimPrefix ⟨(acc[0]'(by omega)).toArray⟩ ⟨#[32]⟩ wr
     have hTS:=fun W=>Tryz.strings_TrimSuffix ⟨(acc[acc.length - 1]'(by omega)).toArray⟩ ⟨#[32]⟩ W (by have:=AY.out _ (List.getElem_mem (l:=acc) (n:=acc.length - 1) (by omega));simp [ByteArray.size];omega)
     have HTT:=hiD (fun p q=>zhb_ (n:=acc.length) (cap:=cp3) (l:=acc) p q (by omega) rfl hcp3 hg3l hcell3)
     have HTE:=hiD (z3t_ (l:=acc) (by omega))
     simp only at hTP hTS
     have HTP:=hiD hTP
     have HTS:=hiD hTS
     clear hTP hTS AY
     have ha2:2≤acc.length:=by omega
     have hab:acc.length≤8796093021954:=by omega
     have hab2:((acc.length - 1:Nat):Int)≤8796093021954:=by omega
     generalize acc[0]'(by omega)=a0 at *
     generalize acc[acc.length - 1]'(by omega)=a1 at *
     generalize Lib.trimPrefix a0 [32]=p0 at *
     generalize Lib.trimSuffix a1 [32]=p1 at *
     have hi1:IntKind.i64.wrap ((acc.length:Int) - 1)=((acc.length - 1:Nat):Int):=by
      rw[IntWalk.i64_in _ (by omega)];omega
     have hi2:((acc.length:Int) - 1)=((acc.length - 1:Nat):Int):=by omega
     have f2:(wr.setCell ⟨g3,0,none⟩ (.string ⟨p0.toArray⟩)).cell? ⟨g3,acc.length - 1,none⟩=some (.string ⟨a1.toArray⟩):=by
      rw[World.cell?_setCell_other _ _ _ _ (by intro h;injection h with _ h;omega)];exact f1
     have r2:(wr.setCell ⟨g3,0,none⟩ (.string ⟨p0.toArray⟩)).frozen? ⟨g3,acc.length - 1,none⟩=false:=by
      rw[World.frozen?_setCell];exact r1
     clear hcell3 hfr3 hacc
     go_wp2_with (first|(go_at_call 155;refine HTP.out.mono ?_;rintro e wA ⟨rfl,hwA⟩;obtain rfl:=hwA)|(go_at_call 156;refine(HTS.out _).mono ?_;rintro e wB ⟨rfl,hwB⟩;obtain rfl:=hwB))
     go_ret2
     rw[HRn.out]
     have hB9:=tQ HB2.out hB
     refine⟨?_,_,rfl,?_⟩
     ·have hgw:w.heap.size≤g3:=nT HB2.out.size hg3
      exact(hB9.setCell (by simpa using hgw) _).setCell (by simpa using hgw) _
     ·show Texts _ _ (z2c_ acc)
      rw[HTE.out]
      exact HTT.out _ _
open Go.RowKit Go.Sort
def z7k_ (fold:Bool) (i:LU) (xs:LL) (f:LU):Int × LL:=
 bif xs.any (fun x=>x==[]) then (1,[]) else resP (y1_ fold ([i]++xs++[f]) [])
theorem zab_ (fold:Bool) (i f:LU) (xs:LL) (v:Value) (w:World) (hw:Env w) (hx:TxA w v xs) (hN:xs.length≤8796093021952)
  (hlen:∀ x∈[i]++xs++[f],x.length≤140737488355328):
  Calls Tryz.prog 93 #[.string ⟨i.toArray⟩,v,.string ⟨f.toArray⟩,.bool fold] w (z0b_ w (z7k_ fold i xs f)):=by
 unfold z7k_
 cases h:xs.any (fun x=>x==[])
 ·exact zf7_ fold i f xs v w hw hx hN h hlen
 ·exact z6o_ fold i f xs v w hx (nT hN (by decide)) h
theorem zl2_ (l:LU) (c:UInt8):(Lib.trimB l c).length≤l.length:=by
 unfold Lib.trimB Lib.trimLeftB Lib.trimRightB
 have h1:=(List.dropWhile_sublist (l:=(l.reverse.dropWhile (·==c)).reverse) (·==c)).length_le
 have h2:=(List.dropWhile_sublist (l:=l.reverse) (·==c)).length_le
 simp only[List.length_reverse] at *
 omega
theorem zj3_ (i f:LU) (xs:LL) (hlen:∀ x∈[i]++xs++[f],x.length≤140737488355328):∀ fold,(z7k_ fold i xs f).1=0→(z7k_ fold i xs f).2.length=xs.length+2∧∀ y∈(z7k_ fold i xs f).2,y.length≤140737488355328:=by
 intro fold h
 unfold z7k_ at h ⊢
 cases ha:xs.any (fun x=>x==[])
 ·rw[ha] at h
  simp only[cond_false] at h ⊢
  cases hm:y1_ fold ([i]++xs++[f]) [] with
  |none=>rw[hm] at h;cases h
  |some L=>
   obtain⟨h1,h2⟩:=z1v_ _ _ _ hm hlen (fun y hy=>by cases hy)
   have h3:L.length=xs.length+2:=by rw[h1];simp
   simp only[resP]
   rw[z3t_ (by omega)]
   refine⟨by rw[List.length_set,List.length_set];exact h3,fun y hy=>?_⟩
   rcases List.mem_or_eq_of_mem_set hy with hy|rfl
   ·rcases List.mem_or_eq_of_mem_set hy with hy|rfl
    ·exact h2 y hy
    ·exact nT (zl8_ _ _) (h2 _ (List.getElem_mem _))
   ·exact nT (zju_ _ _) (h2 _ (List.getElem_mem _))
 ·rw[ha] at h;cases h
theorem zg8_ (x:z70_) (fold:Bool) (hx:x.2.2.2= .text fold) (v:LU):∀ m,v5_ x v=some m→m.length≤1000000:=by
 intro m hm
 unfold v5_ at hm
 rw[hx] at hm
 cases hl:decide (v.length≤1024)
 ·rw[hl] at hm;cases hm
 ·have hv:=of_decide_eq_true hl
  split at hm
  ·have h2:z19_ v fold=some m:=hm
   unfold z19_ at h2
   cases ht:jy_ v fold with
   |none=>rw[ht] at h2;cases h2
   |some t=>
    rw[ht] at h2
    have h3:=z3q_ ht
    have h4:(Lib.trimB t 32).length≤t.length:=zl2_ t 32
    dsimp only at h2
    split at h2
    ·cases h2;simp
    ·cases h2;omega
  ·cases hm
theorem zky_ (s:LU) (xs:LL) (v:Value) (w:World) (hw:Env w) (hs:s.length≤1000000) (hn:2≤xs.length) (hN:xs.length≤8796093022208)
  (hv:Texts w v xs) (hxl:∀ x∈xs,x.length≤140737488355328):
  Calls Tryz.prog 157 #[.string ⟨s.toArray⟩,v] w fun e w'=>e= .returned (.bool (z4y_ s xs (zka_ xs) (zi1_ xs)))∧w=w':=by
 rcases hv with ⟨rfl,_⟩|⟨b,c,rfl,hc,hb,hcell⟩
 ·simp at hn
 ·rw[zjn_ (by omega),zmf_ (by omega)]
  exact zjz_ s xs b c w hw hs hn hc hN hcell hxl
def x2_:LU:=[99,97,115,101,73,103,110,111,114,101,83,117,98,115,116,114,105,110,103,115,77,97,116,99,104]
def zcu_ (x:z70_) (v i:LU) (xs:LL) (f:LU):Bool × Int:=match v5_ x v with
 |none=>(false,40)
 |some m=>((z7k_ (x.1==x2_) i xs f).1==0 && z4y_ m (z7k_ (x.1==x2_) i xs f).2 (zka_ (z7k_ (x.1==x2_) i xs f).2) (zi1_ (z7k_ (x.1==x2_) i xs f).2),(z7k_ (x.1==x2_) i xs f).1)
theorem zgg_ (n v i f:LU) (any:Value) (w:World) (hn:n.length≤140737488351232) (h:zck_ (z2_ n) 2=none):
  Calls Tryz.prog 95 #[.string ⟨n.toArray⟩,.string ⟨v.toArray⟩,.string ⟨i.toArray⟩,any,.string ⟨f.toArray⟩] w fun e w'=>e= .returned (z65_ (false,41))∧Bel w w':=by
 have hc:=z6k_ n 2 w hn
 rw[h] at hc
 clear h
 go_enter Tryz.func95,Tryz.ntmps95
 go_wp2_with (go_at_call 141;refine hc.mono ?_;rintro e w1 ⟨hb,rfl⟩)
 go_ret2
 exact⟨rfl,hb⟩
theorem zek_ (x:z70_) (n v i f:LU) (xs:LL) (any:Value) (w:World) (hw:Env w) (hn:n.length≤140737488351232) (h:zck_ (z2_ n) 2=some x)
  (hx:TxA w any xs) (hN:xs.length≤8796093021952) (hlen:∀ x∈[i]++xs++[f],x.length≤140737488355328)
  (hml:∀ m,v5_ x v=some m→m.length≤1000000)
  (hpl:∀ fold,(z7k_ fold i xs f).1=0→(z7k_ fold i xs f).2.length=xs.length+2∧∀ y∈(z7k_ fold i xs f).2,y.length≤140737488355328):
  Calls Tryz.prog 95 #[.string ⟨n.toArray⟩,.string ⟨v.toArray⟩,.string ⟨i.toArray⟩,any,.string ⟨f.toArray⟩] w fun e w'=>e= .returned (z65_ (zcu_ x v i xs f))∧Bel w w':=by
 have hc:=z6k_ n 2 w hn
 have hfl:=z0v_ h
 rw[h] at hc
 clear h
 have HN:=hiD (fun b W (hW:Env W) hR=>z2e_ x b v W hW hR hfl)
 have hA:∃ A len c,any= .slice A len c:=by
  rcases hx with ⟨rfl,rfl⟩|⟨a,c,rfl,_,_⟩
  ·exact⟨_,_,_,rfl⟩
  ·exact⟨_,_,_,rfl⟩
 obtain⟨A,len,c,rfl⟩:=hA
 obtain⟨R,hR⟩:∃ R,zcu_ x v i xs f=R:=⟨_,rfl⟩
 rw[hR]
 unfold zcu_ at hR
 have HML:=hiD hml
 clear hml
 generalize v5_ x v=o at *
 cases o with
 |none=>
  have hR2:R=(false,40):=hR.symm
  have HR2:=hiD hR2
  clear hR hR2 hpl
  go_enter Tryz.func95,Tryz.ntmps95
  go_wp2_with (first|(go_at_call 141;refine hc.mono ?_;rintro e w1 ⟨hb,b,rfl,hbb,hrow⟩)|(go_at_call 142;refine(HN.out _ _ (hw.keep hb) hrow).mono ?_;rintro e w2 ⟨rfl,hb2⟩;simp only[qp_]))
  go_ret2
  exact⟨by rw[HR2.out];rfl,tQ hb hb2⟩
 |some m=>
  have hm:=HML.out m rfl
  have hpf:=hpl (x.1==x2_)
  have HPi:=hiD (fun W (hb:Bel w W)=>zab_ (x.1==x2_) i f xs (.slice A len c) W (hw.keep hb) (hx.below hb) (by omega) hlen)
  have hsw:(x.1==[99,97,115,101,73,103,110,111,114,101,83,117,98,115,116,114,105,110,103,115,77,97,116,99,104])=(x.1==x2_):=rfl
  clear hpl HML hlen
  generalize z7k_ (x.1==x2_) i xs f=pc at *
  generalize (x.1==x2_)=fold at *
  obtain⟨ep,ps⟩:=pc
  have HR:=hiD hR
  have HPF:=hiD hpf
  have HX:=hiD hx
  clear hR hpf hx
  simp only at HPF HR
  by_cases hp:ep=0
  ·subst hp
   have hpf:=HPF.out rfl
   have HHo:=hiD (fun v W (hW:Env W) (hv:Texts W v ps)=>zky_ m ps v W hW (by omega) (by omega) (by omega) hv hpf.2)
   have hRR:R=(z4y_ m ps (zka_ ps) (zi1_ ps),0):=by rw[← HR.out];rfl
   have HRR:=hiD hRR
   clear hRR HR hpf HPF
   go_enter Tryz.func95,Tryz.ntmps95
   go_wp2_with (first
    |(go_at_call 141;refine hc.mono ?_;rintro e w1 ⟨hb,b,rfl,hbb,hrow⟩)
    |(go_at_call 142;refine(HN.out _ _ (hw.keep hb) hrow).mono ?_;rintro e w2 ⟨rfl,hb2⟩;simp only[qp_];obtain⟨fA,fN,fC,nF,n1,n2,hblk,_,_⟩:=hrow.below hb2;have fc:w2.cell? ⟨b,0,none⟩=some (.string ⟨x.1.toArray⟩):=by simp [World.cell?,hblk])
    |(go_at_call 93;refine(HPi.out _ (tQ hb hb2)).mono ?_;rintro e w4 ⟨h4,v4,rfl,hv4⟩;have HV4:=hiD hv4;obtain⟨A4,n4,c4,rfl⟩:=hv4.isSlice;clear hv4)
    |(go_at_call 157;refine(HHo.out _ _ ((hw.keep (tQ hb hb2)).keep h4) HV4.out).mono ?_;rintro e w5 ⟨rfl,rfl⟩))
   go_ret2
   have h14:=(tQ hb hb2).trans (h4.mono (tQ hb hb2).size)
   exact⟨by rw[HRR.out];rfl,h14⟩
  ·have hp2:(ep==0)=false:=beq_eq_false_iff_ne.2 hp
   have hRR:R=(false,ep):=by rw[← HR.out];simp only[hp2,Bool.false_and]
   have HRR:=hiD hRR
   clear hRR HR HPF
   go_enter Tryz.func95,Tryz.ntmps95
   go_wp2_with (first
    |(go_at_call 141;refine hc.mono ?_;rintro e w1 ⟨hb,b,rfl,hbb,hrow⟩)
    |(go_at_call 142;refine(HN.out _ _ (hw.keep hb) hrow).mono ?_;rintro e w2 ⟨rfl,hb2⟩;simp only[qp_];obtain⟨fA,fN,fC,nF,n1,n2,hblk,_,_⟩:=hrow.below hb2;have fc:w2.cell? ⟨b,0,none⟩=some (.string ⟨x.1.toArray⟩):=by simp [World.cell?,hblk])
    |(go_at_call 93;refine(HPi.out _ (tQ hb hb2)).mono ?_;rintro e w4 ⟨h4,v4,rfl,hv4⟩;obtain⟨A4,n4,c4,rfl⟩:=hv4.isSlice;clear hv4))
   go_ret2
   have h14:=(tQ hb hb2).trans (h4.mono (tQ hb hb2).size)
   exact⟨by rw[HRR.out];rfl,h14⟩
end Go.Proofs.YtbekpphodbekiaaGreatDoor
namespace Go.Proofs.YtbekpphodbekiaaGreatDoor.Fil
open Go.RowKit
theorem wrF_fuel:∀ (f g:Nat) (v:LU),v.length≤f→v.length≤g→wrF f v=wrF g v
 |f,g,[],_,_=>by cases f<;>cases g<;>simp [wrF]
 |0,g,x::t,hf,_=>by simp at hf
 |f+1,0,x::t,_,hg=>by simp at hg
 |f+1,g+1,x::t,hf,hg=>by
  have h1:=dec_pos (x::t) (by simp)
  rw[wrF,wrF]
  simp only[List.length_cons] at hf hg
  congr 1
  exact wrF_fuel f g _ (by rw[List.length_drop];simp only[List.length_cons];omega) (by rw[List.length_drop];simp only[List.length_cons];omega)
theorem wrL_step (v:LU) (h:v≠[]):wrL v=escF (v.take (Lib.decodeL v).2)++wrL (v.drop (Lib.decodeL v).2):=by
 obtain⟨x,t,rfl⟩:=List.exists_cons_of_ne_nil h
 have h1:=dec_pos (x::t) h
 unfold wrL
 rw[List.length_cons,wrF]
 congr 1
 exact wrF_fuel _ _ _ (by rw[List.length_drop];simp only[List.length_cons];omega) (nR _)
theorem wrL_nil:wrL []=[]:=rfl
def escS:LU:=[40,41,42,92,0]
theorem esc_one (x:UInt8):Lib.contains escS [x]=(x==40||x==41||x==42||x==92||x==0):=by
 have h:∀ n:Fin 256,Lib.contains escS [UInt8.ofNat n.val]=(UInt8.ofNat n.val==40||UInt8.ofNat n.val==41||UInt8.ofNat n.val==42||UInt8.ofNat n.val==92||UInt8.ofNat n.val==0):=by decide+kernel
 have:=h ⟨x.toNat,x.toNat_lt⟩
 simpa using this
theorem occ_mem {s c:LU} {i:Nat} {x:UInt8} (h:Lib.occAt s c i=true) (hx:x∈c):x∈s:=by
 unfold Lib.occAt at h
 have:=(List.isPrefixOf_iff_prefix.1 h).subset hx
 exact List.mem_of_mem_drop this
theorem esc_high (c:LU) (hne:c≠[]) (h:∀ x∈c,128≤x.toNat):Lib.contains escS c=false:=by
 unfold Lib.contains
 rw[decide_eq_false_iff_not]
 rcases Lib.index_spec escS c with ⟨h1,_⟩|⟨i,h1,h2,h3,_⟩
 ·rw[h1];decide
 ·obtain⟨x,t,rfl⟩:=List.exists_cons_of_ne_nil hne
  have hm:=occ_mem h3 (List.mem_cons_self ..)
  have:=h x (List.mem_cons_self ..)
  unfold escS at hm
  simp only[List.mem_cons,List.not_mem_nil,or_false] at hm
  rcases hm with rfl|rfl|rfl|rfl|rfl<;>exact absurd this (by decide)
theorem esc_ways (v:LU) (h:v≠[]) (n:Nat) (hn:(Lib.decodeL v).2=n):1≤n∧n≤v.length∧
  ((n=1∧∃ x,v.take n=[x]∧((Lib.contains escS [x]=true∧escF (v.take n)=92::vw_ [x])∨(Lib.contains escS [x]=false∧128≤x.toNat∧escF (v.take n)=92::vw_ [x])∨(Lib.contains escS [x]=false∧x.toNat<128∧escF (v.take n)=[x])))∨
   (n≠1∧Lib.contains escS (v.take n)=false∧escF (v.take n)=v.take n)):=by
 have h1:=dec_pos v h
 have h2:=Lib.decodeL_le v h
 have h3:=dec_high v h
 rw[hn] at h1 h2 h3
 refine⟨h1,h2,?_⟩
 by_cases e:n=1
 ·left
  refine⟨e,?_⟩
  subst e
  obtain⟨x,t,rfl⟩:=List.exists_cons_of_ne_nil h
  refine⟨x,rfl,?_⟩
  have hc:=esc_one x
  have hE:escF (List.take 1 (x::t))=if (x==40||x==41||x==42||x==92||x==0||decide (128≤x.toNat)) then 92::vw_ [x] else [x]:=by
   unfold escF
   simp
  cases hb:(x==40||x==41||x==42||x==92||x==0)
  ·rw[hb] at hc
   right
   by_cases h8:128≤x.toNat
   ·left
    exact⟨hc,h8,by rw[hE,hb,decide_eq_true h8];rfl⟩
   ·right
    exact⟨hc,by omega,by rw[hE,hb,decide_eq_false h8];rfl⟩
  ·rw[hb] at hc
   left
   exact⟨hc,by rw[hE,hb];rfl⟩
 ·right
  have hl:(v.take n).length=n:=by rw[List.length_take];omega
  refine⟨e,esc_high _ (by intro h0;rw[h0] at hl;simp at hl;omega) (h3 e),?_⟩
  unfold escF
  rw[if_neg (by rintro⟨h4,_⟩;omega)]
theorem dec_go (l:LU) (h:l≠[]):Lib.decodeGo ⟨l.toArray⟩=Lib.decodeL l:=by
 unfold Lib.decodeGo Lib.decodeL
 rw[if_neg (by simpa [ByteArray.size] using h)]
end Go.Proofs.YtbekpphodbekiaaGreatDoor.Fil
