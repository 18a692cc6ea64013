import Derived.Test.YtbekpphodbekiaaGreatDoorW0d
set_option linter.all false
set_option maxHeartbeats 8000000
set_option maxRecDepth 100000
namespace Go.Proofs.YtbekpphodbekiaaGreatDoor
open Go.RowKit
theorem Env.mods {S:List Nat} {w w':World} (h:Env w) (hm:Mods S w w') (hS:∀ b∈S,Off b):Env w':=by
 obtain⟨⟨h1,h2⟩,m,hx⟩:=h
 have n1:1 ∉ S:=fun hb=>(hS _ hb).1 rfl
 have n2:2 ∉ S:=fun hb=>(hS _ hb).2.1 rfl
 have n3:0 ∉ S:=fun hb=>(hS _ hb).2.2 rfl
 exact⟨⟨fun c hc=>hm.cell (h1 c hc) n1,fun i hi=>⟨hm.cell (h2 i hi).1 n2,hm.cell (h2 i hi).2 n2⟩⟩,m,hm.cell hx n3⟩
def Own (B:Nat) (w:World) (v:Value) (xs:LL):Prop:=w.ownsRow B 9 1 v xs.length (xs.map jw_)∧B≤w.heap.size
theorem Own.nil {B:Nat} {w:World} (hB:B≤w.heap.size):Own B w (.slice none 0 0) []:=⟨World.ownsRow_nil _ _ _ _,hB⟩
theorem Own.lt {B:Nat} {w:World} {v:Value} {xs:LL} (h:Own B w v xs):∀ k,v.ownBlock=some k→B≤k∧k<w.heap.size:=fun k hk=>h.1.lt k hk
theorem Own.keep {B:Nat} {w w':World} {v:Value} {xs:LL} (h:Own B w v xs) {r:Option Nat} (hg:w.grownBy w' r) (hr:∀ k,r=some k→k<B):Own B w' v xs:=by
 refine⟨h.1.kept hg ?_,nT h.2 hg.size⟩
 rcases hv:v.ownBlock with _|g
 ·exact .inl rfl
 ·refine .inr ?_
  intro he
  have:=hr g he.symm
  have:=(h.1.lt g hv).1
  omega
theorem Own.below {B:Nat} {w w':World} {v:Value} {xs:LL} (h:Own B w v xs) (hb:Bel w w'):Own B w' v xs:=h.keep (zc_ hb none) (fun k hk=>by cases hk)
theorem Own.mods {B r:Nat} {w w':World} {v:Value} {xs:LL} (h:Own B w v xs) (hm:Mods [r] w w') (hr:r<B):Own B w' v xs:=
 h.keep (r:=some r) ⟨hm.os,hm.tape,hm.output,hm.size,fun k hk hne=>hm.block k hk (by intro hx;apply hne;simp at hx;rw[hx])⟩ (fun k hk=>by cases hk;exact hr)
theorem Own.texts {B:Nat} {w:World} {v:Value} {xs:LL} (h:Own B w v xs):Texts w v xs:=by
 obtain⟨⟨h1,h2⟩,_⟩:=h
 rcases h2 with ⟨rfl,hn⟩|⟨g,cap,cur,rfl,r2,r3,r4,r5,r6,r7⟩
 ·exact .inl ⟨List.eq_nil_of_length_eq_zero hn,rfl⟩
 ·refine .inr ⟨g,cap,rfl,r4,(Array.getElem?_eq_some_iff.1 r3).1,fun j hj=>?_⟩
  simp only[World.cell?,r3]
  have:(cur.toList.take (xs.length * 1))[j]?=some (jw_ xs[j]):=by rw[r7];simp [hj]
  rw[List.getElem?_take] at this
  simpa [hj,jw_] using this
theorem Own.noword {B:Nat} {w:World} {v:Value} {xs:LL} (h:Own B w v xs) {k:Nat} (hk:v.ownBlock=some k):NoWord w [k]:=by
 obtain⟨⟨h1,h2⟩,_⟩:=h
 rcases h2 with ⟨rfl,hn⟩|⟨g,cap,cur,rfl,r2,r3,r4,r5,r6,r7⟩
 ·simp [Value.ownBlock] at hk
 ·have hgk:g=k:=by simpa [Value.ownBlock] using hk
  subst hgk
  intro x hx cs z
  have:x=g:=by simpa using hx
  subst this
  rw[r3]
  intro e
  cases e
theorem Own.isSlice {B:Nat} {w:World} {v:Value} {xs:LL} (h:Own B w v xs):∃ A c,v= .slice A xs.length c∧xs.length≤c:=by
 obtain⟨⟨h1,h2⟩,_⟩:=h
 rcases h2 with ⟨rfl,hn⟩|⟨g,cap,cur,rfl,r2,r3,r4,_⟩
 ·exact⟨none,0,by rw[hn],by omega⟩
 ·exact⟨_,cap,rfl,r4⟩
theorem vi_ {ops:Array Oper} {rest:List Oper} {o:Oper} {a:Act} {Q:Exit→Act→World→Prop} (hgd:o.guard=none) (s x:Operand) (ho:o.op= .call {callee:= .builtin .append,args:=#[s,x],argTypes:=#[36,36]})
  {v:Value} {xs:LL} {B N:Nat} {w0:World} {c:LU} (hs:a.eval s=v) (hb:Own B w0 v xs)
  (hx:a.eval x= .slice (some ⟨N,0,none⟩) 1 1) (hN:N=w0.heap.size) (hlen:xs.length<4398046511104)
  (h:∀ v' w',Own B w' v' (xs++[c])→w0.grownBy w' v.ownBlock→wpList Tryz.prog ops Q rest (a.put o.dst v') w'):wpList Tryz.prog ops Q (o::rest) a (w0.alloc (.cells #[.string ⟨c.toArray⟩] 9)):=by
 subst hN
 obtain⟨i,h1,h2,h3,h4⟩:=k0_
 have hb':=hb.keep (World.grownBy_alloc w0 (.cells #[.string ⟨c.toArray⟩] 9) none) (fun k hk=>by cases hk)
 refine wpList_append_own _ hgd s x 36 ho B 9 i (.string ⟨#[]⟩) 1 16 Tryz.underlying36 h1 h2 h3 h4 rfl (by decide) v _ _ hs hb'.1 ⟨w0.heap.size,0,none⟩ 1 1 [.string ⟨c.toArray⟩] hx rfl ?_ ?_ (by unfold maxLen;omega) (by omega) hb'.2 ?_
 ·intro j u hj
  match j,hj with
  |0,hj=>simp at hj;subst hj;simp [Addr.add]
  |(j+1),hj=>simp at hj
 ·intro u hu;simp at hu;subst hu;rfl
 ·intro v' w' ho' hg _
  refine h v' w' ⟨?_,nT hb'.2 hg.size⟩ (gT (World.grownBy_alloc _ _ _) hg)
  simpa [jw_] using ho'
theorem RdW.owned {w w':World} {r B:Nat} {l:List Wd} {v:Value} {xs:LL} (h:RdW w r l) (ho:Own B w v xs) (hr:r<B) (hg:w.grownBy w' v.ownBlock):RdW w' r l:=by
 rcases hv:v.ownBlock with _|k
 ·rw[hv] at hg
  exact h.below ⟨hg.os,hg.tape,hg.output,hg.size,fun j hj=>hg.block j hj (by simp)⟩
 ·rw[hv] at hg
  have:=ho.lt k hv
  exact h.mods (Mods.of_grown hg (S:=[k]) (by simp)) (by simp;omega) (ho.noword hv)
theorem Mods.owned {S:List Nat} {w0 w w':World} {v:Value} {xs:LL} (h:Mods S w0 w) (ho:Own w0.heap.size w v xs) (hg:w.grownBy w' v.ownBlock):Mods S w0 w':=by
 rcases hv:v.ownBlock with _|k
 ·rw[hv] at hg
  exact h.trans (Mods.of_grown' hg (fun k hk=>by cases hk))
 ·rw[hv] at hg
  have hk:=ho.lt k hv
  refine((h.mono (S':=k::S) (fun x hx=>by simp [hx])).trans (Mods.of_grown hg (by simp))).news ?_
  intro x hx
  rcases List.mem_cons.1 hx with rfl|hx
  ·exact .inr hk.1
  ·exact .inl hx
theorem zhq_ (r:Nat) (l:List Wd) (w:World) (hw:Env w) (h:RdW w r l) (hn:zh_ l=none):
  Calls Tryz.prog 117 #[.pointer (some ⟨r,0,none⟩)] w fun e w'=>∃ s,e= .returned (x7_ s false)∧Mods [r] w w':=by
 have hp:=z7h_ r l w hw h
 rw[hn] at hp
 have HP:Hid (Calls Tryz.prog 59 #[.pointer (some ⟨r,0,none⟩)] w fun e w'=>∃ s:LU,e= .returned (.tuple #[.string ⟨s.toArray⟩,.bool false])∧Mods [r] w w'):=hiD hp
 clear hp hn h
 go_enter Tryz.func117,Tryz.ntmps117
 go_wp2_with (go_at_call 59;refine HP.out.mono ?_;rintro e w1 ⟨s,rfl,hm⟩)
 go_ret2
 exact⟨s,rfl,hm⟩
theorem zg1_ (r:Nat) (l t:List Wd) (s:LU) (w:World) (hw:Env w) (hO:Off r) (h:RdW w r l) (hn:zh_ l=some (s,t)) (hs:s.length≤1000000):
  Calls Tryz.prog 117 #[.pointer (some ⟨r,0,none⟩)] w fun e w'=>e= .returned (x7_ s (ze_ s))∧RdW w' r t∧Mods [r] w w':=by
 have hp:=z7h_ r l w hw h
 rw[hn] at hp
 have HP:Hid (Calls Tryz.prog 59 #[.pointer (some ⟨r,0,none⟩)] w fun e w'=>e= .returned (.tuple #[.string ⟨s.toArray⟩,.bool true])∧RdW w' r t∧Mods [r] w w'):=hiD hp
 have HT:=hiD (fun (W:World) (hm:Mods [r] w W)=>j3_ s W (hw.mods hm (by simpa using hO)) (by omega))
 clear hp hn h
 go_enter Tryz.func117,Tryz.ntmps117
 go_wp2_with (first|(go_at_call 59;refine HP.out.mono ?_;rintro e w1 ⟨rfl,hr,hm⟩)|(go_at_call 50;refine(HT.out _ hm).mono ?_;rintro e w2 ⟨rfl,hb⟩))
 go_ret2
 exact⟨rfl,hr.below hb,hm.trans (Mods.of_below hb _)⟩
theorem zt_ {l t:List Wd} {s:LU} (h:zh_ l=some (s,t)):∃ q,l=(s,q)::t:=by
 unfold zh_ at h
 split at h
 ·cases h
 ·split at h
  ·cases h
  ·cases h;exact⟨_,rfl⟩
theorem xw_ {l t:List Wd} {s:LU} (h:qc_ l=some (s,t)):∃ q,l=(s,q)::t:=by
 unfold qc_ at h
 split at h
 ·cases h
 ·split at h
  ·cases h;exact⟨_,rfl⟩
  ·cases h
theorem yh_ {l t:List Wd} {s:LU} (h:y9_ l=some (s,t)):∃ q,l=(s,q)::t:=by
 unfold y9_ at h
 split at h
 ·cases h
 ·next s' t' hp=>
  split at h
  ·cases h;exact zt_ hp
  ·cases h
def Shorts (l:List Wd):Prop:=∀ x∈l,x.1.length≤1000000
theorem zmx_ (r:Nat) (l:List Wd) (w:World) (hw:Env w) (hO:Off r) (h:RdW w r l) (hl:Shorts l):
  Calls Tryz.prog 117 #[.pointer (some ⟨r,0,none⟩)] w (z5l_ w r (y9_ l)):=by
 unfold y9_
 cases hp:zh_ l with
 |none=>exact zhq_ r l w hw h hp
 |some x=>
  obtain⟨s,t⟩:=x
  obtain⟨q,hq⟩:=zt_ hp
  refine(zg1_ r l t s w hw hO h hp (by rw[hq] at hl;exact hl _ (List.mem_cons_self ..))).mono ?_
  rintro e w' ⟨rfl,h1,h2⟩
  show z5l_ w r (if ze_ s then some (s,t) else none) _ _
  cases hT:ze_ s
  ·exact⟨s,rfl,h2⟩
  ·exact⟨rfl,h1,h2⟩
structure OneOK (f:FuncId) (r:Nat) (one:List Wd→Option (LU × List Wd)):Prop where
 call:∀ (W:World) (l:List Wd),Env W→RdW W r l→Shorts l→Calls Tryz.prog f #[.pointer (some ⟨r,0,none⟩)] W (z5l_ W r (one l))
 cons:∀ (l t:List Wd) (s:LU),one l=some (s,t)→∃ q,l=(s,q)::t
 enter:∀ (args:Array Value) (w:World),(callFunc f args).run Tryz.prog w= .ok (.enter f args) w
theorem znt_ (r:Nat) (hO:Off r):OneOK 117 r y9_:=⟨fun W l hE hR hS=>zmx_ r l W hE hO hR hS,fun _ _ _ h=>yh_ h,fun _ _=>by kernel_rfl⟩
theorem zgs_ (r:Nat):OneOK 119 r qc_:=⟨fun W l _ hR _=>zcp_ r l W hR,fun _ _ _ h=>xw_ h,fun _ _=>by kernel_rfl⟩
def zou_ (w:World) (r:Nat) (o:Option (LL × List Wd)) (e:Ending) (w':World):Prop:=match o with
 |none=>e= .returned (.tuple #[.slice none 0 0,.bool false])∧Mods [r] w w'
 |some (xs,l')=>∃ v,e= .returned (.tuple #[v,.bool true])∧Texts w' v xs∧RdW w' r l'∧Mods [r] w w'
open Go.RowKit
structure LJ (w:World) (r:Nat) (sign:LU) (one:List Wd→Option (LU × List Wd)) (many:Bool) (R:Option (LL × List Wd)) (gk:Nat) (out:Value) (wr:World) (l:List Wd) (acc:LL):Prop where
 fuel:l.length<gk
 own:Own w.heap.size wr out acc
 rd:RdW wr r l
 mods:Mods [r] w wr
 rest:v4_ sign one many gk l acc=R
 num:acc.length+l.length≤1000000
 short:Shorts l
theorem LJ.env {w:World} {r:Nat} {sign:LU} {one:List Wd→Option (LU × List Wd)} {many:Bool} {R:Option (LL × List Wd)} {gk:Nat} {out:Value} {wr:World} {l:List Wd} {acc:LL} (h:LJ w r sign one many R gk out wr l acc) (hw:Env w) (hO:Off r):Env wr:=hw.mods h.mods (by simpa using hO)
theorem Shorts.tail {x:Wd} {l:List Wd} (h:Shorts (x::l)):Shorts l:=fun y hy=>h y (List.mem_cons_of_mem _ hy)
theorem z1a_ {sign:LU} {one:List Wd→Option (LU × List Wd)} {many:Bool} {n:Nat} {l:List Wd} {acc:LL} (h:one l=none):v4_ sign one many (n+1) l acc=none:=by
 rw[v4_,h]
theorem z0u_ {sign:LU} {one:List Wd→Option (LU × List Wd)} {many:Bool} {n:Nat} {l t:List Wd} {s:LU} {acc:LL} (h:one l=some (s,t)):v4_ sign one many (n+1) l acc=if ze_ s then
    (if !many then some (acc++[s],t)
     else if rIs t [41] then some (acc++[s],t.tail)
     else if sign==[] then v4_ sign one many n t (acc++[s])
     else if rIs t sign then v4_ sign one many n t.tail (acc++[s]) else none)
   else none:=by
 rw[v4_,h]
theorem zls_ {l:List Wd} {s:LU} (h:rIs l s=true):∃ x,l=x::l.tail:=by
 cases l with
 |nil=>cases h
 |cons x t=>exact⟨x,rfl⟩
theorem yo_ {one:List Wd→Option (LU × List Wd)} (hc:∀ (l t:List Wd) (s:LU),one l=some (s,t)→∃ q,l=(s,q)::t) {l:List Wd} (hs:Shorts l) {x:LU × List Wd} (h:one l=some x):x.1.length≤1000000:=by
 obtain⟨q,hq⟩:=hc l x.2 x.1 h
 rw[hq] at hs
 exact hs _ (List.mem_cons_self ..)
theorem jd_ (r:Nat) (l:List Wd) (s:LU) (w:World) (h:RdW w r l) (hs:rIs l s=true):
  Calls Tryz.prog 58 #[.pointer (some ⟨r,0,none⟩),.string ⟨s.toArray⟩] w (z74_ w r l.tail (.bool true)):=by
 obtain⟨x,hx⟩:=zls_ hs
 rw[hx] at h hs
 exact zk3_ r x l.tail s w h hs
theorem list_c (f:FuncId) (one:List Wd→Option (LU × List Wd)) (sign:LU) (hsg:sign=[]∨sign=[36]) (r:Nat) (l:List Wd) (w:World) (hw:Env w) (hO:Off r) (hone:OneOK f r one) (h:RdW w r l) (hs:Shorts l) (hl:l.length≤1000000):
  Calls Tryz.prog 116 #[.pointer (some ⟨r,0,none⟩),.string ⟨sign.toArray⟩,.func (.func f) #[.pointer (some ⟨r,0,none⟩)] #[]] w (zou_ w r (x6_ sign one l)):=by
 obtain⟨R,hR⟩:∃ R,x6_ sign one l=R:=⟨_,rfl⟩
 rw[hR]
 have hrw:r<w.heap.size:=by obtain⟨v,hb,_⟩:=h;exact hb.lt
 have HH:=hiD h
 have HS:=hiD hs
 unfold x6_ at hR
 have HR:=hiD hR
 clear h hs hR
 have HT0:Hid (Calls Tryz.prog 58 #[.pointer (some ⟨r,0,none⟩),.string ⟨#[40]⟩] w fun e w'=>e= .returned (.bool (rIs l [40]))∧RdW w' r (if rIs l [40] then l.tail else l)∧Mods [r] w w'):=hiD (by
  cases hm:rIs l [40]
  ·exact(qo_ r l [40] w HH.out hm).mono fun e w' ⟨he,hw'⟩=>⟨he,hw' ▸ HH.out,hw' ▸ Mods.refl _ _⟩
  ·exact(jd_ r l [40] w HH.out hm).mono fun e w' ⟨he,h1,h2⟩=>⟨he,h1,Mods.of_grown h2 (by simp)⟩)
 have HL0:Hid ((if rIs l [40] then l.tail else l).length≤l.length∧Shorts (if rIs l [40] then l.tail else l)):=hiD (by
  cases rIs l [40]
  ·exact⟨nR _,HS.out⟩
  ·exact⟨by simp,fun x hx=>HS.out x (List.mem_of_mem_tail hx)⟩)
 generalize (if rIs l [40] then l.tail else l)=l0 at HT0 HR HL0
 generalize rIs l [40]=many at HT0 HR
 have hent:=hone.enter
 clear HS HH
 go_enter Tryz.func116,Tryz.ntmps116
 go_wp2_with (go_at_call 58;refine HT0.out.mono ?_;rintro e w1 ⟨rfl,hr1,hm1⟩)
 go_loopg [9] (l.length+1) (fun gk out wr=>∃ (l':List Wd) (acc:LL),Aside (LJ w r sign one many R gk out wr l' acc))
 case atStart=>
  refine⟨l0,[],?_⟩
  have hl0:=HL0.out
  exact(⟨by omega,Own.nil hm1.size,hr1,hm1,HR.out,by simp only[List.length_nil];omega,hl0.2⟩:LJ w r sign one many R _ _ _ _ _)
 case round=>
  clear HT0 HR HL0
  obtain⟨l',acc,AJ⟩:=hrel
  obtain⟨q,rfl⟩:∃ q,gk=q+1:=⟨gk - 1,by have:=AJ.out.fuel;omega⟩
  have H1:=hone.call wr l' (AJ.out.env hw hO) AJ.out.rd AJ.out.short
  obtain⟨Ao,co,rfl,hco⟩:=AJ.out.own.isSlice
  cases ho:one l' with
  |none=>
   rw[ho] at H1
   have hfin:R=none:=by rw[← AJ.out.rest,z1a_ ho]
   have Hf:=hiD hfin
   clear hfin ho
   have H1':Hid (Calls Tryz.prog f #[.pointer (some ⟨r,0,none⟩)] wr fun e w'=>∃ s:LU,e= .returned (.tuple #[.string ⟨s.toArray⟩,.bool false])∧Mods [r] wr w'):=hiD H1
   clear H1
   go_wp2_with ((with_reducible refine H1'.out.mono ?_);rintro e w2 ⟨s,rfl,hm2⟩)
   go_ret2
   rw[Hf.out]
   exact⟨rfl,AJ.out.mods.trans hm2⟩
  |some xx=>
   obtain⟨s,t⟩:=xx
   rw[ho] at H1
   have H1':Hid (Calls Tryz.prog f #[.pointer (some ⟨r,0,none⟩)] wr fun e w'=>e= .returned (.tuple #[.string ⟨s.toArray⟩,.bool true])∧RdW w' r t∧Mods [r] wr w'):=hiD H1
   clear H1
   have hc:=hone.cons l' t s ho
   have hstep:=z0u_ (sign:=sign) (many:=many) (n:=q) (acc:=acc) ho
   rw[AJ.out.rest] at hstep
   have HS:=hiD hstep
   have hsl:=yo_ hone.cons AJ.out.short ho
   simp only at hsl
   have hlt:l'.length=t.length+1:=by obtain⟨q',hq⟩:=hc;rw[hq];rfl
   have hst:Shorts t:=by have:=AJ.out.short;obtain⟨q',hq⟩:=hc;rw[hq] at this;exact this.tail
   have hfuel:=AJ.out.fuel
   have hnum:=AJ.out.num
   have HST:=hiD hst
   have HT:=hiD (fun (W:World) (hm:Mods [r] wr W)=>j3_ s W ((AJ.out.env hw hO).mods hm (by simpa using hO)) (by omega))
   clear hc hstep ho hst
   have HO:=hiD (fun (w2 w3:World) (hm2:Mods [r] wr w2) (hb3:Bel w2 w3)=>(AJ.out.own.mods hm2 hrw).below hb3)
   have HM:=hiD (fun (w2 w3:World) (hm2:Mods [r] wr w2) (hb3:Bel w2 w3)=>(AJ.out.mods.trans hm2).trans (Mods.of_below hb3 [r]))
   have H79:Hid (Mods [r] w wr):=hiD AJ.out.mods
   clear AJ
   cases hT:ze_ s
   ·rw[hT] at HT HS
    simp only[Bool.false_eq_true,if_false] at HS
    clear hT
    go_wp2_with (first|((with_reducible refine H1'.out.mono ?_);rintro e w2 ⟨rfl,hr2,hm2⟩)|(go_at_call 50;refine(HT.out _ hm2).mono ?_;rintro e w3 ⟨rfl,hb3⟩))
    go_ret2
    rw[HS.out]
    exact⟨rfl,HM.out _ _ hm2 hb3⟩
   ·rw[hT] at HT HS
    simp only[if_true] at HS
    clear hT
    cases many
    ·simp only[Bool.not_false,if_true] at HS
     go_wp2_with (first|((with_reducible refine H1'.out.mono ?_);rintro e w2 ⟨rfl,hr2,hm2⟩)|(go_at_call 50;refine(HT.out _ hm2).mono ?_;rintro e w3 ⟨rfl,hb3⟩;have hO3:=HO.out _ _ hm2 hb3)|(at_builtin;refine vi_ (c:=s) rfl _ _ rfl rfl hO3 rfl rfl (by omega) ?_;intro v' w4 hO4 hg4))
     go_ret2
     rw[HS.out]
     exact⟨v',rfl,hO4.texts,(hr2.below hb3).owned hO3 hrw hg4,(HM.out _ _ hm2 hb3).owned hO3 hg4⟩
    ·simp only[Bool.not_true,Bool.false_eq_true,if_false] at HS
     cases h41:rIs t [41]
     ·rw[h41] at HS
      simp only[Bool.false_eq_true,if_false] at HS
      have H41:=hiD h41
      clear h41
      rcases hsg with rfl|rfl
      ·have hS2:Hid (R=v4_ [] one true q t (acc++[s])):=hiD HS.out
       clear HS
       go_wp2_with (first|((with_reducible refine H1'.out.mono ?_);rintro e w2 ⟨rfl,hr2,hm2⟩)|(go_at_call 50;refine(HT.out _ hm2).mono ?_;rintro e w3 ⟨rfl,hb3⟩;have hO3:=HO.out _ _ hm2 hb3)|(at_builtin;refine vi_ (c:=s) rfl _ _ rfl rfl hO3 rfl rfl (by omega) ?_;intro v' w4 hO4 hg4;have hr4:=(hr2.below hb3).owned hO3 hrw hg4)|(go_at_call 58;(with_reducible refine(qo_ r t [41] _ hr4 H41.out).mono ?_);rintro e w5 ⟨rfl,rfl⟩))
       go_roundg q
       case measure=>omega
       case rel=>exact⟨t,acc++[s],(⟨by omega,hO4,hr4,(HM.out _ _ hm2 hb3).owned hO3 hg4,hS2.out.symm,by simp only[List.length_append,List.length_cons,List.length_nil];omega,HST.out⟩:LJ w r [] one true R q v' _ t (acc++[s]))⟩
      ·cases h36:rIs t [36]
       ·have hS2:Hid (R=none):=hiD (by rw[HS.out,h36];rfl)
        have H36:=hiD h36
        clear HS h36
        go_wp2_with (first|((with_reducible refine H1'.out.mono ?_);rintro e w2 ⟨rfl,hr2,hm2⟩)|(go_at_call 50;refine(HT.out _ hm2).mono ?_;rintro e w3 ⟨rfl,hb3⟩;have hO3:=HO.out _ _ hm2 hb3)|(at_builtin;refine vi_ (c:=s) rfl _ _ rfl rfl hO3 rfl rfl (by omega) ?_;intro v' w4 hO4 hg4;have hr4:=(hr2.below hb3).owned hO3 hrw hg4)|(go_at_call 58;(with_reducible refine(qo_ r t [41] _ hr4 H41.out).mono ?_);rintro e w5 ⟨rfl,rfl⟩)|(go_at_call 58;(with_reducible refine(qo_ r t [36] _ hr4 H36.out).mono ?_);rintro e w5 ⟨rfl,rfl⟩))
        go_ret2
        rw[hS2.out]
        exact⟨rfl,(HM.out _ _ hm2 hb3).owned hO3 hg4⟩
       ·have hS2:Hid (R=v4_ [36] one true q t.tail (acc++[s])):=hiD (by rw[HS.out,h36];rfl)
        have H36:=hiD h36
        have htl:t.tail.length≤t.length:=by simp
        clear HS h36
        go_wp2_with (first|((with_reducible refine H1'.out.mono ?_);rintro e w2 ⟨rfl,hr2,hm2⟩)|(go_at_call 50;refine(HT.out _ hm2).mono ?_;rintro e w3 ⟨rfl,hb3⟩;have hO3:=HO.out _ _ hm2 hb3)|(at_builtin;refine vi_ (c:=s) rfl _ _ rfl rfl hO3 rfl rfl (by omega) ?_;intro v' w4 hO4 hg4;have hr4:=(hr2.below hb3).owned hO3 hrw hg4)|(go_at_call 58;(with_reducible refine(qo_ r t [41] _ hr4 H41.out).mono ?_);rintro e w5 ⟨rfl,rfl⟩)|(go_at_call 58;(with_reducible refine(jd_ r t [36] _ hr4 H36.out).mono ?_);rintro e w6 ⟨rfl,hr6,hg6⟩))
        go_roundg q
        case measure=>omega
        case rel=>exact⟨t.tail,acc++[s],(⟨by omega,hO4.keep hg6 (fun k hk=>by cases hk;exact hrw),hr6,((HM.out _ _ hm2 hb3).owned hO3 hg4).trans (Mods.of_grown hg6 (by simp)),hS2.out.symm,by simp only[List.length_append,List.length_cons,List.length_nil];omega,fun x hx=>HST.out x (List.mem_of_mem_tail hx)⟩:LJ w r [36] one true R q v' _ t.tail (acc++[s]))⟩
     ·rw[h41] at HS
      simp only[if_true] at HS
      have H41:=hiD h41
      clear h41
      go_wp2_with (first|((with_reducible refine H1'.out.mono ?_);rintro e w2 ⟨rfl,hr2,hm2⟩)|(go_at_call 50;refine(HT.out _ hm2).mono ?_;rintro e w3 ⟨rfl,hb3⟩;have hO3:=HO.out _ _ hm2 hb3)|(at_builtin;refine vi_ (c:=s) rfl _ _ rfl rfl hO3 rfl rfl (by omega) ?_;intro v' w4 hO4 hg4;have hr4:=(hr2.below hb3).owned hO3 hrw hg4)|(go_at_call 58;(with_reducible refine(jd_ r t [41] _ hr4 H41.out).mono ?_);rintro e w6 ⟨rfl,hr6,hg6⟩))
      go_ret2
      rw[HS.out]
      exact⟨v',rfl,(hO4.keep hg6 (fun k hk=>by cases hk;exact hrw)).texts,hr6,((HM.out _ _ hm2 hb3).owned hO3 hg4).trans (Mods.of_grown hg6 (by simp))⟩
open Go.RowKit
def z8_ (p:Nat):Value:= .pointer (some ⟨p,0,none⟩)
def zo_ (d:DefS) (vn vs vm vy:Value):Array Value:=#[.bool d.cls,.string ⟨d.oid.toArray⟩,vn,vs,vm,vy,.string ⟨d.form.toArray⟩,.string ⟨d.eqr.toArray⟩,.string ⟨d.ordr.toArray⟩,.string ⟨d.subs.toArray⟩,.bool d.single,.bool d.fixed,.bool d.oper,.int .i64 d.kind]
def DefAt (w:World) (p:Nat) (d:DefS):Prop:=∃ vn vs vm vy,Bk w p 111 (zo_ d vn vs vm vy)∧Texts w vn d.names∧Texts w vs d.sup∧Texts w vm d.must∧Texts w vy d.may
theorem DefAt.mods {S:List Nat} {w w':World} {p:Nat} {d:DefS} (h:DefAt w p d) (hm:Mods S w w') (hp:p ∉ S) (hS:NoText w S):DefAt w' p d:=by
 obtain⟨vn,vs,vm,vy,h1,h2,h3,h4,h5⟩:=h
 exact⟨vn,vs,vm,vy,hm.bk h1 hp,h2.mods hm hS,h3.mods hm hS,h4.mods hm hS,h5.mods hm hS⟩
theorem DefAt.below {w w':World} {p:Nat} {d:DefS} (h:DefAt w p d) (hb:Bel w w'):DefAt w' p d:=h.mods (Mods.of_below hb []) (by simp) (fun g hg=>by cases hg)
theorem DefAt.notext {w:World} {p:Nat} {d:DefS} (h:DefAt w p d):NoText w [p]:=by
 obtain⟨vn,vs,vm,vy,h1,_⟩:=h
 intro g hg s
 have:g=p:=by simpa using hg
 subst this
 rw[h1.cell 0]
 simp [zo_]
theorem DefAt.lt {w:World} {p:Nat} {d:DefS} (h:DefAt w p d):p<w.heap.size:=by
 obtain⟨vn,vs,vm,vy,h1,_⟩:=h
 exact h1.lt
theorem NoText.app {w:World} {S S':List Nat} (h:NoText w S) (h':NoText w S'):NoText w (S++S'):=by
 intro g hg s
 rcases List.mem_append.1 hg with h1|h1
 ·exact h g h1 s
 ·exact h' g h1 s
def kvS (k:Bool × LU):Value:= .agg #[.bool k.1,.string ⟨k.2.toArray⟩]
def yf_:List Nat→List DefS→List ((Bool × LU) × Value)
 |p::ps,d::L=>d.keys.map (fun k=>(k,z8_ p))++yf_ ps L
 |_,_=>[]
theorem y0_ {κ:Type} [DecidableEq κ] (v:Value) (k:κ):∀ ks:List κ,jj_ (ks.map fun x=>(x,v)) k=if k∈ks then some v else none
 |[]=>by simp [jj_]
 |x::ks=>by
  rw[List.map_cons,jj_,y0_ v k ks]
  by_cases h:k=x
  ·simp [h]
  ·simp [h]
theorem z8n_:∀ (ps:List Nat) (L:List DefS),ps.length=L.length→∀ (c:Bool) (n:LU),jj_ (yf_ ps L) (c,z2_ n)=(zg_ L c n).map (fun j=>z8_ (ps.getD j 0))
 |[],[],_,c,n=>by simp [yf_,jj_,zg_]
 |[],_::_,h,_,_=>by simp at h
 |_::_,[],h,_,_=>by simp at h
 |p::ps,d::L,h,c,n=>by
  have ih:=z8n_ ps L (by simpa using h) c n
  rw[yf_,z6p_,y0_,ih]
  unfold zg_
  rw[List.findIdx?_cons]
  by_cases hd:(c,z2_ n)∈d.keys
  ·have:d.keys.contains (c,z2_ n)=true:=by simpa using hd
   rw[if_pos hd,if_pos this]
   rfl
  ·have:¬ d.keys.contains (c,z2_ n)=true:=by simpa using hd
   rw[if_neg hd,if_neg this,Option.map_map]
   simp only[Option.none_or]
   congr 1
theorem z5a_:∀ (ps:List Nat) (L:List DefS) (p:Nat) (d:DefS),ps.length=L.length→yf_ (ps++[p]) (L++[d])=yf_ ps L++d.keys.map (fun k=>(k,z8_ p))
 |[],[],p,d,_=>by simp [yf_]
 |[],_::_,_,_,h=>by simp at h
 |_::_,[],_,_,h=>by simp at h
 |q::ps,e::L,p,d,h=>by
  rw[List.cons_append,List.cons_append,yf_,yf_,z5a_ ps L p d (by simpa using h),List.append_assoc]
theorem z4p_:∀ (ps:List Nat) (L:List DefS),ps.length=L.length→(yf_ ps L).map (·.1)=L.flatMap DefS.keys
 |[],[],_=>rfl
 |[],_::_,h=>by simp at h
 |_::_,[],h=>by simp at h
 |p::ps,d::L,h=>by
  rw[yf_,List.map_append,z4p_ ps L (by simpa using h),List.flatMap_cons,List.map_map]
  congr 1
  exact(List.map_congr_left (fun _ _=>rfl)).trans (List.map_id _)
def PtrsR (w:World) (v:Value) (ps:List Nat):Prop:=∃ A c,v= .slice A ps.length c∧ps.length≤c∧(ps=[]∨∃ g,A=some ⟨g,0,none⟩∧∀ (j p:Nat),ps[j]?=some p→w.cell? ⟨g,j,none⟩=some (z8_ p))
theorem PtrsR.mods {S:List Nat} {w w':World} {v:Value} {ps:List Nat} (h:PtrsR w v ps) (hm:Mods S w w') (hS:∀ g∈S,∀ p,w.cell? ⟨g,0,none⟩≠some (z8_ p)):PtrsR w' v ps:=by
 obtain⟨A,c,rfl,hc,h⟩:=h
 refine⟨A,c,rfl,hc,?_⟩
 cases ps with
 |nil=>exact .inl rfl
 |cons q t=>
  rcases h with h|⟨g,rfl,hx⟩
  ·cases h
  ·have hg:g ∉ S:=fun hg=>hS g hg q (hx 0 q rfl)
   exact .inr ⟨g,rfl,fun j p hj=>hm.cell (hx j p hj) hg⟩
theorem PtrsR.below {w w':World} {v:Value} {ps:List Nat} (h:PtrsR w v ps) (hb:Bel w w'):PtrsR w' v ps:=h.mods (Mods.of_below hb []) (fun g hg=>by cases hg)
structure SchAt (w:World) (s:Nat) (ps:List Nat) (L:List DefS):Prop where
 head:∃ lv m es c,Bk w s 79 #[lv,.map (some m)]∧PtrsR w lv ps∧w.heap[m]?=some (.map es c)∧MapR kvS es (yf_ ps L)
 len:ps.length=L.length
 nodup:ps.Nodup
 defs:∀ (i p:Nat) (d:DefS),ps[i]?=some p→L[i]?=some d→DefAt w p d
theorem SchAt.below {w w':World} {s:Nat} {ps:List Nat} {L:List DefS} (h:SchAt w s ps L) (hb:Bel w w'):SchAt w' s ps L:=by
 obtain⟨⟨lv,m,es,c,h1,h2,h3,h4⟩,h5,h6,h7⟩:=h
 exact⟨⟨lv,m,es,c,h1.below hb,h2.below hb,(hb.block m (Array.getElem?_eq_some_iff.1 h3).1).trans h3,h4⟩,h5,h6,fun i p d hp hd=>(h7 i p d hp hd).below hb⟩
end Go.Proofs.YtbekpphodbekiaaGreatDoor
