import Derived.Test.YtbekpphodbekiaaGreatDoorV0d
set_option linter.all false
set_option maxHeartbeats 8000000
set_option maxRecDepth 100000
namespace Go.Proofs.YtbekpphodbekiaaGreatDoor
open Go.RowKit
theorem zqz_ (W:World) (a b:LU) (p q:Bool):(Op.equalIn 10000 182 (.agg #[.string ⟨a.toArray⟩,.bool p]) (.agg #[.string ⟨b.toArray⟩,.bool q])).run Tryz.prog W= .ok (a==b && p==q) W:=by
 have u9:=Tryz.underlying9
 have a9:=Tryz.isAgg9
 have z9:=Tryz.sizeOf9
 have u4:=Tryz.underlying4
 have a4:=Tryz.isAgg4
 have z4:=Tryz.sizeOf4
 have hS:Tryz.prog.underlying 182=some (.struct (Tryz.prog.fieldsOf 182)):=by kernel_rfl
 have hp:Tryz.prog.stoodInHeld 182=false:=by kernel_rfl
 rw[show (10000:Nat)=9999+1 from rfl,run_equalIn_agg W 9999 182 _ _ hS hp]
 simp only[Program.fieldsOf,Tryz.underlying182]
 go_simp
 by_cases h1:a=b<;>by_cases h2:p=q<;>simp [h1,h2]
theorem zls_ (W:World) (a b:LU) (p q:Bool):(binOp .eql 182 (.agg #[.string ⟨a.toArray⟩,.bool p]) (.agg #[.string ⟨b.toArray⟩,.bool q])).run Tryz.prog W= .ok (.bool (a==b && p==q)) W:=by
 rw[run_eql_struct,zqz_];rfl
theorem RdW.at {w:World} {r:Nat} {l:List Wd} (h:RdW w r l):∃ A c,Bk w r 133 #[.slice A l.length c]∧WdsR w (.slice A l.length c) l∧l.length≤c:=by
 obtain⟨v,hb,hw⟩:=h
 obtain⟨A,c,rfl,hc,_⟩:=id hw
 exact⟨A,c,hb,hw,hc⟩
theorem RdW.step {w:World} {r:Nat} {A:Option Addr} {n c:Nat} {x:Wd} {l:List Wd} (hb:Bk w r 133 #[.slice A n c]) {v:Value} (hw:WdsR w v l):RdW (w.setCell ⟨r,0,none⟩ v) r l:=by
 refine⟨v,by simpa using hb.set 0 v,hw.mods (S:=[r]) ((Mods.refl [r] w).setCell (by simp) v) (NoWord.of_bk hb (by decide))⟩
theorem is_nil (r:Nat) (s:LU) (w:World) (h:RdW w r []):
  Calls Tryz.prog 112 #[.pointer (some ⟨r,0,none⟩),.string ⟨s.toArray⟩] w fun e w'=>e= .returned (.bool false)∧w=w':=by
 obtain⟨A,c,hb,_,_⟩:=h.at
 have c0:=hb.cell 0
 simp at c0
 go_enter Tryz.func112,Tryz.ntmps112
 go_wp2_with fail
 go_ret
 exact⟨rfl,rfl⟩
theorem zoz_ (r:Nat) (x:Wd) (l:List Wd) (s:LU) (w:World) (h:RdW w r (x::l)):
  Calls Tryz.prog 112 #[.pointer (some ⟨r,0,none⟩),.string ⟨s.toArray⟩] w fun e w'=>e= .returned (.bool (rIs (x::l) s))∧w=w':=by
 obtain⟨A,c,hb,hw,_⟩:=h.at
 obtain⟨g,o,rfl,_,hc,d0,d1,_⟩:=hw.uncons
 have c0:=hb.cell 0
 simp at c0
 obtain⟨t,q⟩:=x
 simp only at d0 d1
 have heq:=fun W=>zls_ W t s q false
 clear hb hw
 have hl0:(0:Int)<(l.length:Int)+1:=by omega
 go_enter Tryz.func112,Tryz.ntmps112
 go_wp2_with fail
 go_ret
 exact⟨rfl,rfl⟩
theorem is_w (r:Nat) (l:List Wd) (s:LU) (w:World) (h:RdW w r l):
  Calls Tryz.prog 112 #[.pointer (some ⟨r,0,none⟩),.string ⟨s.toArray⟩] w fun e w'=>e= .returned (.bool (rIs l s))∧w=w':=by
 cases l with
 |nil=>exact is_nil r s w h
 |cons x l=>exact zoz_ r x l s w h
theorem z1t_ (g o k c:Nat) (hc:k+1≤c):∃ A',(∀ W:World,(Instr.slice 128 (.slice (some ⟨g,o,none⟩) (k+1) c) (some (.int .i64 1)) none none).run Tryz.prog W= .ok (.slice A' k (c - 1)) W)∧(1<c→A'=some ⟨g,o+2,none⟩):=by
 by_cases h1:c=1
 ·refine⟨some ⟨g,o,none⟩,fun W=>?_,fun h=>by omega⟩
  have hk:k=0:=by omega
  subst h1 hk
  have hb:(Instr.sliceBounds true 1 1 (some (.int .i64 1)) none none).run Tryz.prog W= .ok (1,1,1) W:=by
   simp [Instr.sliceBounds,run_sliceBound]
  have h2:(sizeOf 182).run Tryz.prog W= .ok 2 W:=by kernel_rfl
  unfold Instr.slice
  simp only[Sem.run_bind,run_underlying Tryz.underlying128,Result.andThen_ok,hb,h2,Sem.run_pure]
  simp
 ·refine⟨some ⟨g,o+2,none⟩,fun W=>?_,fun _=>rfl⟩
  have hb:(Instr.sliceBounds true (k+1) c (some (.int .i64 1)) none none).run Tryz.prog W= .ok (1,k+1,c) W:=by
   have h1':(Instr.sliceBound (.int .i64 1) (k+1) BoundsCode.sliceB).run Tryz.prog W= .ok 1 W:=by
    have:=run_sliceBound (P:=Tryz.prog) (w:=W) .i64 1 (k+1) BoundsCode.sliceB (by omega) (by omega)
    exact this
   simp [Instr.sliceBounds,h1']
  have h2:(sizeOf 182).run Tryz.prog W= .ok 2 W:=by kernel_rfl
  unfold Instr.slice
  simp only[Sem.run_bind,run_underlying Tryz.underlying128,Result.andThen_ok,hb,h2,Sem.run_pure]
  have ha:(⟨g,o,none⟩:Addr).add (1 * 2)=⟨g,o+2,none⟩:=by unfold Addr.add;split<;>simp_all
  simp [ha]
  omega
def z7i_ (w:World) (r:Nat) (l':List Wd) (v:Value) (e:Ending) (w':World):Prop:=e= .returned v∧RdW w' r l'∧w.grownBy w' (some r)
theorem z1f_ (w:World) (r:Nat) (v:Value):w.grownBy (w.setCell ⟨r,0,none⟩ v) (some r):=z7_ w r 0 v
theorem zm2_ (r:Nat) (x:Wd) (l:List Wd) (s:LU) (w:World) (h:RdW w r (x::l)) (hs:rIs (x::l) s=true):
  Calls Tryz.prog 58 #[.pointer (some ⟨r,0,none⟩),.string ⟨s.toArray⟩] w (z7i_ w r l (.bool true)):=by
 have HI:=hiD (is_w r (x::l) s w h)
 rw[hs] at HI
 obtain⟨A,c,hb,hw,_⟩:=h.at
 obtain⟨g,o,rfl,_,hc,d0,d1,hu⟩:=hw.uncons
 obtain⟨A',hsl,hA'⟩:=z1t_ g o l.length c hc
 have hfin:=RdW.step (x:=x) hb (hu A' (c - 1) (by omega) hA')
 have HF:=hiD hfin
 have c0:=hb.cell 0
 have f0:=hb.frozen 0
 simp at c0
 clear hfin hu hA' hw hb d0 d1 hs h
 go_enter Tryz.func58,Tryz.ntmps58
 go_wp2_with (go_at_call 112;refine HI.out.mono ?_;rintro e w1 ⟨rfl,rfl⟩)
 go_ret
 exact⟨rfl,HF.out,z1f_ _ _ _⟩
theorem qr_ (r:Nat) (l:List Wd) (s:LU) (w:World) (h:RdW w r l) (hs:rIs l s=false):
  Calls Tryz.prog 58 #[.pointer (some ⟨r,0,none⟩),.string ⟨s.toArray⟩] w fun e w'=>e= .returned (.bool false)∧w=w':=by
 have HI:=hiD (is_w r l s w h)
 rw[hs] at HI
 clear hs h
 go_enter Tryz.func58,Tryz.ntmps58
 go_wp2_with (go_at_call 112;refine HI.out.mono ?_;rintro e w1 ⟨rfl,rfl⟩)
 go_ret
 exact⟨rfl,rfl⟩
def x5_ (s:LU) (b:Bool):Value:= .tuple #[.string ⟨s.toArray⟩,.bool b]
def z5i_ (w:World) (r:Nat) (o:Option (LU × List Wd)) (e:Ending) (w':World):Prop:=match o with
 |none=>∃ s,e= .returned (x5_ s false)∧Mods [r] w w'
 |some (s,l')=>e= .returned (x5_ s true)∧RdW w' r l'∧Mods [r] w w'
theorem zfz_ (r:Nat) (w:World) (h:RdW w r []):
  Calls Tryz.prog 119 #[.pointer (some ⟨r,0,none⟩)] w fun e w'=>e= .returned (x5_ [] false)∧w=w':=by
 obtain⟨A,c,hb,_,_⟩:=h.at
 have c0:=hb.cell 0
 simp at c0
 clear hb h
 go_enter Tryz.func119,Tryz.ntmps119
 go_wp2_with fail
 go_ret2
 exact⟨rfl,rfl⟩
theorem zj2_ (r:Nat) (t:LU) (l:List Wd) (w:World) (h:RdW w r ((t,false)::l)):
  Calls Tryz.prog 119 #[.pointer (some ⟨r,0,none⟩)] w fun e w'=>e= .returned (x5_ [] false)∧w=w':=by
 obtain⟨A,c,hb,hw,_⟩:=h.at
 obtain⟨g,o,rfl,_,hc,d0,d1,_⟩:=hw.uncons
 have c0:=hb.cell 0
 simp at c0
 simp only at d0 d1
 have hne:((l.length:Int)+1==0)=false:=by rw[beq_eq_false_iff_ne];omega
 have hl0:(0:Int)<(l.length:Int)+1:=by omega
 clear hb h hw
 go_enter Tryz.func119,Tryz.ntmps119
 go_wp2_with fail
 go_ret2
 exact⟨rfl,rfl⟩
theorem zeh_ (r:Nat) (t:LU) (l:List Wd) (w:World) (h:RdW w r ((t,true)::l)):
  Calls Tryz.prog 119 #[.pointer (some ⟨r,0,none⟩)] w (z7i_ w r l (x5_ t true)):=by
 obtain⟨A,c,hb,hw,_⟩:=h.at
 obtain⟨g,o,rfl,_,hc,d0,d1,hu⟩:=hw.uncons
 obtain⟨A',hsl,hA'⟩:=z1t_ g o l.length c hc
 have hfin:=RdW.step (x:=(t,true)) hb (hu A' (c - 1) (by omega) hA')
 have HF:=hiD hfin
 have c0:=hb.cell 0
 have f0:=hb.frozen 0
 simp at c0
 simp only at d0 d1
 have hne:((l.length:Int)+1==0)=false:=by rw[beq_eq_false_iff_ne];omega
 have hl0:(0:Int)<(l.length:Int)+1:=by omega
 clear hfin hu hA' hw hb h
 go_enter Tryz.func119,Tryz.ntmps119
 go_wp2_with fail
 go_ret2
 exact⟨rfl,HF.out,z1f_ _ _ _⟩
theorem zdf_ (r:Nat) (l:List Wd) (w:World) (h:RdW w r l):
  Calls Tryz.prog 119 #[.pointer (some ⟨r,0,none⟩)] w (z5i_ w r (qf_ l)):=by
 match l,h with
 |[],h=>exact(zfz_ r w h).mono fun e w' ⟨he,hw⟩=>⟨[],he,hw ▸ Mods.refl _ _⟩
 |(t,false)::l,h=>exact(zj2_ r t l w h).mono fun e w' ⟨he,hw⟩=>⟨[],he,hw ▸ Mods.refl _ _⟩
 |(t,true)::l,h=>exact(zeh_ r t l w h).mono fun e w' ⟨he,h1,h2⟩=>⟨he,h1,Mods.of_grown h2 (by simp)⟩
theorem z9b_ (r:Nat) (w:World) (h:RdW w r []):
  Calls Tryz.prog 59 #[.pointer (some ⟨r,0,none⟩)] w fun e w'=>e= .returned (x5_ [] false)∧w=w':=by
 obtain⟨A,c,hb,_,_⟩:=h.at
 have c0:=hb.cell 0
 simp at c0
 clear hb h
 go_enter Tryz.func59,Tryz.ntmps59
 go_wp2_with fail
 go_ret2
 exact⟨rfl,rfl⟩
theorem z5v_ (r:Nat) (t:LU) (l:List Wd) (w:World) (h:RdW w r ((t,true)::l)):
  Calls Tryz.prog 59 #[.pointer (some ⟨r,0,none⟩)] w fun e w'=>e= .returned (x5_ [] false)∧w=w':=by
 obtain⟨A,c,hb,hw,_⟩:=h.at
 obtain⟨g,o,rfl,_,hc,d0,d1,_⟩:=hw.uncons
 have c0:=hb.cell 0
 simp at c0
 simp only at d0 d1
 have hne:((l.length:Int)+1==0)=false:=by rw[beq_eq_false_iff_ne];omega
 have hl0:(0:Int)<(l.length:Int)+1:=by omega
 clear hb h hw
 go_enter Tryz.func59,Tryz.ntmps59
 go_wp2_with fail
 go_ret2
 exact⟨rfl,rfl⟩
theorem z55_ (l:LU) (w:World) (hw:Env w):Calls Tryz.prog 113 #[.string ⟨#[40,41,36]⟩,.string ⟨l.toArray⟩] w fun e w'=>e= .returned (.bool (Lib.contains [40,41,36] l))∧w=w':=by
 obtain⟨m,hm⟩:=hw.mx
 refine(Tryz.strings_Contains ⟨#[40,41,36]⟩ ⟨l.toArray⟩ m w (by decide) hm).mono ?_
 rintro e w' ⟨rfl,rfl⟩
 exact⟨rfl,rfl⟩
theorem zdt_ (r:Nat) (t:LU) (l:List Wd) (w:World) (hw:Env w) (h:RdW w r ((t,false)::l)) (hc:Lib.contains [40,41,36] t=true):
  Calls Tryz.prog 59 #[.pointer (some ⟨r,0,none⟩)] w fun e w'=>e= .returned (x5_ [] false)∧w=w':=by
 have HC:=hiD (z55_ t w hw)
 rw[hc] at HC
 obtain⟨A,c,hb,hw,_⟩:=h.at
 obtain⟨g,o,rfl,_,hc,d0,d1,_⟩:=hw.uncons
 have c0:=hb.cell 0
 simp at c0
 simp only at d0 d1
 have hne:((l.length:Int)+1==0)=false:=by rw[beq_eq_false_iff_ne];omega
 have hl0:(0:Int)<(l.length:Int)+1:=by omega
 clear hb h hw
 go_enter Tryz.func59,Tryz.ntmps59
 go_wp2_with (go_at_call 113;refine HC.out.mono ?_;rintro e w1 ⟨rfl,rfl⟩)
 go_ret2
 exact⟨rfl,rfl⟩
theorem zgo_ (r:Nat) (t:LU) (l:List Wd) (w:World) (hw:Env w) (h:RdW w r ((t,false)::l)) (hc:Lib.contains [40,41,36] t=false):
  Calls Tryz.prog 59 #[.pointer (some ⟨r,0,none⟩)] w (z7i_ w r l (x5_ t true)):=by
 have HC:=hiD (z55_ t w hw)
 rw[hc] at HC
 obtain⟨A,c,hb,hw,_⟩:=h.at
 obtain⟨g,o,rfl,_,hc,d0,d1,hu⟩:=hw.uncons
 obtain⟨A',hsl,hA'⟩:=z1t_ g o l.length c hc
 have hfin:=RdW.step (x:=(t,false)) hb (hu A' (c - 1) (by omega) hA')
 have HF:=hiD hfin
 have c0:=hb.cell 0
 have f0:=hb.frozen 0
 simp at c0
 simp only at d0 d1
 have hne:((l.length:Int)+1==0)=false:=by rw[beq_eq_false_iff_ne];omega
 have hl0:(0:Int)<(l.length:Int)+1:=by omega
 clear hfin hu hA' hw hb h
 go_enter Tryz.func59,Tryz.ntmps59
 go_wp2_with (go_at_call 113;refine HC.out.mono ?_;rintro e w1 ⟨rfl,rfl⟩)
 go_ret2
 exact⟨rfl,HF.out,z1f_ _ _ _⟩
theorem z7e_ (r:Nat) (l:List Wd) (w:World) (hw:Env w) (h:RdW w r l):
  Calls Tryz.prog 59 #[.pointer (some ⟨r,0,none⟩)] w (z5i_ w r (zi_ l)):=by
 match l,h with
 |[],h=>exact(z9b_ r w h).mono fun e w' ⟨he,hw⟩=>⟨[],he,hw ▸ Mods.refl _ _⟩
 |(t,true)::l,h=>exact(z5v_ r t l w h).mono fun e w' ⟨he,hw⟩=>⟨[],he,hw ▸ Mods.refl _ _⟩
 |(t,false)::l,h=>
  cases hc:Lib.contains [40,41,36] t
  ·have hr:zi_ ((t,false)::l)=some (t,l):=by simp [zi_,hc]
   rw[hr]
   exact(zgo_ r t l w hw h hc).mono fun e w' ⟨he,h1,h2⟩=>⟨he,h1,Mods.of_grown h2 (by simp)⟩
  ·have hr:zi_ ((t,false)::l)=none:=by simp [zi_,hc]
   rw[hr]
   exact(zdt_ r t l w hw h hc).mono fun e w' ⟨he,hw⟩=>⟨[],he,hw ▸ Mods.refl _ _⟩
open Go.RowKit
theorem Env.mods {S:List Nat} {w w':World} (h:Env w) (hm:Mods S w w') (hS:∀ b∈S,Off b):Env w':=by
 obtain⟨⟨h1,h2⟩,m,hx⟩:=h
 have n1:1 ∉ S:=fun hb=>(hS _ hb).1 rfl
 have n2:2 ∉ S:=fun hb=>(hS _ hb).2.1 rfl
 have n3:0 ∉ S:=fun hb=>(hS _ hb).2.2 rfl
 exact⟨⟨fun c hc=>hm.cell (h1 c hc) n1,fun i hi=>⟨hm.cell (h2 i hi).1 n2,hm.cell (h2 i hi).2 n2⟩⟩,m,hm.cell hx n3⟩
def Own (B:Nat) (w:World) (v:Value) (xs:LL):Prop:=w.ownsRow B 9 1 v xs.length (xs.map jp_)∧B≤w.heap.size
theorem Own.nil {B:Nat} {w:World} (hB:B≤w.heap.size):Own B w (.slice none 0 0) []:=⟨World.ownsRow_nil _ _ _ _,hB⟩
theorem Own.lt {B:Nat} {w:World} {v:Value} {xs:LL} (h:Own B w v xs):∀ k,v.ownBlock=some k→B≤k∧k<w.heap.size:=fun k hk=>h.1.lt k hk
theorem Own.keep {B:Nat} {w w':World} {v:Value} {xs:LL} (h:Own B w v xs) {r:Option Nat} (hg:w.grownBy w' r) (hr:∀ k,r=some k→k<B):Own B w' v xs:=by
 refine⟨h.1.kept hg ?_,nT h.2 hg.size⟩
 rcases hv:v.ownBlock with _|g
 ·exact .inl rfl
 ·refine .inr ?_
  intro he
  have:=hr g he.symm
  have:=(h.1.lt g hv).1
  omega
theorem Own.below {B:Nat} {w w':World} {v:Value} {xs:LL} (h:Own B w v xs) (hb:Bel w w'):Own B w' v xs:=h.keep (zc_ hb none) (fun k hk=>by cases hk)
theorem Own.mods {B r:Nat} {w w':World} {v:Value} {xs:LL} (h:Own B w v xs) (hm:Mods [r] w w') (hr:r<B):Own B w' v xs:=
 h.keep (r:=some r) ⟨hm.os,hm.tape,hm.output,hm.size,fun k hk hne=>hm.block k hk (by intro hx;apply hne;simp at hx;rw[hx])⟩ (fun k hk=>by cases hk;exact hr)
theorem Own.texts {B:Nat} {w:World} {v:Value} {xs:LL} (h:Own B w v xs):Texts w v xs:=by
 obtain⟨⟨h1,h2⟩,_⟩:=h
 rcases h2 with ⟨rfl,hn⟩|⟨g,cap,cur,rfl,r2,r3,r4,r5,r6,r7⟩
 ·exact .inl ⟨List.eq_nil_of_length_eq_zero hn,rfl⟩
 ·refine .inr ⟨g,cap,rfl,r4,(Array.getElem?_eq_some_iff.1 r3).1,fun j hj=>?_⟩
  simp only[World.cell?,r3]
  have:(cur.toList.take (xs.length * 1))[j]?=some (jp_ xs[j]):=by rw[r7];simp [hj]
  rw[List.getElem?_take] at this
  simpa [hj,jp_] using this
theorem Own.noword {B:Nat} {w:World} {v:Value} {xs:LL} (h:Own B w v xs) {k:Nat} (hk:v.ownBlock=some k):NoWord w [k]:=by
 obtain⟨⟨h1,h2⟩,_⟩:=h
 rcases h2 with ⟨rfl,hn⟩|⟨g,cap,cur,rfl,r2,r3,r4,r5,r6,r7⟩
 ·simp [Value.ownBlock] at hk
 ·have hgk:g=k:=by simpa [Value.ownBlock] using hk
  subst hgk
  intro x hx cs z
  have:x=g:=by simpa using hx
  subst this
  rw[r3]
  intro e
  cases e
theorem Own.isSlice {B:Nat} {w:World} {v:Value} {xs:LL} (h:Own B w v xs):∃ A c,v= .slice A xs.length c∧xs.length≤c:=by
 obtain⟨⟨h1,h2⟩,_⟩:=h
 rcases h2 with ⟨rfl,hn⟩|⟨g,cap,cur,rfl,r2,r3,r4,_⟩
 ·exact⟨none,0,by rw[hn],by omega⟩
 ·exact⟨_,cap,rfl,r4⟩
theorem vn_ {ops:Array Oper} {rest:List Oper} {o:Oper} {a:Act} {Q:Exit→Act→World→Prop} (hgd:o.guard=none) (s x:Operand) (ho:o.op= .call {callee:= .builtin .append,args:=#[s,x],argTypes:=#[36,36]})
  {v:Value} {xs:LL} {B N:Nat} {w0:World} {c:LU} (hs:a.eval s=v) (hb:Own B w0 v xs)
  (hx:a.eval x= .slice (some ⟨N,0,none⟩) 1 1) (hN:N=w0.heap.size) (hlen:xs.length<4398046511104)
  (h:∀ v' w',Own B w' v' (xs++[c])→w0.grownBy w' v.ownBlock→wpList Tryz.prog ops Q rest (a.put o.dst v') w'):wpList Tryz.prog ops Q (o::rest) a (w0.alloc (.cells #[.string ⟨c.toArray⟩] 9)):=by
 subst hN
 obtain⟨i,h1,h2,h3,h4⟩:=k2_
 have hb':=hb.keep (World.grownBy_alloc w0 (.cells #[.string ⟨c.toArray⟩] 9) none) (fun k hk=>by cases hk)
 refine wpList_append_own _ hgd s x 36 ho B 9 i (.string ⟨#[]⟩) 1 16 Tryz.underlying36 h1 h2 h3 h4 rfl (by decide) v _ _ hs hb'.1 ⟨w0.heap.size,0,none⟩ 1 1 [.string ⟨c.toArray⟩] hx rfl ?_ ?_ (by unfold maxLen;omega) (by omega) hb'.2 ?_
 ·intro j u hj
  match j,hj with
  |0,hj=>simp at hj;subst hj;simp [Addr.add]
  |(j+1),hj=>simp at hj
 ·intro u hu;simp at hu;subst hu;rfl
 ·intro v' w' ho' hg _
  refine h v' w' ⟨?_,nT hb'.2 hg.size⟩ (gT (World.grownBy_alloc _ _ _) hg)
  simpa [jp_] using ho'
theorem RdW.owned {w w':World} {r B:Nat} {l:List Wd} {v:Value} {xs:LL} (h:RdW w r l) (ho:Own B w v xs) (hr:r<B) (hg:w.grownBy w' v.ownBlock):RdW w' r l:=by
 rcases hv:v.ownBlock with _|k
 ·rw[hv] at hg
  exact h.below ⟨hg.os,hg.tape,hg.output,hg.size,fun j hj=>hg.block j hj (by simp)⟩
 ·rw[hv] at hg
  have:=ho.lt k hv
  exact h.mods (Mods.of_grown hg (S:=[k]) (by simp)) (by simp;omega) (ho.noword hv)
theorem Mods.owned {S:List Nat} {w0 w w':World} {v:Value} {xs:LL} (h:Mods S w0 w) (ho:Own w0.heap.size w v xs) (hg:w.grownBy w' v.ownBlock):Mods S w0 w':=by
 rcases hv:v.ownBlock with _|k
 ·rw[hv] at hg
  exact h.trans (Mods.of_grown' hg (fun k hk=>by cases hk))
 ·rw[hv] at hg
  have hk:=ho.lt k hv
  refine((h.mono (S':=k::S) (fun x hx=>by simp [hx])).trans (Mods.of_grown hg (by simp))).news ?_
  intro x hx
  rcases List.mem_cons.1 hx with rfl|hx
  ·exact .inr hk.1
  ·exact .inl hx
theorem zic_ (r:Nat) (l:List Wd) (w:World) (hw:Env w) (h:RdW w r l) (hn:zi_ l=none):
  Calls Tryz.prog 117 #[.pointer (some ⟨r,0,none⟩)] w fun e w'=>∃ s,e= .returned (x5_ s false)∧Mods [r] w w':=by
 have hp:=z7e_ r l w hw h
 rw[hn] at hp
 have HP:Hid (Calls Tryz.prog 59 #[.pointer (some ⟨r,0,none⟩)] w fun e w'=>∃ s:LU,e= .returned (.tuple #[.string ⟨s.toArray⟩,.bool false])∧Mods [r] w w'):=hiD hp
 clear hp hn h
 go_enter Tryz.func117,Tryz.ntmps117
 go_wp2_with (go_at_call 59;refine HP.out.mono ?_;rintro e w1 ⟨s,rfl,hm⟩)
 go_ret2
 exact⟨s,rfl,hm⟩
theorem zgv_ (r:Nat) (l t:List Wd) (s:LU) (w:World) (hw:Env w) (hO:Off r) (h:RdW w r l) (hn:zi_ l=some (s,t)) (hs:s.length≤1000000):
  Calls Tryz.prog 117 #[.pointer (some ⟨r,0,none⟩)] w fun e w'=>e= .returned (x5_ s (zd_ s))∧RdW w' r t∧Mods [r] w w':=by
 have hp:=z7e_ r l w hw h
 rw[hn] at hp
 have HP:Hid (Calls Tryz.prog 59 #[.pointer (some ⟨r,0,none⟩)] w fun e w'=>e= .returned (.tuple #[.string ⟨s.toArray⟩,.bool true])∧RdW w' r t∧Mods [r] w w'):=hiD hp
 have HT:=hiD (fun (W:World) (hm:Mods [r] w W)=>j5_ s W (hw.mods hm (by simpa using hO)) (by omega))
 clear hp hn h
 go_enter Tryz.func117,Tryz.ntmps117
 go_wp2_with (first|(go_at_call 59;refine HP.out.mono ?_;rintro e w1 ⟨rfl,hr,hm⟩)|(go_at_call 50;refine(HT.out _ hm).mono ?_;rintro e w2 ⟨rfl,hb⟩))
 go_ret2
 exact⟨rfl,hr.below hb,hm.trans (Mods.of_below hb _)⟩
theorem zv_ {l t:List Wd} {s:LU} (h:zi_ l=some (s,t)):∃ q,l=(s,q)::t:=by
 unfold zi_ at h
 split at h
 ·cases h
 ·split at h
  ·cases h
  ·cases h;exact⟨_,rfl⟩
theorem y0_ {l t:List Wd} {s:LU} (h:qf_ l=some (s,t)):∃ q,l=(s,q)::t:=by
 unfold qf_ at h
 split at h
 ·cases h
 ·split at h
  ·cases h;exact⟨_,rfl⟩
  ·cases h
theorem ym_ {l t:List Wd} {s:LU} (h:yb_ l=some (s,t)):∃ q,l=(s,q)::t:=by
 unfold yb_ at h
 split at h
 ·cases h
 ·next s' t' hp=>
  split at h
  ·cases h;exact zv_ hp
  ·cases h
def Shorts (l:List Wd):Prop:=∀ x∈l,x.1.length≤1000000
theorem zo8_ (r:Nat) (l:List Wd) (w:World) (hw:Env w) (hO:Off r) (h:RdW w r l) (hl:Shorts l):
  Calls Tryz.prog 117 #[.pointer (some ⟨r,0,none⟩)] w (z5i_ w r (yb_ l)):=by
 unfold yb_
 cases hp:zi_ l with
 |none=>exact zic_ r l w hw h hp
 |some x=>
  obtain⟨s,t⟩:=x
  obtain⟨q,hq⟩:=zv_ hp
  refine(zgv_ r l t s w hw hO h hp (by rw[hq] at hl;exact hl _ (List.mem_cons_self ..))).mono ?_
  rintro e w' ⟨rfl,h1,h2⟩
  show z5i_ w r (if zd_ s then some (s,t) else none) _ _
  cases hT:zd_ s
  ·exact⟨s,rfl,h2⟩
  ·exact⟨rfl,h1,h2⟩
structure OneOK (f:FuncId) (r:Nat) (one:List Wd→Option (LU × List Wd)):Prop where
 call:∀ (W:World) (l:List Wd),Env W→RdW W r l→Shorts l→Calls Tryz.prog f #[.pointer (some ⟨r,0,none⟩)] W (z5i_ W r (one l))
 cons:∀ (l t:List Wd) (s:LU),one l=some (s,t)→∃ q,l=(s,q)::t
 enter:∀ (args:Array Value) (w:World),(callFunc f args).run Tryz.prog w= .ok (.enter f args) w
theorem zpr_ (r:Nat) (hO:Off r):OneOK 117 r yb_:=⟨fun W l hE hR hS=>zo8_ r l W hE hO hR hS,fun _ _ _ h=>ym_ h,fun _ _=>by kernel_rfl⟩
theorem zhz_ (r:Nat):OneOK 119 r qf_:=⟨fun W l _ hR _=>zdf_ r l W hR,fun _ _ _ h=>y0_ h,fun _ _=>by kernel_rfl⟩
def zqh_ (w:World) (r:Nat) (o:Option (LL × List Wd)) (e:Ending) (w':World):Prop:=match o with
 |none=>e= .returned (.tuple #[.slice none 0 0,.bool false])∧Mods [r] w w'
 |some (xs,l')=>∃ v,e= .returned (.tuple #[v,.bool true])∧Texts w' v xs∧RdW w' r l'∧Mods [r] w w'
open Go.RowKit
structure LJ (w:World) (r:Nat) (sign:LU) (one:List Wd→Option (LU × List Wd)) (many:Bool) (R:Option (LL × List Wd)) (gk:Nat) (out:Value) (wr:World) (l:List Wd) (acc:LL):Prop where
 fuel:l.length<gk
 own:Own w.heap.size wr out acc
 rd:RdW wr r l
 mods:Mods [r] w wr
 rest:v8_ sign one many gk l acc=R
 num:acc.length+l.length≤1000000
 short:Shorts l
theorem LJ.env {w:World} {r:Nat} {sign:LU} {one:List Wd→Option (LU × List Wd)} {many:Bool} {R:Option (LL × List Wd)} {gk:Nat} {out:Value} {wr:World} {l:List Wd} {acc:LL} (h:LJ w r sign one many R gk out wr l acc) (hw:Env w) (hO:Off r):Env wr:=hw.mods h.mods (by simpa using hO)
theorem Shorts.tail {x:Wd} {l:List Wd} (h:Shorts (x::l)):Shorts l:=fun y hy=>h y (List.mem_cons_of_mem _ hy)
theorem z18_ {sign:LU} {one:List Wd→Option (LU × List Wd)} {many:Bool} {n:Nat} {l:List Wd} {acc:LL} (h:one l=none):v8_ sign one many (n+1) l acc=none:=by
 rw[v8_,h]
theorem z1j_ {sign:LU} {one:List Wd→Option (LU × List Wd)} {many:Bool} {n:Nat} {l t:List Wd} {s:LU} {acc:LL} (h:one l=some (s,t)):v8_ sign one many (n+1) l acc=if zd_ s then
    (if !many then some (acc++[s],t)
     else if rIs t [41] then some (acc++[s],t.tail)
     else if sign==[] then v8_ sign one many n t (acc++[s])
     else if rIs t sign then v8_ sign one many n t.tail (acc++[s]) else none)
   else none:=by
 rw[v8_,h]
theorem zl4_ {l:List Wd} {s:LU} (h:rIs l s=true):∃ x,l=x::l.tail:=by
 cases l with
 |nil=>cases h
 |cons x t=>exact⟨x,rfl⟩
theorem yp_ {one:List Wd→Option (LU × List Wd)} (hc:∀ (l t:List Wd) (s:LU),one l=some (s,t)→∃ q,l=(s,q)::t) {l:List Wd} (hs:Shorts l) {x:LU × List Wd} (h:one l=some x):x.1.length≤1000000:=by
 obtain⟨q,hq⟩:=hc l x.2 x.1 h
 rw[hq] at hs
 exact hs _ (List.mem_cons_self ..)
theorem jd_ (r:Nat) (l:List Wd) (s:LU) (w:World) (h:RdW w r l) (hs:rIs l s=true):
  Calls Tryz.prog 58 #[.pointer (some ⟨r,0,none⟩),.string ⟨s.toArray⟩] w (z7i_ w r l.tail (.bool true)):=by
 obtain⟨x,hx⟩:=zl4_ hs
 rw[hx] at h hs
 exact zm2_ r x l.tail s w h hs
theorem list_c (f:FuncId) (one:List Wd→Option (LU × List Wd)) (sign:LU) (hsg:sign=[]∨sign=[36]) (r:Nat) (l:List Wd) (w:World) (hw:Env w) (hO:Off r) (hone:OneOK f r one) (h:RdW w r l) (hs:Shorts l) (hl:l.length≤1000000):
  Calls Tryz.prog 116 #[.pointer (some ⟨r,0,none⟩),.string ⟨sign.toArray⟩,.func (.func f) #[.pointer (some ⟨r,0,none⟩)] #[]] w (zqh_ w r (x8_ sign one l)):=by
 obtain⟨R,hR⟩:∃ R,x8_ sign one l=R:=⟨_,rfl⟩
 rw[hR]
 have hrw:r<w.heap.size:=by obtain⟨v,hb,_⟩:=h;exact hb.lt
 have HH:=hiD h
 have HS:=hiD hs
 unfold x8_ at hR
 have HR:=hiD hR
 clear h hs hR
 have HT0:Hid (Calls Tryz.prog 58 #[.pointer (some ⟨r,0,none⟩),.string ⟨#[40]⟩] w fun e w'=>e= .returned (.bool (rIs l [40]))∧RdW w' r (if rIs l [40] then l.tail else l)∧Mods [r] w w'):=hiD (by
  cases hm:rIs l [40]
  ·exact(qr_ r l [40] w HH.out hm).mono fun e w' ⟨he,hw'⟩=>⟨he,hw' ▸ HH.out,hw' ▸ Mods.refl _ _⟩
  ·exact(jd_ r l [40] w HH.out hm).mono fun e w' ⟨he,h1,h2⟩=>⟨he,h1,Mods.of_grown h2 (by simp)⟩)
 have HL0:Hid ((if rIs l [40] then l.tail else l).length≤l.length∧Shorts (if rIs l [40] then l.tail else l)):=hiD (by
  cases rIs l [40]
  ·exact⟨nR _,HS.out⟩
  ·exact⟨by simp,fun x hx=>HS.out x (List.mem_of_mem_tail hx)⟩)
 generalize (if rIs l [40] then l.tail else l)=l0 at HT0 HR HL0
 generalize rIs l [40]=many at HT0 HR
 have hent:=hone.enter
 clear HS HH
 go_enter Tryz.func116,Tryz.ntmps116
 go_wp2_with (go_at_call 58;refine HT0.out.mono ?_;rintro e w1 ⟨rfl,hr1,hm1⟩)
 go_loopg [9] (l.length+1) (fun gk out wr=>∃ (l':List Wd) (acc:LL),Aside (LJ w r sign one many R gk out wr l' acc))
 case atStart=>
  refine⟨l0,[],?_⟩
  have hl0:=HL0.out
  exact(⟨by omega,Own.nil hm1.size,hr1,hm1,HR.out,by simp only[List.length_nil];omega,hl0.2⟩:LJ w r sign one many R _ _ _ _ _)
 case round=>
  clear HT0 HR HL0
  obtain⟨l',acc,AJ⟩:=hrel
  obtain⟨q,rfl⟩:∃ q,gk=q+1:=⟨gk - 1,by have:=AJ.out.fuel;omega⟩
  have H1:=hone.call wr l' (AJ.out.env hw hO) AJ.out.rd AJ.out.short
  obtain⟨Ao,co,rfl,hco⟩:=AJ.out.own.isSlice
  cases ho:one l' with
  |none=>
   rw[ho] at H1
   have hfin:R=none:=by rw[← AJ.out.rest,z18_ ho]
   have Hf:=hiD hfin
   clear hfin ho
   have H1':Hid (Calls Tryz.prog f #[.pointer (some ⟨r,0,none⟩)] wr fun e w'=>∃ s:LU,e= .returned (.tuple #[.string ⟨s.toArray⟩,.bool false])∧Mods [r] wr w'):=hiD H1
   clear H1
   go_wp2_with ((with_reducible refine H1'.out.mono ?_);rintro e w2 ⟨s,rfl,hm2⟩)
   go_ret2
   rw[Hf.out]
   exact⟨rfl,AJ.out.mods.trans hm2⟩
  |some xx=>
   obtain⟨s,t⟩:=xx
   rw[ho] at H1
   have H1':Hid (Calls Tryz.prog f #[.pointer (some ⟨r,0,none⟩)] wr fun e w'=>e= .returned (.tuple #[.string ⟨s.toArray⟩,.bool true])∧RdW w' r t∧Mods [r] wr w'):=hiD H1
   clear H1
   have hc:=hone.cons l' t s ho
   have hstep:=z1j_ (sign:=sign) (many:=many) (n:=q) (acc:=acc) ho
   rw[AJ.out.rest] at hstep
   have HS:=hiD hstep
   have hsl:=yp_ hone.cons AJ.out.short ho
   simp only at hsl
   have hlt:l'.length=t.length+1:=by obtain⟨q',hq⟩:=hc;rw[hq];rfl
   have hst:Shorts t:=by have:=AJ.out.short;obtain⟨q',hq⟩:=hc;rw[hq] at this;exact this.tail
   have hfuel:=AJ.out.fuel
   have hnum:=AJ.out.num
   have HST:=hiD hst
   have HT:=hiD (fun (W:World) (hm:Mods [r] wr W)=>j5_ s W ((AJ.out.env hw hO).mods hm (by simpa using hO)) (by omega))
   clear hc hstep ho hst
   have HO:=hiD (fun (w2 w3:World) (hm2:Mods [r] wr w2) (hb3:Bel w2 w3)=>(AJ.out.own.mods hm2 hrw).below hb3)
   have HM:=hiD (fun (w2 w3:World) (hm2:Mods [r] wr w2) (hb3:Bel w2 w3)=>(AJ.out.mods.trans hm2).trans (Mods.of_below hb3 [r]))
   have H79:Hid (Mods [r] w wr):=hiD AJ.out.mods
   clear AJ
   cases hT:zd_ s
   ·rw[hT] at HT HS
    simp only[Bool.false_eq_true,if_false] at HS
    clear hT
    go_wp2_with (first|((with_reducible refine H1'.out.mono ?_);rintro e w2 ⟨rfl,hr2,hm2⟩)|(go_at_call 50;refine(HT.out _ hm2).mono ?_;rintro e w3 ⟨rfl,hb3⟩))
    go_ret2
    rw[HS.out]
    exact⟨rfl,HM.out _ _ hm2 hb3⟩
   ·rw[hT] at HT HS
    simp only[if_true] at HS
    clear hT
    cases many
    ·simp only[Bool.not_false,if_true] at HS
     go_wp2_with (first|((with_reducible refine H1'.out.mono ?_);rintro e w2 ⟨rfl,hr2,hm2⟩)|(go_at_call 50;refine(HT.out _ hm2).mono ?_;rintro e w3 ⟨rfl,hb3⟩;have hO3:=HO.out _ _ hm2 hb3)|(at_builtin;refine vn_ (c:=s) rfl _ _ rfl rfl hO3 rfl rfl (by omega) ?_;intro v' w4 hO4 hg4))
     go_ret2
     rw[HS.out]
     exact⟨v',rfl,hO4.texts,(hr2.below hb3).owned hO3 hrw hg4,(HM.out _ _ hm2 hb3).owned hO3 hg4⟩
    ·simp only[Bool.not_true,Bool.false_eq_true,if_false] at HS
     cases h41:rIs t [41]
     ·rw[h41] at HS
      simp only[Bool.false_eq_true,if_false] at HS
      have H41:=hiD h41
      clear h41
      rcases hsg with rfl|rfl
      ·have hS2:Hid (R=v8_ [] one true q t (acc++[s])):=hiD HS.out
       clear HS
       go_wp2_with (first|((with_reducible refine H1'.out.mono ?_);rintro e w2 ⟨rfl,hr2,hm2⟩)|(go_at_call 50;refine(HT.out _ hm2).mono ?_;rintro e w3 ⟨rfl,hb3⟩;have hO3:=HO.out _ _ hm2 hb3)|(at_builtin;refine vn_ (c:=s) rfl _ _ rfl rfl hO3 rfl rfl (by omega) ?_;intro v' w4 hO4 hg4;have hr4:=(hr2.below hb3).owned hO3 hrw hg4)|(go_at_call 58;(with_reducible refine(qr_ r t [41] _ hr4 H41.out).mono ?_);rintro e w5 ⟨rfl,rfl⟩))
       go_roundg q
       case measure=>omega
       case rel=>exact⟨t,acc++[s],(⟨by omega,hO4,hr4,(HM.out _ _ hm2 hb3).owned hO3 hg4,hS2.out.symm,by simp only[List.length_append,List.length_cons,List.length_nil];omega,HST.out⟩:LJ w r [] one true R q v' _ t (acc++[s]))⟩
      ·cases h36:rIs t [36]
       ·have hS2:Hid (R=none):=hiD (by rw[HS.out,h36];rfl)
        have H36:=hiD h36
        clear HS h36
        go_wp2_with (first|((with_reducible refine H1'.out.mono ?_);rintro e w2 ⟨rfl,hr2,hm2⟩)|(go_at_call 50;refine(HT.out _ hm2).mono ?_;rintro e w3 ⟨rfl,hb3⟩;have hO3:=HO.out _ _ hm2 hb3)|(at_builtin;refine vn_ (c:=s) rfl _ _ rfl rfl hO3 rfl rfl (by omega) ?_;intro v' w4 hO4 hg4;have hr4:=(hr2.below hb3).owned hO3 hrw hg4)|(go_at_call 58;(with_reducible refine(qr_ r t [41] _ hr4 H41.out).mono ?_);rintro e w5 ⟨rfl,rfl⟩)|(go_at_call 58;(with_reducible refine(qr_ r t [36] _ hr4 H36.out).mono ?_);rintro e w5 ⟨rfl,rfl⟩))
        go_ret2
        rw[hS2.out]
        exact⟨rfl,(HM.out _ _ hm2 hb3).owned hO3 hg4⟩
       ·have hS2:Hid (R=v8_ [36] one true q t.tail (acc++[s])):=hiD (by rw[HS.out,h36];rfl)
        have H36:=hiD h36
        have htl:t.tail.length≤t.length:=by simp
        clear HS h36
        go_wp2_with (first|((with_reducible refine H1'.out.mono ?_);rintro e w2 ⟨rfl,hr2,hm2⟩)|(go_at_call 50;refine(HT.out _ hm2).mono ?_;rintro e w3 ⟨rfl,hb3⟩;have hO3:=HO.out _ _ hm2 hb3)|(at_builtin;refine vn_ (c:=s) rfl _ _ rfl rfl hO3 rfl rfl (by omega) ?_;intro v' w4 hO4 hg4;have hr4:=(hr2.below hb3).owned hO3 hrw hg4)|(go_at_call 58;(with_reducible refine(qr_ r t [41] _ hr4 H41.out).mono ?_);rintro e w5 ⟨rfl,rfl⟩)|(go_at_call 58;(with_reducible refine(jd_ r t [36] _ hr4 H36.out).mono ?_);rintro e w6 ⟨rfl,hr6,hg6⟩))
        go_roundg q
        case measure=>omega
        case rel=>exact⟨t.tail,acc++[s],(⟨by omega,hO4.keep hg6 (fun k hk=>by cases hk;exact hrw),hr6,((HM.out _ _ hm2 hb3).owned hO3 hg4).trans (Mods.of_grown hg6 (by simp)),hS2.out.symm,by simp only[List.length_append,List.length_cons,List.length_nil];omega,fun x hx=>HST.out x (List.mem_of_mem_tail hx)⟩:LJ w r [36] one true R q v' _ t.tail (acc++[s]))⟩
     ·rw[h41] at HS
      simp only[if_true] at HS
      have H41:=hiD h41
      clear h41
      go_wp2_with (first|((with_reducible refine H1'.out.mono ?_);rintro e w2 ⟨rfl,hr2,hm2⟩)|(go_at_call 50;refine(HT.out _ hm2).mono ?_;rintro e w3 ⟨rfl,hb3⟩;have hO3:=HO.out _ _ hm2 hb3)|(at_builtin;refine vn_ (c:=s) rfl _ _ rfl rfl hO3 rfl rfl (by omega) ?_;intro v' w4 hO4 hg4;have hr4:=(hr2.below hb3).owned hO3 hrw hg4)|(go_at_call 58;(with_reducible refine(jd_ r t [41] _ hr4 H41.out).mono ?_);rintro e w6 ⟨rfl,hr6,hg6⟩))
      go_ret2
      rw[HS.out]
      exact⟨v',rfl,(hO4.keep hg6 (fun k hk=>by cases hk;exact hrw)).texts,hr6,((HM.out _ _ hm2 hb3).owned hO3 hg4).trans (Mods.of_grown hg6 (by simp))⟩
open Go.RowKit
def z8_ (p:Nat):Value:= .pointer (some ⟨p,0,none⟩)
def zq_ (d:DefS) (vn vs vm vy:Value):Array Value:=#[.bool d.cls,.string ⟨d.oid.toArray⟩,vn,vs,vm,vy,.string ⟨d.form.toArray⟩,.string ⟨d.eqr.toArray⟩,.string ⟨d.ordr.toArray⟩,.string ⟨d.subs.toArray⟩,.bool d.single,.bool d.fixed,.bool d.oper,.int .i64 d.kind]
def DefAt (w:World) (p:Nat) (d:DefS):Prop:=∃ vn vs vm vy,Bk w p 111 (zq_ d vn vs vm vy)∧Texts w vn d.names∧Texts w vs d.sup∧Texts w vm d.must∧Texts w vy d.may
theorem DefAt.mods {S:List Nat} {w w':World} {p:Nat} {d:DefS} (h:DefAt w p d) (hm:Mods S w w') (hp:p ∉ S) (hS:NoText w S):DefAt w' p d:=by
 obtain⟨vn,vs,vm,vy,h1,h2,h3,h4,h5⟩:=h
 exact⟨vn,vs,vm,vy,hm.bk h1 hp,h2.mods hm hS,h3.mods hm hS,h4.mods hm hS,h5.mods hm hS⟩
theorem DefAt.below {w w':World} {p:Nat} {d:DefS} (h:DefAt w p d) (hb:Bel w w'):DefAt w' p d:=h.mods (Mods.of_below hb []) (by simp) (fun g hg=>by cases hg)
theorem DefAt.notext {w:World} {p:Nat} {d:DefS} (h:DefAt w p d):NoText w [p]:=by
 obtain⟨vn,vs,vm,vy,h1,_⟩:=h
 intro g hg s
 have:g=p:=by simpa using hg
 subst this
 rw[h1.cell 0]
 simp [zq_]
theorem DefAt.lt {w:World} {p:Nat} {d:DefS} (h:DefAt w p d):p<w.heap.size:=by
 obtain⟨vn,vs,vm,vy,h1,_⟩:=h
 exact h1.lt
theorem NoText.app {w:World} {S S':List Nat} (h:NoText w S) (h':NoText w S'):NoText w (S++S'):=by
 intro g hg s
 rcases List.mem_append.1 hg with h1|h1
 ·exact h g h1 s
 ·exact h' g h1 s
def kvS (k:Bool × LU):Value:= .agg #[.bool k.1,.string ⟨k.2.toArray⟩]
def yg_:List Nat→List DefS→List ((Bool × LU) × Value)
 |p::ps,d::L=>d.keys.map (fun k=>(k,z8_ p))++yg_ ps L
 |_,_=>[]
theorem xz_ {κ:Type} [DecidableEq κ] (v:Value) (k:κ):∀ ks:List κ,jo_ (ks.map fun x=>(x,v)) k=if k∈ks then some v else none
 |[]=>by simp [jo_]
 |x::ks=>by
  rw[List.map_cons,jo_,xz_ v k ks]
  by_cases h:k=x
  ·simp [h]
  ·simp [h]
theorem z9r_:∀ (ps:List Nat) (L:List DefS),ps.length=L.length→∀ (c:Bool) (n:LU),jo_ (yg_ ps L) (c,z2_ n)=(zg_ L c n).map (fun j=>z8_ (ps.getD j 0))
 |[],[],_,c,n=>by simp [yg_,jo_,zg_]
 |[],_::_,h,_,_=>by simp at h
 |_::_,[],h,_,_=>by simp at h
 |p::ps,d::L,h,c,n=>by
  have ih:=z9r_ ps L (by simpa using h) c n
  rw[yg_,z7z_,xz_,ih]
  unfold zg_
  rw[List.findIdx?_cons]
  by_cases hd:(c,z2_ n)∈d.keys
  ·have:d.keys.contains (c,z2_ n)=true:=by simpa using hd
   rw[if_pos hd,if_pos this]
   rfl
  ·have:¬ d.keys.contains (c,z2_ n)=true:=by simpa using hd
   rw[if_neg hd,if_neg this,Option.map_map]
   simp only[Option.none_or]
   congr 1
theorem z66_:∀ (ps:List Nat) (L:List DefS) (p:Nat) (d:DefS),ps.length=L.length→yg_ (ps++[p]) (L++[d])=yg_ ps L++d.keys.map (fun k=>(k,z8_ p))
 |[],[],p,d,_=>by simp [yg_]
 |[],_::_,_,_,h=>by simp at h
 |_::_,[],_,_,h=>by simp at h
 |q::ps,e::L,p,d,h=>by
  rw[List.cons_append,List.cons_append,yg_,yg_,z66_ ps L p d (by simpa using h),List.append_assoc]
theorem z63_:∀ (ps:List Nat) (L:List DefS),ps.length=L.length→(yg_ ps L).map (·.1)=L.flatMap DefS.keys
 |[],[],_=>rfl
 |[],_::_,h=>by simp at h
 |_::_,[],h=>by simp at h
 |p::ps,d::L,h=>by
  rw[yg_,List.map_append,z63_ ps L (by simpa using h),List.flatMap_cons,List.map_map]
  congr 1
  exact(List.map_congr_left (fun _ _=>rfl)).trans (List.map_id _)
def PtrsR (w:World) (v:Value) (ps:List Nat):Prop:=∃ A c,v= .slice A ps.length c∧ps.length≤c∧(ps=[]∨∃ g,A=some ⟨g,0,none⟩∧∀ (j p:Nat),ps[j]?=some p→w.cell? ⟨g,j,none⟩=some (z8_ p))
theorem PtrsR.mods {S:List Nat} {w w':World} {v:Value} {ps:List Nat} (h:PtrsR w v ps) (hm:Mods S w w') (hS:∀ g∈S,∀ p,w.cell? ⟨g,0,none⟩≠some (z8_ p)):PtrsR w' v ps:=by
 obtain⟨A,c,rfl,hc,h⟩:=h
 refine⟨A,c,rfl,hc,?_⟩
 cases ps with
 |nil=>exact .inl rfl
 |cons q t=>
  rcases h with h|⟨g,rfl,hx⟩
  ·cases h
  ·have hg:g ∉ S:=fun hg=>hS g hg q (hx 0 q rfl)
   exact .inr ⟨g,rfl,fun j p hj=>hm.cell (hx j p hj) hg⟩
theorem PtrsR.below {w w':World} {v:Value} {ps:List Nat} (h:PtrsR w v ps) (hb:Bel w w'):PtrsR w' v ps:=h.mods (Mods.of_below hb []) (fun g hg=>by cases hg)
structure SchAt (w:World) (s:Nat) (ps:List Nat) (L:List DefS):Prop where
 head:∃ lv m es c,Bk w s 79 #[lv,.map (some m)]∧PtrsR w lv ps∧w.heap[m]?=some (.map es c)∧MapR kvS es (yg_ ps L)
 len:ps.length=L.length
 nodup:ps.Nodup
 defs:∀ (i p:Nat) (d:DefS),ps[i]?=some p→L[i]?=some d→DefAt w p d
theorem SchAt.below {w w':World} {s:Nat} {ps:List Nat} {L:List DefS} (h:SchAt w s ps L) (hb:Bel w w'):SchAt w' s ps L:=by
 obtain⟨⟨lv,m,es,c,h1,h2,h3,h4⟩,h5,h6,h7⟩:=h
 exact⟨⟨lv,m,es,c,h1.below hb,h2.below hb,(hb.block m (Array.getElem?_eq_some_iff.1 h3).1).trans h3,h4⟩,h5,h6,fun i p d hp hd=>(h7 i p d hp hd).below hb⟩
end Go.Proofs.YtbekpphodbekiaaGreatDoor
