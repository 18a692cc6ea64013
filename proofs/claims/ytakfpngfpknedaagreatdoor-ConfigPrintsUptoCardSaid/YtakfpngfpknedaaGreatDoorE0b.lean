import Derived.Test.YtakfpngfpknedaaGreatDoorE0a
import Derived.Test.YtakfpngfpknedaaGreatDoorE08
import Derived.Lib.IndexAny
set_option linter.all false
set_option maxHeartbeats 8000000
set_option maxRecDepth 100000
namespace Go.Proofs.YtakfpngfpknedaaGreatDoor
open Go.RowKit Go.Sort
def spl (d:UInt8):LU→LL
 |[]=>[[]]
 |c::t=>if c=d then []::spl d t else match spl d t with
  |[]=>[[c]]
  |x::r=>(c::x)::r
theorem zig_ (d:UInt8):∀ l,spl d l≠[]
 |[]=>by simp [spl]
 |c::t=>by
  rw[spl]
  split
  ·simp
  ·split<;>simp
theorem z7u_ (c d:UInt8) (h:c≠d) (t:LU):∀ k,∃ x r,Lib.splitK [d] 0 k t=x::r∧Lib.splitK [d] 0 k (c::t)=(c::x)::r
 |0=>⟨t,[],rfl,rfl⟩
 |k+1=>by
  have hp:([d]:LU).isPrefixOf (c::t)=false:=by simp [List.isPrefixOf,Ne.symm h]
  have hix:Lib.index (c::t) [d]=if Lib.index t [d]== -1 then -1 else Lib.index t [d]+1:=by rw[Lib.index,hp];simp
  rw[Lib.splitK,Lib.splitK,hix]
  by_cases hm:(Lib.index t [d]== -1)=true
  ·rw[if_pos hm,if_pos hm];exact⟨t,[],rfl,rfl⟩
  ·rw[if_neg hm,if_neg hm]
   have hge:=Lib.index_ge t [d]
   have hm':Lib.index t [d]≠ -1:=by simpa using hm
   obtain⟨j,hj⟩:∃ j:Nat,Lib.index t [d]=j:=⟨(Lib.index t [d]).toNat,by omega⟩
   rw[hj,if_neg (by simp;omega)]
   refine⟨_,_,rfl,?_⟩
   rw[show ((j:Int)+1).toNat=j+1 by omega]
   simp
theorem z3s_ (d:UInt8):∀ l:LU,Lib.splitK [d] 0 (l.count d) l=spl d l
 |[]=>rfl
 |c::t=>by
  have ih:=z3s_ d t
  by_cases h:c=d
  ·subst h
   rw[List.count_cons_self,Lib.splitK,spl,if_pos rfl]
   have hix:Lib.index (c::t) [c]=((0:Nat):Int):=by rw[Lib.index];simp [List.isPrefixOf]
   rw[hix]
   simp only[List.length_singleton,Int.toNat_natCast]
   rw[if_neg (by decide)]
   simp [ih]
  ·rw[List.count_cons_of_ne (by simpa using h)]
   obtain⟨x,r,e1,e2⟩:=z7u_ c d h t (t.count d)
   rw[e2,spl,if_neg h,← ih,e1]
theorem zh9_ (l:LU):z7b_ l=spl 46 l:=by
 unfold z7b_
 rw[Lib.splitB_data]
 have:Lib.countB ⟨l.toArray⟩ ⟨#[46]⟩=l.count 46:=by
  show Lib.count l [46]=_
  exact Lib.count_one 46 l
 rw[this]
 exact z3s_ 46 l
open Go.RowKit Go.Sort
def Stop (r:LU):Prop:=∀ x t,r=x::t→x=43∨x=44
theorem z4f_ (l:LU) (c:UInt8):0≤Lib.indexByte l c↔c∈l:=by
 have:=Lib.contains_iff_indexByte l c
 rw[Bool.eq_iff_iff] at this
 simpa using this.symm
theorem blk_id (l:LU) (h:∀ x t,l=x::t→x≠32):blk l=l:=by
 unfold blk
 apply zhl_
 cases l with
 |nil=>simp
 |cons x t=>simp;exact h x t rfl
theorem Stop.blk {r:LU} (h:Stop r):blk r=r:=blk_id r (fun x t e=>by rcases h x t e with rfl|rfl<;>decide)
open Go.RowKit
def stopCs:LU:=[32,9,10,13,40,41,36,39]
theorem zc1_ (c:UInt8):xe_ c=stopCs.contains c:=by
 unfold xe_ zw_ ki_ stopCs
 rw[Bool.eq_iff_iff]
 simp [or_assoc]
theorem z31_ (c:UInt8):(zw_ c=true↔0≤Lib.indexByte [32,9,10,13] c):=by
 rw[z4f_]
 unfold zw_
 simp [or_assoc]
theorem z40_ (c:UInt8):(ki_ c=true↔0≤Lib.indexByte [40,41,36] c):=by
 rw[z4f_]
 unfold ki_
 simp [or_assoc]
theorem z26_:∀ (l:LU) (c:UInt8),l.contains c=true→Lib.indexByte l c=((l.takeWhile (· !=c)).length:Int)∧(l.takeWhile (· !=c)).length<l.length
 |[],c,h=>by simp at h
 |b::l,c,h=>by
  rw[Lib.indexByte,List.takeWhile_cons]
  by_cases hb:b=c
  ·subst hb;simp
  ·have h1:l.contains c=true:=by
    simp only[List.contains_eq_mem,List.mem_cons,decide_eq_true_eq] at h ⊢
    rcases h with h|h
    ·exact absurd h.symm hb
    ·exact h
   obtain⟨h2,h3⟩:=z26_ l c h1
   have h4:(b==c)=false:=beq_eq_false_iff_ne.2 hb
   have h5:(b !=c)=true:=by simp [hb]
   rw[h4,h5,h2]
   simp only[Bool.false_eq_true,if_false,if_true,List.length_cons]
   have h6:(((l.takeWhile (· !=c)).length:Int)== -1)=false:=by rw[beq_eq_false_iff_ne];omega
   rw[h6]
   simp only[Bool.false_eq_true,if_false]
   exact⟨by omega,by omega⟩
theorem z77_ (l:LU) (c:UInt8) (h:l.contains c=false):Lib.indexByte l c= -1:=by
 have h1:=Lib.indexByte_ge l c
 have h2:¬ 0≤Lib.indexByte l c:=by
  rw[z4f_]
  simpa using h
 omega
theorem z60_ (cs:LU):∀ l:LU,l.any cs.contains=true→Lib.indexAny l cs=((l.takeWhile (fun c=>!cs.contains c)).length:Int)∧(l.takeWhile (fun c=>!cs.contains c)).length<l.length
 |[],h=>by simp at h
 |b::l,h=>by
  rw[Lib.indexAny,List.takeWhile_cons]
  cases hb:cs.contains b
  ·have h1:l.any cs.contains=true:=by
    rw[List.any_cons,hb,Bool.false_or] at h
    exact h
   obtain⟨h2,h3⟩:=z60_ cs l h1
   rw[h2]
   simp only[Bool.false_eq_true,if_false,Bool.not_false,if_true,List.length_cons]
   have h6:(((l.takeWhile (fun c=>!cs.contains c)).length:Int)== -1)=false:=by rw[beq_eq_false_iff_ne];omega
   rw[h6]
   simp only[Bool.false_eq_true,if_false]
   exact⟨by omega,by omega⟩
  ·simp
theorem z6f_ (cs:LU):∀ l:LU,l.any cs.contains=false→Lib.indexAny l cs= -1∧l.takeWhile (fun c=>!cs.contains c)=l
 |[],_=>by simp [Lib.indexAny]
 |b::l,h=>by
  rw[List.any_cons,Bool.or_eq_false_iff] at h
  obtain⟨h2,h3⟩:=z6f_ cs l h.2
  rw[Lib.indexAny,List.takeWhile_cons,h.1,h2,h3]
  simp
theorem z9z_:(fun c=>!xe_ c)=fun c=>!stopCs.contains c:=funext fun c=>by rw[zc1_]
theorem jd_:∀ (n m:Nat) (r:LU) (acc:List Wd),r.length<n→r.length<m→qx_ n r acc=qx_ m r acc
 |0,_,_,_,h,_=>by omega
 |_+1,0,_,_,_,h=>by omega
 |n+1,m+1,r,acc,h1,h2=>by
  have hd:(r.dropWhile zw_).length≤r.length:=(List.dropWhile_sublist _).length_le
  rw[qx_,qx_]
  cases hr:r.dropWhile zw_ with
  |nil=>rfl
  |cons c t=>
   rw[hr] at hd
   simp only[List.length_cons] at hd
   simp only
   split
   ·split
    ·refine jd_ n m _ _ ?_ ?_
     all_goals
      have:=(List.dropWhile_sublist (fun x:UInt8=>x !=39) (l:=t)).length_le
      rw[List.length_tail]
      omega
    ·rfl
   ·split
    ·exact jd_ n m t _ (by omega) (by omega)
    ·refine jd_ n m _ _ ?_ ?_
     all_goals
      have:=(List.dropWhile_sublist (fun c:UInt8=>!xe_ c) (l:=t)).length_le
      omega
theorem zbi_ (n:Nat) {r:LU} (acc:List Wd) (h:r.dropWhile zw_=[]):qx_ (n+1) r acc=some acc:=by
 rw[qx_,h]
theorem vo_ (n:Nat) {r t:LU} {c:UInt8} (acc:List Wd) (hn:r.length<n+1) (h:r.dropWhile zw_=c::t):qx_ (n+1) r acc=(
   if c==39 then (if t.contains 39 then qx_ (n+1) (t.dropWhile (· !=39)).tail (acc++[(t.takeWhile (· !=39),true)]) else none)
   else if ki_ c then qx_ (n+1) t (acc++[([c],false)])
   else qx_ (n+1) (t.dropWhile (fun c=>!xe_ c)) (acc++[(c::t.takeWhile (fun c=>!xe_ c),false)])):=by
 have hd:(r.dropWhile zw_).length≤r.length:=(List.dropWhile_sublist _).length_le
 rw[h] at hd
 simp only[List.length_cons] at hd
 have h1:=(List.dropWhile_sublist (fun x:UInt8=>x !=39) (l:=t)).length_le
 have h2:=(List.dropWhile_sublist (fun c:UInt8=>!xe_ c) (l:=t)).length_le
 rw[qx_,h]
 simp only
 rw[jd_ n (n+1) (t.dropWhile (· !=39)).tail _ (by rw[List.length_tail];omega) (by rw[List.length_tail];omega),jd_ n (n+1) t _ (by omega) (by omega),jd_ n (n+1) (t.dropWhile fun c=>!xe_ c) _ (by omega) (by omega)]
theorem yd_ {α:Type} (p:α→Bool):∀ t:List α,t.drop (t.takeWhile p).length=t.dropWhile p
 |[]=>rfl
 |c::t=>by
  rw[List.takeWhile_cons,List.dropWhile_cons]
  cases p c
  ·rfl
  ·simpa using yd_ p t
theorem yb_ {α:Type} (p:α→Bool):∀ t:List α,t.take (t.takeWhile p).length=t.takeWhile p
 |[]=>rfl
 |c::t=>by
  rw[List.takeWhile_cons]
  cases p c
  ·rfl
  ·simpa using yb_ p t
open Go.RowKit
theorem zis_ (W:World) (a b:LU) (p q:Bool):(Op.equalIn 10000 216 (.agg #[.string ⟨a.toArray⟩,.bool p]) (.agg #[.string ⟨b.toArray⟩,.bool q])).run Tryz.prog W= .ok (a==b && p==q) W:=by
 have u9:=Tryz.underlying9
 have a9:=Tryz.isAgg9
 have z9:=Tryz.sizeOf9
 have u4:=Tryz.underlying4
 have a4:=Tryz.isAgg4
 have z4:=Tryz.sizeOf4
 have hS:Tryz.prog.underlying 216=some (.struct (Tryz.prog.fieldsOf 216)):=by kernel_rfl
 have hp:Tryz.prog.stoodInHeld 216=false:=by kernel_rfl
 rw[show (10000:Nat)=9999+1 from rfl,run_equalIn_agg W 9999 216 _ _ hS hp]
 simp only[Program.fieldsOf,Tryz.underlying216]
 go_simp
 by_cases h1:a=b<;>by_cases h2:p=q<;>simp [h1,h2]
theorem zha_ (W:World) (a b:LU) (p q:Bool):(binOp .eql 216 (.agg #[.string ⟨a.toArray⟩,.bool p]) (.agg #[.string ⟨b.toArray⟩,.bool q])).run Tryz.prog W= .ok (.bool (a==b && p==q)) W:=by
 rw[run_eql_struct,zis_];rfl
theorem RdW.at {w:World} {r:Nat} {l:List Wd} (h:RdW w r l):∃ A c,Bk w r 159 #[.slice A l.length c]∧WdsR w (.slice A l.length c) l∧l.length≤c:=by
 obtain⟨v,hb,hw⟩:=h
 obtain⟨A,c,rfl,hc,_⟩:=id hw
 exact⟨A,c,hb,hw,hc⟩
theorem RdW.step {w:World} {r:Nat} {A:Option Addr} {n c:Nat} {x:Wd} {l:List Wd} (hb:Bk w r 159 #[.slice A n c]) {v:Value} (hw:WdsR w v l):RdW (w.setCell ⟨r,0,none⟩ v) r l:=by
 refine⟨v,by simpa using hb.set 0 v,hw.mods (S:=[r]) ((Mods.refl [r] w).setCell (by simp) v) (NoWord.of_bk hb (by decide))⟩
theorem is_nil (r:Nat) (s:LU) (w:World) (h:RdW w r []):
  Calls Tryz.prog 177 #[.pointer (some ⟨r,0,none⟩),.string ⟨s.toArray⟩] w fun e w'=>e= .returned (.bool false)∧w=w':=by
 obtain⟨A,c,hb,_,_⟩:=h.at
 have c0:=hb.cell 0
 simp at c0
 go_enter Tryz.func177,Tryz.ntmps177
 go_wp2_with fail
 go_ret
 exact⟨rfl,rfl⟩
theorem zl1_ (r:Nat) (x:Wd) (l:List Wd) (s:LU) (w:World) (h:RdW w r (x::l)):
  Calls Tryz.prog 177 #[.pointer (some ⟨r,0,none⟩),.string ⟨s.toArray⟩] w fun e w'=>e= .returned (.bool (rIs (x::l) s))∧w=w':=by
 obtain⟨A,c,hb,hw,_⟩:=h.at
 obtain⟨g,o,rfl,_,hc,d0,d1,_⟩:=hw.uncons
 have c0:=hb.cell 0
 simp at c0
 obtain⟨t,q⟩:=x
 simp only at d0 d1
 have heq:=fun W=>zha_ W t s q false
 clear hb hw
 have hl0:(0:Int)<(l.length:Int)+1:=by omega
 go_enter Tryz.func177,Tryz.ntmps177
 go_wp2_with fail
 go_ret
 exact⟨rfl,rfl⟩
theorem is_w (r:Nat) (l:List Wd) (s:LU) (w:World) (h:RdW w r l):
  Calls Tryz.prog 177 #[.pointer (some ⟨r,0,none⟩),.string ⟨s.toArray⟩] w fun e w'=>e= .returned (.bool (rIs l s))∧w=w':=by
 cases l with
 |nil=>exact is_nil r s w h
 |cons x l=>exact zl1_ r x l s w h
theorem vx_ (g o k c:Nat) (hc:k+1≤c):∃ A',(∀ W:World,(Instr.slice 154 (.slice (some ⟨g,o,none⟩) (k+1) c) (some (.int .i64 1)) none none).run Tryz.prog W= .ok (.slice A' k (c - 1)) W)∧(1<c→A'=some ⟨g,o+2,none⟩):=by
 by_cases h1:c=1
 ·refine⟨some ⟨g,o,none⟩,fun W=>?_,fun h=>by omega⟩
  have hk:k=0:=by omega
  subst h1 hk
  have hb:(Instr.sliceBounds true 1 1 (some (.int .i64 1)) none none).run Tryz.prog W= .ok (1,1,1) W:=by
   simp [Instr.sliceBounds,run_sliceBound]
  have h2:(sizeOf 216).run Tryz.prog W= .ok 2 W:=by kernel_rfl
  unfold Instr.slice
  simp only[Sem.run_bind,run_underlying Tryz.underlying154,Result.andThen_ok,hb,h2,Sem.run_pure]
  simp
 ·refine⟨some ⟨g,o+2,none⟩,fun W=>?_,fun _=>rfl⟩
  have hb:(Instr.sliceBounds true (k+1) c (some (.int .i64 1)) none none).run Tryz.prog W= .ok (1,k+1,c) W:=by
   have h1':(Instr.sliceBound (.int .i64 1) (k+1) BoundsCode.sliceB).run Tryz.prog W= .ok 1 W:=by
    have:=run_sliceBound (P:=Tryz.prog) (w:=W) .i64 1 (k+1) BoundsCode.sliceB (by omega) (by omega)
    exact this
   simp [Instr.sliceBounds,h1']
  have h2:(sizeOf 216).run Tryz.prog W= .ok 2 W:=by kernel_rfl
  unfold Instr.slice
  simp only[Sem.run_bind,run_underlying Tryz.underlying154,Result.andThen_ok,hb,h2,Sem.run_pure]
  have ha:(⟨g,o,none⟩:Addr).add (1 * 2)=⟨g,o+2,none⟩:=by unfold Addr.add;split<;>simp_all
  simp [ha]
  omega
def z4h_ (w:World) (r:Nat) (l':List Wd) (v:Value) (e:Ending) (w':World):Prop:=e= .returned v∧RdW w' r l'∧w.grownBy w' (some r)
theorem z08_ (w:World) (r:Nat) (v:Value):w.grownBy (w.setCell ⟨r,0,none⟩ v) (some r):=z6_ w r 0 v
theorem zgm_ (r:Nat) (x:Wd) (l:List Wd) (s:LU) (w:World) (h:RdW w r (x::l)) (hs:rIs (x::l) s=true):
  Calls Tryz.prog 112 #[.pointer (some ⟨r,0,none⟩),.string ⟨s.toArray⟩] w (z4h_ w r l (.bool true)):=by
 have HI:=hiD (is_w r (x::l) s w h)
 rw[hs] at HI
 obtain⟨A,c,hb,hw,_⟩:=h.at
 obtain⟨g,o,rfl,_,hc,d0,d1,hu⟩:=hw.uncons
 obtain⟨A',hsl,hA'⟩:=vx_ g o l.length c hc
 have hfin:=RdW.step (x:=x) hb (hu A' (c - 1) (by omega) hA')
 have HF:=hiD hfin
 have c0:=hb.cell 0
 have f0:=hb.frozen 0
 simp at c0
 clear hfin hu hA' hw hb d0 d1 hs h
 go_enter Tryz.func112,Tryz.ntmps112
 go_wp2_with (go_at_call 177;refine HI.out.mono ?_;rintro e w1 ⟨rfl,rfl⟩)
 go_ret
 exact⟨rfl,HF.out,z08_ _ _ _⟩
theorem qj_ (r:Nat) (l:List Wd) (s:LU) (w:World) (h:RdW w r l) (hs:rIs l s=false):
  Calls Tryz.prog 112 #[.pointer (some ⟨r,0,none⟩),.string ⟨s.toArray⟩] w fun e w'=>e= .returned (.bool false)∧w=w':=by
 have HI:=hiD (is_w r l s w h)
 rw[hs] at HI
 clear hs h
 go_enter Tryz.func112,Tryz.ntmps112
 go_wp2_with (go_at_call 177;refine HI.out.mono ?_;rintro e w1 ⟨rfl,rfl⟩)
 go_ret
 exact⟨rfl,rfl⟩
def jp_ (s:LU) (b:Bool):Value:= .tuple #[.string ⟨s.toArray⟩,.bool b]
def z36_ (w:World) (r:Nat) (o:Option (LU × List Wd)) (e:Ending) (w':World):Prop:=match o with
 |none=>∃ s,e= .returned (jp_ s false)∧Mods [r] w w'
 |some (s,l')=>e= .returned (jp_ s true)∧RdW w' r l'∧Mods [r] w w'
theorem zbc_ (r:Nat) (w:World) (h:RdW w r []):
  Calls Tryz.prog 184 #[.pointer (some ⟨r,0,none⟩)] w fun e w'=>e= .returned (jp_ [] false)∧w=w':=by
 obtain⟨A,c,hb,_,_⟩:=h.at
 have c0:=hb.cell 0
 simp at c0
 clear hb h
 go_enter Tryz.func184,Tryz.ntmps184
 go_wp2_with fail
 go_ret2
 exact⟨rfl,rfl⟩
theorem zeq_ (r:Nat) (t:LU) (l:List Wd) (w:World) (h:RdW w r ((t,false)::l)):
  Calls Tryz.prog 184 #[.pointer (some ⟨r,0,none⟩)] w fun e w'=>e= .returned (jp_ [] false)∧w=w':=by
 obtain⟨A,c,hb,hw,_⟩:=h.at
 obtain⟨g,o,rfl,_,hc,d0,d1,_⟩:=hw.uncons
 have c0:=hb.cell 0
 simp at c0
 simp only at d0 d1
 have hne:((l.length:Int)+1==0)=false:=by rw[beq_eq_false_iff_ne];omega
 have hl0:(0:Int)<(l.length:Int)+1:=by omega
 clear hb h hw
 go_enter Tryz.func184,Tryz.ntmps184
 go_wp2_with fail
 go_ret2
 exact⟨rfl,rfl⟩
theorem zbb_ (r:Nat) (t:LU) (l:List Wd) (w:World) (h:RdW w r ((t,true)::l)):
  Calls Tryz.prog 184 #[.pointer (some ⟨r,0,none⟩)] w (z4h_ w r l (jp_ t true)):=by
 obtain⟨A,c,hb,hw,_⟩:=h.at
 obtain⟨g,o,rfl,_,hc,d0,d1,hu⟩:=hw.uncons
 obtain⟨A',hsl,hA'⟩:=vx_ g o l.length c hc
 have hfin:=RdW.step (x:=(t,true)) hb (hu A' (c - 1) (by omega) hA')
 have HF:=hiD hfin
 have c0:=hb.cell 0
 have f0:=hb.frozen 0
 simp at c0
 simp only at d0 d1
 have hne:((l.length:Int)+1==0)=false:=by rw[beq_eq_false_iff_ne];omega
 have hl0:(0:Int)<(l.length:Int)+1:=by omega
 clear hfin hu hA' hw hb h
 go_enter Tryz.func184,Tryz.ntmps184
 go_wp2_with fail
 go_ret2
 exact⟨rfl,HF.out,z08_ _ _ _⟩
theorem z9n_ (r:Nat) (l:List Wd) (w:World) (h:RdW w r l):
  Calls Tryz.prog 184 #[.pointer (some ⟨r,0,none⟩)] w (z36_ w r (q4_ l)):=by
 match l,h with
 |[],h=>exact(zbc_ r w h).mono fun e w' ⟨he,hw⟩=>⟨[],he,hw ▸ Mods.refl _ _⟩
 |(t,false)::l,h=>exact(zeq_ r t l w h).mono fun e w' ⟨he,hw⟩=>⟨[],he,hw ▸ Mods.refl _ _⟩
 |(t,true)::l,h=>exact(zbb_ r t l w h).mono fun e w' ⟨he,h1,h2⟩=>⟨he,h1,Mods.of_grown h2 (by simp)⟩
theorem z75_ (r:Nat) (w:World) (h:RdW w r []):
  Calls Tryz.prog 113 #[.pointer (some ⟨r,0,none⟩)] w fun e w'=>e= .returned (jp_ [] false)∧w=w':=by
 obtain⟨A,c,hb,_,_⟩:=h.at
 have c0:=hb.cell 0
 simp at c0
 clear hb h
 go_enter Tryz.func113,Tryz.ntmps113
 go_wp2_with fail
 go_ret2
 exact⟨rfl,rfl⟩
theorem z3l_ (r:Nat) (t:LU) (l:List Wd) (w:World) (h:RdW w r ((t,true)::l)):
  Calls Tryz.prog 113 #[.pointer (some ⟨r,0,none⟩)] w fun e w'=>e= .returned (jp_ [] false)∧w=w':=by
 obtain⟨A,c,hb,hw,_⟩:=h.at
 obtain⟨g,o,rfl,_,hc,d0,d1,_⟩:=hw.uncons
 have c0:=hb.cell 0
 simp at c0
 simp only at d0 d1
 have hne:((l.length:Int)+1==0)=false:=by rw[beq_eq_false_iff_ne];omega
 have hl0:(0:Int)<(l.length:Int)+1:=by omega
 clear hb h hw
 go_enter Tryz.func113,Tryz.ntmps113
 go_wp2_with fail
 go_ret2
 exact⟨rfl,rfl⟩
theorem z3z_ (l:LU) (w:World) (hw:Env w):Calls Tryz.prog 178 #[.string ⟨#[40,41,36]⟩,.string ⟨l.toArray⟩] w fun e w'=>e= .returned (.bool (Lib.contains [40,41,36] l))∧w=w':=by
 obtain⟨m,hm⟩:=hw.mx
 refine(Tryz.strings_Contains ⟨#[40,41,36]⟩ ⟨l.toArray⟩ m w (by decide) hm).mono ?_
 rintro e w' ⟨rfl,rfl⟩
 exact⟨rfl,rfl⟩
theorem za4_ (r:Nat) (t:LU) (l:List Wd) (w:World) (hw:Env w) (h:RdW w r ((t,false)::l)) (hc:Lib.contains [40,41,36] t=true):
  Calls Tryz.prog 113 #[.pointer (some ⟨r,0,none⟩)] w fun e w'=>e= .returned (jp_ [] false)∧w=w':=by
 have HC:=hiD (z3z_ t w hw)
 rw[hc] at HC
 obtain⟨A,c,hb,hw,_⟩:=h.at
 obtain⟨g,o,rfl,_,hc,d0,d1,_⟩:=hw.uncons
 have c0:=hb.cell 0
 simp at c0
 simp only at d0 d1
 have hne:((l.length:Int)+1==0)=false:=by rw[beq_eq_false_iff_ne];omega
 have hl0:(0:Int)<(l.length:Int)+1:=by omega
 clear hb h hw
 go_enter Tryz.func113,Tryz.ntmps113
 go_wp2_with (go_at_call 178;refine HC.out.mono ?_;rintro e w1 ⟨rfl,rfl⟩)
 go_ret2
 exact⟨rfl,rfl⟩
theorem zce_ (r:Nat) (t:LU) (l:List Wd) (w:World) (hw:Env w) (h:RdW w r ((t,false)::l)) (hc:Lib.contains [40,41,36] t=false):
  Calls Tryz.prog 113 #[.pointer (some ⟨r,0,none⟩)] w (z4h_ w r l (jp_ t true)):=by
 have HC:=hiD (z3z_ t w hw)
 rw[hc] at HC
 obtain⟨A,c,hb,hw,_⟩:=h.at
 obtain⟨g,o,rfl,_,hc,d0,d1,hu⟩:=hw.uncons
 obtain⟨A',hsl,hA'⟩:=vx_ g o l.length c hc
 have hfin:=RdW.step (x:=(t,false)) hb (hu A' (c - 1) (by omega) hA')
 have HF:=hiD hfin
 have c0:=hb.cell 0
 have f0:=hb.frozen 0
 simp at c0
 simp only at d0 d1
 have hne:((l.length:Int)+1==0)=false:=by rw[beq_eq_false_iff_ne];omega
 have hl0:(0:Int)<(l.length:Int)+1:=by omega
 clear hfin hu hA' hw hb h
 go_enter Tryz.func113,Tryz.ntmps113
 go_wp2_with (go_at_call 178;refine HC.out.mono ?_;rintro e w1 ⟨rfl,rfl⟩)
 go_ret2
 exact⟨rfl,HF.out,z08_ _ _ _⟩
theorem z49_ (r:Nat) (l:List Wd) (w:World) (hw:Env w) (h:RdW w r l):
  Calls Tryz.prog 113 #[.pointer (some ⟨r,0,none⟩)] w (z36_ w r (ze_ l)):=by
 match l,h with
 |[],h=>exact(z75_ r w h).mono fun e w' ⟨he,hw⟩=>⟨[],he,hw ▸ Mods.refl _ _⟩
 |(t,true)::l,h=>exact(z3l_ r t l w h).mono fun e w' ⟨he,hw⟩=>⟨[],he,hw ▸ Mods.refl _ _⟩
 |(t,false)::l,h=>
  cases hc:Lib.contains [40,41,36] t
  ·have hr:ze_ ((t,false)::l)=some (t,l):=by simp [ze_,hc]
   rw[hr]
   exact(zce_ r t l w hw h hc).mono fun e w' ⟨he,h1,h2⟩=>⟨he,h1,Mods.of_grown h2 (by simp)⟩
  ·have hr:ze_ ((t,false)::l)=none:=by simp [ze_,hc]
   rw[hr]
   exact(za4_ r t l w hw h hc).mono fun e w' ⟨he,hw⟩=>⟨[],he,hw ▸ Mods.refl _ _⟩
open Go.RowKit
theorem Env.mods {S:List Nat} {w w':World} (h:Env w) (hm:Mods S w w') (hS:∀ b∈S,Off b):Env w':=by
 obtain⟨⟨h1,h2⟩,m,hx⟩:=h
 have n1:4 ∉ S:=fun hb=>(hS _ hb).1 rfl
 have n2:5 ∉ S:=fun hb=>(hS _ hb).2.1 rfl
 have n3:0 ∉ S:=fun hb=>(hS _ hb).2.2 rfl
 exact⟨⟨fun c hc=>hm.cell (h1 c hc) n1,fun i hi=>⟨hm.cell (h2 i hi).1 n2,hm.cell (h2 i hi).2 n2⟩⟩,m,hm.cell hx n3⟩
def Own (B:Nat) (w:World) (v:Value) (xs:LL):Prop:=w.ownsRow B 9 1 v xs.length (xs.map qm_)∧B≤w.heap.size
theorem Own.nil {B:Nat} {w:World} (hB:B≤w.heap.size):Own B w (.slice none 0 0) []:=⟨World.ownsRow_nil _ _ _ _,hB⟩
theorem Own.lt {B:Nat} {w:World} {v:Value} {xs:LL} (h:Own B w v xs):∀ k,v.ownBlock=some k→B≤k∧k<w.heap.size:=fun k hk=>h.1.lt k hk
theorem Own.keep {B:Nat} {w w':World} {v:Value} {xs:LL} (h:Own B w v xs) {r:Option Nat} (hg:w.grownBy w' r) (hr:∀ k,r=some k→k<B):Own B w' v xs:=by
 refine⟨h.1.kept hg ?_,nT h.2 hg.size⟩
 rcases hv:v.ownBlock with _|g
 ·exact .inl rfl
 ·refine .inr ?_
  intro he
  have:=hr g he.symm
  have:=(h.1.lt g hv).1
  omega
theorem Own.below {B:Nat} {w w':World} {v:Value} {xs:LL} (h:Own B w v xs) (hb:Bel w w'):Own B w' v xs:=h.keep (z1_ hb none) (fun k hk=>by cases hk)
theorem Own.mods {B r:Nat} {w w':World} {v:Value} {xs:LL} (h:Own B w v xs) (hm:Mods [r] w w') (hr:r<B):Own B w' v xs:=
 h.keep (r:=some r) ⟨hm.os,hm.tape,hm.output,hm.size,fun k hk hne=>hm.block k hk (by intro hx;apply hne;simp at hx;rw[hx])⟩ (fun k hk=>by cases hk;exact hr)
theorem Own.texts {B:Nat} {w:World} {v:Value} {xs:LL} (h:Own B w v xs):Texts w v xs:=by
 obtain⟨⟨h1,h2⟩,_⟩:=h
 rcases h2 with ⟨rfl,hn⟩|⟨g,cap,cur,rfl,r2,r3,r4,r5,r6,r7⟩
 ·exact .inl ⟨List.eq_nil_of_length_eq_zero hn,rfl⟩
 ·refine .inr ⟨g,cap,rfl,r4,(Array.getElem?_eq_some_iff.1 r3).1,fun j hj=>?_⟩
  simp only[World.cell?,r3]
  have:(cur.toList.take (xs.length * 1))[j]?=some (qm_ xs[j]):=by rw[r7];simp [hj]
  rw[List.getElem?_take] at this
  simpa [hj,qm_] using this
theorem Own.noword {B:Nat} {w:World} {v:Value} {xs:LL} (h:Own B w v xs) {k:Nat} (hk:v.ownBlock=some k):NoWord w [k]:=by
 obtain⟨⟨h1,h2⟩,_⟩:=h
 rcases h2 with ⟨rfl,hn⟩|⟨g,cap,cur,rfl,r2,r3,r4,r5,r6,r7⟩
 ·simp [Value.ownBlock] at hk
 ·have hgk:g=k:=by simpa [Value.ownBlock] using hk
  subst hgk
  intro x hx cs z
  have:x=g:=by simpa using hx
  subst this
  rw[r3]
  intro e
  cases e
theorem Own.isSlice {B:Nat} {w:World} {v:Value} {xs:LL} (h:Own B w v xs):∃ A c,v= .slice A xs.length c∧xs.length≤c:=by
 obtain⟨⟨h1,h2⟩,_⟩:=h
 rcases h2 with ⟨rfl,hn⟩|⟨g,cap,cur,rfl,r2,r3,r4,_⟩
 ·exact⟨none,0,by rw[hn],by omega⟩
 ·exact⟨_,cap,rfl,r4⟩
theorem qh_ {ops:Array Oper} {rest:List Oper} {o:Oper} {a:Act} {Q:Exit→Act→World→Prop} (hgd:o.guard=none) (s x:Operand) (ho:o.op= .call {callee:= .builtin .append,args:=#[s,x],argTypes:=#[22,22]})
  {v:Value} {xs:LL} {B N:Nat} {w0:World} {c:LU} (hs:a.eval s=v) (hb:Own B w0 v xs)
  (hx:a.eval x= .slice (some ⟨N,0,none⟩) 1 1) (hN:N=w0.heap.size) (hlen:xs.length<4398046511104)
  (h:∀ v' w',Own B w' v' (xs++[c])→w0.grownBy w' v.ownBlock→wpList Tryz.prog ops Q rest (a.put o.dst v') w'):wpList Tryz.prog ops Q (o::rest) a (w0.alloc (.cells #[.string ⟨c.toArray⟩] 9)):=by
 subst hN
 obtain⟨i,h1,h2,h3,h4⟩:=xu_
 have hb':=hb.keep (World.grownBy_alloc w0 (.cells #[.string ⟨c.toArray⟩] 9) none) (fun k hk=>by cases hk)
 refine wpList_append_own _ hgd s x 22 ho B 9 i (.string ⟨#[]⟩) 1 16 Tryz.underlying22 h1 h2 h3 h4 rfl (by decide) v _ _ hs hb'.1 ⟨w0.heap.size,0,none⟩ 1 1 [.string ⟨c.toArray⟩] hx rfl ?_ ?_ (by unfold maxLen;omega) (by omega) hb'.2 ?_
 ·intro j u hj
  match j,hj with
  |0,hj=>simp at hj;subst hj;simp [Addr.add]
  |(j+1),hj=>simp at hj
 ·intro u hu;simp at hu;subst hu;rfl
 ·intro v' w' ho' hg _
  refine h v' w' ⟨?_,nT hb'.2 hg.size⟩ (gT (World.grownBy_alloc _ _ _) hg)
  simpa [qm_] using ho'
theorem RdW.owned {w w':World} {r B:Nat} {l:List Wd} {v:Value} {xs:LL} (h:RdW w r l) (ho:Own B w v xs) (hr:r<B) (hg:w.grownBy w' v.ownBlock):RdW w' r l:=by
 rcases hv:v.ownBlock with _|k
 ·rw[hv] at hg
  exact h.below ⟨hg.os,hg.tape,hg.output,hg.size,fun j hj=>hg.block j hj (by simp)⟩
 ·rw[hv] at hg
  have:=ho.lt k hv
  exact h.mods (Mods.of_grown hg (S:=[k]) (by simp)) (by simp;omega) (ho.noword hv)
theorem Mods.owned {S:List Nat} {w0 w w':World} {v:Value} {xs:LL} (h:Mods S w0 w) (ho:Own w0.heap.size w v xs) (hg:w.grownBy w' v.ownBlock):Mods S w0 w':=by
 rcases hv:v.ownBlock with _|k
 ·rw[hv] at hg
  exact h.trans (Mods.of_grown' hg (fun k hk=>by cases hk))
 ·rw[hv] at hg
  have hk:=ho.lt k hv
  refine((h.mono (S':=k::S) (fun x hx=>by simp [hx])).trans (Mods.of_grown hg (by simp))).news ?_
  intro x hx
  rcases List.mem_cons.1 hx with rfl|hx
  ·exact .inr hk.1
  ·exact .inl hx
theorem zf7_ (r:Nat) (l:List Wd) (w:World) (hw:Env w) (h:RdW w r l) (hn:ze_ l=none):
  Calls Tryz.prog 182 #[.pointer (some ⟨r,0,none⟩)] w fun e w'=>∃ s,e= .returned (jp_ s false)∧Mods [r] w w':=by
 have hp:=z49_ r l w hw h
 rw[hn] at hp
 have HP:Hid (Calls Tryz.prog 113 #[.pointer (some ⟨r,0,none⟩)] w fun e w'=>∃ s:LU,e= .returned (.tuple #[.string ⟨s.toArray⟩,.bool false])∧Mods [r] w w'):=hiD hp
 clear hp hn h
 go_enter Tryz.func182,Tryz.ntmps182
 go_wp2_with (go_at_call 113;refine HP.out.mono ?_;rintro e w1 ⟨s,rfl,hm⟩)
 go_ret2
 exact⟨s,rfl,hm⟩
theorem zcz_ (r:Nat) (l t:List Wd) (s:LU) (w:World) (hw:Env w) (hO:Off r) (h:RdW w r l) (hn:ze_ l=some (s,t)) (hs:s.length≤1000000):
  Calls Tryz.prog 182 #[.pointer (some ⟨r,0,none⟩)] w fun e w'=>e= .returned (jp_ s (zc_ s))∧RdW w' r t∧Mods [r] w w':=by
 have hp:=z49_ r l w hw h
 rw[hn] at hp
 have HP:Hid (Calls Tryz.prog 113 #[.pointer (some ⟨r,0,none⟩)] w fun e w'=>e= .returned (.tuple #[.string ⟨s.toArray⟩,.bool true])∧RdW w' r t∧Mods [r] w w'):=hiD hp
 have HT:=hiD (fun (W:World) (hm:Mods [r] w W)=>qf_ s W (hw.mods hm (by simpa using hO)) (by omega))
 clear hp hn h
 go_enter Tryz.func182,Tryz.ntmps182
 go_wp2_with (first|(go_at_call 113;refine HP.out.mono ?_;rintro e w1 ⟨rfl,hr,hm⟩)|(go_at_call 52;refine(HT.out _ hm).mono ?_;rintro e w2 ⟨rfl,hb⟩))
 go_ret2
 exact⟨rfl,hr.below hb,hm.trans (Mods.of_below hb _)⟩
theorem zt_ {l t:List Wd} {s:LU} (h:ze_ l=some (s,t)):∃ q,l=(s,q)::t:=by
 unfold ze_ at h
 split at h
 ·cases h
 ·split at h
  ·cases h
  ·cases h;exact⟨_,rfl⟩
theorem xg_ {l t:List Wd} {s:LU} (h:q4_ l=some (s,t)):∃ q,l=(s,q)::t:=by
 unfold q4_ at h
 split at h
 ·cases h
 ·split at h
  ·cases h;exact⟨_,rfl⟩
  ·cases h
theorem y8_ {l t:List Wd} {s:LU} (h:xp_ l=some (s,t)):∃ q,l=(s,q)::t:=by
 unfold xp_ at h
 split at h
 ·cases h
 ·next s' t' hp=>
  split at h
  ·cases h;exact zt_ hp
  ·cases h
def Shorts (l:List Wd):Prop:=∀ x∈l,x.1.length≤1000000
theorem zil_ (r:Nat) (l:List Wd) (w:World) (hw:Env w) (hO:Off r) (h:RdW w r l) (hl:Shorts l):
  Calls Tryz.prog 182 #[.pointer (some ⟨r,0,none⟩)] w (z36_ w r (xp_ l)):=by
 unfold xp_
 cases hp:ze_ l with
 |none=>exact zf7_ r l w hw h hp
 |some x=>
  obtain⟨s,t⟩:=x
  obtain⟨q,hq⟩:=zt_ hp
  refine(zcz_ r l t s w hw hO h hp (by rw[hq] at hl;exact hl _ (List.mem_cons_self ..))).mono ?_
  rintro e w' ⟨rfl,h1,h2⟩
  show z36_ w r (if zc_ s then some (s,t) else none) _ _
  cases hT:zc_ s
  ·exact⟨s,rfl,h2⟩
  ·exact⟨rfl,h1,h2⟩
structure OneOK (f:FuncId) (r:Nat) (one:List Wd→Option (LU × List Wd)):Prop where
 call:∀ (W:World) (l:List Wd),Env W→RdW W r l→Shorts l→Calls Tryz.prog f #[.pointer (some ⟨r,0,none⟩)] W (z36_ W r (one l))
 cons:∀ (l t:List Wd) (s:LU),one l=some (s,t)→∃ q,l=(s,q)::t
 enter:∀ (args:Array Value) (w:World),(callFunc f args).run Tryz.prog w= .ok (.enter f args) w
theorem zit_ (r:Nat) (hO:Off r):OneOK 182 r xp_:=⟨fun W l hE hR hS=>zil_ r l W hE hO hR hS,fun _ _ _ h=>y8_ h,fun _ _=>by kernel_rfl⟩
theorem zcf_ (r:Nat):OneOK 184 r q4_:=⟨fun W l _ hR _=>z9n_ r l W hR,fun _ _ _ h=>xg_ h,fun _ _=>by kernel_rfl⟩
def zkh_ (w:World) (r:Nat) (o:Option (LL × List Wd)) (e:Ending) (w':World):Prop:=match o with
 |none=>e= .returned (.tuple #[.slice none 0 0,.bool false])∧Mods [r] w w'
 |some (xs,l')=>∃ v,e= .returned (.tuple #[v,.bool true])∧Texts w' v xs∧RdW w' r l'∧Mods [r] w w'
end Go.Proofs.YtakfpngfpknedaaGreatDoor
