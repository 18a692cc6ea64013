import Derived.Test.YtbekpphodbekiaaGreatDoorV0p
set_option linter.all false
set_option maxHeartbeats 8000000
set_option maxRecDepth 100000
namespace Go.Proofs.YtbekpphodbekiaaGreatDoor
open Go.RowKit
theorem zbq_ {n:LU} {x:LU × Int × LL × NormFn} (h:j1_ n=some x):x.2.2.1.length≤1000000:=by
 have h1:=z43_ h
 have h2:∀ y∈tab,y.2.2.1.length≤1000000:=by decide+kernel
 exact h2 x h1
theorem zih_ (r f:LU) (w:World) (hr:r.length≤1000000):
  Calls Tryz.prog 70 #[.string ⟨r.toArray⟩,.string ⟨f.toArray⟩] w fun e w'=>e= .returned (.bool (qw_ r f))∧Bel w w':=by
 have hc:=zjy_ r w (by omega)
 unfold qw_
 cases hq:j1_ (z2_ r) with
 |none=>
  rw[hq] at hc
  go_enter Tryz.func70,Tryz.ntmps70
  go_wp2_with (go_at_call 130;refine hc.mono ?_;rintro e w1 ⟨hb,rfl⟩)
  all_goals
   go_ret
   exact⟨rfl,hb⟩
 |some x=>
  rw[hq] at hc
  have hlen:=zbq_ hq
  have HL:=hiD hlen
  clear hq hlen
  go_enter Tryz.func70,Tryz.ntmps70
  go_wp2_with (first|(go_at_call 130;refine hc.mono ?_;rintro e w1 ⟨hb,b,rfl,hbb,hrow⟩;obtain⟨fA,fN,fC,nF,n1,n2,h1,h2,h3⟩:=id hrow;have hcell:w1.cell? ⟨b,2,none⟩=some (.slice fA fN fC):=by simp [World.cell?,h1])|(go_at_call 49;refine(zbr_ f x.2.2.1 _ _ h2 HL.out).mono ?_;rintro e w2 ⟨rfl,rfl⟩))
  all_goals
   go_ret
   exact⟨j7_ (by simp),hb⟩
def vs_ (L:List DefS) (d:DefS) (n:LU):Bool:=match zg_ L true n with
 |none=>false
 |some j=>match L[j]? with
  |none=>false
  |some u=>u.kind !=0 && u.kind !=d.kind
theorem zpn_ (bs bd s i:Nat) (ps:List Nat) (L:List DefS) (d:DefS) (n:LU) (w:World) (hS:SchAt w s ps L) (hd:L[i]?=some d) (h1:w.cell? ⟨bs,0,none⟩=some (z8_ s)) (h2:w.cell? ⟨bd,0,none⟩=some (z8_ (pAt ps i))) (hn:n.length≤1000000) (hf:(zg_ L true n).isSome=true):
  Calls Tryz.prog 69 #[.string ⟨n.toArray⟩,z8_ bs,z8_ bd] w fun e w'=>e= .returned (.bool (vs_ L d n))∧Bel w w':=by
 obtain⟨j,hj⟩:=Option.isSome_iff_exists.1 hf
 have hjl:=y4_ hj
 have hu:L[j]?=some L[j]:=List.getElem?_eq_getElem hjl
 have HF:=z38_ s ps L true n w hS hn
 rw[hj] at HF
 have HF2:Hid (Calls Tryz.prog 21 #[.pointer (some ⟨s,0,none⟩),.bool true,.string ⟨n.toArray⟩] w fun e w'=>e= .returned (.pointer (some ⟨pAt ps j,0,none⟩))∧Bel w w'):=hiD HF
 obtain⟨_,_,_,_,hB⟩:=(hS.defAt hd).bk
 obtain⟨_,_,_,_,hBu⟩:=(hS.defAt hu).bk
 have c13:w.cell? ⟨pAt ps i,13,none⟩=some (.int .i64 d.kind):=hB.cell 13
 have cu13:w.cell? ⟨pAt ps j,13,none⟩=some (.int .i64 L[j].kind):=hBu.cell 13
 have h1':w.cell? ⟨bs,0,none⟩=some (.pointer (some ⟨s,0,none⟩)):=h1
 have h2':w.cell? ⟨bd,0,none⟩=some (.pointer (some ⟨pAt ps i,0,none⟩)):=h2
 have HK:=hiD (fun (W:World) (hb:Bel w W)=>(⟨(hb.cell (p:=⟨bd,0,none⟩) (z9_ h2)).trans h2',(hb.cell (p:=⟨pAt ps i,13,none⟩) (z9_ c13)).trans c13,(hb.cell (p:=⟨pAt ps j,13,none⟩) (z9_ cu13)).trans cu13⟩:W.cell? ⟨bd,0,none⟩=some (.pointer (some ⟨pAt ps i,0,none⟩))∧W.cell? ⟨pAt ps i,13,none⟩=some (.int .i64 d.kind)∧W.cell? ⟨pAt ps j,13,none⟩=some (.int .i64 L[j].kind)))
 have hag:vs_ L d n=(L[j].kind !=0 && L[j].kind !=d.kind):=by unfold vs_;rw[hj];simp only;rw[hu]
 rw[hag]
 clear HF hS hd h1 h2 hj hu hag hB hBu c13 cu13 h2'
 generalize L[j].kind=ku at HK ⊢
 generalize d.kind=kd at HK ⊢
 unfold z8_
 by_cases hz:ku=0
 ·have z1:(ku !=0)=false:=by rw[hz];rfl
  rw[z1,Bool.false_and]
  go_enter Tryz.func69,Tryz.ntmps69
  go_wp2_with (go_at_call 21;refine HF2.out.mono ?_;rintro e w1 ⟨rfl,hb⟩;have k1:=(HK.out _ hb).1;have k2:=(HK.out _ hb).2.1;have k3:=(HK.out _ hb).2.2)
  all_goals
   go_ret
   exact⟨rfl,hb⟩
 ·have z1:(ku !=0)=true:=by rw[bne_iff_ne];exact hz
  rw[z1,Bool.true_and]
  go_enter Tryz.func69,Tryz.ntmps69
  go_wp2_with (go_at_call 21;refine HF2.out.mono ?_;rintro e w1 ⟨rfl,hb⟩;have k1:=(HK.out _ hb).1;have k2:=(HK.out _ hb).2.1;have k3:=(HK.out _ hb).2.2)
  all_goals
   go_ret
   exact⟨rfl,hb⟩
theorem zhh_ (bs bd s i:Nat) (ps:List Nat) (L:List DefS) (d:DefS) (xs:LL) (v:Value) (w:World) (hv:Texts w v xs) (hS:SchAt w s ps L) (hd:L[i]?=some d) (h1:w.cell? ⟨bs,0,none⟩=some (z8_ s)) (h2:w.cell? ⟨bd,0,none⟩=some (z8_ (pAt ps i))) (hx:xs.length≤1000000∧∀ x∈xs,x.length≤1000000) (hf:∀ x∈xs,(zg_ L true x).isSome=true):
  Calls Tryz.prog 64 #[v,.func (.func 69) #[] #[z8_ bs,z8_ bd]] w fun e w'=>e= .returned (.bool (xs.any (vs_ L d)))∧Bel w w':=
 xf_ 69 #[z8_ bs,z8_ bd] xs v w hv hx.1 (vs_ L d)
  ⟨fun x hxx W hb=>zpn_ bs bd s i ps L d x W (hS.below hb) hd ((hb.cell (p:=⟨bs,0,none⟩) (z9_ h1)).trans h1) ((hb.cell (p:=⟨bd,0,none⟩) (z9_ h2)).trans h2) (hx.2 x hxx) (hf x hxx),fun _ _=>by kernel_rfl⟩
structure RuleLim (d:DefS):Prop where
 eqr:d.eqr.length≤1000000
 ordr:d.ordr.length≤1000000
 subs:d.subs.length≤1000000
theorem zbd_ {a b:LU} {n:Nat} (ha:a.length≤n) (hb:b.length≤n):(orL a b).length≤n:=by
 unfold orL;split
 ·exact hb
 ·exact ha
theorem x0_ {L:List DefS} (hr:∀ d∈L,RuleLim d):∀ (n i:Nat) (a:AttrS),qv_ L n i=some a→a.eqr.length≤1000000∧a.ordr.length≤1000000∧a.subs.length≤1000000
 |0,_,_,h=>by rw[qv_] at h;cases h
 |n+1,i,a,h=>by
  rw[qv_] at h
  cases hx:L[i]? with
  |none=>rw[hx] at h;cases h
  |some d=>
   rw[hx] at h
   simp only at h
   have hd:=hr d (List.mem_of_getElem? hx)
   cases hs:d.sup with
   |nil=>
    rw[hs] at h
    simp only at h
    cases h
    exact⟨hd.eqr,hd.ordr,hd.subs⟩
   |cons s tl=>
    rw[hs] at h
    simp only at h
    cases hf:zg_ L false s with
    |none=>rw[hf] at h;cases h
    |some j=>
     rw[hf] at h
     simp only at h
     rw[Option.map_eq_some_iff] at h
     obtain⟨up,hu,rfl⟩:=h
     have hi:=x0_ hr n j up hu
     exact⟨zbd_ hd.eqr hi.1,zbd_ hd.ordr hi.2.1,zbd_ hd.subs hi.2.2⟩
def zd7_ (a:AttrS) (k:Nat):LU:=if k=0 then a.eqr else if k=1 then a.ordr else a.subs
def j0_ (a:AttrS) (k:Nat):Bool:=zd7_ a k==[]||qw_ (zd7_ a k) a.form
theorem yu_ {a:AttrS} {k:Nat} (h:∀ j,j<k→j0_ a j=true) (hk:j0_ a k=true):∀ j,j<k+1→j0_ a j=true:=by
 intro j hj
 rcases Nat.lt_or_ge j k with h1|h1
 ·exact h j h1
 ·obtain rfl:j=k:=by omega
  exact hk
theorem fits_c (s i:Nat) (ps:List Nat) (L:List DefS) (d:DefS) (w:World) (hS:SchAt w s ps L) (hlim:∀ d∈L,DefLim d) (hrl:∀ d∈L,RuleLim d) (hd:L[i]?=some d) (hk:d.cls=true→∀ n∈d.sup,(zg_ L true n).isSome=true) (ha:d.cls=false→(q6_ L i).isSome=true):
  Calls Tryz.prog 32 #[z8_ s,z8_ (pAt ps i)] w fun e w'=>e= .returned (.bool (z14_ L d i))∧Bel w w':=by
 have hmf:=z4b_
 have hl:=hlim d (List.mem_of_getElem? hd)
 have hb0:Bel w ((w.alloc (.cells #[.pointer (some ⟨s,0,none⟩)] 27)).alloc (.cells #[.pointer (some ⟨pAt ps i,0,none⟩)] 66)):=((bR _ _).alloc (nR _) _).alloc (by simp) _
 have k1:=(Bk.new w 27 #[.pointer (some ⟨s,0,none⟩)]).alloc (.cells #[.pointer (some ⟨pAt ps i,0,none⟩)] 66)
 have k2:=Bk.new (w.alloc (.cells #[.pointer (some ⟨s,0,none⟩)] 27)) 66 #[.pointer (some ⟨pAt ps i,0,none⟩)]
 rw[World.size_alloc] at k2
 obtain⟨vn,vs,vm,vy,hB,_,hT,_⟩:=(hS.below hb0).defAt hd
 have b1:((w.alloc (.cells #[.pointer (some ⟨s,0,none⟩)] 27)).alloc (.cells #[.pointer (some ⟨pAt ps i,0,none⟩)] 66)).cell? ⟨w.heap.size,0,none⟩=some (.pointer (some ⟨s,0,none⟩)):=k1.cell 0
 have b2:((w.alloc (.cells #[.pointer (some ⟨s,0,none⟩)] 27)).alloc (.cells #[.pointer (some ⟨pAt ps i,0,none⟩)] 66)).cell? ⟨w.heap.size+1,0,none⟩=some (.pointer (some ⟨pAt ps i,0,none⟩)):=k2.cell 0
 have c0:((w.alloc (.cells #[.pointer (some ⟨s,0,none⟩)] 27)).alloc (.cells #[.pointer (some ⟨pAt ps i,0,none⟩)] 66)).cell? ⟨pAt ps i,0,none⟩=some (.bool d.cls):=hB.cell 0
 have c3:((w.alloc (.cells #[.pointer (some ⟨s,0,none⟩)] 27)).alloc (.cells #[.pointer (some ⟨pAt ps i,0,none⟩)] 66)).cell? ⟨pAt ps i,3,none⟩=some vs:=hB.cell 3
 cases hc:d.cls with
 |true=>
  have hv:z14_ L d i=!d.sup.any (vs_ L d):=by unfold z14_;rw[hc,if_pos rfl];rfl
  rw[hv]
  have HC:=hiD (zhh_ w.heap.size (w.heap.size+1) s i ps L d d.sup vs _ hT (hS.below hb0) hd b1 b2 hl.sup (hk hc))
  obtain⟨A,n,c,rfl⟩:=hT.isSlice
  rw[hc] at c0
  generalize d.sup.any (vs_ L d)=q at HC ⊢
  have HB0:=hiD hb0
  clear hS hd k1 k2 hB hT hv ha hk hb0
  unfold z8_ at HC ⊢
  go_enter Tryz.func32,Tryz.ntmps32
  go_wp2_with (go_at_call 64;refine HC.out.mono ?_;rintro e w1 ⟨rfl,hb⟩)
  all_goals
   go_ret
   exact⟨rfl,tQ HB0.out hb⟩
 |false=>
  obtain⟨a,hca⟩:=Option.isSome_iff_exists.1 (ha hc)
  have hlen:=x0_ hrl _ _ _ hca
  have hv:z14_ L d i=(j0_ a 0 && (j0_ a 1 && j0_ a 2) && !(a.form==[])):=by
   unfold z14_
   rw[hc,if_neg (by simp),hca]
   simp only[List.all_cons,List.all_nil,Bool.and_true]
   rfl
  rw[hv]
  have HC0:=zdg_ s ps L hlim (L.length+1) i a _ (hS.below hb0) hca
  have HC:Hid (Calls Tryz.prog 22 #[.pointer (some ⟨s,0,none⟩),.pointer (some ⟨pAt ps i,0,none⟩)] ((w.alloc (.cells #[.pointer (some ⟨s,0,none⟩)] 27)).alloc (.cells #[.pointer (some ⟨pAt ps i,0,none⟩)] 66)) fun e w'=>∃ A n c,e= .returned (zu_ a (.slice A n c))∧Bel w w'):=hiD (HC0.mono (by
   rintro e w' ⟨h1,nv,rfl,h2⟩
   obtain⟨A,c,rfl,_⟩:=h2.isSlice
   exact⟨A,_,c,rfl,tQ hb0 h1⟩))
  rw[hc] at c0
  have HLEN:Hid (∀ k,(zd7_ a k).length≤1000000):=hiD fun k=>by
   unfold zd7_
   split
   ·exact hlen.1
   ·split
    ·exact hlen.2.1
    ·exact hlen.2.2
  clear hS hd k1 k2 hB hT hv ha hk hb0 HC0 hca hlen hl
  unfold z8_
  go_enter Tryz.func32,Tryz.ntmps32
  go_wp2_with (go_at_call 22;refine HC.out.mono ?_;unfold zu_ z0_;rintro e w1 ⟨A,n,c,rfl,hb⟩)
  have hbk:=Bk.new w1 38 (z0_ a (.slice A n c))
  have f4:=hbk.cell 4
  have hbn:Bel w (w1.alloc (.cells (z0_ a (.slice A n c)) 38)):=hb.alloc hb.size _
  unfold z0_ at hbk f4 hbn
  simp only[gs3] at f4
  have HB:=hiD hbn
  have HF4:=hiD f4
  have hsz:w1.heap.size<(w1.alloc (.cells (z0_ a (.slice A n c)) 38)).heap.size:=by rw[World.size_alloc];omega
  unfold z0_ at hsz
  clear hbk f4 hbn hb
  generalize w1.heap.size=g at HF4 hsz ⊢
  generalize (w1.alloc _)=wL at HF4 HB hsz ⊢
  go_loopg [29] 3 (fun gk i2 wr=>∃ k:Nat,k≤3∧i2= .int .i64 k∧Aside (k+gk=3)∧Bel wL wr∧Aside (∀ j,j<k→j0_ a j=true))
  case atStart=>exact⟨0,by omega,rfl,rfl,bR _ _,fun j hj=>absurd hj (by omega)⟩
  case round=>
   obtain⟨k,hk,rfl,AG,hB,AS⟩:=hrel
   have f4:wr.cell? ⟨g,4,none⟩=some (.string ⟨a.form.toArray⟩):=(hB.cell (p:=⟨g,4,none⟩) hsz).trans HF4.out
   by_cases hlt:k<3
   ·obtain⟨q,rfl⟩:∃ q,gk=q+1:=⟨gk - 1,by have:=AG.out;omega⟩
    rcases(show k=0∨k=1∨k=2 by omega) with rfl|rfl|rfl
    ·obtain⟨x,hq⟩:∃ x,a.eqr=x:=⟨_,rfl⟩
     have hx:∀ W:World,(Instr.index 145 (.agg #[.string ⟨a.eqr.toArray⟩,.string ⟨a.ordr.toArray⟩,.string ⟨a.subs.toArray⟩]) (.int .i64 0)).run Tryz.prog W= .ok (.string ⟨x.toArray⟩) W:=by
      rw[← hq]
      intro W
      kernel_rfl
     rcases x with _|⟨x0,xt⟩
     ·have hr:j0_ a 0=true:=by
       show (a.eqr==[]||_)=true
       rw[hq];rfl
      have HR:=hiD hr
      clear hr hq
      go_wp2_with fail
      go_roundg q
      case measure=>omega
      case rel=>exact⟨0+1,by omega,by go_num,by have:=AG.out;show _=_;omega,hB,yu_ AS.out HR.out⟩
     ·have hC:=zih_ (x0::xt) a.form wr (by rw[← hq];exact HLEN.out 0)
      have hr:j0_ a 0=qw_ (x0::xt) a.form:=by
       show (a.eqr==[]||qw_ a.eqr a.form)=_
       rw[hq];rfl
      have HR:=hiD hr
      have HC2:=hiD hC
      clear hr hq hC
      cases hz:qw_ (x0::xt) a.form
      all_goals
       rw[hz] at HR HC2
       clear hz
      ·go_wp2_with (go_at_call 70;refine HC2.out.mono ?_;rintro e w2 ⟨rfl,hb2⟩)
       all_goals
        go_ret
        exact⟨j7_ (by rw[HR.out];simp),HB.out.trans ((tQ hB hb2).mono HB.out.size)⟩
      ·go_wp2_with (go_at_call 70;refine HC2.out.mono ?_;rintro e w2 ⟨rfl,hb2⟩)
       go_roundg q
       case measure=>omega
       case rel=>exact⟨0+1,by omega,by go_num,by have:=AG.out;show _=_;omega,tQ hB hb2,yu_ AS.out HR.out⟩
    ·obtain⟨x,hq⟩:∃ x,a.ordr=x:=⟨_,rfl⟩
     have hx:∀ W:World,(Instr.index 145 (.agg #[.string ⟨a.eqr.toArray⟩,.string ⟨a.ordr.toArray⟩,.string ⟨a.subs.toArray⟩]) (.int .i64 1)).run Tryz.prog W= .ok (.string ⟨x.toArray⟩) W:=by
      rw[← hq]
      intro W
      kernel_rfl
     rcases x with _|⟨x0,xt⟩
     ·have hr:j0_ a 1=true:=by
       show (a.ordr==[]||_)=true
       rw[hq];rfl
      have HR:=hiD hr
      clear hr hq
      go_wp2_with fail
      go_roundg q
      case measure=>omega
      case rel=>exact⟨1+1,by omega,by go_num,by have:=AG.out;show _=_;omega,hB,yu_ AS.out HR.out⟩
     ·have hC:=zih_ (x0::xt) a.form wr (by rw[← hq];exact HLEN.out 1)
      have hr:j0_ a 1=qw_ (x0::xt) a.form:=by
       show (a.ordr==[]||qw_ a.ordr a.form)=_
       rw[hq];rfl
      have HR:=hiD hr
      have HC2:=hiD hC
      clear hr hq hC
      cases hz:qw_ (x0::xt) a.form
      all_goals
       rw[hz] at HR HC2
       clear hz
      ·go_wp2_with (go_at_call 70;refine HC2.out.mono ?_;rintro e w2 ⟨rfl,hb2⟩)
       all_goals
        go_ret
        exact⟨j7_ (by rw[HR.out];simp),HB.out.trans ((tQ hB hb2).mono HB.out.size)⟩
      ·go_wp2_with (go_at_call 70;refine HC2.out.mono ?_;rintro e w2 ⟨rfl,hb2⟩)
       go_roundg q
       case measure=>omega
       case rel=>exact⟨1+1,by omega,by go_num,by have:=AG.out;show _=_;omega,tQ hB hb2,yu_ AS.out HR.out⟩
    ·obtain⟨x,hq⟩:∃ x,a.subs=x:=⟨_,rfl⟩
     have hx:∀ W:World,(Instr.index 145 (.agg #[.string ⟨a.eqr.toArray⟩,.string ⟨a.ordr.toArray⟩,.string ⟨a.subs.toArray⟩]) (.int .i64 2)).run Tryz.prog W= .ok (.string ⟨x.toArray⟩) W:=by
      rw[← hq]
      intro W
      kernel_rfl
     rcases x with _|⟨x0,xt⟩
     ·have hr:j0_ a 2=true:=by
       show (a.subs==[]||_)=true
       rw[hq];rfl
      have HR:=hiD hr
      clear hr hq
      go_wp2_with fail
      go_roundg q
      case measure=>omega
      case rel=>exact⟨2+1,by omega,by go_num,by have:=AG.out;show _=_;omega,hB,yu_ AS.out HR.out⟩
     ·have hC:=zih_ (x0::xt) a.form wr (by rw[← hq];exact HLEN.out 2)
      have hr:j0_ a 2=qw_ (x0::xt) a.form:=by
       show (a.subs==[]||qw_ a.subs a.form)=_
       rw[hq];rfl
      have HR:=hiD hr
      have HC2:=hiD hC
      clear hr hq hC
      cases hz:qw_ (x0::xt) a.form
      all_goals
       rw[hz] at HR HC2
       clear hz
      ·go_wp2_with (go_at_call 70;refine HC2.out.mono ?_;rintro e w2 ⟨rfl,hb2⟩)
       all_goals
        go_ret
        exact⟨j7_ (by rw[HR.out];simp),HB.out.trans ((tQ hB hb2).mono HB.out.size)⟩
      ·go_wp2_with (go_at_call 70;refine HC2.out.mono ?_;rintro e w2 ⟨rfl,hb2⟩)
       go_roundg q
       case measure=>omega
       case rel=>exact⟨2+1,by omega,by go_num,by have:=AG.out;show _=_;omega,tQ hB hb2,yu_ AS.out HR.out⟩
   ·obtain rfl:k=3:=by omega
    go_wp2_with fail
    go_ret
    exact⟨j7_ (by rw[AS.out 0 (by omega),AS.out 1 (by omega),AS.out 2 (by omega)];simp),tQ HB.out hB⟩
open Go.RowKit
def LimL (xs:LL):Prop:=xs.length≤1000000∧∀ x∈xs,x.length≤1000000
theorem LimL.snoc {acc:LL} {s:LU} (ha:∀ x∈acc,x.length≤1000000) (hs:s.length≤1000000):∀ x∈acc++[s],x.length≤1000000:=by
 intro x hx
 rcases List.mem_append.1 hx with h|h
 ·exact ha x h
 ·rw[List.mem_singleton.1 h];exact hs
theorem z4q_ {sign:LU} {one:List Wd→Option (LU × List Wd)} (hc:∀ (l t:List Wd) (s:LU),one l=some (s,t)→∃ q,l=(s,q)::t) {many:Bool}:∀ (n:Nat) (l:List Wd) (acc:LL) (x:LL × List Wd),Shorts l→(∀ y∈acc,y.length≤1000000)→acc.length+l.length≤1000000→v8_ sign one many n l acc=some x→LimL x.1
 |0,l,acc,x,_,_,_,h=>by rw[v8_] at h;cases h
 |n+1,l,acc,x,hs,ha,hl,h=>by
  cases ho:one l with
  |none=>rw[z18_ ho] at h;cases h
  |some y=>
   obtain⟨s,t⟩:=y
   have h1:=yp_ hc hs ho
   obtain⟨q,hq⟩:=hc _ _ _ ho
   rw[z1j_ ho] at h
   simp only at h1
   subst hq
   have hst:=hs.tail
   have hn:(acc++[s]).length+t.length≤1000000:=by simp at hl ⊢;omega
   have ha2:=LimL.snoc ha h1
   have hlim:LimL (acc++[s]):=⟨by omega,ha2⟩
   split at h
   ·split at h
    ·cases h;exact hlim
    ·split at h
     ·cases h;exact hlim
     ·split at h
      ·exact z4q_ hc n _ _ _ hst ha2 hn h
      ·split at h
       ·exact z4q_ hc n _ _ _ (hst.suffix (List.tail_suffix _)) ha2 (by have:=List.length_tail (l:=t);omega) h
       ·cases h
   ·cases h
theorem z90_ {sign:LU} {one:List Wd→Option (LU × List Wd)} (hc:∀ (l t:List Wd) (s:LU),one l=some (s,t)→∃ q,l=(s,q)::t) {l:List Wd} (hs:Shorts l) (hl:l.length≤1000000) {x:LL × List Wd} (h:x8_ sign one l=some x):LimL x.1:=by
 unfold x8_ at h
 refine z4q_ hc _ _ _ _ ?_ (fun _ h=>by cases h) ?_ h
 ·split
  ·exact hs.suffix (List.tail_suffix _)
  ·exact hs
 ·split
  ·have:=List.length_tail (l:=l);simp;omega
  ·simpa using hl
theorem zhw_ {n:LU} {x:LU × Int × LL × NormFn} (h:j1_ n=some x):x.1.length≤1000000:=by
 have h1:=z43_ h
 have h2:∀ y∈tab,y.1.length≤1000000:=by decide+kernel
 exact h2 x h1
theorem z3m_ {k:Int} {l:List Wd} {x:LU × List Wd} (h:z3t_ k l=some x):x.1.length≤1000000:=by
 unfold z3t_ at h
 split at h
 ·cases h
 ·next s t hp=>
  split at h
  ·cases h
  ·next y hy=>
   split at h
   ·cases h
    exact zhw_ hy
   ·cases h
theorem xs_ {α:Type} {o:Option (α × List Wd)} {F:α→DefS} {P:DefS→Prop} (hs:∀ x,o=some x→P (F x.1)) {y:DefS × List Wd} (h:(o.map fun x=>(F x.1,x.2))=some y):P y.1:=by
 cases o with
 |none=>cases h
 |some x=>cases h;exact hs x rfl
def k4_ (d:DefS):Prop:=DefLim d∧RuleLim d
theorem zf1_ {d:DefS} {f:LU} {l:List Wd} {y:DefS × List Wd} (hd:k4_ d) (hs:Shorts l) (hl:l.length≤1000000) (h:qt_ d f l=some y):k4_ y.1:=by
 have hn:∀ x,yb_ l=some x→x.1.length≤1000000:=fun x hx=>yp_ (fun _ _ _=>ym_) hs hx
 have hln:∀ x,x8_ [36] yb_ l=some x→LimL x.1:=fun x hx=>z90_ (fun _ _ _=>ym_) hs hl hx
 have hlq:∀ x,x8_ [] qf_ l=some x→LimL x.1:=fun x hx=>z90_ (fun _ _ _=>y0_) hs hl hx
 obtain⟨⟨d1,d2,d3,d4,d5⟩,⟨r1,r2,r3⟩⟩:=id hd
 unfold qt_ at h
 split at h
 ·unfold z8u_ at h
  split at h
  ·exact xs_ (F:=fun a=>{d with names:=a}) (fun x hx=>⟨⟨d1,hlq x hx,d3,d4,d5⟩,⟨r1,r2,r3⟩⟩) h
  split at h
  ·exact xs_ (F:=fun _=>d) (fun x hx=>hd) h
  split at h
  ·exact xs_ (F:=fun a=>{d with sup:=a}) (fun x hx=>⟨⟨d1,d2,hln x hx,d4,d5⟩,⟨r1,r2,r3⟩⟩) h
  split at h
  ·exact xs_ (F:=fun a=>{d with must:=a}) (fun x hx=>⟨⟨d1,d2,d3,hln x hx,d5⟩,⟨r1,r2,r3⟩⟩) h
  split at h
  ·exact xs_ (F:=fun a=>{d with may:=a}) (fun x hx=>⟨⟨d1,d2,d3,d4,hln x hx⟩,⟨r1,r2,r3⟩⟩) h
  ·cases h
 ·unfold za0_ at h
  by_cases g0:f=kb_
  ·rw[if_pos g0] at h;exact xs_ (F:=fun a=>{d with names:=a}) (fun x hx=>⟨⟨d1,hlq x hx,d3,d4,d5⟩,⟨r1,r2,r3⟩⟩) h
  rw[if_neg g0] at h
  by_cases g1:f=ka_
  ·rw[if_pos g1] at h;exact xs_ (F:=fun _=>d) (fun x hx=>hd) h
  rw[if_neg g1] at h
  by_cases g2:f=z8n_
  ·rw[if_pos g2] at h;exact xs_ (F:=fun a=>{d with sup:=[a]}) (fun x hx=>⟨⟨d1,d2,⟨by show 1≤_;omega,fun z hz=>by rw[List.mem_singleton.1 hz];exact hn x hx⟩,d4,d5⟩,⟨r1,r2,r3⟩⟩) h
  rw[if_neg g2] at h
  by_cases g3:f=jj_
  ·rw[if_pos g3] at h;exact xs_ (F:=fun a=>{d with eqr:=a}) (fun x hx=>⟨⟨d1,d2,d3,d4,d5⟩,⟨z3m_ hx,r2,r3⟩⟩) h
  rw[if_neg g3] at h
  by_cases g4:f=jm_
  ·rw[if_pos g4] at h;exact xs_ (F:=fun a=>{d with ordr:=a}) (fun x hx=>⟨⟨d1,d2,d3,d4,d5⟩,⟨r1,z3m_ hx,r3⟩⟩) h
  rw[if_neg g4] at h
  by_cases g5:f=yw_
  ·rw[if_pos g5] at h;exact xs_ (F:=fun a=>{d with subs:=a}) (fun x hx=>⟨⟨d1,d2,d3,d4,d5⟩,⟨r1,r2,z3m_ hx⟩⟩) h
  rw[if_neg g5] at h
  by_cases g6:f=yd_
  ·rw[if_pos g6] at h
   cases hpp:zi_ l with
   |none=>rw[hpp] at h;cases h
   |some x=>
    rw[hpp] at h
    simp only at h
    by_cases q:(z7q_ x.1==0)=true
    ·rw[if_pos q] at h;cases h;exact⟨⟨d1,d2,d3,d4,d5⟩,⟨r1,r2,r3⟩⟩
    ·rw[if_neg q] at h;cases h
  rw[if_neg g6] at h
  by_cases g7:f=q7_
  ·rw[if_pos g7] at h;cases h;exact⟨⟨d1,d2,d3,d4,d5⟩,⟨r1,r2,r3⟩⟩
  rw[if_neg g7] at h
  by_cases g8:f=zk_
  ·rw[if_pos g8] at h;cases h;exact⟨⟨d1,d2,d3,d4,d5⟩,⟨r1,r2,r3⟩⟩
  rw[if_neg g8] at h
  by_cases g9:f=vh_
  ·rw[if_pos g9] at h
   cases hpp:zi_ l with
   |none=>rw[hpp] at h;cases h
   |some x=>
    rw[hpp] at h
    simp only at h
    by_cases q:(x.1==zb_||x.1==zm_)=true
    ·rw[if_pos q] at h;cases h;exact⟨⟨d1,d2,d3,d4,d5⟩,⟨r1,r2,r3⟩⟩
    ·rw[if_neg q] at h;cases h
  rw[if_neg g9] at h
  cases h
theorem z4l_:∀ (n:Nat) (d d':DefS) (seen:LL) (l:List Wd),k4_ d→Shorts l→l.length≤1000000→yn_ n d seen l=some d'→k4_ d'∧d'.cls=d.cls
 |0,_,_,_,_,_,_,_,h=>by rw[yn_] at h;cases h
 |n+1,d,d',seen,l,hd,hs,hl,h=>by
  rw[yn_] at h
  split at h
  ·split at h
   ·cases h;exact⟨hd,rfl⟩
   ·cases h
  ·split at h
   ·cases h
   ·next f t hp=>
    have ht:t<:+l:=jq_ (one:=zi_) (fun _ _ _=>zv_) hp
    have hst:=hs.suffix ht
    have htl:t.length≤1000000:=nT ht.length_le hl
    split at h
    ·split at h
     ·cases h
     ·have hk:k4_ {d with kind:=kc_ f}:=by
       obtain⟨⟨d1,d2,d3,d4,d5⟩,⟨r1,r2,r3⟩⟩:=hd
       exact⟨⟨d1,d2,d3,d4,d5⟩,⟨r1,r2,r3⟩⟩
      have h4:=z4l_ n {d with kind:=kc_ f} d' _ t hk hst htl h
      exact⟨h4.1,h4.2⟩
    ·split at h
     ·cases h
     ·split at h
      ·cases h
      ·next d2 t2 hf=>
       have h2:=yx_ hf
       have h3:=zf1_ hd hst htl hf
       have h4:=z4l_ n d2 d' _ t2 h3 (hst.suffix h2.1) (nT h2.1.length_le htl) h
       exact⟨h4.1,h4.2.trans h2.2⟩
theorem zat_ {s:LU} {cls:Bool} {d:DefS} (hs:s.length≤1000000) (h:zf5_ s cls=some d):k4_ d∧d.cls=cls:=by
 unfold zf5_ at h
 split at h
 ·cases h
 ·next l hw=>
  have hb:=ko_ hw
  have hS:Shorts l:=fun x hx=>nT (hb.1 x hx) hs
  have hl:l.length≤1000000:=nT hb.2 hs
  split at h
  ·split at h
   ·cases h
   ·next oid t hp=>
    have hS2:=hS.suffix (List.tail_suffix l)
    have ht:t<:+l.tail:=jq_ (one:=zi_) (fun _ _ _=>zv_) hp
    have ho:=yp_ (one:=zi_) (fun _ _ _=>zv_) hS2 hp
    have htl:t.length≤1000000:=nT ht.length_le (nT (List.tail_suffix l).length_le hl)
    split at h
    ·refine z4l_ _ _ d _ t ?_ (hS2.suffix ht) htl h
     have hz:([]:LL).length≤1000000∧∀ x∈([]:LL),x.length≤1000000:=⟨by simp,fun _ h=>by cases h⟩
     exact⟨⟨ho,hz,hz,hz,hz⟩,⟨by simp [DefS.new],by simp [DefS.new],by simp [DefS.new]⟩⟩
    ·cases h
  ·cases h
theorem z3n_ (na:Nat):∀ (ss:LL) (i:Nat) (L L':List DefS),(∀ s∈ss,s.length≤1000000)→(∀ d∈L,k4_ d)→ql_ na i ss L= .inr L'→(∀ d∈L',k4_ d)∧L'.length=L.length+ss.length
 |[],i,L,L',_,hL,h=>by rw[ql_] at h;cases h;exact⟨hL,rfl⟩
 |s::ss,i,L,L',hs,hL,h=>by
  rw[ql_] at h
  split at h
  ·cases h
  ·next d hd=>
   split at h
   ·have h1:=z3n_ na ss (i+1) (L++[d]) L' (fun x hx=>hs x (List.mem_cons_of_mem _ hx)) (fun x hx=>by
     rcases List.mem_append.1 hx with hx|hx
     ·exact hL x hx
     ·rw[List.mem_singleton.1 hx];exact(zat_ (hs s (List.mem_cons_self ..)) hd).1) h
    refine⟨h1.1,?_⟩
    rw[h1.2]
    simp
    omega
   ·cases h
end Go.Proofs.YtbekpphodbekiaaGreatDoor
