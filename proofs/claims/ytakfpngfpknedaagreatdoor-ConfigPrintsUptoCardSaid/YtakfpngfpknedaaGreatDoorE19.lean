import Derived.Test.YtakfpngfpknedaaGreatDoorE16
import Derived.Test.YtakfpngfpknedaaGreatDoorE17
import Derived.Test.YtakfpngfpknedaaGreatDoorE18
set_option linter.all false
set_option maxHeartbeats 8000000
set_option maxRecDepth 100000
set_option linter.all false
namespace Go.Proofs.YtakfpngfpknedaaGreatDoor
open Go.RowKit
namespace Cfg
theorem printC_count (c:ConfE):(printC c).length≤countE c+6:=by
 unfold printC
 split
 ·exact rawP_count c
 ·simp
theorem linesR_long {w s:List UInt8} {m:Nat} {l:List (List UInt8)} (hl:∀ a∈l,a.length≤m) (h:s∈linesR w l):s.length≤w.length+m+1:=by
 obtain⟨a,ha,rfl⟩:=List.mem_map.1 h
 have:=hl a ha
 rw[List.length_append,List.length_cons]
 omega
theorem decX_long (n:Int) (h0: -9223372036854775808≤n) (h1:n≤9223372036854775807):(decX n).length≤22:=by
 unfold decX
 split
 ·simp
 ·exact itoa_long n h0 h1
theorem decX_ne (n:Int):decX n≠[]:=by
 unfold decX
 split
 ·simp
 ·next h=>
  intro e
  unfold Lib.itoa at e
  rw[if_neg (by omega)] at e
  have h1:=congrArg List.length e
  rw[Lib.decDigits_length] at h1
  have h2:0<Lib.nDigits n.toNat:=by
   rcases Nat.lt_or_ge n.toNat 10 with h|h
   ·rw[Lib.nDigits_small h];omega
   ·rw[Lib.nDigits_big (Nat.not_lt.2 h)];omega
  simp at h1
  omega
theorem indexR_long (x:IndexE):(indexR x).length≤x.typ.length+30:=by
 have:=kindsI_join x
 have e:wIndex.length=5:=rfl
 unfold indexR
 rw[List.length_append,List.length_cons,List.length_append,List.length_cons]
 omega
theorem rawR_long {m:Nat} {c:ConfE} (hc:Lim m c) (h0: -9223372036854775808≤c.size) (h1:c.size≤9223372036854775807):∀ s∈rawR c,s.length≤m+40:=by
 intro s hs
 unfold rawR at hs
 simp only[List.mem_append] at hs
 have b:∀ w∈[wSuffix,wRoot,wSecret,wSize,wAttr,wClass,wAcl,wIndex,wMember,wAudit,wRef,wUnique],w.length≤8:=by decide
 rcases hs with h|h|h|h|h|h|h|h|h|h|h|h
 ·have:=line_long h;have:=hc.suffix;have:=b wSuffix (by decide);omega
 ·have:=line_long h;have:=hc.root;have:=b wRoot (by decide);omega
 ·have:=line_long h;have:=hc.secret;have:=b wSecret (by decide);omega
 ·unfold sizeR at h
  split at h
  ·cases h
  ·have:=line_long h;have:=decX_long c.size h0 h1;have:=b wSize (by decide);omega
 ·have:=linesR_long hc.attrs h;have:=b wAttr (by decide);omega
 ·have:=linesR_long hc.classes h;have:=b wClass (by decide);omega
 ·have:=linesR_long hc.acls h;have:=b wAcl (by decide);omega
 ·obtain⟨x,hx,rfl⟩:=List.mem_map.1 h
  have:=indexR_long x
  have:=hc.indexes x hx
  omega
 ·have:=onL_long h;have:=b wMember (by decide);omega
 ·have:=onL_long h;have:=b wAudit (by decide);omega
 ·have:=linesR_long hc.refs h;have:=b wRef (by decide);omega
 ·have:=linesR_long hc.unique h;have:=b wUnique (by decide);omega
end Cfg
section
variable {ops:Array Oper} {o:Oper} {a:Act} {K:Act→World→Prop} {Q:Exit→Act→World→Prop} {E:Prop}
theorem z5f_ {w0:World} (hgd:o.guard=none) (s x:Operand) (ho:o.op= .call {callee:= .builtin .append,args:=#[s,x],argTypes:=#[22,22]})
  {v:Value} {N:Nat} {xs:List (List UInt8)} {c:List UInt8} {B:Nat} (hs:a.eval s=v) (hb:Own B w0 v xs)
  (hx:a.eval x= .slice (some ⟨N,0,none⟩) 1 1) (hN:N=w0.heap.size) (hlen:xs.length<4398046511000)
  (h:∀ v' w',Own B w' v' (xs++[c])→w0.grownBy w' v.ownBlock→K (a.put o.dst v') w'):
  if Region.wanted o (yielded ops a.tmps)=true then Oper.wp Tryz.prog o a (w0.alloc (.cells #[.string ⟨c.toArray⟩] 9)) K Q else E:=by
 subst hN
 refine z30_ (ys:=[c]) hgd s x ho hs (hb.below (zs_ w0 _)) hx (fun j hj=>?_) (by rw[List.length_singleton];omega) (fun v' w' h1 h2 _=>h v' w' h1 (World.grownBy.trans (World.grownBy_alloc _ _ _) h2))
 obtain rfl:j=0:=by simpa using hj
 exact(Bk.new w0 9 #[.string ⟨c.toArray⟩]).cell 0
end
theorem Own.belB {B:Nat} {W w w':World} {v:Value} {xs:List (List UInt8)} (hb:Below B W w) (hO:Own B w v xs) (hg:w.grownBy w' v.ownBlock):Below B W w':=hb.grown hg hO.2 (fun k hk=>(hO.lt k hk).1)
set_option maxRecDepth 100000 in
theorem zdc_ {B:Nat} (L:List (List UInt8)) (wd:List UInt8) (l:List (List UInt8)) (v va:Value) (w:World) (hO:Own B w v L) (hv:∀ W,Below B w W→TextsA W va l) (hl:L.length+l.length≤4000000) (hw:wd.length≤100) (ha:∀ a∈l,a.length≤4000000):
  Calls Tryz.prog 37 #[v,.string ⟨wd.toArray⟩,va] w fun e w'=>Below B w w'∧∃ A c,e= .returned (.slice A (L++Cfg.linesR wd l).length c)∧Own B w' (.slice A (L++Cfg.linesR wd l).length c) (L++Cfg.linesR wd l):=by
 obtain⟨Aa,ca,rfl,_,_⟩:=(hv w (Below.refl _ _)).at
 have HV:Hid (∀ W,Below B w W→∀ j (hj:j<l.length),∃ a,Aa=some a∧W.cell? (a.add j)=some (.string ⟨l[j].toArray⟩)):=Lib.hid fun W hW j hj=>by
  obtain⟨A',c',he,_,hx⟩:=(hv W hW).at
  cases he
  exact hx j hj
 obtain⟨A0,c0,rfl,_⟩:=hO.isSlice
 have HO0:=Lib.hid hO
 have HA:=Lib.hid ha
 clear hv hO ha
 obtain⟨Z,hZ⟩:∃ Z,L++Cfg.linesR wd l=Z:=⟨_,rfl⟩
 rw[hZ]
 have HZ:=Lib.hid hZ
 clear hZ
 go_enter Tryz.func37,Tryz.ntmps37
 go_wp2_with fail
 go_loopg [0,7] l.length (fun gk s i wr=>∃ (k n:Nat) (A:Option Addr) (cc:Nat),k≤l.length∧i= .int .i64 (k:Int)∧s= .slice A n cc∧Aside (n=(L++Cfg.linesR wd (l.take k)).length)∧n≤4000000∧Aside (k+gk=l.length)∧Aside (Below B w wr)∧Aside (Own B wr (.slice A n cc) (L++Cfg.linesR wd (l.take k))))
 case atStart=>exact⟨0,L.length,A0,c0,Nat.zero_le _,rfl,rfl,by show _=_;simp [Cfg.linesR],by omega,by show _=_;omega,Below.refl _ _,by show Own _ _ _ _;simpa [Cfg.linesR] using HO0.out⟩
 case round=>
  obtain⟨k,n,A,cc,hk,rfl,rfl,AN,hn,AG,AB,AO⟩:=hrel
  have HB:=Lib.hid AB.out
  have HO:=Lib.hid AO.out
  have HN:=Lib.hid AN.out
  clear AB AO AN
  by_cases hlt:k<l.length
  case pos=>
   obtain⟨q,rfl⟩:∃ q,gk=q+1:=⟨gk - 1,by have:=AG.out;omega⟩
   obtain⟨a,rfl,hc⟩:=HV.out _ HB.out k hlt
   have hki:(k:Int)<(l.length:Int):=by omega
   have hal:=HA.out _ (List.getElem_mem hlt)
   have hn2:n=L.length+k:=by have:=HN.out;simp only[Cfg.linesR,List.length_append,List.length_map,List.length_take] at this;omega
   have HSN:Hid (L++Cfg.linesR wd (l.take (k+1))=(L++Cfg.linesR wd (l.take k))++[(wd++[32])++l[k]]):=Lib.hid (by rw[List.take_succ_eq_append_getElem hlt];unfold Cfg.linesR;rw[List.map_append,← List.append_assoc];simp)
   obtain⟨L2,hL2⟩:∃ L2,L++Cfg.linesR wd (l.take k)=L2:=⟨_,rfl⟩
   rw[hL2] at HO HSN HN
   generalize l[k]=x at *
   have hn3:L2.length=n:=HN.out.symm
   have HOx:=Lib.hid HO.out
   rw[← hn3] at HOx
   go_wp2_with (at_builtin;refine qh_ (c:=(wd++[32])++x) rfl _ _ rfl rfl HO.out rfl rfl (by omega) ?_;intro v' w' hO' hg';obtain⟨A6,c6,rfl,_⟩:=hO'.isSlice;have HB':=Lib.hid (Own.belB HB.out HO.out hg');have HO':=Lib.hid hO';clear hO' hg')
   go_roundg q
   case measure=>omega
   case rel=>exact⟨k+1,n+1,A6,c6,by omega,by go_num,congrArg (fun z=>Value.slice A6 z c6) (by omega),by show _=_;rw[HSN.out,List.length_append,hn3];rfl,by omega,by have:=AG.out;show _=_;omega,HB'.out,by
    show Own _ _ _ _
    rw[HSN.out]
    have q:=HO'.out
    rw[List.length_append,hn3] at q
    exact q⟩
  case neg=>
   obtain rfl:k=l.length:=by omega
   have hki:¬ ((l.length:Int)<(l.length:Int)):=by omega
   have HOf:=Lib.hid HO.out
   rw[List.take_length] at HOf HN
   rw[HZ.out] at HOf HN
   have hnZ:=HN.out
   subst hnZ
   go_wp2_with fail
   go_ret
   exact⟨HB.out,A,cc,rfl,HOf.out⟩
set_option maxRecDepth 100000 in
theorem zfz_ (c:Cfg.ConfE) (v:Value) (w:World) (hw:Env w) (hC:ConfW w v c) (hl:Cfg.countE c≤4000) (hm:Cfg.Lim 2000000 c) (hz: -9223372036854775808≤c.size∧c.size≤9223372036854775807):
  Calls Tryz.prog 18 #[v] w fun e w'=>Below w.heap.size w w'∧∃ u,e= .returned u∧TextsA w' u (Cfg.printC c):=by
 rw[← Cfg.printR_eq]
 obtain⟨va,vc,vl,vi,vr,vu,rfl,ta,tc,tl,ti,tr,tu⟩:=hC
 obtain⟨AI,cI,hvI,hcI,hxI⟩:=ti
 have ti:IdxW w vi c.indexes:=⟨AI,cI,hvI,hcI,hxI⟩
 subst hvI
 obtain⟨w1,hw1⟩:∃ w1,w1=w.alloc (.cells #[.string ⟨c.suffix.toArray⟩,.string ⟨c.root.toArray⟩,.string ⟨c.secret.toArray⟩,.int .i64 c.size,va,vc,vl,.slice AI c.indexes.length cI,.bool c.memberof,.bool c.audit,vr,vu] 25):=⟨_,rfl⟩
 have b1:Below w.heap.size w w1:=by rw[hw1];exact zs_ w _
 have kp:Bk w1 w.heap.size 25 #[.string ⟨c.suffix.toArray⟩,.string ⟨c.root.toArray⟩,.string ⟨c.secret.toArray⟩,.int .i64 c.size,va,vc,vl,.slice AI c.indexes.length cI,.bool c.memberof,.bool c.audit,vr,vu]:=by rw[hw1];exact Bk.new w _ _
 have HBe:Hid (∀ W,Below w1.heap.size w1 W→Below w.heap.size w W):=Lib.hid fun W h=>b1.trans (h.mono b1.size)
 have hBel:=HBe.out
 have hc:=hl
 unfold Cfg.countE at hc
 obtain⟨L1,hL1⟩:∃ L,L=([]:List (List UInt8))++Cfg.line Cfg.wSuffix c.suffix:=⟨_,rfl⟩
 obtain⟨L2,hL2⟩:∃ L,L=L1++Cfg.line Cfg.wRoot c.root:=⟨_,rfl⟩
 obtain⟨L3,hL3⟩:∃ L,L=L2++Cfg.line Cfg.wSecret c.secret:=⟨_,rfl⟩
 obtain⟨L4,hL4⟩:∃ L,L=L3++Cfg.sizeR c.size:=⟨_,rfl⟩
 obtain⟨L5,hL5⟩:∃ L,L=L4++Cfg.linesR Cfg.wAttr c.attrs:=⟨_,rfl⟩
 obtain⟨L6,hL6⟩:∃ L,L=L5++Cfg.linesR Cfg.wClass c.classes:=⟨_,rfl⟩
 obtain⟨L7,hL7⟩:∃ L,L=L6++Cfg.linesR Cfg.wAcl c.acls:=⟨_,rfl⟩
 obtain⟨L8,hL8⟩:∃ L,L=L7++c.indexes.map Cfg.indexR:=⟨_,rfl⟩
 obtain⟨L9,hL9⟩:∃ L,L=L8++Cfg.onL Cfg.wMember c.memberof:=⟨_,rfl⟩
 obtain⟨L10,hL10⟩:∃ L,L=L9++Cfg.onL Cfg.wAudit c.audit:=⟨_,rfl⟩
 obtain⟨L11,hL11⟩:∃ L,L=L10++Cfg.linesR Cfg.wRef c.refs:=⟨_,rfl⟩
 obtain⟨L12,hL12⟩:∃ L,L=L11++Cfg.linesR Cfg.wUnique c.unique:=⟨_,rfl⟩
 have n1:L1.length≤0+1:=by
  have:=Cfg.line_le Cfg.wSuffix c.suffix
  rw[hL1,List.length_append]
  simp only[List.length_nil] at *
  omega
 have n2:L2.length≤L1.length+1:=by
  have:=Cfg.line_le Cfg.wRoot c.root
  rw[hL2,List.length_append]
  omega
 have n3:L3.length≤L2.length+1:=by
  have:=Cfg.line_le Cfg.wSecret c.secret
  rw[hL3,List.length_append]
  omega
 have n4:L4.length≤L3.length+1:=by
  have:(Cfg.sizeR c.size).length≤1:=by
   unfold Cfg.sizeR
   split
   ·simp
   ·exact Cfg.line_le _ _
  rw[hL4,List.length_append]
  omega
 have n5:L5.length≤L4.length+c.attrs.length:=by
  have:(Cfg.linesR Cfg.wAttr c.attrs).length=c.attrs.length:=by unfold Cfg.linesR;rw[List.length_map]
  rw[hL5,List.length_append]
  omega
 have n6:L6.length≤L5.length+c.classes.length:=by
  have:(Cfg.linesR Cfg.wClass c.classes).length=c.classes.length:=by unfold Cfg.linesR;rw[List.length_map]
  rw[hL6,List.length_append]
  omega
 have n7:L7.length≤L6.length+c.acls.length:=by
  have:(Cfg.linesR Cfg.wAcl c.acls).length=c.acls.length:=by unfold Cfg.linesR;rw[List.length_map]
  rw[hL7,List.length_append]
  omega
 have n8:L8.length≤L7.length+c.indexes.length:=by
  have:(c.indexes.map Cfg.indexR).length=c.indexes.length:=by rw[List.length_map]
  rw[hL8,List.length_append]
  omega
 have n9:L9.length≤L8.length+1:=by
  have:=Cfg.onL_le Cfg.wMember c.memberof
  rw[hL9,List.length_append]
  omega
 have n10:L10.length≤L9.length+1:=by
  have:=Cfg.onL_le Cfg.wAudit c.audit
  rw[hL10,List.length_append]
  omega
 have n11:L11.length≤L10.length+c.refs.length:=by
  have:(Cfg.linesR Cfg.wRef c.refs).length=c.refs.length:=by unfold Cfg.linesR;rw[List.length_map]
  rw[hL11,List.length_append]
  omega
 have n12:L12.length≤L11.length+c.unique.length:=by
  have:(Cfg.linesR Cfg.wUnique c.unique).length=c.unique.length:=by unfold Cfg.linesR;rw[List.length_map]
  rw[hL12,List.length_append]
  omega
 have E0:Hid (c.suffix=[]→L1=([]:List (List UInt8))):=Lib.hid fun h=>by rw[hL1,h,show Cfg.line Cfg.wSuffix []=[] from rfl,List.append_nil]
 have N0:Hid (c.suffix≠[]→L1=([]:List (List UInt8))++[[115,117,102,102,105,120,32]++c.suffix]):=Lib.hid fun h=>by rw[hL1,show Cfg.line Cfg.wSuffix c.suffix=[[115,117,102,102,105,120,32]++c.suffix] from if_neg h]
 have E1:Hid (c.root=[]→L2=L1):=Lib.hid fun h=>by rw[hL2,h,show Cfg.line Cfg.wRoot []=[] from rfl,List.append_nil]
 have N1:Hid (c.root≠[]→L2=L1++[[114,111,111,116,32]++c.root]):=Lib.hid fun h=>by rw[hL2,show Cfg.line Cfg.wRoot c.root=[[114,111,111,116,32]++c.root] from if_neg h]
 have E2:Hid (c.secret=[]→L3=L2):=Lib.hid fun h=>by rw[hL3,h,show Cfg.line Cfg.wSecret []=[] from rfl,List.append_nil]
 have N2:Hid (c.secret≠[]→L3=L2++[[115,101,99,114,101,116,32]++c.secret]):=Lib.hid fun h=>by rw[hL3,show Cfg.line Cfg.wSecret c.secret=[[115,101,99,114,101,116,32]++c.secret] from if_neg h]
 have E3:Hid (c.size=0→L4=L3):=Lib.hid fun h=>by rw[hL4,h,show Cfg.sizeR 0=[] from rfl,List.append_nil]
 have N3:Hid (c.size≠0→L4=L3++[[115,105,122,101,32]++Cfg.decX c.size]):=Lib.hid fun h=>by
  have hd:=Cfg.decX_ne c.size
  rw[hL4,show Cfg.sizeR c.size=Cfg.line Cfg.wSize (Cfg.decX c.size) from if_neg h,show Cfg.line Cfg.wSize (Cfg.decX c.size)=[[115,105,122,101,32]++Cfg.decX c.size] from if_neg hd]
 have HDe:Hid (∀ W,Below w1.heap.size w1 W→Calls Tryz.prog 36 #[.int .i64 c.size] W fun e w'=>e= .returned (.string ⟨(Cfg.decX c.size).toArray⟩)∧Below w1.heap.size w1 w'∧Below W.heap.size W w'):=Lib.hid fun W h=>(zep_ c.size W hz.2).mono (by rintro e w' ⟨he,hb⟩;exact⟨he,h.trans (hb.mono h.size),hb⟩)
 have H4:Hid (∀ n A cc W,Below w1.heap.size w1 W→Own w1.heap.size W (.slice A n cc) L4→Calls Tryz.prog 37 #[.slice A n cc,.string ⟨#[97,116,116,114]⟩,va] W fun e w'=>Below w1.heap.size w1 w'∧∃ n' A' c',e= .returned (.slice A' n' c')∧Own w1.heap.size w' (.slice A' n' c') L5):=Lib.hid fun n A cc W h hO=>(zdc_ L4 Cfg.wAttr c.attrs _ va W hO (fun W' h'=>ta.below (hBel W' (h.trans h'))) (by omega) (by decide) (fun a ha=>by have:=hm.attrs a ha;omega)).mono (by
  rw[← hL5]
  rintro e w' ⟨hb,A',c',he,hO'⟩
  exact⟨h.trans hb,_,A',c',he,hO'⟩)
 have H5:Hid (∀ n A cc W,Below w1.heap.size w1 W→Own w1.heap.size W (.slice A n cc) L5→Calls Tryz.prog 37 #[.slice A n cc,.string ⟨#[99,108,97,115,115]⟩,vc] W fun e w'=>Below w1.heap.size w1 w'∧∃ n' A' c',e= .returned (.slice A' n' c')∧Own w1.heap.size w' (.slice A' n' c') L6):=Lib.hid fun n A cc W h hO=>(zdc_ L5 Cfg.wClass c.classes _ vc W hO (fun W' h'=>tc.below (hBel W' (h.trans h'))) (by omega) (by decide) (fun a ha=>by have:=hm.classes a ha;omega)).mono (by
  rw[← hL6]
  rintro e w' ⟨hb,A',c',he,hO'⟩
  exact⟨h.trans hb,_,A',c',he,hO'⟩)
 have H6:Hid (∀ n A cc W,Below w1.heap.size w1 W→Own w1.heap.size W (.slice A n cc) L6→Calls Tryz.prog 37 #[.slice A n cc,.string ⟨#[97,99,108]⟩,vl] W fun e w'=>Below w1.heap.size w1 w'∧∃ n' A' c',e= .returned (.slice A' n' c')∧Own w1.heap.size w' (.slice A' n' c') L7):=Lib.hid fun n A cc W h hO=>(zdc_ L6 Cfg.wAcl c.acls _ vl W hO (fun W' h'=>tl.below (hBel W' (h.trans h'))) (by omega) (by decide) (fun a ha=>by have:=hm.acls a ha;omega)).mono (by
  rw[← hL7]
  rintro e w' ⟨hb,A',c',he,hO'⟩
  exact⟨h.trans hb,_,A',c',he,hO'⟩)
 have H10:Hid (∀ n A cc W,Below w1.heap.size w1 W→Own w1.heap.size W (.slice A n cc) L10→Calls Tryz.prog 37 #[.slice A n cc,.string ⟨#[114,101,102]⟩,vr] W fun e w'=>Below w1.heap.size w1 w'∧∃ n' A' c',e= .returned (.slice A' n' c')∧Own w1.heap.size w' (.slice A' n' c') L11):=Lib.hid fun n A cc W h hO=>(zdc_ L10 Cfg.wRef c.refs _ vr W hO (fun W' h'=>tr.below (hBel W' (h.trans h'))) (by omega) (by decide) (fun a ha=>by have:=hm.refs a ha;omega)).mono (by
  rw[← hL11]
  rintro e w' ⟨hb,A',c',he,hO'⟩
  exact⟨h.trans hb,_,A',c',he,hO'⟩)
 have H11:Hid (∀ n A cc W,Below w1.heap.size w1 W→Own w1.heap.size W (.slice A n cc) L11→Calls Tryz.prog 37 #[.slice A n cc,.string ⟨#[117,110,105,113,117,101]⟩,vu] W fun e w'=>Below w1.heap.size w1 w'∧∃ n' A' c',e= .returned (.slice A' n' c')∧Own w1.heap.size w' (.slice A' n' c') L12):=Lib.hid fun n A cc W h hO=>(zdc_ L11 Cfg.wUnique c.unique _ vu W hO (fun W' h'=>tu.below (hBel W' (h.trans h'))) (by omega) (by decide) (fun a ha=>by have:=hm.unique a ha;omega)).mono (by
  rw[← hL12]
  rintro e w' ⟨hb,A',c',he,hO'⟩
  exact⟨h.trans hb,_,A',c',he,hO'⟩)
 have E8:Hid (c.memberof=false→L9=L8):=Lib.hid fun h=>by rw[hL9,h,show Cfg.onL Cfg.wMember false=[] from rfl,List.append_nil]
 have N8:Hid (c.memberof=true→L9=L8++[[109,101,109,98,101,114,111,102,32,111,110]]):=Lib.hid fun h=>by rw[hL9,h];rfl
 have E9:Hid (c.audit=false→L10=L9):=Lib.hid fun h=>by rw[hL10,h,show Cfg.onL Cfg.wAudit false=[] from rfl,List.append_nil]
 have N9:Hid (c.audit=true→L10=L9++[[97,117,100,105,116,32,111,110]]):=Lib.hid fun h=>by rw[hL10,h];rfl
 have HCL:Hid (∀ W,Below w1.heap.size w1 W→W.cell? ⟨w.heap.size,0,none⟩=some (.string ⟨c.suffix.toArray⟩)∧W.cell? ⟨w.heap.size,1,none⟩=some (.string ⟨c.root.toArray⟩)∧W.cell? ⟨w.heap.size,2,none⟩=some (.string ⟨c.secret.toArray⟩)∧W.cell? ⟨w.heap.size,3,none⟩=some (.int .i64 c.size)∧W.cell? ⟨w.heap.size,4,none⟩=some (va)∧W.cell? ⟨w.heap.size,5,none⟩=some (vc)∧W.cell? ⟨w.heap.size,6,none⟩=some (vl)∧W.cell? ⟨w.heap.size,7,none⟩=some (.slice AI c.indexes.length cI)∧W.cell? ⟨w.heap.size,8,none⟩=some (.bool c.memberof)∧W.cell? ⟨w.heap.size,9,none⟩=some (.bool c.audit)∧W.cell? ⟨w.heap.size,10,none⟩=some (vr)∧W.cell? ⟨w.heap.size,11,none⟩=some (vu)):=Lib.hid fun W h=>by
  have hk:=kp.below h
  exact⟨hk.cell 0,hk.cell 1,hk.cell 2,hk.cell 3,hk.cell 4,hk.cell 5,hk.cell 6,hk.cell 7,hk.cell 8,hk.cell 9,hk.cell 10,hk.cell 11⟩
 have hraw:L12=Cfg.rawR c:=by
  rw[hL12,hL11,hL10,hL9,hL8,hL7,hL6,hL5,hL4,hL3,hL2,hL1]
  unfold Cfg.rawR
  simp only[List.append_assoc,List.nil_append]
 have hlong:=Cfg.rawR_long hm hz.1 hz.2
 have HPa:Hid (∀ W,Below w1.heap.size w1 W→∀ u,TextsA W u L12→Calls Tryz.prog 39 #[u] W (z63_ W (Cfg.parseC L12))):=Lib.hid fun W h u hu=>(zjv_ L12 u W (hw.keep (hBel W h)) hu (by rw[hraw];intro s hs;have:=hlong s hs;omega)).mono fun e w' h=>h.open
 have HSm:Hid (∀ W,Below w1.heap.size w1 W→∀ u d,ConfW W u d→Calls Tryz.prog 9 #[.agg #[.string ⟨c.suffix.toArray⟩,.string ⟨c.root.toArray⟩,.string ⟨c.secret.toArray⟩,.int .i64 c.size,va,vc,vl,.slice AI c.indexes.length cI,.bool c.memberof,.bool c.audit,vr,vu],u] W fun e w'=>e= .returned (.bool (decide (c=d)))∧Below W.heap.size W w'):=Lib.hid fun W h u d hu=>zkb_ c d _ u W ⟨va,vc,vl,_,vr,vu,rfl,ta.below (hBel W h),tc.below (hBel W h),tl.below (hBel W h),ti.below (hBel W h),tr.below (hBel W h),tu.below (hBel W h)⟩ hu (by omega)
 have HP:Hid (Cfg.printR c=if (Cfg.parseC L12).2.1=0∧(Cfg.parseC L12).1=c then L12 else []):=Lib.hid (by rw[hraw];rfl)
 have HX:=Lib.hid hxI
 have HM:=Lib.hid hm
 have L7p:=Lib.hid hL8
 have hixI:(c.indexes.length:Int)≤4000:=by omega
 have hszI:=hz
 have m0:=hm.suffix
 have m1:=hm.root
 have m2:=hm.secret
 have m3:=Cfg.decX_long c.size hz.1 hz.2
 have q1:L1.length≤5000:=by omega
 have q2:L2.length≤5000:=by omega
 have q3:L3.length≤5000:=by omega
 have q7:L7.length≤4500:=by omega
 have q8:L8.length≤5000:=by omega
 have q9:L9.length≤5000:=by omega
 have HO:Hid (Own w1.heap.size w1 (.slice none 0 0) ([]:List (List UInt8))):=Lib.hid (Own.nil (Nat.le_refl _))
 have HB:Hid (Below w1.heap.size w1 w1):=Lib.hid (Below.refl _ _)
 clear hxI hcI ta tc tl tr tu ti hm hw hL1 hL2 hL3 hL4 hL5 hL6 hL7 hL8 hL9 hL10 hL11 hL12 n1 n2 n3 n4 n5 n6 n7 n8 n9 n10 n11 n12 hc hl b1 kp hBel hraw hlong hz
 obtain⟨p0,p1,p2,p3,p4,p5,p6,p7,p8,p9,p10,p11⟩:=HCL.out _ HB.out
 unfold jw_ za_
 go_enter Tryz.func18,Tryz.ntmps18
 go_upto_if 10 with fail
 rw[← hw1]
 clear hw1
 generalize Value.agg #[.string ⟨c.suffix.toArray⟩,.string ⟨c.root.toArray⟩,.string ⟨c.secret.toArray⟩,.int .i64 c.size,va,vc,vl,.slice AI c.indexes.length cI,.bool c.memberof,.bool c.audit,vr,vu]=v00
 go_cut [3] (fun v3 wx=>∃ n A cc,v3= .slice A n cc∧Aside (Below w1.heap.size w1 wx)∧Aside (Own w1.heap.size wx (.slice A n cc) L1))
 case first=>
  by_cases he:c.suffix=[]
  case pos=>
   have hL:=Lib.hid (E0.out he)
   have hne2:(!c.suffix.isEmpty)=false:=by rw[he];rfl
   clear he
   rw[hne2]
   go_wp2_with fail
   go_meet
   exact⟨_,_,_,rfl,HB.out,by show Own _ _ _ _;rw[hL.out];exact HO.out⟩
  case neg=>
   have hL:=Lib.hid (N0.out he)
   have hne:(c.suffix !=[])=true:=bne_iff_ne.2 he
   have hne2:(!c.suffix.isEmpty)=true:=by cases h:c.suffix with
    |nil=>exact absurd h he
    |cons a l=>rfl
   clear he
   rw[hne2]
   go_wp2_with (at_builtin;refine qh_ (c:=[115,117,102,102,105,120,32]++c.suffix) rfl _ _ rfl rfl HO.out rfl rfl (by first|omega|decide) ?_;intro v5 w5 hO5 hg5;obtain⟨A5,c5,rfl,_⟩:=hO5.isSlice;have HB5:=Lib.hid (Own.belB HB.out HO.out hg5);have HO5:=Lib.hid hO5;clear hO5 hg5)
   go_meet
   exact⟨_,_,_,rfl,HB5.out,by show Own _ _ _ _;rw[hL.out];have q:=HO5.out;rw[List.length_append] at q;exact q⟩
 case rest=>
 obtain⟨na,Aa,ca,rfl,AB,AO⟩:=hcut
 have HB:=Lib.hid AB.out
 have HO:=Lib.hid AO.out
 clear AB AO p0 p1 p2 p3 p4 p5 p6 p7 p8 p9 p10 p11
 obtain⟨p0,p1,p2,p3,p4,p5,p6,p7,p8,p9,p10,p11⟩:=HCL.out _ HB.out
 go_upto_if 19 with fail
 go_cut [3] (fun v3 wx=>∃ n A cc,v3= .slice A n cc∧Aside (Below w1.heap.size w1 wx)∧Aside (Own w1.heap.size wx (.slice A n cc) L2))
 case first=>
  by_cases he:c.root=[]
  case pos=>
   have hL:=Lib.hid (E1.out he)
   have hne2:(!c.root.isEmpty)=false:=by rw[he];rfl
   clear he
   rw[hne2]
   go_wp2_with fail
   go_meet
   exact⟨_,_,_,rfl,HB.out,by show Own _ _ _ _;rw[hL.out];exact HO.out⟩
  case neg=>
   have hL:=Lib.hid (N1.out he)
   have hne:(c.root !=[])=true:=bne_iff_ne.2 he
   have hne2:(!c.root.isEmpty)=true:=by cases h:c.root with
    |nil=>exact absurd h he
    |cons a l=>rfl
   clear he
   rw[hne2]
   go_wp2_with (at_builtin;refine qh_ (c:=[114,111,111,116,32]++c.root) rfl _ _ rfl rfl HO.out rfl rfl (by first|omega|decide) ?_;intro v5 w5 hO5 hg5;obtain⟨A5,c5,rfl,_⟩:=hO5.isSlice;have HB5:=Lib.hid (Own.belB HB.out HO.out hg5);have HO5:=Lib.hid hO5;clear hO5 hg5)
   go_meet
   exact⟨_,_,_,rfl,HB5.out,by show Own _ _ _ _;rw[hL.out];have q:=HO5.out;rw[List.length_append] at q;exact q⟩
 case rest=>
 obtain⟨na,Aa,ca,rfl,AB,AO⟩:=hcut
 have HB:=Lib.hid AB.out
 have HO:=Lib.hid AO.out
 clear AB AO p0 p1 p2 p3 p4 p5 p6 p7 p8 p9 p10 p11
 obtain⟨p0,p1,p2,p3,p4,p5,p6,p7,p8,p9,p10,p11⟩:=HCL.out _ HB.out
 go_upto_if 28 with fail
 go_cut [3] (fun v3 wx=>∃ n A cc,v3= .slice A n cc∧Aside (Below w1.heap.size w1 wx)∧Aside (Own w1.heap.size wx (.slice A n cc) L3))
 case first=>
  by_cases he:c.secret=[]
  case pos=>
   have hL:=Lib.hid (E2.out he)
   have hne2:(!c.secret.isEmpty)=false:=by rw[he];rfl
   clear he
   rw[hne2]
   go_wp2_with fail
   go_meet
   exact⟨_,_,_,rfl,HB.out,by show Own _ _ _ _;rw[hL.out];exact HO.out⟩
  case neg=>
   have hL:=Lib.hid (N2.out he)
   have hne:(c.secret !=[])=true:=bne_iff_ne.2 he
   have hne2:(!c.secret.isEmpty)=true:=by cases h:c.secret with
    |nil=>exact absurd h he
    |cons a l=>rfl
   clear he
   rw[hne2]
   go_wp2_with (at_builtin;refine qh_ (c:=[115,101,99,114,101,116,32]++c.secret) rfl _ _ rfl rfl HO.out rfl rfl (by first|omega|decide) ?_;intro v5 w5 hO5 hg5;obtain⟨A5,c5,rfl,_⟩:=hO5.isSlice;have HB5:=Lib.hid (Own.belB HB.out HO.out hg5);have HO5:=Lib.hid hO5;clear hO5 hg5)
   go_meet
   exact⟨_,_,_,rfl,HB5.out,by show Own _ _ _ _;rw[hL.out];have q:=HO5.out;rw[List.length_append] at q;exact q⟩
 case rest=>
 obtain⟨na,Aa,ca,rfl,AB,AO⟩:=hcut
 have HB:=Lib.hid AB.out
 have HO:=Lib.hid AO.out
 clear AB AO p0 p1 p2 p3 p4 p5 p6 p7 p8 p9 p10 p11
 obtain⟨p0,p1,p2,p3,p4,p5,p6,p7,p8,p9,p10,p11⟩:=HCL.out _ HB.out
 go_upto_if 37 with fail
 go_cut [3] (fun v3 wx=>∃ n A cc,v3= .slice A n cc∧Aside (Below w1.heap.size w1 wx)∧Aside (Own w1.heap.size wx (.slice A n cc) L4))
 case first=>
  by_cases hz0:c.size=0
  case pos=>
   have hzb:(c.size !=0)=false:=by rw[hz0];rfl
   have hL:=Lib.hid (E3.out hz0)
   clear hz0
   rw[hzb]
   go_wp2_with fail
   go_meet
   exact⟨_,_,_,rfl,HB.out,by show Own _ _ _ _;rw[hL.out];exact HO.out⟩
  case neg=>
   have hzb:(c.size !=0)=true:=bne_iff_ne.2 hz0
   have hL:=Lib.hid (N3.out hz0)
   clear hz0
   rw[hzb]
   go_wp2_with (first
    |(go_at_call 36;(with_reducible refine(HDe.out _ HB.out).mono ?_);rintro e w4 ⟨rfl,hb,hb4⟩;have HO:=Lib.hid (HO.out.below hb4);have HB:=Lib.hid hb;clear hb hb4)
    |(at_builtin;refine qh_ (c:=[115,105,122,101,32]++Cfg.decX c.size) rfl _ _ rfl rfl HO.out rfl rfl (by first|omega|decide) ?_;intro v5 w5 hO5 hg5;obtain⟨A5,c5,rfl,_⟩:=hO5.isSlice;have HB5:=Lib.hid (Own.belB HB.out HO.out hg5);have HO5:=Lib.hid hO5;clear hO5 hg5))
   go_meet
   exact⟨_,_,_,rfl,HB5.out,by show Own _ _ _ _;rw[hL.out];have q:=HO5.out;rw[List.length_append] at q;exact q⟩
 case rest=>
 obtain⟨na,Aa,ca,rfl,AB,AO⟩:=hcut
 have HB:=Lib.hid AB.out
 have HO:=Lib.hid AO.out
 clear AB AO p0 p1 p2 p3 p4 p5 p6 p7 p8 p9 p10 p11
 obtain⟨p0,p1,p2,p3,p4,p5,p6,p7,p8,p9,p10,p11⟩:=HCL.out _ HB.out
 clear E0 E1 E2 E3 N0 N1 N2 N3 HDe
 go_upto_region 10 with fail
 go_cut [3] (fun v3 wx=>∃ n A cc,v3= .slice A n cc∧Aside (Below w1.heap.size w1 wx)∧Aside (Own w1.heap.size wx (.slice A n cc) L7))
 case first=>
  have HS:Hid (∀ W,Below w1.heap.size w1 W→W.cell? ⟨w.heap.size,4,none⟩=some (va)∧W.cell? ⟨w.heap.size,5,none⟩=some (vc)∧W.cell? ⟨w.heap.size,6,none⟩=some (vl)):=Lib.hid fun W h=>by obtain⟨p0,p1,p2,p3,p4,p5,p6,p7,p8,p9,p10,p11⟩:=HCL.out W h;exact⟨p4,p5,p6⟩
  have HB0:=Lib.hid HB.out.drew
  have HO0:=Lib.hid (HO.out.below (Below.refl _ _).drew)
  clear HO p0 p1 p2 p3 p4 p5 p6 p7 p8 p9 p10 p11
  go_region_held3 (fun W=>W.cell? ⟨w.heap.size,4,none⟩=some (va)∧W.cell? ⟨w.heap.size,5,none⟩=some (vc)∧W.cell? ⟨w.heap.size,6,none⟩=some (vl)) (first|(with_reducible exact HS.out _ HB0.out)|(with_reducible exact HS.out _ HB1.out)|(with_reducible exact HS.out _ HB2.out)|(with_reducible exact HS.out _ HB3.out)) (first
   |(go_at_call 37;(with_reducible refine(H4.out _ _ _ _ HB0.out HO0.out).mono ?_);rintro e w5 ⟨hb,n5,A5,c5,rfl,hO⟩;have HB1:=Lib.hid hb;have HO1:=Lib.hid hO;clear hb hO)
   |(go_at_call 37;(with_reducible refine(H5.out _ _ _ _ HB1.out HO1.out).mono ?_);rintro e w6 ⟨hb,n6,A6,c6,rfl,hO⟩;have HB2:=Lib.hid hb;have HO2:=Lib.hid hO;clear hb hO)
   |(go_at_call 37;(with_reducible refine(H6.out _ _ _ _ HB2.out HO2.out).mono ?_);rintro e w7 ⟨hb,n7,A7,c7,rfl,hO⟩;have HB3:=Lib.hid hb;have HO3:=Lib.hid hO;clear hb hO)
   |fail)
  all_goals
   have HB:=HB3
   have HO:=HO3
   go_wp2_with fail
   go_meet
   exact⟨_,_,_,rfl,HB.out,HO.out⟩
 case rest=>
 obtain⟨na,Aa,ca,rfl,AB,AO⟩:=hcut
 have HB:=Lib.hid AB.out
 have HO:=Lib.hid AO.out
 clear AB AO p0 p1 p2 p3 p4 p5 p6 p7 p8 p9 p10 p11
 obtain⟨p0,p1,p2,p3,p4,p5,p6,p7,p8,p9,p10,p11⟩:=HCL.out _ HB.out
 clear H4 H5 H6
 go_wp2_with fail
 go_loopg [3,4] c.indexes.length (fun gk s i wr=>∃ (k n:Nat) (A:Option Addr) (cc:Nat),k≤c.indexes.length∧i= .int .i64 (k:Int)∧s= .slice A n cc∧Aside (k+gk=c.indexes.length)∧Aside (Below w1.heap.size w1 wr)∧Aside (Own w1.heap.size wr (.slice A n cc) (L7++(c.indexes.take k).map Cfg.indexR)))
 case atStart=>exact⟨0,_,_,_,Nat.zero_le _,rfl,rfl,by show _=_;omega,HB.out,by show Own _ _ _ _;simpa using HO.out⟩
 case round=>
  clear p0 p1 p2 p3 p4 p5 p6 p7 p8 p9 p10 p11 HO HB
  obtain⟨k,nk,Ak,ck,hk,rfl,rfl,AG,AB,AO⟩:=hrel
  have HB:=Lib.hid AB.out
  have HO:=Lib.hid AO.out
  clear AB AO
  obtain⟨p0,p1,p2,p3,p4,p5,p6,p7,p8,p9,p10,p11⟩:=HCL.out _ HB.out
  by_cases hlt:k<c.indexes.length
  case pos=>
   obtain⟨q,rfl⟩:∃ q,gk=q+1:=⟨gk - 1,by have:=AG.out;omega⟩
   obtain⟨b,o,rfl,d0,d1,d2,d3⟩:=HX.out k hlt
   have hki:(k:Int)<(c.indexes.length:Int):=by omega
   have HSx:Hid (∀ W,Below w1.heap.size w1 W→W.cell? ⟨w.heap.size,7,none⟩=some (.slice (some ⟨b,o,none⟩) c.indexes.length cI)∧W.cell? ⟨b,o+k * 4,none⟩=some (.string ⟨c.indexes[k].typ.toArray⟩)∧W.cell? ⟨b,o+k * 4+1,none⟩=some (.bool c.indexes[k].eq)∧W.cell? ⟨b,o+k * 4+2,none⟩=some (.bool c.indexes[k].pres)∧W.cell? ⟨b,o+k * 4+3,none⟩=some (.bool c.indexes[k].sub)):=Lib.hid fun W h=>by
    obtain⟨p0,p1,p2,p3,p4,p5,p6,p7,p8,p9,p10,p11⟩:=HCL.out W h
    have hb:=HBe.out W h
    exact⟨p7,(hb.cell (z9_ d0)).trans d0,(hb.cell (z9_ d1)).trans d1,(hb.cell (z9_ d2)).trans d2,(hb.cell (z9_ d3)).trans d3⟩
   have hx:=HM.out.indexes _ (List.getElem_mem hlt)
   have HKi:Hid (∀ W,Below w1.heap.size w1 W→Calls Tryz.prog 38 #[.agg #[.string ⟨c.indexes[k].typ.toArray⟩,.bool c.indexes[k].eq,.bool c.indexes[k].pres,.bool c.indexes[k].sub]] W fun e w'=>e= .returned (.string ⟨(Lib.join (Cfg.kindsI c.indexes[k]) [44]).toArray⟩)∧Below w1.heap.size w1 w'∧Below W.heap.size W w'):=Lib.hid fun W h=>(zkw_ c.indexes[k] W).mono (by rintro e w' ⟨h1,h2⟩;exact⟨h1,h.trans (h2.mono h.size),h2⟩)
   have hjl:=Cfg.kindsI_join c.indexes[k]
   have HSN:Hid (L7++(c.indexes.take (k+1)).map Cfg.indexR=(L7++(c.indexes.take k).map Cfg.indexR)++[(([105,110,100,101,120,32]++c.indexes[k].typ)++[32])++Lib.join (Cfg.kindsI c.indexes[k]) [44]]):=Lib.hid (by
    rw[List.take_succ_eq_append_getElem hlt,List.map_append,List.append_assoc,List.map_singleton]
    congr 2
    simp [Cfg.indexR,Cfg.wIndex])
   have HLn:Hid ((L7++(c.indexes.take k).map Cfg.indexR).length≤9000):=Lib.hid (by rw[List.length_append,List.length_map,List.length_take];omega)
   clear d0 d1 d2 d3 p0 p1 p2 p3 p4 p5 p6 p7 p8 p9 p10 p11
   generalize L7++(c.indexes.take k).map Cfg.indexR=L at *
   generalize Lib.join (Cfg.kindsI c.indexes[k]) [44]=kj at *
   generalize c.indexes[k].typ=ty at *
   generalize c.indexes[k].eq=fe at *
   generalize c.indexes[k].pres=fp at *
   generalize c.indexes[k].sub=fs at *
   obtain⟨t1,ht1⟩:∃ t1,t1=[105,110,100,101,120,32]++ty:=⟨_,rfl⟩
   obtain⟨t2,ht2⟩:∃ t2,t2=t1++[32]:=⟨_,rfl⟩
   obtain⟨t3,ht3⟩:∃ t3,t3=t2++kj:=⟨_,rfl⟩
   have l1:t1.length≤2000010:=by rw[ht1,List.length_append];simp;omega
   have l2:t2.length≤2000020:=by rw[ht2,List.length_append];simp;omega
   rw[← ht1,← ht2,← ht3] at HSN
   have cat1:∀ W,(Op.stringOp .add ⟨#[105,110,100,101,120,32]⟩ ⟨ty.toArray⟩).run Tryz.prog W= .ok (.string ⟨t1.toArray⟩) W:=fun W=>by rw[ht1];exact run_string_add_lists (P:=Tryz.prog) W [105,110,100,101,120,32] ty (by simp) (by omega)
   have cat2:∀ W,(Op.stringOp .add ⟨t1.toArray⟩ ⟨#[32]⟩).run Tryz.prog W= .ok (.string ⟨t2.toArray⟩) W:=fun W=>by rw[ht2];exact run_string_add_lists (P:=Tryz.prog) W t1 [32] (by omega) (by simp)
   have cat3:∀ W,(Op.stringOp .add ⟨t2.toArray⟩ ⟨kj.toArray⟩).run Tryz.prog W= .ok (.string ⟨t3.toArray⟩) W:=fun W=>by rw[ht3];exact run_string_add_lists (P:=Tryz.prog) W t2 kj (by omega) (by omega)
   have HL9:=HLn.out
   have HB0:=Lib.hid HB.out.drew
   have HO0:=Lib.hid (HO.out.below (Below.refl _ _).drew)
   clear ht1 ht2 ht3 HO HLn
   have p7:=(HSx.out _ HB.out).1
   go_wp2_with fail
   clear p7
   go_region_held3 (fun W=>W.cell? ⟨w.heap.size,7,none⟩=some (.slice (some ⟨b,o,none⟩) c.indexes.length cI)∧W.cell? ⟨b,o+k * 4,none⟩=some (.string ⟨ty.toArray⟩)∧W.cell? ⟨b,o+k * 4+1,none⟩=some (.bool fe)∧W.cell? ⟨b,o+k * 4+2,none⟩=some (.bool fp)∧W.cell? ⟨b,o+k * 4+3,none⟩=some (.bool fs)) (first|(with_reducible exact HSx.out _ HB0.out)|(with_reducible exact HSx.out _ HB1.out)|(with_reducible exact HSx.out _ HB2.out)|(with_reducible exact HSx.out _ (HB1.out.alloc HB1.out.size _))) (first
    |(go_at_call 38;(with_reducible refine(HKi.out _ HB0.out).mono ?_);rintro e w5 ⟨rfl,hb,hb5⟩;have HB1:=Lib.hid hb;have HO1:=Lib.hid (HO0.out.below hb5);clear hb hb5)
    |(refine z5f_ (c:=t3) (by rfl) _ _ (by rfl) rfl HO1.out rfl rfl (by omega) ?_;intro v6 w6 hO6 hg6;obtain⟨A6,c6,rfl,_⟩:=hO6.isSlice;have HB2:=Lib.hid (Own.belB HB1.out HO1.out hg6);have HO2:=Lib.hid hO6;clear hO6 hg6)
    |fail)
   all_goals
    go_wp2_with fail
    go_roundg q
    case measure=>omega
    case rel=>exact⟨k+1,_,A6,c6,by omega,by go_num,rfl,by have:=AG.out;show _=_;omega,HB2.out,by show Own _ _ _ _;rw[HSN.out];have q:=HO2.out;rw[List.length_append] at q;exact q⟩
  case neg=>
  obtain rfl:k=c.indexes.length:=by omega
  have HO8:Hid (Own w1.heap.size wr (.slice Ak nk ck) L8):=Lib.hid (by have:=HO.out;rwa [List.take_length,← L7p.out] at this)
  have HO:=HO8
  have hki:¬ ((c.indexes.length:Int)<(c.indexes.length:Int)):=by omega
  clear HO8 HX HM L7p
  go_upto_if 81 with fail
  go_cut [3] (fun v3 wx=>∃ n A cc,v3= .slice A n cc∧Aside (Below w1.heap.size w1 wx)∧Aside (Own w1.heap.size wx (.slice A n cc) L9))
  case first=>
   cases hf:c.memberof
   case false=>
    have hL:=Lib.hid (E8.out hf)
    rw[hf] at p8
    clear hf
    go_wp2_with fail
    go_meet
    exact⟨_,_,_,rfl,HB.out,by show Own _ _ _ _;rw[hL.out];exact HO.out⟩
   case true=>
    have hL:=Lib.hid (N8.out hf)
    rw[hf] at p8
    clear hf
    go_wp2_with (at_builtin;refine qh_ (c:=[109,101,109,98,101,114,111,102,32,111,110]) rfl _ _ rfl rfl HO.out rfl rfl (by first|omega|decide) ?_;intro v5 w5 hO5 hg5;obtain⟨A5,c5,rfl,_⟩:=hO5.isSlice;have HB5:=Lib.hid (Own.belB HB.out HO.out hg5);have HO5:=Lib.hid hO5;clear hO5 hg5)
    go_meet
    exact⟨_,_,_,rfl,HB5.out,by show Own _ _ _ _;rw[hL.out];have q:=HO5.out;rw[List.length_append] at q;exact q⟩
  case rest=>
  obtain⟨na,Aa,ca,rfl,AB,AO⟩:=hcut
  have HB:=Lib.hid AB.out
  have HO:=Lib.hid AO.out
  clear AB AO p0 p1 p2 p3 p4 p5 p6 p7 p8 p9 p10 p11
  obtain⟨p0,p1,p2,p3,p4,p5,p6,p7,p8,p9,p10,p11⟩:=HCL.out _ HB.out
  go_upto_if 86 with fail
  go_cut [3] (fun v3 wx=>∃ n A cc,v3= .slice A n cc∧Aside (Below w1.heap.size w1 wx)∧Aside (Own w1.heap.size wx (.slice A n cc) L10))
  case first=>
   cases hf:c.audit
   case false=>
    have hL:=Lib.hid (E9.out hf)
    rw[hf] at p9
    clear hf
    go_wp2_with fail
    go_meet
    exact⟨_,_,_,rfl,HB.out,by show Own _ _ _ _;rw[hL.out];exact HO.out⟩
   case true=>
    have hL:=Lib.hid (N9.out hf)
    rw[hf] at p9
    clear hf
    go_wp2_with (at_builtin;refine qh_ (c:=[97,117,100,105,116,32,111,110]) rfl _ _ rfl rfl HO.out rfl rfl (by first|omega|decide) ?_;intro v5 w5 hO5 hg5;obtain⟨A5,c5,rfl,_⟩:=hO5.isSlice;have HB5:=Lib.hid (Own.belB HB.out HO.out hg5);have HO5:=Lib.hid hO5;clear hO5 hg5)
    go_meet
    exact⟨_,_,_,rfl,HB5.out,by show Own _ _ _ _;rw[hL.out];have q:=HO5.out;rw[List.length_append] at q;exact q⟩
  case rest=>
  obtain⟨na,Aa,ca,rfl,AB,AO⟩:=hcut
  have HB:=Lib.hid AB.out
  have HO:=Lib.hid AO.out
  clear AB AO p0 p1 p2 p3 p4 p5 p6 p7 p8 p9 p10 p11
  obtain⟨p0,p1,p2,p3,p4,p5,p6,p7,p8,p9,p10,p11⟩:=HCL.out _ HB.out
  clear E8 E9 N8 N9
  go_upto_region 19 with fail
  go_cut [3] (fun v3 wx=>∃ n A cc,v3= .slice A n cc∧Aside (Below w1.heap.size w1 wx)∧Aside (Own w1.heap.size wx (.slice A n cc) L12))
  case first=>
   have HS:Hid (∀ W,Below w1.heap.size w1 W→W.cell? ⟨w.heap.size,10,none⟩=some (vr)∧W.cell? ⟨w.heap.size,11,none⟩=some (vu)):=Lib.hid fun W h=>by obtain⟨p0,p1,p2,p3,p4,p5,p6,p7,p8,p9,p10,p11⟩:=HCL.out W h;exact⟨p10,p11⟩
   have HB0:=Lib.hid HB.out.drew
   have HO0:=Lib.hid (HO.out.below (Below.refl _ _).drew)
   clear HO p0 p1 p2 p3 p4 p5 p6 p7 p8 p9 p10 p11
   go_region_held3 (fun W=>W.cell? ⟨w.heap.size,10,none⟩=some (vr)∧W.cell? ⟨w.heap.size,11,none⟩=some (vu)) (first|(with_reducible exact HS.out _ HB0.out)|(with_reducible exact HS.out _ HB1.out)|(with_reducible exact HS.out _ HB2.out)) (first
    |(go_at_call 37;(with_reducible refine(H10.out _ _ _ _ HB0.out HO0.out).mono ?_);rintro e w5 ⟨hb,n5,A5,c5,rfl,hO⟩;have HB1:=Lib.hid hb;have HO1:=Lib.hid hO;clear hb hO)
    |(go_at_call 37;(with_reducible refine(H11.out _ _ _ _ HB1.out HO1.out).mono ?_);rintro e w6 ⟨hb,n6,A6,c6,rfl,hO⟩;have HB2:=Lib.hid hb;have HO2:=Lib.hid hO;clear hb hO)
    |fail)
   all_goals
    have HB:=HB2
    have HO:=HO2
    go_wp2_with fail
    go_meet
    exact⟨_,_,_,rfl,HB.out,HO.out⟩
  case rest=>
  obtain⟨na,Aa,ca,rfl,AB,AO⟩:=hcut
  have HB:=Lib.hid AB.out
  have HO:=Lib.hid AO.out
  clear AB AO p0 p1 p2 p3 p4 p5 p6 p7 p8 p9 p10 p11
  obtain⟨p0,p1,p2,p3,p4,p5,p6,p7,p8,p9,p10,p11⟩:=HCL.out _ HB.out
  clear H10 H11 p0 p1 p2 p3 p4 p5 p6 p7 p8 p9 p10 p11
  have hTx:=zp_ HO.out.texts
  obtain⟨d,cd,at1,hR⟩:∃ d cd a,Cfg.parseC L12=(d,cd,a):=⟨_,_,_,rfl⟩
  have HPp:=Lib.hid (HPa.out _ HB.out _ hTx)
  rw[hR] at HPp HP
  simp only at HP
  unfold z63_ at HPp
  have HT:=Lib.hid hTx
  clear hR HPa hTx HO
  go_upto_region 21 with (go_at_call 39;(with_reducible refine HPp.out.mono ?_);rintro e w6 ⟨hb6,ea,nae,cae,ec,nce,cce,el,nle,cle,ei,nie,cie,er,nre,cre,eu,nue,cue,rfl,t1,t2,t3,t4,t5,t6⟩)
  have bx:=zs_ w6 (.cells #[.string ⟨d.suffix.toArray⟩,.string ⟨d.root.toArray⟩,.string ⟨d.secret.toArray⟩,.int .i64 d.size,.slice ea nae cae,.slice ec nce cce,.slice el nle cle,.slice ei nie cie,.bool d.memberof,.bool d.audit,.slice er nre cre,.slice eu nue cue] 25)
  have k7:=Bk.new w6 25 #[.string ⟨d.suffix.toArray⟩,.string ⟨d.root.toArray⟩,.string ⟨d.secret.toArray⟩,.int .i64 d.size,.slice ea nae cae,.slice ec nce cce,.slice el nle cle,.slice ei nie cie,.bool d.memberof,.bool d.audit,.slice er nre cre,.slice eu nue cue]
  have hB7:=hb6.trans (bx.mono hb6.size)
  have HB7:=Lib.hid (HB.out.trans (hB7.mono HB.out.size))
  have HSame:=Lib.hid (HSm.out _ HB7.out (.agg #[.string ⟨d.suffix.toArray⟩,.string ⟨d.root.toArray⟩,.string ⟨d.secret.toArray⟩,.int .i64 d.size,.slice ea nae cae,.slice ec nce cce,.slice el nle cle,.slice ei nie cie,.bool d.memberof,.bool d.audit,.slice er nre cre,.slice eu nue cue]) d ⟨_,_,_,_,_,_,rfl,(zp_ t1).below bx,(zp_ t2).below bx,(zp_ t3).below bx,t4.w.below bx,(zp_ t5).below bx,(zp_ t6).below bx⟩)
  have HT7:=Lib.hid (HT.out.below hB7)
  have HBw:=Lib.hid (HBe.out _ HB7.out)
  clear t1 t2 t3 t4 t5 t6 hb6 bx hB7 HT HPp HB HSm
  generalize w6.alloc (.cells #[.string ⟨d.suffix.toArray⟩,.string ⟨d.root.toArray⟩,.string ⟨d.secret.toArray⟩,.int .i64 d.size,.slice ea nae cae,.slice ec nce cce,.slice el nle cle,.slice ei nie cie,.bool d.memberof,.bool d.audit,.slice er nre cre,.slice eu nue cue] 25)=w7 at *
  generalize w6.heap.size=bd at *
  by_cases hc0:cd=0
  case neg=>
   have hcb:(cd !=0)=true:=bne_iff_ne.2 hc0
   have hPn:Hid (Cfg.printR c=[]):=Lib.hid (by rw[HP.out];exact if_neg (fun h=>hc0 h.1))
   clear hc0 HSame
   go_wp2_with fail
   go_ret
   exact⟨HBw.out,_,rfl,by rw[hPn.out];exact .inl ⟨rfl,rfl⟩⟩
  case pos=>
  subst hc0
  obtain⟨p0,p1,p2,p3,p4,p5,p6,p7,p8,p9,p10,p11⟩:=HCL.out _ HB7.out
  obtain⟨_,q0,q1,q2,q3,q4,q5,q6,q7,q8,q9,q10,q11⟩:=z72_ k7
  clear k7 HCL
  by_cases hdc:c=d
  case neg=>
   rw[decide_eq_false hdc] at HSame
   have hPn:Hid (Cfg.printR c=[]):=Lib.hid (by rw[HP.out];exact if_neg (fun h=>hdc h.2.symm))
   clear hdc
   go_wp2_with (go_at_call 9;(with_reducible refine HSame.out.mono ?_);rintro e w8 ⟨rfl,hb⟩;have HB8:=Lib.hid (HBw.out.trans (hb.mono HBw.out.size));clear hb)
   go_ret
   exact⟨HB8.out,_,rfl,by rw[hPn.out];exact .inl ⟨rfl,rfl⟩⟩
  case pos=>
   rw[decide_eq_true hdc] at HSame
   have hPn:Hid (Cfg.printR c=L12):=Lib.hid (by rw[HP.out];exact if_pos ⟨rfl,hdc.symm⟩)
   clear hdc
   go_wp2_with (go_at_call 9;(with_reducible refine HSame.out.mono ?_);rintro e w8 ⟨rfl,hb⟩;have HB8:=Lib.hid (HBw.out.trans (hb.mono HBw.out.size));have HT8:=Lib.hid (HT7.out.below hb);clear hb)
   go_ret
   exact⟨HB8.out,_,rfl,by rw[hPn.out];exact HT8.out⟩
end Go.Proofs.YtakfpngfpknedaaGreatDoor
