import Derived.Test.YtakfpngfpknedaaGreatDoorC12
set_option linter.all false
set_option maxHeartbeats 8000000
set_option maxRecDepth 100000
namespace Go.Proofs.YtakfpngfpknedaaGreatDoor.Cfg
structure Lim (m:Nat) (c:ConfE):Prop where
 suffix:c.suffix.length≤m
 root:c.root.length≤m
 secret:c.secret.length≤m
 attrs:∀ a∈c.attrs,a.length≤m
 classes:∀ a∈c.classes,a.length≤m
 acls:∀ a∈c.acls,a.length≤m
 indexes:∀ x∈c.indexes,x.typ.length≤m
 refs:∀ a∈c.refs,a.length≤m
 unique:∀ a∈c.unique,a.length≤m
theorem Lim.mono {m n:Nat} {c:ConfE} (h:Lim m c) (hm:m≤n):Lim n c:=
 ⟨nT h.suffix hm,nT h.root hm,nT h.secret hm,fun a ha=>nT (h.attrs a ha) hm,fun a ha=>nT (h.classes a ha) hm,fun a ha=>nT (h.acls a ha) hm,fun a ha=>nT (h.indexes a ha) hm,fun a ha=>nT (h.refs a ha) hm,fun a ha=>nT (h.unique a ha) hm⟩
def countE (c:ConfE):Nat:=c.attrs.length+c.classes.length+c.acls.length+c.refs.length+c.unique.length+c.indexes.length
theorem lines_le (w:LU):∀ l:LL,(lines w l).length≤l.length
 |[]=>nR _
 |a::l=>by
  have h1:=line_le w a
  have h2:=lines_le w l
  show (line w a++lines w l).length≤_
  rw[List.length_append,List.length_cons]
  omega
theorem rawP_count (c:ConfE):(rawP c).length≤countE c+6:=by
 have h1:=line_le wSuffix c.suffix
 have h2:=line_le wRoot c.root
 have h3:=line_le wSecret c.secret
 have h4:=sizeL_le c.size
 have h5:=lines_le wAttr c.attrs
 have h6:=lines_le wClass c.classes
 have h7:=lines_le wAcl c.acls
 have h8:=lines_le wIndex (c.indexes.map textI)
 have h9:=onL_le wMember c.memberof
 have h10:=onL_le wAudit c.audit
 have h11:=lines_le wRef c.refs
 have h12:=lines_le wUnique c.unique
 rw[List.length_map] at h8
 unfold rawP countE
 simp only[List.length_append]
 omega
theorem line_long {w a s:LU} (h:s∈line w a):s.length≤w.length+a.length+1:=by
 unfold line at h
 split at h
 ·cases h
 ·rw[List.mem_singleton.1 h,List.length_append,List.length_cons]
  omega
theorem lines_long {w s:LU} {m:Nat} {l:LL} (hl:∀ a∈l,a.length≤m) (h:s∈lines w l):s.length≤w.length+m+1:=by
 obtain⟨a,ha,hs⟩:=List.mem_flatMap.1 h
 have:=line_long hs
 have:=hl a ha
 omega
theorem textI_long (x:IndexE):(textI x).length≤x.typ.length+21:=by
 unfold textI
 split
 ·simp
 ·have:=kindsI_join x
  rw[List.length_append,List.length_cons]
  omega
theorem nDigits_ten:∀ (k u:Nat),u<10 ^ k→(Lib.decDigits u).length≤k+1
 |0,u,h=>by
  have h1:u<1:=h
  rw[Lib.decDigits_length,Lib.nDigits_small (by omega)]
  exact nR _
 |k+1,u,h=>by
  rw[Lib.decDigits_length]
  by_cases hu:u<10
  ·rw[Lib.nDigits_small hu];omega
  ·rw[Lib.nDigits_big hu]
   have:=nDigits_ten k (u / 10) (by rw[Nat.pow_succ] at h;omega)
   rw[Lib.decDigits_length] at this
   omega
theorem itoa_long (n:Int) (h0: -9223372036854775808≤n) (h1:n≤9223372036854775807):(Lib.itoa n).length≤22:=by
 have hp:(10:Nat) ^ 20=100000000000000000000:=by decide
 unfold Lib.itoa
 split
 ·have:=nDigits_ten 20 n.natAbs (by omega)
  simp only[List.length_cons]
  omega
 ·have:=nDigits_ten 20 n.toNat (by omega)
  omega
theorem onL_long {w s:LU} {b:Bool} (h:s∈onL w b):s.length≤w.length+3:=by
 unfold onL at h
 split at h
 ·have:=line_long h
  have e:onB.length=2:=rfl
  omega
 ·cases h
theorem rawP_long {m:Nat} {c:ConfE} (hc:Lim m c) (h0: -9223372036854775808≤c.size) (h1:c.size≤9223372036854775807):∀ s∈rawP c,s.length≤m+40:=by
 intro s hs
 unfold rawP at hs
 simp only[List.mem_append] at hs
 have b:∀ w∈[wSuffix,wRoot,wSecret,wSize,wAttr,wClass,wAcl,wIndex,wMember,wAudit,wRef,wUnique],w.length≤8:=by decide
 rcases hs with h|h|h|h|h|h|h|h|h|h|h|h
 ·have:=line_long h;have:=hc.suffix;have:=b wSuffix (by decide);omega
 ·have:=line_long h;have:=hc.root;have:=b wRoot (by decide);omega
 ·have:=line_long h;have:=hc.secret;have:=b wSecret (by decide);omega
 ·unfold sizeL at h
  split at h
  ·cases h
  ·have:=line_long h;have:=itoa_long c.size h0 h1;have:=b wSize (by decide);omega
 ·have:=lines_long hc.attrs h;have:=b wAttr (by decide);omega
 ·have:=lines_long hc.classes h;have:=b wClass (by decide);omega
 ·have:=lines_long hc.acls h;have:=b wAcl (by decide);omega
 ·have:=lines_long (m:=m+21) (fun a ha=>by
   obtain⟨x,hx,rfl⟩:=List.mem_map.1 ha
   have:=textI_long x
   have:=hc.indexes x hx
   omega) h
  have:=b wIndex (by decide)
  omega
 ·have:=onL_long h;have:=b wMember (by decide);omega
 ·have:=onL_long h;have:=b wAudit (by decide);omega
 ·have:=lines_long hc.refs h;have:=b wRef (by decide);omega
 ·have:=lines_long hc.unique h;have:=b wUnique (by decide);omega
theorem printC_long {m:Nat} {c:ConfE} (hc:Lim m c) (h0: -9223372036854775808≤c.size) (h1:c.size≤9223372036854775807):∀ s∈printC c,s.length≤m+40:=by
 unfold printC
 split
 ·exact rawP_long hc h0 h1
 ·intro s hs;cases hs
/-! What settings say is no longer than they. -/
theorem argS_le (s:LU):(argS s).length≤s.length:=by
 unfold argS
 have h1:=List.length_drop (i:=1) (l:=s.dropWhile (· !=32))
 have h2:(s.dropWhile (· !=32)).length≤s.length:=(List.dropWhile_sublist _).length_le
 omega
theorem nameS_le (s:LU):(nameS s).length≤s.length:=(List.takeWhile_sublist _).length_le
theorem step_typ (l:LL):∀ x:IndexE,(l.foldl stepI x).typ=x.typ:=by
 induction l with
 |nil=>intro x;rfl
 |cons k l ih=>
  intro x
  rw[List.foldl_cons,ih]
  unfold stepI
  split
  ·rfl
  ·split
   ·rfl
   ·split<;>rfl
theorem indexS_typ (s:LU):(indexS s).1.typ=nameS s:=by
 unfold indexS indexI
 exact step_typ _ _
theorem lim_take (k:Kind) (a:LU) (c:ConfE) (m:Nat) (h:Lim m c) (ha:a.length≤m):Lim m (takeK k a c).1:=by
 have snoc:∀ {l:LL},(∀ y∈l,y.length≤m)→∀ y∈l++[a],y.length≤m:=fun h1 y hy=>by
  rcases List.mem_append.1 hy with hy|hy
  ·exact h1 y hy
  ·rw[List.mem_singleton.1 hy];exact ha
 cases k<;>simp only[takeK]
 ·exact⟨ha,h.root,h.secret,h.attrs,h.classes,h.acls,h.indexes,h.refs,h.unique⟩
 ·exact⟨h.suffix,ha,h.secret,h.attrs,h.classes,h.acls,h.indexes,h.refs,h.unique⟩
 ·exact⟨h.suffix,h.root,ha,h.attrs,h.classes,h.acls,h.indexes,h.refs,h.unique⟩
 ·exact⟨h.suffix,h.root,h.secret,h.attrs,h.classes,h.acls,h.indexes,h.refs,h.unique⟩
 ·exact⟨h.suffix,h.root,h.secret,snoc h.attrs,h.classes,h.acls,h.indexes,h.refs,h.unique⟩
 ·exact⟨h.suffix,h.root,h.secret,h.attrs,snoc h.classes,h.acls,h.indexes,h.refs,h.unique⟩
 ·exact⟨h.suffix,h.root,h.secret,h.attrs,h.classes,snoc h.acls,h.indexes,h.refs,h.unique⟩
 ·refine⟨h.suffix,h.root,h.secret,h.attrs,h.classes,h.acls,fun y hy=>?_,h.refs,h.unique⟩
  rcases List.mem_append.1 hy with hy|hy
  ·exact h.indexes y hy
  ·rw[List.mem_singleton.1 hy,indexS_typ]
   have:=nameS_le a
   omega
 ·exact⟨h.suffix,h.root,h.secret,h.attrs,h.classes,h.acls,h.indexes,h.refs,h.unique⟩
 ·exact⟨h.suffix,h.root,h.secret,h.attrs,h.classes,h.acls,h.indexes,h.refs,h.unique⟩
 ·exact⟨h.suffix,h.root,h.secret,h.attrs,h.classes,h.acls,h.indexes,snoc h.refs,h.unique⟩
 ·exact⟨h.suffix,h.root,h.secret,h.attrs,h.classes,h.acls,h.indexes,h.refs,snoc h.unique⟩
theorem count_take (k:Kind) (a:LU) (c:ConfE):countE (takeK k a c).1≤countE c+1:=by
 cases k<;>simp only[takeK,countE,List.length_append,List.length_cons,List.length_nil]<;>omega
theorem lim_zero (m:Nat):Lim m zeroC:=⟨Nat.zero_le _,Nat.zero_le _,Nat.zero_le _,fun a h=>(by cases h),fun a h=>(by cases h),fun a h=>(by cases h),fun a h=>(by cases h),fun a h=>(by cases h),fun a h=>(by cases h)⟩
theorem size_take (k:Kind) (a:LU) (c:ConfE) (h:0≤c.size∧c.size≤2147483647) (hok:(takeK k a c).2=true):0≤(takeK k a c).1.size∧(takeK k a c).1.size≤2147483647:=by
 cases k<;>simp only[takeK] at hok ⊢
 case size=>exact numS_range a hok
 all_goals exact h
theorem lim_go (m:Nat):∀ (l:LL) (i:Nat) (c:ConfE) (seen:LL) (tw:Int),(∀ s∈l,s.length≤m)→Lim m c→0≤c.size∧c.size≤2147483647→
  Lim m (goC l i c seen tw).1∧countE (goC l i c seen tw).1≤countE c+l.length∧0≤(goC l i c seen tw).1.size∧(goC l i c seen tw).1.size≤2147483647
 |[],i,c,seen,tw,_,h,hz=>by
  unfold goC
  split
  ·exact⟨lim_zero m,Nat.zero_le _,Int.le_refl _,by show (0:Int)≤_;omega⟩
  ·exact⟨h,nR _,hz⟩
 |v::l,i,c,seen,tw,hl,h,hz=>by
  unfold goC
  have zero:Lim m zeroC∧countE zeroC≤countE c+(v::l).length∧0≤zeroC.size∧zeroC.size≤2147483647:=⟨lim_zero m,Nat.zero_le _,Int.le_refl _,by show (0:Int)≤_;omega⟩
  split
  ·exact zero
  ·next k _=>
   split
   ·exact zero
   ·split
    ·next hok=>
     have hv:=hl v (List.mem_cons_self ..)
     have ha:=argS_le v
     have hc:=count_take k (argS v) c
     obtain⟨h1,h2,h3⟩:=lim_go m l (i+1) _ (nameS v::seen) (if seen.contains (nameS v) && onceK k && decide (tw<0) then (i:Int) else tw) (fun s hs=>hl s (List.mem_cons_of_mem _ hs)) (lim_take k (argS v) c m h (by omega)) (size_take k (argS v) c hz hok)
     exact⟨h1,by rw[List.length_cons];omega,h3⟩
    ·exact zero
theorem lim_parse (m:Nat) (l:LL) (hl:∀ s∈l,s.length≤m):Lim m (parseC l).1∧countE (parseC l).1≤200∧0≤(parseC l).1.size∧(parseC l).1.size≤2147483647:=by
 unfold parseC
 split
 ·exact⟨lim_zero m,Nat.zero_le _,by decide,by decide⟩
 ·obtain⟨h1,h2,h3⟩:=lim_go m l 0 zeroC [] (-1) hl (lim_zero m) ⟨by decide,by decide⟩
  refine⟨h1,?_,h3⟩
  have e:countE zeroC=0:=rfl
  omega
end Go.Proofs.YtakfpngfpknedaaGreatDoor.Cfg
set_option linter.all false
namespace Go.Proofs.YtakfpngfpknedaaGreatDoor
open Go.RowKit
theorem neq_ixV (W:World) (a b:Cfg.IndexE):(binOp .neq 63 (.agg #[.string ⟨a.typ.toArray⟩,.bool a.eq,.bool a.pres,.bool a.sub]) (.agg #[.string ⟨b.typ.toArray⟩,.bool b.eq,.bool b.pres,.bool b.sub])).run Tryz.prog W= .ok (.bool (!decide (a=b))) W:=by
 have h:(Op.equalIn 10000 63 (.agg #[.string ⟨a.typ.toArray⟩,.bool a.eq,.bool a.pres,.bool a.sub]) (.agg #[.string ⟨b.typ.toArray⟩,.bool b.eq,.bool b.pres,.bool b.sub])).run Tryz.prog W= .ok (decide (a=b)) W:=eq_ixV W a b
 rw[run_neq_struct,h]
 rfl
def IdxW (w:World) (v:Value) (xs:List Cfg.IndexE):Prop:=∃ A c,v= .slice A xs.length c∧xs.length≤c∧∀ j (hj:j<xs.length),∃ b o,A=some ⟨b,o,none⟩∧w.cell? ⟨b,o+j * 4,none⟩=some (.string ⟨xs[j].typ.toArray⟩)∧w.cell? ⟨b,o+j * 4+1,none⟩=some (.bool xs[j].eq)∧w.cell? ⟨b,o+j * 4+2,none⟩=some (.bool xs[j].pres)∧w.cell? ⟨b,o+j * 4+3,none⟩=some (.bool xs[j].sub)
theorem ix_at (xs:List Cfg.IndexE) (j:Nat) (hj:j<xs.length):(xs.flatMap ixCells)[j * 4]?=some (.string ⟨xs[j].typ.toArray⟩)∧(xs.flatMap ixCells)[j * 4+1]?=some (.bool xs[j].eq)∧(xs.flatMap ixCells)[j * 4+2]?=some (.bool xs[j].pres)∧(xs.flatMap ixCells)[j * 4+3]?=some (.bool xs[j].sub):=by
 have hk:∀ k,k<4→(xs.flatMap ixCells)[j * 4+k]?=(ixCells xs[j])[k]?:=by
  intro k hk
  obtain⟨l,r,hlr,hl⟩:∃ l r,xs=l++xs[j]::r∧l.length=j:=⟨xs.take j,xs.drop (j+1),by rw[← List.drop_eq_getElem_cons hj,List.take_append_drop],by rw[List.length_take];omega⟩
  have e:xs.flatMap ixCells=l.flatMap ixCells++(ixCells xs[j]++r.flatMap ixCells):=by
   conv=>lhs;rw[hlr]
   rw[List.flatMap_append,List.flatMap_cons]
  rw[e,List.getElem?_append_right (by rw[ix_len,hl];omega),ix_len,hl,show j * 4+k - j * 4=k by omega,List.getElem?_append_left (by simpa [ixCells] using hk)]
 exact⟨by simpa [ixCells] using hk 0 (by omega),by simpa [ixCells] using hk 1 (by omega),by simpa [ixCells] using hk 2 (by omega),by simpa [ixCells] using hk 3 (by omega)⟩
theorem IdxA.w {w:World} {v:Value} {xs:List Cfg.IndexE} (h:IdxA w v xs):IdxW w v xs:=by
 rcases h with ⟨rfl,rfl⟩|⟨b,o,c,rfl,hc,hx⟩
 ·exact⟨none,0,rfl,nR _,fun j hj=>absurd hj (by simp)⟩
 ·refine⟨_,c,rfl,hc,fun j hj=>⟨b,o,rfl,?_⟩⟩
  obtain⟨h0,h1,h2,h3⟩:=ix_at xs j hj
  exact⟨hx _ _ h0,hx _ _ h1,hx _ _ h2,hx _ _ h3⟩
theorem IdxW.below {w w':World} {v:Value} {xs:List Cfg.IndexE} (h:IdxW w v xs) (hb:Bel w w'):IdxW w' v xs:=by
 obtain⟨A,c,rfl,hc,hx⟩:=h
 refine⟨A,c,rfl,hc,fun j hj=>?_⟩
 obtain⟨b,o,hA,h0,h1,h2,h3⟩:=hx j hj
 exact⟨b,o,hA,cQ hb h0,cQ hb h1,cQ hb h2,cQ hb h3⟩
def ConfW (w:World) (v:Value) (c:Cfg.ConfE):Prop:=∃ va vc vl vi vr vu,v=confV c va vc vl vi vr vu∧TextsA w va c.attrs∧TextsA w vc c.classes∧TextsA w vl c.acls∧IdxW w vi c.indexes∧TextsA w vr c.refs∧TextsA w vu c.unique
theorem ConfA.w {w:World} {v:Value} {c:Cfg.ConfE} (h:ConfA w v c):ConfW w v c:=by
 obtain⟨va,vc,vl,vi,vr,vu,rfl,h1,h2,h3,h4,h5,h6⟩:=h
 exact⟨va,vc,vl,vi,vr,vu,rfl,h1,h2,h3,h4.w,h5,h6⟩
theorem ConfW.below {w w':World} {v:Value} {c:Cfg.ConfE} (h:ConfW w v c) (hb:Bel w w'):ConfW w' v c:=by
 obtain⟨va,vc,vl,vi,vr,vu,rfl,h1,h2,h3,h4,h5,h6⟩:=h
 exact⟨va,vc,vl,vi,vr,vu,rfl,h1.below hb,h2.below hb,h3.below hb,h4.below hb,h5.below hb,h6.below hb⟩
theorem seqT_q (xs ys:LL) (v1 v2:Value) (w:World) (hv1:TextsA w v1 xs) (hv2:TextsA w v2 ys) (hl:xs.length≤1000000000):
  Calls Tryz.prog 63 #[v1,v2] w fun e w'=>e= .returned (.bool (decide (xs=ys)))∧∃ m,w'=w.drewN m:=by
 obtain⟨A1,c1,rfl,hc1,hx1⟩:=hv1.at
 obtain⟨A2,c2,rfl,hc2,hx2⟩:=hv2.at
 have H1:=hiD hx1
 have H2:=hiD hx2
 obtain⟨R,hR⟩:∃ R,decide (xs=ys)=R:=⟨_,rfl⟩
 rw[hR]
 have HR:=hiD hR
 clear hx1 hx2 hv1 hv2 hR
 by_cases hle:xs.length=ys.length
 ·have hself:((xs.length:Int) !=(ys.length:Int))=false:=by rw[hle];simp
  go_enter Tryz.func63,Tryz.ntmps63
  go_wp2_with fail
  go_loopg [13] xs.length (fun gk i wr=>∃ k n:Nat,k≤xs.length∧i= .int .i64 k∧Aside (k+gk=xs.length)∧wr=w.drewN n∧Aside (xs.take k=ys.take k))
  case atStart=>exact⟨0,0,by omega,rfl,by show _=_;omega,rfl,rfl⟩
  case round=>
   obtain⟨k,n,hk,rfl,AG,rfl,AE⟩:=hrel
   by_cases hlt:k<xs.length
   ·obtain⟨gq,rfl⟩:∃ q,gk=q+1:=⟨gk - 1,by have:=AG.out;omega⟩
    obtain⟨p1,rfl,d1⟩:=H1.out k hlt
    obtain⟨p2,rfl,d2⟩:=H2.out k (by omega)
    have hki:(k:Int)<(xs.length:Int):=by omega
    have hki2:(k:Int)<(ys.length:Int):=by omega
    by_cases he:xs[k]=ys[k]'(by omega)
    ·have AE2:Aside (xs.take (k+1)=ys.take (k+1)):=by
      show _=_
      rw[List.take_succ_eq_append_getElem hlt,List.take_succ_eq_append_getElem (by omega),AE.out,he]
     rw[he] at d1
     generalize ys[k]'(by omega)=t at d1 d2
     go_wp2_with fail
     go_quiet (fail)
     go_wp2_with fail
     go_roundg gq
     case measure=>omega
     case rel=>exact⟨k+1,_,by omega,by go_num,by have:=AG.out;show _=_;omega,rfl,AE2.out⟩
    ·have hno:R=false:=by
      rw[← HR.out,decide_eq_false_iff_not]
      rintro rfl
      exact he rfl
     subst hno
     generalize xs[k]=t1 at *
     generalize ys[k]'(by omega)=t2 at *
     have hbn:(t1==t2)=false:=beq_eq_false_iff_ne.2 he
     go_wp2_with fail
     go_quiet (fail)
     go_wp2_with fail
     go_ret
     exact⟨rfl,n+nq,by rw[World.drewN_drewN]⟩
   ·obtain rfl:k=xs.length:=by omega
    have hyes:R=true:=by
     rw[← HR.out,decide_eq_true_iff]
     have:=AE.out
     rwa [List.take_length,List.take_of_length_le (by omega)] at this
    subst hyes
    go_wp2_with fail
    go_ret
    exact⟨rfl,_,rfl⟩
 ·have hself:((xs.length:Int) !=(ys.length:Int))=true:=by
   rw[bne_iff_ne];omega
  have hno:R=false:=by
   rw[← HR.out,decide_eq_false_iff_not]
   rintro rfl
   exact hle rfl
  subst hno
  go_enter Tryz.func63,Tryz.ntmps63
  go_wp2_with fail
  go_ret
  exact⟨rfl,0,rfl⟩
theorem seqI_q (xs ys:List Cfg.IndexE) (v1 v2:Value) (w:World) (hv1:IdxW w v1 xs) (hv2:IdxW w v2 ys) (hl:xs.length≤1000000000):
  Calls Tryz.prog 64 #[v1,v2] w fun e w'=>e= .returned (.bool (decide (xs=ys)))∧∃ m,w'=w.drewN m:=by
 obtain⟨A1,c1,rfl,hc1,hx1⟩:=hv1
 obtain⟨A2,c2,rfl,hc2,hx2⟩:=hv2
 have H1:=hiD hx1
 have H2:=hiD hx2
 obtain⟨R,hR⟩:∃ R,decide (xs=ys)=R:=⟨_,rfl⟩
 rw[hR]
 have HR:=hiD hR
 clear hx1 hx2 hR
 by_cases hle:xs.length=ys.length
 ·have hself:((xs.length:Int) !=(ys.length:Int))=false:=by rw[hle];simp
  go_enter Tryz.func64,Tryz.ntmps64
  go_wp2_with fail
  go_loopg [13] xs.length (fun gk i wr=>∃ k n:Nat,k≤xs.length∧i= .int .i64 k∧Aside (k+gk=xs.length)∧wr=w.drewN n∧Aside (xs.take k=ys.take k))
  case atStart=>exact⟨0,0,by omega,rfl,by show _=_;omega,rfl,rfl⟩
  case round=>
   obtain⟨k,n,hk,rfl,AG,rfl,AE⟩:=hrel
   by_cases hlt:k<xs.length
   ·obtain⟨gq,rfl⟩:∃ q,gk=q+1:=⟨gk - 1,by have:=AG.out;omega⟩
    obtain⟨b1,o1,rfl,d10,d11,d12,d13⟩:=H1.out k hlt
    obtain⟨b2,o2,rfl,d20,d21,d22,d23⟩:=H2.out k (by omega)
    have hk2:k<ys.length:=by omega
    have hEQ:Hid (∀ W:World,(binOp .neq 63 (.agg #[.string ⟨xs[k].typ.toArray⟩,.bool xs[k].eq,.bool xs[k].pres,.bool xs[k].sub]) (.agg #[.string ⟨ys[k].typ.toArray⟩,.bool ys[k].eq,.bool ys[k].pres,.bool ys[k].sub])).run Tryz.prog W= .ok (.bool (!decide (xs[k]=ys[k]))) W):=hiD fun W=>neq_ixV W xs[k] ys[k]
    have hki:(k:Int)<(xs.length:Int):=by omega
    have hki2:(k:Int)<(ys.length:Int):=by omega
    by_cases he:xs[k]=ys[k]
    ·have AE2:Aside (xs.take (k+1)=ys.take (k+1)):=by
      show _=_
      rw[List.take_succ_eq_append_getElem hlt,List.take_succ_eq_append_getElem (by omega),AE.out,he]
     have hE:=hEQ.out
     rw[decide_eq_true he] at hE
     simp only[Bool.not_true] at hE
     clear he hEQ
     generalize xs[k].typ=ttxs at *
     generalize xs[k].eq=eexs at *
     generalize xs[k].pres=ppxs at *
     generalize xs[k].sub=ssxs at *
     generalize ys[k].typ=ttys at *
     generalize ys[k].eq=eeys at *
     generalize ys[k].pres=ppys at *
     generalize ys[k].sub=ssys at *
     go_wp2_with fail
     go_quiet (fail)
     go_wp2_with fail
     go_roundg gq
     case measure=>omega
     case rel=>exact⟨k+1,_,by omega,by go_num,by have:=AG.out;show _=_;omega,rfl,AE2.out⟩
    ·have hno:R=false:=by
      rw[← HR.out,decide_eq_false_iff_not]
      rintro rfl
      exact he rfl
     subst hno
     have hE:=hEQ.out
     rw[decide_eq_false he] at hE
     simp only[Bool.not_false] at hE
     clear he hEQ
     generalize xs[k].typ=ttxs at *
     generalize xs[k].eq=eexs at *
     generalize xs[k].pres=ppxs at *
     generalize xs[k].sub=ssxs at *
     generalize ys[k].typ=ttys at *
     generalize ys[k].eq=eeys at *
     generalize ys[k].pres=ppys at *
     generalize ys[k].sub=ssys at *
     go_wp2_with fail
     go_quiet (fail)
     go_wp2_with fail
     go_ret
     exact⟨rfl,n+nq,by rw[World.drewN_drewN]⟩
   ·obtain rfl:k=xs.length:=by omega
    have hyes:R=true:=by
     rw[← HR.out,decide_eq_true_iff]
     have:=AE.out
     rwa [List.take_length,List.take_of_length_le (by omega)] at this
    subst hyes
    go_wp2_with fail
    go_ret
    exact⟨rfl,_,rfl⟩
 ·have hself:((xs.length:Int) !=(ys.length:Int))=true:=by
   rw[bne_iff_ne];omega
  have hno:R=false:=by
   rw[← HR.out,decide_eq_false_iff_not]
   rintro rfl
   exact hle rfl
  subst hno
  go_enter Tryz.func64,Tryz.ntmps64
  go_wp2_with fail
  go_ret
  exact⟨rfl,0,rfl⟩
end Go.Proofs.YtakfpngfpknedaaGreatDoor
namespace Go.Proofs.YtakfpngfpknedaaGreatDoor.Cfg
def linesR (w:LU) (l:LL):LL:=l.map fun a=>w++32::a
def indexR (x:IndexE):LU:=wIndex++32::(x.typ++32::Lib.join (kindsI x) [44])
def decX (n:Int):LU:=if n≤0 then [48] else Lib.itoa n
def sizeR (n:Int):LL:=if n=0 then [] else line wSize (decX n)
def rawR (c:ConfE):LL:=
 line wSuffix c.suffix++(line wRoot c.root++(line wSecret c.secret++(sizeR c.size++
 (linesR wAttr c.attrs++(linesR wClass c.classes++(linesR wAcl c.acls++(c.indexes.map indexR++
 (onL wMember c.memberof++(onL wAudit c.audit++(linesR wRef c.refs++linesR wUnique c.unique))))))))))
def printR (c:ConfE):LL:=if (parseC (rawR c)).2.1=0∧(parseC (rawR c)).1=c then rawR c else []
theorem linesR_eq (w:LU) (l:LL) (h:∀ a∈l,a≠[]):linesR w l=lines w l:=by
 induction l with
 |nil=>rfl
 |cons a l ih=>
  have e:lines w (a::l)=line w a++lines w l:=rfl
  have e1:line w a=[w++32::a]:=if_neg (h a (List.mem_cons_self ..))
  rw[e,e1,← ih (fun b hb=>h b (List.mem_cons_of_mem _ hb))]
  rfl
theorem indexR_eq (l:List IndexE) (h:∀ x∈l,kindsI x≠[]):l.map indexR=lines wIndex (l.map textI):=by
 induction l with
 |nil=>rfl
 |cons x l ih=>
  have hx:=h x (List.mem_cons_self ..)
  have e0:textI x=x.typ++32::Lib.join (kindsI x) [44]:=if_neg hx
  have e:lines wIndex ((x::l).map textI)=line wIndex (textI x)++lines wIndex (l.map textI):=rfl
  have e1:line wIndex (textI x)=[indexR x]:=by
   unfold line
   rw[if_neg (by rw[e0];simp),e0]
   rfl
  rw[e,e1,← ih (fun b hb=>h b (List.mem_cons_of_mem _ hb))]
  rfl
theorem go_each:∀ (l:LL) (i:Nat) (c:ConfE) (seen:LL) (tw:Int),(goC l i c seen tw).2.1=0→∀ v∈l,argS v≠[]∧(nameS v=wIndex→(indexS (argS v)).2=true)
 |[],_,_,_,_,_,v,hv=>by cases hv
 |u::l,i,c,seen,tw,h,v,hv=>by
  unfold goC at h
  split at h
  ·simp at h
  ·next k hk=>
   split at h
   ·simp at h
   ·next ha=>
    split at h
    ·next hok=>
     rcases List.mem_cons.1 hv with rfl|hv
     ·refine⟨ha,fun hn=>?_⟩
      rw[hn] at hk
      have:k= .index:=by
       have e:kindOf wIndex=some .index:=by decide
       rw[e] at hk
       exact(Option.some.inj hk).symm
      subst this
      exact hok
     ·exact go_each l _ _ _ _ h v hv
    ·simp at h
theorem parse_each {l:LL} (h:(parseC l).2.1=0):∀ v∈l,argS v≠[]∧(nameS v=wIndex→(indexS (argS v)).2=true):=by
 unfold parseC at h
 split at h
 ·simp at h
 ·exact go_each _ _ _ _ _ h
theorem last_kinds (x:IndexE) (h:kindsI x≠[]):(Lib.join (kindsI x) [44]).getLast?≠some 32∧Lib.join (kindsI x) [44]≠[]:=by
 obtain⟨t,a,b,c⟩:=x
 rw[show kindsI ⟨t,a,b,c⟩=kindsI ⟨[],a,b,c⟩ from rfl] at h ⊢
 clear t
 revert a b c
 decide
theorem index_blank (t:LU):(indexS (t++[32])).2=false:=by
 cases h:(indexS (t++[32])).2
 ·rfl
 ·exfalso
  have h2:textI (indexS (t++[32])).1=t++[32]:=by
   unfold indexS indexI at h ⊢
   simp only[Bool.and_eq_true,beq_iff_eq] at h
   exact h.2
  generalize (indexS (t++[32])).1=x at h2
  unfold textI at h2
  split at h2
  ·simp at h2
  ·next hk=>
   obtain⟨h3,h4⟩:=last_kinds x hk
   have h5:=congrArg List.getLast? h2
   rw[List.getLast?_append,List.getLast?_append,List.getLast?_cons] at h5
   cases hj:(Lib.join (kindsI x) [44]).getLast? with
   |none=>exact h4 (List.getLast?_eq_none_iff.1 hj)
   |some y=>
    rw[hj] at h5 h3
    simp at h5
    exact h3 (by rw[h5])
theorem raw_none {c:ConfE} (h:(parseC (rawR c)).2.1=0):(∀ a∈c.attrs,a≠[])∧(∀ a∈c.classes,a≠[])∧(∀ a∈c.acls,a≠[])∧(∀ x∈c.indexes,kindsI x≠[])∧(∀ a∈c.refs,a≠[])∧∀ a∈c.unique,a≠[]:=by
 have hE:=parse_each h
 have hw:∀ w∈[wAttr,wClass,wAcl,wRef,wUnique,wIndex],∀ x∈w,x≠32:=by decide
 have one:∀ w∈[wAttr,wClass,wAcl,wRef,wUnique,wIndex],∀ a,w++32::a∈rawR c→a≠[]:=fun w hm a ha=>by
  have:=(hE _ ha).1
  rwa [(line_read w a (hw w hm)).2] at this
 refine⟨fun a ha=>one wAttr (by decide) a ?_,fun a ha=>one wClass (by decide) a ?_,fun a ha=>one wAcl (by decide) a ?_,fun x hx hk=>?_,fun a ha=>one wRef (by decide) a ?_,fun a ha=>one wUnique (by decide) a ?_⟩
 ·have:=List.mem_map_of_mem (f:=fun a=>wAttr++32::a) ha
  simp only[rawR,List.mem_append,linesR]
  simp only[this,true_or,or_true]
 ·have:=List.mem_map_of_mem (f:=fun a=>wClass++32::a) ha
  simp only[rawR,List.mem_append,linesR]
  simp only[this,true_or,or_true]
 ·have:=List.mem_map_of_mem (f:=fun a=>wAcl++32::a) ha
  simp only[rawR,List.mem_append,linesR]
  simp only[this,true_or,or_true]
 ·have hm:=List.mem_map_of_mem (f:=indexR) hx
  have hr:indexR x∈rawR c:=by
   simp only[rawR,List.mem_append]
   simp only[hm,true_or,or_true]
  have h2:=(hE _ hr).2
  unfold indexR at h2
  obtain⟨h3,h4⟩:=line_read wIndex (x.typ++32::Lib.join (kindsI x) [44]) (hw wIndex (by decide))
  have h5:=h2 h3
  rw[h4,hk,show x.typ++32::Lib.join [] [44]=x.typ++[32] from rfl,index_blank] at h5
  cases h5
 ·have:=List.mem_map_of_mem (f:=fun a=>wRef++32::a) ha
  simp only[rawR,List.mem_append,linesR]
  simp only[this,true_or,or_true]
 ·have:=List.mem_map_of_mem (f:=fun a=>wUnique++32::a) ha
  simp only[rawR,List.mem_append,linesR]
  simp only[this,or_true]
theorem size_parse (l:LL):0≤(parseC l).1.size:=(lim_parse ((l.map List.length).sum) l fun s hs=>by
 have:∀ (l:List Nat) (x:Nat),x∈l→x≤l.sum:=by
  intro l
  induction l with
  |nil=>intro x hx;cases hx
  |cons y l ih=>
   intro x hx
   rw[List.sum_cons]
   rcases List.mem_cons.1 hx with rfl|hx
   ·omega
   ·have:=ih x hx;omega
 exact this _ _ (List.mem_map.2 ⟨s,hs,rfl⟩)).2.2.1
theorem printR_eq (c:ConfE):printR c=printC c:=by
 by_cases hz:c.size<0
 ·have e1:printR c=[]:=by
   unfold printR
   refine if_neg fun h=>?_
   have:=size_parse (rawR c)
   rw[h.2] at this
   omega
  have e2:printC c=[]:=by
   unfold printC
   refine if_neg fun h=>?_
   have:=size_parse (rawP c)
   rw[h.2] at this
   omega
  rw[e1,e2]
 have hsz:sizeR c.size=sizeL c.size:=by
  unfold sizeR sizeL decX
  by_cases h0:c.size=0
  ·rw[if_pos h0,if_pos h0]
  ·rw[if_neg h0,if_neg h0,if_neg (show ¬ c.size≤0 by omega)]
 by_cases hg:(∀ a∈c.attrs,a≠[])∧(∀ a∈c.classes,a≠[])∧(∀ a∈c.acls,a≠[])∧(∀ x∈c.indexes,kindsI x≠[])∧(∀ a∈c.refs,a≠[])∧∀ a∈c.unique,a≠[]
 ·obtain⟨h1,h2,h3,h4,h5,h6⟩:=hg
  have e:rawR c=rawP c:=by
   unfold rawR rawP
   rw[hsz,linesR_eq _ _ h1,linesR_eq _ _ h2,linesR_eq _ _ h3,indexR_eq _ h4,linesR_eq _ _ h5,linesR_eq _ _ h6]
  unfold printR printC
  rw[e]
 ·have e1:printR c=[]:=by
   unfold printR
   exact if_neg fun h=>hg (raw_none h.1)
  have e2:printC c=[]:=by
   unfold printC
   refine if_neg fun h=>hg ?_
   have hp:parseC (rawP c)=(c,0,(parseC (rawP c)).2.2):=by
    rw[Prod.ext_iff,Prod.ext_iff]
    exact⟨h.2,h.1,rfl⟩
   unfold parseC at hp
   split at hp
   ·simp at hp
   ·have hG:=(go_good _ 0 zeroC [] (-1) c _ hp good_zero (by decide)).1
    refine⟨hG.attrs,hG.classes,hG.acls,fun x hx hk=>(hG.indexes x hx).1 ?_,fun a ha=>(hG.refs a ha).1,fun a ha=>(hG.unique a ha).1⟩
    unfold textI
    exact if_pos hk
  rw[e1,e2]
end Go.Proofs.YtakfpngfpknedaaGreatDoor.Cfg
namespace Go.Proofs.YtakfpngfpknedaaGreatDoor.Cfg
def onceN (w:LU):Bool:=w==wSuffix||w==wRoot||w==wSecret||w==wSize||w==wMember||w==wAudit
theorem kind_find {w:LU} {k:Kind} (h:kindOf w=some k):(w,k)∈kinds:=by
 unfold kindOf at h
 obtain⟨y,hy,rfl⟩:=Option.map_eq_some_iff.1 h
 have h3:=List.mem_of_find?_eq_some hy
 have h4:=List.find?_some hy
 rw[← eq_of_beq h4]
 exact h3
theorem onceN_kind {w:LU} {k:Kind} (h:kindOf w=some k):onceN w=onceK k:=by
 have hb:∀ y∈kinds,onceN y.1=onceK y.2:=by decide
 exact hb _ (kind_find h)
def firstTw:LL→LL→Nat→Int
 |_,[],_=> -1
 |seen,n::r,i=>if seen.contains n && onceN n then (i:Int) else firstTw (n::seen) r (i+1)
theorem firstTw_ge:∀ (ns seen:LL) (i:Nat),firstTw seen ns i= -1∨0≤firstTw seen ns i
 |[],_,_=> .inl rfl
 |n::r,seen,i=>by
  rw[firstTw]
  split
  ·exact .inr (by omega)
  ·exact firstTw_ge r _ _
theorem firstTw_snoc:∀ (ns seen:LL) (n:LU) (i:Nat),firstTw seen (ns++[n]) i=if 0≤firstTw seen ns i then firstTw seen ns i else if (ns.reverse++seen).contains n && onceN n then ((i+ns.length:Nat):Int) else -1
 |[],seen,n,i=>by
  have h1:¬ (0:Int)≤ -1:=by omega
  simp [firstTw]
 |m::r,seen,n,i=>by
  rw[List.cons_append,firstTw,firstTw]
  split
  ·rw[if_pos (by omega)]
  ·rw[firstTw_snoc r (m::seen) n (i+1)]
   have e:((m::r).reverse++seen)=r.reverse++m::seen:=by simp
   rw[e]
   have e2:i+(m::r).length=i+1+r.length:=by simp;omega
   rw[e2]
def namesL (l:LL):LL:=l.map nameS
theorem tw_step (l:LL) (v:LU) (k:Kind) (hk:kindOf (nameS v)=some k):
  (if (namesL l).reverse.contains (nameS v) && onceK k && decide (firstTw [] (namesL l) 0<0) then (l.length:Int) else firstTw [] (namesL l) 0)=firstTw [] (namesL (l++[v])) 0:=by
 have e:namesL (l++[v])=namesL l++[nameS v]:=by simp [namesL]
 rw[e,firstTw_snoc,onceN_kind hk,List.append_nil,Nat.zero_add]
 have hl:(namesL l).length=l.length:=by simp [namesL]
 rw[hl]
 rcases firstTw_ge (namesL l) [] 0 with h|h
 ·rw[h,if_neg (show ¬ (0:Int)≤ -1 by omega)]
  simp
 ·rw[if_pos h,if_neg]
  simp only[Bool.and_eq_true,decide_eq_true_eq,not_and]
  intro _;omega
theorem go_start (l:LL) (h:¬ 200<l.length):parseC l=goC (l.drop 0) 0 zeroC (namesL (l.take 0)).reverse (firstTw [] (namesL (l.take 0)) 0):=by
 unfold parseC
 rw[if_neg h]
 rfl
theorem go_step (l:LL) (k:Nat) (hk:k<l.length) (c:ConfE) (K:Kind) (h1:kindOf (nameS l[k])=some K) (h2:argS l[k]≠[]) (h3:(takeK K (argS l[k]) c).2=true):
  goC (l.drop k) k c (namesL (l.take k)).reverse (firstTw [] (namesL (l.take k)) 0)=goC (l.drop (k+1)) (k+1) (takeK K (argS l[k]) c).1 (namesL (l.take (k+1))).reverse (firstTw [] (namesL (l.take (k+1))) 0):=by
 have ht:l.take (k+1)=l.take k++[l[k]]:=List.take_succ_eq_append_getElem hk
 have hs:=tw_step (l.take k) l[k] K h1
 rw[List.length_take,Nat.min_eq_left (Nat.le_of_lt hk)] at hs
 rw[List.drop_eq_getElem_cons hk,goC,h1]
 simp only
 rw[if_neg h2,if_pos h3,ht,← hs]
 congr 1
 unfold namesL
 rw[List.map_append,List.reverse_append]
 rfl
theorem go_badR (l:LL) (k:Nat) (hk:k<l.length) (c:ConfE) (seen:LL) (tw:Int) (h:∀ K,kindOf (nameS l[k])=some K→argS l[k]≠[]→(takeK K (argS l[k]) c).2=false):
  goC (l.drop k) k c seen tw=(zeroC,50,(k:Int)):=by
 rw[List.drop_eq_getElem_cons hk,goC]
 split
 ·rfl
 ·next K hK=>
  split
  ·rfl
  ·next ha=>rw[if_neg (by rw[h K hK ha];simp)]
theorem firstTw_hit (N:LL) (k j:Nat) (hk:k<N.length) (hj:j<k) (he:N[j]'(by omega)=N[k]) (ho:onceN N[k]=true):firstTw (N.take k).reverse (N.drop k) k=(k:Int):=by
 rw[List.drop_eq_getElem_cons hk,firstTw,if_pos]
 rw[ho,Bool.and_true,List.contains_iff_mem,List.mem_reverse,← he]
 exact List.mem_take_iff_getElem.2 ⟨j,by omega,rfl⟩
theorem firstTw_miss (N:LL) (k:Nat) (hk:k<N.length) (h:∀ j (hj:j<k),¬ (N[j]'(by omega)=N[k]∧onceN N[k]=true)):firstTw (N.take k).reverse (N.drop k) k=firstTw (N.take (k+1)).reverse (N.drop (k+1)) (k+1):=by
 rw[List.drop_eq_getElem_cons hk,firstTw,if_neg]
 ·rw[List.take_succ_eq_append_getElem hk,List.reverse_append]
  rfl
 ·intro hc
  rw[Bool.and_eq_true,List.contains_iff_mem,List.mem_reverse] at hc
  obtain⟨j,hj,he⟩:=List.mem_take_iff_getElem.1 hc.1
  exact h j (by omega) ⟨he,hc.2⟩
/-! Indexes. -/
def seven:List (LU × Bool × Bool × Bool):=[([101,113],true,false,false),([112,114,101,115],false,true,false),([115,117,98],false,false,true),
 ([101,113,44,112,114,101,115],true,true,false),([101,113,44,115,117,98],true,false,true),([112,114,101,115,44,115,117,98],false,true,true),([101,113,44,112,114,101,115,44,115,117,98],true,true,true)]
def sevenOf (s:LU):Option (Bool × Bool × Bool):=(seven.find? (·.1==s)).map (·.2)
def indexX (s:LU):Option IndexE:=if isTypeL (nameS s)=false∨nameS s=s then none else (sevenOf (argS s)).map fun k=>⟨nameS s,k.1,k.2.1,k.2.2⟩
theorem cut_eq (s:LU) (h:nameS s≠s):s=nameS s++32::argS s:=by
 unfold nameS argS at *
 have e:=List.takeWhile_append_dropWhile (p:=(· !=32)) (l:=s)
 cases hd:s.dropWhile (· !=32) with
 |nil=>rw[hd,List.append_nil] at e;exact absurd e h
 |cons x t=>
  have hx:=List.head?_dropWhile_not (· !=32) s
  rw[hd] at hx
  simp at hx
  rw[hd,hx] at e
  rw[List.drop_one,List.tail_cons]
  exact e.symm
theorem seven_join:∀ (a b c:Bool),kindsI ⟨[],a,b,c⟩≠[]→sevenOf (Lib.join (kindsI ⟨[],a,b,c⟩) [44])=some (a,b,c):=by decide
theorem seven_read:∀ y∈seven,∀ t:LU,(commas y.1).foldl stepI ⟨t,false,false,false⟩=⟨t,y.2.1,y.2.2.1,y.2.2.2⟩∧kindsI ⟨[],y.2.1,y.2.2.1,y.2.2.2⟩≠[]∧Lib.join (kindsI ⟨[],y.2.1,y.2.2.1,y.2.2.2⟩) [44]=y.1:=by
 intro y hy t
 simp only[seven,List.mem_cons,List.not_mem_nil,or_false] at hy
 rcases hy with rfl|rfl|rfl|rfl|rfl|rfl|rfl<;>refine⟨?_,by decide,by decide⟩<;>rfl
theorem kinds_typ (x:IndexE):kindsI x=kindsI ⟨[],x.eq,x.pres,x.sub⟩:=rfl
theorem nameS_ne (s:LU):∀ x∈nameS s,x≠32:=fun x hx=>by
 have h1:(s.takeWhile (· !=32)).all (· !=32)=true:=List.all_takeWhile
 have:=List.all_eq_true.1 h1 x hx
 simpa using this
theorem indexX_some {s:LU} {x:IndexE} (h:indexX s=some x):indexS s=(x,true):=by
 unfold indexX at h
 split at h
 ·cases h
 ·next hn=>
  obtain⟨k,hk,rfl⟩:=Option.map_eq_some_iff.1 h
  unfold sevenOf at hk
  obtain⟨y,hy,rfl⟩:=Option.map_eq_some_iff.1 hk
  have hm:=List.mem_of_find?_eq_some hy
  have he:y.1=argS s:=by have:=List.find?_some hy;simpa using this
  obtain⟨r1,r2,r3⟩:=seven_read y hm (nameS s)
  have ht:isTypeL (nameS s)=true:=by
   cases hb:isTypeL (nameS s)
   ·exact absurd (.inl hb) hn
   ·rfl
  have hc:=cut_eq s (fun e=>hn (.inr e))
  unfold indexS indexI
  rw[← he,r1]
  simp only[Prod.mk.injEq,true_and,ht,Bool.true_and,beq_iff_eq]
  unfold textI
  rw[kinds_typ,if_neg r2,r3,he]
  exact hc.symm
theorem indexX_none {s:LU} (h:indexX s=none):(indexS s).2=false:=by
 cases hb:(indexS s).2
 ·rfl
 ·exfalso
  have h2:isTypeL (nameS s)=true∧textI (indexS s).1=s:=by
   unfold indexS indexI at hb ⊢
   simp only[Bool.and_eq_true,beq_iff_eq] at hb
   exact hb
  obtain⟨h3,h4⟩:=h2
  have ht:=indexS_typ s
  generalize indexS s=r at h4 ht hb
  obtain⟨⟨ty,a,b,c⟩,rb⟩:=r
  simp only at h4 ht hb
  unfold textI at h4
  by_cases hk:kindsI ⟨ty,a,b,c⟩=[]
  ·rw[if_pos hk] at h4
   rw[← h4] at h3
   cases h3
  ·rw[if_neg hk,ht,kinds_typ] at h4
   simp only at h4
   have ha:argS s=Lib.join (kindsI ⟨[],a,b,c⟩) [44]:=by
    conv=>lhs;rw[← h4]
    exact(line_read _ _ (nameS_ne s)).2
   have hn:nameS s≠s:=fun e=>by
    have:=congrArg List.length h4
    rw[List.length_append,List.length_cons] at this
    have h9:=congrArg List.length e
    omega
   unfold indexX at h
   have hnn:¬ (isTypeL (nameS s)=false∨nameS s=s):=fun hh=>hh.elim (fun h1=>by rw[h3] at h1;cases h1) hn
   rw[if_neg hnn,ha,seven_join a b c hk] at h
   cases h
theorem indexX_eq (s:LU):(∀ x,indexX s=some x→indexS s=(x,true))∧(indexX s=none→(indexS s).2=false):=⟨fun _ h=>indexX_some h,indexX_none⟩
end Go.Proofs.YtakfpngfpknedaaGreatDoor.Cfg
