import Derived.Lib.ItoaNum
import Derived.Test.YtakfpngfpknedaaGreatDoorE11
set_option linter.all false
set_option maxHeartbeats 8000000
set_option maxRecDepth 100000
namespace Go.Proofs.YtakfpngfpknedaaGreatDoor.Cfg
open Go.RowKit
def wSuffix:LU:=[115,117,102,102,105,120]
def wRoot:LU:=[114,111,111,116]
def wSecret:LU:=[115,101,99,114,101,116]
def wSize:LU:=[115,105,122,101]
def wAttr:LU:=[97,116,116,114]
def wClass:LU:=[99,108,97,115,115]
def wAcl:LU:=[97,99,108]
def wIndex:LU:=[105,110,100,101,120]
def wMember:LU:=[109,101,109,98,101,114,111,102]
def wAudit:LU:=[97,117,100,105,116]
def wRef:LU:=[114,101,102]
def wUnique:LU:=[117,110,105,113,117,101]
def line (w a:LU):LL:=if a=[] then [] else [w++32::a]
def lines (w:LU) (l:LL):LL:=l.flatMap (line w)
def sizeL (n:Int):LL:=if n=0 then [] else line wSize (Lib.itoa n)
def onL (w:LU) (b:Bool):LL:=if b=true then line w onB else []
def rawP (c:ConfE):LL:=
 line wSuffix c.suffix++(line wRoot c.root++(line wSecret c.secret++(sizeL c.size++
 (lines wAttr c.attrs++(lines wClass c.classes++(lines wAcl c.acls++(lines wIndex (c.indexes.map textI)++
 (onL wMember c.memberof++(onL wAudit c.audit++(lines wRef c.refs++lines wUnique c.unique))))))))))
def printC (c:ConfE):LL:=if (parseC (rawP c)).2.1=0∧(parseC (rawP c)).1=c then rawP c else []
/-! Numbers. -/
theorem valN_snoc (l:LU) (x:UInt8):valN (l++[x])=valN l * 10+(x.toNat - 48):=by
 unfold valN
 rw[List.foldl_append]
 rfl
/-! One setting after another. -/
theorem takeWhile_word:∀ (w a:LU),(∀ x∈w,x≠32)→(w++32::a).takeWhile (· !=32)=w∧(w++32::a).dropWhile (· !=32)=32::a
 |[],a,_=>by simp
 |x::w,a,h=>by
  have hx:(x !=32)=true:=bne_iff_ne.2 (h x (List.mem_cons_self ..))
  have ih:=takeWhile_word w a (fun y hy=>h y (List.mem_cons_of_mem _ hy))
  rw[List.cons_append,List.takeWhile_cons,List.dropWhile_cons,if_pos hx,if_pos hx,ih.1,ih.2]
  exact⟨rfl,rfl⟩
theorem line_read (w a:LU) (h:∀ x∈w,x≠32):nameS (w++32::a)=w∧argS (w++32::a)=a:=by
 unfold nameS argS
 rw[(takeWhile_word w a h).1,(takeWhile_word w a h).2]
 exact⟨rfl,rfl⟩
def Runs (l:LL) (c:ConfE) (seen:LL) (c':ConfE) (seen':LL):Prop:=∀ r i,∃ i',goC (l++r) i c seen (-1)=goC r i' c' seen' (-1)
theorem Runs.nil (c:ConfE) (seen:LL):Runs [] c seen c seen:=fun _ i=>⟨i,rfl⟩
theorem Runs.app {l m:LL} {c c1 c2:ConfE} {s s1 s2:LL} (h:Runs l c s c1 s1) (g:Runs m c1 s1 c2 s2):Runs (l++m) c s c2 s2:=fun r i=>by
 obtain⟨i1,h1⟩:=h (m++r) i
 obtain⟨i2,h2⟩:=g r i1
 exact⟨i2,by rw[List.append_assoc,h1,h2]⟩
theorem Runs.one {w:LU} {k:Kind} (hw:∀ x∈w,x≠32) (hk:kindOf w=some k) (a:LU) (c:ConfE) (seen:LL) (ha:a≠[]) (hok:(takeK k a c).2=true) (hs:onceK k=true→w ∉ seen):Runs [w++32::a] c seen (takeK k a c).1 (w::seen):=fun r i=>by
 refine⟨i+1,?_⟩
 obtain⟨h1,h2⟩:=line_read w a hw
 rw[List.singleton_append,goC,h1,hk]
 simp only[h2]
 rw[if_neg ha,if_pos hok,if_neg]
 intro h
 simp only[Bool.and_eq_true,List.contains_iff_mem] at h
 exact hs h.1.2 h.1.1
theorem Runs.line {w:LU} {k:Kind} (hw:∀ x∈w,x≠32) (hk:kindOf w=some k) (a:LU) (c c':ConfE) (seen:LL) (he:a=[]→c'=c) (ht:a≠[]→takeK k a c=(c',true)) (hs:onceK k=true→w ∉ seen):
  ∃ seen',Runs (Cfg.line w a) c seen c' seen'∧∀ x∈seen',x=w∨x∈seen:=by
 unfold Cfg.line
 by_cases ha:a=[]
 ·rw[if_pos ha,he ha]
  exact⟨seen,Runs.nil _ _,fun x hx=> .inr hx⟩
 ·rw[if_neg ha]
  have h:=Runs.one hw hk a c seen ha (by rw[ht ha]) hs
  rw[ht ha] at h
  exact⟨_,h,fun x hx=>by simpa using hx⟩
theorem Runs.lines {w:LU} {k:Kind} (hw:∀ x∈w,x≠32) (hk:kindOf w=some k) (ho:onceK k=false) (F:ConfE→LU→ConfE):∀ (l:LL) (c:ConfE) (seen:LL),(∀ a∈l,a≠[]∧∀ c,takeK k a c=(F c a,true))→
  ∃ seen',Runs (Cfg.lines w l) c seen (l.foldl F c) seen'∧∀ x∈seen',x=w∨x∈seen
 |[],c,seen,_=>⟨seen,Runs.nil _ _,fun x hx=> .inr hx⟩
 |a::l,c,seen,h=>by
  obtain⟨ha,ht⟩:=h a (List.mem_cons_self ..)
  obtain⟨s1,h1,m1⟩:=Runs.line hw hk a c (F c a) seen (fun e=>absurd e ha) (fun _=>ht c) (fun e=>by rw[ho] at e;cases e)
  obtain⟨s2,h2,m2⟩:=Runs.lines hw hk ho F l (F c a) s1 (fun b hb=>h b (List.mem_cons_of_mem _ hb))
  refine⟨s2,?_,fun x hx=>?_⟩
  ·show Runs (Cfg.line w a++Cfg.lines w l) c seen _ s2
   exact h1.app h2
  ·rcases m2 x hx with h|h
   ·exact .inl h
   ·exact m1 x h
structure Good (c:ConfE):Prop where
 size:0≤c.size∧c.size≤2147483647
 attrs:∀ a∈c.attrs,a≠[]
 classes:∀ a∈c.classes,a≠[]
 acls:∀ a∈c.acls,a≠[]
 indexes:∀ x∈c.indexes,textI x≠[]∧indexS (textI x)=(x,true)
 refs:∀ a∈c.refs,a≠[]∧zc_ a=true
 unique:∀ a∈c.unique,a≠[]∧zc_ a=true
theorem line_le (w a:LU):(line w a).length≤1:=by
 unfold line
 split<;>simp
theorem lines_snoc (w:LU) (l:LL) (a:LU):(lines w (l++[a])).length≤(lines w l).length+1:=by
 unfold lines
 rw[List.flatMap_append,List.length_append]
 have:=line_le w a
 simp only[List.flatMap_cons,List.flatMap_nil,List.append_nil]
 omega
theorem onL_le (w:LU) (b:Bool):(onL w b).length≤1:=by
 unfold onL
 cases b
 ·simp
 ·exact line_le w onB
theorem sizeL_le (n:Int):(sizeL n).length≤1:=by
 unfold sizeL
 split
 ·simp
 ·exact line_le _ _
theorem raw_take (k:Kind) (a:LU) (c:ConfE):(rawP (takeK k a c).1).length≤(rawP c).length+1:=by
 have h1:=fun w (x:LU)=>line_le w x
 have h2:=fun w (l:LL)=>lines_snoc w l
 have h3:=fun w b=>onL_le w b
 cases k<;>simp only[takeK,rawP,List.length_append,List.map_append,List.map_cons,List.map_nil]
 ·have:=h1 wSuffix a;omega
 ·have:=h1 wRoot a;omega
 ·have:=h1 wSecret a;omega
 ·have:=sizeL_le (numS a).1;omega
 ·have:=h2 wAttr c.attrs a;omega
 ·have:=h2 wClass c.classes a;omega
 ·have:=h2 wAcl c.acls a;omega
 ·have:=h2 wIndex (c.indexes.map textI) (textI (indexS a).1);omega
 ·have:=h3 wMember (flagS a).1;omega
 ·have:=h3 wAudit (flagS a).1;omega
 ·have:=h2 wRef c.refs a;omega
 ·have:=h2 wUnique c.unique a;omega
theorem numS_range (s:LU) (h:(numS s).2=true):0≤(numS s).1∧(numS s).1≤2147483647:=by
 unfold numS at h ⊢
 split at h
 ·cases h
 ·next hn=>
  rw[if_neg hn]
  have:=of_decide_eq_true h
  simp only
  omega
theorem index_again (s:LU) (x:IndexE) (hs:s≠[]) (h:indexS s=(x,true)):textI x≠[]∧indexS (textI x)=(x,true):=by
 have h2:textI x=s:=by
  unfold indexS indexI at h
  simp only[Prod.mk.injEq,Bool.and_eq_true,beq_iff_eq] at h
  rw[h.1] at h
  exact h.2.2
 rw[h2]
 exact⟨hs,h⟩
theorem good_take (k:Kind) (a:LU) (c:ConfE) (h:Good c) (ha:a≠[]) (hok:(takeK k a c).2=true):Good (takeK k a c).1:=by
 have snoc:∀ {α:Type} {l:List α} {x:α} {P:α→Prop},(∀ y∈l,P y)→P x→∀ y∈l++[x],P y:=fun h1 h2 y hy=>by
  rcases List.mem_append.1 hy with hy|hy
  ·exact h1 y hy
  ·rw[List.mem_singleton.1 hy];exact h2
 cases k<;>simp only[takeK] at hok ⊢
 ·exact⟨h.size,h.attrs,h.classes,h.acls,h.indexes,h.refs,h.unique⟩
 ·exact⟨h.size,h.attrs,h.classes,h.acls,h.indexes,h.refs,h.unique⟩
 ·exact⟨h.size,h.attrs,h.classes,h.acls,h.indexes,h.refs,h.unique⟩
 ·exact⟨numS_range a hok,h.attrs,h.classes,h.acls,h.indexes,h.refs,h.unique⟩
 ·exact⟨h.size,snoc h.attrs ha,h.classes,h.acls,h.indexes,h.refs,h.unique⟩
 ·exact⟨h.size,h.attrs,snoc h.classes ha,h.acls,h.indexes,h.refs,h.unique⟩
 ·exact⟨h.size,h.attrs,h.classes,snoc h.acls ha,h.indexes,h.refs,h.unique⟩
 ·exact⟨h.size,h.attrs,h.classes,h.acls,snoc h.indexes (index_again a _ ha (by rw[← hok])),h.refs,h.unique⟩
 ·exact⟨h.size,h.attrs,h.classes,h.acls,h.indexes,h.refs,h.unique⟩
 ·exact⟨h.size,h.attrs,h.classes,h.acls,h.indexes,h.refs,h.unique⟩
 ·exact⟨h.size,h.attrs,h.classes,h.acls,h.indexes,snoc h.refs ⟨ha,hok⟩,h.unique⟩
 ·exact⟨h.size,h.attrs,h.classes,h.acls,h.indexes,h.refs,snoc h.unique ⟨ha,hok⟩⟩
theorem go_good:∀ (l:LL) (i:Nat) (c:ConfE) (seen:LL) (tw:Int) (d:ConfE) (at':Int),goC l i c seen tw=(d,0,at')→Good c→(rawP c).length≤i→Good d∧(rawP d).length≤i+l.length
 |[],i,c,seen,tw,d,at',h,hg,hl=>by
  unfold goC at h
  split at h
  ·cases h
  ·cases h;exact⟨hg,hl⟩
 |v::l,i,c,seen,tw,d,at',h,hg,hl=>by
  unfold goC at h
  split at h
  ·cases h
  ·next k hk=>
   split at h
   ·cases h
   ·next ha=>
    split at h
    ·next hok=>
     have hr:=raw_take k (argS v) c
     have:=go_good l (i+1) _ _ _ d at' h (good_take k (argS v) c hg ha hok) (by omega)
     exact⟨this.1,by rw[List.length_cons];omega⟩
    ·cases h
theorem good_zero:Good zeroC:=⟨⟨by decide,by decide⟩,fun a h=>(by cases h),fun a h=>(by cases h),fun a h=>(by cases h),fun a h=>(by cases h),fun a h=>(by cases h),fun a h=>(by cases h)⟩
end Go.Proofs.YtakfpngfpknedaaGreatDoor.Cfg
namespace Go.Proofs.YtakfpngfpknedaaGreatDoor.Cfg
structure Lim (m:Nat) (c:ConfE):Prop where
 suffix:c.suffix.length≤m
 root:c.root.length≤m
 secret:c.secret.length≤m
 attrs:∀ a∈c.attrs,a.length≤m
 classes:∀ a∈c.classes,a.length≤m
 acls:∀ a∈c.acls,a.length≤m
 indexes:∀ x∈c.indexes,x.typ.length≤m
 refs:∀ a∈c.refs,a.length≤m
 unique:∀ a∈c.unique,a.length≤m
theorem Lim.mono {m n:Nat} {c:ConfE} (h:Lim m c) (hm:m≤n):Lim n c:=
 ⟨nT h.suffix hm,nT h.root hm,nT h.secret hm,fun a ha=>nT (h.attrs a ha) hm,fun a ha=>nT (h.classes a ha) hm,fun a ha=>nT (h.acls a ha) hm,fun a ha=>nT (h.indexes a ha) hm,fun a ha=>nT (h.refs a ha) hm,fun a ha=>nT (h.unique a ha) hm⟩
def countE (c:ConfE):Nat:=c.attrs.length+c.classes.length+c.acls.length+c.refs.length+c.unique.length+c.indexes.length
theorem lines_le (w:LU):∀ l:LL,(lines w l).length≤l.length
 |[]=>nR _
 |a::l=>by
  have h1:=line_le w a
  have h2:=lines_le w l
  show (line w a++lines w l).length≤_
  rw[List.length_append,List.length_cons]
  omega
theorem rawP_count (c:ConfE):(rawP c).length≤countE c+6:=by
 have h1:=line_le wSuffix c.suffix
 have h2:=line_le wRoot c.root
 have h3:=line_le wSecret c.secret
 have h4:=sizeL_le c.size
 have h5:=lines_le wAttr c.attrs
 have h6:=lines_le wClass c.classes
 have h7:=lines_le wAcl c.acls
 have h8:=lines_le wIndex (c.indexes.map textI)
 have h9:=onL_le wMember c.memberof
 have h10:=onL_le wAudit c.audit
 have h11:=lines_le wRef c.refs
 have h12:=lines_le wUnique c.unique
 rw[List.length_map] at h8
 unfold rawP countE
 simp only[List.length_append]
 omega
theorem line_long {w a s:LU} (h:s∈line w a):s.length≤w.length+a.length+1:=by
 unfold line at h
 split at h
 ·cases h
 ·rw[List.mem_singleton.1 h,List.length_append,List.length_cons]
  omega
theorem lines_long {w s:LU} {m:Nat} {l:LL} (hl:∀ a∈l,a.length≤m) (h:s∈lines w l):s.length≤w.length+m+1:=by
 obtain⟨a,ha,hs⟩:=List.mem_flatMap.1 h
 have:=line_long hs
 have:=hl a ha
 omega
theorem textI_long (x:IndexE):(textI x).length≤x.typ.length+21:=by
 unfold textI
 split
 ·simp
 ·have:=kindsI_join x
  rw[List.length_append,List.length_cons]
  omega
theorem nDigits_ten:∀ (k u:Nat),u<10 ^ k→(Lib.decDigits u).length≤k+1
 |0,u,h=>by
  have h1:u<1:=h
  rw[Lib.decDigits_length,Lib.nDigits_small (by omega)]
  exact nR _
 |k+1,u,h=>by
  rw[Lib.decDigits_length]
  by_cases hu:u<10
  ·rw[Lib.nDigits_small hu];omega
  ·rw[Lib.nDigits_big hu]
   have:=nDigits_ten k (u / 10) (by rw[Nat.pow_succ] at h;omega)
   rw[Lib.decDigits_length] at this
   omega
theorem itoa_long (n:Int) (h0: -9223372036854775808≤n) (h1:n≤9223372036854775807):(Lib.itoa n).length≤22:=by
 have hp:(10:Nat) ^ 20=100000000000000000000:=by decide
 unfold Lib.itoa
 split
 ·have:=nDigits_ten 20 n.natAbs (by omega)
  simp only[List.length_cons]
  omega
 ·have:=nDigits_ten 20 n.toNat (by omega)
  omega
theorem onL_long {w s:LU} {b:Bool} (h:s∈onL w b):s.length≤w.length+3:=by
 unfold onL at h
 split at h
 ·have:=line_long h
  have e:onB.length=2:=rfl
  omega
 ·cases h
theorem rawP_long {m:Nat} {c:ConfE} (hc:Lim m c) (h0: -9223372036854775808≤c.size) (h1:c.size≤9223372036854775807):∀ s∈rawP c,s.length≤m+40:=by
 intro s hs
 unfold rawP at hs
 simp only[List.mem_append] at hs
 have b:∀ w∈[wSuffix,wRoot,wSecret,wSize,wAttr,wClass,wAcl,wIndex,wMember,wAudit,wRef,wUnique],w.length≤8:=by decide
 rcases hs with h|h|h|h|h|h|h|h|h|h|h|h
 ·have:=line_long h;have:=hc.suffix;have:=b wSuffix (by decide);omega
 ·have:=line_long h;have:=hc.root;have:=b wRoot (by decide);omega
 ·have:=line_long h;have:=hc.secret;have:=b wSecret (by decide);omega
 ·unfold sizeL at h
  split at h
  ·cases h
  ·have:=line_long h;have:=itoa_long c.size h0 h1;have:=b wSize (by decide);omega
 ·have:=lines_long hc.attrs h;have:=b wAttr (by decide);omega
 ·have:=lines_long hc.classes h;have:=b wClass (by decide);omega
 ·have:=lines_long hc.acls h;have:=b wAcl (by decide);omega
 ·have:=lines_long (m:=m+21) (fun a ha=>by
   obtain⟨x,hx,rfl⟩:=List.mem_map.1 ha
   have:=textI_long x
   have:=hc.indexes x hx
   omega) h
  have:=b wIndex (by decide)
  omega
 ·have:=onL_long h;have:=b wMember (by decide);omega
 ·have:=onL_long h;have:=b wAudit (by decide);omega
 ·have:=lines_long hc.refs h;have:=b wRef (by decide);omega
 ·have:=lines_long hc.unique h;have:=b wUnique (by decide);omega
/-! What settings say is no longer than they. -/
theorem argS_le (s:LU):(argS s).length≤s.length:=by
 unfold argS
 have h1:=List.length_drop (i:=1) (l:=s.dropWhile (· !=32))
 have h2:(s.dropWhile (· !=32)).length≤s.length:=(List.dropWhile_sublist _).length_le
 omega
theorem nameS_le (s:LU):(nameS s).length≤s.length:=(List.takeWhile_sublist _).length_le
theorem step_typ (l:LL):∀ x:IndexE,(l.foldl stepI x).typ=x.typ:=by
 induction l with
 |nil=>intro x;rfl
 |cons k l ih=>
  intro x
  rw[List.foldl_cons,ih]
  unfold stepI
  split
  ·rfl
  ·split
   ·rfl
   ·split<;>rfl
theorem indexS_typ (s:LU):(indexS s).1.typ=nameS s:=by
 unfold indexS indexI
 exact step_typ _ _
theorem lim_take (k:Kind) (a:LU) (c:ConfE) (m:Nat) (h:Lim m c) (ha:a.length≤m):Lim m (takeK k a c).1:=by
 have snoc:∀ {l:LL},(∀ y∈l,y.length≤m)→∀ y∈l++[a],y.length≤m:=fun h1 y hy=>by
  rcases List.mem_append.1 hy with hy|hy
  ·exact h1 y hy
  ·rw[List.mem_singleton.1 hy];exact ha
 cases k<;>simp only[takeK]
 ·exact⟨ha,h.root,h.secret,h.attrs,h.classes,h.acls,h.indexes,h.refs,h.unique⟩
 ·exact⟨h.suffix,ha,h.secret,h.attrs,h.classes,h.acls,h.indexes,h.refs,h.unique⟩
 ·exact⟨h.suffix,h.root,ha,h.attrs,h.classes,h.acls,h.indexes,h.refs,h.unique⟩
 ·exact⟨h.suffix,h.root,h.secret,h.attrs,h.classes,h.acls,h.indexes,h.refs,h.unique⟩
 ·exact⟨h.suffix,h.root,h.secret,snoc h.attrs,h.classes,h.acls,h.indexes,h.refs,h.unique⟩
 ·exact⟨h.suffix,h.root,h.secret,h.attrs,snoc h.classes,h.acls,h.indexes,h.refs,h.unique⟩
 ·exact⟨h.suffix,h.root,h.secret,h.attrs,h.classes,snoc h.acls,h.indexes,h.refs,h.unique⟩
 ·refine⟨h.suffix,h.root,h.secret,h.attrs,h.classes,h.acls,fun y hy=>?_,h.refs,h.unique⟩
  rcases List.mem_append.1 hy with hy|hy
  ·exact h.indexes y hy
  ·rw[List.mem_singleton.1 hy,indexS_typ]
   have:=nameS_le a
   omega
 ·exact⟨h.suffix,h.root,h.secret,h.attrs,h.classes,h.acls,h.indexes,h.refs,h.unique⟩
 ·exact⟨h.suffix,h.root,h.secret,h.attrs,h.classes,h.acls,h.indexes,h.refs,h.unique⟩
 ·exact⟨h.suffix,h.root,h.secret,h.attrs,h.classes,h.acls,h.indexes,snoc h.refs,h.unique⟩
 ·exact⟨h.suffix,h.root,h.secret,h.attrs,h.classes,h.acls,h.indexes,h.refs,snoc h.unique⟩
theorem count_take (k:Kind) (a:LU) (c:ConfE):countE (takeK k a c).1≤countE c+1:=by
 cases k<;>simp only[takeK,countE,List.length_append,List.length_cons,List.length_nil]<;>omega
theorem lim_zero (m:Nat):Lim m zeroC:=⟨Nat.zero_le _,Nat.zero_le _,Nat.zero_le _,fun a h=>(by cases h),fun a h=>(by cases h),fun a h=>(by cases h),fun a h=>(by cases h),fun a h=>(by cases h),fun a h=>(by cases h)⟩
theorem size_take (k:Kind) (a:LU) (c:ConfE) (h:0≤c.size∧c.size≤2147483647) (hok:(takeK k a c).2=true):0≤(takeK k a c).1.size∧(takeK k a c).1.size≤2147483647:=by
 cases k<;>simp only[takeK] at hok ⊢
 case size=>exact numS_range a hok
 all_goals exact h
theorem lim_go (m:Nat):∀ (l:LL) (i:Nat) (c:ConfE) (seen:LL) (tw:Int),(∀ s∈l,s.length≤m)→Lim m c→0≤c.size∧c.size≤2147483647→
  Lim m (goC l i c seen tw).1∧countE (goC l i c seen tw).1≤countE c+l.length∧0≤(goC l i c seen tw).1.size∧(goC l i c seen tw).1.size≤2147483647
 |[],i,c,seen,tw,_,h,hz=>by
  unfold goC
  split
  ·exact⟨lim_zero m,Nat.zero_le _,Int.le_refl _,by show (0:Int)≤_;omega⟩
  ·exact⟨h,nR _,hz⟩
 |v::l,i,c,seen,tw,hl,h,hz=>by
  unfold goC
  have zero:Lim m zeroC∧countE zeroC≤countE c+(v::l).length∧0≤zeroC.size∧zeroC.size≤2147483647:=⟨lim_zero m,Nat.zero_le _,Int.le_refl _,by show (0:Int)≤_;omega⟩
  split
  ·exact zero
  ·next k _=>
   split
   ·exact zero
   ·split
    ·next hok=>
     have hv:=hl v (List.mem_cons_self ..)
     have ha:=argS_le v
     have hc:=count_take k (argS v) c
     obtain⟨h1,h2,h3⟩:=lim_go m l (i+1) _ (nameS v::seen) (if seen.contains (nameS v) && onceK k && decide (tw<0) then (i:Int) else tw) (fun s hs=>hl s (List.mem_cons_of_mem _ hs)) (lim_take k (argS v) c m h (by omega)) (size_take k (argS v) c hz hok)
     exact⟨h1,by rw[List.length_cons];omega,h3⟩
    ·exact zero
theorem lim_parse (m:Nat) (l:LL) (hl:∀ s∈l,s.length≤m):Lim m (parseC l).1∧countE (parseC l).1≤200∧0≤(parseC l).1.size∧(parseC l).1.size≤2147483647:=by
 unfold parseC
 split
 ·exact⟨lim_zero m,Nat.zero_le _,by decide,by decide⟩
 ·obtain⟨h1,h2,h3⟩:=lim_go m l 0 zeroC [] (-1) hl (lim_zero m) ⟨by decide,by decide⟩
  refine⟨h1,?_,h3⟩
  have e:countE zeroC=0:=rfl
  omega
end Go.Proofs.YtakfpngfpknedaaGreatDoor.Cfg
set_option linter.all false
namespace Go.Proofs.YtakfpngfpknedaaGreatDoor
open Go.RowKit
theorem zby_ (W:World) (a b:Cfg.IndexE):(binOp .neq 63 (.agg #[.string ⟨a.typ.toArray⟩,.bool a.eq,.bool a.pres,.bool a.sub]) (.agg #[.string ⟨b.typ.toArray⟩,.bool b.eq,.bool b.pres,.bool b.sub])).run Tryz.prog W= .ok (.bool (!decide (a=b))) W:=by
 have h:(Op.equalIn 10000 63 (.agg #[.string ⟨a.typ.toArray⟩,.bool a.eq,.bool a.pres,.bool a.sub]) (.agg #[.string ⟨b.typ.toArray⟩,.bool b.eq,.bool b.pres,.bool b.sub])).run Tryz.prog W= .ok (decide (a=b)) W:=eq_ixV W a b
 rw[run_neq_struct,h]
 rfl
def IdxW (w:World) (v:Value) (xs:List Cfg.IndexE):Prop:=∃ A c,v= .slice A xs.length c∧xs.length≤c∧∀ j (hj:j<xs.length),∃ b o,A=some ⟨b,o,none⟩∧w.cell? ⟨b,o+j * 4,none⟩=some (.string ⟨xs[j].typ.toArray⟩)∧w.cell? ⟨b,o+j * 4+1,none⟩=some (.bool xs[j].eq)∧w.cell? ⟨b,o+j * 4+2,none⟩=some (.bool xs[j].pres)∧w.cell? ⟨b,o+j * 4+3,none⟩=some (.bool xs[j].sub)
theorem ix_at (xs:List Cfg.IndexE) (j:Nat) (hj:j<xs.length):(xs.flatMap zr_)[j * 4]?=some (.string ⟨xs[j].typ.toArray⟩)∧(xs.flatMap zr_)[j * 4+1]?=some (.bool xs[j].eq)∧(xs.flatMap zr_)[j * 4+2]?=some (.bool xs[j].pres)∧(xs.flatMap zr_)[j * 4+3]?=some (.bool xs[j].sub):=by
 have hk:∀ k,k<4→(xs.flatMap zr_)[j * 4+k]?=(zr_ xs[j])[k]?:=by
  intro k hk
  obtain⟨l,r,hlr,hl⟩:∃ l r,xs=l++xs[j]::r∧l.length=j:=⟨xs.take j,xs.drop (j+1),by rw[← List.drop_eq_getElem_cons hj,List.take_append_drop],by rw[List.length_take];omega⟩
  have e:xs.flatMap zr_=l.flatMap zr_++(zr_ xs[j]++r.flatMap zr_):=by
   conv=>lhs;rw[hlr]
   rw[List.flatMap_append,List.flatMap_cons]
  rw[e,List.getElem?_append_right (by rw[z76_,hl];omega),z76_,hl,show j * 4+k - j * 4=k by omega,List.getElem?_append_left (by simpa [zr_] using hk)]
 exact⟨by simpa [zr_] using hk 0 (by omega),by simpa [zr_] using hk 1 (by omega),by simpa [zr_] using hk 2 (by omega),by simpa [zr_] using hk 3 (by omega)⟩
theorem IdxA.w {w:World} {v:Value} {xs:List Cfg.IndexE} (h:IdxA w v xs):IdxW w v xs:=by
 rcases h with ⟨rfl,rfl⟩|⟨b,o,c,rfl,hc,hx⟩
 ·exact⟨none,0,rfl,nR _,fun j hj=>absurd hj (by simp)⟩
 ·refine⟨_,c,rfl,hc,fun j hj=>⟨b,o,rfl,?_⟩⟩
  obtain⟨h0,h1,h2,h3⟩:=ix_at xs j hj
  exact⟨hx _ _ h0,hx _ _ h1,hx _ _ h2,hx _ _ h3⟩
theorem IdxW.below {w w':World} {v:Value} {xs:List Cfg.IndexE} (h:IdxW w v xs) (hb:Bel w w'):IdxW w' v xs:=by
 obtain⟨A,c,rfl,hc,hx⟩:=h
 refine⟨A,c,rfl,hc,fun j hj=>?_⟩
 obtain⟨b,o,hA,h0,h1,h2,h3⟩:=hx j hj
 exact⟨b,o,hA,cQ hb h0,cQ hb h1,cQ hb h2,cQ hb h3⟩
def ConfW (w:World) (v:Value) (c:Cfg.ConfE):Prop:=∃ va vc vl vi vr vu,v=jw_ c va vc vl vi vr vu∧TextsA w va c.attrs∧TextsA w vc c.classes∧TextsA w vl c.acls∧IdxW w vi c.indexes∧TextsA w vr c.refs∧TextsA w vu c.unique
theorem ConfA.w {w:World} {v:Value} {c:Cfg.ConfE} (h:ConfA w v c):ConfW w v c:=by
 obtain⟨va,vc,vl,vi,vr,vu,rfl,h1,h2,h3,h4,h5,h6⟩:=h
 exact⟨va,vc,vl,vi,vr,vu,rfl,h1,h2,h3,h4.w,h5,h6⟩
theorem ConfW.below {w w':World} {v:Value} {c:Cfg.ConfE} (h:ConfW w v c) (hb:Bel w w'):ConfW w' v c:=by
 obtain⟨va,vc,vl,vi,vr,vu,rfl,h1,h2,h3,h4,h5,h6⟩:=h
 exact⟨va,vc,vl,vi,vr,vu,rfl,h1.below hb,h2.below hb,h3.below hb,h4.below hb,h5.below hb,h6.below hb⟩
theorem kg_ (xs ys:LL) (v1 v2:Value) (w:World) (hv1:TextsA w v1 xs) (hv2:TextsA w v2 ys) (hl:xs.length≤1000000000):
  Calls Tryz.prog 63 #[v1,v2] w fun e w'=>e= .returned (.bool (decide (xs=ys)))∧∃ m,w'=w.drewN m:=by
 obtain⟨A1,c1,rfl,hc1,hx1⟩:=hv1.at
 obtain⟨A2,c2,rfl,hc2,hx2⟩:=hv2.at
 have H1:=hiD hx1
 have H2:=hiD hx2
 obtain⟨R,hR⟩:∃ R,decide (xs=ys)=R:=⟨_,rfl⟩
 rw[hR]
 have HR:=hiD hR
 clear hx1 hx2 hv1 hv2 hR
 by_cases hle:xs.length=ys.length
 ·have hself:((xs.length:Int) !=(ys.length:Int))=false:=by rw[hle];simp
  go_enter Tryz.func63,Tryz.ntmps63
  go_wp2_with fail
  go_loopg [13] xs.length (fun gk i wr=>∃ k n:Nat,k≤xs.length∧i= .int .i64 k∧Aside (k+gk=xs.length)∧wr=w.drewN n∧Aside (xs.take k=ys.take k))
  case atStart=>exact⟨0,0,by omega,rfl,by show _=_;omega,rfl,rfl⟩
  case round=>
   obtain⟨k,n,hk,rfl,AG,rfl,AE⟩:=hrel
   by_cases hlt:k<xs.length
   ·obtain⟨gq,rfl⟩:∃ q,gk=q+1:=⟨gk - 1,by have:=AG.out;omega⟩
    obtain⟨p1,rfl,d1⟩:=H1.out k hlt
    obtain⟨p2,rfl,d2⟩:=H2.out k (by omega)
    have hki:(k:Int)<(xs.length:Int):=by omega
    have hki2:(k:Int)<(ys.length:Int):=by omega
    by_cases he:xs[k]=ys[k]'(by omega)
    ·have AE2:Aside (xs.take (k+1)=ys.take (k+1)):=by
      show _=_
      rw[List.take_succ_eq_append_getElem hlt,List.take_succ_eq_append_getElem (by omega),AE.out,he]
     rw[he] at d1
     generalize ys[k]'(by omega)=t at d1 d2
     go_wp2_with fail
     go_quiet (fail)
     go_wp2_with fail
     go_roundg gq
     case measure=>omega
     case rel=>exact⟨k+1,_,by omega,by go_num,by have:=AG.out;show _=_;omega,rfl,AE2.out⟩
    ·have hno:R=false:=by
      rw[← HR.out,decide_eq_false_iff_not]
      rintro rfl
      exact he rfl
     subst hno
     generalize xs[k]=t1 at *
     generalize ys[k]'(by omega)=t2 at *
     have hbn:(t1==t2)=false:=beq_eq_false_iff_ne.2 he
     go_wp2_with fail
     go_quiet (fail)
     go_wp2_with fail
     go_ret
     exact⟨rfl,n+nq,by rw[World.drewN_drewN]⟩
   ·obtain rfl:k=xs.length:=by omega
    have hyes:R=true:=by
     rw[← HR.out,decide_eq_true_iff]
     have:=AE.out
     rwa [List.take_length,List.take_of_length_le (by omega)] at this
    subst hyes
    go_wp2_with fail
    go_ret
    exact⟨rfl,_,rfl⟩
 ·have hself:((xs.length:Int) !=(ys.length:Int))=true:=by
   rw[bne_iff_ne];omega
  have hno:R=false:=by
   rw[← HR.out,decide_eq_false_iff_not]
   rintro rfl
   exact hle rfl
  subst hno
  go_enter Tryz.func63,Tryz.ntmps63
  go_wp2_with fail
  go_ret
  exact⟨rfl,0,rfl⟩
theorem zia_ (xs ys:List Cfg.IndexE) (v1 v2:Value) (w:World) (hv1:IdxW w v1 xs) (hv2:IdxW w v2 ys) (hl:xs.length≤1000000000):
  Calls Tryz.prog 64 #[v1,v2] w fun e w'=>e= .returned (.bool (decide (xs=ys)))∧∃ m,w'=w.drewN m:=by
 obtain⟨A1,c1,rfl,hc1,hx1⟩:=hv1
 obtain⟨A2,c2,rfl,hc2,hx2⟩:=hv2
 have H1:=hiD hx1
 have H2:=hiD hx2
 obtain⟨R,hR⟩:∃ R,decide (xs=ys)=R:=⟨_,rfl⟩
 rw[hR]
 have HR:=hiD hR
 clear hx1 hx2 hR
 by_cases hle:xs.length=ys.length
 ·have hself:((xs.length:Int) !=(ys.length:Int))=false:=by rw[hle];simp
  go_enter Tryz.func64,Tryz.ntmps64
  go_wp2_with fail
  go_loopg [13] xs.length (fun gk i wr=>∃ k n:Nat,k≤xs.length∧i= .int .i64 k∧Aside (k+gk=xs.length)∧wr=w.drewN n∧Aside (xs.take k=ys.take k))
  case atStart=>exact⟨0,0,by omega,rfl,by show _=_;omega,rfl,rfl⟩
  case round=>
   obtain⟨k,n,hk,rfl,AG,rfl,AE⟩:=hrel
   by_cases hlt:k<xs.length
   ·obtain⟨gq,rfl⟩:∃ q,gk=q+1:=⟨gk - 1,by have:=AG.out;omega⟩
    obtain⟨b1,o1,rfl,d10,d11,d12,d13⟩:=H1.out k hlt
    obtain⟨b2,o2,rfl,d20,d21,d22,d23⟩:=H2.out k (by omega)
    have hk2:k<ys.length:=by omega
    have hEQ:Hid (∀ W:World,(binOp .neq 63 (.agg #[.string ⟨xs[k].typ.toArray⟩,.bool xs[k].eq,.bool xs[k].pres,.bool xs[k].sub]) (.agg #[.string ⟨ys[k].typ.toArray⟩,.bool ys[k].eq,.bool ys[k].pres,.bool ys[k].sub])).run Tryz.prog W= .ok (.bool (!decide (xs[k]=ys[k]))) W):=hiD fun W=>zby_ W xs[k] ys[k]
    have hki:(k:Int)<(xs.length:Int):=by omega
    have hki2:(k:Int)<(ys.length:Int):=by omega
    by_cases he:xs[k]=ys[k]
    ·have AE2:Aside (xs.take (k+1)=ys.take (k+1)):=by
      show _=_
      rw[List.take_succ_eq_append_getElem hlt,List.take_succ_eq_append_getElem (by omega),AE.out,he]
     have hE:=hEQ.out
     rw[decide_eq_true he] at hE
     simp only[Bool.not_true] at hE
     clear he hEQ
     generalize xs[k].typ=ttxs at *
     generalize xs[k].eq=eexs at *
     generalize xs[k].pres=ppxs at *
     generalize xs[k].sub=ssxs at *
     generalize ys[k].typ=ttys at *
     generalize ys[k].eq=eeys at *
     generalize ys[k].pres=ppys at *
     generalize ys[k].sub=ssys at *
     go_wp2_with fail
     go_quiet (fail)
     go_wp2_with fail
     go_roundg gq
     case measure=>omega
     case rel=>exact⟨k+1,_,by omega,by go_num,by have:=AG.out;show _=_;omega,rfl,AE2.out⟩
    ·have hno:R=false:=by
      rw[← HR.out,decide_eq_false_iff_not]
      rintro rfl
      exact he rfl
     subst hno
     have hE:=hEQ.out
     rw[decide_eq_false he] at hE
     simp only[Bool.not_false] at hE
     clear he hEQ
     generalize xs[k].typ=ttxs at *
     generalize xs[k].eq=eexs at *
     generalize xs[k].pres=ppxs at *
     generalize xs[k].sub=ssxs at *
     generalize ys[k].typ=ttys at *
     generalize ys[k].eq=eeys at *
     generalize ys[k].pres=ppys at *
     generalize ys[k].sub=ssys at *
     go_wp2_with fail
     go_quiet (fail)
     go_wp2_with fail
     go_ret
     exact⟨rfl,n+nq,by rw[World.drewN_drewN]⟩
   ·obtain rfl:k=xs.length:=by omega
    have hyes:R=true:=by
     rw[← HR.out,decide_eq_true_iff]
     have:=AE.out
     rwa [List.take_length,List.take_of_length_le (by omega)] at this
    subst hyes
    go_wp2_with fail
    go_ret
    exact⟨rfl,_,rfl⟩
 ·have hself:((xs.length:Int) !=(ys.length:Int))=true:=by
   rw[bne_iff_ne];omega
  have hno:R=false:=by
   rw[← HR.out,decide_eq_false_iff_not]
   rintro rfl
   exact hle rfl
  subst hno
  go_enter Tryz.func64,Tryz.ntmps64
  go_wp2_with fail
  go_ret
  exact⟨rfl,0,rfl⟩
end Go.Proofs.YtakfpngfpknedaaGreatDoor
