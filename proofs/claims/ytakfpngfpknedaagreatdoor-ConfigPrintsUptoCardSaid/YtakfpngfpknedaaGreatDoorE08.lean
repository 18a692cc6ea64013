import Derived.Test.YtakfpngfpknedaaGreatDoorE07
set_option linter.all false
set_option maxHeartbeats 8000000
set_option maxRecDepth 100000
namespace Go.Proofs.YtakfpngfpknedaaGreatDoor.Cfg
open Go.RowKit
structure IndexE where
 typ:LU
 eq:Bool
 pres:Bool
 sub:Bool
deriving DecidableEq
structure ConfE where
 suffix:LU
 root:LU
 secret:LU
 size:Int
 attrs:LL
 classes:LL
 acls:LL
 indexes:List IndexE
 memberof:Bool
 audit:Bool
 refs:LL
 unique:LL
deriving DecidableEq
def zeroC:ConfE:=⟨[],[],[],0,[],[],[],[],false,false,[],[]⟩
instance:Inhabited ConfE:=⟨zeroC⟩
def nameS (s:LU):LU:=s.takeWhile (· !=32)
def argS (s:LU):LU:=(s.dropWhile (· !=32)).drop 1
def digB (c:UInt8):Bool:=decide (48≤c.toNat∧c.toNat≤57)
def valN (s:LU):Nat:=s.foldl (fun n c=>n * 10+(c.toNat - 48)) 0
def numS (s:LU):Int × Bool:=
 if s=[]∨10<s.length∨(1<s.length∧s.headD 0=48)∨s.all digB=false then (0,false)
 else ((valN s:Int),decide (valN s≤2147483647))
def wEq:LU:=[101,113]
def wPres:LU:=[112,114,101,115]
def wSub:LU:=[115,117,98]
def kindsI (x:IndexE):LL:=(if x.eq then [wEq] else [])++(if x.pres then [wPres] else [])++(if x.sub then [wSub] else [])
def textI (x:IndexE):LU:=if kindsI x=[] then [] else x.typ++32::Lib.join (kindsI x) [44]
def stepI (x:IndexE) (k:LU):IndexE:=if k=wEq then {x with eq:=true} else if k=wPres then {x with pres:=true} else if k=wSub then {x with sub:=true} else x
def indexI (s:LU) (ks:LL):IndexE × Bool:=
 let x:=ks.foldl stepI ⟨nameS s,false,false,false⟩
 (x,zc_ (nameS s) && textI x==s)
def onB:LU:=[111,110]
def offB:LU:=[111,102,102]
def flagS (s:LU):Bool × Bool:=(s==onB,s==onB||s==offB)
inductive Kind where
 |suffix|root|secret|size|attr|class|acl|index|memberof|audit|ref|unique
deriving DecidableEq
def kinds:List (LU × Kind):=[
 ([115,117,102,102,105,120],.suffix),
 ([114,111,111,116],.root),
 ([115,101,99,114,101,116],.secret),
 ([115,105,122,101],.size),
 ([97,116,116,114],.attr),
 ([99,108,97,115,115],.class),
 ([97,99,108],.acl),
 ([105,110,100,101,120],.index),
 ([109,101,109,98,101,114,111,102],.memberof),
 ([97,117,100,105,116],.audit),
 ([114,101,102],.ref),
 ([117,110,105,113,117,101],.unique)]
def kindOf (nm:LU):Option Kind:=(kinds.find? (·.1==nm)).map (·.2)
def onceK:Kind→Bool
 | .suffix=>true
 | .root=>true
 | .secret=>true
 | .size=>true
 | .memberof=>true
 | .audit=>true
 |_=>false
def commas:LU→LL
 |[]=>[[]]
 |c::t=>if c==44 then []::commas t else match commas t with
  |[]=>[[c]]
  |x::l=>(c::x)::l
def indexS (s:LU):IndexE × Bool:=indexI s (commas (argS s))
def takeK (k:Kind) (s:LU) (c:ConfE):ConfE × Bool:=match k with
 | .suffix=>({c with suffix:=s},true)
 | .root=>({c with root:=s},true)
 | .secret=>({c with secret:=s},true)
 | .size=>({c with size:=(numS s).1},(numS s).2)
 | .attr=>({c with attrs:=c.attrs++[s]},true)
 | .class=>({c with classes:=c.classes++[s]},true)
 | .acl=>({c with acls:=c.acls++[s]},true)
 | .index=>({c with indexes:=c.indexes++[(indexS s).1]},(indexS s).2)
 | .memberof=>({c with memberof:=(flagS s).1},(flagS s).2)
 | .audit=>({c with audit:=(flagS s).1},(flagS s).2)
 | .ref=>({c with refs:=c.refs++[s]},zc_ s)
 | .unique=>({c with unique:=c.unique++[s]},zc_ s)
def goC:LL→Nat→ConfE→LL→Int→ConfE × Int × Int
 |[],_,c,_,tw=>if 0≤tw then (zeroC,51,tw) else (c,0,0)
 |v::l,i,c,seen,tw=>match kindOf (nameS v) with
  |none=>(zeroC,50,(i:Int))
  |some k=>
   if argS v=[] then (zeroC,50,(i:Int))
   else if (takeK k (argS v) c).2 then
    goC l (i+1) (takeK k (argS v) c).1 (nameS v::seen) (if seen.contains (nameS v) && onceK k && decide (tw<0) then (i:Int) else tw)
   else (zeroC,50,(i:Int))
def parseC (l:LL):ConfE × Int × Int:=if 200<l.length then (zeroC,2,0) else goC l 0 zeroC [] (-1)
def aliveC:LL:=[[115,117,102,102,105,120,32,68,67,61,90],[115,105,122,101,32,49,48],[105,110,100,101,120,32,99,110,32,101,113,44,115,117,98]]
theorem alive_parse:parseC aliveC=(⟨[68,67,61,90],[],[],10,[],[],[],[⟨[99,110],true,false,true⟩],false,false,[],[]⟩,0,0):=by decide+kernel
end Go.Proofs.YtakfpngfpknedaaGreatDoor.Cfg
namespace Go.Proofs.YtakfpngfpknedaaGreatDoor
open Go.RowKit
def zcu_:LU:=[49,46,51,46,54,46,49,46,52,46,49,46,49,52,54,54,46,49,49,53,46,49,50,49,46,49,46]
def zd0_ (n:LU):LU:=
 if n=[52,48] then [111,99,116,101,116,115] else
 if n=[49,53] then [116,101,120,116] else
 if n=[50,54] then [97,115,99,105,105] else
 if n=[50,55] then [105,110,116,101,103,101,114] else
 if n=[55] then [98,111,111,108,101,97,110] else
 if n=[49,50] then [110,97,109,101] else
 if n=[51,56] then [111,105,100] else
 if n=[50,52] then [116,105,109,101] else
 []
def z4d_ (l:LU):LU:=if Lib.hasPrefix l zcu_ then zd0_ (l.drop 27) else []
def z44_ (l:LU):Int:=if z4d_ l=[] then 52 else 0
theorem zca_ (n:LU):n=[52,48]∨n=[49,53]∨n=[50,54]∨n=[50,55]∨n=[55]∨n=[49,50]∨n=[51,56]∨n=[50,52]∨((n==[52,48])=false∧(n==[49,53])=false∧(n==[50,54])=false∧(n==[50,55])=false∧(n==[55])=false∧(n==[49,50])=false∧(n==[51,56])=false∧(n==[50,52])=false∧zd0_ n=[]):=by
 by_cases h0:n=[52,48]
 ·exact .inl h0
 by_cases h1:n=[49,53]
 ·exact .inr (.inl h1)
 by_cases h2:n=[50,54]
 ·exact .inr (.inr (.inl h2))
 by_cases h3:n=[50,55]
 ·exact .inr (.inr (.inr (.inl h3)))
 by_cases h4:n=[55]
 ·exact .inr (.inr (.inr (.inr (.inl h4))))
 by_cases h5:n=[49,50]
 ·exact .inr (.inr (.inr (.inr (.inr (.inl h5)))))
 by_cases h6:n=[51,56]
 ·exact .inr (.inr (.inr (.inr (.inr (.inr (.inl h6))))))
 by_cases h7:n=[50,52]
 ·exact .inr (.inr (.inr (.inr (.inr (.inr (.inr (.inl h7)))))))
 refine .inr (.inr (.inr (.inr (.inr (.inr (.inr (.inr ?_)))))))
 exact⟨beq_eq_false_iff_ne.2 h0,beq_eq_false_iff_ne.2 h1,beq_eq_false_iff_ne.2 h2,beq_eq_false_iff_ne.2 h3,beq_eq_false_iff_ne.2 h4,beq_eq_false_iff_ne.2 h5,beq_eq_false_iff_ne.2 h6,beq_eq_false_iff_ne.2 h7,by unfold zd0_;rw[if_neg h0,if_neg h1,if_neg h2,if_neg h3,if_neg h4,if_neg h5,if_neg h6,if_neg h7]⟩
def strE (s:LU) (e:Int):Value:= .tuple #[.string ⟨s.toArray⟩,.int .i64 e]
theorem zg2_ (l n:LU) (w:World) (hC:Calls Tryz.prog 233 #[.string ⟨l.toArray⟩,.string ⟨#[49,46,51,46,54,46,49,46,52,46,49,46,49,52,54,54,46,49,49,53,46,49,50,49,46,49,46]⟩] w fun e w'=>e= .returned (.tuple #[.string ⟨n.toArray⟩,.bool true])∧w=w'):
  Calls Tryz.prog 189 #[.string ⟨l.toArray⟩] w fun e w'=>e= .returned (strE (zd0_ n) (if zd0_ n=[] then 52 else 0))∧w=w':=by
 rcases zca_ n with rfl|rfl|rfl|rfl|rfl|rfl|rfl|rfl|⟨h0,h1,h2,h3,h4,h5,h6,h7,h8⟩
 all_goals try rw[h8]
 all_goals
  go_enter Tryz.func189,Tryz.ntmps189
  go_wp2_with (go_at_call 233;refine hC.mono ?_;rintro e w1 ⟨rfl,rfl⟩)
  go_ret2
  exact⟨rfl,rfl⟩
theorem zhy_ (l n:LU) (w:World) (hC:Calls Tryz.prog 233 #[.string ⟨l.toArray⟩,.string ⟨#[49,46,51,46,54,46,49,46,52,46,49,46,49,52,54,54,46,49,49,53,46,49,50,49,46,49,46]⟩] w fun e w'=>e= .returned (.tuple #[.string ⟨n.toArray⟩,.bool false])∧w=w'):
  Calls Tryz.prog 189 #[.string ⟨l.toArray⟩] w fun e w'=>e= .returned (strE [] 52)∧w=w':=by
 go_enter Tryz.func189,Tryz.ntmps189
 go_wp2_with (go_at_call 233;refine hC.mono ?_;rintro e w1 ⟨rfl,rfl⟩)
 go_ret2
 exact⟨rfl,rfl⟩
theorem zed_ (l:LU) (w:World):Calls Tryz.prog 189 #[.string ⟨l.toArray⟩] w fun e w'=>e= .returned (strE (z4d_ l) (z44_ l))∧w=w':=by
 have hC:Calls Tryz.prog 233 #[.string ⟨l.toArray⟩,.string ⟨#[49,46,51,46,54,46,49,46,52,46,49,46,49,52,54,54,46,49,49,53,46,49,50,49,46,49,46]⟩] w fun e w'=>e= .returned (.tuple #[.string ⟨(Lib.trimPrefix l zcu_).toArray⟩,.bool (Lib.hasPrefix l zcu_)])∧w=w':=
  (Tryz.strings_CutPrefix ⟨l.toArray⟩ ⟨#[49,46,51,46,54,46,49,46,52,46,49,46,49,52,54,54,46,49,49,53,46,49,50,49,46,49,46]⟩ w).mono fun _ _ h=>⟨h.1,h.2.symm⟩
 unfold z44_ z4d_
 cases hp:Lib.hasPrefix l zcu_
 ·rw[hp] at hC;exact zhy_ l _ w hC
 ·rw[hp] at hC
  have ht:Lib.trimPrefix l zcu_=l.drop 27:=by unfold Lib.trimPrefix;rw[hp];rfl
  rw[ht] at hC
  exact zg2_ l _ w hC
def ym_:LU:=[78,65,77,69]
def yk_:LU:=[68,69,83,67]
def z6k_:LU:=[83,85,80]
def z7f_:LU:=[77,85,83,84]
def zjr_:LU:=[77,65,89]
def qz_:LU:=[69,81,85,65,76,73,84,89]
def j1_:LU:=[79,82,68,69,82,73,78,71]
def ye_:LU:=[83,85,66,83,84,82]
def xm_:LU:=[83,89,78,84,65,88]
def q2_:LU:=[83,73,78,71,76,69,45,86,65,76,85,69]
def zh_:LU:=[78,79,45,85,83,69,82,45,77,79,68,73,70,73,67,65,84,73,79,78]
def kf_:LU:=[85,83,65,71,69]
def y6_:LU:=[65,66,83,84,82,65,67,84]
def jc_:LU:=[83,84,82,85,67,84,85,82,65,76]
def jz_:LU:=[65,85,88,73,76,73,65,82,89]
def zb_:LU:=[100,105,114,101,99,116,111,114,121,79,112,101,114,97,116,105,111,110]
def zl_:LU:=[117,115,101,114,65,112,112,108,105,99,97,116,105,111,110,115]
def kj_:LU:=[97,32,107,105,110,100]
abbrev Wd:=LU × Bool
def zw_ (c:UInt8):Bool:=c==32||c==9||c==10||c==13
def ki_ (c:UInt8):Bool:=c==40||c==41||c==36
def xe_ (c:UInt8):Bool:=zw_ c||ki_ c||c==39
def qx_:Nat→LU→List Wd→Option (List Wd)
 |0,_,acc=>some acc
 |n+1,r,acc=>match r.dropWhile zw_ with
  |[]=>some acc
  |c::t=>
   if c==39 then (if t.contains 39 then qx_ n (t.dropWhile (· !=39)).tail (acc++[(t.takeWhile (· !=39),true)]) else none)
   else if ki_ c then qx_ n t (acc++[([c],false)])
   else qx_ n (t.dropWhile (fun c=>!xe_ c)) (acc++[(c::t.takeWhile (fun c=>!xe_ c),false)])
def yh_ (s:LU):Option (List Wd):=qx_ (s.length+1) s []
def rIs (l:List Wd) (s:LU):Bool:=match l with
 |[]=>false
 |(x,q)::_=>x==s && !q
def ze_ (l:List Wd):Option (LU × List Wd):=match l with
 |[]=>none
 |(x,q)::t=>if q||Lib.contains [40,41,36] x then none else some (x,t)
def q4_ (l:List Wd):Option (LU × List Wd):=match l with
 |[]=>none
 |(x,q)::t=>if q then some (x,t) else none
def xp_ (l:List Wd):Option (LU × List Wd):=match ze_ l with
 |none=>none
 |some (s,t)=>if zc_ s then some (s,t) else none
def ka_ (sign:LU) (one:List Wd→Option (LU × List Wd)) (many:Bool):Nat→List Wd→LL→Option (LL × List Wd)
 |0,_,_=>none
 |n+1,l,acc=>match one l with
  |none=>none
  |some (s,t)=>
   if zc_ s then
    (if !many then some (acc++[s],t)
     else if rIs t [41] then some (acc++[s],t.tail)
     else if sign==[] then ka_ sign one many n t (acc++[s])
     else if rIs t sign then ka_ sign one many n t.tail (acc++[s]) else none)
   else none
def jo_ (sign:LU) (one:List Wd→Option (LU × List Wd)) (l:List Wd):Option (LL × List Wd):=
 ka_ sign one (rIs l [40]) (l.length+1) (if rIs l [40] then l.tail else l) []
structure DefS where
 cls:Bool
 oid:LU
 names:LL
 sup:LL
 must:LL
 may:LL
 form:LU
 eqr:LU
 ordr:LU
 subs:LU
 single:Bool
 fixed:Bool
 oper:Bool
 kind:Int
 deriving DecidableEq
def DefS.new (cls:Bool) (oid:LU):DefS:=⟨cls,oid,[],[],[],[],[],[],[],[],false,false,false,1⟩
def z1t_ (k:Int) (l:List Wd):Option (LU × List Wd):=match ze_ l with
 |none=>none
 |some (s,t)=>match qy_ (z2_ s) with
  |none=>none
  |some x=>if x.2.1==k then some (x.1,t) else none
def z5z_ (d:DefS) (f:LU) (l:List Wd):Option (DefS × List Wd):=
 if f=ym_ then (jo_ [] q4_ l).map fun x=>({d with names:=x.1},x.2)
 else if f=yk_ then (q4_ l).map fun x=>(d,x.2)
 else if f=z6k_ then (jo_ [36] xp_ l).map fun x=>({d with sup:=x.1},x.2)
 else if f=z7f_ then (jo_ [36] xp_ l).map fun x=>({d with must:=x.1},x.2)
 else if f=zjr_ then (jo_ [36] xp_ l).map fun x=>({d with may:=x.1},x.2)
 else none
def z65_ (d:DefS) (f:LU) (l:List Wd):Option (DefS × List Wd):=
 if f=ym_ then (jo_ [] q4_ l).map fun x=>({d with names:=x.1},x.2)
 else if f=yk_ then (q4_ l).map fun x=>(d,x.2)
 else if f=z6k_ then (xp_ l).map fun x=>({d with sup:=[x.1]},x.2)
 else if f=qz_ then (z1t_ 0 l).map fun x=>({d with eqr:=x.1},x.2)
 else if f=j1_ then (z1t_ 1 l).map fun x=>({d with ordr:=x.1},x.2)
 else if f=ye_ then (z1t_ 2 l).map fun x=>({d with subs:=x.1},x.2)
 else if f=xm_ then (match ze_ l with
  |none=>none
  |some (s,t)=>if z44_ s==0 then some ({d with form:=z4d_ s},t) else none)
 else if f=q2_ then some ({d with single:=true},l)
 else if f=zh_ then some ({d with fixed:=true},l)
 else if f=kf_ then (match ze_ l with
  |none=>none
  |some (s,t)=>if s==zb_||s==zl_ then some ({d with oper:=s==zb_},t) else none)
 else none
def qg_ (d:DefS) (f:LU) (l:List Wd):Option (DefS × List Wd):=if d.cls then z5z_ d f l else z65_ d f l
def yl_ (s:LU):Int:=if s=y6_ then 0 else if s=jc_ then 1 else if s=jz_ then 2 else -1
def xy_:Nat→DefS→LL→List Wd→Option DefS
 |0,_,_,_=>none
 |n+1,d,seen,l=>
  if rIs l [41] then (if l.tail=[] then some d else none)
  else match ze_ l with
   |none=>none
   |some (f,t)=>
    if d.cls && decide (0≤yl_ f) then (if seen.contains kj_ then none else xy_ n {d with kind:=yl_ f} (kj_::seen) t)
    else if seen.contains f then none
    else match qg_ d f t with
     |none=>none
     |some (d',t')=>xy_ n d' (f::seen) t'
def z33_ (s:LU):Bool:=match s with
 |[]=>false
 |c::_=>48≤c && c≤57
def zb7_ (s:LU) (cls:Bool):Option DefS:=match yh_ s with
 |none=>none
 |some l=>if rIs l [40] then (match ze_ l.tail with
  |none=>none
  |some (oid,t)=>if zc_ oid && z33_ oid then xy_ (t.length+1) (DefS.new cls oid) [] t else none) else none
def DefS.keys (d:DefS):List (Bool × LU):=(d.oid::d.names).map fun n=>(d.cls,z2_ n)
def kv_:List (Bool × LU)→List (Bool × LU)→Bool
 |_,[]=>true
 |M,k::ks=>!M.contains k && kv_ (M++[k]) ks
def zk_ (L:List DefS) (cls:Bool) (n:LU):Option Nat:=L.findIdx? fun d=>d.keys.contains (cls,z2_ n)
def q8_:Nat→Nat→LL→List DefS→(Int × Nat) ⊕ List DefS
 |_,_,[],L=> .inr L
 |na,i,s::rest,L=>match zb7_ s (decide (na≤i)) with
  |none=> .inl (50,i)
  |some d=>if kv_ (L.flatMap DefS.keys) d.keys then q8_ na (i+1) rest (L++[d]) else .inl (51,i)
def xb_ (L:List DefS) (d:DefS):Bool:=d.sup.all (fun n=>(zk_ L d.cls n).isSome) && d.must.all (fun n=>(zk_ L false n).isSome) && d.may.all (fun n=>(zk_ L false n).isSome)
def qr_ (L:List DefS):Nat→Nat→List Nat→List Nat
 |0,_,l=>l
 |n+1,i,l=>if l.contains i then l else match L[i]? with
  |none=>l++[i]
  |some d=>d.sup.foldl (fun l nm=>match zk_ L d.cls nm with
   |none=>l
   |some j=>qr_ L n j l) (l++[i])
def vk_ (L:List DefS) (i:Nat) (l:List Nat):List Nat:=qr_ L (L.length+1) i l
def yj_ (L:List DefS) (i:Nat):Bool:=(vk_ L i []).any fun a=>match L[a]? with
 |none=>false
 |some d=>d.sup.any fun n=>zk_ L d.cls n==some i
def DefS.name (d:DefS):LU:=match d.names with
 |[]=>d.oid
 |n::_=>n
structure AttrS where
 oid:LU
 name:LU
 sup:LU
 names:LL
 form:LU
 eqr:LU
 ordr:LU
 subs:LU
 single:Bool
 fixed:Bool
 oper:Bool
 deriving DecidableEq
def DefS.attr (d:DefS):AttrS:=⟨d.oid,d.name,[],d.names,d.form,d.eqr,d.ordr,d.subs,d.single,d.fixed,d.oper⟩
def orL (a b:LU):LU:=if a=[] then b else a
def AttrS.under (a up:AttrS):AttrS:={a with sup:=up.name,form:=orL a.form up.form,eqr:=orL a.eqr up.eqr,ordr:=orL a.ordr up.ordr,subs:=orL a.subs up.subs}
def jr_ (L:List DefS):Nat→Nat→Option AttrS
 |0,_=>none
 |n+1,i=>match L[i]? with
  |none=>none
  |some d=>match d.sup with
   |[]=>some d.attr
   |s::_=>match zk_ L false s with
    |none=>none
    |some j=>(jr_ L n j).map d.attr.under
def q9_ (L:List DefS) (i:Nat):Option AttrS:=jr_ L (L.length+1) i
def qp_ (r form:LU):Bool:=match qy_ (z2_ r) with
 |none=>false
 |some x=>x.2.2.1.contains form
def z06_ (L:List DefS) (d:DefS) (i:Nat):Bool:=
 if d.cls then !d.sup.any (fun n=>match zk_ L true n with
  |none=>false
  |some j=>match L[j]? with
   |none=>false
   |some u=>u.kind !=0 && u.kind !=d.kind)
 else match q9_ L i with
  |none=>false
  |some a=>[a.eqr,a.ordr,a.subs].all (fun r=>r==[]||qp_ r a.form) && !(a.form==[])
def z98_ (attrs classes:LL):(Int × Nat) ⊕ List DefS:=
 if 300<attrs.length+classes.length then .inl (2,0)
 else match q8_ attrs.length 0 (attrs++classes) [] with
  | .inl x=> .inl x
  | .inr L=>match L.findIdx? (fun d=>!xb_ L d) with
   |some i=> .inl (52,i)
   |none=>match (List.range L.length).find? (fun i=>yj_ L i) with
    |some i=> .inl (53,i)
    |none=>match (List.range L.length).find? (fun i=>!((L[i]?).map (fun d=>z06_ L d i)).getD false) with
     |some i=> .inl (50,i)
     |none=> .inr L
open Go.RowKit
section
variable {P:Program} {κ:Type} [DecidableEq κ]
def MapR (kv:κ→Value) (es:Array MapEntry) (R:List (κ × Value)):Prop:=es.toList.map (fun e=>(e.key,e.val))=R.map (fun x=>(kv x.1,x.2))
def qe_ (R:List (κ × Value)) (k:κ):Option Value:=match R with
 |[]=>none
 |x::R=>if k=x.1 then some x.2 else qe_ R k
theorem xi_ (R R':List (κ × Value)) (k:κ):qe_ (R++R') k=(qe_ R k).or (qe_ R' k):=by
 induction R with
 |nil=>simp [qe_]
 |cons x R ih=>
  simp only[List.cons_append,qe_]
  split
  ·rfl
  ·exact ih
theorem look_none {R:List (κ × Value)} {k:κ}:qe_ R k=none↔∀ x∈R,x.1≠k:=by
 induction R with
 |nil=>simp [qe_]
 |cons x R ih=>
  simp only[qe_,List.mem_cons,forall_eq_or_imp]
  by_cases h:k=x.1
  ·simp [h]
  ·rw[if_neg h,ih]
   constructor
   ·intro h';exact⟨fun e=>h e.symm,h'⟩
   ·intro h';exact h'.2
theorem MapR.push {kv:κ→Value} {es:Array MapEntry} {R:List (κ × Value)} (h:MapR kv es R) (k:κ) (v:Value) (b:Nat):MapR kv (es.push {key:=kv k,val:=v,born:=b}) (R++[(k,v)]):=by
 unfold MapR at h ⊢
 simp [h]
theorem MapR.nil (kv:κ→Value):MapR kv #[] []:=rfl
def z6c_ (P:Program) (K:TypeId) (kv:κ→Value):Prop:=∀ (w:World) (k:κ) (es:Array MapEntry) (R:List (κ × Value)),MapR kv es R→∃ q,(Instr.findKey K (kv k) es.toList).run P w= .ok q w∧q.map (·.2)=qe_ R k
theorem z3g_ {K:TypeId} {kv:κ→Value} (hEq:∀ w a b,(Op.equal K (kv a) (kv b)).run P w= .ok (decide (a=b)) w) (w:World) (k:κ):∀ (es:List MapEntry) (R:List (κ × Value)) (i:Nat),es.map (fun e=>(e.key,e.val))=R.map (fun x=>(kv x.1,x.2))→
  ∃ r,(Instr.findAsking K (kv k) es i).run P w= .ok r w∧r.map (·.2)=qe_ R k
 |[],[],i,_=>⟨none,rfl,rfl⟩
 |[],_::_,i,h=>by simp at h
 |_::_,[],i,h=>by simp at h
 |e::es,x::R,i,h=>by
  simp only[List.map_cons,List.cons.injEq,Prod.mk.injEq] at h
  obtain⟨r,hr,hm⟩:=z3g_ hEq w k es R (i+1) h.2
  simp only[Instr.findAsking,Sem.run_bind,h.1.1,hEq,Result.andThen_ok,qe_]
  by_cases hx:k=x.1
  ·simp only[hx,decide_true,if_true]
   exact⟨some (i,e.val),rfl,by simp [h.1.2]⟩
  ·simp only[hx,decide_false,Bool.false_eq_true,if_false]
   exact⟨r,hr,hm⟩
theorem z0n_ {K:TypeId} {kv:κ→Value} {D:TypeDesc} (hU:P.underlying K=some D) (hNow:∀ a b,Instr.sameNow D (kv a) (kv b)=none) (hEq:∀ w a b,(Op.equal K (kv a) (kv b)).run P w= .ok (decide (a=b)) w):z6c_ P K kv:=by
 intro w k es R h
 unfold MapR at h
 obtain⟨es⟩:=es
 dsimp only at h ⊢
 unfold Instr.findKey
 simp only[Sem.run_bind,run_underlying hU,Result.andThen_ok]
 cases es with
 |nil=>
  cases R with
  |nil=>exact⟨none,rfl,rfl⟩
  |cons _ _=>simp at h
 |cons e es=>
  cases R with
  |nil=>simp at h
  |cons x R=>
   have hk:e.key=kv x.1:=by
    simp only[List.map_cons,List.cons.injEq,Prod.mk.injEq] at h
    exact h.1.1
   have:Instr.findNow D (kv k) (e::es) 0=none:=by simp only[Instr.findNow,hk,hNow]
   rw[this]
   exact z3g_ hEq w k _ _ 0 h
theorem zev_ {kv:κ→Value} {D:TypeDesc} (hNow:∀ a b,Instr.sameNow D (kv a) (kv b)=some (decide (a=b))) (k:κ):∀ (es:List MapEntry) (R:List (κ × Value)) (i:Nat),es.map (fun e=>(e.key,e.val))=R.map (fun x=>(kv x.1,x.2))→
  ∃ r,Instr.findNow D (kv k) es i=some r∧r.map (·.2)=qe_ R k
 |[],[],i,_=>⟨none,rfl,rfl⟩
 |[],_::_,i,h=>by simp at h
 |_::_,[],i,h=>by simp at h
 |e::es,x::R,i,h=>by
  simp only[List.map_cons,List.cons.injEq,Prod.mk.injEq] at h
  obtain⟨r,hr,hm⟩:=zev_ hNow k es R (i+1) h.2
  simp only[Instr.findNow,h.1.1,hNow,qe_]
  by_cases hx:k=x.1
  ·simp only[hx,decide_true,if_true]
   exact⟨some (i,e.val),rfl,by simp [h.1.2]⟩
  ·simp only[hx,decide_false,if_false]
   exact⟨r,hr,hm⟩
theorem zcc_ {K:TypeId} {kv:κ→Value} {D:TypeDesc} (hU:P.underlying K=some D) (hNow:∀ a b,Instr.sameNow D (kv a) (kv b)=some (decide (a=b))):z6c_ P K kv:=by
 intro w k es R h
 obtain⟨r,hr,hm⟩:=zev_ hNow k es.toList R 0 h
 unfold Instr.findKey
 simp only[Sem.run_bind,run_underlying hU,Result.andThen_ok,hr]
 exact⟨r,rfl,hm⟩
theorem z4r_ {T K E:TypeId} {kv:κ→Value} (hT:P.underlying T=some (.map K E)) (hF:z6c_ P K kv) (hC:∀ (b:Bool) w k,(Instr.checkKey b 10000 K (kv k)).run P w= .ok () w)
  (w:World) (r c:Nat) (es:Array MapEntry) (R:List (κ × Value)) (hw:w.heap[r]?=some (.map es c)) (h:MapR kv es R) (k:κ) (v:Value) (hn:qe_ R k=none):
  (Instr.mapUpdate T (.map (some r)) (kv k) v).run P w= .ok () (World.setMap w r (es.push {key:=kv k,val:=v,born:=c}) (c+1)):=by
 obtain⟨q,hq,hm⟩:=hF w k es R h
 rw[hn] at hm
 obtain rfl:q=none:=by simpa using hm
 unfold Instr.mapUpdate
 simp only[Sem.run_bind,run_underlying hT,Result.andThen_ok]
 simp only[getObj,Sem.run,Sem.run_bind,hw,Result.andThen_ok,hC,hq,setObj,World.setMap]
theorem zhi_ {T K E:TypeId} {kv:κ→Value} (hT:P.underlying T=some (.map K E)) (hF:z6c_ P K kv) (hC:∀ (b:Bool) w k,(Instr.checkKey b 10000 K (kv k)).run P w= .ok () w) {z:Value} (hz:∀ w,(zeroValue E).run P w= .ok z w)
  (w:World) (r c:Nat) (es:Array MapEntry) (R:List (κ × Value)) (hw:w.heap[r]?=some (.map es c)) (h:MapR kv es R) (k:κ):
  (Instr.lookup T (.map (some r)) (kv k) false).run P w= .ok ((qe_ R k).getD z) w:=by
 obtain⟨q,hq,hm⟩:=hF w k es R h
 unfold Instr.lookup
 simp only[Sem.run_bind,run_underlying hT,Result.andThen_ok]
 simp only[getObj,Sem.run,Sem.run_bind,hw,Result.andThen_ok,hC,hq,pure,Sem.run_pure]
 rw[← hm]
 cases q with
 |none=>
  simp only[Sem.run_bind,hz,Result.andThen_ok]
  rfl
 |some x=>rfl
theorem z1m_ {T K E:TypeId} {kv:κ→Value} (hT:P.underlying T=some (.map K E)) (hF:z6c_ P K kv) (hC:∀ (b:Bool) w k,(Instr.checkKey b 10000 K (kv k)).run P w= .ok () w) {z:Value} (hz:∀ w,(zeroValue E).run P w= .ok z w)
  (w:World) (r c:Nat) (es:Array MapEntry) (R:List (κ × Value)) (hw:w.heap[r]?=some (.map es c)) (h:MapR kv es R) (k:κ):
  (Instr.lookup T (.map (some r)) (kv k) true).run P w= .ok (.tuple #[(qe_ R k).getD z,.bool (qe_ R k).isSome]) w:=by
 obtain⟨q,hq,hm⟩:=hF w k es R h
 unfold Instr.lookup
 simp only[Sem.run_bind,run_underlying hT,Result.andThen_ok]
 simp only[getObj,Sem.run,Sem.run_bind,hw,Result.andThen_ok,hC,hq,pure,Sem.run_pure]
 rw[← hm]
 cases q with
 |none=>
  simp only[Sem.run_bind,hz,Result.andThen_ok]
  rfl
 |some x=>rfl
end
open Go.RowKit
structure Mods (S:List Nat) (w w':World):Prop where
 os:w'.os=w.os
 tape:w'.tape=w.tape
 output:w'.output=w.output
 size:w.heap.size≤w'.heap.size
 block:∀ k,k<w.heap.size→k ∉ S→w'.heap[k]?=w.heap[k]?
theorem Mods.refl (S:List Nat) (w:World):Mods S w w:=⟨rfl,rfl,rfl,nR _,fun _ _ _=>rfl⟩
theorem Mods.trans {S:List Nat} {a b c:World} (h:Mods S a b) (k:Mods S b c):Mods S a c:=
 ⟨k.os.trans h.os,k.tape.trans h.tape,k.output.trans h.output,nT h.size k.size,fun i hi hn=>(k.block i (Nat.lt_of_lt_of_le hi h.size) hn).trans (h.block i hi hn)⟩
theorem Mods.mono {S S':List Nat} {w w':World} (h:Mods S w w') (hs:∀ x∈S,x∈S'):Mods S' w w':=⟨h.os,h.tape,h.output,h.size,fun k hk hn=>h.block k hk (fun hx=>hn (hs k hx))⟩
theorem Mods.news {S S':List Nat} {w w':World} (h:Mods S w w') (hs:∀ x∈S,x∈S'∨w.heap.size≤x):Mods S' w w':=⟨h.os,h.tape,h.output,h.size,fun k hk hn=>h.block k hk (fun hx=>by
 rcases hs k hx with h1|h1
 ·exact hn h1
 ·omega)⟩
theorem Mods.of_below {w w':World} (h:Bel w w') (S:List Nat):Mods S w w':=⟨h.os,h.tape,h.output,h.size,fun k hk _=>h.block k hk⟩
theorem Mods.of_grown {w w':World} {r:Nat} (h:w.grownBy w' (some r)) {S:List Nat} (hr:r∈S):Mods S w w':=⟨h.os,h.tape,h.output,h.size,fun k hk hn=>h.block k hk (fun e=>by cases e;exact hn hr)⟩
theorem Mods.of_grown' {w w':World} {r:Option Nat} (h:w.grownBy w' r) {S:List Nat} (hr:∀ k,r=some k→k∈S):Mods S w w':=⟨h.os,h.tape,h.output,h.size,fun k hk hn=>h.block k hk (fun e=>hn (hr k e.symm))⟩
theorem Mods.drew {S:List Nat} {a w:World} (h:Mods S a w):Mods S a w.drew:=⟨h.os,h.tape,h.output,h.size,h.block⟩
theorem Mods.drewN {S:List Nat} {a w:World} (h:Mods S a w) (n:Nat):Mods S a (w.drewN n):=⟨h.os,h.tape,h.output,h.size,h.block⟩
theorem Mods.alloc {S:List Nat} {a w:World} (h:Mods S a w) (o:Obj):Mods S a (w.alloc o):=h.trans (Mods.of_below ((bR _ _).alloc (nR _) o) S)
theorem Mods.setCell {S:List Nat} {a w:World} (h:Mods S a w) {p:Addr} (hp:p.block∈S) (u:Value):Mods S a (w.setCell p u):=
 h.trans ⟨rfl,rfl,rfl,by simp [World.setCell],fun k hk hn=>Below.heap_setCell _ _ _ _ (by rintro rfl;exact hn hp)⟩
theorem Mods.setMap {S:List Nat} {a w:World} (h:Mods S a w) {r:Nat} (hr:r∈S) (es:Array MapEntry) (c:Nat):Mods S a (World.setMap w r es c):=
 h.trans ⟨rfl,rfl,rfl,by rw[kk_];exact nR _,fun k hk hn=>xl_ (by rintro rfl;exact hn hr)⟩
theorem Mods.below {S:List Nat} {B:Nat} {w w':World} (h:Mods S w w') (hB:B≤w.heap.size) (hS:∀ x∈S,B≤x):Below B w w':=
 ⟨h.os,h.tape,h.output,h.size,fun k hk=>h.block k (Nat.lt_of_lt_of_le hk hB) (fun hx=>by have:=hS k hx;omega)⟩
theorem Mods.same {S:List Nat} {w w':World} (h:Mods S w w') {g:Nat} {o:Obj} (ho:w.heap[g]?=some o) (hg:g ∉ S):w'.heap[g]?=some o:=
 (h.block g (Array.getElem?_eq_some_iff.1 ho).1 hg).trans ho
theorem Mods.bk {S:List Nat} {w w':World} (h:Mods S w w') {g:Nat} {t:TypeId} {cs:Array Value} (hb:Bk w g t cs) (hg:g ∉ S):Bk w' g t cs:=Mods.same h hb hg
theorem Mods.cell {S:List Nat} {w w':World} (h:Mods S w w') {g o:Nat} {v:Value} (hc:w.cell? ⟨g,o,none⟩=some v) (hg:g ∉ S):w'.cell? ⟨g,o,none⟩=some v:=by
 rw[World.cell?_of_block (w:=w) (h.block g (z9_ hc) hg)]
 exact hc
def NoText (w:World) (S:List Nat):Prop:=∀ g∈S,∀ s,w.cell? ⟨g,0,none⟩≠some (.string s)
theorem Texts.mods {S:List Nat} {w w':World} {v:Value} {xs:LL} (h:Texts w v xs) (hm:Mods S w w') (hS:NoText w S):Texts w' v xs:=by
 rcases h with h|⟨b,c,rfl,hc,hlt,hcell⟩
 ·exact .inl h
 ·refine .inr ⟨b,c,rfl,hc,Nat.lt_of_lt_of_le hlt hm.size,fun j hj=>hm.cell (hcell j hj) (fun hb=>?_)⟩
  exact hS b hb _ (hcell 0 (by omega))
open Go.RowKit
def xv_ (x:Wd):List Value:=[.string ⟨x.1.toArray⟩,.bool x.2]
def Wds (B:Nat) (w:World) (v:Value) (l:List Wd):Prop:=w.ownsRow B 216 2 v l.length (l.flatMap xv_)∧B≤w.heap.size
theorem Wds.lt {B:Nat} {w:World} {v:Value} {l:List Wd} (h:Wds B w v l):∀ k,v.ownBlock=some k→B≤k∧k<w.heap.size:=fun k hk=>h.1.lt k hk
theorem Wds.keep {B:Nat} {w w':World} {v:Value} {l:List Wd} (h:Wds B w v l) {r:Option Nat} (hg:w.grownBy w' r) (hr:∀ k,r=some k→k<B):Wds B w' v l:=by
 refine⟨h.1.kept hg ?_,nT h.2 hg.size⟩
 rcases hv:v.ownBlock with _|g
 ·exact .inl rfl
 ·refine .inr ?_
  intro he
  have:=hr g he.symm
  have:=(h.1.lt g hv).1
  omega
theorem Wds.below {B:Nat} {w w':World} {v:Value} {l:List Wd} (h:Wds B w v l) (hb:Bel w w'):Wds B w' v l:=h.keep (z1_ hb none) (fun k hk=>by cases hk)
theorem Wds.nil {B:Nat} {w:World} (hB:B≤w.heap.size):Wds B w (.slice none 0 0) []:=⟨World.ownsRow_nil _ _ _ _,hB⟩
theorem Wds.isSlice {B:Nat} {w:World} {v:Value} {l:List Wd} (h:Wds B w v l):∃ A c,v= .slice A l.length c∧l.length≤c:=by
 obtain⟨⟨h1,h2⟩,h3⟩:=h
 rcases h2 with ⟨rfl,hn⟩|⟨g,cap,cur,rfl,r2,r3,r4,_⟩
 ·exact⟨none,0,by rw[hn],by omega⟩
 ·exact⟨_,cap,rfl,r4⟩
theorem zh2_:∃ i,Tryz.prog.info? 216=some i∧i.zero=some (.agg #[.string ⟨#[]⟩,.bool false])∧i.size=2∧i.bytes=24:=by
 obtain⟨i,h1,h2,h3,h4⟩:=info_parts (show (Tryz.prog.info? 216).map (fun i=>(i.zero,i.size,i.bytes))=some (some (.agg #[.string ⟨#[]⟩,.bool false]),2,24) by kernel_rfl)
 exact⟨i,h1,h2,h3,h4⟩
theorem z52_ {ops:Array Oper} {rest:List Oper} {o:Oper} {a:Act} {Q:Exit→Act→World→Prop} (hgd:o.guard=none) (s x:Operand) (ho:o.op= .call {callee:= .builtin .append,args:=#[s,x],argTypes:=#[154,154]})
  {v:Value} {l:List Wd} {B N:Nat} {w0:World} {t:LU} {q:Bool} (hs:a.eval s=v) (hb:Wds B w0 v l)
  (hx:a.eval x= .slice (some ⟨N,0,none⟩) 1 1) (hN:N=w0.heap.size) (hlen:l.length<1000000)
  (h:∀ v' w',Wds B w' v' (l++[(t,q)])→w0.grownBy w' v.ownBlock→wpList Tryz.prog ops Q rest (a.put o.dst v') w'):wpList Tryz.prog ops Q (o::rest) a (w0.alloc (.cells #[.string ⟨t.toArray⟩,.bool q] 216)):=by
 subst hN
 obtain⟨i,h1,h2,h3,h4⟩:=zh2_
 have hb':=hb.keep (World.grownBy_alloc w0 (.cells #[.string ⟨t.toArray⟩,.bool q] 216) none) (fun k hk=>by cases hk)
 refine wpList_append_own _ hgd s x 154 ho B 216 i (.agg #[.string ⟨#[]⟩,.bool false]) 2 24 Tryz.underlying154 h1 h2 h3 h4 rfl (by decide) v _ _ hs hb'.1 ⟨w0.heap.size,0,none⟩ 1 1 (xv_ (t,q)) hx rfl ?_ ?_ (by unfold maxLen;omega) (by omega) hb'.2 ?_
 ·intro j y hj
  match j,hj with
  |0,hj=>simp [xv_] at hj;subst hj;simp [Addr.add]
  |1,hj=>simp [xv_] at hj;subst hj;simp [Addr.add]
  |(j+2),hj=>simp [xv_] at hj
 ·intro y hy;simp [xv_] at hy;rcases hy with rfl|rfl<;>rfl
 ·intro v' w' ho' hg _
  refine h v' w' ⟨?_,nT hb'.2 hg.size⟩ (gT (World.grownBy_alloc _ _ _) hg)
  simpa using ho'
theorem z6u_:∀ (l:List Wd) (j:Nat) (x:Wd),l[j]?=some x→(l.flatMap xv_)[2 * j]?=some (.string ⟨x.1.toArray⟩)∧(l.flatMap xv_)[2 * j+1]?=some (.bool x.2)
 |[],j,x,h=>by simp at h
 |y::l,0,x,h=>by
  simp at h;subst h
  simp [xv_]
 |y::l,j+1,x,h=>by
  have:=z6u_ l j x (by simpa using h)
  simp only[List.flatMap_cons,xv_,List.cons_append,List.nil_append]
  rw[show 2 * (j+1)=2 * j+1+1 by omega]
  simpa using this
def WdsR (w:World) (v:Value) (l:List Wd):Prop:=
 ∃ A c,v= .slice A l.length c∧l.length≤c∧(l=[]∨∃ g o,A=some ⟨g,o,none⟩∧(∃ cs z,w.heap[g]?=some (.cells cs 216 z))∧∀ j x,l[j]?=some x→w.cell? ⟨g,o+2 * j,none⟩=some (.string ⟨x.1.toArray⟩)∧w.cell? ⟨g,o+2 * j+1,none⟩=some (.bool x.2))
theorem Wds.reads {B:Nat} {w:World} {v:Value} {l:List Wd} (h:Wds B w v l):WdsR w v l:=by
 obtain⟨⟨h1,h2⟩,h3⟩:=h
 rcases h2 with ⟨rfl,hn⟩|⟨g,cap,cur,rfl,r2,r3,r4,r5,r6,r7⟩
 ·exact⟨none,0,by rw[hn],by omega,.inl (List.eq_nil_of_length_eq_zero hn)⟩
 ·refine⟨_,cap,rfl,r4,?_⟩
  have key:∀ j x,l[j]?=some x→w.cell? ⟨g,2 * j,none⟩=some (.string ⟨x.1.toArray⟩)∧w.cell? ⟨g,2 * j+1,none⟩=some (.bool x.2):=by
   intro j x hj
   have hf:=z6u_ l j x hj
   have hjl:j<l.length:=(List.getElem?_eq_some_iff.1 hj).1
   rw[← r7,List.getElem?_take,List.getElem?_take,if_pos (by omega),if_pos (by omega)] at hf
   simp only[World.cell?,r3]
   simpa using hf
  cases l with
  |nil=>exact .inl rfl
  |cons y t=>exact .inr ⟨g,0,rfl,⟨_,_,r3⟩,fun j x hj=>by rw[Nat.zero_add];exact key j x hj⟩
def NoWord (w:World) (S:List Nat):Prop:=∀ g∈S,∀ cs z,w.heap[g]?≠some (.cells cs 216 z)
theorem NoWord.of_bk {w:World} {g:Nat} {t:TypeId} {cs:Array Value} (h:Bk w g t cs) (ht:t≠216):NoWord w [g]:=by
 intro k hk cs' z
 have:k=g:=by simpa using hk
 subst this
 unfold Bk at h
 rw[h]
 intro e
 cases e
 exact ht rfl
theorem WdsR.mods {S:List Nat} {w w':World} {v:Value} {l:List Wd} (h:WdsR w v l) (hm:Mods S w w') (hS:NoWord w S):WdsR w' v l:=by
 obtain⟨A,c,rfl,hc,h⟩:=h
 refine⟨A,c,rfl,hc,h.imp id ?_⟩
 rintro⟨g,o,rfl,⟨cs,z,hs⟩,hx⟩
 have hg:g ∉ S:=fun hg=>hS g hg cs z hs
 exact⟨g,o,rfl,⟨cs,z,hm.same hs hg⟩,fun j x hj=>⟨hm.cell (hx j x hj).1 hg,hm.cell (hx j x hj).2 hg⟩⟩
theorem WdsR.below {w w':World} {v:Value} {l:List Wd} (h:WdsR w v l) (hb:Bel w w'):WdsR w' v l:=h.mods (Mods.of_below hb []) (fun g hg=>by cases hg)
theorem WdsR.uncons {w:World} {A:Option Addr} {n c:Nat} {x:Wd} {l:List Wd} (h:WdsR w (.slice A n c) (x::l)):∃ g o,A=some ⟨g,o,none⟩∧n=l.length+1∧l.length+1≤c∧w.cell? ⟨g,o,none⟩=some (.string ⟨x.1.toArray⟩)∧w.cell? ⟨g,o+1,none⟩=some (.bool x.2)∧
  ∀ A' c',l.length≤c'→(1<c→A'=some ⟨g,o+2,none⟩)→WdsR w (.slice A' l.length c') l:=by
 obtain⟨A0,c0,e,hc,h⟩:=h
 cases e
 rcases h with h|⟨g,o,rfl,hs,hx⟩
 ·cases h
 ·refine⟨g,o,rfl,rfl,hc,(hx 0 x rfl).1,(hx 0 x rfl).2,?_⟩
  intro A' c' hc' h1
  refine⟨A',c',rfl,hc',?_⟩
  cases l with
  |nil=>exact .inl rfl
  |cons y t=>
   simp only[List.length_cons] at hc
   refine .inr ⟨g,o+2,h1 (by omega),hs,fun j z hj=>?_⟩
   have:=hx (j+1) z (by simpa using hj)
   rw[show o+2 * (j+1)=o+2+2 * j by omega] at this
   exact this
def RdW (w:World) (r:Nat) (l:List Wd):Prop:=∃ v,Bk w r 159 #[v]∧WdsR w v l
theorem RdW.notext {w:World} {r:Nat} {l:List Wd} (h:RdW w r l):NoText w [r]:=by
 obtain⟨v,hb,A,c,rfl,_⟩:=h
 intro g hg s
 have:g=r:=by simpa using hg
 subst this
 rw[hb.cell 0]
 simp
theorem RdW.noword {w:World} {r:Nat} {l:List Wd} (h:RdW w r l):NoWord w [r]:=by
 obtain⟨v,hb,_⟩:=h
 exact NoWord.of_bk hb (by decide)
theorem RdW.mods {S:List Nat} {w w':World} {r:Nat} {l:List Wd} (h:RdW w r l) (hm:Mods S w w') (hr:r ∉ S) (hS:NoWord w S):RdW w' r l:=by
 obtain⟨v,hb,hw⟩:=h
 exact⟨v,hm.bk hb hr,hw.mods hm hS⟩
theorem RdW.below {w w':World} {r:Nat} {l:List Wd} (h:RdW w r l) (hb:Bel w w'):RdW w' r l:=h.mods (Mods.of_below hb []) (by simp) (fun g hg=>by cases hg)
end Go.Proofs.YtakfpngfpknedaaGreatDoor
