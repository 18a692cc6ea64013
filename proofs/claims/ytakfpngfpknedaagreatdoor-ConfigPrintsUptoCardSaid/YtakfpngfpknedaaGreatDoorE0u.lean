import Derived.Lib.TrimAscii
import Derived.Test.YtakfpngfpknedaaGreatDoorE0t
set_option linter.all false
set_option maxHeartbeats 8000000
set_option maxRecDepth 100000
namespace Go.Proofs.YtakfpngfpknedaaGreatDoor
def bA0:LU:=[40,32,50,46,53,46,52,46,48,32,78,65,77,69,32,39,111,98,106,101,99,116,67,108,97,115,115,39,32,69,81,85,65,76,73,84,89,32,111,98,106,101,99,116,73,100,101,110,116,105,102,105,101,114,77,97,116,99,104,32,83,89,78,84,65,88,32,49,46,51,46,54,46,49,46,52,46,49,46,49,52,54,54,46,49,49,53,46,49,50,49,46,49,46,51,56,32,41]
def bA1:LU:=[40,32,50,46,53,46,52,46,52,49,32,78,65,77,69,32,39,110,97,109,101,39,32,69,81,85,65,76,73,84,89,32,99,97,115,101,73,103,110,111,114,101,77,97,116,99,104,32,79,82,68,69,82,73,78,71,32,99,97,115,101,73,103,110,111,114,101,79,114,100,101,114,105,110,103,77,97,116,99,104,32,83,85,66,83,84,82,32,99,97,115,101,73,103,110,111,114,101,83,117,98,115,116,114,105,110,103,115,77,97,116,99,104,32,83,89,78,84,65,88,32,49,46,51,46,54,46,49,46,52,46,49,46,49,52,54,54,46,49,49,53,46,49,50,49,46,49,46,49,53,32,41]
def bA2:LU:=[40,32,50,46,53,46,52,46,51,32,78,65,77,69,32,40,32,39,99,110,39,32,39,99,111,109,109,111,110,78,97,109,101,39,32,41,32,83,85,80,32,110,97,109,101,32,41]
def bA3:LU:=[40,32,50,46,53,46,52,46,52,32,78,65,77,69,32,40,32,39,115,110,39,32,39,115,117,114,110,97,109,101,39,32,41,32,83,85,80,32,110,97,109,101,32,41]
def bA4:LU:=[40,32,50,46,53,46,52,46,49,48,32,78,65,77,69,32,40,32,39,111,39,32,39,111,114,103,97,110,105,122,97,116,105,111,110,78,97,109,101,39,32,41,32,83,85,80,32,110,97,109,101,32,41]
def bA5:LU:=[40,32,50,46,53,46,52,46,49,49,32,78,65,77,69,32,40,32,39,111,117,39,32,39,111,114,103,97,110,105,122,97,116,105,111,110,97,108,85,110,105,116,78,97,109,101,39,32,41,32,83,85,80,32,110,97,109,101,32,41]
def bA6:LU:=[40,32,50,46,53,46,52,46,49,51,32,78,65,77,69,32,39,100,101,115,99,114,105,112,116,105,111,110,39,32,69,81,85,65,76,73,84,89,32,99,97,115,101,73,103,110,111,114,101,77,97,116,99,104,32,83,85,66,83,84,82,32,99,97,115,101,73,103,110,111,114,101,83,117,98,115,116,114,105,110,103,115,77,97,116,99,104,32,83,89,78,84,65,88,32,49,46,51,46,54,46,49,46,52,46,49,46,49,52,54,54,46,49,49,53,46,49,50,49,46,49,46,49,53,32,41]
def bA7:LU:=[40,32,48,46,57,46,50,51,52,50,46,49,57,50,48,48,51,48,48,46,49,48,48,46,49,46,50,53,32,78,65,77,69,32,40,32,39,100,99,39,32,39,100,111,109,97,105,110,67,111,109,112,111,110,101,110,116,39,32,41,32,69,81,85,65,76,73,84,89,32,99,97,115,101,73,103,110,111,114,101,77,97,116,99,104,32,83,89,78,84,65,88,32,49,46,51,46,54,46,49,46,52,46,49,46,49,52,54,54,46,49,49,53,46,49,50,49,46,49,46,50,54,32,83,73,78,71,76,69,45,86,65,76,85,69,32,41]
def bA8:LU:=[40,32,48,46,57,46,50,51,52,50,46,49,57,50,48,48,51,48,48,46,49,48,48,46,49,46,49,32,78,65,77,69,32,40,32,39,117,105,100,39,32,39,117,115,101,114,105,100,39,32,41,32,69,81,85,65,76,73,84,89,32,99,97,115,101,73,103,110,111,114,101,77,97,116,99,104,32,83,85,66,83,84,82,32,99,97,115,101,73,103,110,111,114,101,83,117,98,115,116,114,105,110,103,115,77,97,116,99,104,32,83,89,78,84,65,88,32,49,46,51,46,54,46,49,46,52,46,49,46,49,52,54,54,46,49,49,53,46,49,50,49,46,49,46,49,53,32,41]
def bA9:LU:=[40,32,48,46,57,46,50,51,52,50,46,49,57,50,48,48,51,48,48,46,49,48,48,46,49,46,51,32,78,65,77,69,32,40,32,39,109,97,105,108,39,32,39,114,102,99,56,50,50,77,97,105,108,98,111,120,39,32,41,32,69,81,85,65,76,73,84,89,32,99,97,115,101,73,103,110,111,114,101,77,97,116,99,104,32,83,89,78,84,65,88,32,49,46,51,46,54,46,49,46,52,46,49,46,49,52,54,54,46,49,49,53,46,49,50,49,46,49,46,50,54,32,41]
def bA10:LU:=[40,32,50,46,53,46,52,46,51,53,32,78,65,77,69,32,39,117,115,101,114,80,97,115,115,119,111,114,100,39,32,69,81,85,65,76,73,84,89,32,111,99,116,101,116,83,116,114,105,110,103,77,97,116,99,104,32,83,89,78,84,65,88,32,49,46,51,46,54,46,49,46,52,46,49,46,49,52,54,54,46,49,49,53,46,49,50,49,46,49,46,52,48,32,41]
def bA11:LU:=[40,32,50,46,53,46,52,46,51,49,32,78,65,77,69,32,39,109,101,109,98,101,114,39,32,69,81,85,65,76,73,84,89,32,100,105,115,116,105,110,103,117,105,115,104,101,100,78,97,109,101,77,97,116,99,104,32,83,89,78,84,65,88,32,49,46,51,46,54,46,49,46,52,46,49,46,49,52,54,54,46,49,49,53,46,49,50,49,46,49,46,49,50,32,41]
def bA12:LU:=[40,32,50,46,53,46,52,46,51,52,32,78,65,77,69,32,39,115,101,101,65,108,115,111,39,32,69,81,85,65,76,73,84,89,32,100,105,115,116,105,110,103,117,105,115,104,101,100,78,97,109,101,77,97,116,99,104,32,83,89,78,84,65,88,32,49,46,51,46,54,46,49,46,52,46,49,46,49,52,54,54,46,49,49,53,46,49,50,49,46,49,46,49,50,32,41]
def bA13:LU:=[40,32,49,46,50,46,56,52,48,46,49,49,51,53,53,54,46,49,46,50,46,49,48,50,32,78,65,77,69,32,39,109,101,109,98,101,114,79,102,39,32,69,81,85,65,76,73,84,89,32,100,105,115,116,105,110,103,117,105,115,104,101,100,78,97,109,101,77,97,116,99,104,32,83,89,78,84,65,88,32,49,46,51,46,54,46,49,46,52,46,49,46,49,52,54,54,46,49,49,53,46,49,50,49,46,49,46,49,50,32,78,79,45,85,83,69,82,45,77,79,68,73,70,73,67,65,84,73,79,78,32,85,83,65,71,69,32,100,105,114,101,99,116,111,114,121,79,112,101,114,97,116,105,111,110,32,41]
def bA14:LU:=[40,32,50,46,49,54,46,56,52,48,46,49,46,49,49,51,55,51,48,46,51,46,49,46,51,32,78,65,77,69,32,39,101,109,112,108,111,121,101,101,78,117,109,98,101,114,39,32,69,81,85,65,76,73,84,89,32,105,110,116,101,103,101,114,77,97,116,99,104,32,79,82,68,69,82,73,78,71,32,105,110,116,101,103,101,114,79,114,100,101,114,105,110,103,77,97,116,99,104,32,83,89,78,84,65,88,32,49,46,51,46,54,46,49,46,52,46,49,46,49,52,54,54,46,49,49,53,46,49,50,49,46,49,46,50,55,32,83,73,78,71,76,69,45,86,65,76,85,69,32,41]
def bA15:LU:=[40,32,50,46,53,46,49,56,46,49,32,78,65,77,69,32,39,99,114,101,97,116,101,84,105,109,101,115,116,97,109,112,39,32,69,81,85,65,76,73,84,89,32,103,101,110,101,114,97,108,105,122,101,100,84,105,109,101,77,97,116,99,104,32,79,82,68,69,82,73,78,71,32,103,101,110,101,114,97,108,105,122,101,100,84,105,109,101,79,114,100,101,114,105,110,103,77,97,116,99,104,32,83,89,78,84,65,88,32,49,46,51,46,54,46,49,46,52,46,49,46,49,52,54,54,46,49,49,53,46,49,50,49,46,49,46,50,52,32,83,73,78,71,76,69,45,86,65,76,85,69,32,78,79,45,85,83,69,82,45,77,79,68,73,70,73,67,65,84,73,79,78,32,85,83,65,71,69,32,100,105,114,101,99,116,111,114,121,79,112,101,114,97,116,105,111,110,32,41]
def bA16:LU:=[40,32,50,46,53,46,49,56,46,50,32,78,65,77,69,32,39,109,111,100,105,102,121,84,105,109,101,115,116,97,109,112,39,32,69,81,85,65,76,73,84,89,32,103,101,110,101,114,97,108,105,122,101,100,84,105,109,101,77,97,116,99,104,32,79,82,68,69,82,73,78,71,32,103,101,110,101,114,97,108,105,122,101,100,84,105,109,101,79,114,100,101,114,105,110,103,77,97,116,99,104,32,83,89,78,84,65,88,32,49,46,51,46,54,46,49,46,52,46,49,46,49,52,54,54,46,49,49,53,46,49,50,49,46,49,46,50,52,32,83,73,78,71,76,69,45,86,65,76,85,69,32,78,79,45,85,83,69,82,45,77,79,68,73,70,73,67,65,84,73,79,78,32,85,83,65,71,69,32,100,105,114,101,99,116,111,114,121,79,112,101,114,97,116,105,111,110,32,41]
def bA17:LU:=[40,32,49,46,51,46,54,46,49,46,52,46,49,46,57,57,57,57,46,49,32,78,65,77,69,32,39,115,101,116,116,105,110,103,39,32,69,81,85,65,76,73,84,89,32,99,97,115,101,69,120,97,99,116,77,97,116,99,104,32,83,89,78,84,65,88,32,49,46,51,46,54,46,49,46,52,46,49,46,49,52,54,54,46,49,49,53,46,49,50,49,46,49,46,49,53,32,41]
def bC0:LU:=[40,32,50,46,53,46,54,46,48,32,78,65,77,69,32,39,116,111,112,39,32,65,66,83,84,82,65,67,84,32,77,85,83,84,32,111,98,106,101,99,116,67,108,97,115,115,32,41]
def bC1:LU:=[40,32,50,46,53,46,54,46,54,32,78,65,77,69,32,39,112,101,114,115,111,110,39,32,83,85,80,32,116,111,112,32,83,84,82,85,67,84,85,82,65,76,32,77,85,83,84,32,40,32,115,110,32,36,32,99,110,32,41,32,77,65,89,32,40,32,117,115,101,114,80,97,115,115,119,111,114,100,32,36,32,115,101,101,65,108,115,111,32,36,32,100,101,115,99,114,105,112,116,105,111,110,32,41,32,41]
def bC2:LU:=[40,32,50,46,53,46,54,46,55,32,78,65,77,69,32,39,111,114,103,97,110,105,122,97,116,105,111,110,97,108,80,101,114,115,111,110,39,32,83,85,80,32,112,101,114,115,111,110,32,83,84,82,85,67,84,85,82,65,76,32,77,65,89,32,111,117,32,41]
def bC3:LU:=[40,32,50,46,49,54,46,56,52,48,46,49,46,49,49,51,55,51,48,46,51,46,50,46,50,32,78,65,77,69,32,39,105,110,101,116,79,114,103,80,101,114,115,111,110,39,32,83,85,80,32,111,114,103,97,110,105,122,97,116,105,111,110,97,108,80,101,114,115,111,110,32,83,84,82,85,67,84,85,82,65,76,32,77,65,89,32,40,32,117,105,100,32,36,32,109,97,105,108,32,36,32,101,109,112,108,111,121,101,101,78,117,109,98,101,114,32,41,32,41]
def bC4:LU:=[40,32,50,46,53,46,54,46,52,32,78,65,77,69,32,39,111,114,103,97,110,105,122,97,116,105,111,110,39,32,83,85,80,32,116,111,112,32,83,84,82,85,67,84,85,82,65,76,32,77,85,83,84,32,111,32,77,65,89,32,100,101,115,99,114,105,112,116,105,111,110,32,41]
def bC5:LU:=[40,32,50,46,53,46,54,46,53,32,78,65,77,69,32,39,111,114,103,97,110,105,122,97,116,105,111,110,97,108,85,110,105,116,39,32,83,85,80,32,116,111,112,32,83,84,82,85,67,84,85,82,65,76,32,77,85,83,84,32,111,117,32,77,65,89,32,40,32,100,101,115,99,114,105,112,116,105,111,110,32,36,32,115,101,101,65,108,115,111,32,41,32,41]
def bC6:LU:=[40,32,50,46,53,46,54,46,57,32,78,65,77,69,32,39,103,114,111,117,112,79,102,78,97,109,101,115,39,32,83,85,80,32,116,111,112,32,83,84,82,85,67,84,85,82,65,76,32,77,85,83,84,32,99,110,32,77,65,89,32,40,32,109,101,109,98,101,114,32,36,32,100,101,115,99,114,105,112,116,105,111,110,32,41,32,41]
def bC7:LU:=[40,32,49,46,51,46,54,46,49,46,52,46,49,46,49,52,54,54,46,51,52,52,32,78,65,77,69,32,39,100,99,79,98,106,101,99,116,39,32,83,85,80,32,116,111,112,32,65,85,88,73,76,73,65,82,89,32,77,85,83,84,32,100,99,32,41]
def bC8:LU:=[40,32,49,46,51,46,54,46,49,46,52,46,49,46,57,57,57,57,46,50,32,78,65,77,69,32,39,117,105,100,79,98,106,101,99,116,39,32,83,85,80,32,116,111,112,32,65,85,88,73,76,73,65,82,89,32,77,85,83,84,32,117,105,100,32,41]
def bC9:LU:=[40,32,49,46,51,46,54,46,49,46,52,46,49,46,57,57,57,57,46,51,32,78,65,77,69,32,39,99,111,110,102,105,103,79,98,106,101,99,116,39,32,83,85,80,32,116,111,112,32,83,84,82,85,67,84,85,82,65,76,32,77,85,83,84,32,99,110,32,77,65,89,32,115,101,116,116,105,110,103,32,41]
def baseA:LL:=[bA0,bA1,bA2,bA3,bA4,bA5,bA6,bA7,bA8,bA9,bA10,bA11,bA12,bA13,bA14,bA15,bA16,bA17]
def baseC:LL:=[bC0,bC1,bC2,bC3,bC4,bC5,bC6,bC7,bC8,bC9]
def xq_:List DefS:=match q8_ 18 0 (baseA++baseC) [] with
 | .inl _=>[]
 | .inr L=>L
theorem z9m_:z98_ baseA baseC= .inr xq_:=by decide+kernel
open Go.RowKit Go.Sort
def z61_ (r v:LU):Int × LU:=match zim_ (z2_ r) 0 with
 |none=>(41,[])
 |some x=>match z7q_ x v with
  |none=>(40,[])
  |some m=>(0,m)
def qi_ (L:List DefS) (t v:LU):Int × LU:=match zk_ L false t with
 |none=>(52,[])
 |some i=>match q9_ L i with
  |none=>(52,[])
  |some a=>if j6_ a.form v then (if a.eqr==[] then (0,v) else z61_ a.eqr v) else (40,[])
def z0u_ (L:List DefS) (t:LU):LU:=match zk_ L false t with
 |none=>[]
 |some i=>zdp_ L i
def z89_ {α β:Type} (f:α→Int × β):List α→Int × List β
 |[]=>(0,[])
 |x::t=>if (f x).1≠0 then ((f x).1,[]) else (if (z89_ f t).1≠0 then ((z89_ f t).1,[]) else (0,(f x).2::(z89_ f t).2))
def z15_ (L:List DefS) (x:LU × LU):Int × (LU × LU):=((qi_ L x.1 x.2).1,(z2_ (z0u_ L x.1),(qi_ L x.1 x.2).2))
def z1q_ (L:List DefS) (p:List (LU × LU)):Int × List (LU × LU):=((z89_ (z15_ L) p).1,z6w_ (z89_ (z15_ L) p).2)
def z37_ (L:List DefS) (s:LU):Int × LU:=
 if (zd_ s).1≠0 then ((zd_ s).1,[])
 else if (z89_ (z1q_ L) (zd_ s).2).1≠0 then ((z89_ (z1q_ L) (zd_ s).2).1,[])
 else j5_ (z89_ (z1q_ L) (zd_ s).2).2
theorem z80_ {α β:Type} {f:α→Int × β}:∀ {l:List α},(∀ x∈l,(f x).1=0)→z89_ f l=(0,l.map (fun x=>(f x).2))
 |[],_=>by simp [z89_]
 |x::t,h=>by
  have ih:=z80_ (f:=f) (l:=t) (fun y hy=>h y (by simp [hy]))
  have h1:=h x (by simp)
  rw[z89_,if_neg (by simpa using h1),ih,if_neg (by simp)]
  simp
def z2t_ (a b:LU):Bool:=(zd_ a).1==0 && (zd_ b).1==0 && decide ((zd_ b).2.length≤(zd_ a).2.length) && ((zd_ a).2.drop ((zd_ a).2.length - (zd_ b).2.length)==(zd_ b).2)
open Go.RowKit
theorem zhv_ (r v:LU):z86_ r v= .tuple #[.string ⟨(z61_ r v).2.toArray⟩,.int .i64 (z61_ r v).1]:=by
 unfold z86_ z61_
 cases zim_ (z2_ r) 0 with
 |none=>rfl
 |some x=>
  simp only
  cases z7q_ x v<;>rfl
theorem z6t_ (s:Nat) (ps:List Nat) (L:List DefS) (x v:LU) (w:World) (hS:SchAt w s ps L) (hx:x.length≤140737488351232) (hf:zk_ L false x=none):
  Calls Tryz.prog 145 #[z7_ s,.string ⟨x.toArray⟩,.string ⟨v.toArray⟩] w fun e w'=>e= .returned (.tuple #[.string ⟨(qi_ L x v).2.toArray⟩,.int .i64 (qi_ L x v).1])∧Bel w w':=by
 have hn:qi_ L x v=(52,[]):=by unfold qi_;rw[hf]
 rw[hn]
 have HA:Hid (Calls Tryz.prog 83 #[.pointer (some ⟨s,0,none⟩),.string ⟨x.toArray⟩] w fun e w'=>e= .returned (.tuple #[jv_ z2v_ (.slice none 0 0),.int .i64 52])∧Bel w w'):=hiD ((z3p_ s ps L x w hS hx hf).mono (by
  rintro e w' ⟨h1,h2⟩
  exact⟨h2,h1⟩))
 clear hS hf hn
 unfold z7_
 unfold jv_ z8_ z2v_ at HA
 go_enter Tryz.func145,Tryz.ntmps145
 go_wp2_with (go_at_call 83;refine HA.out.mono ?_;rintro e w1 ⟨rfl,hb1⟩)
 all_goals
  go_ret2
  exact⟨rfl,by first|exact hb1|exact hb1.alloc hb1.size _|assumption⟩
theorem z6h_ (s:Nat) (ps:List Nat) (L:List DefS) (hlim:∀ d∈L,DefLim d) (x v:LU) (i:Nat) (a:AttrS) (w:World) (hw:Env w) (hS:SchAt w s ps L) (hx:x.length≤140737488351232) (hf:zk_ L false x=some i) (ha:q9_ L i=some a) (hel:a.eqr.length≤1000000):
  Calls Tryz.prog 145 #[z7_ s,.string ⟨x.toArray⟩,.string ⟨v.toArray⟩] w fun e w'=>e= .returned (.tuple #[.string ⟨(qi_ L x v).2.toArray⟩,.int .i64 (qi_ L x v).1])∧Bel w w':=by
 have hn:qi_ L x v=(if j6_ a.form v then (if a.eqr==[] then (0,v) else z61_ a.eqr v) else (40,[])):=by
  unfold qi_
  rw[hf]
  simp only
  rw[ha]
 rw[hn]
 have HA:Hid (Calls Tryz.prog 83 #[.pointer (some ⟨s,0,none⟩),.string ⟨x.toArray⟩] w fun e w'=>∃ A n c,e= .returned (.tuple #[jv_ a (.slice A n c),.int .i64 0])∧Bel w w'):=hiD ((z0f_ s ps L hlim x i a w hS hx hf ha).mono (by
  rintro e w' ⟨h1,nv,rfl,h2⟩
  obtain⟨A,c,rfl,_⟩:=h2.isSlice
  exact⟨A,_,c,rfl,h1⟩))
 have HV:Hid (∀ W:World,Bel w W→Calls Tryz.prog 206 #[.string ⟨a.form.toArray⟩,.string ⟨v.toArray⟩] W fun e w'=>e= .returned (.bool (j6_ a.form v))∧Bel W w'):=hiD fun W h=>zco_ a.form v W (hw.keep h)
 have HN:Hid (∀ W:World,Bel w W→Calls Tryz.prog 207 #[.string ⟨a.eqr.toArray⟩,.string ⟨v.toArray⟩] W fun e w'=>e= .returned (.tuple #[.string ⟨(z61_ a.eqr v).2.toArray⟩,.int .i64 (z61_ a.eqr v).1])∧Bel W w'):=hiD fun W h=>by
  rw[← zhv_]
  exact Norm_c a.eqr v W (hw.keep h) (by omega)
 clear hS hlim hf ha hn hw
 unfold z7_
 unfold jv_ z8_ at HA
 obtain⟨f,hfm⟩:∃ f,a.form=f:=⟨_,rfl⟩
 obtain⟨r,hr⟩:∃ r,a.eqr=r:=⟨_,rfl⟩
 rw[hfm,hr] at HA
 rw[hfm] at HV ⊢
 rw[hr] at HN hel ⊢
 clear hfm hr
 cases hv:j6_ f v with
 |false=>
  rw[hv] at HV
  simp only[Bool.false_eq_true,if_false]
  clear hv HN
  go_enter Tryz.func145,Tryz.ntmps145
  go_wp2_with (first|(go_at_call 83;refine HA.out.mono ?_;rintro e w1 ⟨A,n,c,rfl,hb1⟩)|(go_at_call 206;refine(HV.out _ (hb1.alloc hb1.size _)).mono ?_;rintro e w3 ⟨rfl,hb3⟩))
  all_goals
   go_ret2
   exact⟨rfl,(hb1.alloc hb1.size _).trans (hb3.mono (hb1.alloc hb1.size _).size)⟩
 |true=>
  rw[hv] at HV
  simp only[if_true]
  clear hv
  rcases r with _|⟨r0,rt⟩
  ·clear HN
   go_enter Tryz.func145,Tryz.ntmps145
   go_wp2_with (first|(go_at_call 83;refine HA.out.mono ?_;rintro e w1 ⟨A,n,c,rfl,hb1⟩)|(go_at_call 206;refine(HV.out _ (hb1.alloc hb1.size _)).mono ?_;rintro e w3 ⟨rfl,hb3⟩;have f5:=(hb3.cell (p:=⟨w1.heap.size,5,none⟩) (by show w1.heap.size<_;rw[World.size_alloc];omega)).trans ((Bk.new w1 _ _).cell 5);simp only[gs3] at f5))
   all_goals
    go_ret2
    exact⟨rfl,(hb1.alloc hb1.size _).trans (hb3.mono (hb1.alloc hb1.size _).size)⟩
  ·generalize z61_ (r0::rt) v=nr at HN ⊢
   obtain⟨ne,ns⟩:=nr
   simp only at HN
   go_enter Tryz.func145,Tryz.ntmps145
   go_wp2_with (first|(go_at_call 83;refine HA.out.mono ?_;rintro e w1 ⟨A,n,c,rfl,hb1⟩)|(go_at_call 206;refine(HV.out _ (hb1.alloc hb1.size _)).mono ?_;rintro e w3 ⟨rfl,hb3⟩;have f5:=(hb3.cell (p:=⟨w1.heap.size,5,none⟩) (by show w1.heap.size<_;rw[World.size_alloc];omega)).trans ((Bk.new w1 _ _).cell 5);simp only[gs3] at f5;have hB3:=(hb1.alloc hb1.size _).trans (hb3.mono (hb1.alloc hb1.size _).size))|(go_at_call 207;refine(HN.out _ hB3).mono ?_;rintro e w4 ⟨rfl,hb4⟩))
   all_goals
    go_ret2
    exact⟨rfl,tQ hB3 hb4⟩
theorem zez_ (s:Nat) (ps:List Nat) (L:List DefS) (hlim:∀ d∈L,DefLim d) (hrl:∀ d∈L,RuleLim d) (hk:∀ t i,zk_ L false t=some i→∃ a,q9_ L i=some a) (x v:LU) (w:World) (hw:Env w) (hS:SchAt w s ps L) (hx:x.length≤140737488351232):
  Calls Tryz.prog 145 #[z7_ s,.string ⟨x.toArray⟩,.string ⟨v.toArray⟩] w fun e w'=>e= .returned (.tuple #[.string ⟨(qi_ L x v).2.toArray⟩,.int .i64 (qi_ L x v).1])∧Bel w w':=by
 cases hf:zk_ L false x with
 |none=>exact z6t_ s ps L x v w hS hx hf
 |some i=>
  obtain⟨a,ha⟩:=hk x i hf
  exact z6h_ s ps L hlim x v i a w hw hS hx hf ha (ks_ hrl _ _ _ ha).1
theorem zi2_ (s:Nat) (ps:List Nat) (L:List DefS) (hlim:∀ d∈L,DefLim d) (hrl:∀ d∈L,RuleLim d) (hk:∀ t i,zk_ L false t=some i→∃ a,q9_ L i=some a) (x v:LU) (w:World) (hw:Env w) (hS:SchAt w s ps L) (hx:x.length≤1000000):
  Calls Tryz.prog 145 #[z7_ s,.string ⟨x.toArray⟩,.string ⟨v.toArray⟩] w fun e w'=>e= .returned (.tuple #[.string ⟨(qi_ L x v).2.toArray⟩,.int .i64 (qi_ L x v).1])∧Bel w w':=
 zez_ s ps L hlim hrl hk x v w hw hS (nT hx (by decide))
theorem z29_ {α β:Type} {f:α→Int × β}:∀ {l:List α} {k:Nat} {x:α},(∀ y∈l.take k,(f y).1=0)→l[k]?=some x→(f x).1≠0→z89_ f l=((f x).1,[])
 |[],k,x,_,h,_=>by simp at h
 |y::t,0,x,_,h,hx=>by
  simp at h
  subst h
  rw[z89_,if_pos hx]
 |y::t,k+1,x,h0,h,hx=>by
  have h1:(f y).1=0:=h0 y (by simp)
  have ih:=z29_ (f:=f) (l:=t) (k:=k) (x:=x) (fun z hz=>h0 z (by simp [hz])) (by simpa using h) hx
  rw[z89_,if_neg (by simpa using h1),ih,if_pos hx]
def v2_ {α:Type} (f:α→α) (p:List α) (j:Nat):List α:=(p.take j).map f++p.drop j
theorem z7a_ {α:Type} (f:α→α) (p:List α) (j:Nat):(v2_ f p j).length=p.length:=by simp [v2_];omega
theorem z39_ {α:Type} (f:α→α) (p:List α):v2_ f p 0=p:=by simp [v2_]
theorem z6l_ {α:Type} (f:α→α) (p:List α):v2_ f p p.length=p.map f:=by simp [v2_]
theorem z9x_ {α:Type} (f:α→α) (p:List α) (j:Nat) (h:j<p.length):(v2_ f p j)[j]?=some p[j]:=by
 unfold v2_
 rw[List.getElem?_append_right (by simp;omega)]
 simp [Nat.min_eq_left (Nat.le_of_lt h)]
theorem z2r_ {α:Type} (f:α→α) (p:List α) (j:Nat) (h:j<p.length):(v2_ f p j).set j (f p[j])=v2_ f p (j+1):=by
 have hl:((p.take j).map f).length=j:=by simp;omega
 unfold v2_
 rw[List.set_append_right _ _ (by omega),hl,Nat.sub_self,List.drop_eq_getElem_cons h,List.set_cons_zero,List.take_succ_eq_append_getElem h,List.map_append,List.append_assoc]
 rfl
theorem vc_ {α:Type} {P:α→Prop} {p:List α} {j:Nat} (h:j<p.length) (h0:∀ y∈p.take j,P y) (h1:P p[j]):∀ y∈p.take (j+1),P y:=by
 intro y hy
 rw[List.take_succ_eq_append_getElem h] at hy
 rcases List.mem_append.1 hy with hy|hy
 ·exact h0 y hy
 ·have:y=p[j]:=by simpa using hy
  rw[this]
  exact h1
def zdt_ (L:List DefS) (x:LU × LU):LU × LU:=(z15_ L x).2
def z0h_ (L:List DefS) (p:List (LU × LU)):List (LU × LU):=z6w_ (p.map (zdt_ L))
theorem z4n_ {L:List DefS} {p:List (LU × LU)} (h:∀ x∈p,(z15_ L x).1=0):z1q_ L p=(0,z0h_ L p):=by
 unfold z1q_
 rw[z80_ h]
 rfl
theorem zau_ {L:List DefS} {p:List (LU × LU)} {j:Nat} (hj:j<p.length) (h0:∀ y∈p.take j,(z15_ L y).1=0) (h:(z15_ L p[j]).1≠0):(z1q_ L p).1=(z15_ L p[j]).1:=by
 unfold z1q_
 rw[z29_ h0 (List.getElem?_eq_getElem hj) h]
theorem zke_ {L:List DefS} {s:LU} (h:(zd_ s).1≠0):z37_ L s=((zd_ s).1,[]):=by unfold z37_;rw[if_pos h]
theorem zfc_ {L:List DefS} {s:LU} {d:List (List (LU × LU))} {k:Nat} (h:zd_ s=(0,d)) (hk:k<d.length) (h0:∀ y∈d.take k,(z1q_ L y).1=0) (h1:(z1q_ L d[k]).1≠0):z37_ L s=((z1q_ L d[k]).1,[]):=by
 unfold z37_
 rw[h]
 simp only[ne_eq,not_true_eq_false,if_false]
 rw[z29_ h0 (List.getElem?_eq_getElem hk) h1,if_pos h1]
theorem key_ok {L:List DefS} {s:LU} {d:List (List (LU × LU))} (h:zd_ s=(0,d)) (h0:∀ y∈d,∀ x∈y,(z15_ L x).1=0):z37_ L s=j5_ (d.map (z0h_ L)):=by
 unfold z37_
 rw[h]
 simp only[ne_eq,not_true_eq_false,if_false]
 have e:z89_ (z1q_ L) d=(0,d.map (z0h_ L)):=by
  rw[z80_ (fun y hy=>by rw[z4n_ (h0 y hy)])]
  congr 1
  exact List.map_congr_left (fun y hy=>by rw[z4n_ (h0 y hy)])
 rw[e]
 simp
theorem zex_ (L:List DefS) (x:LU × LU):z15_ L x=((qi_ L x.1 x.2).1,(z2_ (z0u_ L x.1),(qi_ L x.1 x.2).2)):=rfl
theorem z8r_ {L:List DefS} {i:Nat} {d:DefS} {a:AttrS} (hd:L[i]?=some d) (ha:q9_ L i=some a):a.name=d.name:=by
 unfold q9_ at ha
 rw[jr_,hd] at ha
 simp only at ha
 split at ha
 ·cases ha;rfl
 ·split at ha
  ·cases ha
  ·rw[Option.map_eq_some_iff] at ha
   obtain⟨u,_,rfl⟩:=ha
   rfl
theorem zf6_ {L:List DefS} {t:LU} {i:Nat} {a:AttrS} (hf:zk_ L false t=some i) (ha:q9_ L i=some a):z0u_ L t=a.name:=by
 obtain⟨d,hd,_⟩:=z1c_ hf
 unfold z0u_ zdp_
 rw[hf]
 simp only
 rw[hd,z8r_ hd ha]
theorem z7m_ {L:List DefS} {t v:LU} (hf:zk_ L false t=none):qi_ L t v=(52,[]):=by unfold qi_;rw[hf]
end Go.Proofs.YtakfpngfpknedaaGreatDoor
