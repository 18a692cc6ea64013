import Derived.Test.YtakfpngfpknedaaGreatDoorE06
import Derived.Recover
set_option linter.all false
set_option maxHeartbeats 8000000
set_option maxRecDepth 100000
namespace Go.Proofs.YtakfpngfpknedaaGreatDoor
open Go.RowKit
def zip_:List PanicEntry:=[{v:= .iface 26 (.int .i64 30),recovered:=true}]
theorem z12_ (g h:Nat) (w:World) (v1 v2:Value) (hc1:w.cell? ⟨g,0,none⟩=some v1) (hc2:w.cell? ⟨h,0,none⟩=some v2) (hz1:w.frozen? ⟨g,0,none⟩=false) (hz2:w.frozen? ⟨h,0,none⟩=false) (hne:g≠h):
  CallsD Tryz.prog 203 #[.pointer (some ⟨g,0,none⟩),.pointer (some ⟨h,0,none⟩)] (.panicking vz_) w fun e u' w'=>
   e= .returned (.tuple #[])∧u'= .panicking zip_∧w'=(w.setCell ⟨g,0,none⟩ (.slice none 0 0)).setCell ⟨h,0,none⟩ (.int .i64 30):=by
 refine callsD_of_wpS Tryz.func203 rfl fun c₀ cs hu=>?_
 apply wpS_seq
 apply wpS_region
 simp [wpOpsS,go_sem,recoverD,hu,vz_,Tryz.ntmps203,Exit.thenS]
 refine wpS_of_wp ?_
 have hrep:(Array.replicate 15 undef:Array Value)=#[undef,undef,undef,undef,undef,undef,undef,undef,undef,undef,undef,undef,undef,undef,undef]:=rfl
 simp only[hrep,List.setIfInBounds_toArray,List.append_toArray,List.cons_append,List.nil_append,List.set_cons_zero,List.set_cons_succ]
 have hta:∀ W:World,(Instr.typeAssert (.iface 26 (.int .i64 30)) 20 26 true).run Tryz.prog W= .ok (.tuple #[.int .i64 30,.bool true]) W:=fun W=>by kernel_rfl
 have hc3:(w.setCell ⟨g,0,none⟩ (.slice none 0 0)).cell? ⟨h,0,none⟩=some v2:=by rw[show (w.setCell ⟨g,0,none⟩ (.slice none 0 0)).cell? ⟨h,0,none⟩=w.cell? ⟨h,0,none⟩ from World.cell?_of_block (Below.heap_setCell _ _ _ _ (Ne.symm hne))];exact hc2
 have hz3:(w.setCell ⟨g,0,none⟩ (.slice none 0 0)).frozen? ⟨h,0,none⟩=false:=(World.frozen?_setCell _ _ _ _).trans hz2
 go_wp2_with fail
 simp [bodyPostS,results,Tryz.results203,zip_]
theorem z2d_ (g h:Nat) (w:World):
  CallsD Tryz.prog 203 #[.pointer (some ⟨g,0,none⟩),.pointer (some ⟨h,0,none⟩)] .returning w fun e u' w'=>e= .returned (.tuple #[])∧u'= .returning∧w'=w:=by
 refine callsD_of_wpS Tryz.func203 rfl fun c₀ cs hu=>?_
 apply wpS_seq
 apply wpS_region
 simp [wpOpsS,go_sem,recoverD,hu,Tryz.ntmps203,Exit.thenS]
 refine wpS_of_wp ?_
 have hrep:(Array.replicate 15 undef:Array Value)=#[undef,undef,undef,undef,undef,undef,undef,undef,undef,undef,undef,undef,undef,undef,undef]:=rfl
 simp only[hrep,List.setIfInBounds_toArray,List.append_toArray,List.cons_append,List.nil_append,List.set_cons_zero,List.set_cons_succ]
 go_wp2_with fail
 cases c₀
 simp_all [bodyPostS,results,Tryz.results203]
def zd_ (s:LU):Int × List (List (LU × LU)):=
 if 65536<s.length then (2,[]) else match z22_ s with
  |none=>(30,[])
  |some d=>if zz_ d then (2,[]) else (0,d)
def z9u_ (w:World) (r:Int × List (List (LU × LU))) (e:Ending) (w':World):Prop:=
 Bel w w'∧∃ v,e= .returned (.tuple #[v,.int .i64 r.1])∧DnAt w.heap.size w' v r.2
theorem zf0_ {w:World} (hw:Env w) {b:Nat} (hb:w.heap.size≤b):Off b:=by
 obtain⟨⟨h1,h2⟩,m,hm⟩:=hw
 have l1:=World.block_lt_of_cell? _ _ (h1 0 (by decide))
 have l2:=World.block_lt_of_cell? _ _ (h2 0 (by decide)).1
 have l3:=World.block_lt_of_cell? _ _ hm
 refine⟨?_,?_,?_⟩
 all_goals (intro e;subst e;simp at l1 l2 l3;omega)
theorem z6_ (w:World) (g i:Nat) (u:Value):w.grownBy (w.setCell ⟨g,i,none⟩ u) (some g):=
 ⟨rfl,rfl,rfl,by simp [World.setCell],fun k _ hne=>Below.heap_setCell _ _ _ _ (by intro e;apply hne;rw[e])⟩
theorem DnAt.keep {B:Nat} {w w':World} {v:Value} {d:List (List (LU × LU))} (h:DnAt B w v d) {r:Option Nat} (hg:w.grownBy w' r) (hr:∀ k,r=some k→k<B):DnAt B w' v d:=by
 obtain⟨vs,h⟩:=h
 exact⟨vs,h.keep hg hr⟩
theorem DnAt.lower {B B':Nat} {w:World} {v:Value} {d:List (List (LU × LU))} (h:DnAt B w v d) (hB:B'≤B):DnAt B' w v d:=by
 obtain⟨vs,⟨h0,h1⟩,h2,h3,h4⟩:=h
 refine⟨vs,⟨h0,h1.imp id ?_⟩,by omega,h3.imp fun _ _ _ hu=>hu.lower hB,h4⟩
 rintro⟨g,cap,cur,r1,r2,r3⟩
 exact⟨g,cap,cur,r1,by omega,r3⟩
theorem DnAt.nil {w:World}:DnAt w.heap.size w (.slice none 0 0) []:=⟨[],World.ownsRow_nil _ _ _ _,nR _,.nil,by simp⟩
theorem DnAt.isSlice {B:Nat} {w:World} {v:Value} {d:List (List (LU × LU))} (h:DnAt B w v d):∃ A c,v= .slice A d.length c∧d.length≤c:=by
 obtain⟨A,c,rfl,hc,_⟩:=h.reads
 exact⟨A,c,rfl,hc⟩
theorem z78_:∀ (n:Nat) (r r':LU) (acc l:List (LU × LU)),jq_ n r acc=some (l,r')→l.length+r'.length≤acc.length+r.length
 |0,r,r',acc,l,h=>by
  rw[jq_] at h
  split at h
  ·cases h
  ·cases h;exact nR _
 |n+1,r,r',acc,l,h=>by
  rw[jq_] at h
  split at h
  ·split at h
   ·cases h
   ·next x r2 hp=>
    have h1:=x5_ hp
    have h2:=z78_ n r2 r' _ l h
    have h3:r.tail.length≤r.length:=by simp
    simp at h2
    omega
  ·cases h;exact nR _
theorem z70_ {r r':LU} {l:List (LU × LU)} (h:xc_ r=some (l,r')):l.length≤r.length:=by
 unfold xc_ at h
 split at h
 ·cases h
 ·next x r2 hp=>
  have h1:=x5_ hp
  have h2:=z78_ _ _ _ _ _ h
  simp at h2
  omega
theorem z74_ (m:Nat):∀ (n:Nat) (r r':LU) (acc l:List (List (LU × LU))),r.length≤m→(∀ p∈acc,p.length≤m)→jn_ n r acc=some (l,r')→l.length≤acc.length+r.length∧∀ p∈l,p.length≤m
 |0,r,r',acc,l,hr,ha,h=>by
  rw[jn_] at h
  split at h
  ·cases h
  ·cases h;exact⟨Nat.le_add_right _ _,ha⟩
 |n+1,r,r',acc,l,hr,ha,h=>by
  rw[jn_] at h
  split at h
  ·split at h
   ·cases h
   ·next x r2 hp=>
    have h1:=yx_ hp
    have h0:=z70_ hp
    have h3:r.tail.length≤r.length:=by simp
    have h2:=z74_ m n r2 r' _ l (by omega) (by intro p hp;simp at hp;rcases hp with hp|rfl;exact ha p hp;omega) h
    simp at h2
    exact⟨by omega,h2.2⟩
  ·cases h;exact⟨Nat.le_add_right _ _,ha⟩
theorem zej_ {s:LU} {d:List (List (LU × LU))} (h:z22_ s=some d):d.length≤s.length+1∧∀ p∈d,p.length≤s.length:=by
 unfold z22_ at h
 split at h
 ·cases h;simp
 ·rcases hp:xc_ s with _|⟨p,r⟩
  ·rw[hp] at h;cases h
  ·rw[hp] at h
   have h1:=yx_ hp
   have h0:=z70_ hp
   simp only[z56_] at h
   rcases hn:jn_ r.length r [p] with _|⟨d',r'⟩
   ·rw[hn] at h;cases h
   ·rw[hn] at h
    simp only[z1h_] at h
    split at h
    ·cases h
     have:=z74_ s.length _ _ _ _ _ (by omega) (by simpa using h0) hn
     simp at this
     exact⟨by omega,this.2⟩
    ·cases h
theorem v4_ {w W:World} {tmps:Array Value} {g h:Nat} {v:Value} {x:Int} {d:List (List (LU × LU))} (hb:Bel w W)
  (c1:W.cell? ⟨g,0,none⟩=some v) (c2:W.cell? ⟨h,0,none⟩=some (.int .i64 x)) (t2:tmps[2]?=some (.pointer (some ⟨g,0,none⟩))) (t3:tmps[3]?=some (.pointer (some ⟨h,0,none⟩)))
  (hd:DnAt w.heap.size W v d):Leaves Tryz.prog Tryz.f144 tmps (z9u_ w (x,d)) [] .returning W:=by
 have e2:tmps[2]?.getD undef= .pointer (some ⟨g,0,none⟩):=by rw[t2];rfl
 have e3:tmps[3]?.getD undef= .pointer (some ⟨h,0,none⟩):=by rw[t3];rfl
 refine⟨.tuple #[v,.int .i64 x],?_,hb,v,rfl,hd⟩
 simp [results,Tryz.results144,go_sem,e2,e3,c1,c2]
theorem kw_ (s:LU) (w:World) (hw:Env w):
  Calls Tryz.prog 144 #[.string ⟨s.toArray⟩] w (z9u_ w (zd_ s)):=by
 have hmf:=z2x_
 by_cases hlen:65536<s.length
 ·have hR:zd_ s=(2,[]):=by unfold zd_;rw[if_pos hlen]
  rw[hR]
  clear hR
  go_enter_defers Tryz.func144,Tryz.ntmps144
  go_wp2_with fail
  have hb:Bel w ((w.alloc (.cells #[.slice none 0 0] 183)).alloc (.cells #[.int .i64 2] 26)):=
   ((bR _ _).alloc (nR _) _).alloc (by simp) _
  refine v4_ (g:=w.heap.size) (h:=w.heap.size+1) (v:= .slice none 0 0) hb ?_ ?_ rfl rfl ?_
  ·simp [go_sem]
  ·simp [go_sem]
  ·exact(DnAt.nil (w:=w)).keep (z1_ hb none) (by simp)
 ·have hb:Bel w (((w.alloc (.cells #[.slice none 0 0] 183)).alloc (.cells #[.int .i64 0] 26)).alloc (.cells #[.string ⟨s.toArray⟩,.int .i64 0] 236)):=
   (((bR _ _).alloc (nR _) _).alloc (by simp) _).alloc (by simp;omega) _
  have hz:(zeroValue 236).run Tryz.prog ((w.alloc (.cells #[.slice none 0 0] 183)).alloc (.cells #[.int .i64 0] 26))= .ok (.agg #[.string ⟨#[]⟩,.int .i64 0]) ((w.alloc (.cells #[.slice none 0 0] 183)).alloc (.cells #[.int .i64 0] 26)):=by kernel_rfl
  have k1:Bk (((w.alloc (.cells #[.slice none 0 0] 183)).alloc (.cells #[.int .i64 0] 26)).alloc (.cells #[.string ⟨s.toArray⟩,.int .i64 0] 236)) w.heap.size 183 #[.slice none 0 0]:=((Bk.new w _ _).alloc _).alloc _
  have k2:Bk (((w.alloc (.cells #[.slice none 0 0] 183)).alloc (.cells #[.int .i64 0] 26)).alloc (.cells #[.string ⟨s.toArray⟩,.int .i64 0] 236)) (w.heap.size+1) 26 #[.int .i64 0]:=by
   have:=Bk.new (w.alloc (.cells #[.slice none 0 0] 183)) 26 #[.int .i64 0]
   rw[show (w.alloc (.cells #[.slice none 0 0] 183)).heap.size=w.heap.size+1 by simp] at this
   exact this.alloc _
  have k3:RdAt (((w.alloc (.cells #[.slice none 0 0] 183)).alloc (.cells #[.int .i64 0] 26)).alloc (.cells #[.string ⟨s.toArray⟩,.int .i64 0] 236)) (w.heap.size+1+1) s s:=by
   refine⟨0,Nat.zero_le _,rfl,?_⟩
   have:=Bk.new ((w.alloc (.cells #[.slice none 0 0] 183)).alloc (.cells #[.int .i64 0] 26)) 236 #[.string ⟨s.toArray⟩,.int .i64 0]
   rw[show ((w.alloc (.cells #[.slice none 0 0] 183)).alloc (.cells #[.int .i64 0] 26)).heap.size=w.heap.size+1+1 by simp] at this
   exact this
  have hsz:(((w.alloc (.cells #[.slice none 0 0] 183)).alloc (.cells #[.int .i64 0] 26)).alloc (.cells #[.string ⟨s.toArray⟩,.int .i64 0] 236)).heap.size=w.heap.size+3:=by simp
  have hN:=zft_ (w.heap.size+1+1) s _ (hw.keep hb) (zf0_ hw (by omega)) k3 (by omega)
  go_enter_defers Tryz.func144,Tryz.ntmps144
  generalize hW:(((w.alloc (.cells #[.slice none 0 0] 183)).alloc (.cells #[.int .i64 0] 26)).alloc (.cells #[.string ⟨s.toArray⟩,.int .i64 0] 236))=W at hb k1 k2 k3 hsz hN
  rcases hn:z22_ s with _|d
  ·have hR:zd_ s=(30,[]):=by unfold zd_;rw[if_neg hlen,hn]
   rw[hn] at hN
   rw[hR]
   clear hR hn
   go_wp2_with (go_at_call 204;rw[hW])
   refine hN.mono ?_
   rintro e w1 ⟨h1,rfl⟩
   show Leaves _ _ _ _ _ _ _
   refine leaves_cons (u:= .panicking vz_) (fv:= .func 203) (cap:=#[.pointer (some ⟨w.heap.size,0,none⟩),.pointer (some ⟨w.heap.size+1,0,none⟩)]) (dargs:=#[]) (f:=203) (args:=#[.pointer (some ⟨w.heap.size,0,none⟩),.pointer (some ⟨w.heap.size+1,0,none⟩)]) (by simp) (by simp [go_sem]) ?_
   have j1:=k1.grown h1 (by simp<;>omega)
   have j2:=k2.grown h1 (by simp)
   refine(z12_ w.heap.size (w.heap.size+1) w1 _ _ (j1.cell 0) (j2.cell 0) (j1.frozen 0) (j2.frozen 0) (by omega)).mono ?_
   rintro e u' w'' ⟨rfl,rfl,rfl⟩
   have b1:Bel w w1:=hb.grown h1 (by omega) (by simp<;>omega)
   have b2:Bel w ((w1.setCell ⟨w.heap.size,0,none⟩ (.slice none 0 0)).setCell ⟨w.heap.size+1,0,none⟩ (.int .i64 30)):=(b1.setCell (nR _) _).setCell (by simp) _
   have l1:=(j1.set 0 (.slice none 0 0)).far (g':=w.heap.size+1) (i:=0) (by omega) (.int .i64 30)
   have l2:=(j2.far (g':=w.heap.size) (i:=0) (by omega) (.slice none 0 0)).set 0 (.int .i64 30)
   exact v4_ b2 (l1.cell 0) (l2.cell 0) rfl rfl ((DnAt.nil (w:=w)).keep (z1_ b2 none) (by simp))
  ·have hdl:=zej_ hn
   rw[hn] at hN
   cases hT:zz_ d
   ·have hR:zd_ s=(0,d):=by unfold zd_;rw[if_neg hlen,hn];simp [hT]
    rw[hR]
    clear hR hn
    go_wp2_with (go_at_call 204;rw[hW])
    refine hN.mono ?_
    rintro e w1 ⟨h1,v,rfl,hd⟩
    obtain⟨A,c,rfl,hc⟩:=hd.isSlice
    have hT2:=z23_ d _ w1 hd.reads (by omega) (fun p hp=>by have:=hdl.2 p hp;omega)
    rw[hT] at hT2
    have j1:=k1.grown h1 (by simp<;>omega)
    have j2:=k2.grown h1 (by simp)
    have b1:Bel w w1:=hb.grown h1 (by omega) (by simp<;>omega)
    go_wp2_with (go_at_call 205;refine hT2.mono ?_;rintro e w2 ⟨rfl,hb2⟩;have i1:=j1.below hb2;have i2:=j2.below hb2;have f1:=i1.frozen 0;have f2:=i2.frozen 0;have f3:=(i2.far (g':=w.heap.size) (i:=0) (by omega) (.slice A d.length c)).frozen 0;have d1:=i1.cell 0;have d2:=i2.cell 0;have d3:=(i2.far (g':=w.heap.size) (i:=0) (by omega) (.slice A d.length c)).cell 0)
    refine leaves_cons (u:= .returning) (fv:= .func 203) (cap:=#[.pointer (some ⟨w.heap.size,0,none⟩),.pointer (some ⟨w.heap.size+1,0,none⟩)]) (dargs:=#[]) (f:=203) (args:=#[.pointer (some ⟨w.heap.size,0,none⟩),.pointer (some ⟨w.heap.size+1,0,none⟩)]) (by simp) (by simp [go_sem]) ?_
    refine(z2d_ w.heap.size (w.heap.size+1) _).mono ?_
    rintro e u' w'' ⟨rfl,rfl,rfl⟩
    have b2:Bel w w2:=tQ b1 hb2
    have b3:Bel w ((w2.setCell ⟨w.heap.size,0,none⟩ (.slice A d.length c)).setCell ⟨w.heap.size+1,0,none⟩ (.int .i64 0)):=(b2.setCell (nR _) _).setCell (by simp) _
    have l1:=(i1.set 0 (.slice A d.length c)).far (g':=w.heap.size+1) (i:=0) (by omega) (.int .i64 0)
    have l2:=(i2.far (g':=w.heap.size) (i:=0) (by omega) (.slice A d.length c)).set 0 (.int .i64 0)
    exact v4_ b3 (l1.cell 0) (l2.cell 0) rfl rfl ((((hd.keep (z1_ hb2 none) (by simp)).keep (z6_ w2 w.heap.size 0 _) (by simp;omega)).keep (z6_ _ (w.heap.size+1) 0 _) (by simp;omega)).lower (by omega))
   ·have hR:zd_ s=(2,[]):=by unfold zd_;rw[if_neg hlen,hn];simp [hT]
    rw[hR]
    clear hR hn
    go_wp2_with (go_at_call 204;rw[hW])
    refine hN.mono ?_
    rintro e w1 ⟨h1,v,rfl,hd⟩
    obtain⟨A,c,rfl,hc⟩:=hd.isSlice
    have hT2:=z23_ d _ w1 hd.reads (by omega) (fun p hp=>by have:=hdl.2 p hp;omega)
    rw[hT] at hT2
    have j1:=k1.grown h1 (by simp<;>omega)
    have j2:=k2.grown h1 (by simp)
    have b1:Bel w w1:=hb.grown h1 (by omega) (by simp<;>omega)
    go_wp2_with (go_at_call 205;refine hT2.mono ?_;rintro e w2 ⟨rfl,hb2⟩;have i1:=j1.below hb2;have i2:=j2.below hb2;have f1:=i1.frozen 0;have f2:=i2.frozen 0;have f3:=(i2.far (g':=w.heap.size) (i:=0) (by omega) (.slice none 0 0)).frozen 0;have d1:=i1.cell 0;have d2:=i2.cell 0;have d3:=(i2.far (g':=w.heap.size) (i:=0) (by omega) (.slice none 0 0)).cell 0)
    refine leaves_cons (u:= .returning) (fv:= .func 203) (cap:=#[.pointer (some ⟨w.heap.size,0,none⟩),.pointer (some ⟨w.heap.size+1,0,none⟩)]) (dargs:=#[]) (f:=203) (args:=#[.pointer (some ⟨w.heap.size,0,none⟩),.pointer (some ⟨w.heap.size+1,0,none⟩)]) (by simp) (by simp [go_sem]) ?_
    refine(z2d_ w.heap.size (w.heap.size+1) _).mono ?_
    rintro e u' w'' ⟨rfl,rfl,rfl⟩
    have b2:Bel w w2:=tQ b1 hb2
    have b3:Bel w ((w2.setCell ⟨w.heap.size,0,none⟩ (.slice none 0 0)).setCell ⟨w.heap.size+1,0,none⟩ (.int .i64 2)):=(b2.setCell (nR _) _).setCell (by simp) _
    have l1:=(i1.set 0 (.slice none 0 0)).far (g':=w.heap.size+1) (i:=0) (by omega) (.int .i64 2)
    have l2:=(i2.far (g':=w.heap.size) (i:=0) (by omega) (.slice none 0 0)).set 0 (.int .i64 2)
    exact v4_ b3 (l1.cell 0) (l2.cell 0) rfl rfl ((DnAt.nil (w:=w)).keep (z1_ b3 none) (by simp))
open Go.RowKit
def hexCs:LU:=[48,49,50,51,52,53,54,55,56,57,97,98,99,100,101,102]
def hexD (n:Nat):UInt8:=hexCs.getD n 0
def zac_ (l:LU):LU:=l.flatMap fun c=>[hexD (c.toNat / 16),hexD (c.toNat % 16)]
section
variable {ops:Array Oper} {o:Oper} {a:Act} {K:Act→World→Prop} {Q:Exit→Act→World→Prop} {E:Prop}
theorem z0y_ {P:Program} {w:World} (hgd:o.guard=none) (s x:Operand) (t:TypeId)
  (ho:o.op= .call {callee:= .builtin .append,args:=#[s,x],argTypes:=#[t,t]})
  (base:Nat) (e:TypeId) (i:TypeInfo) (z:Value) (size bytes:Nat) (ht:P.underlying t=some (.slice e)) (hi:P.info? e=some i) (hz:i.zero=some z)
  (hsize:i.size=size) (hby:i.bytes=bytes) (hzs:z.cells.size=size) (hsz:0<size)
  (v:Value) (n:Nat) (xs:List Value) (hs:a.eval s=v) (hown:w.ownsRowF base e size v n xs)
  (ad:Addr) (m c:Nat) (news:List Value) (hx:a.eval x= .slice (some ad) m c) (hl:news.length=m * size) (hnews:∀ j u,news[j]?=some u→w.cell? (ad.add j)=some u) (h1:∀ u∈news,u.oneCell'=true)
  (h63:n+m≤maxLen) (hbytes:(n+m) * bytes≤140737488355328) (hbase:base≤w.heap.size)
  (h:∀ v' w',w'.ownsRowF base e size v' (n+m) (xs++news)→w.grownBy w' v.ownBlock→K (a.put o.dst v') w'):
  if Region.wanted o (yielded ops a.tmps)=true then Oper.wp P o a w K Q else E:=by
 have hw:Region.wanted o (yielded ops a.tmps)=true:=by simp [Region.wanted,hgd]
 rw[if_pos hw]
 obtain⟨v',w',hr,h2,h3,h4⟩:=run_append_ownF (P:=P) w base t o.type e i z size bytes ht hi hz hsize hby hzs hsz v n xs hown ad m c news hl hnews h1 h63 hbytes hbase
 unfold Oper.wp execOp
 simp only[ho,resolve,invoke,builtin,Sem.run_bind,Sem.run_pure,Result.andThen_ok,List.map_toArray,List.map_cons,List.map_nil,hs,hx,hr]
 exact h v' w' h2 h3
theorem zgr_ (hgd:o.guard=none) (s x:Operand) (ho:o.op= .call {callee:= .builtin .append,args:=#[s,x],argTypes:=#[103,103]})
  {v:Value} {l:LU} {W0 w0:World} {c d:UInt8} (hs:a.eval s=v) (hb:Buf W0 w0 v l)
  (hx:a.eval x= .slice (some ⟨w0.heap.size,0,none⟩) 2 2) (hlen:l.length+2≤140737488355328)
  (h:∀ v' w',Buf W0 w' v' (l++[c,d])→w0.grownBy w' v.ownBlock→K (a.put o.dst v') w'):
  if Region.wanted o (yielded ops a.tmps)=true then Oper.wp Tryz.prog o a (w0.alloc (.cells #[.int .u8 c.toNat,.int .u8 d.toNat] 5)).drew K Q else E:=by
 obtain⟨i,h1,h2,h3,h4⟩:=infoByte
 have hb0:=(Buf.alloc hb (.cells #[.int .u8 c.toNat,.int .u8 d.toNat] 5)).drewN 1
 have hb':Lib.OwnBuf W0.heap.size 5 v l.length (Lib.byteCells l) W0 (w0.alloc (.cells #[.int .u8 c.toNat,.int .u8 d.toNat] 5)).drew:=hb0
 refine z0y_ hgd s x 103 ho W0.heap.size 5 i (.int .u8 0) 1 1 Tryz.underlying103 h1 h2 h3 h4 rfl (by decide) v _ _ hs hb'.1 ⟨w0.heap.size,0,none⟩ 2 2 [.int .u8 c.toNat,.int .u8 d.toNat] hx rfl ?_ ?_ (by unfold maxLen;omega) (by omega) hb'.2.2 ?_
 ·intro j u hj
  match j,hj with
  |0,hj=>simp at hj;subst hj;simp [Addr.add]
  |1,hj=>simp at hj;subst hj;simp [Addr.add]
  |(j+2),hj=>simp at hj
 ·intro u hu;simp at hu;rcases hu with rfl|rfl<;>rfl
 ·intro v' w' ho' hg
  refine h v' w' ?_ (gT (World.grownBy_alloc _ _ _) ⟨hg.os,hg.tape,hg.output,hg.size,hg.block⟩)
  have hv:=hb'.grown ho' hg
  unfold Buf
  simpa [Lib.byteCells] using hv
end
theorem zeo_:∀ c:Fin 256,bits BinOp.and IntKind.u8 (c.val:Int) 15=((c.val % 16:Nat):Int):=by decide+kernel
theorem and15 (c:UInt8):bits BinOp.and IntKind.u8 (c.toNat:Int) 15=((c.toNat % 16:Nat):Int):=zeo_ ⟨c.toNat,UInt8.toNat_lt c⟩
theorem zd3_ (m:Int) (n:Nat) (h:m.toNat<hexCs.length) (e:m=(n:Int)):hexCs[m.toNat]=hexD n:=by
 subst e
 unfold hexD
 rw[List.getD_eq_getElem?_getD,List.getElem?_eq_getElem (by simpa using h)]
 simp
theorem z5r_ (l:LU) (p:Nat) (h:p<l.length):zac_ (l.take (p+1))=zac_ (l.take p)++[hexD (l[p].toNat / 16),hexD (l[p].toNat % 16)]:=by
 rw[List.take_succ_eq_append_getElem h]
 unfold zac_
 rw[List.flatMap_append]
 rfl
theorem Hex_c (l:LU) (w:World) (hl:l.length≤1048576):
  Calls Tryz.prog 258 #[.string ⟨l.toArray⟩] w fun e w'=>e= .returned (.string ⟨(zac_ l).toArray⟩)∧Bel w w':=by
 have hget:=qb_
 go_enter Tryz.func258,Tryz.ntmps258
 go_wp2_with (at_make;refine z9v_ rfl _ _ rfl (2 * l.length) _ rfl rfl (by simp) (by omega) ?_;intro w1 hb1)
 go_loopg [3,11] l.length (fun gk v i wr=>∃ (p:Nat) (acc:LU),p≤l.length∧i= .int .i64 p∧Aside (p+gk=l.length)∧Buf w wr v acc∧acc.length≤2 * p∧Aside (acc=zac_ (l.take p)))
 case atStart=>exact⟨0,[],by omega,rfl,by show _=_;omega,hb1,by simp,rfl⟩
 case round=>
  obtain⟨p,acc,hp,rfl,AG,hbuf,hacc,AU⟩:=hrel
  by_cases hlt:p<l.length
  ·obtain⟨q,rfl⟩:∃ q,gk=q+1:=⟨gk - 1,by have:=AG.out;omega⟩
   have h8:=UInt8.toNat_lt l[p]
   have hk0:(0:Int)≤(p:Int):=by omega
   have hk1:(p:Int)<(l.length:Int):=by omega
   have ha:=and15 l[p]
   have ha2:((l[p].toNat % 16:Nat):Int)<16:=by omega
   have ha3:(0:Int)≤((l[p].toNat % 16:Nat):Int):=by omega
   have hd1:(l[p].toNat:Int) / 16<16:=by omega
   have hd0:(0:Int)≤(l[p].toNat:Int) / 16:=by omega
   go_wp2_with fail
   go_region_held3 (fun _=>True) (trivial) ((refine zgr_ (by rfl) _ _ (by rfl) rfl hbuf rfl (by omega) ?_;intro v' w2 hb2 hg2))
   all_goals
    have e1:=zd3_ ((l[p].toNat:Int) / 16) (l[p].toNat / 16) (by show _<16;omega) (by omega)
    have e2:=zd3_ ((l[p].toNat:Int) % 16) (l[p].toNat % 16) (by show _<16;omega) (by omega)
    have hb3:Buf w w2 v' (zac_ (l.take (p+1))):=by
     rw[z5r_ l p hlt,← AU.out,← e1,← e2]
     exact hb2
    clear hb2 hg2 e1 e2
    go_wp2_with fail
    go_roundg q
    case measure=>omega
    case rel=>
     exact⟨p+1,_,by omega,by go_num,by have:=AG.out;show _=_;omega,hb3,by rw[z5r_ l p hlt,← AU.out];simp;omega,rfl⟩
  ·obtain rfl:p=l.length:=by omega
   have hfin:acc=zac_ l:=by have:=AU.out;rw[List.take_length] at this;exact this
   have Hf:=hiD hfin
   have hst:=k6_ hbuf
   have hB:=hbuf.below
   clear AU hfin
   go_wp2
   go_ret
   exact⟨by rw[← Hf.out];rfl,hB⟩
open Go.RowKit
def escB (n p:Nat) (c:UInt8):Bool:=decide (0≤Lib.indexByte z0w_ c)||((p:Int)==0 && ((c.toNat:Int)==35||(c.toNat:Int)==32))||((p:Int)==(n:Int) - 1 && (c.toNat:Int)==32)
def wrB (n p:Nat) (c:UInt8):LU:=if (c.toNat:Int)==0 then [92,48,48] else if escB n p c then [92,c] else [c]
def wrL (v:LU):Nat→LU
 |0=>[]
 |p+1=>wrL v p++wrB v.length p (v.getD p 0)
def jj_ (v:LU):LU:=if Lib.validD v then wrL v v.length else 35::zac_ v
theorem z9f_ (l:LU):(zac_ l).length=2 * l.length:=by
 unfold zac_
 induction l with
 |nil=>rfl
 |cons a t ih=>simp only[List.flatMap_cons,List.length_append,ih,List.length_cons,List.length_nil];omega
theorem zky_ (n p:Nat) (c:UInt8):(wrB n p c).length≤3:=by unfold wrB;split;decide;split<;>simp
theorem z81_ (v:LU):∀ p,(wrL v p).length≤3 * p
 |0=>by simp [wrL]
 |p+1=>by have:=z81_ v p;have:=zky_ v.length p (v.getD p 0);simp only[wrL,List.length_append];omega
theorem wrL_at (v:LU) (p:Nat) (h:p<v.length) (x:LU) (hx:wrB v.length p v[p]=x):wrL v (p+1)=wrL v p++x:=by
 rw[wrL,List.getD_eq_getElem?_getD,List.getElem?_eq_getElem h]
 exact congrArg _ hx
theorem zf4_ (l:LU) (w:World) (hw:Env w) (hl:l.length≤65536):
  Calls Tryz.prog 215 #[.string ⟨l.toArray⟩] w fun e w'=>e= .returned (.string ⟨(jj_ l).toArray⟩)∧Bel w w':=by
 have hT:=zcj_ l w hw (by omega)
 have hxl:(zac_ l).length=2 * l.length:=z9f_ l
 have hcat:=fun w=>run_string_add_lists (P:=Tryz.prog) w [35] (zac_ l) (by simp) (by omega)
 cases hV:Lib.validD l
 ·have hR:jj_ l=35::zac_ l:=by unfold jj_;rw[hV];rfl
  rw[hR]
  rw[hV] at hT
  clear hR hV
  go_enter Tryz.func215,Tryz.ntmps215
  go_wp2_with (first|(go_at_call 257;refine hT.mono ?_;rintro e w1 ⟨rfl,hb1⟩)|(go_at_call 258;refine(Hex_c l _ (by omega)).mono ?_;rintro e w2 ⟨rfl,hb2⟩))
  go_ret
  exact⟨rfl,tQ hb1 hb2⟩
 ·have hR:jj_ l=wrL l l.length:=by unfold jj_;rw[hV];rfl
  rw[hR]
  rw[hV] at hT
  clear hR hV hcat hxl
  have hget:=qb_
  go_enter Tryz.func215,Tryz.ntmps215
  go_wp2_with (go_at_call 257;refine hT.mono ?_;rintro e w1 ⟨rfl,hb1⟩)
  clear hT
  go_loopg [3,14] l.length (fun gk v i wr=>∃ p:Nat,p≤l.length∧i= .int .i64 p∧Aside (p+gk=l.length)∧Buf w1 wr v (wrL l p))
  case atStart=>exact⟨0,by omega,rfl,by show _=_;omega,Buf.nil w1⟩
  case round=>
   obtain⟨p,hp,rfl,AG,hbuf⟩:=hrel
   have hacc:=z81_ l p
   by_cases hlt:p<l.length
   ·obtain⟨q,rfl⟩:∃ q,gk=q+1:=⟨gk - 1,by have:=AG.out;omega⟩
    have hk0:(0:Int)≤(p:Int):=by omega
    have hk1:(p:Int)<(l.length:Int):=by omega
    have HAT:=hiD (wrL_at l p hlt)
    have HIB:=hiD (fun w=>zq_ z0w_ l[p] w)
    cases hz:((l[p].toNat:Int)==0)
    ·have hgen:∀ e:Bool,escB l.length p l[p]=e→wrB l.length p l[p]=if e then [92,l[p]] else [l[p]]:=by
      intro e he;unfold wrB;rw[hz,he];rfl
     have HG:=hiD hgen
     clear hgen
     have HE:=hiD (show escB l.length p l[p]=(decide (0≤Lib.indexByte z0w_ l[p])||((p:Int)==0 && ((l[p].toNat:Int)==35||(l[p].toNat:Int)==32))||((p:Int)==(l.length:Int) - 1 && (l[p].toNat:Int)==32)) from rfl)
     generalize wrL l p=acc at hbuf hacc HAT
     generalize Lib.indexByte z0w_ l[p]=ib at HIB HE
     have hwr:IntKind.i64.wrap ((l.length:Int) - 1)=(l.length:Int) - 1:=IntWalk.i64_in _ (by omega)
     have hbN:∀ n,Buf w1 (wr.drewN n) _ acc:=fun n=>hbuf.drewN n
     cases hib:decide (0≤ib)
     ·cases hp0:((p:Int)==0)
      ·cases hpl:((p:Int)==(l.length:Int) - 1)
       ·have hE:=HE.out
        simp only[hib,hp0,hpl,Bool.false_and,Bool.and_false,Bool.true_and,Bool.or_false,Bool.false_or,Bool.true_or,Bool.or_true,Bool.and_true] at hE
        have hB:=HG.out false hE
        have HB:=hiD hB
        clear hB hE
        go_wp2_with (first|(go_at_call 175;refine(HIB.out _).mono ?_;rintro e w3 ⟨rfl,rfl⟩)|(at_builtin;refine zv_ (c:=92) rfl _ _ rfl rfl hbuf rfl (by omega) ?_;intro v2 w2 hb2 hg2)|(at_builtin;refine zv_ (c:=l[p]) rfl _ _ rfl rfl hbuf rfl (by omega) ?_;intro v3 w3 hb3 hg3))
        go_roundg q
        case measure=>omega
        case rel=>exact⟨p+1,by omega,by go_num,by have:=AG.out;show _=_;omega,by rw[HAT.out _ HB.out];simpa using hb3⟩
       ·cases h32:((l[p].toNat:Int)==32)
        ·have hE:=HE.out
         simp only[hib,hp0,hpl,h32,Bool.false_and,Bool.and_false,Bool.true_and,Bool.or_false,Bool.false_or,Bool.true_or,Bool.or_true,Bool.and_true] at hE
         have hB:=HG.out false hE
         have HB:=hiD hB
         clear hB hE
         go_wp2_with (first|(go_at_call 175;refine(HIB.out _).mono ?_;rintro e w3 ⟨rfl,rfl⟩)|(at_builtin;refine zv_ (c:=92) rfl _ _ rfl rfl hbuf rfl (by omega) ?_;intro v2 w2 hb2 hg2)|(at_builtin;refine zv_ (c:=l[p]) rfl _ _ rfl rfl hbuf rfl (by omega) ?_;intro v3 w3 hb3 hg3))
         go_roundg q
         case measure=>omega
         case rel=>exact⟨p+1,by omega,by go_num,by have:=AG.out;show _=_;omega,by rw[HAT.out _ HB.out];simpa using hb3⟩
        ·have hE:=HE.out
         simp only[hib,hp0,hpl,h32,Bool.false_and,Bool.and_false,Bool.true_and,Bool.or_false,Bool.false_or,Bool.true_or,Bool.or_true,Bool.and_true] at hE
         have hB:=HG.out true hE
         have HB:=hiD hB
         clear hB hE
         go_wp2_with (first|(go_at_call 175;refine(HIB.out _).mono ?_;rintro e w3 ⟨rfl,rfl⟩)|(at_builtin;refine zv_ (c:=92) rfl _ _ rfl rfl hbuf rfl (by omega) ?_;intro v2 w2 hb2 hg2)|(at_builtin;refine zv_ (c:=l[p]) rfl _ _ rfl rfl hb2 rfl (by simp;omega) ?_;intro v3 w3 hb3 hg3))
         go_roundg q
         case measure=>omega
         case rel=>exact⟨p+1,by omega,by go_num,by have:=AG.out;show _=_;omega,by rw[HAT.out _ HB.out];simpa using hb3⟩
      ·cases h32:((l[p].toNat:Int)==32)
       ·cases h35:((l[p].toNat:Int)==35)
        ·cases hpl:((p:Int)==(l.length:Int) - 1)
         ·have hE:=HE.out
          simp only[hib,hp0,h35,h32,hpl,Bool.false_and,Bool.and_false,Bool.true_and,Bool.or_false,Bool.false_or,Bool.true_or,Bool.or_true,Bool.and_true] at hE
          have hB:=HG.out false hE
          have HB:=hiD hB
          clear hB hE
          go_wp2_with (first|(go_at_call 175;refine(HIB.out _).mono ?_;rintro e w3 ⟨rfl,rfl⟩)|(at_builtin;refine zv_ (c:=92) rfl _ _ rfl rfl hbuf rfl (by omega) ?_;intro v2 w2 hb2 hg2)|(at_builtin;refine zv_ (c:=l[p]) rfl _ _ rfl rfl hbuf rfl (by omega) ?_;intro v3 w3 hb3 hg3))
          go_roundg q
          case measure=>omega
          case rel=>exact⟨p+1,by omega,by go_num,by have:=AG.out;show _=_;omega,by rw[HAT.out _ HB.out];simpa using hb3⟩
         ·have hE:=HE.out
          simp only[hib,hp0,h35,h32,hpl,Bool.false_and,Bool.and_false,Bool.true_and,Bool.or_false,Bool.false_or,Bool.true_or,Bool.or_true,Bool.and_true] at hE
          have hB:=HG.out false hE
          have HB:=hiD hB
          clear hB hE
          go_wp2_with (first|(go_at_call 175;refine(HIB.out _).mono ?_;rintro e w3 ⟨rfl,rfl⟩)|(at_builtin;refine zv_ (c:=92) rfl _ _ rfl rfl hbuf rfl (by omega) ?_;intro v2 w2 hb2 hg2)|(at_builtin;refine zv_ (c:=l[p]) rfl _ _ rfl rfl hbuf rfl (by omega) ?_;intro v3 w3 hb3 hg3))
          go_roundg q
          case measure=>omega
          case rel=>exact⟨p+1,by omega,by go_num,by have:=AG.out;show _=_;omega,by rw[HAT.out _ HB.out];simpa using hb3⟩
        ·have hE:=HE.out
         simp only[hib,hp0,h35,h32,Bool.false_and,Bool.and_false,Bool.true_and,Bool.or_false,Bool.false_or,Bool.true_or,Bool.or_true,Bool.and_true] at hE
         have hB:=HG.out true hE
         have HB:=hiD hB
         clear hB hE
         go_wp2_with (first|(go_at_call 175;refine(HIB.out _).mono ?_;rintro e w3 ⟨rfl,rfl⟩)|(at_builtin;refine zv_ (c:=92) rfl _ _ rfl rfl hbuf rfl (by omega) ?_;intro v2 w2 hb2 hg2)|(at_builtin;refine zv_ (c:=l[p]) rfl _ _ rfl rfl hb2 rfl (by simp;omega) ?_;intro v3 w3 hb3 hg3))
         go_roundg q
         case measure=>omega
         case rel=>exact⟨p+1,by omega,by go_num,by have:=AG.out;show _=_;omega,by rw[HAT.out _ HB.out];simpa using hb3⟩
       ·cases h35:((l[p].toNat:Int)==35)
        ·have hE:=HE.out
         simp only[hib,hp0,h35,h32,Bool.false_and,Bool.and_false,Bool.true_and,Bool.or_false,Bool.false_or,Bool.true_or,Bool.or_true,Bool.and_true] at hE
         have hB:=HG.out true hE
         have HB:=hiD hB
         clear hB hE
         go_wp2_with (first|(go_at_call 175;refine(HIB.out _).mono ?_;rintro e w3 ⟨rfl,rfl⟩)|(at_builtin;refine zv_ (c:=92) rfl _ _ rfl rfl hbuf rfl (by omega) ?_;intro v2 w2 hb2 hg2)|(at_builtin;refine zv_ (c:=l[p]) rfl _ _ rfl rfl hb2 rfl (by simp;omega) ?_;intro v3 w3 hb3 hg3))
         go_roundg q
         case measure=>omega
         case rel=>exact⟨p+1,by omega,by go_num,by have:=AG.out;show _=_;omega,by rw[HAT.out _ HB.out];simpa using hb3⟩
        ·have hE:=HE.out
         simp only[hib,hp0,h35,h32,Bool.false_and,Bool.and_false,Bool.true_and,Bool.or_false,Bool.false_or,Bool.true_or,Bool.or_true,Bool.and_true] at hE
         have hB:=HG.out true hE
         have HB:=hiD hB
         clear hB hE
         go_wp2_with (first|(go_at_call 175;refine(HIB.out _).mono ?_;rintro e w3 ⟨rfl,rfl⟩)|(at_builtin;refine zv_ (c:=92) rfl _ _ rfl rfl hbuf rfl (by omega) ?_;intro v2 w2 hb2 hg2)|(at_builtin;refine zv_ (c:=l[p]) rfl _ _ rfl rfl hb2 rfl (by simp;omega) ?_;intro v3 w3 hb3 hg3))
         go_roundg q
         case measure=>omega
         case rel=>exact⟨p+1,by omega,by go_num,by have:=AG.out;show _=_;omega,by rw[HAT.out _ HB.out];simpa using hb3⟩
     ·have hE:=HE.out
      simp only[hib,Bool.false_and,Bool.and_false,Bool.true_and,Bool.or_false,Bool.false_or,Bool.true_or,Bool.or_true,Bool.and_true] at hE
      have hB:=HG.out true hE
      have HB:=hiD hB
      clear hB hE
      go_wp2_with (first|(go_at_call 175;refine(HIB.out _).mono ?_;rintro e w3 ⟨rfl,rfl⟩)|(at_builtin;refine zv_ (c:=92) rfl _ _ rfl rfl hbuf rfl (by omega) ?_;intro v2 w2 hb2 hg2)|(at_builtin;refine zv_ (c:=l[p]) rfl _ _ rfl rfl hb2 rfl (by simp;omega) ?_;intro v3 w3 hb3 hg3))
      go_roundg q
      case measure=>omega
      case rel=>exact⟨p+1,by omega,by go_num,by have:=AG.out;show _=_;omega,by rw[HAT.out _ HB.out];simpa using hb3⟩
    ·have hB:wrB l.length p l[p]=[92,48,48]:=by unfold wrB;rw[hz];rfl
     have HB:=hiD hB
     clear hB
     generalize wrL l p=acc at hbuf hacc HAT
     go_wp2_with (at_builtin;refine vp_ (m:=[92,48,48]) rfl _ _ rfl rfl hbuf rfl (by simp;omega) ?_;intro v2 w2 hb2 hg2)
     go_roundg q
     case measure=>omega
     case rel=>exact⟨p+1,by omega,by go_num,by have:=AG.out;show _=_;omega,by rw[HAT.out _ HB.out];exact hb2⟩
   ·obtain rfl:p=l.length:=by omega
    have hst:=k6_ hbuf
    have hB:=hbuf.below
    go_wp2
    go_ret
    exact⟨rfl,tQ hb1 hB⟩
open Go.RowKit
theorem z4t_ (M:Nat) (sep:LU) (hs:sep.length≤1):∀ xs:LL,(∀ x∈xs,x.length≤M)→(Lib.join xs sep).length≤xs.length * (M+1)
 |[],_=>by simp [Lib.join_nil]
 |[x],h=>by rw[Lib.join_one];have:=h x (by simp);simp;omega
 |x::y::t,h=>by
  have ih:=z4t_ M sep hs (y::t) (fun z hz=>h z (by simp [List.mem_cons.1 hz]))
  have hx:=h x (by simp)
  have e:Lib.join (x::y::t) sep=x++sep++Lib.join (y::t) sep:=by simp [Lib.join,List.intercalate,List.intersperse]
  rw[e]
  simp only[List.length_append,List.length_cons] at ih ⊢
  rw[Nat.add_mul _ 1 (M+1)]
  omega
theorem zen_ (xs:LL) (sep:LU) (v:Value) (w:World) (hT:Texts w v xs) (hn:xs.length≤1000000) (hl:(Lib.join xs sep).length≤140737488355328):
  Calls Tryz.prog 62 #[v,.string ⟨sep.toArray⟩] w fun e w'=>e= .returned (.string ⟨(Lib.join xs sep).toArray⟩)∧Bel w w':=by
 rcases hT with ⟨rfl,rfl⟩|⟨b,c,rfl,hc,hlt,hcell⟩
 ·refine(Tryz.strings_Join_none none 0 ⟨sep.toArray⟩ w).mono ?_
  rintro e w' ⟨rfl,rfl⟩
  exact⟨rfl,bR _ _⟩
 ·have e1:(xs.map fun x=>(⟨x.toArray⟩:ByteArray)).map (·.data.toList)=xs:=by rw[List.map_map];exact(List.map_congr_left fun x _=>rfl).trans (List.map_id _)
  have h:=Tryz.strings_Join b 0 c (xs.map fun x=>⟨x.toArray⟩) ⟨sep.toArray⟩ w (fun j x hj=>by
   have hjl:j<xs.length:=by simpa using (List.getElem?_eq_some_iff.1 hj).1
   rw[Nat.zero_add,hcell j hjl]
   simp [hjl] at hj
   rw[← hj]) hlt (by simp;omega) (by simpa using hc) (by rw[e1];exact hl)
  rw[e1,List.length_map] at h
  exact h
def vy_ (x:LU × LU):Bool:=!zc_ x.1
theorem zhp_ (x:LU × LU) (w:World) (hw:Env w) (hl:x.1.length≤1099511627776):
  Calls Tryz.prog 214 #[zi9_ x] w fun e w'=>e= .returned (.bool (vy_ x))∧Bel w w':=by
 obtain⟨x1,x2⟩:=x
 show Calls Tryz.prog 214 #[.agg #[.string ⟨x1.toArray⟩,.string ⟨x2.toArray⟩]] w _
 have hb:Bel w (w.alloc (.cells #[.string ⟨x1.toArray⟩,.string ⟨x2.toArray⟩] 189)):=(bR _ _).alloc (nR _) _
 have hI:=qf_ x1 _ (hw.keep hb) hl
 go_enter Tryz.func214,Tryz.ntmps214
 go_wp2_with (go_at_call 52;refine hI.mono ?_;rintro e w2 ⟨rfl,hb2⟩)
 go_ret
 exact⟨rfl,tQ hb hb2⟩
def x6_ (p:List (LU × LU)):Bool:=p.isEmpty||p.any vy_
def z11_ (x:LU × LU):LU:=x.1++[61]++jj_ x.2
def vw_ (p:List (LU × LU)):LU:=Lib.join (p.map z11_) [43]
def z2b_ (d:List (List (LU × LU))):LU:=Lib.join (d.map vw_) [44]
def k7_ (s:LU):Int × LU:=if 65536<s.length then (2,[]) else (0,s)
def j5_ (d:List (List (LU × LU))):Int × LU:=if d.any x6_ then (30,[]) else if zz_ d then (2,[]) else k7_ (z2b_ d)
theorem z8k_ {l:LU} (h:zc_ l=true):l.length≤64:=by
 unfold zc_ at h
 split at h
 ·cases h
 ·simp_all
theorem z0t_ (l:LU):(jj_ l).length≤3 * l.length+1:=by
 unfold jj_
 split
 ·have:=z81_ l l.length;omega
 ·simp only[List.length_cons,z9f_];omega
theorem zh8_ {d:List (List (LU × LU))} (h1:d.any x6_=false) (h2:zz_ d=false):
  d.length≤20∧∀ p∈d,p≠[]∧p.length≤4∧∀ x∈p,x.1.length≤64∧x.2.length≤1024:=by
 unfold zz_ at h2
 simp only[Bool.or_eq_false_iff,decide_eq_false_iff_not,List.any_eq_false] at h1 h2
 refine⟨by omega,fun p hp=>?_⟩
 have a1:=h1 p hp
 have a2:=h2.2 p hp
 simp only[x6_,qq_,Bool.or_eq_true,decide_eq_true_eq,not_or,List.any_eq_true,not_exists,not_and] at a1 a2
 refine⟨by intro e;subst e;exact a1.1 rfl,by omega,fun x hx=>?_⟩
 have b1:=a1.2 x hx
 have b2:=a2.2 x hx
 simp only[vy_,j3_,Bool.not_eq_true',decide_eq_true_eq] at b1 b2
 exact⟨z8k_ (by simpa using b1),by omega⟩
theorem ze8_ {x:LU × LU} (h1:x.1.length≤64) (h2:x.2.length≤1024):(z11_ x).length≤3138:=by
 have:=z0t_ x.2
 simp only[z11_,List.length_append,List.length_cons,List.length_nil]
 omega
theorem z5c_ {p:List (LU × LU)} (hp:p.length≤4) (h:∀ x∈p,x.1.length≤64∧x.2.length≤1024):(vw_ p).length≤12556:=by
 have:=z4t_ 3138 [43] (by decide) (p.map z11_) (fun z hz=>by obtain⟨x,hx,rfl⟩:=List.mem_map.1 hz;exact ze8_ (h x hx).1 (h x hx).2)
 rw[List.length_map] at this
 unfold vw_
 omega
end Go.Proofs.YtakfpngfpknedaaGreatDoor
