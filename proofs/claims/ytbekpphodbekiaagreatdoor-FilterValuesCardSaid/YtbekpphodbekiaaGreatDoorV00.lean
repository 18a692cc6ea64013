import Derived.WalkKit
import Derived.WalkSpells
import Derived.WalkLawsBesides
import Derived.Lib.Hide
import Derived.Test.YtbekpphodbekiaaGreatDoorVsh
import Derived.Lib.BufSteps
import Derived.Lib.OthersKept
import Derived.Lib.ValidLaws
import Derived.Lib.RuneBytes
import Derived.Test.YtbekpphodbekiaaGreatDoorCards
import Derived.Test.YtbekpphodbekiaaGreatDoorTie
import Derived.ProofKit
import Derived.OpenShut
import Derived.Deep.DeepHandedRow
import Derived.Deep.DeepWitnessRowRef
import Derived.Lib.LaidTab
import Derived.Lib.LaidIn
import Derived.Lib.LaidU8T
import Derived.PinnedBridge
import Derived.Shelf.Vars
import Init
set_option linter.all false
set_option maxHeartbeats 8000000
set_option maxRecDepth 100000
namespace Go.Proofs.YtbekpphodbekiaaGreatDoor
open Go.RowKit
abbrev LU:=List UInt8
abbrev LL:=List (List UInt8)
theorem hiD {p:Prop} (h:p):Go.RowKit.Hid p:=Lib.hid h
theorem gs3 {α:Type}:(∀ (l:List α) (i:Nat),l.toArray[i]?=l[i]?)∧(∀ (a:α) (l:List α),(a::l)[0]?=some a)∧(∀ (a:α) (l:List α) (i:Nat),(a::l)[i+1]?=l[i]?):=⟨fun _ _=>List.getElem?_toArray,fun _ _=>List.getElem?_cons_zero,fun _ _ _=>List.getElem?_cons_succ⟩
def zly_ (c:Int):Bool:=decide (97≤c) && decide (c≤122)||decide (65≤c) && decide (c≤90)
def digB (c:Int):Bool:=decide (48≤c) && decide (c≤57)
def yi_ (c:Int):Bool:=zly_ c||digB c||c==45||c==46
theorem gsx {α:Type}:(∀ (l:List α) (i:Nat) (h:i<l.toArray.size),l.toArray[i]=l[i]'h)∧(∀ (a:α) (l:List α) (h:0<(a::l).length),(a::l)[0]=a)∧
  (∀ (a:α) (l:List α) (i:Nat) (h:i+1<(a::l).length),(a::l)[i+1]=l[i]'(Nat.lt_of_succ_lt_succ h))∧(∀ (l:List α) (i:Nat) (a:α),l.toArray.setIfInBounds i a=(l.set i a).toArray)∧
  (∀ (a b:α) (l:List α),(a::l).set 0 b=b::l)∧(∀ (a b:α) (l:List α) (n:Nat),(a::l).set (n+1) b=a::l.set n b):=
 ⟨fun _ _ _=>List.getElem_toArray ..,fun _ _ _=>List.getElem_cons_zero ..,fun _ _ _ _=>List.getElem_cons_succ ..,fun _ _ _=>List.setIfInBounds_toArray ..,fun _ _ _=>List.set_cons_zero,fun _ _ _ _=>List.set_cons_succ⟩
theorem j7_ {a b:Bool} (h:a=b):Ending.returned (.bool a)= .returned (.bool b):=by rw[h]
theorem zoo_ {k:IntKind} {a b:Int} (h:a=b):Ending.returned (.int k a)= .returned (.int k b):=by rw[h]
theorem qe_ (l:LU) (k:Nat) (h:k<(⟨l.toArray⟩:ByteArray).size):(⟨l.toArray⟩:ByteArray)[k]=l[k]'(by simpa [ByteArray.size] using h):=rfl
theorem z1s_ (c:Int) (w:World):
  Calls Tryz.prog 98 #[.int .u8 c] w fun e w'=>e= .returned (.bool (zly_ c))∧w=w':=by
 go_enter Tryz.func98,Tryz.ntmps98
 go_wp2
 all_goals (go_ret;refine⟨j7_ ?_,rfl⟩;unfold zly_;rw[Bool.eq_iff_iff];simp;omega)
theorem zjb_ (c:Int) (w:World):
  Calls Tryz.prog 160 #[.int .u8 c] w fun e w'=>e= .returned (.bool (digB c))∧w=w':=by
 go_enter Tryz.func160,Tryz.ntmps160
 go_wp2
 all_goals (go_ret;refine⟨j7_ ?_,rfl⟩;unfold digB;rw[Bool.eq_iff_iff];simp;omega)
theorem z7n_ (c:Int) (w:World):
  Calls Tryz.prog 100 #[.int .u8 c] w fun e w'=>e= .returned (.bool (yi_ c))∧w=w':=by
 cases h1:zly_ c<;>cases h2:digB c
 all_goals
  go_enter Tryz.func100,Tryz.ntmps100
  go_wp2_with (first|(go_at_call 98;refine(z1s_ _ _).mono ?_;rintro e w' ⟨rfl,rfl⟩;rw[h1])|(go_at_call 160;refine(zjb_ _ _).mono ?_;rintro e w' ⟨rfl,rfl⟩;rw[h2]))
  all_goals (go_ret;refine⟨j7_ ?_,rfl⟩;unfold yi_;simp [*])
def q5_ (c:Int):Int:=if 48≤c∧c≤57 then c - 48 else if 97≤c∧c≤102 then c - 87 else if 65≤c∧c≤70 then c - 55 else -1
theorem z72_ (c:Int) (w:World) (h0:0≤c) (h1:c<256):
  Calls Tryz.prog 210 #[.int .u8 c] w fun e w'=>e= .returned (.int .i64 (q5_ c))∧w=w':=by
 go_enter Tryz.func210,Tryz.ntmps210
 go_wp2
 all_goals (go_ret;refine⟨zoo_ ?_,rfl⟩;unfold q5_;repeat' split)
 all_goals (first|omega|(simp;omega))
def zpz_ (y m:Int):Int:=if m=4∨m=6∨m=9∨m=11 then 30 else if m=2 then (if y % 4=0∧y % 100≠0∨y % 400=0 then 29 else 28) else 31
theorem days_c (y m:Int) (w:World) (h0:0≤y) (h1:y<10000):
  Calls Tryz.prog 180 #[.int .i64 y,.int .i64 m] w fun e w'=>e= .returned (.int .i64 (zpz_ y m))∧w=w':=by
 go_enter Tryz.func180,Tryz.ntmps180
 go_wp2
 all_goals (go_ret;refine⟨zoo_ ?_,rfl⟩;unfold zpz_)
 all_goals (simp only[beq_iff_eq,beq_eq_false_iff_ne,bne_iff_ne,bne_eq_false_iff_eq,ne_eq] at *)
 all_goals (repeat' split)
 all_goals omega
def y5_:LU→Bool
 |[]=>true
 |c::r=>decide (c.toNat<128) && y5_ r
theorem zgp_ (l:LU) (w:World) (hl:l.length≤1024):
  Calls Tryz.prog 138 #[.string ⟨l.toArray⟩] w fun e w'=>e= .returned (.bool (y5_ l))∧w=w':=by
 have hget:=qe_
 go_enter Tryz.func138,Tryz.ntmps138
 go_wp2
 go_loop [6] (fun i=>∃ k:Nat,k≤l.length∧i= .int .i64 k∧Hid (y5_ l=y5_ (l.drop k))) (fun i=>l.length - (intOf i).toNat)
 case atStart=>exact⟨0,Nat.zero_le _,rfl,hiD rfl⟩
 case round=>
  obtain⟨k,hk,rfl,HI⟩:=hrel
  by_cases hlt:k<l.length
  ·by_cases hc:l[k].toNat<128
   ·have HI':Hid (y5_ l=y5_ (l.drop (k+1))):=hiD (by rw[HI.out,List.drop_eq_getElem_cons hlt];simp [y5_,hc])
    go_wp2
    go_round
    case rel=>exact⟨k+1,by omega,by go_num,HI'⟩
    case measure=>simp [intOf];omega
   ·go_wp2
    go_ret
    exact⟨j7_ (by rw[HI.out,List.drop_eq_getElem_cons hlt];simp [y5_,hc]),rfl⟩
  ·go_wp2
   go_ret
   exact⟨j7_ (by rw[HI.out,List.drop_eq_nil_of_le (by omega)];simp [y5_]),rfl⟩
open Go.RowKit
def z0b_ (r:Int):Prop:=(9≤r∧r≤13)∨r=0x85∨r=0xA0∨r=0x1680∨(0x2000≤r∧r≤0x200A)∨r=0x2028∨r=0x2029∨r=0x202F∨r=0x205F∨r=0x3000
instance (r:Int):Decidable (z0b_ r):=by unfold z0b_;infer_instance
def z7s_ (r:Int):Prop:=(0≤r∧r<32)∨(127≤r∧r≤0x9F)∨r=0xAD∨r=0x34F∨r=0x1806∨(0x180B≤r∧r≤0x180E)∨(0x200B≤r∧r≤0x200F)∨(0x202A≤r∧r≤0x202E)∨(0x2060≤r∧r≤0x206F)∨(0xFE00≤r∧r≤0xFE0F)∨r=0xFEFF∨(0xFFF9≤r∧r≤0xFFFC)
instance (r:Int):Decidable (z7s_ r):=by unfold z7s_;infer_instance
def zeg_ (r:Int):Prop:=r<0∨(0xD800≤r∧r≤0xF8FF)∨(0xFFFD≤r∧r≤0xFFFF)∨0xF0000≤r
instance (r:Int):Decidable (zeg_ r):=by unfold zeg_;infer_instance
def zd9_ (r:Int):Bool:=decide (z0b_ r)
def zmh_ (r:Int):Bool:=decide (z7s_ r)
def refB (r:Int):Bool:=decide (zeg_ r)
theorem zhy_ (r:Int) (w:World):
  Calls Tryz.prog 234 #[.int .i32 r] w fun e w'=>e= .returned (.bool (zd9_ r))∧w=w':=by
 go_enter Tryz.func234,Tryz.ntmps234
 go_wp2
 all_goals (go_ret;refine⟨j7_ ?_,rfl⟩;unfold zd9_)
 all_goals (try simp only[beq_iff_eq,beq_eq_false_iff_ne,ne_eq] at *)
 all_goals (first|(refine(decide_eq_true ?_).symm;unfold z0b_;omega)|(refine(decide_eq_false ?_).symm;unfold z0b_;omega))
theorem goes_c (r:Int) (w:World):
  Calls Tryz.prog 235 #[.int .i32 r] w fun e w'=>e= .returned (.bool (zmh_ r))∧w=w':=by
 go_enter Tryz.func235,Tryz.ntmps235
 go_wp2
 all_goals (go_ret;refine⟨j7_ ?_,rfl⟩;unfold zmh_)
 all_goals (try simp only[beq_iff_eq,beq_eq_false_iff_ne,ne_eq] at *)
 all_goals (first|(refine(decide_eq_true ?_).symm;unfold z7s_;omega)|(refine(decide_eq_false ?_).symm;unfold z7s_;omega))
theorem zba_ (r:Int) (w:World):
  Calls Tryz.prog 236 #[.int .i32 r] w fun e w'=>e= .returned (.bool (refB r))∧w=w':=by
 go_enter Tryz.func236,Tryz.ntmps236
 go_wp2
 all_goals (go_ret;refine⟨j7_ ?_,rfl⟩;unfold refB)
 all_goals (rw[Bool.eq_iff_iff];simp only[Bool.or_eq_true,Bool.and_eq_true,decide_eq_true_eq,Bool.false_eq_true,Bool.true_eq_false,iff_true,false_iff,true_iff];unfold zeg_;omega)
def qh_ (r:Int):Int × Bool × Bool:=if z0b_ r then (32,true,false) else if z7s_ r then (0,false,false) else if zeg_ r then (0,false,true) else (r,true,false)
theorem Map_c (r:Int) (w:World):
  Calls Tryz.prog 197 #[.int .i32 r] w fun e w'=>e= .returned (.tuple #[.int .i32 (qh_ r).1,.bool (qh_ r).2.1,.bool (qh_ r).2.2])∧w=w':=by
 cases h1:zd9_ r<;>cases h2:zmh_ r<;>cases h3:refB r
 all_goals
  go_enter Tryz.func197,Tryz.ntmps197
  go_wp2_with (first|(go_at_call 234;refine(zhy_ _ _).mono ?_;rintro e w' ⟨rfl,rfl⟩;rw[h1])|(go_at_call 235;refine(goes_c _ _).mono ?_;rintro e w' ⟨rfl,rfl⟩;rw[h2])|(go_at_call 236;refine(zba_ _ _).mono ?_;rintro e w' ⟨rfl,rfl⟩;rw[h3]))
  go_ret3
  refine⟨?_,rfl⟩
  simp only[zd9_,zmh_,refB,decide_eq_true_eq,decide_eq_false_iff_not] at h1 h2 h3
  simp [qh_,h1,h2,h3]
def zn_ (r:Int):Int:=
 if (65≤r∧r≤90)∨(0xC0≤r∧r≤0xDE∧r≠0xD7)∨(0x391≤r∧r≤0x3A9∧r≠0x3A2)∨(0x410≤r∧r≤0x42F) then r+32
 else if 0x400≤r∧r≤0x40F then r+80
 else if r=0x1E9E then 0xDF
 else if ((0x100≤r∧r≤0x137)∨(0x14A≤r∧r≤0x177))∧r % 2=0 then r+1
 else r
theorem zgt_ (r:Int) (w:World) (h0:0≤r) (h1:r≤0x10FFFF):
  Calls Tryz.prog 198 #[.int .i32 r] w fun e w'=>e= .returned (.int .i32 (zn_ r))∧w=w':=by
 go_enter Tryz.func198,Tryz.ntmps198
 go_wp2
 all_goals (go_ret;refine⟨zoo_ ?_,rfl⟩)
 all_goals (try simp only[beq_iff_eq,beq_eq_false_iff_ne,bne_iff_ne,bne_eq_false_iff_eq,ne_eq] at *)
 all_goals (unfold zn_;repeat' split)
 all_goals omega
open Go.RowKit
theorem z9_ {w:World} {a:Addr} {v:Value} (h:w.cell? a=some v):a.block<w.heap.size:=by
 rcases Nat.lt_or_ge a.block w.heap.size with h'|h'
 ·exact h'
 ·simp [World.cell?,Array.getElem?_eq_none h'] at h
theorem cQ {w w':World} {a:Addr} {v:Value} (hb:Below w.heap.size w w') (h:w.cell? a=some v):w'.cell? a=some v:=(hb.cell (z9_ h)).trans h
theorem tQ {a b c:World} (h:Below a.heap.size a b) (g:Below b.heap.size b c):Below a.heap.size a c:=h.trans (g.mono h.size)
abbrev Bel (w w':World):Prop:=Below w.heap.size w w'
theorem z4b_:∀ (fn:Fn) (first cap:Array Value) (w:World),(Instr.makeFunc fn first cap).run Tryz.prog w= .ok (.func fn first cap) w:=fun _ _ _ _=>rfl
abbrev gT:=@World.grownBy.trans
abbrev nR:=@Nat.le_refl
abbrev nT:=@Nat.le_trans
abbrev bR:=@Below.refl
structure Env (w:World):Prop where
 tabs:Lib.Utf8Tabs 1 2 w
 mx:∃ m,w.cell? ⟨0,0,none⟩=some (.int .i64 m)
theorem Env.below {w w':World} (h:Env w) {B:Nat} (hB:w.heap.size≤B) (hb:Below B w w'):Env w':=by
 obtain⟨⟨h1,h2⟩,m,hm⟩:=h
 refine⟨⟨fun c hc=>?_,fun i hi=>?_⟩,m,?_⟩
 ·rw[hb.cell (p:=⟨_,c,none⟩) (Nat.lt_of_lt_of_le (z9_ (h1 c hc)) hB)];exact h1 c hc
 ·have:=h2 i hi
  exact⟨by rw[hb.cell (p:=⟨_,2 * i,none⟩) (Nat.lt_of_lt_of_le (z9_ this.1) hB)];exact this.1,by rw[hb.cell (p:=⟨_,2 * i+1,none⟩) (Nat.lt_of_lt_of_le (z9_ this.2) hB)];exact this.2⟩
 ·rw[hb.cell (p:=⟨_,0,none⟩) (Nat.lt_of_lt_of_le (z9_ hm) hB)];exact hm
theorem Env.keep {w w':World} (h:Env w) (hb:Below w.heap.size w w'):Env w':=h.below (Nat.le_refl _) hb
def Buf (W0 w:World) (v:Value) (l:LU):Prop:=Lib.OwnBuf W0.heap.size 5 v l.length (Lib.byteCells l) W0 w
theorem Buf.nil (w:World):Buf w w (.slice none 0 0) []:=⟨World.ownsRowF_nil _ _ _ _,Below.refl _ _,Nat.le_refl _⟩
theorem Buf.below {W0 w:World} {v:Value} {l:LU} (h:Buf W0 w v l):Below W0.heap.size W0 w:=h.2.1
theorem Buf.le {W0 w:World} {v:Value} {l:LU} (h:Buf W0 w v l):W0.heap.size≤w.heap.size:=h.2.2
theorem Buf.alloc {W0 w:World} {v:Value} {l:LU} (h:Buf W0 w v l) (o:Obj):Buf W0 (w.alloc o) v l:=Lib.OwnBuf.alloc h o
theorem Buf.drewN {W0 w:World} {v:Value} {l:LU} (h:Buf W0 w v l) (n:Nat):Buf W0 (w.drewN n) v l:=Lib.OwnBuf.drewN h n
theorem Buf.grow {W0 w w':World} {v:Value} {l:LU} (h:Buf W0 w v l) (hb:Below w.heap.size w w'):Buf W0 w' v l:=by
 obtain⟨ho,hB,hle⟩:=h
 refine⟨ho.kept (row:=none) ⟨hb.os,hb.tape,hb.output,hb.size,fun k hk _=>hb.block k hk⟩ ?_,hB.trans (hb.mono hle),Nat.le_trans hle hb.size⟩
 rcases hv:v.ownBlock with _|g
 ·exact .inl rfl
 ·exact .inr (by simp)
theorem Buf.iterAt {W0 w:World} {v:Value} {l:LU} (h:Buf W0 w v l) {k:Nat} {s:ByteArray} {p q:Nat} (hk:w.heap[k]?=some (.stringIter s p)) (hW:W0.heap.size≤k):Buf W0 (w.iterAt k s q) v l:=by
 obtain⟨ho,hB,hle⟩:=h
 have hb:∀ j,j≠k→(w.iterAt k s q).heap[j]?=w.heap[j]?:=fun j hj=>by simp [World.iterAt,Array.getElem?_setIfInBounds,Ne.symm hj]
 have hsz:(w.iterAt k s q).heap.size=w.heap.size:=by simp [World.iterAt]
 refine⟨?_,hB.trans ⟨rfl,rfl,rfl,by omega,fun j hj=>hb j (by omega)⟩,by omega⟩
 obtain⟨h1,h2⟩:=ho
 refine⟨h1,h2.imp id ?_⟩
 rintro⟨g,cap,cur,fz,r1,r2,r3,r4⟩
 refine⟨g,cap,cur,fz,r1,r2,?_,r4⟩
 rw[hb g (by rintro rfl;rw[hk] at r3;cases r3)];exact r3
section
variable {ops:Array Oper} {rest:List Oper} {o:Oper} {a:Act} {Q:Exit→Act→World→Prop}
theorem infoByte:∃ i,Tryz.prog.info? 5=some i∧i.zero=some (.int .u8 0)∧i.size=1∧i.bytes=1:=by
 obtain⟨i,h1,h2,h3,h4⟩:=info_parts (show (Tryz.prog.info? 5).map (fun i=>(i.zero,i.size,i.bytes))=some (some (.int .u8 0),1,1) by kernel_rfl)
 exact⟨i,h1,h2,h3,h4⟩
theorem q1_ (hgd:o.guard=none) (s x:Operand) (ho:o.op= .call {callee:= .builtin .append,args:=#[s,x],argTypes:=#[124,124]})
  {v:Value} {l:LU} {W0 w0:World} {c:UInt8} (hs:a.eval s=v) (hb:Buf W0 w0 v l)
  (hx:a.eval x= .slice (some ⟨w0.heap.size,0,none⟩) 1 1) (hlen:l.length<140737488355328)
  (h:∀ v' w',Buf W0 w' v' (l++[c])→w0.grownBy w' v.ownBlock→wpList Tryz.prog ops Q rest (a.put o.dst v') w'):wpList Tryz.prog ops Q (o::rest) a (w0.alloc (.cells #[.int .u8 c.toNat] 5)):=by
 obtain⟨i,h1,h2,h3,h4⟩:=infoByte
 have hb':=Lib.OwnBuf.alloc hb (.cells #[.int .u8 c.toNat] 5)
 refine wpList_append_ownF _ hgd s x 124 ho W0.heap.size 5 i (.int .u8 0) 1 1 Tryz.underlying124 h1 h2 h3 h4 rfl (by decide) v _ _ hs hb'.1 ⟨w0.heap.size,0,none⟩ 1 1 [.int .u8 c.toNat] hx rfl ?_ ?_ (by unfold maxLen;omega) (by omega) hb'.2.2 ?_
 ·intro j u hj
  match j,hj with
  |0,hj=>simp at hj;subst hj;simp [Addr.add]
  |(j+1),hj=>simp at hj
 ·intro u hu;simp at hu;subst hu;rfl
 ·intro v' w' ho' hg _
  refine h v' w' ?_ (World.grownBy.trans (World.grownBy_alloc _ _ _) hg)
  have hv:=hb'.grown ho' hg
  unfold Buf
  simpa [Lib.byteCells] using hv
theorem zde_ {w:World} (hgd:o.guard=none) (l c:Operand) (ho:o.op=Op.makeSlice 124 l c) (n:Nat) (C:Int) (hl:a.eval l= .int .i64 0) (hc:a.eval c= .int .i64 C) (hC:C=(n:Int)) (hn:n≤140737488355328)
  (h:∀ w',Buf w w' (.slice (some ⟨w.heap.size,0,none⟩) 0 n) []→wpList Tryz.prog ops Q rest (a.put o.dst (.slice (some ⟨w.heap.size,0,none⟩) 0 n)) w'):wpList Tryz.prog ops Q (o::rest) a w:=by
 obtain⟨i,h1,h2,h3,h4⟩:=infoByte
 refine wpList_make_own w hgd l c 124 ho w.heap.size 5 i (.int .u8 0) 1 Tryz.underlying124 h1 h2 h3 .i64 .i64 C n hl hc hC (by rw[h4];omega) (by unfold maxLen;omega) (Nat.le_refl _) ?_
 intro w' ho' hg
 exact h w' ⟨World.ownsRowF_of ho',(Below.refl _ _).grown hg (Nat.le_refl _) (fun k hk=>by cases hk),hg.size⟩
theorem z08_ {w:World} (hgd:o.guard=none) (sl x:Operand) (ho:o.op= .call {callee:= .builtin .append,args:=#[sl,x],argTypes:=#[124,9]})
  {v:Value} {l m:LU} {W0:World} (hs:a.eval sl=v) (hb:Buf W0 w v l)
  (hx:a.eval x= .string ⟨m.toArray⟩) (hlen:l.length+m.length≤140737488355328)
  (h:∀ v' w',Buf W0 w' v' (l++m)→w.grownBy w' v.ownBlock→wpList Tryz.prog ops Q rest (a.put o.dst v') w'):wpList Tryz.prog ops Q (o::rest) a w:=by
 obtain⟨i,h1,h2,h3,h4⟩:=infoByte
 have hsz:(⟨m.toArray⟩:ByteArray).size=m.length:=by simp [ByteArray.size]
 refine Lib.wpList_append_own_stringF w hgd sl x 124 9 ho W0.heap.size 5 i Tryz.underlying124 Tryz.underlying9 h1 h2 h3 h4 v _ _ hs hb.1 ⟨m.toArray⟩ hx (by rw[hsz];unfold maxLen;omega) (by rw[hsz];exact hlen) hb.2.2 ?_
 intro v' w' ho' hg _
 refine h v' w' ?_ hg
 have hv:=Lib.OwnBuf.grown hb ho' hg
 unfold Buf
 simpa [Lib.byteCells,Lib.strCells,ByteArray.size] using hv
end
theorem Buf.other {W0 w w':World} {v:Value} {l:LU} {k:Nat} {o:Obj} (h:Buf W0 w v l) (hg:w.grownBy w' v.ownBlock) (hk:w.heap[k]?=some o) (ho:∀ c f,o≠ .cells c 5 f):w'.heap[k]?=some o:=by
 rw[hg.block k ((Array.getElem?_eq_some_iff.1 hk).1)]
 ·exact hk
 ·obtain⟨⟨h1,h2⟩,_⟩:=h
  rcases h2 with ⟨rfl,hn⟩|⟨g,cap,cur,fz,rfl,r2,r3,r4,r5,r6,r7,r8⟩
  ·simp [Value.ownBlock]
  ·intro e
   obtain rfl:k=g:=by simpa [Value.ownBlock] using e
   rw[hk] at r3
   exact ho _ _ (Option.some.inj r3)
theorem z6i_ {B:Nat} {w:World} {v:Value} {l:LU} (h:w.ownsRowF B 5 1 v l.length (Lib.byteCells l)):(convert 124 9 v).run Tryz.prog w= .ok (.string ⟨l.toArray⟩) w:=by
 obtain⟨h1,h2⟩:=h
 rcases h2 with ⟨rfl,hn⟩|⟨g,cap,cur,fz,rfl,r2,r3,r4,r5,r6,r7,r8⟩
 ·obtain rfl:l=[]:=List.eq_nil_of_length_eq_zero hn
  rw[run_convert_bytes_nil (w:=w) (P:=Tryz.prog) 124 5 Tryz.underlying124 Tryz.underlying5 0 0 9 Tryz.underlying9]
  rfl
 ·refine run_convert_bytes_back w 124 9 5 ⟨g,0,none⟩ cap l Tryz.underlying124 Tryz.underlying5 Tryz.underlying9 ?_
  intro j hj
  have hadd:(⟨g,0,none⟩:Addr).add j=⟨g,j,none⟩:=by unfold Addr.add;split<;>simp_all
  rw[hadd]
  simp only[World.cell?,r3]
  have:(cur.toList.take (l.length * 1))[j]?=some (.int .u8 l[j].toNat):=by rw[r8];simp [Lib.byteCells,hj]
  rw[List.getElem?_take] at this
  simpa [hj] using this
theorem v5_ {W0 w:World} {v:Value} {l:LU} (h:Buf W0 w v l):(convert 124 9 v).run Tryz.prog w= .ok (.string ⟨l.toArray⟩) w:=z6i_ h.1
theorem zdq_ {B:Nat} {w:World} {v:Value} {l:LU} (h:w.ownsRowF B 5 1 v l.length (Lib.byteCells l)) (hl:l≠[]):∃ g cap,v= .slice (some ⟨g,0,none⟩) l.length cap∧l.length≤cap∧B≤g∧g<w.heap.size∧∀ j (hj:j<l.length),w.cell? ⟨g,j,none⟩=some (.int .u8 l[j].toNat):=by
 obtain⟨h1,h2⟩:=h
 rcases h2 with ⟨rfl,hn⟩|⟨g,cap,cur,fz,rfl,r2,r3,r4,r5,r6,r7,r8⟩
 ·exact absurd (List.eq_nil_of_length_eq_zero hn) hl
 ·refine⟨g,cap,rfl,r5,r2,(Array.getElem?_eq_some_iff.1 r3).1,fun j hj=>?_⟩
  simp only[World.cell?,r3]
  have:(cur.toList.take (l.length * 1))[j]?=some (.int .u8 l[j].toNat):=by rw[r8];simp [Lib.byteCells,hj]
  rw[List.getElem?_take] at this
  simpa [hj] using this
theorem Buf.cell {W0 w:World} {v:Value} {l:LU} (h:Buf W0 w v l) (hl:l≠[]):∃ g cap,v= .slice (some ⟨g,0,none⟩) l.length cap∧l.length≤cap∧W0.heap.size≤g∧g<w.heap.size∧∀ j (hj:j<l.length),w.cell? ⟨g,j,none⟩=some (.int .u8 l[j].toNat):=zdq_ h.1 hl
theorem z6p_ {B:Nat} {w:World} {v:Value} {l:LU} (h:w.ownsRowF B 5 1 v l.length (Lib.byteCells l)):∃ A cap,v= .slice A l.length cap∧l.length≤cap:=by
 obtain⟨h1,h2⟩:=h
 rcases h2 with ⟨rfl,hn⟩|⟨g,cap,cur,fz,rfl,r2,r3,r4,r5,r6,r7,r8⟩
 ·exact⟨none,0,by rw[hn],by omega⟩
 ·exact⟨_,cap,rfl,r5⟩
theorem Buf.len {W0 w:World} {v:Value} {l:LU} (h:Buf W0 w v l):∃ A cap,v= .slice A l.length cap∧l.length≤cap:=z6p_ h.1
open Go.ChangeShapes Go.WideShapes Go.ChangeAt Go.RowKit Go.Lib Go.Shelf
theorem own:ownKnob Tryz.prog.godebug=none:=by kernel_rfl
def znb_ : List (String × DataW Unit) := [("unicode/utf8.acceptRanges", Lib.acceptData), ("unicode/utf8.first", Lib.firstData)]
theorem env_of {W:World} (hL:laidMetH Tryz.prog znb_ W) (hsh:W.ShapedOpen Tryz.prog):Env W where
 tabs:=utf8Tabs_of_readsT (U8Types.of196 Tryz.lays196) ⟨by kernel_rfl,by kernel_rfl,by kernel_rfl,by kernel_rfl,by kernel_rfl,by kernel_rfl,by kernel_rfl⟩ (Lib.laidMet.reads hL (.tail _ (.head _))) (Lib.laidMet.reads hL (.head _))
 mx:=cell_of_shapedOpen_int (P:=Tryz.prog) (g:=0) (t:=3) (zero:=#[.int .i64 0]) hsh (of_decide_eq_true (by kernel_rfl)) (by kernel_rfl) rfl (by kernel_rfl) (by kernel_rfl) Tryz.underlying3
noncomputable def laidWorld (os:Os):World:=
 let w0:=World.holding Tryz.prog os ⟨#[],#[],[]⟩
 let put (h:Array Obj) (g:Nat) (cs:Array Value):Array Obj:=h.modify g fun
  | .cells _ t frozen=> .cells cs t frozen
  |o=>o
 let h1:=put w0.heap 1 (Lib.firstTab.map fun z=>Value.int .u8 z).toArray
 let h2:=put h1 2 ((List.range 16).flatMap fun i=>[Value.int .u8 (Lib.accLo i),Value.int .u8 (Lib.accHi i)]).toArray
 {w0 with heap:=h2}
theorem zm9_ (os:Os) (args:Array Value):laidMet Tryz.prog znb_ ((laidWorld os).forCall (fun _ _=>0) ⟨#[],args,[]⟩).memory:=
 (LaidIn.of_run (l:=znb_) [2,1] 8 (by kernel_rfl) (by kernel_rfl) (by kernel_rfl) (by kernel_rfl)).met
end Go.Proofs.YtbekpphodbekiaaGreatDoor
namespace Go.Proofs.YtbekpphodbekiaaGreatDoor.Ent
abbrev BL:=List UInt8
structure InfoE where
 name:BL
 oid:BL
 eqr:BL
 single:Bool
 fixed:Bool
 oper:Bool
structure AttrE where
 typ:BL
 vals:List BL
 deriving DecidableEq
structure EntryE where
 dn:BL
 attrs:List AttrE
 deriving DecidableEq
structure ClassE where
 name:BL
 kind:Int
 must:List BL
 may:List BL
structure ModE where
 op:Int
 typ:BL
 vals:List BL
structure SchE where
 attr:BL→Option InfoE
 norm:BL→BL→Int × BL
 sub:BL→BL→Bool
 eqn:BL→BL→Int × BL
 first:BL→Option (List (BL × BL))
 named:BL→Bool
 cls:BL→Option ClassE
 above:BL→List BL
structure SchLaw (S:SchE):Prop where
 nameSame:∀ t d,S.attr t=some d→S.attr d.name=some d
 oidSame:∀ t d,S.attr t=some d→S.attr d.oid=some d
 normSame:∀ t u v,S.attr t=S.attr u→S.norm t v=S.norm u v
 normAttr:∀ t v,(S.norm t v).1=0→(S.attr t).isSome=true
 subSame:∀ t u d,S.attr t=some d→S.attr u=some d→S.sub t u=true
 eqNone:∀ t d v,S.attr t=some d→d.eqr=[]→(S.norm t v).1=0→(S.norm t v).2=v
 eqSome:∀ t d v,S.attr t=some d→d.eqr≠[]→(S.norm t v).1=0→S.norm t v=S.eqn d.eqr v
def zeroE:EntryE:=⟨[],[]⟩
section
variable (S:SchE)
def nameE (t:BL):BL:=match S.attr t with
 |some d=>d.name
 |none=>[]
def normF (t v:BL):BL:=(S.norm t v).2
def okF (t v:BL):Bool:=(S.norm t v).1==0
def formsE (t:BL) (vs:List BL):Option (List BL):=if vs.all (okF S t) then some (vs.map (normF S t)) else none
def twiceE:List BL→Bool
 |[]=>false
 |x::l=>l.contains x||twiceE l
def haveE (e:EntryE):List (BL × BL):=e.attrs.flatMap fun a=>((formsE S a.typ a.vals).getD []).map fun n=>(a.typ,n)
def ownE (e:EntryE):Bool:=match S.first e.dn with
 |none=>false
 |some ps=>ps.all fun p=>(haveE S e).contains (nameE S p.1,normF S p.1 p.2)
def attrE (a:AttrE) (had:List AttrE):Int ⊕ AttrE:=match S.attr a.typ with
 |none=> .inl 17
 |some d=>if a.vals.isEmpty then .inl 2 else if 200<a.vals.length then .inl 19 else match formsE S d.name a.vals with
  |none=> .inl 21
  |some l=>if had.any (fun b=>b.typ==d.name)||twiceE l then .inl 20 else .inr ⟨d.name,a.vals⟩
def makeF:List AttrE→List AttrE→Int ⊕ List AttrE
 |[],acc=> .inr acc
 |a::l,acc=>match attrE S a acc with
  | .inl c=> .inl c
  | .inr b=>makeF l (acc++[b])
def makeE (nm:BL) (l:List AttrE):Int × EntryE:=if !S.named nm then (34,zeroE) else if 100<l.length then (19,zeroE) else match makeF S l [] with
 | .inl c=>(c,zeroE)
 | .inr ats=>if ownE S ⟨nm,ats⟩ then (0,⟨nm,ats⟩) else (64,zeroE)
def findE (e:EntryE) (t:BL):List BL:=e.attrs.flatMap fun a=>if S.sub a.typ t then a.vals else []
def atE (e:EntryE) (t:BL):Option Nat:=e.attrs.findIdx? fun a=>a.typ==t
def valuesE (e:EntryE) (t:BL):List BL:=match e.attrs.find? (fun a=>a.typ==t) with
 |some a=>a.vals
 |none=>[]
def setE (e:EntryE) (t:BL) (vs:List BL):EntryE:=match atE e t with
 |some i=>if vs.isEmpty then ⟨e.dn,e.attrs.eraseIdx i⟩ else ⟨e.dn,e.attrs.set i ⟨t,vs⟩⟩
 |none=>if vs.isEmpty then e else ⟨e.dn,e.attrs++[⟨t,vs⟩]⟩
structure RightA (a:AttrE):Prop where
 known:∃ d,S.attr a.typ=some d∧d.name=a.typ
 some:a.vals≠[]
 ok:∀ v∈a.vals,okF S a.typ v=true
 once:(a.vals.map (normF S a.typ)).Nodup
 few:a.vals.length≤200
structure RightE (e:EntryE):Prop where
 all:∀ a∈e.attrs,RightA S a
 once:(e.attrs.map AttrE.typ).Nodup
 few:e.attrs.length≤100
variable {S}
theorem forms_some {t:BL} {vs l:List BL} (h:formsE S t vs=some l):(∀ v∈vs,okF S t v=true)∧l=vs.map (normF S t):=by
 unfold formsE at h
 split at h
 ·next h1=>cases h;exact⟨List.all_eq_true.1 h1,rfl⟩
 ·cases h
theorem forms_mk {t:BL} {vs:List BL} (h:∀ v∈vs,okF S t v=true):formsE S t vs=some (vs.map (normF S t)):=by
 unfold formsE
 rw[if_pos (List.all_eq_true.2 h)]
theorem twice_iff:∀ l:List BL,twiceE l=false↔l.Nodup
 |[]=>by simp [twiceE]
 |x::l=>by
  rw[twiceE,Bool.or_eq_false_iff,twice_iff l,List.nodup_cons]
  constructor
  ·rintro⟨h1,h2⟩
   exact⟨by simpa using h1,h2⟩
  ·rintro⟨h1,h2⟩
   exact⟨by simpa using h1,h2⟩
theorem attr_right (hS:SchLaw S) {a b:AttrE} {had:List AttrE} (h:attrE S a had= .inr b):RightA S b∧b.typ ∉ had.map AttrE.typ:=by
 unfold attrE at h
 split at h
 ·cases h
 ·next d hd=>
  split at h
  ·cases h
  ·next h1=>
   split at h
   ·cases h
   ·next h2=>
    split at h
    ·cases h
    ·next l hl=>
     split at h
     ·cases h
     ·next h3=>
      cases h
      obtain⟨f1,f2⟩:=forms_some hl
      rw[Bool.or_eq_true,not_or] at h3
      refine⟨⟨⟨d,hS.nameSame _ _ hd,rfl⟩,by intro h;exact h1 (by simp only at h;rw[h];rfl),f1,?_,by simp only;omega⟩,?_⟩
      ·have:=(twice_iff l).1 (by simpa using h3.2)
       rw[f2] at this
       exact this
      ·intro hm
       obtain⟨b,hb,hbt⟩:=List.mem_map.1 hm
       exact h3.1 (List.any_eq_true.2 ⟨b,hb,by simp only at hbt;rw[hbt];simp⟩)
theorem makeF_right (hS:SchLaw S):∀ (l acc ats:List AttrE),(∀ a∈acc,RightA S a)→(acc.map AttrE.typ).Nodup→makeF S l acc= .inr ats→(∀ a∈ats,RightA S a)∧(ats.map AttrE.typ).Nodup∧ats.length=acc.length+l.length
 |[],acc,ats,h1,h2,h=>by
  cases h
  exact⟨h1,h2,by simp⟩
 |a::l,acc,ats,h1,h2,h=>by
  rw[makeF] at h
  split at h
  ·cases h
  ·next b hb=>
   obtain⟨r1,r2⟩:=attr_right hS hb
   have:=makeF_right hS l (acc++[b]) ats (by
    intro x hx
    rcases List.mem_append.1 hx with hx|hx
    ·exact h1 x hx
    ·rw[List.mem_singleton.1 hx];exact r1) (by
    rw[List.map_append,List.nodup_append]
    refine⟨h2,by simp,?_⟩
    intro x hx y hy
    simp only[List.map_cons,List.map_nil,List.mem_singleton] at hy
    rw[hy]
    intro he
    exact r2 (he ▸ hx)) h
   refine⟨this.1,this.2.1,?_⟩
   rw[this.2.2]
   simp only[List.length_append,List.length_cons,List.length_nil]
   omega
theorem make_right (hS:SchLaw S) {nm:BL} {l:List AttrE} {e:EntryE} (h:makeE S nm l=(0,e)):RightE S e∧ownE S e=true∧e.dn=nm∧S.named nm=true:=by
 unfold makeE at h
 split at h
 ·cases h
 ·next h0=>
  split at h
  ·cases h
  ·next h1=>
   split at h
   ·next c hc=>
    exfalso
    have hz:c=0:=by cases h;rfl
    subst hz
    have:∀ (l acc:List AttrE),makeF S l acc≠ .inl 0:=by
     intro l
     induction l with
     |nil=>intro acc h;cases h
     |cons a l ih=>
      intro acc h
      rw[makeF] at h
      split at h
      ·next c hc=>
       cases h
       unfold attrE at hc
       split at hc
       ·cases hc
       ·split at hc
        ·cases hc
        ·split at hc
         ·cases hc
         ·split at hc
          ·cases hc
          ·split at hc<;>cases hc
      ·exact ih _ h
    exact this _ _ hc
   ·next ats has=>
    split at h
    ·next ho=>
     cases h
     obtain⟨r1,r2,r3⟩:=makeF_right hS l [] ats (by simp) (by simp) has
     refine⟨⟨r1,r2,?_⟩,ho,rfl,by simpa using h0⟩
     simp only[List.length_nil] at r3 ⊢
     omega
    ·cases h
theorem make_code {nm:BL} {l:List AttrE} (h:(makeE S nm l).1≠0):(makeE S nm l).2=zeroE:=by
 unfold makeE at h ⊢
 split
 ·rfl
 ·split
  ·rfl
  ·split
   ·rfl
   ·next ats has=>
    split
    ·next ho=>simp_all
    ·rfl
theorem ok_norm {t v:BL}:okF S t v=true↔(S.norm t v).1=0:=by unfold okF;simp
structure Right0 (S:SchE) (e:EntryE):Prop where
 all:∀ a∈e.attrs,RightA S a
 once:(e.attrs.map AttrE.typ).Nodup
theorem RightE.r0 {e:EntryE} (h:RightE S e):Right0 S e:=⟨h.all,h.once⟩
theorem hit_or (l:List AttrE) (t:BL):(∃ l1 a l2,l=l1++a::l2∧a.typ=t∧t ∉ l1.map AttrE.typ)∨t ∉ l.map AttrE.typ:=by
 induction l with
 |nil=>exact .inr (by simp)
 |cons b l ih=>
  by_cases hb:b.typ=t
  ·exact .inl ⟨[],b,l,rfl,hb,by simp⟩
  ·rcases ih with ⟨l1,a,l2,rfl,h1,h2⟩|h
   ·refine .inl ⟨b::l1,a,l2,rfl,h1,?_⟩
    simp only[List.map_cons,List.mem_cons,not_or]
    exact⟨fun h=>hb h.symm,h2⟩
   ·refine .inr ?_
    simp only[List.map_cons,List.mem_cons,not_or]
    exact⟨fun h=>hb h.symm,h⟩
theorem at_hit {dn t:BL} {l1 l2:List AttrE} {a:AttrE} (ha:a.typ=t) (h1:t ∉ l1.map AttrE.typ):atE ⟨dn,l1++a::l2⟩ t=some l1.length∧valuesE ⟨dn,l1++a::l2⟩ t=a.vals:=by
 unfold atE valuesE
 simp only
 induction l1 with
 |nil=>refine⟨?_,?_⟩<;>simp [List.findIdx?_cons,ha]
 |cons b l ih=>
  simp only[List.map_cons,List.mem_cons,not_or] at h1
  have hb:(b.typ==t)=false:=beq_eq_false_iff_ne.2 (fun h=>h1.1 h.symm)
  obtain⟨i1,i2⟩:=ih h1.2
  rw[List.cons_append,List.findIdx?_cons,List.find?_cons,hb,i1]
  simp only[Bool.false_eq_true,if_false]
  exact⟨rfl,i2⟩
theorem at_miss {e:EntryE} {t:BL} (h:t ∉ e.attrs.map AttrE.typ):atE e t=none∧valuesE e t=[]:=by
 unfold atE valuesE
 have hx:∀ a∈e.attrs,(a.typ==t)=false:=fun a ha=>beq_eq_false_iff_ne.2 (fun he=>h (List.mem_map.2 ⟨a,ha,he⟩))
 refine⟨?_,?_⟩
 ·rw[List.findIdx?_eq_none_iff]
  exact fun a ha=>by rw[hx a ha]
 ·have:e.attrs.find? (fun a=>a.typ==t)=none:=by
   rw[List.find?_eq_none]
   exact fun a ha=>by rw[hx a ha];simp
  rw[this]
def oneL (t:BL) (vs:List BL):List AttrE:=if vs.isEmpty then [] else [⟨t,vs⟩]
theorem set_hit {dn t:BL} {l1 l2:List AttrE} {a:AttrE} (ha:a.typ=t) (h1:t ∉ l1.map AttrE.typ) (vs:List BL):setE ⟨dn,l1++a::l2⟩ t vs=⟨dn,l1++oneL t vs++l2⟩:=by
 unfold setE oneL
 rw[(at_hit ha h1).1]
 simp only
 split
 ·congr 1
  rw[List.eraseIdx_append_of_length_le (Nat.le_refl _)]
  simp
 ·congr 1
  rw[List.set_append_right _ _ (Nat.le_refl _)]
  simp
theorem set_miss {e:EntryE} {t:BL} (h:t ∉ e.attrs.map AttrE.typ) (vs:List BL):setE e t vs=⟨e.dn,e.attrs++oneL t vs⟩:=by
 unfold setE oneL
 rw[(at_miss h).1]
 simp only
 split
 ·simp
 ·rfl
theorem set_set {e:EntryE} {t:BL} {vs us:List BL} (hr:Right0 S e) (hv:valuesE e t=us) (hnv:vs≠[]):setE (setE e t vs) t us=e:=by
 obtain⟨dn,ats⟩:=e
 have e1:oneL t vs=[⟨t,vs⟩]:=by unfold oneL;rw[if_neg (fun hx=>hnv (List.isEmpty_iff.1 hx))]
 rcases hit_or ats t with ⟨l1,a,l2,rfl,h1,h2⟩|hm
 ·rw[(at_hit h1 h2).2] at hv
  have ha:=(hr.all a (by simp)).some
  rw[set_hit h1 h2,e1,List.append_assoc]
  show setE ⟨dn,l1++(⟨t,vs⟩:AttrE)::l2⟩ t us=_
  rw[set_hit (a:=⟨t,vs⟩) rfl h2,← hv]
  unfold oneL
  rw[if_neg (fun hx=>ha (List.isEmpty_iff.1 hx)),List.append_assoc]
  obtain⟨ty,vs'⟩:=a
  simp only at h1 ⊢
  rw[h1]
  rfl
 ·rw[(at_miss hm).2] at hv
  rw[show setE ⟨dn,ats⟩ t vs=⟨dn,ats++oneL t vs⟩ from set_miss hm vs,e1]
  show setE ⟨dn,ats++(⟨t,vs⟩:AttrE)::[]⟩ t us=_
  rw[set_hit (a:=⟨t,vs⟩) rfl hm,← hv]
  show (⟨dn,ats++[]++[]⟩:EntryE)=_
  rw[List.append_nil,List.append_nil]
end
end Go.Proofs.YtbekpphodbekiaaGreatDoor.Ent
namespace Go.Proofs.YtbekpphodbekiaaGreatDoor
open Go.RowKit
def xw_ (r:Int):LU:=(Utf8.encode r).data.toList
theorem zp8_ (r:Int):(⟨(xw_ r).toArray⟩:ByteArray)=Utf8.encode r:=rfl
theorem z0q_ (r:Int) (w:World) (hv:Lib.validRune r=true):
  Calls Tryz.prog 199 #[.int .i32 r] w fun e w'=>e= .returned (.tuple #[.string ⟨(xw_ r).toArray⟩,.int .i64 0])∧w=w':=by
 go_enter Tryz.func199,Tryz.ntmps199
 go_wp2_with (go_at_call 213;refine(Tryz.utf8_ValidRune _ _).mono ?_;rintro e w' ⟨rfl,rfl⟩;rw[hv])
 go_ret2
 exact⟨rfl,rfl⟩
theorem zgx_ (l:LU) (w:World) (hw:Env w) (hl:l.length≤9223372036854775807):
  Calls Tryz.prog 147 #[.string ⟨l.toArray⟩] w fun e w'=>e= .returned (.bool (Lib.validD l))∧Bel w w':=by
 have cV:=Tryz.utf8_ValidString ⟨l.toArray⟩ w (by simpa [ByteArray.size] using hl) hw.tabs
 simp only at cV
 generalize Lib.validD l=V at cV ⊢
 go_enter Tryz.func147,Tryz.ntmps147
 go_wp2_with (go_at_call 193;refine cV.mono ?_;rintro e w' ⟨rfl,hb⟩)
 go_ret
 exact⟨rfl,hb⟩
def z11_ (a b:LU):Int:=Lib.compareBytes a b
theorem z3o_ (a b:LU) (w:World):
  Calls Tryz.prog 79 #[.string ⟨a.toArray⟩,.string ⟨b.toArray⟩] w fun e w'=>e= .returned (.int .i64 (z11_ a b))∧w=w':=by
 have cV:=Tryz.strings_Compare ⟨a.toArray⟩ ⟨b.toArray⟩ w
 simp only at cV
 unfold z11_
 generalize Lib.compareBytes a b=V at cV ⊢
 go_enter Tryz.func79,Tryz.ntmps79
 go_wp2_with (go_at_call 145;refine cV.mono ?_;rintro e w' ⟨rfl,rfl⟩)
 go_ret
 exact⟨rfl,rfl⟩
def xo_:Nat→LU→List Int
 |0,_=>[]
 |_+1,[]=>[]
 |n+1,b::l=>((Lib.decodeL (b::l)).1:Int)::xo_ n ((b::l).drop (Lib.decodeL (b::l)).2)
def jn_ (l:LU):List Int:=xo_ l.length l
def z87_ (fold:Bool) (acc:LU) (r:Int):Option LU:=
 if (qh_ r).2.2 then none
 else if !(qh_ r).2.1 then some acc
 else if (qh_ r).1=32∧acc.getLast?=some 32 then some acc
 else some (acc++xw_ (if fold then zn_ (qh_ r).1 else (qh_ r).1))
def zs_ (fold:Bool):List Int→LU→Option LU
 |[],acc=>some acc
 |r::rs,acc=>(z87_ fold acc r).bind (zs_ fold rs)
def qo_ (l:LU) (fold:Bool):Option LU:=if Lib.validD l then zs_ fold (jn_ l) [] else none
theorem z5q_ (l:LU) (k:Nat) (hk:k<l.length):Utf8.decode ⟨l.toArray⟩ k=Lib.decodeL (l.drop k):=by
 unfold Lib.decodeL
 rw[Lib.decode_at,Lib.decode_at]
 have hg:∀ j,((⟨l.toArray⟩:ByteArray).get! (k+j))=((⟨(l.drop k).toArray⟩:ByteArray).get! j):=by
  intro j
  simp [ByteArray.get!,Array.get!Internal,getElem!_def,List.getElem?_drop]
 have hs:(⟨l.toArray⟩:ByteArray).size - k=(⟨(l.drop k).toArray⟩:ByteArray).size - 0:=by simp [ByteArray.size]
 rw[hs,← hg,← hg,← hg,← hg]
 simp only[Nat.zero_add,Nat.add_zero]
end Go.Proofs.YtbekpphodbekiaaGreatDoor
