import Derived.WalkKit
import Derived.WalkSpells
import Derived.WalkLawsBesides
import Derived.Lib.Hide
import Derived.Test.YtakfpngfpknedaaGreatDoorEsh
import Derived.Lib.BufSteps
import Derived.Lib.OthersKept
import Derived.Lib.ValidLaws
import Derived.Lib.RuneBytes
import Derived.Test.YtakfpngfpknedaaGreatDoorCards
import Derived.Test.YtakfpngfpknedaaGreatDoorTie
import Derived.ProofKit
import Derived.OpenShut
import Derived.Deep.DeepHandedRow
import Derived.Deep.DeepWitnessRowRef
import Derived.Lib.LaidTab
import Derived.Lib.LaidIn
import Derived.Lib.LaidU8T
import Derived.PinnedBridge
import Derived.Shelf.Vars
set_option linter.all false
set_option maxHeartbeats 8000000
set_option maxRecDepth 100000
namespace Go.Proofs.YtakfpngfpknedaaGreatDoor
open Go.RowKit
abbrev LU:=List UInt8
abbrev LL:=List (List UInt8)
theorem hiD {p:Prop} (h:p):Go.RowKit.Hid p:=Lib.hid h
theorem gs3 {α:Type}:(∀ (l:List α) (i:Nat),l.toArray[i]?=l[i]?)∧(∀ (a:α) (l:List α),(a::l)[0]?=some a)∧(∀ (a:α) (l:List α) (i:Nat),(a::l)[i+1]?=l[i]?):=⟨fun _ _=>List.getElem?_toArray,fun _ _=>List.getElem?_cons_zero,fun _ _ _=>List.getElem?_cons_succ⟩
def z6o_ (c:Int):Bool:=decide (97≤c) && decide (c≤122)||decide (65≤c) && decide (c≤90)
def digB (c:Int):Bool:=decide (48≤c) && decide (c≤57)
def xo_ (c:Int):Bool:=z6o_ c||digB c||c==45||c==46
theorem gsx {α:Type}:(∀ (l:List α) (i:Nat) (h:i<l.toArray.size),l.toArray[i]=l[i]'h)∧(∀ (a:α) (l:List α) (h:0<(a::l).length),(a::l)[0]=a)∧
  (∀ (a:α) (l:List α) (i:Nat) (h:i+1<(a::l).length),(a::l)[i+1]=l[i]'(Nat.lt_of_succ_lt_succ h))∧(∀ (l:List α) (i:Nat) (a:α),l.toArray.setIfInBounds i a=(l.set i a).toArray)∧
  (∀ (a b:α) (l:List α),(a::l).set 0 b=b::l)∧(∀ (a b:α) (l:List α) (n:Nat),(a::l).set (n+1) b=a::l.set n b):=
 ⟨fun _ _ _=>List.getElem_toArray ..,fun _ _ _=>List.getElem_cons_zero ..,fun _ _ _ _=>List.getElem_cons_succ ..,fun _ _ _=>List.setIfInBounds_toArray ..,fun _ _ _=>List.set_cons_zero,fun _ _ _ _=>List.set_cons_succ⟩
theorem xd_ {a b:Bool} (h:a=b):Ending.returned (.bool a)= .returned (.bool b):=by rw[h]
theorem zjx_ {k:IntKind} {a b:Int} (h:a=b):Ending.returned (.int k a)= .returned (.int k b):=by rw[h]
theorem qb_ (l:LU) (k:Nat) (h:k<(⟨l.toArray⟩:ByteArray).size):(⟨l.toArray⟩:ByteArray)[k]=l[k]'(by simpa [ByteArray.size] using h):=rfl
theorem z0b_ (c:Int) (w:World):
  Calls Tryz.prog 70 #[.int .u8 c] w fun e w'=>e= .returned (.bool (z6o_ c))∧w=w':=by
 go_enter Tryz.func70,Tryz.ntmps70
 go_wp2
 all_goals (go_ret;refine⟨xd_ ?_,rfl⟩;unfold z6o_;rw[Bool.eq_iff_iff];simp;omega)
theorem zc6_ (c:Int) (w:World):
  Calls Tryz.prog 106 #[.int .u8 c] w fun e w'=>e= .returned (.bool (digB c))∧w=w':=by
 go_enter Tryz.func106,Tryz.ntmps106
 go_wp2
 all_goals (go_ret;refine⟨xd_ ?_,rfl⟩;unfold digB;rw[Bool.eq_iff_iff];simp;omega)
theorem z4j_ (c:Int) (w:World):
  Calls Tryz.prog 72 #[.int .u8 c] w fun e w'=>e= .returned (.bool (xo_ c))∧w=w':=by
 cases h1:z6o_ c<;>cases h2:digB c
 all_goals
  go_enter Tryz.func72,Tryz.ntmps72
  go_wp2_with (first|(go_at_call 70;refine(z0b_ _ _).mono ?_;rintro e w' ⟨rfl,rfl⟩;rw[h1])|(go_at_call 106;refine(zc6_ _ _).mono ?_;rintro e w' ⟨rfl,rfl⟩;rw[h2]))
  all_goals (go_ret;refine⟨xd_ ?_,rfl⟩;unfold xo_;simp [*])
def q1_ (c:Int):Int:=if 48≤c∧c≤57 then c - 48 else if 97≤c∧c≤102 then c - 87 else if 65≤c∧c≤70 then c - 55 else -1
theorem z47_ (c:Int) (w:World) (h0:0≤c) (h1:c<256):
  Calls Tryz.prog 309 #[.int .u8 c] w fun e w'=>e= .returned (.int .i64 (q1_ c))∧w=w':=by
 go_enter Tryz.func309,Tryz.ntmps309
 go_wp2
 all_goals (go_ret;refine⟨zjx_ ?_,rfl⟩;unfold q1_;repeat' split)
 all_goals (first|omega|(simp;omega))
def zkm_ (y m:Int):Int:=if m=4∨m=6∨m=9∨m=11 then 30 else if m=2 then (if y % 4=0∧y % 100≠0∨y % 400=0 then 29 else 28) else 31
theorem days_c (y m:Int) (w:World) (h0:0≤y) (h1:y<10000):
  Calls Tryz.prog 276 #[.int .i64 y,.int .i64 m] w fun e w'=>e= .returned (.int .i64 (zkm_ y m))∧w=w':=by
 go_enter Tryz.func276,Tryz.ntmps276
 go_wp2
 all_goals (go_ret;refine⟨zjx_ ?_,rfl⟩;unfold zkm_)
 all_goals (simp only[beq_iff_eq,beq_eq_false_iff_ne,bne_iff_ne,bne_eq_false_iff_eq,ne_eq] at *)
 all_goals (repeat' split)
 all_goals omega
def ys_:LU→Bool
 |[]=>true
 |c::r=>decide (c.toNat<128) && ys_ r
theorem zea_ (l:LU) (w:World) (hl:l.length≤1024):
  Calls Tryz.prog 248 #[.string ⟨l.toArray⟩] w fun e w'=>e= .returned (.bool (ys_ l))∧w=w':=by
 have hget:=qb_
 go_enter Tryz.func248,Tryz.ntmps248
 go_wp2
 go_loop [6] (fun i=>∃ k:Nat,k≤l.length∧i= .int .i64 k∧Hid (ys_ l=ys_ (l.drop k))) (fun i=>l.length - (intOf i).toNat)
 case atStart=>exact⟨0,Nat.zero_le _,rfl,hiD rfl⟩
 case round=>
  obtain⟨k,hk,rfl,HI⟩:=hrel
  by_cases hlt:k<l.length
  ·by_cases hc:l[k].toNat<128
   ·have HI':Hid (ys_ l=ys_ (l.drop (k+1))):=hiD (by rw[HI.out,List.drop_eq_getElem_cons hlt];simp [ys_,hc])
    go_wp2
    go_round
    case rel=>exact⟨k+1,by omega,by go_num,HI'⟩
    case measure=>simp [intOf];omega
   ·go_wp2
    go_ret
    exact⟨xd_ (by rw[HI.out,List.drop_eq_getElem_cons hlt];simp [ys_,hc]),rfl⟩
  ·go_wp2
   go_ret
   exact⟨xd_ (by rw[HI.out,List.drop_eq_nil_of_le (by omega)];simp [ys_]),rfl⟩
open Go.RowKit
def z38_ (r:Int):Prop:=(9≤r∧r≤13)∨r=0x85∨r=0xA0∨r=0x1680∨(0x2000≤r∧r≤0x200A)∨r=0x2028∨r=0x2029∨r=0x202F∨r=0x205F∨r=0x3000
instance (r:Int):Decidable (z38_ r):=by unfold z38_;infer_instance
def zb3_ (r:Int):Prop:=(0≤r∧r<32)∨(127≤r∧r≤0x9F)∨r=0xAD∨r=0x34F∨r=0x1806∨(0x180B≤r∧r≤0x180E)∨(0x200B≤r∧r≤0x200F)∨(0x202A≤r∧r≤0x202E)∨(0x2060≤r∧r≤0x206F)∨(0xFE00≤r∧r≤0xFE0F)∨r=0xFEFF∨(0xFFF9≤r∧r≤0xFFFC)
instance (r:Int):Decidable (zb3_ r):=by unfold zb3_;infer_instance
def zga_ (r:Int):Prop:=r<0∨(0xD800≤r∧r≤0xF8FF)∨(0xFFFD≤r∧r≤0xFFFF)∨0xF0000≤r
instance (r:Int):Decidable (zga_ r):=by unfold zga_;infer_instance
def z93_ (r:Int):Bool:=decide (z38_ r)
def zgt_ (r:Int):Bool:=decide (zb3_ r)
def refB (r:Int):Bool:=decide (zga_ r)
theorem zdb_ (r:Int) (w:World):
  Calls Tryz.prog 305 #[.int .i32 r] w fun e w'=>e= .returned (.bool (z93_ r))∧w=w':=by
 go_enter Tryz.func305,Tryz.ntmps305
 go_wp2
 all_goals (go_ret;refine⟨xd_ ?_,rfl⟩;unfold z93_)
 all_goals (try simp only[beq_iff_eq,beq_eq_false_iff_ne,ne_eq] at *)
 all_goals (first|(refine(decide_eq_true ?_).symm;unfold z38_;omega)|(refine(decide_eq_false ?_).symm;unfold z38_;omega))
theorem goes_c (r:Int) (w:World):
  Calls Tryz.prog 306 #[.int .i32 r] w fun e w'=>e= .returned (.bool (zgt_ r))∧w=w':=by
 go_enter Tryz.func306,Tryz.ntmps306
 go_wp2
 all_goals (go_ret;refine⟨xd_ ?_,rfl⟩;unfold zgt_)
 all_goals (try simp only[beq_iff_eq,beq_eq_false_iff_ne,ne_eq] at *)
 all_goals (first|(refine(decide_eq_true ?_).symm;unfold zb3_;omega)|(refine(decide_eq_false ?_).symm;unfold zb3_;omega))
theorem z7k_ (r:Int) (w:World):
  Calls Tryz.prog 307 #[.int .i32 r] w fun e w'=>e= .returned (.bool (refB r))∧w=w':=by
 go_enter Tryz.func307,Tryz.ntmps307
 go_wp2
 all_goals (go_ret;refine⟨xd_ ?_,rfl⟩;unfold refB)
 all_goals (rw[Bool.eq_iff_iff];simp only[Bool.or_eq_true,Bool.and_eq_true,decide_eq_true_eq,Bool.false_eq_true,Bool.true_eq_false,iff_true,false_iff,true_iff];unfold zga_;omega)
def yn_ (r:Int):Int × Bool × Bool:=if z38_ r then (32,true,false) else if zb3_ r then (0,false,false) else if zga_ r then (0,false,true) else (r,true,false)
theorem Map_c (r:Int) (w:World):
  Calls Tryz.prog 293 #[.int .i32 r] w fun e w'=>e= .returned (.tuple #[.int .i32 (yn_ r).1,.bool (yn_ r).2.1,.bool (yn_ r).2.2])∧w=w':=by
 cases h1:z93_ r<;>cases h2:zgt_ r<;>cases h3:refB r
 all_goals
  go_enter Tryz.func293,Tryz.ntmps293
  go_wp2_with (first|(go_at_call 305;refine(zdb_ _ _).mono ?_;rintro e w' ⟨rfl,rfl⟩;rw[h1])|(go_at_call 306;refine(goes_c _ _).mono ?_;rintro e w' ⟨rfl,rfl⟩;rw[h2])|(go_at_call 307;refine(z7k_ _ _).mono ?_;rintro e w' ⟨rfl,rfl⟩;rw[h3]))
  go_ret3
  refine⟨?_,rfl⟩
  simp only[z93_,zgt_,refB,decide_eq_true_eq,decide_eq_false_iff_not] at h1 h2 h3
  simp [yn_,h1,h2,h3]
def jk_ (r:Int):Int:=
 if (65≤r∧r≤90)∨(0xC0≤r∧r≤0xDE∧r≠0xD7)∨(0x391≤r∧r≤0x3A9∧r≠0x3A2)∨(0x410≤r∧r≤0x42F) then r+32
 else if 0x400≤r∧r≤0x40F then r+80
 else if r=0x1E9E then 0xDF
 else if ((0x100≤r∧r≤0x137)∨(0x14A≤r∧r≤0x177))∧r % 2=0 then r+1
 else r
theorem zel_ (r:Int) (w:World) (h0:0≤r) (h1:r≤0x10FFFF):
  Calls Tryz.prog 294 #[.int .i32 r] w fun e w'=>e= .returned (.int .i32 (jk_ r))∧w=w':=by
 go_enter Tryz.func294,Tryz.ntmps294
 go_wp2
 all_goals (go_ret;refine⟨zjx_ ?_,rfl⟩)
 all_goals (try simp only[beq_iff_eq,beq_eq_false_iff_ne,bne_iff_ne,bne_eq_false_iff_eq,ne_eq] at *)
 all_goals (unfold jk_;repeat' split)
 all_goals omega
open Go.RowKit
theorem z9_ {w:World} {a:Addr} {v:Value} (h:w.cell? a=some v):a.block<w.heap.size:=by
 rcases Nat.lt_or_ge a.block w.heap.size with h'|h'
 ·exact h'
 ·simp [World.cell?,Array.getElem?_eq_none h'] at h
theorem cQ {w w':World} {a:Addr} {v:Value} (hb:Below w.heap.size w w') (h:w.cell? a=some v):w'.cell? a=some v:=(hb.cell (z9_ h)).trans h
theorem tQ {a b c:World} (h:Below a.heap.size a b) (g:Below b.heap.size b c):Below a.heap.size a c:=h.trans (g.mono h.size)
abbrev Bel (w w':World):Prop:=Below w.heap.size w w'
theorem z2x_:∀ (fn:Fn) (first cap:Array Value) (w:World),(Instr.makeFunc fn first cap).run Tryz.prog w= .ok (.func fn first cap) w:=fun _ _ _ _=>rfl
abbrev gT:=@World.grownBy.trans
abbrev nR:=@Nat.le_refl
abbrev nT:=@Nat.le_trans
abbrev bR:=@Below.refl
structure Env (w:World):Prop where
 tabs:Lib.Utf8Tabs 4 5 w
 mx:∃ m,w.cell? ⟨0,0,none⟩=some (.int .i64 m)
theorem Env.below {w w':World} (h:Env w) {B:Nat} (hB:w.heap.size≤B) (hb:Below B w w'):Env w':=by
 obtain⟨⟨h1,h2⟩,m,hm⟩:=h
 refine⟨⟨fun c hc=>?_,fun i hi=>?_⟩,m,?_⟩
 ·rw[hb.cell (p:=⟨_,c,none⟩) (Nat.lt_of_lt_of_le (z9_ (h1 c hc)) hB)];exact h1 c hc
 ·have:=h2 i hi
  exact⟨by rw[hb.cell (p:=⟨_,2 * i,none⟩) (Nat.lt_of_lt_of_le (z9_ this.1) hB)];exact this.1,by rw[hb.cell (p:=⟨_,2 * i+1,none⟩) (Nat.lt_of_lt_of_le (z9_ this.2) hB)];exact this.2⟩
 ·rw[hb.cell (p:=⟨_,0,none⟩) (Nat.lt_of_lt_of_le (z9_ hm) hB)];exact hm
theorem Env.keep {w w':World} (h:Env w) (hb:Below w.heap.size w w'):Env w':=h.below (Nat.le_refl _) hb
def Buf (W0 w:World) (v:Value) (l:LU):Prop:=Lib.OwnBuf W0.heap.size 5 v l.length (Lib.byteCells l) W0 w
theorem Buf.nil (w:World):Buf w w (.slice none 0 0) []:=⟨World.ownsRowF_nil _ _ _ _,Below.refl _ _,Nat.le_refl _⟩
theorem Buf.below {W0 w:World} {v:Value} {l:LU} (h:Buf W0 w v l):Below W0.heap.size W0 w:=h.2.1
theorem Buf.le {W0 w:World} {v:Value} {l:LU} (h:Buf W0 w v l):W0.heap.size≤w.heap.size:=h.2.2
theorem Buf.alloc {W0 w:World} {v:Value} {l:LU} (h:Buf W0 w v l) (o:Obj):Buf W0 (w.alloc o) v l:=Lib.OwnBuf.alloc h o
theorem Buf.drewN {W0 w:World} {v:Value} {l:LU} (h:Buf W0 w v l) (n:Nat):Buf W0 (w.drewN n) v l:=Lib.OwnBuf.drewN h n
theorem Buf.grow {W0 w w':World} {v:Value} {l:LU} (h:Buf W0 w v l) (hb:Below w.heap.size w w'):Buf W0 w' v l:=by
 obtain⟨ho,hB,hle⟩:=h
 refine⟨ho.kept (row:=none) ⟨hb.os,hb.tape,hb.output,hb.size,fun k hk _=>hb.block k hk⟩ ?_,hB.trans (hb.mono hle),Nat.le_trans hle hb.size⟩
 rcases hv:v.ownBlock with _|g
 ·exact .inl rfl
 ·exact .inr (by simp)
theorem Buf.iterAt {W0 w:World} {v:Value} {l:LU} (h:Buf W0 w v l) {k:Nat} {s:ByteArray} {p q:Nat} (hk:w.heap[k]?=some (.stringIter s p)) (hW:W0.heap.size≤k):Buf W0 (w.iterAt k s q) v l:=by
 obtain⟨ho,hB,hle⟩:=h
 have hb:∀ j,j≠k→(w.iterAt k s q).heap[j]?=w.heap[j]?:=fun j hj=>by simp [World.iterAt,Array.getElem?_setIfInBounds,Ne.symm hj]
 have hsz:(w.iterAt k s q).heap.size=w.heap.size:=by simp [World.iterAt]
 refine⟨?_,hB.trans ⟨rfl,rfl,rfl,by omega,fun j hj=>hb j (by omega)⟩,by omega⟩
 obtain⟨h1,h2⟩:=ho
 refine⟨h1,h2.imp id ?_⟩
 rintro⟨g,cap,cur,fz,r1,r2,r3,r4⟩
 refine⟨g,cap,cur,fz,r1,r2,?_,r4⟩
 rw[hb g (by rintro rfl;rw[hk] at r3;cases r3)];exact r3
section
variable {ops:Array Oper} {rest:List Oper} {o:Oper} {a:Act} {Q:Exit→Act→World→Prop}
theorem infoByte:∃ i,Tryz.prog.info? 5=some i∧i.zero=some (.int .u8 0)∧i.size=1∧i.bytes=1:=by
 obtain⟨i,h1,h2,h3,h4⟩:=info_parts (show (Tryz.prog.info? 5).map (fun i=>(i.zero,i.size,i.bytes))=some (some (.int .u8 0),1,1) by kernel_rfl)
 exact⟨i,h1,h2,h3,h4⟩
theorem zv_ (hgd:o.guard=none) (s x:Operand) (ho:o.op= .call {callee:= .builtin .append,args:=#[s,x],argTypes:=#[103,103]})
  {v:Value} {l:LU} {W0 w0:World} {c:UInt8} (hs:a.eval s=v) (hb:Buf W0 w0 v l)
  (hx:a.eval x= .slice (some ⟨w0.heap.size,0,none⟩) 1 1) (hlen:l.length<140737488355328)
  (h:∀ v' w',Buf W0 w' v' (l++[c])→w0.grownBy w' v.ownBlock→wpList Tryz.prog ops Q rest (a.put o.dst v') w'):wpList Tryz.prog ops Q (o::rest) a (w0.alloc (.cells #[.int .u8 c.toNat] 5)):=by
 obtain⟨i,h1,h2,h3,h4⟩:=infoByte
 have hb':=Lib.OwnBuf.alloc hb (.cells #[.int .u8 c.toNat] 5)
 refine wpList_append_ownF _ hgd s x 103 ho W0.heap.size 5 i (.int .u8 0) 1 1 Tryz.underlying103 h1 h2 h3 h4 rfl (by decide) v _ _ hs hb'.1 ⟨w0.heap.size,0,none⟩ 1 1 [.int .u8 c.toNat] hx rfl ?_ ?_ (by unfold maxLen;omega) (by omega) hb'.2.2 ?_
 ·intro j u hj
  match j,hj with
  |0,hj=>simp at hj;subst hj;simp [Addr.add]
  |(j+1),hj=>simp at hj
 ·intro u hu;simp at hu;subst hu;rfl
 ·intro v' w' ho' hg _
  refine h v' w' ?_ (World.grownBy.trans (World.grownBy_alloc _ _ _) hg)
  have hv:=hb'.grown ho' hg
  unfold Buf
  simpa [Lib.byteCells] using hv
theorem z9v_ {w:World} (hgd:o.guard=none) (l c:Operand) (ho:o.op=Op.makeSlice 103 l c) (n:Nat) (C:Int) (hl:a.eval l= .int .i64 0) (hc:a.eval c= .int .i64 C) (hC:C=(n:Int)) (hn:n≤140737488355328)
  (h:∀ w',Buf w w' (.slice (some ⟨w.heap.size,0,none⟩) 0 n) []→wpList Tryz.prog ops Q rest (a.put o.dst (.slice (some ⟨w.heap.size,0,none⟩) 0 n)) w'):wpList Tryz.prog ops Q (o::rest) a w:=by
 obtain⟨i,h1,h2,h3,h4⟩:=infoByte
 refine wpList_make_own w hgd l c 103 ho w.heap.size 5 i (.int .u8 0) 1 Tryz.underlying103 h1 h2 h3 .i64 .i64 C n hl hc hC (by rw[h4];omega) (by unfold maxLen;omega) (Nat.le_refl _) ?_
 intro w' ho' hg
 exact h w' ⟨World.ownsRowF_of ho',(Below.refl _ _).grown hg (Nat.le_refl _) (fun k hk=>by cases hk),hg.size⟩
theorem vp_ {w:World} (hgd:o.guard=none) (sl x:Operand) (ho:o.op= .call {callee:= .builtin .append,args:=#[sl,x],argTypes:=#[103,9]})
  {v:Value} {l m:LU} {W0:World} (hs:a.eval sl=v) (hb:Buf W0 w v l)
  (hx:a.eval x= .string ⟨m.toArray⟩) (hlen:l.length+m.length≤140737488355328)
  (h:∀ v' w',Buf W0 w' v' (l++m)→w.grownBy w' v.ownBlock→wpList Tryz.prog ops Q rest (a.put o.dst v') w'):wpList Tryz.prog ops Q (o::rest) a w:=by
 obtain⟨i,h1,h2,h3,h4⟩:=infoByte
 have hsz:(⟨m.toArray⟩:ByteArray).size=m.length:=by simp [ByteArray.size]
 refine Lib.wpList_append_own_stringF w hgd sl x 103 9 ho W0.heap.size 5 i Tryz.underlying103 Tryz.underlying9 h1 h2 h3 h4 v _ _ hs hb.1 ⟨m.toArray⟩ hx (by rw[hsz];unfold maxLen;omega) (by rw[hsz];exact hlen) hb.2.2 ?_
 intro v' w' ho' hg _
 refine h v' w' ?_ hg
 have hv:=Lib.OwnBuf.grown hb ho' hg
 unfold Buf
 simpa [Lib.byteCells,Lib.strCells,ByteArray.size] using hv
end
theorem Buf.other {W0 w w':World} {v:Value} {l:LU} {k:Nat} {o:Obj} (h:Buf W0 w v l) (hg:w.grownBy w' v.ownBlock) (hk:w.heap[k]?=some o) (ho:∀ c f,o≠ .cells c 5 f):w'.heap[k]?=some o:=by
 rw[hg.block k ((Array.getElem?_eq_some_iff.1 hk).1)]
 ·exact hk
 ·obtain⟨⟨h1,h2⟩,_⟩:=h
  rcases h2 with ⟨rfl,hn⟩|⟨g,cap,cur,fz,rfl,r2,r3,r4,r5,r6,r7,r8⟩
  ·simp [Value.ownBlock]
  ·intro e
   obtain rfl:k=g:=by simpa [Value.ownBlock] using e
   rw[hk] at r3
   exact ho _ _ (Option.some.inj r3)
theorem z0g_ {B:Nat} {w:World} {v:Value} {l:LU} (h:w.ownsRowF B 5 1 v l.length (Lib.byteCells l)):(convert 103 9 v).run Tryz.prog w= .ok (.string ⟨l.toArray⟩) w:=by
 obtain⟨h1,h2⟩:=h
 rcases h2 with ⟨rfl,hn⟩|⟨g,cap,cur,fz,rfl,r2,r3,r4,r5,r6,r7,r8⟩
 ·obtain rfl:l=[]:=List.eq_nil_of_length_eq_zero hn
  rw[run_convert_bytes_nil (w:=w) (P:=Tryz.prog) 103 5 Tryz.underlying103 Tryz.underlying5 0 0 9 Tryz.underlying9]
  rfl
 ·refine run_convert_bytes_back w 103 9 5 ⟨g,0,none⟩ cap l Tryz.underlying103 Tryz.underlying5 Tryz.underlying9 ?_
  intro j hj
  have hadd:(⟨g,0,none⟩:Addr).add j=⟨g,j,none⟩:=by unfold Addr.add;split<;>simp_all
  rw[hadd]
  simp only[World.cell?,r3]
  have:(cur.toList.take (l.length * 1))[j]?=some (.int .u8 l[j].toNat):=by rw[r8];simp [Lib.byteCells,hj]
  rw[List.getElem?_take] at this
  simpa [hj] using this
theorem k6_ {W0 w:World} {v:Value} {l:LU} (h:Buf W0 w v l):(convert 103 9 v).run Tryz.prog w= .ok (.string ⟨l.toArray⟩) w:=z0g_ h.1
theorem z96_ {B:Nat} {w:World} {v:Value} {l:LU} (h:w.ownsRowF B 5 1 v l.length (Lib.byteCells l)) (hl:l≠[]):∃ g cap,v= .slice (some ⟨g,0,none⟩) l.length cap∧l.length≤cap∧B≤g∧g<w.heap.size∧∀ j (hj:j<l.length),w.cell? ⟨g,j,none⟩=some (.int .u8 l[j].toNat):=by
 obtain⟨h1,h2⟩:=h
 rcases h2 with ⟨rfl,hn⟩|⟨g,cap,cur,fz,rfl,r2,r3,r4,r5,r6,r7,r8⟩
 ·exact absurd (List.eq_nil_of_length_eq_zero hn) hl
 ·refine⟨g,cap,rfl,r5,r2,(Array.getElem?_eq_some_iff.1 r3).1,fun j hj=>?_⟩
  simp only[World.cell?,r3]
  have:(cur.toList.take (l.length * 1))[j]?=some (.int .u8 l[j].toNat):=by rw[r8];simp [Lib.byteCells,hj]
  rw[List.getElem?_take] at this
  simpa [hj] using this
theorem Buf.cell {W0 w:World} {v:Value} {l:LU} (h:Buf W0 w v l) (hl:l≠[]):∃ g cap,v= .slice (some ⟨g,0,none⟩) l.length cap∧l.length≤cap∧W0.heap.size≤g∧g<w.heap.size∧∀ j (hj:j<l.length),w.cell? ⟨g,j,none⟩=some (.int .u8 l[j].toNat):=z96_ h.1 hl
theorem z4b_ {B:Nat} {w:World} {v:Value} {l:LU} (h:w.ownsRowF B 5 1 v l.length (Lib.byteCells l)):∃ A cap,v= .slice A l.length cap∧l.length≤cap:=by
 obtain⟨h1,h2⟩:=h
 rcases h2 with ⟨rfl,hn⟩|⟨g,cap,cur,fz,rfl,r2,r3,r4,r5,r6,r7,r8⟩
 ·exact⟨none,0,by rw[hn],by omega⟩
 ·exact⟨_,cap,rfl,r5⟩
theorem Buf.len {W0 w:World} {v:Value} {l:LU} (h:Buf W0 w v l):∃ A cap,v= .slice A l.length cap∧l.length≤cap:=z4b_ h.1
open Go.ChangeShapes Go.WideShapes Go.ChangeAt Go.RowKit Go.Lib Go.Shelf
theorem own:ownKnob Tryz.prog.godebug=none:=by kernel_rfl
def z8g_:List (String × DataW Unit):=Rows.configOnceRow.laid
theorem z4s_ : z8g_ = [("math/bits.deBruijn32tab", Rows.laid_math_bits_deBruijn32tab), ("math/bits.deBruijn64tab", Rows.laid_math_bits_deBruijn64tab), ("internal/strconv.uint64pow10", Rows.laid_internal_strconv_uint64pow10), ("unicode/utf8.acceptRanges", Lib.acceptData), ("strconv.ErrRange", Rows.laid_strconv_ErrRange), ("strconv.ErrSyntax", Rows.laid_strconv_ErrSyntax), ("unicode/utf8.first", Lib.firstData)] := by kernel_rfl
theorem env_of {W:World} (hL:laidMetH Tryz.prog z8g_ W) (hsh:W.ShapedOpen Tryz.prog):Env W where
 tabs:=utf8Tabs_of_readsT (U8Types.of196 Tryz.lays196) ⟨by kernel_rfl,by kernel_rfl,by kernel_rfl,by kernel_rfl,by kernel_rfl,by kernel_rfl,by kernel_rfl⟩ (Lib.laidMet.reads hL (by rw[z4s_];exact .tail _ (.tail _ (.tail _ (.tail _ (.tail _ (.tail _ (.head _)))))))) (Lib.laidMet.reads hL (by rw[z4s_];exact .tail _ (.tail _ (.tail _ (.head _)))))
 mx:=cell_of_shapedOpen_int (P:=Tryz.prog) (g:=0) (t:=3) (zero:=#[.int .i64 0]) hsh (of_decide_eq_true (by kernel_rfl)) (by kernel_rfl) rfl (by kernel_rfl) (by kernel_rfl) Tryz.underlying3
def litV:DataW Unit→Value
 | .lit (.int k z)=> .int k z
 |_=>undef
def rowV:DataW Unit→Array Value
 | .agg l=>(l.map litV).toArray
 |_=>#[]
noncomputable def world0 (os:Os):World:=World.holding Tryz.prog os ⟨#[.cells #[.string ⟨#[118,97,108,117,101,32,111,117,116,32,111,102,32,114,97,110,103,101]⟩] 286,.cells #[.string ⟨#[105,110,118,97,108,105,100,32,115,121,110,116,97,120]⟩] 286],#[],[]⟩
noncomputable def laidWorld (os:Os):World:=
 let w0:=world0 os
 let lo:=w0.heap.size - 2
 let put (h:Array Obj) (g:Nat) (cs:Array Value):Array Obj:=h.modify g fun
  | .cells _ t frozen=> .cells cs t frozen
  |o=>o
 let h1:=put w0.heap 4 (Lib.firstTab.map fun z=>Value.int .u8 z).toArray
 let h2:=put h1 5 ((List.range 16).flatMap fun i=>[Value.int .u8 (Lib.accLo i),Value.int .u8 (Lib.accHi i)]).toArray
 let h3:=put h2 6 (rowV Rows.laid_math_bits_deBruijn32tab)
 let h4:=put h3 7 (rowV Rows.laid_math_bits_deBruijn64tab)
 let h5:=put h4 1 (rowV Rows.laid_internal_strconv_uint64pow10)
 let h6:=put h5 3 #[.iface 284 (.pointer (some ⟨lo,0,none⟩))]
 let h7:=put h6 2 #[.iface 284 (.pointer (some ⟨lo+1,0,none⟩))]
 {w0 with heap:=h7}
noncomputable def lo19 (os:Os):Nat:=(world0 os).heap.size - 2
theorem zgb_ (os:Os) (args:Array Value):laidMet Tryz.prog z8g_ ((laidWorld os).forCall (fun _ _=>0) ⟨#[],args,[]⟩).memory:=
 (LaidIn.of_run (l:=z8g_) [6,7,1,5,3,lo19 os,2,lo19 os+1,4] 8 (by kernel_rfl) (by kernel_rfl) (by kernel_rfl) (by kernel_rfl)).met
open Go.RowKit
def kc_ (r:Int):LU:=(Utf8.encode r).data.toList
theorem zk0_ (r:Int):(⟨(kc_ r).toArray⟩:ByteArray)=Utf8.encode r:=rfl
theorem vn_ (r:Int) (w:World) (hv:Lib.validRune r=true):
  Calls Tryz.prog 295 #[.int .i32 r] w fun e w'=>e= .returned (.tuple #[.string ⟨(kc_ r).toArray⟩,.int .i64 0])∧w=w':=by
 go_enter Tryz.func295,Tryz.ntmps295
 go_wp2_with (go_at_call 261;refine(Tryz.utf8_ValidRune _ _).mono ?_;rintro e w' ⟨rfl,rfl⟩;rw[hv])
 go_ret2
 exact⟨rfl,rfl⟩
theorem zcj_ (l:LU) (w:World) (hw:Env w) (hl:l.length≤9223372036854775807):
  Calls Tryz.prog 257 #[.string ⟨l.toArray⟩] w fun e w'=>e= .returned (.bool (Lib.validD l))∧Bel w w':=by
 have cV:=Tryz.utf8_ValidString ⟨l.toArray⟩ w (by simpa [ByteArray.size] using hl) hw.tabs
 simp only at cV
 generalize Lib.validD l=V at cV ⊢
 go_enter Tryz.func257,Tryz.ntmps257
 go_wp2_with (go_at_call 288;refine cV.mono ?_;rintro e w' ⟨rfl,hb⟩)
 go_ret
 exact⟨rfl,hb⟩
def z1a_ (a b:LU):Int:=Lib.compareBytes a b
theorem zef_ (a b:LU) (w:World):
  Calls Tryz.prog 211 #[.string ⟨a.toArray⟩,.string ⟨b.toArray⟩] w fun e w'=>e= .returned (.int .i64 (z1a_ a b))∧w=w':=by
 have cV:=Tryz.strings_Compare ⟨a.toArray⟩ ⟨b.toArray⟩ w
 simp only at cV
 unfold z1a_
 generalize Lib.compareBytes a b=V at cV ⊢
 go_enter Tryz.func211,Tryz.ntmps211
 go_wp2_with (go_at_call 255;refine cV.mono ?_;rintro e w' ⟨rfl,rfl⟩)
 go_ret
 exact⟨rfl,rfl⟩
def yp_:Nat→LU→List Int
 |0,_=>[]
 |_+1,[]=>[]
 |n+1,b::l=>((Lib.decodeL (b::l)).1:Int)::yp_ n ((b::l).drop (Lib.decodeL (b::l)).2)
def z0d_ (l:LU):List Int:=yp_ l.length l
def zk2_ (fold:Bool) (acc:LU) (r:Int):Option LU:=
 if (yn_ r).2.2 then none
 else if !(yn_ r).2.1 then some acc
 else if (yn_ r).1=32∧acc.getLast?=some 32 then some acc
 else some (acc++kc_ (if fold then jk_ (yn_ r).1 else (yn_ r).1))
def qn_ (fold:Bool):List Int→LU→Option LU
 |[],acc=>some acc
 |r::rs,acc=>(zk2_ fold acc r).bind (qn_ fold rs)
def vu_ (l:LU) (fold:Bool):Option LU:=if Lib.validD l then qn_ fold (z0d_ l) [] else none
theorem z32_ (l:LU) (k:Nat) (hk:k<l.length):Utf8.decode ⟨l.toArray⟩ k=Lib.decodeL (l.drop k):=by
 unfold Lib.decodeL
 rw[Lib.decode_at,Lib.decode_at]
 have hg:∀ j,((⟨l.toArray⟩:ByteArray).get! (k+j))=((⟨(l.drop k).toArray⟩:ByteArray).get! j):=by
  intro j
  simp [ByteArray.get!,Array.get!Internal,getElem!_def,List.getElem?_drop]
 have hs:(⟨l.toArray⟩:ByteArray).size - k=(⟨(l.drop k).toArray⟩:ByteArray).size - 0:=by simp [ByteArray.size]
 rw[hs,← hg,← hg,← hg,← hg]
 simp only[Nat.zero_add,Nat.add_zero]
end Go.Proofs.YtakfpngfpknedaaGreatDoor
