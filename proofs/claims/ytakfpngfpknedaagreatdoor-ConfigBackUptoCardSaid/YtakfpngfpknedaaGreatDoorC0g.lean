import Derived.Test.YtakfpngfpknedaaGreatDoorC0f
import Derived.WalkMore
set_option linter.all false
set_option maxHeartbeats 8000000
set_option maxRecDepth 100000
namespace Go.Proofs.YtakfpngfpknedaaGreatDoor
open Go.RowKit
def DoIs (w:World) (r p:Nat) (d:DefS) (f:LU) (v:Value):Prop:=
 ∃ (fid:FuncId) (cap:Array Value),v= .func (.func fid) #[] cap∧(∀ (args:Array Value) (W:World),(callFunc fid args).run Tryz.prog W= .ok (.enter fid args) W)∧
  ∀ l,RdW w r l→Shorts l→l.length≤1000000→Calls Tryz.prog fid cap w (FieldRet w r p (fieldL d f l))
theorem look_do {R:List (LU × Value)} {f:LU} {w:World} {m c:Nat} {es:Array MapEntry} (hm:MapS w m es c R):
  (Instr.lookup 165 (.map (some m)) (.string ⟨f.toArray⟩) true).run Tryz.prog w= .ok (.tuple #[(look R f).getD .nilFunc,.bool (look R f).isSome]) w:=hm.ask underDo zeroDo
section
variable {w:World} {B r p br bd b1 b2 b3:Nat} {d:DefS}
theorem doName_is (hw:Env w) (hO:Off r) (h1:w.cell? ⟨br,0,none⟩=some (ptrV r)) (h2:w.cell? ⟨bd,0,none⟩=some (ptrV p)) (hb:bd≠r) (hp:p≠r) (hd:DefAt w p d) (hf:∀ l,fieldL d wName l=(rList [] rQuoted l).map fun x=>({d with names:=x.1},x.2)):
  DoIs w r p d wName (fnV 183 #[ptrV br,ptrV bd]):=
 ⟨_,_,rfl,fun _ _=>by kernel_rfl,fun l hR hs hl=>by rw[hf];exact doName_c br bd r p l d w hw hO h1 h2 hb hp hd hR hs hl⟩
theorem doDesc_is (h1:w.cell? ⟨br,0,none⟩=some (ptrV r)) (hp:p≠r) (hd:DefAt w p d) (hf:∀ l,fieldL d wDesc l=(rQuoted l).map fun x=>(d,x.2)):
  DoIs w r p d wDesc (fnV 185 #[ptrV br]):=
 ⟨_,_,rfl,fun _ _=>by kernel_rfl,fun l hR _ _=>by rw[hf];exact doDesc_c br r p l d w h1 hp hd hR⟩
theorem doList_is (f:LU) (i:Nat) (F:LL→DefS) (hF:∀ w1 v xs,DefAt w1 p d→Texts w1 v xs→DefAt (w1.setCell ⟨p,i,none⟩ v) p (F xs)) (hci:∀ vn vs vm vy,∃ v,(defCells d vn vs vm vy)[i]?=some v)
  (hw:Env w) (hO:Off r) (h1:w.cell? ⟨br,0,none⟩=some (ptrV r)) (h2:w.cell? ⟨b1,0,none⟩=some (.pointer (some ⟨p,i,none⟩))) (hb:b1≠r) (hp:p≠r) (hd:DefAt w p d) (hf:∀ l,fieldL d f l=(rList [36] rName l).map fun x=>(F x.1,x.2)):
  DoIs w r p d f (fnV 180 #[ptrV br,ptrV b1]):=
 ⟨_,_,rfl,fun _ _=>by kernel_rfl,fun l hR hs hl=>by
  rw[hf]
  obtain⟨vn,vs,vm,vy,hB⟩:=hd.bk
  obtain⟨v,hv⟩:=hci vn vs vm vy
  exact(listTo_c br b1 r p i l d v w hw hO h1 h2 hb hp hd ((hB.cell i).trans hv) hR hs hl).mono fun e w' h=>list_set hd hR hp h F hF⟩
theorem doSup_is (hw:Env w) (hO:Off r) (h1:w.cell? ⟨br,0,none⟩=some (ptrV r)) (h2:w.cell? ⟨bd,0,none⟩=some (ptrV p)) (hb:bd≠r) (hp:p≠r) (hd:DefAt w p d) (hf:∀ l,fieldL d wSup l=(rName l).map fun x=>({d with sup:=[x.1]},x.2)):
  DoIs w r p d wSup (fnV 186 #[ptrV br,ptrV bd]):=
 ⟨_,_,rfl,fun _ _=>by kernel_rfl,fun l hR hs _=>by rw[hf];exact doSup_c br bd r p l d w hw hO h1 h2 hb hp hd hR hs⟩
theorem doRule_is (f:LU) (i:Nat) (k:Int) (b:Nat × Nat × Nat) (F:LU→DefS) (hF:∀ w1 x,DefAt w1 p d→DefAt (w1.setCell ⟨p,i,none⟩ (.string ⟨x.toArray⟩)) p (F x)) (hci:∀ vn vs vm vy,∃ v,(defCells d vn vs vm vy)[i]?=some v)
  (hw:Env w) (hO:Off r) (hx:BoxRule w B r p i k b) (hr:r<B) (hpB:p<B) (hp:p≠r) (hd:DefAt w p d) (hf:∀ l,fieldL d f l=(rRule k l).map fun x=>(F x.1,x.2)):
  DoIs w r p d f (fnV 231 #[ptrV b.1,ptrV b.2.1,ptrV b.2.2]):=
 ⟨_,_,rfl,fun _ _=>by kernel_rfl,fun l hR hs _=>by
  rw[hf]
  have:=hx.le
  exact doRule_c b.1 b.2.1 b.2.2 r p i k l d w hw hO hx.cr hx.ct hx.ck (by omega) (by omega) (by omega) hp hd hci hR hs F hF⟩
theorem doSyntax_is (hw:Env w) (hO:Off r) (h1:w.cell? ⟨br,0,none⟩=some (ptrV r)) (h2:w.cell? ⟨bd,0,none⟩=some (ptrV p)) (hb:bd≠r) (hp:p≠r) (hd:DefAt w p d) (hf:∀ l,fieldL d wSyntax l=(match rPlain l with
  |none=>none
  |some (s,t)=>if formE s==0 then some ({d with form:=formF s},t) else none)):
  DoIs w r p d wSyntax (fnV 188 #[ptrV br,ptrV bd]):=
 ⟨_,_,rfl,fun _ _=>by kernel_rfl,fun l hR hs _=>by rw[hf];exact doSyntax_c br bd r p l d w hw hO h1 h2 hb hp hd hR hs⟩
theorem doUsage_is (hw:Env w) (hO:Off r) (h1:w.cell? ⟨br,0,none⟩=some (ptrV r)) (h2:w.cell? ⟨bd,0,none⟩=some (ptrV p)) (hb:bd≠r) (hbp:bd≠p) (hp:p≠r) (hd:DefAt w p d) (hf:∀ l,fieldL d wUsage l=(match rPlain l with
  |none=>none
  |some (s,t)=>if s==wDirectoryoperation||s==wUserapplications then some ({d with oper:=s==wDirectoryoperation},t) else none)):
  DoIs w r p d wUsage (fnV 191 #[ptrV br,ptrV bd]):=
 ⟨_,_,rfl,fun _ _=>by kernel_rfl,fun l hR hs _=>by rw[hf];exact doUsage_c br bd r p l d w hw hO h1 h2 hb hbp hp hd hR hs⟩
theorem doFlag_is (f:LU) (i:Nat) (d':DefS) (v0:Bool) (hs:∀ w1,DefAt w1 p d→DefAt (w1.setCell ⟨p,i,none⟩ (.bool true)) p d') (hci:∀ vn vs vm vy,(defCells d vn vs vm vy)[i]?=some (.bool v0)) (h1:w.cell? ⟨br,0,none⟩=some (.pointer (some ⟨p,i,none⟩))) (hp:p≠r) (hd:DefAt w p d) (hf:∀ l,fieldL d f l=some (d',l)):
  DoIs w r p d f (fnV 234 #[ptrV br]):=
 ⟨_,_,rfl,fun _ _=>by kernel_rfl,fun l hR _ _=>by
  rw[hf]
  obtain⟨vn,vs,vm,vy,hB⟩:=hd.bk
  exact doFlag_c br r p i l d d' v0 w h1 hp hd hR ((hB.cell i).trans (hci _ _ _ _)) (hs w hd)⟩
end
theorem doC {w:World} {B r p br bd b1 b2 b3:Nat} {d:DefS} (hw:Env w) (hO:Off r) (hx:BoxC w B r p br bd b1 b2 b3) (hr:r<B) (hpB:p<B) (hp:p≠r) (hd:DefAt w p d) (hc:d.cls=true) {f:LU} (hf:f∈wordsC):
  ∃ v,look (fieldsC br bd b1 b2 b3) f=some v∧DoIs w r p d f v:=by
 have hle:=hx.le
 have hfl:∀ f l,fieldL d f l=fieldC d f l:=fun f l=>by unfold fieldL;rw[if_pos hc]
 rcases List.mem_cons.1 hf with rfl|hf
 ·exact⟨_,rfl,doName_is hw hO hx.r hx.d (by omega) hp hd (fun l=>(hfl _ l).trans rfl)⟩
 rcases List.mem_cons.1 hf with rfl|hf
 ·exact⟨_,rfl,doDesc_is hx.r hp hd (fun l=>(hfl _ l).trans rfl)⟩
 rcases List.mem_cons.1 hf with rfl|hf
 ·exact⟨_,rfl,doList_is wSup 3 (fun xs=>{d with sup:=xs}) (fun w1 v xs h1 h2=>set_sup h1 h2) (fun _ _ _ _=>⟨_,rfl⟩) hw hO hx.r hx.c1 (by omega) hp hd (fun l=>(hfl _ l).trans rfl)⟩
 rcases List.mem_cons.1 hf with rfl|hf
 ·exact⟨_,rfl,doList_is wMust 4 (fun xs=>{d with must:=xs}) (fun w1 v xs h1 h2=>set_must h1 h2) (fun _ _ _ _=>⟨_,rfl⟩) hw hO hx.r hx.c2 (by omega) hp hd (fun l=>(hfl _ l).trans rfl)⟩
 rcases List.mem_cons.1 hf with rfl|hf
 ·exact⟨_,rfl,doList_is wMay 5 (fun xs=>{d with may:=xs}) (fun w1 v xs h1 h2=>set_may h1 h2) (fun _ _ _ _=>⟨_,rfl⟩) hw hO hx.r hx.c3 (by omega) hp hd (fun l=>(hfl _ l).trans rfl)⟩
 cases hf
theorem doA {w:World} {B r p br bd:Nat} {e o s:Nat × Nat × Nat} {f1 f2:Nat} {d:DefS} (hw:Env w) (hO:Off r) (hx:BoxA w B r p br bd e o s f1 f2) (hr:r<B) (hpB:p<B) (hp:p≠r) (hd:DefAt w p d) (hc:d.cls=false) {f:LU} (hf:f∈wordsA):
  ∃ v,look (fieldsA br bd e o s f1 f2) f=some v∧DoIs w r p d f v:=by
 have hle:=hx.le
 have hfl:∀ f l,fieldL d f l=fieldA d f l:=fun f l=>by unfold fieldL;rw[if_neg (by rw[hc];simp)]
 rcases List.mem_cons.1 hf with rfl|hf
 ·exact⟨_,rfl,doName_is hw hO hx.cr hx.cd (by omega) hp hd (fun l=>(hfl _ l).trans rfl)⟩
 rcases List.mem_cons.1 hf with rfl|hf
 ·exact⟨_,rfl,doDesc_is hx.cr hp hd (fun l=>(hfl _ l).trans rfl)⟩
 rcases List.mem_cons.1 hf with rfl|hf
 ·exact⟨_,rfl,doSup_is hw hO hx.cr hx.cd (by omega) hp hd (fun l=>(hfl _ l).trans rfl)⟩
 rcases List.mem_cons.1 hf with rfl|hf
 ·exact⟨_,rfl,doRule_is wEquality 7 0 e (fun x=>{d with eqr:=x}) (fun w1 x h1=>set_eqr h1 x) (fun _ _ _ _=>⟨_,rfl⟩) hw hO hx.ce hr hpB hp hd (fun l=>(hfl _ l).trans rfl)⟩
 rcases List.mem_cons.1 hf with rfl|hf
 ·exact⟨_,rfl,doRule_is wOrdering 8 1 o (fun x=>{d with ordr:=x}) (fun w1 x h1=>set_ordr h1 x) (fun _ _ _ _=>⟨_,rfl⟩) hw hO hx.co hr hpB hp hd (fun l=>(hfl _ l).trans rfl)⟩
 rcases List.mem_cons.1 hf with rfl|hf
 ·exact⟨_,rfl,doRule_is wSubstr 9 2 s (fun x=>{d with subs:=x}) (fun w1 x h1=>set_subs h1 x) (fun _ _ _ _=>⟨_,rfl⟩) hw hO hx.cs hr hpB hp hd (fun l=>(hfl _ l).trans rfl)⟩
 rcases List.mem_cons.1 hf with rfl|hf
 ·exact⟨_,rfl,doSyntax_is hw hO hx.cr hx.cd (by omega) hp hd (fun l=>(hfl _ l).trans rfl)⟩
 rcases List.mem_cons.1 hf with rfl|hf
 ·exact⟨_,rfl,doFlag_is wSingleValue 10 {d with single:=true} d.single (fun w1 h1=>set_single h1 true) (fun _ _ _ _=>rfl) hx.c1 hp hd (fun l=>(hfl _ l).trans rfl)⟩
 rcases List.mem_cons.1 hf with rfl|hf
 ·exact⟨_,rfl,doFlag_is wNoUserModification 11 {d with fixed:=true} d.fixed (fun w1 h1=>set_fixed h1 true) (fun _ _ _ _=>rfl) hx.c2 hp hd (fun l=>(hfl _ l).trans rfl)⟩
 rcases List.mem_cons.1 hf with rfl|hf
 ·exact⟨_,rfl,doUsage_is hw hO hx.cr hx.cd (by omega) (by omega) hp hd (fun l=>(hfl _ l).trans rfl)⟩
 cases hf
def FieldAsk (w:World) (r p:Nat) (d:DefS) (f:LU) (e:Ending) (w':World):Prop:=
 ∃ m v,e= .returned (.map (some m))∧Bel w w'∧(Instr.lookup 165 (.map (some m)) (.string ⟨f.toArray⟩) true).run Tryz.prog w'= .ok (.tuple #[v,.bool (isField d.cls f)]) w'∧(isField d.cls f=true→DoIs w' r p d f v)
theorem fields_c (r p:Nat) (d:DefS) (f:LU) (w:World) (hw:Env w) (hO:Off r) (hr:r<w.heap.size) (hp:p≠r) (hd:DefAt w p d):
  Calls Tryz.prog 115 #[ptrV p,ptrV r] w (FieldAsk w r p d f):=by
 cases hc:d.cls
 ·refine(fieldsA_c r p d w hd hc).mono ?_
  rintro e w' ⟨m,es,c,br,bd,eb,ob,sb,f1,f2,rfl,hm,hx,hb⟩
  have hl:=look_do (f:=f) hm
  have hi:(look (fieldsA br bd eb ob sb f1 f2) f).isSome=isField d.cls f:=by rw[look_mem,hc];rfl
  rw[hi] at hl
  refine⟨m,_,rfl,hb,hl,fun h=>?_⟩
  have hf:f∈wordsA:=by rw[hc] at h;simpa [isField] using h
  obtain⟨v,hv,hdo⟩:=doA (hw.keep hb) hO hx hr hd.lt hp (hd.below hb) hc hf
  rw[hv]
  exact hdo
 ·refine(fieldsC_c r p d w hd hc).mono ?_
  rintro e w' ⟨m,es,c,br,bd,b1,b2,b3,rfl,hm,hx,hb⟩
  have hl:=look_do (f:=f) hm
  have hi:(look (fieldsC br bd b1 b2 b3) f).isSome=isField d.cls f:=by rw[look_mem,hc];rfl
  rw[hi] at hl
  refine⟨m,_,rfl,hb,hl,fun h=>?_⟩
  have hf:f∈wordsC:=by rw[hc] at h;simpa [isField] using h
  obtain⟨v,hv,hdo⟩:=doC (hw.keep hb) hO hx hr hd.lt hp (hd.below hb) hc hf
  rw[hv]
  exact hdo
open Go.RowKit
theorem enc_more {r:Int} (h:VR r) (h1:128≤r):∃ b:UInt8,128≤b.toNat∧((∃ x,Utf8.encode r=⟨#[x,b]⟩)∨(∃ x y,Utf8.encode r=⟨#[x,y,b]⟩)∨(∃ x y z,Utf8.encode r=⟨#[x,y,z,b]⟩)):=by
 have mk:∀ l:LU,encR r=l→Utf8.encode r=⟨l.toArray⟩:=by
  intro l hl
  rw[← encR_mk,hl]
 rcases enc_cases h with ⟨a1,a2,e⟩|⟨a1,a2,e⟩|⟨a1,a2,e⟩|⟨a1,a2,e⟩
 ·omega
 ·exact⟨_,by rw[ofN (by omega)];omega,.inl ⟨_,mk _ e⟩⟩
 ·exact⟨_,by rw[ofN (by omega)];omega,.inr (.inl ⟨_,_,mk _ e⟩)⟩
 ·exact⟨_,by rw[ofN (by omega)];omega,.inr (.inr ⟨_,_,_,mk _ e⟩)⟩
theorem idx_high {l:LU} {b:UInt8} (hb:128≤b.toNat) (h:l.all (fun c=>decide (c.toNat<128))=true):Lib.indexByte l b= -1:=by
 apply idxB_none
 rw[← Bool.not_eq_true,List.contains_iff_mem]
 intro hm
 have:=List.all_eq_true.1 h b hm
 simp at this
 omega
theorem IndexRune_err (w:World):
  Calls Tryz.prog 224 #[.string ⟨stopCs.toArray⟩,.int .i32 65533] w fun e w'=>e= .returned (.int .i64 (-1))∧Bel w w':=by
 unfold stopCs
 go_enter Tryz.func224,Tryz.ntmps224
 go_wp2_with fail
 go_loopg [5,6] 8 (fun gk _ _ wx=>∃ i:Nat,i≤8∧Aside (i+gk=8)∧Aside (wx=w.iter ⟨#[32,9,10,13,40,41,36,39]⟩ i))
 case atStart=>exact⟨0,by omega,by show _=_;omega,rfl⟩
 case round=>
  obtain⟨i,hi8,AG,AW⟩:=hrel
  obtain rfl:wr=w.iter ⟨#[32,9,10,13,40,41,36,39]⟩ i:=AW.out
  by_cases hlt:i<8
  ·obtain⟨q,rfl⟩:∃ q,gk=q+1:=⟨gk - 1,by have:=AG.out;omega⟩
   have hi:i<(⟨#[32,9,10,13,40,41,36,39]⟩:ByteArray).size:=hlt
   have hx128:((⟨#[32,9,10,13,40,41,36,39]⟩:ByteArray)[i]'hi).toNat<128:=by
    have:∀ j:Fin 8,((⟨#[32,9,10,13,40,41,36,39]⟩:ByteArray)[j.val]'j.isLt).toNat<128:=by decide
    exact this ⟨i,hlt⟩
   have hnx:=fun ty=>run_next_ascii (P:=Tryz.prog) w ⟨#[32,9,10,13,40,41,36,39]⟩ i ty hi hx128
   generalize ((⟨#[32,9,10,13,40,41,36,39]⟩:ByteArray)[i]'hi).toNat=x at *
   have hz:((x:Int)==65533)=false:=by rw[beq_eq_false_iff_ne];omega
   go_wp2_with fail
   go_roundg q
   case measure=>omega
   case rel=>exact⟨i+1,by omega,by have:=AG.out;show _=_;omega,rfl⟩
  ·obtain rfl:i=8:=by omega
   have hnx:=fun ty=>run_next_end (P:=Tryz.prog) w ⟨#[32,9,10,13,40,41,36,39]⟩ 8 ty (by decide)
   go_wp2_with fail
   go_ret
   exact⟨rfl,(bR _ _).alloc (nR _) _⟩
theorem IndexRune_more (r:Int) (w:World) (hr:VR r) (h1:128≤r) (h2:r≠65533):
  Calls Tryz.prog 224 #[.string ⟨stopCs.toArray⟩,.int .i32 r] w fun e w'=>e= .returned (.int .i64 (-1))∧Bel w w':=by
 have hv:Lib.validRune r=true:=by unfold Lib.validRune;unfold VR at hr;simp;omega
 have hz:(r==65533)=false:=beq_eq_false_iff_ne.2 h2
 have h0:0≤r:=by omega
 have h128:¬ r<128:=by omega
 unfold stopCs
 clear h2
 go_enter Tryz.func224,Tryz.ntmps224
 go_wp2_with (go_at_call 261;refine(Tryz.utf8_ValidRune _ _).mono ?_;rintro e w' ⟨rfl,rfl⟩;rw[hv])
 go_step3
 go_wp2_with fail
 obtain⟨b,hb,hE⟩:=enc_more hr h1
 have HI:∀ (l:LU) W,l.all (fun c=>decide (c.toNat<128))=true→Calls Tryz.prog 175 #[.string ⟨l.toArray⟩,.int .u8 b.toNat] W fun e w'=>e= .returned (.int .i64 (-1))∧w'=W:=fun l W hl=>(IndexByte_c l b W).mono fun e w' ⟨he,hw⟩=>⟨by rw[he,idx_high hb hl],hw.symm⟩
 have HH:=hiD HI
 have n9:((9:Int) !=(b.toNat:Int))=true:=by rw[bne_iff_ne];omega
 have n10:((10:Int) !=(b.toNat:Int))=true:=by rw[bne_iff_ne];omega
 have n13:((13:Int) !=(b.toNat:Int))=true:=by rw[bne_iff_ne];omega
 have hext:=ba_ext
 have hget:=ba_get
 clear HI hr h1 hz h0 h128 hv hb
 rcases hE with ⟨x,e⟩|⟨x,y,e⟩|⟨x,y,z,e⟩
 ·rw[e]
  clear e
  rw[show wrap64 (((⟨#[x,b]⟩:ByteArray).size:Int) - 1)=1 from (show wrap64 ((2:Int) - 1)=1 by simp [wrap64])]
  go_loopg [9,10] 1 (fun gk t f wx=>t= .int .i64 1∧f= .int .i64 0∧Aside (wx=w'))
  case atStart=>exact⟨rfl,rfl,rfl⟩
  case round=>
   obtain⟨rfl,rfl,AW⟩:=hrel
   obtain rfl:wr=w':=AW.out
   go_wp2_with fail
   go_step3
   go_wp2_with fail
   go_quiet (fail)
   have hB2:Bel wr (wr.drewN nq):=below_drewN (bR _ _) nq
   generalize wr.drewN nq=w2 at *
   go_wp2_with fail
   go_quiet ((go_at_call 175;exact Calls.quiet_of_same (HH.out _ _ (by decide))))
   have hB3:=below_drewN hB2 nq
   go_wp2_with fail
   rw[Exit.noGoto_ret]
   simp only[Exit.inBlock,Exit.then]
   rw[Exit.noGoto_ret]
   try simp only[Exit.inBlock,Exit.then]
   go_ret
   exact⟨rfl,hB3⟩
 ·rw[e]
  clear e
  rw[show wrap64 (((⟨#[x,y,b]⟩:ByteArray).size:Int) - 1)=2 from (show wrap64 ((3:Int) - 1)=2 by simp [wrap64])]
  go_loopg [9,10] 1 (fun gk t f wx=>t= .int .i64 2∧f= .int .i64 0∧Aside (wx=w'))
  case atStart=>exact⟨rfl,rfl,rfl⟩
  case round=>
   obtain⟨rfl,rfl,AW⟩:=hrel
   obtain rfl:wr=w':=AW.out
   go_wp2_with fail
   go_step3
   go_wp2_with fail
   go_quiet (fail)
   have hB2:Bel wr (wr.drewN nq):=below_drewN (bR _ _) nq
   generalize wr.drewN nq=w2 at *
   go_wp2_with fail
   go_quiet ((go_at_call 175;exact Calls.quiet_of_same (HH.out _ _ (by decide))))
   have hB3:=below_drewN hB2 nq
   go_wp2_with fail
   rw[Exit.noGoto_ret]
   simp only[Exit.inBlock,Exit.then]
   rw[Exit.noGoto_ret]
   try simp only[Exit.inBlock,Exit.then]
   go_ret
   exact⟨rfl,hB3⟩
 ·rw[e]
  clear e
  rw[show wrap64 (((⟨#[x,y,z,b]⟩:ByteArray).size:Int) - 1)=3 from (show wrap64 ((4:Int) - 1)=3 by simp [wrap64])]
  go_loopg [9,10] 1 (fun gk t f wx=>t= .int .i64 3∧f= .int .i64 0∧Aside (wx=w'))
  case atStart=>exact⟨rfl,rfl,rfl⟩
  case round=>
   obtain⟨rfl,rfl,AW⟩:=hrel
   obtain rfl:wr=w':=AW.out
   go_wp2_with fail
   go_step3
   go_wp2_with fail
   go_quiet (fail)
   have hB2:Bel wr (wr.drewN nq):=below_drewN (bR _ _) nq
   generalize wr.drewN nq=w2 at *
   go_wp2_with fail
   go_quiet ((go_at_call 175;exact Calls.quiet_of_same (HH.out _ _ (by decide))))
   have hB3:=below_drewN hB2 nq
   go_wp2_with fail
   rw[Exit.noGoto_ret]
   simp only[Exit.inBlock,Exit.then]
   rw[Exit.noGoto_ret]
   try simp only[Exit.inBlock,Exit.then]
   go_ret
   exact⟨rfl,hB3⟩
open Go.RowKit
def IdxFrom (l:LU) (k:Nat):Prop:=Lib.indexAny l stopCs=if Lib.indexAny (l.drop k) stopCs= -1 then -1 else (k:Int)+Lib.indexAny (l.drop k) stopCs
theorem IdxFrom.zero (l:LU):IdxFrom l 0:=by
 unfold IdxFrom
 rw[List.drop_zero]
 split
 ·next h=>exact h
 ·simp
theorem idx_cons (b:UInt8) (l:LU):Lib.indexAny (b::l) stopCs=if stopCs.contains b then 0 else if Lib.indexAny l stopCs= -1 then -1 else Lib.indexAny l stopCs+1:=by
 rw[Lib.indexAny]
 split
 ·rfl
 ·simp only[beq_iff_eq]
theorem IdxFrom.one {l:LU} {k:Nat} (h:IdxFrom l k) (hk:k<l.length) (hn:stopCs.contains l[k]=false):IdxFrom l (k+1):=by
 unfold IdxFrom at h ⊢
 rw[List.drop_eq_getElem_cons hk,idx_cons,hn] at h
 have hg:=Lib.indexAny_ge stopCs (l.drop (k+1))
 simp only[Bool.false_eq_true,if_false] at h
 generalize Lib.indexAny (l.drop (k+1)) stopCs=z at *
 by_cases h1:z= -1
 ·simp only[h1,if_true] at h ⊢
  exact h
 ·rw[if_neg h1,if_neg (by omega)] at h
  rw[if_neg h1,h]
  push_cast
  omega
theorem IdxFrom.more {l:LU} {k:Nat} (h:IdxFrom l k):∀ n,k+n≤l.length→(∀ j (hj:j<l.length),k≤j→j<k+n→stopCs.contains l[j]=false)→IdxFrom l (k+n)
 |0,_,_=>h
 |n+1,hn,hs=>(IdxFrom.more h n (by omega) (fun j hj h1 h2=>hs j hj h1 (by omega))).one (by omega) (hs (k+n) (by omega) (by omega) (by omega))
theorem IdxFrom.hit {l:LU} {k:Nat} (h:IdxFrom l k) (hk:k<l.length) (hn:stopCs.contains l[k]=true):Lib.indexAny l stopCs=k:=by
 unfold IdxFrom at h
 rw[List.drop_eq_getElem_cons hk,idx_cons,hn] at h
 simpa using h
theorem IdxFrom.none {l:LU} (h:IdxFrom l l.length):Lib.indexAny l stopCs= -1:=by
 unfold IdxFrom at h
 rw[List.drop_length] at h
 exact h
theorem decode_high (l:LU) (h:128≤(l.getD 0 0).toNat):128≤(Lib.decodeL l).1∧∀ j,j<(Lib.decodeL l).2→128≤(l.getD j 0).toNat:=by
 have key:128≤(Lib.decodeL l).1∧(Lib.decodeL l).2≤4∧(1<(Lib.decodeL l).2→128≤(l.getD 1 0).toNat)∧(2<(Lib.decodeL l).2→128≤(l.getD 2 0).toNat)∧(3<(Lib.decodeL l).2→128≤(l.getD 3 0).toNat):=by
  rw[Lib.decodeL_N]
  generalize (l.getD 0 0).toNat=b0 at *
  generalize (l.getD 1 0).toNat=b1 at *
  generalize (l.getD 2 0).toNat=b2 at *
  generalize (l.getD 3 0).toNat=b3 at *
  unfold Lib.decodeN
  repeat' split
  all_goals dsimp only
  all_goals refine⟨?_,?_,?_,?_,?_⟩
  all_goals omega
 obtain⟨k1,k2,k3,k4,k5⟩:=key
 refine⟨k1,fun j hj=>?_⟩
 match j,hj with
 |0,_=>exact h
 |1,hj=>exact k3 hj
 |2,hj=>exact k4 hj
 |3,hj=>exact k5 hj
 |j+4,hj=>omega
theorem high_stop (b:UInt8) (h:128≤b.toNat):stopCs.contains b=false:=by
 rw[← Bool.not_eq_true,List.contains_iff_mem]
 intro hm
 have:∀ c∈stopCs,c.toNat<128:=by decide
 have:=this b hm
 omega
theorem rune_step (l:LU) (k:Nat) (hk:k<l.length) (h:IdxFrom l k):∃ z:Int,(∀ W,Calls Tryz.prog 224 #[.string ⟨#[32,9,10,13,40,41,36,39]⟩,.int .i32 ((Lib.decodeL (l.drop k)).1:Int)] W fun e w'=>e= .returned (.int .i64 z)∧Bel W w')∧
  ((0≤z∧Lib.indexAny l stopCs=k)∨(z<0∧IdxFrom l (k+(Lib.decodeL (l.drop k)).2))):=by
 have hd:l.drop k=l[k]::l.drop (k+1):=List.drop_eq_getElem_cons hk
 by_cases hb:l[k].toNat<128
 ·rw[hd,Lib.decodeL_ascii _ _ hb]
  simp only
  refine⟨Lib.indexByte stopCs l[k],fun W=>?_,?_⟩
  ·refine(Tryz.strings_IndexRune_ascii ⟨#[32,9,10,13,40,41,36,39]⟩ (l[k].toNat:Int) W (by omega) (by omega)).mono ?_
   rintro e w' ⟨rfl,rfl⟩
   exact⟨by simp [stopCs],bR _ _⟩
  ·have hm:=idx_mem stopCs l[k]
   cases hc:stopCs.contains l[k]
   ·right
    refine⟨?_,h.one hk hc⟩
    have:¬ 0≤Lib.indexByte stopCs l[k]:=by rw[hm];simpa using hc
    omega
   ·left
    exact⟨hm.2 (by simpa using hc),h.hit hk hc⟩
 ·have hg0:(l.drop k).getD 0 0=l[k]:=by rw[hd];rfl
  have hne:l.drop k≠[]:=by rw[hd];exact List.cons_ne_nil _ _
  obtain⟨d1,d2⟩:=decode_high (l.drop k) (by rw[hg0];omega)
  obtain⟨n1,n2,n3,n4⟩:=decodeL_ok (l.drop k) hne
  have hV:=VR_of n4
  rw[List.length_drop] at n2
  refine⟨-1,fun W=>?_,.inr ⟨by omega,h.more _ (by omega) ?_⟩⟩
  ·by_cases he:((Lib.decodeL (l.drop k)).1:Int)=65533
   ·rw[he];exact IndexRune_err W
   ·exact IndexRune_more _ W hV (by omega) he
  ·intro j hj h1 h2
   apply high_stop
   have:=d2 (j - k) (by omega)
   have e:(l.drop k).getD (j - k) 0=l[j]:=by
    rw[List.getD_eq_getElem?_getD,List.getElem?_drop,show k+(j - k)=j by omega,List.getElem?_eq_getElem hj]
    rfl
   rw[e] at this
   exact this
theorem IndexAny_short (l:LU) (w:World) (h8:l.length≤8):
  Calls Tryz.prog 176 #[.string ⟨l.toArray⟩,.string ⟨#[32,9,10,13,40,41,36,39]⟩] w fun e w'=>e= .returned (.int .i64 (Lib.indexAny l stopCs))∧Bel w w':=by
 obtain⟨R,hR⟩:∃ R,Lib.indexAny l stopCs=R:=⟨_,rfl⟩
 rw[hR]
 have HR:=hiD hR
 clear hR
 have h8z:decide ((8:Int)<(l.length:Int))=false:=decide_eq_false (by omega)
 go_enter Tryz.func176,Tryz.ntmps176
 go_wp2_with (go_at_call 230;refine(Tryz.strings_shouldUseASCIISet _ _).mono ?_;rintro e w' ⟨rfl,rfl⟩;rw[h8z])
 go_loopg [9,10] l.length (fun gk _ _ wr=>∃ k:Nat,k≤l.length∧Aside (k+gk=l.length)∧Aside (wr.heap[w'.heap.size]?=some (.stringIter ⟨l.toArray⟩ k))∧Bel w' wr∧Aside (IdxFrom l k))
 case atStart=>exact⟨0,Nat.zero_le _,Nat.zero_add _,World.iter_heap _ _ _,(bR _ _).alloc (nR _) _,IdxFrom.zero l⟩
 case round=>
  obtain⟨k,hk,AG,AI,hB,AX⟩:=hrel
  by_cases hlt:k<l.length
  ·have hne:l.drop k≠[]:=by intro h;have:=congrArg List.length h;simp at this;omega
   obtain⟨hn1,hn2,_,_⟩:=decodeL_ok _ hne
   have hd:=decode_pos l k hlt
   have hnx:=fun ty=>Lib.run_next_any_at (P:=Tryz.prog) wr w'.heap.size ⟨l.toArray⟩ k ty AI.out hlt
   rw[hd] at hnx
   obtain⟨z,hI,hz⟩:=rune_step l k hlt AX.out
   have HI:=hiD hI
   have AI':Aside ((wr.iterAt w'.heap.size ⟨l.toArray⟩ (k+(Lib.decodeL (l.drop k)).2)).heap[w'.heap.size]?=some (.stringIter ⟨l.toArray⟩ (k+(Lib.decodeL (l.drop k)).2))):=Lib.iterAt_heap _ _ _ _ _ AI.out
   have hB':Bel w' (wr.iterAt w'.heap.size ⟨l.toArray⟩ (k+(Lib.decodeL (l.drop k)).2)):=Lib.below_iterAt hB (nR _) _ _
   rw[List.length_drop] at hn2
   clear hd hne AX AI hI
   generalize (Lib.decodeL (l.drop k)).2=n at *
   generalize (((Lib.decodeL (l.drop k)).1:Nat):Int)=r at *
   generalize wr.iterAt w'.heap.size ⟨l.toArray⟩ (k+n)=W at *
   rcases hz with ⟨hz,hR⟩|⟨hz,hX⟩
   ·have hzb:decide (0≤z)=true:=decide_eq_true hz
    rw[HR.out] at hR
    subst hR
    go_wp2_with (go_at_call 224;refine(HI.out _).mono ?_;rintro e w2 ⟨rfl,hb2⟩)
    go_ret
    exact⟨rfl,tQ hB' hb2⟩
   ·have hz':¬ 0≤z:=by omega
    have hzb:decide (0≤z)=false:=decide_eq_false hz'
    have HX:=hiD hX
    have hlW:w'.heap.size<W.heap.size:=(Array.getElem?_eq_some_iff.1 AI'.out).1
    clear hX
    go_wp2_with (go_at_call 224;refine(HI.out _).mono ?_;rintro e w2 ⟨rfl,hb2⟩)
    go_roundg (gk - n)
    case measure=>have:=AG.out;omega
    case rel=>exact⟨k+n,by omega,by have:=AG.out;show _=_;omega,(hb2.block _ hlW).trans AI'.out,tQ hB' hb2,HX.out⟩
  ·obtain rfl:k=l.length:=by omega
   have hnx:=fun ty=>Lib.run_next_end_at (P:=Tryz.prog) wr w'.heap.size ⟨l.toArray⟩ l.length ty AI.out (by simp [ByteArray.size])
   have hx:=IdxFrom.none AX.out
   rw[HR.out] at hx
   subst hx
   go_wp2_with fail
   go_ret
   exact⟨rfl,hB⟩
theorem IndexAny_c (l:LU) (w:World) (hl:l.length<4294967281):
  Calls Tryz.prog 176 #[.string ⟨l.toArray⟩,.string ⟨#[32,9,10,13,40,41,36,39]⟩] w fun e w'=>e= .returned (.int .i64 (Lib.indexAny l stopCs))∧Bel w w':=by
 by_cases h8:l.length≤8
 ·exact IndexAny_short l w h8
 ·refine(Tryz.strings_IndexAny_long (zero_of_info (n:=256) (by kernel_rfl)).1 ⟨l.toArray⟩ ⟨#[32,9,10,13,40,41,36,39]⟩ w (by decide) (by show 8<l.toArray.size;simp;omega) (by show l.toArray.size<_;simpa using hl) (by decide) ?_).mono ?_
  ·intro j b hj
   have hb:b∈stopCs:=List.mem_of_getElem? hj
   have:∀ c∈stopCs,c.toNat<128:=by decide
   exact this b hb
  ·rintro e w' ⟨rfl,rfl⟩
   exact⟨rfl,((bR _ _).alloc (nR _) _).alloc (by simp) _⟩
end Go.Proofs.YtakfpngfpknedaaGreatDoor
