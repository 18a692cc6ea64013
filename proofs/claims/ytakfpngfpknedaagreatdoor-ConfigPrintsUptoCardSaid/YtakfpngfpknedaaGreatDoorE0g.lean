import Derived.Test.YtakfpngfpknedaaGreatDoorE0f
import Derived.WalkMore
set_option linter.all false
set_option maxHeartbeats 8000000
set_option maxRecDepth 100000
namespace Go.Proofs.YtakfpngfpknedaaGreatDoor
open Go.RowKit
def zcg_ (w:World) (r p:Nat) (d:DefS) (f:LU) (v:Value):Prop:=
 ∃ (fid:FuncId) (cap:Array Value),v= .func (.func fid) #[] cap∧(∀ (args:Array Value) (W:World),(callFunc fid args).run Tryz.prog W= .ok (.enter fid args) W)∧
  ∀ l,RdW w r l→Shorts l→l.length≤1000000→Calls Tryz.prog fid cap w (js_ w r p (qg_ d f l))
theorem zcr_ {R:List (LU × Value)} {f:LU} {w:World} {m c:Nat} {es:Array MapEntry} (hm:MapS w m es c R):
  (Instr.lookup 165 (.map (some m)) (.string ⟨f.toArray⟩) true).run Tryz.prog w= .ok (.tuple #[(qe_ R f).getD .nilFunc,.bool (qe_ R f).isSome]) w:=hm.ask z8h_ zij_
section
variable {w:World} {B r p br bd b1 b2 b3:Nat} {d:DefS}
theorem z6g_ (hw:Env w) (hO:Off r) (h1:w.cell? ⟨br,0,none⟩=some (z7_ r)) (h2:w.cell? ⟨bd,0,none⟩=some (z7_ p)) (hb:bd≠r) (hp:p≠r) (hd:DefAt w p d) (hf:∀ l,qg_ d ym_ l=(jo_ [] q4_ l).map fun x=>({d with names:=x.1},x.2)):
  zcg_ w r p d ym_ (fnV 183 #[z7_ br,z7_ bd]):=
 ⟨_,_,rfl,fun _ _=>by kernel_rfl,fun l hR hs hl=>by rw[hf];exact zgv_ br bd r p l d w hw hO h1 h2 hb hp hd hR hs hl⟩
theorem z79_ (h1:w.cell? ⟨br,0,none⟩=some (z7_ r)) (hp:p≠r) (hd:DefAt w p d) (hf:∀ l,qg_ d yk_ l=(q4_ l).map fun x=>(d,x.2)):
  zcg_ w r p d yk_ (fnV 185 #[z7_ br]):=
 ⟨_,_,rfl,fun _ _=>by kernel_rfl,fun l hR _ _=>by rw[hf];exact zfo_ br r p l d w h1 hp hd hR⟩
theorem z2c_ (f:LU) (i:Nat) (F:LL→DefS) (hF:∀ w1 v xs,DefAt w1 p d→Texts w1 v xs→DefAt (w1.setCell ⟨p,i,none⟩ v) p (F xs)) (hci:∀ vn vs vm vy,∃ v,(zn_ d vn vs vm vy)[i]?=some v)
  (hw:Env w) (hO:Off r) (h1:w.cell? ⟨br,0,none⟩=some (z7_ r)) (h2:w.cell? ⟨b1,0,none⟩=some (.pointer (some ⟨p,i,none⟩))) (hb:b1≠r) (hp:p≠r) (hd:DefAt w p d) (hf:∀ l,qg_ d f l=(jo_ [36] xp_ l).map fun x=>(F x.1,x.2)):
  zcg_ w r p d f (fnV 180 #[z7_ br,z7_ b1]):=
 ⟨_,_,rfl,fun _ _=>by kernel_rfl,fun l hR hs hl=>by
  rw[hf]
  obtain⟨vn,vs,vm,vy,hB⟩:=hd.bk
  obtain⟨v,hv⟩:=hci vn vs vm vy
  exact(zfn_ br b1 r p i l d v w hw hO h1 h2 hb hp hd ((hB.cell i).trans hv) hR hs hl).mono fun e w' h=>z95_ hd hR hp h F hF⟩
theorem zfr_ (hw:Env w) (hO:Off r) (h1:w.cell? ⟨br,0,none⟩=some (z7_ r)) (h2:w.cell? ⟨bd,0,none⟩=some (z7_ p)) (hb:bd≠r) (hp:p≠r) (hd:DefAt w p d) (hf:∀ l,qg_ d z6k_ l=(xp_ l).map fun x=>({d with sup:=[x.1]},x.2)):
  zcg_ w r p d z6k_ (fnV 186 #[z7_ br,z7_ bd]):=
 ⟨_,_,rfl,fun _ _=>by kernel_rfl,fun l hR hs _=>by rw[hf];exact zk4_ br bd r p l d w hw hO h1 h2 hb hp hd hR hs⟩
theorem z1o_ (f:LU) (i:Nat) (k:Int) (b:Nat × Nat × Nat) (F:LU→DefS) (hF:∀ w1 x,DefAt w1 p d→DefAt (w1.setCell ⟨p,i,none⟩ (.string ⟨x.toArray⟩)) p (F x)) (hci:∀ vn vs vm vy,∃ v,(zn_ d vn vs vm vy)[i]?=some v)
  (hw:Env w) (hO:Off r) (hx:BoxRule w B r p i k b) (hr:r<B) (hpB:p<B) (hp:p≠r) (hd:DefAt w p d) (hf:∀ l,qg_ d f l=(z1t_ k l).map fun x=>(F x.1,x.2)):
  zcg_ w r p d f (fnV 231 #[z7_ b.1,z7_ b.2.1,z7_ b.2.2]):=
 ⟨_,_,rfl,fun _ _=>by kernel_rfl,fun l hR hs _=>by
  rw[hf]
  have:=hx.le
  exact zfw_ b.1 b.2.1 b.2.2 r p i k l d w hw hO hx.cr hx.ct hx.ck (by omega) (by omega) (by omega) hp hd hci hR hs F hF⟩
theorem z7y_ (hw:Env w) (hO:Off r) (h1:w.cell? ⟨br,0,none⟩=some (z7_ r)) (h2:w.cell? ⟨bd,0,none⟩=some (z7_ p)) (hb:bd≠r) (hp:p≠r) (hd:DefAt w p d) (hf:∀ l,qg_ d xm_ l=(match ze_ l with
  |none=>none
  |some (s,t)=>if z44_ s==0 then some ({d with form:=z4d_ s},t) else none)):
  zcg_ w r p d xm_ (fnV 188 #[z7_ br,z7_ bd]):=
 ⟨_,_,rfl,fun _ _=>by kernel_rfl,fun l hR hs _=>by rw[hf];exact zak_ br bd r p l d w hw hO h1 h2 hb hp hd hR hs⟩
theorem zax_ (hw:Env w) (hO:Off r) (h1:w.cell? ⟨br,0,none⟩=some (z7_ r)) (h2:w.cell? ⟨bd,0,none⟩=some (z7_ p)) (hb:bd≠r) (hbp:bd≠p) (hp:p≠r) (hd:DefAt w p d) (hf:∀ l,qg_ d kf_ l=(match ze_ l with
  |none=>none
  |some (s,t)=>if s==zb_||s==zl_ then some ({d with oper:=s==zb_},t) else none)):
  zcg_ w r p d kf_ (fnV 191 #[z7_ br,z7_ bd]):=
 ⟨_,_,rfl,fun _ _=>by kernel_rfl,fun l hR hs _=>by rw[hf];exact zei_ br bd r p l d w hw hO h1 h2 hb hbp hp hd hR hs⟩
theorem z5q_ (f:LU) (i:Nat) (d':DefS) (v0:Bool) (hs:∀ w1,DefAt w1 p d→DefAt (w1.setCell ⟨p,i,none⟩ (.bool true)) p d') (hci:∀ vn vs vm vy,(zn_ d vn vs vm vy)[i]?=some (.bool v0)) (h1:w.cell? ⟨br,0,none⟩=some (.pointer (some ⟨p,i,none⟩))) (hp:p≠r) (hd:DefAt w p d) (hf:∀ l,qg_ d f l=some (d',l)):
  zcg_ w r p d f (fnV 234 #[z7_ br]):=
 ⟨_,_,rfl,fun _ _=>by kernel_rfl,fun l hR _ _=>by
  rw[hf]
  obtain⟨vn,vs,vm,vy,hB⟩:=hd.bk
  exact zfj_ br r p i l d d' v0 w h1 hp hd hR ((hB.cell i).trans (hci _ _ _ _)) (hs w hd)⟩
end
theorem doC {w:World} {B r p br bd b1 b2 b3:Nat} {d:DefS} (hw:Env w) (hO:Off r) (hx:BoxC w B r p br bd b1 b2 b3) (hr:r<B) (hpB:p<B) (hp:p≠r) (hd:DefAt w p d) (hc:d.cls=true) {f:LU} (hf:f∈wordsC):
  ∃ v,qe_ (z7g_ br bd b1 b2 b3) f=some v∧zcg_ w r p d f v:=by
 have hle:=hx.le
 have hfl:∀ f l,qg_ d f l=z5z_ d f l:=fun f l=>by unfold qg_;rw[if_pos hc]
 rcases List.mem_cons.1 hf with rfl|hf
 ·exact⟨_,rfl,z6g_ hw hO hx.r hx.d (by omega) hp hd (fun l=>(hfl _ l).trans rfl)⟩
 rcases List.mem_cons.1 hf with rfl|hf
 ·exact⟨_,rfl,z79_ hx.r hp hd (fun l=>(hfl _ l).trans rfl)⟩
 rcases List.mem_cons.1 hf with rfl|hf
 ·exact⟨_,rfl,z2c_ z6k_ 3 (fun xs=>{d with sup:=xs}) (fun w1 v xs h1 h2=>zf5_ h1 h2) (fun _ _ _ _=>⟨_,rfl⟩) hw hO hx.r hx.c1 (by omega) hp hd (fun l=>(hfl _ l).trans rfl)⟩
 rcases List.mem_cons.1 hf with rfl|hf
 ·exact⟨_,rfl,z2c_ z7f_ 4 (fun xs=>{d with must:=xs}) (fun w1 v xs h1 h2=>zgx_ h1 h2) (fun _ _ _ _=>⟨_,rfl⟩) hw hO hx.r hx.c2 (by omega) hp hd (fun l=>(hfl _ l).trans rfl)⟩
 rcases List.mem_cons.1 hf with rfl|hf
 ·exact⟨_,rfl,z2c_ zjr_ 5 (fun xs=>{d with may:=xs}) (fun w1 v xs h1 h2=>zj5_ h1 h2) (fun _ _ _ _=>⟨_,rfl⟩) hw hO hx.r hx.c3 (by omega) hp hd (fun l=>(hfl _ l).trans rfl)⟩
 cases hf
theorem doA {w:World} {B r p br bd:Nat} {e o s:Nat × Nat × Nat} {f1 f2:Nat} {d:DefS} (hw:Env w) (hO:Off r) (hx:BoxA w B r p br bd e o s f1 f2) (hr:r<B) (hpB:p<B) (hp:p≠r) (hd:DefAt w p d) (hc:d.cls=false) {f:LU} (hf:f∈wordsA):
  ∃ v,qe_ (z7t_ br bd e o s f1 f2) f=some v∧zcg_ w r p d f v:=by
 have hle:=hx.le
 have hfl:∀ f l,qg_ d f l=z65_ d f l:=fun f l=>by unfold qg_;rw[if_neg (by rw[hc];simp)]
 rcases List.mem_cons.1 hf with rfl|hf
 ·exact⟨_,rfl,z6g_ hw hO hx.cr hx.cd (by omega) hp hd (fun l=>(hfl _ l).trans rfl)⟩
 rcases List.mem_cons.1 hf with rfl|hf
 ·exact⟨_,rfl,z79_ hx.cr hp hd (fun l=>(hfl _ l).trans rfl)⟩
 rcases List.mem_cons.1 hf with rfl|hf
 ·exact⟨_,rfl,zfr_ hw hO hx.cr hx.cd (by omega) hp hd (fun l=>(hfl _ l).trans rfl)⟩
 rcases List.mem_cons.1 hf with rfl|hf
 ·exact⟨_,rfl,z1o_ qz_ 7 0 e (fun x=>{d with eqr:=x}) (fun w1 x h1=>zk1_ h1 x) (fun _ _ _ _=>⟨_,rfl⟩) hw hO hx.ce hr hpB hp hd (fun l=>(hfl _ l).trans rfl)⟩
 rcases List.mem_cons.1 hf with rfl|hf
 ·exact⟨_,rfl,z1o_ j1_ 8 1 o (fun x=>{d with ordr:=x}) (fun w1 x h1=>zhd_ h1 x) (fun _ _ _ _=>⟨_,rfl⟩) hw hO hx.co hr hpB hp hd (fun l=>(hfl _ l).trans rfl)⟩
 rcases List.mem_cons.1 hf with rfl|hf
 ·exact⟨_,rfl,z1o_ ye_ 9 2 s (fun x=>{d with subs:=x}) (fun w1 x h1=>zfd_ h1 x) (fun _ _ _ _=>⟨_,rfl⟩) hw hO hx.cs hr hpB hp hd (fun l=>(hfl _ l).trans rfl)⟩
 rcases List.mem_cons.1 hf with rfl|hf
 ·exact⟨_,rfl,z7y_ hw hO hx.cr hx.cd (by omega) hp hd (fun l=>(hfl _ l).trans rfl)⟩
 rcases List.mem_cons.1 hf with rfl|hf
 ·exact⟨_,rfl,z5q_ q2_ 10 {d with single:=true} d.single (fun w1 h1=>za6_ h1 true) (fun _ _ _ _=>rfl) hx.c1 hp hd (fun l=>(hfl _ l).trans rfl)⟩
 rcases List.mem_cons.1 hf with rfl|hf
 ·exact⟨_,rfl,z5q_ zh_ 11 {d with fixed:=true} d.fixed (fun w1 h1=>zc4_ h1 true) (fun _ _ _ _=>rfl) hx.c2 hp hd (fun l=>(hfl _ l).trans rfl)⟩
 rcases List.mem_cons.1 hf with rfl|hf
 ·exact⟨_,rfl,zax_ hw hO hx.cr hx.cd (by omega) (by omega) hp hd (fun l=>(hfl _ l).trans rfl)⟩
 cases hf
def zh7_ (w:World) (r p:Nat) (d:DefS) (f:LU) (e:Ending) (w':World):Prop:=
 ∃ m v,e= .returned (.map (some m))∧Bel w w'∧(Instr.lookup 165 (.map (some m)) (.string ⟨f.toArray⟩) true).run Tryz.prog w'= .ok (.tuple #[v,.bool (xw_ d.cls f)]) w'∧(xw_ d.cls f=true→zcg_ w' r p d f v)
theorem k8_ (r p:Nat) (d:DefS) (f:LU) (w:World) (hw:Env w) (hO:Off r) (hr:r<w.heap.size) (hp:p≠r) (hd:DefAt w p d):
  Calls Tryz.prog 115 #[z7_ p,z7_ r] w (zh7_ w r p d f):=by
 cases hc:d.cls
 ·refine(zda_ r p d w hd hc).mono ?_
  rintro e w' ⟨m,es,c,br,bd,eb,ob,sb,f1,f2,rfl,hm,hx,hb⟩
  have hl:=zcr_ (f:=f) hm
  have hi:(qe_ (z7t_ br bd eb ob sb f1 f2) f).isSome=xw_ d.cls f:=by rw[z4c_,hc];rfl
  rw[hi] at hl
  refine⟨m,_,rfl,hb,hl,fun h=>?_⟩
  have hf:f∈wordsA:=by rw[hc] at h;simpa [xw_] using h
  obtain⟨v,hv,hdo⟩:=doA (hw.keep hb) hO hx hr hd.lt hp (hd.below hb) hc hf
  rw[hv]
  exact hdo
 ·refine(zeb_ r p d w hd hc).mono ?_
  rintro e w' ⟨m,es,c,br,bd,b1,b2,b3,rfl,hm,hx,hb⟩
  have hl:=zcr_ (f:=f) hm
  have hi:(qe_ (z7g_ br bd b1 b2 b3) f).isSome=xw_ d.cls f:=by rw[z4c_,hc];rfl
  rw[hi] at hl
  refine⟨m,_,rfl,hb,hl,fun h=>?_⟩
  have hf:f∈wordsC:=by rw[hc] at h;simpa [xw_] using h
  obtain⟨v,hv,hdo⟩:=doC (hw.keep hb) hO hx hr hd.lt hp (hd.below hb) hc hf
  rw[hv]
  exact hdo
open Go.RowKit
theorem zgj_ {r:Int} (h:VR r) (h1:128≤r):∃ b:UInt8,128≤b.toNat∧((∃ x,Utf8.encode r=⟨#[x,b]⟩)∨(∃ x y,Utf8.encode r=⟨#[x,y,b]⟩)∨(∃ x y z,Utf8.encode r=⟨#[x,y,z,b]⟩)):=by
 have mk:∀ l:LU,kc_ r=l→Utf8.encode r=⟨l.toArray⟩:=by
  intro l hl
  rw[← zk0_,hl]
 rcases zc3_ h with ⟨a1,a2,e⟩|⟨a1,a2,e⟩|⟨a1,a2,e⟩|⟨a1,a2,e⟩
 ·omega
 ·exact⟨_,by rw[ofN (by omega)];omega,.inl ⟨_,mk _ e⟩⟩
 ·exact⟨_,by rw[ofN (by omega)];omega,.inr (.inl ⟨_,_,mk _ e⟩)⟩
 ·exact⟨_,by rw[ofN (by omega)];omega,.inr (.inr ⟨_,_,_,mk _ e⟩)⟩
theorem zh3_ {l:LU} {b:UInt8} (hb:128≤b.toNat) (h:l.all (fun c=>decide (c.toNat<128))=true):Lib.indexByte l b= -1:=by
 apply z77_
 rw[← Bool.not_eq_true,List.contains_iff_mem]
 intro hm
 have:=List.all_eq_true.1 h b hm
 simp at this
 omega
theorem z4v_ (w:World):
  Calls Tryz.prog 224 #[.string ⟨stopCs.toArray⟩,.int .i32 65533] w fun e w'=>e= .returned (.int .i64 (-1))∧Bel w w':=by
 unfold stopCs
 go_enter Tryz.func224,Tryz.ntmps224
 go_wp2_with fail
 go_loopg [5,6] 8 (fun gk _ _ wx=>∃ i:Nat,i≤8∧Aside (i+gk=8)∧Aside (wx=w.iter ⟨#[32,9,10,13,40,41,36,39]⟩ i))
 case atStart=>exact⟨0,by omega,by show _=_;omega,rfl⟩
 case round=>
  obtain⟨i,hi8,AG,AW⟩:=hrel
  obtain rfl:wr=w.iter ⟨#[32,9,10,13,40,41,36,39]⟩ i:=AW.out
  by_cases hlt:i<8
  ·obtain⟨q,rfl⟩:∃ q,gk=q+1:=⟨gk - 1,by have:=AG.out;omega⟩
   have hi:i<(⟨#[32,9,10,13,40,41,36,39]⟩:ByteArray).size:=hlt
   have hx128:((⟨#[32,9,10,13,40,41,36,39]⟩:ByteArray)[i]'hi).toNat<128:=by
    have:∀ j:Fin 8,((⟨#[32,9,10,13,40,41,36,39]⟩:ByteArray)[j.val]'j.isLt).toNat<128:=by decide
    exact this ⟨i,hlt⟩
   have hnx:=fun ty=>run_next_ascii (P:=Tryz.prog) w ⟨#[32,9,10,13,40,41,36,39]⟩ i ty hi hx128
   generalize ((⟨#[32,9,10,13,40,41,36,39]⟩:ByteArray)[i]'hi).toNat=x at *
   have hz:((x:Int)==65533)=false:=by rw[beq_eq_false_iff_ne];omega
   go_wp2_with fail
   go_roundg q
   case measure=>omega
   case rel=>exact⟨i+1,by omega,by have:=AG.out;show _=_;omega,rfl⟩
  ·obtain rfl:i=8:=by omega
   have hnx:=fun ty=>run_next_end (P:=Tryz.prog) w ⟨#[32,9,10,13,40,41,36,39]⟩ 8 ty (by decide)
   go_wp2_with fail
   go_ret
   exact⟨rfl,(bR _ _).alloc (nR _) _⟩
theorem z2m_ (r:Int) (w:World) (hr:VR r) (h1:128≤r) (h2:r≠65533):
  Calls Tryz.prog 224 #[.string ⟨stopCs.toArray⟩,.int .i32 r] w fun e w'=>e= .returned (.int .i64 (-1))∧Bel w w':=by
 have hv:Lib.validRune r=true:=by unfold Lib.validRune;unfold VR at hr;simp;omega
 have hz:(r==65533)=false:=beq_eq_false_iff_ne.2 h2
 have h0:0≤r:=by omega
 have h128:¬ r<128:=by omega
 unfold stopCs
 clear h2
 go_enter Tryz.func224,Tryz.ntmps224
 go_wp2_with (go_at_call 261;refine(Tryz.utf8_ValidRune _ _).mono ?_;rintro e w' ⟨rfl,rfl⟩;rw[hv])
 go_step3
 go_wp2_with fail
 obtain⟨b,hb,hE⟩:=zgj_ hr h1
 have HI:∀ (l:LU) W,l.all (fun c=>decide (c.toNat<128))=true→Calls Tryz.prog 175 #[.string ⟨l.toArray⟩,.int .u8 b.toNat] W fun e w'=>e= .returned (.int .i64 (-1))∧w'=W:=fun l W hl=>(zq_ l b W).mono fun e w' ⟨he,hw⟩=>⟨by rw[he,zh3_ hb hl],hw.symm⟩
 have HH:=hiD HI
 have n9:((9:Int) !=(b.toNat:Int))=true:=by rw[bne_iff_ne];omega
 have n10:((10:Int) !=(b.toNat:Int))=true:=by rw[bne_iff_ne];omega
 have n13:((13:Int) !=(b.toNat:Int))=true:=by rw[bne_iff_ne];omega
 have hext:=z0x_
 have hget:=qb_
 clear HI hr h1 hz h0 h128 hv hb
 rcases hE with ⟨x,e⟩|⟨x,y,e⟩|⟨x,y,z,e⟩
 ·rw[e]
  clear e
  rw[show wrap64 (((⟨#[x,b]⟩:ByteArray).size:Int) - 1)=1 from (show wrap64 ((2:Int) - 1)=1 by simp [wrap64])]
  go_loopg [9,10] 1 (fun gk t f wx=>t= .int .i64 1∧f= .int .i64 0∧Aside (wx=w'))
  case atStart=>exact⟨rfl,rfl,rfl⟩
  case round=>
   obtain⟨rfl,rfl,AW⟩:=hrel
   obtain rfl:wr=w':=AW.out
   go_wp2_with fail
   go_step3
   go_wp2_with fail
   go_quiet (fail)
   have hB2:Bel wr (wr.drewN nq):=z0_ (bR _ _) nq
   generalize wr.drewN nq=w2 at *
   go_wp2_with fail
   go_quiet ((go_at_call 175;exact Calls.quiet_of_same (HH.out _ _ (by decide))))
   have hB3:=z0_ hB2 nq
   go_wp2_with fail
   rw[Exit.noGoto_ret]
   simp only[Exit.inBlock,Exit.then]
   rw[Exit.noGoto_ret]
   try simp only[Exit.inBlock,Exit.then]
   go_ret
   exact⟨rfl,hB3⟩
 ·rw[e]
  clear e
  rw[show wrap64 (((⟨#[x,y,b]⟩:ByteArray).size:Int) - 1)=2 from (show wrap64 ((3:Int) - 1)=2 by simp [wrap64])]
  go_loopg [9,10] 1 (fun gk t f wx=>t= .int .i64 2∧f= .int .i64 0∧Aside (wx=w'))
  case atStart=>exact⟨rfl,rfl,rfl⟩
  case round=>
   obtain⟨rfl,rfl,AW⟩:=hrel
   obtain rfl:wr=w':=AW.out
   go_wp2_with fail
   go_step3
   go_wp2_with fail
   go_quiet (fail)
   have hB2:Bel wr (wr.drewN nq):=z0_ (bR _ _) nq
   generalize wr.drewN nq=w2 at *
   go_wp2_with fail
   go_quiet ((go_at_call 175;exact Calls.quiet_of_same (HH.out _ _ (by decide))))
   have hB3:=z0_ hB2 nq
   go_wp2_with fail
   rw[Exit.noGoto_ret]
   simp only[Exit.inBlock,Exit.then]
   rw[Exit.noGoto_ret]
   try simp only[Exit.inBlock,Exit.then]
   go_ret
   exact⟨rfl,hB3⟩
 ·rw[e]
  clear e
  rw[show wrap64 (((⟨#[x,y,z,b]⟩:ByteArray).size:Int) - 1)=3 from (show wrap64 ((4:Int) - 1)=3 by simp [wrap64])]
  go_loopg [9,10] 1 (fun gk t f wx=>t= .int .i64 3∧f= .int .i64 0∧Aside (wx=w'))
  case atStart=>exact⟨rfl,rfl,rfl⟩
  case round=>
   obtain⟨rfl,rfl,AW⟩:=hrel
   obtain rfl:wr=w':=AW.out
   go_wp2_with fail
   go_step3
   go_wp2_with fail
   go_quiet (fail)
   have hB2:Bel wr (wr.drewN nq):=z0_ (bR _ _) nq
   generalize wr.drewN nq=w2 at *
   go_wp2_with fail
   go_quiet ((go_at_call 175;exact Calls.quiet_of_same (HH.out _ _ (by decide))))
   have hB3:=z0_ hB2 nq
   go_wp2_with fail
   rw[Exit.noGoto_ret]
   simp only[Exit.inBlock,Exit.then]
   rw[Exit.noGoto_ret]
   try simp only[Exit.inBlock,Exit.then]
   go_ret
   exact⟨rfl,hB3⟩
open Go.RowKit
def IdxFrom (l:LU) (k:Nat):Prop:=Lib.indexAny l stopCs=if Lib.indexAny (l.drop k) stopCs= -1 then -1 else (k:Int)+Lib.indexAny (l.drop k) stopCs
theorem IdxFrom.zero (l:LU):IdxFrom l 0:=by
 unfold IdxFrom
 rw[List.drop_zero]
 split
 ·next h=>exact h
 ·simp
theorem z9w_ (b:UInt8) (l:LU):Lib.indexAny (b::l) stopCs=if stopCs.contains b then 0 else if Lib.indexAny l stopCs= -1 then -1 else Lib.indexAny l stopCs+1:=by
 rw[Lib.indexAny]
 split
 ·rfl
 ·simp only[beq_iff_eq]
theorem IdxFrom.one {l:LU} {k:Nat} (h:IdxFrom l k) (hk:k<l.length) (hn:stopCs.contains l[k]=false):IdxFrom l (k+1):=by
 unfold IdxFrom at h ⊢
 rw[List.drop_eq_getElem_cons hk,z9w_,hn] at h
 have hg:=Lib.indexAny_ge stopCs (l.drop (k+1))
 simp only[Bool.false_eq_true,if_false] at h
 generalize Lib.indexAny (l.drop (k+1)) stopCs=z at *
 by_cases h1:z= -1
 ·simp only[h1,if_true] at h ⊢
  exact h
 ·rw[if_neg h1,if_neg (by omega)] at h
  rw[if_neg h1,h]
  push_cast
  omega
theorem IdxFrom.more {l:LU} {k:Nat} (h:IdxFrom l k):∀ n,k+n≤l.length→(∀ j (hj:j<l.length),k≤j→j<k+n→stopCs.contains l[j]=false)→IdxFrom l (k+n)
 |0,_,_=>h
 |n+1,hn,hs=>(IdxFrom.more h n (by omega) (fun j hj h1 h2=>hs j hj h1 (by omega))).one (by omega) (hs (k+n) (by omega) (by omega) (by omega))
theorem IdxFrom.hit {l:LU} {k:Nat} (h:IdxFrom l k) (hk:k<l.length) (hn:stopCs.contains l[k]=true):Lib.indexAny l stopCs=k:=by
 unfold IdxFrom at h
 rw[List.drop_eq_getElem_cons hk,z9w_,hn] at h
 simpa using h
theorem IdxFrom.none {l:LU} (h:IdxFrom l l.length):Lib.indexAny l stopCs= -1:=by
 unfold IdxFrom at h
 rw[List.drop_length] at h
 exact h
theorem z84_ (l:LU) (h:128≤(l.getD 0 0).toNat):128≤(Lib.decodeL l).1∧∀ j,j<(Lib.decodeL l).2→128≤(l.getD j 0).toNat:=by
 have key:128≤(Lib.decodeL l).1∧(Lib.decodeL l).2≤4∧(1<(Lib.decodeL l).2→128≤(l.getD 1 0).toNat)∧(2<(Lib.decodeL l).2→128≤(l.getD 2 0).toNat)∧(3<(Lib.decodeL l).2→128≤(l.getD 3 0).toNat):=by
  rw[Lib.decodeL_N]
  generalize (l.getD 0 0).toNat=b0 at *
  generalize (l.getD 1 0).toNat=b1 at *
  generalize (l.getD 2 0).toNat=b2 at *
  generalize (l.getD 3 0).toNat=b3 at *
  unfold Lib.decodeN
  repeat' split
  all_goals dsimp only
  all_goals refine⟨?_,?_,?_,?_,?_⟩
  all_goals omega
 obtain⟨k1,k2,k3,k4,k5⟩:=key
 refine⟨k1,fun j hj=>?_⟩
 match j,hj with
 |0,_=>exact h
 |1,hj=>exact k3 hj
 |2,hj=>exact k4 hj
 |3,hj=>exact k5 hj
 |j+4,hj=>omega
theorem zdi_ (b:UInt8) (h:128≤b.toNat):stopCs.contains b=false:=by
 rw[← Bool.not_eq_true,List.contains_iff_mem]
 intro hm
 have:∀ c∈stopCs,c.toNat<128:=by decide
 have:=this b hm
 omega
theorem zdq_ (l:LU) (k:Nat) (hk:k<l.length) (h:IdxFrom l k):∃ z:Int,(∀ W,Calls Tryz.prog 224 #[.string ⟨#[32,9,10,13,40,41,36,39]⟩,.int .i32 ((Lib.decodeL (l.drop k)).1:Int)] W fun e w'=>e= .returned (.int .i64 z)∧Bel W w')∧
  ((0≤z∧Lib.indexAny l stopCs=k)∨(z<0∧IdxFrom l (k+(Lib.decodeL (l.drop k)).2))):=by
 have hd:l.drop k=l[k]::l.drop (k+1):=List.drop_eq_getElem_cons hk
 by_cases hb:l[k].toNat<128
 ·rw[hd,Lib.decodeL_ascii _ _ hb]
  simp only
  refine⟨Lib.indexByte stopCs l[k],fun W=>?_,?_⟩
  ·refine(Tryz.strings_IndexRune_ascii ⟨#[32,9,10,13,40,41,36,39]⟩ (l[k].toNat:Int) W (by omega) (by omega)).mono ?_
   rintro e w' ⟨rfl,rfl⟩
   exact⟨by simp [stopCs],bR _ _⟩
  ·have hm:=z4f_ stopCs l[k]
   cases hc:stopCs.contains l[k]
   ·right
    refine⟨?_,h.one hk hc⟩
    have:¬ 0≤Lib.indexByte stopCs l[k]:=by rw[hm];simpa using hc
    omega
   ·left
    exact⟨hm.2 (by simpa using hc),h.hit hk hc⟩
 ·have hg0:(l.drop k).getD 0 0=l[k]:=by rw[hd];rfl
  have hne:l.drop k≠[]:=by rw[hd];exact List.cons_ne_nil _ _
  obtain⟨d1,d2⟩:=z84_ (l.drop k) (by rw[hg0];omega)
  obtain⟨n1,n2,n3,n4⟩:=jx_ (l.drop k) hne
  have hV:=VR_of n4
  rw[List.length_drop] at n2
  refine⟨-1,fun W=>?_,.inr ⟨by omega,h.more _ (by omega) ?_⟩⟩
  ·by_cases he:((Lib.decodeL (l.drop k)).1:Int)=65533
   ·rw[he];exact z4v_ W
   ·exact z2m_ _ W hV (by omega) he
  ·intro j hj h1 h2
   apply zdi_
   have:=d2 (j - k) (by omega)
   have e:(l.drop k).getD (j - k) 0=l[j]:=by
    rw[List.getD_eq_getElem?_getD,List.getElem?_drop,show k+(j - k)=j by omega,List.getElem?_eq_getElem hj]
    rfl
   rw[e] at this
   exact this
theorem z2j_ (l:LU) (w:World) (h8:l.length≤8):
  Calls Tryz.prog 176 #[.string ⟨l.toArray⟩,.string ⟨#[32,9,10,13,40,41,36,39]⟩] w fun e w'=>e= .returned (.int .i64 (Lib.indexAny l stopCs))∧Bel w w':=by
 obtain⟨R,hR⟩:∃ R,Lib.indexAny l stopCs=R:=⟨_,rfl⟩
 rw[hR]
 have HR:=hiD hR
 clear hR
 have h8z:decide ((8:Int)<(l.length:Int))=false:=decide_eq_false (by omega)
 go_enter Tryz.func176,Tryz.ntmps176
 go_wp2_with (go_at_call 230;refine(Tryz.strings_shouldUseASCIISet _ _).mono ?_;rintro e w' ⟨rfl,rfl⟩;rw[h8z])
 go_loopg [9,10] l.length (fun gk _ _ wr=>∃ k:Nat,k≤l.length∧Aside (k+gk=l.length)∧Aside (wr.heap[w'.heap.size]?=some (.stringIter ⟨l.toArray⟩ k))∧Bel w' wr∧Aside (IdxFrom l k))
 case atStart=>exact⟨0,Nat.zero_le _,Nat.zero_add _,World.iter_heap _ _ _,(bR _ _).alloc (nR _) _,IdxFrom.zero l⟩
 case round=>
  obtain⟨k,hk,AG,AI,hB,AX⟩:=hrel
  by_cases hlt:k<l.length
  ·have hne:l.drop k≠[]:=by intro h;have:=congrArg List.length h;simp at this;omega
   obtain⟨hn1,hn2,_,_⟩:=jx_ _ hne
   have hd:=z32_ l k hlt
   have hnx:=fun ty=>Lib.run_next_any_at (P:=Tryz.prog) wr w'.heap.size ⟨l.toArray⟩ k ty AI.out hlt
   rw[hd] at hnx
   obtain⟨z,hI,hz⟩:=zdq_ l k hlt AX.out
   have HI:=hiD hI
   have AI':Aside ((wr.iterAt w'.heap.size ⟨l.toArray⟩ (k+(Lib.decodeL (l.drop k)).2)).heap[w'.heap.size]?=some (.stringIter ⟨l.toArray⟩ (k+(Lib.decodeL (l.drop k)).2))):=Lib.iterAt_heap _ _ _ _ _ AI.out
   have hB':Bel w' (wr.iterAt w'.heap.size ⟨l.toArray⟩ (k+(Lib.decodeL (l.drop k)).2)):=Lib.below_iterAt hB (nR _) _ _
   rw[List.length_drop] at hn2
   clear hd hne AX AI hI
   generalize (Lib.decodeL (l.drop k)).2=n at *
   generalize (((Lib.decodeL (l.drop k)).1:Nat):Int)=r at *
   generalize wr.iterAt w'.heap.size ⟨l.toArray⟩ (k+n)=W at *
   rcases hz with ⟨hz,hR⟩|⟨hz,hX⟩
   ·have hzb:decide (0≤z)=true:=decide_eq_true hz
    rw[HR.out] at hR
    subst hR
    go_wp2_with (go_at_call 224;refine(HI.out _).mono ?_;rintro e w2 ⟨rfl,hb2⟩)
    go_ret
    exact⟨rfl,tQ hB' hb2⟩
   ·have hz':¬ 0≤z:=by omega
    have hzb:decide (0≤z)=false:=decide_eq_false hz'
    have HX:=hiD hX
    have hlW:w'.heap.size<W.heap.size:=(Array.getElem?_eq_some_iff.1 AI'.out).1
    clear hX
    go_wp2_with (go_at_call 224;refine(HI.out _).mono ?_;rintro e w2 ⟨rfl,hb2⟩)
    go_roundg (gk - n)
    case measure=>have:=AG.out;omega
    case rel=>exact⟨k+n,by omega,by have:=AG.out;show _=_;omega,(hb2.block _ hlW).trans AI'.out,tQ hB' hb2,HX.out⟩
  ·obtain rfl:k=l.length:=by omega
   have hnx:=fun ty=>Lib.run_next_end_at (P:=Tryz.prog) wr w'.heap.size ⟨l.toArray⟩ l.length ty AI.out (by simp [ByteArray.size])
   have hx:=IdxFrom.none AX.out
   rw[HR.out] at hx
   subst hx
   go_wp2_with fail
   go_ret
   exact⟨rfl,hB⟩
theorem zbr_ (l:LU) (w:World) (hl:l.length<4294967281):
  Calls Tryz.prog 176 #[.string ⟨l.toArray⟩,.string ⟨#[32,9,10,13,40,41,36,39]⟩] w fun e w'=>e= .returned (.int .i64 (Lib.indexAny l stopCs))∧Bel w w':=by
 by_cases h8:l.length≤8
 ·exact z2j_ l w h8
 ·refine(Tryz.strings_IndexAny_long (zero_of_info (n:=256) (by kernel_rfl)).1 ⟨l.toArray⟩ ⟨#[32,9,10,13,40,41,36,39]⟩ w (by decide) (by show 8<l.toArray.size;simp;omega) (by show l.toArray.size<_;simpa using hl) (by decide) ?_).mono ?_
  ·intro j b hj
   have hb:b∈stopCs:=List.mem_of_getElem? hj
   have:∀ c∈stopCs,c.toNat<128:=by decide
   exact this b hb
  ·rintro e w' ⟨rfl,rfl⟩
   exact⟨rfl,((bR _ _).alloc (nR _) _).alloc (by simp) _⟩
end Go.Proofs.YtakfpngfpknedaaGreatDoor
