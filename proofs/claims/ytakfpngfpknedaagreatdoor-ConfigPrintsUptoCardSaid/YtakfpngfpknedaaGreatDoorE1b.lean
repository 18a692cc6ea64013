import Derived.Test.YtakfpngfpknedaaGreatDoorE1a
import Derived.Test.YtakfpngfpknedaaGreatDoorE18
import Derived.Lib.AppendIntMem
import Derived.Test.YtakfpngfpknedaaGreatDoorE13
import Derived.Stop.LaidErr
set_option linter.all false
set_option maxHeartbeats 8000000
set_option maxRecDepth 100000
set_option linter.all false
namespace Go.Proofs.YtakfpngfpknedaaGreatDoor
open Go.RowKit
structure Env9 (w:World):Prop where
 env:Env w
 tab : Lib.TabBelow Tryz.prog w.heap.size w "internal/strconv.uint64pow10" .u64 Lib.pow10Tab
theorem Env9.keep {w w':World} (h:Env9 w) (hb:Below w.heap.size w w'):Env9 w':=⟨h.env.keep hb,fun w2 h2=>h.tab w2 (hb.trans (h2.mono hb.size))⟩
theorem Itoa_c (n:Int) (w:World) (hw:Env9 w) (h0: -9223372036854775808≤n) (h1:n≤9223372036854775807):Calls Tryz.prog 33 #[.int .i64 n] w fun e w'=>e= .returned (.string ⟨(Lib.itoa n).toArray⟩)∧Below w.heap.size w w':=by
 refine(Tryz.strconv_Itoa n h0 h1 w hw.tab.here).mono ?_
 rintro e w' ⟨rfl,k,os,rfl⟩
 exact⟨rfl,Lib.below_grow _ _ (Nat.le_refl _) _ _⟩
section
variable {B p po bf:Nat} {w0 w:World} {c:Cfg.ConfE} {va vc vl vi vr vu:Value}
theorem Out2.low {B q n:Nat} {a w:World} (h:Out2 B q q a w) (hq:n≤q) (hB:n≤B):Below n a w:=⟨h.os,h.tape,h.output,h.size,fun k hk=>h.block k (by omega) (by omega) (by omega)⟩
theorem Out2.of_below {B q:Nat} {a w:World} (hb:Below a.heap.size a w) (hB:B≤a.heap.size):Out2 B q q a w:=⟨hb.os,hb.tape,hb.output,hb.size,fun k hk _ _=>hb.block k (by omega)⟩
set_option maxRecDepth 100000 in
theorem zfy_ (c:Cfg.ConfE) (v:Value) (w:World) (hw:Env9 w) (hC:ConfW w v c) (hl:Cfg.countE c≤4000) (hm:Cfg.Lim 2000000 c) (hz: -9223372036854775808≤c.size∧c.size≤9223372036854775807):
  Calls Tryz.prog 17 #[v] w fun e w'=>Below w.heap.size w w'∧∃ u,e= .returned u∧TextsA w' u (Cfg.printC c):=by
 obtain⟨va,vc,vl,vi,vr,vu,rfl,ta,tc,tl,ti,tr,tu⟩:=hC
 have hent:∀ (args:Array Value) (W:World),(callFunc 30 args).run Tryz.prog W= .ok (.enter 30 args) W:=fun _ _=>by kernel_rfl
 have hent2:∀ (args:Array Value) (W:World),(callFunc 31 args).run Tryz.prog W= .ok (.enter 31 args) W:=fun _ _=>by kernel_rfl
 have hent3:∀ (args:Array Value) (W:World),(callFunc 32 args).run Tryz.prog W= .ok (.enter 32 args) W:=fun _ _=>by kernel_rfl
 obtain⟨w1,hw1⟩:∃ w1,w1=w.alloc (.cells #[.string ⟨c.suffix.toArray⟩,.string ⟨c.root.toArray⟩,.string ⟨c.secret.toArray⟩,.int .i64 c.size,va,vc,vl,vi,.bool c.memberof,.bool c.audit,vr,vu] 25):=⟨_,rfl⟩
 obtain⟨w2,hw2⟩:∃ w2,w2=w1.alloc (.cells #[.slice none 0 0] 22):=⟨_,rfl⟩
 obtain⟨w3,hw3⟩:∃ w3,w3=w2.alloc (.cells #[.func (.func 30) #[] #[.pointer (some ⟨w.heap.size+1,0,none⟩)]] 75):=⟨_,rfl⟩
 have s1:w1.heap.size=w.heap.size+1:=by rw[hw1,World.size_alloc]
 have s2:w2.heap.size=w.heap.size+1+1:=by rw[hw2,World.size_alloc,s1]
 have s3:w3.heap.size=w.heap.size+3:=by rw[hw3,World.size_alloc,s2]
 have b1:Below w.heap.size w w1:=by rw[hw1];exact zs_ w _
 have b2:Below w.heap.size w w2:=by rw[hw2];exact b1.alloc b1.size _
 have b3:Below w.heap.size w w3:=by rw[hw3];exact b2.alloc b2.size _
 have kp:Bk w3 w.heap.size 25 (za_ c va vc vl vi vr vu):=by
  rw[hw3,hw2]
  refine Bk.alloc (Bk.alloc ?_ _) _
  rw[hw1]
  exact Bk.new w _ _
 have ko:Bk w3 (w.heap.size+1) 22 #[.slice none 0 0]:=by
  rw[hw3]
  refine Bk.alloc ?_ _
  rw[hw2,← s1]
  exact Bk.new w1 _ _
 have kf:Bk w3 (w.heap.size+1+1) 75 #[.func (.func 30) #[] #[.pointer (some ⟨w.heap.size+1,0,none⟩)]]:=by
  rw[hw3,← s2]
  exact Bk.new w2 _ _
 have hBel:∀ W,Out2 (w.heap.size+3) (w.heap.size+1) (w.heap.size+1) w3 W→Below w.heap.size w W:=fun W h=>b3.trans (h.low (by omega) (by omega))
 have hc:=hl
 unfold Cfg.countE at hc
 have h4:=hz
 obtain⟨L1,hL1⟩:∃ L,L=([]:List (List UInt8))++Cfg.line Cfg.wSuffix c.suffix:=⟨_,rfl⟩
 obtain⟨L2,hL2⟩:∃ L,L=L1++Cfg.line Cfg.wRoot c.root:=⟨_,rfl⟩
 obtain⟨L3,hL3⟩:∃ L,L=L2++Cfg.line Cfg.wSecret c.secret:=⟨_,rfl⟩
 obtain⟨L4,hL4⟩:∃ L,L=L3++Cfg.sizeL c.size:=⟨_,rfl⟩
 obtain⟨L5,hL5⟩:∃ L,L=L4++Cfg.lines Cfg.wAttr c.attrs:=⟨_,rfl⟩
 obtain⟨L6,hL6⟩:∃ L,L=L5++Cfg.lines Cfg.wClass c.classes:=⟨_,rfl⟩
 obtain⟨L7,hL7⟩:∃ L,L=L6++Cfg.lines Cfg.wAcl c.acls:=⟨_,rfl⟩
 obtain⟨L8,hL8⟩:∃ L,L=L7++Cfg.lines Cfg.wIndex (c.indexes.map Cfg.textI):=⟨_,rfl⟩
 obtain⟨L9,hL9⟩:∃ L,L=L8++Cfg.onL Cfg.wMember c.memberof:=⟨_,rfl⟩
 obtain⟨L10,hL10⟩:∃ L,L=L9++Cfg.onL Cfg.wAudit c.audit:=⟨_,rfl⟩
 obtain⟨L11,hL11⟩:∃ L,L=L10++Cfg.lines Cfg.wRef c.refs:=⟨_,rfl⟩
 obtain⟨L12,hL12⟩:∃ L,L=L11++Cfg.lines Cfg.wUnique c.unique:=⟨_,rfl⟩
 have n1:L1.length≤0+1:=by
  have:=z1d_ Cfg.wSuffix c.suffix
  rw[hL1,List.length_append]
  simp only[List.length_map,List.length_nil] at *
  omega
 have n2:L2.length≤L1.length+1:=by
  have:=z1d_ Cfg.wRoot c.root
  rw[hL2,List.length_append]
  omega
 have n3:L3.length≤L2.length+1:=by
  have:=z1d_ Cfg.wSecret c.secret
  rw[hL3,List.length_append]
  omega
 have n4:L4.length≤L3.length+1:=by
  have:=Cfg.sizeL_le c.size
  rw[hL4,List.length_append]
  omega
 have n5:L5.length≤L4.length+c.attrs.length:=by
  have:=j0_ Cfg.wAttr c.attrs
  rw[hL5,List.length_append]
  omega
 have n6:L6.length≤L5.length+c.classes.length:=by
  have:=j0_ Cfg.wClass c.classes
  rw[hL6,List.length_append]
  omega
 have n7:L7.length≤L6.length+c.acls.length:=by
  have:=j0_ Cfg.wAcl c.acls
  rw[hL7,List.length_append]
  omega
 have n8:L8.length≤L7.length+c.indexes.length:=by
  have:=j0_ Cfg.wIndex (c.indexes.map Cfg.textI)
  rw[hL8,List.length_append]
  simp only[List.length_map,List.length_nil] at *
  omega
 have n9:L9.length≤L8.length+1:=by
  have:=Cfg.onL_le Cfg.wMember c.memberof
  rw[hL9,List.length_append]
  omega
 have n10:L10.length≤L9.length+1:=by
  have:=Cfg.onL_le Cfg.wAudit c.audit
  rw[hL10,List.length_append]
  omega
 have n11:L11.length≤L10.length+c.refs.length:=by
  have:=j0_ Cfg.wRef c.refs
  rw[hL11,List.length_append]
  omega
 have n12:L12.length≤L11.length+c.unique.length:=by
  have:=j0_ Cfg.wUnique c.unique
  rw[hL12,List.length_append]
  omega
 have H0:Hid (∀ W,Out2 (w.heap.size+3) (w.heap.size+1) (w.heap.size+1) w3 W→OutL (w.heap.size+3) (w.heap.size+1) W ([]:List (List UInt8))→Calls Tryz.prog 30 #[.string ⟨#[115,117,102,102,105,120]⟩,.string ⟨c.suffix.toArray⟩,.pointer (some ⟨w.heap.size+1,0,none⟩)] W (fun e w'=>e= .returned (.tuple #[])∧Out2 (w.heap.size+3) (w.heap.size+1) (w.heap.size+1) w3 w'∧OutL (w.heap.size+3) (w.heap.size+1) w' L1)):=Lib.hid fun W hO hL=>(kx_ Cfg.wSuffix c.suffix hL (by first|omega|(simp only[List.length_nil];omega)) (by decide) (by have:=hm.suffix;omega)).mono (by rintro e w' ⟨he,h1,h2⟩;exact⟨he,hO.trans h1,by rw[hL1];exact h2⟩)
 have H1:Hid (∀ W,Out2 (w.heap.size+3) (w.heap.size+1) (w.heap.size+1) w3 W→OutL (w.heap.size+3) (w.heap.size+1) W L1→Calls Tryz.prog 30 #[.string ⟨#[114,111,111,116]⟩,.string ⟨c.root.toArray⟩,.pointer (some ⟨w.heap.size+1,0,none⟩)] W (fun e w'=>e= .returned (.tuple #[])∧Out2 (w.heap.size+3) (w.heap.size+1) (w.heap.size+1) w3 w'∧OutL (w.heap.size+3) (w.heap.size+1) w' L2)):=Lib.hid fun W hO hL=>(kx_ Cfg.wRoot c.root hL (by first|omega|(simp only[List.length_nil];omega)) (by decide) (by have:=hm.root;omega)).mono (by rintro e w' ⟨he,h1,h2⟩;exact⟨he,hO.trans h1,by rw[hL2];exact h2⟩)
 have H2:Hid (∀ W,Out2 (w.heap.size+3) (w.heap.size+1) (w.heap.size+1) w3 W→OutL (w.heap.size+3) (w.heap.size+1) W L2→Calls Tryz.prog 30 #[.string ⟨#[115,101,99,114,101,116]⟩,.string ⟨c.secret.toArray⟩,.pointer (some ⟨w.heap.size+1,0,none⟩)] W (fun e w'=>e= .returned (.tuple #[])∧Out2 (w.heap.size+3) (w.heap.size+1) (w.heap.size+1) w3 w'∧OutL (w.heap.size+3) (w.heap.size+1) w' L3)):=Lib.hid fun W hO hL=>(kx_ Cfg.wSecret c.secret hL (by first|omega|(simp only[List.length_nil];omega)) (by decide) (by have:=hm.secret;omega)).mono (by rintro e w' ⟨he,h1,h2⟩;exact⟨he,hO.trans h1,by rw[hL3];exact h2⟩)
 have HIt:Hid (∀ W,Out2 (w.heap.size+3) (w.heap.size+1) (w.heap.size+1) w3 W→Calls Tryz.prog 33 #[.int .i64 c.size] W fun e w'=>e= .returned (.string ⟨(Lib.itoa c.size).toArray⟩)∧Out2 (w.heap.size+3) (w.heap.size+1) (w.heap.size+1) w3 w'∧Below W.heap.size W w'):=Lib.hid fun W hO=>(Itoa_c c.size W (hw.keep (hBel W hO)) hz.1 hz.2).mono (by rintro e w' ⟨he,hb⟩;exact⟨he,hO.trans (Out2.of_below hb (by have:=hO.size;omega)),hb⟩)
 have H3:Hid (c.size≠0→∀ W,Out2 (w.heap.size+3) (w.heap.size+1) (w.heap.size+1) w3 W→OutL (w.heap.size+3) (w.heap.size+1) W L3→Calls Tryz.prog 30 #[.string ⟨#[115,105,122,101]⟩,.string ⟨(Lib.itoa c.size).toArray⟩,.pointer (some ⟨w.heap.size+1,0,none⟩)] W (fun e w'=>e= .returned (.tuple #[])∧Out2 (w.heap.size+3) (w.heap.size+1) (w.heap.size+1) w3 w'∧OutL (w.heap.size+3) (w.heap.size+1) w' L4)):=Lib.hid fun h0 W hO hL=>(kx_ Cfg.wSize (Lib.itoa c.size) hL (by omega) (by decide) (by have:=Cfg.itoa_long c.size hz.1 hz.2;omega)).mono (by rintro e w' ⟨he,h1,h2⟩;exact⟨he,hO.trans h1,by rw[hL4];unfold Cfg.sizeL;rw[if_neg h0];exact h2⟩)
 have HZ0:Hid (c.size=0→L4=L3):=Lib.hid fun h0=>by rw[hL4];unfold Cfg.sizeL;rw[if_pos h0,List.append_nil]
 have H4:Hid (∀ W,Out2 (w.heap.size+3) (w.heap.size+1) (w.heap.size+1) w3 W→OutL (w.heap.size+3) (w.heap.size+1) W L4→Calls Tryz.prog 31 #[.string ⟨#[97,116,116,114]⟩,va,.pointer (some ⟨w.heap.size+1+1,0,none⟩)] W (fun e w'=>e= .returned (.tuple #[])∧Out2 (w.heap.size+3) (w.heap.size+1) (w.heap.size+1) w3 w'∧OutL (w.heap.size+3) (w.heap.size+1) w' L5)):=Lib.hid fun W hO hL=>(vm_ Cfg.wAttr c.attrs va (w.heap.size+1+1) (hO.bk kf (by omega) (by omega) (by omega)) ⟨by omega,by omega⟩ (fun W' hW=>ta.below (hBel W' (hO.trans hW))) hL (by omega) (by decide) (fun a ha=>by have:=hm.attrs a ha;omega)).mono (by rintro e w' ⟨he,h1,h2⟩;exact⟨he,hO.trans h1,by rw[hL5];exact h2⟩)
 have H5:Hid (∀ W,Out2 (w.heap.size+3) (w.heap.size+1) (w.heap.size+1) w3 W→OutL (w.heap.size+3) (w.heap.size+1) W L5→Calls Tryz.prog 31 #[.string ⟨#[99,108,97,115,115]⟩,vc,.pointer (some ⟨w.heap.size+1+1,0,none⟩)] W (fun e w'=>e= .returned (.tuple #[])∧Out2 (w.heap.size+3) (w.heap.size+1) (w.heap.size+1) w3 w'∧OutL (w.heap.size+3) (w.heap.size+1) w' L6)):=Lib.hid fun W hO hL=>(vm_ Cfg.wClass c.classes vc (w.heap.size+1+1) (hO.bk kf (by omega) (by omega) (by omega)) ⟨by omega,by omega⟩ (fun W' hW=>tc.below (hBel W' (hO.trans hW))) hL (by omega) (by decide) (fun a ha=>by have:=hm.classes a ha;omega)).mono (by rintro e w' ⟨he,h1,h2⟩;exact⟨he,hO.trans h1,by rw[hL6];exact h2⟩)
 have H6:Hid (∀ W,Out2 (w.heap.size+3) (w.heap.size+1) (w.heap.size+1) w3 W→OutL (w.heap.size+3) (w.heap.size+1) W L6→Calls Tryz.prog 31 #[.string ⟨#[97,99,108]⟩,vl,.pointer (some ⟨w.heap.size+1+1,0,none⟩)] W (fun e w'=>e= .returned (.tuple #[])∧Out2 (w.heap.size+3) (w.heap.size+1) (w.heap.size+1) w3 w'∧OutL (w.heap.size+3) (w.heap.size+1) w' L7)):=Lib.hid fun W hO hL=>(vm_ Cfg.wAcl c.acls vl (w.heap.size+1+1) (hO.bk kf (by omega) (by omega) (by omega)) ⟨by omega,by omega⟩ (fun W' hW=>tl.below (hBel W' (hO.trans hW))) hL (by omega) (by decide) (fun a ha=>by have:=hm.acls a ha;omega)).mono (by rintro e w' ⟨he,h1,h2⟩;exact⟨he,hO.trans h1,by rw[hL7];exact h2⟩)
 have H7:Hid (∀ (x:Cfg.IndexE) (k:Nat),x.typ.length≤2000000→k≤c.indexes.length→∀ W,Out2 (w.heap.size+3) (w.heap.size+1) (w.heap.size+1) w3 W→OutL (w.heap.size+3) (w.heap.size+1) W (L7++Cfg.lines Cfg.wIndex ((c.indexes.take k).map Cfg.textI))→Calls Tryz.prog 30 #[.string ⟨#[105,110,100,101,120]⟩,.string ⟨(Cfg.textI x).toArray⟩,.pointer (some ⟨w.heap.size+1,0,none⟩)] W (fun e w'=>e= .returned (.tuple #[])∧Out2 (w.heap.size+3) (w.heap.size+1) (w.heap.size+1) w3 w'∧OutL (w.heap.size+3) (w.heap.size+1) w' ((L7++Cfg.lines Cfg.wIndex ((c.indexes.take k).map Cfg.textI))++Cfg.line Cfg.wIndex (Cfg.textI x)))):=Lib.hid fun x k hx hk W hO hL=>(kx_ Cfg.wIndex (Cfg.textI x) hL (by have:=j0_ Cfg.wIndex ((c.indexes.take k).map Cfg.textI);rw[List.length_map,List.length_take] at this;rw[List.length_append];omega) (by decide) (by have:=Cfg.textI_long x;omega)).mono (by rintro e w' ⟨he,h1,h2⟩;exact⟨he,hO.trans h1,h2⟩)
 have HTx:Hid (∀ (x:Cfg.IndexE),x.typ.length≤2000000→∀ W,Out2 (w.heap.size+3) (w.heap.size+1) (w.heap.size+1) w3 W→Calls Tryz.prog 34 #[.agg #[.string ⟨x.typ.toArray⟩,.bool x.eq,.bool x.pres,.bool x.sub]] W fun e w'=>e= .returned (.string ⟨(Cfg.textI x).toArray⟩)∧Out2 (w.heap.size+3) (w.heap.size+1) (w.heap.size+1) w3 w'∧Below W.heap.size W w'):=Lib.hid fun x hx W hO=>(z1s_ x W (hw.keep (hBel W hO)).env (by omega)).mono (by rintro e w' ⟨he,hb⟩;exact⟨he,hO.trans (Out2.of_below hb (by have:=hO.size;omega)),hb⟩)
 have H8:Hid (∀ W,Out2 (w.heap.size+3) (w.heap.size+1) (w.heap.size+1) w3 W→OutL (w.heap.size+3) (w.heap.size+1) W L8→Calls Tryz.prog 32 #[.string ⟨#[109,101,109,98,101,114,111,102]⟩,.bool c.memberof,.pointer (some ⟨w.heap.size+1+1,0,none⟩)] W (fun e w'=>e= .returned (.tuple #[])∧Out2 (w.heap.size+3) (w.heap.size+1) (w.heap.size+1) w3 w'∧OutL (w.heap.size+3) (w.heap.size+1) w' L9)):=Lib.hid fun W hO hL=>(z9r_ Cfg.wMember c.memberof (w.heap.size+1+1) (hO.bk kf (by omega) (by omega) (by omega)) hL (by omega) (by decide)).mono (by rintro e w' ⟨he,h1,h2⟩;exact⟨he,hO.trans h1,by rw[hL9];exact h2⟩)
 have H9:Hid (∀ W,Out2 (w.heap.size+3) (w.heap.size+1) (w.heap.size+1) w3 W→OutL (w.heap.size+3) (w.heap.size+1) W L9→Calls Tryz.prog 32 #[.string ⟨#[97,117,100,105,116]⟩,.bool c.audit,.pointer (some ⟨w.heap.size+1+1,0,none⟩)] W (fun e w'=>e= .returned (.tuple #[])∧Out2 (w.heap.size+3) (w.heap.size+1) (w.heap.size+1) w3 w'∧OutL (w.heap.size+3) (w.heap.size+1) w' L10)):=Lib.hid fun W hO hL=>(z9r_ Cfg.wAudit c.audit (w.heap.size+1+1) (hO.bk kf (by omega) (by omega) (by omega)) hL (by omega) (by decide)).mono (by rintro e w' ⟨he,h1,h2⟩;exact⟨he,hO.trans h1,by rw[hL10];exact h2⟩)
 have H10:Hid (∀ W,Out2 (w.heap.size+3) (w.heap.size+1) (w.heap.size+1) w3 W→OutL (w.heap.size+3) (w.heap.size+1) W L10→Calls Tryz.prog 31 #[.string ⟨#[114,101,102]⟩,vr,.pointer (some ⟨w.heap.size+1+1,0,none⟩)] W (fun e w'=>e= .returned (.tuple #[])∧Out2 (w.heap.size+3) (w.heap.size+1) (w.heap.size+1) w3 w'∧OutL (w.heap.size+3) (w.heap.size+1) w' L11)):=Lib.hid fun W hO hL=>(vm_ Cfg.wRef c.refs vr (w.heap.size+1+1) (hO.bk kf (by omega) (by omega) (by omega)) ⟨by omega,by omega⟩ (fun W' hW=>tr.below (hBel W' (hO.trans hW))) hL (by omega) (by decide) (fun a ha=>by have:=hm.refs a ha;omega)).mono (by rintro e w' ⟨he,h1,h2⟩;exact⟨he,hO.trans h1,by rw[hL11];exact h2⟩)
 have H11:Hid (∀ W,Out2 (w.heap.size+3) (w.heap.size+1) (w.heap.size+1) w3 W→OutL (w.heap.size+3) (w.heap.size+1) W L11→Calls Tryz.prog 31 #[.string ⟨#[117,110,105,113,117,101]⟩,vu,.pointer (some ⟨w.heap.size+1+1,0,none⟩)] W (fun e w'=>e= .returned (.tuple #[])∧Out2 (w.heap.size+3) (w.heap.size+1) (w.heap.size+1) w3 w'∧OutL (w.heap.size+3) (w.heap.size+1) w' L12)):=Lib.hid fun W hO hL=>(vm_ Cfg.wUnique c.unique vu (w.heap.size+1+1) (hO.bk kf (by omega) (by omega) (by omega)) ⟨by omega,by omega⟩ (fun W' hW=>tu.below (hBel W' (hO.trans hW))) hL (by omega) (by decide) (fun a ha=>by have:=hm.unique a ha;omega)).mono (by rintro e w' ⟨he,h1,h2⟩;exact⟨he,hO.trans h1,by rw[hL12];exact h2⟩)
 have HCL:Hid (∀ W,Out2 (w.heap.size+3) (w.heap.size+1) (w.heap.size+1) w3 W→W.cell? ⟨w.heap.size,0,none⟩=some (.string ⟨c.suffix.toArray⟩)∧W.cell? ⟨w.heap.size,1,none⟩=some (.string ⟨c.root.toArray⟩)∧W.cell? ⟨w.heap.size,2,none⟩=some (.string ⟨c.secret.toArray⟩)∧W.cell? ⟨w.heap.size,3,none⟩=some (.int .i64 c.size)∧W.cell? ⟨w.heap.size,4,none⟩=some (va)∧W.cell? ⟨w.heap.size,5,none⟩=some (vc)∧W.cell? ⟨w.heap.size,6,none⟩=some (vl)∧W.cell? ⟨w.heap.size,7,none⟩=some (vi)∧W.cell? ⟨w.heap.size,8,none⟩=some (.bool c.memberof)∧W.cell? ⟨w.heap.size,9,none⟩=some (.bool c.audit)∧W.cell? ⟨w.heap.size,10,none⟩=some (vr)∧W.cell? ⟨w.heap.size,11,none⟩=some (vu)∧W.cell? ⟨w.heap.size+1+1,0,none⟩=some (.func (.func 30) #[] #[.pointer (some ⟨w.heap.size+1,0,none⟩)])):=Lib.hid fun W hO=>by
  have hk:=hO.bk kp (by omega) (by omega) (by omega)
  have hf:=(hO.bk kf (by omega) (by omega) (by omega)).cell 0
  unfold za_ at hk
  exact⟨hk.cell 0,hk.cell 1,hk.cell 2,hk.cell 3,hk.cell 4,hk.cell 5,hk.cell 6,hk.cell 7,hk.cell 8,hk.cell 9,hk.cell 10,hk.cell 11,hf⟩
 have HO:Hid (Out2 (w.heap.size+3) (w.heap.size+1) (w.heap.size+1) w3 w3):=Lib.hid Out2.refl
 have HL:Hid (OutL (w.heap.size+3) (w.heap.size+1) w3 ([]:List (List UInt8))):=Lib.hid ⟨_,ko,Own.nil (by omega),by omega⟩
 have HBe:=Lib.hid hBel
 have HB3:Hid (∀ W,Out2 (w.heap.size+3) (w.heap.size+1) (w.heap.size+1) w3 W→w.heap.size+3≤W.heap.size):=Lib.hid fun W h=>by have:=h.size;omega
 have HS2:Hid (∀ W,Out2 (w.heap.size+3) (w.heap.size+1) (w.heap.size+1) w3 W→W.cell? ⟨w.heap.size,3,none⟩=some (.int .i64 c.size)∧W.cell? ⟨w.heap.size+1+1,0,none⟩=some (.func (.func 30) #[] #[.pointer (some ⟨w.heap.size+1,0,none⟩)])):=Lib.hid fun W hO=>by obtain⟨_,_,_,p3,_,_,_,_,_,_,_,_,pf⟩:=HCL.out W hO;exact⟨p3,pf⟩
 have HI:=Lib.hid ti
 have HM:=Lib.hid hm.indexes
 have HWh:=Lib.hid hw
 have hraw:L12=Cfg.rawP c:=by
  rw[hL12,hL11,hL10,hL9,hL8,hL7,hL6,hL5,hL4,hL3,hL2,hL1]
  unfold Cfg.rawP
  simp only[List.append_assoc,List.nil_append]
 have hlong:=Cfg.rawP_long hm hz.1 hz.2
 have hcnt:=Cfg.rawP_count c
 have HPa:Hid (∀ W,Out2 (w.heap.size+3) (w.heap.size+1) (w.heap.size+1) w3 W→∀ u,TextsA W u L12→Calls Tryz.prog 7 #[u] W (z63_ W (Cfg.parseC L12))):=Lib.hid fun W hO u hu=>(za2_ L12 u W (hw.keep (hBel W hO)).env hu (by rw[hraw];intro s hs;have:=hlong s hs;omega)).mono fun e w' h=>h.open
 have HSm:Hid (∀ W,Out2 (w.heap.size+3) (w.heap.size+1) (w.heap.size+1) w3 W→∀ u d,ConfW W u d→Calls Tryz.prog 35 #[.agg #[.string ⟨c.suffix.toArray⟩,.string ⟨c.root.toArray⟩,.string ⟨c.secret.toArray⟩,.int .i64 c.size,va,vc,vl,vi,.bool c.memberof,.bool c.audit,vr,vu],u] W fun e w'=>e= .returned (.bool (decide (c=d)))∧Below W.heap.size W w'):=Lib.hid fun W hO u d hu=>zl7_ c d _ u W ⟨va,vc,vl,vi,vr,vu,rfl,ta.below (hBel W hO),tc.below (hBel W hO),tl.below (hBel W hO),ti.below (hBel W hO),tr.below (hBel W hO),tu.below (hBel W hO)⟩ hu (by omega)
 have HP:Hid (Cfg.printC c=if (Cfg.parseC L12).2.1=0∧(Cfg.parseC L12).1=c then L12 else []):=Lib.hid (by rw[hraw];rfl)
 have hixI:(c.indexes.length:Int)≤4000:=by omega
 have hszI:=hz
 have L7p:Hid (L8=L7++Cfg.lines Cfg.wIndex (c.indexes.map Cfg.textI)):=Lib.hid hL8
 obtain⟨AI,cI,hvI,hcI,hxI⟩:=ti
 subst hvI
 have HX:=Lib.hid hxI
 obtain⟨p0,p1,p2,p3,p4,p5,p6,p7,p8,p9,p10,p11,pf⟩:=HCL.out _ HO.out
 clear hxI hcI HI ta tc tl tr tu hm hw hL1 hL2 hL3 hL4 hL5 hL6 hL7 hL8 hL9 hL10 hL11 hL12 n1 n2 n3 n4 n5 n6 n7 n8 n9 n10 n11 n12 hc hl h4 b1 b2 b3 kp ko kf s1 s2 hBel hraw hlong hcnt
 unfold jw_ za_
 go_enter Tryz.func17,Tryz.ntmps17
 go_upto_region 5 with fail
 rw[← hw1,← hw2,← hw3]
 clear hw1 hw2 hw3
 go_upto_if 29 with (first
  |(go_at_call 30;(with_reducible refine(H0.out _ HO.out HL.out).mono ?_);rintro e w5 ⟨rfl,hO,hL⟩;have HO:=Lib.hid hO;have HL:=Lib.hid hL;obtain⟨p0,p1,p2,p3,p4,p5,p6,p7,p8,p9,p10,p11,pf⟩:=HCL.out _ hO;clear hO hL)
  |(go_at_call 30;(with_reducible refine(H1.out _ HO.out HL.out).mono ?_);rintro e w5 ⟨rfl,hO,hL⟩;have HO:=Lib.hid hO;have HL:=Lib.hid hL;obtain⟨p0,p1,p2,p3,p4,p5,p6,p7,p8,p9,p10,p11,pf⟩:=HCL.out _ hO;clear hO hL)
  |(go_at_call 30;(with_reducible refine(H2.out _ HO.out HL.out).mono ?_);rintro e w5 ⟨rfl,hO,hL⟩;have HO:=Lib.hid hO;have HL:=Lib.hid hL;obtain⟨p0,p1,p2,p3,p4,p5,p6,p7,p8,p9,p10,p11,pf⟩:=HCL.out _ hO;clear hO hL))
 go_cut [] (fun wx=>Aside (Out2 (w.heap.size+3) (w.heap.size+1) (w.heap.size+1) w3 wx)∧Aside (OutL (w.heap.size+3) (w.heap.size+1) wx L4))
 case first=>
  by_cases hz0:c.size=0
  ·have hzb:(c.size !=0)=false:=by rw[hz0];rfl
   have hL4:=Lib.hid (HZ0.out hz0)
   clear hz0
   go_wp2_with fail
   go_meet
   exact⟨HO.out,by show OutL _ _ _ _;rw[hL4.out];exact HL.out⟩
  ·have hzb:(c.size !=0)=true:=bne_iff_ne.2 hz0
   have H3z:=Lib.hid (H3.out hz0)
   clear hz0
   go_wp2_with fail
   go_region_held3 (fun W=>W.cell? ⟨w.heap.size,3,none⟩=some (.int .i64 c.size)∧W.cell? ⟨w.heap.size+1+1,0,none⟩=some (.func (.func 30) #[] #[.pointer (some ⟨w.heap.size+1,0,none⟩)])) (first|(with_reducible exact HS2.out _ HO.out)|(with_reducible exact HS2.out _ (HO.out.trans (Out2.of_below (Below.refl _ _).drew (HB3.out _ HO.out))))) (first
    |(go_at_call 33;(with_reducible refine(HIt.out _ (HO.out.trans (Out2.of_below (Below.refl _ _).drew (HB3.out _ HO.out)))).mono ?_);rintro e w5 ⟨rfl,hO,hb⟩;have HL:=Lib.hid (OutL.below (OutL.below HL.out (Below.refl _ _).drew) hb);have HO:=Lib.hid hO;clear hO hb)
    |(go_at_call 30;(with_reducible refine(H3z.out _ HO.out HL.out).mono ?_);rintro e w5 ⟨rfl,hO,hL⟩;have HO:=Lib.hid hO;have HL:=Lib.hid hL;clear hO hL)
    |fail)
   all_goals
    go_wp2_with fail
    go_meet
    exact⟨HO.out,HL.out⟩
 case rest=>
 obtain⟨AO,AL⟩:=hcut
 have HO:=Lib.hid AO.out
 have HL:=Lib.hid AL.out
 clear AO AL H0 H1 H2 H3 HIt HZ0 p0 p1 p2 p3 p4 p5 p6 p7 p8 p9 p10 p11 pf
 obtain⟨p0,p1,p2,p3,p4,p5,p6,p7,p8,p9,p10,p11,pf⟩:=HCL.out _ HO.out
 go_wp2_with (first
  |(go_at_call 31;(with_reducible refine(H4.out _ HO.out HL.out).mono ?_);rintro e w5 ⟨rfl,hO,hL⟩;have HO:=Lib.hid hO;have HL:=Lib.hid hL;obtain⟨p0,p1,p2,p3,p4,p5,p6,p7,p8,p9,p10,p11,pf⟩:=HCL.out _ hO;clear hO hL)
  |(go_at_call 31;(with_reducible refine(H5.out _ HO.out HL.out).mono ?_);rintro e w5 ⟨rfl,hO,hL⟩;have HO:=Lib.hid hO;have HL:=Lib.hid hL;obtain⟨p0,p1,p2,p3,p4,p5,p6,p7,p8,p9,p10,p11,pf⟩:=HCL.out _ hO;clear hO hL)
  |(go_at_call 31;(with_reducible refine(H6.out _ HO.out HL.out).mono ?_);rintro e w5 ⟨rfl,hO,hL⟩;have HO:=Lib.hid hO;have HL:=Lib.hid hL;obtain⟨p0,p1,p2,p3,p4,p5,p6,p7,p8,p9,p10,p11,pf⟩:=HCL.out _ hO;clear hO hL)
  |fail)
 clear H4 H5 H6
 go_loopg [50] c.indexes.length (fun gk i wr=>∃ k:Nat,k≤c.indexes.length∧i= .int .i64 (k:Int)∧Aside (k+gk=c.indexes.length)∧Aside (Out2 (w.heap.size+3) (w.heap.size+1) (w.heap.size+1) w3 wr)∧Aside (OutL (w.heap.size+3) (w.heap.size+1) wr (L7++Cfg.lines Cfg.wIndex ((c.indexes.take k).map Cfg.textI))))
 case atStart=>exact⟨0,Nat.zero_le _,rfl,by show _=_;omega,HO.out,by show OutL _ _ _ _;simpa [Cfg.lines] using HL.out⟩
 case round=>
  clear p0 p1 p2 p3 p4 p5 p6 p7 p8 p9 p10 p11 pf HO HL
  obtain⟨k,hk,rfl,AG,AO,AL⟩:=hrel
  have HO:=Lib.hid AO.out
  have HL:=Lib.hid AL.out
  have HB:=Lib.hid (HBe.out _ HO.out)
  clear AO AL
  by_cases hlt:k<c.indexes.length
  case pos=>
   obtain⟨q,rfl⟩:∃ q,gk=q+1:=⟨gk - 1,by have:=AG.out;omega⟩
   obtain⟨b,o,rfl,d0,d1,d2,d3⟩:=HX.out k hlt
   have e0:=(HB.out.cell (z9_ d0)).trans d0
   have e1:=(HB.out.cell (z9_ d1)).trans d1
   have e2:=(HB.out.cell (z9_ d2)).trans d2
   have e3:=(HB.out.cell (z9_ d3)).trans d3
   have hki:(k:Int)<(c.indexes.length:Int):=by omega
   have hx:=HM.out _ (List.getElem_mem hlt)
   have HTk:=Lib.hid (HTx.out c.indexes[k] hx)
   have H7k:=Lib.hid (H7.out c.indexes[k] k hx hk)
   have HSN:Hid (L7++Cfg.lines Cfg.wIndex ((c.indexes.take (k+1)).map Cfg.textI)=(L7++Cfg.lines Cfg.wIndex ((c.indexes.take k).map Cfg.textI))++Cfg.line Cfg.wIndex (Cfg.textI c.indexes[k])):=Lib.hid (by rw[List.take_succ_eq_append_getElem hlt,List.map_append,List.map_singleton,lines_snoc,List.append_assoc])
   clear d0 d1 d2 d3 hx
   generalize c.indexes[k]=x at *
   obtain⟨ty,fe,fp,fs⟩:=x
   simp only at e0 e1 e2 e3 HTk
   go_upto_region 16 with fail
   have bx:=zs_ wr (.cells #[.string ⟨ty.toArray⟩,.bool fe,.bool fp,.bool fs] 63)
   have kx:=Bk.new wr 63 #[.string ⟨ty.toArray⟩,.bool fe,.bool fp,.bool fs]
   have HOx:=Lib.hid (HO.out.trans (Out2.of_below bx (HB3.out _ HO.out)))
   have HLx:=Lib.hid (OutL.below HL.out bx)
   clear bx HO HL HB e0 e1 e2 e3
   generalize wr.alloc (.cells #[.string ⟨ty.toArray⟩,.bool fe,.bool fp,.bool fs] 63)=wx at *
   generalize wr.heap.size=bi at *
   have HSx:Hid (∀ W,Below wx.heap.size wx W→Out2 (w.heap.size+3) (w.heap.size+1) (w.heap.size+1) w3 W→W.cell? ⟨bi,0,none⟩=some (.string ⟨ty.toArray⟩)∧W.cell? ⟨bi,1,none⟩=some (.bool fe)∧W.cell? ⟨bi,2,none⟩=some (.bool fp)∧W.cell? ⟨bi,3,none⟩=some (.bool fs)∧W.cell? ⟨w.heap.size+1+1,0,none⟩=some (.func (.func 30) #[] #[.pointer (some ⟨w.heap.size+1,0,none⟩)])):=Lib.hid fun W h hO=>⟨(kx.below h).cell 0,(kx.below h).cell 1,(kx.below h).cell 2,(kx.below h).cell 3,(HCL.out W hO).2.2.2.2.2.2.2.2.2.2.2.2⟩
   obtain⟨x0,x1,x2,x3,pf⟩:=HSx.out _ (Below.refl _ _) HOx.out
   have HOd:=Lib.hid (HOx.out.trans (Out2.of_below (Below.refl _ _).drew (HB3.out _ HOx.out)))
   have HLd:=Lib.hid (OutL.below HLx.out (Below.refl _ _).drew)
   clear kx
   go_region_with (first
    |(go_at_call 34;(with_reducible refine(HTk.out _ HOd.out).mono ?_);rintro e w5 ⟨rfl,hO,hb⟩;have HL5:=Lib.hid (OutL.below HLd.out hb);have HO5:=Lib.hid hO;obtain⟨y0,y1,y2,y3,pf5⟩:=HSx.out _ ((Below.refl _ _).drew.trans hb) hO;clear hO hb)
    |(go_at_call 30;(with_reducible refine(H7k.out _ HO5.out HL5.out).mono ?_);rintro e w6 ⟨rfl,hO,hL⟩;have HO6:=Lib.hid hO;have HL6:=Lib.hid hL;clear hO hL)
    |fail)
   all_goals
    go_wp2_with fail
    go_roundg q
    case measure=>omega
    case rel=>exact⟨k+1,by omega,by go_num,by have:=AG.out;show _=_;omega,HO6.out,by show OutL _ _ _ _;rw[HSN.out];exact HL6.out⟩
  case neg=>
  obtain rfl:k=c.indexes.length:=by omega
  have HL8:Hid (OutL (w.heap.size+3) (w.heap.size+1) wr L8):=Lib.hid (by have:=HL.out;rwa [List.take_length,← L7p.out] at this)
  have HL:=HL8
  have hki:¬ ((c.indexes.length:Int)<(c.indexes.length:Int)):=by omega
  clear HL8 H7 HTx HX HM HB
  obtain⟨p0,p1,p2,p3,p4,p5,p6,p7,p8,p9,p10,p11,pf⟩:=HCL.out _ HO.out
  go_upto_region 22 with (first
   |(go_at_call 32;(with_reducible refine(H8.out _ HO.out HL.out).mono ?_);rintro e w5 ⟨rfl,hO,hL⟩;have HO:=Lib.hid hO;have HL:=Lib.hid hL;obtain⟨p0,p1,p2,p3,p4,p5,p6,p7,p8,p9,p10,p11,pf⟩:=HCL.out _ hO;clear hO hL)
   |(go_at_call 32;(with_reducible refine(H9.out _ HO.out HL.out).mono ?_);rintro e w5 ⟨rfl,hO,hL⟩;have HO:=Lib.hid hO;have HL:=Lib.hid hL;obtain⟨p0,p1,p2,p3,p4,p5,p6,p7,p8,p9,p10,p11,pf⟩:=HCL.out _ hO;clear hO hL)
   |(go_at_call 31;(with_reducible refine(H10.out _ HO.out HL.out).mono ?_);rintro e w5 ⟨rfl,hO,hL⟩;have HO:=Lib.hid hO;have HL:=Lib.hid hL;obtain⟨p0,p1,p2,p3,p4,p5,p6,p7,p8,p9,p10,p11,pf⟩:=HCL.out _ hO;clear hO hL)
   |(go_at_call 31;(with_reducible refine(H11.out _ HO.out HL.out).mono ?_);rintro e w5 ⟨rfl,hO,hL⟩;have HO:=Lib.hid hO;have HL:=Lib.hid hL;obtain⟨p0,p1,p2,p3,p4,p5,p6,p7,p8,p9,p10,p11,pf⟩:=HCL.out _ hO;clear hO hL)
   |fail)
  clear H8 H9 H10 H11 p0 p1 p2 p3 p4 p5 p6 p7 p8 p9 p10 p11 pf
  obtain⟨vo,hBo,hOwn,hlo⟩:=HL.out
  obtain⟨Ao,co,rfl,_⟩:=hOwn.isSlice
  have c0:=hBo.cell 0
  simp only[List.getElem?_toArray,List.getElem?_cons_zero] at c0
  have hTx:=zp_ hOwn.texts
  obtain⟨d,cd,at1,hR⟩:∃ d cd a,Cfg.parseC L12=(d,cd,a):=⟨_,_,_,rfl⟩
  have HPp:=Lib.hid (HPa.out _ HO.out _ hTx)
  rw[hR] at HPp HP
  simp only at HP
  unfold z63_ at HPp
  have HT:=Lib.hid hTx
  clear hR HPa hOwn hTx hBo HL
  go_upto_region 23 with (go_at_call 7;(with_reducible refine HPp.out.mono ?_);rintro e w6 ⟨hb6,ea,nae,cae,ec,nce,cce,el,nle,cle,ei,nie,cie,er,nre,cre,eu,nue,cue,rfl,t1,t2,t3,t4,t5,t6⟩)
  have bx:=zs_ w6 (.cells #[.string ⟨d.suffix.toArray⟩,.string ⟨d.root.toArray⟩,.string ⟨d.secret.toArray⟩,.int .i64 d.size,.slice ea nae cae,.slice ec nce cce,.slice el nle cle,.slice ei nie cie,.bool d.memberof,.bool d.audit,.slice er nre cre,.slice eu nue cue] 25)
  have k7:=Bk.new w6 25 #[.string ⟨d.suffix.toArray⟩,.string ⟨d.root.toArray⟩,.string ⟨d.secret.toArray⟩,.int .i64 d.size,.slice ea nae cae,.slice ec nce cce,.slice el nle cle,.slice ei nie cie,.bool d.memberof,.bool d.audit,.slice er nre cre,.slice eu nue cue]
  have hB7:=hb6.trans (bx.mono hb6.size)
  have HO7:=Lib.hid (HO.out.trans (Out2.of_below hB7 (HB3.out _ HO.out)))
  have HSame:=Lib.hid (HSm.out _ HO7.out (.agg #[.string ⟨d.suffix.toArray⟩,.string ⟨d.root.toArray⟩,.string ⟨d.secret.toArray⟩,.int .i64 d.size,.slice ea nae cae,.slice ec nce cce,.slice el nle cle,.slice ei nie cie,.bool d.memberof,.bool d.audit,.slice er nre cre,.slice eu nue cue]) d ⟨_,_,_,_,_,_,rfl,(zp_ t1).below bx,(zp_ t2).below bx,(zp_ t3).below bx,t4.w.below bx,(zp_ t5).below bx,(zp_ t6).below bx⟩)
  have c07:=(hB7.cell (z9_ c0)).trans c0
  have HT7:=Lib.hid (HT.out.below hB7)
  have HBw:=Lib.hid (HBe.out _ HO7.out)
  clear t1 t2 t3 t4 t5 t6 hb6 bx hB7 HT HPp HO c0 HSm
  generalize w6.alloc (.cells #[.string ⟨d.suffix.toArray⟩,.string ⟨d.root.toArray⟩,.string ⟨d.secret.toArray⟩,.int .i64 d.size,.slice ea nae cae,.slice ec nce cce,.slice el nle cle,.slice ei nie cie,.bool d.memberof,.bool d.audit,.slice er nre cre,.slice eu nue cue] 25)=w7 at *
  generalize w6.heap.size=bd at *
  by_cases hc0:cd=0
  case neg=>
   have hcb:(cd !=0)=true:=bne_iff_ne.2 hc0
   have hPn:Hid (Cfg.printC c=[]):=Lib.hid (by rw[HP.out];exact if_neg (fun h=>hc0 h.1))
   clear hc0 HSame
   go_wp2_with fail
   go_ret
   exact⟨HBw.out,_,rfl,by rw[hPn.out];exact .inl ⟨rfl,rfl⟩⟩
  case pos=>
  subst hc0
  obtain⟨p0,p1,p2,p3,p4,p5,p6,p7,p8,p9,p10,p11,pf⟩:=HCL.out _ HO7.out
  have q0:=k7.cell 0
  have q1:=k7.cell 1
  have q2:=k7.cell 2
  have q3:=k7.cell 3
  have q4:=k7.cell 4
  have q5:=k7.cell 5
  have q6:=k7.cell 6
  have q7:=k7.cell 7
  have q8:=k7.cell 8
  have q9:=k7.cell 9
  have q10:=k7.cell 10
  have q11:=k7.cell 11
  simp only[List.getElem?_toArray,List.getElem?_cons_zero,List.getElem?_cons_succ] at q0 q1 q2 q3 q4 q5 q6 q7 q8 q9 q10 q11
  clear k7 pf HCL
  by_cases hdc:c=d
  case neg=>
   rw[decide_eq_false hdc] at HSame
   have hPn:Hid (Cfg.printC c=[]):=Lib.hid (by rw[HP.out];exact if_neg (fun h=>hdc h.2.symm))
   clear hdc
   go_wp2_with (go_at_call 35;(with_reducible refine HSame.out.mono ?_);rintro e w8 ⟨rfl,hb⟩;have HB8:=Lib.hid (HBw.out.trans (hb.mono HBw.out.size));clear hb)
   go_ret
   exact⟨HB8.out,_,rfl,by rw[hPn.out];exact .inl ⟨rfl,rfl⟩⟩
  case pos=>
   rw[decide_eq_true hdc] at HSame
   have hPn:Hid (Cfg.printC c=L12):=Lib.hid (by rw[HP.out];exact if_pos ⟨rfl,hdc.symm⟩)
   clear hdc
   go_wp2_with (go_at_call 35;(with_reducible refine HSame.out.mono ?_);rintro e w8 ⟨rfl,hb⟩;have HB8:=Lib.hid (HBw.out.trans (hb.mono HBw.out.size));have HT8:=Lib.hid (HT7.out.below hb);have c08:=(hb.cell (z9_ c07)).trans c07;clear hb)
   go_ret
   exact⟨HB8.out,_,rfl,by rw[hPn.out];exact HT8.out⟩
end
end Go.Proofs.YtakfpngfpknedaaGreatDoor
set_option linter.all false
namespace Go.Proofs.YtakfpngfpknedaaGreatDoor
open Go.RowKit
end Go.Proofs.YtakfpngfpknedaaGreatDoor
set_option linter.all false
namespace Go.Proofs.YtakfpngfpknedaaGreatDoor
open Go.RowKit Go.Lib
theorem zk9_ {W:World} (hL:laidMetH Tryz.prog z8g_ W) (hsh:W.ShapedOpen Tryz.prog):Env9 W where
 env:=env_of hL hsh
 tab:=Lib.tabBelow_of_tabIs (by
  have h1:laidMet Tryz.prog z8g_ W:=hL
  rw[z4s_] at h1
  have h2:=laidMet.tail (laidMet.tail h1)
  have e:(Rows.laid_internal_strconv_uint64pow10:DataW Unit)=tabData .u64 Lib.pow10Tab:=by kernel_rfl
  rw[e] at h2
  exact Lib.tabIs_of_head (g:=1) (t:=245) (e:=197) (n:=20) (by kernel_rfl) (by kernel_rfl) (by kernel_rfl) (by kernel_rfl) (by kernel_rfl) (by kernel_rfl) h2)
theorem ix_sum (l:List Cfg.IndexE):l.length≤(l.map fun i=>1+i.typ.length).sum:=by
 induction l with
 |nil=>exact nR _
 |cons x l ih=>simp only[List.length_cons,List.map_cons,List.sum_cons];omega
theorem z7w_ (c:Cfg.ConfE):Cfg.countE c≤z6b_ c:=by
 have:=ix_sum c.indexes
 unfold Cfg.countE z6b_ v6_
 omega
end Go.Proofs.YtakfpngfpknedaaGreatDoor
