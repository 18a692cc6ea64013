import Derived.Test.YtakfpngfpknedaaGreatDoorE0o
set_option linter.all false
set_option maxHeartbeats 8000000
set_option maxRecDepth 100000
set_option linter.all false
namespace Go.Proofs.YtakfpngfpknedaaGreatDoor
open Go.RowKit
def x0_ (once:Bool) (f:FuncId) (cap:Array Value):Value:= .agg #[.bool once,.func (.func f) #[] cap]
theorem zeroW (w:World):(zeroValue 56).run Tryz.prog w= .ok (.agg #[.bool false,.nilFunc]) w:=by kernel_rfl
theorem ziq_:Tryz.prog.underlying 47=some (.map 9 56):=Tryz.underlying47
theorem MapS.updW {w:World} {m c:Nat} {es:Array MapEntry} {R:List (LU × Value)} (h:MapS w m es c R) (k:LU) (v:Value) (hn:qe_ R k=none):
  ∃ W es',(Instr.mapUpdate 47 (.map (some m)) (.string ⟨k.toArray⟩) v).run Tryz.prog w= .ok () W∧MapS W m es' (c+1) (R++[(k,v)])∧w.grownBy W (some m):=
 ⟨_,_,h.update ziq_ v hn,h.put k v,q3_ _ _ _ _⟩
theorem z4z_ (p j:Nat) (w:World):Calls Tryz.prog 40 #[.pointer (some ⟨p,j,none⟩)] w fun e w'=>e= .returned (x0_ true 41 #[.pointer (some ⟨w.heap.size,0,none⟩)])∧Bel w w'∧Bk w' w.heap.size 80 #[.pointer (some ⟨p,j,none⟩)]:=by
 have hmf:=z2x_
 obtain⟨W1,hW1⟩:∃ W1,w.alloc (.cells #[.pointer (some ⟨p,j,none⟩)] 80)=W1:=⟨_,rfl⟩
 have hs1:W1.heap.size=w.heap.size+1:=by rw[← hW1];simp
 have k1:=Bk.new w 80 #[.pointer (some ⟨p,j,none⟩)]
 have b1:=(bR w.heap.size w).alloc (nR _) (.cells #[.pointer (some ⟨p,j,none⟩)] 80)
 rw[hW1] at k1 b1
 have b2:=(bR W1.heap.size W1).alloc (nR _) (.cells #[.bool true,.func (.func 41) #[] #[.pointer (some ⟨w.heap.size,0,none⟩)]] 56)
 have k2:=Bk.new W1 56 #[.bool true,.func (.func 41) #[] #[.pointer (some ⟨w.heap.size,0,none⟩)]]
 rw[hs1] at k2
 have H:=hiD (And.intro (tQ b1 b2) (k1.below b2))
 have c0:=k2.cell 0
 have c1:=k2.cell 1
 simp only[gs3] at c0 c1
 clear k1 b1 k2 b2
 go_enter Tryz.func40,Tryz.ntmps40
 go_wp2_with fail
 try rw[hW1]
 refine bodyPost_ret (v:=x0_ true 41 #[.pointer (some ⟨w.heap.size,0,none⟩)]) ?_ rfl ⟨rfl,H.out⟩
 simp [results,Tryz.results40,go_sem,c0,c1,x0_]
theorem z9p_ (p j:Nat) (w:World):Calls Tryz.prog 42 #[.pointer (some ⟨p,j,none⟩)] w fun e w'=>e= .returned (x0_ true 43 #[.pointer (some ⟨w.heap.size,0,none⟩)])∧Bel w w'∧Bk w' w.heap.size 82 #[.pointer (some ⟨p,j,none⟩)]:=by
 have hmf:=z2x_
 obtain⟨W1,hW1⟩:∃ W1,w.alloc (.cells #[.pointer (some ⟨p,j,none⟩)] 82)=W1:=⟨_,rfl⟩
 have hs1:W1.heap.size=w.heap.size+1:=by rw[← hW1];simp
 have k1:=Bk.new w 82 #[.pointer (some ⟨p,j,none⟩)]
 have b1:=(bR w.heap.size w).alloc (nR _) (.cells #[.pointer (some ⟨p,j,none⟩)] 82)
 rw[hW1] at k1 b1
 have b2:=(bR W1.heap.size W1).alloc (nR _) (.cells #[.bool true,.func (.func 43) #[] #[.pointer (some ⟨w.heap.size,0,none⟩)]] 56)
 have k2:=Bk.new W1 56 #[.bool true,.func (.func 43) #[] #[.pointer (some ⟨w.heap.size,0,none⟩)]]
 rw[hs1] at k2
 have H:=hiD (And.intro (tQ b1 b2) (k1.below b2))
 have c0:=k2.cell 0
 have c1:=k2.cell 1
 simp only[gs3] at c0 c1
 clear k1 b1 k2 b2
 go_enter Tryz.func42,Tryz.ntmps42
 go_wp2_with fail
 try rw[hW1]
 refine bodyPost_ret (v:=x0_ true 43 #[.pointer (some ⟨w.heap.size,0,none⟩)]) ?_ rfl ⟨rfl,H.out⟩
 simp [results,Tryz.results42,go_sem,c0,c1,x0_]
theorem z1u_ (p j:Nat) (f:FuncId) (w:World):Calls Tryz.prog 45 #[.pointer (some ⟨p,j,none⟩),.func (.func f) #[] #[]] w fun e w'=>e= .returned (x0_ false 46 #[.pointer (some ⟨w.heap.size,0,none⟩),.pointer (some ⟨w.heap.size+1,0,none⟩)])∧Bel w w'∧Bk w' w.heap.size 64 #[.pointer (some ⟨p,j,none⟩)]∧Bk w' (w.heap.size+1) 54 #[.func (.func f) #[] #[]]:=by
 have hmf:=z2x_
 obtain⟨W1,hW1⟩:∃ W1,(w.alloc (.cells #[.pointer (some ⟨p,j,none⟩)] 64)).alloc (.cells #[.func (.func f) #[] #[]] 54)=W1:=⟨_,rfl⟩
 have hs1:W1.heap.size=w.heap.size+1+1:=by rw[← hW1];simp
 have b0:=(bR w.heap.size w).alloc (nR _) (.cells #[.pointer (some ⟨p,j,none⟩)] 64)
 have b1:=b0.alloc b0.size (.cells #[.func (.func f) #[] #[]] 54)
 have k0:=(Bk.new w 64 #[.pointer (some ⟨p,j,none⟩)]).alloc (.cells #[.func (.func f) #[] #[]] 54)
 have k1:=Bk.new (w.alloc (.cells #[.pointer (some ⟨p,j,none⟩)] 64)) 54 #[.func (.func f) #[] #[]]
 rw[World.size_alloc] at k1
 rw[hW1] at k0 k1 b1
 have b2:=(bR W1.heap.size W1).alloc (nR _) (.cells #[.bool false,.func (.func 46) #[] #[.pointer (some ⟨w.heap.size,0,none⟩),.pointer (some ⟨w.heap.size+1,0,none⟩)]] 56)
 have k2:=Bk.new W1 56 #[.bool false,.func (.func 46) #[] #[.pointer (some ⟨w.heap.size,0,none⟩),.pointer (some ⟨w.heap.size+1,0,none⟩)]]
 rw[hs1] at k2
 have H:=hiD (And.intro (tQ b1 b2) (And.intro (k0.below b2) (k1.below b2)))
 have c0:=k2.cell 0
 have c1:=k2.cell 1
 simp only[gs3] at c0 c1
 clear k0 k1 b0 b1 k2 b2
 go_enter Tryz.func45,Tryz.ntmps45
 go_wp2_with fail
 try rw[hW1]
 refine bodyPost_ret (v:=x0_ false 46 #[.pointer (some ⟨w.heap.size,0,none⟩),.pointer (some ⟨w.heap.size+1,0,none⟩)]) ?_ rfl ⟨rfl,H.out⟩
 simp [results,Tryz.results45,go_sem,c0,c1,x0_]
def WordK (w:World) (p:Nat):Cfg.Kind→Value→Prop
 | .suffix,v=>∃ b,v=x0_ true 41 #[.pointer (some ⟨b,0,none⟩)]∧Bk w b 80 #[.pointer (some ⟨p,0,none⟩)]
 | .root,v=>∃ b,v=x0_ true 41 #[.pointer (some ⟨b,0,none⟩)]∧Bk w b 80 #[.pointer (some ⟨p,1,none⟩)]
 | .secret,v=>∃ b,v=x0_ true 41 #[.pointer (some ⟨b,0,none⟩)]∧Bk w b 80 #[.pointer (some ⟨p,2,none⟩)]
 | .size,v=>∃ b,v=x0_ true 48 #[.pointer (some ⟨b,0,none⟩)]∧Bk w b 49 #[.pointer (some ⟨p,0,none⟩)]
 | .attr,v=>∃ b b2,v=x0_ false 46 #[.pointer (some ⟨b,0,none⟩),.pointer (some ⟨b2,0,none⟩)]∧Bk w b 64 #[.pointer (some ⟨p,4,none⟩)]∧Bk w b2 54 #[.func (.func 47) #[] #[]]
 | .class,v=>∃ b b2,v=x0_ false 46 #[.pointer (some ⟨b,0,none⟩),.pointer (some ⟨b2,0,none⟩)]∧Bk w b 64 #[.pointer (some ⟨p,5,none⟩)]∧Bk w b2 54 #[.func (.func 47) #[] #[]]
 | .acl,v=>∃ b b2,v=x0_ false 46 #[.pointer (some ⟨b,0,none⟩),.pointer (some ⟨b2,0,none⟩)]∧Bk w b 64 #[.pointer (some ⟨p,6,none⟩)]∧Bk w b2 54 #[.func (.func 47) #[] #[]]
 | .index,v=>∃ b,v=x0_ false 50 #[.pointer (some ⟨b,0,none⟩)]∧Bk w b 49 #[.pointer (some ⟨p,0,none⟩)]
 | .memberof,v=>∃ b,v=x0_ true 43 #[.pointer (some ⟨b,0,none⟩)]∧Bk w b 82 #[.pointer (some ⟨p,8,none⟩)]
 | .audit,v=>∃ b,v=x0_ true 43 #[.pointer (some ⟨b,0,none⟩)]∧Bk w b 82 #[.pointer (some ⟨p,9,none⟩)]
 | .ref,v=>∃ b b2,v=x0_ false 46 #[.pointer (some ⟨b,0,none⟩),.pointer (some ⟨b2,0,none⟩)]∧Bk w b 64 #[.pointer (some ⟨p,10,none⟩)]∧Bk w b2 54 #[.func (.func 52) #[] #[]]
 | .unique,v=>∃ b b2,v=x0_ false 46 #[.pointer (some ⟨b,0,none⟩),.pointer (some ⟨b2,0,none⟩)]∧Bk w b 64 #[.pointer (some ⟨p,11,none⟩)]∧Bk w b2 54 #[.func (.func 52) #[] #[]]
theorem WordK.same {w w':World} {p:Nat} {k:Cfg.Kind} {v:Value} (h:WordK w p k v) (hs:∀ (b:Nat) (t:TypeId) (cs:Array Value),Bk w b t cs→t≠25→Bk w' b t cs):WordK w' p k v:=by
 cases k
 ·obtain⟨b,rfl,h1⟩:=h;exact⟨b,rfl,hs _ _ _ h1 (by decide)⟩
 ·obtain⟨b,rfl,h1⟩:=h;exact⟨b,rfl,hs _ _ _ h1 (by decide)⟩
 ·obtain⟨b,rfl,h1⟩:=h;exact⟨b,rfl,hs _ _ _ h1 (by decide)⟩
 ·obtain⟨b,rfl,h1⟩:=h;exact⟨b,rfl,hs _ _ _ h1 (by decide)⟩
 ·obtain⟨b,b2,rfl,h1,h2⟩:=h;exact⟨b,b2,rfl,hs _ _ _ h1 (by decide),hs _ _ _ h2 (by decide)⟩
 ·obtain⟨b,b2,rfl,h1,h2⟩:=h;exact⟨b,b2,rfl,hs _ _ _ h1 (by decide),hs _ _ _ h2 (by decide)⟩
 ·obtain⟨b,b2,rfl,h1,h2⟩:=h;exact⟨b,b2,rfl,hs _ _ _ h1 (by decide),hs _ _ _ h2 (by decide)⟩
 ·obtain⟨b,rfl,h1⟩:=h;exact⟨b,rfl,hs _ _ _ h1 (by decide)⟩
 ·obtain⟨b,rfl,h1⟩:=h;exact⟨b,rfl,hs _ _ _ h1 (by decide)⟩
 ·obtain⟨b,rfl,h1⟩:=h;exact⟨b,rfl,hs _ _ _ h1 (by decide)⟩
 ·obtain⟨b,b2,rfl,h1,h2⟩:=h;exact⟨b,b2,rfl,hs _ _ _ h1 (by decide),hs _ _ _ h2 (by decide)⟩
 ·obtain⟨b,b2,rfl,h1,h2⟩:=h;exact⟨b,b2,rfl,hs _ _ _ h1 (by decide),hs _ _ _ h2 (by decide)⟩
theorem WordK.below {w w':World} {p:Nat} {k:Cfg.Kind} {v:Value} (h:WordK w p k v) (hb:Bel w w'):WordK w' p k v:=h.same fun _ _ _ hk _=>hk.below hb
theorem WordK.grown {w w':World} {p m:Nat} {k:Cfg.Kind} {v:Value} {es:Array MapEntry} {c:Nat} (h:WordK w p k v) (hm:w.heap[m]?=some (.map es c)) (hg:w.grownBy w' (some m)):WordK w' p k v:=h.same fun b t cs hk _=>hk.grown hg (fun e=>by
 cases e
 have:=hk.symm.trans hm
 simp at this)
end Go.Proofs.YtakfpngfpknedaaGreatDoor
set_option linter.all false
namespace Go.Proofs.YtakfpngfpknedaaGreatDoor
open Go.RowKit
section
variable {B p:Nat} {w:World} {c:Cfg.ConfE} {va vc vl vi vr vu:Value}
theorem zad_ (s:LU) (bt:Nat) (h:ConfB B p w c va vc vl vi vr vu) (hb:w.cell? ⟨bt,0,none⟩=some (.pointer (some ⟨p,0,none⟩))) (hs:s.length≤4000000):
  Calls Tryz.prog 48 #[.string ⟨s.toArray⟩,.pointer (some ⟨bt,0,none⟩)] w (km_ B p w ({c with size:=(Cfg.numS s).1},(Cfg.numS s).2)):=by
 have HN:=hiD (fun (W:World)=>zg1_ s W hs)
 have hd:Bel w w.drew:=(bR _ _).drew
 have HC:=hiD (h.below hd)
 have HD:=hiD hd
 have hbd:w.drew.cell? ⟨bt,0,none⟩=some (.pointer (some ⟨p,0,none⟩)):=hb
 have HBD:=hiD hbd
 have hBs:=h.idx.2
 clear h hd hbd
 generalize Cfg.numS s=R at *
 obtain⟨r1,r2⟩:=R
 simp only at *
 go_enter Tryz.func48,Tryz.ntmps48
 go_wp2_with fail
 go_region_with (first
  |(go_at_call 49;(with_reducible refine(HN.out _).mono ?_);rintro e wn ⟨rfl,hbn⟩;have t5:=cQ hbn HBD.out;have p5:=(HC.out.below hbn).bk.frozen 3;have q5:=(HC.out.below hbn).bk.cell 3;simp only[za_,List.getElem?_toArray,List.getElem?_cons_zero,List.getElem?_cons_succ] at q5;have HB5:=hiD hbn;clear hbn))
 all_goals
  go_wp2_with fail
  go_ret
  exact⟨rfl,(OutB.of_below (tQ HD.out HB5.out) hBs).trans (OutB.set (HC.out.below HB5.out).bk _ _),_,_,_,_,_,_,(HC.out.below HB5.out).put {c with size:=r1} 3 (.int .i64 r1) (by simp [za_]) rfl rfl⟩
end
end Go.Proofs.YtakfpngfpknedaaGreatDoor
set_option linter.all false
namespace Go.Proofs.YtakfpngfpknedaaGreatDoor
open Go.RowKit
namespace Cfg
def kindsTo (x:IndexE) (k:Nat):List (List UInt8):=(if 0<k∧x.eq=true then [wEq] else [])++(if 1<k∧x.pres=true then [wPres] else [])++(if 2<k∧x.sub=true then [wSub] else [])
theorem kindsTo_all (x:IndexE):kindsTo x 3=kindsI x:=by
 unfold kindsTo kindsI
 simp
theorem kindsTo_len (x:IndexE) (k:Nat):(kindsTo x k).length≤3:=by
 unfold kindsTo
 split<;>split<;>split<;>simp
theorem kindsI_join (x:IndexE):(Lib.join (kindsI x) [44]).length≤20:=by
 obtain⟨t,a,b,c⟩:=x
 rw[show kindsI ⟨t,a,b,c⟩=kindsI ⟨[],a,b,c⟩ from rfl]
 clear t
 revert a b c
 decide
end Cfg
def TextsC (w:World) (b:Nat) (u:List UInt8):Prop:=w.cell? ⟨b,0,none⟩=some (.string ⟨u.toArray⟩)
set_option maxRecDepth 100000 in
theorem z1s_ (x:Cfg.IndexE) (w:World) (hw:Env w) (hl:x.typ.length≤4000000):
  Calls Tryz.prog 34 #[.agg #[.string ⟨x.typ.toArray⟩,.bool x.eq,.bool x.pres,.bool x.sub]] w fun e w'=>e= .returned (.string ⟨(Cfg.textI x).toArray⟩)∧Below w.heap.size w w':=by
 obtain⟨ty,fe,fp,fs⟩:=x
 simp only at hl ⊢
 have hka:=Bk.new w 63 #[.string ⟨ty.toArray⟩,.bool fe,.bool fp,.bool fs]
 have hb0:=(Below.refl w.heap.size w).alloc (Nat.le_refl _) (.cells #[.string ⟨ty.toArray⟩,.bool fe,.bool fp,.bool fs] 63)
 have a1:=hka.cell 1
 have a2:=hka.cell 2
 have a3:=hka.cell 3
 simp only[List.getElem?_toArray,List.getElem?_cons_zero,List.getElem?_cons_succ] at a1 a2 a3
 have hx0:∀ (a b c:Bool) (W:World),(Instr.index 99 (.agg #[.bool a,.bool b,.bool c]) (.int .i64 0)).run Tryz.prog W= .ok (.bool a) W:=fun _ _ _ _=>by kernel_rfl
 have hx1:∀ (a b c:Bool) (W:World),(Instr.index 99 (.agg #[.bool a,.bool b,.bool c]) (.int .i64 1)).run Tryz.prog W= .ok (.bool b) W:=fun _ _ _ _=>by kernel_rfl
 have hx2:∀ (a b c:Bool) (W:World),(Instr.index 99 (.agg #[.bool a,.bool b,.bool c]) (.int .i64 2)).run Tryz.prog W= .ok (.bool c) W:=fun _ _ _ _=>by kernel_rfl
 have hs0:∀ (W:World),(Instr.index 100 (.agg #[.string ⟨#[101,113]⟩,.string ⟨#[112,114,101,115]⟩,.string ⟨#[115,117,98]⟩]) (.int .i64 0)).run Tryz.prog W= .ok (.string ⟨#[101,113]⟩) W:=fun _=>by kernel_rfl
 have hs1:∀ (W:World),(Instr.index 100 (.agg #[.string ⟨#[101,113]⟩,.string ⟨#[112,114,101,115]⟩,.string ⟨#[115,117,98]⟩]) (.int .i64 1)).run Tryz.prog W= .ok (.string ⟨#[112,114,101,115]⟩) W:=fun _=>by kernel_rfl
 have hs2:∀ (W:World),(Instr.index 100 (.agg #[.string ⟨#[101,113]⟩,.string ⟨#[112,114,101,115]⟩,.string ⟨#[115,117,98]⟩]) (.int .i64 2)).run Tryz.prog W= .ok (.string ⟨#[115,117,98]⟩) W:=fun _=>by kernel_rfl
 have HKA:=Lib.hid hka
 have HB0:=Lib.hid hb0
 clear hka hb0
 go_enter Tryz.func34,Tryz.ntmps34
 go_wp2_with fail
 generalize w.alloc (.cells #[.string ⟨ty.toArray⟩,.bool fe,.bool fp,.bool fs] 63)=w0 at *
 generalize hbx:w.heap.size=bx at *
 go_loopg [3,13] 3 (fun gk l ix wr=>∃ (k:Nat) (A:Option Addr) (c:Nat),k≤3∧ix= .int .i64 (k:Int)∧l= .slice A (Cfg.kindsTo ⟨ty,fe,fp,fs⟩ k).length c∧Aside (k+gk=3)∧Aside (Own w0.heap.size wr (.slice A (Cfg.kindsTo ⟨ty,fe,fp,fs⟩ k).length c) (Cfg.kindsTo ⟨ty,fe,fp,fs⟩ k))∧Aside (Below w0.heap.size w0 wr))
 case atStart=>exact⟨0,none,0,by omega,rfl,rfl,rfl,Own.nil (Nat.le_refl _),Below.refl _ _⟩
 case round=>
  obtain⟨k,A,c,hk,rfl,rfl,AG,AO,AB⟩:=hrel
  by_cases h3:k<3
  case pos=>
   obtain⟨q,rfl⟩:∃ q,gk=q+1:=⟨gk - 1,by have:=AG.out;omega⟩
   have hkl:=Cfg.kindsTo_len ⟨ty,fe,fp,fs⟩ k
   have HO:=Lib.hid AO.out
   have HB:=Lib.hid AB.out
   have HY:Hid (∀ (u:List UInt8),TextsC (wr.alloc (.cells #[.string ⟨u.toArray⟩] 9)) wr.heap.size u):=Lib.hid fun u=>(Bk.new wr 9 #[.string ⟨u.toArray⟩]).cell 0
   clear AO AB
   have hk3:k=0∨k=1∨k=2:=by omega
   rcases hk3 with rfl|rfl|rfl
   ·cases fe
    ·go_wp2_with fail
     go_roundg q
     case measure=>omega
     case rel=>exact⟨1,A,c,by omega,by go_num,by simp [Cfg.kindsTo,Nat.add_assoc],by have:=AG.out;show _=_;omega,by show Own _ _ _ _;simpa [Cfg.kindsTo] using HO.out,HB.out⟩
    ·go_wp2_with (at_builtin;refine qh_ (c:=Cfg.wEq) rfl _ _ rfl rfl HO.out rfl rfl (by omega) ?_;intro v' w' hO' hg';obtain⟨A6,c6,rfl,_⟩:=hO'.isSlice;have HB':=Lib.hid (Own.bel HB.out HO.out hg');have HO':=Lib.hid hO';clear hO' hg')
     go_roundg q
     case measure=>omega
     case rel=>exact⟨1,A6,c6,by omega,by go_num,by simp [Cfg.kindsTo,Nat.add_assoc],by have:=AG.out;show _=_;omega,by show Own _ _ _ _;simpa [Cfg.kindsTo,List.append_assoc,Nat.add_assoc] using HO'.out,HB'.out⟩
   ·cases fp
    ·go_wp2_with fail
     go_roundg q
     case measure=>omega
     case rel=>exact⟨2,A,c,by omega,by go_num,by simp [Cfg.kindsTo,Nat.add_assoc],by have:=AG.out;show _=_;omega,by show Own _ _ _ _;simpa [Cfg.kindsTo] using HO.out,HB.out⟩
    ·go_wp2_with (at_builtin;refine qh_ (c:=Cfg.wPres) rfl _ _ rfl rfl HO.out rfl rfl (by omega) ?_;intro v' w' hO' hg';obtain⟨A6,c6,rfl,_⟩:=hO'.isSlice;have HB':=Lib.hid (Own.bel HB.out HO.out hg');have HO':=Lib.hid hO';clear hO' hg')
     go_roundg q
     case measure=>omega
     case rel=>exact⟨2,A6,c6,by omega,by go_num,by simp [Cfg.kindsTo,Nat.add_assoc],by have:=AG.out;show _=_;omega,by show Own _ _ _ _;simpa [Cfg.kindsTo,List.append_assoc,Nat.add_assoc] using HO'.out,HB'.out⟩
   ·cases fs
    ·go_wp2_with fail
     go_roundg q
     case measure=>omega
     case rel=>exact⟨3,A,c,by omega,by go_num,by simp [Cfg.kindsTo,Nat.add_assoc],by have:=AG.out;show _=_;omega,by show Own _ _ _ _;simpa [Cfg.kindsTo] using HO.out,HB.out⟩
    ·go_wp2_with (at_builtin;refine qh_ (c:=Cfg.wSub) rfl _ _ rfl rfl HO.out rfl rfl (by omega) ?_;intro v' w' hO' hg';obtain⟨A6,c6,rfl,_⟩:=hO'.isSlice;have HB':=Lib.hid (Own.bel HB.out HO.out hg');have HO':=Lib.hid hO';clear hO' hg')
     go_roundg q
     case measure=>omega
     case rel=>exact⟨3,A6,c6,by omega,by go_num,by simp [Cfg.kindsTo,Nat.add_assoc],by have:=AG.out;show _=_;omega,by show Own _ _ _ _;simpa [Cfg.kindsTo,List.append_assoc,Nat.add_assoc] using HO'.out,HB'.out⟩
  case neg=>
   obtain rfl:k=3:=by omega
   have hT:Cfg.textI ⟨ty,fe,fp,fs⟩=if Cfg.kindsTo ⟨ty,fe,fp,fs⟩ 3=[] then [] else ty++32::Lib.join (Cfg.kindsTo ⟨ty,fe,fp,fs⟩ 3) [44]:=by rw[Cfg.kindsTo_all];rfl
   have hj:=Cfg.kindsI_join ⟨ty,fe,fp,fs⟩
   rw[← Cfg.kindsTo_all] at hj
   have hkl:=Cfg.kindsTo_len ⟨ty,fe,fp,fs⟩ 3
   have hT:=Lib.hid hT
   generalize Cfg.kindsTo ⟨ty,fe,fp,fs⟩ 3=L at *
   have HB:Hid (Below w0.heap.size w0 wr):=Lib.hid AB.out
   have HO:=Lib.hid AO.out
   clear AO AB
   by_cases hL:L=[]
   ·subst hL
    have e0:Cfg.textI ⟨ty,fe,fp,fs⟩=[]:=hT.out.trans (if_pos rfl)
    have E0:Aside (Cfg.textI ⟨ty,fe,fp,fs⟩=[]):=e0
    clear hT e0
    go_wp2_with fail
    go_ret
    have hbb:=HB0.out.trans (HB.out.mono (by have:=HB0.out.size;omega))
    first
     |exact⟨rfl,hbb⟩
     |(rw[E0.out];exact⟨rfl,hbb⟩)
   ·have hl0:((L.length:Int)==0)=false:=beq_eq_false_iff_ne.2 (fun e=>hL (List.eq_nil_of_length_eq_zero (by omega)))
    have e1:Cfg.textI ⟨ty,fe,fp,fs⟩=ty++32::Lib.join L [44]:=by rw[hT.out,if_neg hL]
    have E1:Aside (Cfg.textI ⟨ty,fe,fp,fs⟩=ty++32::Lib.join L [44]):=e1
    have HJ:Hid (∀ W,Below wr.heap.size wr W→Calls Tryz.prog 62 #[.slice A L.length c,.string ⟨#[44]⟩] W fun e w'=>e= .returned (.string ⟨(Lib.join L [44]).toArray⟩)∧Below W.heap.size W w'):=Lib.hid fun W h=>zen_ L [44] _ W (HO.out.below h).texts (by omega) (by omega)
    have happ:=zic_
    have hlI:(ty.length:Int)≤4000000:=by omega
    have hky:=(HKA.out.below HB.out).cell 0
    simp only[List.getElem?_toArray,List.getElem?_cons_zero] at hky
    have HX:Hid (∀ W,Below wr.heap.size wr W→W.cell? ⟨bx,0,none⟩=some (.string ⟨ty.toArray⟩)):=Lib.hid fun W h=>(h.cell (z9_ hky)).trans hky
    have HC:Hid (Below wr.heap.size wr wr):=Lib.hid (Below.refl _ _)
    generalize Lib.join L [44]=jn at *
    obtain⟨t1,ht1⟩:∃ t1,t1=ty++[32]:=⟨_,rfl⟩
    obtain⟨t2,ht2⟩:∃ t2,t2=t1++jn:=⟨_,rfl⟩
    have hl1:t1.length=ty.length+1:=by rw[ht1,List.length_append,List.length_singleton]
    have cat1:∀ W,(Op.stringOp .add ⟨ty.toArray⟩ ⟨#[32]⟩).run Tryz.prog W= .ok (.string ⟨t1.toArray⟩) W:=fun W=>by rw[ht1];exact run_string_add_lists (P:=Tryz.prog) W ty [32] (by omega) (by simp)
    have cat2:∀ W,(Op.stringOp .add ⟨t1.toArray⟩ ⟨jn.toArray⟩).run Tryz.prog W= .ok (.string ⟨t2.toArray⟩) W:=fun W=>by rw[ht2];exact run_string_add_lists (P:=Tryz.prog) W t1 jn (by omega) (by omega)
    have E2:Hid (Cfg.textI ⟨ty,fe,fp,fs⟩=t2):=Lib.hid (by rw[E1.out,ht2,ht1,List.append_assoc];rfl)
    clear hT e1 HKA HO ht1 ht2 hl1 happ E1
    go_wp2_with fail
    go_region_held3 (fun W=>W.cell? ⟨bx,0,none⟩=some (.string ⟨ty.toArray⟩)) (first|exact HX.out _ HC.out.drew|exact HX.out _ HC.out) (first|(go_at_call 62;(with_reducible refine(HJ.out _ HC.out.drew).mono ?_);rintro e w2 ⟨rfl,hb2⟩;have HC:=Lib.hid (HC.out.drew.trans (hb2.mono HC.out.drew.size));clear hb2)|fail)
    all_goals
     go_wp2_with fail
     go_ret
     rw[E2.out]
     refine⟨rfl,?_⟩
     rw[hbx]
     exact HB0.out.trans ((HB.out.trans (HC.out.mono HB.out.size)).mono (by have:=HB0.out.size;omega))
end Go.Proofs.YtakfpngfpknedaaGreatDoor
