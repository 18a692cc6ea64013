import Derived.Test.YtbekpphodbekiaaGreatDoorW1b
set_option linter.all false
set_option maxHeartbeats 8000000
set_option maxRecDepth 100000
set_option linter.all false
namespace Go.Proofs.YtbekpphodbekiaaGreatDoor
open Go.RowKit
theorem z7j_ {w wk wj:World} {o:Obj} (h:Bel w wk) (hb:Below (wk.alloc o).heap.size (wk.alloc o) wj):Bel w wj:=(h.alloc h.size o).trans (hb.mono (h.alloc h.size o).size)
theorem belK {wk wj:World} {o:Obj} (hb:Below (wk.alloc o).heap.size (wk.alloc o) wj):Bel wk wj:=z7j_ (bR _ _) hb
theorem zfn_ {w wk wj:World} {o:Obj} (h:Bel w wk) (hb:Below (wk.alloc o).drew.heap.size (wk.alloc o).drew wj):Bel w wj:=(h.alloc h.size o).drew.trans (hb.mono (h.alloc h.size o).drew.size)
theorem PartsA.drew {w:World} {v:Value} {ls:List (List Fil.FilE)} (h:PartsA w v ls):PartsA w.drew v ls:=h.below (bR _ _).drew
theorem zce_ {f:List Fil.FilE} (h:Fil.validF f=true):f≠[]:=by
 intro e
 subst e
 exact absurd h (by decide)
theorem zl5_ (nm:LU) (l:List Ent.AttrE) (A:Option Addr) (n c:Nat) (hn:l.length=n) (f g:List Fil.FilE) (Af Ag:Option Addr) (nf cf ng cg:Nat) (hnf:f.length=nf) (hng:g.length=ng) (w:World) (hw:Env w) (hv:AttrsA w (.slice A n c) l) (hf:FilsA w (.slice Af nf cf) f) (hg:FilsA w (.slice Ag ng cg) g)
  (hlt:∀ a∈l,a.typ.length≤140737488351232∧a.vals.length≤4611686018427387904) (hLf:∀ p∈f,z0p_ p∧p.n≤9223372036854775807) (hLg:∀ p∈g,z0p_ p∧p.n≤9223372036854775807)
  (h1:(30:Int)<(nf:Int)):Calls Tryz.prog 3 #[.string ⟨nm.toArray⟩,.slice A n c,.slice Af nf cf,.slice Ag ng cg] w fun e w'=>e= .returned (.bool true)∧Bel w w':=by
 have HAl:=hiD (fun (W:World) (h:Bel w W)=>k1_ W (hw.keep h))
 have HB:Hid (Bel w w):=hiD (bR _ _)
 clear hw hv hf hg hlt hLf hLg
 go_enter Tryz.func3,Tryz.ntmps3
 go_wp2_with (go_at_call 6;(with_reducible refine(HAl.out _ HB.out).mono ?_);rintro e wa ⟨rfl,hb⟩;have HB:=hiD (tQ HB.out hb);clear hb)
 go_ret
 exact⟨rfl,HB.out⟩
theorem zl7_ (nm:LU) (l:List Ent.AttrE) (A:Option Addr) (n c:Nat) (hn:l.length=n) (f g:List Fil.FilE) (Af Ag:Option Addr) (nf cf ng cg:Nat) (hnf:f.length=nf) (hng:g.length=ng) (w:World) (hw:Env w) (hv:AttrsA w (.slice A n c) l) (hf:FilsA w (.slice Af nf cf) f) (hg:FilsA w (.slice Ag ng cg) g)
  (hlt:∀ a∈l,a.typ.length≤140737488351232∧a.vals.length≤4611686018427387904) (hLf:∀ p∈f,z0p_ p∧p.n≤9223372036854775807) (hLg:∀ p∈g,z0p_ p∧p.n≤9223372036854775807)
  (h1:¬ (30:Int)<(nf:Int)) (h2:(30:Int)<(ng:Int)):Calls Tryz.prog 3 #[.string ⟨nm.toArray⟩,.slice A n c,.slice Af nf cf,.slice Ag ng cg] w fun e w'=>e= .returned (.bool true)∧Bel w w':=by
 have HAl:=hiD (fun (W:World) (h:Bel w W)=>k1_ W (hw.keep h))
 have HB:Hid (Bel w w):=hiD (bR _ _)
 clear hw hv hf hg hlt hLf hLg
 go_enter Tryz.func3,Tryz.ntmps3
 go_wp2_with (go_at_call 6;(with_reducible refine(HAl.out _ HB.out).mono ?_);rintro e wa ⟨rfl,hb⟩;have HB:=hiD (tQ HB.out hb);clear hb)
 go_ret
 exact⟨rfl,HB.out⟩
theorem zjy_ (nm:LU) (l:List Ent.AttrE) (A:Option Addr) (n c:Nat) (hn:l.length=n) (f g:List Fil.FilE) (Af Ag:Option Addr) (nf cf ng cg:Nat) (hnf:f.length=nf) (hng:g.length=ng) (w:World) (hw:Env w) (hv:AttrsA w (.slice A n c) l) (hf:FilsA w (.slice Af nf cf) f) (hg:FilsA w (.slice Ag ng cg) g)
  (hlt:∀ a∈l,a.typ.length≤140737488351232∧a.vals.length≤4611686018427387904) (hLf:∀ p∈f,z0p_ p∧p.n≤9223372036854775807) (hLg:∀ p∈g,z0p_ p∧p.n≤9223372036854775807)
  (h1:¬ (30:Int)<(nf:Int)) (h2:¬ (30:Int)<(ng:Int)) (h3:(60:Int)<(n:Int)):Calls Tryz.prog 3 #[.string ⟨nm.toArray⟩,.slice A n c,.slice Af nf cf,.slice Ag ng cg] w fun e w'=>e= .returned (.bool true)∧Bel w w':=by
 have HAl:=hiD (fun (W:World) (h:Bel w W)=>k1_ W (hw.keep h))
 have HB:Hid (Bel w w):=hiD (bR _ _)
 clear hw hv hf hg hlt hLf hLg
 go_enter Tryz.func3,Tryz.ntmps3
 go_wp2_with (go_at_call 6;(with_reducible refine(HAl.out _ HB.out).mono ?_);rintro e wa ⟨rfl,hb⟩;have HB:=hiD (tQ HB.out hb);clear hb)
 go_ret
 exact⟨rfl,HB.out⟩
theorem zlo_ (nm:LU) (l:List Ent.AttrE) (A:Option Addr) (n c:Nat) (hn:l.length=n) (f g:List Fil.FilE) (Af Ag:Option Addr) (nf cf ng cg:Nat) (hnf:f.length=nf) (hng:g.length=ng) (w:World) (hw:Env w) (hv:AttrsA w (.slice A n c) l) (hf:FilsA w (.slice Af nf cf) f) (hg:FilsA w (.slice Ag ng cg) g)
  (hlt:∀ a∈l,a.typ.length≤140737488351232∧a.vals.length≤4611686018427387904) (hLf:∀ p∈f,z0p_ p∧p.n≤9223372036854775807) (hLg:∀ p∈g,z0p_ p∧p.n≤9223372036854775807)
  (h1:¬ (30:Int)<(nf:Int)) (h2:¬ (30:Int)<(ng:Int)) (h3:¬ (60:Int)<(n:Int)) (h4:Fil.validF f=false):Calls Tryz.prog 3 #[.string ⟨nm.toArray⟩,.slice A n c,.slice Af nf cf,.slice Ag ng cg] w fun e w'=>e= .returned (.bool true)∧Bel w w':=by
 have HAl:=hiD (fun (W:World) (h:Bel w W)=>k1_ W (hw.keep h))
 have HB:Hid (Bel w w):=hiD (bR _ _)
 have HVf:=hiD (fun (W:World) (h:Bel w W)=>xb_ (k:=30) ⟨by omega,hLf⟩ (by decide) (.slice Af nf cf) W (hw.keep h) (hf.below h))
 rw[h4] at HVf
 clear hw hv hf hg hlt hLf hLg
 go_enter Tryz.func3,Tryz.ntmps3
 go_wp2_with (first
  |(go_at_call 5;(with_reducible refine(HVf.out _ HB.out).mono ?_);rintro e wv ⟨rfl,hb⟩;have HB:=hiD (tQ HB.out hb);clear hb)
  |(go_at_call 6;(with_reducible refine(HAl.out _ HB.out).mono ?_);rintro e wa ⟨rfl,hb⟩;have HB:=hiD (tQ HB.out hb);clear hb))
 go_ret
 exact⟨rfl,HB.out⟩
theorem zk5_ (nm:LU) (l:List Ent.AttrE) (A:Option Addr) (n c:Nat) (hn:l.length=n) (f g:List Fil.FilE) (Af Ag:Option Addr) (nf cf ng cg:Nat) (hnf:f.length=nf) (hng:g.length=ng) (w:World) (hw:Env w) (hv:AttrsA w (.slice A n c) l) (hf:FilsA w (.slice Af nf cf) f) (hg:FilsA w (.slice Ag ng cg) g)
  (hlt:∀ a∈l,a.typ.length≤140737488351232∧a.vals.length≤4611686018427387904) (hLf:∀ p∈f,z0p_ p∧p.n≤9223372036854775807) (hLg:∀ p∈g,z0p_ p∧p.n≤9223372036854775807)
  (h1:¬ (30:Int)<(nf:Int)) (h2:¬ (30:Int)<(ng:Int)) (h3:¬ (60:Int)<(n:Int)) (h4:Fil.validF f=true) (h5:Fil.validF g=false):Calls Tryz.prog 3 #[.string ⟨nm.toArray⟩,.slice A n c,.slice Af nf cf,.slice Ag ng cg] w fun e w'=>e= .returned (.bool true)∧Bel w w':=by
 have HAl:=hiD (fun (W:World) (h:Bel w W)=>k1_ W (hw.keep h))
 have HB:Hid (Bel w w):=hiD (bR _ _)
 have HVf:=hiD (fun (W:World) (h:Bel w W)=>xb_ (k:=30) ⟨by omega,hLf⟩ (by decide) (.slice Af nf cf) W (hw.keep h) (hf.below h))
 rw[h4] at HVf
 have HVg:=hiD (fun (W:World) (h:Bel w W)=>xb_ (k:=30) ⟨by omega,hLg⟩ (by decide) (.slice Ag ng cg) W (hw.keep h) (hg.below h))
 rw[h5] at HVg
 clear hw hv hf hg hlt hLf hLg
 go_enter Tryz.func3,Tryz.ntmps3
 go_wp2_with (first
  |(go_at_call 5;(with_reducible refine(HVf.out _ HB.out).mono ?_);rintro e wv ⟨rfl,hb⟩;have HB:=hiD (tQ HB.out hb);clear hb)
  |(go_at_call 5;(with_reducible refine(HVg.out _ HB.out).mono ?_);rintro e wv ⟨rfl,hb⟩;have HB:=hiD (tQ HB.out hb);clear hb)
  |(go_at_call 6;(with_reducible refine(HAl.out _ HB.out).mono ?_);rintro e wa ⟨rfl,hb⟩;have HB:=hiD (tQ HB.out hb);clear hb))
 go_ret
 exact⟨rfl,HB.out⟩
theorem zkz_ (nm:LU) (l:List Ent.AttrE) (A:Option Addr) (n c:Nat) (hn:l.length=n) (f g:List Fil.FilE) (Af Ag:Option Addr) (nf cf ng cg:Nat) (hnf:f.length=nf) (hng:g.length=ng) (w:World) (hw:Env w) (hv:AttrsA w (.slice A n c) l) (hf:FilsA w (.slice Af nf cf) f) (hg:FilsA w (.slice Ag ng cg) g)
  (hlt:∀ a∈l,a.typ.length≤140737488351232∧a.vals.length≤4611686018427387904) (hLf:∀ p∈f,z0p_ p∧p.n≤9223372036854775807) (hLg:∀ p∈g,z0p_ p∧p.n≤9223372036854775807)
  (h1:¬ (30:Int)<(nf:Int)) (h2:¬ (30:Int)<(ng:Int)) (h3:¬ (60:Int)<(n:Int)) (h4:Fil.validF f=true) (h5:Fil.validF g=true) (h6:Fil.validF (Fil.deepL f g)=false):Calls Tryz.prog 3 #[.string ⟨nm.toArray⟩,.slice A n c,.slice Af nf cf,.slice Ag ng cg] w fun e w'=>e= .returned (.bool true)∧Bel w w':=by
 have HAl:=hiD (fun (W:World) (h:Bel w W)=>k1_ W (hw.keep h))
 have HB:Hid (Bel w w):=hiD (bR _ _)
 have HVf:=hiD (fun (W:World) (h:Bel w W)=>xb_ (k:=30) ⟨by omega,hLf⟩ (by decide) (.slice Af nf cf) W (hw.keep h) (hf.below h))
 rw[h4] at HVf
 have HVg:=hiD (fun (W:World) (h:Bel w W)=>xb_ (k:=30) ⟨by omega,hLg⟩ (by decide) (.slice Ag ng cg) W (hw.keep h) (hg.below h))
 rw[h5] at HVg
 have HGf:Hid (Good8 30 f):=hiD ⟨by omega,hLf⟩
 have HGg:Hid (Good8 30 g):=hiD ⟨by omega,hLg⟩
 have HNf:=hiD (zce_ h4)
 have HNg:=hiD (zce_ h5)
 have HN1:∀ (x:Fil.FilE) (L:List Fil.FilE),Hid (x::L≠[]):=fun x L=>hiD (by simp)
 have HG1:=fun (op:Int)=>hiD (HGf.out.op op 1 (by decide))
 have HG2:=fun (op:Int)=>hiD (HGg.out.op op 1 (by decide))
 have HGo:=hiD (((HG1 2).out.app (HG2 2).out).op 1 2 (by decide))
 have HGd:Hid (Good8 64 (Fil.deepL f g)):=hiD (HGo.out.op 2 1 (by decide))
 have HVd:=hiD (fun (W:World) (h:Bel w W) (u:Value) (hu:FilsA W u (Fil.deepL f g))=>xb_ HGd.out (by decide) u W (hw.keep h) hu)
 have hf:=hiD hf
 have hg:=hiD hg
 rw[h6] at HVd
 clear hw hv hlt hLf hLg
 go_enter Tryz.func3,Tryz.ntmps3
 go_wp2_with (first
  |(go_at_call 7;(with_reducible refine(y8_ 2 HGf.out (by decide) HNf.out _ _ (qm_ _ _ _ (hf.out.below HB.out))).mono ?_);rintro e wj ⟨hb,A1,n1,c1,rfl,hu⟩;have HU1:=hiD hu;have HB:=hiD (z7j_ HB.out hb);clear hb hu)
  |(go_at_call 7;(with_reducible refine(y8_ 2 HGg.out (by decide) HNg.out _ _ (qm_ _ _ _ (hg.out.below HB.out))).mono ?_);rintro e wj ⟨hb,A1,n1,c1,rfl,hu⟩;have HU2:=hiD hu;have HU1:=hiD (HU1.out.below (belK hb));have HB:=hiD (z7j_ HB.out hb);clear hb hu)
  |(go_at_call 7;(with_reducible refine(jq_ 1 (HG1 2).out (by decide) (HG2 2).out (by decide) (HN1 _ _).out (HN1 _ _).out _ _ (q7_ _ _ _ _ _ HU1.out HU2.out)).mono ?_);rintro e wj ⟨hb,A1,n1,c1,rfl,hu⟩;have HU3:=hiD hu;have HB:=hiD (z7j_ HB.out hb);clear hb hu)
  |(go_at_call 7;(with_reducible refine(y8_ 2 HGo.out (by decide) (HN1 _ _).out _ _ (qm_ _ _ _ HU3.out)).mono ?_);rintro e wj ⟨hb,A1,n1,c1,rfl,hu⟩;have HD:Hid (FilsA wj (.slice A1 n1 c1) (Fil.deepL f g)):=hiD hu;have HB:=hiD (z7j_ HB.out hb);clear hb hu)
  |(go_at_call 5;(with_reducible refine(HVf.out _ HB.out).mono ?_);rintro e wv ⟨rfl,hb⟩;have HB:=hiD (tQ HB.out hb);clear hb)
  |(go_at_call 5;(with_reducible refine(HVg.out _ HB.out).mono ?_);rintro e wv ⟨rfl,hb⟩;have HB:=hiD (tQ HB.out hb);clear hb)
  |(go_at_call 5;(with_reducible refine(HVd.out _ HB.out _ HD.out).mono ?_);rintro e wv ⟨rfl,hb⟩;have HD:=hiD (HD.out.below hb);have HB:=hiD (tQ HB.out hb);clear hb)
  |(go_at_call 6;(with_reducible refine(HAl.out _ HB.out).mono ?_);rintro e wa ⟨rfl,hb⟩;have HB:=hiD (tQ HB.out hb);clear hb))
 go_ret
 exact⟨rfl,HB.out⟩
theorem zf8_ (nm:LU) (l:List Ent.AttrE) (A:Option Addr) (n c:Nat) (hn:l.length=n) (f g:List Fil.FilE) (Af Ag:Option Addr) (nf cf ng cg:Nat) (hnf:f.length=nf) (hng:g.length=ng) (w:World) (hw:Env w) (hv:AttrsA w (.slice A n c) l) (hf:FilsA w (.slice Af nf cf) f) (hg:FilsA w (.slice Ag ng cg) g)
  (hlt:∀ a∈l,a.typ.length≤140737488351232∧a.vals.length≤4611686018427387904) (hLf:∀ p∈f,z0p_ p∧p.n≤9223372036854775807) (hLg:∀ p∈g,z0p_ p∧p.n≤9223372036854775807)
  (h1:¬ (30:Int)<(nf:Int)) (h2:¬ (30:Int)<(ng:Int)) (h3:¬ (60:Int)<(n:Int)) (h4:Fil.validF f=true) (h5:Fil.validF g=true) (h6:Fil.validF (Fil.deepL f g)=true):Calls Tryz.prog 3 #[.string ⟨nm.toArray⟩,.slice A n c,.slice Af nf cf,.slice Ag ng cg] w fun e w'=>e= .returned (.bool true)∧Bel w w':=by
 have HAl:=hiD (fun (W:World) (h:Bel w W)=>k1_ W (hw.keep h))
 have HB:Hid (Bel w w):=hiD (bR _ _)
 have HVf:=hiD (fun (W:World) (h:Bel w W)=>xb_ (k:=30) ⟨by omega,hLf⟩ (by decide) (.slice Af nf cf) W (hw.keep h) (hf.below h))
 rw[h4] at HVf
 have HVg:=hiD (fun (W:World) (h:Bel w W)=>xb_ (k:=30) ⟨by omega,hLg⟩ (by decide) (.slice Ag ng cg) W (hw.keep h) (hg.below h))
 rw[h5] at HVg
 have HGf:Hid (Good8 30 f):=hiD ⟨by omega,hLf⟩
 have HGg:Hid (Good8 30 g):=hiD ⟨by omega,hLg⟩
 have HNf:=hiD (zce_ h4)
 have HNg:=hiD (zce_ h5)
 have HN1:∀ (x:Fil.FilE) (L:List Fil.FilE),Hid (x::L≠[]):=fun x L=>hiD (by simp)
 have HG1:=fun (op:Int)=>hiD (HGf.out.op op 1 (by decide))
 have HG2:=fun (op:Int)=>hiD (HGg.out.op op 1 (by decide))
 have HGo:=hiD (((HG1 2).out.app (HG2 2).out).op 1 2 (by decide))
 have HGd:Hid (Good8 64 (Fil.deepL f g)):=hiD (HGo.out.op 2 1 (by decide))
 have HVd:=hiD (fun (W:World) (h:Bel w W) (u:Value) (hu:FilsA W u (Fil.deepL f g))=>xb_ HGd.out (by decide) u W (hw.keep h) hu)
 have hf:=hiD hf
 have hg:=hiD hg
 rw[h6] at HVd
 have HBa:=hiD (fun (W:World) (h:Bel w W)=>zpb_ W (hw.keep h))
 obtain⟨⟨k,en⟩,hR⟩:∃ R,Ent.makeE (zq_ ye_) nm l=R:=⟨_,rfl⟩
 have hlim:=zib_ hR
 have HMk:=hiD (fun (W:World) (s:Nat) (ps:List Nat) (h:Bel w W) (hS:SchAt W s ps ye_)=>zow_ s ps nm l (.slice A n c) W (hw.keep h) hS (hv.below h) (by omega) hlt)
 rw[hR] at HMk
 unfold zo0_ at HMk
 obtain⟨a,b,ha3,hb3,e1,e2,e3,e4,e5,e6,e7,e8,e9,e10,e11,e12⟩:=Fil.logic_law (zl6_ en) (zbs_ en) h4 h5 (by omega) (by omega) h6
 obtain⟨t1,t2,t3,t4⟩:=zgi_ ha3 hb3
 rw[t1] at e7
 rw[t2] at e8
 rw[t3] at e9
 rw[t4] at e12
 clear t1 t2 t3 t4
 have HEn:=hiD (And.intro hlim (And.intro hw trivial))
 clear hv hlt hLf hLg hR hlim hw
 obtain⟨edn,eat⟩:=en
 simp only at HMk HEn
 go_enter Tryz.func3,Tryz.ntmps3
 go_upto_region 8 with (first
  |(go_at_call 7;(with_reducible refine(y8_ 2 HGf.out (by decide) HNf.out _ _ (qm_ _ _ _ (hf.out.below HB.out))).mono ?_);rintro e wj ⟨hb,A1,n1,c1,rfl,hu⟩;have HU1:=hiD hu;have HB:=hiD (z7j_ HB.out hb);clear hb hu)
  |(go_at_call 7;(with_reducible refine(y8_ 2 HGg.out (by decide) HNg.out _ _ (qm_ _ _ _ (hg.out.below HB.out))).mono ?_);rintro e wj ⟨hb,A1,n1,c1,rfl,hu⟩;have HU2:=hiD hu;have HU1:=hiD (HU1.out.below (belK hb));have HB:=hiD (z7j_ HB.out hb);clear hb hu)
  |(go_at_call 7;(with_reducible refine(jq_ 1 (HG1 2).out (by decide) (HG2 2).out (by decide) (HN1 _ _).out (HN1 _ _).out _ _ (q7_ _ _ _ _ _ HU1.out HU2.out)).mono ?_);rintro e wj ⟨hb,A1,n1,c1,rfl,hu⟩;have HU3:=hiD hu;have HB:=hiD (z7j_ HB.out hb);clear hb hu)
  |(go_at_call 7;(with_reducible refine(y8_ 2 HGo.out (by decide) (HN1 _ _).out _ _ (qm_ _ _ _ HU3.out)).mono ?_);rintro e wj ⟨hb,A1,n1,c1,rfl,hu⟩;have HD:Hid (FilsA wj (.slice A1 n1 c1) (Fil.deepL f g)):=hiD hu;have HB:=hiD (z7j_ HB.out hb);clear hb hu)
  |(go_at_call 5;(with_reducible refine(HVf.out _ HB.out).mono ?_);rintro e wv ⟨rfl,hb⟩;have HB:=hiD (tQ HB.out hb);clear hb)
  |(go_at_call 5;(with_reducible refine(HVg.out _ HB.out).mono ?_);rintro e wv ⟨rfl,hb⟩;have HB:=hiD (tQ HB.out hb);clear hb)
  |(go_at_call 5;(with_reducible refine(HVd.out _ HB.out _ HD.out).mono ?_);rintro e wv ⟨rfl,hb⟩;have HD:=hiD (HD.out.below hb);have HB:=hiD (tQ HB.out hb);clear hb)
  |(go_at_call 8;(with_reducible refine(HBa.out _ HB.out).mono ?_);rintro e wb ⟨s,ps,rfl,hb,hS⟩;have HD:=hiD (HD.out.below hb);have HS:=hiD hS;have HB:=hiD (tQ HB.out hb);clear hb hS)
  |(go_at_call 9;(with_reducible refine(HMk.out _ s ps HB.out HS.out).mono ?_);rintro e wm ⟨hb,Ae,ce,rfl,hA⟩;have HD:=hiD (HD.out.below hb);have HS:=hiD (HS.out.below hb);have HA:=hiD hA;have HB:=hiD (tQ HB.out hb);clear hb))
 have hbx:=q5_ wm (.cells #[.string ⟨edn.toArray⟩,.slice Ae eat.length ce] 30)
 have hkE:=Bk.new wm 30 #[.string ⟨edn.toArray⟩,.slice Ae eat.length ce]
 have HD8:=hiD (HD.out.below hbx)
 have HS8:=hiD (HS.out.below hbx)
 have HA8:=hiD (HA.out.below hbx)
 have HB8:=hiD (tQ HB.out hbx)
 clear hbx HD HS HA HMk HBa HVf HVg HVd HB HU1 HU2 HU3
 generalize wm.alloc (.cells #[.string ⟨edn.toArray⟩,.slice Ae eat.length ce] 30)=w8 at *
 generalize wm.heap.size=p at *
 obtain⟨hlim,hw, -⟩:=HEn.out
 have hw8:Env w8:=hw.keep HB8.out
 have HF8:=hiD (hf.out.below HB8.out)
 have HG8:=hiD (hg.out.below HB8.out)
 have HK8:Hid (∀ W,Bel w8 W→W.cell? ⟨p,0,none⟩=some (.string ⟨edn.toArray⟩)∧W.cell? ⟨p,1,none⟩=some (.slice Ae eat.length ce)):=hiD fun W h=>⟨(hkE.below h).cell 0,(hkE.below h).cell 1⟩
 have HEV:=fun {k:Nat} {L:List Fil.FilE} (h:Good8 k L) (hk:k≤100000) {r:Int} (hr:Fil.evalL (zl6_ ⟨edn,eat⟩) L=r)=>hiD (fun (W:World) (v:Value) (hb:Bel w8 W) (hfl:FilsA W v L)=>zps_ s ps ⟨edn,eat⟩ Ae eat.length ce w8 hw8 HS8.out HA8.out hlim h hk hr v W hb hfl)
 have HE1:=HEV HGf.out (by decide) e1
 have HE2:=HEV HGg.out (by decide) e2
 have HE3:=HEV (HG1 2).out (by decide) e3
 have HE4:=HEV ((HG1 2).out.op 2 1 (by decide)) (by decide) e4
 have HE5:=HEV ((HGf.out.app HGg.out).op 0 2 (by decide)) (by decide) e5
 have HE6:=HEV ((HGf.out.app HGg.out).op 1 2 (by decide)) (by decide) e6
 have HE7:=HEV ((HGg.out.app HGf.out).op 0 2 (by decide)) (by decide) e7
 have HE8:=HEV ((HGg.out.app HGf.out).op 1 2 (by decide)) (by decide) e8
 have HE9:=HEV HGd.out (by decide) e9
 have HE10:=HEV (Good8.nil.op 0 0 (by decide)) (by decide) e10
 have HE11:=HEV (Good8.nil.op 1 0 (by decide)) (by decide) e11
 have HE12:=HEV ((HGf.out.app HGf.out).op 0 2 (by decide)) (by decide) e12
 simp only at HE1 HE2 HE3 HE4 HE5 HE6 HE7 HE8 HE9 HE10 HE11 HE12
 obtain⟨an,rfl⟩:∃ an:Nat,a=(an:Int):=⟨a.toNat,by rcases ha3 with h|h|h<;>omega⟩
 obtain⟨bn,rfl⟩:∃ bn:Nat,b=(bn:Int):=⟨b.toNat,by rcases hb3 with h|h|h<;>omega⟩
 have HTA:=hiD (And.intro ha3 hb3)
 have ha2:an≤2:=by rcases ha3 with h|h|h<;>omega
 have hb2:bn≤2:=by rcases hb3 with h|h|h<;>omega
 clear HEV e1 e2 e3 e4 e5 e6 e7 e8 e9 e10 e11 e12 ha3 hb3 hkE hlim hw hw8 HEn HS8 HA8 hf hg
 have hd:=(bR w8.heap.size w8).drew
 have HC:=hiD hd
 clear hd
 go_region_held3 (fun W=>W.cell? ⟨p,0,none⟩=some (.string ⟨edn.toArray⟩)∧W.cell? ⟨p,1,none⟩=some (.slice Ae eat.length ce)) (first|exact HK8.out _ HC.out) (first
  |(go_at_call 10;(with_reducible refine(HE1.out _ _ HC.out (HF8.out.below HC.out)).mono ?_);rintro e we ⟨rfl,hb⟩;have HC:=hiD (tQ HC.out hb);clear hb)
  |(go_at_call 10;(with_reducible refine(HE2.out _ _ HC.out (HG8.out.below HC.out)).mono ?_);rintro e we ⟨rfl,hb⟩;have HC:=hiD (tQ HC.out hb);clear hb)
  |fail)
 go_upto_region 10 with fail
 have hby:=q5_ we (.cells #[.int .i64 1,.int .i64 0,.int .i64 2] 34)
 have hkN:=Bk.new we 34 #[.int .i64 1,.int .i64 0,.int .i64 2]
 have HC8:=hiD (tQ HC.out hby)
 clear hby HC
 generalize we.alloc (.cells #[.int .i64 1,.int .i64 0,.int .i64 2] 34)=w10 at *
 generalize we.heap.size=q at *
 have HK10:Hid (∀ W,Bel w10 W→W.cell? ⟨p,0,none⟩=some (.string ⟨edn.toArray⟩)∧W.cell? ⟨p,1,none⟩=some (.slice Ae eat.length ce)∧W.cell? ⟨q,an,none⟩=some (.int .i64 (Fil.notV (an:Int)))):=hiD fun W h=>by
  have h8:=HK8.out W (tQ HC8.out h)
  refine⟨h8.1,h8.2,?_⟩
  have hc:=(hkN.below h).cell an
  rw[hc]
  rcases HTA.out.1 with h|h|h
  ·obtain rfl:an=0:=by omega
   rfl
  ·obtain rfl:an=1:=by omega
   rfl
  ·obtain rfl:an=2:=by omega
   rfl
 have HF10:=hiD (HF8.out.below HC8.out)
 have HG10:=hiD (HG8.out.below HC8.out)
 have HD10:=hiD (HD8.out.below HC8.out)
 have HE3:=hiD (fun W v (hb:Bel w10 W) hfl=>HE3.out W v (tQ HC8.out hb) hfl)
 have HE4:=hiD (fun W v (hb:Bel w10 W) hfl=>HE4.out W v (tQ HC8.out hb) hfl)
 have HE5:=hiD (fun W v (hb:Bel w10 W) hfl=>HE5.out W v (tQ HC8.out hb) hfl)
 have HE6:=hiD (fun W v (hb:Bel w10 W) hfl=>HE6.out W v (tQ HC8.out hb) hfl)
 have HE7:=hiD (fun W v (hb:Bel w10 W) hfl=>HE7.out W v (tQ HC8.out hb) hfl)
 have HE8:=hiD (fun W v (hb:Bel w10 W) hfl=>HE8.out W v (tQ HC8.out hb) hfl)
 have HE9:=hiD (fun W v (hb:Bel w10 W) hfl=>HE9.out W v (tQ HC8.out hb) hfl)
 have HE10:=hiD (fun W v (hb:Bel w10 W) hfl=>HE10.out W v (tQ HC8.out hb) hfl)
 have HE11:=hiD (fun W v (hb:Bel w10 W) hfl=>HE11.out W v (tQ HC8.out hb) hfl)
 have HE12:=hiD (fun W v (hb:Bel w10 W) hfl=>HE12.out W v (tQ HC8.out hb) hfl)
 have HAl:=hiD (fun (W:World) (h:Bel w10 W)=>HAl.out W (HB8.out.trans ((tQ HC8.out h).mono HB8.out.size)))
 have HBW:=hiD (tQ HB8.out HC8.out)
 obtain⟨na,hna⟩:∃ x,Fil.notV (an:Int)=x:=⟨_,rfl⟩
 obtain⟨Av,hAv⟩:∃ x,Fil.someF 0 1 [(an:Int),(bn:Int)]=x:=⟨_,rfl⟩
 obtain⟨Ov,hOv⟩:∃ x,Fil.someF 1 0 [(an:Int),(bn:Int)]=x:=⟨_,rfl⟩
 rw[hna] at HE3 HK10
 rw[hAv] at HE5 HE7 HE9
 rw[hOv] at HE6 HE8
 have HTB:=hiD (And.intro HTA.out (And.intro hAv hOv))
 clear hkN HF8 HG8 HD8 HK8 HC8 HB8 HE1 HE2 HTA hna hAv hOv
 have ha3:(an:Int)<3:=by omega
 have ha0:(0:Int)≤(an:Int):=by omega
 have HC:Hid (Bel w10 w10):=hiD (bR _ _)
 go_cut [94] (fun s94 wx=>s94= .bool false∧Aside (Bel w10 wx))
 case first=>
  as_aux_lemma=>
  go_region_held3 (fun W=>W.cell? ⟨p,0,none⟩=some (.string ⟨edn.toArray⟩)∧W.cell? ⟨p,1,none⟩=some (.slice Ae eat.length ce)∧W.cell? ⟨q,an,none⟩=some (.int .i64 na)) (first|exact HK10.out _ HC.out|exact HK10.out _ HC.out.drew|exact HK10.out _ (HC.out.alloc HC.out.size _).drew|exact HK10.out _ ((HC.out.alloc HC.out.size _).alloc (HC.out.alloc HC.out.size _).size _).drew|exact HK10.out _ (HC.out.alloc HC.out.size _)|exact HK10.out _ ((HC.out.alloc HC.out.size _).alloc (HC.out.alloc HC.out.size _).size _)) (first
   |(go_at_call 10;(with_reducible refine(HE3.out _ _ HC.out HU.out).mono ?_);rintro e we ⟨rfl,hb⟩;have HC:=hiD (tQ HC.out hb);clear hb)
   |(go_at_call 10;(with_reducible refine(HE4.out _ _ HC.out HUU.out).mono ?_);rintro e we ⟨rfl,hb⟩;have HC:=hiD (tQ HC.out hb);clear hb)
   |(go_at_call 7;(first|(with_reducible refine(y8_ 2 HGf.out (by decide) HNf.out _ _ (qm_ _ _ _ (HF10.out.below HC.out))).mono ?_)|(with_reducible refine(y8_ 2 HGf.out (by decide) HNf.out _ _ ((qm_ _ _ _ (HF10.out.below HC.out)).drew)).mono ?_));rintro e wj ⟨hb,A1,n1,c1,rfl,hu⟩;have HU:=hiD hu;have HC:=hiD (show Bel w10 wj by first|exact z7j_ HC.out hb|exact zfn_ HC.out hb);clear hb hu)
   |(go_at_call 7;(first|(with_reducible refine(y8_ 2 (HG1 2).out (by decide) (HN1 _ _).out _ _ (qm_ _ _ _ HU.out)).mono ?_)|(with_reducible refine(y8_ 2 (HG1 2).out (by decide) (HN1 _ _).out _ _ ((qm_ _ _ _ HU.out).drew)).mono ?_));rintro e wj ⟨hb,A1,n1,c1,rfl,hu⟩;have HUU:=hiD hu;have HC:=hiD (show Bel w10 wj by first|exact z7j_ HC.out hb|exact zfn_ HC.out hb);clear hb hu)
   |fail)
  all_goals
   go_wp2_with fail
   go_meet
   exact⟨rfl,HC.out⟩
 case rest=>
 obtain⟨rfl,AC⟩:=hcut
 have HC:=hiD AC.out
 clear AC
 go_upto_region 12 with fail
 have HK12:Hid (∀ W,Bel w10 W→W.cell? ⟨p,0,none⟩=some (.string ⟨edn.toArray⟩)∧W.cell? ⟨p,1,none⟩=some (.slice Ae eat.length ce)):=hiD fun W h=>⟨(HK10.out W h).1,(HK10.out W h).2.1⟩
 clear HE3 HE4 HK10
 have HFc:=hiD (HF10.out.below HC.out)
 have HGc:=hiD (HG10.out.below HC.out)
 have HP0:=hiD (q7_ wc (.slice Af nf cf) (.slice Ag ng cg) f g HFc.out HGc.out)
 have hbo:=q5_ wc (.cells #[.slice Af nf cf,.slice Ag ng cg] 23)
 have hbp:=q5_ (wc.alloc (.cells #[.slice Af nf cf,.slice Ag ng cg] 23)) (.cells #[.slice Af nf cf,.slice Ag ng cg] 23)
 have HP1:=hiD (HP0.out.below hbp)
 have HP2:Hid (PartsA ((wc.alloc (.cells #[.slice Af nf cf,.slice Ag ng cg] 23)).alloc (.cells #[.slice Af nf cf,.slice Ag ng cg] 23)) (.slice (some ⟨wc.heap.size+1,0,none⟩) 2 2) [f,g]):=hiD (by
  have h:=q7_ (wc.alloc (.cells #[.slice Af nf cf,.slice Ag ng cg] 23)) (.slice Af nf cf) (.slice Ag ng cg) f g (HFc.out.below hbo) (HGc.out.below hbo)
  rw[World.size_alloc] at h
  exact h)
 have HB2:=hiD (HC.out.trans ((tQ hbo hbp).drew.mono HC.out.size))
 clear hbo hbp HFc HGc
 go_cut [16,17] (fun s16 s17 wx=>s16= .int .i64 Av∧s17= .int .i64 Ov∧Aside (Bel w10 wx))
 case first=>
  as_aux_lemma=>
  go_region_held3 (fun W=>W.cell? ⟨p,0,none⟩=some (.string ⟨edn.toArray⟩)∧W.cell? ⟨p,1,none⟩=some (.slice Ae eat.length ce)) (first|exact HK12.out _ HC.out|exact HK12.out _ HC.out.drew|exact HK12.out _ (HC.out.alloc HC.out.size _).drew|exact HK12.out _ ((HC.out.alloc HC.out.size _).alloc (HC.out.alloc HC.out.size _).size _).drew|exact HK12.out _ (HC.out.alloc HC.out.size _)|exact HK12.out _ ((HC.out.alloc HC.out.size _).alloc (HC.out.alloc HC.out.size _).size _)) (first
   |(go_at_call 7;(with_reducible refine(jq_ 0 HGf.out (by decide) HGg.out (by decide) HNf.out HNg.out _ _ HP0.out.drew).mono ?_);rintro e wj ⟨hb,A1,n1,c1,rfl,hu⟩;have HU:=hiD hu;have HC:=hiD (zfn_ HC.out hb);have HPn:=hiD (q7_ wj (.slice Af nf cf) (.slice Ag ng cg) f g (HF10.out.below HC.out) (HG10.out.below HC.out));clear hb hu)
   |(go_at_call 7;(with_reducible refine(jq_ 0 HGf.out (by decide) HGg.out (by decide) HNf.out HNg.out _ _ HP1.out.drew).mono ?_);rintro e wj ⟨hb,A1,n1,c1,rfl,hu⟩;have HU:=hiD hu;have HQ:=hiD (HP2.out.drew.below hb);have HC:=hiD (tQ HB2.out hb);clear hb hu)
   |(go_at_call 7;(with_reducible refine(jq_ 0 HGf.out (by decide) HGg.out (by decide) HNf.out HNg.out _ _ HP2.out.drew).mono ?_);rintro e wj ⟨hb,A1,n1,c1,rfl,hu⟩;have HU:=hiD hu;have HQ:=hiD (HP1.out.drew.below hb);have HC:=hiD (tQ HB2.out hb);clear hb hu)
   |(go_at_call 10;(with_reducible refine(HE5.out _ _ HC.out HU.out).mono ?_);rintro e we ⟨rfl,hb⟩;have HQ:=hiD (HQ.out.below hb);have HC:=hiD (tQ HC.out hb);clear hb)
   |(go_at_call 10;(with_reducible refine(HE5.out _ _ HC.out HU.out).mono ?_);rintro e we ⟨rfl,hb⟩;have HC:=hiD (tQ HC.out hb);clear hb)
   |(go_at_call 10;(with_reducible refine(HE5.out _ _ (HC.out.alloc HC.out.size _) (HU.out.below (q5_ _ _))).mono ?_);rintro e we ⟨rfl,hb⟩;have HQ:=hiD (HPn.out.below hb);have HC:=hiD (z7j_ HC.out hb);clear hb)
   |(go_at_call 7;(with_reducible refine(jq_ 1 HGf.out (by decide) HGg.out (by decide) HNf.out HNg.out _ _ HQ.out).mono ?_);rintro e wj ⟨hb,A1,n1,c1,rfl,hu⟩;have HU:=hiD hu;have HC:=hiD (tQ HC.out hb);clear hb hu)
   |(go_at_call 7;(with_reducible refine(jq_ 1 HGf.out (by decide) HGg.out (by decide) HNf.out HNg.out _ _ (q7_ _ _ _ _ _ (HF10.out.below HC.out) (HG10.out.below HC.out))).mono ?_);rintro e wj ⟨hb,A1,n1,c1,rfl,hu⟩;have HU:=hiD hu;have HC:=hiD (z7j_ HC.out hb);clear hb hu)
   |(go_at_call 10;(with_reducible refine(HE6.out _ _ HC.out HU.out).mono ?_);rintro e we ⟨rfl,hb⟩;have HC:=hiD (tQ HC.out hb);clear hb)
   |fail)
  all_goals
   go_wp2_with fail
   go_meet
   exact⟨rfl,rfl,HC.out⟩
 case rest=>
 obtain⟨rfl,rfl,AC⟩:=hcut
 have HC:=hiD AC.out
 clear AC HP0 HP1 HP2 HB2 HE5 HE6
 go_upto_region 13 with fail
 go_cut [136] (fun s136 wx=>s136= .bool false∧Aside (Bel w10 wx))
 case first=>
  as_aux_lemma=>
  go_region_held3 (fun W=>W.cell? ⟨p,0,none⟩=some (.string ⟨edn.toArray⟩)∧W.cell? ⟨p,1,none⟩=some (.slice Ae eat.length ce)) (first|exact HK12.out _ HC.out|exact HK12.out _ HC.out.drew|exact HK12.out _ (HC.out.alloc HC.out.size _).drew|exact HK12.out _ ((HC.out.alloc HC.out.size _).alloc (HC.out.alloc HC.out.size _).size _).drew|exact HK12.out _ (HC.out.alloc HC.out.size _)|exact HK12.out _ ((HC.out.alloc HC.out.size _).alloc (HC.out.alloc HC.out.size _).size _)) (first
   |(go_at_call 10;(with_reducible refine(HE7.out _ _ HC.out HU.out).mono ?_);rintro e we ⟨rfl,hb⟩;have HC:=hiD (tQ HC.out hb);clear hb)
   |(go_at_call 10;(with_reducible refine(HE8.out _ _ HC.out HU.out).mono ?_);rintro e we ⟨rfl,hb⟩;have HC:=hiD (tQ HC.out hb);clear hb)
   |(go_at_call 10;(with_reducible refine(HE9.out _ _ HC.out (HD10.out.below HC.out)).mono ?_);rintro e we ⟨rfl,hb⟩;have HC:=hiD (tQ HC.out hb);clear hb)
   |(go_at_call 7;(first|(with_reducible refine(jq_ 0 HGg.out (by decide) HGf.out (by decide) HNg.out HNf.out _ _ (q7_ _ _ _ _ _ (HG10.out.below HC.out) (HF10.out.below HC.out))).mono ?_)|(with_reducible refine(jq_ 0 HGg.out (by decide) HGf.out (by decide) HNg.out HNf.out _ _ ((q7_ _ _ _ _ _ (HG10.out.below HC.out) (HF10.out.below HC.out)).drew)).mono ?_));rintro e wj ⟨hb,A1,n1,c1,rfl,hu⟩;have HU:=hiD hu;have HC:=hiD (show Bel w10 wj by first|exact z7j_ HC.out hb|exact zfn_ HC.out hb);clear hb hu)
   |(go_at_call 7;(first|(with_reducible refine(jq_ 1 HGg.out (by decide) HGf.out (by decide) HNg.out HNf.out _ _ (q7_ _ _ _ _ _ (HG10.out.below HC.out) (HF10.out.below HC.out))).mono ?_)|(with_reducible refine(jq_ 1 HGg.out (by decide) HGf.out (by decide) HNg.out HNf.out _ _ ((q7_ _ _ _ _ _ (HG10.out.below HC.out) (HF10.out.below HC.out)).drew)).mono ?_));rintro e wj ⟨hb,A1,n1,c1,rfl,hu⟩;have HU:=hiD hu;have HC:=hiD (show Bel w10 wj by first|exact z7j_ HC.out hb|exact zfn_ HC.out hb);clear hb hu)
   |fail)
  all_goals
   go_wp2_with fail
   go_meet
   exact⟨rfl,HC.out⟩
 case rest=>
 obtain⟨rfl,AC⟩:=hcut
 have HC:=hiD AC.out
 clear AC HE7 HE8 HE9
 go_upto_region 15 with fail
 go_cut [171] (fun s171 wx=>wx=wc∧s171= .bool false)
 case first=>
  obtain⟨⟨ha,hb⟩,hAv,hOv⟩:=HTB.out
  clear HC HTB HE10 HE11 HE12 HAl HBW HF10 HG10 HD10 HK12
  rcases ha with ha|ha|ha<;>rcases hb with hb|hb|hb
  ·as_aux_lemma=>
   obtain rfl:an=0:=by omega
   obtain rfl:bn=0:=by omega
   rw[show Fil.someF 0 1 [((0:Nat):Int),((0:Nat):Int)]=0 by decide] at hAv
   rw[show Fil.someF 1 0 [((0:Nat):Int),((0:Nat):Int)]=0 by decide] at hOv
   subst hAv hOv
   go_wp2_with fail
   go_meet
   exact⟨rfl,rfl⟩
  ·as_aux_lemma=>
   obtain rfl:an=0:=by omega
   obtain rfl:bn=1:=by omega
   rw[show Fil.someF 0 1 [((0:Nat):Int),((1:Nat):Int)]=0 by decide] at hAv
   rw[show Fil.someF 1 0 [((0:Nat):Int),((1:Nat):Int)]=1 by decide] at hOv
   subst hAv hOv
   go_wp2_with fail
   go_meet
   exact⟨rfl,rfl⟩
  ·as_aux_lemma=>
   obtain rfl:an=0:=by omega
   obtain rfl:bn=2:=by omega
   rw[show Fil.someF 0 1 [((0:Nat):Int),((2:Nat):Int)]=0 by decide] at hAv
   rw[show Fil.someF 1 0 [((0:Nat):Int),((2:Nat):Int)]=2 by decide] at hOv
   subst hAv hOv
   go_wp2_with fail
   go_meet
   exact⟨rfl,rfl⟩
  ·as_aux_lemma=>
   obtain rfl:an=1:=by omega
   obtain rfl:bn=0:=by omega
   rw[show Fil.someF 0 1 [((1:Nat):Int),((0:Nat):Int)]=0 by decide] at hAv
   rw[show Fil.someF 1 0 [((1:Nat):Int),((0:Nat):Int)]=1 by decide] at hOv
   subst hAv hOv
   go_wp2_with fail
   go_meet
   exact⟨rfl,rfl⟩
  ·as_aux_lemma=>
   obtain rfl:an=1:=by omega
   obtain rfl:bn=1:=by omega
   rw[show Fil.someF 0 1 [((1:Nat):Int),((1:Nat):Int)]=1 by decide] at hAv
   rw[show Fil.someF 1 0 [((1:Nat):Int),((1:Nat):Int)]=1 by decide] at hOv
   subst hAv hOv
   go_wp2_with fail
   go_meet
   exact⟨rfl,rfl⟩
  ·as_aux_lemma=>
   obtain rfl:an=1:=by omega
   obtain rfl:bn=2:=by omega
   rw[show Fil.someF 0 1 [((1:Nat):Int),((2:Nat):Int)]=2 by decide] at hAv
   rw[show Fil.someF 1 0 [((1:Nat):Int),((2:Nat):Int)]=1 by decide] at hOv
   subst hAv hOv
   go_wp2_with fail
   go_meet
   exact⟨rfl,rfl⟩
  ·as_aux_lemma=>
   obtain rfl:an=2:=by omega
   obtain rfl:bn=0:=by omega
   rw[show Fil.someF 0 1 [((2:Nat):Int),((0:Nat):Int)]=0 by decide] at hAv
   rw[show Fil.someF 1 0 [((2:Nat):Int),((0:Nat):Int)]=2 by decide] at hOv
   subst hAv hOv
   go_wp2_with fail
   go_meet
   exact⟨rfl,rfl⟩
  ·as_aux_lemma=>
   obtain rfl:an=2:=by omega
   obtain rfl:bn=1:=by omega
   rw[show Fil.someF 0 1 [((2:Nat):Int),((1:Nat):Int)]=2 by decide] at hAv
   rw[show Fil.someF 1 0 [((2:Nat):Int),((1:Nat):Int)]=1 by decide] at hOv
   subst hAv hOv
   go_wp2_with fail
   go_meet
   exact⟨rfl,rfl⟩
  ·as_aux_lemma=>
   obtain rfl:an=2:=by omega
   obtain rfl:bn=2:=by omega
   rw[show Fil.someF 0 1 [((2:Nat):Int),((2:Nat):Int)]=2 by decide] at hAv
   rw[show Fil.someF 1 0 [((2:Nat):Int),((2:Nat):Int)]=2 by decide] at hOv
   subst hAv hOv
   go_wp2_with fail
   go_meet
   exact⟨rfl,rfl⟩
 case rest=>
 obtain⟨rfl,rfl⟩:=hcut
 go_upto_region 17 with fail
 clear HTB
 go_region_held3 (fun W=>W.cell? ⟨p,0,none⟩=some (.string ⟨edn.toArray⟩)∧W.cell? ⟨p,1,none⟩=some (.slice Ae eat.length ce)) (first|exact HK12.out _ HC.out|exact HK12.out _ HC.out.drew|exact HK12.out _ (HC.out.alloc HC.out.size _).drew|exact HK12.out _ ((HC.out.alloc HC.out.size _).alloc (HC.out.alloc HC.out.size _).size _).drew|exact HK12.out _ (HC.out.alloc HC.out.size _)|exact HK12.out _ ((HC.out.alloc HC.out.size _).alloc (HC.out.alloc HC.out.size _).size _)) (first
  |(go_at_call 6;(first|(with_reducible refine(HAl.out _ HC.out).mono ?_)|(with_reducible refine(HAl.out _ HC.out.drew).mono ?_));rintro e wa ⟨rfl,hb⟩;have HC:=hiD (show Bel w10 wa by first|exact tQ HC.out hb|exact tQ HC.out.drew hb|exact z7j_ HC.out hb);clear hb)
  |(go_at_call 7;(with_reducible refine(zhu_ 0 _).mono ?_);rintro e wj ⟨hb,A1,n1,c1,rfl,hu⟩;have HU:=hiD hu;have HC:=hiD (show Bel w10 wj by first|exact tQ HC.out hb|exact tQ HC.out.drew hb|exact z7j_ HC.out hb);clear hb;clear hu)
  |(go_at_call 7;(with_reducible refine(zhu_ 1 _).mono ?_);rintro e wj ⟨hb,A1,n1,c1,rfl,hu⟩;have HU:=hiD hu;have HC:=hiD (show Bel w10 wj by first|exact tQ HC.out hb|exact tQ HC.out.drew hb|exact z7j_ HC.out hb);clear hb;clear hu)
  |(go_at_call 7;(first|(with_reducible refine(jq_ 0 HGf.out (by decide) HGf.out (by decide) HNf.out HNf.out _ _ (q7_ _ _ _ _ _ (HF10.out.below HC.out) (HF10.out.below HC.out))).mono ?_)|(with_reducible refine(jq_ 0 HGf.out (by decide) HGf.out (by decide) HNf.out HNf.out _ _ ((q7_ _ _ _ _ _ (HF10.out.below HC.out) (HF10.out.below HC.out)).drew)).mono ?_));rintro e wj ⟨hb,A1,n1,c1,rfl,hu⟩;have HU:=hiD hu;have HC:=hiD (show Bel w10 wj by first|exact z7j_ HC.out hb|exact zfn_ HC.out hb);clear hb hu)
  |(go_at_call 10;(with_reducible refine(HE10.out _ _ HC.out HU.out).mono ?_);rintro e we ⟨rfl,hb⟩;have HC:=hiD (tQ HC.out hb);clear hb)
  |(go_at_call 10;(with_reducible refine(HE11.out _ _ HC.out HU.out).mono ?_);rintro e we ⟨rfl,hb⟩;have HC:=hiD (tQ HC.out hb);clear hb)
  |(go_at_call 10;(with_reducible refine(HE12.out _ _ HC.out HU.out).mono ?_);rintro e we ⟨rfl,hb⟩;have HC:=hiD (tQ HC.out hb);clear hb)
  |fail)
 all_goals
  go_wp2_with fail
  go_ret
  exact⟨rfl,tQ HBW.out HC.out⟩
open Go.RowKit
theorem zo1_ (nm:LU) (l:List Ent.AttrE) (vl:Value) (f:List Fil.FilE) (vf:Value) (g:List Fil.FilE) (vg:Value) (w:World) (hw:Env w) (hv:AttrsA w vl l)
  (hlt:∀ a∈l,a.typ.length≤140737488351232∧a.vals.length≤4611686018427387904) (hf:FilsA w vf f) (hLf:∀ p∈f,z0p_ p∧p.n≤9223372036854775807) (hg:FilsA w vg g) (hLg:∀ p∈g,z0p_ p∧p.n≤9223372036854775807):
  Calls Tryz.prog 3 #[.string ⟨nm.toArray⟩,vl,vf,vg] w fun e w'=>e= .returned (.bool true)∧Bel w w':=by
 obtain⟨A,c,rfl,_⟩:=hv.isSlice
 obtain⟨Af,cf,rfl,_⟩:=hf.isSlice
 obtain⟨Ag,cg,rfl,_⟩:=hg.isSlice
 by_cases h1:(30:Int)<(f.length:Int)
 ·exact zl5_ nm l A _ c rfl f g Af Ag _ cf _ cg rfl rfl w hw hv hf hg hlt hLf hLg h1
 by_cases h2:(30:Int)<(g.length:Int)
 ·exact zl7_ nm l A _ c rfl f g Af Ag _ cf _ cg rfl rfl w hw hv hf hg hlt hLf hLg h1 h2
 by_cases h3:(60:Int)<(l.length:Int)
 ·exact zjy_ nm l A _ c rfl f g Af Ag _ cf _ cg rfl rfl w hw hv hf hg hlt hLf hLg h1 h2 h3
 cases h4:Fil.validF f
 ·exact zlo_ nm l A _ c rfl f g Af Ag _ cf _ cg rfl rfl w hw hv hf hg hlt hLf hLg h1 h2 h3 h4
 cases h5:Fil.validF g
 ·exact zk5_ nm l A _ c rfl f g Af Ag _ cf _ cg rfl rfl w hw hv hf hg hlt hLf hLg h1 h2 h3 h4 h5
 cases h6:Fil.validF (Fil.deepL f g)
 ·exact zkz_ nm l A _ c rfl f g Af Ag _ cf _ cg rfl rfl w hw hv hf hg hlt hLf hLg h1 h2 h3 h4 h5 h6
 ·exact zf8_ nm l A _ c rfl f g Af Ag _ cf _ cg rfl rfl w hw hv hf hg hlt hLf hLg h1 h2 h3 h4 h5 h6
end Go.Proofs.YtbekpphodbekiaaGreatDoor
