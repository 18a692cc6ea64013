import Derived.Test.YtbekpphodbekiaaGreatDoorW19
import Derived.Test.YtbekpphodbekiaaGreatDoorW1a
set_option linter.all false
set_option maxHeartbeats 8000000
set_option maxRecDepth 100000
namespace Go.Proofs.YtbekpphodbekiaaGreatDoor.Fil
open Go.RowKit
def aliveT:LU:=[40,38,40,99,110,61,65,42,98,42,41,40,33,40,115,110,62,61,120,41,41,41]
def aliveF:List FilE:=[⟨0,2,[],[],[],[],[]⟩,⟨4,0,[99,110],[],[65],[],[[98]]⟩,⟨2,1,[],[],[],[],[]⟩,⟨5,0,[115,110],[120],[],[],[]⟩]
theorem alive_parse:parseF aliveT=(aliveF,0):=by decide+kernel
theorem alive_print:printF aliveF=(aliveT,0):=by decide+kernel
theorem alive_pres:validF [⟨7,0,[99,110],[],[],[],[]⟩]=true:=by decide+kernel
end Go.Proofs.YtbekpphodbekiaaGreatDoor.Fil
namespace Go.Proofs.YtbekpphodbekiaaGreatDoor
open Go.RowKit
theorem zk2_ {W:World} {g:Nat} {p:Fil.FilE} (hp:p.any=[]) (h:Bk W g 45 (z3_ (p,.slice none 0 0)).toArray):FilsA W (.slice (some ⟨g,0,none⟩) 1 1) [p]:=by
 refine⟨[(p,.slice none 0 0)],rfl,⟨some ⟨g,0,none⟩,1,rfl,nR _,fun j hj=>?_⟩,fun q hq=>?_⟩
 ·obtain rfl:j=0:=by simpa using hj
  refine⟨g,0,rfl,fun k u hu=>?_⟩
  rw[show 0+0 * 7+k=k by omega,h.cell k]
  simpa using hu
 ·obtain rfl:=List.mem_singleton.1 hq
  rw[hp]
  exact .inl ⟨rfl,rfl⟩
theorem zj9_ (s:Nat) (ps:List Nat) (L:List DefS) (hL:Sound L) (en:Ent.EntryE) (va:Value) (p:Fil.FilE) (hop:p.op=7) (v:Value) (w:World) (hw:Env w) (hf:FilsA w v [p]) (hS:SchAt w s ps L) (hv:AttrsA w va en.attrs) (hl:en.attrs.length≤1000) (hvn:yg_ en.attrs≤1000000) (hlt:∀ a∈en.attrs,a.typ.length≤1000000) (ht:Fil.wgt [p]≤1000000) (hn:z4v_ [p]) (hc:j1_ L p.typ=0) (hval:Fil.validF [p]=true):
  Calls Tryz.prog 10 #[.pointer (some ⟨s,0,none⟩),.agg #[.string ⟨en.dn.toArray⟩,va],v] w fun e w'=>e= .returned (.int .i64 (xq_ (!(Ent.findE (zq_ L) en p.typ).isEmpty)))∧Bel w w':=by
 have htl:p.typ.length≤1000000:=by
  have:z0i_ p≤Fil.wgt [p]:=by simp [Fil.wgt]
  have:=(zno_ p).2
  omega
 have hE:=fun (W:World) (h:Bel w W)=>zp6_ s ps L hL en va p hop [] v W (hf.below h) (hS.below h) (hv.below h) hl hvn hlt htl hc
 have hV:=fun (W:World) (h:Bel w W)=>z0j_ [p] v W (hw.keep h) (hf.below h) (by omega) hn
 rw[hval] at hV
 have hb1:=zd_ w (.cells #[.string ⟨en.dn.toArray⟩,va] 30)
 have k1:=Bk.new w 30 #[.string ⟨en.dn.toArray⟩,va]
 have x0:=k1.cell 0
 have x1:=k1.cell 1
 simp only[gs3] at x0 x1
 have HB1:=hiD hb1
 have HE:=hiD hE
 have HV:=hiD hV
 obtain⟨A,c,rfl,_⟩:=hv.at
 obtain⟨Af,cf,rfl,_⟩:=hf.isSlice
 generalize xq_ (!(Ent.findE (zq_ L) en p.typ).isEmpty)=r at *
 clear hE hV hf hS hv hlt hc hval hb1 k1
 unfold wkV z5_ at HE
 go_enter Tryz.func10,Tryz.ntmps10
 go_wp2_with (first
  |(go_at_call 5;(refine(HV.out _ (by exact HB1.out)).mono ?_);rintro e w2 ⟨rfl,hb2⟩;have HB2:=hiD (tQ HB1.out hb2);have y0:=cQ hb2 x0;have y1:=cQ hb2 x1)
  |(go_at_call 20;(refine(HE.out _ (by exact HB2.out)).mono ?_);rintro e w3 ⟨rfl,hb3⟩))
 go_ret
 exact⟨rfl,tQ HB2.out hb3⟩
theorem ze7_ {w:World}:AttrsA w (.slice none 0 0) []:=⟨[],rfl,⟨none,0,rfl,nR _,fun _=>rfl,fun j hj=>absurd hj (by simp)⟩,fun q hq=>by cases hq⟩
def cnF:LU:=[99,110]
theorem cn8_c:j1_ ye_ cnF=0:=by decide+kernel
theorem k1_ (w:World) (hw:Env w):Calls Tryz.prog 6 #[] w fun e w'=>e= .returned (.bool true)∧Bel w w':=by
 have HBs:=hiD (fun W=>znc_ W)
 have HNw:Hid (∀ (va vb:Value) (W:World),Bel w W→Texts W va baseA→Texts W vb baseC→Calls Tryz.prog 16 #[va,vb] W fun e w'=>Bel W w'∧∃ s ps,e= .returned (.tuple #[.pointer (some ⟨s,0,none⟩),.int .i64 0,.int .i64 0])∧SchAt w' s ps ye_):=hiD fun va vb W h h1 h2=>by
  have:=New_c va vb baseA baseC W (hw.keep h) h1 h2 (by rw[z93_,z80_];omega) (fun x hx=>nT (z1e_ x hx) (by decide))
  rw[z77_] at this
  exact this
 have HPa:Hid (Calls Tryz.prog 13 #[.string ⟨#[40,38,40,99,110,61,65,42,98,42,41,40,33,40,115,110,62,61,120,41,41,41]⟩] w fun e w'=>Bel w w'∧∃ v,e= .returned (.tuple #[v,.int .i64 0])∧FilsA w' v Fil.aliveF):=hiD (by
  have:=zms_ Fil.aliveT w hw
  rw[Fil.alive_parse] at this
  exact this)
 have HPr:Hid (∀ W v,Env W→FilsA W v Fil.aliveF→Calls Tryz.prog 14 #[v] W fun e w'=>e= .returned (.tuple #[.string ⟨#[40,38,40,99,110,61,65,42,98,42,41,40,33,40,115,110,62,61,120,41,41,41]⟩,.int .i64 0])∧Bel W w'):=hiD fun W v hW hv=>by
  have:=zl4_ Fil.aliveF v W hW hv (by decide) (by intro p hp;simp only[Fil.aliveF,List.mem_cons,List.not_mem_nil,or_false] at hp;rcases hp with rfl|rfl|rfl|rfl<;>decide)
  rw[Fil.alive_print] at this
  exact this
 have HEv:Hid (∀ (W:World) (s:Nat) (ps:List Nat) (v:Value),Env W→SchAt W s ps ye_→FilsA W v [⟨7,0,cnF,[],[],[],[]⟩]→Calls Tryz.prog 10 #[.pointer (some ⟨s,0,none⟩),.agg #[.string ⟨#[]⟩,.slice none 0 0],v] W fun e w'=>e= .returned (.int .i64 0)∧Bel W w'):=hiD fun W s ps v hW hS hv=>by
  have:=zj9_ s ps ye_ base_sound ⟨[],[]⟩ (.slice none 0 0) ⟨7,0,cnF,[],[],[],[]⟩ rfl v W hW hv hS ze7_ (by decide) (by decide) (by simp) (by decide) (by intro p hp;obtain rfl:=List.mem_singleton.1 hp;decide) cn8_c Fil.alive_pres
  exact this
 have HB:Hid (Bel w w):=hiD (bR _ _)
 go_enter Tryz.func6,Tryz.ntmps6
 go_wp2_with (first
  |(go_at_call 13;(with_reducible refine HPa.out.mono ?_);rintro e w1 ⟨hb,v1,rfl,hg1⟩;obtain⟨A1,c1,rfl,_⟩:=hg1.isSlice;have HG1:=hiD hg1;clear hg1;have HB:=hiD hb;clear hb)
  |(go_at_call 14;(refine(HPr.out _ _ (by exact hw.keep HB.out) (by exact HG1.out)).mono ?_);rintro e w2 ⟨rfl,hb⟩;have HB:=hiD (tQ HB.out hb))
  |(go_at_call 15;(refine(HBs.out _).mono ?_);rintro e w3 ⟨rfl,hb,hA1,hC1⟩;have HB:=hiD (tQ HB.out hb))
  |(go_at_call 16;(refine(HNw.out _ _ _ (by exact HB.out) hA1.texts hC1.texts).mono ?_);rintro e w4 ⟨hb,s,ps,rfl,hS⟩;have HB:=hiD (tQ HB.out hb);have hbx:=zd_ w4 (.cells (z3_ (⟨7,0,cnF,[],[],[],[]⟩,.slice none 0 0)).toArray 45);have HX:=hiD (zk2_ rfl (Bk.new w4 45 (z3_ (⟨7,0,cnF,[],[],[],[]⟩,.slice none 0 0)).toArray));have HS:=hiD (hS.below hbx);have HB:=hiD (tQ HB.out hbx))
  |(go_at_call 10;(refine(HEv.out _ s ps _ (by exact hw.keep HB.out) (by exact HS.out) (by exact HX.out)).mono ?_);rintro e w5 ⟨rfl,hb⟩;have HB:=hiD (tQ HB.out hb)))
 go_ret
 exact⟨rfl,HB.out⟩
end Go.Proofs.YtbekpphodbekiaaGreatDoor
