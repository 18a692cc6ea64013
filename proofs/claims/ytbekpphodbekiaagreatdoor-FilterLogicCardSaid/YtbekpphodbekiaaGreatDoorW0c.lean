import Derived.Test.YtbekpphodbekiaaGreatDoorW0b
import Derived.Lib.TrimAscii
set_option linter.all false
set_option maxHeartbeats 8000000
set_option maxRecDepth 100000
namespace Go.Proofs.YtbekpphodbekiaaGreatDoor
open Go.RowKit Go.Sort
abbrev z70_:=LU × Int × LL × NormFn
def applyN:NormFn→LU→Option LU
 | .self,v=>some v
 | .text fold,v=>z19_ v fold
 | .name,v=>z6f_ v
 | .oid,v=>some (z2_ v)
def v5_ (x:z70_) (v:LU):Option LU:=if decide (v.length≤1024) && x.2.2.1.any (fun f=>ji_ f v) then applyN x.2.2.2 v else none
def xg_ (w:World) (o:Option LU) (e:Ending) (w':World):Prop:=e= .returned (qp_ 40 o)∧Bel w w'
theorem zav_ (x:z70_) (b:Nat) (v:LU) (w:World) (h:RowAt w b x) (hv:¬ v.length≤1024):
  Calls Tryz.prog 142 #[.pointer (some ⟨b,0,none⟩),.string ⟨v.toArray⟩] w (xg_ w none):=by
 have hv':1024<v.length:=by omega
 clear h
 go_enter Tryz.func142,Tryz.ntmps142
 go_wp2
 go_ret2
 exact⟨rfl,(bR _ _).alloc (nR _) _⟩
theorem RowAt.any {w W:World} {b:Nat} {x:z70_} {v:LU} (h:RowAt w b x) (hfl:x.2.2.1.length≤2) (hw:Env w) (hW:W=w.alloc (.cells #[.string ⟨v.toArray⟩] 9)) {fA:Option Addr} {fN fC:Nat} (hT:Texts w (.slice fA fN fC) x.2.2.1):
  Calls Tryz.prog 64 #[.slice fA fN fC,.func (.func 181) #[] #[.pointer (some ⟨w.heap.size,0,none⟩)]] W fun e w'=>e= .returned (.bool (x.2.2.1.any (fun f=>ji_ f v)))∧Bel W w':=by
 subst hW
 have hb:=(bR w.heap.size w).alloc (nR _) (.cells #[.string ⟨v.toArray⟩] 9)
 have hc:=Bk.new w 9 #[.string ⟨v.toArray⟩]
 exact zg4_ x.2.2.1 _ _ (hT.below hb) (by omega) w.heap.size (fun f=>ji_ f v) (fun f _ W' hB=>zj0_ f v w.heap.size W' ((hw.keep hb).keep hB) ((hc.below hB).cell 0))
theorem zbl_ (x:z70_) (b:Nat) (v:LU) (w:World) (hw:Env w) (h:RowAt w b x) (hfl:x.2.2.1.length≤2) (hv:v.length≤1024) (ha:x.2.2.1.any (fun f=>ji_ f v)=false):
  Calls Tryz.prog 142 #[.pointer (some ⟨b,0,none⟩),.string ⟨v.toArray⟩] w (xg_ w none):=by
 have hlt:=h.lt
 have h0:=h
 obtain⟨fA,fN,fC,nF,n1,n2,h1,h2,h3⟩:=h
 have hA:=h0.any (v:=v) hfl hw rfl h2
 rw[ha] at hA
 have hcell:(w.alloc (.cells #[.string ⟨v.toArray⟩] 9)).cell? ⟨b,2,none⟩=some (.slice fA fN fC):=(World.cell?_alloc_lt _ _ _ hlt).trans (by simp [World.cell?,h1])
 have hmf:=z44_
 clear h0 h1 h2 h3 ha
 go_enter Tryz.func142,Tryz.ntmps142
 go_wp2_with (go_at_call 64;refine hA.mono ?_;rintro e w2 ⟨rfl,hb2⟩)
 go_ret2
 exact⟨rfl,((bR _ _).alloc (nR _) _).trans (hb2.mono (by simp))⟩
theorem zar_ (x:z70_) (b:Nat) (v:LU) (w:World) (hw:Env w) (h:RowAt w b x) (hfl:x.2.2.1.length≤2) (hv:v.length≤1024) (ha:x.2.2.1.any (fun f=>ji_ f v)=true) (hn:x.2.2.2=NormFn.self) (o:Option LU) (ho:o=some v):
  Calls Tryz.prog 142 #[.pointer (some ⟨b,0,none⟩),.string ⟨v.toArray⟩] w (xg_ w o):=by
 have hlt:=h.lt
 have h0:=h
 obtain⟨fA,fN,fC,nF,n1,n2,h1,h2,h3⟩:=h
 have hA:=h0.any (v:=v) hfl hw rfl h2
 rw[ha] at hA
 rw[hn] at h3
 obtain⟨rfl,rfl,rfl⟩:nF= .func 218∧n1=#[]∧n2=#[]:=by have h3':Value.func nF n1 n2= .func (.func 218) #[] #[]:=h3;cases h3';exact⟨rfl,rfl,rfl⟩
 have hbw:=(bR w.heap.size w).alloc (nR _) (.cells #[.string ⟨v.toArray⟩] 9)
 have kV:=Bk.new w 9 #[.string ⟨v.toArray⟩]
 have HC:Hid (∀ W,Bel w W→Calls Tryz.prog 218 #[.string ⟨v.toArray⟩] W (y7_ W o)):=hiD fun W hW=>by rw[ho];exact self_c v W
 have hcell:(w.alloc (.cells #[.string ⟨v.toArray⟩] 9)).cell? ⟨b,2,none⟩=some (.slice fA fN fC):=(World.cell?_alloc_lt _ _ _ hlt).trans (by simp [World.cell?,h1])
 have hcell3:(w.alloc (.cells #[.string ⟨v.toArray⟩] 9)).cell? ⟨b,3,none⟩=some (.func (.func 218) #[] #[]):=(World.cell?_alloc_lt _ _ _ hlt).trans (by simp [World.cell?,h1])
 have hsz:(w.alloc (.cells #[.string ⟨v.toArray⟩] 9)).heap.size=w.heap.size+1:=by simp
 have HSZ:=hiD hsz
 have HC3:=hiD hcell3
 have HKV:=hiD kV
 have hmf:=z44_
 have HO:=hiD ho
 clear h0 h1 h2 h3 ha hn ho hsz hcell3 kV
 go_enter Tryz.func142,Tryz.ntmps142
 go_wp2_with (go_at_call 64;refine hA.mono ?_;rintro e w2 ⟨rfl,hb2⟩)
 have f1:w2.cell? ⟨b,3,none⟩=some (.func (.func 218) #[] #[]):=(hb2.cell (p:=⟨b,3,none⟩) (by have:=HSZ.out;simp;omega)).trans HC3.out
 have f2:w2.cell? ⟨w.heap.size,0,none⟩=some (.string ⟨v.toArray⟩):=(HKV.out.below hb2).cell 0
 have hB2:Bel w w2:=hbw.trans (hb2.mono (by have:=HSZ.out;omega))
 have HB2:=hiD hB2
 clear hA hcell hb2 hB2 hmf
 go_region_held3 (fun w'=>w'.cell? ⟨b,3,none⟩=some (.func (.func 218) #[] #[])∧w'.cell? ⟨w.heap.size,0,none⟩=some (.string ⟨v.toArray⟩)) (first|exact⟨f1,f2⟩|exact⟨f1',f2'⟩) (first|(go_at_call 218;refine(HC.out _ (HB2.out.trans ((bR _ _).drew.mono HB2.out.size))).mono ?_;rintro e w4 ⟨hb4,r,rfl,hr⟩;have Hr:=hiD hr;clear hr;have f1':w4.cell? ⟨b,3,none⟩=some (.func (.func 218) #[] #[]):=(hb4.cell (p:=⟨b,3,none⟩) (by have:=HB2.out.size;simp;omega)).trans f1;have f2':w4.cell? ⟨w.heap.size,0,none⟩=some (.string ⟨v.toArray⟩):=(hb4.cell (p:=⟨w.heap.size,0,none⟩) (by simp;exact z9_ f2)).trans f2))
 all_goals
  have hfin:Bel w w4:=HB2.out.trans ((show Bel w2 w4 from ((bR _ _).drew.trans hb4)).mono HB2.out.size)
  cases o with
  |none=>
   go_wp2_with fail
   go_ret2
   exact⟨rfl,hfin⟩
  |some m=>
   obtain rfl:=Hr.out m rfl
   go_wp2_with fail
   go_ret2
   exact⟨rfl,hfin⟩
theorem zf3_ (x:z70_) (b:Nat) (v:LU) (w:World) (hw:Env w) (h:RowAt w b x) (hfl:x.2.2.1.length≤2) (hv:v.length≤1024) (ha:x.2.2.1.any (fun f=>ji_ f v)=true) (hn:x.2.2.2=NormFn.oid) (o:Option LU) (ho:o=some (z2_ v)):
  Calls Tryz.prog 142 #[.pointer (some ⟨b,0,none⟩),.string ⟨v.toArray⟩] w (xg_ w o):=by
 have hlt:=h.lt
 have h0:=h
 obtain⟨fA,fN,fC,nF,n1,n2,h1,h2,h3⟩:=h
 have hA:=h0.any (v:=v) hfl hw rfl h2
 rw[ha] at hA
 rw[hn] at h3
 obtain⟨rfl,rfl,rfl⟩:nF= .func 221∧n1=#[]∧n2=#[]:=by have h3':Value.func nF n1 n2= .func (.func 221) #[] #[]:=h3;cases h3';exact⟨rfl,rfl,rfl⟩
 have hbw:=(bR w.heap.size w).alloc (nR _) (.cells #[.string ⟨v.toArray⟩] 9)
 have kV:=Bk.new w 9 #[.string ⟨v.toArray⟩]
 have HC:Hid (∀ W,Bel w W→Calls Tryz.prog 221 #[.string ⟨v.toArray⟩] W (y7_ W o)):=hiD fun W hW=>by rw[ho];exact oid_c v W hv
 have hcell:(w.alloc (.cells #[.string ⟨v.toArray⟩] 9)).cell? ⟨b,2,none⟩=some (.slice fA fN fC):=(World.cell?_alloc_lt _ _ _ hlt).trans (by simp [World.cell?,h1])
 have hcell3:(w.alloc (.cells #[.string ⟨v.toArray⟩] 9)).cell? ⟨b,3,none⟩=some (.func (.func 221) #[] #[]):=(World.cell?_alloc_lt _ _ _ hlt).trans (by simp [World.cell?,h1])
 have hsz:(w.alloc (.cells #[.string ⟨v.toArray⟩] 9)).heap.size=w.heap.size+1:=by simp
 have HSZ:=hiD hsz
 have HC3:=hiD hcell3
 have HKV:=hiD kV
 have hmf:=z44_
 have HO:=hiD ho
 clear h0 h1 h2 h3 ha hn ho hsz hcell3 kV
 go_enter Tryz.func142,Tryz.ntmps142
 go_wp2_with (go_at_call 64;refine hA.mono ?_;rintro e w2 ⟨rfl,hb2⟩)
 have f1:w2.cell? ⟨b,3,none⟩=some (.func (.func 221) #[] #[]):=(hb2.cell (p:=⟨b,3,none⟩) (by have:=HSZ.out;simp;omega)).trans HC3.out
 have f2:w2.cell? ⟨w.heap.size,0,none⟩=some (.string ⟨v.toArray⟩):=(HKV.out.below hb2).cell 0
 have hB2:Bel w w2:=hbw.trans (hb2.mono (by have:=HSZ.out;omega))
 have HB2:=hiD hB2
 clear hA hcell hb2 hB2 hmf
 go_region_held3 (fun w'=>w'.cell? ⟨b,3,none⟩=some (.func (.func 221) #[] #[])∧w'.cell? ⟨w.heap.size,0,none⟩=some (.string ⟨v.toArray⟩)) (first|exact⟨f1,f2⟩|exact⟨f1',f2'⟩) (first|(go_at_call 221;refine(HC.out _ (HB2.out.trans ((bR _ _).drew.mono HB2.out.size))).mono ?_;rintro e w4 ⟨hb4,r,rfl,hr⟩;have Hr:=hiD hr;clear hr;have f1':w4.cell? ⟨b,3,none⟩=some (.func (.func 221) #[] #[]):=(hb4.cell (p:=⟨b,3,none⟩) (by have:=HB2.out.size;simp;omega)).trans f1;have f2':w4.cell? ⟨w.heap.size,0,none⟩=some (.string ⟨v.toArray⟩):=(hb4.cell (p:=⟨w.heap.size,0,none⟩) (by simp;exact z9_ f2)).trans f2))
 all_goals
  have hfin:Bel w w4:=HB2.out.trans ((show Bel w2 w4 from ((bR _ _).drew.trans hb4)).mono HB2.out.size)
  cases o with
  |none=>
   go_wp2_with fail
   go_ret2
   exact⟨rfl,hfin⟩
  |some m=>
   obtain rfl:=Hr.out m rfl
   go_wp2_with fail
   go_ret2
   exact⟨rfl,hfin⟩
theorem zb3_ (x:z70_) (b:Nat) (v:LU) (w:World) (hw:Env w) (h:RowAt w b x) (hfl:x.2.2.1.length≤2) (hv:v.length≤1024) (ha:x.2.2.1.any (fun f=>ji_ f v)=true) (hn:x.2.2.2=NormFn.name) (o:Option LU) (ho:o=z6f_ v):
  Calls Tryz.prog 142 #[.pointer (some ⟨b,0,none⟩),.string ⟨v.toArray⟩] w (xg_ w o):=by
 have hlt:=h.lt
 have h0:=h
 obtain⟨fA,fN,fC,nF,n1,n2,h1,h2,h3⟩:=h
 have hA:=h0.any (v:=v) hfl hw rfl h2
 rw[ha] at hA
 rw[hn] at h3
 obtain⟨rfl,rfl,rfl⟩:nF= .func 220∧n1=#[]∧n2=#[]:=by have h3':Value.func nF n1 n2= .func (.func 220) #[] #[]:=h3;cases h3';exact⟨rfl,rfl,rfl⟩
 have hbw:=(bR w.heap.size w).alloc (nR _) (.cells #[.string ⟨v.toArray⟩] 9)
 have kV:=Bk.new w 9 #[.string ⟨v.toArray⟩]
 have HC:Hid (∀ W,Bel w W→Calls Tryz.prog 220 #[.string ⟨v.toArray⟩] W (y7_ W o)):=hiD fun W hW=>by rw[ho];exact name_c v W (hw.keep hW)
 have hcell:(w.alloc (.cells #[.string ⟨v.toArray⟩] 9)).cell? ⟨b,2,none⟩=some (.slice fA fN fC):=(World.cell?_alloc_lt _ _ _ hlt).trans (by simp [World.cell?,h1])
 have hcell3:(w.alloc (.cells #[.string ⟨v.toArray⟩] 9)).cell? ⟨b,3,none⟩=some (.func (.func 220) #[] #[]):=(World.cell?_alloc_lt _ _ _ hlt).trans (by simp [World.cell?,h1])
 have hsz:(w.alloc (.cells #[.string ⟨v.toArray⟩] 9)).heap.size=w.heap.size+1:=by simp
 have HSZ:=hiD hsz
 have HC3:=hiD hcell3
 have HKV:=hiD kV
 have hmf:=z44_
 have HO:=hiD ho
 clear h0 h1 h2 h3 ha hn ho hsz hcell3 kV
 go_enter Tryz.func142,Tryz.ntmps142
 go_wp2_with (go_at_call 64;refine hA.mono ?_;rintro e w2 ⟨rfl,hb2⟩)
 have f1:w2.cell? ⟨b,3,none⟩=some (.func (.func 220) #[] #[]):=(hb2.cell (p:=⟨b,3,none⟩) (by have:=HSZ.out;simp;omega)).trans HC3.out
 have f2:w2.cell? ⟨w.heap.size,0,none⟩=some (.string ⟨v.toArray⟩):=(HKV.out.below hb2).cell 0
 have hB2:Bel w w2:=hbw.trans (hb2.mono (by have:=HSZ.out;omega))
 have HB2:=hiD hB2
 clear hA hcell hb2 hB2 hmf
 go_region_held3 (fun w'=>w'.cell? ⟨b,3,none⟩=some (.func (.func 220) #[] #[])∧w'.cell? ⟨w.heap.size,0,none⟩=some (.string ⟨v.toArray⟩)) (first|exact⟨f1,f2⟩|exact⟨f1',f2'⟩) (first|(go_at_call 220;refine(HC.out _ (HB2.out.trans ((bR _ _).drew.mono HB2.out.size))).mono ?_;rintro e w4 ⟨hb4,r,rfl,hr⟩;have Hr:=hiD hr;clear hr;have f1':w4.cell? ⟨b,3,none⟩=some (.func (.func 220) #[] #[]):=(hb4.cell (p:=⟨b,3,none⟩) (by have:=HB2.out.size;simp;omega)).trans f1;have f2':w4.cell? ⟨w.heap.size,0,none⟩=some (.string ⟨v.toArray⟩):=(hb4.cell (p:=⟨w.heap.size,0,none⟩) (by simp;exact z9_ f2)).trans f2))
 all_goals
  have hfin:Bel w w4:=HB2.out.trans ((show Bel w2 w4 from ((bR _ _).drew.trans hb4)).mono HB2.out.size)
  cases o with
  |none=>
   go_wp2_with fail
   go_ret2
   exact⟨rfl,hfin⟩
  |some m=>
   obtain rfl:=Hr.out m rfl
   go_wp2_with fail
   go_ret2
   exact⟨rfl,hfin⟩
theorem zal_ (x:z70_) (b:Nat) (v:LU) (w:World) (hw:Env w) (h:RowAt w b x) (hfl:x.2.2.1.length≤2) (hv:v.length≤1024) (ha:x.2.2.1.any (fun f=>ji_ f v)=true) (fold:Bool) (hn:x.2.2.2=NormFn.text fold) (o:Option LU) (ho:o=z19_ v fold):
  Calls Tryz.prog 142 #[.pointer (some ⟨b,0,none⟩),.string ⟨v.toArray⟩] w (xg_ w o):=by
 have hlt:=h.lt
 have h0:=h
 obtain⟨fA,fN,fC,nF,n1,n2,h1,h2,h3⟩:=h
 have hA:=h0.any (v:=v) hfl hw rfl h2
 rw[ha] at hA
 rw[hn] at h3
 obtain⟨a,hfa,hca⟩:=h3
 obtain⟨rfl,rfl,rfl⟩:nF= .func 245∧n1=#[]∧n2=#[.pointer (some ⟨a,0,none⟩)]:=by cases hfa;exact⟨rfl,rfl,rfl⟩
 have HCA:=hiD hca
 clear hca hfa
 have h3:=trivial
 have hbw:=(bR w.heap.size w).alloc (nR _) (.cells #[.string ⟨v.toArray⟩] 9)
 have kV:=Bk.new w 9 #[.string ⟨v.toArray⟩]
 have HC:Hid (∀ W,Bel w W→Calls Tryz.prog 245 #[.string ⟨v.toArray⟩,.pointer (some ⟨a,0,none⟩)] W (y7_ W o)):=hiD fun W hW=>by rw[ho];exact zoh_ v fold a W (hw.keep hW) ((hW.cell (p:=⟨a,0,none⟩) (z9_ HCA.out)).trans HCA.out) hv
 have hcell:(w.alloc (.cells #[.string ⟨v.toArray⟩] 9)).cell? ⟨b,2,none⟩=some (.slice fA fN fC):=(World.cell?_alloc_lt _ _ _ hlt).trans (by simp [World.cell?,h1])
 have hcell3:(w.alloc (.cells #[.string ⟨v.toArray⟩] 9)).cell? ⟨b,3,none⟩=some (.func (.func 245) #[] #[.pointer (some ⟨a,0,none⟩)]):=(World.cell?_alloc_lt _ _ _ hlt).trans (by simp [World.cell?,h1])
 have hsz:(w.alloc (.cells #[.string ⟨v.toArray⟩] 9)).heap.size=w.heap.size+1:=by simp
 have HSZ:=hiD hsz
 have HC3:=hiD hcell3
 have HKV:=hiD kV
 have hmf:=z44_
 have HO:=hiD ho
 clear h0 h1 h2 h3 ha hn ho hsz hcell3 kV
 go_enter Tryz.func142,Tryz.ntmps142
 go_wp2_with (go_at_call 64;refine hA.mono ?_;rintro e w2 ⟨rfl,hb2⟩)
 have f1:w2.cell? ⟨b,3,none⟩=some (.func (.func 245) #[] #[.pointer (some ⟨a,0,none⟩)]):=(hb2.cell (p:=⟨b,3,none⟩) (by have:=HSZ.out;simp;omega)).trans HC3.out
 have f2:w2.cell? ⟨w.heap.size,0,none⟩=some (.string ⟨v.toArray⟩):=(HKV.out.below hb2).cell 0
 have hB2:Bel w w2:=hbw.trans (hb2.mono (by have:=HSZ.out;omega))
 have HB2:=hiD hB2
 clear hA hcell hb2 hB2 hmf
 go_region_held3 (fun w'=>w'.cell? ⟨b,3,none⟩=some (.func (.func 245) #[] #[.pointer (some ⟨a,0,none⟩)])∧w'.cell? ⟨w.heap.size,0,none⟩=some (.string ⟨v.toArray⟩)) (first|exact⟨f1,f2⟩|exact⟨f1',f2'⟩) (first|(go_at_call 245;refine(HC.out _ (HB2.out.trans ((bR _ _).drew.mono HB2.out.size))).mono ?_;rintro e w4 ⟨hb4,r,rfl,hr⟩;have Hr:=hiD hr;clear hr;have f1':w4.cell? ⟨b,3,none⟩=some (.func (.func 245) #[] #[.pointer (some ⟨a,0,none⟩)]):=(hb4.cell (p:=⟨b,3,none⟩) (by have:=HB2.out.size;simp;omega)).trans f1;have f2':w4.cell? ⟨w.heap.size,0,none⟩=some (.string ⟨v.toArray⟩):=(hb4.cell (p:=⟨w.heap.size,0,none⟩) (by simp;exact z9_ f2)).trans f2))
 all_goals
  have hfin:Bel w w4:=HB2.out.trans ((show Bel w2 w4 from ((bR _ _).drew.trans hb4)).mono HB2.out.size)
  cases o with
  |none=>
   go_wp2_with fail
   go_ret2
   exact⟨rfl,hfin⟩
  |some m=>
   obtain rfl:=Hr.out m rfl
   go_wp2_with fail
   go_ret2
   exact⟨rfl,hfin⟩
theorem z2e_ (x:z70_) (b:Nat) (v:LU) (w:World) (hw:Env w) (h:RowAt w b x) (hfl:x.2.2.1.length≤2):
  Calls Tryz.prog 142 #[.pointer (some ⟨b,0,none⟩),.string ⟨v.toArray⟩] w (xg_ w (v5_ x v)):=by
 unfold v5_
 by_cases hv:v.length≤1024
 ·cases ha:x.2.2.1.any (fun f=>ji_ f v)
  ·simp only[Bool.and_false,Bool.false_eq_true,if_false]
   exact zbl_ x b v w hw h hfl hv ha
  ·simp only[decide_eq_true hv,Bool.and_true,if_true]
   cases hn:x.2.2.2 with
   |self=>exact zar_ x b v w hw h hfl hv ha hn _ rfl
   |text fold=>exact zal_ x b v w hw h hfl hv ha fold hn _ rfl
   |name=>exact zb3_ x b v w hw h hfl hv ha hn _ rfl
   |oid=>exact zf3_ x b v w hw h hfl hv ha hn _ rfl
 ·simp only[decide_eq_false hv,Bool.false_and,Bool.false_eq_true,if_false]
  exact zav_ x b v w h hv
open Go.RowKit Go.Sort
theorem z02_ {n:LU} {k:Int} {x:z70_}:∀ {T:List z70_},xa_ n k T=some x→x∈T
 |[],h=>by cases h
 |y::T,h=>by
  rw[xa_] at h
  split at h
  ·cases h;simp
  ·simp [z02_ h]
theorem z3x_ {n:LU} {x:z70_} (h:qx_ n=some x):x∈tab:=by
 unfold qx_ at h
 rw[Option.or_eq_some_iff] at h
 rcases h with h|⟨_,h⟩
 ·exact z02_ h
 ·rw[Option.or_eq_some_iff] at h
  rcases h with h|⟨_,h⟩
  ·exact z02_ h
  ·exact z02_ h
theorem zdd_ {n:LU} {k:Int} {x:z70_} (h:zck_ n k=some x):x∈tab:=z3x_ (Option.filter_eq_some_iff.1 h).1
theorem zi4_:∀ x∈tab,x.2.2.1.length≤2:=by decide
theorem z0v_ {n:LU} {k:Int} {x:z70_} (h:zck_ n k=some x):x.2.2.1.length≤2:=zi4_ x (zdd_ h)
def zbo_ (rule v:LU):Value:=match zck_ (z2_ rule) 0 with
 |none=> .tuple #[.string ⟨#[]⟩,.int .i64 41]
 |some x=>qp_ 40 (v5_ x v)
theorem zn5_ (rule v:LU) (w:World) (hw:Env w) (hl:rule.length≤140737488351232):
  Calls Tryz.prog 75 #[.string ⟨rule.toArray⟩,.string ⟨v.toArray⟩] w fun e w'=>e= .returned (zbo_ rule v)∧Bel w w':=by
 have hc:=z6k_ rule 0 w hl
 cases ha:zck_ (z2_ rule) 0 with
 |none=>
  rw[ha] at hc
  rw[show zbo_ rule v= .tuple #[.string ⟨#[]⟩,.int .i64 41] by unfold zbo_;rw[ha]]
  clear ha
  go_enter Tryz.func75,Tryz.ntmps75
  go_wp2_with (go_at_call 141;refine hc.mono ?_;rintro e w1 ⟨hb,rfl⟩)
  go_ret2
  exact⟨rfl,hb⟩
 |some x=>
  have hfl:=z0v_ ha
  rw[ha] at hc
  have HN:=hiD (fun b W (hW:Env W) hR=>z2e_ x b v W hW hR hfl)
  rw[show zbo_ rule v=qp_ 40 (v5_ x v) by unfold zbo_;rw[ha]]
  clear ha
  generalize v5_ x v=o at *
  cases o
  ·simp only[qp_]
   go_enter Tryz.func75,Tryz.ntmps75
   go_wp2_with (first|(go_at_call 141;refine hc.mono ?_;rintro e w1 ⟨hb,b,rfl,hbb,hrow⟩)|(go_at_call 142;refine(HN.out _ _ (hw.keep hb) hrow).mono ?_;rintro e w2 ⟨rfl,hb2⟩;simp only[qp_]))
   go_ret2
   exact⟨rfl,tQ hb hb2⟩
  ·simp only[qp_]
   go_enter Tryz.func75,Tryz.ntmps75
   go_wp2_with (first|(go_at_call 141;refine hc.mono ?_;rintro e w1 ⟨hb,b,rfl,hbb,hrow⟩)|(go_at_call 142;refine(HN.out _ _ (hw.keep hb) hrow).mono ?_;rintro e w2 ⟨rfl,hb2⟩;simp only[qp_]))
   go_ret2
   exact⟨rfl,tQ hb hb2⟩
def zgj_ (x:z70_) (a b:LU):Option (LU × LU):=match v5_ x a,v5_ x b with
 |some p,some q=>some (p,q)
 |_,_=>none
def zdo_:Option (LU × LU)→Value
 |none=> .tuple #[.string ⟨#[]⟩,.string ⟨#[]⟩,.int .i64 40]
 |some (p,q)=> .tuple #[.string ⟨p.toArray⟩,.string ⟨q.toArray⟩,.int .i64 0]
theorem both_c (x:z70_) (r:Nat) (a b:LU) (w:World) (hw:Env w) (h:RowAt w r x) (hfl:x.2.2.1.length≤2):
  Calls Tryz.prog 152 #[.pointer (some ⟨r,0,none⟩),.string ⟨a.toArray⟩,.string ⟨b.toArray⟩] w fun e w'=>e= .returned (zdo_ (zgj_ x a b))∧Bel w w':=by
 have hA:=z2e_ x r a w hw h hfl
 have HB:=hiD (fun W (hW:Bel w W)=>z2e_ x r b W (hw.keep hW) (h.below hW) hfl)
 unfold zgj_
 generalize v5_ x a=oa at *
 generalize v5_ x b=ob at *
 clear h
 cases oa with
 |none=>
  simp only[zdo_]
  go_enter Tryz.func152,Tryz.ntmps152
  go_wp2_with fail
  refine hA.mono ?_
  rintro e w1 ⟨rfl,hb1⟩
  simp only[qp_]
  go_wp2_with fail
  go_ret3
  exact⟨rfl,hb1⟩
 |some p=>
  cases ob with
  |none=>
   simp only[zdo_]
   go_enter Tryz.func152,Tryz.ntmps152
   go_wp2_with fail
   refine hA.mono ?_
   rintro e w1 ⟨rfl,hb1⟩
   simp only[qp_]
   go_wp2_with fail
   refine(HB.out _ hb1).mono ?_
   rintro e w2 ⟨rfl,hb2⟩
   simp only[qp_]
   go_wp2_with fail
   go_ret3
   exact⟨rfl,tQ hb1 hb2⟩
  |some q=>
   simp only[zdo_]
   go_enter Tryz.func152,Tryz.ntmps152
   go_wp2_with fail
   refine hA.mono ?_
   rintro e w1 ⟨rfl,hb1⟩
   simp only[qp_]
   go_wp2_with fail
   refine(HB.out _ hb1).mono ?_
   rintro e w2 ⟨rfl,hb2⟩
   simp only[qp_]
   go_wp2_with fail
   go_ret3
   exact⟨rfl,tQ hb1 hb2⟩
def z65_ (r:Bool × Int):Value:= .tuple #[.bool r.1,.int .i64 r.2]
def zhh_:LU:=[105,110,116,101,103,101,114,79,114,100,101,114,105,110,103,77,97,116,99,104]
def zco_ (n:LU):Option (LU × LU)→Int × Int
 |none=>(0,40)
 |some (p,q)=>(if n=zhh_ then znq_ p q else z16_ p q,0)
def kf_ (rule a b:LU):Int × Int:=match zck_ (z2_ rule) 1 with
 |none=>(0,41)
 |some x=>zco_ x.1 (zgj_ x a b)
def z5m_ (r:Int × Int):Value:= .tuple #[.int .i64 r.1,.int .i64 r.2]
theorem zhf_ (rule a b:LU) (w:World) (hw:Env w) (hl:rule.length≤140737488351232):
  Calls Tryz.prog 90 #[.string ⟨rule.toArray⟩,.string ⟨a.toArray⟩,.string ⟨b.toArray⟩] w fun e w'=>e= .returned (z5m_ (kf_ rule a b))∧Bel w w':=by
 have hc:=z6k_ rule 1 w hl
 cases ha:zck_ (z2_ rule) 1 with
 |none=>
  rw[ha] at hc
  rw[show kf_ rule a b=(0,41) by unfold kf_;rw[ha]]
  clear ha
  simp only[z5m_]
  go_enter Tryz.func90,Tryz.ntmps90
  go_wp2_with (go_at_call 141;refine hc.mono ?_;rintro e w1 ⟨hb,rfl⟩)
  go_ret2
  exact⟨rfl,hb⟩
 |some x=>
  have hfl:=z0v_ ha
  rw[ha] at hc
  have HN:=hiD (fun r W (hW:Env W) hR=>both_c x r a b W hW hR hfl)
  rw[show kf_ rule a b=zco_ x.1 (zgj_ x a b) by unfold kf_;rw[ha]]
  clear ha
  generalize zgj_ x a b=o at *
  rcases o with _|⟨p,q⟩
  ·simp only[zdo_] at HN
   simp only[z5m_,zco_]
   go_enter Tryz.func90,Tryz.ntmps90
   go_wp2_with (first|(go_at_call 141;refine hc.mono ?_;rintro e w1 ⟨hb,b,rfl,hbb,hrow⟩)|(go_at_call 152;refine(HN.out _ _ (hw.keep hb) hrow).mono ?_;rintro e w2 ⟨rfl,hb2⟩))
   go_ret2
   exact⟨rfl,tQ hb hb2⟩
  ·simp only[zdo_] at HN
   simp only[z5m_,zco_]
   by_cases hx:x.1=zhh_
   ·have e1:(x.1==[105,110,116,101,103,101,114,79,114,100,101,114,105,110,103,77,97,116,99,104])=true:=beq_iff_eq.2 hx
    rw[if_pos hx]
    clear hx
    go_enter Tryz.func90,Tryz.ntmps90
    go_wp2_with (first|(go_at_call 141;refine hc.mono ?_;rintro e w1 ⟨hb,b,rfl,hbb,hrow⟩)|(go_at_call 152;refine(HN.out _ _ (hw.keep hb) hrow).mono ?_;rintro e w2 ⟨rfl,hb2⟩;obtain⟨fA,fN,fC,nF,n1,n2,h1,h2,h3⟩:=hrow.below hb2;have hcell:w2.cell? ⟨b,0,none⟩=some (.string ⟨x.1.toArray⟩):=(by simp [World.cell?,h1]))|(go_at_call 153;refine(zdw_ p q _).mono ?_;rintro e w3 ⟨rfl,hb3⟩))
    go_ret2
    exact⟨rfl,(tQ hb hb2).trans (hb3.mono (nT hb.size hb2.size))⟩
   ·have e1:(x.1==[105,110,116,101,103,101,114,79,114,100,101,114,105,110,103,77,97,116,99,104])=false:=beq_eq_false_iff_ne.2 hx
    rw[if_neg hx]
    clear hx
    go_enter Tryz.func90,Tryz.ntmps90
    go_wp2_with (first|(go_at_call 141;refine hc.mono ?_;rintro e w1 ⟨hb,b,rfl,hbb,hrow⟩)|(go_at_call 152;refine(HN.out _ _ (hw.keep hb) hrow).mono ?_;rintro e w2 ⟨rfl,hb2⟩;obtain⟨fA,fN,fC,nF,n1,n2,h1,h2,h3⟩:=hrow.below hb2;have hcell:w2.cell? ⟨b,0,none⟩=some (.string ⟨x.1.toArray⟩):=(by simp [World.cell?,h1]))|(go_at_call 79;refine(z31_ p q _).mono ?_;rintro e w3 ⟨rfl,rfl⟩))
    go_ret2
    exact⟨rfl,tQ hb hb2⟩
open Go.RowKit
def VR (r:Int):Prop:=(0≤r∧r<55296)∨(57344≤r∧r≤1114111)
theorem VR_of {r:Int} (h:Lib.validRune r=true):VR r:=by
 unfold Lib.validRune at h;simp at h;unfold VR;omega
theorem zhn_ {r:Int} (h:VR r):
  (0≤r∧r<128∧vd_ r=[UInt8.ofNat r.toNat])∨
  (128≤r∧r<2048∧vd_ r=[UInt8.ofNat (192+r.toNat / 64),UInt8.ofNat (128+r.toNat % 64)])∨
  (2048≤r∧r<65536∧vd_ r=[UInt8.ofNat (224+r.toNat / 4096),UInt8.ofNat (128+r.toNat / 64 % 64),UInt8.ofNat (128+r.toNat % 64)])∨
  (65536≤r∧r≤1114111∧vd_ r=[UInt8.ofNat (240+r.toNat / 262144),UInt8.ofNat (128+r.toNat / 4096 % 64),UInt8.ofNat (128+r.toNat / 64 % 64),UInt8.ofNat (128+r.toNat % 64)]):=by
 have hv:Utf8.valid r=true:=by unfold VR at h;unfold Utf8.valid;simp;omega
 unfold vd_ Utf8.encode
 rw[hv]
 simp only[if_true]
 by_cases h1:r.toNat<128
 ·left;refine⟨by unfold VR at h;omega,by omega,?_⟩;rw[if_pos h1]
 ·rw[if_neg h1]
  right
  by_cases h2:r.toNat<2048
  ·left;refine⟨by omega,by omega,?_⟩;rw[if_pos h2]
  ·rw[if_neg h2]
   right
   by_cases h3:r.toNat<65536
   ·left;refine⟨by omega,by omega,?_⟩;rw[if_pos h3]
   ·rw[if_neg h3]
    right
    refine⟨by omega,by unfold VR at h;omega,rfl⟩
theorem ofN {n:Nat} (h:n<256):(UInt8.ofNat n).toNat=n:=by simp;omega
/-! ### what becomes of characters -/
def ziv_ (fold:Bool) (acc:List Int) (r:Int):Option (List Int):=
 if (yx_ r).2.2 then none
 else if !(yx_ r).2.1 then some acc
 else if (yx_ r).1=32∧acc.getLast?=some 32 then some acc
 else some (acc++[if fold then x3_ (yx_ r).1 else (yx_ r).1])
def zfr_ (fold:Bool):List Int→List Int→Option (List Int)
 |[],acc=>some acc
 |r::rs,acc=>(ziv_ fold acc r).bind (zfr_ fold rs)
open Go.RowKit
theorem zjs_ {α:Type} [BEq α] [LawfulBEq α] (c:α):∀ l:List α,l.head?≠some c→l.dropWhile (·==c)=l
 |[],_=>rfl
 |x::l,h=>by
  have:(x==c)=false:=by rw[beq_eq_false_iff_ne];intro e;apply h;simp [e]
  rw[List.dropWhile_cons,this];simp
theorem map_some (f g:Bool):∀ (rs acc acc':List Int),(zfr_ f rs acc).isSome=(zfr_ g rs acc').isSome
 |[],_,_=>rfl
 |r::rs,acc,acc'=>by
  rw[zfr_,zfr_]
  have hs:∀ (f:Bool) (acc:List Int),(yx_ r).2.2=false→∃ a,ziv_ f acc r=some a:=by
   intro f acc h
   unfold ziv_
   rw[h]
   simp only[Bool.false_eq_true,if_false]
   split
   ·exact⟨_,rfl⟩
   ·split
    ·exact⟨_,rfl⟩
    ·exact⟨_,rfl⟩
  cases h:(yx_ r).2.2
  ·obtain⟨a,ha⟩:=hs f acc h
   obtain⟨b,hb⟩:=hs g acc' h
   rw[ha,hb]
   exact map_some f g rs a b
  ·have:∀ (f:Bool) (acc:List Int),ziv_ f acc r=none:=by intro f acc;unfold ziv_;rw[h];rfl
   rw[this,this];rfl
open Go.RowKit Go.Sort
open Go.RowKit Go.Sort
def spl (d:UInt8):LU→LL
 |[]=>[[]]
 |c::t=>if c=d then []::spl d t else match spl d t with
  |[]=>[[c]]
  |x::r=>(c::x)::r
theorem spl_ne (d:UInt8):∀ l,spl d l≠[]
 |[]=>by simp [spl]
 |c::t=>by
  rw[spl]
  split
  ·simp
  ·split<;>simp
theorem zb8_ (c d:UInt8) (h:c≠d) (t:LU):∀ k,∃ x r,Lib.splitK [d] 0 k t=x::r∧Lib.splitK [d] 0 k (c::t)=(c::x)::r
 |0=>⟨t,[],rfl,rfl⟩
 |k+1=>by
  have hp:([d]:LU).isPrefixOf (c::t)=false:=by simp [List.isPrefixOf,Ne.symm h]
  have hix:Lib.index (c::t) [d]=if Lib.index t [d]== -1 then -1 else Lib.index t [d]+1:=by rw[Lib.index,hp];simp
  rw[Lib.splitK,Lib.splitK,hix]
  by_cases hm:(Lib.index t [d]== -1)=true
  ·rw[if_pos hm,if_pos hm];exact⟨t,[],rfl,rfl⟩
  ·rw[if_neg hm,if_neg hm]
   have hge:=Lib.index_ge t [d]
   have hm':Lib.index t [d]≠ -1:=by simpa using hm
   obtain⟨j,hj⟩:∃ j:Nat,Lib.index t [d]=j:=⟨(Lib.index t [d]).toNat,by omega⟩
   rw[hj,if_neg (by simp;omega)]
   refine⟨_,_,rfl,?_⟩
   rw[show ((j:Int)+1).toNat=j+1 by omega]
   simp
theorem z5g_ (d:UInt8):∀ l:LU,Lib.splitK [d] 0 (l.count d) l=spl d l
 |[]=>rfl
 |c::t=>by
  have ih:=z5g_ d t
  by_cases h:c=d
  ·subst h
   rw[List.count_cons_self,Lib.splitK,spl,if_pos rfl]
   have hix:Lib.index (c::t) [c]=((0:Nat):Int):=by rw[Lib.index];simp [List.isPrefixOf]
   rw[hix]
   simp only[List.length_singleton,Int.toNat_natCast]
   rw[if_neg (by decide)]
   simp [ih]
  ·rw[List.count_cons_of_ne (by simpa using h)]
   obtain⟨x,r,e1,e2⟩:=zb8_ c d h t (t.count d)
   rw[e2,spl,if_neg h,← ih,e1]
theorem zkf_ (l:LU):zae_ l=spl 46 l:=by
 unfold zae_
 rw[Lib.splitB_data]
 have:Lib.countB ⟨l.toArray⟩ ⟨#[46]⟩=l.count 46:=by
  show Lib.count l [46]=_
  exact Lib.count_one 46 l
 rw[this]
 exact z5g_ 46 l
theorem zbr_ (d:UInt8):∀ (l:LU) (c:UInt8),c∈l→c=d∨∃ s∈spl d l,c∈s
 |[],c,h=>by simp at h
 |x::t,c,h=>by
  rw[spl]
  rw[List.mem_cons] at h
  by_cases hx:x=d
  ·rw[if_pos hx]
   rcases h with rfl|h
   ·exact .inl hx
   ·rcases zbr_ d t c h with h1|⟨s,h1,h2⟩
    ·exact .inl h1
    ·exact .inr ⟨s,by simp [h1],h2⟩
  ·rw[if_neg hx]
   have hne:=spl_ne d t
   cases hs:spl d t with
   |nil=>exact absurd hs hne
   |cons y r=>
    simp only
    rcases h with rfl|h
    ·exact .inr ⟨_,List.mem_cons_self ..,by simp⟩
    ·rcases zbr_ d t c h with h1|⟨s,h1,h2⟩
     ·exact .inl h1
     ·rw[hs,List.mem_cons] at h1
      rcases h1 with rfl|h1
      ·exact .inr ⟨_,List.mem_cons_self ..,by simp [h2]⟩
      ·exact .inr ⟨s,by simp [h1],h2⟩
theorem zj5_ {l:LU} (h:z5t_ l=true):∀ c∈l,c=46∨ko_ c=true:=by
 intro c hc
 unfold z5t_ at h
 rw[zkf_,Bool.and_eq_true] at h
 rcases zbr_ 46 l c hc with h1|⟨s,h1,h2⟩
 ·exact .inl h1
 ·right
  have:=List.all_eq_true.1 h.1 s h1
  unfold z24_ at this
  rw[Bool.and_eq_true] at this
  exact List.all_eq_true.1 this.2 c h2
theorem zlq_ {c:UInt8} (h:c=46∨ko_ c=true):zfq_ c=true∧lowB c=c:=by
 unfold zfq_ yc_ digB lowB
 rcases h with rfl|h
 ·decide
 ·unfold ko_ at h
  simp at h
  refine⟨?_,by rw[if_neg (by omega)]⟩
  have h1:decide ((48:Int)≤(c.toNat:Int))=true:=by simp;omega
  have h2:decide ((c.toNat:Int)≤57)=true:=by simp;omega
  rw[h1,h2];simp
theorem zq7_ {t:LU} (h:ze_ t=true):t≠[]:=by rintro rfl;simp [ze_] at h
theorem zda_ {t:LU} (h:ze_ t=true):∀ c∈t,zfq_ c=true:=by
 cases t with
 |nil=>simp
 |cons c m=>
  unfold ze_ at h
  rw[Bool.and_eq_true] at h
  intro x hx
  by_cases hl:zkx_ c.toNat=true
  ·rw[if_pos hl] at h
   have:=List.all_eq_true.1 h.2 x hx
   unfold kn_ at this
   rw[Bool.and_eq_true] at this
   exact this.1
  ·rw[if_neg hl] at h
   exact(zlq_ (zj5_ h.2 x hx)).1
open Go.RowKit Go.Sort
def Stop (r:LU):Prop:=∀ x t,r=x::t→x=43∨x=44
theorem z6m_ (l:LU) (c:UInt8):0≤Lib.indexByte l c↔c∈l:=by
 have:=Lib.contains_iff_indexByte l c
 rw[Bool.eq_iff_iff] at this
 simpa using this.symm
theorem za9_:∀ n:Fin 16,q4_ (zjc_ n.val).toNat=(n.val:Int)∧z64_ (zjc_ n.val)=true:=by decide
theorem z3l_:∀ v:LU,zy_ (vw_ v)=some v
 |[]=>rfl
 |c::t=>by
  have h1:=(za9_ ⟨c.toNat / 16,by have:=UInt8.toNat_lt c;omega⟩).1
  have h2:=(za9_ ⟨c.toNat % 16,by omega⟩).1
  simp only at h1 h2
  have:vw_ (c::t)=zjc_ (c.toNat / 16)::zjc_ (c.toNat % 16)::vw_ t:=by simp [vw_]
  rw[this,zy_,h1,h2,if_neg (by omega),z3l_ t]
  simp only[Option.map_some]
  congr 2
  unfold k2_
  apply UInt8.toNat_inj.1
  have:=UInt8.toNat_lt c
  rw[ofN (by omega)]
  omega
theorem blk_id (l:LU) (h:∀ x t,l=x::t→x≠32):blk l=l:=by
 unfold blk
 apply zjs_
 cases l with
 |nil=>simp
 |cons x t=>simp;exact h x t rfl
theorem Stop.blk {r:LU} (h:Stop r):blk r=r:=blk_id r (fun x t e=>by rcases h x t e with rfl|rfl<;>decide)
open Go.RowKit Go.Sort
def vm_ (r v:LU):Int × LU:=match zck_ (z2_ r) 0 with
 |none=>(41,[])
 |some x=>match v5_ x v with
  |none=>(40,[])
  |some m=>(0,m)
def zj_ (L:List DefS) (t v:LU):Int × LU:=match zg_ L false t with
 |none=>(52,[])
 |some i=>match qf_ L i with
  |none=>(52,[])
  |some a=>if ji_ a.form v then (if a.eqr==[] then (0,v) else vm_ a.eqr v) else (40,[])
def z1n_ (L:List DefS) (t:LU):LU:=match zg_ L false t with
 |none=>[]
 |some i=>z8q_ L i
def zbx_ {α β:Type} (f:α→Int × β):List α→Int × List β
 |[]=>(0,[])
 |x::t=>if (f x).1≠0 then ((f x).1,[]) else (if (zbx_ f t).1≠0 then ((zbx_ f t).1,[]) else (0,(f x).2::(zbx_ f t).2))
def z2g_ (L:List DefS) (x:LU × LU):Int × (LU × LU):=((zj_ L x.1 x.2).1,(z2_ (z1n_ L x.1),(zj_ L x.1 x.2).2))
def z3d_ (L:List DefS) (p:List (LU × LU)):Int × List (LU × LU):=((zbx_ (z2g_ L) p).1,z9v_ (zbx_ (z2g_ L) p).2)
def z4k_ (L:List DefS) (s:LU):Int × LU:=
 if (zf_ s).1≠0 then ((zf_ s).1,[])
 else if (zbx_ (z3d_ L) (zf_ s).2).1≠0 then ((zbx_ (z3d_ L) (zf_ s).2).1,[])
 else je_ (zbx_ (z3d_ L) (zf_ s).2).2
theorem zb7_ {α β:Type} {f:α→Int × β}:∀ {l:List α},(∀ x∈l,(f x).1=0)→zbx_ f l=(0,l.map (fun x=>(f x).2))
 |[],_=>by simp [zbx_]
 |x::t,h=>by
  have ih:=zb7_ (f:=f) (l:=t) (fun y hy=>h y (by simp [hy]))
  have h1:=h x (by simp)
  rw[zbx_,if_neg (by simpa using h1),ih,if_neg (by simp)]
  simp
end Go.Proofs.YtbekpphodbekiaaGreatDoor
