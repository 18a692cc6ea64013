import Derived.Test.YtakfpngfpknedaaGreatDoorE0r
import Derived.Test.YtakfpngfpknedaaGreatDoorE0n
set_option linter.all false
set_option maxHeartbeats 8000000
set_option maxRecDepth 100000
namespace Go.Proofs.YtakfpngfpknedaaGreatDoor
open Go.RowKit Go.Sort
abbrev z9c_:=LU × Int × LL × NormFn
def applyN:NormFn→LU→Option LU
 | .self,v=>some v
 | .text fold,v=>z1g_ v fold
 | .name,v=>z4a_ v
 | .oid,v=>some (z2_ v)
def z7q_ (x:z9c_) (v:LU):Option LU:=if decide (v.length≤1024) && x.2.2.1.any (fun f=>j6_ f v) then applyN x.2.2.2 v else none
def x2_ (w:World) (o:Option LU) (e:Ending) (w':World):Prop:=e= .returned (x4_ 40 o)∧Bel w w'
theorem z8a_ (x:z9c_) (b:Nat) (v:LU) (w:World) (h:RowAt w b x) (hv:¬ v.length≤1024):
  Calls Tryz.prog 252 #[.pointer (some ⟨b,0,none⟩),.string ⟨v.toArray⟩] w (x2_ w none):=by
 have hv':1024<v.length:=by omega
 clear h
 go_enter Tryz.func252,Tryz.ntmps252
 go_wp2
 go_ret2
 exact⟨rfl,(bR _ _).alloc (nR _) _⟩
theorem RowAt.any {w W:World} {b:Nat} {x:z9c_} {v:LU} (h:RowAt w b x) (hfl:x.2.2.1.length≤2) (hw:Env w) (hW:W=w.alloc (.cells #[.string ⟨v.toArray⟩] 9)) {fA:Option Addr} {fN fC:Nat} (hT:Texts w (.slice fA fN fC) x.2.2.1):
  Calls Tryz.prog 86 #[.slice fA fN fC,.func (.func 277) #[] #[.pointer (some ⟨w.heap.size,0,none⟩)]] W fun e w'=>e= .returned (.bool (x.2.2.1.any (fun f=>j6_ f v)))∧Bel W w':=by
 subst hW
 have hb:=(bR w.heap.size w).alloc (nR _) (.cells #[.string ⟨v.toArray⟩] 9)
 have hc:=Bk.new w 9 #[.string ⟨v.toArray⟩]
 exact zc9_ x.2.2.1 _ _ (hT.below hb) (by omega) w.heap.size (fun f=>j6_ f v) (fun f _ W' hB=>zdl_ f v w.heap.size W' ((hw.keep hb).keep hB) ((hc.below hB).cell 0))
theorem z7d_ (x:z9c_) (b:Nat) (v:LU) (w:World) (hw:Env w) (h:RowAt w b x) (hfl:x.2.2.1.length≤2) (hv:v.length≤1024) (ha:x.2.2.1.any (fun f=>j6_ f v)=false):
  Calls Tryz.prog 252 #[.pointer (some ⟨b,0,none⟩),.string ⟨v.toArray⟩] w (x2_ w none):=by
 have hlt:=h.lt
 have h0:=h
 obtain⟨fA,fN,fC,nF,n1,n2,h1,h2,h3⟩:=h
 have hA:=h0.any (v:=v) hfl hw rfl h2
 rw[ha] at hA
 have hcell:(w.alloc (.cells #[.string ⟨v.toArray⟩] 9)).cell? ⟨b,2,none⟩=some (.slice fA fN fC):=(World.cell?_alloc_lt _ _ _ hlt).trans (by simp [World.cell?,h1])
 have hmf:=z1y_
 clear h0 h1 h2 h3 ha
 go_enter Tryz.func252,Tryz.ntmps252
 go_wp2_with (go_at_call 86;refine hA.mono ?_;rintro e w2 ⟨rfl,hb2⟩)
 go_ret2
 exact⟨rfl,((bR _ _).alloc (nR _) _).trans (hb2.mono (by simp))⟩
theorem z8j_ (x:z9c_) (b:Nat) (v:LU) (w:World) (hw:Env w) (h:RowAt w b x) (hfl:x.2.2.1.length≤2) (hv:v.length≤1024) (ha:x.2.2.1.any (fun f=>j6_ f v)=true) (hn:x.2.2.2=NormFn.self) (o:Option LU) (ho:o=some v):
  Calls Tryz.prog 252 #[.pointer (some ⟨b,0,none⟩),.string ⟨v.toArray⟩] w (x2_ w o):=by
 have hlt:=h.lt
 have h0:=h
 obtain⟨fA,fN,fC,nF,n1,n2,h1,h2,h3⟩:=h
 have hA:=h0.any (v:=v) hfl hw rfl h2
 rw[ha] at hA
 rw[hn] at h3
 obtain⟨rfl,rfl,rfl⟩:nF= .func 266∧n1=#[]∧n2=#[]:=by have h3':Value.func nF n1 n2= .func (.func 266) #[] #[]:=h3;cases h3';exact⟨rfl,rfl,rfl⟩
 have hbw:=(bR w.heap.size w).alloc (nR _) (.cells #[.string ⟨v.toArray⟩] 9)
 have kV:=Bk.new w 9 #[.string ⟨v.toArray⟩]
 have HC:Hid (∀ W,Bel w W→Calls Tryz.prog 266 #[.string ⟨v.toArray⟩] W (xs_ W o)):=hiD fun W hW=>by rw[ho];exact self_c v W
 have hcell:(w.alloc (.cells #[.string ⟨v.toArray⟩] 9)).cell? ⟨b,2,none⟩=some (.slice fA fN fC):=(World.cell?_alloc_lt _ _ _ hlt).trans (by simp [World.cell?,h1])
 have hcell3:(w.alloc (.cells #[.string ⟨v.toArray⟩] 9)).cell? ⟨b,3,none⟩=some (.func (.func 266) #[] #[]):=(World.cell?_alloc_lt _ _ _ hlt).trans (by simp [World.cell?,h1])
 have hsz:(w.alloc (.cells #[.string ⟨v.toArray⟩] 9)).heap.size=w.heap.size+1:=by simp
 have HSZ:=hiD hsz
 have HC3:=hiD hcell3
 have HKV:=hiD kV
 have hmf:=z1y_
 have HO:=hiD ho
 clear h0 h1 h2 h3 ha hn ho hsz hcell3 kV
 go_enter Tryz.func252,Tryz.ntmps252
 go_wp2_with (go_at_call 86;refine hA.mono ?_;rintro e w2 ⟨rfl,hb2⟩)
 have f1:w2.cell? ⟨b,3,none⟩=some (.func (.func 266) #[] #[]):=(hb2.cell (p:=⟨b,3,none⟩) (by have:=HSZ.out;simp;omega)).trans HC3.out
 have f2:w2.cell? ⟨w.heap.size,0,none⟩=some (.string ⟨v.toArray⟩):=(HKV.out.below hb2).cell 0
 have hB2:Bel w w2:=hbw.trans (hb2.mono (by have:=HSZ.out;omega))
 have HB2:=hiD hB2
 clear hA hcell hb2 hB2 hmf
 go_region_held3 (fun w'=>w'.cell? ⟨b,3,none⟩=some (.func (.func 266) #[] #[])∧w'.cell? ⟨w.heap.size,0,none⟩=some (.string ⟨v.toArray⟩)) (first|exact⟨f1,f2⟩|exact⟨f1',f2'⟩) (first|(go_at_call 266;refine(HC.out _ (HB2.out.trans ((bR _ _).drew.mono HB2.out.size))).mono ?_;rintro e w4 ⟨hb4,r,rfl,hr⟩;have Hr:=hiD hr;clear hr;have f1':w4.cell? ⟨b,3,none⟩=some (.func (.func 266) #[] #[]):=(hb4.cell (p:=⟨b,3,none⟩) (by have:=HB2.out.size;simp;omega)).trans f1;have f2':w4.cell? ⟨w.heap.size,0,none⟩=some (.string ⟨v.toArray⟩):=(hb4.cell (p:=⟨w.heap.size,0,none⟩) (by simp;exact z9_ f2)).trans f2))
 all_goals
  have hfin:Bel w w4:=HB2.out.trans ((show Bel w2 w4 from ((bR _ _).drew.trans hb4)).mono HB2.out.size)
  cases o with
  |none=>
   go_wp2_with fail
   go_ret2
   exact⟨rfl,hfin⟩
  |some m=>
   obtain rfl:=Hr.out m rfl
   go_wp2_with fail
   go_ret2
   exact⟨rfl,hfin⟩
theorem zal_ (x:z9c_) (b:Nat) (v:LU) (w:World) (hw:Env w) (h:RowAt w b x) (hfl:x.2.2.1.length≤2) (hv:v.length≤1024) (ha:x.2.2.1.any (fun f=>j6_ f v)=true) (hn:x.2.2.2=NormFn.oid) (o:Option LU) (ho:o=some (z2_ v)):
  Calls Tryz.prog 252 #[.pointer (some ⟨b,0,none⟩),.string ⟨v.toArray⟩] w (x2_ w o):=by
 have hlt:=h.lt
 have h0:=h
 obtain⟨fA,fN,fC,nF,n1,n2,h1,h2,h3⟩:=h
 have hA:=h0.any (v:=v) hfl hw rfl h2
 rw[ha] at hA
 rw[hn] at h3
 obtain⟨rfl,rfl,rfl⟩:nF= .func 269∧n1=#[]∧n2=#[]:=by have h3':Value.func nF n1 n2= .func (.func 269) #[] #[]:=h3;cases h3';exact⟨rfl,rfl,rfl⟩
 have hbw:=(bR w.heap.size w).alloc (nR _) (.cells #[.string ⟨v.toArray⟩] 9)
 have kV:=Bk.new w 9 #[.string ⟨v.toArray⟩]
 have HC:Hid (∀ W,Bel w W→Calls Tryz.prog 269 #[.string ⟨v.toArray⟩] W (xs_ W o)):=hiD fun W hW=>by rw[ho];exact oid_c v W hv
 have hcell:(w.alloc (.cells #[.string ⟨v.toArray⟩] 9)).cell? ⟨b,2,none⟩=some (.slice fA fN fC):=(World.cell?_alloc_lt _ _ _ hlt).trans (by simp [World.cell?,h1])
 have hcell3:(w.alloc (.cells #[.string ⟨v.toArray⟩] 9)).cell? ⟨b,3,none⟩=some (.func (.func 269) #[] #[]):=(World.cell?_alloc_lt _ _ _ hlt).trans (by simp [World.cell?,h1])
 have hsz:(w.alloc (.cells #[.string ⟨v.toArray⟩] 9)).heap.size=w.heap.size+1:=by simp
 have HSZ:=hiD hsz
 have HC3:=hiD hcell3
 have HKV:=hiD kV
 have hmf:=z1y_
 have HO:=hiD ho
 clear h0 h1 h2 h3 ha hn ho hsz hcell3 kV
 go_enter Tryz.func252,Tryz.ntmps252
 go_wp2_with (go_at_call 86;refine hA.mono ?_;rintro e w2 ⟨rfl,hb2⟩)
 have f1:w2.cell? ⟨b,3,none⟩=some (.func (.func 269) #[] #[]):=(hb2.cell (p:=⟨b,3,none⟩) (by have:=HSZ.out;simp;omega)).trans HC3.out
 have f2:w2.cell? ⟨w.heap.size,0,none⟩=some (.string ⟨v.toArray⟩):=(HKV.out.below hb2).cell 0
 have hB2:Bel w w2:=hbw.trans (hb2.mono (by have:=HSZ.out;omega))
 have HB2:=hiD hB2
 clear hA hcell hb2 hB2 hmf
 go_region_held3 (fun w'=>w'.cell? ⟨b,3,none⟩=some (.func (.func 269) #[] #[])∧w'.cell? ⟨w.heap.size,0,none⟩=some (.string ⟨v.toArray⟩)) (first|exact⟨f1,f2⟩|exact⟨f1',f2'⟩) (first|(go_at_call 269;refine(HC.out _ (HB2.out.trans ((bR _ _).drew.mono HB2.out.size))).mono ?_;rintro e w4 ⟨hb4,r,rfl,hr⟩;have Hr:=hiD hr;clear hr;have f1':w4.cell? ⟨b,3,none⟩=some (.func (.func 269) #[] #[]):=(hb4.cell (p:=⟨b,3,none⟩) (by have:=HB2.out.size;simp;omega)).trans f1;have f2':w4.cell? ⟨w.heap.size,0,none⟩=some (.string ⟨v.toArray⟩):=(hb4.cell (p:=⟨w.heap.size,0,none⟩) (by simp;exact z9_ f2)).trans f2))
 all_goals
  have hfin:Bel w w4:=HB2.out.trans ((show Bel w2 w4 from ((bR _ _).drew.trans hb4)).mono HB2.out.size)
  cases o with
  |none=>
   go_wp2_with fail
   go_ret2
   exact⟨rfl,hfin⟩
  |some m=>
   obtain rfl:=Hr.out m rfl
   go_wp2_with fail
   go_ret2
   exact⟨rfl,hfin⟩
theorem z87_ (x:z9c_) (b:Nat) (v:LU) (w:World) (hw:Env w) (h:RowAt w b x) (hfl:x.2.2.1.length≤2) (hv:v.length≤1024) (ha:x.2.2.1.any (fun f=>j6_ f v)=true) (hn:x.2.2.2=NormFn.name) (o:Option LU) (ho:o=z4a_ v):
  Calls Tryz.prog 252 #[.pointer (some ⟨b,0,none⟩),.string ⟨v.toArray⟩] w (x2_ w o):=by
 have hlt:=h.lt
 have h0:=h
 obtain⟨fA,fN,fC,nF,n1,n2,h1,h2,h3⟩:=h
 have hA:=h0.any (v:=v) hfl hw rfl h2
 rw[ha] at hA
 rw[hn] at h3
 obtain⟨rfl,rfl,rfl⟩:nF= .func 268∧n1=#[]∧n2=#[]:=by have h3':Value.func nF n1 n2= .func (.func 268) #[] #[]:=h3;cases h3';exact⟨rfl,rfl,rfl⟩
 have hbw:=(bR w.heap.size w).alloc (nR _) (.cells #[.string ⟨v.toArray⟩] 9)
 have kV:=Bk.new w 9 #[.string ⟨v.toArray⟩]
 have HC:Hid (∀ W,Bel w W→Calls Tryz.prog 268 #[.string ⟨v.toArray⟩] W (xs_ W o)):=hiD fun W hW=>by rw[ho];exact name_c v W (hw.keep hW)
 have hcell:(w.alloc (.cells #[.string ⟨v.toArray⟩] 9)).cell? ⟨b,2,none⟩=some (.slice fA fN fC):=(World.cell?_alloc_lt _ _ _ hlt).trans (by simp [World.cell?,h1])
 have hcell3:(w.alloc (.cells #[.string ⟨v.toArray⟩] 9)).cell? ⟨b,3,none⟩=some (.func (.func 268) #[] #[]):=(World.cell?_alloc_lt _ _ _ hlt).trans (by simp [World.cell?,h1])
 have hsz:(w.alloc (.cells #[.string ⟨v.toArray⟩] 9)).heap.size=w.heap.size+1:=by simp
 have HSZ:=hiD hsz
 have HC3:=hiD hcell3
 have HKV:=hiD kV
 have hmf:=z1y_
 have HO:=hiD ho
 clear h0 h1 h2 h3 ha hn ho hsz hcell3 kV
 go_enter Tryz.func252,Tryz.ntmps252
 go_wp2_with (go_at_call 86;refine hA.mono ?_;rintro e w2 ⟨rfl,hb2⟩)
 have f1:w2.cell? ⟨b,3,none⟩=some (.func (.func 268) #[] #[]):=(hb2.cell (p:=⟨b,3,none⟩) (by have:=HSZ.out;simp;omega)).trans HC3.out
 have f2:w2.cell? ⟨w.heap.size,0,none⟩=some (.string ⟨v.toArray⟩):=(HKV.out.below hb2).cell 0
 have hB2:Bel w w2:=hbw.trans (hb2.mono (by have:=HSZ.out;omega))
 have HB2:=hiD hB2
 clear hA hcell hb2 hB2 hmf
 go_region_held3 (fun w'=>w'.cell? ⟨b,3,none⟩=some (.func (.func 268) #[] #[])∧w'.cell? ⟨w.heap.size,0,none⟩=some (.string ⟨v.toArray⟩)) (first|exact⟨f1,f2⟩|exact⟨f1',f2'⟩) (first|(go_at_call 268;refine(HC.out _ (HB2.out.trans ((bR _ _).drew.mono HB2.out.size))).mono ?_;rintro e w4 ⟨hb4,r,rfl,hr⟩;have Hr:=hiD hr;clear hr;have f1':w4.cell? ⟨b,3,none⟩=some (.func (.func 268) #[] #[]):=(hb4.cell (p:=⟨b,3,none⟩) (by have:=HB2.out.size;simp;omega)).trans f1;have f2':w4.cell? ⟨w.heap.size,0,none⟩=some (.string ⟨v.toArray⟩):=(hb4.cell (p:=⟨w.heap.size,0,none⟩) (by simp;exact z9_ f2)).trans f2))
 all_goals
  have hfin:Bel w w4:=HB2.out.trans ((show Bel w2 w4 from ((bR _ _).drew.trans hb4)).mono HB2.out.size)
  cases o with
  |none=>
   go_wp2_with fail
   go_ret2
   exact⟨rfl,hfin⟩
  |some m=>
   obtain rfl:=Hr.out m rfl
   go_wp2_with fail
   go_ret2
   exact⟨rfl,hfin⟩
theorem z7l_ (x:z9c_) (b:Nat) (v:LU) (w:World) (hw:Env w) (h:RowAt w b x) (hfl:x.2.2.1.length≤2) (hv:v.length≤1024) (ha:x.2.2.1.any (fun f=>j6_ f v)=true) (fold:Bool) (hn:x.2.2.2=NormFn.text fold) (o:Option LU) (ho:o=z1g_ v fold):
  Calls Tryz.prog 252 #[.pointer (some ⟨b,0,none⟩),.string ⟨v.toArray⟩] w (x2_ w o):=by
 have hlt:=h.lt
 have h0:=h
 obtain⟨fA,fN,fC,nF,n1,n2,h1,h2,h3⟩:=h
 have hA:=h0.any (v:=v) hfl hw rfl h2
 rw[ha] at hA
 rw[hn] at h3
 obtain⟨a,hfa,hca⟩:=h3
 obtain⟨rfl,rfl,rfl⟩:nF= .func 289∧n1=#[]∧n2=#[.pointer (some ⟨a,0,none⟩)]:=by cases hfa;exact⟨rfl,rfl,rfl⟩
 have HCA:=hiD hca
 clear hca hfa
 have h3:=trivial
 have hbw:=(bR w.heap.size w).alloc (nR _) (.cells #[.string ⟨v.toArray⟩] 9)
 have kV:=Bk.new w 9 #[.string ⟨v.toArray⟩]
 have HC:Hid (∀ W,Bel w W→Calls Tryz.prog 289 #[.string ⟨v.toArray⟩,.pointer (some ⟨a,0,none⟩)] W (xs_ W o)):=hiD fun W hW=>by rw[ho];exact ziu_ v fold a W (hw.keep hW) ((hW.cell (p:=⟨a,0,none⟩) (z9_ HCA.out)).trans HCA.out) hv
 have hcell:(w.alloc (.cells #[.string ⟨v.toArray⟩] 9)).cell? ⟨b,2,none⟩=some (.slice fA fN fC):=(World.cell?_alloc_lt _ _ _ hlt).trans (by simp [World.cell?,h1])
 have hcell3:(w.alloc (.cells #[.string ⟨v.toArray⟩] 9)).cell? ⟨b,3,none⟩=some (.func (.func 289) #[] #[.pointer (some ⟨a,0,none⟩)]):=(World.cell?_alloc_lt _ _ _ hlt).trans (by simp [World.cell?,h1])
 have hsz:(w.alloc (.cells #[.string ⟨v.toArray⟩] 9)).heap.size=w.heap.size+1:=by simp
 have HSZ:=hiD hsz
 have HC3:=hiD hcell3
 have HKV:=hiD kV
 have hmf:=z1y_
 have HO:=hiD ho
 clear h0 h1 h2 h3 ha hn ho hsz hcell3 kV
 go_enter Tryz.func252,Tryz.ntmps252
 go_wp2_with (go_at_call 86;refine hA.mono ?_;rintro e w2 ⟨rfl,hb2⟩)
 have f1:w2.cell? ⟨b,3,none⟩=some (.func (.func 289) #[] #[.pointer (some ⟨a,0,none⟩)]):=(hb2.cell (p:=⟨b,3,none⟩) (by have:=HSZ.out;simp;omega)).trans HC3.out
 have f2:w2.cell? ⟨w.heap.size,0,none⟩=some (.string ⟨v.toArray⟩):=(HKV.out.below hb2).cell 0
 have hB2:Bel w w2:=hbw.trans (hb2.mono (by have:=HSZ.out;omega))
 have HB2:=hiD hB2
 clear hA hcell hb2 hB2 hmf
 go_region_held3 (fun w'=>w'.cell? ⟨b,3,none⟩=some (.func (.func 289) #[] #[.pointer (some ⟨a,0,none⟩)])∧w'.cell? ⟨w.heap.size,0,none⟩=some (.string ⟨v.toArray⟩)) (first|exact⟨f1,f2⟩|exact⟨f1',f2'⟩) (first|(go_at_call 289;refine(HC.out _ (HB2.out.trans ((bR _ _).drew.mono HB2.out.size))).mono ?_;rintro e w4 ⟨hb4,r,rfl,hr⟩;have Hr:=hiD hr;clear hr;have f1':w4.cell? ⟨b,3,none⟩=some (.func (.func 289) #[] #[.pointer (some ⟨a,0,none⟩)]):=(hb4.cell (p:=⟨b,3,none⟩) (by have:=HB2.out.size;simp;omega)).trans f1;have f2':w4.cell? ⟨w.heap.size,0,none⟩=some (.string ⟨v.toArray⟩):=(hb4.cell (p:=⟨w.heap.size,0,none⟩) (by simp;exact z9_ f2)).trans f2))
 all_goals
  have hfin:Bel w w4:=HB2.out.trans ((show Bel w2 w4 from ((bR _ _).drew.trans hb4)).mono HB2.out.size)
  cases o with
  |none=>
   go_wp2_with fail
   go_ret2
   exact⟨rfl,hfin⟩
  |some m=>
   obtain rfl:=Hr.out m rfl
   go_wp2_with fail
   go_ret2
   exact⟨rfl,hfin⟩
theorem zfk_ (x:z9c_) (b:Nat) (v:LU) (w:World) (hw:Env w) (h:RowAt w b x) (hfl:x.2.2.1.length≤2):
  Calls Tryz.prog 252 #[.pointer (some ⟨b,0,none⟩),.string ⟨v.toArray⟩] w (x2_ w (z7q_ x v)):=by
 unfold z7q_
 by_cases hv:v.length≤1024
 ·cases ha:x.2.2.1.any (fun f=>j6_ f v)
  ·simp only[Bool.and_false,Bool.false_eq_true,if_false]
   exact z7d_ x b v w hw h hfl hv ha
  ·simp only[decide_eq_true hv,Bool.and_true,if_true]
   cases hn:x.2.2.2 with
   |self=>exact z8j_ x b v w hw h hfl hv ha hn _ rfl
   |text fold=>exact z7l_ x b v w hw h hfl hv ha fold hn _ rfl
   |name=>exact z87_ x b v w hw h hfl hv ha hn _ rfl
   |oid=>exact zal_ x b v w hw h hfl hv ha hn _ rfl
 ·simp only[decide_eq_false hv,Bool.false_and,Bool.false_eq_true,if_false]
  exact z8a_ x b v w h hv
open Go.RowKit Go.Sort
theorem v3_ {n:LU} {k:Int} {x:z9c_}:∀ {T:List z9c_},jt_ n k T=some x→x∈T
 |[],h=>by cases h
 |y::T,h=>by
  rw[jt_] at h
  split at h
  ·cases h;simp
  ·simp [v3_ h]
theorem z21_ {n:LU} {x:z9c_} (h:qy_ n=some x):x∈tab:=by
 unfold qy_ at h
 rw[Option.or_eq_some_iff] at h
 rcases h with h|⟨_,h⟩
 ·exact v3_ h
 ·rw[Option.or_eq_some_iff] at h
  rcases h with h|⟨_,h⟩
  ·exact v3_ h
  ·exact v3_ h
theorem zg5_ {n:LU} {k:Int} {x:z9c_} (h:zim_ n k=some x):x∈tab:=z21_ (Option.filter_eq_some_iff.1 h).1
theorem zdz_:∀ x∈tab,x.2.2.1.length≤2:=by decide
theorem zaz_ {n:LU} {k:Int} {x:z9c_} (h:zim_ n k=some x):x.2.2.1.length≤2:=zdz_ x (zg5_ h)
def z86_ (rule v:LU):Value:=match zim_ (z2_ rule) 0 with
 |none=> .tuple #[.string ⟨#[]⟩,.int .i64 41]
 |some x=>x4_ 40 (z7q_ x v)
theorem Norm_c (rule v:LU) (w:World) (hw:Env w) (hl:rule.length≤140737488351232):
  Calls Tryz.prog 207 #[.string ⟨rule.toArray⟩,.string ⟨v.toArray⟩] w fun e w'=>e= .returned (z86_ rule v)∧Bel w w':=by
 have hc:=ziz_ rule 0 w hl
 cases ha:zim_ (z2_ rule) 0 with
 |none=>
  rw[ha] at hc
  rw[show z86_ rule v= .tuple #[.string ⟨#[]⟩,.int .i64 41] by unfold z86_;rw[ha]]
  clear ha
  go_enter Tryz.func207,Tryz.ntmps207
  go_wp2_with (go_at_call 251;refine hc.mono ?_;rintro e w1 ⟨hb,rfl⟩)
  go_ret2
  exact⟨rfl,hb⟩
 |some x=>
  have hfl:=zaz_ ha
  rw[ha] at hc
  have HN:=hiD (fun b W (hW:Env W) hR=>zfk_ x b v W hW hR hfl)
  rw[show z86_ rule v=x4_ 40 (z7q_ x v) by unfold z86_;rw[ha]]
  clear ha
  generalize z7q_ x v=o at *
  cases o
  ·simp only[x4_]
   go_enter Tryz.func207,Tryz.ntmps207
   go_wp2_with (first|(go_at_call 251;refine hc.mono ?_;rintro e w1 ⟨hb,b,rfl,hbb,hrow⟩)|(go_at_call 252;refine(HN.out _ _ (hw.keep hb) hrow).mono ?_;rintro e w2 ⟨rfl,hb2⟩;simp only[x4_]))
   go_ret2
   exact⟨rfl,tQ hb hb2⟩
  ·simp only[x4_]
   go_enter Tryz.func207,Tryz.ntmps207
   go_wp2_with (first|(go_at_call 251;refine hc.mono ?_;rintro e w1 ⟨hb,b,rfl,hbb,hrow⟩)|(go_at_call 252;refine(HN.out _ _ (hw.keep hb) hrow).mono ?_;rintro e w2 ⟨rfl,hb2⟩;simp only[x4_]))
   go_ret2
   exact⟨rfl,tQ hb hb2⟩
open Go.RowKit
theorem z7p_ {n:LU} {x:LU × Int × LL × NormFn} (h:qy_ n=some x):x.2.2.1.length≤1000000:=by
 have h1:=z21_ h
 have h2:∀ y∈tab,y.2.2.1.length≤1000000:=by decide+kernel
 exact h2 x h1
theorem zcq_ (r f:LU) (w:World) (hr:r.length≤1000000):
  Calls Tryz.prog 126 #[.string ⟨r.toArray⟩,.string ⟨f.toArray⟩] w fun e w'=>e= .returned (.bool (qp_ r f))∧Bel w w':=by
 have hc:=zdn_ r w (by omega)
 unfold qp_
 cases hq:qy_ (z2_ r) with
 |none=>
  rw[hq] at hc
  go_enter Tryz.func126,Tryz.ntmps126
  go_wp2_with (go_at_call 195;refine hc.mono ?_;rintro e w1 ⟨hb,rfl⟩)
  all_goals
   go_ret
   exact⟨rfl,hb⟩
 |some x=>
  rw[hq] at hc
  have hlen:=z7p_ hq
  have HL:=hiD hlen
  clear hq hlen
  go_enter Tryz.func126,Tryz.ntmps126
  go_wp2_with (first|(go_at_call 195;refine hc.mono ?_;rintro e w1 ⟨hb,b,rfl,hbb,hrow⟩;obtain⟨fA,fN,fC,nF,n1,n2,h1,h2,h3⟩:=id hrow;have hcell:w1.cell? ⟨b,2,none⟩=some (.slice fA fN fC):=by simp [World.cell?,h1])|(go_at_call 196;refine(z8e_ f x.2.2.1 _ _ h2 HL.out).mono ?_;rintro e w2 ⟨rfl,rfl⟩))
  all_goals
   go_ret
   exact⟨xd_ (by simp),hb⟩
def ku_ (L:List DefS) (d:DefS) (n:LU):Bool:=match zk_ L true n with
 |none=>false
 |some j=>match L[j]? with
  |none=>false
  |some u=>u.kind !=0 && u.kind !=d.kind
theorem zja_ (bs bd s i:Nat) (ps:List Nat) (L:List DefS) (d:DefS) (n:LU) (w:World) (hS:SchAt w s ps L) (hd:L[i]?=some d) (h1:w.cell? ⟨bs,0,none⟩=some (z7_ s)) (h2:w.cell? ⟨bd,0,none⟩=some (z7_ (pAt ps i))) (hn:n.length≤1000000) (hf:(zk_ L true n).isSome=true):
  Calls Tryz.prog 124 #[.string ⟨n.toArray⟩,z7_ bs,z7_ bd] w fun e w'=>e= .returned (.bool (ku_ L d n))∧Bel w w':=by
 obtain⟨j,hj⟩:=Option.isSome_iff_exists.1 hf
 have hjl:=vl_ hj
 have hu:L[j]?=some L[j]:=List.getElem?_eq_getElem hjl
 have HF:=z5j_ s ps L true n w hS hn
 rw[hj] at HF
 have HF2:Hid (Calls Tryz.prog 119 #[.pointer (some ⟨s,0,none⟩),.bool true,.string ⟨n.toArray⟩] w fun e w'=>e= .returned (.pointer (some ⟨pAt ps j,0,none⟩))∧Bel w w'):=hiD HF
 obtain⟨_,_,_,_,hB⟩:=(hS.defAt hd).bk
 obtain⟨_,_,_,_,hBu⟩:=(hS.defAt hu).bk
 have c13:w.cell? ⟨pAt ps i,13,none⟩=some (.int .i64 d.kind):=hB.cell 13
 have cu13:w.cell? ⟨pAt ps j,13,none⟩=some (.int .i64 L[j].kind):=hBu.cell 13
 have h1':w.cell? ⟨bs,0,none⟩=some (.pointer (some ⟨s,0,none⟩)):=h1
 have h2':w.cell? ⟨bd,0,none⟩=some (.pointer (some ⟨pAt ps i,0,none⟩)):=h2
 have HK:=hiD (fun (W:World) (hb:Bel w W)=>(⟨(hb.cell (p:=⟨bd,0,none⟩) (z9_ h2)).trans h2',(hb.cell (p:=⟨pAt ps i,13,none⟩) (z9_ c13)).trans c13,(hb.cell (p:=⟨pAt ps j,13,none⟩) (z9_ cu13)).trans cu13⟩:W.cell? ⟨bd,0,none⟩=some (.pointer (some ⟨pAt ps i,0,none⟩))∧W.cell? ⟨pAt ps i,13,none⟩=some (.int .i64 d.kind)∧W.cell? ⟨pAt ps j,13,none⟩=some (.int .i64 L[j].kind)))
 have hag:ku_ L d n=(L[j].kind !=0 && L[j].kind !=d.kind):=by unfold ku_;rw[hj];simp only;rw[hu]
 rw[hag]
 clear HF hS hd h1 h2 hj hu hag hB hBu c13 cu13 h2'
 generalize L[j].kind=ku at HK ⊢
 generalize d.kind=kd at HK ⊢
 unfold z7_
 by_cases hz:ku=0
 ·have z1:(ku !=0)=false:=by rw[hz];rfl
  rw[z1,Bool.false_and]
  go_enter Tryz.func124,Tryz.ntmps124
  go_wp2_with (go_at_call 119;refine HF2.out.mono ?_;rintro e w1 ⟨rfl,hb⟩;have k1:=(HK.out _ hb).1;have k2:=(HK.out _ hb).2.1;have k3:=(HK.out _ hb).2.2)
  all_goals
   go_ret
   exact⟨rfl,hb⟩
 ·have z1:(ku !=0)=true:=by rw[bne_iff_ne];exact hz
  rw[z1,Bool.true_and]
  go_enter Tryz.func124,Tryz.ntmps124
  go_wp2_with (go_at_call 119;refine HF2.out.mono ?_;rintro e w1 ⟨rfl,hb⟩;have k1:=(HK.out _ hb).1;have k2:=(HK.out _ hb).2.1;have k3:=(HK.out _ hb).2.2)
  all_goals
   go_ret
   exact⟨rfl,hb⟩
theorem zcs_ (bs bd s i:Nat) (ps:List Nat) (L:List DefS) (d:DefS) (xs:LL) (v:Value) (w:World) (hv:Texts w v xs) (hS:SchAt w s ps L) (hd:L[i]?=some d) (h1:w.cell? ⟨bs,0,none⟩=some (z7_ s)) (h2:w.cell? ⟨bd,0,none⟩=some (z7_ (pAt ps i))) (hx:xs.length≤1000000∧∀ x∈xs,x.length≤1000000) (hf:∀ x∈xs,(zk_ L true x).isSome=true):
  Calls Tryz.prog 86 #[v,.func (.func 124) #[] #[z7_ bs,z7_ bd]] w fun e w'=>e= .returned (.bool (xs.any (ku_ L d)))∧Bel w w':=
 j4_ 124 #[z7_ bs,z7_ bd] xs v w hv hx.1 (ku_ L d)
  ⟨fun x hxx W hb=>zja_ bs bd s i ps L d x W (hS.below hb) hd ((hb.cell (p:=⟨bs,0,none⟩) (z9_ h1)).trans h1) ((hb.cell (p:=⟨bd,0,none⟩) (z9_ h2)).trans h2) (hx.2 x hxx) (hf x hxx),fun _ _=>by kernel_rfl⟩
structure RuleLim (d:DefS):Prop where
 eqr:d.eqr.length≤1000000
 ordr:d.ordr.length≤1000000
 subs:d.subs.length≤1000000
theorem z7r_ {a b:LU} {n:Nat} (ha:a.length≤n) (hb:b.length≤n):(orL a b).length≤n:=by
 unfold orL;split
 ·exact hb
 ·exact ha
theorem ks_ {L:List DefS} (hr:∀ d∈L,RuleLim d):∀ (n i:Nat) (a:AttrS),jr_ L n i=some a→a.eqr.length≤1000000∧a.ordr.length≤1000000∧a.subs.length≤1000000
 |0,_,_,h=>by rw[jr_] at h;cases h
 |n+1,i,a,h=>by
  rw[jr_] at h
  cases hx:L[i]? with
  |none=>rw[hx] at h;cases h
  |some d=>
   rw[hx] at h
   simp only at h
   have hd:=hr d (List.mem_of_getElem? hx)
   cases hs:d.sup with
   |nil=>
    rw[hs] at h
    simp only at h
    cases h
    exact⟨hd.eqr,hd.ordr,hd.subs⟩
   |cons s tl=>
    rw[hs] at h
    simp only at h
    cases hf:zk_ L false s with
    |none=>rw[hf] at h;cases h
    |some j=>
     rw[hf] at h
     simp only at h
     rw[Option.map_eq_some_iff] at h
     obtain⟨up,hu,rfl⟩:=h
     have hi:=ks_ hr n j up hu
     exact⟨z7r_ hd.eqr hi.1,z7r_ hd.ordr hi.2.1,z7r_ hd.subs hi.2.2⟩
def z9j_ (a:AttrS) (k:Nat):LU:=if k=0 then a.eqr else if k=1 then a.ordr else a.subs
def qo_ (a:AttrS) (k:Nat):Bool:=z9j_ a k==[]||qp_ (z9j_ a k) a.form
theorem y4_ {a:AttrS} {k:Nat} (h:∀ j,j<k→qo_ a j=true) (hk:qo_ a k=true):∀ j,j<k+1→qo_ a j=true:=by
 intro j hj
 rcases Nat.lt_or_ge j k with h1|h1
 ·exact h j h1
 ·obtain rfl:j=k:=by omega
  exact hk
theorem fits_c (s i:Nat) (ps:List Nat) (L:List DefS) (d:DefS) (w:World) (hS:SchAt w s ps L) (hlim:∀ d∈L,DefLim d) (hrl:∀ d∈L,RuleLim d) (hd:L[i]?=some d) (hk:d.cls=true→∀ n∈d.sup,(zk_ L true n).isSome=true) (ha:d.cls=false→(q9_ L i).isSome=true):
  Calls Tryz.prog 78 #[z7_ s,z7_ (pAt ps i)] w fun e w'=>e= .returned (.bool (z06_ L d i))∧Bel w w':=by
 have hmf:=z2x_
 have hl:=hlim d (List.mem_of_getElem? hd)
 have hb0:Bel w ((w.alloc (.cells #[.pointer (some ⟨s,0,none⟩)] 32)).alloc (.cells #[.pointer (some ⟨pAt ps i,0,none⟩)] 118)):=((bR _ _).alloc (nR _) _).alloc (by simp) _
 have k1:=(Bk.new w 32 #[.pointer (some ⟨s,0,none⟩)]).alloc (.cells #[.pointer (some ⟨pAt ps i,0,none⟩)] 118)
 have k2:=Bk.new (w.alloc (.cells #[.pointer (some ⟨s,0,none⟩)] 32)) 118 #[.pointer (some ⟨pAt ps i,0,none⟩)]
 rw[World.size_alloc] at k2
 obtain⟨vn,vs,vm,vy,hB,_,hT,_⟩:=(hS.below hb0).defAt hd
 have b1:((w.alloc (.cells #[.pointer (some ⟨s,0,none⟩)] 32)).alloc (.cells #[.pointer (some ⟨pAt ps i,0,none⟩)] 118)).cell? ⟨w.heap.size,0,none⟩=some (.pointer (some ⟨s,0,none⟩)):=k1.cell 0
 have b2:((w.alloc (.cells #[.pointer (some ⟨s,0,none⟩)] 32)).alloc (.cells #[.pointer (some ⟨pAt ps i,0,none⟩)] 118)).cell? ⟨w.heap.size+1,0,none⟩=some (.pointer (some ⟨pAt ps i,0,none⟩)):=k2.cell 0
 have c0:((w.alloc (.cells #[.pointer (some ⟨s,0,none⟩)] 32)).alloc (.cells #[.pointer (some ⟨pAt ps i,0,none⟩)] 118)).cell? ⟨pAt ps i,0,none⟩=some (.bool d.cls):=hB.cell 0
 have c3:((w.alloc (.cells #[.pointer (some ⟨s,0,none⟩)] 32)).alloc (.cells #[.pointer (some ⟨pAt ps i,0,none⟩)] 118)).cell? ⟨pAt ps i,3,none⟩=some vs:=hB.cell 3
 cases hc:d.cls with
 |true=>
  have hv:z06_ L d i=!d.sup.any (ku_ L d):=by unfold z06_;rw[hc,if_pos rfl];rfl
  rw[hv]
  have HC:=hiD (zcs_ w.heap.size (w.heap.size+1) s i ps L d d.sup vs _ hT (hS.below hb0) hd b1 b2 hl.sup (hk hc))
  obtain⟨A,n,c,rfl⟩:=hT.isSlice
  rw[hc] at c0
  generalize d.sup.any (ku_ L d)=q at HC ⊢
  have HB0:=hiD hb0
  clear hS hd k1 k2 hB hT hv ha hk hb0
  unfold z7_ at HC ⊢
  go_enter Tryz.func78,Tryz.ntmps78
  go_wp2_with (go_at_call 86;refine HC.out.mono ?_;rintro e w1 ⟨rfl,hb⟩)
  all_goals
   go_ret
   exact⟨rfl,tQ HB0.out hb⟩
 |false=>
  obtain⟨a,hca⟩:=Option.isSome_iff_exists.1 (ha hc)
  have hlen:=ks_ hrl _ _ _ hca
  have hv:z06_ L d i=(qo_ a 0 && (qo_ a 1 && qo_ a 2) && !(a.form==[])):=by
   unfold z06_
   rw[hc,if_neg (by simp),hca]
   simp only[List.all_cons,List.all_nil,Bool.and_true]
   rfl
  rw[hv]
  have HC0:=za1_ s ps L hlim (L.length+1) i a _ (hS.below hb0) hca
  have HC:Hid (Calls Tryz.prog 125 #[.pointer (some ⟨s,0,none⟩),.pointer (some ⟨pAt ps i,0,none⟩)] ((w.alloc (.cells #[.pointer (some ⟨s,0,none⟩)] 32)).alloc (.cells #[.pointer (some ⟨pAt ps i,0,none⟩)] 118)) fun e w'=>∃ A n c,e= .returned (jv_ a (.slice A n c))∧Bel w w'):=hiD (HC0.mono (by
   rintro e w' ⟨h1,nv,rfl,h2⟩
   obtain⟨A,c,rfl,_⟩:=h2.isSlice
   exact⟨A,_,c,rfl,tQ hb0 h1⟩))
  rw[hc] at c0
  have HLEN:Hid (∀ k,(z9j_ a k).length≤1000000):=hiD fun k=>by
   unfold z9j_
   split
   ·exact hlen.1
   ·split
    ·exact hlen.2.1
    ·exact hlen.2.2
  clear hS hd k1 k2 hB hT hv ha hk hb0 HC0 hca hlen hl
  unfold z7_
  go_enter Tryz.func78,Tryz.ntmps78
  go_wp2_with (go_at_call 125;refine HC.out.mono ?_;unfold jv_ z8_;rintro e w1 ⟨A,n,c,rfl,hb⟩)
  have hbk:=Bk.new w1 128 (z8_ a (.slice A n c))
  have f4:=hbk.cell 4
  have hbn:Bel w (w1.alloc (.cells (z8_ a (.slice A n c)) 128)):=hb.alloc hb.size _
  unfold z8_ at hbk f4 hbn
  simp only[gs3] at f4
  have HB:=hiD hbn
  have HF4:=hiD f4
  have hsz:w1.heap.size<(w1.alloc (.cells (z8_ a (.slice A n c)) 128)).heap.size:=by rw[World.size_alloc];omega
  unfold z8_ at hsz
  clear hbk f4 hbn hb
  generalize w1.heap.size=g at HF4 hsz ⊢
  generalize (w1.alloc _)=wL at HF4 HB hsz ⊢
  go_loopg [29] 3 (fun gk i2 wr=>∃ k:Nat,k≤3∧i2= .int .i64 k∧Aside (k+gk=3)∧Bel wL wr∧Aside (∀ j,j<k→qo_ a j=true))
  case atStart=>exact⟨0,by omega,rfl,rfl,bR _ _,fun j hj=>absurd hj (by omega)⟩
  case round=>
   obtain⟨k,hk,rfl,AG,hB,AS⟩:=hrel
   have f4:wr.cell? ⟨g,4,none⟩=some (.string ⟨a.form.toArray⟩):=(hB.cell (p:=⟨g,4,none⟩) hsz).trans HF4.out
   by_cases hlt:k<3
   ·obtain⟨q,rfl⟩:∃ q,gk=q+1:=⟨gk - 1,by have:=AG.out;omega⟩
    rcases(show k=0∨k=1∨k=2 by omega) with rfl|rfl|rfl
    ·obtain⟨x,hq⟩:∃ x,a.eqr=x:=⟨_,rfl⟩
     have hx:∀ W:World,(Instr.index 100 (.agg #[.string ⟨a.eqr.toArray⟩,.string ⟨a.ordr.toArray⟩,.string ⟨a.subs.toArray⟩]) (.int .i64 0)).run Tryz.prog W= .ok (.string ⟨x.toArray⟩) W:=by
      rw[← hq]
      intro W
      kernel_rfl
     rcases x with _|⟨x0,xt⟩
     ·have hr:qo_ a 0=true:=by
       show (a.eqr==[]||_)=true
       rw[hq];rfl
      have HR:=hiD hr
      clear hr hq
      go_wp2_with fail
      go_roundg q
      case measure=>omega
      case rel=>exact⟨0+1,by omega,by go_num,by have:=AG.out;show _=_;omega,hB,y4_ AS.out HR.out⟩
     ·have hC:=zcq_ (x0::xt) a.form wr (by rw[← hq];exact HLEN.out 0)
      have hr:qo_ a 0=qp_ (x0::xt) a.form:=by
       show (a.eqr==[]||qp_ a.eqr a.form)=_
       rw[hq];rfl
      have HR:=hiD hr
      have HC2:=hiD hC
      clear hr hq hC
      cases hz:qp_ (x0::xt) a.form
      all_goals
       rw[hz] at HR HC2
       clear hz
      ·go_wp2_with (go_at_call 126;refine HC2.out.mono ?_;rintro e w2 ⟨rfl,hb2⟩)
       all_goals
        go_ret
        exact⟨xd_ (by rw[HR.out];simp),HB.out.trans ((tQ hB hb2).mono HB.out.size)⟩
      ·go_wp2_with (go_at_call 126;refine HC2.out.mono ?_;rintro e w2 ⟨rfl,hb2⟩)
       go_roundg q
       case measure=>omega
       case rel=>exact⟨0+1,by omega,by go_num,by have:=AG.out;show _=_;omega,tQ hB hb2,y4_ AS.out HR.out⟩
    ·obtain⟨x,hq⟩:∃ x,a.ordr=x:=⟨_,rfl⟩
     have hx:∀ W:World,(Instr.index 100 (.agg #[.string ⟨a.eqr.toArray⟩,.string ⟨a.ordr.toArray⟩,.string ⟨a.subs.toArray⟩]) (.int .i64 1)).run Tryz.prog W= .ok (.string ⟨x.toArray⟩) W:=by
      rw[← hq]
      intro W
      kernel_rfl
     rcases x with _|⟨x0,xt⟩
     ·have hr:qo_ a 1=true:=by
       show (a.ordr==[]||_)=true
       rw[hq];rfl
      have HR:=hiD hr
      clear hr hq
      go_wp2_with fail
      go_roundg q
      case measure=>omega
      case rel=>exact⟨1+1,by omega,by go_num,by have:=AG.out;show _=_;omega,hB,y4_ AS.out HR.out⟩
     ·have hC:=zcq_ (x0::xt) a.form wr (by rw[← hq];exact HLEN.out 1)
      have hr:qo_ a 1=qp_ (x0::xt) a.form:=by
       show (a.ordr==[]||qp_ a.ordr a.form)=_
       rw[hq];rfl
      have HR:=hiD hr
      have HC2:=hiD hC
      clear hr hq hC
      cases hz:qp_ (x0::xt) a.form
      all_goals
       rw[hz] at HR HC2
       clear hz
      ·go_wp2_with (go_at_call 126;refine HC2.out.mono ?_;rintro e w2 ⟨rfl,hb2⟩)
       all_goals
        go_ret
        exact⟨xd_ (by rw[HR.out];simp),HB.out.trans ((tQ hB hb2).mono HB.out.size)⟩
      ·go_wp2_with (go_at_call 126;refine HC2.out.mono ?_;rintro e w2 ⟨rfl,hb2⟩)
       go_roundg q
       case measure=>omega
       case rel=>exact⟨1+1,by omega,by go_num,by have:=AG.out;show _=_;omega,tQ hB hb2,y4_ AS.out HR.out⟩
    ·obtain⟨x,hq⟩:∃ x,a.subs=x:=⟨_,rfl⟩
     have hx:∀ W:World,(Instr.index 100 (.agg #[.string ⟨a.eqr.toArray⟩,.string ⟨a.ordr.toArray⟩,.string ⟨a.subs.toArray⟩]) (.int .i64 2)).run Tryz.prog W= .ok (.string ⟨x.toArray⟩) W:=by
      rw[← hq]
      intro W
      kernel_rfl
     rcases x with _|⟨x0,xt⟩
     ·have hr:qo_ a 2=true:=by
       show (a.subs==[]||_)=true
       rw[hq];rfl
      have HR:=hiD hr
      clear hr hq
      go_wp2_with fail
      go_roundg q
      case measure=>omega
      case rel=>exact⟨2+1,by omega,by go_num,by have:=AG.out;show _=_;omega,hB,y4_ AS.out HR.out⟩
     ·have hC:=zcq_ (x0::xt) a.form wr (by rw[← hq];exact HLEN.out 2)
      have hr:qo_ a 2=qp_ (x0::xt) a.form:=by
       show (a.subs==[]||qp_ a.subs a.form)=_
       rw[hq];rfl
      have HR:=hiD hr
      have HC2:=hiD hC
      clear hr hq hC
      cases hz:qp_ (x0::xt) a.form
      all_goals
       rw[hz] at HR HC2
       clear hz
      ·go_wp2_with (go_at_call 126;refine HC2.out.mono ?_;rintro e w2 ⟨rfl,hb2⟩)
       all_goals
        go_ret
        exact⟨xd_ (by rw[HR.out];simp),HB.out.trans ((tQ hB hb2).mono HB.out.size)⟩
      ·go_wp2_with (go_at_call 126;refine HC2.out.mono ?_;rintro e w2 ⟨rfl,hb2⟩)
       go_roundg q
       case measure=>omega
       case rel=>exact⟨2+1,by omega,by go_num,by have:=AG.out;show _=_;omega,tQ hB hb2,y4_ AS.out HR.out⟩
   ·obtain rfl:k=3:=by omega
    go_wp2_with fail
    go_ret
    exact⟨xd_ (by rw[AS.out 0 (by omega),AS.out 1 (by omega),AS.out 2 (by omega)];simp),tQ HB.out hB⟩
end Go.Proofs.YtakfpngfpknedaaGreatDoor
