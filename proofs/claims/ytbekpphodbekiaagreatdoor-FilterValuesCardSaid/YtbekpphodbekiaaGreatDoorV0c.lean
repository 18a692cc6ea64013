import Derived.Test.YtbekpphodbekiaaGreatDoorV0b
set_option linter.all false
set_option maxHeartbeats 8000000
set_option maxRecDepth 100000
namespace Go.Proofs.YtbekpphodbekiaaGreatDoor
open Go.RowKit Go.Sort
abbrev z5b_:=LU × Int × LL × NormFn
def applyN:NormFn→LU→Option LU
 | .self,v=>some v
 | .text fold,v=>xx_ v fold
 | .name,v=>z77_ v
 | .oid,v=>some (z2_ v)
def yo_ (x:z5b_) (v:LU):Option LU:=if decide (v.length≤1024) && x.2.2.1.any (fun f=>qc_ f v) then applyN x.2.2.2 v else none
def xu_ (w:World) (o:Option LU) (e:Ending) (w':World):Prop:=e= .returned (qs_ 40 o)∧Bel w w'
theorem zbe_ (x:z5b_) (b:Nat) (v:LU) (w:World) (h:RowAt w b x) (hv:¬ v.length≤1024):
  Calls Tryz.prog 142 #[.pointer (some ⟨b,0,none⟩),.string ⟨v.toArray⟩] w (xu_ w none):=by
 have hv':1024<v.length:=by omega
 clear h
 go_enter Tryz.func142,Tryz.ntmps142
 go_wp2
 go_ret2
 exact⟨rfl,(bR _ _).alloc (nR _) _⟩
theorem RowAt.any {w W:World} {b:Nat} {x:z5b_} {v:LU} (h:RowAt w b x) (hfl:x.2.2.1.length≤2) (hw:Env w) (hW:W=w.alloc (.cells #[.string ⟨v.toArray⟩] 9)) {fA:Option Addr} {fN fC:Nat} (hT:Texts w (.slice fA fN fC) x.2.2.1):
  Calls Tryz.prog 64 #[.slice fA fN fC,.func (.func 181) #[] #[.pointer (some ⟨w.heap.size,0,none⟩)]] W fun e w'=>e= .returned (.bool (x.2.2.1.any (fun f=>qc_ f v)))∧Bel W w':=by
 subst hW
 have hb:=(bR w.heap.size w).alloc (nR _) (.cells #[.string ⟨v.toArray⟩] 9)
 have hc:=Bk.new w 9 #[.string ⟨v.toArray⟩]
 exact zj5_ x.2.2.1 _ _ (hT.below hb) (by omega) w.heap.size (fun f=>qc_ f v) (fun f _ W' hB=>zhf_ f v w.heap.size W' ((hw.keep hb).keep hB) ((hc.below hB).cell 0))
theorem zbi_ (x:z5b_) (b:Nat) (v:LU) (w:World) (hw:Env w) (h:RowAt w b x) (hfl:x.2.2.1.length≤2) (hv:v.length≤1024) (ha:x.2.2.1.any (fun f=>qc_ f v)=false):
  Calls Tryz.prog 142 #[.pointer (some ⟨b,0,none⟩),.string ⟨v.toArray⟩] w (xu_ w none):=by
 have hlt:=h.lt
 have h0:=h
 obtain⟨fA,fN,fC,nF,n1,n2,h1,h2,h3⟩:=h
 have hA:=h0.any (v:=v) hfl hw rfl h2
 rw[ha] at hA
 have hcell:(w.alloc (.cells #[.string ⟨v.toArray⟩] 9)).cell? ⟨b,2,none⟩=some (.slice fA fN fC):=(World.cell?_alloc_lt _ _ _ hlt).trans (by simp [World.cell?,h1])
 have hmf:=z3v_
 clear h0 h1 h2 h3 ha
 go_enter Tryz.func142,Tryz.ntmps142
 go_wp2_with (go_at_call 64;refine hA.mono ?_;rintro e w2 ⟨rfl,hb2⟩)
 go_ret2
 exact⟨rfl,((bR _ _).alloc (nR _) _).trans (hb2.mono (by simp))⟩
theorem zbm_ (x:z5b_) (b:Nat) (v:LU) (w:World) (hw:Env w) (h:RowAt w b x) (hfl:x.2.2.1.length≤2) (hv:v.length≤1024) (ha:x.2.2.1.any (fun f=>qc_ f v)=true) (hn:x.2.2.2=NormFn.self) (o:Option LU) (ho:o=some v):
  Calls Tryz.prog 142 #[.pointer (some ⟨b,0,none⟩),.string ⟨v.toArray⟩] w (xu_ w o):=by
 have hlt:=h.lt
 have h0:=h
 obtain⟨fA,fN,fC,nF,n1,n2,h1,h2,h3⟩:=h
 have hA:=h0.any (v:=v) hfl hw rfl h2
 rw[ha] at hA
 rw[hn] at h3
 obtain⟨rfl,rfl,rfl⟩:nF= .func 218∧n1=#[]∧n2=#[]:=by have h3':Value.func nF n1 n2= .func (.func 218) #[] #[]:=h3;cases h3';exact⟨rfl,rfl,rfl⟩
 have hbw:=(bR w.heap.size w).alloc (nR _) (.cells #[.string ⟨v.toArray⟩] 9)
 have kV:=Bk.new w 9 #[.string ⟨v.toArray⟩]
 have HC:Hid (∀ W,Bel w W→Calls Tryz.prog 218 #[.string ⟨v.toArray⟩] W (ye_ W o)):=hiD fun W hW=>by rw[ho];exact self_c v W
 have hcell:(w.alloc (.cells #[.string ⟨v.toArray⟩] 9)).cell? ⟨b,2,none⟩=some (.slice fA fN fC):=(World.cell?_alloc_lt _ _ _ hlt).trans (by simp [World.cell?,h1])
 have hcell3:(w.alloc (.cells #[.string ⟨v.toArray⟩] 9)).cell? ⟨b,3,none⟩=some (.func (.func 218) #[] #[]):=(World.cell?_alloc_lt _ _ _ hlt).trans (by simp [World.cell?,h1])
 have hsz:(w.alloc (.cells #[.string ⟨v.toArray⟩] 9)).heap.size=w.heap.size+1:=by simp
 have HSZ:=hiD hsz
 have HC3:=hiD hcell3
 have HKV:=hiD kV
 have hmf:=z3v_
 have HO:=hiD ho
 clear h0 h1 h2 h3 ha hn ho hsz hcell3 kV
 go_enter Tryz.func142,Tryz.ntmps142
 go_wp2_with (go_at_call 64;refine hA.mono ?_;rintro e w2 ⟨rfl,hb2⟩)
 have f1:w2.cell? ⟨b,3,none⟩=some (.func (.func 218) #[] #[]):=(hb2.cell (p:=⟨b,3,none⟩) (by have:=HSZ.out;simp;omega)).trans HC3.out
 have f2:w2.cell? ⟨w.heap.size,0,none⟩=some (.string ⟨v.toArray⟩):=(HKV.out.below hb2).cell 0
 have hB2:Bel w w2:=hbw.trans (hb2.mono (by have:=HSZ.out;omega))
 have HB2:=hiD hB2
 clear hA hcell hb2 hB2 hmf
 go_region_held3 (fun w'=>w'.cell? ⟨b,3,none⟩=some (.func (.func 218) #[] #[])∧w'.cell? ⟨w.heap.size,0,none⟩=some (.string ⟨v.toArray⟩)) (first|exact⟨f1,f2⟩|exact⟨f1',f2'⟩) (first|(go_at_call 218;refine(HC.out _ (HB2.out.trans ((bR _ _).drew.mono HB2.out.size))).mono ?_;rintro e w4 ⟨hb4,r,rfl,hr⟩;have Hr:=hiD hr;clear hr;have f1':w4.cell? ⟨b,3,none⟩=some (.func (.func 218) #[] #[]):=(hb4.cell (p:=⟨b,3,none⟩) (by have:=HB2.out.size;simp;omega)).trans f1;have f2':w4.cell? ⟨w.heap.size,0,none⟩=some (.string ⟨v.toArray⟩):=(hb4.cell (p:=⟨w.heap.size,0,none⟩) (by simp;exact z9_ f2)).trans f2))
 all_goals
  have hfin:Bel w w4:=HB2.out.trans ((show Bel w2 w4 from ((bR _ _).drew.trans hb4)).mono HB2.out.size)
  cases o with
  |none=>
   go_wp2_with fail
   go_ret2
   exact⟨rfl,hfin⟩
  |some m=>
   obtain rfl:=Hr.out m rfl
   go_wp2_with fail
   go_ret2
   exact⟨rfl,hfin⟩
theorem zet_ (x:z5b_) (b:Nat) (v:LU) (w:World) (hw:Env w) (h:RowAt w b x) (hfl:x.2.2.1.length≤2) (hv:v.length≤1024) (ha:x.2.2.1.any (fun f=>qc_ f v)=true) (hn:x.2.2.2=NormFn.oid) (o:Option LU) (ho:o=some (z2_ v)):
  Calls Tryz.prog 142 #[.pointer (some ⟨b,0,none⟩),.string ⟨v.toArray⟩] w (xu_ w o):=by
 have hlt:=h.lt
 have h0:=h
 obtain⟨fA,fN,fC,nF,n1,n2,h1,h2,h3⟩:=h
 have hA:=h0.any (v:=v) hfl hw rfl h2
 rw[ha] at hA
 rw[hn] at h3
 obtain⟨rfl,rfl,rfl⟩:nF= .func 221∧n1=#[]∧n2=#[]:=by have h3':Value.func nF n1 n2= .func (.func 221) #[] #[]:=h3;cases h3';exact⟨rfl,rfl,rfl⟩
 have hbw:=(bR w.heap.size w).alloc (nR _) (.cells #[.string ⟨v.toArray⟩] 9)
 have kV:=Bk.new w 9 #[.string ⟨v.toArray⟩]
 have HC:Hid (∀ W,Bel w W→Calls Tryz.prog 221 #[.string ⟨v.toArray⟩] W (ye_ W o)):=hiD fun W hW=>by rw[ho];exact oid_c v W hv
 have hcell:(w.alloc (.cells #[.string ⟨v.toArray⟩] 9)).cell? ⟨b,2,none⟩=some (.slice fA fN fC):=(World.cell?_alloc_lt _ _ _ hlt).trans (by simp [World.cell?,h1])
 have hcell3:(w.alloc (.cells #[.string ⟨v.toArray⟩] 9)).cell? ⟨b,3,none⟩=some (.func (.func 221) #[] #[]):=(World.cell?_alloc_lt _ _ _ hlt).trans (by simp [World.cell?,h1])
 have hsz:(w.alloc (.cells #[.string ⟨v.toArray⟩] 9)).heap.size=w.heap.size+1:=by simp
 have HSZ:=hiD hsz
 have HC3:=hiD hcell3
 have HKV:=hiD kV
 have hmf:=z3v_
 have HO:=hiD ho
 clear h0 h1 h2 h3 ha hn ho hsz hcell3 kV
 go_enter Tryz.func142,Tryz.ntmps142
 go_wp2_with (go_at_call 64;refine hA.mono ?_;rintro e w2 ⟨rfl,hb2⟩)
 have f1:w2.cell? ⟨b,3,none⟩=some (.func (.func 221) #[] #[]):=(hb2.cell (p:=⟨b,3,none⟩) (by have:=HSZ.out;simp;omega)).trans HC3.out
 have f2:w2.cell? ⟨w.heap.size,0,none⟩=some (.string ⟨v.toArray⟩):=(HKV.out.below hb2).cell 0
 have hB2:Bel w w2:=hbw.trans (hb2.mono (by have:=HSZ.out;omega))
 have HB2:=hiD hB2
 clear hA hcell hb2 hB2 hmf
 go_region_held3 (fun w'=>w'.cell? ⟨b,3,none⟩=some (.func (.func 221) #[] #[])∧w'.cell? ⟨w.heap.size,0,none⟩=some (.string ⟨v.toArray⟩)) (first|exact⟨f1,f2⟩|exact⟨f1',f2'⟩) (first|(go_at_call 221;refine(HC.out _ (HB2.out.trans ((bR _ _).drew.mono HB2.out.size))).mono ?_;rintro e w4 ⟨hb4,r,rfl,hr⟩;have Hr:=hiD hr;clear hr;have f1':w4.cell? ⟨b,3,none⟩=some (.func (.func 221) #[] #[]):=(hb4.cell (p:=⟨b,3,none⟩) (by have:=HB2.out.size;simp;omega)).trans f1;have f2':w4.cell? ⟨w.heap.size,0,none⟩=some (.string ⟨v.toArray⟩):=(hb4.cell (p:=⟨w.heap.size,0,none⟩) (by simp;exact z9_ f2)).trans f2))
 all_goals
  have hfin:Bel w w4:=HB2.out.trans ((show Bel w2 w4 from ((bR _ _).drew.trans hb4)).mono HB2.out.size)
  cases o with
  |none=>
   go_wp2_with fail
   go_ret2
   exact⟨rfl,hfin⟩
  |some m=>
   obtain rfl:=Hr.out m rfl
   go_wp2_with fail
   go_ret2
   exact⟨rfl,hfin⟩
theorem zbl_ (x:z5b_) (b:Nat) (v:LU) (w:World) (hw:Env w) (h:RowAt w b x) (hfl:x.2.2.1.length≤2) (hv:v.length≤1024) (ha:x.2.2.1.any (fun f=>qc_ f v)=true) (hn:x.2.2.2=NormFn.name) (o:Option LU) (ho:o=z77_ v):
  Calls Tryz.prog 142 #[.pointer (some ⟨b,0,none⟩),.string ⟨v.toArray⟩] w (xu_ w o):=by
 have hlt:=h.lt
 have h0:=h
 obtain⟨fA,fN,fC,nF,n1,n2,h1,h2,h3⟩:=h
 have hA:=h0.any (v:=v) hfl hw rfl h2
 rw[ha] at hA
 rw[hn] at h3
 obtain⟨rfl,rfl,rfl⟩:nF= .func 220∧n1=#[]∧n2=#[]:=by have h3':Value.func nF n1 n2= .func (.func 220) #[] #[]:=h3;cases h3';exact⟨rfl,rfl,rfl⟩
 have hbw:=(bR w.heap.size w).alloc (nR _) (.cells #[.string ⟨v.toArray⟩] 9)
 have kV:=Bk.new w 9 #[.string ⟨v.toArray⟩]
 have HC:Hid (∀ W,Bel w W→Calls Tryz.prog 220 #[.string ⟨v.toArray⟩] W (ye_ W o)):=hiD fun W hW=>by rw[ho];exact name_c v W (hw.keep hW)
 have hcell:(w.alloc (.cells #[.string ⟨v.toArray⟩] 9)).cell? ⟨b,2,none⟩=some (.slice fA fN fC):=(World.cell?_alloc_lt _ _ _ hlt).trans (by simp [World.cell?,h1])
 have hcell3:(w.alloc (.cells #[.string ⟨v.toArray⟩] 9)).cell? ⟨b,3,none⟩=some (.func (.func 220) #[] #[]):=(World.cell?_alloc_lt _ _ _ hlt).trans (by simp [World.cell?,h1])
 have hsz:(w.alloc (.cells #[.string ⟨v.toArray⟩] 9)).heap.size=w.heap.size+1:=by simp
 have HSZ:=hiD hsz
 have HC3:=hiD hcell3
 have HKV:=hiD kV
 have hmf:=z3v_
 have HO:=hiD ho
 clear h0 h1 h2 h3 ha hn ho hsz hcell3 kV
 go_enter Tryz.func142,Tryz.ntmps142
 go_wp2_with (go_at_call 64;refine hA.mono ?_;rintro e w2 ⟨rfl,hb2⟩)
 have f1:w2.cell? ⟨b,3,none⟩=some (.func (.func 220) #[] #[]):=(hb2.cell (p:=⟨b,3,none⟩) (by have:=HSZ.out;simp;omega)).trans HC3.out
 have f2:w2.cell? ⟨w.heap.size,0,none⟩=some (.string ⟨v.toArray⟩):=(HKV.out.below hb2).cell 0
 have hB2:Bel w w2:=hbw.trans (hb2.mono (by have:=HSZ.out;omega))
 have HB2:=hiD hB2
 clear hA hcell hb2 hB2 hmf
 go_region_held3 (fun w'=>w'.cell? ⟨b,3,none⟩=some (.func (.func 220) #[] #[])∧w'.cell? ⟨w.heap.size,0,none⟩=some (.string ⟨v.toArray⟩)) (first|exact⟨f1,f2⟩|exact⟨f1',f2'⟩) (first|(go_at_call 220;refine(HC.out _ (HB2.out.trans ((bR _ _).drew.mono HB2.out.size))).mono ?_;rintro e w4 ⟨hb4,r,rfl,hr⟩;have Hr:=hiD hr;clear hr;have f1':w4.cell? ⟨b,3,none⟩=some (.func (.func 220) #[] #[]):=(hb4.cell (p:=⟨b,3,none⟩) (by have:=HB2.out.size;simp;omega)).trans f1;have f2':w4.cell? ⟨w.heap.size,0,none⟩=some (.string ⟨v.toArray⟩):=(hb4.cell (p:=⟨w.heap.size,0,none⟩) (by simp;exact z9_ f2)).trans f2))
 all_goals
  have hfin:Bel w w4:=HB2.out.trans ((show Bel w2 w4 from ((bR _ _).drew.trans hb4)).mono HB2.out.size)
  cases o with
  |none=>
   go_wp2_with fail
   go_ret2
   exact⟨rfl,hfin⟩
  |some m=>
   obtain rfl:=Hr.out m rfl
   go_wp2_with fail
   go_ret2
   exact⟨rfl,hfin⟩
theorem zbo_ (x:z5b_) (b:Nat) (v:LU) (w:World) (hw:Env w) (h:RowAt w b x) (hfl:x.2.2.1.length≤2) (hv:v.length≤1024) (ha:x.2.2.1.any (fun f=>qc_ f v)=true) (fold:Bool) (hn:x.2.2.2=NormFn.text fold) (o:Option LU) (ho:o=xx_ v fold):
  Calls Tryz.prog 142 #[.pointer (some ⟨b,0,none⟩),.string ⟨v.toArray⟩] w (xu_ w o):=by
 have hlt:=h.lt
 have h0:=h
 obtain⟨fA,fN,fC,nF,n1,n2,h1,h2,h3⟩:=h
 have hA:=h0.any (v:=v) hfl hw rfl h2
 rw[ha] at hA
 rw[hn] at h3
 obtain⟨a,hfa,hca⟩:=h3
 obtain⟨rfl,rfl,rfl⟩:nF= .func 245∧n1=#[]∧n2=#[.pointer (some ⟨a,0,none⟩)]:=by cases hfa;exact⟨rfl,rfl,rfl⟩
 have HCA:=hiD hca
 clear hca hfa
 have h3:=trivial
 have hbw:=(bR w.heap.size w).alloc (nR _) (.cells #[.string ⟨v.toArray⟩] 9)
 have kV:=Bk.new w 9 #[.string ⟨v.toArray⟩]
 have HC:Hid (∀ W,Bel w W→Calls Tryz.prog 245 #[.string ⟨v.toArray⟩,.pointer (some ⟨a,0,none⟩)] W (ye_ W o)):=hiD fun W hW=>by rw[ho];exact zrg_ v fold a W (hw.keep hW) ((hW.cell (p:=⟨a,0,none⟩) (z9_ HCA.out)).trans HCA.out) hv
 have hcell:(w.alloc (.cells #[.string ⟨v.toArray⟩] 9)).cell? ⟨b,2,none⟩=some (.slice fA fN fC):=(World.cell?_alloc_lt _ _ _ hlt).trans (by simp [World.cell?,h1])
 have hcell3:(w.alloc (.cells #[.string ⟨v.toArray⟩] 9)).cell? ⟨b,3,none⟩=some (.func (.func 245) #[] #[.pointer (some ⟨a,0,none⟩)]):=(World.cell?_alloc_lt _ _ _ hlt).trans (by simp [World.cell?,h1])
 have hsz:(w.alloc (.cells #[.string ⟨v.toArray⟩] 9)).heap.size=w.heap.size+1:=by simp
 have HSZ:=hiD hsz
 have HC3:=hiD hcell3
 have HKV:=hiD kV
 have hmf:=z3v_
 have HO:=hiD ho
 clear h0 h1 h2 h3 ha hn ho hsz hcell3 kV
 go_enter Tryz.func142,Tryz.ntmps142
 go_wp2_with (go_at_call 64;refine hA.mono ?_;rintro e w2 ⟨rfl,hb2⟩)
 have f1:w2.cell? ⟨b,3,none⟩=some (.func (.func 245) #[] #[.pointer (some ⟨a,0,none⟩)]):=(hb2.cell (p:=⟨b,3,none⟩) (by have:=HSZ.out;simp;omega)).trans HC3.out
 have f2:w2.cell? ⟨w.heap.size,0,none⟩=some (.string ⟨v.toArray⟩):=(HKV.out.below hb2).cell 0
 have hB2:Bel w w2:=hbw.trans (hb2.mono (by have:=HSZ.out;omega))
 have HB2:=hiD hB2
 clear hA hcell hb2 hB2 hmf
 go_region_held3 (fun w'=>w'.cell? ⟨b,3,none⟩=some (.func (.func 245) #[] #[.pointer (some ⟨a,0,none⟩)])∧w'.cell? ⟨w.heap.size,0,none⟩=some (.string ⟨v.toArray⟩)) (first|exact⟨f1,f2⟩|exact⟨f1',f2'⟩) (first|(go_at_call 245;refine(HC.out _ (HB2.out.trans ((bR _ _).drew.mono HB2.out.size))).mono ?_;rintro e w4 ⟨hb4,r,rfl,hr⟩;have Hr:=hiD hr;clear hr;have f1':w4.cell? ⟨b,3,none⟩=some (.func (.func 245) #[] #[.pointer (some ⟨a,0,none⟩)]):=(hb4.cell (p:=⟨b,3,none⟩) (by have:=HB2.out.size;simp;omega)).trans f1;have f2':w4.cell? ⟨w.heap.size,0,none⟩=some (.string ⟨v.toArray⟩):=(hb4.cell (p:=⟨w.heap.size,0,none⟩) (by simp;exact z9_ f2)).trans f2))
 all_goals
  have hfin:Bel w w4:=HB2.out.trans ((show Bel w2 w4 from ((bR _ _).drew.trans hb4)).mono HB2.out.size)
  cases o with
  |none=>
   go_wp2_with fail
   go_ret2
   exact⟨rfl,hfin⟩
  |some m=>
   obtain rfl:=Hr.out m rfl
   go_wp2_with fail
   go_ret2
   exact⟨rfl,hfin⟩
theorem z2t_ (x:z5b_) (b:Nat) (v:LU) (w:World) (hw:Env w) (h:RowAt w b x) (hfl:x.2.2.1.length≤2):
  Calls Tryz.prog 142 #[.pointer (some ⟨b,0,none⟩),.string ⟨v.toArray⟩] w (xu_ w (yo_ x v)):=by
 unfold yo_
 by_cases hv:v.length≤1024
 ·cases ha:x.2.2.1.any (fun f=>qc_ f v)
  ·simp only[Bool.and_false,Bool.false_eq_true,if_false]
   exact zbi_ x b v w hw h hfl hv ha
  ·simp only[decide_eq_true hv,Bool.and_true,if_true]
   cases hn:x.2.2.2 with
   |self=>exact zbm_ x b v w hw h hfl hv ha hn _ rfl
   |text fold=>exact zbo_ x b v w hw h hfl hv ha fold hn _ rfl
   |name=>exact zbl_ x b v w hw h hfl hv ha hn _ rfl
   |oid=>exact zet_ x b v w hw h hfl hv ha hn _ rfl
 ·simp only[decide_eq_false hv,Bool.false_and,Bool.false_eq_true,if_false]
  exact zbe_ x b v w h hv
open Go.RowKit Go.Sort
theorem z05_ {n:LU} {k:Int} {x:z5b_}:∀ {T:List z5b_},xc_ n k T=some x→x∈T
 |[],h=>by cases h
 |y::T,h=>by
  rw[xc_] at h
  split at h
  ·cases h;simp
  ·simp [z05_ h]
theorem z43_ {n:LU} {x:z5b_} (h:j1_ n=some x):x∈tab:=by
 unfold j1_ at h
 rw[Option.or_eq_some_iff] at h
 rcases h with h|⟨_,h⟩
 ·exact z05_ h
 ·rw[Option.or_eq_some_iff] at h
  rcases h with h|⟨_,h⟩
  ·exact z05_ h
  ·exact z05_ h
theorem z7c_ {n:LU} {k:Int} {x:z5b_} (h:z7j_ n k=some x):x∈tab:=z43_ (Option.filter_eq_some_iff.1 h).1
theorem zif_:∀ x∈tab,x.2.2.1.length≤2:=by decide
theorem z1p_ {n:LU} {k:Int} {x:z5b_} (h:z7j_ n k=some x):x.2.2.1.length≤2:=zif_ x (z7c_ h)
def zci_ (rule v:LU):Value:=match z7j_ (z2_ rule) 0 with
 |none=> .tuple #[.string ⟨#[]⟩,.int .i64 41]
 |some x=>qs_ 40 (yo_ x v)
theorem zo0_ (rule v:LU) (w:World) (hw:Env w) (hl:rule.length≤140737488351232):
  Calls Tryz.prog 75 #[.string ⟨rule.toArray⟩,.string ⟨v.toArray⟩] w fun e w'=>e= .returned (zci_ rule v)∧Bel w w':=by
 have hc:=z76_ rule 0 w hl
 cases ha:z7j_ (z2_ rule) 0 with
 |none=>
  rw[ha] at hc
  rw[show zci_ rule v= .tuple #[.string ⟨#[]⟩,.int .i64 41] by unfold zci_;rw[ha]]
  clear ha
  go_enter Tryz.func75,Tryz.ntmps75
  go_wp2_with (go_at_call 141;refine hc.mono ?_;rintro e w1 ⟨hb,rfl⟩)
  go_ret2
  exact⟨rfl,hb⟩
 |some x=>
  have hfl:=z1p_ ha
  rw[ha] at hc
  have HN:=hiD (fun b W (hW:Env W) hR=>z2t_ x b v W hW hR hfl)
  rw[show zci_ rule v=qs_ 40 (yo_ x v) by unfold zci_;rw[ha]]
  clear ha
  generalize yo_ x v=o at *
  cases o
  ·simp only[qs_]
   go_enter Tryz.func75,Tryz.ntmps75
   go_wp2_with (first|(go_at_call 141;refine hc.mono ?_;rintro e w1 ⟨hb,b,rfl,hbb,hrow⟩)|(go_at_call 142;refine(HN.out _ _ (hw.keep hb) hrow).mono ?_;rintro e w2 ⟨rfl,hb2⟩;simp only[qs_]))
   go_ret2
   exact⟨rfl,tQ hb hb2⟩
  ·simp only[qs_]
   go_enter Tryz.func75,Tryz.ntmps75
   go_wp2_with (first|(go_at_call 141;refine hc.mono ?_;rintro e w1 ⟨hb,b,rfl,hbb,hrow⟩)|(go_at_call 142;refine(HN.out _ _ (hw.keep hb) hrow).mono ?_;rintro e w2 ⟨rfl,hb2⟩;simp only[qs_]))
   go_ret2
   exact⟨rfl,tQ hb hb2⟩
def zf7_ (x:z5b_) (a b:LU):Option (LU × LU):=match yo_ x a,yo_ x b with
 |some p,some q=>some (p,q)
 |_,_=>none
def zfx_:Option (LU × LU)→Value
 |none=> .tuple #[.string ⟨#[]⟩,.string ⟨#[]⟩,.int .i64 40]
 |some (p,q)=> .tuple #[.string ⟨p.toArray⟩,.string ⟨q.toArray⟩,.int .i64 0]
theorem both_c (x:z5b_) (r:Nat) (a b:LU) (w:World) (hw:Env w) (h:RowAt w r x) (hfl:x.2.2.1.length≤2):
  Calls Tryz.prog 152 #[.pointer (some ⟨r,0,none⟩),.string ⟨a.toArray⟩,.string ⟨b.toArray⟩] w fun e w'=>e= .returned (zfx_ (zf7_ x a b))∧Bel w w':=by
 have hA:=z2t_ x r a w hw h hfl
 have HB:=hiD (fun W (hW:Bel w W)=>z2t_ x r b W (hw.keep hW) (h.below hW) hfl)
 unfold zf7_
 generalize yo_ x a=oa at *
 generalize yo_ x b=ob at *
 clear h
 cases oa with
 |none=>
  simp only[zfx_]
  go_enter Tryz.func152,Tryz.ntmps152
  go_wp2_with fail
  refine hA.mono ?_
  rintro e w1 ⟨rfl,hb1⟩
  simp only[qs_]
  go_wp2_with fail
  go_ret3
  exact⟨rfl,hb1⟩
 |some p=>
  cases ob with
  |none=>
   simp only[zfx_]
   go_enter Tryz.func152,Tryz.ntmps152
   go_wp2_with fail
   refine hA.mono ?_
   rintro e w1 ⟨rfl,hb1⟩
   simp only[qs_]
   go_wp2_with fail
   refine(HB.out _ hb1).mono ?_
   rintro e w2 ⟨rfl,hb2⟩
   simp only[qs_]
   go_wp2_with fail
   go_ret3
   exact⟨rfl,tQ hb1 hb2⟩
  |some q=>
   simp only[zfx_]
   go_enter Tryz.func152,Tryz.ntmps152
   go_wp2_with fail
   refine hA.mono ?_
   rintro e w1 ⟨rfl,hb1⟩
   simp only[qs_]
   go_wp2_with fail
   refine(HB.out _ hb1).mono ?_
   rintro e w2 ⟨rfl,hb2⟩
   simp only[qs_]
   go_wp2_with fail
   go_ret3
   exact⟨rfl,tQ hb1 hb2⟩
def z7v_ (r:Bool × Int):Value:= .tuple #[.bool r.1,.int .i64 r.2]
def zke_:LU:=[105,110,116,101,103,101,114,79,114,100,101,114,105,110,103,77,97,116,99,104]
def z9d_ (n:LU):Option (LU × LU)→Int × Int
 |none=>(0,40)
 |some (p,q)=>(if n=zke_ then zjz_ p q else z11_ p q,0)
def xk_ (rule a b:LU):Int × Int:=match z7j_ (z2_ rule) 1 with
 |none=>(0,41)
 |some x=>z9d_ x.1 (zf7_ x a b)
def z6d_ (r:Int × Int):Value:= .tuple #[.int .i64 r.1,.int .i64 r.2]
theorem zh3_ (rule a b:LU) (w:World) (hw:Env w) (hl:rule.length≤140737488351232):
  Calls Tryz.prog 90 #[.string ⟨rule.toArray⟩,.string ⟨a.toArray⟩,.string ⟨b.toArray⟩] w fun e w'=>e= .returned (z6d_ (xk_ rule a b))∧Bel w w':=by
 have hc:=z76_ rule 1 w hl
 cases ha:z7j_ (z2_ rule) 1 with
 |none=>
  rw[ha] at hc
  rw[show xk_ rule a b=(0,41) by unfold xk_;rw[ha]]
  clear ha
  simp only[z6d_]
  go_enter Tryz.func90,Tryz.ntmps90
  go_wp2_with (go_at_call 141;refine hc.mono ?_;rintro e w1 ⟨hb,rfl⟩)
  go_ret2
  exact⟨rfl,hb⟩
 |some x=>
  have hfl:=z1p_ ha
  rw[ha] at hc
  have HN:=hiD (fun r W (hW:Env W) hR=>both_c x r a b W hW hR hfl)
  rw[show xk_ rule a b=z9d_ x.1 (zf7_ x a b) by unfold xk_;rw[ha]]
  clear ha
  generalize zf7_ x a b=o at *
  rcases o with _|⟨p,q⟩
  ·simp only[zfx_] at HN
   simp only[z6d_,z9d_]
   go_enter Tryz.func90,Tryz.ntmps90
   go_wp2_with (first|(go_at_call 141;refine hc.mono ?_;rintro e w1 ⟨hb,b,rfl,hbb,hrow⟩)|(go_at_call 152;refine(HN.out _ _ (hw.keep hb) hrow).mono ?_;rintro e w2 ⟨rfl,hb2⟩))
   go_ret2
   exact⟨rfl,tQ hb hb2⟩
  ·simp only[zfx_] at HN
   simp only[z6d_,z9d_]
   by_cases hx:x.1=zke_
   ·have e1:(x.1==[105,110,116,101,103,101,114,79,114,100,101,114,105,110,103,77,97,116,99,104])=true:=beq_iff_eq.2 hx
    rw[if_pos hx]
    clear hx
    go_enter Tryz.func90,Tryz.ntmps90
    go_wp2_with (first|(go_at_call 141;refine hc.mono ?_;rintro e w1 ⟨hb,b,rfl,hbb,hrow⟩)|(go_at_call 152;refine(HN.out _ _ (hw.keep hb) hrow).mono ?_;rintro e w2 ⟨rfl,hb2⟩;obtain⟨fA,fN,fC,nF,n1,n2,h1,h2,h3⟩:=hrow.below hb2;have hcell:w2.cell? ⟨b,0,none⟩=some (.string ⟨x.1.toArray⟩):=(by simp [World.cell?,h1]))|(go_at_call 153;refine(zfu_ p q _).mono ?_;rintro e w3 ⟨rfl,hb3⟩))
    go_ret2
    exact⟨rfl,(tQ hb hb2).trans (hb3.mono (nT hb.size hb2.size))⟩
   ·have e1:(x.1==[105,110,116,101,103,101,114,79,114,100,101,114,105,110,103,77,97,116,99,104])=false:=beq_eq_false_iff_ne.2 hx
    rw[if_neg hx]
    clear hx
    go_enter Tryz.func90,Tryz.ntmps90
    go_wp2_with (first|(go_at_call 141;refine hc.mono ?_;rintro e w1 ⟨hb,b,rfl,hbb,hrow⟩)|(go_at_call 152;refine(HN.out _ _ (hw.keep hb) hrow).mono ?_;rintro e w2 ⟨rfl,hb2⟩;obtain⟨fA,fN,fC,nF,n1,n2,h1,h2,h3⟩:=hrow.below hb2;have hcell:w2.cell? ⟨b,0,none⟩=some (.string ⟨x.1.toArray⟩):=(by simp [World.cell?,h1]))|(go_at_call 79;refine(z3o_ p q _).mono ?_;rintro e w3 ⟨rfl,rfl⟩))
    go_ret2
    exact⟨rfl,tQ hb hb2⟩
open Go.RowKit
def VR (r:Int):Prop:=(0≤r∧r<55296)∨(57344≤r∧r≤1114111)
def cat (rs:List Int):LU:=rs.flatMap xw_
theorem zl7_ {r:Int} (h:Lib.validRune r=true):VR r:=by
 unfold Lib.validRune at h;simp at h;unfold VR;omega
theorem ki_ {r:Int} (h:VR r):
  (0≤r∧r<128∧xw_ r=[UInt8.ofNat r.toNat])∨
  (128≤r∧r<2048∧xw_ r=[UInt8.ofNat (192+r.toNat / 64),UInt8.ofNat (128+r.toNat % 64)])∨
  (2048≤r∧r<65536∧xw_ r=[UInt8.ofNat (224+r.toNat / 4096),UInt8.ofNat (128+r.toNat / 64 % 64),UInt8.ofNat (128+r.toNat % 64)])∨
  (65536≤r∧r≤1114111∧xw_ r=[UInt8.ofNat (240+r.toNat / 262144),UInt8.ofNat (128+r.toNat / 4096 % 64),UInt8.ofNat (128+r.toNat / 64 % 64),UInt8.ofNat (128+r.toNat % 64)]):=by
 have hv:Utf8.valid r=true:=by unfold VR at h;unfold Utf8.valid;simp;omega
 unfold xw_ Utf8.encode
 rw[hv]
 simp only[if_true]
 by_cases h1:r.toNat<128
 ·left;refine⟨by unfold VR at h;omega,by omega,?_⟩;rw[if_pos h1]
 ·rw[if_neg h1]
  right
  by_cases h2:r.toNat<2048
  ·left;refine⟨by omega,by omega,?_⟩;rw[if_pos h2]
  ·rw[if_neg h2]
   right
   by_cases h3:r.toNat<65536
   ·left;refine⟨by omega,by omega,?_⟩;rw[if_pos h3]
   ·rw[if_neg h3]
    right
    refine⟨by omega,by unfold VR at h;omega,rfl⟩
theorem ofN {n:Nat} (h:n<256):(UInt8.ofNat n).toNat=n:=by simp;omega
theorem decode_enc {r:Int} (h:VR r) (t:LU):Lib.decodeL (xw_ r++t)=(r.toNat,(xw_ r).length):=by
 rw[Lib.decodeL_N]
 unfold VR at h
 rcases ki_ h with ⟨a,b,e⟩|⟨a,b,e⟩|⟨a,b,e⟩|⟨a,b,e⟩
 ·rw[e]
  simp only[List.cons_append,List.nil_append,List.getD_cons_zero,List.length_cons,List.length_nil]
  rw[ofN (by omega)]
  unfold Lib.decodeN
  rw[if_pos (by omega)]
 ·rw[e]
  simp only[List.cons_append,List.nil_append,List.getD_cons_zero,List.getD_cons_succ,List.length_cons,List.length_nil]
  rw[ofN (by omega),ofN (by omega)]
  unfold Lib.decodeN
  rw[if_neg (by omega),if_pos (by omega),if_pos (by omega)]
  apply Prod.ext<;>simp only<;>omega
 ·rw[e]
  simp only[List.cons_append,List.nil_append,List.getD_cons_zero,List.getD_cons_succ,List.length_cons,List.length_nil]
  rw[ofN (by omega),ofN (by omega),ofN (by omega)]
  unfold Lib.decodeN
  rw[if_neg (by omega),if_neg (by omega),if_pos (by omega),if_pos (by omega)]
  apply Prod.ext<;>simp only<;>omega
 ·rw[e]
  simp only[List.cons_append,List.nil_append,List.getD_cons_zero,List.getD_cons_succ,List.length_cons,List.length_nil]
  rw[ofN (by omega),ofN (by omega),ofN (by omega),ofN (by omega)]
  unfold Lib.decodeN
  rw[if_neg (by omega),if_neg (by omega),if_neg (by omega),if_pos (by omega),if_pos (by omega)]
  apply Prod.ext<;>simp only<;>omega
theorem zij_ (r:Int):xw_ r≠[]:=by
 intro h;have:=(z34_ r).1;rw[h] at this;simp at this
theorem z2v_ (r:Int) (rs:List Int):cat (r::rs)=xw_ r++cat rs:=by simp [cat]
theorem zjh_ (a b:List Int):cat (a++b)=cat a++cat b:=by simp [cat]
theorem zma_ (r:Int) (h:VR r):xw_ r=Lib.encodeRune r:=by
 have h':=h
 unfold VR at h'
 rcases ki_ h with ⟨a,b,e⟩|⟨a,b,e⟩|⟨a,b,e⟩|⟨a,b,e⟩
 ·rw[e,Lib.encodeRune,Lib.encodeRuneZ_one a (by omega)];rfl
 ·rw[e,Lib.encodeRune,Lib.encodeRuneZ_two a (by omega)]
  simp only[List.map_cons,List.map_nil]
  rw[show (192+r / 64).toNat=192+r.toNat / 64 by omega,show (128+r % 64).toNat=128+r.toNat % 64 by omega]
 ·rw[e,Lib.encodeRune,Lib.encodeRuneZ_three (by omega)]
  simp only[List.map_cons,List.map_nil]
  rw[show (224+r / 4096).toNat=224+r.toNat / 4096 by omega,show (128+r / 64 % 64).toNat=128+r.toNat / 64 % 64 by omega,show (128+r % 64).toNat=128+r.toNat % 64 by omega]
 ·rw[e,Lib.encodeRune,Lib.encodeRuneZ_four a b]
  simp only[List.map_cons,List.map_nil]
  rw[show (240+r / 262144).toNat=240+r.toNat / 262144 by omega,show (128+r / 4096 % 64).toNat=128+r.toNat / 4096 % 64 by omega,show (128+r / 64 % 64).toNat=128+r.toNat / 64 % 64 by omega,show (128+r % 64).toNat=128+r.toNat % 64 by omega]
theorem z3g_:∀ (n:Nat) (l:LU),l.length≤n→Lib.validD l=true→cat (jn_ l)=l∧∀ r∈jn_ l,VR r
 |0,l,hn,_=>by
  obtain rfl:l=[]:=List.eq_nil_of_length_eq_zero (by omega)
  exact⟨rfl,by simp [jn_,xo_]⟩
 |n+1,l,hn,hv=>by
  by_cases hl:l=[]
  ·subst hl;exact⟨rfl,by simp [jn_,xo_]⟩
  ·have hok:=jb_ l hl
   rw[Lib.validD_step l hl] at hv
   split at hv
   ·cases hv
   ·next hbad=>
    have ih:=z3g_ n (l.drop (Lib.decodeL l).2) (by simp;omega) hv
    have hvr:=zl7_ hok.2.2.2
    rw[v7_ l hl,z2v_,ih.1,zma_ _ hvr,Lib.encode_decode l hl hbad,List.take_append_drop]
    refine⟨rfl,fun r hr=>?_⟩
    simp only[List.mem_cons] at hr
    rcases hr with rfl|hr
    ·exact hvr
    ·exact ih.2 r hr
/-! ### what becomes of characters -/
def ku_ (fold:Bool) (acc:List Int) (r:Int):Option (List Int):=
 if (qh_ r).2.2 then none
 else if !(qh_ r).2.1 then some acc
 else if (qh_ r).1=32∧acc.getLast?=some 32 then some acc
 else some (acc++[if fold then zn_ (qh_ r).1 else (qh_ r).1])
def vr_ (fold:Bool):List Int→List Int→Option (List Int)
 |[],acc=>some acc
 |r::rs,acc=>(ku_ fold acc r).bind (vr_ fold rs)
theorem zok_ (n:Nat) (h:n<256):(some (UInt8.ofNat n)=some (32:UInt8))↔n=32:=by
 rw[Option.some_inj,← UInt8.toNat_inj,ofN h];rfl
theorem zlg_ {r:Int} (h:VR r):((xw_ r).getLast?=some 32↔r=32):=by
 rcases ki_ h with ⟨a,b,e⟩|⟨a,b,e⟩|⟨a,b,e⟩|⟨a,b,e⟩
 all_goals rw[e]
 all_goals refine(zok_ _ (by omega)).trans (by omega)
theorem zjd_ {r:Int} (h:VR r):((xw_ r).head?=some 32↔r=32):=by
 rcases ki_ h with ⟨a,b,e⟩|⟨a,b,e⟩|⟨a,b,e⟩|⟨a,b,e⟩
 all_goals rw[e]
 all_goals refine(zok_ _ (by omega)).trans (by omega)
theorem z7m_ (acc:List Int) (h:∀ r∈acc,VR r):((cat acc).getLast?=some 32↔acc.getLast?=some 32):=by
 rcases List.eq_nil_or_concat acc with rfl|⟨a,r,rfl⟩
 ·simp [cat]
 ·rw[List.concat_eq_append,zjh_] at *
  have hr:=h r (by simp)
  have:cat [r]=xw_ r:=by simp [cat]
  rw[this,List.getLast?_append,List.getLast?_append]
  have he:=zlg_ hr
  have hne:=zij_ r
  cases hg:(xw_ r).getLast? with
  |none=>simp at hg;exact absurd hg hne
  |some x=>rw[hg] at he;simpa using he
theorem zc5_ {r:Int} (h:VR r) (h1:(qh_ r).2.2=false) (h2:(qh_ r).2.1=true):VR (qh_ r).1∧VR (zn_ (qh_ r).1):=by
 unfold VR at h
 have:=zd4_ r (by omega) (by omega)
 have h3:=z3u_ (qh_ r).1 this.1 this.2.1 (this.2.2 h1 h2)
 exact⟨zl7_ h3.2,zl7_ h3.1⟩
theorem znh_ (fold:Bool) (acc:List Int) (r:Int) (ha:∀ r∈acc,VR r) (hr:VR r):z87_ fold (cat acc) r=(ku_ fold acc r).map cat∧∀ a,ku_ fold acc r=some a→∀ x∈a,VR x:=by
 unfold z87_ ku_
 by_cases h1:(qh_ r).2.2=true
 ·rw[if_pos h1,if_pos h1];exact⟨rfl,by simp⟩
 ·rw[if_neg h1,if_neg h1]
  by_cases h2:(!(qh_ r).2.1)=true
  ·rw[if_pos h2,if_pos h2];exact⟨rfl,by simp;exact ha⟩
  ·rw[if_neg h2,if_neg h2]
   have hv:=zc5_ hr (by simpa using h1) (by simpa using h2)
   by_cases h3:(qh_ r).1=32∧acc.getLast?=some 32
   ·rw[if_pos ⟨h3.1,(z7m_ acc ha).2 h3.2⟩,if_pos h3];exact⟨rfl,by simp;exact ha⟩
   ·rw[if_neg (fun h=>h3 ⟨h.1,(z7m_ acc ha).1 h.2⟩),if_neg h3]
    refine⟨by simp [cat],?_⟩
    intro a e
    cases e
    intro x hx
    simp only[List.mem_append,List.mem_singleton] at hx
    rcases hx with hx|rfl
    ·exact ha x hx
    ·cases fold
     ·exact hv.1
     ·exact hv.2
theorem z3l_ (fold:Bool):∀ (rs acc:List Int),(∀ r∈acc,VR r)→(∀ r∈rs,VR r)→zs_ fold rs (cat acc)=(vr_ fold rs acc).map cat
 |[],acc,_,_=>rfl
 |r::rs,acc,ha,hr=>by
  have:=znh_ fold acc r ha (hr r (by simp))
  rw[zs_,vr_,this.1]
  cases hs:ku_ fold acc r with
  |none=>rfl
  |some a=>
   simp only[Option.map_some,Option.bind_some]
   exact z3l_ fold rs a (this.2 a hs) (fun x hx=>hr x (by simp [hx]))
theorem zjq_ (l:LU) (fold:Bool) (hv:Lib.validD l=true):qo_ l fold=(vr_ fold (jn_ l) []).map cat:=by
 unfold qo_
 rw[if_pos hv]
 exact z3l_ fold _ [] (by simp) (z3g_ _ l (nR _) hv).2
def Nice (fold:Bool) (r:Int):Prop:=qh_ r=(r,true,false)∧(fold=true→zn_ r=r)∧VR r
def NoTwo (l:List Int):Prop:=∀ i:Nat,¬ (l[i]?=some 32∧l[i+1]?=some 32)
theorem zis_ {r:Int} (h:VR r) (hm:qh_ r=(r,true,false)):Nice true (zn_ r):=by
 have hr:VR (zn_ r):=by have:=zc5_ h (by rw[hm]) (by rw[hm]);rw[hm] at this;exact this.2
 have key:qh_ (zn_ r)=(zn_ r,true,false)∧zn_ (zn_ r)=zn_ r:=by
  unfold qh_ at hm
  split at hm
  ·next hb=>
   have e:r=32:=by have:=congrArg Prod.fst hm;simpa using this.symm
   subst e;decide
  ·split at hm
   ·have:=congrArg (fun x=>x.2.1) hm;simp at this
   ·split at hm
    ·have:=congrArg (fun x=>x.2.1) hm;simp at this
    ·next h1 h2 h3=>
     have hcase:zn_ r=r∨(0x61≤zn_ r∧zn_ r≤0x7A)∨(0xDF≤zn_ r∧zn_ r≤0xFE)∨(0x101≤zn_ r∧zn_ r≤0x177∧zn_ r % 2=1)∨(0x3B1≤zn_ r∧zn_ r≤0x3C9)∨(0x430≤zn_ r∧zn_ r≤0x45F):=by
      unfold zn_
      repeat' split
      all_goals omega
     have hff:zn_ (zn_ r)=zn_ r:=by
      rcases hcase with e|hc
      ·rw[e,e]
      ·generalize zn_ r=x at hc
       unfold zn_
       repeat' split
       all_goals omega
     refine⟨?_,hff⟩
     rcases hcase with e|hc
     ·rw[e];unfold qh_;rw[if_neg h1,if_neg h2,if_neg h3]
     ·generalize zn_ r=x at hc
      unfold qh_
      rw[if_neg (by unfold z0b_;omega),if_neg (by unfold z7s_;omega),if_neg (by unfold zeg_;omega)]
 exact⟨key.1,fun _=>key.2,hr⟩
theorem zex_ {r:Int} (h1:(qh_ r).2.2=false) (h2:(qh_ r).2.1=true):qh_ (qh_ r).1=((qh_ r).1,true,false):=by
 unfold qh_ at h1 h2 ⊢
 split
 ·decide
 ·next hb=>
  rw[if_neg hb] at h1 h2
  split
  ·next hg=>rw[if_pos hg] at h2;simp at h2
  ·next hg=>
   rw[if_neg hg] at h1 h2
   split
   ·next hf=>rw[if_pos hf] at h1;simp at h1
   ·next hf=>first|(simp only;done)|(simp only;rw[if_neg hb,if_neg hg,if_neg hf])
theorem zhg_ (fold:Bool) (acc a:List Int) (r:Int) (hr:VR r) (ha:∀ x∈acc,Nice fold x) (hn:NoTwo acc) (h:ku_ fold acc r=some a):(∀ x∈a,Nice fold x)∧NoTwo a:=by
 unfold ku_ at h
 split at h
 ·cases h
 ·next h1=>
  split at h
  ·cases h;exact⟨ha,hn⟩
  ·next h2=>
   have h1':(qh_ r).2.2=false:=by simpa using h1
   have h2':(qh_ r).2.1=true:=by simpa using h2
   split at h
   ·cases h;exact⟨ha,hn⟩
   ·next h3=>
    have hv:=zc5_ hr h1' h2'
    have hst:=zex_ h1' h2'
    have hnew:Nice fold (if fold=true then zn_ (qh_ r).1 else (qh_ r).1):=by
     cases fold
     ·simp only[Bool.false_eq_true,if_false];exact⟨hst,by simp,hv.1⟩
     ·simp only[if_true];exact zis_ hv.1 hst
    have h32:(if fold=true then zn_ (qh_ r).1 else (qh_ r).1)=32→(qh_ r).1=32:=by
     cases fold
     ·simp
     ·simp only[if_true]
      generalize (qh_ r).1=x
      unfold zn_
      repeat' split
      all_goals omega
    cases h
    refine⟨fun x hx=>?_,fun i hi=>?_⟩
    ·simp only[List.mem_append,List.mem_singleton] at hx
     rcases hx with hx|rfl
     ·exact ha x hx
     ·exact hnew
    ·obtain⟨ha1,ha2⟩:=hi
     by_cases hlt:i+1<acc.length
     ·rw[List.getElem?_append_left (by omega)] at ha1
      rw[List.getElem?_append_left hlt] at ha2
      exact hn i ⟨ha1,ha2⟩
     ·have hi1:i+1=acc.length:=by
       have:=(List.getElem?_eq_some_iff.1 ha2).1;simp at this;omega
      rw[List.getElem?_append_left (by omega)] at ha1
      rw[hi1,List.getElem?_append_right (nR _)] at ha2
      simp only[Nat.sub_self,List.getElem?_cons_zero,Option.some.injEq] at ha2
      apply h3
      refine⟨h32 ha2,?_⟩
      rw[List.getLast?_eq_getElem?,show acc.length - 1=i by omega]
      exact ha1
theorem zd5_ (fold:Bool):∀ (rs acc a:List Int),(∀ r∈rs,VR r)→(∀ x∈acc,Nice fold x)→NoTwo acc→vr_ fold rs acc=some a→(∀ x∈a,Nice fold x)∧NoTwo a
 |[],acc,a,_,ha,hn,h=>by cases h;exact⟨ha,hn⟩
 |r::rs,acc,a,hr,ha,hn,h=>by
  rw[vr_] at h
  obtain⟨b,hb,h2⟩:=Option.bind_eq_some_iff.1 h
  have:=zhg_ fold acc b r (hr r (by simp)) ha hn hb
  exact zd5_ fold rs b a (fun x hx=>hr x (by simp [hx])) this.1 this.2 h2
end Go.Proofs.YtbekpphodbekiaaGreatDoor
