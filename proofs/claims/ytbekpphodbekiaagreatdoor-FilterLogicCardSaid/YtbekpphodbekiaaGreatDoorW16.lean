import Derived.Shelf.Strings.BuilderK
import Derived.Test.YtbekpphodbekiaaGreatDoorW15
set_option linter.all false
set_option maxHeartbeats 8000000
set_option maxRecDepth 100000
namespace Go.Proofs.YtbekpphodbekiaaGreatDoor
open Go.RowKit
def ziq_:Go.Shelf.Ren:=⟨fun|166=>108|240=>164|276=>211|n=>n,fun|0=>0|3=>3|4=>4|5=>5|9=>9|20=>20|37=>124|70=>123|72=>126|75=>176|80=>112|164=>252|n=>n,fun|n=>n⟩
theorem zkg_:Go.Proofs.Lays.n166 Tryz.prog ziq_:={
 mixed:=by kernel_rfl
 f166:=Tryz.func108.trans (congrArg some (by kernel_rfl))
 f240:=Tryz.func164.trans (congrArg some (by kernel_rfl))
 f276:=Tryz.func211.trans (congrArg some (by kernel_rfl))
 t0:=Tryz.underlying0
 a0:=Tryz.isAgg0
 z0:=Tryz.sizeOf0
 v0:=Tryz.zeroValue0
 t3:=Tryz.underlying3
 a3:=Tryz.isAgg3
 z3:=Tryz.sizeOf3
 v3:=Tryz.zeroValue3
 t4:=Tryz.underlying4
 a4:=Tryz.isAgg4
 z4:=Tryz.sizeOf4
 v4:=Tryz.zeroValue4
 t9:=Tryz.underlying9
 a9:=Tryz.isAgg9
 z9:=Tryz.sizeOf9
 v9:=Tryz.zeroValue9
 t20:=Tryz.underlying20
 a20:=Tryz.isAgg20
 z20:=Tryz.sizeOf20
 v20:=Tryz.zeroValue20
 t37:=Tryz.underlying124
 a37:=Tryz.isAgg124
 z37:=Tryz.sizeOf124
 v37:=Tryz.zeroValue124
 t70:=Tryz.underlying123
 a70:=Tryz.isAgg123
 z70:=Tryz.sizeOf123
 v70:=Tryz.zeroValue123
 t72:=Tryz.underlying126
 a72:=Tryz.isAgg126
 z72:=Tryz.sizeOf126
 v72:=Tryz.zeroValue126
 t75:=Tryz.underlying176
 a75:=Tryz.isAgg176
 z75:=Tryz.sizeOf176
 v75:=Tryz.zeroValue176
 t164:=Tryz.underlying252
 a164:=Tryz.isAgg252
 z164:=Tryz.sizeOf252
 v164:=Tryz.zeroValue252}
def zj6_:Go.Shelf.Ren:=⟨fun|167=>107|240=>164|276=>211|n=>n,fun|0=>0|4=>4|5=>5|9=>9|20=>20|37=>124|70=>123|72=>126|75=>176|80=>112|164=>252|n=>n,fun|n=>n⟩
theorem zlt_:Go.Proofs.Lays.n167 Tryz.prog zj6_:={
 mixed:=by kernel_rfl
 f167:=Tryz.func107.trans (congrArg some (by kernel_rfl))
 f240:=Tryz.func164.trans (congrArg some (by kernel_rfl))
 f276:=Tryz.func211.trans (congrArg some (by kernel_rfl))
 t0:=Tryz.underlying0
 a0:=Tryz.isAgg0
 z0:=Tryz.sizeOf0
 v0:=Tryz.zeroValue0
 t4:=Tryz.underlying4
 a4:=Tryz.isAgg4
 z4:=Tryz.sizeOf4
 v4:=Tryz.zeroValue4
 t5:=Tryz.underlying5
 a5:=Tryz.isAgg5
 z5:=Tryz.sizeOf5
 v5:=Tryz.zeroValue5
 t9:=Tryz.underlying9
 a9:=Tryz.isAgg9
 z9:=Tryz.sizeOf9
 v9:=Tryz.zeroValue9
 t20:=Tryz.underlying20
 a20:=Tryz.isAgg20
 z20:=Tryz.sizeOf20
 v20:=Tryz.zeroValue20
 t37:=Tryz.underlying124
 a37:=Tryz.isAgg124
 z37:=Tryz.sizeOf124
 v37:=Tryz.zeroValue124
 t70:=Tryz.underlying123
 a70:=Tryz.isAgg123
 z70:=Tryz.sizeOf123
 v70:=Tryz.zeroValue123
 t72:=Tryz.underlying126
 a72:=Tryz.isAgg126
 z72:=Tryz.sizeOf126
 v72:=Tryz.zeroValue126
 t75:=Tryz.underlying176
 a75:=Tryz.isAgg176
 z75:=Tryz.sizeOf176
 v75:=Tryz.zeroValue176
 t164:=Tryz.underlying252
 a164:=Tryz.isAgg252
 z164:=Tryz.sizeOf252
 v164:=Tryz.zeroValue252}
theorem znh_:Builder.Extra Tryz.prog ziq_:={sizeBuilder:=by kernel_rfl,liesBuilder:=by kernel_rfl,t5:=Tryz.underlying5,a5:=Tryz.isAgg5,z5:=Tryz.sizeOf5,v5:=Tryz.zeroValue5,infoByte:=by kernel_rfl,cellsByte:=by kernel_rfl,sizeByte:=by kernel_rfl,neB5:=by decide}
theorem zpx_:Builder.Extra Tryz.prog zj6_:={sizeBuilder:=by kernel_rfl,liesBuilder:=by kernel_rfl,t5:=Tryz.underlying5,a5:=Tryz.isAgg5,z5:=Tryz.sizeOf5,v5:=Tryz.zeroValue5,infoByte:=by kernel_rfl,cellsByte:=by kernel_rfl,sizeByte:=by kernel_rfl,neB5:=by decide}
def IsB (B b:Nat) (l:LU) (w:World):Prop:=Lib.IsBuilderF 126 5 B b (Lib.byteCells l) w∧B≤w.heap.size
theorem za0_ (a b:LU):Lib.byteCells a++Lib.byteCells b=Lib.byteCells (a++b):=by
 unfold Lib.byteCells
 rw[List.map_append]
theorem zad_ (B b:Nat) (l:LU) (w:World) (h:IsB B b l w):
  Calls Tryz.prog 56 #[.pointer (some ⟨b,0,none⟩)] w fun e w'=>e= .returned (.string ⟨l.toArray⟩)∧IsB B b l w'∧Below B w w':=by
 refine Calls.mono (Any.Builder_String_any_k Tryz.lays169 Tryz.Builder_Extra_169 B b l w h.1 h.2) ?_
 rintro e w' ⟨he,hB,hb,_⟩
 exact⟨he,⟨hB,nT h.2 hb.size⟩,hb⟩
theorem IsB.new (w:World):IsB w.heap.size w.heap.size [] (w.alloc (.cells #[.pointer none,.slice none 0 0] 126)):=by
 refine⟨.inl ⟨nR _,.slice none 0 0,heap_alloc_new w _,World.ownsRowF_of (World.ownsRow_nil _ _ _ _),?_⟩,by simp⟩
 all_goals simp [Value.ownBlock]
open Go.RowKit
abbrev Oth (b:Nat) (w w':World):Prop:=Lib.OthersKept 5 (some b) w w'
theorem qz_ (B b:Nat) (l s:LU) (w:World) (h:IsB B b l w) (hl:l.length+s.length≤140737488355328):
  Calls Tryz.prog 108 #[.pointer (some ⟨b,0,none⟩),.string ⟨s.toArray⟩] w fun e w'=>e= .returned (.tuple #[.int .i64 s.length,.nilIface])∧IsB B b (l++s) w'∧Below B w w'∧Oth b w w':=by
 have hc:=Any.Builder_WriteString_k zkg_ znh_ B b (Lib.byteCells l) ⟨s.toArray⟩ w h.1 (by simpa [Lib.byteCells,ByteArray.size] using hl) h.2
 refine Calls.mono hc ?_
 rintro e w' ⟨he,hB,hb,ho⟩
 refine⟨he,⟨.inr ?_,nT h.2 hb.size⟩,hb,ho⟩
 have hs:Lib.strCells ⟨s.toArray⟩=Lib.byteCells s:=by first|rfl|simp [Lib.strCells,Lib.byteCells]
 rw[hs,za0_] at hB
 exact hB
theorem za1_ (B b:Nat) (l:LU) (c:UInt8) (w:World) (h:IsB B b l w) (hl:l.length+1≤140737488355328):
  Calls Tryz.prog 107 #[.pointer (some ⟨b,0,none⟩),.int .u8 c.toNat] w fun e w'=>e= .returned .nilIface∧IsB B b (l++[c]) w'∧Below B w w'∧Oth b w w':=by
 have hc:=Any.Builder_WriteByte_k zlt_ zpx_ B b (Lib.byteCells l) c.toNat w h.1 (by simpa [Lib.byteCells] using hl) h.2
 refine Calls.mono hc ?_
 rintro e w' ⟨he,hB,hb,ho⟩
 refine⟨he,⟨.inr ?_,nT h.2 hb.size⟩,hb,ho⟩
 have hs:[Value.int .u8 (c.toNat:Int)]=Lib.byteCells [c]:=rfl
 rw[hs,za0_] at hB
 exact hB
theorem IsB.below {B b:Nat} {l:LU} {w w':World} (h:IsB B b l w) (hb:Bel w w'):IsB B b l w':=by
 obtain⟨h1,h2⟩:=h
 refine⟨h1.imp ?_ ?_,nT h2 hb.size⟩
 all_goals
  rintro⟨hBb,v,hk,hown,hne⟩
  have hlt:b<w.heap.size:=(Array.getElem?_eq_some_iff.1 hk).1
  have hO:BufO B w v l:=⟨by simpa [Lib.byteCells] using hown,h2⟩
  refine⟨hBb,v,(hb.block b hlt).trans hk,?_,hne⟩
  have:=(hO.keep (zc_ hb none) (fun k e=>by cases e)).1
  simpa [Lib.byteCells] using this
theorem IsB.drew {B b:Nat} {l:LU} {w:World} (h:IsB B b l w):IsB B b l w.drew:=h.below (bR _ _).drew
theorem Bk.oth {w w':World} {b g:Nat} {t:TypeId} {cs:Array Value} (h:Bk w g t cs) (ho:Oth b w w') (hg:g≠b) (ht:t≠5):Bk w' g t cs:=
 ho g _ h (fun e=>hg (Option.some.inj e)) (fun c fz e=>by
  have:t=5:=by injection e
  exact ht this)
theorem Rune_c (l:LU) (k:Nat) (hk:k<l.length) (m:Int) (hm:((Lib.decodeL (l.drop k)).2:Int)=m) (w:World) (hw:Env w):
  Calls Tryz.prog 165 #[.string ⟨l.toArray⟩,.int .i64 (k:Int)] w fun e w'=>∃ r:Int,e= .returned (.tuple #[.int .i32 r,.int .i64 m])∧Bel w w':=by
 have hD:=Tryz.utf8_DecodeRuneInString ⟨(l.drop k).toArray⟩ w hw.tabs
 rw[Fil.dec_go _ (by intro e;have:=congrArg List.length e;rw[List.length_drop] at this;simp at this;omega),hm] at hD
 have hsl:=fun W=>z0y_ l k (Nat.le_of_lt hk) W
 have hki:(k:Int)<(l.length:Int):=by omega
 generalize l.drop k=u at hD hsl
 obtain⟨r,hr⟩:∃ r:Int,((Lib.decodeL u).1:Int)=r:=⟨_,rfl⟩
 rw[hr] at hD
 have HD:=hiD hD
 clear hD hr hm
 go_enter Tryz.func165,Tryz.ntmps165
 go_wp2_with (go_at_call 212;(with_reducible refine HD.out.mono ?_);rintro e w1 ⟨rfl,hb1⟩)
 go_ret2
 exact⟨r,rfl,hb1⟩
theorem z3z_ (l:LU) (w:World) (hw:Env w):Calls Tryz.prog 113 #[.string ⟨#[40,41,42,92,0]⟩,.string ⟨l.toArray⟩] w fun e w'=>e= .returned (.bool (Lib.contains Fil.escS l))∧w=w':=by
 obtain⟨m,hm⟩:=hw.mx
 refine(Tryz.strings_Contains ⟨#[40,41,42,92,0]⟩ ⟨l.toArray⟩ m w (by decide) hm).mono ?_
 rintro e w' ⟨rfl,rfl⟩
 exact⟨rfl,rfl⟩
theorem zhc_ (v:LU) (k n:Nat) (hn:k+n≤v.length) (W:World):(Instr.slice 9 (.string ⟨v.toArray⟩) (some (.int .i64 (k:Int))) (some (.int .i64 ((k+n:Nat):Int))) none).run Tryz.prog W= .ok (.string ⟨((v.drop k).take n).toArray⟩) W:=by
 have:=z4e_ v k (k+n) W (by omega) hn
 rwa [show k+n - k=n by omega] at this
structure WrJ (w:World) (wr:World) (v:LU) (k:Nat) (acc:LU):Prop where
 rest:acc++Fil.wrL (v.drop k)=Fil.wrL v
 len:acc.length≤3 * k
 isb:IsB w.heap.size w.heap.size acc wr
 bel:Bel w wr
theorem WrJ.begin (w:World) (v:LU):WrJ w (w.alloc (.cells #[.pointer none,.slice none 0 0] 126)) v 0 []:=⟨rfl,by simp,IsB.new w,(bR _ _).alloc (nR _) _⟩
theorem kx_ (v:LU) (w:World) (hw:Env w) (hl:v.length≤100000000):
  Calls Tryz.prog 109 #[.string ⟨v.toArray⟩] w fun e w'=>e= .returned (.string ⟨(Fil.wrL v).toArray⟩)∧Bel w w':=by
 obtain⟨R,hR⟩:∃ R,Fil.wrL v=R:=⟨_,rfl⟩
 rw[hR]
 have HR:=hiD hR
 clear hR
 have hget:=qd_
 have H0:=hiD (WrJ.begin w v)
 go_enter Tryz.func109,Tryz.ntmps109
 go_wp2_with fail
 go_loopg [4] v.length (fun gk i wr=>∃ (k:Nat) (acc:LU),k≤v.length∧i= .int .i64 (k:Int)∧Aside (v.length≤k+gk)∧Aside (WrJ w wr v k acc))
 case atStart=>exact⟨0,[],by omega,rfl,by show _≤_;omega,H0.out⟩
 case round=>
  clear H0
  obtain⟨k,acc,hk,rfl,AG,AJ⟩:=hrel
  by_cases hlt:k<v.length
  ·have hki:(k:Int)<(v.length:Int):=by omega
   have hk0:(0:Int)≤(k:Int):=by omega
   have hdl:(v.drop k).length=v.length - k:=List.length_drop
   have hne:v.drop k≠[]:=by intro e;rw[e] at hdl;simp at hdl;omega
   have hst:=Fil.wrL_step (v.drop k) hne
   obtain⟨n,hn⟩:∃ n,(Lib.decodeL (v.drop k)).2=n:=⟨_,rfl⟩
   have hRu:=fun (m:Int) (hm:(n:Int)=m) (W:World) (hW:Env W)=>Rune_c v k hlt m (by rw[hn];exact hm) W hW
   obtain⟨h1n,hnl,hways⟩:=Fil.esc_ways (v.drop k) hne n hn
   rw[hn,List.drop_drop] at hst
   have hsl:=fun W=>zhc_ v k n (by omega) W
   have hwk:IntKind.i64.wrap ((k:Int)+(n:Int))=(k:Int)+(n:Int):=by rw[IntWalk.i64_in _ (by omega)]
   rw[show ((k+n:Nat):Int)=(k:Int)+(n:Int) by omega] at hsl
   have hE:=hw.keep AJ.out.bel
   have hkn:(k:Int)≤(k:Int)+(n:Int):=by omega
   have hknl:(k:Int)+(n:Int)≤(v.length:Int):=by omega
   obtain⟨q,rfl⟩:∃ q,gk=q+1:=⟨gk - 1,by have:=AG.out;omega⟩
   have fin:∀ (e:LU) (W:World),Fil.escF ((v.drop k).take n)=e→e.length≤3 * n→IsB w.heap.size w.heap.size (acc++e) W→Bel w W→WrJ w W v (k+n) (acc++e):=fun e W h1 h2 h3 h4=>⟨by
    rw[List.append_assoc,← h1,← hst]
    exact AJ.out.rest,by rw[List.length_append];have:=AJ.out.len;omega,h3,h4⟩
   have FIN:=hiD fin
   have hal:acc.length≤400000000:=by have:=AJ.out.len;omega
   clear fin hst
   rcases hways with ⟨rfl,x,hx,hw3⟩|⟨hn1,hc,he⟩
   ·have HRu:=hiD (hRu 1 rfl wr hE)
    clear hRu
    rw[hx] at hsl hw3
    have hC:=fun W (hW:Env W)=>z3z_ [x] W hW
    have hxl:(vw_ [x]).length=2:=rfl
    have hcat:=fun w=>run_string_add_lists (P:=Tryz.prog) w [92] (vw_ [x]) (by simp) (by rw[hxl];decide)
    have HH:=hiD (fun W=>Hex_c [x] W (by simp))
    simp only[Int.natCast_one] at hsl hwk hkn hknl
    rcases hw3 with ⟨hc,he⟩|⟨hc,h8,he⟩|⟨hc,h8,he⟩
    ·rw[hc] at hC
     have HC:=hiD hC
     clear hC hc
     have hF:=fun (e:LU) (W:World)=>FIN.out e W
     rw[hx] at hF
     generalize vw_ [x]=hx2 at *
     go_wp2_with (first
      |(go_at_call 165;(with_reducible refine HRu.out.mono ?_);rintro e w3 ⟨r3,rfl,hb3⟩;have HE3:=hiD (hE.keep hb3);have HI3:=hiD (AJ.out.isb.below hb3))
      |(go_at_call 113;(with_reducible refine(HC.out _ HE3.out).mono ?_);rintro e w4 ⟨rfl,rfl⟩)
      |(go_at_call 148;(with_reducible refine(HH.out _).mono ?_);rintro e w5 ⟨rfl,hb5⟩;have HI5:=hiD (HI3.out.below hb5))
      |(go_at_call 108;(refine(qz_ w.heap.size w.heap.size acc (92::hx2) _ (by exact HI5.out) (by simp only[List.length_cons];omega)).mono ?_);rintro e w7 ⟨rfl,hI7,hb7,_⟩))
     go_roundg q
     case measure=>omega
     case rel=>exact⟨k+1,_,by omega,by go_num,by have:=AG.out;show _≤_;omega,hF (92::hx2) _ he (by simp only[List.length_cons];omega) hI7 (((tQ AJ.out.bel hb3).trans (hb5.mono (nT AJ.out.bel.size hb3.size))).trans hb7)⟩
    ·rw[hc] at hC
     have HC:=hiD hC
     have h8i:(128:Int)≤(x.toNat:Int):=by omega
     clear hC hc
     have hF:=fun (e:LU) (W:World)=>FIN.out e W
     rw[hx] at hF
     generalize vw_ [x]=hx2 at *
     go_wp2_with (first
      |(go_at_call 165;(with_reducible refine HRu.out.mono ?_);rintro e w3 ⟨r3,rfl,hb3⟩;have HE3:=hiD (hE.keep hb3);have HI3:=hiD (AJ.out.isb.below hb3))
      |(go_at_call 113;(with_reducible refine(HC.out _ HE3.out).mono ?_);rintro e w4 ⟨rfl,rfl⟩)
      |(go_at_call 148;(with_reducible refine(HH.out _).mono ?_);rintro e w5 ⟨rfl,hb5⟩;have HI5:=hiD (HI3.out.below hb5))
      |(go_at_call 108;(refine(qz_ w.heap.size w.heap.size acc (92::hx2) _ (by exact HI5.out) (by simp only[List.length_cons];omega)).mono ?_);rintro e w7 ⟨rfl,hI7,hb7,_⟩))
     go_roundg q
     case measure=>omega
     case rel=>exact⟨k+1,_,by omega,by go_num,by have:=AG.out;show _≤_;omega,hF (92::hx2) _ he (by simp only[List.length_cons];omega) hI7 (((tQ AJ.out.bel hb3).trans (hb5.mono (nT AJ.out.bel.size hb3.size))).trans hb7)⟩
    ·rw[hc] at hC
     have HC:=hiD hC
     have h8i:¬ (128:Int)≤(x.toNat:Int):=by omega
     have hF:=fun (e:LU) (W:World)=>FIN.out e W
     rw[hx] at hF
     clear hC hc hcat HH hxl
     go_wp2_with (first
      |(go_at_call 165;(with_reducible refine HRu.out.mono ?_);rintro e w3 ⟨r3,rfl,hb3⟩;have HE3:=hiD (hE.keep hb3);have HI3:=hiD (AJ.out.isb.below hb3))
      |(go_at_call 113;(with_reducible refine(HC.out _ HE3.out).mono ?_);rintro e w4 ⟨rfl,rfl⟩)
      |(go_at_call 108;(refine(qz_ w.heap.size w.heap.size acc [x] _ (by exact HI3.out) (by simp only[List.length_cons,List.length_nil];omega)).mono ?_);rintro e w7 ⟨rfl,hI7,hb7,_⟩))
     go_roundg q
     case measure=>omega
     case rel=>exact⟨k+1,_,by omega,by go_num,by have:=AG.out;show _≤_;omega,hF [x] _ he (by simp) hI7 ((tQ AJ.out.bel hb3).trans hb7)⟩
   ·have HRu:=hiD (hRu n rfl wr hE)
    have hcl:((v.drop k).take n).length=n:=by rw[List.length_take];omega
    have hF:=fun (e:LU) (W:World)=>FIN.out e W
    have hC:=fun W (hW:Env W)=>z3z_ ((v.drop k).take n) W hW
    rw[hc] at hC
    have HC:=hiD hC
    have hn1i:((n:Int)==1)=false:=by rw[beq_eq_false_iff_ne];omega
    clear hRu hC hc
    generalize (v.drop k).take n=c at *
    go_wp2_with (first
     |(go_at_call 165;(with_reducible refine HRu.out.mono ?_);rintro e w3 ⟨r3,rfl,hb3⟩;have HE3:=hiD (hE.keep hb3);have HI3:=hiD (AJ.out.isb.below hb3))
     |(go_at_call 113;(with_reducible refine(HC.out _ HE3.out).mono ?_);rintro e w4 ⟨rfl,rfl⟩)
     |(go_at_call 108;(refine(qz_ w.heap.size w.heap.size acc c _ (by exact HI3.out) (by omega)).mono ?_);rintro e w7 ⟨rfl,hI7,hb7,_⟩))
    go_roundg q
    case measure=>omega
    case rel=>exact⟨k+n,_,by omega,by go_num,by have:=AG.out;show _≤_;omega,hF c _ he (by omega) hI7 ((tQ AJ.out.bel hb3).trans hb7)⟩
  ·obtain rfl:k=v.length:=by omega
   have hf:=AJ.out.rest
   rw[List.drop_length,Fil.wrL_nil,List.append_nil,HR.out] at hf
   subst hf
   go_wp2_with (go_at_call 56;(refine(zad_ w.heap.size w.heap.size acc wr AJ.out.isb).mono ?_);rintro e w2 ⟨rfl,hB2,hb2⟩)
   go_ret
   exact⟨rfl,AJ.out.bel.trans hb2⟩
open Go.RowKit
def z13_ (w0 w:World) (acc:LU) (X:LU × List Fil.FilE) (e:Ending) (w':World):Prop:=Below w0.heap.size w w'∧IsB w0.heap.size w0.heap.size (acc++X.1) w'∧∃ v,e= .returned v∧FilsA w0 v X.2
theorem zcn_:∀ (l:List Nat) (x:Nat),x∈l→x≤l.sum
 |[],x,h=>by cases h
 |y::l,x,h=>by
  rw[List.sum_cons]
  rcases List.mem_cons.1 h with rfl|h
  ·omega
  ·have:=zcn_ l x h;omega
theorem IsB.lt {B b:Nat} {l:LU} {w:World} (h:IsB B b l w):b<w.heap.size:=by
 rcases h.1 with ⟨_,v,hk,_⟩|⟨_,v,hk,_⟩<;>exact(Array.getElem?_eq_some_iff.1 hk).1
theorem IsB.cast {B b:Nat} {l m:LU} {w:World} (h:IsB B b l w) (e:l=m):IsB B b m w:=e ▸ h
theorem q8_ (B b:Nat) (l m:LU) (c:UInt8) (hm:l++[c]=m) (w:World) (h:IsB B b l w) (hl:l.length≤10000000000):
  Calls Tryz.prog 107 #[.pointer (some ⟨b,0,none⟩),.int .u8 c.toNat] w fun e w'=>e= .returned .nilIface∧IsB B b m w'∧Below B w w'∧Oth b w w':=by
 subst hm
 exact za1_ B b l c w h (by omega)
theorem j0_ (B b:Nat) (l s m:LU) (hm:l++s=m) (w:World) (h:IsB B b l w) (hl:l.length≤10000000000) (hs:s.length≤10000000000):
  Calls Tryz.prog 108 #[.pointer (some ⟨b,0,none⟩),.string ⟨s.toArray⟩] w fun e w'=>e= .returned (.tuple #[.int .i64 s.length,.nilIface])∧IsB B b m w'∧Below B w w'∧Oth b w w':=by
 subst hm
 exact qz_ B b l s w h (by omega)
theorem zdp_ (w0:World) (hw:Env w0) (p:Fil.FilE) (t:List Fil.FilE) (v:Value) (w:World) (acc:LU) (hv:FilsA w0 v (p::t)) (hb:Bel w0 w) (hI:IsB w0.heap.size w0.heap.size acc w) (hl:Fil.wgt (p::t)≤1048576) (ha:acc.length+4 * Fil.wgt (p::t)≤1000000000) (ho:p.op=7):
  Calls Tryz.prog 55 #[.pointer (some ⟨w0.heap.size,0,none⟩),v] w (z13_ w0 w acc (40::(Fil.itemT p++[41]),t)):=by
 obtain⟨bb,oo,c,vy,vt,rfl,hc,⟨c0,c1,c2,c3,c4,c5,c6⟩,hta,hsl,ht⟩:=hv.tail
 rw[Fil.wgt_cons] at hl ha
 have hW:=fun (x:LU) (W:World) (hW:Bel w0 W) (h:x.length≤1048576)=>kx_ x W (hw.keep hW) (by omega)
 have HWr:=hiD hW
 have hBp:=hI.lt
 obtain⟨Ay,cy,rfl,hyc,hy⟩:=hta.at
 obtain⟨At,ct,rfl,hct⟩:=ht.isSlice
 have HT:=hiD ht
 obtain⟨o,n,ty,va,i,f,y⟩:=p
 unfold z0i_ at hl ha
 simp only at c0 c1 c2 c3 c4 c5 c6 hl ha hyc hy ho
 have d0:=cQ hb c0
 have d1:=cQ hb c1
 have d2:=cQ hb c2
 have d3:=cQ hb c3
 have d4:=cQ hb c4
 have d5:=cQ hb c5
 have d6:=cQ hb c6
 have hk1:=Bk.new w 45 #[.int .i64 o,.int .i64 n,.string ⟨ty.toArray⟩,.string ⟨va.toArray⟩,.string ⟨i.toArray⟩,.string ⟨f.toArray⟩,.slice Ay y.length cy]
 have hb1:=zd_ w (.cells #[.int .i64 o,.int .i64 n,.string ⟨ty.toArray⟩,.string ⟨va.toArray⟩,.string ⟨i.toArray⟩,.string ⟨f.toArray⟩,.slice Ay y.length cy] 45)
 have hI1:=hI.below hb1
 have hbb:=tQ hb hb1
 have hpn:w.heap.size≠w0.heap.size:=by omega
 have hi1:(0:Int)<(t.length:Int)+1:=by omega
 obtain⟨a1,ha1⟩:∃ a1,acc++[40]=a1:=⟨_,rfl⟩
 have ha1l:a1.length=acc.length+1:=by rw[← ha1,List.length_append];rfl
 have HB1:=hiD hbb
 have HK1:=hiD hk1
 have HI1:=hiD hI1
 have hb10:Below w0.heap.size w (w.alloc (.cells #[.int .i64 o,.int .i64 n,.string ⟨ty.toArray⟩,.string ⟨va.toArray⟩,.string ⟨i.toArray⟩,.string ⟨f.toArray⟩,.slice Ay y.length cy] 45)):=hb1.mono hb.size
 have HB10:=hiD hb10
 have H40:Hid (∀ W,IsB w0.heap.size w0.heap.size acc W→Calls Tryz.prog 107 #[.pointer (some ⟨w0.heap.size,0,none⟩),.int .u8 40] W fun e w'=>e= .returned .nilIface∧IsB w0.heap.size w0.heap.size a1 w'∧Below w0.heap.size W w'∧Oth w0.heap.size W w'):=hiD fun W hW=>q8_ _ _ acc a1 40 ha1 W hW (by omega)
 clear c0 c1 c2 c3 c4 c5 c6 hv ht hb hI hW hk1 hb1 hI1 hbb hb10
 subst ho
 obtain⟨s1,hs1⟩:∃ s1,ty++[61,42]=s1:=⟨_,rfl⟩
 have hcat:∀ W:World,(Op.stringOp .add ⟨ty.toArray⟩ ⟨#[61,42]⟩).run Tryz.prog W= .ok (.string ⟨s1.toArray⟩) W:=fun W=>by rw[← hs1];exact run_string_add_lists W ty [61,42] (by omega) (by simp)
 have hs1l:s1.length=ty.length+2:=by rw[← hs1,List.length_append];rfl
 obtain⟨a2,ha2⟩:∃ a2,a1++s1=a2:=⟨_,rfl⟩
 have ha2l:a2.length=a1.length+s1.length:=by rw[← ha2,List.length_append]
 obtain⟨a3,ha3⟩:∃ a3,a2++[41]=a3:=⟨_,rfl⟩
 have hfin:acc++(40::(Fil.itemT ⟨7,n,ty,va,i,f,y⟩++[41]))=a3:=by
  rw[← ha3,← ha2,← ha1,← hs1]
  simp [Fil.itemT]
 have HF:=hiD hfin
 have H41:Hid (∀ W,IsB w0.heap.size w0.heap.size a2 W→Calls Tryz.prog 107 #[.pointer (some ⟨w0.heap.size,0,none⟩),.int .u8 41] W fun e w'=>e= .returned .nilIface∧IsB w0.heap.size w0.heap.size a3 w'∧Below w0.heap.size W w'∧Oth w0.heap.size W w'):=hiD fun W hW=>q8_ _ _ a2 a3 41 ha3 W hW (by omega)
 have HS:=hiD (fun W hW=>j0_ w0.heap.size w0.heap.size a1 s1 a2 ha2 W hW (by omega) (by omega))
 clear hfin ha1 ha2 ha3 hs1
 go_enter Tryz.func55,Tryz.ntmps55
 go_wp2_with (first
  |(go_at_call 107;(with_reducible refine(H41.out _ HI7.out).mono ?_);rintro e w8 ⟨rfl,hI8,hb8,_⟩)
  |(go_at_call 107;(with_reducible refine(H40.out _ HI1.out).mono ?_);rintro e w3 ⟨rfl,hI3,hb3,ho3⟩;have hk3:=HK1.out.oth ho3 hpn (by decide);have e0:=hk3.cell 0;have e1:=hk3.cell 1;have e2:=hk3.cell 2;have e3:=hk3.cell 3;have e4:=hk3.cell 4;have e5:=hk3.cell 5;have e6:=hk3.cell 6;simp only[gs3] at e0 e1 e2 e3 e4 e5 e6;have HI3:=hiD hI3;have HK3:=hiD hk3;have HB3:=hiD (HB1.out.trans hb3);have HBw3:=hiD (HB10.out.trans hb3);clear hI3 hk3 ho3 hb3)
  |(go_at_call 108;(refine(HS.out _ (by exact HI3.out)).mono ?_);rintro e w7 ⟨rfl,hI7,hb7,_⟩;have HI7:=hiD hI7))
 go_ret
 exact⟨(HBw3.out.trans hb7).trans hb8,hI8.cast HF.out.symm,_,rfl,HT.out⟩
theorem zgz_ (w0:World) (hw:Env w0) (p:Fil.FilE) (t:List Fil.FilE) (v:Value) (w:World) (acc:LU) (hv:FilsA w0 v (p::t)) (hb:Bel w0 w) (hI:IsB w0.heap.size w0.heap.size acc w) (hl:Fil.wgt (p::t)≤1048576) (ha:acc.length+4 * Fil.wgt (p::t)≤1000000000) (ho:p.op=3∨p.op=5∨p.op=6∨p.op=8):
  Calls Tryz.prog 55 #[.pointer (some ⟨w0.heap.size,0,none⟩),v] w (z13_ w0 w acc (40::(Fil.itemT p++[41]),t)):=by
 obtain⟨bb,oo,c,vy,vt,rfl,hc,⟨c0,c1,c2,c3,c4,c5,c6⟩,hta,hsl,ht⟩:=hv.tail
 rw[Fil.wgt_cons] at hl ha
 have hW:=fun (x:LU) (W:World) (hW:Bel w0 W) (h:x.length≤1048576)=>kx_ x W (hw.keep hW) (by omega)
 have HWr:=hiD hW
 have hBp:=hI.lt
 obtain⟨Ay,cy,rfl,hyc,hy⟩:=hta.at
 obtain⟨At,ct,rfl,hct⟩:=ht.isSlice
 have HT:=hiD ht
 obtain⟨o,n,ty,va,i,f,y⟩:=p
 unfold z0i_ at hl ha
 simp only at c0 c1 c2 c3 c4 c5 c6 hl ha hyc hy ho
 have d0:=cQ hb c0
 have d1:=cQ hb c1
 have d2:=cQ hb c2
 have d3:=cQ hb c3
 have d4:=cQ hb c4
 have d5:=cQ hb c5
 have d6:=cQ hb c6
 have hk1:=Bk.new w 45 #[.int .i64 o,.int .i64 n,.string ⟨ty.toArray⟩,.string ⟨va.toArray⟩,.string ⟨i.toArray⟩,.string ⟨f.toArray⟩,.slice Ay y.length cy]
 have hb1:=zd_ w (.cells #[.int .i64 o,.int .i64 n,.string ⟨ty.toArray⟩,.string ⟨va.toArray⟩,.string ⟨i.toArray⟩,.string ⟨f.toArray⟩,.slice Ay y.length cy] 45)
 have hI1:=hI.below hb1
 have hbb:=tQ hb hb1
 have hpn:w.heap.size≠w0.heap.size:=by omega
 have hi1:(0:Int)<(t.length:Int)+1:=by omega
 obtain⟨a1,ha1⟩:∃ a1,acc++[40]=a1:=⟨_,rfl⟩
 have ha1l:a1.length=acc.length+1:=by rw[← ha1,List.length_append];rfl
 have HB1:=hiD hbb
 have HK1:=hiD hk1
 have HI1:=hiD hI1
 have hb10:Below w0.heap.size w (w.alloc (.cells #[.int .i64 o,.int .i64 n,.string ⟨ty.toArray⟩,.string ⟨va.toArray⟩,.string ⟨i.toArray⟩,.string ⟨f.toArray⟩,.slice Ay y.length cy] 45)):=hb1.mono hb.size
 have HB10:=hiD hb10
 have H40:Hid (∀ W,IsB w0.heap.size w0.heap.size acc W→Calls Tryz.prog 107 #[.pointer (some ⟨w0.heap.size,0,none⟩),.int .u8 40] W fun e w'=>e= .returned .nilIface∧IsB w0.heap.size w0.heap.size a1 w'∧Below w0.heap.size W w'∧Oth w0.heap.size W w'):=hiD fun W hW=>q8_ _ _ acc a1 40 ha1 W hW (by omega)
 clear c0 c1 c2 c3 c4 c5 c6 hv ht hb hI hW hk1 hb1 hI1 hbb hb10
 have hvw:=Fil.wrL_len8 va
 have HV:Hid (∀ W,Bel w0 W→Calls Tryz.prog 109 #[.string ⟨va.toArray⟩] W fun e w'=>e= .returned (.string ⟨(Fil.wrL va).toArray⟩)∧Bel W w'):=hiD fun W hW=>HWr.out va W hW (by omega)
 have hsg:(Fil.signF o).length≤2:=by rcases ho with rfl|rfl|rfl|rfl<;>decide
 have HSG:=hiD (fun W=>zj7_ o W)
 have hit:Fil.itemT ⟨o,n,ty,va,i,f,y⟩=ty++Fil.signF o++Fil.wrL va:=by unfold Fil.itemT;rw[if_neg (by rcases ho with rfl|rfl|rfl|rfl<;>(simp only;decide)),if_neg (by rcases ho with rfl|rfl|rfl|rfl<;>(simp only;decide))]
 rw[hit]
 generalize Fil.wrL va=wv at *
 generalize Fil.signF o=sg at *
 obtain⟨s1,hs1⟩:∃ s1,ty++sg=s1:=⟨_,rfl⟩
 have hcat:∀ W:World,(Op.stringOp .add ⟨ty.toArray⟩ ⟨sg.toArray⟩).run Tryz.prog W= .ok (.string ⟨s1.toArray⟩) W:=fun W=>by rw[← hs1];exact run_string_add_lists W ty sg (by omega) (by omega)
 have hs1l:s1.length=ty.length+sg.length:=by rw[← hs1,List.length_append]
 obtain⟨s2,hs2⟩:∃ s2,s1++wv=s2:=⟨_,rfl⟩
 have hcat2:∀ W:World,(Op.stringOp .add ⟨s1.toArray⟩ ⟨wv.toArray⟩).run Tryz.prog W= .ok (.string ⟨s2.toArray⟩) W:=fun W=>by rw[← hs2];exact run_string_add_lists W s1 wv (by omega) (by omega)
 have hs2l:s2.length=s1.length+wv.length:=by rw[← hs2,List.length_append]
 obtain⟨a2,ha2⟩:∃ a2,a1++s2=a2:=⟨_,rfl⟩
 have ha2l:a2.length=a1.length+s2.length:=by rw[← ha2,List.length_append]
 obtain⟨a3,ha3⟩:∃ a3,a2++[41]=a3:=⟨_,rfl⟩
 have hfin:acc++(40::(ty++sg++wv++[41]))=a3:=by
  rw[← ha3,← ha2,← ha1,← hs2,← hs1]
  simp
 have HF:=hiD hfin
 have H41:Hid (∀ W,IsB w0.heap.size w0.heap.size a2 W→Calls Tryz.prog 107 #[.pointer (some ⟨w0.heap.size,0,none⟩),.int .u8 41] W fun e w'=>e= .returned .nilIface∧IsB w0.heap.size w0.heap.size a3 w'∧Below w0.heap.size W w'∧Oth w0.heap.size W w'):=hiD fun W hW=>q8_ _ _ a2 a3 41 ha3 W hW (by omega)
 have HS:=hiD (fun W hW=>j0_ w0.heap.size w0.heap.size a1 s2 a2 ha2 W hW (by omega) (by omega))
 clear hfin ha1 ha2 ha3 hs1 hs2 hit
 have n0:(o==0)=false:=beq_eq_false_iff_ne.2 (by omega)
 have n1:(o==1)=false:=beq_eq_false_iff_ne.2 (by omega)
 have n2:(o==2)=false:=beq_eq_false_iff_ne.2 (by omega)
 have n4:(o==4)=false:=beq_eq_false_iff_ne.2 (by omega)
 have n7:(o==7)=false:=beq_eq_false_iff_ne.2 (by omega)
 clear ho
 go_enter Tryz.func55,Tryz.ntmps55
 go_wp2_with (go_at_call 107;(with_reducible refine(H40.out _ HI1.out).mono ?_);rintro e w3 ⟨rfl,hI3,hb3,ho3⟩;have hk3:=HK1.out.oth ho3 hpn (by decide);have e0:=hk3.cell 0;have e1:=hk3.cell 1;have e2:=hk3.cell 2;have e3:=hk3.cell 3;have e4:=hk3.cell 4;have e5:=hk3.cell 5;have e6:=hk3.cell 6;simp only[gs3] at e0 e1 e2 e3 e4 e5 e6;have HI3:=hiD hI3;have HK3:=hiD hk3;have HB3:=hiD (HB1.out.trans hb3);have HBw3:=hiD (HB10.out.trans hb3);clear hI3 hk3 ho3 hb3)
 go_region_held3 (fun w'=>w'.cell? ⟨w.heap.size,0,none⟩=some (.int .i64 o)∧w'.cell? ⟨w.heap.size,2,none⟩=some (.string ⟨ty.toArray⟩)∧w'.cell? ⟨w.heap.size,3,none⟩=some (.string ⟨va.toArray⟩)) (first|exact⟨e0,e2,e3⟩|exact⟨g0,g2,g3⟩|exact⟨h0,h2,h3⟩) (first
  |(go_at_call 104;(refine(HSG.out _).mono ?_);rintro e w5 ⟨rfl,rfl⟩)
  |(go_at_call 109;(refine(HV.out _ (by exact HB3.out.drew)).mono ?_);rintro e w6 ⟨rfl,hb6⟩;have HI6:=hiD (HI3.out.drew.below hb6);have HB6:=hiD (HBw3.out.drew.trans (hb6.mono HB3.out.size));have g0:=cQ hb6 e0;have g2:=cQ hb6 e2;have g3:=cQ hb6 e3)
  |(go_at_call 108;(refine(HS.out _ (by exact HI6.out)).mono ?_);rintro e w7 ⟨rfl,hI7,hb7,ho7⟩;have HI7:=hiD hI7;have hk7:=((HK3.out.below (bR _ _).drew).below hb6).oth ho7 hpn (by decide);have h0:=hk7.cell 0;have h2:=hk7.cell 2;have h3:=hk7.cell 3;simp only[gs3] at h0 h2 h3)
  |fail)
 all_goals
  go_wp2_with (go_at_call 107;(with_reducible refine(H41.out _ HI7.out).mono ?_);rintro e w8 ⟨rfl,hI8,hb8,_⟩)
  go_ret
  exact⟨(HB6.out.trans hb7).trans hb8,hI8.cast HF.out.symm,_,rfl,HT.out⟩
end Go.Proofs.YtbekpphodbekiaaGreatDoor
