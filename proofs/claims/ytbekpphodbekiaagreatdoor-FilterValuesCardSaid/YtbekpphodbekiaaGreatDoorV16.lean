import Derived.Test.YtbekpphodbekiaaGreatDoorV15
set_option linter.all false
set_option maxHeartbeats 8000000
set_option maxRecDepth 100000
namespace Go.Proofs.YtbekpphodbekiaaGreatDoor
open Go.RowKit Go.Sort
def z5g_ (fold:Bool) (i:LU) (xs:LL) (f:LU):Int × LL:=
 bif xs.any (fun x=>x==[]) then (1,[]) else resP (y3_ fold ([i]++xs++[f]) [])
theorem za7_ (fold:Bool) (i f:LU) (xs:LL) (v:Value) (w:World) (hw:Env w) (hx:TxA w v xs) (hN:xs.length≤8796093021952)
  (hlen:∀ x∈[i]++xs++[f],x.length≤140737488355328):
  Calls Tryz.prog 93 #[.string ⟨i.toArray⟩,v,.string ⟨f.toArray⟩,.bool fold] w (z0z_ w (z5g_ fold i xs f)):=by
 unfold z5g_
 cases h:xs.any (fun x=>x==[])
 ·exact zfo_ fold i f xs v w hw hx hN h hlen
 ·exact z7y_ fold i f xs v w hx (nT hN (by decide)) h
theorem znd_ (l:LU) (c:UInt8):(Lib.trimB l c).length≤l.length:=by
 unfold Lib.trimB Lib.trimLeftB Lib.trimRightB
 have h1:=(List.dropWhile_sublist (l:=(l.reverse.dropWhile (·==c)).reverse) (·==c)).length_le
 have h2:=(List.dropWhile_sublist (l:=l.reverse) (·==c)).length_le
 simp only[List.length_reverse] at *
 omega
theorem zh6_ (i f:LU) (xs:LL) (hlen:∀ x∈[i]++xs++[f],x.length≤140737488355328):∀ fold,(z5g_ fold i xs f).1=0→(z5g_ fold i xs f).2.length=xs.length+2∧∀ y∈(z5g_ fold i xs f).2,y.length≤140737488355328:=by
 intro fold h
 unfold z5g_ at h ⊢
 cases ha:xs.any (fun x=>x==[])
 ·rw[ha] at h
  simp only[cond_false] at h ⊢
  cases hm:y3_ fold ([i]++xs++[f]) [] with
  |none=>rw[hm] at h;cases h
  |some L=>
   obtain⟨h1,h2⟩:=z28_ _ _ _ hm hlen (fun y hy=>by cases hy)
   have h3:L.length=xs.length+2:=by rw[h1];simp
   simp only[resP]
   rw[z35_ (by omega)]
   refine⟨by rw[List.length_set,List.length_set];exact h3,fun y hy=>?_⟩
   rcases List.mem_or_eq_of_mem_set hy with hy|rfl
   ·rcases List.mem_or_eq_of_mem_set hy with hy|rfl
    ·exact h2 y hy
    ·exact nT (zlf_ _ _) (h2 _ (List.getElem_mem _))
   ·exact nT (zn2_ _ _) (h2 _ (List.getElem_mem _))
 ·rw[ha] at h;cases h
theorem zk5_ (x:z5b_) (fold:Bool) (hx:x.2.2.2= .text fold) (v:LU):∀ m,yo_ x v=some m→m.length≤1000000:=by
 intro m hm
 unfold yo_ at hm
 rw[hx] at hm
 cases hl:decide (v.length≤1024)
 ·rw[hl] at hm;cases hm
 ·have hv:=of_decide_eq_true hl
  split at hm
  ·have h2:xx_ v fold=some m:=hm
   unfold xx_ at h2
   cases ht:qo_ v fold with
   |none=>rw[ht] at h2;cases h2
   |some t=>
    rw[ht] at h2
    have h3:=z3p_ ht
    have h4:(Lib.trimB t 32).length≤t.length:=znd_ t 32
    dsimp only at h2
    split at h2
    ·cases h2;simp
    ·cases h2;omega
  ·cases hm
theorem zn3_ (s:LU) (xs:LL) (v:Value) (w:World) (hw:Env w) (hs:s.length≤1000000) (hn:2≤xs.length) (hN:xs.length≤8796093022208)
  (hv:Texts w v xs) (hxl:∀ x∈xs,x.length≤140737488355328):
  Calls Tryz.prog 157 #[.string ⟨s.toArray⟩,v] w fun e w'=>e= .returned (.bool (z3w_ s xs (zj7_ xs) (zg0_ xs)))∧w=w':=by
 rcases hv with ⟨rfl,_⟩|⟨b,c,rfl,hc,hb,hcell⟩
 ·simp at hn
 ·rw[znk_ (by omega),zlo_ (by omega)]
  exact zlp_ s xs b c w hw hs hn hc hN hcell hxl
def jg_:LU:=[99,97,115,101,73,103,110,111,114,101,83,117,98,115,116,114,105,110,103,115,77,97,116,99,104]
def z8l_ (x:z5b_) (v i:LU) (xs:LL) (f:LU):Bool × Int:=match yo_ x v with
 |none=>(false,40)
 |some m=>((z5g_ (x.1==jg_) i xs f).1==0 && z3w_ m (z5g_ (x.1==jg_) i xs f).2 (zj7_ (z5g_ (x.1==jg_) i xs f).2) (zg0_ (z5g_ (x.1==jg_) i xs f).2),(z5g_ (x.1==jg_) i xs f).1)
theorem zgw_ (n v i f:LU) (any:Value) (w:World) (hn:n.length≤140737488351232) (h:z7j_ (z2_ n) 2=none):
  Calls Tryz.prog 95 #[.string ⟨n.toArray⟩,.string ⟨v.toArray⟩,.string ⟨i.toArray⟩,any,.string ⟨f.toArray⟩] w fun e w'=>e= .returned (z7v_ (false,41))∧Bel w w':=by
 have hc:=z76_ n 2 w hn
 rw[h] at hc
 clear h
 go_enter Tryz.func95,Tryz.ntmps95
 go_wp2_with (go_at_call 141;refine hc.mono ?_;rintro e w1 ⟨hb,rfl⟩)
 go_ret2
 exact⟨rfl,hb⟩
theorem zee_ (x:z5b_) (n v i f:LU) (xs:LL) (any:Value) (w:World) (hw:Env w) (hn:n.length≤140737488351232) (h:z7j_ (z2_ n) 2=some x)
  (hx:TxA w any xs) (hN:xs.length≤8796093021952) (hlen:∀ x∈[i]++xs++[f],x.length≤140737488355328)
  (hml:∀ m,yo_ x v=some m→m.length≤1000000)
  (hpl:∀ fold,(z5g_ fold i xs f).1=0→(z5g_ fold i xs f).2.length=xs.length+2∧∀ y∈(z5g_ fold i xs f).2,y.length≤140737488355328):
  Calls Tryz.prog 95 #[.string ⟨n.toArray⟩,.string ⟨v.toArray⟩,.string ⟨i.toArray⟩,any,.string ⟨f.toArray⟩] w fun e w'=>e= .returned (z7v_ (z8l_ x v i xs f))∧Bel w w':=by
 have hc:=z76_ n 2 w hn
 have hfl:=z1p_ h
 rw[h] at hc
 clear h
 have HN:=hiD (fun b W (hW:Env W) hR=>z2t_ x b v W hW hR hfl)
 have hA:∃ A len c,any= .slice A len c:=by
  rcases hx with ⟨rfl,rfl⟩|⟨a,c,rfl,_,_⟩
  ·exact⟨_,_,_,rfl⟩
  ·exact⟨_,_,_,rfl⟩
 obtain⟨A,len,c,rfl⟩:=hA
 obtain⟨R,hR⟩:∃ R,z8l_ x v i xs f=R:=⟨_,rfl⟩
 rw[hR]
 unfold z8l_ at hR
 have HML:=hiD hml
 clear hml
 generalize yo_ x v=o at *
 cases o with
 |none=>
  have hR2:R=(false,40):=hR.symm
  have HR2:=hiD hR2
  clear hR hR2 hpl
  go_enter Tryz.func95,Tryz.ntmps95
  go_wp2_with (first|(go_at_call 141;refine hc.mono ?_;rintro e w1 ⟨hb,b,rfl,hbb,hrow⟩)|(go_at_call 142;refine(HN.out _ _ (hw.keep hb) hrow).mono ?_;rintro e w2 ⟨rfl,hb2⟩;simp only[qs_]))
  go_ret2
  exact⟨by rw[HR2.out];rfl,tQ hb hb2⟩
 |some m=>
  have hm:=HML.out m rfl
  have hpf:=hpl (x.1==jg_)
  have HPi:=hiD (fun W (hb:Bel w W)=>za7_ (x.1==jg_) i f xs (.slice A len c) W (hw.keep hb) (hx.below hb) (by omega) hlen)
  have hsw:(x.1==[99,97,115,101,73,103,110,111,114,101,83,117,98,115,116,114,105,110,103,115,77,97,116,99,104])=(x.1==jg_):=rfl
  clear hpl HML hlen
  generalize z5g_ (x.1==jg_) i xs f=pc at *
  generalize (x.1==jg_)=fold at *
  obtain⟨ep,ps⟩:=pc
  have HR:=hiD hR
  have HPF:=hiD hpf
  have HX:=hiD hx
  clear hR hpf hx
  simp only at HPF HR
  by_cases hp:ep=0
  ·subst hp
   have hpf:=HPF.out rfl
   have HHo:=hiD (fun v W (hW:Env W) (hv:Texts W v ps)=>zn3_ m ps v W hW (by omega) (by omega) (by omega) hv hpf.2)
   have hRR:R=(z3w_ m ps (zj7_ ps) (zg0_ ps),0):=by rw[← HR.out];rfl
   have HRR:=hiD hRR
   clear hRR HR hpf HPF
   go_enter Tryz.func95,Tryz.ntmps95
   go_wp2_with (first
    |(go_at_call 141;refine hc.mono ?_;rintro e w1 ⟨hb,b,rfl,hbb,hrow⟩)
    |(go_at_call 142;refine(HN.out _ _ (hw.keep hb) hrow).mono ?_;rintro e w2 ⟨rfl,hb2⟩;simp only[qs_];obtain⟨fA,fN,fC,nF,n1,n2,hblk,_,_⟩:=hrow.below hb2;have fc:w2.cell? ⟨b,0,none⟩=some (.string ⟨x.1.toArray⟩):=by simp [World.cell?,hblk])
    |(go_at_call 93;refine(HPi.out _ (tQ hb hb2)).mono ?_;rintro e w4 ⟨h4,v4,rfl,hv4⟩;have HV4:=hiD hv4;obtain⟨A4,n4,c4,rfl⟩:=hv4.isSlice;clear hv4)
    |(go_at_call 157;refine(HHo.out _ _ ((hw.keep (tQ hb hb2)).keep h4) HV4.out).mono ?_;rintro e w5 ⟨rfl,rfl⟩))
   go_ret2
   have h14:=(tQ hb hb2).trans (h4.mono (tQ hb hb2).size)
   exact⟨by rw[HRR.out];rfl,h14⟩
  ·have hp2:(ep==0)=false:=beq_eq_false_iff_ne.2 hp
   have hRR:R=(false,ep):=by rw[← HR.out];simp only[hp2,Bool.false_and]
   have HRR:=hiD hRR
   clear hRR HR HPF
   go_enter Tryz.func95,Tryz.ntmps95
   go_wp2_with (first
    |(go_at_call 141;refine hc.mono ?_;rintro e w1 ⟨hb,b,rfl,hbb,hrow⟩)
    |(go_at_call 142;refine(HN.out _ _ (hw.keep hb) hrow).mono ?_;rintro e w2 ⟨rfl,hb2⟩;simp only[qs_];obtain⟨fA,fN,fC,nF,n1,n2,hblk,_,_⟩:=hrow.below hb2;have fc:w2.cell? ⟨b,0,none⟩=some (.string ⟨x.1.toArray⟩):=by simp [World.cell?,hblk])
    |(go_at_call 93;refine(HPi.out _ (tQ hb hb2)).mono ?_;rintro e w4 ⟨h4,v4,rfl,hv4⟩;obtain⟨A4,n4,c4,rfl⟩:=hv4.isSlice;clear hv4))
   go_ret2
   have h14:=(tQ hb hb2).trans (h4.mono (tQ hb hb2).size)
   exact⟨by rw[HRR.out];rfl,h14⟩
end Go.Proofs.YtbekpphodbekiaaGreatDoor
namespace Go.Proofs.YtbekpphodbekiaaGreatDoor.Fil
open Go.RowKit
theorem wrF_fuel:∀ (f g:Nat) (v:LU),v.length≤f→v.length≤g→wrF f v=wrF g v
 |f,g,[],_,_=>by cases f<;>cases g<;>simp [wrF]
 |0,g,x::t,hf,_=>by simp at hf
 |f+1,0,x::t,_,hg=>by simp at hg
 |f+1,g+1,x::t,hf,hg=>by
  have h1:=dec_pos (x::t) (by simp)
  rw[wrF,wrF]
  simp only[List.length_cons] at hf hg
  congr 1
  exact wrF_fuel f g _ (by rw[List.length_drop];simp only[List.length_cons];omega) (by rw[List.length_drop];simp only[List.length_cons];omega)
theorem wrL_step (v:LU) (h:v≠[]):wrL v=escF (v.take (Lib.decodeL v).2)++wrL (v.drop (Lib.decodeL v).2):=by
 obtain⟨x,t,rfl⟩:=List.exists_cons_of_ne_nil h
 have h1:=dec_pos (x::t) h
 unfold wrL
 rw[List.length_cons,wrF]
 congr 1
 exact wrF_fuel _ _ _ (by rw[List.length_drop];simp only[List.length_cons];omega) (nR _)
theorem wrL_nil:wrL []=[]:=rfl
def escS:LU:=[40,41,42,92,0]
theorem esc_one (x:UInt8):Lib.contains escS [x]=(x==40||x==41||x==42||x==92||x==0):=by
 have h:∀ n:Fin 256,Lib.contains escS [UInt8.ofNat n.val]=(UInt8.ofNat n.val==40||UInt8.ofNat n.val==41||UInt8.ofNat n.val==42||UInt8.ofNat n.val==92||UInt8.ofNat n.val==0):=by decide+kernel
 have:=h ⟨x.toNat,x.toNat_lt⟩
 simpa using this
theorem occ_mem {s c:LU} {i:Nat} {x:UInt8} (h:Lib.occAt s c i=true) (hx:x∈c):x∈s:=by
 unfold Lib.occAt at h
 have:=(List.isPrefixOf_iff_prefix.1 h).subset hx
 exact List.mem_of_mem_drop this
theorem esc_high (c:LU) (hne:c≠[]) (h:∀ x∈c,128≤x.toNat):Lib.contains escS c=false:=by
 unfold Lib.contains
 rw[decide_eq_false_iff_not]
 rcases Lib.index_spec escS c with ⟨h1,_⟩|⟨i,h1,h2,h3,_⟩
 ·rw[h1];decide
 ·obtain⟨x,t,rfl⟩:=List.exists_cons_of_ne_nil hne
  have hm:=occ_mem h3 (List.mem_cons_self ..)
  have:=h x (List.mem_cons_self ..)
  unfold escS at hm
  simp only[List.mem_cons,List.not_mem_nil,or_false] at hm
  rcases hm with rfl|rfl|rfl|rfl|rfl<;>exact absurd this (by decide)
theorem esc_ways (v:LU) (h:v≠[]) (n:Nat) (hn:(Lib.decodeL v).2=n):1≤n∧n≤v.length∧
  ((n=1∧∃ x,v.take n=[x]∧((Lib.contains escS [x]=true∧escF (v.take n)=92::z03_ [x])∨(Lib.contains escS [x]=false∧128≤x.toNat∧escF (v.take n)=92::z03_ [x])∨(Lib.contains escS [x]=false∧x.toNat<128∧escF (v.take n)=[x])))∨
   (n≠1∧Lib.contains escS (v.take n)=false∧escF (v.take n)=v.take n)):=by
 have h1:=dec_pos v h
 have h2:=Lib.decodeL_le v h
 have h3:=dec_high v h
 rw[hn] at h1 h2 h3
 refine⟨h1,h2,?_⟩
 by_cases e:n=1
 ·left
  refine⟨e,?_⟩
  subst e
  obtain⟨x,t,rfl⟩:=List.exists_cons_of_ne_nil h
  refine⟨x,rfl,?_⟩
  have hc:=esc_one x
  have hE:escF (List.take 1 (x::t))=if (x==40||x==41||x==42||x==92||x==0||decide (128≤x.toNat)) then 92::z03_ [x] else [x]:=by
   unfold escF
   simp
  cases hb:(x==40||x==41||x==42||x==92||x==0)
  ·rw[hb] at hc
   right
   by_cases h8:128≤x.toNat
   ·left
    exact⟨hc,h8,by rw[hE,hb,decide_eq_true h8];rfl⟩
   ·right
    exact⟨hc,by omega,by rw[hE,hb,decide_eq_false h8];rfl⟩
  ·rw[hb] at hc
   left
   exact⟨hc,by rw[hE,hb];rfl⟩
 ·right
  have hl:(v.take n).length=n:=by rw[List.length_take];omega
  refine⟨e,esc_high _ (by intro h0;rw[h0] at hl;simp at hl;omega) (h3 e),?_⟩
  unfold escF
  rw[if_neg (by rintro⟨h4,_⟩;omega)]
theorem dec_go (l:LU) (h:l≠[]):Lib.decodeGo ⟨l.toArray⟩=Lib.decodeL l:=by
 unfold Lib.decodeGo Lib.decodeL
 rw[if_neg (by simpa [ByteArray.size] using h)]
end Go.Proofs.YtbekpphodbekiaaGreatDoor.Fil
namespace Go.Proofs.YtbekpphodbekiaaGreatDoor
open Go.RowKit
def zjv_:Go.Shelf.Ren:=⟨fun|166=>108|240=>164|276=>211|n=>n,fun|0=>0|3=>3|4=>4|5=>5|9=>9|20=>20|37=>124|70=>123|72=>126|75=>176|80=>112|164=>252|n=>n,fun|n=>n⟩
theorem zmy_:Go.Proofs.Lays.n166 Tryz.prog zjv_:={
 mixed:=by kernel_rfl
 f166:=Tryz.func108.trans (congrArg some (by kernel_rfl))
 f240:=Tryz.func164.trans (congrArg some (by kernel_rfl))
 f276:=Tryz.func211.trans (congrArg some (by kernel_rfl))
 t0:=Tryz.underlying0
 a0:=Tryz.isAgg0
 z0:=Tryz.sizeOf0
 v0:=Tryz.zeroValue0
 t3:=Tryz.underlying3
 a3:=Tryz.isAgg3
 z3:=Tryz.sizeOf3
 v3:=Tryz.zeroValue3
 t4:=Tryz.underlying4
 a4:=Tryz.isAgg4
 z4:=Tryz.sizeOf4
 v4:=Tryz.zeroValue4
 t9:=Tryz.underlying9
 a9:=Tryz.isAgg9
 z9:=Tryz.sizeOf9
 v9:=Tryz.zeroValue9
 t20:=Tryz.underlying20
 a20:=Tryz.isAgg20
 z20:=Tryz.sizeOf20
 v20:=Tryz.zeroValue20
 t37:=Tryz.underlying124
 a37:=Tryz.isAgg124
 z37:=Tryz.sizeOf124
 v37:=Tryz.zeroValue124
 t70:=Tryz.underlying123
 a70:=Tryz.isAgg123
 z70:=Tryz.sizeOf123
 v70:=Tryz.zeroValue123
 t72:=Tryz.underlying126
 a72:=Tryz.isAgg126
 z72:=Tryz.sizeOf126
 v72:=Tryz.zeroValue126
 t75:=Tryz.underlying176
 a75:=Tryz.isAgg176
 z75:=Tryz.sizeOf176
 v75:=Tryz.zeroValue176
 t164:=Tryz.underlying252
 a164:=Tryz.isAgg252
 z164:=Tryz.sizeOf252
 v164:=Tryz.zeroValue252}
def zim_:Go.Shelf.Ren:=⟨fun|167=>107|240=>164|276=>211|n=>n,fun|0=>0|4=>4|5=>5|9=>9|20=>20|37=>124|70=>123|72=>126|75=>176|80=>112|164=>252|n=>n,fun|n=>n⟩
theorem zn9_:Go.Proofs.Lays.n167 Tryz.prog zim_:={
 mixed:=by kernel_rfl
 f167:=Tryz.func107.trans (congrArg some (by kernel_rfl))
 f240:=Tryz.func164.trans (congrArg some (by kernel_rfl))
 f276:=Tryz.func211.trans (congrArg some (by kernel_rfl))
 t0:=Tryz.underlying0
 a0:=Tryz.isAgg0
 z0:=Tryz.sizeOf0
 v0:=Tryz.zeroValue0
 t4:=Tryz.underlying4
 a4:=Tryz.isAgg4
 z4:=Tryz.sizeOf4
 v4:=Tryz.zeroValue4
 t5:=Tryz.underlying5
 a5:=Tryz.isAgg5
 z5:=Tryz.sizeOf5
 v5:=Tryz.zeroValue5
 t9:=Tryz.underlying9
 a9:=Tryz.isAgg9
 z9:=Tryz.sizeOf9
 v9:=Tryz.zeroValue9
 t20:=Tryz.underlying20
 a20:=Tryz.isAgg20
 z20:=Tryz.sizeOf20
 v20:=Tryz.zeroValue20
 t37:=Tryz.underlying124
 a37:=Tryz.isAgg124
 z37:=Tryz.sizeOf124
 v37:=Tryz.zeroValue124
 t70:=Tryz.underlying123
 a70:=Tryz.isAgg123
 z70:=Tryz.sizeOf123
 v70:=Tryz.zeroValue123
 t72:=Tryz.underlying126
 a72:=Tryz.isAgg126
 z72:=Tryz.sizeOf126
 v72:=Tryz.zeroValue126
 t75:=Tryz.underlying176
 a75:=Tryz.isAgg176
 z75:=Tryz.sizeOf176
 v75:=Tryz.zeroValue176
 t164:=Tryz.underlying252
 a164:=Tryz.isAgg252
 z164:=Tryz.sizeOf252
 v164:=Tryz.zeroValue252}
theorem zpu_:Builder.Extra Tryz.prog zjv_:={sizeBuilder:=by kernel_rfl,liesBuilder:=by kernel_rfl,t5:=Tryz.underlying5,a5:=Tryz.isAgg5,z5:=Tryz.sizeOf5,v5:=Tryz.zeroValue5,infoByte:=by kernel_rfl,cellsByte:=by kernel_rfl,sizeByte:=by kernel_rfl,neB5:=by decide}
theorem zoy_:Builder.Extra Tryz.prog zim_:={sizeBuilder:=by kernel_rfl,liesBuilder:=by kernel_rfl,t5:=Tryz.underlying5,a5:=Tryz.isAgg5,z5:=Tryz.sizeOf5,v5:=Tryz.zeroValue5,infoByte:=by kernel_rfl,cellsByte:=by kernel_rfl,sizeByte:=by kernel_rfl,neB5:=by decide}
def IsB (B b:Nat) (l:LU) (w:World):Prop:=Lib.IsBuilderF 126 5 B b (Lib.byteCells l) w∧B≤w.heap.size
theorem za2_ (a b:LU):Lib.byteCells a++Lib.byteCells b=Lib.byteCells (a++b):=by
 unfold Lib.byteCells
 rw[List.map_append]
theorem z8r_ (B b:Nat) (l:LU) (w:World) (h:IsB B b l w):
  Calls Tryz.prog 56 #[.pointer (some ⟨b,0,none⟩)] w fun e w'=>e= .returned (.string ⟨l.toArray⟩)∧IsB B b l w'∧Below B w w':=by
 refine Calls.mono (Any.Builder_String_any_k Tryz.lays169 Tryz.Builder_Extra_169 B b l w h.1 h.2) ?_
 rintro e w' ⟨he,hB,hb,_⟩
 exact⟨he,⟨hB,nT h.2 hb.size⟩,hb⟩
theorem IsB.new (w:World):IsB w.heap.size w.heap.size [] (w.alloc (.cells #[.pointer none,.slice none 0 0] 126)):=by
 refine⟨.inl ⟨nR _,.slice none 0 0,heap_alloc_new w _,World.ownsRowF_of (World.ownsRow_nil _ _ _ _),?_⟩,by simp⟩
 all_goals simp [Value.ownBlock]
open Go.RowKit
abbrev Oth (b:Nat) (w w':World):Prop:=Lib.OthersKept 5 (some b) w w'
theorem j4_ (B b:Nat) (l s:LU) (w:World) (h:IsB B b l w) (hl:l.length+s.length≤140737488355328):
  Calls Tryz.prog 108 #[.pointer (some ⟨b,0,none⟩),.string ⟨s.toArray⟩] w fun e w'=>e= .returned (.tuple #[.int .i64 s.length,.nilIface])∧IsB B b (l++s) w'∧Below B w w'∧Oth b w w':=by
 have hc:=Any.Builder_WriteString_k zmy_ zpu_ B b (Lib.byteCells l) ⟨s.toArray⟩ w h.1 (by simpa [Lib.byteCells,ByteArray.size] using hl) h.2
 refine Calls.mono hc ?_
 rintro e w' ⟨he,hB,hb,ho⟩
 refine⟨he,⟨.inr ?_,nT h.2 hb.size⟩,hb,ho⟩
 have hs:Lib.strCells ⟨s.toArray⟩=Lib.byteCells s:=by first|rfl|simp [Lib.strCells,Lib.byteCells]
 rw[hs,za2_] at hB
 exact hB
theorem zay_ (B b:Nat) (l:LU) (c:UInt8) (w:World) (h:IsB B b l w) (hl:l.length+1≤140737488355328):
  Calls Tryz.prog 107 #[.pointer (some ⟨b,0,none⟩),.int .u8 c.toNat] w fun e w'=>e= .returned .nilIface∧IsB B b (l++[c]) w'∧Below B w w'∧Oth b w w':=by
 have hc:=Any.Builder_WriteByte_k zn9_ zoy_ B b (Lib.byteCells l) c.toNat w h.1 (by simpa [Lib.byteCells] using hl) h.2
 refine Calls.mono hc ?_
 rintro e w' ⟨he,hB,hb,ho⟩
 refine⟨he,⟨.inr ?_,nT h.2 hb.size⟩,hb,ho⟩
 have hs:[Value.int .u8 (c.toNat:Int)]=Lib.byteCells [c]:=rfl
 rw[hs,za2_] at hB
 exact hB
theorem IsB.below {B b:Nat} {l:LU} {w w':World} (h:IsB B b l w) (hb:Bel w w'):IsB B b l w':=by
 obtain⟨h1,h2⟩:=h
 refine⟨h1.imp ?_ ?_,nT h2 hb.size⟩
 all_goals
  rintro⟨hBb,v,hk,hown,hne⟩
  have hlt:b<w.heap.size:=(Array.getElem?_eq_some_iff.1 hk).1
  have hO:BufO B w v l:=⟨by simpa [Lib.byteCells] using hown,h2⟩
  refine⟨hBb,v,(hb.block b hlt).trans hk,?_,hne⟩
  have:=(hO.keep (zc_ hb none) (fun k e=>by cases e)).1
  simpa [Lib.byteCells] using this
theorem IsB.drew {B b:Nat} {l:LU} {w:World} (h:IsB B b l w):IsB B b l w.drew:=h.below (bR _ _).drew
theorem Bk.oth {w w':World} {b g:Nat} {t:TypeId} {cs:Array Value} (h:Bk w g t cs) (ho:Oth b w w') (hg:g≠b) (ht:t≠5):Bk w' g t cs:=
 ho g _ h (fun e=>hg (Option.some.inj e)) (fun c fz e=>by
  have:t=5:=by injection e
  exact ht this)
theorem Rune_c (l:LU) (k:Nat) (hk:k<l.length) (m:Int) (hm:((Lib.decodeL (l.drop k)).2:Int)=m) (w:World) (hw:Env w):
  Calls Tryz.prog 165 #[.string ⟨l.toArray⟩,.int .i64 (k:Int)] w fun e w'=>∃ r:Int,e= .returned (.tuple #[.int .i32 r,.int .i64 m])∧Bel w w':=by
 have hD:=Tryz.utf8_DecodeRuneInString ⟨(l.drop k).toArray⟩ w hw.tabs
 rw[Fil.dec_go _ (by intro e;have:=congrArg List.length e;rw[List.length_drop] at this;simp at this;omega),hm] at hD
 have hsl:=fun W=>z1n_ l k (Nat.le_of_lt hk) W
 have hki:(k:Int)<(l.length:Int):=by omega
 generalize l.drop k=u at hD hsl
 obtain⟨r,hr⟩:∃ r:Int,((Lib.decodeL u).1:Int)=r:=⟨_,rfl⟩
 rw[hr] at hD
 have HD:=hiD hD
 clear hD hr hm
 go_enter Tryz.func165,Tryz.ntmps165
 go_wp2_with (go_at_call 212;(with_reducible refine HD.out.mono ?_);rintro e w1 ⟨rfl,hb1⟩)
 go_ret2
 exact⟨r,rfl,hb1⟩
theorem z3f_ (l:LU) (w:World) (hw:Env w):Calls Tryz.prog 113 #[.string ⟨#[40,41,42,92,0]⟩,.string ⟨l.toArray⟩] w fun e w'=>e= .returned (.bool (Lib.contains Fil.escS l))∧w=w':=by
 obtain⟨m,hm⟩:=hw.mx
 refine(Tryz.strings_Contains ⟨#[40,41,42,92,0]⟩ ⟨l.toArray⟩ m w (by decide) hm).mono ?_
 rintro e w' ⟨rfl,rfl⟩
 exact⟨rfl,rfl⟩
theorem zio_ (v:LU) (k n:Nat) (hn:k+n≤v.length) (W:World):(Instr.slice 9 (.string ⟨v.toArray⟩) (some (.int .i64 (k:Int))) (some (.int .i64 ((k+n:Nat):Int))) none).run Tryz.prog W= .ok (.string ⟨((v.drop k).take n).toArray⟩) W:=by
 have:=z6c_ v k (k+n) W (by omega) hn
 rwa [show k+n - k=n by omega] at this
structure WrJ (w:World) (wr:World) (v:LU) (k:Nat) (acc:LU):Prop where
 rest:acc++Fil.wrL (v.drop k)=Fil.wrL v
 len:acc.length≤3 * k
 isb:IsB w.heap.size w.heap.size acc wr
 bel:Bel w wr
theorem WrJ.begin (w:World) (v:LU):WrJ w (w.alloc (.cells #[.pointer none,.slice none 0 0] 126)) v 0 []:=⟨rfl,by simp,IsB.new w,(bR _ _).alloc (nR _) _⟩
theorem kz_ (v:LU) (w:World) (hw:Env w) (hl:v.length≤100000000):
  Calls Tryz.prog 109 #[.string ⟨v.toArray⟩] w fun e w'=>e= .returned (.string ⟨(Fil.wrL v).toArray⟩)∧Bel w w':=by
 obtain⟨R,hR⟩:∃ R,Fil.wrL v=R:=⟨_,rfl⟩
 rw[hR]
 have HR:=hiD hR
 clear hR
 have hget:=qe_
 have H0:=hiD (WrJ.begin w v)
 go_enter Tryz.func109,Tryz.ntmps109
 go_wp2_with fail
 go_loopg [4] v.length (fun gk i wr=>∃ (k:Nat) (acc:LU),k≤v.length∧i= .int .i64 (k:Int)∧Aside (v.length≤k+gk)∧Aside (WrJ w wr v k acc))
 case atStart=>exact⟨0,[],by omega,rfl,by show _≤_;omega,H0.out⟩
 case round=>
  clear H0
  obtain⟨k,acc,hk,rfl,AG,AJ⟩:=hrel
  by_cases hlt:k<v.length
  ·have hki:(k:Int)<(v.length:Int):=by omega
   have hk0:(0:Int)≤(k:Int):=by omega
   have hdl:(v.drop k).length=v.length - k:=List.length_drop
   have hne:v.drop k≠[]:=by intro e;rw[e] at hdl;simp at hdl;omega
   have hst:=Fil.wrL_step (v.drop k) hne
   obtain⟨n,hn⟩:∃ n,(Lib.decodeL (v.drop k)).2=n:=⟨_,rfl⟩
   have hRu:=fun (m:Int) (hm:(n:Int)=m) (W:World) (hW:Env W)=>Rune_c v k hlt m (by rw[hn];exact hm) W hW
   obtain⟨h1n,hnl,hways⟩:=Fil.esc_ways (v.drop k) hne n hn
   rw[hn,List.drop_drop] at hst
   have hsl:=fun W=>zio_ v k n (by omega) W
   have hwk:IntKind.i64.wrap ((k:Int)+(n:Int))=(k:Int)+(n:Int):=by rw[IntWalk.i64_in _ (by omega)]
   rw[show ((k+n:Nat):Int)=(k:Int)+(n:Int) by omega] at hsl
   have hE:=hw.keep AJ.out.bel
   have hkn:(k:Int)≤(k:Int)+(n:Int):=by omega
   have hknl:(k:Int)+(n:Int)≤(v.length:Int):=by omega
   obtain⟨q,rfl⟩:∃ q,gk=q+1:=⟨gk - 1,by have:=AG.out;omega⟩
   have fin:∀ (e:LU) (W:World),Fil.escF ((v.drop k).take n)=e→e.length≤3 * n→IsB w.heap.size w.heap.size (acc++e) W→Bel w W→WrJ w W v (k+n) (acc++e):=fun e W h1 h2 h3 h4=>⟨by
    rw[List.append_assoc,← h1,← hst]
    exact AJ.out.rest,by rw[List.length_append];have:=AJ.out.len;omega,h3,h4⟩
   have FIN:=hiD fin
   have hal:acc.length≤400000000:=by have:=AJ.out.len;omega
   clear fin hst
   rcases hways with ⟨rfl,x,hx,hw3⟩|⟨hn1,hc,he⟩
   ·have HRu:=hiD (hRu 1 rfl wr hE)
    clear hRu
    rw[hx] at hsl hw3
    have hC:=fun W (hW:Env W)=>z3f_ [x] W hW
    have hxl:(z03_ [x]).length=2:=rfl
    have hcat:=fun w=>run_string_add_lists (P:=Tryz.prog) w [92] (z03_ [x]) (by simp) (by rw[hxl];decide)
    have HH:=hiD (fun W=>Hex_c [x] W (by simp))
    simp only[Int.natCast_one] at hsl hwk hkn hknl
    rcases hw3 with ⟨hc,he⟩|⟨hc,h8,he⟩|⟨hc,h8,he⟩
    ·rw[hc] at hC
     have HC:=hiD hC
     clear hC hc
     have hF:=fun (e:LU) (W:World)=>FIN.out e W
     rw[hx] at hF
     generalize z03_ [x]=hx2 at *
     go_wp2_with (first
      |(go_at_call 165;(with_reducible refine HRu.out.mono ?_);rintro e w3 ⟨r3,rfl,hb3⟩;have HE3:=hiD (hE.keep hb3);have HI3:=hiD (AJ.out.isb.below hb3))
      |(go_at_call 113;(with_reducible refine(HC.out _ HE3.out).mono ?_);rintro e w4 ⟨rfl,rfl⟩)
      |(go_at_call 148;(with_reducible refine(HH.out _).mono ?_);rintro e w5 ⟨rfl,hb5⟩;have HI5:=hiD (HI3.out.below hb5))
      |(go_at_call 108;(refine(j4_ w.heap.size w.heap.size acc (92::hx2) _ (by exact HI5.out) (by simp only[List.length_cons];omega)).mono ?_);rintro e w7 ⟨rfl,hI7,hb7,_⟩))
     go_roundg q
     case measure=>omega
     case rel=>exact⟨k+1,_,by omega,by go_num,by have:=AG.out;show _≤_;omega,hF (92::hx2) _ he (by simp only[List.length_cons];omega) hI7 (((tQ AJ.out.bel hb3).trans (hb5.mono (nT AJ.out.bel.size hb3.size))).trans hb7)⟩
    ·rw[hc] at hC
     have HC:=hiD hC
     have h8i:(128:Int)≤(x.toNat:Int):=by omega
     clear hC hc
     have hF:=fun (e:LU) (W:World)=>FIN.out e W
     rw[hx] at hF
     generalize z03_ [x]=hx2 at *
     go_wp2_with (first
      |(go_at_call 165;(with_reducible refine HRu.out.mono ?_);rintro e w3 ⟨r3,rfl,hb3⟩;have HE3:=hiD (hE.keep hb3);have HI3:=hiD (AJ.out.isb.below hb3))
      |(go_at_call 113;(with_reducible refine(HC.out _ HE3.out).mono ?_);rintro e w4 ⟨rfl,rfl⟩)
      |(go_at_call 148;(with_reducible refine(HH.out _).mono ?_);rintro e w5 ⟨rfl,hb5⟩;have HI5:=hiD (HI3.out.below hb5))
      |(go_at_call 108;(refine(j4_ w.heap.size w.heap.size acc (92::hx2) _ (by exact HI5.out) (by simp only[List.length_cons];omega)).mono ?_);rintro e w7 ⟨rfl,hI7,hb7,_⟩))
     go_roundg q
     case measure=>omega
     case rel=>exact⟨k+1,_,by omega,by go_num,by have:=AG.out;show _≤_;omega,hF (92::hx2) _ he (by simp only[List.length_cons];omega) hI7 (((tQ AJ.out.bel hb3).trans (hb5.mono (nT AJ.out.bel.size hb3.size))).trans hb7)⟩
    ·rw[hc] at hC
     have HC:=hiD hC
     have h8i:¬ (128:Int)≤(x.toNat:Int):=by omega
     have hF:=fun (e:LU) (W:World)=>FIN.out e W
     rw[hx] at hF
     clear hC hc hcat HH hxl
     go_wp2_with (first
      |(go_at_call 165;(with_reducible refine HRu.out.mono ?_);rintro e w3 ⟨r3,rfl,hb3⟩;have HE3:=hiD (hE.keep hb3);have HI3:=hiD (AJ.out.isb.below hb3))
      |(go_at_call 113;(with_reducible refine(HC.out _ HE3.out).mono ?_);rintro e w4 ⟨rfl,rfl⟩)
      |(go_at_call 108;(refine(j4_ w.heap.size w.heap.size acc [x] _ (by exact HI3.out) (by simp only[List.length_cons,List.length_nil];omega)).mono ?_);rintro e w7 ⟨rfl,hI7,hb7,_⟩))
     go_roundg q
     case measure=>omega
     case rel=>exact⟨k+1,_,by omega,by go_num,by have:=AG.out;show _≤_;omega,hF [x] _ he (by simp) hI7 ((tQ AJ.out.bel hb3).trans hb7)⟩
   ·have HRu:=hiD (hRu n rfl wr hE)
    have hcl:((v.drop k).take n).length=n:=by rw[List.length_take];omega
    have hF:=fun (e:LU) (W:World)=>FIN.out e W
    have hC:=fun W (hW:Env W)=>z3f_ ((v.drop k).take n) W hW
    rw[hc] at hC
    have HC:=hiD hC
    have hn1i:((n:Int)==1)=false:=by rw[beq_eq_false_iff_ne];omega
    clear hRu hC hc
    generalize (v.drop k).take n=c at *
    go_wp2_with (first
     |(go_at_call 165;(with_reducible refine HRu.out.mono ?_);rintro e w3 ⟨r3,rfl,hb3⟩;have HE3:=hiD (hE.keep hb3);have HI3:=hiD (AJ.out.isb.below hb3))
     |(go_at_call 113;(with_reducible refine(HC.out _ HE3.out).mono ?_);rintro e w4 ⟨rfl,rfl⟩)
     |(go_at_call 108;(refine(j4_ w.heap.size w.heap.size acc c _ (by exact HI3.out) (by omega)).mono ?_);rintro e w7 ⟨rfl,hI7,hb7,_⟩))
    go_roundg q
    case measure=>omega
    case rel=>exact⟨k+n,_,by omega,by go_num,by have:=AG.out;show _≤_;omega,hF c _ he (by omega) hI7 ((tQ AJ.out.bel hb3).trans hb7)⟩
  ·obtain rfl:k=v.length:=by omega
   have hf:=AJ.out.rest
   rw[List.drop_length,Fil.wrL_nil,List.append_nil,HR.out] at hf
   subst hf
   go_wp2_with (go_at_call 56;(refine(z8r_ w.heap.size w.heap.size acc wr AJ.out.isb).mono ?_);rintro e w2 ⟨rfl,hB2,hb2⟩)
   go_ret
   exact⟨rfl,AJ.out.bel.trans hb2⟩
end Go.Proofs.YtbekpphodbekiaaGreatDoor
