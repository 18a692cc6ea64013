import Derived.Test.YtakfpngfpknedaaGreatDoorE0h
set_option linter.all false
set_option maxHeartbeats 8000000
set_option maxRecDepth 100000
namespace Go.Proofs.YtakfpngfpknedaaGreatDoor
open Go.RowKit
def kb_ (seen:LL):List (LU × Value):=seen.reverse.map fun k=>(k,.agg #[])
theorem zbo_ (k:LU) (seen:LL):kb_ (k::seen)=kb_ seen++[(k,.agg #[])]:=by simp [kb_]
theorem z3t_ (seen:LL) (k:LU):(qe_ (kb_ seen) k).isSome=seen.contains k:=by
 rw[z4c_]
 unfold kb_
 rw[List.map_map]
 have:(Prod.fst ∘ fun k:LU=>(k,Value.agg #[]))=id:=rfl
 rw[this,List.map_id,Bool.eq_iff_iff]
 simp
theorem zcy_ (seen:LL) (k:LU):(qe_ (kb_ seen) k).getD (.agg #[])= .agg #[]:=by
 unfold kb_
 generalize seen.reverse=l
 induction l with
 |nil=>rfl
 |cons x l ih=>
  rw[List.map_cons,qe_]
  split
  ·rfl
  ·exact ih
theorem zge_ (w:World):(zeroValue 58).run Tryz.prog w= .ok (.agg #[]) w:=by kernel_rfl
theorem z6z_:Tryz.prog.underlying 50=some (.map 9 58):=Tryz.underlying50
theorem jh_ {w:World} {m c:Nat} {es:Array MapEntry} {seen:LL} (h:MapS w m es c (kb_ seen)) (k:LU):
  (Instr.lookup 50 (.map (some m)) (.string ⟨k.toArray⟩) true).run Tryz.prog w= .ok (.tuple #[.agg #[],.bool (seen.contains k)]) w:=by
 have:=h.ask z6z_ zge_ (k:=k)
 rw[zcy_,z3t_] at this
 exact this
theorem zhh_ {w:World} {m c:Nat} {es:Array MapEntry} {seen:LL} (h:MapS w m es c (kb_ seen)) {k:LU} (hn:seen.contains k=false):
  ∃ W es',(Instr.mapUpdate 50 (.map (some m)) (.string ⟨k.toArray⟩) (.agg #[])).run Tryz.prog w= .ok () W∧MapS W m es' (c+1) (kb_ (k::seen))∧w.grownBy W (some m):=by
 have hl:qe_ (kb_ seen) k=none:=by
  have:=z3t_ seen k
  rw[hn] at this
  simpa using this
 have h2:=h.put k (.agg #[])
 rw[← zbo_] at h2
 exact⟨_,_,h.update z6z_ (.agg #[]) hl,h2,q3_ _ _ _ _⟩
structure RJ (w:World) (r p m:Nat) (cls:Bool) (R:Option DefS) (gk:Nat) (wr:World) (d:DefS) (seen:LL) (l:List Wd):Prop where
 fuel:l.length<gk
 rd:RdW wr r l
 df:DefAt wr p d
 dc:d.cls=cls
 mp:∃ es c,MapS wr m es c (kb_ seen)
 bel:Bel w wr
 rest:xy_ gk d seen l=R
 short:Shorts l
 num:l.length≤1000000
 new:w.heap.size≤r∧w.heap.size≤p∧w.heap.size≤m∧p≠r∧m≠r∧m≠p
theorem RJ.env {w:World} {r p m:Nat} {cls:Bool} {R:Option DefS} {gk:Nat} {wr:World} {d:DefS} {seen:LL} {l:List Wd} (h:RJ w r p m cls R gk wr d seen l) (hw:Env w):Env wr:=hw.keep h.bel
theorem MapS.mods {w w':World} {S:List Nat} {m c:Nat} {es:Array MapEntry} {R:List (LU × Value)} (h:MapS w m es c R) (hm:Mods S w w') (hn:m ∉ S):MapS w' m es c R:=h.keep (hm.block m h.lt hn)
theorem MapS.below {w w':World} {m c:Nat} {es:Array MapEntry} {R:List (LU × Value)} (h:MapS w m es c R) (hb:Bel w w'):MapS w' m es c R:=h.mods (Mods.of_below hb []) (by simp)
theorem NoWord.of_map {w:World} {m c:Nat} {es:Array MapEntry} (h:w.heap[m]?=some (.map es c)):NoWord w [m]:=by
 intro k hk cs z
 have:k=m:=by simpa using hk
 subst this
 rw[h]
 intro e
 cases e
theorem NoText.of_map {w:World} {m c:Nat} {es:Array MapEntry} (h:w.heap[m]?=some (.map es c)):NoText w [m]:=by
 intro k hk s
 have:k=m:=by simpa using hk
 subst this
 simp [World.cell?,h]
theorem zeg_ {n:Nat} {d:DefS} {seen:LL} {l:List Wd} (h:rIs l [41]=true):xy_ (n+1) d seen l=if l.tail=[] then some d else none:=by
 rw[xy_,if_pos h]
theorem zbe_ {n:Nat} {d:DefS} {seen:LL} {l:List Wd} (h:rIs l [41]=false) (hp:ze_ l=none):xy_ (n+1) d seen l=none:=by
 rw[xy_,if_neg (by rw[h];simp),hp]
theorem zbq_ {n:Nat} {d:DefS} {cls:Bool} {seen:LL} {l t:List Wd} {f:LU} (hc:d.cls=cls) (h:rIs l [41]=false) (hp:ze_ l=some (f,t)):xy_ (n+1) d seen l=
    (if cls && decide (0≤yl_ f) then (if seen.contains kj_ then none else xy_ n {d with kind:=yl_ f} (kj_::seen) t)
    else if seen.contains f then none
    else match qg_ d f t with
     |none=>none
     |some (d',t')=>xy_ n d' (f::seen) t'):=by
 subst hc
 rw[xy_,if_neg (by rw[h];simp),hp]
 rfl
theorem z62_ {w w':World} {r p m i:Nat} (h:Mods [r] w w') (v:Value):Mods [r,p,m] w (w'.setCell ⟨p,i,none⟩ v):=(h.mono (by simp)).setCell (by simp) v
theorem x9_ {B r p m c:Nat} {wr w6:World} {d':DefS} {seen:LL} {k:LU} {t:List Wd} {es:Array MapEntry} (hn:B≤r∧B≤p∧B≤m∧p≠r∧m≠r∧m≠p) (hm6:Mods [r,p,m] wr w6) (hr6:RdW w6 r t) (hd6:DefAt w6 p d') (hms:MapS w6 m es c (kb_ seen)) (hs:seen.contains k=false):
  ∃ W es',(Instr.mapUpdate 50 (.map (some m)) (.string ⟨k.toArray⟩) (.agg #[])).run Tryz.prog (w6.alloc (.cells #[] 58))= .ok () W∧MapS W m es' (c+1) (kb_ (k::seen))∧Mods [r,p,m] wr W∧RdW W r t∧DefAt W p d':=by
 have hb:Bel w6 (w6.alloc (.cells #[] 58)):=(bR _ _).alloc (nR _) _
 have hma:=hms.alloc (.cells #[] 58)
 obtain⟨W,es',hu,hm,hg⟩:=zhh_ hma hs
 have hmm:Mods [m] (w6.alloc (.cells #[] 58)) W:=Mods.of_grown hg (by simp)
 refine⟨W,es',hu,hm,(hm6.alloc _).trans (hmm.mono (by simp)),(hr6.below hb).mods hmm (by simp;omega) (NoWord.of_map hma.at_),(hd6.below hb).mods hmm (by simp;omega) (NoText.of_map hma.at_)⟩
theorem zbt_ {l t:List Wd} {f:LU} (h:ze_ l=some (f,t)):l.length=t.length+1∧t<:+l:=by
 obtain⟨q,rfl⟩:=zt_ h
 exact⟨rfl,List.suffix_cons _ _⟩
theorem zj7_ {f:LU} (h:0≤yl_ f):([97,32,107,105,110,100]==f)=false:=by
 rcases z2p_ f with rfl|rfl|rfl|⟨_,_,_,h3⟩
 ·decide
 ·decide
 ·decide
 ·rw[h3] at h;exact absurd h (by decide)
theorem RJ.go {w wr w1:World} {r p m:Nat} {cls:Bool} {R:Option DefS} {gk q:Nat} {d d':DefS} {seen seen':LL} {l l':List Wd} (h:RJ w r p m cls R gk wr d seen l) (hq:l'.length<q) (hsu:l'<:+l) (hcl:d'.cls=cls)
  (hm:Mods [r,p,m] wr w1) (hrd:RdW w1 r l') (hdf:DefAt w1 p d') (hmp:∃ es c,MapS w1 m es c (kb_ seen')) (hR:xy_ q d' seen' l'=R):RJ w r p m cls R q w1 d' seen' l':=by
 have hn:=h.new
 refine⟨hq,hrd,hdf,hcl,hmp,Mods.bel h.bel hm (by intro x hx;simp at hx;omega),hR,h.short.suffix hsu,nT hsu.sublist.length_le h.num,hn⟩
theorem ziy_ (s:LU) (cls:Bool) (l t:List Wd) (oid:LU) (w:World) (hw:Env w) (hs:s.length≤1000000) (hn:yh_ s=some l) (h40:rIs l [40]=true) (hp:ze_ l.tail=some (oid,t)) (hT0:zc_ oid=true) (hd0:z33_ oid=true):
  Calls Tryz.prog 74 #[.string ⟨s.toArray⟩,.bool cls] w (z07_ w (xy_ (t.length+1) (DefS.new cls oid) [] t)):=by
 obtain⟨R,hR⟩:∃ R,xy_ (t.length+1) (DefS.new cls oid) [] t=R:=⟨_,rfl⟩
 rw[hR]
 have HR:=hiD hR
 have hwb:=k0_ hn
 have hlt:l.tail=(oid,false)::t∨∃ q,l.tail=(oid,q)::t:=by
  obtain⟨q,hq⟩:=zt_ hp
  exact .inr ⟨q,hq⟩
 have hlq:∃ q,l.tail=(oid,q)::t:=zt_ hp
 have hol:oid.length≤1000000:=by
  obtain⟨q,hq⟩:=hlq
  have:=hwb.1 (oid,q) (List.mem_of_mem_tail (by rw[hq];simp))
  simp only at this
  omega
 have HSH:Hid (Shorts t∧t.length≤1000000):=hiD (by
  obtain⟨q,hq⟩:=hlq
  refine⟨fun x hx=>?_,?_⟩
  ·have:=hwb.1 x (List.mem_of_mem_tail (by rw[hq];exact List.mem_cons_of_mem _ hx))
   omega
  ·have h1:l.tail.length≤l.length:=by simp
   rw[hq] at h1
   simp only[List.length_cons] at h1
   omega)
 have HW:=hiD (vt_ s l w hs hn)
 have H40:=hiD h40
 have HP:=hiD hp
 have hget:=qb_
 have HT:=hiD hT0
 clear hn h40 hp hR hT0 hlt hlq hwb
 cases oid with
 |nil=>exact absurd HT.out (by decide)
 |cons x xs=>
  have hx:48≤(x.toNat:Int)∧(x.toNat:Int)≤57:=by
   unfold z33_ at hd0
   simp only[Bool.and_eq_true,decide_eq_true_eq,UInt8.le_iff_toNat_le] at hd0
   have e1:(48:UInt8).toNat=48:=rfl
   have e2:(57:UInt8).toNat=57:=rfl
   omega
  have hl0:(0:Int)<(xs.length:Int)+1:=by omega
  obtain⟨hx1,hx2⟩:=hx
  have hmm:=@run_makeMap Tryz.prog
  clear hd0
  go_enter Tryz.func74,Tryz.ntmps74
  go_wp2_with (first|(go_at_call 111;refine HW.out.mono ?_;rintro e w1 ⟨⟨A,c,rfl,hx⟩,hb1⟩;have HX:=hiD (v7_ hx cls);clear hx)|(go_at_call 112;(with_reducible refine(j2_ _ l [40] _ HX.out.1 H40.out).mono ?_);rintro e w2 ⟨rfl,hr2,hg2⟩;have hb2:=Mods.bel (y7_ _ _ _ _ hb1) (Mods.of_grown hg2 (List.mem_singleton_self _)) (by have:=hb1.size;simpa using this))|(go_at_call 113;(with_reducible refine(zx_ _ l.tail t (x::xs) _ (hw.keep hb2) hr2 HP.out).mono ?_);rintro e w3 ⟨rfl,hr3,hm3⟩;have hb3:=Mods.bel hb2 hm3 (by have:=hb1.size;simpa using this))|(go_at_call 52;refine(qf_ (x::xs) _ (hw.keep hb3) (by omega)).mono ?_;rw[HT.out];rintro e w4 ⟨rfl,hb4⟩;have hm4:Mods [w1.heap.size] ((w1.alloc (.cells #[.slice A l.length c] 159)).alloc (z6i_ cls)) w4:=((Mods.of_grown hg2 (List.mem_singleton_self _)).trans hm3).trans (Mods.of_below hb4 _);have hd4:DefAt w4 (w1.heap.size+1) (DefS.new cls []):=HX.out.2.1.modr HX.out.1 (by omega) hm4;obtain⟨vn,vs,vm,vy,hB4⟩:=id hd4;have c4:w4.cell? ⟨w1.heap.size+1,1,none⟩=some (.string ⟨#[]⟩):=hB4.1.cell 1;have f4:=hB4.1.frozen 1))
  have hnew:w.heap.size≤w1.heap.size∧w1.heap.size+1+1≤w4.heap.size:=by
   have h1:=hb1.size
   have h2:=hm4.size
   simp at h2
   omega
  have J0:RJ w w1.heap.size (w1.heap.size+1) w4.heap.size cls R (t.length+1) ((w4.setCell ⟨w1.heap.size+1,1,none⟩ (.string ⟨(x::xs).toArray⟩)).alloc (.map #[] 0)) (DefS.new cls (x::xs)) [] t:=by
   have hsz:(w4.setCell ⟨w1.heap.size+1,1,none⟩ (.string ⟨(x::xs).toArray⟩)).heap.size=w4.heap.size:=by simp [World.setCell]
   have hr5:=z0o_ (i:=1) (hr3.below hb4) hd4 (by omega) (.string ⟨(x::xs).toArray⟩)
   have hd5:=zk8_ hd4 (x::xs)
   have hb5:Bel w (w4.setCell ⟨w1.heap.size+1,1,none⟩ (.string ⟨(x::xs).toArray⟩)):=(tQ hb3 hb4).setCell (by simp;omega) _
   have hal:Below (w4.setCell ⟨w1.heap.size+1,1,none⟩ (.string ⟨(x::xs).toArray⟩)).heap.size (w4.setCell ⟨w1.heap.size+1,1,none⟩ (.string ⟨(x::xs).toArray⟩)) ((w4.setCell ⟨w1.heap.size+1,1,none⟩ (.string ⟨(x::xs).toArray⟩)).alloc (.map #[] 0)):=(bR _ _).alloc (nR _) _
   have hmd:=MapS.made (w4.setCell ⟨w1.heap.size+1,1,none⟩ (.string ⟨(x::xs).toArray⟩))
   rw[hsz] at hmd
   exact⟨Nat.lt_succ_self _,hr5.below hal,hd5.below hal,rfl,⟨_,_,hmd⟩,tQ hb5 hal,HR.out,HSH.out.1,HSH.out.2,by omega⟩
  have HJ0:=hiD J0
  clear J0 hnew HR HSH HX HW H40 HP HT hB4 c4 f4 hd4 hm4 hb4 hb3 hm3 hr3 hb2 hg2 hr2 hb1 hmm
  generalize (w4.setCell ⟨w1.heap.size+1,1,none⟩ (.string ⟨(x::xs).toArray⟩)).alloc (.map #[] 0)=W at HJ0 ⊢
  generalize w1.heap.size+1=p at HJ0 ⊢
  generalize w1.heap.size=r at HJ0 ⊢
  generalize w4.heap.size=m at HJ0 ⊢
  go_loopg [11] (t.length+1) (fun gk _ wr=>∃ (d:DefS) (seen:LL) (l':List Wd),Aside (RJ w r p m cls R gk wr d seen l'))
  case atStart=>exact⟨_,[],t,HJ0.out⟩
  case round=>
   clear HJ0
   obtain⟨d,seen,l',AJ⟩:=hrel
   obtain⟨q,rfl⟩:∃ q,gk=q+1:=⟨gk - 1,by have:=AJ.out.fuel;omega⟩
   cases h41:rIs l' [41]
   ·have H41:=hiD h41
    cases hp:ze_ l' with
    |none=>
     have hfin:R=none:=by rw[← AJ.out.rest,zbe_ h41 hp]
     have Hf:=hiD hfin
     have HP:=hiD hp
     clear hfin hp h41
     go_wp2_with (first|(go_at_call 112;(with_reducible refine(qj_ r l' [41] _ AJ.out.rd H41.out).mono ?_);rintro e w5 ⟨rfl,rfl⟩)|(go_at_call 113;(with_reducible refine(z3d_ r l' _ (AJ.out.env hw) AJ.out.rd HP.out).mono ?_);rintro e w6 ⟨rfl,rfl⟩))
     go_ret
     rw[Hf.out]
     exact⟨AJ.out.bel,rfl⟩
    |some y=>
     obtain⟨f,t'⟩:=y
     have hstep:=zbq_ (n:=q) (d:=d) (seen:=seen) AJ.out.dc h41 hp
     rw[AJ.out.rest] at hstep
     obtain⟨hlen,hsuf⟩:=zbt_ hp
     have hfuel:=AJ.out.fuel
     have HS:=hiD hstep
     have HP:=hiD hp
     have HSU:=hiD hsuf
     have HF6:=hiD (show ∀ w6,Mods [r] wr w6→DefAt w6 p d∧(∃ v,w6.cell? ⟨p,13,none⟩=some v)∧w6.frozen? ⟨p,13,none⟩=false∧∃ es c,MapS w6 m es c (kb_ seen) from fun w6 hm=>by
      have hn:=AJ.out.new
      have hd6:=AJ.out.df.modr AJ.out.rd hn.2.2.2.1 hm
      obtain⟨vn,vs,vm,vy,hB⟩:=hd6.bk
      obtain⟨es,c,hmp⟩:=AJ.out.mp
      exact⟨hd6,⟨_,(hB.cell 13).trans rfl⟩,hB.frozen 13,es,c,hmp.mods hm (by simpa using hn.2.2.2.2.1)⟩)
     clear hstep hp h41 hsuf
     have hnum:=AJ.out.num
     have HN3:=hiD (show ∀ x∈[r,p,m],w.heap.size≤x from by have:=AJ.out.new;intro x hx;simp at hx;omega)
     have HRL:Hid (r<wr.heap.size):=hiD (by obtain⟨v,hb,_⟩:=AJ.out.rd;exact hb.lt)
     have HO:=hiD (zf0_ hw AJ.out.new.1)
     cases cls
     ·rw[Bool.false_and] at HS
      simp only[Bool.false_eq_true,if_false] at HS
      cases hsn:seen.contains f
      ·rw[hsn] at HS
       simp only[Bool.false_eq_true,if_false] at HS
       have HSN:=hiD hsn
       clear hsn
       cases hF:xw_ d.cls f
       ·have hR0:R=none:=by rw[HS.out,z6p_ hF]
        have Hf:=hiD hR0
        have HF:=hiD hF
        clear hF hR0 HS
        go_wp2_with (first|(go_at_call 112;(with_reducible refine(qj_ r l' [41] _ AJ.out.rd H41.out).mono ?_);rintro e w5 ⟨rfl,rfl⟩)|(go_at_call 113;(with_reducible refine(zx_ r l' t' f _ (AJ.out.env hw) AJ.out.rd HP.out).mono ?_);rintro e w6 ⟨rfl,hr6,hm6⟩;obtain⟨hd6,⟨v13,c13⟩,f13,es6,cl6,hms6⟩:=HF6.out w6 hm6;have HM6:=hiD hms6;have HD6:=hiD hd6;clear hms6 hd6;have ha6:=jh_ HM6.out f;rw[HSN.out] at ha6;obtain⟨W8,es8,hu8,hms8,hm8,hr8,hd8⟩:=x9_ AJ.out.new (hm6.mono (S':=[r,p,m]) (by simp)) hr6 HD6.out HM6.out HSN.out;have HM8:=hiD hms8;have HR8:=hiD hr8;have HD8:=hiD hd8;have HMM8:=hiD hm8;have HB8:=hiD (Mods.bel AJ.out.bel hm8 HN3.out);clear hms8 hr8 hd8 hm8)|(go_at_call 115;refine(k8_ r p d f _ (hw.keep HB8.out) HO.out (Nat.lt_of_lt_of_le HRL.out HMM8.out.size) AJ.out.new.2.2.2.1 HD8.out).mono ?_;rintro e w9 ⟨m2,v2,rfl,hb9,hlk9,hdo⟩;rw[HF.out] at hlk9;clear hdo))
        go_ret
        rw[Hf.out]
        exact⟨tQ HB8.out hb9,rfl⟩
       ·have HF:=hiD hF
        clear hF
        cases hfl:qg_ d f t' with
        |none=>
         have hR0:R=none:=by rw[HS.out,hfl]
         have Hf:=hiD hR0
         have HFL:=hiD hfl
         clear hR0 HS hfl
         go_wp2_with (first|(go_at_call 112;(with_reducible refine(qj_ r l' [41] _ AJ.out.rd H41.out).mono ?_);rintro e w5 ⟨rfl,rfl⟩)|(go_at_call 113;(with_reducible refine(zx_ r l' t' f _ (AJ.out.env hw) AJ.out.rd HP.out).mono ?_);rintro e w6 ⟨rfl,hr6,hm6⟩;obtain⟨hd6,⟨v13,c13⟩,f13,es6,cl6,hms6⟩:=HF6.out w6 hm6;have HM6:=hiD hms6;have HD6:=hiD hd6;clear hms6 hd6;have ha6:=jh_ HM6.out f;rw[HSN.out] at ha6;obtain⟨W8,es8,hu8,hms8,hm8,hr8,hd8⟩:=x9_ AJ.out.new (hm6.mono (S':=[r,p,m]) (by simp)) hr6 HD6.out HM6.out HSN.out;have HM8:=hiD hms8;have HR8:=hiD hr8;have HD8:=hiD hd8;have HMM8:=hiD hm8;have HB8:=hiD (Mods.bel AJ.out.bel hm8 HN3.out);clear hms8 hr8 hd8 hm8)|(go_at_call 115;refine(k8_ r p d f _ (hw.keep HB8.out) HO.out (Nat.lt_of_lt_of_le HRL.out HMM8.out.size) AJ.out.new.2.2.2.1 HD8.out).mono ?_;rintro e w9 ⟨m2,v2,rfl,hb9,hlk9,hdo⟩;rw[HF.out] at hlk9;obtain⟨fid,cap,rfl,hent,hcall⟩:=hdo HF.out;have HC:=hiD (hcall t' (HR8.out.below hb9) (AJ.out.short.suffix HSU.out) (by omega));rw[HFL.out] at HC;clear hdo hcall)|((with_reducible refine HC.out.mono ?_);rintro e w10 ⟨hm10,hx10⟩;obtain rfl:=hx10))
         go_ret
         rw[Hf.out]
         exact⟨Mods.bel (tQ HB8.out hb9) hm10 (by have:=AJ.out.new;intro x hx;simp at hx;omega),rfl⟩
        |some z=>
         obtain⟨d',t''⟩:=z
         have hR0:R=xy_ q d' (f::seen) t'':=by rw[HS.out,hfl]
         have hfs:=yc_ hfl
         have Hf:=hiD hR0
         have HFL:=hiD hfl
         have HFS:=hiD hfs
         clear hR0 HS hfl hfs
         go_wp2_with (first|(go_at_call 112;(with_reducible refine(qj_ r l' [41] _ AJ.out.rd H41.out).mono ?_);rintro e w5 ⟨rfl,rfl⟩)|(go_at_call 113;(with_reducible refine(zx_ r l' t' f _ (AJ.out.env hw) AJ.out.rd HP.out).mono ?_);rintro e w6 ⟨rfl,hr6,hm6⟩;obtain⟨hd6,⟨v13,c13⟩,f13,es6,cl6,hms6⟩:=HF6.out w6 hm6;have HM6:=hiD hms6;have HD6:=hiD hd6;clear hms6 hd6;have ha6:=jh_ HM6.out f;rw[HSN.out] at ha6;obtain⟨W8,es8,hu8,hms8,hm8,hr8,hd8⟩:=x9_ AJ.out.new (hm6.mono (S':=[r,p,m]) (by simp)) hr6 HD6.out HM6.out HSN.out;have HM8:=hiD hms8;have HR8:=hiD hr8;have HD8:=hiD hd8;have HMM8:=hiD hm8;have HB8:=hiD (Mods.bel AJ.out.bel hm8 HN3.out);clear hms8 hr8 hd8 hm8)|(go_at_call 115;refine(k8_ r p d f _ (hw.keep HB8.out) HO.out (Nat.lt_of_lt_of_le HRL.out HMM8.out.size) AJ.out.new.2.2.2.1 HD8.out).mono ?_;rintro e w9 ⟨m2,v2,rfl,hb9,hlk9,hdo⟩;rw[HF.out] at hlk9;obtain⟨fid,cap,rfl,hent,hcall⟩:=hdo HF.out;have HC:=hiD (hcall t' (HR8.out.below hb9) (AJ.out.short.suffix HSU.out) (by omega));rw[HFL.out] at HC;clear hdo hcall)|((with_reducible refine HC.out.mono ?_);rintro e w10 ⟨hm10,hx10⟩;obtain⟨rfl,hr10,hd10⟩:=hx10))
         go_roundg q
         case measure=>omega
         case rel=>
          refine⟨d',f::seen,t'',?_⟩
          have hl2:t''.length≤t'.length:=HFS.out.1.sublist.length_le
          have hnn:=AJ.out.new
          exact AJ.out.go (by omega) (HFS.out.1.trans HSU.out) (HFS.out.2.trans AJ.out.dc) ((HMM8.out.trans (Mods.of_below hb9 _)).trans (hm10.mono (by simp))) hr10 hd10 ⟨_,_,(HM8.out.below hb9).mods hm10 (by simp;omega)⟩ Hf.out.symm
      ·rw[hsn] at HS
       simp only[if_true] at HS
       have HSN:=hiD hsn
       clear hsn
       go_wp2_with (first|(go_at_call 112;(with_reducible refine(qj_ r l' [41] _ AJ.out.rd H41.out).mono ?_);rintro e w5 ⟨rfl,rfl⟩)|(go_at_call 113;(with_reducible refine(zx_ r l' t' f _ (AJ.out.env hw) AJ.out.rd HP.out).mono ?_);rintro e w6 ⟨rfl,hr6,hm6⟩;obtain⟨hd6,⟨v13,c13⟩,f13,es6,cl6,hms6⟩:=HF6.out w6 hm6;have HM6:=hiD hms6;have HD6:=hiD hd6;clear hms6 hd6;have ha6:=jh_ HM6.out f;rw[HSN.out] at ha6))
       go_ret
       rw[HS.out]
       exact⟨Mods.bel AJ.out.bel (hm6.alloc _) (by have:=AJ.out.new;intro x hx;simp at hx;omega),rfl⟩
     ·rw[Bool.true_and] at HS
      by_cases hk:0≤yl_ f
      ·rw[decide_eq_true hk] at HS
       simp only[if_true] at HS
       have hke:=zj7_ hk
       cases hsn:seen.contains kj_
       ·rw[hsn] at HS
        simp only[Bool.false_eq_true,if_false] at HS
        have HSN:=hiD hsn
        clear hsn
        go_wp2_with (first|(go_at_call 112;(with_reducible refine(qj_ r l' [41] _ AJ.out.rd H41.out).mono ?_);rintro e w5 ⟨rfl,rfl⟩)|(go_at_call 113;(with_reducible refine(zx_ r l' t' f _ (AJ.out.env hw) AJ.out.rd HP.out).mono ?_);rintro e w6 ⟨rfl,hr6,hm6⟩;obtain⟨hd6,⟨v13,c13⟩,f13,es6,cl6,hms6⟩:=HF6.out w6 hm6;have HM6:=hiD hms6;have HD6:=hiD hd6;clear hms6 hd6;have hms6k:=HM6.out.mods ((Mods.refl [p] _).setCell (p:=⟨p,13,none⟩) (List.mem_singleton_self _) (.int .i64 (yl_ f))) (by have:=AJ.out.new;simp;omega);have ha6:=jh_ hms6k kj_;rw[HSN.out] at ha6;unfold kj_ at ha6;have HM6k:=hiD hms6k;clear hms6k;obtain⟨W8,es8,hu8,hms8,hm8,hr8,hd8⟩:=x9_ AJ.out.new (z62_ hm6 (.int .i64 (yl_ f))) (z0o_ hr6 HD6.out AJ.out.new.2.2.2.1 (.int .i64 (yl_ f))) (zfv_ HD6.out (yl_ f)) HM6k.out HSN.out;unfold kj_ at hu8;have HM8:=hiD hms8;have HR8:=hiD hr8;have HD8:=hiD hd8;have HMM8:=hiD hm8;clear hms8 hr8 hd8 hm8)|(go_at_call 114;refine(k9_ f _).mono ?_;rintro e w7 ⟨rfl,rfl⟩))
        go_roundg q
        case measure=>omega
        case rel=>exact⟨_,_,t',AJ.out.go (d':={d with kind:=yl_ f}) (by omega) HSU.out AJ.out.dc HMM8.out HR8.out HD8.out ⟨_,_,HM8.out⟩ HS.out.symm⟩
       ·rw[hsn] at HS
        simp only[if_true] at HS
        have HSN:=hiD hsn
        clear hsn
        go_wp2_with (first|(go_at_call 112;(with_reducible refine(qj_ r l' [41] _ AJ.out.rd H41.out).mono ?_);rintro e w5 ⟨rfl,rfl⟩)|(go_at_call 113;(with_reducible refine(zx_ r l' t' f _ (AJ.out.env hw) AJ.out.rd HP.out).mono ?_);rintro e w6 ⟨rfl,hr6,hm6⟩;obtain⟨hd6,⟨v13,c13⟩,f13,es6,cl6,hms6⟩:=HF6.out w6 hm6;have HM6:=hiD hms6;have HD6:=hiD hd6;clear hms6 hd6;have hms6k:=HM6.out.mods ((Mods.refl [p] _).setCell (p:=⟨p,13,none⟩) (List.mem_singleton_self _) (.int .i64 (yl_ f))) (by have:=AJ.out.new;simp;omega);have ha6:=jh_ hms6k kj_;rw[HSN.out] at ha6;unfold kj_ at ha6;have HM6k:=hiD hms6k;clear hms6k)|(go_at_call 114;refine(k9_ f _).mono ?_;rintro e w7 ⟨rfl,rfl⟩))
        go_ret
        rw[HS.out]
        exact⟨Mods.bel AJ.out.bel ((z62_ (m:=m) hm6 _).alloc _) HN3.out,rfl⟩
      ·have hkd:decide (0≤yl_ f)=false:=decide_eq_false hk
       rw[hkd] at HS
       simp only[Bool.false_eq_true,if_false] at HS
       cases hsn:seen.contains f
       ·rw[hsn] at HS
        simp only[Bool.false_eq_true,if_false] at HS
        have HSN:=hiD hsn
        clear hsn
        cases hF:xw_ d.cls f
        ·have hR0:R=none:=by rw[HS.out,z6p_ hF]
         have Hf:=hiD hR0
         have HF:=hiD hF
         clear hF hR0 HS
         go_wp2_with (first|(go_at_call 112;(with_reducible refine(qj_ r l' [41] _ AJ.out.rd H41.out).mono ?_);rintro e w5 ⟨rfl,rfl⟩)|(go_at_call 113;(with_reducible refine(zx_ r l' t' f _ (AJ.out.env hw) AJ.out.rd HP.out).mono ?_);rintro e w6 ⟨rfl,hr6,hm6⟩;obtain⟨hd6,⟨v13,c13⟩,f13,es6,cl6,hms6⟩:=HF6.out w6 hm6;have HM6:=hiD hms6;have HD6:=hiD hd6;clear hms6 hd6;have ha6:=jh_ HM6.out f;rw[HSN.out] at ha6;obtain⟨W8,es8,hu8,hms8,hm8,hr8,hd8⟩:=x9_ AJ.out.new (hm6.mono (S':=[r,p,m]) (by simp)) hr6 HD6.out HM6.out HSN.out;have HM8:=hiD hms8;have HR8:=hiD hr8;have HD8:=hiD hd8;have HMM8:=hiD hm8;have HB8:=hiD (Mods.bel AJ.out.bel hm8 HN3.out);clear hms8 hr8 hd8 hm8)|(go_at_call 114;refine(k9_ f _).mono ?_;rintro e w7 ⟨rfl,rfl⟩)|(go_at_call 115;refine(k8_ r p d f _ (hw.keep HB8.out) HO.out (Nat.lt_of_lt_of_le HRL.out HMM8.out.size) AJ.out.new.2.2.2.1 HD8.out).mono ?_;rintro e w9 ⟨m2,v2,rfl,hb9,hlk9,hdo⟩;rw[HF.out] at hlk9;clear hdo))
         go_ret
         rw[Hf.out]
         exact⟨tQ HB8.out hb9,rfl⟩
        ·have HF:=hiD hF
         clear hF
         cases hfl:qg_ d f t' with
         |none=>
          have hR0:R=none:=by rw[HS.out,hfl]
          have Hf:=hiD hR0
          have HFL:=hiD hfl
          clear hR0 HS hfl
          go_wp2_with (first|(go_at_call 112;(with_reducible refine(qj_ r l' [41] _ AJ.out.rd H41.out).mono ?_);rintro e w5 ⟨rfl,rfl⟩)|(go_at_call 113;(with_reducible refine(zx_ r l' t' f _ (AJ.out.env hw) AJ.out.rd HP.out).mono ?_);rintro e w6 ⟨rfl,hr6,hm6⟩;obtain⟨hd6,⟨v13,c13⟩,f13,es6,cl6,hms6⟩:=HF6.out w6 hm6;have HM6:=hiD hms6;have HD6:=hiD hd6;clear hms6 hd6;have ha6:=jh_ HM6.out f;rw[HSN.out] at ha6;obtain⟨W8,es8,hu8,hms8,hm8,hr8,hd8⟩:=x9_ AJ.out.new (hm6.mono (S':=[r,p,m]) (by simp)) hr6 HD6.out HM6.out HSN.out;have HM8:=hiD hms8;have HR8:=hiD hr8;have HD8:=hiD hd8;have HMM8:=hiD hm8;have HB8:=hiD (Mods.bel AJ.out.bel hm8 HN3.out);clear hms8 hr8 hd8 hm8)|(go_at_call 114;refine(k9_ f _).mono ?_;rintro e w7 ⟨rfl,rfl⟩)|(go_at_call 115;refine(k8_ r p d f _ (hw.keep HB8.out) HO.out (Nat.lt_of_lt_of_le HRL.out HMM8.out.size) AJ.out.new.2.2.2.1 HD8.out).mono ?_;rintro e w9 ⟨m2,v2,rfl,hb9,hlk9,hdo⟩;rw[HF.out] at hlk9;obtain⟨fid,cap,rfl,hent,hcall⟩:=hdo HF.out;have HC:=hiD (hcall t' (HR8.out.below hb9) (AJ.out.short.suffix HSU.out) (by omega));rw[HFL.out] at HC;clear hdo hcall)|((with_reducible refine HC.out.mono ?_);rintro e w10 ⟨hm10,hx10⟩;obtain rfl:=hx10))
          go_ret
          rw[Hf.out]
          exact⟨Mods.bel (tQ HB8.out hb9) hm10 (by have:=AJ.out.new;intro x hx;simp at hx;omega),rfl⟩
         |some z=>
          obtain⟨d',t''⟩:=z
          have hR0:R=xy_ q d' (f::seen) t'':=by rw[HS.out,hfl]
          have hfs:=yc_ hfl
          have Hf:=hiD hR0
          have HFL:=hiD hfl
          have HFS:=hiD hfs
          clear hR0 HS hfl hfs
          go_wp2_with (first|(go_at_call 112;(with_reducible refine(qj_ r l' [41] _ AJ.out.rd H41.out).mono ?_);rintro e w5 ⟨rfl,rfl⟩)|(go_at_call 113;(with_reducible refine(zx_ r l' t' f _ (AJ.out.env hw) AJ.out.rd HP.out).mono ?_);rintro e w6 ⟨rfl,hr6,hm6⟩;obtain⟨hd6,⟨v13,c13⟩,f13,es6,cl6,hms6⟩:=HF6.out w6 hm6;have HM6:=hiD hms6;have HD6:=hiD hd6;clear hms6 hd6;have ha6:=jh_ HM6.out f;rw[HSN.out] at ha6;obtain⟨W8,es8,hu8,hms8,hm8,hr8,hd8⟩:=x9_ AJ.out.new (hm6.mono (S':=[r,p,m]) (by simp)) hr6 HD6.out HM6.out HSN.out;have HM8:=hiD hms8;have HR8:=hiD hr8;have HD8:=hiD hd8;have HMM8:=hiD hm8;have HB8:=hiD (Mods.bel AJ.out.bel hm8 HN3.out);clear hms8 hr8 hd8 hm8)|(go_at_call 114;refine(k9_ f _).mono ?_;rintro e w7 ⟨rfl,rfl⟩)|(go_at_call 115;refine(k8_ r p d f _ (hw.keep HB8.out) HO.out (Nat.lt_of_lt_of_le HRL.out HMM8.out.size) AJ.out.new.2.2.2.1 HD8.out).mono ?_;rintro e w9 ⟨m2,v2,rfl,hb9,hlk9,hdo⟩;rw[HF.out] at hlk9;obtain⟨fid,cap,rfl,hent,hcall⟩:=hdo HF.out;have HC:=hiD (hcall t' (HR8.out.below hb9) (AJ.out.short.suffix HSU.out) (by omega));rw[HFL.out] at HC;clear hdo hcall)|((with_reducible refine HC.out.mono ?_);rintro e w10 ⟨hm10,hx10⟩;obtain⟨rfl,hr10,hd10⟩:=hx10))
          go_roundg q
          case measure=>omega
          case rel=>
           refine⟨d',f::seen,t'',?_⟩
           have hl2:t''.length≤t'.length:=HFS.out.1.sublist.length_le
           have hnn:=AJ.out.new
           exact AJ.out.go (by omega) (HFS.out.1.trans HSU.out) (HFS.out.2.trans AJ.out.dc) ((HMM8.out.trans (Mods.of_below hb9 _)).trans (hm10.mono (by simp))) hr10 hd10 ⟨_,_,(HM8.out.below hb9).mods hm10 (by simp;omega)⟩ Hf.out.symm
       ·rw[hsn] at HS
        simp only[if_true] at HS
        have HSN:=hiD hsn
        clear hsn
        go_wp2_with (first|(go_at_call 112;(with_reducible refine(qj_ r l' [41] _ AJ.out.rd H41.out).mono ?_);rintro e w5 ⟨rfl,rfl⟩)|(go_at_call 113;(with_reducible refine(zx_ r l' t' f _ (AJ.out.env hw) AJ.out.rd HP.out).mono ?_);rintro e w6 ⟨rfl,hr6,hm6⟩;obtain⟨hd6,⟨v13,c13⟩,f13,es6,cl6,hms6⟩:=HF6.out w6 hm6;have HM6:=hiD hms6;have HD6:=hiD hd6;clear hms6 hd6;have ha6:=jh_ HM6.out f;rw[HSN.out] at ha6)|(go_at_call 114;refine(k9_ f _).mono ?_;rintro e w7 ⟨rfl,rfl⟩))
        go_ret
        rw[HS.out]
        exact⟨Mods.bel AJ.out.bel (hm6.alloc _) (by have:=AJ.out.new;intro x hx;simp at hx;omega),rfl⟩
   ·have H41:=hiD h41
    have hend:=zeg_ (n:=q) (d:=d) (seen:=seen) h41
    rw[AJ.out.rest] at hend
    clear h41
    by_cases ht:l'.tail=[]
    ·rw[if_pos ht] at hend
     have Hf:=hiD hend
     have HTL:=hiD ht
     have HNN:=hiD AJ.out.new
     clear hend ht
     go_wp2_with (first|(go_at_call 112;(with_reducible refine(j2_ r l' [41] _ AJ.out.rd H41.out).mono ?_);rintro e w5 ⟨rfl,hr5,hg5⟩;have hr5':RdW w5 r []:=(by rw[← HTL.out];exact hr5);obtain⟨A5,c5,hB5,_,_⟩:=hr5'.at;have c50:=hB5.cell 0;simp at c50;have HR5:=hiD hr5';clear hr5' hB5 hr5))
     go_ret
     rw[Hf.out]
     have hm5:Mods [r] wr w5:=Mods.of_grown hg5 (List.mem_singleton_self _)
     exact⟨Mods.bel AJ.out.bel hm5 (by have:=HNN.out;intro x hx;simp at hx;omega),p,rfl,HNN.out.2.1,AJ.out.df.modr AJ.out.rd HNN.out.2.2.2.1 hm5⟩
    ·rw[if_neg ht] at hend
     have Hf:=hiD hend
     have hlp:0<l'.tail.length:=List.length_pos_iff.2 ht
     obtain⟨tl,htl⟩:∃ tl,l'.tail=tl:=⟨_,rfl⟩
     rw[htl] at hlp
     have HTL:=hiD htl
     have hlp2:(0:Int)<(tl.length:Int):=by omega
     clear hend ht htl
     go_wp2_with (first|(go_at_call 112;(with_reducible refine(j2_ r l' [41] _ AJ.out.rd H41.out).mono ?_);rintro e w5 ⟨rfl,hr5,hg5⟩;rw[HTL.out] at hr5;obtain⟨A5,c5,hB5,_,_⟩:=hr5.at;have c50:=hB5.cell 0;simp only[List.getElem?_toArray,List.getElem?_cons_zero] at c50;clear hB5 hr5))
     go_ret
     rw[Hf.out]
     exact⟨Mods.bel AJ.out.bel (Mods.of_grown hg5 (List.mem_singleton_self _)) (by have:=AJ.out.new;intro x hx;simp at hx;omega),rfl⟩
end Go.Proofs.YtakfpngfpknedaaGreatDoor
