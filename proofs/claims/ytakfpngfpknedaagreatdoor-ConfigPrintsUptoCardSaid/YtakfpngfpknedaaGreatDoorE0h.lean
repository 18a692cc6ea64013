import Derived.Test.YtakfpngfpknedaaGreatDoorE0g
import Derived.ScopeJumps
set_option linter.all false
set_option maxHeartbeats 8000000
set_option maxRecDepth 100000
namespace Go.Proofs.YtakfpngfpknedaaGreatDoor
open Go.RowKit
def zhn_ (w:World) (o:Option (List Wd)) (e:Ending) (w':World):Prop:=Bel w w'∧∃ v,e= .returned (.tuple #[v,.bool o.isSome])∧Wds w.heap.size w' v (o.getD [])
structure WJ (w:World) (s:LU) (R:Option (List Wd)) (k:Nat) (acc:List Wd) (out:Value) (w':World):Prop where
 le:k≤s.length
 own:Wds w.heap.size w' out acc
 num:acc.length≤k
 bel:Bel w w'
 rest:qx_ (s.length+1) (s.drop k) acc=R
theorem z2w_ (l:LU) (k:Nat):sub l k l.length=l.drop k:=by unfold sub;exact List.take_of_length_le (by simp)
theorem z7x_ (l:LU) (k q:Nat):sub l k (k+q)=(l.drop k).take q:=by unfold sub;rw[show k+q - k=q by omega]
theorem z28_ (cs:LU) (w:World):Calls Tryz.prog 175 #[.string ⟨cs.toArray⟩,.int .u8 39] w fun e w'=>e= .returned (.int .i64 (Lib.indexByte cs 39))∧w=w':=zq_ cs 39 w
theorem z1z_ {P:Program} {a:Act} {w:World} {Q:Exit→Act→World→Prop} {c rest:Code} (l:Nat) (J:Act→World→Prop) (μ:Act→World→Nat) (hf:findLabel c l=some (Code.skip.seq rest))
  (first:∀ Q',(∀ a w,J a w→rest.wp P Q' a w)→c.wp P Q' a w)
  (pass:∀ a w,J a w→rest.wp P (Exit.jump l (fun a' w'=>J a' w'∧μ a' w'<μ a w) Q) a w):(Code.scope c).wp P Q a w:=by
 refine wp_scope_jumps l J μ hf (first _ fun a w h=>Code.wp_mono ?_ (pass a w h)) (fun a w h=>wp_seq (wp_skip (pass a w h)))
 intro e a' w' he
 cases e with
 |goto l'=>exact⟨he.1,he.2.1⟩
 |_=>exact he
theorem zjq_ {s:LU} {k m:Nat} (hlt:m<s.length) (hb:zw_ s[m]=true) (h:(s.drop k).dropWhile zw_=(s.drop m).dropWhile zw_):(s.drop k).dropWhile zw_=(s.drop (m+1)).dropWhile zw_:=by
 rw[h,List.drop_eq_getElem_cons hlt,List.dropWhile_cons,if_pos hb]
theorem zkz_ {s:LU} {k m:Nat} (hlt:m<s.length) (hb:¬ zw_ s[m]=true) (h:(s.drop k).dropWhile zw_=(s.drop m).dropWhile zw_):(s.drop k).dropWhile zw_=s[m]::s.drop (m+1):=by
 rw[h,List.drop_eq_getElem_cons hlt,List.dropWhile_cons,if_neg hb]
theorem wj_end {s:LU} {k:Nat} (h:(s.drop k).dropWhile zw_=(s.drop s.length).dropWhile zw_):(s.drop k).dropWhile zw_=[]:=by
 rw[h,List.drop_length];rfl
theorem zgn_ {w w' w'':World} {s:LU} {R:Option (List Wd)} {k m:Nat} {acc:List Wd} {out out':Value} (h:WJ w s R k acc out w') (hkm:k≤m) (hlt:m<s.length) (hd:(s.drop k).dropWhile zw_=s[m]::s.drop (m+1)) (hc:s[m]=39) (hq:(s.drop (m+1)).contains 39=true)
  (ho:Wds w.heap.size w'' out' (acc++[((s.drop (m+1)).takeWhile (· !=39),true)])) (hb:Bel w w''):WJ w s R (m+(((s.drop (m+1)).takeWhile (· !=39)).length+2)) (acc++[((s.drop (m+1)).takeWhile (· !=39),true)]) out' w'':=by
 have hl:=(z26_ _ _ hq).2
 rw[List.length_drop] at hl
 refine⟨by omega,ho,by have:=h.num;simp;omega,hb,?_⟩
 have hr:=h.rest
 rw[vo_ _ acc (by rw[List.length_drop];omega) hd,hc,if_pos (show ((39:UInt8)==39)=true from rfl),if_pos hq] at hr
 rw[← hr]
 congr 1
 rw[← yd_,List.tail_drop,List.drop_drop]
 congr 1
 omega
theorem zaf_ {w w':World} {s:LU} {R:Option (List Wd)} {k m:Nat} {acc:List Wd} {out:Value} (h:WJ w s R k acc out w') (hlt:m<s.length) (hd:(s.drop k).dropWhile zw_=s[m]::s.drop (m+1)) (hc:s[m]=39) (hq:(s.drop (m+1)).contains 39=false):R=none:=by
 have hr:=h.rest
 rw[vo_ _ acc (by rw[List.length_drop];omega) hd,hc,if_pos (show ((39:UInt8)==39)=true from rfl),hq] at hr
 exact hr.symm
theorem zi5_ {w w' w'':World} {s:LU} {R:Option (List Wd)} {k m:Nat} {acc:List Wd} {out out':Value} (h:WJ w s R k acc out w') (hkm:k≤m) (hlt:m<s.length) (hd:(s.drop k).dropWhile zw_=s[m]::s.drop (m+1)) (hc:s[m]≠39) (ha:ki_ s[m]=true)
  (ho:Wds w.heap.size w'' out' (acc++[([s[m]],false)])) (hb:Bel w w''):WJ w s R (m+1) (acc++[([s[m]],false)]) out' w'':=by
 refine⟨by omega,ho,by have:=h.num;simp;omega,hb,?_⟩
 have hr:=h.rest
 rw[vo_ _ acc (by rw[List.length_drop];omega) hd,if_neg (by simpa using hc),if_pos ha] at hr
 exact hr
theorem z9h_ {w w' w'':World} {s:LU} {R:Option (List Wd)} {k m:Nat} {acc:List Wd} {out out':Value} (h:WJ w s R k acc out w') (hkm:k≤m) (hlt:m<s.length) (hd:(s.drop k).dropWhile zw_=s[m]::s.drop (m+1)) (hc:s[m]≠39) (ha:¬ ki_ s[m]=true) {q:Nat} (hq:q=((s.drop m).takeWhile (fun c=>!xe_ c)).length)
  (hs:xe_ s[m]=false) (ho:Wds w.heap.size w'' out' (acc++[((s.drop m).take q,false)])) (hb:Bel w w''):0<q∧WJ w s R (m+q) (acc++[((s.drop m).take q,false)]) out' w'':=by
 have hle:q≤s.length - m:=by
  rw[hq,← List.length_drop]
  exact(List.takeWhile_sublist _).length_le
 have hdm:s.drop m=s[m]::s.drop (m+1):=List.drop_eq_getElem_cons hlt
 have htw:(s.drop m).takeWhile (fun c=>!xe_ c)=s[m]::(s.drop (m+1)).takeWhile (fun c=>!xe_ c):=by
  rw[hdm,List.takeWhile_cons,hs]
  simp
 have hq1:q=((s.drop (m+1)).takeWhile (fun c=>!xe_ c)).length+1:=by rw[hq,htw];rfl
 refine⟨by omega,by omega,ho,by have:=h.num;simp;omega,hb,?_⟩
 have hr:=h.rest
 rw[vo_ _ acc (by rw[List.length_drop];omega) hd,if_neg (by simpa using hc),if_neg ha] at hr
 rw[← hr]
 have e1:(s.drop m).take q=s[m]::(s.drop (m+1)).takeWhile (fun c=>!xe_ c):=by rw[hq,yb_,htw]
 have e2:s.drop (m+q)=(s.drop (m+1)).dropWhile (fun c=>!xe_ c):=by
  rw[← yd_,List.drop_drop,hq1]
  congr 1
  omega
 rw[e1,e2]
def WordsJ (w:World) (s:LU) (R:Option (List Wd)) (a':Act) (w':World):Prop:=∃ (k:Nat) (acc:List Wd) (out:Value) (u6 u7 u8 u9 u10 u11 u12 u13 u14 u15 u16 u17 u18 u19 u20 u21 u22 u23 u24 u25 u26 u27 u28 u29 u30 u31 u32 u33 u34 u35 u36 u37 u38 u39 u40 u41 u42 u43 u44 u45 u46 u47 u48 u49 u50 u51 u52 u53 u54 u55 u56 u57 u58 u59 u60 u61 u62 u63 u64 u65 u66 u67 u68 u69 u70 u71 u72 u73 u74 u75 u76 u77 u78 u79 u80 u81 u82 u83 u84 u85 u86 u87 u88 u89 u90 u91 u92 u93 u94 u95 u96:Value),a'={tmps:=#[.string ⟨s.toArray⟩,undef,.slice none 0 0,.bool false,out,.int .i64 k,u6,u7,u8,u9,u10,u11,u12,u13,u14,u15,u16,u17,u18,u19,u20,u21,u22,u23,u24,u25,u26,u27,u28,u29,u30,u31,u32,u33,u34,u35,u36,u37,u38,u39,u40,u41,u42,u43,u44,u45,u46,u47,u48,u49,u50,u51,u52,u53,u54,u55,u56,u57,u58,u59,u60,u61,u62,u63,u64,u65,u66,u67,u68,u69,u70,u71,u72,u73,u74,u75,u76,u77,u78,u79,u80,u81,u82,u83,u84,u85,u86,u87,u88,u89,u90,u91,u92,u93,u94,u95,u96],defers:=[]}∧WJ w s R k acc out w'
def z6s_ (s:LU) (a':Act):Nat:=s.length - (intOf (a'.tmps.getD 5 undef)).toNat
theorem z9g_ {l:Nat} {J:Act→World→Prop} {Q:Exit→Act→World→Prop} {a:Act} {w:World}:Exit.jump l J Q .ret a w=Q .ret a w:=rfl
theorem ve_ {l:Nat} {J:Act→World→Prop} {Q:Exit→Act→World→Prop} {a:Act} {w:World} (h:J a w):Exit.jump l J Q (.goto l) a w:=⟨rfl,h⟩
theorem v8_ {B:Nat} {W w w':World} {v:Value} {l:List Wd} (hb:Below B W w) (hO:Wds B w v l) (hg:w.grownBy w' v.ownBlock):Below B W w':=hb.grown hg hO.2 (fun k hk=>(hO.lt k hk).1)
theorem zjs_ (s:LU) (m:Nat) (h:m<s.length):sub s m (m+1)=[s[m]]:=by
 rw[z7x_,List.drop_eq_getElem_cons h]
 rfl
theorem zdk_ (s:LU) (w:World) (hs:s.length≤1000000):
  Calls Tryz.prog 111 #[.string ⟨s.toArray⟩] w (zhn_ w (yh_ s)):=by
 obtain⟨R,hR⟩:∃ R,yh_ s=R:=⟨_,rfl⟩
 rw[hR]
 have HR0:=hiD hR
 clear hR
 have hget:=qb_
 have hext:=z0x_
 go_enter Tryz.func111,Tryz.ntmps111
 go_wp2_with fail
 refine z1z_ 0 (WordsJ w s R) (fun a' _=>z6s_ s a') rfl ?_ ?_
 ·intro Q' HQ
  have HQ1:=hiD HQ
  clear HQ
  go_wp2_with fail
  go_step3
  rename_i K hK
  refine hK _ _ (HQ1.out _ _ ?_)
  exact⟨0,[],_,_,_,_,_,_,_,_,_,_,_,_,_,_,_,_,_,_,_,_,_,_,_,_,_,_,_,_,_,_,_,_,_,_,_,_,_,_,_,_,_,_,_,_,_,_,_,_,_,_,_,_,_,_,_,_,_,_,_,_,_,_,_,_,_,_,_,_,_,_,_,_,_,_,_,_,_,_,_,_,_,_,_,_,_,_,_,_,_,_,_,_,rfl,⟨Nat.zero_le _,Wds.nil (nR _),by simp,bR _ _,by rw[List.drop_zero];exact HR0.out⟩⟩
 ·rintro a' wj ⟨k,acc,out,u6,u7,u8,u9,u10,u11,u12,u13,u14,u15,u16,u17,u18,u19,u20,u21,u22,u23,u24,u25,u26,u27,u28,u29,u30,u31,u32,u33,u34,u35,u36,u37,u38,u39,u40,u41,u42,u43,u44,u45,u46,u47,u48,u49,u50,u51,u52,u53,u54,u55,u56,u57,u58,u59,u60,u61,u62,u63,u64,u65,u66,u67,u68,u69,u70,u71,u72,u73,u74,u75,u76,u77,u78,u79,u80,u81,u82,u83,u84,u85,u86,u87,u88,u89,u90,u91,u92,u93,u94,u95,u96,rfl,hJ⟩
  have HJ:=hiD hJ
  have hkl:=hJ.le
  have hnum:=hJ.num
  obtain⟨Ao,co,rfl,hco⟩:=hJ.own.isSlice
  have HB:=hiD hJ.bel
  clear hJ HR0
  go_wp2_with fail
  go_loopg [5] (s.length - k) (fun gk t wr2=>∃ m:Nat,k≤m∧m≤s.length∧t= .int .i64 m∧Aside (m+gk=s.length)∧Aside (wr2=wj)∧Aside ((s.drop k).dropWhile zw_=(s.drop m).dropWhile zw_))
  case atStart=>exact⟨k,nR _,hkl,rfl,by show _=_;omega,rfl,rfl⟩
  case round=>
   obtain⟨m,hkm,hm,rfl,AG,AW,AD⟩:=hrel
   obtain rfl:wr=wj:=AW.out
   clear AW
   by_cases hlt:m<s.length
   ·by_cases hb:zw_ s[m]=true
    ·obtain⟨q,rfl⟩:∃ q,gk=q+1:=⟨gk - 1,by have:=AG.out;omega⟩
     have hge:=(z31_ s[m]).1 hb
     have HD:=hiD (zjq_ hlt hb AD.out)
     clear AD hb
     go_wp2_with (go_at_call 175;(with_reducible refine(zq_ [32,9,10,13] s[m] _).mono ?_);rintro e w1 ⟨rfl,rfl⟩)
     go_roundg q
     case measure=>omega
     case rel=>exact⟨m+1,by omega,by omega,by go_num,by have:=AG.out;show _=_;omega,rfl,HD.out⟩
    ·have hge:¬ 0≤Lib.indexByte [32,9,10,13] s[m]:=fun h=>hb ((z31_ s[m]).2 h)
     have HD:=hiD (zkz_ hlt hb AD.out)
     have hne:((m:Int)==(s.length:Int))=false:=by rw[beq_eq_false_iff_ne];omega
     have HBL:=hiD hb
     clear AD AG hb
     by_cases hq:s[m]=39
     ·have hqi:((s[m].toNat:Int)==39)=true:=by rw[hq];rfl
      have he:=z2w_ s (m+1)
      have HQ:=hiD hq
      clear hq
      cases hc:(s.drop (m+1)).contains 39
      ·have hix:=z77_ _ _ hc
       have HR:=hiD (zaf_ HJ.out hlt HD.out HQ.out hc)
       clear hc
       go_wp2_with (first|(go_at_call 175;(with_reducible refine(zq_ [32,9,10,13] s[m] _).mono ?_);rintro e w1 ⟨rfl,rfl⟩)|(go_at_call 175;(with_reducible refine(z28_ (s.drop (m+1)) _).mono ?_);rintro e w1 ⟨rfl,rfl⟩))
       rw[z9g_]
       go_ret2
       rw[HR.out]
       exact⟨HB.out,_,rfl,Wds.nil HB.out.size⟩
      ·obtain⟨hix,hl2⟩:=z26_ _ _ hc
       have HC:=hiD hc
       obtain⟨W,hW⟩:∃ W,(s.drop (m+1)).takeWhile (· !=39)=W:=⟨_,rfl⟩
       rw[hW] at hix hl2
       have he2:sub s (m+1) (m+1+W.length)=W:=by rw[z7x_,← hW,yb_]
       rw[List.length_drop] at hl2
       have HW:=hiD hW
       clear hc hW
       go_wp2_with (first|(go_at_call 175;(with_reducible refine(zq_ [32,9,10,13] s[m] _).mono ?_);rintro e w1 ⟨rfl,rfl⟩)|(go_at_call 175;(with_reducible refine(z28_ (s.drop (m+1)) _).mono ?_);rintro e w1 ⟨rfl,rfl⟩)|(go_at_call 22;refine(z0e_ W _ (by omega)).mono ?_;rintro e w2 ⟨rfl,hb2⟩;have hO2:=HJ.out.own.below hb2;have hB2:=tQ HB.out hb2)|(at_builtin;refine z52_ (t:=W) (q:=true) rfl _ _ rfl rfl hO2 rfl rfl (by omega) ?_;intro v' w3 hO3 hg3)|go_step3)
       have hWJ:=zgn_ (w'':=w3) (out':=v') HJ.out hkm hlt HD.out HQ.out HC.out (by rw[HW.out];exact hO3) (v8_ hB2 hO2 hg3)
       rw[HW.out] at hWJ
       have e5:Value.int .i64 ((m:Int)+((W.length:Int)+2))= .int .i64 ((m+(W.length+2):Nat):Int):=by go_num
       rw[e5]
       exact ve_ ⟨⟨_,_,_,_,_,_,_,_,_,_,_,_,_,_,_,_,_,_,_,_,_,_,_,_,_,_,_,_,_,_,_,_,_,_,_,_,_,_,_,_,_,_,_,_,_,_,_,_,_,_,_,_,_,_,_,_,_,_,_,_,_,_,_,_,_,_,_,_,_,_,_,_,_,_,_,_,_,_,_,_,_,_,_,_,_,_,_,_,_,_,_,_,_,_,rfl,hWJ⟩,by simp [z6s_,intOf];omega⟩
     ·have hqi:((s[m].toNat:Int)==39)=false:=by
       rw[beq_eq_false_iff_ne]
       intro h
       exact hq (UInt8.toNat.inj (by show _=39;omega))
      by_cases ha:ki_ s[m]=true
      ·have hai:=(z40_ s[m]).1 ha
       have he3:=zjs_ s m hlt
       have HQ:=hiD hq
       have HA:=hiD ha
       clear hq ha
       have hO2:=HJ.out.own
       go_wp2_with (first|(go_at_call 175;(with_reducible refine(zq_ [32,9,10,13] s[m] _).mono ?_);rintro e w1 ⟨rfl,rfl⟩)|(go_at_call 175;(with_reducible refine(zq_ [40,41,36] s[m] _).mono ?_);rintro e w1 ⟨rfl,rfl⟩)|(at_builtin;refine z52_ (t:=[s[m]]) (q:=false) rfl _ _ rfl rfl hO2 rfl rfl (by omega) ?_;intro v' w3 hO3 hg3)|go_step3)
       have hWJ:=zi5_ (w'':=w3) (out':=v') HJ.out hkm hlt HD.out HQ.out HA.out hO3 (v8_ HB.out hO2 hg3)
       have e5:Value.int .i64 ((m:Int)+1)= .int .i64 ((m+1:Nat):Int):=by go_num
       rw[e5]
       exact ve_ ⟨⟨_,_,_,_,_,_,_,_,_,_,_,_,_,_,_,_,_,_,_,_,_,_,_,_,_,_,_,_,_,_,_,_,_,_,_,_,_,_,_,_,_,_,_,_,_,_,_,_,_,_,_,_,_,_,_,_,_,_,_,_,_,_,_,_,_,_,_,_,_,_,_,_,_,_,_,_,_,_,_,_,_,_,_,_,_,_,_,_,_,_,_,_,_,_,rfl,hWJ⟩,by simp [z6s_,intOf];omega⟩
      ·have hai:¬ 0≤Lib.indexByte [40,41,36] s[m]:=fun h=>ha ((z40_ s[m]).2 h)
       have he:=z2w_ s m
       have hst:xe_ s[m]=false:=by
        have h1:zw_ s[m]=false:=by simpa using HBL.out
        have h2:ki_ s[m]=false:=by simpa using ha
        have h3:(s[m]==39)=false:=beq_eq_false_iff_ne.2 hq
        unfold xe_
        rw[h1,h2,h3]
        rfl
       obtain⟨q,hqd⟩:∃ q,q=((s.drop m).takeWhile (fun c=>!xe_ c)).length:=⟨_,rfl⟩
       have hqle:q≤s.length - m:=by rw[hqd,← List.length_drop];exact(List.takeWhile_sublist _).length_le
       have he2:sub s m (m+q)=(s.drop m).take q:=z7x_ s m q
       have hlq:((s.drop m).take q).length≤1000000:=by simp;omega
       have HQ:=hiD hq
       have HA:=hiD ha
       have HST:=hiD hst
       have HQD:=hiD hqd
       have hIA:=fun W=>zbr_ (s.drop m) W (by simp;omega)
       have HIA:=hiD hIA
       clear hq ha hst hIA
       cases hc:(s.drop m).any stopCs.contains
       ·have hx:=z6f_ stopCs _ hc
        rw[← z9z_] at hx
        have hqe:q=s.length - m:=by rw[hqd,hx.2,List.length_drop]
        have hix:=hx.1
        clear hx hqd hc
        subst hqe
        have htk:(s.drop m).take (s.length - m)=s.drop m:=List.take_of_length_le (by simp)
        have HTK:=hiD htk
        rw[htk] at he2 hlq
        clear htk
        go_wp2_with (first|(go_at_call 175;(with_reducible refine(zq_ [32,9,10,13] s[m] _).mono ?_);rintro e w1 ⟨rfl,rfl⟩)|(go_at_call 175;(with_reducible refine(zq_ [40,41,36] s[m] _).mono ?_);rintro e w1 ⟨rfl,rfl⟩)|(go_at_call 176;refine(HIA.out _).mono ?_;rintro e w1 ⟨rfl,hb1⟩;have hO1:=HJ.out.own.below hb1;have hB1:=tQ HB.out hb1)|(go_at_call 22;refine(z0e_ (s.drop m) _ (by omega)).mono ?_;rintro e w2 ⟨rfl,hb2⟩;have hO2:=hO1.below hb2;have hB2:=tQ hB1 hb2)|(at_builtin;refine z52_ (t:=s.drop m) (q:=false) rfl _ _ rfl rfl hO2 rfl rfl (by omega) ?_;intro v' w3 hO3 hg3)|go_step3)
        obtain⟨hq0,hWJ⟩:=z9h_ (w'':=w3) (out':=v') HJ.out hkm hlt HD.out HQ.out HA.out HQD.out HST.out (by rw[HTK.out];exact hO3) (v8_ hB2 hO2 hg3)
        have e5:Value.int .i64 ((m:Int)+((s.length:Int) - (m:Int)))= .int .i64 ((m+(s.length - m):Nat):Int):=by congr 1;omega
        rw[e5]
        exact ve_ ⟨⟨_,_,_,_,_,_,_,_,_,_,_,_,_,_,_,_,_,_,_,_,_,_,_,_,_,_,_,_,_,_,_,_,_,_,_,_,_,_,_,_,_,_,_,_,_,_,_,_,_,_,_,_,_,_,_,_,_,_,_,_,_,_,_,_,_,_,_,_,_,_,_,_,_,_,_,_,_,_,_,_,_,_,_,_,_,_,_,_,_,_,_,_,_,_,rfl,by rw[HTK.out] at hWJ;exact hWJ⟩,by simp [z6s_,intOf];omega⟩
       ·obtain⟨hix,hql⟩:=z60_ stopCs _ hc
        rw[← z9z_,← hqd] at hix hql
        clear hqd hc
        go_wp2_with (first|(go_at_call 175;(with_reducible refine(zq_ [32,9,10,13] s[m] _).mono ?_);rintro e w1 ⟨rfl,rfl⟩)|(go_at_call 175;(with_reducible refine(zq_ [40,41,36] s[m] _).mono ?_);rintro e w1 ⟨rfl,rfl⟩)|(go_at_call 176;refine(HIA.out _).mono ?_;rintro e w1 ⟨rfl,hb1⟩;have hO1:=HJ.out.own.below hb1;have hB1:=tQ HB.out hb1)|(go_at_call 22;refine(z0e_ ((s.drop m).take q) _ (by omega)).mono ?_;rintro e w2 ⟨rfl,hb2⟩;have hO2:=hO1.below hb2;have hB2:=tQ hB1 hb2)|(at_builtin;refine z52_ (t:=(s.drop m).take q) (q:=false) rfl _ _ rfl rfl hO2 rfl rfl (by omega) ?_;intro v' w3 hO3 hg3)|go_step3)
        obtain⟨hq0,hWJ⟩:=z9h_ (w'':=w3) (out':=v') HJ.out hkm hlt HD.out HQ.out HA.out HQD.out HST.out hO3 (v8_ hB2 hO2 hg3)
        have e5:Value.int .i64 ((m:Int)+(q:Int))= .int .i64 ((m+q:Nat):Int):=by go_num
        rw[e5]
        exact ve_ ⟨⟨_,_,_,_,_,_,_,_,_,_,_,_,_,_,_,_,_,_,_,_,_,_,_,_,_,_,_,_,_,_,_,_,_,_,_,_,_,_,_,_,_,_,_,_,_,_,_,_,_,_,_,_,_,_,_,_,_,_,_,_,_,_,_,_,_,_,_,_,_,_,_,_,_,_,_,_,_,_,_,_,_,_,_,_,_,_,_,_,_,_,_,_,_,_,rfl,hWJ⟩,by simp [z6s_,intOf];omega⟩
   ·obtain rfl:m=s.length:=by omega
    have hw0:=wj_end AD.out
    have hR:R=some acc:=by rw[← HJ.out.rest,zbi_ _ _ hw0]
    have HR:=hiD hR
    clear hR AD AG hw0
    go_wp2_with fail
    rw[z9g_]
    go_ret2
    rw[HR.out]
    exact⟨HB.out,_,rfl,HJ.out.own⟩
open Go.RowKit
theorem eq_kvS (W:World) (a b:Bool × LU):(Op.equal 168 (kvS a) (kvS b)).run Tryz.prog W= .ok (decide (a=b)) W:=by
 obtain⟨p,a⟩:=a
 obtain⟨q,b⟩:=b
 have u9:=Tryz.underlying9
 have a9:=Tryz.isAgg9
 have z9:=Tryz.sizeOf9
 have u4:=Tryz.underlying4
 have a4:=Tryz.isAgg4
 have z4:=Tryz.sizeOf4
 have hS:Tryz.prog.underlying 168=some (.struct (Tryz.prog.fieldsOf 168)):=by kernel_rfl
 have hp:Tryz.prog.stoodInHeld 168=false:=by kernel_rfl
 unfold Op.equal Op.maxDepth kvS
 rw[run_equalIn_agg W 9999 168 _ _ hS hp]
 simp only[Program.fieldsOf,Tryz.underlying168]
 go_simp
 by_cases h1:a=b<;>by_cases h2:p=q<;>simp [h1,h2]
theorem z6y_ (b:Bool) (w:World) (k:Bool × LU):(Instr.checkKey b 10000 168 (kvS k)).run Tryz.prog w= .ok () w:=by
 unfold kvS
 kernel_rfl
theorem z58_:z6c_ Tryz.prog 168 kvS:=z0n_ Tryz.underlying168 (fun a b=>by simp [Instr.sameNow]) eq_kvS
theorem z8x_ (w:World) (m c:Nat) (es:Array MapEntry) (R:List ((Bool × LU) × Value)) (hw:w.heap[m]?=some (.map es c)) (h:MapR kvS es R) (k:Bool × LU):
  (Instr.lookup 114 (.map (some m)) (kvS k) false).run Tryz.prog w= .ok ((qe_ R k).getD (.pointer none)) w:=
 zhi_ Tryz.underlying114 z58_ z6y_ (fun w=>by kernel_rfl) w m c es R hw h k
theorem q7_ {w w':World} (h:Below w.drew.heap.size w.drew w'):Bel w w':=⟨h.os,h.tape,h.output,h.size,h.block⟩
def zkx_ (ps:List Nat) (o:Option Nat):Value:=match o with
 |none=> .pointer none
 |some j=>z7_ (ps.getD j 0)
theorem zh5_ (s m c:Nat) (lv:Value) (es:Array MapEntry) (R:List ((Bool × LU) × Value)) (cl:Bool) (n:LU) (w:World) (hB:Bk w s 117 #[lv,.map (some m)]) (hm:w.heap[m]?=some (.map es c)) (h:MapR kvS es R) (hn:n.length≤140737488351232):
  Calls Tryz.prog 119 #[z7_ s,.bool cl,.string ⟨n.toArray⟩] w fun e w'=>e= .returned ((qe_ R (cl,z2_ n)).getD (.pointer none))∧Bel w w':=by
 have c1:w.cell? ⟨s,1,none⟩=some (.map (some m)):=hB.cell 1
 have hlt:=hB.lt
 have HLK:=hiD (fun (W:World) (hb:Bel w W)=>z8x_ W m c es R ((hb.block m (Array.getElem?_eq_some_iff.1 hm).1).trans hm) h (cl,z2_ n))
 unfold kvS at HLK
 generalize (qe_ R (cl,z2_ n)).getD (.pointer none)=V at HLK ⊢
 clear hm h hB
 unfold z7_
 go_enter Tryz.func119,Tryz.ntmps119
 go_wp2_with fail
 go_region_held3 (fun w'=>w'.cell? ⟨s,1,none⟩=some (.map (some m))) (first|exact c1|exact c1') ((go_at_call 116;refine(xt_ n _ (by omega)).mono ?_;rintro e w2 ⟨rfl,hb2x⟩;have hb2:=q7_ hb2x;clear hb2x;have c1':w2.cell? ⟨s,1,none⟩=some (.map (some m)):=(hb2.cell (p:=⟨s,1,none⟩) hlt).trans c1;have hlk:=HLK.out w2 hb2))
 all_goals
  go_wp2_with fail
  go_ret
  exact⟨rfl,hb2⟩
theorem z8f_ (s:Nat) (ps:List Nat) (L:List DefS) (c:Bool) (n:LU) (w:World) (h:SchAt w s ps L) (hn:n.length≤140737488351232):
  Calls Tryz.prog 119 #[z7_ s,.bool c,.string ⟨n.toArray⟩] w fun e w'=>e= .returned (zkx_ ps (zk_ L c n))∧Bel w w':=by
 obtain⟨⟨lv,m,es,cn,h1,h2,h3,h4⟩,h5,h6,h7⟩:=h
 have:=zh5_ s m cn lv es _ c n w h1 h3 h4 hn
 rw[z6m_ ps L h5 c n] at this
 cases hf:zk_ L c n<;>rw[hf] at this<;>exact this
theorem z5j_ (s:Nat) (ps:List Nat) (L:List DefS) (c:Bool) (n:LU) (w:World) (h:SchAt w s ps L) (hn:n.length≤1000000):
  Calls Tryz.prog 119 #[z7_ s,.bool c,.string ⟨n.toArray⟩] w fun e w'=>e= .returned (zkx_ ps (zk_ L c n))∧Bel w w':=
 z8f_ s ps L c n w h (nT hn (by decide))
theorem zje_ (p:Nat) (d:DefS) (w:World) (h:DefAt w p d):Calls Tryz.prog 194 #[z7_ p] w fun e w'=>e= .returned (.string ⟨d.name.toArray⟩)∧w=w':=by
 obtain⟨vn,vs,vm,vy,hB,h2,_⟩:=h
 have c1:w.cell? ⟨p,1,none⟩=some (.string ⟨d.oid.toArray⟩):=hB.cell 1
 have c2:w.cell? ⟨p,2,none⟩=some vn:=hB.cell 2
 clear hB
 unfold z7_ DefS.name
 cases hn:d.names with
 |nil=>
  rw[hn] at h2
  rcases h2 with ⟨_,rfl⟩|⟨b,c,rfl,hc,hlt,hx⟩
  ·go_enter Tryz.func194,Tryz.ntmps194
   go_wp2_with fail
   go_ret
   exact⟨rfl,rfl⟩
  ·clear hx
   simp only[List.length_nil] at c2
   go_enter Tryz.func194,Tryz.ntmps194
   go_wp2_with fail
   go_ret
   exact⟨rfl,rfl⟩
 |cons x t=>
  rw[hn] at h2
  obtain⟨b,c,rfl,hc,hlt,hx⟩:=h2.cons
  have c3:=hx.out 0 (by simp)
  simp only[List.getElem_cons_zero] at c3
  have hl:(x::t).length=t.length+1:=rfl
  rw[hl] at c2 hc
  have hl0:(0:Int)<(t.length:Int)+1:=by omega
  clear hx hl
  go_enter Tryz.func194,Tryz.ntmps194
  go_wp2_with fail
  go_ret
  exact⟨rfl,rfl⟩
theorem z2p_ (s:LU):s=y6_∨s=jc_∨s=jz_∨((s==y6_)=false∧(s==jc_)=false∧(s==jz_)=false∧yl_ s= -1):=by
 by_cases h0:s=y6_
 ·exact .inl h0
 by_cases h1:s=jc_
 ·exact .inr (.inl h1)
 by_cases h2:s=jz_
 ·exact .inr (.inr (.inl h2))
 exact .inr (.inr (.inr ⟨beq_eq_false_iff_ne.2 h0,beq_eq_false_iff_ne.2 h1,beq_eq_false_iff_ne.2 h2,by unfold yl_;rw[if_neg h0,if_neg h1,if_neg h2]⟩))
theorem k9_ (s:LU) (w:World):Calls Tryz.prog 114 #[.string ⟨s.toArray⟩] w fun e w'=>e= .returned (.int .i64 (yl_ s))∧w=w':=by
 rcases z2p_ s with rfl|rfl|rfl|⟨h0,h1,h2,h3⟩
 ·go_enter Tryz.func114,Tryz.ntmps114
  unfold y6_
  go_wp2_with fail
  go_ret
  exact⟨rfl,rfl⟩
 ·go_enter Tryz.func114,Tryz.ntmps114
  unfold jc_
  go_wp2_with fail
  go_ret
  exact⟨rfl,rfl⟩
 ·go_enter Tryz.func114,Tryz.ntmps114
  unfold jz_
  go_wp2_with fail
  go_ret
  exact⟨rfl,rfl⟩
 ·rw[h3]
  unfold y6_ at h0
  unfold jc_ at h1
  unfold jz_ at h2
  go_enter Tryz.func114,Tryz.ntmps114
  go_wp2_with fail
  go_ret
  exact⟨rfl,rfl⟩
open Go.RowKit
def z07_ (w:World) (o:Option DefS) (e:Ending) (w':World):Prop:=Bel w w'∧match o with
 |none=>e= .returned (.pointer none)
 |some d=>∃ p,e= .returned (z7_ p)∧w.heap.size≤p∧DefAt w' p d
theorem zhj_ (s:LU) (w:World) (hs:s.length≤1000000) (hn:yh_ s=none):
  Calls Tryz.prog 111 #[.string ⟨s.toArray⟩] w fun e w'=>(∃ A n c,e= .returned (.tuple #[.slice A n c,.bool false]))∧Bel w w':=by
 refine(zdk_ s w hs).mono ?_
 rw[hn]
 rintro e w' ⟨hb,v,rfl,hv⟩
 obtain⟨A,c,rfl,_⟩:=hv.isSlice
 exact⟨⟨A,_,c,rfl⟩,hb⟩
theorem vt_ (s:LU) (l:List Wd) (w:World) (hs:s.length≤1000000) (hn:yh_ s=some l):
  Calls Tryz.prog 111 #[.string ⟨s.toArray⟩] w fun e w'=>(∃ A c,e= .returned (.tuple #[.slice A l.length c,.bool true])∧WdsR w' (.slice A l.length c) l)∧Bel w w':=by
 refine(zdk_ s w hs).mono ?_
 rw[hn]
 rintro e w' ⟨hb,v,rfl,hv⟩
 obtain⟨A,c,rfl,_⟩:=hv.isSlice
 exact⟨⟨A,c,rfl,hv.reads⟩,hb⟩
theorem zx_ (r:Nat) (l t:List Wd) (s:LU) (w:World) (hw:Env w) (h:RdW w r l) (hn:ze_ l=some (s,t)):
  Calls Tryz.prog 113 #[.pointer (some ⟨r,0,none⟩)] w fun e w'=>e= .returned (.tuple #[.string ⟨s.toArray⟩,.bool true])∧RdW w' r t∧Mods [r] w w':=by
 have hp:=z49_ r l w hw h
 rw[hn] at hp
 exact hp
theorem z3d_ (r:Nat) (l:List Wd) (w:World) (hw:Env w) (h:RdW w r l) (hn:ze_ l=none):
  Calls Tryz.prog 113 #[.pointer (some ⟨r,0,none⟩)] w fun e w'=>e= .returned (.tuple #[.string ⟨#[]⟩,.bool false])∧w=w':=zds_ r l w hw h hn
abbrev z6i_ (cls:Bool):Obj:= .cells #[.bool cls,.string ⟨#[]⟩,.slice none 0 0,.slice none 0 0,.slice none 0 0,.slice none 0 0,.string ⟨#[]⟩,.string ⟨#[]⟩,.string ⟨#[]⟩,.string ⟨#[]⟩,.bool false,.bool false,.bool false,.int .i64 1] 161
theorem v7_ {w1:World} {A:Option Addr} {c:Nat} {l:List Wd} (h:WdsR w1 (.slice A l.length c) l) (cls:Bool):
  RdW ((w1.alloc (.cells #[.slice A l.length c] 159)).alloc (z6i_ cls)) w1.heap.size l∧DefAt ((w1.alloc (.cells #[.slice A l.length c] 159)).alloc (z6i_ cls)) (w1.heap.size+1) (DefS.new cls [])∧Bel w1 ((w1.alloc (.cells #[.slice A l.length c] 159)).alloc (z6i_ cls)):=by
 have hb:Bel w1 ((w1.alloc (.cells #[.slice A l.length c] 159)).alloc (z6i_ cls)):=((bR _ _).alloc (nR _) _).alloc (by simp) _
 refine⟨⟨_,(Bk.new w1 _ _).alloc _,h.below hb⟩,?_,hb⟩
 have h2:=Bk.new (w1.alloc (.cells #[.slice A l.length c] 159)) 161 (zn_ (DefS.new cls []) (.slice none 0 0) (.slice none 0 0) (.slice none 0 0) (.slice none 0 0))
 rw[World.size_alloc] at h2
 exact⟨_,_,_,_,h2,.inl ⟨rfl,rfl⟩,.inl ⟨rfl,rfl⟩,.inl ⟨rfl,rfl⟩,.inl ⟨rfl,rfl⟩⟩
theorem z6q_ (s:LU) (cls:Bool) (w:World) (hs:s.length≤1000000) (hn:yh_ s=none):
  Calls Tryz.prog 74 #[.string ⟨s.toArray⟩,.bool cls] w (z07_ w none):=by
 have HW:=hiD (zhj_ s w hs hn)
 clear hn
 go_enter Tryz.func74,Tryz.ntmps74
 go_wp2_with (go_at_call 111;refine HW.out.mono ?_;rintro e w1 ⟨⟨A,n,c,rfl⟩,hb1⟩)
 go_ret
 exact⟨(hb1.alloc hb1.size _).alloc (by have:=hb1.size;simp;omega) _,rfl⟩
theorem y7_ (w w1:World) (o1 o2:Obj) (hb:Bel w w1):Bel w ((w1.alloc o1).alloc o2):=(hb.alloc hb.size _).alloc (by have:=hb.size;simp;omega) _
theorem Mods.bel {w w1 w2:World} {S:List Nat} (hb:Bel w w1) (hm:Mods S w1 w2) (hS:∀ x∈S,w.heap.size≤x):Bel w w2:=hb.trans (hm.below hb.size hS)
theorem z8q_ (s:LU) (cls:Bool) (l:List Wd) (w:World) (hs:s.length≤1000000) (hn:yh_ s=some l) (h40:rIs l [40]=false):
  Calls Tryz.prog 74 #[.string ⟨s.toArray⟩,.bool cls] w (z07_ w none):=by
 have HW:=hiD (vt_ s l w hs hn)
 have H40:=hiD h40
 clear hn h40
 go_enter Tryz.func74,Tryz.ntmps74
 go_wp2_with (first|(go_at_call 111;refine HW.out.mono ?_;rintro e w1 ⟨⟨A,c,rfl,hx⟩,hb1⟩;have HX:=hiD (v7_ hx cls);clear hx)|(go_at_call 112;(with_reducible refine(qj_ _ l [40] _ HX.out.1 H40.out).mono ?_);rintro e w2 ⟨rfl,rfl⟩))
 go_ret
 exact⟨y7_ _ _ _ _ hb1,rfl⟩
theorem z69_ (s:LU) (cls:Bool) (l:List Wd) (w:World) (hw:Env w) (hs:s.length≤1000000) (hn:yh_ s=some l) (h40:rIs l [40]=true) (hp:ze_ l.tail=none):
  Calls Tryz.prog 74 #[.string ⟨s.toArray⟩,.bool cls] w (z07_ w none):=by
 have HW:=hiD (vt_ s l w hs hn)
 have H40:=hiD h40
 have HP:=hiD hp
 clear hn h40 hp
 go_enter Tryz.func74,Tryz.ntmps74
 go_wp2_with (first|(go_at_call 111;refine HW.out.mono ?_;rintro e w1 ⟨⟨A,c,rfl,hx⟩,hb1⟩;have HX:=hiD (v7_ hx cls);clear hx)|(go_at_call 112;(with_reducible refine(j2_ _ l [40] _ HX.out.1 H40.out).mono ?_);rintro e w2 ⟨rfl,hr2,hg2⟩;have hb2:=Mods.bel (y7_ _ _ _ _ hb1) (Mods.of_grown hg2 (List.mem_singleton_self _)) (by have:=hb1.size;simpa using this))|(go_at_call 113;(with_reducible refine(z3d_ _ l.tail _ (hw.keep hb2) hr2 HP.out).mono ?_);rintro e w3 ⟨rfl,rfl⟩))
 go_ret
 exact⟨hb2,rfl⟩
theorem zab_ (s:LU) (cls:Bool) (l t:List Wd) (oid:LU) (w:World) (hw:Env w) (hs:s.length≤1000000) (hn:yh_ s=some l) (h40:rIs l [40]=true) (hp:ze_ l.tail=some (oid,t)) (ho:(zc_ oid && z33_ oid)=false):
  Calls Tryz.prog 74 #[.string ⟨s.toArray⟩,.bool cls] w (z07_ w none):=by
 have hol:oid.length≤1000000:=by
  obtain⟨q,hq⟩:=zt_ hp
  have:=(k0_ hn).1 (oid,q) (List.mem_of_mem_tail (by rw[hq];simp))
  simp only at this
  omega
 have HW:=hiD (vt_ s l w hs hn)
 have H40:=hiD h40
 have HP:=hiD hp
 have hget:=qb_
 clear hn h40 hp
 cases hT:zc_ oid
 ·have HT:=hiD hT
  clear hT ho
  go_enter Tryz.func74,Tryz.ntmps74
  go_wp2_with (first|(go_at_call 111;refine HW.out.mono ?_;rintro e w1 ⟨⟨A,c,rfl,hx⟩,hb1⟩;have HX:=hiD (v7_ hx cls);clear hx)|(go_at_call 112;(with_reducible refine(j2_ _ l [40] _ HX.out.1 H40.out).mono ?_);rintro e w2 ⟨rfl,hr2,hg2⟩;have hb2:=Mods.bel (y7_ _ _ _ _ hb1) (Mods.of_grown hg2 (List.mem_singleton_self _)) (by have:=hb1.size;simpa using this))|(go_at_call 113;(with_reducible refine(zx_ _ l.tail t oid _ (hw.keep hb2) hr2 HP.out).mono ?_);rintro e w3 ⟨rfl,hr3,hm3⟩;have hb3:=Mods.bel hb2 hm3 (by have:=hb1.size;simpa using this))|(go_at_call 52;refine(qf_ oid _ (hw.keep hb3) (by omega)).mono ?_;rw[HT.out];rintro e w4 ⟨rfl,hb4⟩))
  go_ret
  exact⟨tQ hb3 hb4,rfl⟩
 ·rw[hT,Bool.true_and] at ho
  have HT:=hiD hT
  clear hT
  cases oid with
  |nil=>exact absurd HT.out (by decide)
  |cons x xs=>
   have hx:(x.toNat:Int)<48∨(48≤(x.toNat:Int)∧57<(x.toNat:Int)):=by
    unfold z33_ at ho
    simp only[Bool.and_eq_false_iff,decide_eq_false_iff_not,UInt8.le_iff_toNat_le] at ho
    have e1:(48:UInt8).toNat=48:=rfl
    have e2:(57:UInt8).toNat=57:=rfl
    omega
   have hl0:(0:Int)<(xs.length:Int)+1:=by omega
   clear ho
   rcases hx with hx|⟨hx0,hx⟩
   all_goals
    go_enter Tryz.func74,Tryz.ntmps74
    go_wp2_with (first|(go_at_call 111;refine HW.out.mono ?_;rintro e w1 ⟨⟨A,c,rfl,hx⟩,hb1⟩;have HX:=hiD (v7_ hx cls);clear hx)|(go_at_call 112;(with_reducible refine(j2_ _ l [40] _ HX.out.1 H40.out).mono ?_);rintro e w2 ⟨rfl,hr2,hg2⟩;have hb2:=Mods.bel (y7_ _ _ _ _ hb1) (Mods.of_grown hg2 (List.mem_singleton_self _)) (by have:=hb1.size;simpa using this))|(go_at_call 113;(with_reducible refine(zx_ _ l.tail t (x::xs) _ (hw.keep hb2) hr2 HP.out).mono ?_);rintro e w3 ⟨rfl,hr3,hm3⟩;have hb3:=Mods.bel hb2 hm3 (by have:=hb1.size;simpa using this))|(go_at_call 52;refine(qf_ (x::xs) _ (hw.keep hb3) (by omega)).mono ?_;rw[HT.out];rintro e w4 ⟨rfl,hb4⟩))
    go_ret
    exact⟨tQ hb3 hb4,rfl⟩
end Go.Proofs.YtakfpngfpknedaaGreatDoor
