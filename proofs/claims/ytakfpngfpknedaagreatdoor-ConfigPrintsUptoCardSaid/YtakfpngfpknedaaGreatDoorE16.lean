import Derived.Test.YtakfpngfpknedaaGreatDoorE15
set_option linter.all false
set_option maxHeartbeats 8000000
set_option maxRecDepth 100000
set_option linter.all false
namespace Go.Proofs.YtakfpngfpknedaaGreatDoor
open Go.RowKit
def OwnY (B:Nat) (w:World) (v:Value) (l:LU):Prop:=w.ownsRow B 5 1 v l.length (Lib.byteCells l)∧B≤w.heap.size
theorem OwnY.nil {B:Nat} {w:World} (hB:B≤w.heap.size):OwnY B w (.slice none 0 0) []:=⟨World.ownsRow_nil _ _ _ _,hB⟩
theorem zgo_ {ops:Array Oper} {rest:List Oper} {o:Oper} {a:Act} {Q:Exit→Act→World→Prop} (hgd:o.guard=none) (s x:Operand) (ho:o.op= .call {callee:= .builtin .append,args:=#[s,x],argTypes:=#[103,103]})
  {v:Value} {l:LU} {N:Nat} {w0:World} {c:UInt8} (hs:a.eval s= .slice (some ⟨N,0,none⟩) 1 1) (hN:N=w0.heap.size) (hb:OwnY w0.heap.size w0 v l∨∃ B,OwnY B w0 v l)
  (hx:a.eval x=v) (hlen:l.length<1000000) {z:Int} (hz:z=(c.toNat:Int))
  (h:∀ v' w',OwnY w0.heap.size w' v' (c::l)→Bel w0 w'→wpList Tryz.prog ops Q rest (a.put o.dst v') w'):wpList Tryz.prog ops Q (o::rest) a (w0.alloc (.cells #[.int .u8 z] 5)):=by
 subst hN
 subst hz
 obtain⟨i,h1,h2,h3,h4⟩:=infoByte
 have hb':∃ B,OwnY B w0 v l:=by
  rcases hb with hb|hb
  ·exact⟨_,hb⟩
  ·exact hb
 obtain⟨B,hv,hB⟩:=hb'
 have hnew:OwnY w0.heap.size (w0.alloc (.cells #[.int .u8 c.toNat] 5)) (.slice (some ⟨w0.heap.size,0,none⟩) 1 1) [c]:=
  ⟨⟨by simp [Lib.byteCells],.inr ⟨w0.heap.size,1,#[.int .u8 c.toNat],rfl,nR _,heap_alloc_new w0 _,nR _,by decide,rfl,rfl⟩⟩,by rw[World.size_alloc];omega⟩
 have hbel:∀ w',(w0.alloc (.cells #[.int .u8 c.toNat] 5)).grownBy w' (some w0.heap.size)→Bel w0 w':=fun w' hg=>(zs_ w0 _).grown hg (by rw[World.size_alloc];omega) (fun k hk=>by cases hk;exact nR _)
 obtain⟨hv1,hv2⟩:=hv
 rcases hv2 with ⟨rfl,hn⟩|⟨g,cap,cur,rfl,r2,r3,r4,r5,r6,r7⟩
 ·obtain rfl:l=[]:=List.eq_nil_of_length_eq_zero hn
  refine wpList_append_own_none hgd s x 103 ho w0.heap.size 5 i 1 Tryz.underlying103 h1 _ _ _ hs hnew.1 hx ?_
  exact h _ _ hnew (zs_ w0 _)
 ·have hcell:∀ j u,(Lib.byteCells l)[j]?=some u→(w0.alloc (.cells #[.int .u8 c.toNat] 5)).cell? ((⟨g,0,none⟩:Addr).add j)=some u:=fun j u hj=>by
   rw[ko_,Nat.zero_add]
   have hgl:g<w0.heap.size:=(Array.getElem?_eq_some_iff.1 r3).1
   have hc:w0.cell? ⟨g,j,none⟩=some u:=by
    have hjl:j<l.length:=by
     have:=(List.getElem?_eq_some_iff.1 hj).1
     simpa [Lib.byteCells] using this
    have:(cur.toList.take (l.length * 1))[j]?=some u:=by rw[r7];exact hj
    rw[List.getElem?_take,if_pos (by omega)] at this
    show World.cell? _ _=_
    simp only[World.cell?,r3]
    simpa using this
   exact((zs_ w0 _).cell (z9_ hc)).trans hc
  refine wpList_append_own _ hgd s x 103 ho w0.heap.size 5 i (.int .u8 0) 1 1 Tryz.underlying103 h1 h2 h3 h4 rfl (by decide) _ _ _ hs hnew.1 ⟨g,0,none⟩ l.length cap (Lib.byteCells l) hx (by simp [Lib.byteCells]) hcell ?_ (by rw[List.length_singleton];unfold maxLen;omega) (by rw[List.length_singleton];omega) hnew.2 ?_
  ·intro u hu
   simp only[Lib.byteCells,List.mem_map] at hu
   obtain⟨q,_,rfl⟩:=hu
   rfl
  ·intro v' w' ho' hg _
   refine h v' w' ⟨?_,?_⟩ (hbel w' hg)
   ·have e:1+l.length=(c::l).length:=by simp;omega
    simpa [Lib.byteCells,Nat.add_comm] using ho'
   ·have:=hg.size
    rw[World.size_alloc] at this
    omega
theorem OwnY.isSlice {B:Nat} {w:World} {v:Value} {l:LU} (h:OwnY B w v l):∃ A c,v= .slice A l.length c:=by
 rcases h.1.2 with ⟨rfl,hn⟩|⟨g,cap,cur,rfl,_⟩
 ·exact⟨none,0,by rw[hn]⟩
 ·exact⟨_,cap,rfl⟩
theorem zhw_ (m:Nat) (h:0<m) (d:LU):(if m / 10=0 then [] else Lib.decDigits (m / 10))++(UInt8.ofNat (48+m % 10)::d)=Lib.decDigits m++d:=by
 by_cases h10:m<10
 ·rw[if_pos (by omega),Lib.decDigits,dif_pos h10,Nat.mod_eq_of_lt h10]
  rfl
 ·rw[if_neg (by omega)]
  conv=>rhs;rw[Lib.decDigits,dif_neg h10]
  simp
theorem zep_ (n:Int) (w:World) (hn:n≤9223372036854775807):Calls Tryz.prog 36 #[.int .i64 n] w fun e w'=>e= .returned (.string ⟨(Cfg.decX n).toArray⟩)∧Bel w w':=by
 by_cases h0:n≤0
 ·have e:Cfg.decX n=[48]:=if_pos h0
  rw[e]
  clear e
  go_enter Tryz.func36,Tryz.ntmps36
  go_wp2_with fail
  go_ret
  exact⟨rfl,bR _ _⟩
 ·obtain⟨m,rfl⟩:∃ m:Nat,n=(m:Int):=⟨n.toNat,by omega⟩
  have e:Cfg.decX (m:Int)=Lib.decDigits m:=by
   unfold Cfg.decX Lib.itoa
   rw[if_neg h0,if_neg (by omega)]
   simp
  rw[e]
  have hm0:0<m:=by omega
  have hmne:¬ m=0:=by omega
  obtain⟨D,hD⟩:∃ D,Lib.decDigits m=D:=⟨_,rfl⟩
  rw[hD]
  have HD:=hiD hD
  have hDl:D.length≤24:=by
   rw[← hD]
   have h10:(10:Nat) ^ 20=100000000000000000000:=by decide
   have:=Cfg.nDigits_ten 20 m (by omega)
   omega
  clear e h0 hD
  go_enter Tryz.func36,Tryz.ntmps36
  go_wp2_with fail
  go_loopg [0,3] m (fun gk v b wr=>∃ (k:Nat) (d:LU),v= .int .i64 (k:Int)∧gk=k∧k≤m∧Aside (∃ B,OwnY B wr b d)∧Aside (Bel w wr)∧Aside ((if k=0 then [] else Lib.decDigits k)++d=D))
  case atStart=>exact⟨m,[],rfl,rfl,nR _,⟨w.heap.size,OwnY.nil (nR _)⟩,bR _ _,by show _=_;rw[if_neg (by omega),List.append_nil];exact HD.out⟩
  case round=>
   obtain⟨k,d,rfl,hgk,hk,AO,AB,AD⟩:=hrel
   have HB:=hiD AB.out
   have HE:=hiD AD.out
   have hdl:d.length≤30:=by have:=congrArg List.length AD.out;rw[List.length_append] at this;omega
   obtain⟨B,hO⟩:=AO.out
   obtain⟨Ab,cb,rfl⟩:=hO.isSlice
   have HO:=hiD hO
   clear AO AB AD hO
   by_cases h0:0<k
   case pos=>
    have hki:(0:Int)<(k:Int):=by omega
    have hkb:(k:Int)≤9223372036854775807:=by omega
    have hmod:Int.tmod (k:Int) 10=((k % 10:Nat):Int):=by rw[Int.tmod_eq_emod_of_nonneg (by omega)];omega
    have hdiv:Int.tdiv (k:Int) 10=((k / 10:Nat):Int):=by rw[Int.tdiv_eq_ediv_of_nonneg (by omega)];omega
    have hr:k % 10<10:=Nat.mod_lt _ (by omega)
    have hq:k / 10<k:=Nat.div_lt_self h0 (by omega)
    have HS:=hiD (zhw_ k h0 d)
    have hz8:(48+(k:Int) % 10)=((UInt8.ofNat (48+k % 10)).toNat:Int):=by
     have hu8:(UInt8.ofNat (48+k % 10)).toNat=48+k % 10:=by simp;omega
     rw[hu8];omega
    have HZ8:=hiD hz8
    clear hz8
    go_wp2_with (at_builtin;refine zgo_ (c:=UInt8.ofNat (48+k % 10)) rfl _ _ rfl rfl rfl (.inr ⟨_,HO.out⟩) rfl (by omega) HZ8.out ?_;intro v5 w5 hO5 hb5;have HO5:=hiD hO5;have HB5:=hiD (tQ HB.out hb5);clear hO5 hb5)
    go_roundg (k / 10)
    case measure=>omega
    case rel=>exact⟨k / 10,_,rfl,rfl,by omega,⟨_,HO5.out⟩,HB5.out,by show _=_;rw[HS.out];have:=HE.out;rwa [if_neg (by omega)] at this⟩
   case neg=>
    obtain rfl:k=0:=by omega
    have hd:d=D:=by have:=HE.out;rwa [if_pos rfl] at this
    have hst:=z0g_ (World.ownsRowF_of HO.out.1)
    rw[hd] at hst
    go_wp2_with fail
    go_ret
    exact⟨rfl,HB.out⟩
end Go.Proofs.YtakfpngfpknedaaGreatDoor
