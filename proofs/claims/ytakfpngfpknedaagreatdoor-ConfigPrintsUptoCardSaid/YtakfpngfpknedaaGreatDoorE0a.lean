import Derived.Test.YtakfpngfpknedaaGreatDoorE09
set_option linter.all false
set_option maxHeartbeats 8000000
set_option maxRecDepth 100000
namespace Go.Proofs.YtakfpngfpknedaaGreatDoor
open Go.RowKit Go.Sort
def ddL {α:Type} [DecidableEq α] (p:List α):Nat→List α
 |0=>[]
 |j+1=>match p[j]? with
  |none=>ddL p j
  |some x=>if j≠0∧p[j - 1]?=some x then ddL p j else ddL p j++[x]
theorem zkn_ {α:Type} [DecidableEq α] (p:List α) (h:0<p.length):ddL p 1=p.take 1:=by
 cases p with
 |nil=>simp at h
 |cons x t=>simp [ddL]
theorem z90_ {α:Type} [DecidableEq α] (p:List α) (m:Nat) (h:m+1<p.length) (e:p[m+1]=p[m]):ddL p (m+2)=ddL p (m+1):=by
 rw[ddL,List.getElem?_eq_getElem h]
 simp only
 rw[if_pos ⟨by omega,by rw[show m+1 - 1=m by omega,List.getElem?_eq_getElem (by omega),e]⟩]
theorem z5y_ {α:Type} [DecidableEq α] (p:List α) (m:Nat) (h:m+1<p.length) (e:p[m+1]≠p[m]):ddL p (m+2)=ddL p (m+1)++[p[m+1]]:=by
 rw[ddL,List.getElem?_eq_getElem h]
 simp only
 rw[if_neg (by rintro⟨_,h2⟩;rw[show m+1 - 1=m by omega,List.getElem?_eq_getElem (by omega)] at h2;exact e (Option.some.inj h2).symm)]
theorem zi8_ (W:World) (x1 x2 y1 y2:LU):(Op.equalIn 10000 189 (.agg #[.string ⟨x1.toArray⟩,.string ⟨x2.toArray⟩]) (.agg #[.string ⟨y1.toArray⟩,.string ⟨y2.toArray⟩])).run Tryz.prog W= .ok (decide ((x1,x2)=(y1,y2))) W:=by
 have u9:=Tryz.underlying9
 have a9:=Tryz.isAgg9
 have z9:=Tryz.sizeOf9
 have hS:Tryz.prog.underlying 189=some (.struct (Tryz.prog.fieldsOf 189)):=by kernel_rfl
 have hp:Tryz.prog.stoodInHeld 189=false:=by kernel_rfl
 rw[show (10000:Nat)=9999+1 from rfl,run_equalIn_agg W 9999 189 _ _ hS hp]
 simp only[Program.fieldsOf,Tryz.underlying189]
 go_simp
 by_cases h1:x1=y1<;>by_cases h2:x2=y2<;>simp [h1,h2]
theorem zkc_ (W:World) (x1 x2 y1 y2:LU):(binOp .eql 189 (.agg #[.string ⟨x1.toArray⟩,.string ⟨x2.toArray⟩]) (.agg #[.string ⟨y1.toArray⟩,.string ⟨y2.toArray⟩])).run Tryz.prog W= .ok (.bool (decide ((x1,x2)=(y1,y2)))) W:=by
 rw[run_eql_struct,zi8_];rfl
theorem zem_ (W:World) (x1 x2 y1 y2:LU):(binOp .neq 189 (.agg #[.string ⟨x1.toArray⟩,.string ⟨x2.toArray⟩]) (.agg #[.string ⟨y1.toArray⟩,.string ⟨y2.toArray⟩])).run Tryz.prog W= .ok (.bool (!decide ((x1,x2)=(y1,y2)))) W:=by
 rw[run_neq_struct,zi8_];rfl
theorem RowA.drewN {w:World} {g:Nat} {l:List (LU × LU)} (h:RowA w g l) (n:Nat):RowA (w.drewN n) g l:=h
theorem z3n_ (g n c k:Nat) (hk':k<n) (hc:n≤c) (w:World):(Instr.slice 187 (.slice (some ⟨g,0,none⟩) n c) (some (.int .i64 (k:Int))) none none).run Tryz.prog w= .ok (.slice (some ⟨g,k * 2,none⟩) (n - k) (c - k)) w:=by
 have hk:k≤n:=Nat.le_of_lt hk'
 have h1:(Instr.sliceBounds true n c (some (.int .i64 k)) none none).run Tryz.prog w= .ok (k,n,c) w:=by
  simp [Instr.sliceBounds,run_sliceBound,hk,hc]
 have h2:(sizeOf 189).run Tryz.prog w= .ok 2 w:=by kernel_rfl
 unfold Instr.slice
 simp only[Sem.run_bind,run_underlying Tryz.underlying187,Result.andThen_ok,h1,h2,Sem.run_pure]
 have ha:(⟨g,0,none⟩:Addr).add (k * 2)=⟨g,k * 2,none⟩:=kp_ g _
 simp [ha]
 intro e
 omega
theorem RowA.at2 {w:World} {g:Nat} {l:List (LU × LU)} (h:RowA w g l) {j:Nat} {x:LU × LU} (hj:l[j]?=some x):
  w.cell? ⟨g,j * 2,none⟩=some (.string ⟨x.1.toArray⟩)∧w.cell? ⟨g,j * 2+1,none⟩=some (.string ⟨x.2.toArray⟩)∧w.frozen? ⟨g,j * 2,none⟩=false∧w.frozen? ⟨g,j * 2+1,none⟩=false:=by
 have:=h.2 j x hj
 rw[Nat.mul_comm 2 j] at this
 exact⟨this.1.1,this.2.1,this.1.2,this.2.2⟩
theorem zy_ (w:World) (g o o':Nat) (v:Value) (h:o≠o'):(w.setCell ⟨g,o,none⟩ v).cell? ⟨g,o',none⟩=w.cell? ⟨g,o',none⟩:=by
 apply World.cell?_setCell_other
 intro e
 injection e
 omega
theorem v9_ (w:World) (g o:Nat) (u v:Value) (h:w.cell? ⟨g,o,none⟩=some u):(w.setCell ⟨g,o,none⟩ v).cell? ⟨g,o,none⟩=some v:=World.cell?_setCell_same' w _ v (by rw[h];rfl)
theorem RowA.set {w:World} {g:Nat} {l:List (LU × LU)} (h:RowA w g l) {j:Nat} (hj:j<l.length) (x:LU × LU):
  RowA ((w.setCell ⟨g,j * 2,none⟩ (.string ⟨x.1.toArray⟩)).setCell ⟨g,j * 2+1,none⟩ (.string ⟨x.2.toArray⟩)) g (l.set j x):=by
 have hc0:=(h.at2 (List.getElem?_eq_getElem hj)).1
 have hc1:=(h.at2 (List.getElem?_eq_getElem hj)).2.1
 refine⟨by simp [World.setCell];exact h.1,fun i y hi=>?_⟩
 have e0:∀ o,((w.setCell ⟨g,j * 2,none⟩ (.string ⟨x.1.toArray⟩)).setCell ⟨g,j * 2+1,none⟩ (.string ⟨x.2.toArray⟩)).frozen? ⟨g,o,none⟩=w.frozen? ⟨g,o,none⟩:=fun o=>(World.frozen?_setCell _ _ _ _).trans (World.frozen?_setCell _ _ _ _)
 rw[e0,e0]
 rw[List.getElem?_set] at hi
 by_cases hij:j=i
 ·subst hij
  rw[if_pos rfl,if_pos hj] at hi
  cases hi
  have hf:=h.at2 (List.getElem?_eq_getElem hj)
  rw[Nat.mul_comm 2 j]
  refine⟨⟨?_,hf.2.2.1⟩,?_,hf.2.2.2⟩
  ·rw[zy_ _ _ _ _ _ (by omega)]
   exact v9_ _ _ _ _ _ hc0
  ·exact v9_ _ _ _ _ _ ((zy_ _ _ _ _ _ (by omega)).trans hc1)
 ·rw[if_neg hij] at hi
  have hx:=h.2 i y hi
  refine⟨⟨?_,hx.1.2⟩,?_,hx.2.2⟩
  ·rw[zy_ _ _ _ _ _ (by omega),zy_ _ _ _ _ _ (by omega)]
   exact hx.1.1
  ·rw[zy_ _ _ _ _ _ (by omega),zy_ _ _ _ _ _ (by omega)]
   exact hx.2.1
theorem zj1_ {α:Type} (c p:List α) (x:α) (h:c.length<p.length):(c++p.drop c.length).set c.length x=(c++[x])++p.drop (c++[x]).length:=by
 rw[List.drop_eq_getElem_cons h,List.set_append_right _ _ (nR _),Nat.sub_self,List.set_cons_zero,List.length_append,List.append_assoc]
 rfl
theorem zbj_ (g n c k:Nat) (hk:k≤c) (w:World):(Instr.slice 187 (.slice (some ⟨g,0,none⟩) n c) none (some (.int .i64 (k:Int))) none).run Tryz.prog w= .ok (.slice (some ⟨g,0,none⟩) k c) w:=by
 have h1:(Instr.sliceBounds true n c none (some (.int .i64 k)) none).run Tryz.prog w= .ok (0,k,c) w:=by
  simp [Instr.sliceBounds,run_sliceBound,hk]
 have h2:(sizeOf 189).run Tryz.prog w= .ok 2 w:=by kernel_rfl
 unfold Instr.slice
 simp only[Sem.run_bind,run_underlying Tryz.underlying187,Result.andThen_ok,h1,h2,Sem.run_pure]
 have ha:(⟨g,0,none⟩:Addr).add 0=⟨g,0,none⟩:=kp_ g _
 simp [ha]
theorem ke_ (g:Nat):∀ (vs:List Value) (o:Nat) (w:World),w.grownBy (w.setCells g o vs) (some g)
 |[],_,w=>World.grownBy.refl _ _
 |v::r,o,w=>gT (z6_ w g o v) (ke_ g r (o+1) _)
theorem zd5_ {w:World} {g:Nat} {c p:List (LU × LU)} (h:RowA w g (c++p.drop c.length)) (hc:c.length<p.length) (cap:Nat):
  ∃ W,(∀ ty,(Builtin.clear_ #[187] ty #[.slice (some ⟨g,c.length * 2,none⟩) (p.length - c.length) cap]).run Tryz.prog w= .ok (.tuple #[]) W)∧RowA W g c∧w.grownBy W (some g):=by
 have hz:∀ w,(zeroValue 189).run Tryz.prog w= .ok (.agg #[.string ⟨#[]⟩,.string ⟨#[]⟩]) w:=fun w=>by kernel_rfl
 obtain⟨n,hn⟩:∃ n,p.length - c.length=n+1:=⟨p.length - c.length - 1,by omega⟩
 rw[hn]
 generalize hV:(Builtin.zeroCells #[(.string ⟨#[]⟩:Value),.string ⟨#[]⟩] (n+1)).toList=V
 have hVl:V.length=(n+1) * 2:=by rw[← hV];simp [Builtin.zeroCells]
 have hV1:∀ v∈V,v.oneCell'=true:=by
  intro v hv
  rw[← hV] at hv
  simp [Builtin.zeroCells] at hv
  obtain⟨i,_,rfl⟩:=hv
  have:i % 2=0∨i % 2=1:=by omega
  rcases this with e|e<;>simp [e,Value.oneCell']
 have hst:=run_storeCells_cells (P:=Tryz.prog) g (c.length * 2) V 0 w
  (by
   intro j hj
   have hd:(c++p.drop c.length)[c.length+j / 2]?=some (p[c.length+j / 2]'(by omega)):=by
    rw[List.getElem?_append_right (by omega),List.getElem?_drop,show c.length+(c.length+j / 2 - c.length)=c.length+j / 2 by omega];exact List.getElem?_eq_getElem (by omega)
   have hx:=h.at2 hd
   rcases Nat.mod_two_eq_zero_or_one j with e|e
   ·rw[show c.length * 2+0+j=(c.length+j / 2) * 2 by omega,hx.1];rfl
   ·rw[show c.length * 2+0+j=(c.length+j / 2) * 2+1 by omega,hx.2.1];rfl)
  (by
   intro j hj
   have hd:(c++p.drop c.length)[c.length+j / 2]?=some (p[c.length+j / 2]'(by omega)):=by
    rw[List.getElem?_append_right (by omega),List.getElem?_drop,show c.length+(c.length+j / 2 - c.length)=c.length+j / 2 by omega];exact List.getElem?_eq_getElem (by omega)
   have hx:=h.at2 hd
   rcases Nat.mod_two_eq_zero_or_one j with e|e
   ·rw[show c.length * 2+0+j=(c.length+j / 2) * 2 by omega];exact hx.2.2.1
   ·rw[show c.length * 2+0+j=(c.length+j / 2) * 2+1 by omega];exact hx.2.2.2) hV1
 simp only[Nat.add_zero] at hst
 have hg:=ke_ g V (c.length * 2) w
 refine⟨w.setCells g (c.length * 2) V,fun ty=>?_,⟨Nat.lt_of_lt_of_le h.1 hg.size,fun j x hj=>?_⟩,hg⟩
 ·simp [Builtin.clear_,run_underlying Tryz.underlying187,hz,Value.cells,hV,hst]
 ·have hjl:j<c.length:=(List.getElem?_eq_some_iff.1 hj).1
  have hx:=h.2 j x (by rw[List.getElem?_append_left hjl];exact hj)
  rw[World.cell?_setCells_out g V _ w _ (fun _ _=> .inl (by show 2 * j<_;omega)),World.cell?_setCells_out g V _ w _ (fun _ _=> .inl (by show 2 * j+1<_;omega)),World.frozen?_setCells,World.frozen?_setCells]
  exact hx
theorem zc0_ (p:List (LU × LU)) (g cap:Nat) (w:World) (h:RowA w g p) (hl:p.length≤1000) (hc:p.length≤cap):
  Calls Tryz.prog 212 #[.slice (some ⟨g,0,none⟩) p.length cap] w fun e w'=>e= .returned (.slice (some ⟨g,0,none⟩) (ddL p p.length).length cap)∧RowA w' g (ddL p p.length)∧w.grownBy w' (some g):=by
 by_cases h2:p.length<2
 ·have hdd:ddL p p.length=p:=by
   match p,h2 with
   |[],_=>rfl
   |[x],_=>simp [ddL]
  rw[hdd]
  go_enter Tryz.func212,Tryz.ntmps212
  go_wp2_with fail
  go_ret
  exact⟨rfl,h,World.grownBy.refl _ _⟩
 ·have HH:=hiD h
  clear h
  have heq:=zkc_
  have hmg:Tryz.prog.eqGuardType Tryz.prog.depth 189=false:=by kernel_rfl
  go_enter Tryz.func212,Tryz.ntmps212
  go_wp2_with fail
  go_loopg [3] p.length (fun gk i wr=>∃ m:Nat,m+1≤p.length∧i= .int .i64 ((m:Int)+1)∧Aside (m+1+gk=p.length+1)∧Hid (RowA wr g p)∧Aside (w.grownBy wr (some g))∧Aside (ddL p (m+1)=p.take (m+1)))
  case atStart=>exact⟨0,by omega,rfl,by show _=_;omega,HH,World.grownBy.refl _ _,by show _=_;rw[zkn_ p (by omega)]⟩
  case round=>
   obtain⟨m,hk,rfl,AG,HR,AW,AD⟩:=hrel
   by_cases hlt:m+1<p.length
   ·obtain⟨q,rfl⟩:∃ q,gk=q+1:=⟨gk - 1,by have:=AG.out;omega⟩
    have hx:=HR.out.2 (m+1) p[m+1] (List.getElem?_eq_getElem hlt)
    have hy:=HR.out.2 m p[m] (List.getElem?_eq_getElem (by omega))
    have x0:wr.cell? ⟨g,(m+1) * 2,none⟩=some (.string ⟨p[m+1].1.toArray⟩):=by rw[Nat.mul_comm];exact hx.1.1
    have x1:wr.cell? ⟨g,(m+1) * 2+1,none⟩=some (.string ⟨p[m+1].2.toArray⟩):=by rw[Nat.mul_comm];exact hx.2.1
    have y0:wr.cell? ⟨g,m * 2,none⟩=some (.string ⟨p[m].1.toArray⟩):=by rw[Nat.mul_comm];exact hy.1.1
    have y1:wr.cell? ⟨g,m * 2+1,none⟩=some (.string ⟨p[m].2.toArray⟩):=by rw[Nat.mul_comm];exact hy.2.1
    have hk0:(0:Int)≤(m:Int)+1:=by omega
    have hk1:(m:Int)+1<(p.length:Int):=by omega
    have hk2:(0:Int)≤(m:Int):=by omega
    have hk3:(m:Int)<(p.length:Int):=by omega
    have hk4:((m:Int)+1).toNat=m+1:=by omega
    have hk5:IntKind.i64.wrap ((m:Int)+1 - 1)=(m:Int):=by rw[IntWalk.i64_in _ (by omega)];omega
    clear hx hy
    go_wp2_with fail
    go_quiet (fail)
    clear hk5
    by_cases he:p[m+1]=p[m]
    ·have ht:(decide (p[m+1].1=p[m].1) && decide (p[m+1].2=p[m].2))=true:=by simp [he]
     have HE:=hiD he
     have HRN:Hid (RowA (wr.drewN nq) g p):=HR.out.drewN nq
     have AWN:Aside (w.grownBy (wr.drewN nq) (some g)):=⟨AW.out.os,AW.out.tape,AW.out.output,AW.out.size,AW.out.block⟩
     have hsl:∀ W,(Instr.slice 187 (.slice (some ⟨g,0,none⟩) p.length cap) (some (.int .i64 ((m:Int)+1))) none none).run Tryz.prog W= .ok (.slice (some ⟨g,(m+1) * 2,none⟩) (p.length - (m+1)) (cap - (m+1))) W:=fun W=>z3n_ g p.length cap (m+1) (by omega) hc W
     generalize (decide (p[m+1].1=p[m].1) && decide (p[m+1].2=p[m].2))=T at ht ⊢
     subst ht
     generalize wr.drewN nq=W1 at HRN AWN ⊢
     go_wp2_with fail
     have hd2:ddL p (m+1+1)=p.take (m+1):=by rw[z90_ p m hlt HE.out,AD.out]
     have hst:RowA W1 g (ddL p (m+1+1)++p.drop (ddL p (m+1+1)).length):=by
      rw[hd2,List.length_take,Nat.min_eq_left (by omega),List.take_append_drop];exact HRN.out
     have hst2:(ddL p (m+1+1)).length=m+1:=by rw[hd2,List.length_take,Nat.min_eq_left (by omega)]
     have HST:=hiD hst
     clear hst hd2 x0 x1 y0 y1
     go_loopg [3,5] (p.length - (m+1)) (fun gk i i2 wr=>∃ (j:Nat) (c:List (LU × LU)),m+1+(j+1)≤p.length∧i= .int .i64 c.length∧i2= .int .i64 ((j:Int)+1)∧Aside (m+1+(j+1)+gk=p.length+1)∧c.length≤m+1+j∧Aside (c=ddL p (m+1+(j+1)))∧Hid (RowA wr g (c++p.drop c.length))∧Aside (w.grownBy wr (some g)))
     case atStart=>exact⟨0,ddL p (m+1+1),by omega,by rw[hst2];rfl,rfl,by show _=_;omega,by omega,rfl,HST,AWN⟩
     case round=>
      obtain⟨j,c,hj,rfl,rfl,AG2,hcl,AC,HR2,AW2⟩:=hrel
      by_cases hlt2:m+1+(j+1)<p.length
      ·obtain⟨q2,rfl⟩:∃ q2,gk=q2+1:=⟨gk - 1,by have:=AG2.out;omega⟩
       have gX:(c++p.drop c.length)[m+1+(j+1)]?=some p[m+1+(j+1)]:=by
        rw[List.getElem?_append_right (by omega),List.getElem?_drop,show c.length+(m+1+(j+1) - c.length)=m+1+(j+1) by omega];exact List.getElem?_eq_getElem hlt2
       have gY:(c++p.drop c.length)[m+1+j]?=some p[m+1+j]:=by
        rw[List.getElem?_append_right (by omega),List.getElem?_drop,show c.length+(m+1+j - c.length)=m+1+j by omega];exact List.getElem?_eq_getElem (by omega)
       have rX:=HR2.out.at2 gX
       have rY:=HR2.out.at2 gY
       have kX:(m+1+(j+1)) * 2=(m+1) * 2+(j+1) * 2:=by omega
       have kY:(m+1+j) * 2=(m+1) * 2+j * 2:=by omega
       rw[kX] at rX
       rw[kY] at rY
       obtain⟨x0,x1,_,_⟩:=rX
       obtain⟨y0,y1,_,_⟩:=rY
       clear kX kY
       have hk0:(0:Int)≤(j:Int)+1:=by omega
       have hk1:(j:Int)+1<((p.length - (m+1):Nat):Int):=by omega
       have hk2:(0:Int)≤(j:Int):=by omega
       have hk3:(j:Int)<((p.length - (m+1):Nat):Int):=by omega
       have hk4:((j:Int)+1).toNat=j+1:=by omega
       have hk5:IntKind.i64.wrap ((j:Int)+1 - 1)=(j:Int):=by rw[IntWalk.i64_in _ (by omega)];omega
       have hneq:=zem_
       generalize hN:p.length - (m+1)=n2 at *
       go_wp2_with fail
       go_quiet (fail)
       clear hk5
       have HRN2:Hid (RowA (wr.drewN nq) g (c++p.drop c.length)):=HR2.out.drewN nq
       have AWN2:Aside (w.grownBy (wr.drewN nq) (some g)):=⟨AW2.out.os,AW2.out.tape,AW2.out.output,AW2.out.size,AW2.out.block⟩
       have x0':(wr.drewN nq).cell? ⟨g,(m+1) * 2+(j+1) * 2,none⟩=some (.string ⟨p[m+1+(j+1)].1.toArray⟩):=x0
       have x1':(wr.drewN nq).cell? ⟨g,(m+1) * 2+(j+1) * 2+1,none⟩=some (.string ⟨p[m+1+(j+1)].2.toArray⟩):=x1
       by_cases he2:p[m+1+(j+1)]=p[m+1+j]
       ·have ht:(!decide (p[m+1+(j+1)].1=p[m+1+j].1)||!decide (p[m+1+(j+1)].2=p[m+1+j].2))=false:=by simp [he2]
        have HC2:=hiD (show c=ddL p (m+1+(j+1+1)) by rw[AC.out];exact(z90_ p (m+1+j) hlt2 he2).symm)
        generalize (!decide (p[m+1+(j+1)].1=p[m+1+j].1)||!decide (p[m+1+(j+1)].2=p[m+1+j].2))=T at ht ⊢
        subst ht
        clear he2 x0 x1 y0 y1 x0' x1' gX gY
        generalize wr.drewN nq=W2 at HRN2 AWN2 ⊢
        go_wp2_with fail
        go_roundg q2
        case measure=>omega
        case rel=>exact⟨j+1,c,by omega,rfl,by go_num,by have:=AG2.out;show _=_;omega,by omega,HC2.out,HRN2,AWN2⟩
       ·have ht:(!decide (p[m+1+(j+1)].1=p[m+1+j].1)||!decide (p[m+1+(j+1)].2=p[m+1+j].2))=true:=by
         rw[Bool.or_eq_true]
         by_cases h1:p[m+1+(j+1)].1=p[m+1+j].1
         ·exact .inr (by rw[decide_eq_false fun h2=>he2 (Prod.ext h1 h2)];rfl)
         ·exact .inl (by rw[decide_eq_false h1];rfl)
        have HC2:=hiD (show c++[p[m+1+(j+1)]]=ddL p (m+1+(j+1+1)) by rw[AC.out];exact(z5y_ p (m+1+j) hlt2 he2).symm)
        generalize (!decide (p[m+1+(j+1)].1=p[m+1+j].1)||!decide (p[m+1+(j+1)].2=p[m+1+j].2))=T at ht ⊢
        subst ht
        have hcn:c.length<p.length:=by omega
        have gZ:(c++p.drop c.length)[c.length]?=some p[c.length]:=by
         rw[List.getElem?_append_right (nR _),List.getElem?_drop,Nat.sub_self,Nat.add_zero];exact List.getElem?_eq_getElem hcn
        have hll:c.length<(c++p.drop c.length).length:=by simp;omega
        have rZ:=HRN2.out.at2 gZ
        have HS:=hiD (HRN2.out.set hll p[m+1+(j+1)])
        have HLS:=hiD (zj1_ c p p[m+1+(j+1)] hcn)
        clear he2 x0 x1 y0 y1 gX gY gZ
        obtain⟨z0,z1,z2,z3⟩:=rZ
        generalize p[m+1+(j+1)]=X at *
        generalize p[c.length]=Z at z0 z1
        generalize wr.drewN nq=W2 at *
        have hci:(c.length:Int)<(p.length:Int):=by omega
        have z1':(W2.setCell ⟨g,c.length * 2,none⟩ (.string ⟨X.1.toArray⟩)).cell? ⟨g,c.length * 2+1,none⟩=some (.string ⟨Z.2.toArray⟩):=(zy_ _ _ _ _ _ (by omega)).trans z1
        have z3':(W2.setCell ⟨g,c.length * 2,none⟩ (.string ⟨X.1.toArray⟩)).frozen? ⟨g,c.length * 2+1,none⟩=false:=(World.frozen?_setCell _ _ _ _).trans z3
        go_wp2_with fail
        go_roundg q2
        case measure=>omega
        case rel=>exact⟨j+1,c++[X],by omega,by simp,by go_num,by have:=AG2.out;show _=_;omega,by simp;omega,HC2.out,by rw[← HLS.out];exact HS,gT (gT AWN2.out (z6_ _ _ _ _)) (z6_ _ _ _ _)⟩
      ·have hjn:m+1+(j+1)=p.length:=by omega
       have hfin:ddL p p.length=c:=by rw[← hjn];exact AC.out.symm
       have Hf:=hiD hfin
       have hcn:c.length<p.length:=by omega
       have hs1:∀ W,(Instr.slice 187 (.slice (some ⟨g,0,none⟩) p.length cap) (some (.int .i64 (c.length:Int))) none none).run Tryz.prog W= .ok (.slice (some ⟨g,c.length * 2,none⟩) (p.length - c.length) (cap - c.length)) W:=fun W=>z3n_ g p.length cap c.length hcn hc W
       have hs2:∀ W,(Instr.slice 187 (.slice (some ⟨g,0,none⟩) p.length cap) none (some (.int .i64 (c.length:Int))) none).run Tryz.prog W= .ok (.slice (some ⟨g,0,none⟩) c.length cap) W:=fun W=>zbj_ g p.length cap c.length (by omega) W
       obtain⟨W3,hcl,hW3,hg3⟩:=zd5_ HR2.out hcn (cap - c.length)
       clear hfin
       go_wp2_with fail
       go_ret
       exact⟨by rw[Hf.out];rfl,by rw[Hf.out];exact hW3,gT AW2.out hg3⟩
    ·have ht:(decide (p[m+1].1=p[m].1) && decide (p[m+1].2=p[m].2))=false:=by
      rw[Bool.and_eq_false_iff]
      by_cases h1:p[m+1].1=p[m].1
      ·exact .inr (decide_eq_false fun h2=>he (Prod.ext h1 h2))
      ·exact .inl (decide_eq_false h1)
     have hdd:ddL p (m+1+1)=p.take (m+1+1):=by rw[z5y_ p m hlt he,AD.out,List.take_succ_eq_append_getElem hlt]
     have HDD:=hiD hdd
     have HRN:Hid (RowA (wr.drewN nq) g p):=HR.out.drewN nq
     have AWN:Aside (w.grownBy (wr.drewN nq) (some g)):=⟨AW.out.os,AW.out.tape,AW.out.output,AW.out.size,AW.out.block⟩
     clear he hdd
     generalize (decide (p[m+1].1=p[m].1) && decide (p[m+1].2=p[m].2))=T at ht ⊢
     subst ht
     go_wp2_with fail
     go_roundg q
     case measure=>omega
     case rel=>exact⟨m+1,by omega,by go_num,by have:=AG.out;show _=_;omega,HRN,AWN,HDD.out⟩
   ·obtain hm:m+1=p.length:=by omega
    have hfin:ddL p p.length=p:=by have:=AD.out;rw[hm,List.take_length] at this;exact this
    have Hf:=hiD hfin
    clear hfin
    have hkk:¬ ((m:Int)+1<(p.length:Int)):=by omega
    go_wp2_with fail
    go_ret
    exact⟨by rw[Hf.out];rfl,by rw[Hf.out];exact HR.out,AW.out⟩
open Go.RowKit Go.Sort
theorem z20_ (p:List (LU × LU)):(z0z_ p).toList.length=p.length:=by
 have:=(insertionSort_holds (lt:=ltOf xj_) avaCmp_ord.swo p.toArray 0 p.length (Nat.zero_le _) (by simp)).1.1
 simpa [z0z_] using this
def z6w_ (p:List (LU × LU)):List (LU × LU):=ddL (z0z_ p).toList p.length
theorem zi7_ (p:List (LU × LU)) (g cap:Nat) (w:World) (h:RowA w g p) (h12:p.length≤12) (hc:p.length≤cap):
  Calls Tryz.prog 146 #[.slice (some ⟨g,0,none⟩) p.length cap] w fun e w'=>e= .returned (.slice (some ⟨g,0,none⟩) (z6w_ p).length cap)∧RowA w' g (z6w_ p)∧w.grownBy w' (some g):=by
 have hS:=Sort_c p g cap w h h12
 have HC:=hiD (fun (W:World) (hR:RowA W g (z0z_ p).toList)=>zc0_ (z0z_ p).toList g cap W hR (by rw[z20_];omega) (by rw[z20_];exact hc))
 rw[z20_] at HC
 clear h
 unfold z6w_
 generalize ddL (z0z_ p).toList p.length=R at *
 generalize p.length=n at *
 go_enter Tryz.func146,Tryz.ntmps146
 go_wp2_with (first|(go_at_call 208;refine hS.mono ?_;rintro e w1 ⟨rfl,hR1,hg1⟩)|(go_at_call 212;refine(HC.out _ hR1).mono ?_;rintro e w2 ⟨rfl,hR2,hg2⟩))
 go_ret
 exact⟨rfl,hR2,gT hg1 hg2⟩
open Go.RowKit Go.Sort
abbrev z43_:=Nat × Nat × List (LU × LU)
def NM (B:Nat) (w:World) (gd:Nat) (L:List z43_):Prop:=
 gd<w.heap.size∧B≤gd∧L.Pairwise (fun x y=>x.1≠y.1)∧∀ (i:Nat) (x:z43_),L[i]?=some x→
  w.cell? ⟨gd,i,none⟩=some (.slice (some ⟨x.1,0,none⟩) x.2.2.length x.2.1)∧w.frozen? ⟨gd,i,none⟩=false∧RowA w x.1 x.2.2∧x.2.2.length≤x.2.1∧B≤x.1∧x.1≠gd
theorem RowA.keep {w w':World} {g:Nat} {l:List (LU × LU)} (h:RowA w g l) {r:Option Nat} (hg:w.grownBy w' r) (hne:some g≠r):RowA w' g l:=by
 have hb:=hg.block g h.1 hne
 refine⟨Nat.lt_of_lt_of_le h.1 hg.size,fun j x hj=>?_⟩
 have:=h.2 j x hj
 rw[World.cell?_of_block (w:=w) (w':=w') (a:=⟨g,2 * j,none⟩) hb,World.cell?_of_block (w:=w) (w':=w') (a:=⟨g,2 * j+1,none⟩) hb,World.frozen?_of_block (w:=w) (w':=w') (a:=⟨g,2 * j,none⟩) hb,World.frozen?_of_block (w:=w) (w':=w') (a:=⟨g,2 * j+1,none⟩) hb]
 exact this
theorem NM.part {B:Nat} {w w1:World} {gd i:Nat} {L:List z43_} {x:z43_} {p:List (LU × LU)} (h:NM B w gd L) (hi:L[i]?=some x)
  (hg:w.grownBy w1 (some x.1)) (hr:RowA w1 x.1 p) (hc:p.length≤x.2.1):
  NM B (w1.setCell ⟨gd,i,none⟩ (.slice (some ⟨x.1,0,none⟩) p.length x.2.1)) gd (L.set i (x.1,x.2.1,p)):=by
 obtain⟨h1,h2,h3,h4⟩:=h
 have hx:=h4 i x hi
 have hil:i<L.length:=(List.getElem?_eq_some_iff.1 hi).1
 have hbd:w1.heap[gd]?=w.heap[gd]?:=hg.block gd h1 (by intro e;exact hx.2.2.2.2.2 (Option.some.inj e).symm)
 have hs:=z6_ w1 gd i (.slice (some ⟨x.1,0,none⟩) p.length x.2.1)
 refine⟨Nat.lt_of_lt_of_le h1 (nT hg.size hs.size),h2,?_,fun k y hk=>?_⟩
 ·rw[List.pairwise_iff_getElem] at h3 ⊢
  intro a b ha hb hab
  have hxe:L[i]=x:=(List.getElem?_eq_some_iff.1 hi).2
  simp only[List.length_set] at ha hb
  have:=h3 a b ha hb hab
  simp only[List.getElem_set]
  split<;>split
  ·omega
  ·next e _=>subst e;rw[hxe] at this;exact this
  ·next _ e=>subst e;rw[hxe] at this;exact this
  ·exact this
 ·rw[List.getElem?_set] at hk
  rw[World.frozen?_setCell]
  by_cases hik:i=k
  ·subst hik
   rw[if_pos rfl,if_pos hil] at hk
   cases hk
   refine⟨v9_ _ _ _ _ _ ((World.cell?_of_block (a:=⟨gd,i,none⟩) hbd).trans hx.1),(World.frozen?_of_block (a:=⟨gd,i,none⟩) hbd).trans hx.2.1,hr.keep hs (by intro e;exact hx.2.2.2.2.2 (Option.some.inj e)),hc,hx.2.2.2.2.1,hx.2.2.2.2.2⟩
  ·rw[if_neg hik] at hk
   have hy:=h4 k y hk
   have hne:y.1≠x.1:=by
    rw[List.pairwise_iff_getElem] at h3
    have hkl:k<L.length:=(List.getElem?_eq_some_iff.1 hk).1
    have e1:L[i]=x:=(List.getElem?_eq_some_iff.1 hi).2
    have e2:L[k]=y:=(List.getElem?_eq_some_iff.1 hk).2
    rcases Nat.lt_or_gt_of_ne hik with hlt|hlt
    ·have:=h3 i k hil hkl hlt;rw[e1,e2] at this;exact Ne.symm this
    ·have:=h3 k i hkl hil hlt;rw[e1,e2] at this;exact this
   refine⟨(zy_ _ _ _ _ _ (by omega)).trans ((World.cell?_of_block (a:=⟨gd,k,none⟩) hbd).trans hy.1),(World.frozen?_of_block (a:=⟨gd,k,none⟩) hbd).trans hy.2.1,(hy.2.2.1.keep hg (by intro e;exact hne (Option.some.inj e))).keep hs (by intro e;exact hy.2.2.2.2.2 (Option.some.inj e)),hy.2.2.2.1,hy.2.2.2.2.1,hy.2.2.2.2.2⟩
open Go.RowKit Go.Sort
def ziw_ (v:Value) (p:List (LU × LU)):z43_:=match v with
 | .slice (some a) _ c=>(a.block,c,p)
 |_=>(0,0,p)
theorem Avas.some {B:Nat} {w:World} {v:Value} {p:List (LU × LU)} (h:Avas B w v p) (hp:p≠[]):∃ g c,v= .slice (some ⟨g,0,none⟩) p.length c∧p.length≤c∧B≤g:=by
 obtain⟨⟨h1,h2⟩,h3⟩:=h
 rcases h2 with ⟨rfl,hn⟩|⟨g,cap,cur,rfl,r2,r3,r4,_⟩
 ·exact absurd (List.eq_nil_of_length_eq_zero hn) hp
 ·exact⟨g,cap,rfl,r4,r2⟩
theorem DnAt.nm {B gd n c:Nat} {w:World} {d:List (List (LU × LU))} (h:DnAt B w (.slice (some ⟨gd,0,none⟩) n c) d) (hne:∀ p∈d,p≠[]):
  ∃ L:List z43_,L.map (·.2.2)=d∧NM B w gd L:=by
 obtain⟨vs,hrow,hB,hP,hpw⟩:=h
 have hlen:=hP.len
 refine⟨List.zipWith ziw_ vs d,?_,?_⟩
 ·apply List.ext_getElem
  ·simp [hlen]
  ·intro i h1 h2
   simp only[List.getElem_map,List.getElem_zipWith]
   unfold ziw_
   split<;>rfl
 ·have hgd:=(hrow.lt gd rfl)
  have hget:∀ (i:Nat) (x:z43_),(List.zipWith ziw_ vs d)[i]?=some x→∃ p v,d[i]?=some p∧vs[i]?=some v∧Avas B w v p∧∃ g c,v= .slice (some ⟨g,0,none⟩) p.length c∧p.length≤c∧B≤g∧x=(g,c,p):=by
   intro i x hx
   obtain⟨hil,hxe⟩:=List.getElem?_eq_some_iff.1 hx
   have hid:i<d.length:=by simp at hil;omega
   obtain⟨v,hv,hA⟩:=hP.get i d[i] (List.getElem?_eq_getElem hid)
   obtain⟨g,c,rfl,hc,hg⟩:=hA.some (hne _ (List.getElem_mem hid))
   refine⟨d[i],_,List.getElem?_eq_getElem hid,hv,hA,g,c,rfl,hc,hg,?_⟩
   rw[← hxe,List.getElem_zipWith]
   have:vs[i]'(by omega)= .slice (some ⟨g,0,none⟩) d[i].length c:=by
    rw[List.getElem?_eq_getElem (by omega)] at hv;exact Option.some.inj hv
   rw[this];rfl
  refine⟨hgd.2,hgd.1,?_,?_⟩
  ·rw[List.pairwise_iff_getElem] at hpw ⊢
   intro i j hi hj hij
   obtain⟨p,v,hp,hv,hA,g,c,rfl,hc,hg,hx⟩:=hget i _ (List.getElem?_eq_getElem hi)
   obtain⟨p',v',hp',hv',hA',g',c',rfl,hc',hg',hx'⟩:=hget j _ (List.getElem?_eq_getElem hj)
   obtain⟨hil,hiv⟩:=List.getElem?_eq_some_iff.1 hv
   obtain⟨hjl,hjv⟩:=List.getElem?_eq_some_iff.1 hv'
   have:=hpw i j hil hjl hij
   rw[hiv,hjv] at this
   rw[hx,hx']
   rcases this with e|e
   ·cases e
   ·intro e2;apply e;simp only[Value.ownBlock];exact congrArg Option.some e2
  ·intro i x hx
   obtain⟨p,v,hp,hv,hA,g,cc,rfl,hc,hg,rfl⟩:=hget i x hx
   have hid:i<d.length:=(List.getElem?_eq_some_iff.1 hp).1
   obtain⟨h1,h2⟩:=hrow
   rcases h2 with ⟨hn,_⟩|⟨g',cap,cur,e,r2,r3,r4,r5,r6,r7⟩
   ·cases hn
   ·cases e
    have hcell:w.cell? ⟨gd,i,none⟩=some (.slice (some ⟨g,0,none⟩) p.length cc):=by
     rw[← r7,List.getElem?_take] at hv
     rw[if_pos (by omega)] at hv
     simp only[World.cell?,r3]
     simpa using hv
    refine⟨hcell,by simp [World.frozen?,r3],hA.row,hc,hg,?_⟩
    intro e
    have hA2:=hA.1.2
    rcases hA2 with ⟨hn,_⟩|⟨g2,cap2,cur2,e2,_,r3',_⟩
    ·cases hn
    ·cases e2
     simp only at e
     subst e
     rw[r3] at r3'
     cases r3'
theorem z8v_:∀ (n:Nat) (r r':LU) (acc l:List (LU × LU)),acc≠[]→jq_ n r acc=some (l,r')→l≠[]
 |0,r,r',acc,l,ha,h=>by
  rw[jq_] at h
  split at h
  ·cases h
  ·cases h;exact ha
 |n+1,r,r',acc,l,ha,h=>by
  rw[jq_] at h
  split at h
  ·split at h
   ·cases h
   ·exact z8v_ n _ r' _ l (by simp) h
  ·cases h;exact ha
theorem z99_ {r r':LU} {l:List (LU × LU)} (h:xc_ r=some (l,r')):l≠[]:=by
 unfold xc_ at h
 split at h
 ·cases h
 ·exact z8v_ _ _ _ _ _ (by simp) h
theorem z8t_:∀ (n:Nat) (r r':LU) (acc l:List (List (LU × LU))),(∀ p∈acc,p≠[])→jn_ n r acc=some (l,r')→∀ p∈l,p≠[]
 |0,r,r',acc,l,ha,h=>by
  rw[jn_] at h
  split at h
  ·cases h
  ·cases h;exact ha
 |n+1,r,r',acc,l,ha,h=>by
  rw[jn_] at h
  split at h
  ·split at h
   ·cases h
   ·next x r2 hp=>exact z8t_ n r2 r' _ l (by intro p hp';simp at hp';rcases hp' with hp'|rfl;exact ha p hp';exact z99_ hp) h
  ·cases h;exact ha
theorem z6d_ {s:LU}:∀ p∈(zd_ s).2,p≠[]:=by
 unfold zd_
 split
 ·simp
 ·split
  ·simp
  ·next d hd=>
   split
   ·simp
   ·intro p hp
    unfold z22_ at hd
    split at hd
    ·cases hd;simp at hp
    ·rcases hq:xc_ s with _|⟨q,r⟩
     ·rw[hq] at hd;cases hd
     ·rw[hq] at hd
      simp only[z56_] at hd
      rcases hn:jn_ r.length r [q] with _|⟨d',r'⟩
      ·rw[hn] at hd;cases hd
      ·rw[hn] at hd
       simp only[z1h_] at hd
       split at hd
       ·cases hd
        exact z8t_ _ _ _ _ _ (by simpa using z99_ hq) hn p hp
       ·cases hd
open Go.RowKit Go.Sort
def z1x_ (x:LU × LU):LU × LU:=(z2_ x.1,(z1g_ x.2 true).getD x.2)
def z10_ (p:List (LU × LU)):List (LU × LU):=z6w_ (p.map z1x_)
def z4a_ (s:LU):Option LU:=if (zd_ s).1=0 then (if (j5_ ((zd_ s).2.map z10_)).1=0 then some (j5_ ((zd_ s).2.map z10_)).2 else none) else none
theorem NM.dnR {B:Nat} {w:World} {gd c:Nat} {L:List z43_} (h:NM B w gd L) (hc:L.length≤c):DnR w (.slice (some ⟨gd,0,none⟩) L.length c) (L.map (·.2.2)):=by
 refine⟨some ⟨gd,0,none⟩,c,by rw[List.length_map],by rw[List.length_map];exact hc,.inr ⟨gd,0,rfl,h.1,fun j p hj=>?_⟩⟩
 rw[List.getElem?_map] at hj
 cases hx:L[j]? with
 |none=>rw[hx] at hj;cases hj
 |some x=>
  rw[hx] at hj
  cases hj
  have hy:=h.2.2.2 j x hx
  refine⟨_,by rw[Nat.zero_add];exact hy.1,some ⟨x.1,0,none⟩,x.2.1,rfl,hy.2.2.2.1,.inr ⟨x.1,0,rfl,hy.2.2.1.1,fun i y hi=>?_⟩⟩
  have:=hy.2.2.1.2 i y hi
  rw[Nat.zero_add]
  exact⟨this.1.1,this.2.1⟩
theorem z4i_ {α:Type} [DecidableEq α] (p:List α):∀ n,∀ x∈ddL p n,x∈p
 |0,x,h=>by simp [ddL] at h
 |n+1,x,h=>by
  rw[ddL] at h
  split at h
  ·exact z4i_ p n x h
  ·next y hy=>
   split at h
   ·exact z4i_ p n x h
   ·rw[List.mem_append] at h
    rcases h with h|h
    ·exact z4i_ p n x h
    ·rw[List.mem_singleton] at h;subst h;exact List.mem_of_getElem? hy
theorem zf1_ {α:Type} [DecidableEq α] (p:List α):∀ n,(ddL p n).length≤n
 |0=>by simp [ddL]
 |n+1=>by
  have:=zf1_ p n
  rw[ddL]
  split
  ·omega
  ·split
   ·omega
   ·simp;omega
theorem zaa_ (p:List (LU × LU)):(z0z_ p).toList.Perm p:=by
 have h:=(insertionSort_holds (lt:=ltOf xj_) avaCmp_ord.swo p.toArray 0 p.length (Nat.zero_le _) (by simp)).1
 have h2:=h.2.2
 have e1:((Sort.insertionSort (ltOf xj_) p.toArray 0 p.length).extract 0 p.length)=Sort.insertionSort (ltOf xj_) p.toArray 0 p.length:=by
  have:(Sort.insertionSort (ltOf xj_) p.toArray 0 p.length).size=p.length:=by simpa using h.1
  generalize Sort.insertionSort (ltOf xj_) p.toArray 0 p.length=R at this ⊢
  rw[← this];simp
 have e2:(p.toArray.extract 0 p.length)=p.toArray:=by simp
 rw[e1,e2] at h2
 exact h2
theorem z5k_ (p:List (LU × LU)):∀ x∈z6w_ p,x∈p:=fun x h=>(zaa_ p).mem_iff.1 (z4i_ _ _ x h)
theorem vb_ (p:List (LU × LU)):(z6w_ p).length≤p.length:=zf1_ _ _
section
variable (Q:LU × LU→Prop) (hQ:∀ r x r',ya_ r=some (x,r')→Q x)
include hQ
theorem z59_:∀ (n:Nat) (r r':LU) (acc l:List (LU × LU)),(∀ x∈acc,Q x)→jq_ n r acc=some (l,r')→∀ x∈l,Q x
 |0,r,r',acc,l,ha,h=>by
  rw[jq_] at h
  split at h
  ·cases h
  ·cases h;exact ha
 |n+1,r,r',acc,l,ha,h=>by
  rw[jq_] at h
  split at h
  ·split at h
   ·cases h
   ·next x r2 hp=>exact z59_ n r2 r' _ l (by intro y hy;simp at hy;rcases hy with hy|rfl;exact ha y hy;exact hQ _ _ _ hp) h
  ·cases h;exact ha
theorem z6r_ {r r':LU} {l:List (LU × LU)} (h:xc_ r=some (l,r')):∀ x∈l,Q x:=by
 unfold xc_ at h
 split at h
 ·cases h
 ·next x r2 hp=>exact z59_ Q hQ _ _ _ _ _ (by simpa using hQ _ _ _ hp) h
theorem z5t_:∀ (n:Nat) (r r':LU) (acc l:List (List (LU × LU))),(∀ p∈acc,∀ x∈p,Q x)→jn_ n r acc=some (l,r')→∀ p∈l,∀ x∈p,Q x
 |0,r,r',acc,l,ha,h=>by
  rw[jn_] at h
  split at h
  ·cases h
  ·cases h;exact ha
 |n+1,r,r',acc,l,ha,h=>by
  rw[jn_] at h
  split at h
  ·split at h
   ·cases h
   ·next x r2 hp=>exact z5t_ n r2 r' _ l (by intro p hp';simp at hp';rcases hp' with hp'|rfl;exact ha p hp';exact z6r_ Q hQ hp) h
  ·cases h;exact ha
theorem zbm_ {s:LU}:∀ p∈(zd_ s).2,∀ x∈p,Q x:=by
 unfold zd_
 split
 ·simp
 ·split
  ·simp
  ·next d hd=>
   split
   ·simp
   ·intro p hp
    unfold z22_ at hd
    split at hd
    ·cases hd;simp at hp
    ·rcases hq:xc_ s with _|⟨q,r⟩
     ·rw[hq] at hd;cases hd
     ·rw[hq] at hd
      simp only[z56_] at hd
      rcases hn:jn_ r.length r [q] with _|⟨d',r'⟩
      ·rw[hn] at hd;cases hd
      ·rw[hn] at hd
       simp only[z1h_] at hd
       split at hd
       ·cases hd
        exact z5t_ Q hQ _ _ _ _ _ (by simpa using z6r_ Q hQ hq) hn p hp
       ·cases hd
end
theorem zaw_ {r r':LU} {x:LU × LU} (h:ya_ r=some (x,r')):zc_ x.1=true:=by
 unfold ya_ at h
 split at h
 ·cases h
 ·next t r2 ht=>
  split at h
  ·split at h
   ·cases h
   ·cases h
    unfold zc8_ at ht
    split at ht
    ·next hi=>cases ht;exact hi
    ·cases ht
  ·cases h
theorem z2o_ {s:LU}:∀ p∈(zd_ s).2,∀ x∈p,zc_ x.1=true:=zbm_ (fun x=>zc_ x.1=true) (fun _ _ _ h=>zaw_ h)
theorem z3i_ (l:LU):(z2_ l).length=l.length:=by simp [z2_]
open Go.RowKit
def VR (r:Int):Prop:=(0≤r∧r<55296)∨(57344≤r∧r≤1114111)
theorem VR_of {r:Int} (h:Lib.validRune r=true):VR r:=by
 unfold Lib.validRune at h;simp at h;unfold VR;omega
theorem zc3_ {r:Int} (h:VR r):
  (0≤r∧r<128∧kc_ r=[UInt8.ofNat r.toNat])∨
  (128≤r∧r<2048∧kc_ r=[UInt8.ofNat (192+r.toNat / 64),UInt8.ofNat (128+r.toNat % 64)])∨
  (2048≤r∧r<65536∧kc_ r=[UInt8.ofNat (224+r.toNat / 4096),UInt8.ofNat (128+r.toNat / 64 % 64),UInt8.ofNat (128+r.toNat % 64)])∨
  (65536≤r∧r≤1114111∧kc_ r=[UInt8.ofNat (240+r.toNat / 262144),UInt8.ofNat (128+r.toNat / 4096 % 64),UInt8.ofNat (128+r.toNat / 64 % 64),UInt8.ofNat (128+r.toNat % 64)]):=by
 have hv:Utf8.valid r=true:=by unfold VR at h;unfold Utf8.valid;simp;omega
 unfold kc_ Utf8.encode
 rw[hv]
 simp only[if_true]
 by_cases h1:r.toNat<128
 ·left;refine⟨by unfold VR at h;omega,by omega,?_⟩;rw[if_pos h1]
 ·rw[if_neg h1]
  right
  by_cases h2:r.toNat<2048
  ·left;refine⟨by omega,by omega,?_⟩;rw[if_pos h2]
  ·rw[if_neg h2]
   right
   by_cases h3:r.toNat<65536
   ·left;refine⟨by omega,by omega,?_⟩;rw[if_pos h3]
   ·rw[if_neg h3]
    right
    refine⟨by omega,by unfold VR at h;omega,rfl⟩
theorem ofN {n:Nat} (h:n<256):(UInt8.ofNat n).toNat=n:=by simp;omega
/-! ### what becomes of characters -/
def zbx_ (fold:Bool) (acc:List Int) (r:Int):Option (List Int):=
 if (yn_ r).2.2 then none
 else if !(yn_ r).2.1 then some acc
 else if (yn_ r).1=32∧acc.getLast?=some 32 then some acc
 else some (acc++[if fold then jk_ (yn_ r).1 else (yn_ r).1])
def zch_ (fold:Bool):List Int→List Int→Option (List Int)
 |[],acc=>some acc
 |r::rs,acc=>(zbx_ fold acc r).bind (zch_ fold rs)
open Go.RowKit
theorem zhl_ {α:Type} [BEq α] [LawfulBEq α] (c:α):∀ l:List α,l.head?≠some c→l.dropWhile (·==c)=l
 |[],_=>rfl
 |x::l,h=>by
  have:(x==c)=false:=by rw[beq_eq_false_iff_ne];intro e;apply h;simp [e]
  rw[List.dropWhile_cons,this];simp
theorem map_some (f g:Bool):∀ (rs acc acc':List Int),(zch_ f rs acc).isSome=(zch_ g rs acc').isSome
 |[],_,_=>rfl
 |r::rs,acc,acc'=>by
  rw[zch_,zch_]
  have hs:∀ (f:Bool) (acc:List Int),(yn_ r).2.2=false→∃ a,zbx_ f acc r=some a:=by
   intro f acc h
   unfold zbx_
   rw[h]
   simp only[Bool.false_eq_true,if_false]
   split
   ·exact⟨_,rfl⟩
   ·split
    ·exact⟨_,rfl⟩
    ·exact⟨_,rfl⟩
  cases h:(yn_ r).2.2
  ·obtain⟨a,ha⟩:=hs f acc h
   obtain⟨b,hb⟩:=hs g acc' h
   rw[ha,hb]
   exact map_some f g rs a b
  ·have:∀ (f:Bool) (acc:List Int),zbx_ f acc r=none:=by intro f acc;unfold zbx_;rw[h];rfl
   rw[this,this];rfl
open Go.RowKit Go.Sort
def SS {α:Type} (f:α→α→Int) (l:List α):Prop:=l.Pairwise (fun a b=>f a b<0)
theorem SS.unique {α:Type} {f:α→α→Int} (hf:Ord f):∀ l l':List α,SS f l→SS f l'→(∀ x,x∈l↔x∈l')→l=l'
 |[],[],_,_,_=>rfl
 |[],y::l',_,_,h=>by have:=(h y).2 (by simp);simp at this
 |x::l,[],_,_,h=>by have:=(h x).1 (by simp);simp at this
 |x::l,y::l',h1,h2,h=>by
  unfold SS at h1 h2
  rw[List.pairwise_cons] at h1 h2
  have hxy:x=y:=by
   have a:=(h x).1 (by simp)
   have b:=(h y).2 (by simp)
   rw[List.mem_cons] at a b
   rcases a with a|a
   ·exact a
   ·rcases b with b|b
    ·exact b.symm
    ·have c:=h1.1 y b
     have d:=h2.1 x a
     have e:=hf.swap x y
     omega
  subst hxy
  have hx:=(hf.zero x x).2 rfl
  rw[SS.unique hf l l' h1.2 h2.2 (fun z=>?_)]
  constructor
  ·intro hz
   have:=(h z).1 (by simp [hz])
   rw[List.mem_cons] at this
   rcases this with e|e
   ·have:=h1.1 z hz;rw[e] at this;omega
   ·exact e
  ·intro hz
   have:=(h z).2 (by simp [hz])
   rw[List.mem_cons] at this
   rcases this with e|e
   ·have:=h2.1 z hz;rw[e] at this;omega
   ·exact e
end Go.Proofs.YtakfpngfpknedaaGreatDoor
