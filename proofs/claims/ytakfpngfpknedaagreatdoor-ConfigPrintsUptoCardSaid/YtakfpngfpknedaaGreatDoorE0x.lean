import Derived.Test.YtakfpngfpknedaaGreatDoorE0w
set_option linter.all false
set_option maxHeartbeats 8000000
set_option maxRecDepth 100000
set_option linter.all false
namespace Go.Proofs.YtakfpngfpknedaaGreatDoor
open Go.RowKit
theorem zdh_ (p:Nat) (w:World):Calls Tryz.prog 20 #[.pointer (some ⟨p,0,none⟩)] w fun e w'=>∃ m,e= .returned (.map (some m))∧MapI w p (Array.replicate 72 true) m w'∧Bel w w':=by
 have hmf:=z2x_
 have hmm:=@run_makeMap Tryz.prog
 have b0:=(bR w.heap.size w).alloc (nR _) (.cells #[.pointer (some ⟨p,0,none⟩)] 49)
 have hbox:=Bk.new w 49 #[.pointer (some ⟨p,0,none⟩)]
 have hcb:(w.alloc (.cells #[.pointer (some ⟨p,0,none⟩)] 49)).cell? ⟨w.heap.size,0,none⟩=some (.pointer (some ⟨p,0,none⟩)):=hbox.cell 0
 have HX:=hiD (And.intro b0.drew (hbox.below (bR _ _).drew))
 clear b0 hbox
 go_enter Tryz.func20,Tryz.ntmps20
 go_wp2_with fail
 refine wp_region_noPanic ?_
 refine wp_region_held_drew (S:=(fun W=>W.cell? ⟨w.heap.size,0,none⟩=some (.pointer (some ⟨p,0,none⟩)))) (by kernel_rfl) ?_ (fun hHeld=>?_)
 ·exact hcb
 refine wpAnyH_take (i:=1) (v:=?v1) rfl (by kernel_rfl) (by kernel_rfl) (by kernel_rfl) (fun _ _ _ h=>h) (Or.inl ⟨by rfl,?y1⟩) hHeld ?_
 case y1=>(intro w hSw;(try dsimp only at hSw);go_simp;first|done|(with_reducible rfl))
 try simp only[gsx,Act.put]
 refine wpAnyH_take (i:=2) (v:=?v2) rfl (by kernel_rfl) (by kernel_rfl) (by kernel_rfl) (fun _ _ _ h=>h) (Or.inl ⟨by rfl,?y2⟩) hHeld ?_
 case y2=>(intro w hSw;(try dsimp only at hSw);go_simp;first|done|(with_reducible rfl))
 try simp only[gsx,Act.put]
 refine wpAnyH_take (i:=3) (v:=?v3) rfl (by kernel_rfl) (by kernel_rfl) (by kernel_rfl) (fun _ _ _ h=>h) (Or.inl ⟨by rfl,?y3⟩) hHeld ?_
 case y3=>(intro w hSw;(try dsimp only at hSw);go_simp;first|done|(with_reducible rfl))
 try simp only[gsx,Act.put]
 refine wpAnyH_take (i:=4) (v:=?v4) rfl (by kernel_rfl) (by kernel_rfl) (by kernel_rfl) (fun _ _ _ h=>h) (Or.inl ⟨by rfl,?y4⟩) hHeld ?_
 case y4=>(intro w hSw;(try dsimp only at hSw);go_simp;first|done|(with_reducible rfl))
 try simp only[gsx,Act.put]
 refine wpAnyH_take (i:=7) (v:=?v7) rfl (by kernel_rfl) (by kernel_rfl) (by kernel_rfl) (fun _ _ _ h=>h) (Or.inl ⟨by rfl,?y7⟩) hHeld ?_
 case y7=>(intro w hSw;(try dsimp only at hSw);go_simp;first|done|(with_reducible rfl))
 try simp only[gsx,Act.put]
 refine wpAnyH_take (i:=8) (v:=?v8) rfl (by kernel_rfl) (by kernel_rfl) (by kernel_rfl) (fun _ _ _ h=>h) (Or.inl ⟨by rfl,?y8⟩) hHeld ?_
 case y8=>(intro w hSw;(try dsimp only at hSw);go_simp;first|done|(with_reducible rfl))
 try simp only[gsx,Act.put]
 refine wpAnyH_take (i:=9) (v:=?v9) rfl (by kernel_rfl) (by kernel_rfl) (by kernel_rfl) (fun _ _ _ h=>h) (Or.inl ⟨by rfl,?y9⟩) hHeld ?_
 case y9=>(intro w hSw;(try dsimp only at hSw);go_simp;first|done|(with_reducible rfl))
 try simp only[gsx,Act.put]
 refine wpAnyH_take (i:=10) (v:=?v10) rfl (by kernel_rfl) (by kernel_rfl) (by kernel_rfl) (fun _ _ _ h=>h) (Or.inl ⟨by rfl,?y10⟩) hHeld ?_
 case y10=>(intro w hSw;(try dsimp only at hSw);go_simp;first|done|(with_reducible rfl))
 try simp only[gsx,Act.put]
 refine wpAnyH_take (i:=13) (v:=?v13) rfl (by kernel_rfl) (by kernel_rfl) (by kernel_rfl) (fun _ _ _ h=>h) (Or.inl ⟨by rfl,?y13⟩) hHeld ?_
 case y13=>(intro w hSw;(try dsimp only at hSw);go_simp;first|done|(with_reducible rfl))
 try simp only[gsx,Act.put]
 refine wpAnyH_take (i:=14) (v:=?v14) rfl (by kernel_rfl) (by kernel_rfl) (by kernel_rfl) (fun _ _ _ h=>h) (Or.inl ⟨by rfl,?y14⟩) hHeld ?_
 case y14=>(intro w hSw;(try dsimp only at hSw);go_simp;first|done|(with_reducible rfl))
 try simp only[gsx,Act.put]
 refine wpAnyH_take (i:=15) (v:=?v15) rfl (by kernel_rfl) (by kernel_rfl) (by kernel_rfl) (fun _ _ _ h=>h) (Or.inl ⟨by rfl,?y15⟩) hHeld ?_
 case y15=>(intro w hSw;(try dsimp only at hSw);go_simp;first|done|(with_reducible rfl))
 try simp only[gsx,Act.put]
 refine wpAnyH_take (i:=16) (v:=?v16) rfl (by kernel_rfl) (by kernel_rfl) (by kernel_rfl) (fun _ _ _ h=>h) (Or.inl ⟨by rfl,?y16⟩) hHeld ?_
 case y16=>(intro w hSw;(try dsimp only at hSw);go_simp;first|done|(with_reducible rfl))
 try simp only[gsx,Act.put]
 refine wpAnyH_take (i:=19) (v:=?v19) rfl (by kernel_rfl) (by kernel_rfl) (by kernel_rfl) (fun _ _ _ h=>h) (Or.inl ⟨by rfl,?y19⟩) hHeld ?_
 case y19=>(intro w hSw;(try dsimp only at hSw);go_simp;first|done|(with_reducible rfl))
 try simp only[gsx,Act.put]
 refine wpAnyH_take (i:=20) (v:=?v20) rfl (by kernel_rfl) (by kernel_rfl) (by kernel_rfl) (fun _ _ _ h=>h) (Or.inl ⟨by rfl,?y20⟩) hHeld ?_
 case y20=>(intro w hSw;(try dsimp only at hSw);go_simp;first|done|(with_reducible rfl))
 try simp only[gsx,Act.put]
 refine wpAnyH_take (i:=22) (v:=?v22) rfl (by kernel_rfl) (by kernel_rfl) (by kernel_rfl) (fun _ _ _ h=>h) (Or.inl ⟨by rfl,?y22⟩) hHeld ?_
 case y22=>(intro w hSw;(try dsimp only at hSw);go_simp;first|done|(with_reducible rfl))
 try simp only[gsx,Act.put]
 refine wpAnyH_take (i:=23) (v:=?v23) rfl (by kernel_rfl) (by kernel_rfl) (by kernel_rfl) (fun _ _ _ h=>h) (Or.inl ⟨by rfl,?y23⟩) hHeld ?_
 case y23=>(intro w hSw;(try dsimp only at hSw);go_simp;first|done|(with_reducible rfl))
 try simp only[gsx,Act.put]
 refine wpAnyH_take (i:=24) (v:=?v24) rfl (by kernel_rfl) (by kernel_rfl) (by kernel_rfl) (fun _ _ _ h=>h) (Or.inl ⟨by rfl,?y24⟩) hHeld ?_
 case y24=>(intro w hSw;(try dsimp only at hSw);go_simp;first|done|(with_reducible rfl))
 try simp only[gsx,Act.put]
 refine wpAnyH_take (i:=25) (v:=?v25) rfl (by kernel_rfl) (by kernel_rfl) (by kernel_rfl) (fun _ _ _ h=>h) (Or.inl ⟨by rfl,?y25⟩) hHeld ?_
 case y25=>(intro w hSw;(try dsimp only at hSw);go_simp;first|done|(with_reducible rfl))
 try simp only[gsx,Act.put]
 refine wpAnyH_take (i:=26) (v:=?v26) rfl (by kernel_rfl) (by kernel_rfl) (by kernel_rfl) (fun _ _ _ h=>h) (Or.inl ⟨by rfl,?y26⟩) hHeld ?_
 case y26=>(intro w hSw;(try dsimp only at hSw);go_simp;first|done|(with_reducible rfl))
 try simp only[gsx,Act.put]
 refine wpAnyH_take (i:=29) (v:=?v29) rfl (by kernel_rfl) (by kernel_rfl) (by kernel_rfl) (fun _ _ _ h=>h) (Or.inl ⟨by rfl,?y29⟩) hHeld ?_
 case y29=>(intro w hSw;(try dsimp only at hSw);go_simp;first|done|(with_reducible rfl))
 try simp only[gsx,Act.put]
 refine wpAnyH_take (i:=30) (v:=?v30) rfl (by kernel_rfl) (by kernel_rfl) (by kernel_rfl) (fun _ _ _ h=>h) (Or.inl ⟨by rfl,?y30⟩) hHeld ?_
 case y30=>(intro w hSw;(try dsimp only at hSw);go_simp;first|done|(with_reducible rfl))
 try simp only[gsx,Act.put]
 refine wpAnyH_take (i:=31) (v:=?v31) rfl (by kernel_rfl) (by kernel_rfl) (by kernel_rfl) (fun _ _ _ h=>h) (Or.inl ⟨by rfl,?y31⟩) hHeld ?_
 case y31=>(intro w hSw;(try dsimp only at hSw);go_simp;first|done|(with_reducible rfl))
 try simp only[gsx,Act.put]
 refine wpAnyH_take (i:=32) (v:=?v32) rfl (by kernel_rfl) (by kernel_rfl) (by kernel_rfl) (fun _ _ _ h=>h) (Or.inl ⟨by rfl,?y32⟩) hHeld ?_
 case y32=>(intro w hSw;(try dsimp only at hSw);go_simp;first|done|(with_reducible rfl))
 try simp only[gsx,Act.put]
 refine wpAnyH_take (i:=33) (v:=?v33) rfl (by kernel_rfl) (by kernel_rfl) (by kernel_rfl) (fun _ _ _ h=>h) (Or.inl ⟨by rfl,?y33⟩) hHeld ?_
 case y33=>(intro w hSw;(try dsimp only at hSw);go_simp;first|done|(with_reducible rfl))
 try simp only[gsx,Act.put]
 refine wpAnyH_take (i:=36) (v:=?v36) rfl (by kernel_rfl) (by kernel_rfl) (by kernel_rfl) (fun _ _ _ h=>h) (Or.inl ⟨by rfl,?y36⟩) hHeld ?_
 case y36=>(intro w hSw;(try dsimp only at hSw);go_simp;first|done|(with_reducible rfl))
 try simp only[gsx,Act.put]
 refine wpAnyH_take (i:=37) (v:=?v37) rfl (by kernel_rfl) (by kernel_rfl) (by kernel_rfl) (fun _ _ _ h=>h) (Or.inl ⟨by rfl,?y37⟩) hHeld ?_
 case y37=>(intro w hSw;(try dsimp only at hSw);go_simp;first|done|(with_reducible rfl))
 try simp only[gsx,Act.put]
 refine wpAnyH_take (i:=38) (v:=?v38) rfl (by kernel_rfl) (by kernel_rfl) (by kernel_rfl) (fun _ _ _ h=>h) (Or.inl ⟨by rfl,?y38⟩) hHeld ?_
 case y38=>(intro w hSw;(try dsimp only at hSw);go_simp;first|done|(with_reducible rfl))
 try simp only[gsx,Act.put]
 refine wpAnyH_take (i:=39) (v:=?v39) rfl (by kernel_rfl) (by kernel_rfl) (by kernel_rfl) (fun _ _ _ h=>h) (Or.inl ⟨by rfl,?y39⟩) hHeld ?_
 case y39=>(intro w hSw;(try dsimp only at hSw);go_simp;first|done|(with_reducible rfl))
 try simp only[gsx,Act.put]
 refine wpAnyH_take (i:=40) (v:=?v40) rfl (by kernel_rfl) (by kernel_rfl) (by kernel_rfl) (fun _ _ _ h=>h) (Or.inl ⟨by rfl,?y40⟩) hHeld ?_
 case y40=>(intro w hSw;(try dsimp only at hSw);go_simp;first|done|(with_reducible rfl))
 try simp only[gsx,Act.put]
 refine wpAnyH_take (i:=43) (v:=?v43) rfl (by kernel_rfl) (by kernel_rfl) (by kernel_rfl) (fun _ _ _ h=>h) (Or.inl ⟨by rfl,?y43⟩) hHeld ?_
 case y43=>(intro w hSw;(try dsimp only at hSw);go_simp;first|done|(with_reducible rfl))
 try simp only[gsx,Act.put]
 refine wpAnyH_take (i:=44) (v:=?v44) rfl (by kernel_rfl) (by kernel_rfl) (by kernel_rfl) (fun _ _ _ h=>h) (Or.inl ⟨by rfl,?y44⟩) hHeld ?_
 case y44=>(intro w hSw;(try dsimp only at hSw);go_simp;first|done|(with_reducible rfl))
 try simp only[gsx,Act.put]
 refine wpAnyH_take (i:=46) (v:=?v46) rfl (by kernel_rfl) (by kernel_rfl) (by kernel_rfl) (fun _ _ _ h=>h) (Or.inl ⟨by rfl,?y46⟩) hHeld ?_
 case y46=>(intro w hSw;(try dsimp only at hSw);go_simp;first|done|(with_reducible rfl))
 try simp only[gsx,Act.put]
 refine wpAnyH_take (i:=47) (v:=?v47) rfl (by kernel_rfl) (by kernel_rfl) (by kernel_rfl) (fun _ _ _ h=>h) (Or.inl ⟨by rfl,?y47⟩) hHeld ?_
 case y47=>(intro w hSw;(try dsimp only at hSw);go_simp;first|done|(with_reducible rfl))
 try simp only[gsx,Act.put]
 refine wpAnyH_take (i:=48) (v:=?v48) rfl (by kernel_rfl) (by kernel_rfl) (by kernel_rfl) (fun _ _ _ h=>h) (Or.inl ⟨by rfl,?y48⟩) hHeld ?_
 case y48=>(intro w hSw;(try dsimp only at hSw);go_simp;first|done|(with_reducible rfl))
 try simp only[gsx,Act.put]
 refine wpAnyH_take (i:=49) (v:=?v49) rfl (by kernel_rfl) (by kernel_rfl) (by kernel_rfl) (fun _ _ _ h=>h) (Or.inl ⟨by rfl,?y49⟩) hHeld ?_
 case y49=>(intro w hSw;(try dsimp only at hSw);go_simp;first|done|(with_reducible rfl))
 try simp only[gsx,Act.put]
 refine wpAnyH_take (i:=52) (v:=?v52) rfl (by kernel_rfl) (by kernel_rfl) (by kernel_rfl) (fun _ _ _ h=>h) (Or.inl ⟨by rfl,?y52⟩) hHeld ?_
 case y52=>(intro w hSw;(try dsimp only at hSw);go_simp;first|done|(with_reducible rfl))
 try simp only[gsx,Act.put]
 refine wpAnyH_take (i:=53) (v:=?v53) rfl (by kernel_rfl) (by kernel_rfl) (by kernel_rfl) (fun _ _ _ h=>h) (Or.inl ⟨by rfl,?y53⟩) hHeld ?_
 case y53=>(intro w hSw;(try dsimp only at hSw);go_simp;first|done|(with_reducible rfl))
 try simp only[gsx,Act.put]
 refine wpAnyH_take (i:=54) (v:=?v54) rfl (by kernel_rfl) (by kernel_rfl) (by kernel_rfl) (fun _ _ _ h=>h) (Or.inl ⟨by rfl,?y54⟩) hHeld ?_
 case y54=>(intro w hSw;(try dsimp only at hSw);go_simp;first|done|(with_reducible rfl))
 try simp only[gsx,Act.put]
 refine wpAnyH_take (i:=55) (v:=?v55) rfl (by kernel_rfl) (by kernel_rfl) (by kernel_rfl) (fun _ _ _ h=>h) (Or.inl ⟨by rfl,?y55⟩) hHeld ?_
 case y55=>(intro w hSw;(try dsimp only at hSw);go_simp;first|done|(with_reducible rfl))
 try simp only[gsx,Act.put]
 refine wpAnyH_take (i:=58) (v:=?v58) rfl (by kernel_rfl) (by kernel_rfl) (by kernel_rfl) (fun _ _ _ h=>h) (Or.inl ⟨by rfl,?y58⟩) hHeld ?_
 case y58=>(intro w hSw;(try dsimp only at hSw);go_simp;first|done|(with_reducible rfl))
 try simp only[gsx,Act.put]
 refine wpAnyH_take (i:=59) (v:=?v59) rfl (by kernel_rfl) (by kernel_rfl) (by kernel_rfl) (fun _ _ _ h=>h) (Or.inl ⟨by rfl,?y59⟩) hHeld ?_
 case y59=>(intro w hSw;(try dsimp only at hSw);go_simp;first|done|(with_reducible rfl))
 try simp only[gsx,Act.put]
 refine wpAnyH_take (i:=60) (v:=?v60) rfl (by kernel_rfl) (by kernel_rfl) (by kernel_rfl) (fun _ _ _ h=>h) (Or.inl ⟨by rfl,?y60⟩) hHeld ?_
 case y60=>(intro w hSw;(try dsimp only at hSw);go_simp;first|done|(with_reducible rfl))
 try simp only[gsx,Act.put]
 refine wpAnyH_take (i:=61) (v:=?v61) rfl (by kernel_rfl) (by kernel_rfl) (by kernel_rfl) (fun _ _ _ h=>h) (Or.inl ⟨by rfl,?y61⟩) hHeld ?_
 case y61=>(intro w hSw;(try dsimp only at hSw);go_simp;first|done|(with_reducible rfl))
 try simp only[gsx,Act.put]
 refine wpAnyH_take (i:=64) (v:=?v64) rfl (by kernel_rfl) (by kernel_rfl) (by kernel_rfl) (fun _ _ _ h=>h) (Or.inl ⟨by rfl,?y64⟩) hHeld ?_
 case y64=>(intro w hSw;(try dsimp only at hSw);go_simp;first|done|(with_reducible rfl))
 try simp only[gsx,Act.put]
 refine wpAnyH_take (i:=65) (v:=?v65) rfl (by kernel_rfl) (by kernel_rfl) (by kernel_rfl) (fun _ _ _ h=>h) (Or.inl ⟨by rfl,?y65⟩) hHeld ?_
 case y65=>(intro w hSw;(try dsimp only at hSw);go_simp;first|done|(with_reducible rfl))
 try simp only[gsx,Act.put]
 refine wpAnyH_take (i:=66) (v:=?v66) rfl (by kernel_rfl) (by kernel_rfl) (by kernel_rfl) (fun _ _ _ h=>h) (Or.inl ⟨by rfl,?y66⟩) hHeld ?_
 case y66=>(intro w hSw;(try dsimp only at hSw);go_simp;first|done|(with_reducible rfl))
 try simp only[gsx,Act.put]
 refine wpAnyH_take (i:=67) (v:=?v67) rfl (by kernel_rfl) (by kernel_rfl) (by kernel_rfl) (fun _ _ _ h=>h) (Or.inl ⟨by rfl,?y67⟩) hHeld ?_
 case y67=>(intro w hSw;(try dsimp only at hSw);go_simp;first|done|(with_reducible rfl))
 try simp only[gsx,Act.put]
 refine z3v_ (RI w p) (fun l a W h=>h.box.cell 0) ?last ?step _ _ _ _ (by decide+kernel) ?start
 case start=>
  refine RI.start (by decide+kernel) (by kernel_rfl) (by kernel_rfl) (fun x hx=>?_) HX.out.2 HX.out.1
  simp only[kz_,List.mem_cons,List.not_mem_nil,or_false] at hx
  rcases hx with rfl|rfl|rfl|rfl|rfl|rfl|rfl|rfl|rfl|rfl|rfl|rfl|rfl|rfl|rfl|rfl|rfl|rfl|rfl|rfl|rfl|rfl|rfl|rfl|rfl<;>kernel_rfl
 case last=>
  intro l a W h hr
  have hall:=zek_ (by decide+kernel) (by rw[h.ls];rfl) hr
  refine NoPanic.normal ?_
  go_wp2_with fail
  obtain⟨h0,h2⟩:=h.res (hall 71 (by decide+kernel))
  obtain⟨m,hm,es,c,R,k1,k2,k3,k4,k5⟩:=h.map h0
  rw[hm] at h2
  have e2:a.tmps.getD 2 undef= .map (some m):=by rw[Array.getD_eq_getD_getElem?,h2];rfl
  have hM:MapI w p (Array.replicate 72 true) m W:=⟨es,c,R,k1,k2,fun x hx _=>k3 x hx (hall x.1 (z0a_ x hx).1),fun x hx hf=>absurd hf (by clear hf;revert x;decide+kernel),k5⟩
  refine bodyPost_ret (v:= .map (some m)) ?_ h.df ⟨m,rfl,hM,h.bel⟩
  simp [results,Tryz.results20,go_sem,h2]
 case step=>
  intro l a W i h hi
  obtain⟨hun,o,ho, -⟩:=mem_ready.1 hi
  have hi72:i<72:=(Array.getElem?_eq_some_iff.1 ho).1
  have heff:i∈effL:=by
   apply Decidable.byContradiction
   intro hn
   have:=h.pure i hi72 hn
   rw[Array.getD_eq_getD_getElem?,Array.getElem?_eq_getElem (by rw[h.ls];exact hi72)] at this hun
   simp only[Option.getD_some] at this hun
   rw[this] at hun
   cases hun
  clear hi72
  have HFX:=hiD h.fx
  simp only[effL,List.mem_cons,List.not_mem_nil,or_false] at heff
  rcases heff with rfl|rfl|rfl|rfl|rfl|rfl|rfl|rfl|rfl|rfl|rfl|rfl|rfl|rfl|rfl|rfl|rfl|rfl|rfl|rfl|rfl|rfl|rfl|rfl|rfl
  ·have ho2:=ho
   simp only[List.append_eq,List.getElem?_toArray,List.cons_append,List.nil_append,List.getElem?_cons_zero,List.getElem?_cons_succ,Option.some.injEq] at ho
   subst ho
   refine z42_ (w':=W.alloc (.map #[] 0)) ho2 rfl ?_ (h.make hun)
   simp only[execOp,Act.eval,Option.map_none,Sem.run_bind,hmm,Result.andThen_ok,Sem.run_pure]
  ·have ho2:=ho
   simp only[List.append_eq,List.getElem?_toArray,List.cons_append,List.nil_append,List.getElem?_cons_zero,List.getElem?_cons_succ,Option.some.injEq] at ho
   subst ho
   have ef:a.tmps.getD 8 undef= .func (.func 40) #[] #[]:=by rw[Array.getD_eq_getD_getElem?,HFX.out (8,.func (.func 40) #[] #[]) (by simp [kz_])];rfl
   have e1:a.tmps.getD 11 undef= .pointer (some ⟨p,0,none⟩):=by rw[Array.getD_eq_getD_getElem?,HFX.out (11,.pointer (some ⟨p,0,none⟩)) (by simp [kz_])];rfl
   refine xn_ ho2 rfl ?_ (z4z_ p 0 W) ?_
   ·simp only[execOp,resolve,Act.eval,List.map_toArray,List.map_cons,List.map_nil,ef,e1,Sem.run_bind,Result.andThen_ok,Sem.run_pure]
    kernel_rfl
   ·rintro e w' ⟨rfl,hb,hk⟩
    exact⟨_,rfl,h.call (x:=(5,12,.suffix)) (by decide) hb ⟨_,rfl,hk⟩⟩
  ·have ho2:=ho
   simp only[List.append_eq,List.getElem?_toArray,List.cons_append,List.nil_append,List.getElem?_cons_zero,List.getElem?_cons_succ,Option.some.injEq] at ho
   subst ho
   obtain⟨v,hv,hk⟩:=h.calls (5,12,.suffix) (by decide) (zj_ hi 5 (by decide+kernel))
   obtain⟨m,W',hm,hu,hR⟩:=h.ins (x:=(6,[115,117,102,102,105,120],.suffix)) (by decide) (zj_ hi 0 (by decide+kernel)) hun hk
   have e7:a.tmps.getD 7 undef= .map (some m):=by rw[Array.getD_eq_getD_getElem?,hm];rfl
   have es:a.tmps.getD 12 undef=v:=by rw[Array.getD_eq_getD_getElem?,hv];rfl
   refine qc_ (w':=W') ho2 rfl ?_ hR
   simp only[execOp,Act.eval,e7,es,Sem.run_bind,Result.andThen_ok,Sem.run_pure]
   simp only[hu,Result.andThen_ok]
  ·have ho2:=ho
   simp only[List.append_eq,List.getElem?_toArray,List.cons_append,List.nil_append,List.getElem?_cons_zero,List.getElem?_cons_succ,Option.some.injEq] at ho
   subst ho
   have ef:a.tmps.getD 13 undef= .func (.func 40) #[] #[]:=by rw[Array.getD_eq_getD_getElem?,HFX.out (13,.func (.func 40) #[] #[]) (by simp [kz_])];rfl
   have e1:a.tmps.getD 16 undef= .pointer (some ⟨p,1,none⟩):=by rw[Array.getD_eq_getD_getElem?,HFX.out (16,.pointer (some ⟨p,1,none⟩)) (by simp [kz_])];rfl
   refine xn_ ho2 rfl ?_ (z4z_ p 1 W) ?_
   ·simp only[execOp,resolve,Act.eval,List.map_toArray,List.map_cons,List.map_nil,ef,e1,Sem.run_bind,Result.andThen_ok,Sem.run_pure]
    kernel_rfl
   ·rintro e w' ⟨rfl,hb,hk⟩
    exact⟨_,rfl,h.call (x:=(11,17,.root)) (by decide) hb ⟨_,rfl,hk⟩⟩
  ·have ho2:=ho
   simp only[List.append_eq,List.getElem?_toArray,List.cons_append,List.nil_append,List.getElem?_cons_zero,List.getElem?_cons_succ,Option.some.injEq] at ho
   subst ho
   obtain⟨v,hv,hk⟩:=h.calls (11,17,.root) (by decide) (zj_ hi 11 (by decide+kernel))
   obtain⟨m,W',hm,hu,hR⟩:=h.ins (x:=(12,[114,111,111,116],.root)) (by decide) (zj_ hi 0 (by decide+kernel)) hun hk
   have e7:a.tmps.getD 7 undef= .map (some m):=by rw[Array.getD_eq_getD_getElem?,hm];rfl
   have es:a.tmps.getD 17 undef=v:=by rw[Array.getD_eq_getD_getElem?,hv];rfl
   refine qc_ (w':=W') ho2 rfl ?_ hR
   simp only[execOp,Act.eval,e7,es,Sem.run_bind,Result.andThen_ok,Sem.run_pure]
   simp only[hu,Result.andThen_ok]
  ·have ho2:=ho
   simp only[List.append_eq,List.getElem?_toArray,List.cons_append,List.nil_append,List.getElem?_cons_zero,List.getElem?_cons_succ,Option.some.injEq] at ho
   subst ho
   have ef:a.tmps.getD 18 undef= .func (.func 40) #[] #[]:=by rw[Array.getD_eq_getD_getElem?,HFX.out (18,.func (.func 40) #[] #[]) (by simp [kz_])];rfl
   have e1:a.tmps.getD 21 undef= .pointer (some ⟨p,2,none⟩):=by rw[Array.getD_eq_getD_getElem?,HFX.out (21,.pointer (some ⟨p,2,none⟩)) (by simp [kz_])];rfl
   refine xn_ ho2 rfl ?_ (z4z_ p 2 W) ?_
   ·simp only[execOp,resolve,Act.eval,List.map_toArray,List.map_cons,List.map_nil,ef,e1,Sem.run_bind,Result.andThen_ok,Sem.run_pure]
    kernel_rfl
   ·rintro e w' ⟨rfl,hb,hk⟩
    exact⟨_,rfl,h.call (x:=(17,22,.secret)) (by decide) hb ⟨_,rfl,hk⟩⟩
  ·have ho2:=ho
   simp only[List.append_eq,List.getElem?_toArray,List.cons_append,List.nil_append,List.getElem?_cons_zero,List.getElem?_cons_succ,Option.some.injEq] at ho
   subst ho
   obtain⟨v,hv,hk⟩:=h.calls (17,22,.secret) (by decide) (zj_ hi 17 (by decide+kernel))
   obtain⟨m,W',hm,hu,hR⟩:=h.ins (x:=(18,[115,101,99,114,101,116],.secret)) (by decide) (zj_ hi 0 (by decide+kernel)) hun hk
   have e7:a.tmps.getD 7 undef= .map (some m):=by rw[Array.getD_eq_getD_getElem?,hm];rfl
   have es:a.tmps.getD 22 undef=v:=by rw[Array.getD_eq_getD_getElem?,hv];rfl
   refine qc_ (w':=W') ho2 rfl ?_ hR
   simp only[execOp,Act.eval,e7,es,Sem.run_bind,Result.andThen_ok,Sem.run_pure]
   simp only[hu,Result.andThen_ok]
  ·have ho2:=ho
   simp only[List.append_eq,List.getElem?_toArray,List.cons_append,List.nil_append,List.getElem?_cons_zero,List.getElem?_cons_succ,Option.some.injEq] at ho
   subst ho
   have hv:=HFX.out (24,.agg #[.bool true,.func (.func 48) #[] #[.pointer (some ⟨w.heap.size,0,none⟩)]]) (by simp [kz_])
   have hk:WordK W p .size (.agg #[.bool true,.func (.func 48) #[] #[.pointer (some ⟨w.heap.size,0,none⟩)]]):=⟨_,rfl,h.box⟩
   obtain⟨m,W',hm,hu,hR⟩:=h.ins (x:=(21,[115,105,122,101],.size)) (by decide) (zj_ hi 0 (by decide+kernel)) hun hk
   have e7:a.tmps.getD 7 undef= .map (some m):=by rw[Array.getD_eq_getD_getElem?,hm];rfl
   have es:a.tmps.getD 24 undef= .agg #[.bool true,.func (.func 48) #[] #[.pointer (some ⟨w.heap.size,0,none⟩)]]:=by rw[Array.getD_eq_getD_getElem?,hv];rfl
   refine qc_ (w':=W') ho2 rfl ?_ hR
   simp only[execOp,Act.eval,e7,es,Sem.run_bind,Result.andThen_ok,Sem.run_pure]
   simp only[hu,Result.andThen_ok]
  ·have ho2:=ho
   simp only[List.append_eq,List.getElem?_toArray,List.cons_append,List.nil_append,List.getElem?_cons_zero,List.getElem?_cons_succ,Option.some.injEq] at ho
   subst ho
   have ef:a.tmps.getD 25 undef= .func (.func 45) #[] #[]:=by rw[Array.getD_eq_getD_getElem?,HFX.out (25,.func (.func 45) #[] #[]) (by simp [kz_])];rfl
   have e1:a.tmps.getD 28 undef= .pointer (some ⟨p,4,none⟩):=by rw[Array.getD_eq_getD_getElem?,HFX.out (28,.pointer (some ⟨p,4,none⟩)) (by simp [kz_])];rfl
   have e2:a.tmps.getD 29 undef= .func (.func 47) #[] #[]:=by rw[Array.getD_eq_getD_getElem?,HFX.out (29,.func (.func 47) #[] #[]) (by simp [kz_])];rfl
   refine xn_ ho2 rfl ?_ (z1u_ p 4 47 W) ?_
   ·simp only[execOp,resolve,Act.eval,List.map_toArray,List.map_cons,List.map_nil,ef,e1,e2,Sem.run_bind,Result.andThen_ok,Sem.run_pure]
    kernel_rfl
   ·rintro e w' ⟨rfl,hb,hk,hk2⟩
    exact⟨_,rfl,h.call (x:=(27,30,.attr)) (by decide) hb ⟨_,_,rfl,hk,hk2⟩⟩
  ·have ho2:=ho
   simp only[List.append_eq,List.getElem?_toArray,List.cons_append,List.nil_append,List.getElem?_cons_zero,List.getElem?_cons_succ,Option.some.injEq] at ho
   subst ho
   obtain⟨v,hv,hk⟩:=h.calls (27,30,.attr) (by decide) (zj_ hi 27 (by decide+kernel))
   obtain⟨m,W',hm,hu,hR⟩:=h.ins (x:=(28,[97,116,116,114],.attr)) (by decide) (zj_ hi 0 (by decide+kernel)) hun hk
   have e7:a.tmps.getD 7 undef= .map (some m):=by rw[Array.getD_eq_getD_getElem?,hm];rfl
   have es:a.tmps.getD 30 undef=v:=by rw[Array.getD_eq_getD_getElem?,hv];rfl
   refine qc_ (w':=W') ho2 rfl ?_ hR
   simp only[execOp,Act.eval,e7,es,Sem.run_bind,Result.andThen_ok,Sem.run_pure]
   simp only[hu,Result.andThen_ok]
  ·have ho2:=ho
   simp only[List.append_eq,List.getElem?_toArray,List.cons_append,List.nil_append,List.getElem?_cons_zero,List.getElem?_cons_succ,Option.some.injEq] at ho
   subst ho
   have ef:a.tmps.getD 31 undef= .func (.func 45) #[] #[]:=by rw[Array.getD_eq_getD_getElem?,HFX.out (31,.func (.func 45) #[] #[]) (by simp [kz_])];rfl
   have e1:a.tmps.getD 34 undef= .pointer (some ⟨p,5,none⟩):=by rw[Array.getD_eq_getD_getElem?,HFX.out (34,.pointer (some ⟨p,5,none⟩)) (by simp [kz_])];rfl
   have e2:a.tmps.getD 35 undef= .func (.func 47) #[] #[]:=by rw[Array.getD_eq_getD_getElem?,HFX.out (35,.func (.func 47) #[] #[]) (by simp [kz_])];rfl
   refine xn_ ho2 rfl ?_ (z1u_ p 5 47 W) ?_
   ·simp only[execOp,resolve,Act.eval,List.map_toArray,List.map_cons,List.map_nil,ef,e1,e2,Sem.run_bind,Result.andThen_ok,Sem.run_pure]
    kernel_rfl
   ·rintro e w' ⟨rfl,hb,hk,hk2⟩
    exact⟨_,rfl,h.call (x:=(34,36,.class)) (by decide) hb ⟨_,_,rfl,hk,hk2⟩⟩
  ·have ho2:=ho
   simp only[List.append_eq,List.getElem?_toArray,List.cons_append,List.nil_append,List.getElem?_cons_zero,List.getElem?_cons_succ,Option.some.injEq] at ho
   subst ho
   obtain⟨v,hv,hk⟩:=h.calls (34,36,.class) (by decide) (zj_ hi 34 (by decide+kernel))
   obtain⟨m,W',hm,hu,hR⟩:=h.ins (x:=(35,[99,108,97,115,115],.class)) (by decide) (zj_ hi 0 (by decide+kernel)) hun hk
   have e7:a.tmps.getD 7 undef= .map (some m):=by rw[Array.getD_eq_getD_getElem?,hm];rfl
   have es:a.tmps.getD 36 undef=v:=by rw[Array.getD_eq_getD_getElem?,hv];rfl
   refine qc_ (w':=W') ho2 rfl ?_ hR
   simp only[execOp,Act.eval,e7,es,Sem.run_bind,Result.andThen_ok,Sem.run_pure]
   simp only[hu,Result.andThen_ok]
  ·have ho2:=ho
   simp only[List.append_eq,List.getElem?_toArray,List.cons_append,List.nil_append,List.getElem?_cons_zero,List.getElem?_cons_succ,Option.some.injEq] at ho
   subst ho
   have ef:a.tmps.getD 37 undef= .func (.func 45) #[] #[]:=by rw[Array.getD_eq_getD_getElem?,HFX.out (37,.func (.func 45) #[] #[]) (by simp [kz_])];rfl
   have e1:a.tmps.getD 40 undef= .pointer (some ⟨p,6,none⟩):=by rw[Array.getD_eq_getD_getElem?,HFX.out (40,.pointer (some ⟨p,6,none⟩)) (by simp [kz_])];rfl
   have e2:a.tmps.getD 41 undef= .func (.func 47) #[] #[]:=by rw[Array.getD_eq_getD_getElem?,HFX.out (41,.func (.func 47) #[] #[]) (by simp [kz_])];rfl
   refine xn_ ho2 rfl ?_ (z1u_ p 6 47 W) ?_
   ·simp only[execOp,resolve,Act.eval,List.map_toArray,List.map_cons,List.map_nil,ef,e1,e2,Sem.run_bind,Result.andThen_ok,Sem.run_pure]
    kernel_rfl
   ·rintro e w' ⟨rfl,hb,hk,hk2⟩
    exact⟨_,rfl,h.call (x:=(41,42,.acl)) (by decide) hb ⟨_,_,rfl,hk,hk2⟩⟩
  ·have ho2:=ho
   simp only[List.append_eq,List.getElem?_toArray,List.cons_append,List.nil_append,List.getElem?_cons_zero,List.getElem?_cons_succ,Option.some.injEq] at ho
   subst ho
   obtain⟨v,hv,hk⟩:=h.calls (41,42,.acl) (by decide) (zj_ hi 41 (by decide+kernel))
   obtain⟨m,W',hm,hu,hR⟩:=h.ins (x:=(42,[97,99,108],.acl)) (by decide) (zj_ hi 0 (by decide+kernel)) hun hk
   have e7:a.tmps.getD 7 undef= .map (some m):=by rw[Array.getD_eq_getD_getElem?,hm];rfl
   have es:a.tmps.getD 42 undef=v:=by rw[Array.getD_eq_getD_getElem?,hv];rfl
   refine qc_ (w':=W') ho2 rfl ?_ hR
   simp only[execOp,Act.eval,e7,es,Sem.run_bind,Result.andThen_ok,Sem.run_pure]
   simp only[hu,Result.andThen_ok]
  ·have ho2:=ho
   simp only[List.append_eq,List.getElem?_toArray,List.cons_append,List.nil_append,List.getElem?_cons_zero,List.getElem?_cons_succ,Option.some.injEq] at ho
   subst ho
   have hv:=HFX.out (44,.agg #[.bool false,.func (.func 50) #[] #[.pointer (some ⟨w.heap.size,0,none⟩)]]) (by simp [kz_])
   have hk:WordK W p .index (.agg #[.bool false,.func (.func 50) #[] #[.pointer (some ⟨w.heap.size,0,none⟩)]]):=⟨_,rfl,h.box⟩
   obtain⟨m,W',hm,hu,hR⟩:=h.ins (x:=(45,[105,110,100,101,120],.index)) (by decide) (zj_ hi 0 (by decide+kernel)) hun hk
   have e7:a.tmps.getD 7 undef= .map (some m):=by rw[Array.getD_eq_getD_getElem?,hm];rfl
   have es:a.tmps.getD 44 undef= .agg #[.bool false,.func (.func 50) #[] #[.pointer (some ⟨w.heap.size,0,none⟩)]]:=by rw[Array.getD_eq_getD_getElem?,hv];rfl
   refine qc_ (w':=W') ho2 rfl ?_ hR
   simp only[execOp,Act.eval,e7,es,Sem.run_bind,Result.andThen_ok,Sem.run_pure]
   simp only[hu,Result.andThen_ok]
  ·have ho2:=ho
   simp only[List.append_eq,List.getElem?_toArray,List.cons_append,List.nil_append,List.getElem?_cons_zero,List.getElem?_cons_succ,Option.some.injEq] at ho
   subst ho
   have ef:a.tmps.getD 45 undef= .func (.func 42) #[] #[]:=by rw[Array.getD_eq_getD_getElem?,HFX.out (45,.func (.func 42) #[] #[]) (by simp [kz_])];rfl
   have e1:a.tmps.getD 48 undef= .pointer (some ⟨p,8,none⟩):=by rw[Array.getD_eq_getD_getElem?,HFX.out (48,.pointer (some ⟨p,8,none⟩)) (by simp [kz_])];rfl
   refine xn_ ho2 rfl ?_ (z9p_ p 8 W) ?_
   ·simp only[execOp,resolve,Act.eval,List.map_toArray,List.map_cons,List.map_nil,ef,e1,Sem.run_bind,Result.andThen_ok,Sem.run_pure]
    kernel_rfl
   ·rintro e w' ⟨rfl,hb,hk⟩
    exact⟨_,rfl,h.call (x:=(50,49,.memberof)) (by decide) hb ⟨_,rfl,hk⟩⟩
  ·have ho2:=ho
   simp only[List.append_eq,List.getElem?_toArray,List.cons_append,List.nil_append,List.getElem?_cons_zero,List.getElem?_cons_succ,Option.some.injEq] at ho
   subst ho
   obtain⟨v,hv,hk⟩:=h.calls (50,49,.memberof) (by decide) (zj_ hi 50 (by decide+kernel))
   obtain⟨m,W',hm,hu,hR⟩:=h.ins (x:=(51,[109,101,109,98,101,114,111,102],.memberof)) (by decide) (zj_ hi 0 (by decide+kernel)) hun hk
   have e7:a.tmps.getD 7 undef= .map (some m):=by rw[Array.getD_eq_getD_getElem?,hm];rfl
   have es:a.tmps.getD 49 undef=v:=by rw[Array.getD_eq_getD_getElem?,hv];rfl
   refine qc_ (w':=W') ho2 rfl ?_ hR
   simp only[execOp,Act.eval,e7,es,Sem.run_bind,Result.andThen_ok,Sem.run_pure]
   simp only[hu,Result.andThen_ok]
  ·have ho2:=ho
   simp only[List.append_eq,List.getElem?_toArray,List.cons_append,List.nil_append,List.getElem?_cons_zero,List.getElem?_cons_succ,Option.some.injEq] at ho
   subst ho
   have ef:a.tmps.getD 50 undef= .func (.func 42) #[] #[]:=by rw[Array.getD_eq_getD_getElem?,HFX.out (50,.func (.func 42) #[] #[]) (by simp [kz_])];rfl
   have e1:a.tmps.getD 53 undef= .pointer (some ⟨p,9,none⟩):=by rw[Array.getD_eq_getD_getElem?,HFX.out (53,.pointer (some ⟨p,9,none⟩)) (by simp [kz_])];rfl
   refine xn_ ho2 rfl ?_ (z9p_ p 9 W) ?_
   ·simp only[execOp,resolve,Act.eval,List.map_toArray,List.map_cons,List.map_nil,ef,e1,Sem.run_bind,Result.andThen_ok,Sem.run_pure]
    kernel_rfl
   ·rintro e w' ⟨rfl,hb,hk⟩
    exact⟨_,rfl,h.call (x:=(56,54,.audit)) (by decide) hb ⟨_,rfl,hk⟩⟩
  ·have ho2:=ho
   simp only[List.append_eq,List.getElem?_toArray,List.cons_append,List.nil_append,List.getElem?_cons_zero,List.getElem?_cons_succ,Option.some.injEq] at ho
   subst ho
   obtain⟨v,hv,hk⟩:=h.calls (56,54,.audit) (by decide) (zj_ hi 56 (by decide+kernel))
   obtain⟨m,W',hm,hu,hR⟩:=h.ins (x:=(57,[97,117,100,105,116],.audit)) (by decide) (zj_ hi 0 (by decide+kernel)) hun hk
   have e7:a.tmps.getD 7 undef= .map (some m):=by rw[Array.getD_eq_getD_getElem?,hm];rfl
   have es:a.tmps.getD 54 undef=v:=by rw[Array.getD_eq_getD_getElem?,hv];rfl
   refine qc_ (w':=W') ho2 rfl ?_ hR
   simp only[execOp,Act.eval,e7,es,Sem.run_bind,Result.andThen_ok,Sem.run_pure]
   simp only[hu,Result.andThen_ok]
  ·have ho2:=ho
   simp only[List.append_eq,List.getElem?_toArray,List.cons_append,List.nil_append,List.getElem?_cons_zero,List.getElem?_cons_succ,Option.some.injEq] at ho
   subst ho
   have ef:a.tmps.getD 55 undef= .func (.func 45) #[] #[]:=by rw[Array.getD_eq_getD_getElem?,HFX.out (55,.func (.func 45) #[] #[]) (by simp [kz_])];rfl
   have e1:a.tmps.getD 58 undef= .pointer (some ⟨p,10,none⟩):=by rw[Array.getD_eq_getD_getElem?,HFX.out (58,.pointer (some ⟨p,10,none⟩)) (by simp [kz_])];rfl
   refine xn_ ho2 rfl ?_ (z1u_ p 10 52 W) ?_
   ·simp only[execOp,resolve,Act.eval,List.map_toArray,List.map_cons,List.map_nil,ef,e1,Sem.run_bind,Result.andThen_ok,Sem.run_pure]
    kernel_rfl
   ·rintro e w' ⟨rfl,hb,hk,hk2⟩
    exact⟨_,rfl,h.call (x:=(62,59,.ref)) (by decide) hb ⟨_,_,rfl,hk,hk2⟩⟩
  ·have ho2:=ho
   simp only[List.append_eq,List.getElem?_toArray,List.cons_append,List.nil_append,List.getElem?_cons_zero,List.getElem?_cons_succ,Option.some.injEq] at ho
   subst ho
   obtain⟨v,hv,hk⟩:=h.calls (62,59,.ref) (by decide) (zj_ hi 62 (by decide+kernel))
   obtain⟨m,W',hm,hu,hR⟩:=h.ins (x:=(63,[114,101,102],.ref)) (by decide) (zj_ hi 0 (by decide+kernel)) hun hk
   have e7:a.tmps.getD 7 undef= .map (some m):=by rw[Array.getD_eq_getD_getElem?,hm];rfl
   have es:a.tmps.getD 59 undef=v:=by rw[Array.getD_eq_getD_getElem?,hv];rfl
   refine qc_ (w':=W') ho2 rfl ?_ hR
   simp only[execOp,Act.eval,e7,es,Sem.run_bind,Result.andThen_ok,Sem.run_pure]
   simp only[hu,Result.andThen_ok]
  ·have ho2:=ho
   simp only[List.append_eq,List.getElem?_toArray,List.cons_append,List.nil_append,List.getElem?_cons_zero,List.getElem?_cons_succ,Option.some.injEq] at ho
   subst ho
   have ef:a.tmps.getD 60 undef= .func (.func 45) #[] #[]:=by rw[Array.getD_eq_getD_getElem?,HFX.out (60,.func (.func 45) #[] #[]) (by simp [kz_])];rfl
   have e1:a.tmps.getD 63 undef= .pointer (some ⟨p,11,none⟩):=by rw[Array.getD_eq_getD_getElem?,HFX.out (63,.pointer (some ⟨p,11,none⟩)) (by simp [kz_])];rfl
   refine xn_ ho2 rfl ?_ (z1u_ p 11 52 W) ?_
   ·simp only[execOp,resolve,Act.eval,List.map_toArray,List.map_cons,List.map_nil,ef,e1,Sem.run_bind,Result.andThen_ok,Sem.run_pure]
    kernel_rfl
   ·rintro e w' ⟨rfl,hb,hk,hk2⟩
    exact⟨_,rfl,h.call (x:=(68,64,.unique)) (by decide) hb ⟨_,_,rfl,hk,hk2⟩⟩
  ·have ho2:=ho
   simp only[List.append_eq,List.getElem?_toArray,List.cons_append,List.nil_append,List.getElem?_cons_zero,List.getElem?_cons_succ,Option.some.injEq] at ho
   subst ho
   obtain⟨v,hv,hk⟩:=h.calls (68,64,.unique) (by decide) (zj_ hi 68 (by decide+kernel))
   obtain⟨m,W',hm,hu,hR⟩:=h.ins (x:=(69,[117,110,105,113,117,101],.unique)) (by decide) (zj_ hi 0 (by decide+kernel)) hun hk
   have e7:a.tmps.getD 7 undef= .map (some m):=by rw[Array.getD_eq_getD_getElem?,hm];rfl
   have es:a.tmps.getD 64 undef=v:=by rw[Array.getD_eq_getD_getElem?,hv];rfl
   refine qc_ (w':=W') ho2 rfl ?_ hR
   simp only[execOp,Act.eval,e7,es,Sem.run_bind,Result.andThen_ok,Sem.run_pure]
   simp only[hu,Result.andThen_ok]
  ·have ho2:=ho
   simp only[List.append_eq,List.getElem?_toArray,List.cons_append,List.nil_append,List.getElem?_cons_zero,List.getElem?_cons_succ,Option.some.injEq] at ho
   subst ho
   have h0:=zj_ hi 0 (by decide+kernel)
   obtain⟨m,hm,_⟩:=h.map h0
   have e7:a.tmps.getD 7 undef= .map (some m):=by rw[Array.getD_eq_getD_getElem?,hm];rfl
   refine z42_ (w':=W) ho2 rfl ?_ (h.mv h0 _ hm)
   simp only[execOp,Act.eval,e7,Sem.run_pure]
  ·have ho2:=ho
   simp only[List.append_eq,List.getElem?_toArray,List.cons_append,List.nil_append,List.getElem?_cons_zero,List.getElem?_cons_succ,Option.some.injEq] at ho
   subst ho
   have h0:=zj_ hi 70 (by decide+kernel)
   obtain⟨h00,h7⟩:=h.out h0
   obtain⟨m,hm,_⟩:=h.map h00
   rw[hm] at h7
   have e6:a.tmps.getD 65 undef= .map (some m):=by rw[Array.getD_eq_getD_getElem?,h7];rfl
   refine z42_ (w':=W) ho2 rfl ?_ (h.asg h0 _ h7)
   simp only[execOp,Act.eval,e6,Sem.run_pure]
end Go.Proofs.YtakfpngfpknedaaGreatDoor
