import Derived.Test.YtconnibnpckadaaGreatDoorWvc3
set_option linter.all false
set_option maxHeartbeats 8000000
set_option maxRecDepth 100000
namespace Go.Proofs.YtconnibnpckadaaGreatDoor
open Go.RowKit
def fieldsA (br bd : Nat) (e o s : Nat × Nat × Nat) (f1 f2 : Nat) : List (List UInt8 × Value) := [
 (wName, fnV 79 #[ptrV br, ptrV bd]), (wDesc, fnV 81 #[ptrV br]),
 (wSup, fnV 82 #[ptrV br, ptrV bd]),
 (wEquality, fnV 122 #[ptrV e.1, ptrV e.2.1, ptrV e.2.2]), (wOrdering, fnV 122 #[ptrV o.1, ptrV o.2.1, ptrV o.2.2]), (wSubstr, fnV 122 #[ptrV s.1, ptrV s.2.1, ptrV s.2.2]),
 (wSyntax, fnV 84 #[ptrV br, ptrV bd]), (wSingleValue, fnV 123 #[ptrV f1]), (wNoUserModification, fnV 123 #[ptrV f2]),
 (wUsage, fnV 87 #[ptrV br, ptrV bd])]
structure BoxRule (w : World) (B r p i : Nat) (k : Int) (b : Nat × Nat × Nat) : Prop where
 cr : w.cell? ⟨b.1, 0, none⟩ = some (ptrV r)
 ct : w.cell? ⟨b.2.1, 0, none⟩ = some (.pointer (some ⟨p, i, none⟩))
 ck : w.cell? ⟨b.2.2, 0, none⟩ = some (.int .i64 k)
 le : B ≤ b.1 ∧ B ≤ b.2.1 ∧ B ≤ b.2.2
structure BoxA (w : World) (B r p br bd : Nat) (e o s : Nat × Nat × Nat) (f1 f2 : Nat) : Prop where
 cr : w.cell? ⟨br, 0, none⟩ = some (ptrV r)
 cd : w.cell? ⟨bd, 0, none⟩ = some (ptrV p)
 ce : BoxRule w B r p 7 0 e
 co : BoxRule w B r p 8 1 o
 cs : BoxRule w B r p 9 2 s
 c1 : w.cell? ⟨f1, 0, none⟩ = some (.pointer (some ⟨p, 10, none⟩))
 c2 : w.cell? ⟨f2, 0, none⟩ = some (.pointer (some ⟨p, 11, none⟩))
 le : B ≤ br ∧ B ≤ bd ∧ B ≤ f1 ∧ B ≤ f2
def FieldsARet (w : World) (r p : Nat) (e : Ending) (w' : World) : Prop := ∃ m es c br bd eb ob sb f1 f2, e = .returned (.map (some m)) ∧ MapS w' m es c (fieldsA br bd eb ob sb f1 f2) ∧ BoxA w' w.heap.size r p br bd eb ob sb f1 f2 ∧ Below w.heap.size w w'
set_option maxRecDepth 100000 in
theorem fieldsA_c (r p : Nat) (d : DefS) (w : World) (hd : DefAt w p d) (hc : d.cls = false) :
  Calls Tryz.prog 38 #[ptrV p, ptrV r] w (FieldsARet w r p) := by
 have hmf : ∀ (fn : Fn) (first cap : Array Value) (w : World), (Instr.makeFunc fn first cap).run Tryz.prog w = .ok (.func fn first cap) w := fun _ _ _ _ => rfl
 have hmm := @run_makeMap Tryz.prog
 obtain ⟨vn, vs, vm, vy, hB⟩ := hd.bk
 have hplt := hB.lt
 have hm0 : MapS (((w.alloc (.cells #[.pointer (some ⟨p, 0, none⟩)] 59)).alloc (.cells #[.pointer (some ⟨r, 0, none⟩)] 80)).alloc (.map #[] 0)) (w.heap.size + 1 + 1) #[] 0 [] := by
  have := MapS.made ((w.alloc (.cells #[.pointer (some ⟨p, 0, none⟩)] 59)).alloc (.cells #[.pointer (some ⟨r, 0, none⟩)] 80))
  simpa using this
 obtain ⟨W1, es1, hu1, hm1, hg1⟩ := hm0.upd wName (fnV 79 #[ptrV (w.heap.size + 1), ptrV w.heap.size]) rfl
 obtain ⟨W2, es2, hu2, hm2, hg2⟩ := hm1.upd wDesc (fnV 81 #[ptrV (w.heap.size + 1)]) rfl
 obtain ⟨W3, es3, hu3, hm3, hg3⟩ := hm2.upd wSup (fnV 82 #[ptrV (w.heap.size + 1), ptrV w.heap.size]) rfl
 have hg12 := World.grownBy.trans hg1 hg2
 have hgg := World.grownBy.trans hg12 hg3
 have i1 := ((Bk.new w 59 #[.pointer (some ⟨p, 0, none⟩)]).alloc (.cells #[.pointer (some ⟨r, 0, none⟩)] 80)).alloc (.map #[] 0)
 have jd2 := i1.grown hg12 (by simp; omega)
 have jd := i1.grown hgg (by simp; omega)
 have i2 := Bk.new (w.alloc (.cells #[.pointer (some ⟨p, 0, none⟩)] 59)) 80 #[.pointer (some ⟨r, 0, none⟩)]
 rw [World.size_alloc] at i2
 have i2 := i2.alloc (.map #[] 0)
 have jr2 := i2.grown hg12 (by simp)
 have jr := i2.grown hgg (by simp)
 have jp := (((hB.alloc (.cells #[.pointer (some ⟨p, 0, none⟩)] 59)).alloc (.cells #[.pointer (some ⟨r, 0, none⟩)] 80)).alloc (.map #[] 0)).grown hg12 (by simp; omega)
 have k0 : W2.cell? ⟨p, 0, none⟩ = some (.bool false) := by rw [jp.cell 0]; simp [defCells, hc]
 have d2 : W2.cell? ⟨w.heap.size, 0, none⟩ = some (.pointer (some ⟨p, 0, none⟩)) := jd2.cell 0
 have r2 : W2.cell? ⟨w.heap.size + 1, 0, none⟩ = some (.pointer (some ⟨r, 0, none⟩)) := jr2.cell 0
 have d3 : W3.cell? ⟨w.heap.size, 0, none⟩ = some (.pointer (some ⟨p, 0, none⟩)) := jd.cell 0
 have r3 : W3.cell? ⟨w.heap.size + 1, 0, none⟩ = some (.pointer (some ⟨r, 0, none⟩)) := jr.cell 0
 have hbel : Below w.heap.size w W3 := ((((Below.refl _ _).alloc (Nat.le_refl _) _).alloc (by simp) _).alloc (by simp; omega) _).grown hgg (by simp; omega) (by intro k hk; cases hk; omega)
 have hHl : w.heap.size + 1 + 1 < W3.heap.size := hm3.lt
 have d3x : (((W3.alloc (.cells #[.pointer (some ⟨r, 0, none⟩)] 80)).alloc (.cells #[.pointer (some ⟨p, 7, none⟩)] 131)).alloc (.cells #[.int .i64 0] 3)).cell? ⟨w.heap.size, 0, none⟩ = some (.pointer (some ⟨p, 0, none⟩)) := (((jd.alloc _).alloc _).alloc _).cell 0
 have r3x : (((W3.alloc (.cells #[.pointer (some ⟨r, 0, none⟩)] 80)).alloc (.cells #[.pointer (some ⟨p, 7, none⟩)] 131)).alloc (.cells #[.int .i64 0] 3)).cell? ⟨w.heap.size + 1, 0, none⟩ = some (.pointer (some ⟨r, 0, none⟩)) := (((jr.alloc _).alloc _).alloc _).cell 0
 have d3y : ((((((W3.alloc (.cells #[.pointer (some ⟨r, 0, none⟩)] 80)).alloc (.cells #[.pointer (some ⟨p, 7, none⟩)] 131)).alloc (.cells #[.int .i64 0] 3)).alloc (.cells #[.pointer (some ⟨r, 0, none⟩)] 80)).alloc (.cells #[.pointer (some ⟨p, 8, none⟩)] 131)).alloc (.cells #[.int .i64 1] 3)).cell? ⟨w.heap.size, 0, none⟩ = some (.pointer (some ⟨p, 0, none⟩)) := ((((((jd.alloc _).alloc _).alloc _).alloc _).alloc _).alloc _).cell 0
 have r3y : ((((((W3.alloc (.cells #[.pointer (some ⟨r, 0, none⟩)] 80)).alloc (.cells #[.pointer (some ⟨p, 7, none⟩)] 131)).alloc (.cells #[.int .i64 0] 3)).alloc (.cells #[.pointer (some ⟨r, 0, none⟩)] 80)).alloc (.cells #[.pointer (some ⟨p, 8, none⟩)] 131)).alloc (.cells #[.int .i64 1] 3)).cell? ⟨w.heap.size + 1, 0, none⟩ = some (.pointer (some ⟨r, 0, none⟩)) := ((((((jr.alloc _).alloc _).alloc _).alloc _).alloc _).alloc _).cell 0
 have jdD : Bk (((((((((W3.alloc (.cells #[.pointer (some ⟨r, 0, none⟩)] 80)).alloc (.cells #[.pointer (some ⟨p, 7, none⟩)] 131)).alloc (.cells #[.int .i64 0] 3)).alloc (.cells #[.pointer (some ⟨r, 0, none⟩)] 80)).alloc (.cells #[.pointer (some ⟨p, 8, none⟩)] 131)).alloc (.cells #[.int .i64 1] 3)).alloc (.cells #[.pointer (some ⟨r, 0, none⟩)] 80)).alloc (.cells #[.pointer (some ⟨p, 9, none⟩)] 131)).alloc (.cells #[.int .i64 2] 3)).drew _ _ _ := (((((((((jd.alloc _).alloc _).alloc _).alloc _).alloc _).alloc _).alloc _).alloc _).alloc _)
 have jrD : Bk (((((((((W3.alloc (.cells #[.pointer (some ⟨r, 0, none⟩)] 80)).alloc (.cells #[.pointer (some ⟨p, 7, none⟩)] 131)).alloc (.cells #[.int .i64 0] 3)).alloc (.cells #[.pointer (some ⟨r, 0, none⟩)] 80)).alloc (.cells #[.pointer (some ⟨p, 8, none⟩)] 131)).alloc (.cells #[.int .i64 1] 3)).alloc (.cells #[.pointer (some ⟨r, 0, none⟩)] 80)).alloc (.cells #[.pointer (some ⟨p, 9, none⟩)] 131)).alloc (.cells #[.int .i64 2] 3)).drew _ _ _ := (((((((((jr.alloc _).alloc _).alloc _).alloc _).alloc _).alloc _).alloc _).alloc _).alloc _)
 have d3z : (((((((((W3.alloc (.cells #[.pointer (some ⟨r, 0, none⟩)] 80)).alloc (.cells #[.pointer (some ⟨p, 7, none⟩)] 131)).alloc (.cells #[.int .i64 0] 3)).alloc (.cells #[.pointer (some ⟨r, 0, none⟩)] 80)).alloc (.cells #[.pointer (some ⟨p, 8, none⟩)] 131)).alloc (.cells #[.int .i64 1] 3)).alloc (.cells #[.pointer (some ⟨r, 0, none⟩)] 80)).alloc (.cells #[.pointer (some ⟨p, 9, none⟩)] 131)).alloc (.cells #[.int .i64 2] 3)).drew.cell? ⟨w.heap.size, 0, none⟩ = some (.pointer (some ⟨p, 0, none⟩)) := jdD.cell 0
 have r3z : (((((((((W3.alloc (.cells #[.pointer (some ⟨r, 0, none⟩)] 80)).alloc (.cells #[.pointer (some ⟨p, 7, none⟩)] 131)).alloc (.cells #[.int .i64 0] 3)).alloc (.cells #[.pointer (some ⟨r, 0, none⟩)] 80)).alloc (.cells #[.pointer (some ⟨p, 8, none⟩)] 131)).alloc (.cells #[.int .i64 1] 3)).alloc (.cells #[.pointer (some ⟨r, 0, none⟩)] 80)).alloc (.cells #[.pointer (some ⟨p, 9, none⟩)] 131)).alloc (.cells #[.int .i64 2] 3)).drew.cell? ⟨w.heap.size + 1, 0, none⟩ = some (.pointer (some ⟨r, 0, none⟩)) := jrD.cell 0
 have hmD : MapS (((((((((W3.alloc (.cells #[.pointer (some ⟨r, 0, none⟩)] 80)).alloc (.cells #[.pointer (some ⟨p, 7, none⟩)] 131)).alloc (.cells #[.int .i64 0] 3)).alloc (.cells #[.pointer (some ⟨r, 0, none⟩)] 80)).alloc (.cells #[.pointer (some ⟨p, 8, none⟩)] 131)).alloc (.cells #[.int .i64 1] 3)).alloc (.cells #[.pointer (some ⟨r, 0, none⟩)] 80)).alloc (.cells #[.pointer (some ⟨p, 9, none⟩)] 131)).alloc (.cells #[.int .i64 2] 3)).drew (w.heap.size + 1 + 1) es3 3 (_ : List (List UInt8 × Value)) := ((((((((((hm3.alloc _).alloc _).alloc _).alloc _).alloc _).alloc _).alloc _).alloc _).alloc _)).keep rfl
 obtain ⟨W4a, W4, es4, hu4a, hu4, hm4, hg4a, hg4⟩ := hmD.pair wEquality (fnV 122 #[ptrV (W3.heap.size), ptrV (W3.heap.size + 1), ptrV (W3.heap.size + 1 + 1)]) rfl
 obtain ⟨W5a, W5, es5, hu5a, hu5, hm5, hg5a, hg5⟩ := hm4.pair wOrdering (fnV 122 #[ptrV (W3.heap.size + 1 + 1 + 1), ptrV (W3.heap.size + 1 + 1 + 1 + 1), ptrV (W3.heap.size + 1 + 1 + 1 + 1 + 1)]) rfl
 obtain ⟨W6a, W6, es6, hu6a, hu6, hm6, hg6a, hg6⟩ := hm5.pair wSubstr (fnV 122 #[ptrV (W3.heap.size + 1 + 1 + 1 + 1 + 1 + 1), ptrV (W3.heap.size + 1 + 1 + 1 + 1 + 1 + 1 + 1), ptrV (W3.heap.size + 1 + 1 + 1 + 1 + 1 + 1 + 1 + 1)]) rfl
 have hg456 := World.grownBy.trans (World.grownBy.trans hg4 hg5) hg6
 have d4a : W4a.cell? ⟨w.heap.size, 0, none⟩ = some (.pointer (some ⟨p, 0, none⟩)) := (jdD.grown hg4a (by simp; omega)).cell 0
 have r4a : W4a.cell? ⟨w.heap.size + 1, 0, none⟩ = some (.pointer (some ⟨r, 0, none⟩)) := (jrD.grown hg4a (by simp)).cell 0
 have jd4 := jdD.grown hg4 (by simp; omega)
 have jr4 := jrD.grown hg4 (by simp)
 have d4 : W4.cell? ⟨w.heap.size, 0, none⟩ = some (.pointer (some ⟨p, 0, none⟩)) := jd4.cell 0
 have r4 : W4.cell? ⟨w.heap.size + 1, 0, none⟩ = some (.pointer (some ⟨r, 0, none⟩)) := jr4.cell 0
 have d5a : W5a.cell? ⟨w.heap.size, 0, none⟩ = some (.pointer (some ⟨p, 0, none⟩)) := (jd4.grown hg5a (by simp; omega)).cell 0
 have r5a : W5a.cell? ⟨w.heap.size + 1, 0, none⟩ = some (.pointer (some ⟨r, 0, none⟩)) := (jr4.grown hg5a (by simp)).cell 0
 have jd5 := jd4.grown hg5 (by simp; omega)
 have jr5 := jr4.grown hg5 (by simp)
 have d5 : W5.cell? ⟨w.heap.size, 0, none⟩ = some (.pointer (some ⟨p, 0, none⟩)) := jd5.cell 0
 have r5 : W5.cell? ⟨w.heap.size + 1, 0, none⟩ = some (.pointer (some ⟨r, 0, none⟩)) := jr5.cell 0
 have d6a : W6a.cell? ⟨w.heap.size, 0, none⟩ = some (.pointer (some ⟨p, 0, none⟩)) := (jd5.grown hg6a (by simp; omega)).cell 0
 have r6a : W6a.cell? ⟨w.heap.size + 1, 0, none⟩ = some (.pointer (some ⟨r, 0, none⟩)) := (jr5.grown hg6a (by simp)).cell 0
 have jd6 := jd5.grown hg6 (by simp; omega)
 have jr6 := jr5.grown hg6 (by simp)
 have d6 : W6.cell? ⟨w.heap.size, 0, none⟩ = some (.pointer (some ⟨p, 0, none⟩)) := jd6.cell 0
 have r6 : W6.cell? ⟨w.heap.size + 1, 0, none⟩ = some (.pointer (some ⟨r, 0, none⟩)) := jr6.cell 0
 obtain ⟨W7, es7, hu7, hm7, hg7⟩ := hm6.upd wSyntax (fnV 84 #[ptrV (w.heap.size + 1), ptrV w.heap.size]) rfl
 have jd7 := jd6.grown hg7 (by simp; omega)
 have jr7 := jr6.grown hg7 (by simp)
 have d7 : W7.cell? ⟨w.heap.size, 0, none⟩ = some (.pointer (some ⟨p, 0, none⟩)) := jd7.cell 0
 have r7 : W7.cell? ⟨w.heap.size + 1, 0, none⟩ = some (.pointer (some ⟨r, 0, none⟩)) := jr7.cell 0
 have hH7 : w.heap.size + 1 + 1 < W7.heap.size := hm7.lt
 have d7x : (W7.alloc (.cells #[.pointer (some ⟨p, 10, none⟩)] 134)).cell? ⟨w.heap.size, 0, none⟩ = some (.pointer (some ⟨p, 0, none⟩)) := (jd7.alloc _).cell 0
 have r7x : (W7.alloc (.cells #[.pointer (some ⟨p, 10, none⟩)] 134)).cell? ⟨w.heap.size + 1, 0, none⟩ = some (.pointer (some ⟨r, 0, none⟩)) := (jr7.alloc _).cell 0
 have jdE : Bk ((W7.alloc (.cells #[.pointer (some ⟨p, 10, none⟩)] 134)).alloc (.cells #[.pointer (some ⟨p, 11, none⟩)] 134)).drew _ _ _ := ((jd7.alloc _).alloc _)
 have jrE : Bk ((W7.alloc (.cells #[.pointer (some ⟨p, 10, none⟩)] 134)).alloc (.cells #[.pointer (some ⟨p, 11, none⟩)] 134)).drew _ _ _ := ((jr7.alloc _).alloc _)
 have d7y : ((W7.alloc (.cells #[.pointer (some ⟨p, 10, none⟩)] 134)).alloc (.cells #[.pointer (some ⟨p, 11, none⟩)] 134)).drew.cell? ⟨w.heap.size, 0, none⟩ = some (.pointer (some ⟨p, 0, none⟩)) := jdE.cell 0
 have r7y : ((W7.alloc (.cells #[.pointer (some ⟨p, 10, none⟩)] 134)).alloc (.cells #[.pointer (some ⟨p, 11, none⟩)] 134)).drew.cell? ⟨w.heap.size + 1, 0, none⟩ = some (.pointer (some ⟨r, 0, none⟩)) := jrE.cell 0
 have hmE : MapS ((W7.alloc (.cells #[.pointer (some ⟨p, 10, none⟩)] 134)).alloc (.cells #[.pointer (some ⟨p, 11, none⟩)] 134)).drew (w.heap.size + 1 + 1) es7 7 (_ : List (List UInt8 × Value)) := (((hm7.alloc _).alloc _)).keep rfl
 obtain ⟨W8a, W8, es8, hu8a, hu8, hm8, hg8a, hg8⟩ := hmE.pair wSingleValue (fnV 123 #[ptrV W7.heap.size]) rfl
 obtain ⟨W9a, W9, es9, hu9a, hu9, hm9, hg9a, hg9⟩ := hm8.pair wNoUserModification (fnV 123 #[ptrV (W7.heap.size + 1)]) rfl
 have d8a : W8a.cell? ⟨w.heap.size, 0, none⟩ = some (.pointer (some ⟨p, 0, none⟩)) := (jdE.grown hg8a (by simp; omega)).cell 0
 have r8a : W8a.cell? ⟨w.heap.size + 1, 0, none⟩ = some (.pointer (some ⟨r, 0, none⟩)) := (jrE.grown hg8a (by simp)).cell 0
 have jd8 := jdE.grown hg8 (by simp; omega)
 have jr8 := jrE.grown hg8 (by simp)
 have d8 : W8.cell? ⟨w.heap.size, 0, none⟩ = some (.pointer (some ⟨p, 0, none⟩)) := jd8.cell 0
 have r8 : W8.cell? ⟨w.heap.size + 1, 0, none⟩ = some (.pointer (some ⟨r, 0, none⟩)) := jr8.cell 0
 have d9a : W9a.cell? ⟨w.heap.size, 0, none⟩ = some (.pointer (some ⟨p, 0, none⟩)) := (jd8.grown hg9a (by simp; omega)).cell 0
 have r9a : W9a.cell? ⟨w.heap.size + 1, 0, none⟩ = some (.pointer (some ⟨r, 0, none⟩)) := (jr8.grown hg9a (by simp)).cell 0
 have jd9 := jd8.grown hg9 (by simp; omega)
 have jr9 := jr8.grown hg9 (by simp)
 have d9 : W9.cell? ⟨w.heap.size, 0, none⟩ = some (.pointer (some ⟨p, 0, none⟩)) := jd9.cell 0
 have r9 : W9.cell? ⟨w.heap.size + 1, 0, none⟩ = some (.pointer (some ⟨r, 0, none⟩)) := jr9.cell 0
 obtain ⟨W10, es10, hu10, hm10, hg10⟩ := hm9.upd wUsage (fnV 87 #[ptrV (w.heap.size + 1), ptrV w.heap.size]) rfl
 have hgE := World.grownBy.trans (World.grownBy.trans hg8 hg9) hg10
 have hfin : FieldsARet w r p (.returned (.map (some (w.heap.size + 1 + 1)))) W10 := by
  refine ⟨_, _, _, w.heap.size + 1, w.heap.size, (W3.heap.size, W3.heap.size + 1, W3.heap.size + 1 + 1), (W3.heap.size + 1 + 1 + 1, W3.heap.size + 1 + 1 + 1 + 1, W3.heap.size + 1 + 1 + 1 + 1 + 1), (W3.heap.size + 1 + 1 + 1 + 1 + 1 + 1, W3.heap.size + 1 + 1 + 1 + 1 + 1 + 1 + 1, W3.heap.size + 1 + 1 + 1 + 1 + 1 + 1 + 1 + 1), W7.heap.size, W7.heap.size + 1, rfl, hm10, ?_, ?_⟩
  ·have hs7 : W3.heap.size + 9 ≤ W7.heap.size := by
    have q1 := hg456.size
    have q2 := hg7.size
    simp at q1
    omega
   have b0 := Bk.new W3 80 #[.pointer (some ⟨r, 0, none⟩)]
   have c0 := ((((((((((((b0.alloc (.cells #[.pointer (some ⟨p, 7, none⟩)] 131)).alloc (.cells #[.int .i64 0] 3)).alloc (.cells #[.pointer (some ⟨r, 0, none⟩)] 80)).alloc (.cells #[.pointer (some ⟨p, 8, none⟩)] 131)).alloc (.cells #[.int .i64 1] 3)).alloc (.cells #[.pointer (some ⟨r, 0, none⟩)] 80)).alloc (.cells #[.pointer (some ⟨p, 9, none⟩)] 131)).alloc (.cells #[.int .i64 2] 3)).drewN 1).grown hg456 (by simp; omega)).grown hg7 (by simp; omega)))
   have e0 := (((c0.alloc (.cells #[.pointer (some ⟨p, 10, none⟩)] 134)).alloc (.cells #[.pointer (some ⟨p, 11, none⟩)] 134)).drewN 1).grown hgE (by simp; omega)
   have b1 := Bk.new (W3.alloc (.cells #[.pointer (some ⟨r, 0, none⟩)] 80)) 131 #[.pointer (some ⟨p, 7, none⟩)]
   rw [World.size_alloc] at b1
   have c1 := (((((((((((b1.alloc (.cells #[.int .i64 0] 3)).alloc (.cells #[.pointer (some ⟨r, 0, none⟩)] 80)).alloc (.cells #[.pointer (some ⟨p, 8, none⟩)] 131)).alloc (.cells #[.int .i64 1] 3)).alloc (.cells #[.pointer (some ⟨r, 0, none⟩)] 80)).alloc (.cells #[.pointer (some ⟨p, 9, none⟩)] 131)).alloc (.cells #[.int .i64 2] 3)).drewN 1).grown hg456 (by simp; omega)).grown hg7 (by simp; omega)))
   have e1 := (((c1.alloc (.cells #[.pointer (some ⟨p, 10, none⟩)] 134)).alloc (.cells #[.pointer (some ⟨p, 11, none⟩)] 134)).drewN 1).grown hgE (by simp; omega)
   have b2 := Bk.new ((W3.alloc (.cells #[.pointer (some ⟨r, 0, none⟩)] 80)).alloc (.cells #[.pointer (some ⟨p, 7, none⟩)] 131)) 3 #[.int .i64 0]
   rw [World.size_alloc, World.size_alloc] at b2
   have c2 := ((((((((((b2.alloc (.cells #[.pointer (some ⟨r, 0, none⟩)] 80)).alloc (.cells #[.pointer (some ⟨p, 8, none⟩)] 131)).alloc (.cells #[.int .i64 1] 3)).alloc (.cells #[.pointer (some ⟨r, 0, none⟩)] 80)).alloc (.cells #[.pointer (some ⟨p, 9, none⟩)] 131)).alloc (.cells #[.int .i64 2] 3)).drewN 1).grown hg456 (by simp; omega)).grown hg7 (by simp; omega)))
   have e2 := (((c2.alloc (.cells #[.pointer (some ⟨p, 10, none⟩)] 134)).alloc (.cells #[.pointer (some ⟨p, 11, none⟩)] 134)).drewN 1).grown hgE (by simp; omega)
   have b3 := Bk.new (((W3.alloc (.cells #[.pointer (some ⟨r, 0, none⟩)] 80)).alloc (.cells #[.pointer (some ⟨p, 7, none⟩)] 131)).alloc (.cells #[.int .i64 0] 3)) 80 #[.pointer (some ⟨r, 0, none⟩)]
   rw [World.size_alloc, World.size_alloc, World.size_alloc] at b3
   have c3 := (((((((((b3.alloc (.cells #[.pointer (some ⟨p, 8, none⟩)] 131)).alloc (.cells #[.int .i64 1] 3)).alloc (.cells #[.pointer (some ⟨r, 0, none⟩)] 80)).alloc (.cells #[.pointer (some ⟨p, 9, none⟩)] 131)).alloc (.cells #[.int .i64 2] 3)).drewN 1).grown hg456 (by simp; omega)).grown hg7 (by simp; omega)))
   have e3 := (((c3.alloc (.cells #[.pointer (some ⟨p, 10, none⟩)] 134)).alloc (.cells #[.pointer (some ⟨p, 11, none⟩)] 134)).drewN 1).grown hgE (by simp; omega)
   have b4 := Bk.new ((((W3.alloc (.cells #[.pointer (some ⟨r, 0, none⟩)] 80)).alloc (.cells #[.pointer (some ⟨p, 7, none⟩)] 131)).alloc (.cells #[.int .i64 0] 3)).alloc (.cells #[.pointer (some ⟨r, 0, none⟩)] 80)) 131 #[.pointer (some ⟨p, 8, none⟩)]
   rw [World.size_alloc, World.size_alloc, World.size_alloc, World.size_alloc] at b4
   have c4 := ((((((((b4.alloc (.cells #[.int .i64 1] 3)).alloc (.cells #[.pointer (some ⟨r, 0, none⟩)] 80)).alloc (.cells #[.pointer (some ⟨p, 9, none⟩)] 131)).alloc (.cells #[.int .i64 2] 3)).drewN 1).grown hg456 (by simp; omega)).grown hg7 (by simp; omega)))
   have e4 := (((c4.alloc (.cells #[.pointer (some ⟨p, 10, none⟩)] 134)).alloc (.cells #[.pointer (some ⟨p, 11, none⟩)] 134)).drewN 1).grown hgE (by simp; omega)
   have b5 := Bk.new (((((W3.alloc (.cells #[.pointer (some ⟨r, 0, none⟩)] 80)).alloc (.cells #[.pointer (some ⟨p, 7, none⟩)] 131)).alloc (.cells #[.int .i64 0] 3)).alloc (.cells #[.pointer (some ⟨r, 0, none⟩)] 80)).alloc (.cells #[.pointer (some ⟨p, 8, none⟩)] 131)) 3 #[.int .i64 1]
   rw [World.size_alloc, World.size_alloc, World.size_alloc, World.size_alloc, World.size_alloc] at b5
   have c5 := (((((((b5.alloc (.cells #[.pointer (some ⟨r, 0, none⟩)] 80)).alloc (.cells #[.pointer (some ⟨p, 9, none⟩)] 131)).alloc (.cells #[.int .i64 2] 3)).drewN 1).grown hg456 (by simp; omega)).grown hg7 (by simp; omega)))
   have e5 := (((c5.alloc (.cells #[.pointer (some ⟨p, 10, none⟩)] 134)).alloc (.cells #[.pointer (some ⟨p, 11, none⟩)] 134)).drewN 1).grown hgE (by simp; omega)
   have b6 := Bk.new ((((((W3.alloc (.cells #[.pointer (some ⟨r, 0, none⟩)] 80)).alloc (.cells #[.pointer (some ⟨p, 7, none⟩)] 131)).alloc (.cells #[.int .i64 0] 3)).alloc (.cells #[.pointer (some ⟨r, 0, none⟩)] 80)).alloc (.cells #[.pointer (some ⟨p, 8, none⟩)] 131)).alloc (.cells #[.int .i64 1] 3)) 80 #[.pointer (some ⟨r, 0, none⟩)]
   rw [World.size_alloc, World.size_alloc, World.size_alloc, World.size_alloc, World.size_alloc, World.size_alloc] at b6
   have c6 := ((((((b6.alloc (.cells #[.pointer (some ⟨p, 9, none⟩)] 131)).alloc (.cells #[.int .i64 2] 3)).drewN 1).grown hg456 (by simp; omega)).grown hg7 (by simp; omega)))
   have e6 := (((c6.alloc (.cells #[.pointer (some ⟨p, 10, none⟩)] 134)).alloc (.cells #[.pointer (some ⟨p, 11, none⟩)] 134)).drewN 1).grown hgE (by simp; omega)
   have b7 := Bk.new (((((((W3.alloc (.cells #[.pointer (some ⟨r, 0, none⟩)] 80)).alloc (.cells #[.pointer (some ⟨p, 7, none⟩)] 131)).alloc (.cells #[.int .i64 0] 3)).alloc (.cells #[.pointer (some ⟨r, 0, none⟩)] 80)).alloc (.cells #[.pointer (some ⟨p, 8, none⟩)] 131)).alloc (.cells #[.int .i64 1] 3)).alloc (.cells #[.pointer (some ⟨r, 0, none⟩)] 80)) 131 #[.pointer (some ⟨p, 9, none⟩)]
   rw [World.size_alloc, World.size_alloc, World.size_alloc, World.size_alloc, World.size_alloc, World.size_alloc, World.size_alloc] at b7
   have c7 := (((((b7.alloc (.cells #[.int .i64 2] 3)).drewN 1).grown hg456 (by simp; omega)).grown hg7 (by simp; omega)))
   have e7 := (((c7.alloc (.cells #[.pointer (some ⟨p, 10, none⟩)] 134)).alloc (.cells #[.pointer (some ⟨p, 11, none⟩)] 134)).drewN 1).grown hgE (by simp; omega)
   have b8 := Bk.new ((((((((W3.alloc (.cells #[.pointer (some ⟨r, 0, none⟩)] 80)).alloc (.cells #[.pointer (some ⟨p, 7, none⟩)] 131)).alloc (.cells #[.int .i64 0] 3)).alloc (.cells #[.pointer (some ⟨r, 0, none⟩)] 80)).alloc (.cells #[.pointer (some ⟨p, 8, none⟩)] 131)).alloc (.cells #[.int .i64 1] 3)).alloc (.cells #[.pointer (some ⟨r, 0, none⟩)] 80)).alloc (.cells #[.pointer (some ⟨p, 9, none⟩)] 131)) 3 #[.int .i64 2]
   rw [World.size_alloc, World.size_alloc, World.size_alloc, World.size_alloc, World.size_alloc, World.size_alloc, World.size_alloc, World.size_alloc] at b8
   have c8 := ((((b8.drewN 1).grown hg456 (by simp; omega)).grown hg7 (by simp; omega)))
   have e8 := (((c8.alloc (.cells #[.pointer (some ⟨p, 10, none⟩)] 134)).alloc (.cells #[.pointer (some ⟨p, 11, none⟩)] 134)).drewN 1).grown hgE (by simp; omega)
   have f0 := Bk.new W7 134 #[.pointer (some ⟨p, 10, none⟩)]
   have f1 := Bk.new (W7.alloc (.cells #[.pointer (some ⟨p, 10, none⟩)] 134)) 134 #[.pointer (some ⟨p, 11, none⟩)]
   rw [World.size_alloc] at f1
   have g0 := ((f0.alloc (.cells #[.pointer (some ⟨p, 11, none⟩)] 134)).drewN 1).grown hgE (by simp; omega)
   have g1 := (f1.drewN 1).grown hgE (by simp; omega)
   exact ⟨(jr9.grown hg10 (by simp)).cell 0, (jd9.grown hg10 (by simp; omega)).cell 0, ⟨e0.cell 0, e1.cell 0, e2.cell 0, by simp only; omega⟩, ⟨e3.cell 0, e4.cell 0, e5.cell 0, by simp only; omega⟩, ⟨e6.cell 0, e7.cell 0, e8.cell 0, by simp only; omega⟩, g0.cell 0, g1.cell 0, by omega⟩
  ·have h0 : Below w.heap.size w (((((((((W3.alloc (.cells #[.pointer (some ⟨r, 0, none⟩)] 80)).alloc (.cells #[.pointer (some ⟨p, 7, none⟩)] 131)).alloc (.cells #[.int .i64 0] 3)).alloc (.cells #[.pointer (some ⟨r, 0, none⟩)] 80)).alloc (.cells #[.pointer (some ⟨p, 8, none⟩)] 131)).alloc (.cells #[.int .i64 1] 3)).alloc (.cells #[.pointer (some ⟨r, 0, none⟩)] 80)).alloc (.cells #[.pointer (some ⟨p, 9, none⟩)] 131)).alloc (.cells #[.int .i64 2] 3)).drew := (((((((((hbel.alloc (by omega) _).alloc (by simp; omega) _).alloc (by simp; omega) _).alloc (by simp; omega) _).alloc (by simp; omega) _).alloc (by simp; omega) _).alloc (by simp; omega) _).alloc (by simp; omega) _).alloc (by simp; omega) _).drew
   have q1 := hg456.size
   have q2 := hg7.size
   simp at q1
   have h1 := (h0.grown hg456 (by simp; omega) (by intro k hk; cases hk; omega)).grown hg7 (by omega) (by intro k hk; cases hk; omega)
   have h2 : Below w.heap.size w ((W7.alloc (.cells #[.pointer (some ⟨p, 10, none⟩)] 134)).alloc (.cells #[.pointer (some ⟨p, 11, none⟩)] 134)).drew := (((h1.alloc (by omega) _).alloc (by simp; omega) _)).drew
   exact h2.grown hgE (by simp; omega) (by intro k hk; cases hk; omega)
 have HFIN := Lib.hid hfin
 unfold wName fnV ptrV at hu1
 unfold wDesc fnV ptrV at hu2
 unfold wSup fnV ptrV at hu3
 unfold wSyntax fnV ptrV at hu7
 unfold wUsage fnV ptrV at hu10
 unfold wEquality at hu4a
 unfold fnV ptrV at hu4
 rw [show ((3 : Nat) : Int) = 3 from rfl] at hu4a hu4
 unfold wOrdering at hu5a
 unfold fnV ptrV at hu5
 rw [show ((3 + 1 : Nat) : Int) = 4 from rfl] at hu5a hu5
 unfold wSubstr at hu6a
 unfold fnV ptrV at hu6
 rw [show ((3 + 1 + 1 : Nat) : Int) = 5 from rfl] at hu6a hu6
 unfold wSingleValue at hu8a
 unfold fnV ptrV at hu8
 rw [show ((7 : Nat) : Int) = 7 from rfl] at hu8a hu8
 unfold wNoUserModification at hu9a
 unfold fnV ptrV at hu9
 rw [show ((7 + 1 : Nat) : Int) = 8 from rfl] at hu9a hu9
 clear hfin hm0 hm1 hm2 hm3 hmD hm4 hm5 hm6 hm7 hmE hm8 hm9 hm10 hbel hg1 hg2 hg3 hg12 hgg hg4 hg4a hg5 hg5a hg6 hg6a hg7 hg8 hg8a hg9 hg9a hg10 hgE hg456 hB hd jd jr jd2 jr2 i1 i2 jp jdD jrD jd4 jr4 jd5 jr5 jd6 jr6 jd7 jr7 jdE jrE jd8 jr8 jd9 jr9
 have s2 := And.intro d2 r2
 have s3 := And.intro d3 r3
 have s3x := And.intro d3x r3x
 have s3y := And.intro d3y r3y
 have s3z := And.intro d3z r3z
 have s4a := And.intro d4a r4a
 have s4 := And.intro d4 r4
 have s5a := And.intro d5a r5a
 have s5 := And.intro d5 r5
 have s6a := And.intro d6a r6a
 have s6 := And.intro d6 r6
 have s7 := And.intro d7 r7
 have s7x := And.intro d7x r7x
 have s7y := And.intro d7y r7y
 have s8a := And.intro d8a r8a
 have s8 := And.intro d8 r8
 have s9a := And.intro d9a r9a
 have s9 := And.intro d9 r9
 clear d3x r3x d3y r3y d3z r3z d4a r4a d4 r4 d5a r5a d5 r5 d6a r6a d7x r7x d7y r7y d8a r8a d8 r8 d9a r9a
 unfold ptrV
 go_enter Tryz.func38, Tryz.ntmps38
 go_wp2_with fail
 go_region_held3 (fun w' => w'.cell? ⟨w.heap.size, 0, none⟩ = some (.pointer (some ⟨p, 0, none⟩)) ∧ w'.cell? ⟨w.heap.size + 1, 0, none⟩ = some (.pointer (some ⟨r, 0, none⟩))) (first | exact s2 | exact s3 | exact s3x | exact s3y | exact s3z | exact s4a | exact s4 | exact s5a | exact s5 | exact s6a | exact s6 | exact s7 | exact s7x | exact s7y | exact s8a | exact s8 | exact s9a | exact s9) (first | (go_at_call 83; (with_reducible refine (ruleFn_c r p 7 0 _).mono ?_); rintro e w' ⟨rfl, rfl⟩) | (go_at_call 83; (with_reducible refine (ruleFn_c r p 8 1 _).mono ?_); rintro e w' ⟨rfl, rfl⟩) | (go_at_call 83; (with_reducible refine (ruleFn_c r p 9 2 _).mono ?_); rintro e w' ⟨rfl, rfl⟩))
 all_goals
  go_wp2_with fail
  go_region_held3 (fun w' => w'.cell? ⟨w.heap.size, 0, none⟩ = some (.pointer (some ⟨p, 0, none⟩)) ∧ w'.cell? ⟨w.heap.size + 1, 0, none⟩ = some (.pointer (some ⟨r, 0, none⟩))) (first | exact s2 | exact s3 | exact s3x | exact s3y | exact s3z | exact s4a | exact s4 | exact s5a | exact s5 | exact s6a | exact s6 | exact s7 | exact s7x | exact s7y | exact s8a | exact s8 | exact s9a | exact s9) (first | (go_at_call 86; (with_reducible refine (flagFn_c p 10 _).mono ?_); rintro e w' ⟨rfl, rfl⟩) | (go_at_call 86; (with_reducible refine (flagFn_c p 11 _).mono ?_); rintro e w' ⟨rfl, rfl⟩))
  all_goals
   go_wp2_with fail
   go_ret
   exact HFIN.out
end Go.Proofs.YtconnibnpckadaaGreatDoor
