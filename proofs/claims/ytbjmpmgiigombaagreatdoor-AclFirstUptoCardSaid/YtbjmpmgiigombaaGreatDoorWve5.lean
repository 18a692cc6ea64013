import Derived.Test.YtbjmpmgiigombaaGreatDoorWve2
set_option linter.all false
set_option maxHeartbeats 8000000
namespace Go.Proofs.YtbjmpmgiigombaaGreatDoor
open Go.RowKit
def askCells (s : Nat) (who : List UInt8) (vg : Value) (key attr : List UInt8) : Array Value := #[.pointer (some ⟨s, 0, none⟩), .string ⟨who.toArray⟩, vg, .string ⟨key.toArray⟩, .string ⟨attr.toArray⟩]
section
variable (s : Nat) (who : List UInt8) (vg : Value) (key attr k : List UInt8) (ba bk : Nat) (w : World)
variable (h0 : w.cell? ⟨ba, 0, none⟩ = some (.pointer (some ⟨s, 0, none⟩))) (h1 : w.cell? ⟨ba, 1, none⟩ = some (.string ⟨who.toArray⟩)) (h2 : w.cell? ⟨ba, 2, none⟩ = some vg) (h3 : w.cell? ⟨ba, 3, none⟩ = some (.string ⟨key.toArray⟩)) (hk : w.cell? ⟨bk, 0, none⟩ = some (.string ⟨k.toArray⟩))
set_option maxRecDepth 100000
theorem names1_c : Calls Tryz.prog 192 #[] w fun e w' => e = .returned (.bool true) ∧ Below w.heap.size w w' := by
 go_enter Tryz.func192, Tryz.ntmps192
 go_wp2_with fail
 go_ret
 exact ⟨rfl, Below.refl _ _⟩
include h1 in
theorem names2_c : Calls Tryz.prog 193 #[.pointer (some ⟨ba, 0, none⟩)] w fun e w' => e = .returned (.bool (who == [])) ∧ Below w.heap.size w w' := by
 go_enter Tryz.func193, Tryz.ntmps193
 go_wp2_with fail
 go_ret
 exact ⟨retb (by simp), Below.refl _ _⟩
include h1 in
theorem names3_c : Calls Tryz.prog 194 #[.pointer (some ⟨ba, 0, none⟩)] w fun e w' => e = .returned (.bool (who != [])) ∧ Below w.heap.size w w' := by
 go_enter Tryz.func194, Tryz.ntmps194
 go_wp2_with fail
 go_ret
 exact ⟨retb (by cases who <;> rfl), Below.refl _ _⟩
include h1 h3 in
theorem names4_c : Calls Tryz.prog 195 #[.pointer (some ⟨ba, 0, none⟩)] w fun e w' => e = .returned (.bool (who != [] && who == key)) ∧ Below w.heap.size w w' := by
 rcases who with _ | ⟨a, t⟩
 all_goals
  go_enter Tryz.func195, Tryz.ntmps195
  go_wp2_with fail
  all_goals
   go_ret
   exact ⟨retb (by first | rfl | simp), Below.refl _ _⟩
include h1 hk in
theorem names5_c : Calls Tryz.prog 196 #[.pointer (some ⟨ba, 0, none⟩), .pointer (some ⟨bk, 0, none⟩)] w fun e w' => e = .returned (.bool (who != [] && who == k)) ∧ Below w.heap.size w w' := by
 rcases who with _ | ⟨a, t⟩
 all_goals
  go_enter Tryz.func196, Tryz.ntmps196
  go_wp2_with fail
  all_goals
   go_ret
   exact ⟨retb (by first | rfl | simp), Below.refl _ _⟩
include h0 h1 hk in
theorem names6_c (hwE : Env w) : Calls Tryz.prog 197 #[.pointer (some ⟨ba, 0, none⟩), .pointer (some ⟨bk, 0, none⟩)] w fun e w' => e = .returned (.bool (who != [] && underS who k)) ∧ Below w.heap.size w w' := by
 have HU := Lib.hid (Under_c (.pointer (some ⟨s, 0, none⟩)) who k w hwE)
 generalize underS who k = u at HU ⊢
 clear hwE
 rcases who with _ | ⟨a, t⟩
 all_goals
  go_enter Tryz.func197, Tryz.ntmps197
  go_wp2_with (go_at_call 188; refine HU.out.mono ?_; rintro e w1 ⟨rfl, hb1⟩)
  all_goals
   go_ret
   first | exact ⟨retb (by first | rfl | simp), Below.refl _ _⟩ | exact ⟨retb (by first | rfl | simp), hb1⟩
include h2 hk in
theorem names7_c (gs : List (List UInt8)) (hg : Texts w vg gs) (hl : gs.length ≤ 1000000) : Calls Tryz.prog 198 #[.pointer (some ⟨ba, 0, none⟩), .pointer (some ⟨bk, 0, none⟩)] w fun e w' => e = .returned (.bool (gs.contains k)) ∧ Below w.heap.size w w' := by
 have HC := Lib.hid (ContainsS_c k gs vg w hg hl)
 obtain ⟨A, n, c, rfl⟩ := hg.isSlice
 generalize gs.contains k = u at HC ⊢
 clear hg hl
 go_enter Tryz.func198, Tryz.ntmps198
 go_wp2_with (go_at_call 199; refine HC.out.mono ?_; rintro e w1 ⟨rfl, rfl⟩)
 all_goals
  go_ret
  exact ⟨rfl, Below.refl _ _⟩
end
def intV (k : Int) : Value := .int .i64 k
theorem now_int (a b : Int) : Instr.sameNow (.int .i64) (intV a) (intV b) = some (decide (a = b)) := by
 simp only [Instr.sameNow, intV]
 congr 1
theorem finds_int : Finds Tryz.prog 3 intV := finds_now (D := .int .i64) Tryz.underlying3 now_int
theorem check_int (b : Bool) (w : World) (k : Int) : (Instr.checkKey b 10000 3 (intV k)).run Tryz.prog w = .ok () w := by
 unfold intV
 kernel_rfl
theorem zeroFn (w : World) : (zeroValue 22).run Tryz.prog w = .ok .nilFunc w := by kernel_rfl
theorem updI {w : World} {m c : Nat} {es : Array MapEntry} {R : List (Int × Value)} (hw : w.heap[m]? = some (.map es c)) (h : MapR intV es R) (k : Int) (v : Value) (hn : look R k = none) :
  ∃ W es', (Instr.mapUpdate 244 (.map (some m)) (.int .i64 k) v).run Tryz.prog w = .ok () W ∧ W.heap[m]? = some (.map es' (c + 1)) ∧ MapR intV es' (R ++ [(k, v)]) ∧ w.grownBy W (some m) :=
 ⟨_, _, map_put Tryz.underlying244 finds_int check_int w m c es R hw h k v hn, setMap_heap (Array.getElem?_eq_some_iff.1 hw).1, h.push k v c, setMap_grown _ _ _ _⟩
theorem lookI {w : World} {m c : Nat} {es : Array MapEntry} {R : List (Int × Value)} (hw : w.heap[m]? = some (.map es c)) (h : MapR intV es R) (k : Int) :
  (Instr.lookup 244 (.map (some m)) (.int .i64 k) false).run Tryz.prog w = .ok ((look R k).getD .nilFunc) w :=
 map_look Tryz.underlying244 finds_int check_int zeroFn w m c es R hw h k
def capN (n ba bk : Nat) : Array Value := if n = 0 then #[] else if n < 4 then #[.pointer (some ⟨ba, 0, none⟩)] else #[.pointer (some ⟨ba, 0, none⟩), .pointer (some ⟨bk, 0, none⟩)]
def fnN (n ba bk : Nat) : Value := .func (.func (192 + n)) #[] (capN n ba bk)
theorem made_map (ba bk : Nat) (w : World) : ∃ W0 W1 W2 W3 W4 W5 W6 W7 : World, W0 = w.alloc (.map #[] 0) ∧
  (Instr.mapUpdate 244 (.map (some w.heap.size)) (.int .i64 0) (fnN 0 ba bk)).run Tryz.prog W0 = .ok () W1 ∧
  (Instr.mapUpdate 244 (.map (some w.heap.size)) (.int .i64 1) (fnN 1 ba bk)).run Tryz.prog W1 = .ok () W2 ∧
  (Instr.mapUpdate 244 (.map (some w.heap.size)) (.int .i64 2) (fnN 2 ba bk)).run Tryz.prog W2 = .ok () W3 ∧
  (Instr.mapUpdate 244 (.map (some w.heap.size)) (.int .i64 3) (fnN 3 ba bk)).run Tryz.prog W3 = .ok () W4 ∧
  (Instr.mapUpdate 244 (.map (some w.heap.size)) (.int .i64 4) (fnN 4 ba bk)).run Tryz.prog W4 = .ok () W5 ∧
  (Instr.mapUpdate 244 (.map (some w.heap.size)) (.int .i64 5) (fnN 5 ba bk)).run Tryz.prog W5 = .ok () W6 ∧
  (Instr.mapUpdate 244 (.map (some w.heap.size)) (.int .i64 6) (fnN 6 ba bk)).run Tryz.prog W6 = .ok () W7 ∧
  (∀ n : Nat, n < 7 → (Instr.lookup 244 (.map (some w.heap.size)) (.int .i64 n) false).run Tryz.prog W7 = .ok (fnN n ba bk) W7) ∧ W0.grownBy W7 (some w.heap.size) := by
 have h0 : (w.alloc (.map #[] 0)).heap[w.heap.size]? = some (.map #[] 0) := heap_alloc_new w _
 obtain ⟨W1, e1, u1, h1, r1, g1⟩ := updI h0 (MapR.nil intV) 0 (fnN 0 ba bk) rfl
 obtain ⟨W2, e2, u2, h2, r2, g2⟩ := updI h1 r1 1 (fnN 1 ba bk) rfl
 obtain ⟨W3, e3, u3, h3, r3, g3⟩ := updI h2 r2 2 (fnN 2 ba bk) rfl
 obtain ⟨W4, e4, u4, h4, r4, g4⟩ := updI h3 r3 3 (fnN 3 ba bk) rfl
 obtain ⟨W5, e5, u5, h5, r5, g5⟩ := updI h4 r4 4 (fnN 4 ba bk) rfl
 obtain ⟨W6, e6, u6, h6, r6, g6⟩ := updI h5 r5 5 (fnN 5 ba bk) rfl
 obtain ⟨W7, e7, u7, h7, r7, g7⟩ := updI h6 r6 6 (fnN 6 ba bk) rfl
 refine ⟨_, W1, W2, W3, W4, W5, W6, W7, rfl, u1, u2, u3, u4, u5, u6, u7, ?_, World.grownBy.trans (World.grownBy.trans (World.grownBy.trans (World.grownBy.trans (World.grownBy.trans (World.grownBy.trans g1 g2) g3) g4) g5) g6) g7⟩
 intro n hn
 rw [lookI h7 r7 n]
 have hn' : n = 0 ∨ n = 1 ∨ n = 2 ∨ n = 3 ∨ n = 4 ∨ n = 5 ∨ n = 6 := by omega
 rcases hn' with rfl | rfl | rfl | rfl | rfl | rfl | rfl <;> rfl
theorem fn_enter : ∀ (n : Nat) (_ : n < 7) (args : Array Value) (W : World), (callFunc (192 + n) args).run Tryz.prog W = .ok (.enter (192 + n) args) W
 | 0, _, args, W => (by kernel_rfl : (callFunc 192 args).run Tryz.prog W = .ok (.enter 192 args) W)
 | 1, _, args, W => (by kernel_rfl : (callFunc 193 args).run Tryz.prog W = .ok (.enter 193 args) W)
 | 2, _, args, W => (by kernel_rfl : (callFunc 194 args).run Tryz.prog W = .ok (.enter 194 args) W)
 | 3, _, args, W => (by kernel_rfl : (callFunc 195 args).run Tryz.prog W = .ok (.enter 195 args) W)
 | 4, _, args, W => (by kernel_rfl : (callFunc 196 args).run Tryz.prog W = .ok (.enter 196 args) W)
 | 5, _, args, W => (by kernel_rfl : (callFunc 197 args).run Tryz.prog W = .ok (.enter 197 args) W)
 | 6, _, args, W => (by kernel_rfl : (callFunc 198 args).run Tryz.prog W = .ok (.enter 198 args) W)
set_option maxRecDepth 100000 in
theorem names_at (n : Nat) (hn : n < 7) (s : Nat) (who : List UInt8) (A : Option Addr) (cl cc : Nat) (key attr name k : List UInt8) (level er : Int) (u : Bool) (w : World)
  (HK : Hid (∀ W, Below w.heap.size w W → Calls Tryz.prog 183 #[.pointer (some ⟨s, 0, none⟩), .string ⟨name.toArray⟩] W fun e w' => e = .returned (.tuple #[.string ⟨k.toArray⟩, .int .i64 er]) ∧ Below W.heap.size W w'))
  (HF : Hid (∀ W ba bk, Below w.heap.size w W → Bk W ba 124 (askCells s who (.slice A cl cc) key attr) → W.cell? ⟨bk, 0, none⟩ = some (.string ⟨k.toArray⟩) → Calls Tryz.prog (192 + n) (capN n ba bk) W fun e w' => e = .returned (.bool u) ∧ Below W.heap.size W w')) :
  Calls Tryz.prog 113 #[.agg (askCells s who (.slice A cl cc) key attr), .agg #[.int .i64 n, .string ⟨name.toArray⟩, .int .i64 level]] w fun e w' => e = .returned (.bool u) ∧ Below w.heap.size w w' := by
 have hmm := @run_makeMap Tryz.prog
 have hmf : ∀ (fn : Fn) (first cap : Array Value) (w : World), (Instr.makeFunc fn first cap).run Tryz.prog w = .ok (.func fn first cap) w := fun _ _ _ _ => rfl
 have hg1 := (Below.refl w.heap.size w).alloc (Nat.le_refl _) (.cells (askCells s who (.slice A cl cc) key attr) 124)
 have hg2 := hg1.alloc hg1.size (.cells #[.int .i64 n, .string ⟨name.toArray⟩, .int .i64 level] 61)
 have hq : Bk ((w.alloc (.cells (askCells s who (.slice A cl cc) key attr) 124)).alloc (.cells #[.int .i64 n, .string ⟨name.toArray⟩, .int .i64 level] 61)) w.heap.size 124 (askCells s who (.slice A cl cc) key attr) := (Bk.new w _ _).alloc _
 have hq2 : Bk ((w.alloc (.cells (askCells s who (.slice A cl cc) key attr) 124)).alloc (.cells #[.int .i64 n, .string ⟨name.toArray⟩, .int .i64 level] 61)) (w.heap.size + 1) 61 #[.int .i64 n, .string ⟨name.toArray⟩, .int .i64 level] := by
  have := Bk.new (w.alloc (.cells (askCells s who (.slice A cl cc) key attr) 124)) 61 #[.int .i64 n, .string ⟨name.toArray⟩, .int .i64 level]
  rw [World.size_alloc] at this
  exact this
 have hent := fn_enter n hn
 unfold askCells at *
 go_enter Tryz.func113, Tryz.ntmps113
 go_upto_region 2 with (go_at_call 183; refine (HK.out _ hg2).mono ?_; rintro e w1 ⟨rfl, hb1⟩)
 have hsz : w.heap.size + 1 < w1.heap.size := Nat.lt_of_lt_of_le (by simp) hb1.size
 obtain ⟨W0, W1, W2, W3, W4, W5, W6, W7, hW0, u1, u2, u3, u4, u5, u6, u7, hl, hg⟩ := made_map w.heap.size w1.heap.size (w1.alloc (.cells #[.string ⟨k.toArray⟩] 9))
 rw [World.size_alloc] at u1 u2 u3 u4 u5 u6 u7 hl hg
 have v0 : (Instr.mapUpdate 244 (.map (some (w1.heap.size + 1))) (.int .i64 0) (.func (.func 192) #[] #[])).run Tryz.prog W0 = .ok () W1 := u1
 have v1 : (Instr.mapUpdate 244 (.map (some (w1.heap.size + 1))) (.int .i64 1) (.func (.func 193) #[] #[.pointer (some ⟨w.heap.size, 0, none⟩)])).run Tryz.prog W1 = .ok () W2 := u2
 have v2 : (Instr.mapUpdate 244 (.map (some (w1.heap.size + 1))) (.int .i64 2) (.func (.func 194) #[] #[.pointer (some ⟨w.heap.size, 0, none⟩)])).run Tryz.prog W2 = .ok () W3 := u3
 have v3 : (Instr.mapUpdate 244 (.map (some (w1.heap.size + 1))) (.int .i64 3) (.func (.func 195) #[] #[.pointer (some ⟨w.heap.size, 0, none⟩)])).run Tryz.prog W3 = .ok () W4 := u4
 have v4 : (Instr.mapUpdate 244 (.map (some (w1.heap.size + 1))) (.int .i64 4) (.func (.func 196) #[] #[.pointer (some ⟨w.heap.size, 0, none⟩), .pointer (some ⟨w1.heap.size, 0, none⟩)])).run Tryz.prog W4 = .ok () W5 := u5
 have v5 : (Instr.mapUpdate 244 (.map (some (w1.heap.size + 1))) (.int .i64 5) (.func (.func 197) #[] #[.pointer (some ⟨w.heap.size, 0, none⟩), .pointer (some ⟨w1.heap.size, 0, none⟩)])).run Tryz.prog W5 = .ok () W6 := u6
 have v6 : (Instr.mapUpdate 244 (.map (some (w1.heap.size + 1))) (.int .i64 6) (.func (.func 198) #[] #[.pointer (some ⟨w.heap.size, 0, none⟩), .pointer (some ⟨w1.heap.size, 0, none⟩)])).run Tryz.prog W6 = .ok () W7 := u7
 have hln := hl n hn
 have hb2 : Below w.heap.size w W7 := by
  rw [hW0] at hg
  refine (((hg2.trans (hb1.mono hg2.size)).alloc (by omega) (.cells #[.string ⟨k.toArray⟩] 9)).alloc (by simp; omega) (.map #[] 0)).grown hg (by simp; omega) ?_
  intro j hj
  cases hj
  omega
 have q1 : Bk W7 w.heap.size 124 #[.pointer (some ⟨s, 0, none⟩), .string ⟨who.toArray⟩, .slice A cl cc, .string ⟨key.toArray⟩, .string ⟨attr.toArray⟩] := by
  rw [hW0] at hg
  exact ((((hq.below hb1).alloc _).alloc _).grown hg (by simp; omega))
 have q2 : Bk W7 (w.heap.size + 1) 61 #[.int .i64 n, .string ⟨name.toArray⟩, .int .i64 level] := by
  rw [hW0] at hg
  exact ((((hq2.below hb1).alloc _).alloc _).grown hg (by simp; omega))
 have q3 : W7.cell? ⟨w1.heap.size, 0, none⟩ = some (.string ⟨k.toArray⟩) := by
  rw [hW0] at hg
  exact (((Bk.new w1 9 #[.string ⟨k.toArray⟩]).alloc _).grown hg (by simp)).cell 0
 have d0 : W7.cell? ⟨w.heap.size + 1, 0, none⟩ = some (.int .i64 n) := q2.cell 0
 have HF2 := Lib.hid (HF.out W7 w.heap.size w1.heap.size hb2 q1 q3)
 unfold fnN at hln
 generalize capN n w.heap.size w1.heap.size = cap at HF2 hln
 generalize (192 + n) = fid at HF2 hln hent
 subst hW0
 clear u1 u2 u3 u4 u5 u6 u7 hl hg q1 q2 q3 hq hq2 hg1 hg2 HF HK hsz
 go_wp2_with ((with_reducible refine HF2.out.mono ?_); rintro e w3 ⟨rfl, hb3⟩)
 all_goals
  go_ret
  exact ⟨rfl, hb2.trans (hb3.mono hb2.size)⟩
theorem names_c (s : Nat) (ps : List Nat) (L : List DefS) (hL : Sound L) (who : List UInt8) (gs : List (List UInt8)) (vg : Value) (key attr : List UInt8) (g : GrantS) (w : World) (hw : Env w) (hS : SchAt w s ps L) (hg : Texts w vg gs) (hl : gs.length ≤ 1000000) (hin : inRow g.who whoWs = true) :
  Calls Tryz.prog 113 #[.agg (askCells s who vg key attr), .agg #[.int .i64 g.who, .string ⟨g.name.toArray⟩, .int .i64 g.level]] w fun e w' => e = .returned (.bool (namesA L who gs key g)) ∧ Below w.heap.size w w' := by
 obtain ⟨n, hn, hn7⟩ := inRow_nat hin
 obtain ⟨A, cl, cc, hv⟩ := hg.isSlice
 rw [hn, hv]
 refine names_at n hn7 s who A cl cc key attr g.name (keyS L g.name).2 g.level (keyS L g.name).1 (namesA L who gs key g) w (Lib.hid fun W hW => Key_c s ps L hL g.name W (hw.keep hW) (hS.below hW)) (Lib.hid fun W ba bk hW hq hk => ?_)
 rw [← hv] at hq
 have c0 : W.cell? ⟨ba, 0, none⟩ = some (.pointer (some ⟨s, 0, none⟩)) := hq.cell 0
 have c1 : W.cell? ⟨ba, 1, none⟩ = some (.string ⟨who.toArray⟩) := hq.cell 1
 have c2 : W.cell? ⟨ba, 2, none⟩ = some vg := hq.cell 2
 have c3 : W.cell? ⟨ba, 3, none⟩ = some (.string ⟨key.toArray⟩) := hq.cell 3
 unfold namesA
 rw [hn]
 have hn' : n = 0 ∨ n = 1 ∨ n = 2 ∨ n = 3 ∨ n = 4 ∨ n = 5 ∨ n = 6 := by
  have : whoWs.length = 7 := rfl
  omega
 rcases hn' with rfl | rfl | rfl | rfl | rfl | rfl | rfl
 ·exact names1_c W
 ·exact names2_c who ba W c1
 ·exact names3_c who ba W c1
 ·exact names4_c who key ba W c1 c3
 ·exact names5_c who _ ba bk W c1 hk
 ·exact names6_c s who _ ba bk W c0 c1 hk (hw.keep hW)
 ·exact names7_c vg _ ba bk W c2 hk gs (hg.below hW) hl
end Go.Proofs.YtbjmpmgiigombaaGreatDoor
