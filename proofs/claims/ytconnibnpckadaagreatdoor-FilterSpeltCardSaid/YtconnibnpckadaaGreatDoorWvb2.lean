import Derived.Test.YtconnibnpckadaaGreatDoorWvb1
import Derived.Test.YtconnibnpckadaaGreatDoorSort
set_option linter.all false
set_option maxHeartbeats 8000000
set_option maxRecDepth 100000
namespace Go.Proofs.YtconnibnpckadaaGreatDoor
open Go.RowKit
def escB (n p : Nat) (c : UInt8) : Bool := decide (0 ≤ Lib.indexByte specCs c) || ((p : Int) == 0 && ((c.toNat : Int) == 35 || (c.toNat : Int) == 32)) || ((p : Int) == (n : Int) - 1 && (c.toNat : Int) == 32)
def wrB (n p : Nat) (c : UInt8) : List UInt8 := if (c.toNat : Int) == 0 then [92, 48, 48] else if escB n p c then [92, c] else [c]
def wrL (v : List UInt8) : Nat → List UInt8
 | 0 => []
 | p + 1 => wrL v p ++ wrB v.length p (v.getD p 0)
def writtenL (v : List UInt8) : List UInt8 := if Lib.validD v then wrL v v.length else 35 :: hexL v
theorem wrL_at (v : List UInt8) (p : Nat) (h : p < v.length) (x : List UInt8) (hx : wrB v.length p v[p] = x) : wrL v (p + 1) = wrL v p ++ x := by
 rw [wrL, List.getD_eq_getElem?_getD, List.getElem?_eq_getElem h]
 exact congrArg _ hx
open Go.RowKit
def avaBadB (x : List UInt8 × List UInt8) : Bool := !isTypeL x.1
def partBad (p : List (List UInt8 × List UInt8)) : Bool := p.isEmpty || p.any avaBadB
def pairW (x : List UInt8 × List UInt8) : List UInt8 := x.1 ++ [61] ++ writtenL x.2
def partW (p : List (List UInt8 × List UInt8)) : List UInt8 := Lib.join (p.map pairW) [43]
def nameW (d : List (List (List UInt8 × List UInt8))) : List UInt8 := Lib.join (d.map partW) [44]
def printFin (s : List UInt8) : Int × List UInt8 := if 65536 < s.length then (2, []) else (0, s)
def printL (d : List (List (List UInt8 × List UInt8))) : Int × List UInt8 := if d.any partBad then (30, []) else if tooLongL d then (2, []) else printFin (nameW d)
open Go.RowKit
section
variable {ops : Array Oper} {o : Oper} {a : Act} {K : Act → World → Prop} {Q : Exit → Act → World → Prop} {E : Prop}
theorem step_append_own {P : Program} {w : World} (hgd : o.guard = none) (s x : Operand) (t : TypeId)
  (ho : o.op = .call { callee := .builtin .append, args := #[s, x], argTypes := #[t, t] })
  (base : Nat) (e : TypeId) (i : TypeInfo) (z : Value) (size bytes : Nat) (ht : P.underlying t = some (.slice e)) (hi : P.info? e = some i) (hz : i.zero = some z)
  (hsize : i.size = size) (hby : i.bytes = bytes) (hzs : z.cells.size = size) (hsz : 0 < size)
  (v : Value) (n : Nat) (xs : List Value) (hs : a.eval s = v) (hown : w.ownsRow base e size v n xs)
  (ad : Addr) (m c : Nat) (news : List Value) (hx : a.eval x = .slice (some ad) m c) (hl : news.length = m * size) (hnews : ∀ j u, news[j]? = some u → w.cell? (ad.add j) = some u) (h1 : ∀ u ∈ news, u.oneCell' = true)
  (h63 : n + m ≤ maxLen) (hbytes : (n + m) * bytes ≤ 140737488355328) (hbase : base ≤ w.heap.size)
  (h : ∀ v' w', w'.ownsRow base e size v' (n + m) (xs ++ news) → w.grownBy w' v.ownBlock → K (a.put o.dst v') w') :
  if Region.wanted o (yielded ops a.tmps) = true then Oper.wp P o a w K Q else E := by
 have hw : Region.wanted o (yielded ops a.tmps) = true := by simp [Region.wanted, hgd]
 rw [if_pos hw]
 obtain ⟨v', w', hr, h2, h3, h4⟩ := run_append_own (P := P) w base t o.type e i z size bytes ht hi hz hsize hby hzs hsz v n xs hown ad m c news hl hnews h1 h63 hbytes hbase
 unfold Oper.wp execOp
 simp only [ho, resolve, invoke, builtin, Sem.run_bind, Sem.run_pure, Result.andThen_ok, List.map_toArray, List.map_cons, List.map_nil, hs, hx, hr]
 exact h v' w' h2 h3
end
open Go.RowKit Go.Sort
def avaCmp (a b : List UInt8 × List UInt8) : Int := orV (cmpB a.1 b.1) (cmpB a.2 b.2)
def encA (x : List UInt8 × List UInt8) : List Value := [.string ⟨x.1.toArray⟩, .string ⟨x.2.toArray⟩]
def sortA (p : List (List UInt8 × List UInt8)) : Array (List UInt8 × List UInt8) := Sort.insertionSort (ltOf avaCmp) p.toArray 0 p.length
end Go.Proofs.YtconnibnpckadaaGreatDoor
