/- The plain reckonings of the byte queue limits on numbers of 32 bits, without Go and memory. -/
import GoSem.Claim
import Derived.WalkKit
namespace Go.Proofs.Ythopimfpiimloaa
open Go.RowKit

/-- how far it is, in 32 bits -/
def far (a b : Int) : Int := (b - a) % 4294967296
def ahead (a b : Int) : Bool := decide (0 < wrap32 (far a b))
def over (a b : Int) : Int := if ahead b a = true then far b a else 0

/-- the greater and the smaller of two numbers -/
def mx (a b : Int) : Int := if a < b then b else a
def mn (a b : Int) : Int := if b < a then b else a
/-- A state, as thirteen numbers. -/
structure Dql where
  Queued : Int
  Adj : Int
  Last : Int
  Limit : Int
  Completed : Int
  PrevOver : Int
  PrevLast : Int
  PrevQueued : Int
  Slack : Int
  Start : Int
  Hold : Int
  Min : Int
  Max : Int
@[reducible] def Dql.cells (d : Dql) : Array Value := #[.int .u32 d.Queued, .int .u32 d.Adj, .int .u32 d.Last, .int .u32 d.Limit, .int .u32 d.Completed, .int .u32 d.PrevOver, .int .u32 d.PrevLast, .int .u32 d.PrevQueued, .int .u32 d.Slack, .int .u64 d.Start, .int .u64 d.Hold, .int .u32 d.Min, .int .u32 d.Max]
@[reducible] def Dql.val (d : Dql) : Value := .agg d.cells
def Dql.zero : Dql := ⟨0, 0, 0, 0, 0, 0, 0, 0, 0, 0, 0, 0, 0⟩
def flight (d : Dql) : Int := far d.Completed d.Queued
def left (d : Dql) : Int := wrap32 (far d.Queued d.Adj)
/-- Do numbers rise, or stay, from place i on? -/
def risesFrom (l : List Int) (i : Nat) : Bool := if i < l.length then (if l.getD (i - 1) 0 > l.getD i 0 then false else risesFrom l (i + 1)) else true
termination_by l.length - i
theorem risesFrom_stop {l : List Int} {k : Nat} {x y : Int} (h : k < l.length) (hx : l[k - 1]?.getD 0 = x) (hy : l[k]?.getD 0 = y) (hxy : y < x) : risesFrom l k = false := by
  unfold risesFrom
  simp only [List.getD_eq_getElem?_getD, hx, hy]
  rw [if_pos h, if_pos hxy]
theorem risesFrom_on {l : List Int} {k : Nat} {x y : Int} (h : k < l.length) (hx : l[k - 1]?.getD 0 = x) (hy : l[k]?.getD 0 = y) (hxy : ¬ y < x) : risesFrom l k = risesFrom l (k + 1) := by
  rw [risesFrom]
  simp only [List.getD_eq_getElem?_getD, hx, hy]
  rw [if_pos h, if_neg hxy]
theorem risesFrom_end {l : List Int} {k : Nat} (h : ¬ k < l.length) : risesFrom l k = true := by
  rw [risesFrom, if_neg h]
def rises (l : List Int) : Bool := risesFrom l 1
def right (d : Dql) : Bool := rises [1, d.Min, d.Limit, d.Max, 1073741824] && (d.Adj == (d.Limit + d.Completed) % 4294967296) && decide (flight d ≤ 2147483647)
def newS (least most hold now : Int) : Dql := ⟨0, least, 0, least, 0, 0, 0, 0, 4294967295, now, hold, least, most⟩
end Go.Proofs.Ythopimfpiimloaa
