/- The plain reckonings of the token buckets, without Go and memory. -/
import GoSem.Claim
import Derived.WalkKit
namespace Go.Proofs.Ytimogbalkhgplaa
open Go.RowKit

/-- the greater and the smaller of two numbers -/
def mx (a b : Int) : Int := if a < b then b else a
def mn (a b : Int) : Int := if b < a then b else a
/-- A bucket, as five numbers. -/
structure Bkt where
  Rate : Int
  Burst : Int
  Level : Int
  Rem : Int
  At : Int
@[reducible] def Bkt.cells (b : Bkt) : Array Value := #[.int .u64 b.Rate, .int .i64 b.Burst, .int .i64 b.Level, .int .u64 b.Rem, .int .u64 b.At]
@[reducible] def Bkt.val (b : Bkt) : Value := .agg b.cells
def Bkt.zero : Bkt := ⟨0, 0, 0, 0, 0⟩
/-- Do numbers rise, or stay, from place i on? -/
def risesFrom (l : List Int) (i : Nat) : Bool := if i < l.length then (if l.getD (i - 1) 0 > l.getD i 0 then false else risesFrom l (i + 1)) else true
termination_by l.length - i
theorem risesFrom_stop {l : List Int} {k : Nat} {x y : Int} (h : k < l.length) (hx : l[k - 1]?.getD 0 = x) (hy : l[k]?.getD 0 = y) (hxy : y < x) : risesFrom l k = false := by
  unfold risesFrom
  simp only [List.getD_eq_getElem?_getD, hx, hy]
  rw [if_pos h, if_pos hxy]
theorem risesFrom_on {l : List Int} {k : Nat} {x y : Int} (h : k < l.length) (hx : l[k - 1]?.getD 0 = x) (hy : l[k]?.getD 0 = y) (hxy : ¬ y < x) : risesFrom l k = risesFrom l (k + 1) := by
  rw [risesFrom]
  simp only [List.getD_eq_getElem?_getD, hx, hy]
  rw [if_pos h, if_neg hxy]
theorem risesFrom_end {l : List Int} {k : Nat} (h : ¬ k < l.length) : risesFrom l k = true := by
  rw [risesFrom, if_neg h]
def rises (l : List Int) : Bool := risesFrom l 1
theorem risesFrom_step (l : List Int) (k : Nat) : risesFrom l k = if k < l.length then (if l.getD (k - 1) 0 > l.getD k 0 then false else risesFrom l (k + 1)) else true := by rw [risesFrom]
theorem rises_three (a b c : Int) : rises [a, b, c] = (decide (a ≤ b) && decide (b ≤ c)) := by
  unfold rises
  rw [risesFrom_step, risesFrom_step, risesFrom_step]
  simp
  by_cases h1 : a ≤ b <;> by_cases h2 : b ≤ c <;> simp [*] <;> omega
theorem rises_three_iff (a b c : Int) : rises [a, b, c] = true ↔ (a ≤ b ∧ b ≤ c) := by rw [rises_three]; simp
def right (b : Bkt) : Bool := decide (b.Rate ≤ 1099511627776) && rises [1, b.Burst, 1073741824] && rises [-1073741824, b.Level, b.Burst] && decide (b.Rem < 1000000000) && decide (b.At ≤ 9223372036854775807)
theorem right_iff (b : Bkt) : right b = true ↔ (b.Rate ≤ 1099511627776 ∧ 1 ≤ b.Burst ∧ b.Burst ≤ 1073741824 ∧ -1073741824 ≤ b.Level ∧ b.Level ≤ b.Burst ∧ b.Rem < 1000000000 ∧ b.At ≤ 9223372036854775807) := by
  unfold right
  simp only [Bool.and_eq_true, decide_eq_true_eq, rises_three_iff]
  omega
/-- Each number fits its kind. -/
structure Bkt.Ok (b : Bkt) : Prop where
  hRate : 0 ≤ b.Rate ∧ b.Rate ≤ 18446744073709551615
  hBurst : -9223372036854775808 ≤ b.Burst ∧ b.Burst ≤ 9223372036854775807
  hLevel : -9223372036854775808 ≤ b.Level ∧ b.Level ≤ 9223372036854775807
  hRem : 0 ≤ b.Rem ∧ b.Rem ≤ 18446744073709551615
  hAt : 0 ≤ b.At ∧ b.At ≤ 18446744073709551615
/-- what comes in some time, in billionths of a byte -/
def got (b : Bkt) (ns : Int) : Int := b.Rate * ns + b.Rem
def gainedN (b : Bkt) (ns : Int) : Int := if 1000000000 ≤ got b ns / 18446744073709551616 then 1099511627776 else mn (got b ns / 1000000000) 1099511627776
def gainedR (b : Bkt) (ns : Int) : Int := if 1000000000 ≤ got b ns / 18446744073709551616 then 0 else got b ns % 1000000000
def newB (rate burst now : Int) : Bkt := ⟨rate, burst, burst, 0, now⟩
def newS (rate burst now : Int) : Bkt × Int := if right (newB rate burst now) = true then (newB rate burst now, 0) else (Bkt.zero, 2)
def fullS (b : Bkt) (now : Int) : Bool := (b.Rate == 0) || decide (b.Burst ≤ b.Level + gainedN b (now - b.At))
def fillS (b : Bkt) (now : Int) : Bkt × Int :=
  if right b = true then
    if now < b.At ∨ 9223372036854775807 < now then (Bkt.zero, 50)
    else if fullS b now = true then (⟨b.Rate, b.Burst, b.Burst, 0, now⟩, 0)
    else (⟨b.Rate, b.Burst, b.Level + gainedN b (now - b.At), gainedR b (now - b.At), now⟩, 0)
  else (Bkt.zero, 2)
def takeS (b : Bkt) (n : Int) : Bkt × Bool × Int :=
  if right b = true ∧ rises [1, n, 65535] = true then
    if b.Rate = 0 then (b, true, 0) else if b.Level ≤ 0 then (b, false, 0) else ({ b with Level := b.Level - n }, true, 0)
  else (Bkt.zero, false, 2)
/-- the least number of billionths of a second in which a rate gives so many billionths of a byte -/
def ceilD (need rate : Int) : Int := (need + rate - 1) / rate
def needS (b : Bkt) : Int := (1 - b.Level) * 1000000000 - b.Rem
def nextT (b : Bkt) : Int := if b.Rate = 0 ∨ 0 < b.Level then b.At else mn (b.At + ceilD (needS b) b.Rate) 9223372036854775807
def nextS (b : Bkt) : Int × Int := if right b = true then (nextT b, 0) else (0, 2)
def rateS (b : Bkt) (rate burst now : Int) : Bkt × Int :=
  if (fillS b now).2 = 0 then
    if (newS rate burst now).2 = 0 then ({ newB rate burst now with Level := mn (fillS b now).1.Level burst }, 0) else (Bkt.zero, 2)
  else (Bkt.zero, (fillS b now).2)
end Go.Proofs.Ytimogbalkhgplaa
