/- Plain laws of a completion: a shift of the counts; what stays. -/
import Derived.Test.YthopimfpiimloaaL
import Derived.Test.YthopimfpiimloaaP
import Derived.Test.YthopimfpiimloaaD
namespace Go.Proofs.Ythopimfpiimloaa
open Go.RowKit
set_option linter.unusedSimpArgs false
@[reducible] def shiftD (d : Dql) (by' : Int) : Dql := { d with Queued := (d.Queued + by') % 4294967296, Completed := (d.Completed + by') % 4294967296, PrevQueued := (d.PrevQueued + by') % 4294967296, Adj := (d.Adj + by') % 4294967296 }
def shiftC (c : Chg) (by' : Int) : Chg := { c with done := (c.done + by') % 4294967296 }
theorem far_shift (a b y : Int) : far ((a + y) % 4294967296) ((b + y) % 4294967296) = far a b := by unfold far; omega
theorem ahead_shift (a b y : Int) : ahead ((a + y) % 4294967296) ((b + y) % 4294967296) = ahead a b := by unfold ahead; rw [far_shift]
theorem over_shift (a b y : Int) : over ((a + y) % 4294967296) ((b + y) % 4294967296) = over a b := by unfold over; rw [ahead_shift, far_shift]
theorem eq_shift {a b : Int} (y : Int) (ha : 0 ≤ a ∧ a < 4294967296) (hb : 0 ≤ b ∧ b < 4294967296) : ((a + y) % 4294967296 == (b + y) % 4294967296) = (a == b) := by
  rw [Bool.eq_iff_iff]; simp only [beq_iff_eq]; omega
theorem chg_shift (d : Dql) (n now y : Int) : chgOf (shiftD d y) n now = shiftC (chgOf d n now) y := by
  have e : ((d.Completed + y) % 4294967296 + n) % 4294967296 = ((d.Completed + n) % 4294967296 + y) % 4294967296 := by omega
  simp only [chgOf, shiftC, flight, far_shift, e, ahead_shift]
theorem right_shift (d : Dql) (y : Int) (h : d.Ok) : right (shiftD d y) = right d := by
  have ha := h.hAdj
  have e : ((d.Adj + y) % 4294967296 == (d.Limit + (d.Completed + y) % 4294967296) % 4294967296) = (d.Adj == (d.Limit + d.Completed) % 4294967296) := by
    rw [Bool.eq_iff_iff]; simp only [beq_iff_eq]; omega
  simp only [right, flight, far_shift, e]
  rfl
theorem growsB_shift (d : Dql) (c : Chg) (y : Int) (h : d.Ok) (hc : 0 ≤ c.done ∧ c.done < 4294967296) : growsB (shiftD d y) (shiftC c y) = growsB d c := by
  have hq := h.hQueued
  simp only [growsB, shiftC]
  rw [eq_shift y hc (by omega)]
  rfl
theorem shrinksB_shift (d : Dql) (c : Chg) (y : Int) (h : d.Ok) (hc : 0 ≤ c.done ∧ c.done < 4294967296) : shrinksB (shiftD d y) (shiftC c y) = shrinksB d c := by
  have hq := h.hQueued
  have hp := h.hPrevQueued
  have hd := h.hCompleted
  simp only [shrinksB, shiftC]
  rw [eq_shift y hc (by omega), eq_shift y (by omega) (by omega)]
theorem growsS_shift (d : Dql) (c : Chg) (y : Int) : growsS (shiftD d y) (shiftC c y) = shiftD (growsS d c) y := by
  simp only [growsS, shiftC, over_shift]
theorem shrinksS_shift (d : Dql) (c : Chg) (y : Int) : shrinksS (shiftD d y) (shiftC c y) = shiftD (shrinksS d c) y := by
  have e : lateB (shiftD d y) (shiftC c y) = lateB d c := rfl
  have f : slack3 (shiftD d y) (shiftC c y) = slack3 d c := rfl
  simp only [shrinksS, e, f]
  cases lateB d c <;> rfl
theorem stepS_shift (d : Dql) (c : Chg) (y : Int) (h : d.Ok) (hc : 0 ≤ c.done ∧ c.done < 4294967296) : stepS (shiftD d y) (shiftC c y) = shiftD (stepS d c) y := by
  simp only [stepS, growsB_shift d c y h hc, shrinksB_shift d c y h hc, growsS_shift, shrinksS_shift]
  cases growsB d c <;> cases shrinksB d c <;> rfl
theorem closeS_shift (d d1 : Dql) (c : Chg) (y : Int) : closeS (shiftD d y) (shiftD d1 y) (shiftC c y) = shiftD (closeS d d1 c) y := by
  have e : (mn (mx d1.Limit d1.Min) d1.Max + (c.done + y) % 4294967296) % 4294967296 = ((mn (mx d1.Limit d1.Min) d1.Max + c.done) % 4294967296 + y) % 4294967296 := by omega
  simp only [closeS, shiftC, e]
theorem done_range (d : Dql) (n now : Int) : 0 ≤ (chgOf d n now).done ∧ (chgOf d n now).done < 4294967296 := by simp only [chgOf]; omega
theorem complete_shift (d : Dql) (n now y : Int) (h : d.Ok) : completeS (shiftD d y) n now = if (completeS d n now).2 = 0 then (shiftD (completeS d n now).1 y, 0) else completeS d n now := by
  have e : flight (shiftD d y) = flight d := by simp only [flight, far_shift]
  simp only [completeS, right_shift d y h, e, chg_shift, stepS_shift d _ y h (done_range d n now), closeS_shift]
  by_cases h1 : right d = true
  · by_cases h2 : flight d < n
    · simp [h1, h2]
    · simp [h1, h2]
  · simp [h1]
theorem left_shift (d : Dql) (y : Int) : left (shiftD d y) = left d := by simp only [left, far_shift]
theorem complete_errs (d : Dql) (n now : Int) : (completeS d n now).2 = 0 ∨ (completeS d n now).2 = 2 ∨ (completeS d n now).2 = 40 := by
  simp only [completeS]
  split
  · split <;> simp
  · simp
end Go.Proofs.Ythopimfpiimloaa
