/- Plain laws: until when a bucket is dry. -/
import Derived.Test.YtimogbalkhgplaaH
namespace Go.Proofs.Ytimogbalkhgplaa
open Go.RowKit
set_option linter.unusedSimpArgs false
theorem ceil_iff (need rate ns : Int) (h : 0 < rate) : rate * ns < need ↔ ns < ceilD need rate := by
  unfold ceilD
  rw [Int.lt_iff_add_one_le (a := ns), Int.le_ediv_iff_mul_le h, Int.add_mul, Int.mul_comm rate ns]
  omega
theorem dry_iff (d : Bkt) (hr : right d = true) (h0 : 0 < d.Rate) (hl : d.Level ≤ 0) (x : Int) (h1 : d.At ≤ x) : dry d x = true ↔ x < d.At + ceilD (needS d) d.Rate := by
  have hr := (right_iff d).1 hr
  have hc := ceil_iff (needS d) d.Rate (x - d.At) h0
  have hP : 0 ≤ d.Rate * (x - d.At) := Int.mul_nonneg (by omega) (by omega)
  have e1 : x < d.At + ceilD (needS d) d.Rate ↔ x - d.At < ceilD (needS d) d.Rate := by omega
  rw [e1, ← hc]
  unfold dry gainedN got needS mn
  obtain ⟨P, hp⟩ : ∃ P, d.Rate * (x - d.At) = P := ⟨_, rfl⟩
  rw [hp] at hP ⊢
  rw [decide_eq_true_eq]
  split
  · omega
  · split <;> omega
theorem ceil_pos (need rate : Int) (h : 0 < rate) (hn : 0 < need) : 1 ≤ ceilD need rate := by
  have := (ceil_iff need rate 0 h).1 (by simpa using hn)
  omega
theorem nextT_wet (d : Bkt) (h : d.Rate = 0 ∨ 0 < d.Level) : nextT d = d.At := by unfold nextT; rw [if_pos h]
theorem nextT_dry (d : Bkt) (h0 : ¬ d.Rate = 0) (hl : ¬ 0 < d.Level) : nextT d = mn (d.At + ceilD (needS d) d.Rate) 9223372036854775807 := by unfold nextT; rw [if_neg (by omega)]
theorem nextT_range (d : Bkt) (hd : d.Ok) (hr : right d = true) (h0 : ¬ d.Rate = 0) (hl : ¬ 0 < d.Level) : d.At ≤ nextT d ∧ nextT d ≤ 9223372036854775807 := by
  have hr' := (right_iff d).1 hr
  have hR := hd.hRate
  have hM := hd.hRem
  have hp := ceil_pos (needS d) d.Rate (by omega) (by unfold needS; omega)
  rw [nextT_dry d h0 hl]
  unfold mn
  split <;> omega
theorem nextT_iff (d : Bkt) (hd : d.Ok) (hr : right d = true) (h0 : ¬ d.Rate = 0) (hl : ¬ 0 < d.Level) (x : Int) (h1 : d.At ≤ x) (h2 : x < 9223372036854775807) : dry d x = true ↔ x < nextT d := by
  have hR := hd.hRate
  have hM := hd.hRem
  rw [dry_iff d hr (by omega) (by omega) x h1, nextT_dry d h0 hl]
  unfold mn
  split <;> omega
end Go.Proofs.Ytimogbalkhgplaa
