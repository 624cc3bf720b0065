/- Plain laws: what stays of a state that is queued, completed, begun anew. -/
import Derived.Test.YthopimfpiimloaaQ
import Derived.Test.YthopimfpiimloaaN
namespace Go.Proofs.Ythopimfpiimloaa
open Go.RowKit
set_option linter.unusedSimpArgs false
theorem rises_three_iff (a b c : Int) : rises [a, b, c] = true ↔ (a ≤ b ∧ b ≤ c) := by rw [rises_three]; simp
theorem right_iff (d : Dql) : right d = true ↔ (1 ≤ d.Min ∧ d.Min ≤ d.Limit ∧ d.Limit ≤ d.Max ∧ d.Max ≤ 1073741824 ∧ d.Adj = (d.Limit + d.Completed) % 4294967296 ∧ flight d ≤ 2147483647) := by
  unfold right
  rw [rises_five]
  simp [and_assoc]
theorem flight_range (d : Dql) : 0 ≤ flight d ∧ flight d < 4294967296 := far_range _ _
theorem queue_ok {d d' : Dql} {n : Int} (h : queueS d n = (d', 0)) : right d = true ∧ 1 ≤ n ∧ n ≤ 65535 ∧ flight d + n ≤ 2147483647 ∧ d' = { d with Queued := (d.Queued + n) % 4294967296, Last := n } := by
  have hf := flight_range d
  unfold queueS at h
  by_cases h1 : right d = true
  · rw [if_pos h1] at h
    by_cases h2 : rises [1, n, 65535] = true
    · rw [if_pos h2] at h
      have h2' := (rises_three_iff _ _ _).1 h2
      by_cases h3 : (2147483647 - n) % 4294967296 < flight d
      · rw [if_pos h3] at h; simp at h
      · rw [if_neg h3] at h
        simp only [Prod.mk.injEq] at h
        exact ⟨h1, h2'.1, h2'.2, by omega, h.1.symm⟩
    · rw [if_neg h2] at h; simp at h
  · rw [if_neg h1] at h; simp at h
theorem queue_flight {d d' : Dql} {n : Int} (h : queueS d n = (d', 0)) : flight d' = flight d + n := by
  obtain ⟨_, h1, h2, h3, rfl⟩ := queue_ok h
  simp only [flight, far] at h3 ⊢
  omega
theorem queue_right {d d' : Dql} {n : Int} (h : queueS d n = (d', 0)) : right d' = true := by
  have hf := queue_flight h
  obtain ⟨h0, h1, h2, h3, e⟩ := queue_ok h
  rw [right_iff] at h0 ⊢
  rw [hf, e]
  exact ⟨h0.1, h0.2.1, h0.2.2.1, h0.2.2.2.1, h0.2.2.2.2.1, h3⟩
theorem left_pos {d : Dql} (h : right d = true) : 0 < left d ↔ flight d < d.Limit := by
  have hf := flight_range d
  obtain ⟨h1, h2, h3, h4, h5, h6⟩ := (right_iff d).1 h
  simp only [left, wrap32, far, flight] at hf h6 ⊢
  rw [h5]
  omega
theorem stepS_keeps (d : Dql) (c : Chg) : (stepS d c).Min = d.Min ∧ (stepS d c).Max = d.Max ∧ (stepS d c).Queued = d.Queued ∧ (stepS d c).Last = d.Last ∧ (stepS d c).Hold = d.Hold := by
  unfold stepS growsS shrinksS
  cases growsB d c
  · cases shrinksB d c
    · simp
    · cases lateB d c <;> simp
  · simp
theorem mn_mx (x a b : Int) (h : a ≤ b) : a ≤ mn (mx x a) b ∧ mn (mx x a) b ≤ b := by
  unfold mn mx
  repeat' split
  all_goals omega
theorem complete_ok' {d d' : Dql} {n now : Int} (h : completeS d n now = (d', 0)) : right d = true ∧ n ≤ flight d ∧ d' = closeS d (stepS d (chgOf d n now)) (chgOf d n now) := by
  unfold completeS at h
  by_cases h1 : right d = true
  · rw [if_pos h1] at h
    by_cases h2 : flight d < n
    · rw [if_pos h2] at h; simp at h
    · rw [if_neg h2] at h
      simp only [Prod.mk.injEq] at h
      exact ⟨h1, by omega, h.1.symm⟩
  · rw [if_neg h1] at h; simp at h
theorem complete_flight {d d' : Dql} {n now : Int} (hn : 0 ≤ n) (h : completeS d n now = (d', 0)) : flight d' = flight d - n := by
  obtain ⟨h0, h1, rfl⟩ := complete_ok' h
  have hk := stepS_keeps d (chgOf d n now)
  have hr := (right_iff d).1 h0
  have hd : (chgOf d n now).done = (d.Completed + n) % 4294967296 := rfl
  simp only [flight, closeS, far, hk.2.2.1, hd] at h1 hr ⊢
  omega
theorem complete_limits {d d' : Dql} {n now : Int} (h : completeS d n now = (d', 0)) : d'.Min = d.Min ∧ d'.Max = d.Max ∧ d.Min ≤ d'.Limit ∧ d'.Limit ≤ d.Max ∧ d'.Adj = (d'.Limit + d'.Completed) % 4294967296 := by
  obtain ⟨h0, h1, rfl⟩ := complete_ok' h
  have hk := stepS_keeps d (chgOf d n now)
  have hr := (right_iff d).1 h0
  have hm := mn_mx (stepS d (chgOf d n now)).Limit d.Min d.Max (by omega)
  simp only [closeS, hk.1, hk.2.1]
  exact ⟨trivial, trivial, hm.1, hm.2, trivial⟩
theorem complete_right {d d' : Dql} {n now : Int} (hn : 0 ≤ n) (h : completeS d n now = (d', 0)) : right d' = true := by
  have hf := complete_flight hn h
  obtain ⟨k1, k2, k3, k4, k5⟩ := complete_limits h
  obtain ⟨h0, h1, _⟩ := complete_ok' h
  have hr := (right_iff d).1 h0
  rw [right_iff, hf, k1, k2]
  exact ⟨hr.1, k3, k4, hr.2.2.2.1, k5, by omega⟩
theorem left_flight {d : Dql} (h : right d = true) : left d = wrap32 ((d.Limit - flight d) % 4294967296) := by
  obtain ⟨h1, h2, h3, h4, h5, h6⟩ := (right_iff d).1 h
  simp only [left, far, flight]
  rw [h5]
  have e : ((d.Limit + d.Completed) % 4294967296 - d.Queued) % 4294967296 = (d.Limit - (d.Queued - d.Completed) % 4294967296) % 4294967296 := by omega
  rw [e]
theorem flight_new (a b hold n : Int) : flight (newS a b hold n) = 0 := by simp [flight, far, newS]
theorem queue_errs (d : Dql) (n : Int) : (queueS d n).2 = 0 ∨ (queueS d n).2 = 2 ∨ (queueS d n).2 = 40 := by
  unfold queueS
  repeat' split
  all_goals simp
end Go.Proofs.Ythopimfpiimloaa
