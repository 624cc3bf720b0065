/- Plain laws for DqlStarves: a queue that runs dry never shrinks. -/
import Derived.Test.YthopimfpiimloaaV
namespace Go.Proofs.Ythopimfpiimloaa
open Go.RowKit
set_option linter.unusedSimpArgs false
/-- What holds between two completions of all that was queued. -/
structure Dry (d : Dql) : Prop where
  r : right d = true
  q : 0 ≤ d.Queued ∧ d.Queued < 4294967296
  c : 0 ≤ d.Completed ∧ d.Completed < 4294967296
  p : d.PrevQueued = d.Completed
  o : 0 ≤ d.PrevOver ∧ d.PrevOver ≤ 65535
  f : flight d ≤ d.Limit + 65534
theorem dry_new {a b hold n : Int} (h : rises [1, a, b, 1073741824] = true) : Dry (newS a b hold n) := by
  have hr := right_new (hold := hold) (n := n) h
  have h1 := (right_iff _).1 hr
  exact ⟨hr, by simp [newS], by simp [newS], by simp [newS], by simp [newS], by rw [flight_new]; omega⟩
theorem queue_yes {d : Dql} {n : Int} (h : right d = true) (h1 : 1 ≤ n) (h2 : n ≤ 65535) (h3 : flight d + n ≤ 2147483647) : queueS d n = ({ d with Queued := (d.Queued + n) % 4294967296, Last := n }, 0) := by
  have hf := flight_range d
  unfold queueS
  rw [if_pos h, if_pos ((rises_three_iff _ _ _).2 ⟨h1, h2⟩), if_neg (by omega)]
theorem dry_queue {d : Dql} {n : Int} (h : Dry d) (h1 : 1 ≤ n) (h2 : n ≤ 65535) (hl : 0 < left d) : ∃ q, queueS d n = (q, 0) ∧ Dry q := by
  have hr := (right_iff d).1 h.r
  have hlt := (left_pos h.r).1 hl
  have e := queue_yes h.r h1 h2 (by omega)
  refine ⟨_, e, queue_right e, ?_, h.c, h.p, h.o, ?_⟩
  · simp only; omega
  · rw [queue_flight e]; simp only; omega
theorem dry_complete {d : Dql} (now : Int) (h : Dry d) (hl : ¬ 0 < left d) : ∃ q, completeS d (flight d) now = (q, 0) ∧ Dry q ∧ d.Limit ≤ q.Limit := by
  have hr := (right_iff d).1 h.r
  have hge : d.Limit ≤ flight d := by have := left_pos h.r; omega
  have hf := flight_range d
  have hq := h.q
  have hc := h.c
  have ho := h.o
  have hff := h.f
  have hdone : (d.Completed + flight d) % 4294967296 = d.Queued := by simp only [flight, far]; omega
  have e : completeS d (flight d) now = (closeS d (stepS d (chgOf d (flight d) now)) (chgOf d (flight d) now), 0) := by
    unfold completeS
    rw [if_pos h.r, if_neg (by omega)]
  have hall : ahead d.Queued d.PrevQueued = false := by
    simp only [ahead, far, wrap32, h.p, decide_eq_false_iff_not]
    simp only [flight, far] at hge hr hff
    omega
  have hov : over d.Queued d.PrevQueued = flight d := by
    have : ahead d.PrevQueued d.Queued = true := by
      simp only [ahead, far, wrap32, h.p, decide_eq_true_eq]
      simp only [flight, far] at hge hr hff
      omega
    simp only [over, this, if_true]
    rw [h.p, flight]
  have hov2 : 0 ≤ over (flight d) d.Limit ∧ over (flight d) d.Limit ≤ 65535 := by
    unfold over
    split
    · simp only [far]; omega
    · omega
  have hsh : shrinksB d (chgOf d (flight d) now) = false := by simp [shrinksB, chgOf, hdone]
  have hlim : d.Limit ≤ (stepS d (chgOf d (flight d) now)).Limit := by
    unfold stepS
    rw [hsh]
    split
    · simp only [growsS, chgOf, hdone, hov]; omega
    · simp
  have hk := stepS_keeps d (chgOf d (flight d) now)
  refine ⟨_, e, ⟨complete_right hf.1 e, ?_, ?_, ?_, ?_, ?_⟩, ?_⟩
  · simp only [closeS, hk.2.2.1]; exact hq
  · simp only [closeS, chgOf]; omega
  · have e2 : (chgOf d (flight d) now).done = d.Queued := hdone
    simp only [closeS, hk.2.2.1, e2]
  · have e2 : (chgOf d (flight d) now).over = over (flight d) d.Limit := rfl
    simp only [closeS, e2]
    generalize mn (mx (stepS d (chgOf d (flight d) now)).Limit (stepS d (chgOf d (flight d) now)).Min) (stepS d (chgOf d (flight d) now)).Max = x
    by_cases hx : x = d.Limit
    · rw [if_pos hx]; exact hov2
    · rw [if_neg hx]; omega
  · rw [complete_flight hf.1 e]
    have := complete_limits e
    omega
  · simp only [closeS, hk.1, hk.2.1]
    unfold mn mx
    repeat' split
    all_goals omega
end Go.Proofs.Ythopimfpiimloaa
