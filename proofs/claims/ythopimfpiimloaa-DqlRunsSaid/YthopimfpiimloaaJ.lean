/- Plain laws: each number of a state that is queued or completed fits its kind. -/
import Derived.Test.YthopimfpiimloaaV
namespace Go.Proofs.Ythopimfpiimloaa
open Go.RowKit
set_option linter.unusedSimpArgs false
theorem over_range (a b : Int) : 0 ≤ over a b ∧ over a b ≤ 4294967295 := by
  unfold over far
  split <;> omega
theorem mx_range {a b : Int} (ha : 0 ≤ a ∧ a ≤ 4294967295) (hb : 0 ≤ b ∧ b ≤ 4294967295) : 0 ≤ mx a b ∧ mx a b ≤ 4294967295 := by
  unfold mx
  split <;> omega
theorem mn_range {a b : Int} (ha : 0 ≤ a ∧ a ≤ 4294967295) (hb : 0 ≤ b ∧ b ≤ 4294967295) : 0 ≤ mn a b ∧ mn a b ≤ 4294967295 := by
  unfold mn
  split <;> omega
theorem ok_queue {d q : Dql} {n : Int} (hd : d.Ok) (hn : 0 ≤ n ∧ n ≤ 4294967295) (h : queueS d n = (q, 0)) : q.Ok := by
  obtain ⟨_, _, _, _, rfl⟩ := queue_ok h
  exact { hd with hQueued := by simp only; omega, hLast := hn }
theorem ok_step {d : Dql} (c : Chg) (hd : d.Ok) (hc : 0 ≤ c.now ∧ c.now ≤ 18446744073709551615) : (stepS d c).Ok := by
  unfold stepS
  split
  · exact { hd with hLimit := by simp only [growsS]; omega, hStart := hc, hSlack := by simp [growsS] }
  · split
    · have h1 : 0 ≤ slack1 d c ∧ slack1 d c ≤ 4294967295 := over_range _ _
      have h2 : 0 ≤ slack2 d c ∧ slack2 d c ≤ 4294967295 := by
        unfold slack2
        split
        · exact mx_range h1 (over_range _ _)
        · exact h1
      have h3 : 0 ≤ slack3 d c ∧ slack3 d c ≤ 4294967295 := mn_range hd.hSlack h2
      unfold shrinksS
      split
      · exact { hd with hLimit := over_range _ _, hStart := hc, hSlack := by simp }
      · exact { hd with hSlack := h3 }
    · exact hd
theorem ok_complete {d q : Dql} {n now : Int} (hd : d.Ok) (hn : 0 ≤ now ∧ now ≤ 18446744073709551615) (h : completeS d n now = (q, 0)) : q.Ok := by
  obtain ⟨_, _, rfl⟩ := complete_ok' h
  have hs := ok_step (chgOf d n now) hd hn
  have ho : 0 ≤ (chgOf d n now).over ∧ (chgOf d n now).over ≤ 4294967295 := over_range _ _
  have hdn := done_range d n now
  generalize stepS d (chgOf d n now) = s at hs ⊢
  refine ⟨hs.hQueued, ?_, hs.hLast, mn_range (mx_range hs.hLimit hs.hMin) hs.hMax, ?_, ?_, hs.hLast, hs.hQueued, hs.hSlack, hs.hStart, hs.hHold, hs.hMin, hs.hMax⟩
  · simp only [closeS]; omega
  · simp only [closeS]; omega
  · simp only [closeS]
    split <;> omega
theorem ok_new {a b hold n : Int} (ha : 0 ≤ a ∧ a ≤ 4294967295) (hb : 0 ≤ b ∧ b ≤ 4294967295) (hh : 0 ≤ hold ∧ hold ≤ 18446744073709551615) (hn : 0 ≤ n ∧ n ≤ 18446744073709551615) : (newS a b hold n).Ok := by
  refine ⟨?_, ha, ?_, ha, ?_, ?_, ?_, ?_, ?_, hn, hh, ha, hb⟩ <;> simp [newS]
end Go.Proofs.Ythopimfpiimloaa
