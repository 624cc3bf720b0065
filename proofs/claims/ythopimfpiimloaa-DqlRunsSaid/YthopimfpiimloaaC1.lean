/- Contract: Queue. -/
import Derived.Test.YthopimfpiimloaaC
namespace Go.Proofs.Ythopimfpiimloaa
open Go.RowKit
set_option linter.unusedSimpArgs false
set_option maxHeartbeats 400000
attribute [local go_sem] alloc_drewN setCell_drewN
theorem queue_c (d : Dql) (n : Int) (w : World) : Calls Try.prog 20 #[d.val, .int .u32 n] w fun e w' => e = .returned (pairV (queueS d n).1 (queueS d n).2) ∧ Grew w w' := by
  cases h1 : right d
  · have HR : Hid (queueS d n = (Dql.zero, 2)) := by unfold queueS; rw [h1]; rfl
    go_enter Try.func20, Try.ntmps20
    go_wp2_with ((go_at_call 14; (with_reducible refine (right_c d _).mono ?_); rintro e w1 ⟨rfl, hb1⟩; obtain ⟨hc1, hf1, hz1, hy1⟩ := kept2 (w := w) hb1 (by simp)))
    refine bodyPost_ret (v := pairV Dql.zero 2) (by simp [results, Try.results20, go_sem, Dql.zero, *]) rfl ⟨by rw [HR.out], by repeat (with_reducible first | exact Grew.refl _ | refine Grew.drewN ?_ _ | refine Grew.alloc ?_ _ | refine Grew.set ?_ _ (by simp) _ | refine Grew.trans ?_ hb1)⟩
  cases h2 : rises [1, n, 65535]
  · have HR : Hid (queueS d n = (Dql.zero, 40)) := by unfold queueS; rw [h1, h2]; rfl
    go_enter Try.func20, Try.ntmps20
    go_wp2_with (first | (go_at_call 14; (with_reducible refine (right_c d _).mono ?_); rintro e w1 ⟨rfl, hb1⟩; obtain ⟨hc1, hf1, hz1, hy1⟩ := kept2 (w := w) hb1 (by simp)) | (go_at_call 26; (with_reducible refine (between3_c _ _ _ _ _ ?hn).mono ?_); (case hn => simp); rintro e w' ⟨rfl, m, rfl⟩) | (go_at_call 26; (with_reducible refine (between3_d _ _ _ _ _ _ ?hn).mono ?_); (case hn => simp); rintro e w' ⟨rfl, m, rfl⟩))
    refine bodyPost_ret (v := pairV Dql.zero 40) (by simp [results, Try.results20, go_sem, Dql.zero, *]) rfl ⟨by rw [HR.out], by repeat (with_reducible first | exact Grew.refl _ | refine Grew.drewN ?_ _ | refine Grew.alloc ?_ _ | refine Grew.set ?_ _ (by simp) _ | refine Grew.trans ?_ hb1)⟩
  by_cases h3 : (2147483647 - n) % 4294967296 < flight d
  · have HR : Hid (queueS d n = (Dql.zero, 40)) := by unfold queueS; rw [h1, h2, if_pos h3]; rfl
    go_enter Try.func20, Try.ntmps20
    go_wp2_with (first | (go_at_call 14; (with_reducible refine (right_c d _).mono ?_); rintro e w1 ⟨rfl, hb1⟩; obtain ⟨hc1, hf1, hz1, hy1⟩ := kept2 (w := w) hb1 (by simp)) | (go_at_call 26; (with_reducible refine (between3_c _ _ _ _ _ ?hn).mono ?_); (case hn => simp); rintro e w' ⟨rfl, m, rfl⟩) | (go_at_call 26; (with_reducible refine (between3_d _ _ _ _ _ _ ?hn).mono ?_); (case hn => simp); rintro e w' ⟨rfl, m, rfl⟩) | (go_at_call 18; (with_reducible refine (flight_c d _).mono ?_); rintro e w2 ⟨rfl, hb2⟩; obtain ⟨hc2, hf2, hz2, hy2⟩ := kept2 (w := w) hb2 (by simp; omega)))
    refine bodyPost_ret (v := pairV Dql.zero 40) (by simp [results, Try.results20, go_sem, Dql.zero, *]) rfl ⟨by rw [HR.out], by repeat (with_reducible first | exact Grew.refl _ | refine Grew.drewN ?_ _ | refine Grew.alloc ?_ _ | refine Grew.set ?_ _ (by simp) _ | refine Grew.trans ?_ hb2 | refine Grew.trans ?_ hb1)⟩
  · have HR : Hid (queueS d n = ({ d with Queued := (d.Queued + n) % 4294967296, Last := n }, 0)) := by unfold queueS; rw [h1, h2, if_neg h3]; rfl
    go_enter Try.func20, Try.ntmps20
    go_wp2_with (first | (go_at_call 14; (with_reducible refine (right_c d _).mono ?_); rintro e w1 ⟨rfl, hb1⟩; obtain ⟨hc1, hf1, hz1, hy1⟩ := kept2 (w := w) hb1 (by simp)) | (go_at_call 26; (with_reducible refine (between3_c _ _ _ _ _ ?hn).mono ?_); (case hn => simp); rintro e w' ⟨rfl, m, rfl⟩) | (go_at_call 26; (with_reducible refine (between3_d _ _ _ _ _ _ ?hn).mono ?_); (case hn => simp); rintro e w' ⟨rfl, m, rfl⟩) | (go_at_call 18; (with_reducible refine (flight_c d _).mono ?_); rintro e w2 ⟨rfl, hb2⟩; obtain ⟨hc2, hf2, hz2, hy2⟩ := kept2 (w := w) hb2 (by simp; omega)))
    refine bodyPost_ret (v := pairV { d with Queued := (d.Queued + n) % 4294967296, Last := n } 0) (by simp [results, Try.results20, go_sem, *]) rfl ⟨by rw [HR.out], by repeat (with_reducible first | exact Grew.refl _ | refine Grew.drewN ?_ _ | refine Grew.alloc ?_ _ | refine Grew.set ?_ _ (by simp) _ | refine Grew.trans ?_ hb2 | refine Grew.trans ?_ hb1)⟩
end Go.Proofs.Ythopimfpiimloaa
