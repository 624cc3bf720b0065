/- Contract: Complete, whole. -/
import Derived.Test.YthopimfpiimloaaK
namespace Go.Proofs.Ythopimfpiimloaa
open Go.RowKit Go.Shelf
set_option linter.unusedSimpArgs false
set_option maxHeartbeats 400000
attribute [local go_sem] alloc_drewN setCell_drewN max2_mx min2_mn max_two min_two
theorem complete_e1 (d : Dql) (n now : Int) (w : World) (h1 : right d = false) : Calls Try.prog 22 #[d.val, .int .u32 n, .int .u64 now] w fun e w' => e = .returned (pairV Dql.zero 2) ∧ Grew w w' := by
  go_enter Try.func22, Try.ntmps22
  go_wp2
  go_step3
  go_wp2_with (go_at_call 14; (with_reducible refine (right_c d _).mono ?_); rintro e w1 ⟨rfl, hb1⟩; obtain ⟨hc1, hf1, hz1, hy1⟩ := kept2 (w := w) hb1 (by simp))
  rw [Exit.noGoto_ret]
  refine bodyPost_ret (v := pairV Dql.zero 2) (by simp [results, Try.results22, go_sem, Dql.zero, *]) rfl ⟨rfl, ?_⟩
  repeat (with_reducible first | exact Grew.refl _ | refine Grew.drewN ?_ _ | refine Grew.alloc ?_ _ | refine Grew.set ?_ _ (by simp) _ | refine Grew.trans ?_ hb1)
theorem complete_e2 (d : Dql) (n now : Int) (w : World) (h1 : right d = true) (h2 : decide (flight d < n) = true) : Calls Try.prog 22 #[d.val, .int .u32 n, .int .u64 now] w fun e w' => e = .returned (pairV Dql.zero 40) ∧ Grew w w' := by
  go_enter Try.func22, Try.ntmps22
  go_wp2
  go_step3
  go_wp2_with (first | (go_at_call 14; (with_reducible refine (right_c d _).mono ?_); rintro e w1 ⟨rfl, hb1⟩; obtain ⟨hc1, hf1, hz1, hy1⟩ := kept2 (w := w) hb1 (by simp)) | (go_at_call 18; (with_reducible refine (flight_c d _).mono ?_); rintro e w2 ⟨rfl, hb2⟩; obtain ⟨hc2, hf2, hz2, hy2⟩ := kept2 (w := w) hb2 (by omega)))
  rw [Exit.noGoto_ret]
  refine bodyPost_ret (v := pairV Dql.zero 40) (by simp [results, Try.results22, go_sem, Dql.zero, *]) rfl ⟨rfl, ?_⟩
  repeat (with_reducible first | exact Grew.refl _ | refine Grew.drewN ?_ _ | refine Grew.alloc ?_ _ | refine Grew.set ?_ _ (by simp) _ | refine Grew.trans ?_ hb2 | refine Grew.trans ?_ hb1)
theorem complete_c (d : Dql) (n now : Int) (w : World) : Calls Try.prog 22 #[d.val, .int .u32 n, .int .u64 now] w fun e w' => e = .returned (pairV (completeS d n now).1 (completeS d n now).2) ∧ Grew w w' := by
  cases h1 : right d
  · rw [show completeS d n now = (Dql.zero, 2) by simp [completeS, h1]]
    exact complete_e1 d n now w h1
  · cases h2 : decide (flight d < n)
    · exact complete_ok d n now w h1 h2
    · rw [show completeS d n now = (Dql.zero, 40) by simp only [completeS, h1, if_true]; rw [if_pos (of_decide_eq_true h2)]]
      exact complete_e2 d n now w h1 h2
end Go.Proofs.Ythopimfpiimloaa
