/- Contract: New. -/
import Derived.Test.YthopimfpiimloaaC
namespace Go.Proofs.Ythopimfpiimloaa
open Go.RowKit
set_option linter.unusedSimpArgs false
set_option maxHeartbeats 400000
attribute [local go_sem] alloc_drewN setCell_drewN
theorem new_c (a b hold n : Int) (w : World) : Calls Try.prog 12 #[.int .u32 a, .int .u32 b, .int .u64 hold, .int .u64 n] w fun e w' => e = .returned (pairV (if rises [1, a, b, 1073741824] = true then newS a b hold n else Dql.zero) (if rises [1, a, b, 1073741824] = true then 0 else 2)) ∧ Grew w w' := by
  cases h1 : rises [1, a, b, 1073741824]
  · go_enter Try.func12, Try.ntmps12
    go_wp2_with (first | (go_at_call 26; (with_reducible refine (between4_c _ _ _ _ _ _ ?hn).mono ?_); (case hn => simp); rintro e w' ⟨rfl, m, rfl⟩) | (go_at_call 26; (with_reducible refine (between4_d _ _ _ _ _ _ _ ?hn).mono ?_); (case hn => simp); rintro e w' ⟨rfl, m, rfl⟩))
    refine bodyPost_ret (v := pairV Dql.zero 2) (by simp [results, Try.results12, go_sem, Dql.zero]) rfl ⟨rfl, by repeat (with_reducible first | exact Grew.refl _ | refine Grew.drewN ?_ _ | refine Grew.alloc ?_ _ | refine Grew.set ?_ _ (by simp) _)⟩
  · go_enter Try.func12, Try.ntmps12
    go_wp2_with (first | (go_at_call 26; (with_reducible refine (between4_c _ _ _ _ _ _ ?hn).mono ?_); (case hn => simp); rintro e w' ⟨rfl, m, rfl⟩) | (go_at_call 26; (with_reducible refine (between4_d _ _ _ _ _ _ _ ?hn).mono ?_); (case hn => simp); rintro e w' ⟨rfl, m, rfl⟩))
    refine bodyPost_ret (v := pairV (newS a b hold n) 0) (by simp [results, Try.results12, go_sem, newS]) rfl ⟨rfl, by repeat (with_reducible first | exact Grew.refl _ | refine Grew.drewN ?_ _ | refine Grew.alloc ?_ _ | refine Grew.set ?_ _ (by simp) _)⟩
end Go.Proofs.Ythopimfpiimloaa
