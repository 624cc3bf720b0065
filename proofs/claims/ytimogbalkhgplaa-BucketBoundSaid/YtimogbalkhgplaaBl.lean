/- Contracts: math/bits at this program: LeadingZeros64 and Div64 by a second. -/
import Derived.Test.YtimogbalkhgplaaBi
namespace Go.Proofs.Ytimogbalkhgplaa
open Go.RowKit
set_option linter.unusedSimpArgs false
set_option maxHeartbeats 4000000
set_option maxRecDepth 100000
theorem len_second (w : World) : Calls Try.prog 33 #[.int .u64 1000000000] w fun e w' => e = .returned (.int .i64 30) ∧ w = w' := by
  go_enter Try.func33, Try.ntmps33
  go_wp2
  go_ret
  exact ⟨by kernel_rfl, rfl⟩
theorem lz_second (w : World) : Calls Try.prog 32 #[.int .u64 1000000000] w fun e w' => e = .returned (.int .i64 34) ∧ w = w' := by
  go_enter Try.func32, Try.ntmps32
  go_wp2_with (go_at_call 33; refine (len_second _).mono ?_; rintro e w' ⟨rfl, rfl⟩)
  go_ret
  exact ⟨rfl, rfl⟩
end Go.Proofs.Ytimogbalkhgplaa
