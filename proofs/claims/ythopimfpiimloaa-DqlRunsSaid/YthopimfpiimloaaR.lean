/- Contracts of the references: Far, Ahead, Over, Flight, Right, Left. -/
import Derived.Test.YthopimfpiimloaaC
namespace Go.Proofs.Ythopimfpiimloaa
open Go.RowKit
set_option linter.unusedSimpArgs false
set_option maxHeartbeats 400000
attribute [local go_sem] alloc_drewN setCell_drewN max2_mx min2_mn max_two min_two
def raheadB (a b : Int) : Bool := decide (1 ≤ far a b) && decide (far a b ≤ 2147483647)
def roverF (a b : Int) : Int := if raheadB b a = true then far b a else 0
theorem rahead_c (a b : Int) (w : World) : Calls Try.prog 34 #[.int .u32 a, .int .u32 b] w fun e w' => e = .returned (.bool (raheadB a b)) ∧ w = w' := by
  have HR : Hid (raheadB a b = (decide (1 ≤ far a b) && decide (far a b ≤ 2147483647))) := rfl
  cases h1 : decide (1 ≤ far a b)
  all_goals
    go_enter Try.func34, Try.ntmps34
    go_wp2_with (go_at_call 28; refine (rfar_c _ _ _).mono ?_; rintro e w' ⟨rfl, rfl⟩)
    go_ret
    exact ⟨ret_bool (by rw [HR.out, h1]; rfl), rfl⟩
theorem rover_c (a b : Int) (w : World) : Calls Try.prog 33 #[.int .u32 a, .int .u32 b] w fun e w' => e = .returned (.int .u32 (roverF a b)) ∧ w = w' := by
  cases h : raheadB b a
  all_goals
    go_enter Try.func33, Try.ntmps33
    go_wp2_with (first | (go_at_call 34; refine (rahead_c _ _ _).mono ?_; rintro e w' ⟨rfl, rfl⟩) | (go_at_call 28; refine (rfar_c _ _ _).mono ?_; rintro e w' ⟨rfl, rfl⟩))
    go_ret
    exact ⟨ret_int (by simp [roverF, h]), rfl⟩
theorem rflight_c (d : Dql) (w : World) : Calls Try.prog 19 #[d.val] w fun e w' => e = .returned (.int .u32 (flight d)) ∧ Grew w w' := by
  go_enter Try.func19, Try.ntmps19
  go_wp2_with (go_at_call 28; refine (rfar_c _ _ _).mono ?_; rintro e w' ⟨rfl, rfl⟩)
  go_ret
  exact ⟨rfl, (Grew.refl _).alloc _⟩
theorem rleft_c (d : Dql) (w : World) : Calls Try.prog 17 #[d.val] w fun e w' => e = .returned (.int .i32 (left d)) ∧ Grew w w' := by
  go_enter Try.func17, Try.ntmps17
  go_wp2
  go_ret
  exact ⟨rfl, (Grew.refl _).alloc _⟩
def rrightB (d : Dql) : Bool := decide (1 ≤ d.Min) && decide (d.Min ≤ d.Limit) && decide (d.Limit ≤ d.Max) && decide (d.Max ≤ 1073741824) && (d.Adj == (d.Limit + d.Completed) % 4294967296) && decide (flight d ≤ 2147483647)
theorem rright_c (d : Dql) (w : World) : Calls Try.prog 16 #[d.val] w fun e w' => e = .returned (.bool (rrightB d)) ∧ Grew w w' := by
  have HR : Hid (rrightB d = _) := rfl
  unfold rrightB at HR
  cases h1 : decide (1 ≤ d.Min)
  · go_enter Try.func16, Try.ntmps16
    go_wp2
    go_ret
    exact ⟨ret_bool (by simp [rrightB, h1]), (Grew.refl _).alloc _⟩
  cases h2 : decide (d.Min ≤ d.Limit)
  · go_enter Try.func16, Try.ntmps16
    go_wp2
    go_ret
    exact ⟨ret_bool (by simp [rrightB, h2]), (Grew.refl _).alloc _⟩
  cases h3 : decide (d.Limit ≤ d.Max)
  · go_enter Try.func16, Try.ntmps16
    go_wp2
    go_ret
    exact ⟨ret_bool (by simp [rrightB, h3]), (Grew.refl _).alloc _⟩
  cases h4 : decide (d.Max ≤ 1073741824)
  · go_enter Try.func16, Try.ntmps16
    go_wp2
    go_ret
    exact ⟨ret_bool (by simp [rrightB, h4]), (Grew.refl _).alloc _⟩
  cases h5 : (d.Adj == (d.Limit + d.Completed) % 4294967296)
  · go_enter Try.func16, Try.ntmps16
    go_wp2
    go_ret
    exact ⟨ret_bool (by simp [rrightB, h5]), (Grew.refl _).alloc _⟩
  · go_enter Try.func16, Try.ntmps16
    go_wp2_with (go_at_call 19; refine (rflight_c d _).mono ?_; rintro e w' ⟨rfl, hb⟩)
    go_ret
    exact ⟨ret_bool (by simp only [rrightB, h1, h2, h3, h4, h5]; rfl), ((Grew.refl _).alloc _).trans hb⟩
end Go.Proofs.Ythopimfpiimloaa
