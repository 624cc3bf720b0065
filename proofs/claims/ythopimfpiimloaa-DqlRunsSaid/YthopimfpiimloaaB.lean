/- Contracts of the small functions. -/
import Derived.Test.YthopimfpiimloaaProg
import Derived.Test.YthopimfpiimloaaA
import Derived.Test.YthopimfpiimloaaW0
import Derived.WalkKit
import Derived.Below
import Derived.Outline
import Derived.WideLaws
import Derived.WalkLawsBesides
import Derived.WalkSpells
import Derived.WalkSmall
import Derived.Deep.QuietTactic
import Derived.BigQuiet
import Derived.Lib.Hide
namespace Go.Proofs.Ythopimfpiimloaa
open Go.RowKit

theorem ret_bool {a b : Bool} (h : a = b) : Ending.returned (.bool a) = .returned (.bool b) := by rw [h]
theorem ret_int {k : IntKind} {a b : Int} (h : a = b) : Ending.returned (.int k a) = .returned (.int k b) := by rw [h]
set_option linter.unusedSimpArgs false
set_option maxHeartbeats 400000
attribute [local go_sem] alloc_drewN setCell_drewN
theorem far_c (a b : Int) (w : World) : Calls Try.prog 27 #[.int .u32 a, .int .u32 b] w fun e w' => e = .returned (.int .u32 (far a b)) ∧ w = w' := by
  go_enter Try.func27, Try.ntmps27
  go_wp2
  go_ret
  exact ⟨rfl, rfl⟩
theorem rfar_c (a b : Int) (w : World) : Calls Try.prog 28 #[.int .u32 a, .int .u32 b] w fun e w' => e = .returned (.int .u32 (far a b)) ∧ w = w' := by
  go_enter Try.func28, Try.ntmps28
  go_wp2
  go_ret
  exact ⟨rfl, rfl⟩
theorem ahead_c (a b : Int) (w : World) : Calls Try.prog 30 #[.int .u32 a, .int .u32 b] w fun e w' => e = .returned (.bool (ahead a b)) ∧ w = w' := by
  go_enter Try.func30, Try.ntmps30
  go_wp2
  go_ret
  exact ⟨rfl, rfl⟩
theorem over_c (a b : Int) (w : World) : Calls Try.prog 29 #[.int .u32 a, .int .u32 b] w fun e w' => e = .returned (.int .u32 (over a b)) ∧ w = w' := by
  cases h : ahead b a
  all_goals
    go_enter Try.func29, Try.ntmps29
    go_wp2_with (go_at_call 30; refine (ahead_c _ _ _).mono ?_; rintro e w' ⟨rfl, rfl⟩)
    go_ret
    exact ⟨by simp [over, h, far], rfl⟩
theorem flight_c (d : Dql) (w : World) : Calls Try.prog 18 #[d.val] w fun e w' => e = .returned (.int .u32 (flight d)) ∧ Grew w w' := by
  go_enter Try.func18, Try.ntmps18
  go_wp2_with (go_at_call 27; refine (far_c _ _ _).mono ?_; rintro e w' ⟨rfl, rfl⟩)
  go_ret
  exact ⟨rfl, (Grew.refl _).alloc _⟩
theorem left_c (d : Dql) (w : World) : Calls Try.prog 15 #[d.val] w fun e w' => e = .returned (.int .i32 (left d)) ∧ Grew w w' := by
  go_enter Try.func15, Try.ntmps15
  go_wp2
  go_ret
  exact ⟨rfl, (Grew.refl _).alloc _⟩
/-- Numbers that are handed over in a new row. -/
def IsRow (w : World) (b : Nat) (l : List Int) : Prop := ∀ i : Nat, i < l.length → w.cell? ⟨b, i, none⟩ = some (.int .u32 (l[i]?.getD 0))
theorem between_c (l : List Int) (b : Nat) (w : World) (hl : l.length ≤ 100) (hc : IsRow w b l) : Calls Try.prog 26 #[.slice (some ⟨b, 0, none⟩) l.length l.length] w fun e w' => e = .returned (.bool (rises l)) ∧ ∃ n, w' = w.drewN n := by
  go_enter Try.func26, Try.ntmps26
  go_wp2
  go_loopw [3] (fun i wr => ∃ k : Nat, 1 ≤ k ∧ i = .int .i64 k ∧ risesFrom l k = rises l ∧ ∃ n, wr = w.drewN n) (fun i _ => l.length - (intOf i).toNat)
  case atStart => exact ⟨1, Nat.le_refl _, rfl, rfl, 0, rfl⟩
  case round =>
    obtain ⟨k, hk, rfl, hr, n, rfl⟩ := hrel
    have Hr := Lib.hid hr
    clear hr
    by_cases hlt : k < l.length
    · have c1 := hc (k - 1) (by omega)
      have c2 := hc k hlt
      obtain ⟨x, hx⟩ : ∃ x, l[k - 1]?.getD 0 = x := ⟨_, rfl⟩
      obtain ⟨y, hy⟩ : ∃ y, l[k]?.getD 0 = y := ⟨_, rfl⟩
      rw [hx] at c1
      rw [hy] at c2
      have Hx := Lib.hid hx
      have Hy := Lib.hid hy
      clear hx hy
      by_cases hxy : y < x
      · go_wp2
        go_quiet (fail)
        go_wp2
        go_ret
        exact ⟨ret_bool (by rw [← Hr.out, risesFrom_stop hlt Hx.out Hy.out hxy]), _, World.drewN_drewN ..⟩
      · go_wp2
        go_quiet (fail)
        go_wp2
        go_roundw
        case rel => exact ⟨k + 1, by omega, by go_num, by rw [← Hr.out, risesFrom_on hlt Hx.out Hy.out (by omega)], _, rfl⟩
        case measure => simp [intOf]; omega
    · go_wp2
      go_ret
      exact ⟨ret_bool (by rw [← Hr.out, risesFrom_end hlt]), n, rfl⟩
end Go.Proofs.Ythopimfpiimloaa
