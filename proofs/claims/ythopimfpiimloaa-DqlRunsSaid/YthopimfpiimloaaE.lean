/- The iterator of a completion's steps. -/
import Derived.Test.YthopimfpiimloaaS
import Derived.Test.YthopimfpiimloaaIt
import Derived.Shelf.Abstract
import Derived.Shelf.RegionOpen
import Derived.OwnWalkIn
import Derived.TacticsInMore
import Derived.LoopNIn
import Derived.LoopIn
namespace Go.Proofs.Ythopimfpiimloaa
open Go.RowKit Go.Shelf
set_option linter.unusedSimpArgs false
set_option maxHeartbeats 400000
attribute [local go_sem] Oper.semAt_some alloc_drewN setCell_drewN max2_mx min2_mn max_two min_two
theorem steps_c (w : World) : Calls Try.prog 31 #[] w fun e w' => e = .returned (.func (.func 35) #[] #[]) ∧ w = w' := by
  go_enter Try.func31, Try.ntmps31
  go_wp2
  go_ret
  exact ⟨rfl, rfl⟩
theorem bound_c (d : Dql) (g : Nat) (x : Int) (w : World) (hg : At w g d.cells) : Calls Try.prog 32 #[.int .u32 x, .pointer (some ⟨g, 0, none⟩)] w fun e w' => e = .returned (.int .u32 (mn (mx x d.Min) d.Max)) ∧ w = w' := by
  have hc := hg.cell
  clear hg
  go_enter Try.func32, Try.ntmps32
  go_wp2
  go_ret
  exact ⟨rfl, rfl⟩
theorem steps_in (l : Nat) (J1 X1 J2 X2 : World → Prop) (W : World)
    (h1 : YieldAt Fence.wide 0 Try.prog l #[.func (.func 36) #[] #[]] W fun e W' => (e = .returned (.bool true) ∧ J1 W') ∨ (e = .returned (.bool false) ∧ X1 W'))
    (h2 : ∀ W', J1 W' → YieldAt Fence.wide 0 Try.prog l #[.func (.func 37) #[] #[]] W' fun e W'' => (e = .returned (.bool true) ∧ J2 W'') ∨ (e = .returned (.bool false) ∧ X2 W'')) :
    CallsIn Fence.wide 0 Try.prog 35 #[.func (.yield l) #[] #[]] W fun e W' => (∃ v, e = .returned v) ∧ (J2 W' ∨ X1 W' ∨ X2 W') := by
  refine callsIn_of_wp Try.func35 rfl trivial ?_ rfl
  simp only [Try.ntmps35, List.size_toArray, List.length_cons, List.length_nil, Nat.reduceAdd, Nat.reduceSub, Array.replicate_succ, Array.replicate_zero, List.push_toArray, List.append_toArray, List.nil_append, List.cons_append]
  obtain ⟨f1, t1, a1, b1, hy1, hR1⟩ := h1
  gi_wp2
  refine ⟨rfl, hR1.mono ?_⟩
  rintro e W1 (⟨rfl, hJ1⟩ | ⟨rfl, hx1⟩)
  · obtain ⟨f2, t2, a2, b2, hy2, hR2⟩ := h2 W1 hJ1
    gi_wp2
    refine ⟨rfl, hR2.mono ?_⟩
    rintro e W2 (⟨rfl, hJ2⟩ | ⟨rfl, hx2⟩)
    · gi_wp2
      go_end0
      exact ⟨⟨_, rfl⟩, .inl hJ2⟩
    · gi_wp2
      go_end0
      exact ⟨⟨_, rfl⟩, .inr (.inr hx2)⟩
  · gi_wp2
    go_end0
    exact ⟨⟨_, rfl⟩, .inr (.inl hx1)⟩
end Go.Proofs.Ythopimfpiimloaa
