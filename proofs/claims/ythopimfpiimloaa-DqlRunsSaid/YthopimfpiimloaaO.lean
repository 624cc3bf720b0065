/- DqlStates: the walk. -/
import Derived.Test.YthopimfpiimloaaN
import Derived.Deep.RegionHeld3
namespace Go.Proofs.Ythopimfpiimloaa
open Go.RowKit Go.Shelf
set_option linter.unusedSimpArgs false
set_option maxHeartbeats 1000000
attribute [local go_sem] alloc_drewN setCell_drewN
theorem held_grew {w : World} {b : Nat} {cs : Array Value} {W W' : World} (h : (∀ j : Nat, W.cell? ⟨b, j, none⟩ = cs[j]?) ∧ b < W.heap.size ∧ Grew w W) (k : Grew W W') :
    (∀ j : Nat, W'.cell? ⟨b, j, none⟩ = cs[j]?) ∧ b < W'.heap.size ∧ Grew w W' :=
  ⟨fun j => (k.below.cell (p := ⟨b, j, none⟩) h.2.1).trans (h.1 j), Nat.lt_of_lt_of_le h.2.1 k.below.size, h.2.2.trans k⟩
theorem states_walk (d : Dql) (w : World) : Calls Try.prog 4 #[d.val] w fun e w' => e = .returned (.bool true) ∧ Grew w w' := by
  go_enter Try.func4, Try.ntmps4
  go_wp2_with fail
  refine (shown_c _).mono ?_
  rintro e w1 ⟨rfl, hb1⟩
  have hA := (at_alloc w d.cells).grew hb1
  have hs : (∀ j : Nat, w1.cell? ⟨w.heap.size, j, none⟩ = d.cells[j]?) ∧ w.heap.size < w1.heap.size ∧ Grew w w1 := ⟨hA.cell, hA.lt, ((Grew.refl w).alloc _).trans hb1⟩
  clear hA hb1
  obtain ⟨hc, hlt, HG⟩ := hs
  go_wp2_with fail
  go_region_held3 (fun w' => (∀ j : Nat, w'.cell? ⟨w.heap.size, j, none⟩ = d.cells[j]?) ∧ w.heap.size < w'.heap.size ∧ Grew w w')
    (first | (exact ⟨fun j => hc j, hlt, Grew.drew HG⟩) | (exact held_grew (by assumption) hb))
    ((first | (go_at_call 14; refine (right_c d _).mono ?_; rintro e w' ⟨rfl, hb⟩) | (go_at_call 16; refine (rright_c' d _).mono ?_; rintro e w' ⟨rfl, hb⟩) | (go_at_call 15; refine (left_c d _).mono ?_; rintro e w' ⟨rfl, hb⟩) | (go_at_call 17; refine (rleft_c d _).mono ?_; rintro e w' ⟨rfl, hb⟩) | (go_at_call 18; refine (flight_c d _).mono ?_; rintro e w' ⟨rfl, hb⟩) | (go_at_call 19; refine (rflight_c d _).mono ?_; rintro e w' ⟨rfl, hb⟩)))
  all_goals
    go_wp2_with fail
    go_ret
    exact ⟨rfl, And.right (And.right (by assumption))⟩
end Go.Proofs.Ythopimfpiimloaa
