/- Contracts: Right, New, Queue. -/
import Derived.Test.YthopimfpiimloaaB
namespace Go.Proofs.Ythopimfpiimloaa
open Go.RowKit
set_option linter.unusedSimpArgs false
set_option maxHeartbeats 400000
attribute [local go_sem] alloc_drewN setCell_drewN
theorem between5_c (x0 x1 x2 x3 x4 : Int) (n : Nat) (W : World) (hn : W.heap.size = n) :
    Calls Try.prog 26 #[.slice (some ⟨n, 0, none⟩) 5 5] (W.alloc (.cells #[.int .u32 x0, .int .u32 x1, .int .u32 x2, .int .u32 x3, .int .u32 x4] 22)) fun e w' => e = .returned (.bool (rises [x0, x1, x2, x3, x4])) ∧ ∃ m, w' = (W.alloc (.cells #[.int .u32 x0, .int .u32 x1, .int .u32 x2, .int .u32 x3, .int .u32 x4] 22)).drewN m := by
  subst hn
  refine between_c [x0, x1, x2, x3, x4] W.heap.size _ (by simp) ?_
  intro i hi
  simp only [List.length_cons, List.length_nil] at hi
  have : i = 0 ∨ i = 1 ∨ i = 2 ∨ i = 3 ∨ i = 4 := by omega
  rcases this with rfl | rfl | rfl | rfl | rfl <;> simp
theorem between4_c (x0 x1 x2 x3 : Int) (n : Nat) (W : World) (hn : W.heap.size = n) :
    Calls Try.prog 26 #[.slice (some ⟨n, 0, none⟩) 4 4] (W.alloc (.cells #[.int .u32 x0, .int .u32 x1, .int .u32 x2, .int .u32 x3] 22)) fun e w' => e = .returned (.bool (rises [x0, x1, x2, x3])) ∧ ∃ m, w' = (W.alloc (.cells #[.int .u32 x0, .int .u32 x1, .int .u32 x2, .int .u32 x3] 22)).drewN m := by
  subst hn
  refine between_c [x0, x1, x2, x3] W.heap.size _ (by simp) ?_
  intro i hi
  simp only [List.length_cons, List.length_nil] at hi
  have : i = 0 ∨ i = 1 ∨ i = 2 ∨ i = 3 := by omega
  rcases this with rfl | rfl | rfl | rfl <;> simp
theorem between3_c (x0 x1 x2 : Int) (n : Nat) (W : World) (hn : W.heap.size = n) :
    Calls Try.prog 26 #[.slice (some ⟨n, 0, none⟩) 3 3] (W.alloc (.cells #[.int .u32 x0, .int .u32 x1, .int .u32 x2] 22)) fun e w' => e = .returned (.bool (rises [x0, x1, x2])) ∧ ∃ m, w' = (W.alloc (.cells #[.int .u32 x0, .int .u32 x1, .int .u32 x2] 22)).drewN m := by
  subst hn
  refine between_c [x0, x1, x2] W.heap.size _ (by simp) ?_
  intro i hi
  simp only [List.length_cons, List.length_nil] at hi
  have : i = 0 ∨ i = 1 ∨ i = 2 := by omega
  rcases this with rfl | rfl | rfl <;> simp
theorem between3_d (x0 x1 x2 : Int) (n q : Nat) (W : World) (hn : W.heap.size = n) :
    Calls Try.prog 26 #[.slice (some ⟨n, 0, none⟩) 3 3] ((W.alloc (.cells #[.int .u32 x0, .int .u32 x1, .int .u32 x2] 22)).drewN q) fun e w' => e = .returned (.bool (rises [x0, x1, x2])) ∧ ∃ m, w' = ((W.alloc (.cells #[.int .u32 x0, .int .u32 x1, .int .u32 x2] 22)).drewN q).drewN m := by
  subst hn
  refine between_c [x0, x1, x2] W.heap.size _ (by simp) ?_
  intro i hi
  simp only [List.length_cons, List.length_nil] at hi
  have : i = 0 ∨ i = 1 ∨ i = 2 := by omega
  rcases this with rfl | rfl | rfl <;> simp
theorem between4_d (x0 x1 x2 x3 : Int) (n q : Nat) (W : World) (hn : W.heap.size = n) :
    Calls Try.prog 26 #[.slice (some ⟨n, 0, none⟩) 4 4] ((W.alloc (.cells #[.int .u32 x0, .int .u32 x1, .int .u32 x2, .int .u32 x3] 22)).drewN q) fun e w' => e = .returned (.bool (rises [x0, x1, x2, x3])) ∧ ∃ m, w' = ((W.alloc (.cells #[.int .u32 x0, .int .u32 x1, .int .u32 x2, .int .u32 x3] 22)).drewN q).drewN m := by
  subst hn
  refine between_c [x0, x1, x2, x3] W.heap.size _ (by simp) ?_
  intro i hi
  simp only [List.length_cons, List.length_nil] at hi
  have : i = 0 ∨ i = 1 ∨ i = 2 ∨ i = 3 := by omega
  rcases this with rfl | rfl | rfl | rfl <;> simp
theorem between5_d (x0 x1 x2 x3 x4 : Int) (n q : Nat) (W : World) (hn : W.heap.size = n) :
    Calls Try.prog 26 #[.slice (some ⟨n, 0, none⟩) 5 5] ((W.alloc (.cells #[.int .u32 x0, .int .u32 x1, .int .u32 x2, .int .u32 x3, .int .u32 x4] 22)).drewN q) fun e w' => e = .returned (.bool (rises [x0, x1, x2, x3, x4])) ∧ ∃ m, w' = ((W.alloc (.cells #[.int .u32 x0, .int .u32 x1, .int .u32 x2, .int .u32 x3, .int .u32 x4] 22)).drewN q).drewN m := by
  subst hn
  refine between_c [x0, x1, x2, x3, x4] W.heap.size _ (by simp) ?_
  intro i hi
  simp only [List.length_cons, List.length_nil] at hi
  have : i = 0 ∨ i = 1 ∨ i = 2 ∨ i = 3 ∨ i = 4 := by omega
  rcases this with rfl | rfl | rfl | rfl | rfl <;> simp
theorem right_c (d : Dql) (w : World) : Calls Try.prog 14 #[d.val] w fun e w' => e = .returned (.bool (right d)) ∧ Grew w w' := by
  have HR : Hid (right d = (rises [1, d.Min, d.Limit, d.Max, 1073741824] && (d.Adj == (d.Limit + d.Completed) % 4294967296) && decide (flight d ≤ 2147483647))) := rfl
  cases h1 : rises [1, d.Min, d.Limit, d.Max, 1073741824]
  · go_enter Try.func14, Try.ntmps14
    go_wp2_with (go_at_call 26; refine (between5_c _ _ _ _ _ _ _ (by simp)).mono ?_; rintro e w' ⟨rfl, m, rfl⟩)
    go_ret
    exact ⟨ret_bool (by rw [HR.out, h1]; rfl), (((Grew.refl _).alloc _).alloc _).drewN _⟩
  cases h2 : (d.Adj == (d.Limit + d.Completed) % 4294967296)
  · go_enter Try.func14, Try.ntmps14
    go_wp2_with (go_at_call 26; refine (between5_c _ _ _ _ _ _ _ (by simp)).mono ?_; rintro e w' ⟨rfl, m, rfl⟩)
    go_ret
    exact ⟨ret_bool (by rw [HR.out, h1, h2]; rfl), (((Grew.refl _).alloc _).alloc _).drewN _⟩
  · go_enter Try.func14, Try.ntmps14
    go_wp2_with (first | (go_at_call 26; refine (between5_c _ _ _ _ _ _ _ (by simp)).mono ?_; rintro e w' ⟨rfl, m, rfl⟩) | (go_at_call 18; refine (flight_c d _).mono ?_; rintro e w' ⟨rfl, hb⟩))
    go_ret
    exact ⟨ret_bool (by rw [HR.out, h1, h2]; rfl), ((((Grew.refl _).alloc _).alloc _).drewN _).trans hb⟩
/-- A state, and the number of an error. -/
@[reducible] def pairV (d : Dql) (e : Int) : Value := .tuple #[.agg d.cells, .int .i64 e]
def queueS (d : Dql) (n : Int) : Dql × Int :=
  if right d = true then
    if rises [1, n, 65535] = true then
      if (2147483647 - n) % 4294967296 < flight d then (Dql.zero, 40) else ({ d with Queued := (d.Queued + n) % 4294967296, Last := n }, 0)
    else (Dql.zero, 40)
  else (Dql.zero, 2)
end Go.Proofs.Ythopimfpiimloaa
