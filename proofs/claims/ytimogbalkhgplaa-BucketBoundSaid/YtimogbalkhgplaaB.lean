/- Contracts: rises, Right, New. -/
import Derived.Test.YtimogbalkhgplaaProg
import Derived.Test.YtimogbalkhgplaaA
import Derived.Test.YtimogbalkhgplaaW0
import Derived.WalkKit
import Derived.Below
import Derived.Outline
import Derived.WideLaws
import Derived.WalkLawsBesides
import Derived.WalkSpells
import Derived.WalkSmall
import Derived.Deep.QuietTactic
import Derived.BigQuiet
import Derived.Lib.Hide
namespace Go.Proofs.Ytimogbalkhgplaa
open Go.RowKit

theorem ret_bool {a b : Bool} (h : a = b) : Ending.returned (.bool a) = .returned (.bool b) := by rw [h]
theorem ret_int {k : IntKind} {a b : Int} (h : a = b) : Ending.returned (.int k a) = .returned (.int k b) := by rw [h]
set_option linter.unusedSimpArgs false
set_option maxHeartbeats 400000
attribute [local go_sem] alloc_drewN setCell_drewN
/-- Numbers that are handed over in a new row. -/
def IsRow (w : World) (b : Nat) (l : List Int) : Prop := ∀ i : Nat, i < l.length → w.cell? ⟨b, i, none⟩ = some (.int .i64 (l[i]?.getD 0))
theorem rises_c (l : List Int) (b : Nat) (w : World) (hl : l.length ≤ 100) (hc : IsRow w b l) : Calls Try.prog 23 #[.slice (some ⟨b, 0, none⟩) l.length l.length] w fun e w' => e = .returned (.bool (rises l)) ∧ ∃ n, w' = w.drewN n := by
  go_enter Try.func23, Try.ntmps23
  go_wp2
  go_loopw [6] (fun i wr => ∃ k : Nat, i = .int .i64 k ∧ risesFrom l (max k 1) = rises l ∧ ∃ n, wr = w.drewN n) (fun i _ => l.length - (intOf i).toNat)
  case atStart => exact ⟨0, rfl, rfl, 0, rfl⟩
  case round =>
    obtain ⟨k, rfl, hr, n, rfl⟩ := hrel
    by_cases hlt : k < l.length
    · by_cases h0 : k = 0
      · have hg : decide ((0 : Int) < (k : Int)) = false := by simp; omega
        have hg2 : decide (0 < k) = false := by simp; omega
        have Hr : Hid (risesFrom l (max (k + 1) 1) = rises l) := by subst h0; exact hr
        clear hr h0
        go_wp2
        go_quiet (fail)
        go_wp2
        go_roundw
        case rel => exact ⟨k + 1, by go_num, Hr.out, _, rfl⟩
        case measure => simp [intOf]; omega
      · have hg : decide ((0 : Int) < (k : Int)) = true := by simp; omega
        have hg2 : decide (0 < k) = true := by simp; omega
        have e1 : max k 1 = k := by omega
        have e2 : max (k + 1) 1 = k + 1 := by omega
        rw [e1] at hr
        have Hr := Lib.hid hr
        have He := Lib.hid e2
        clear hr e1 e2
        have c1 := hc (k - 1) (by omega)
        have c2 := hc k hlt
        obtain ⟨x, hx⟩ : ∃ x, l[k - 1]?.getD 0 = x := ⟨_, rfl⟩
        obtain ⟨y, hy⟩ : ∃ y, l[k]?.getD 0 = y := ⟨_, rfl⟩
        rw [hx] at c1
        rw [hy] at c2
        have Hx := Lib.hid hx
        have Hy := Lib.hid hy
        clear hx hy
        by_cases hxy : y < x
        · go_wp2
          go_quiet (fail)
          go_wp2
          go_ret
          exact ⟨ret_bool (by rw [← Hr.out, risesFrom_stop hlt Hx.out Hy.out hxy]), _, World.drewN_drewN ..⟩
        · go_wp2
          go_quiet (fail)
          go_wp2
          go_roundw
          case rel => exact ⟨k + 1, by go_num, by rw [He.out, ← Hr.out, risesFrom_on hlt Hx.out Hy.out (by omega)], _, rfl⟩
          case measure => simp [intOf]; omega
    · have e1 : max k 1 = k ∨ k = 0 := by omega
      have Hr : Hid (rises l = true) := by
        rw [Hid, ← hr]
        exact risesFrom_end (by omega)
      clear hr e1
      go_wp2
      go_ret
      exact ⟨ret_bool (by rw [Hr.out]), n, rfl⟩
theorem rises3_c (x0 x1 x2 : Int) (n : Nat) (W : World) (hn : W.heap.size = n) :
    Calls Try.prog 23 #[.slice (some ⟨n, 0, none⟩) 3 3] (W.alloc (.cells #[.int .i64 x0, .int .i64 x1, .int .i64 x2] 2)) fun e w' => e = .returned (.bool (rises [x0, x1, x2])) ∧ ∃ m, w' = (W.alloc (.cells #[.int .i64 x0, .int .i64 x1, .int .i64 x2] 2)).drewN m := by
  subst hn
  refine rises_c [x0, x1, x2] W.heap.size _ (by simp) ?_
  intro i hi
  simp only [List.length_cons, List.length_nil] at hi
  have : i = 0 ∨ i = 1 ∨ i = 2 := by omega
  rcases this with rfl | rfl | rfl <;> simp
theorem rises3_d (x0 x1 x2 : Int) (n q : Nat) (W : World) (hn : W.heap.size = n) :
    Calls Try.prog 23 #[.slice (some ⟨n, 0, none⟩) 3 3] ((W.alloc (.cells #[.int .i64 x0, .int .i64 x1, .int .i64 x2] 2)).drewN q) fun e w' => e = .returned (.bool (rises [x0, x1, x2])) ∧ ∃ m, w' = ((W.alloc (.cells #[.int .i64 x0, .int .i64 x1, .int .i64 x2] 2)).drewN q).drewN m := by
  subst hn
  refine rises_c [x0, x1, x2] W.heap.size _ (by simp) ?_
  intro i hi
  simp only [List.length_cons, List.length_nil] at hi
  have : i = 0 ∨ i = 1 ∨ i = 2 := by omega
  rcases this with rfl | rfl | rfl <;> simp
theorem right_c (d : Bkt) (w : World) : Calls Try.prog 13 #[d.val] w fun e w' => e = .returned (.bool (right d)) ∧ Grew w w' := by
  have HR : Hid (right d = _) := rfl
  unfold right at HR
  cases h1 : decide (d.Rate ≤ 1099511627776)
  · go_enter Try.func13, Try.ntmps13
    go_wp2
    go_ret
    exact ⟨ret_bool (by simp [right, h1]), (Grew.refl _).alloc _⟩
  cases h2 : rises [1, d.Burst, 1073741824]
  · go_enter Try.func13, Try.ntmps13
    go_wp2_with (go_at_call 23; refine (rises3_c _ _ _ _ _ (by simp)).mono ?_; rintro e w' ⟨rfl, m, rfl⟩)
    go_ret
    exact ⟨ret_bool (by simp [right, h1, h2]), (((Grew.refl _).alloc _).alloc _).drewN _⟩
  cases h3 : rises [-1073741824, d.Level, d.Burst]
  · go_enter Try.func13, Try.ntmps13
    go_wp2_with (first | (go_at_call 23; (with_reducible refine (rises3_c _ _ _ _ _ ?hn).mono ?_); (case hn => simp); rintro e w' ⟨rfl, m, rfl⟩) | (go_at_call 23; (with_reducible refine (rises3_d _ _ _ _ _ _ ?hn).mono ?_); (case hn => simp); rintro e w' ⟨rfl, m, rfl⟩))
    go_ret
    exact ⟨ret_bool (by simp [right, h1, h2, h3]), by repeat (with_reducible first | exact Grew.refl _ | refine Grew.drewN ?_ _ | refine Grew.alloc ?_ _)⟩
  cases h4 : decide (d.Rem < 1000000000)
  all_goals
    go_enter Try.func13, Try.ntmps13
    go_wp2_with (first | (go_at_call 23; (with_reducible refine (rises3_c _ _ _ _ _ ?hn).mono ?_); (case hn => simp); rintro e w' ⟨rfl, m, rfl⟩) | (go_at_call 23; (with_reducible refine (rises3_d _ _ _ _ _ _ ?hn).mono ?_); (case hn => simp); rintro e w' ⟨rfl, m, rfl⟩))
    go_ret
    exact ⟨ret_bool (by simp only [right, h1, h2, h3, h4]; rfl), by repeat (with_reducible first | exact Grew.refl _ | refine Grew.drewN ?_ _ | refine Grew.alloc ?_ _)⟩
end Go.Proofs.Ytimogbalkhgplaa
