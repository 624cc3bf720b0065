/- Contract: shrinks. -/
import Derived.Test.YthopimfpiimloaaG
namespace Go.Proofs.Ythopimfpiimloaa
open Go.RowKit
set_option linter.unusedSimpArgs false
set_option maxHeartbeats 400000
attribute [local go_sem] alloc_drewN setCell_drewN max2_mx min2_mn max_two min_two
theorem quiet_add_same {P : Program} {f : FuncId} {args : Array Value} {w : World} {a n : Nat} {v : Value}
    (h : Calls P f args (w.drewN (a + n)) fun e w' => e = .returned v ∧ w' = w.drewN (a + n)) :
    Calls P f args (w.drewN (a + n)) fun e w'' => e = .returned v ∧ ∃ m, w'' = w.drewN (a + m) :=
  h.mono fun _ _ ⟨he, hm⟩ => ⟨he, n, hm⟩
def shrinksB (d : Dql) (c : Chg) : Bool := !(c.done == d.Queued) && !(d.PrevQueued == d.Completed) && !c.isAll
theorem shrinks_no (d : Dql) (c : Chg) (g : Nat) (w : World) (hg : At w g d.cells) (h : shrinksB d c = false) : Calls Try.prog 37 #[.pointer (some ⟨g, 0, none⟩), c.val] w fun e w' => e = .returned (.bool false) ∧ At w' g d.cells ∧ w.grownBy w' (some g) := by
  have hc := hg.cell
  have hf := hg.free
  have hlt := hg.lt
  have HG := Lib.hid hg
  have H := Lib.hid h
  clear hg h
  cases h1 : (c.done == d.Queued) <;> cases h2 : (d.PrevQueued == d.Completed) <;> cases h4 : c.isAll
  all_goals first | (exfalso; have := H.out; simp [shrinksB, h1, h2, h4] at this; done) | skip
  all_goals
    go_enter Try.func37, Try.ntmps37
    go_wp2
    go_quiet (fail)
    go_wp2
    go_ret
    exact ⟨rfl, (HG.out.alloc _), gdrewN (galloc (gself _ _) _) _⟩
def slack1 (d : Dql) (c : Chg) : Int := over ((d.Limit + d.PrevOver) % 4294967296) (2 * c.n % 4294967296)
def slack2 (d : Dql) (c : Chg) : Int := if decide (0 < d.PrevOver) = true then mx (slack1 d c) (over d.PrevLast d.PrevOver) else slack1 d c
def slack3 (d : Dql) (c : Chg) : Int := mn d.Slack (slack2 d c)
def lateB (d : Dql) (c : Chg) : Bool := decide (d.Start < c.now) && decide (d.Hold < IntKind.u64.wrap (c.now - d.Start))
def shrinksS (d : Dql) (c : Chg) : Dql := if lateB d c = true then { d with Limit := over d.Limit (slack3 d c), Start := c.now, Slack := 4294967295 } else { d with Slack := slack3 d c }
theorem shrinks_000 (d : Dql) (c : Chg) (g : Nat) (w : World) (hg : At w g d.cells) (h1 : (c.done == d.Queued) = false) (h2 : (d.PrevQueued == d.Completed) = false) (h4 : c.isAll = false) (h5 : decide (0 < d.PrevOver) = false) (h6 : decide (d.Start < c.now) = false) :
    Calls Try.prog 37 #[.pointer (some ⟨g, 0, none⟩), c.val] w fun e w' => e = .returned (.bool true) ∧ At w' g (shrinksS d c).cells ∧ w.grownBy w' (some g) := by
  have hc := hg.cell
  have hf := hg.free
  have hlt := hg.lt
  have HG := Lib.hid hg
  clear hg
  have HS : Hid (shrinksS d c = { d with Slack := mn d.Slack (over ((d.Limit + d.PrevOver) % 4294967296) (2 * c.n % 4294967296)) }) := by simp only [Hid, shrinksS, lateB, slack3, slack2, slack1, h5, h6]; rfl
  go_enter Try.func37, Try.ntmps37
  go_wp2
  go_quiet (fail)
  go_wp2
  go_quiet ((go_at_call 29; exact quiet_add_same (over_q _ _ _)))
  go_wp2
  go_quiet (fail)
  go_wp2
  go_ret
  exact ⟨rfl, by rw [HS.out]; exact (HG.out.set 8 _).alloc _, by repeat (with_reducible first | exact gself _ _ | refine gdrewN ?_ _ | refine galloc ?_ _ | refine gset ?_ _ _)⟩
theorem shrinks_010 (d : Dql) (c : Chg) (g : Nat) (w : World) (hg : At w g d.cells) (h1 : (c.done == d.Queued) = false) (h2 : (d.PrevQueued == d.Completed) = false) (h4 : c.isAll = false) (h5 : decide (0 < d.PrevOver) = false) (h6 : decide (d.Start < c.now) = true) (h7 : decide (d.Hold < IntKind.u64.wrap (c.now - d.Start)) = false) :
    Calls Try.prog 37 #[.pointer (some ⟨g, 0, none⟩), c.val] w fun e w' => e = .returned (.bool true) ∧ At w' g (shrinksS d c).cells ∧ w.grownBy w' (some g) := by
  have hc := hg.cell
  have hf := hg.free
  have hlt := hg.lt
  have HG := Lib.hid hg
  clear hg
  have HS : Hid (shrinksS d c = { d with Slack := mn d.Slack (over ((d.Limit + d.PrevOver) % 4294967296) (2 * c.n % 4294967296)) }) := by simp only [Hid, shrinksS, lateB, slack3, slack2, slack1, h5, h6, h7]; rfl
  go_enter Try.func37, Try.ntmps37
  go_wp2
  go_quiet (fail)
  go_wp2
  go_quiet ((go_at_call 29; exact quiet_add_same (over_q _ _ _)))
  go_wp2
  go_quiet (fail)
  go_wp2
  go_ret
  exact ⟨rfl, by rw [HS.out]; exact (HG.out.set 8 _).alloc _, by repeat (with_reducible first | exact gself _ _ | refine gdrewN ?_ _ | refine galloc ?_ _ | refine gset ?_ _ _)⟩
theorem shrinks_011 (d : Dql) (c : Chg) (g : Nat) (w : World) (hg : At w g d.cells) (h1 : (c.done == d.Queued) = false) (h2 : (d.PrevQueued == d.Completed) = false) (h4 : c.isAll = false) (h5 : decide (0 < d.PrevOver) = false) (h6 : decide (d.Start < c.now) = true) (h7 : decide (d.Hold < IntKind.u64.wrap (c.now - d.Start)) = true) :
    Calls Try.prog 37 #[.pointer (some ⟨g, 0, none⟩), c.val] w fun e w' => e = .returned (.bool true) ∧ At w' g (shrinksS d c).cells ∧ w.grownBy w' (some g) := by
  have hc := hg.cell
  have hf := hg.free
  have hlt := hg.lt
  have HG := Lib.hid hg
  clear hg
  have HS : Hid (shrinksS d c = { d with Limit := over d.Limit (mn d.Slack (over ((d.Limit + d.PrevOver) % 4294967296) (2 * c.n % 4294967296))), Start := c.now, Slack := 4294967295 }) := by simp only [Hid, shrinksS, lateB, slack3, slack2, slack1, h5, h6, h7]; rfl
  go_enter Try.func37, Try.ntmps37
  go_wp2
  go_quiet (fail)
  go_wp2
  go_quiet ((go_at_call 29; exact quiet_add_same (over_q _ _ _)))
  go_wp2
  go_quiet (fail)
  go_wp2
  refine still_tail 10 (by kernel_rfl) (by kernel_rfl) ?_
  simp only [List.take_succ_cons, List.take_zero, List.drop_succ_cons, List.drop_zero]
  repeat (first | still_step | still_call (over_q _ _ _))
  refine wpStill_nil ?_
  go_wp2_with fail
  refine (restarts_c { d with Slack := mn d.Slack (over ((d.Limit + d.PrevOver) % 4294967296) (2 * c.n % 4294967296)), Limit := over d.Limit (mn d.Slack (over ((d.Limit + d.PrevOver) % 4294967296) (2 * c.n % 4294967296))) } g _ _ ((((HG.out.set 8 _).set 3 _).alloc _).drewN _)).mono ?_
  rintro e w' ⟨rfl, hg2, hw2⟩
  go_wp2_with fail
  go_ret
  exact ⟨rfl, by rw [HS.out]; exact hg2, gtrans (gdrewN (galloc (gset (gset (gself _ _) _ _) _ _) _) _) hw2⟩
theorem shrinks_100 (d : Dql) (c : Chg) (g : Nat) (w : World) (hg : At w g d.cells) (h1 : (c.done == d.Queued) = false) (h2 : (d.PrevQueued == d.Completed) = false) (h4 : c.isAll = false) (h5 : decide (0 < d.PrevOver) = true) (h6 : decide (d.Start < c.now) = false) :
    Calls Try.prog 37 #[.pointer (some ⟨g, 0, none⟩), c.val] w fun e w' => e = .returned (.bool true) ∧ At w' g (shrinksS d c).cells ∧ w.grownBy w' (some g) := by
  have hc := hg.cell
  have hf := hg.free
  have hlt := hg.lt
  have HG := Lib.hid hg
  clear hg
  have HS : Hid (shrinksS d c = { d with Slack := mn d.Slack (mx (over ((d.Limit + d.PrevOver) % 4294967296) (2 * c.n % 4294967296)) (over d.PrevLast d.PrevOver)) }) := by simp only [Hid, shrinksS, lateB, slack3, slack2, slack1, h5, h6]; rfl
  go_enter Try.func37, Try.ntmps37
  go_wp2
  go_quiet (fail)
  go_wp2
  go_quiet ((go_at_call 29; exact quiet_add_same (over_q _ _ _)))
  go_wp2
  go_quiet ((go_at_call 29; exact quiet_add_same (over_q _ _ _)))
  go_wp2
  go_quiet (fail)
  go_wp2
  go_ret
  exact ⟨rfl, by rw [HS.out]; exact (HG.out.set 8 _).alloc _, by repeat (with_reducible first | exact gself _ _ | refine gdrewN ?_ _ | refine galloc ?_ _ | refine gset ?_ _ _)⟩
theorem shrinks_110 (d : Dql) (c : Chg) (g : Nat) (w : World) (hg : At w g d.cells) (h1 : (c.done == d.Queued) = false) (h2 : (d.PrevQueued == d.Completed) = false) (h4 : c.isAll = false) (h5 : decide (0 < d.PrevOver) = true) (h6 : decide (d.Start < c.now) = true) (h7 : decide (d.Hold < IntKind.u64.wrap (c.now - d.Start)) = false) :
    Calls Try.prog 37 #[.pointer (some ⟨g, 0, none⟩), c.val] w fun e w' => e = .returned (.bool true) ∧ At w' g (shrinksS d c).cells ∧ w.grownBy w' (some g) := by
  have hc := hg.cell
  have hf := hg.free
  have hlt := hg.lt
  have HG := Lib.hid hg
  clear hg
  have HS : Hid (shrinksS d c = { d with Slack := mn d.Slack (mx (over ((d.Limit + d.PrevOver) % 4294967296) (2 * c.n % 4294967296)) (over d.PrevLast d.PrevOver)) }) := by simp only [Hid, shrinksS, lateB, slack3, slack2, slack1, h5, h6, h7]; rfl
  go_enter Try.func37, Try.ntmps37
  go_wp2
  go_quiet (fail)
  go_wp2
  go_quiet ((go_at_call 29; exact quiet_add_same (over_q _ _ _)))
  go_wp2
  go_quiet ((go_at_call 29; exact quiet_add_same (over_q _ _ _)))
  go_wp2
  go_quiet (fail)
  go_wp2
  go_ret
  exact ⟨rfl, by rw [HS.out]; exact (HG.out.set 8 _).alloc _, by repeat (with_reducible first | exact gself _ _ | refine gdrewN ?_ _ | refine galloc ?_ _ | refine gset ?_ _ _)⟩
theorem shrinks_111 (d : Dql) (c : Chg) (g : Nat) (w : World) (hg : At w g d.cells) (h1 : (c.done == d.Queued) = false) (h2 : (d.PrevQueued == d.Completed) = false) (h4 : c.isAll = false) (h5 : decide (0 < d.PrevOver) = true) (h6 : decide (d.Start < c.now) = true) (h7 : decide (d.Hold < IntKind.u64.wrap (c.now - d.Start)) = true) :
    Calls Try.prog 37 #[.pointer (some ⟨g, 0, none⟩), c.val] w fun e w' => e = .returned (.bool true) ∧ At w' g (shrinksS d c).cells ∧ w.grownBy w' (some g) := by
  have hc := hg.cell
  have hf := hg.free
  have hlt := hg.lt
  have HG := Lib.hid hg
  clear hg
  have HS : Hid (shrinksS d c = { d with Limit := over d.Limit (mn d.Slack (mx (over ((d.Limit + d.PrevOver) % 4294967296) (2 * c.n % 4294967296)) (over d.PrevLast d.PrevOver))), Start := c.now, Slack := 4294967295 }) := by simp only [Hid, shrinksS, lateB, slack3, slack2, slack1, h5, h6, h7]; rfl
  go_enter Try.func37, Try.ntmps37
  go_wp2
  go_quiet (fail)
  go_wp2
  go_quiet ((go_at_call 29; exact quiet_add_same (over_q _ _ _)))
  go_wp2
  go_quiet ((go_at_call 29; exact quiet_add_same (over_q _ _ _)))
  go_wp2
  go_quiet (fail)
  go_wp2
  refine still_tail 10 (by kernel_rfl) (by kernel_rfl) ?_
  simp only [List.take_succ_cons, List.take_zero, List.drop_succ_cons, List.drop_zero]
  repeat (first | still_step | still_call (over_q _ _ _))
  refine wpStill_nil ?_
  go_wp2_with fail
  refine (restarts_c { d with Slack := mn d.Slack (mx (over ((d.Limit + d.PrevOver) % 4294967296) (2 * c.n % 4294967296)) (over d.PrevLast d.PrevOver)), Limit := over d.Limit (mn d.Slack (mx (over ((d.Limit + d.PrevOver) % 4294967296) (2 * c.n % 4294967296)) (over d.PrevLast d.PrevOver))) } g _ _ ((((HG.out.set 8 _).set 3 _).alloc _).drewN _)).mono ?_
  rintro e w' ⟨rfl, hg2, hw2⟩
  go_wp2_with fail
  go_ret
  exact ⟨rfl, by rw [HS.out]; exact hg2, gtrans (gdrewN (galloc (gset (gset (gself _ _) _ _) _ _) _) _) hw2⟩
theorem shrinks_yes (d : Dql) (c : Chg) (g : Nat) (w : World) (hg : At w g d.cells) (h : shrinksB d c = true) : Calls Try.prog 37 #[.pointer (some ⟨g, 0, none⟩), c.val] w fun e w' => e = .returned (.bool true) ∧ At w' g (shrinksS d c).cells ∧ w.grownBy w' (some g) := by
  simp only [shrinksB, Bool.and_eq_true, Bool.not_eq_true'] at h
  obtain ⟨⟨h1, h2⟩, h4⟩ := h
  cases h5 : decide (0 < d.PrevOver) <;> cases h6 : decide (d.Start < c.now)
  · exact shrinks_000 d c g w hg h1 h2 h4 h5 h6
  · cases h7 : decide (d.Hold < IntKind.u64.wrap (c.now - d.Start))
    · exact shrinks_010 d c g w hg h1 h2 h4 h5 h6 h7
    · exact shrinks_011 d c g w hg h1 h2 h4 h5 h6 h7
  · exact shrinks_100 d c g w hg h1 h2 h4 h5 h6
  · cases h7 : decide (d.Hold < IntKind.u64.wrap (c.now - d.Start))
    · exact shrinks_110 d c g w hg h1 h2 h4 h5 h6 h7
    · exact shrinks_111 d c g w hg h1 h2 h4 h5 h6 h7
end Go.Proofs.Ythopimfpiimloaa
