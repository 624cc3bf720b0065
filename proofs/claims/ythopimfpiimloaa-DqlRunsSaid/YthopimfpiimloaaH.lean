/- shown: it returns true. -/
import Derived.Test.YthopimfpiimloaaL
import Derived.Test.YthopimfpiimloaaC1
import Derived.Test.YthopimfpiimloaaC2
import Derived.Test.YthopimfpiimloaaP
namespace Go.Proofs.Ythopimfpiimloaa
open Go.RowKit Go.Shelf
set_option linter.unusedSimpArgs false
set_option maxHeartbeats 400000
attribute [local go_sem] alloc_drewN setCell_drewN max2_mx min2_mn max_two min_two
def sh0 : Dql := ⟨0, 10, 0, 10, 0, 0, 0, 0, 4294967295, 0, 5, 10, 100⟩
def sh1 : Dql := ⟨30, 10, 30, 10, 0, 0, 0, 0, 4294967295, 0, 5, 10, 100⟩
def sh2 : Dql := ⟨30, 70, 30, 40, 30, 0, 30, 30, 4294967295, 1, 5, 10, 100⟩
theorem right_sh0 : right sh0 = true := by simp only [right, rises_five, sh0]; decide
theorem right_sh1 : right sh1 = true := by simp only [right, rises_five, sh1]; decide
theorem sh_new (w : World) : Calls Try.prog 12 #[.int .u32 10, .int .u32 100, .int .u64 5, .int .u64 0] w fun e w' => e = .returned (pairV sh0 0) ∧ Grew w w' :=
  (new_c 10 100 5 0 w).mono fun e w' ⟨h, g⟩ => ⟨by rw [h, rises_four]; rfl, g⟩
theorem sh_bad (w : World) : Calls Try.prog 12 #[.int .u32 5, .int .u32 4, .int .u64 0, .int .u64 0] w fun e w' => e = .returned (pairV Dql.zero 2) ∧ Grew w w' :=
  (new_c 5 4 0 0 w).mono fun e w' ⟨h, g⟩ => ⟨by rw [h, rises_four]; rfl, g⟩
theorem sh_queue (w : World) : Calls Try.prog 20 #[sh0.val, .int .u32 30] w fun e w' => e = .returned (pairV sh1 0) ∧ Grew w w' :=
  (queue_c sh0 30 w).mono fun e w' ⟨h, g⟩ => ⟨by rw [h, show queueS sh0 30 = (sh1, 0) by simp only [queueS, right_sh0, if_true, rises_three]; rfl], g⟩
theorem sh_left (w : World) : Calls Try.prog 15 #[sh1.val] w fun e w' => e = .returned (.int .i32 (-20)) ∧ Grew w w' :=
  (left_c sh1 w).mono fun e w' ⟨h, g⟩ => ⟨by rw [h, show left sh1 = -20 by simp [left, far, sh1, wrap32]], g⟩
theorem sh_complete (w : World) : Calls Try.prog 22 #[sh1.val, .int .u32 30, .int .u64 1] w fun e w' => e = .returned (pairV sh2 0) ∧ Grew w w' :=
  (complete_c sh1 30 1 w).mono fun e w' ⟨h, g⟩ => ⟨by rw [h, show completeS sh1 30 1 = (sh2, 0) by simp only [completeS, right_sh1, if_true]; simp [closeS, stepS, growsB, growsS, chgOf, over, ahead, far, wrap32, flight, sh1, sh2, mx, mn]], g⟩
theorem sh_flight (w : World) : Calls Try.prog 18 #[sh2.val] w fun e w' => e = .returned (.int .u32 0) ∧ Grew w w' :=
  (flight_c sh2 w).mono fun e w' ⟨h, g⟩ => ⟨by rw [h]; rfl, g⟩
/-- A whole state stored in a block. -/
@[reducible] def storeD (w : World) (g : Nat) (d : Dql) : World := ((((((((((((w.setCell ⟨g, 0, none⟩ (.int .u32 d.Queued)).setCell ⟨g, 1, none⟩ (.int .u32 d.Adj)).setCell ⟨g, 2, none⟩ (.int .u32 d.Last)).setCell ⟨g, 3, none⟩ (.int .u32 d.Limit)).setCell ⟨g, 4, none⟩ (.int .u32 d.Completed)).setCell ⟨g, 5, none⟩ (.int .u32 d.PrevOver)).setCell ⟨g, 6, none⟩ (.int .u32 d.PrevLast)).setCell ⟨g, 7, none⟩ (.int .u32 d.PrevQueued)).setCell ⟨g, 8, none⟩ (.int .u32 d.Slack)).setCell ⟨g, 9, none⟩ (.int .u64 d.Start)).setCell ⟨g, 10, none⟩ (.int .u64 d.Hold)).setCell ⟨g, 11, none⟩ (.int .u32 d.Min)).setCell ⟨g, 12, none⟩ (.int .u32 d.Max)
theorem At.store {w : World} {g : Nat} {e : Dql} (h : At w g e.cells) (d : Dql) : At (storeD w g d) g d.cells :=
  At.cast (((((((((((((h.set 0 _).set 1 _).set 2 _).set 3 _).set 4 _).set 5 _).set 6 _).set 7 _).set 8 _).set 9 _).set 10 _).set 11 _).set 12 _) (by simp)
theorem At.farStore {w : World} {g : Nat} {cs : Array Value} (h : At w g cs) (b : Nat) (d : Dql) (hne : g ≠ b) : At (storeD w b d) g cs :=
  (((((((((((((h.far ⟨b, 0, none⟩ _ hne).far ⟨b, 1, none⟩ _ hne).far ⟨b, 2, none⟩ _ hne).far ⟨b, 3, none⟩ _ hne).far ⟨b, 4, none⟩ _ hne).far ⟨b, 5, none⟩ _ hne).far ⟨b, 6, none⟩ _ hne).far ⟨b, 7, none⟩ _ hne).far ⟨b, 8, none⟩ _ hne).far ⟨b, 9, none⟩ _ hne).far ⟨b, 10, none⟩ _ hne).far ⟨b, 11, none⟩ _ hne).far ⟨b, 12, none⟩ _ hne)
theorem Grew.store {w W : World} (h : Grew w W) (g : Nat) (d : Dql) (hg : w.heap.size ≤ g) : Grew w (storeD W g d) :=
  (((((((((((((h.set ⟨g, 0, none⟩ hg _).set ⟨g, 1, none⟩ hg _).set ⟨g, 2, none⟩ hg _).set ⟨g, 3, none⟩ hg _).set ⟨g, 4, none⟩ hg _).set ⟨g, 5, none⟩ hg _).set ⟨g, 6, none⟩ hg _).set ⟨g, 7, none⟩ hg _).set ⟨g, 8, none⟩ hg _).set ⟨g, 9, none⟩ hg _).set ⟨g, 10, none⟩ hg _).set ⟨g, 11, none⟩ hg _).set ⟨g, 12, none⟩ hg _)
theorem at_alloc (w : World) (cs : Array Value) : At (w.alloc (.cells cs 26)) w.heap.size cs := heap_alloc_new w _
theorem shown_c (w : World) : Calls Try.prog 11 #[] w fun e w' => e = .returned (.bool true) ∧ Grew w w' := by
  go_enter Try.func11, Try.ntmps11
  go_wp2_with fail
  refine (sh_new _).mono ?_
  rintro e w1 ⟨rfl, hb1⟩
  have HG1 := Lib.hid hb1
  clear hb1
  go_wp2_with fail
  refine (sh_queue _).mono ?_
  rintro e w2 ⟨rfl, hb2⟩
  have hA2 := (at_alloc w1 sh0.cells).grew hb2
  have HG2 := Lib.hid ((HG1.out.alloc _).trans hb2)
  clear hb2
  obtain ⟨b, hb⟩ : ∃ b, w1.heap.size = b := ⟨_, rfl⟩
  have hbw : w.heap.size ≤ b := by rw [← hb]; exact HG1.out.below.size
  rw [hb] at hA2 ⊢
  clear hb HG1
  have hc := hA2.cell
  have hf := hA2.free
  have HA2 := Lib.hid hA2
  clear hA2
  go_wp2_with fail
  refine (sh_left _).mono ?_
  rintro e w3 ⟨rfl, hb3⟩
  have hA3 := (HA2.out.store sh1).grew hb3
  have HG3 := Lib.hid ((HG2.out.store b sh1 hbw).trans hb3)
  clear hb3 hc hf HA2 HG2
  have hc := hA3.cell
  have hf := hA3.free
  have HA3 := Lib.hid hA3
  clear hA3
  go_wp2_with fail
  refine (sh_complete _).mono ?_
  rintro e w4 ⟨rfl, hb4⟩
  have hA4 := HA3.out.grew hb4
  have HG4 := Lib.hid (HG3.out.trans hb4)
  clear hb4 hc hf HA3 HG3
  have hc := hA4.cell
  have hf := hA4.free
  have HA4 := Lib.hid hA4
  clear hA4
  go_wp2_with fail
  refine (sh_bad _).mono ?_
  rintro e w5 ⟨rfl, hb5⟩
  have hA5 := (HA4.out.store sh2).grew hb5
  have HG5 := Lib.hid ((HG4.out.store b sh2 hbw).trans hb5)
  clear hb5 hc hf HA4 HG4
  have hc := hA5.cell
  have hf := hA5.free
  have hlt := hA5.lt
  have e1 : (sh2.Limit == 40) = true := rfl
  clear hA5
  go_wp2_with fail
  refine (sh_flight _).mono ?_
  rintro e w6 ⟨rfl, hb6⟩
  have HG6 := Lib.hid ((HG5.out.alloc _).trans hb6)
  clear hb6
  go_wp2_with fail
  go_ret
  exact ⟨rfl, HG6.out⟩
end Go.Proofs.Ythopimfpiimloaa
