/- shown: it returns true. -/
import Derived.Test.YtimogbalkhgplaaJ
namespace Go.Proofs.Ytimogbalkhgplaa
open Go.RowKit Go.Shelf
set_option linter.unusedSimpArgs false
set_option maxHeartbeats 1000000
attribute [local go_sem] alloc_drewN setCell_drewN max2_mx min2_mn max_two min_two
def sh0 : Bkt := ⟨1000, 10, 10, 0, 0⟩
def sh1 : Bkt := ⟨1000, 10, -20, 0, 0⟩
theorem right_sh0 : right sh0 = true := by rw [right_iff]; simp [sh0]
theorem right_sh1 : right sh1 = true := by rw [right_iff]; simp [sh1]
theorem ok_sh1 : sh1.Ok := by constructor <;> simp [sh1]
theorem sh_new (w : World) : Calls Try.prog 11 #[.int .u64 1000, .int .i64 10, .int .u64 0] w fun e w' => e = .returned (pairV sh0 0) ∧ Grew w w' :=
  (new_c 1000 10 0 w).mono fun e w' ⟨h, g⟩ => ⟨by rw [h, show newS 1000 10 0 = (sh0, 0) by unfold newS; rw [show newB 1000 10 0 = sh0 from rfl, right_sh0]; rfl], g⟩
theorem sh_bad (w : World) : Calls Try.prog 11 #[.int .u64 1, .int .i64 0, .int .u64 0] w fun e w' => e = .returned (pairV Bkt.zero 2) ∧ Grew w w' :=
  (new_c 1 0 0 w).mono fun e w' ⟨h, g⟩ => ⟨by
    have hb : right (newB 1 0 0) = false := by rw [Bool.eq_false_iff]; intro hc; have := (right_iff _).1 hc; simp [newB] at this
    rw [h, show newS 1 0 0 = (Bkt.zero, 2) by unfold newS; rw [hb]; rfl], g⟩
theorem sh_take (w : World) : Calls Try.prog 15 #[sh0.val, .int .i64 30] w fun e w' => e = .returned (tripV sh1 true 0) ∧ Grew w w' :=
  (take_c sh0 30 w).mono fun e w' ⟨h, g⟩ => ⟨by
    have hr : rises [1, 30, 65535] = true := by rw [rises_three_iff]; omega
    rw [h, show takeS sh0 30 = (sh1, true, 0) by unfold takeS; rw [right_sh0, hr]; simp [sh0, sh1]], g⟩
theorem sh_next (w : World) : Calls Try.prog 17 #[sh1.val] w fun e w' => e = .returned (.tuple #[.int .u64 21000000, .int .i64 0]) ∧ Grew w w' :=
  (next_c sh1 ok_sh1 w).mono fun e w' ⟨h, g⟩ => ⟨by
    rw [h, show nextS sh1 = (21000000, 0) by unfold nextS; rw [right_sh1, nextT_dry sh1 (by simp [sh1]) (by simp [sh1])]; simp [sh1, needS, ceilD, mn]], g⟩
theorem shown_c (w : World) : Calls Try.prog 10 #[] w fun e w' => e = .returned (.bool true) ∧ Grew w w' := by
  go_enter Try.func10, Try.ntmps10
  go_wp2_with fail
  refine (sh_new _).mono ?_
  rintro e w1 ⟨rfl, hb1⟩
  have HG1 := Lib.hid hb1
  clear hb1
  go_wp2_with fail
  refine (sh_take _).mono ?_
  rintro e w2 ⟨rfl, hb2⟩
  have HG2 := Lib.hid ((HG1.out.alloc (.cells sh0.cells 24)).trans hb2)
  clear hb2 HG1
  go_wp2_with fail
  refine (sh_next _).mono ?_
  rintro e w3 ⟨rfl, hb3⟩
  have hA3 := (at_alloc w2 sh1.cells).grew hb3
  have HG3 := Lib.hid ((HG2.out.alloc (.cells sh1.cells 24)).trans hb3)
  have HA := Lib.hid hA3
  clear hb3 HG2 hA3
  go_wp2_with fail
  refine (sh_bad _).mono ?_
  rintro e w4 ⟨rfl, hb4⟩
  have hA4 := HA.out.grew hb4
  have HG4 := Lib.hid (HG3.out.trans hb4)
  have hc := hA4.cell
  have hlt := hA4.lt
  have e1 : (sh1.Level == -20) = true := rfl
  clear hb4 HG3 hA4 HA
  go_wp2_with fail
  go_ret
  exact ⟨rfl, HG4.out.alloc _⟩
end Go.Proofs.Ytimogbalkhgplaa
