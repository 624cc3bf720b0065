/- DqlNews: the walk. -/
import Derived.Test.YthopimfpiimloaaH
namespace Go.Proofs.Ythopimfpiimloaa
open Go.RowKit Go.Shelf
set_option linter.unusedSimpArgs false
set_option maxHeartbeats 400000
attribute [local go_sem] alloc_drewN setCell_drewN max2_mx min2_mn max_two min_two
attribute [local go_sem high] eqD
theorem new_yes (a b hold n : Int) (w : World) (h : rises [1, a, b, 1073741824] = true) : Calls Try.prog 12 #[.int .u32 a, .int .u32 b, .int .u64 hold, .int .u64 n] w fun e w' => e = .returned (pairV (newS a b hold n) 0) ∧ Grew w w' :=
  (new_c a b hold n w).mono fun e w' ⟨k, g⟩ => ⟨by rw [k, if_pos h, if_pos h], g⟩
theorem new_no (a b hold n : Int) (w : World) (h : rises [1, a, b, 1073741824] = false) : Calls Try.prog 12 #[.int .u32 a, .int .u32 b, .int .u64 hold, .int .u64 n] w fun e w' => e = .returned (pairV Dql.zero 2) ∧ Grew w w' :=
  (new_c a b hold n w).mono fun e w' ⟨k, g⟩ => ⟨by rw [k, if_neg (by simp [h]), if_neg (by simp [h])], g⟩
theorem rises_four_iff (a b c d : Int) : rises [a, b, c, d] = true ↔ (a ≤ b ∧ b ≤ c ∧ c ≤ d) := by rw [rises_four]; simp
def newR (a b hold n : Int) : Dql × Int := if rises [1, a, b, 1073741824] = true then (newS a b hold n, 0) else (Dql.zero, 2)
theorem rnew_c (a b hold n : Int) (w : World) : Calls Try.prog 13 #[.int .u32 a, .int .u32 b, .int .u64 hold, .int .u64 n] w fun e w' => e = .returned (pairV (newR a b hold n).1 (newR a b hold n).2) ∧ Grew w w' := by
  by_cases h1 : a < 1
  · have HR : Hid (newR a b hold n = (Dql.zero, 2)) := by simp only [Hid, newR]; rw [if_neg (by rw [rises_four_iff]; omega)]
    go_enter Try.func13, Try.ntmps13
    go_wp2
    refine bodyPost_ret (v := pairV Dql.zero 2) (by simp [results, Try.results13, go_sem, Dql.zero]) rfl ⟨by rw [HR.out], ?_⟩
    repeat (with_reducible first | exact Grew.refl _ | refine Grew.alloc ?_ _ | refine Grew.set ?_ _ (by simp) _)
  by_cases h2 : b < a
  · have HR : Hid (newR a b hold n = (Dql.zero, 2)) := by simp only [Hid, newR]; rw [if_neg (by rw [rises_four_iff]; omega)]
    go_enter Try.func13, Try.ntmps13
    go_wp2
    refine bodyPost_ret (v := pairV Dql.zero 2) (by simp [results, Try.results13, go_sem, Dql.zero]) rfl ⟨by rw [HR.out], ?_⟩
    repeat (with_reducible first | exact Grew.refl _ | refine Grew.alloc ?_ _ | refine Grew.set ?_ _ (by simp) _)
  by_cases h3 : 1073741824 < b
  · have HR : Hid (newR a b hold n = (Dql.zero, 2)) := by simp only [Hid, newR]; rw [if_neg (by rw [rises_four_iff]; omega)]
    go_enter Try.func13, Try.ntmps13
    go_wp2
    refine bodyPost_ret (v := pairV Dql.zero 2) (by simp [results, Try.results13, go_sem, Dql.zero]) rfl ⟨by rw [HR.out], ?_⟩
    repeat (with_reducible first | exact Grew.refl _ | refine Grew.alloc ?_ _ | refine Grew.set ?_ _ (by simp) _)
  · have HR : Hid (newR a b hold n = (newS a b hold n, 0)) := by simp only [Hid, newR]; rw [if_pos (by rw [rises_four_iff]; omega)]
    go_enter Try.func13, Try.ntmps13
    go_wp2
    refine bodyPost_ret (v := pairV (newS a b hold n) 0) (by simp [results, Try.results13, go_sem, newS]) rfl ⟨by rw [HR.out], ?_⟩
    repeat (with_reducible first | exact Grew.refl _ | refine Grew.alloc ?_ _ | refine Grew.set ?_ _ (by simp) _)
theorem rnew_yes (a b hold n : Int) (w : World) (h : rises [1, a, b, 1073741824] = true) : Calls Try.prog 13 #[.int .u32 a, .int .u32 b, .int .u64 hold, .int .u64 n] w fun e w' => e = .returned (pairV (newS a b hold n) 0) ∧ Grew w w' :=
  (rnew_c a b hold n w).mono fun e w' ⟨k, g⟩ => ⟨by rw [k, newR, if_pos h], g⟩
theorem rnew_no (a b hold n : Int) (w : World) (h : rises [1, a, b, 1073741824] = false) : Calls Try.prog 13 #[.int .u32 a, .int .u32 b, .int .u64 hold, .int .u64 n] w fun e w' => e = .returned (pairV Dql.zero 2) ∧ Grew w w' :=
  (rnew_c a b hold n w).mono fun e w' ⟨k, g⟩ => ⟨by rw [k, newR, if_neg (by simp [h])], g⟩
theorem right_new {a b hold n : Int} (h : rises [1, a, b, 1073741824] = true) : right (newS a b hold n) = true := by
  rw [rises_four] at h
  simp at h
  simp only [right, rises_five, newS, flight, far]
  simp
  omega
theorem left_new (a b hold n : Int) : left (newS a b hold n) = wrap32 a := by
  simp only [left, newS, far, wrap32]
  omega
theorem news_walk (a b hold n : Int) (w : World) : Calls Try.prog 3 #[.int .u32 a, .int .u32 b, .int .u64 hold, .int .u64 n] w fun e w' => e = .returned (.bool true) ∧ Grew w w' := by
  cases h : rises [1, a, b, 1073741824]
  · have HR := Lib.hid h
    clear h
    go_enter Try.func3, Try.ntmps3
    go_wp2_with fail
    refine (shown_c _).mono ?_
    rintro e w1 ⟨rfl, hb1⟩
    have HG1 := Lib.hid hb1
    clear hb1
    go_wp2_with fail
    refine (new_no _ _ _ _ _ HR.out).mono ?_
    rintro e w2 ⟨rfl, hb2⟩
    have HG2 := Lib.hid (HG1.out.trans hb2)
    clear hb2
    go_wp2_with fail
    refine (rnew_no _ _ _ _ _ HR.out).mono ?_
    rintro e w3 ⟨rfl, hb3⟩
    have hA := (at_alloc w2 Dql.zero.cells).grew hb3
    have HG3 := Lib.hid ((HG2.out.alloc _).trans hb3)
    have hc := hA.cell
    have hlt := hA.lt
    clear hb3 hA
    go_wp2_with fail
    go_ret
    exact ⟨rfl, HG3.out.alloc _⟩
  · have hr : right (newS a b hold n) = true := right_new h
    have hl : left (newS a b hold n) = wrap32 a := left_new a b hold n
    have HR := Lib.hid h
    clear h
    go_enter Try.func3, Try.ntmps3
    go_wp2_with fail
    refine (shown_c _).mono ?_
    rintro e w1 ⟨rfl, hb1⟩
    have HG1 := Lib.hid hb1
    clear hb1
    go_wp2_with fail
    refine (new_yes _ _ _ _ _ HR.out).mono ?_
    rintro e w2 ⟨rfl, hb2⟩
    have HG2 := Lib.hid (HG1.out.trans hb2)
    clear hb2
    go_wp2_with fail
    refine (rnew_yes _ _ _ _ _ HR.out).mono ?_
    rintro e w3 ⟨rfl, hb3⟩
    have hA := (at_alloc w2 (newS a b hold n).cells).grew hb3
    have HG3 := Lib.hid ((HG2.out.alloc _).trans hb3)
    have hc := hA.cell
    have hlt := hA.lt
    have HA := Lib.hid hA
    clear hb3 hA
    go_wp2_with fail
    refine (right_c (newS a b hold n) _).mono ?_
    rintro e w4 ⟨rfl, hb4⟩
    have hA4 := (HA.out.alloc _).grew hb4
    have HG4 := Lib.hid ((HG3.out.alloc _).trans hb4)
    clear hb4 hc hlt
    have hc := hA4.cell
    clear hA4
    go_wp2_with fail
    refine (left_c (newS a b hold n) _).mono ?_
    rintro e w5 ⟨rfl, hb5⟩
    have HG5 := Lib.hid (HG4.out.trans hb5)
    clear hb5
    go_wp2_with fail
    go_ret
    exact ⟨rfl, HG5.out⟩
end Go.Proofs.Ythopimfpiimloaa
