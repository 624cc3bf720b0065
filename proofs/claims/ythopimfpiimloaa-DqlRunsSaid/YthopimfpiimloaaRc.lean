/- Contracts of the references: Queue, Complete. -/
import Derived.Test.YthopimfpiimloaaRs
import Derived.Test.YthopimfpiimloaaY
import Derived.Test.YthopimfpiimloaaD
import Derived.Deep.DeepCutAuto
namespace Go.Proofs.Ythopimfpiimloaa
open Go.RowKit Go.Shelf
set_option linter.unusedSimpArgs false
set_option maxHeartbeats 1000000
set_option maxRecDepth 100000
attribute [local go_sem] alloc_drewN setCell_drewN max2_mx min2_mn max_two min_two
theorem rqueue_c (d : Dql) (n : Int) (hn : 0 ≤ n ∧ n ≤ 4294967295) (w : World) : Calls Try.prog 21 #[d.val, .int .u32 n] w fun e w' => e = .returned (pairV (queueS d n).1 (queueS d n).2) ∧ Grew w w' := by
  have hfl := flight_range d
  cases h1 : right d
  · have HR : Hid (queueS d n = (Dql.zero, 2)) := by simp [Hid, queueS, h1]
    go_enter Try.func21, Try.ntmps21
    go_wp2_with fail
    refine (rright_c' d _).mono ?_
    rintro e w1 ⟨rfl, hb1⟩
    obtain ⟨hc1, hf1, hz1⟩ := keptAll (w := w) 2 hb1 (by simp)
    have HB := Lib.hid hb1
    clear hb1
    go_wp2_with fail
    refine bodyPost_ret (v := pairV Dql.zero 2) (by simp [results, Try.results21, go_sem, Dql.zero, *]) rfl ⟨by rw [HR.out], ?_⟩
    repeat (with_reducible first | exact Grew.refl _ | refine Grew.drewN ?_ _ | refine Grew.alloc ?_ _ | refine Grew.set ?_ _ (by simp) _ | refine Grew.trans ?_ HB.out)
  · by_cases h2 : n < 1 ∨ 65535 < n
    · have HR : Hid (queueS d n = (Dql.zero, 40)) := by
        simp only [Hid, queueS, h1, if_true]
        rw [if_neg (by rw [rises_three_iff]; omega)]
      rcases h2 with h2 | h2
      all_goals
        try have h3 : ¬ n < 1 := by omega
        go_enter Try.func21, Try.ntmps21
        go_wp2_with fail
        refine (rright_c' d _).mono ?_
        rintro e w1 ⟨rfl, hb1⟩
        obtain ⟨hc1, hf1, hz1⟩ := keptAll (w := w) 2 hb1 (by simp)
        have HB := Lib.hid hb1
        clear hb1
        go_wp2_with fail
        refine bodyPost_ret (v := pairV Dql.zero 40) (by simp [results, Try.results21, go_sem, Dql.zero, *]) rfl ⟨by rw [HR.out], ?_⟩
        repeat (with_reducible first | exact Grew.refl _ | refine Grew.drewN ?_ _ | refine Grew.alloc ?_ _ | refine Grew.set ?_ _ (by simp) _ | refine Grew.trans ?_ HB.out)
    · have h3 : ¬ n < 1 := by omega
      have h4 : ¬ 65535 < n := by omega
      have h5 : decide (n < 1) = false := by simpa using h3
      have h6 : decide (65535 < n) = false := by simpa using h4
      have h7 : rises [1, n, 65535] = true := by rw [rises_three_iff]; omega
      by_cases h8 : 2147483647 < flight d + n
      · have HR : Hid (queueS d n = (Dql.zero, 40)) := by
          simp only [Hid, queueS, h1, h7, if_true]
          have hr := (right_iff d).1 h1
          rw [if_pos (by omega)]
        clear h2 h7
        go_enter Try.func21, Try.ntmps21
        go_wp2_with fail
        refine (rright_c' d _).mono ?_
        rintro e w1 ⟨rfl, hb1⟩
        obtain ⟨hc1, hf1, hz1⟩ := keptAll (w := w) 2 hb1 (by simp)
        have HB := Lib.hid hb1
        clear hb1
        go_wp2_with fail
        refine (rflight_c d _).mono ?_
        rintro e w2 ⟨rfl, hb2⟩
        obtain ⟨hc2, hf2, hz2⟩ := keptAll (w := w) 2 hb2 (by first | omega | (simp; omega))
        have HB2 := Lib.hid hb2
        clear hb2
        go_wp2_with fail
        refine bodyPost_ret (v := pairV Dql.zero 40) (by simp [results, Try.results21, go_sem, Dql.zero, *]) rfl ⟨by rw [HR.out], ?_⟩
        repeat (with_reducible first | exact Grew.refl _ | refine Grew.drewN ?_ _ | refine Grew.alloc ?_ _ | refine Grew.set ?_ _ (by simp) _ | refine Grew.trans ?_ HB2.out | refine Grew.trans ?_ HB.out)
      · have HR : Hid (queueS d n = ({ d with Queued := (d.Queued + n) % 4294967296, Last := n }, 0)) := queue_yes h1 (by omega) (by omega) (by omega)
        clear h2 h7
        go_enter Try.func21, Try.ntmps21
        go_wp2_with fail
        refine (rright_c' d _).mono ?_
        rintro e w1 ⟨rfl, hb1⟩
        obtain ⟨hc1, hf1, hz1⟩ := keptAll (w := w) 2 hb1 (by simp)
        have HB := Lib.hid hb1
        clear hb1
        go_wp2_with fail
        refine (rflight_c d _).mono ?_
        rintro e w2 ⟨rfl, hb2⟩
        obtain ⟨hc2, hf2, hz2⟩ := keptAll (w := w) 2 hb2 (by first | omega | (simp; omega))
        have HB2 := Lib.hid hb2
        clear hb2
        go_wp2_with fail
        refine bodyPost_ret (v := pairV { d with Queued := (d.Queued + n) % 4294967296, Last := n } 0) (by simp [results, Try.results21, go_sem, *]) rfl ⟨by rw [HR.out], ?_⟩
        repeat (with_reducible first | exact Grew.refl _ | refine Grew.drewN ?_ _ | refine Grew.alloc ?_ _ | refine Grew.set ?_ _ (by simp) _ | refine Grew.trans ?_ HB2.out | refine Grew.trans ?_ HB.out)
end Go.Proofs.Ythopimfpiimloaa
