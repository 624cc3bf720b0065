/- Contracts: New, Take and what the references say of them. -/
import Derived.Test.YtimogbalkhgplaaG
namespace Go.Proofs.Ytimogbalkhgplaa
open Go.RowKit
set_option linter.unusedSimpArgs false
set_option maxHeartbeats 1000000
attribute [local go_sem] alloc_drewN setCell_drewN max2_mx min2_mn max_two min_two
theorem new_c (rate burst now : Int) (w : World) : Calls Try.prog 11 #[.int .u64 rate, .int .i64 burst, .int .u64 now] w fun e w' => e = .returned (pairV (newS rate burst now).1 (newS rate burst now).2) ∧ Grew w w' := by
  cases h1 : right (newB rate burst now)
  all_goals
    have HR : Hid (newS rate burst now = if right (newB rate burst now) = true then (newB rate burst now, 0) else (Bkt.zero, 2)) := rfl
    go_enter Try.func11, Try.ntmps11
    go_wp2_with fail
    refine (right_c (newB rate burst now) _).mono ?_
    rintro e w1 ⟨rfl, hb1⟩
    obtain ⟨hc1, hf1, hz1, hy1⟩ := kept2 (w := w) hb1 (by simp)
    have HB := Lib.hid hb1
    clear hb1
    go_wp2_with fail
  · refine bodyPost_ret (v := pairV Bkt.zero 2) (by simp [results, Try.results11, go_sem, Bkt.zero, *]) rfl ⟨by rw [HR.out, h1]; rfl, ?_⟩
    repeat (with_reducible first | exact Grew.refl _ | refine Grew.drewN ?_ _ | refine Grew.alloc ?_ _ | refine Grew.set ?_ _ (by simp) _ | refine Grew.trans ?_ HB.out)
  · refine bodyPost_ret (v := pairV (newB rate burst now) 0) (by simp [results, Try.results11, go_sem, newB, *]) rfl ⟨by rw [HR.out, h1]; rfl, ?_⟩
    repeat (with_reducible first | exact Grew.refl _ | refine Grew.drewN ?_ _ | refine Grew.alloc ?_ _ | refine Grew.set ?_ _ (by simp) _ | refine Grew.trans ?_ HB.out)
theorem take_c (d : Bkt) (n : Int) (w : World) : Calls Try.prog 15 #[d.val, .int .i64 n] w fun e w' => e = .returned (tripV (takeS d n).1 (takeS d n).2.1 (takeS d n).2.2) ∧ Grew w w' := by
  cases h1 : right d
  · have HR : Hid (takeS d n = (Bkt.zero, false, 2)) := by simp [Hid, takeS, h1]
    go_enter Try.func15, Try.ntmps15
    go_wp2_with fail
    refine (right_c d _).mono ?_
    rintro e w1 ⟨rfl, hb1⟩
    obtain ⟨hc1, hf1, hz1, hy1⟩ := kept2 (w := w) hb1 (by simp)
    have HB := Lib.hid hb1
    clear hb1
    go_wp2_with fail
    refine bodyPost_ret (v := tripV Bkt.zero false 2) (by simp [results, Try.results15, go_sem, Bkt.zero, *]) rfl ⟨by rw [HR.out], ?_⟩
    repeat (with_reducible first | exact Grew.refl _ | refine Grew.drewN ?_ _ | refine Grew.alloc ?_ _ | refine Grew.set ?_ _ (by simp) _ | refine Grew.trans ?_ HB.out)
  cases h2 : rises [1, n, 65535]
  · have HR : Hid (takeS d n = (Bkt.zero, false, 2)) := by simp [Hid, takeS, h1, h2]
    go_enter Try.func15, Try.ntmps15
    go_wp2_with fail
    refine (right_c d _).mono ?_
    rintro e w1 ⟨rfl, hb1⟩
    obtain ⟨hc1, hf1, hz1, hy1⟩ := kept2 (w := w) hb1 (by simp)
    have HB := Lib.hid hb1
    clear hb1
    go_wp2_with (go_at_call 23; (with_reducible refine (rises3_c _ _ _ _ _ ?hn).mono ?_); (case hn => simp); rintro e w' ⟨rfl, m, rfl⟩)
    refine bodyPost_ret (v := tripV Bkt.zero false 2) (by simp [results, Try.results15, go_sem, Bkt.zero, *]) rfl ⟨by rw [HR.out], ?_⟩
    repeat (with_reducible first | exact Grew.refl _ | refine Grew.drewN ?_ _ | refine Grew.alloc ?_ _ | refine Grew.set ?_ _ (by simp) _ | refine Grew.trans ?_ HB.out)
  · cases h3 : (d.Rate == 0)
    · have h3' : ¬ d.Rate = 0 := by simpa using h3
      cases h4 : decide (d.Level ≤ 0)
      · have h4' : ¬ d.Level ≤ 0 := of_decide_eq_false h4
        have HR : Hid (takeS d n = ({ d with Level := d.Level - n }, true, 0)) := by simp only [Hid, takeS, h1, h2, and_self, if_true, if_neg h3', if_neg h4']
        have hr := (right_iff d).1 h1
        have hn := (rises_three_iff _ _ _).1 h2
        have hsub : IntKind.i64.wrap (d.Level - n) = d.Level - n := by rw [IntKind.wrap_i64]; omega
        have q1 : -9223372036854775808 ≤ d.Level - n := by omega
        have q2 : d.Level - n ≤ 9223372036854775807 := by omega
        clear h3' h4' hr hn
        go_enter Try.func15, Try.ntmps15
        go_wp2_with fail
        refine (right_c d _).mono ?_
        rintro e w1 ⟨rfl, hb1⟩
        obtain ⟨hc1, hf1, hz1, hy1⟩ := kept2 (w := w) hb1 (by simp)
        have HB := Lib.hid hb1
        clear hb1
        go_wp2_with (go_at_call 23; (with_reducible refine (rises3_c _ _ _ _ _ ?hn).mono ?_); (case hn => simp); rintro e w' ⟨rfl, m, rfl⟩)
        refine bodyPost_ret (v := tripV { d with Level := d.Level - n } true 0) (by simp [results, Try.results15, go_sem, *]) rfl ⟨by rw [HR.out], ?_⟩
        repeat (with_reducible first | exact Grew.refl _ | refine Grew.drewN ?_ _ | refine Grew.alloc ?_ _ | refine Grew.set ?_ _ (by simp) _ | refine Grew.trans ?_ HB.out)
      · have h4' : d.Level ≤ 0 := of_decide_eq_true h4
        have HR : Hid (takeS d n = (d, false, 0)) := by simp only [Hid, takeS, h1, h2, and_self, if_true, if_neg h3', if_pos h4']
        clear h3' h4'
        go_enter Try.func15, Try.ntmps15
        go_wp2_with fail
        refine (right_c d _).mono ?_
        rintro e w1 ⟨rfl, hb1⟩
        obtain ⟨hc1, hf1, hz1, hy1⟩ := kept2 (w := w) hb1 (by simp)
        have HB := Lib.hid hb1
        clear hb1
        go_wp2_with (go_at_call 23; (with_reducible refine (rises3_c _ _ _ _ _ ?hn).mono ?_); (case hn => simp); rintro e w' ⟨rfl, m, rfl⟩)
        refine bodyPost_ret (v := tripV d false 0) (by simp [results, Try.results15, go_sem, *]) rfl ⟨by rw [HR.out], ?_⟩
        repeat (with_reducible first | exact Grew.refl _ | refine Grew.drewN ?_ _ | refine Grew.alloc ?_ _ | refine Grew.set ?_ _ (by simp) _ | refine Grew.trans ?_ HB.out)
    · have h3' : d.Rate = 0 := by simpa using h3
      have HR : Hid (takeS d n = (d, true, 0)) := by simp only [Hid, takeS, h1, h2, and_self, if_true, if_pos h3']
      clear h3'
      go_enter Try.func15, Try.ntmps15
      go_wp2_with fail
      refine (right_c d _).mono ?_
      rintro e w1 ⟨rfl, hb1⟩
      obtain ⟨hc1, hf1, hz1, hy1⟩ := kept2 (w := w) hb1 (by simp)
      have HB := Lib.hid hb1
      clear hb1
      go_wp2_with (go_at_call 23; (with_reducible refine (rises3_c _ _ _ _ _ ?hn).mono ?_); (case hn => simp); rintro e w' ⟨rfl, m, rfl⟩)
      refine bodyPost_ret (v := tripV d true 0) (by simp [results, Try.results15, go_sem, *]) rfl ⟨by rw [HR.out], ?_⟩
      repeat (with_reducible first | exact Grew.refl _ | refine Grew.drewN ?_ _ | refine Grew.alloc ?_ _ | refine Grew.set ?_ _ (by simp) _ | refine Grew.trans ?_ HB.out)
end Go.Proofs.Ytimogbalkhgplaa
