/- Contracts: Reset, the program's and the reference's. -/
import Derived.Test.YthopimfpiimloaaN
import Derived.Test.YthopimfpiimloaaV
namespace Go.Proofs.Ythopimfpiimloaa
open Go.RowKit Go.Shelf
set_option linter.unusedSimpArgs false
set_option maxHeartbeats 1000000
attribute [local go_sem] alloc_drewN setCell_drewN max2_mx min2_mn max_two min_two
/-- Is a state without anything? -/
def isZ (d : Dql) : Bool := (d.Queued == 0 && (d.Adj == 0 && (d.Last == 0 && (d.Limit == 0 && (d.Completed == 0 && (d.PrevOver == 0 && (d.PrevLast == 0 && (d.PrevQueued == 0 && (d.Slack == 0 && (d.Start == 0 && (d.Hold == 0 && (d.Min == 0 && (d.Max == 0 && true)))))))))))))
theorem isZ_right {d : Dql} (h : right d = true) : isZ d = false := by
  have hr := (right_iff d).1 h
  have hm : (d.Min == 0) = false := by simp; omega
  simp [isZ, hm]
theorem eqZ (k : Nat) (w : World) (d : Dql) : (Op.equalIn (k + 2) 26 (.agg #[.int .u32 d.Queued, .int .u32 d.Adj, .int .u32 d.Last, .int .u32 d.Limit, .int .u32 d.Completed, .int .u32 d.PrevOver, .int .u32 d.PrevLast, .int .u32 d.PrevQueued, .int .u32 d.Slack, .int .u64 d.Start, .int .u64 d.Hold, .int .u32 d.Min, .int .u32 d.Max]) (.agg #[.int .u32 0, .int .u32 0, .int .u32 0, .int .u32 0, .int .u32 0, .int .u32 0, .int .u32 0, .int .u32 0, .int .u32 0, .int .u64 0, .int .u64 0, .int .u32 0, .int .u32 0])).run Try.prog w = .ok (isZ d) w := eqD k w ..
attribute [local go_sem high] eqZ
def resetS (d : Dql) (now : Int) : Dql × Int := if right d = true then (newS d.Min d.Max d.Hold now, 0) else (Dql.zero, 2)
theorem right_rises {d : Dql} (h : right d = true) : rises [1, d.Min, d.Max, 1073741824] = true := by
  have hr := (right_iff d).1 h
  rw [rises_four_iff]
  omega
theorem reset_c (d : Dql) (n : Int) (w : World) : Calls Try.prog 24 #[d.val, .int .u64 n] w fun e w' => e = .returned (pairV (resetS d n).1 (resetS d n).2) ∧ Grew w w' := by
  cases h1 : right d
  · have HR : Hid (resetS d n = (Dql.zero, 2)) := by simp [Hid, resetS, h1]
    cases hz : isZ d
    · go_enter Try.func24, Try.ntmps24
      go_wp2_with fail
      refine (right_c d _).mono ?_
      rintro e w1 ⟨rfl, hb1⟩
      obtain ⟨hc1, hf1, hz1⟩ := keptAll (w := w) 3 hb1 (by simp)
      have HB := Lib.hid hb1
      clear hb1
      go_wp2_with fail
      refine bodyPost_ret (v := pairV Dql.zero 2) (by simp [results, Try.results24, go_sem, Dql.zero, *]) rfl ⟨by rw [HR.out], ?_⟩
      repeat (with_reducible first | exact Grew.refl _ | refine Grew.drewN ?_ _ | refine Grew.alloc ?_ _ | refine Grew.set ?_ _ (by simp) _ | refine Grew.trans ?_ HB.out)
    · go_enter Try.func24, Try.ntmps24
      go_wp2_with fail
      refine bodyPost_ret (v := pairV Dql.zero 2) (by simp [results, Try.results24, go_sem, Dql.zero, *]) rfl ⟨by rw [HR.out], ?_⟩
      repeat (with_reducible first | exact Grew.refl _ | refine Grew.drewN ?_ _ | refine Grew.alloc ?_ _ | refine Grew.set ?_ _ (by simp) _)
  · have HR : Hid (resetS d n = (newS d.Min d.Max d.Hold n, 0)) := by simp [Hid, resetS, h1]
    have hz : isZ d = false := isZ_right h1
    have HRI := Lib.hid (right_rises h1)
    go_enter Try.func24, Try.ntmps24
    go_wp2_with fail
    refine (right_c d _).mono ?_
    rintro e w1 ⟨rfl, hb1⟩
    obtain ⟨hc1, hf1, hz1⟩ := keptAll (w := w) 3 hb1 (by simp)
    have HB := Lib.hid hb1
    clear hb1
    go_wp2_with fail
    refine (new_yes _ _ _ _ _ HRI.out).mono ?_
    rintro e w2 ⟨rfl, hb2⟩
    obtain ⟨hc2, hf2, hz2⟩ := keptAll (w := w) 3 hb2 (by first | omega | (simp; omega))
    have HB2 := Lib.hid hb2
    clear hb2
    go_wp2_with fail
    refine bodyPost_ret (v := pairV (newS d.Min d.Max d.Hold n) 0) (by simp [results, Try.results24, go_sem, newS, *]) rfl ⟨by rw [HR.out], ?_⟩
    repeat (with_reducible first | exact Grew.refl _ | refine Grew.drewN ?_ _ | refine Grew.alloc ?_ _ | refine Grew.set ?_ _ (by simp) _ | refine Grew.trans ?_ HB2.out | refine Grew.trans ?_ HB.out)
theorem rreset_c (d : Dql) (n : Int) (w : World) : Calls Try.prog 25 #[d.val, .int .u64 n] w fun e w' => e = .returned (pairV (resetS d n).1 (resetS d n).2) ∧ Grew w w' := by
  cases h1 : right d
  · have HR : Hid (resetS d n = (Dql.zero, 2)) := by simp [Hid, resetS, h1]
    go_enter Try.func25, Try.ntmps25
    go_wp2_with fail
    refine (rright_c' d _).mono ?_
    rintro e w1 ⟨rfl, hb1⟩
    obtain ⟨hc1, hf1, hz1⟩ := keptAll (w := w) 2 hb1 (by simp)
    have HB := Lib.hid hb1
    clear hb1
    go_wp2_with fail
    refine bodyPost_ret (v := pairV Dql.zero 2) (by simp [results, Try.results25, go_sem, Dql.zero, *]) rfl ⟨by rw [HR.out], ?_⟩
    repeat (with_reducible first | exact Grew.refl _ | refine Grew.drewN ?_ _ | refine Grew.alloc ?_ _ | refine Grew.set ?_ _ (by simp) _ | refine Grew.trans ?_ HB.out)
  · have HR : Hid (resetS d n = (newS d.Min d.Max d.Hold n, 0)) := by simp [Hid, resetS, h1]
    have HRI := Lib.hid (right_rises h1)
    go_enter Try.func25, Try.ntmps25
    go_wp2_with fail
    refine (rright_c' d _).mono ?_
    rintro e w1 ⟨rfl, hb1⟩
    obtain ⟨hc1, hf1, hz1⟩ := keptAll (w := w) 2 hb1 (by simp)
    have HB := Lib.hid hb1
    clear hb1
    go_wp2_with fail
    refine (rnew_yes _ _ _ _ _ HRI.out).mono ?_
    rintro e w2 ⟨rfl, hb2⟩
    obtain ⟨hc2, hf2, hz2⟩ := keptAll (w := w) 2 hb2 (by first | omega | (simp; omega))
    have HB2 := Lib.hid hb2
    clear hb2
    go_wp2_with fail
    refine bodyPost_ret (v := pairV (newS d.Min d.Max d.Hold n) 0) (by simp [results, Try.results25, go_sem, newS, *]) rfl ⟨by rw [HR.out], ?_⟩
    repeat (with_reducible first | exact Grew.refl _ | refine Grew.drewN ?_ _ | refine Grew.alloc ?_ _ | refine Grew.set ?_ _ (by simp) _ | refine Grew.trans ?_ HB2.out | refine Grew.trans ?_ HB.out)
end Go.Proofs.Ythopimfpiimloaa
