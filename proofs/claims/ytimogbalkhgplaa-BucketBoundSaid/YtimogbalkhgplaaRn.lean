/- Contract of the reference: Next. -/
import Derived.Test.YtimogbalkhgplaaR
namespace Go.Proofs.Ytimogbalkhgplaa
open Go.RowKit
set_option linter.unusedSimpArgs false
set_option maxHeartbeats 1000000
attribute [local go_sem] alloc_drewN setCell_drewN max2_mx min2_mn max_two min_two
theorem ceil_quo (need rate : Int) (h : 0 < rate) : ceilD need rate = if 0 < need % rate then need / rate + 1 else need / rate := by
  have e := Int.emod_add_mul_ediv need rate
  have hm := Int.emod_nonneg need (show rate ≠ 0 by omega)
  have hl := Int.emod_lt_of_pos need h
  unfold ceilD
  generalize need % rate = m at e hm hl ⊢
  generalize need / rate = k at e ⊢
  split
  · have e2 : need + rate - 1 = (m - 1) + rate * (k + 1) := by rw [Int.mul_add]; omega
    rw [e2, Int.add_mul_ediv_left _ _ (by omega), Int.ediv_eq_zero_of_lt (by omega) (by omega)]
    omega
  · have e2 : need + rate - 1 = (rate - 1) + rate * k := by omega
    rw [e2, Int.add_mul_ediv_left _ _ (by omega), Int.ediv_eq_zero_of_lt (by omega) (by omega)]
    omega
theorem rnext_c (d : Bkt) (hd : d.Ok) (w : World) : Calls Try.prog 18 #[d.val] w fun e w' => e = .returned (.tuple #[.int .u64 (nextS d).1, .int .i64 (nextS d).2]) ∧ Grew w w' := by
  cases h1 : right d
  · rw [show nextS d = (0, 2) by simp [nextS, h1]]
    go_enter Try.func18, Try.ntmps18
    go_wp2_with fail
    refine (rright_c d _).mono ?_
    rintro e w1 ⟨rfl, hb1⟩
    have HB := Lib.hid (((Grew.refl w).alloc _).trans hb1)
    clear hb1
    go_wp2_with fail
    go_ret2
    exact ⟨rfl, HB.out⟩
  rw [show nextS d = (nextT d, 0) by simp [nextS, h1]]
  by_cases h2 : d.Rate = 0 ∨ 0 < d.Level
  · rw [nextT_wet d h2]
    cases h3 : (d.Rate == 0)
    case' false =>
      have h4 : decide (0 < d.Level) = true := by
        have : ¬ d.Rate = 0 := by simpa using h3
        simp
        omega
    all_goals
      clear h2
      go_enter Try.func18, Try.ntmps18
      go_wp2_with fail
      refine (rright_c d _).mono ?_
      rintro e w1 ⟨rfl, hb1⟩
      obtain ⟨hc1, hf1, hz1⟩ := kept1 (w := w) hb1 (by simp)
      have HB := Lib.hid (((Grew.refl w).alloc _).trans hb1)
      clear hb1
      go_wp2_with fail
      go_ret2
      exact ⟨rfl, HB.out⟩
  · have hr := (right_iff d).1 h1
    have hR := hd.hRate
    have hM := hd.hRem
    have hA := hd.hAt
    have h3 : (d.Rate == 0) = false := by simp; omega
    have h4 : decide (0 < d.Level) = false := by simp; omega
    have hT := nextT_dry d (by omega) (by omega)
    have hcq := ceil_quo (needS d) d.Rate (by omega)
    have hn : needS d = (1 - d.Level) * 1000000000 - d.Rem := rfl
    have hn0 : 0 < needS d := by omega
    have hn1 : needS d ≤ 1073741825000000000 := by omega
    have e1 : IntKind.i64.wrap (1 - d.Level) = 1 - d.Level := by rw [IntKind.wrap_i64]; omega
    have e2 : IntKind.u64.wrap (1 - d.Level) = 1 - d.Level := by rw [IntKind.wrap_u64]; omega
    have e3 : IntKind.u64.wrap ((1 - d.Level) * 1000000000) = (1 - d.Level) * 1000000000 := by rw [IntKind.wrap_u64]; omega
    have e4 : IntKind.u64.wrap ((1 - d.Level) * 1000000000 - d.Rem) = (1 - d.Level) * 1000000000 - d.Rem := by rw [IntKind.wrap_u64]; omega
    have HT := Lib.hid hT
    have HCQ := Lib.hid hcq
    have HN := Lib.hid hn
    have HN0 := Lib.hid hn0
    have HN1 := Lib.hid hn1
    have HR := Lib.hid hr
    have HRR := Lib.hid hR
    have HMM := Lib.hid hM
    have HAA := Lib.hid hA
    clear hT hcq hn hn0 hn1 hr hR hM hA h2 hd
    go_enter Try.func18, Try.ntmps18
    go_wp2_with fail
    refine (rright_c d _).mono ?_
    rintro e w1 ⟨rfl, hb1⟩
    obtain ⟨hc1, hf1, hz1⟩ := kept1 (w := w) hb1 (by simp)
    have HB := Lib.hid (((Grew.refl w).alloc _).trans hb1)
    clear hb1
    go_upto_region 7 with (fail)
    rw [← HN.out]
    obtain ⟨nd, hnd⟩ : ∃ nd, needS d = nd := ⟨_, rfl⟩
    have k0 := HN0.out
    have k1 := HN1.out
    have k2 := HRR.out
    have k3 := HAA.out
    have k4 := HR.out
    have k5 : 1 ≤ d.Rate := by
      have : ¬ d.Rate = 0 := by simpa using h3
      omega
    have k6 : d.Rate ≤ 1099511627776 := by omega
    have k7 : 0 ≤ d.At := by omega
    have k8 : d.At ≤ 9223372036854775807 := by omega
    rw [hnd] at k0 k1 ⊢
    have hcq := HCQ.out
    have hT := HT.out
    rw [hnd] at hcq hT
    have hq0 : 0 ≤ nd / d.Rate := Int.ediv_nonneg (by omega) (by omega)
    have hq1 : nd / d.Rate ≤ nd := Int.ediv_le_self _ (by omega)
    have hm0 : 0 ≤ nd % d.Rate := Int.emod_nonneg _ (by omega)
    have hm1 : nd % d.Rate < d.Rate := Int.emod_lt_of_pos _ (by omega)
    have HT := Lib.hid hT
    have HCQ := Lib.hid hcq
    clear hcq hT HN HN0 HN1 HR HRR HMM HAA e1 e2 e3 e4 hnd k2 k3 k4
    go_upto_region 8 with (fail)
    obtain ⟨q, hq⟩ : ∃ q, nd / d.Rate = q := ⟨_, rfl⟩
    rw [hq] at hq0 hq1 ⊢
    have HQ : Hid (ceilD nd d.Rate = if 0 < nd % d.Rate then q + 1 else q) := by rw [Hid, HCQ.out, hq]
    clear HCQ hq
    have HCQ := HQ
    clear HQ
    cases hmz : decide (0 < nd % d.Rate)
    · have hmn := of_decide_eq_false hmz
      have HMN := Lib.hid hmn
      clear hmn
      cases hz : decide (9223372036854775807 - d.At < q)
      · have HX : Hid (nextT d = d.At + q) := by
          have z := of_decide_eq_false hz
          rw [Hid, HT.out, HCQ.out, if_neg HMN.out]
          unfold mn
          rw [if_neg (by omega)]
        have z := Int.not_lt.1 (of_decide_eq_false hz)
        have z2 : d.At + q ≤ 9223372036854775807 := by omega
        clear z
        go_wp2_with fail
        go_ret2
        exact ⟨ret_pair HX.out.symm rfl, HB.out⟩
      · have HX : Hid (nextT d = 9223372036854775807) := by
          have z := of_decide_eq_true hz
          rw [Hid, HT.out, HCQ.out, if_neg HMN.out]
          unfold mn
          rw [if_pos (by omega)]
        go_wp2_with fail
        go_ret2
        exact ⟨ret_pair HX.out.symm rfl, HB.out⟩
    · have hmn := of_decide_eq_true hmz
      have HMN := Lib.hid hmn
      clear hmn
      cases hz : decide (9223372036854775807 - d.At < (q + 1))
      · have HX : Hid (nextT d = d.At + (q + 1)) := by
          have z := of_decide_eq_false hz
          rw [Hid, HT.out, HCQ.out, if_pos HMN.out]
          unfold mn
          rw [if_neg (by omega)]
        have z := Int.not_lt.1 (of_decide_eq_false hz)
        have z2 : d.At + (q + 1) ≤ 9223372036854775807 := by omega
        clear z
        go_wp2_with fail
        go_ret2
        exact ⟨ret_pair HX.out.symm rfl, HB.out⟩
      · have HX : Hid (nextT d = 9223372036854775807) := by
          have z := of_decide_eq_true hz
          rw [Hid, HT.out, HCQ.out, if_pos HMN.out]
          unfold mn
          rw [if_pos (by omega)]
        go_wp2_with fail
        go_ret2
        exact ⟨ret_pair HX.out.symm rfl, HB.out⟩
end Go.Proofs.Ytimogbalkhgplaa
