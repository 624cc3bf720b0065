/- Contracts: gained, the reference's gain. -/
import Derived.Test.YtimogbalkhgplaaBd
namespace Go.Proofs.Ytimogbalkhgplaa
open Go.RowKit
set_option linter.unusedSimpArgs false
set_option maxHeartbeats 1000000
attribute [local go_sem] alloc_drewN setCell_drewN max2_mx min2_mn max_two min_two
theorem ret_pair {k l : IntKind} {a b c d : Int} (h : a = b) (h2 : c = d) : Ending.returned (.tuple #[.int k a, .int l c]) = .returned (.tuple #[.int k b, .int l d]) := by rw [h, h2]
theorem gained_c (d : Bkt) (ns : Int) (hd : d.Ok) (hn : 0 ≤ ns ∧ ns ≤ 18446744073709551615) (w : World) : Calls Try.prog 25 #[d.val, .int .u64 ns] w fun e w' => e = .returned (.tuple #[.int .i64 (gainedN d ns), .int .u64 (gainedR d ns)]) ∧ Grew w w' := by
  have hR := hd.hRate
  have hM := hd.hRem
  have hP : 0 ≤ d.Rate * ns := Int.mul_nonneg hR.1 hn.1
  have hP2 : d.Rate * ns ≤ 18446744073709551615 * 18446744073709551615 := Int.mul_le_mul hR.2 hn.2 hn.1 (by omega)
  have hG : got d ns = d.Rate * ns + d.Rem := rfl
  have HN : Hid (gainedN d ns = if 1000000000 ≤ got d ns / 18446744073709551616 then 1099511627776 else mn (got d ns / 1000000000) 1099511627776) := rfl
  have HRR : Hid (gainedR d ns = if 1000000000 ≤ got d ns / 18446744073709551616 then 0 else got d ns % 1000000000) := rfl
  have HR := Lib.hid hR
  have HNS := Lib.hid hn
  have HG := Lib.hid hG
  clear hR hn hG
  go_enter Try.func25, Try.ntmps25
  go_wp2_with fail
  refine (mul64_c _ _ HR.out HNS.out _).mono ?_
  rintro e w' ⟨rfl, rfl⟩
  obtain ⟨p, hp⟩ : ∃ p, d.Rate * ns = p := ⟨_, rfl⟩
  rw [hp] at hP hP2 ⊢
  have HG2 : Hid (got d ns = p + d.Rem) := by rw [Hid, HG.out, hp]
  clear hp HG
  obtain ⟨hi, hhi⟩ : ∃ hi, p / 18446744073709551616 = hi := ⟨_, rfl⟩
  obtain ⟨lo, hlo⟩ : ∃ lo, p % 18446744073709551616 = lo := ⟨_, rfl⟩
  rw [hhi, hlo]
  have hl0 : 0 ≤ lo := by omega
  have hm0 := hM.1
  go_upto_region 3 with (simp only [add64_0 lo d.Rem hl0 hm0])
  obtain ⟨cr, hcr⟩ : ∃ cr, (lo + d.Rem) / 18446744073709551616 = cr := ⟨_, rfl⟩
  obtain ⟨sm, hsm⟩ : ∃ sm, (lo + d.Rem) % 18446744073709551616 = sm := ⟨_, rfl⟩
  rw [hcr, hsm]
  have q1 : 0 ≤ hi := by omega
  have q2 : hi ≤ 18446744073709551614 := by omega
  have q3 : 0 ≤ cr := by omega
  have q4 : cr ≤ 1 := by omega
  have q5 : 0 ≤ sm := by omega
  have q6 : sm ≤ 18446744073709551615 := by omega
  have qh : got d ns / 18446744073709551616 = hi + cr := by rw [HG2.out]; omega
  have qg : got d ns = (hi + cr) * 18446744073709551616 + sm := by rw [HG2.out]; omega
  have QH := Lib.hid qh
  have QG := Lib.hid qg
  clear qh qg hcr hsm hhi hlo hP hP2 HG2 hl0 hM hm0
  cases hz : decide (1000000000 ≤ hi + cr)
  · have hz2 : ¬ 1000000000 ≤ hi + cr := of_decide_eq_false hz
    have hz3 : hi + cr < 1000000000 := by omega
    have HZ := Lib.hid hz2
    clear hz2
    go_wp2_with (go_at_call 30; refine (div64_c _ _ (by omega) hz3 q5 q6 _).mono ?_; rintro e w' ⟨rfl, m, rfl⟩)
    go_ret2
    refine ⟨ret_pair ?_ ?_, ((Grew.refl _).alloc _).drewN _⟩
    · rw [HN.out, QH.out, if_neg (Int.not_le.2 HZ.out), QG.out]
      have hm : 0 ≤ mn (((hi + cr) * 18446744073709551616 + sm) / 1000000000) 1099511627776 ∧ mn (((hi + cr) * 18446744073709551616 + sm) / 1000000000) 1099511627776 ≤ 1099511627776 := by
        unfold mn
        split <;> omega
      generalize mn (((hi + cr) * 18446744073709551616 + sm) / 1000000000) 1099511627776 = y at hm
      first | rfl | (rw [IntKind.wrap_i64]; omega) | (unfold wrap64; omega)
    · rw [HRR.out, QH.out, if_neg (Int.not_le.2 HZ.out), QG.out]
  · have hz2 : 1000000000 ≤ hi + cr := of_decide_eq_true hz
    have HZ := Lib.hid hz2
    clear hz2
    go_wp2
    go_ret2
    refine ⟨ret_pair ?_ ?_, ((Grew.refl _).alloc _)⟩
    · rw [HN.out, QH.out, if_pos HZ.out]
    · rw [HRR.out, QH.out, if_pos HZ.out]
def rgainedN (b : Bkt) (ns : Int) : Int := if 1000000000 ≤ got b ns / 18446744073709551616 then 4611686018427387904 else mn (got b ns / 1000000000) 4611686018427387904
set_option maxHeartbeats 1000000 in
theorem rgain_c (d : Bkt) (ns : Int) (hd : d.Ok) (hn : 0 ≤ ns ∧ ns ≤ 18446744073709551615) (w : World) : Calls Try.prog 27 #[.int .u64 d.Rate, .int .u64 ns, .int .u64 d.Rem] w fun e w' => e = .returned (.tuple #[.int .u64 (rgainedN d ns), .int .u64 (gainedR d ns)]) ∧ ∃ n, w' = w.drewN n := by
  have hR := hd.hRate
  have hM := hd.hRem
  have hP : 0 ≤ d.Rate * ns := Int.mul_nonneg hR.1 hn.1
  have hP2 : d.Rate * ns ≤ 18446744073709551615 * 18446744073709551615 := Int.mul_le_mul hR.2 hn.2 hn.1 (by omega)
  have hG : got d ns = d.Rate * ns + d.Rem := rfl
  have HN : Hid (rgainedN d ns = if 1000000000 ≤ got d ns / 18446744073709551616 then 4611686018427387904 else mn (got d ns / 1000000000) 4611686018427387904) := rfl
  have HRR : Hid (gainedR d ns = if 1000000000 ≤ got d ns / 18446744073709551616 then 0 else got d ns % 1000000000) := rfl
  have HR := Lib.hid hR
  have HNS := Lib.hid hn
  have HG := Lib.hid hG
  clear hR hn hG
  go_enter Try.func27, Try.ntmps27
  go_wp2_with fail
  refine (mul64_c _ _ HR.out HNS.out _).mono ?_
  rintro e w' ⟨rfl, rfl⟩
  obtain ⟨p, hp⟩ : ∃ p, d.Rate * ns = p := ⟨_, rfl⟩
  rw [hp] at hP hP2 ⊢
  have HG2 : Hid (got d ns = p + d.Rem) := by rw [Hid, HG.out, hp]
  clear hp HG
  obtain ⟨hi, hhi⟩ : ∃ hi, p / 18446744073709551616 = hi := ⟨_, rfl⟩
  obtain ⟨lo, hlo⟩ : ∃ lo, p % 18446744073709551616 = lo := ⟨_, rfl⟩
  rw [hhi, hlo]
  have hl0 : 0 ≤ lo := by omega
  have hm0 := hM.1
  go_upto_region 3 with (simp only [add64_0 lo d.Rem hl0 hm0])
  obtain ⟨cr, hcr⟩ : ∃ cr, (lo + d.Rem) / 18446744073709551616 = cr := ⟨_, rfl⟩
  obtain ⟨sm, hsm⟩ : ∃ sm, (lo + d.Rem) % 18446744073709551616 = sm := ⟨_, rfl⟩
  rw [hcr, hsm]
  have q1 : 0 ≤ hi := by omega
  have q2 : hi ≤ 18446744073709551614 := by omega
  have q3 : 0 ≤ cr := by omega
  have q4 : cr ≤ 1 := by omega
  have q5 : 0 ≤ sm := by omega
  have q6 : sm ≤ 18446744073709551615 := by omega
  have qh : got d ns / 18446744073709551616 = hi + cr := by rw [HG2.out]; omega
  have qg : got d ns = (hi + cr) * 18446744073709551616 + sm := by rw [HG2.out]; omega
  have QH := Lib.hid qh
  have QG := Lib.hid qg
  clear qh qg hcr hsm hhi hlo hP hP2 HG2 hl0 hM hm0
  cases hz : decide (1000000000 ≤ hi + cr)
  · have hz2 : ¬ 1000000000 ≤ hi + cr := of_decide_eq_false hz
    have hz3 : hi + cr < 1000000000 := by omega
    have HZ := Lib.hid hz2
    clear hz2
    go_wp2_with (go_at_call 30; refine (div64_c _ _ (by omega) hz3 q5 q6 _).mono ?_; rintro e w' ⟨rfl, m, rfl⟩)
    go_ret2
    refine ⟨ret_pair ?_ ?_, _, rfl⟩
    · rw [HN.out, QH.out, if_neg (Int.not_le.2 HZ.out), QG.out]
    · rw [HRR.out, QH.out, if_neg (Int.not_le.2 HZ.out), QG.out]
  · have hz2 : 1000000000 ≤ hi + cr := of_decide_eq_true hz
    have HZ := Lib.hid hz2
    clear hz2
    go_wp2
    go_ret2
    refine ⟨ret_pair ?_ ?_, 0, rfl⟩
    · rw [HN.out, QH.out, if_pos HZ.out]
    · rw [HRR.out, QH.out, if_pos HZ.out]
end Go.Proofs.Ytimogbalkhgplaa
