/- Contract: Div64 by a second. -/
import Derived.Test.YtimogbalkhgplaaBl
import Derived.Deep.DeepCutAuto
namespace Go.Proofs.Ytimogbalkhgplaa
open Go.RowKit
set_option linter.unusedSimpArgs false
set_option maxHeartbeats 4000000
set_option maxRecDepth 100000
theorem or_add (a b : Nat) (ha : a * 17179869184 < 18446744073709551616) (hb : b < 17179869184) : bits .or .u64 ((a : Int) * 17179869184) (b : Int) = (a : Int) * 17179869184 + b := by
  have h := bits_or_u64_nat (a * 17179869184) b ha (by omega)
  have e : a * 17179869184 ||| b = a * 17179869184 + b := by
    have := Nat.two_pow_add_eq_or_of_lt (i := 34) (b := b) (by omega) a
    simp only [Nat.reducePow] at this
    rw [Nat.mul_comm a, this]
  rw [e] at h
  simp only [Int.natCast_add, Int.natCast_mul] at h
  exact h
theorem and_zero (a : Nat) (ha : a * 17179869184 < 18446744073709551616) : bits .and .u64 ((a : Int) * 17179869184) 4294967295 = 0 := by
  have h := maskN (a * 17179869184) ha
  have e : a * 17179869184 % 4294967296 = 0 := by omega
  rw [e] at h
  simp only [Int.natCast_mul] at h
  exact h
theorem or_addI (a b : Int) (ha : 0 ≤ a ∧ a < 1000000000) (hb : 0 ≤ b ∧ b < 17179869184) : bits .or .u64 (a * 17179869184) b = a * 17179869184 + b := by
  obtain ⟨a, rfl⟩ := Int.eq_ofNat_of_zero_le ha.1
  obtain ⟨b, rfl⟩ := Int.eq_ofNat_of_zero_le hb.1
  exact or_add a b (by omega) (by omega)
theorem and_zeroI (a : Int) (ha : 0 ≤ a ∧ a < 1073741824) : bits .and .u64 (a * 17179869184) 4294967295 = 0 := by
  obtain ⟨a, rfl⟩ := Int.eq_ofNat_of_zero_le ha.1
  exact and_zero a (by omega)
theorem and_y : bits .and .u64 17179869184000000000 4294967295 = 0 := by
  have := and_zeroI 1000000000 (by omega)
  simpa using this
theorem ret_two {k : IntKind} {a b c d : Int} (h : a = b) (h2 : c = d) : Ending.returned (.tuple #[.int k a, .int k c]) = .returned (.tuple #[.int k b, .int k d]) := by rw [h, h2]
theorem div64_c (hi lo : Int) (h1 : 0 ≤ hi) (h2 : hi < 1000000000) (h3 : 0 ≤ lo) (h4 : lo ≤ 18446744073709551615) (w : World) :
    Calls Try.prog 30 #[.int .u64 hi, .int .u64 lo, .int .u64 1000000000] w fun e w' => e = .returned (.tuple #[.int .u64 ((hi * 18446744073709551616 + lo) / 1000000000), .int .u64 ((hi * 18446744073709551616 + lo) % 1000000000)]) ∧ ∃ n, w' = w.drewN n := by
  by_cases h0 : hi = 0
  · subst h0
    clear h1 h2
    go_enter Try.func30, Try.ntmps30
    go_wp2
    go_quiet (fail)
    go_wp2
    go_ret2
    exact ⟨by simp, _, rfl⟩
  · have h5 : (hi == 0) = false := by simpa using h0
    have h6 : decide (1000000000 ≤ hi) = false := by simp; omega
    clear h0
    go_enter Try.func30, Try.ntmps30
    go_upto_region 15 with (go_at_call 32; refine (lz_second _).mono ?_; rintro e w' ⟨rfl, rfl⟩)
    obtain ⟨T, hT⟩ : ∃ T, lo % 1073741824 = T := ⟨_, rfl⟩
    obtain ⟨U, hU⟩ : ∃ U, hi * 17179869184 + lo / 1073741824 = U := ⟨_, rfl⟩
    have hT1 : 0 ≤ T := by omega
    have hT2 : T < 1073741824 := by omega
    have e2 : bits BinOp.or IntKind.u64 (hi * 17179869184) (lo / 1073741824) = U := by rw [or_addI hi _ (by omega) (by omega), hU]
    have e3 : IntKind.u64.wrap (lo * 17179869184) = T * 17179869184 := by rw [IntKind.wrap_u64]; omega
    have e4 : bits .and .u64 (T * 17179869184) 4294967295 = 0 := and_zeroI T (by omega)
    rw [e2, e3, e4, and_y]
    have hN : hi * 18446744073709551616 + lo = U * 1073741824 + T := by omega
    have hU0 : 0 ≤ U := by omega
    have hU1 : U < 17179869184000000000 := by omega
    have HN := Lib.hid hN
    clear e2 e3 e4 hT hU hN
    obtain ⟨V, hV⟩ : ∃ V, T * 17179869184 / 4294967296 = V := ⟨_, rfl⟩
    have hV1 : V = T * 4 := by omega
    have HV := Lib.hid hV1
    clear h1 h2 h3 h4 h5 h6 hV1
    obtain ⟨T2, hT3⟩ : ∃ T2, T * 17179869184 = T2 := ⟨_, rfl⟩
    rw [hT3] at hV
    rw [hT3, hV]
    have HT3 := Lib.hid hT3
    clear hT3 hV
    go_upto_region 17 with (fail)
    obtain ⟨Q1, hQ1⟩ : ∃ Q1, U / 4000000000 = Q1 := ⟨_, rfl⟩
    obtain ⟨R1, hR1⟩ : ∃ R1, U - Q1 * 4000000000 = R1 := ⟨_, rfl⟩
    rw [hQ1, hR1]
    have k1 : 0 ≤ Q1 := by omega
    have k2 : Q1 < 4294967296 := by omega
    have k3 : 0 ≤ R1 := by omega
    have k4 : R1 < 4000000000 := by omega
    have hV2 := HV.out
    have k5 : 0 ≤ V := by omega
    have k6 : V < 4294967296 := by omega
    have g1 : decide (4294967296 ≤ Q1) = false := decide_eq_false (by omega)
    have g2 : decide (4294967296 * R1 + V < 0) = false := decide_eq_false (by omega)
    have HQ1 := Lib.hid hQ1
    have HR1 := Lib.hid hR1
    clear hQ1 hR1 hV2
    go_loop [15, 16] (fun a b => a = .int .u64 Q1 ∧ b = .int .u64 R1) (fun _ _ => 0)
    case atStart => exact ⟨rfl, rfl⟩
    case round =>
      obtain ⟨rfl, rfl⟩ := hrel
      go_upto_region 22 with (fail)
      obtain ⟨X, hX⟩ : ∃ X, R1 * 4294967296 + V = X := ⟨_, rfl⟩
      have e5 : IntKind.u64.wrap (IntKind.u64.wrap (IntKind.u64.wrap (U * 4294967296) + V) - IntKind.u64.wrap (Q1 * 17179869184000000000)) = X := by
        have := HR1.out
        rw [IntKind.wrap_u64, IntKind.wrap_u64, IntKind.wrap_u64, IntKind.wrap_u64]
        omega
      rw [e5]
      have x0 : 0 ≤ X := by omega
      have x1 : X < 17179869184000000000 := by omega
      have HX := Lib.hid hX
      clear e5 hX g1 g2
      go_upto_region 24 with (fail)
      obtain ⟨Q0, hQ0⟩ : ∃ Q0, X / 4000000000 = Q0 := ⟨_, rfl⟩
      obtain ⟨R0, hR0⟩ : ∃ R0, X - Q0 * 4000000000 = R0 := ⟨_, rfl⟩
      rw [hQ0, hR0]
      have m1 : 0 ≤ Q0 := by omega
      have m2 : Q0 < 4294967296 := by omega
      have m3 : 0 ≤ R0 := by omega
      have m4 : R0 < 4000000000 := by omega
      have g1 : decide (4294967296 ≤ Q0) = false := decide_eq_false (by omega)
      have g2 : decide (4294967296 * R0 < 0) = false := decide_eq_false (by omega)
      have g3 : decide (4294967296 * R0 + 0 < 0) = false := decide_eq_false (by omega)
      have HQ0 := Lib.hid hQ0
      have HR0 := Lib.hid hR0
      clear hQ0 hR0
      go_loop [18, 16] (fun a b => a = .int .u64 Q0 ∧ b = .int .u64 R0) (fun _ _ => 0)
      case atStart => exact ⟨rfl, rfl⟩
      case round =>
        obtain ⟨rfl, rfl⟩ := hrel
        go_wp2
        go_ret2
        refine ⟨ret_two ?_ ?_, 0, rfl⟩
        · rw [HN.out]
          have h1 := HQ1.out
          have h2 := HR1.out
          have h3 := HX.out
          have h4 := HQ0.out
          have h5 := HV.out
          omega
        · rw [HN.out]
          have h1 := HQ1.out
          have h2 := HR1.out
          have h3 := HX.out
          have h4 := HQ0.out
          have h5 := HV.out
          have h6 := HR0.out
          simp only [IntKind.wrap_u64, Int.emod_emod_of_dvd, Int.dvd_refl]
          have e : (X * 4294967296 % 18446744073709551616 - Q0 * 17179869184000000000 % 18446744073709551616) % 18446744073709551616 = R0 * 4294967296 := by omega
          rw [e]
          omega
end Go.Proofs.Ytimogbalkhgplaa
