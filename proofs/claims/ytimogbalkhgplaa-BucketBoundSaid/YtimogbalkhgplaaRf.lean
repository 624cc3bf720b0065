/- Contract of the reference: Fill. -/
import Derived.Test.YtimogbalkhgplaaR
namespace Go.Proofs.Ytimogbalkhgplaa
open Go.RowKit
set_option linter.unusedSimpArgs false
set_option maxHeartbeats 1000000
attribute [local go_sem] alloc_drewN setCell_drewN max2_mx min2_mn max_two min_two
theorem rgained_range (d : Bkt) (ns : Int) (hd : d.Ok) (hn : 0 ≤ ns) : 0 ≤ rgainedN d ns ∧ rgainedN d ns ≤ 4611686018427387904 := by
  have hP : 0 ≤ d.Rate * ns := Int.mul_nonneg hd.hRate.1 hn
  have hM := hd.hRem
  have hg : 0 ≤ got d ns := by unfold got; omega
  unfold rgainedN
  split
  · omega
  · unfold mn
    split <;> omega
theorem rgained_eq (d : Bkt) (ns : Int) (hd : d.Ok) (hr : right d = true) (hn : 0 ≤ ns) : (d.Burst - d.Level ≤ rgainedN d ns ↔ d.Burst ≤ d.Level + gainedN d ns) ∧ (¬ d.Burst - d.Level ≤ rgainedN d ns → gainedN d ns = rgainedN d ns) := by
  have hr := (right_iff d).1 hr
  have hP : 0 ≤ d.Rate * ns := Int.mul_nonneg hd.hRate.1 hn
  have hM := hd.hRem
  have hg : 0 ≤ got d ns := by unfold got; omega
  unfold rgainedN gainedN mn
  generalize got d ns = S at hg
  split
  · omega
  · split <;> split <;> omega
theorem rfill_c (d : Bkt) (now : Int) (hd : d.Ok) (hn : 0 ≤ now ∧ now ≤ 18446744073709551615) (w : World) : Calls Try.prog 20 #[d.val, .int .u64 now] w fun e w' => e = .returned (pairV (fillS d now).1 (fillS d now).2) ∧ Grew w w' := by
  cases h1 : right d
  · have HR : Hid (fillS d now = (Bkt.zero, 2)) := by simp [Hid, fillS, h1]
    clear hn hd
    go_enter Try.func20, Try.ntmps20
    go_wp2_with fail
    refine (rright_c d _).mono ?_
    rintro e w1 ⟨rfl, hb1⟩
    obtain ⟨hc1, hf1, hz1, hy1⟩ := kept2 (w := w) hb1 (by simp)
    have HB := Lib.hid hb1
    clear hb1
    go_wp2_with fail
    refine bodyPost_ret (v := pairV Bkt.zero 2) (by simp [results, Try.results20, go_sem, Bkt.zero, *]) rfl ⟨by rw [HR.out], ?_⟩
    repeat (with_reducible first | exact Grew.refl _ | refine Grew.drewN ?_ _ | refine Grew.alloc ?_ _ | refine Grew.set ?_ _ (by simp) _ | refine Grew.trans ?_ HB.out)
  by_cases h2 : now < d.At ∨ 9223372036854775807 < now
  · have HR : Hid (fillS d now = (Bkt.zero, 50)) := by simp only [Hid, fillS, h1, if_true, if_pos h2]
    clear hn hd
    by_cases h3 : now < d.At
    case' neg => have h5 : 9223372036854775807 < now := by omega
    all_goals
        clear h2
        go_enter Try.func20, Try.ntmps20
        go_wp2_with fail
        refine (rright_c d _).mono ?_
        rintro e w1 ⟨rfl, hb1⟩
        obtain ⟨hc1, hf1, hz1, hy1⟩ := kept2 (w := w) hb1 (by simp)
        have HB := Lib.hid hb1
        clear hb1
        go_wp2_with fail
        refine bodyPost_ret (v := pairV Bkt.zero 50) (by simp [results, Try.results20, go_sem, Bkt.zero, *]) rfl ⟨by rw [HR.out], ?_⟩
        repeat (with_reducible first | exact Grew.refl _ | refine Grew.drewN ?_ _ | refine Grew.alloc ?_ _ | refine Grew.set ?_ _ (by simp) _ | refine Grew.trans ?_ HB.out)
  · have hr := (right_iff d).1 h1
    have hA := hd.hAt
    have h3 : ¬ now < d.At := by omega
    have h4 : ¬ 9223372036854775807 < now := by omega
    have h3' : decide (now < d.At) = false := by simpa using h3
    have h4' : decide (9223372036854775807 < now) = false := by simpa using h4
    have hg := rgained_range d (now - d.At) hd (by omega)
    have hgr := gainedR_range d (now - d.At)
    have heq := rgained_eq d (now - d.At) hd h1 (by omega)
    have HR : Hid (fillS d now = if fullS d now = true then (⟨d.Rate, d.Burst, d.Burst, 0, now⟩, 0) else (⟨d.Rate, d.Burst, d.Level + gainedN d (now - d.At), gainedR d (now - d.At), now⟩, 0)) := by simp only [Hid, fillS, h1, if_true, if_neg h2]
    have HFU : Hid (fullS d now = ((d.Rate == 0) || decide (d.Burst ≤ d.Level + gainedN d (now - d.At)))) := rfl
    have hns2 : 0 ≤ now - d.At ∧ now - d.At ≤ 18446744073709551615 := by omega
    have hgc : ∀ W, Calls Try.prog 27 #[.int .u64 d.Rate, .int .u64 (now - d.At), .int .u64 d.Rem] W fun e w' => e = .returned (.tuple #[.int .u64 (rgainedN d (now - d.At)), .int .u64 (gainedR d (now - d.At))]) ∧ ∃ n, w' = W.drewN n := fun W => rgain_c d _ hd hns2 W
    obtain ⟨ns, hnn⟩ : ∃ ns, now - d.At = ns := ⟨_, rfl⟩
    have hns : IntKind.u64.wrap (now - d.At) = ns := by rw [IntKind.wrap_u64]; omega
    rw [hnn] at hg hgr HR HFU hgc heq
    obtain ⟨q, hq⟩ : ∃ q, rgainedN d ns = q := ⟨_, rfl⟩
    obtain ⟨gn, hgn⟩ : ∃ gn, gainedN d ns = gn := ⟨_, rfl⟩
    obtain ⟨gr, hgr2⟩ : ∃ gr, gainedR d ns = gr := ⟨_, rfl⟩
    rw [hq] at hg hgc heq
    rw [hgn] at heq HR HFU
    rw [hgr2] at hgr HR hgc
    have HGC := Lib.hid hgc
    have b0 : IntKind.i64.wrap q = q := by rw [IntKind.wrap_i64]; omega
    have b1 : IntKind.i64.wrap (d.Burst - d.Level) = d.Burst - d.Level := by rw [IntKind.wrap_i64]; omega
    have b4 : -9223372036854775808 ≤ d.Burst - d.Level := by omega
    have b5 : d.Burst - d.Level ≤ 9223372036854775807 := by omega
    have b6 : 0 ≤ q := hg.1
    have b7 : q ≤ 4611686018427387904 := hg.2
    have b8 : d.Burst - d.Level ≤ 2147483648 := by omega
    have HB8 := Lib.hid b8
    have HLV : Hid (-1073741824 ≤ d.Level ∧ d.Level ≤ d.Burst ∧ d.Burst ≤ 1073741824) := by simp only [Hid]; omega
    have HEQ := Lib.hid heq
    clear h2 h3 h4 hnn hgn hgr2 hgc hr hA hn hd hns2 hg hgr heq hq b8
    cases h5 : (d.Rate == 0)
    · cases h6 : decide (d.Burst - d.Level ≤ q)
      · have k1 := of_decide_eq_false h6
        have k2 := HEQ.out
        have k3 : decide (d.Burst ≤ d.Level + gn) = false := decide_eq_false (fun h => k1 (k2.1.2 h))
        have HX : Hid (fillS d now = (⟨d.Rate, d.Burst, d.Level + q, gr, now⟩, 0)) := by
          rw [Hid, HR.out, HFU.out, h5, k3, k2.2 k1]
          rfl
        have b2 : IntKind.i64.wrap (d.Level + q) = d.Level + q := by have := HLV.out; rw [IntKind.wrap_i64]; omega
        have b9 : -9223372036854775808 ≤ d.Level + q := by have := HLV.out; omega
        have b10 : d.Level + q ≤ 9223372036854775807 := by have := HLV.out; omega
        clear k1 k2 k3
        go_enter Try.func20, Try.ntmps20
        go_wp2_with fail
        refine (rright_c d _).mono ?_
        rintro e w1 ⟨rfl, hb1⟩
        obtain ⟨hc1, hf1, hz1, hy1⟩ := kept2 (w := w) hb1 (by simp)
        have HB := Lib.hid hb1
        clear hb1
        go_wp2_with fail
        refine (HGC.out _).mono ?_
        rintro e w2 ⟨rfl, m, rfl⟩
        go_wp2_with fail
        refine bodyPost_ret (v := pairV ⟨d.Rate, d.Burst, d.Level + q, gr, now⟩ 0) (by simp [results, Try.results20, go_sem, *]) rfl ⟨by rw [HX.out], ?_⟩
        repeat (with_reducible first | exact Grew.refl _ | refine Grew.drewN ?_ _ | refine Grew.alloc ?_ _ | refine Grew.set ?_ _ (by simp) _ | refine Grew.trans ?_ HB.out)
      · have k1 := of_decide_eq_true h6
        have k2 := HEQ.out
        have k3 : decide (d.Burst ≤ d.Level + gn) = true := decide_eq_true (k2.1.1 k1)
        have HX : Hid (fillS d now = (⟨d.Rate, d.Burst, d.Burst, 0, now⟩, 0)) := by rw [Hid, HR.out, HFU.out, h5, k3]; rfl
        clear k1 k2 k3
        go_enter Try.func20, Try.ntmps20
        go_wp2_with fail
        refine (rright_c d _).mono ?_
        rintro e w1 ⟨rfl, hb1⟩
        obtain ⟨hc1, hf1, hz1, hy1⟩ := kept2 (w := w) hb1 (by simp)
        have HB := Lib.hid hb1
        clear hb1
        go_wp2_with fail
        refine (HGC.out _).mono ?_
        rintro e w2 ⟨rfl, m, rfl⟩
        go_wp2_with fail
        refine bodyPost_ret (v := pairV ⟨d.Rate, d.Burst, d.Burst, 0, now⟩ 0) (by simp [results, Try.results20, go_sem, *]) rfl ⟨by rw [HX.out], ?_⟩
        repeat (with_reducible first | exact Grew.refl _ | refine Grew.drewN ?_ _ | refine Grew.alloc ?_ _ | refine Grew.set ?_ _ (by simp) _ | refine Grew.trans ?_ HB.out)
    · have HX : Hid (fillS d now = (⟨d.Rate, d.Burst, d.Burst, 0, now⟩, 0)) := by rw [Hid, HR.out, HFU.out, h5]; rfl
      go_enter Try.func20, Try.ntmps20
      go_wp2_with fail
      refine (rright_c d _).mono ?_
      rintro e w1 ⟨rfl, hb1⟩
      obtain ⟨hc1, hf1, hz1, hy1⟩ := kept2 (w := w) hb1 (by simp)
      have HB := Lib.hid hb1
      clear hb1
      go_wp2_with fail
      refine (HGC.out _).mono ?_
      rintro e w2 ⟨rfl, m, rfl⟩
      go_wp2_with fail
      refine bodyPost_ret (v := pairV ⟨d.Rate, d.Burst, d.Burst, 0, now⟩ 0) (by simp [results, Try.results20, go_sem, *]) rfl ⟨by rw [HX.out], ?_⟩
      repeat (with_reducible first | exact Grew.refl _ | refine Grew.drewN ?_ _ | refine Grew.alloc ?_ _ | refine Grew.set ?_ _ (by simp) _ | refine Grew.trans ?_ HB.out)
end Go.Proofs.Ytimogbalkhgplaa
