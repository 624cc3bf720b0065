/- Contract: Fill. -/
import Derived.Test.YtimogbalkhgplaaD
namespace Go.Proofs.Ytimogbalkhgplaa
open Go.RowKit
set_option linter.unusedSimpArgs false
set_option maxHeartbeats 1000000
attribute [local go_sem] alloc_drewN setCell_drewN max2_mx min2_mn max_two min_two
theorem gained_range (d : Bkt) (ns : Int) (hd : d.Ok) (hn : 0 ≤ ns) : 0 ≤ gainedN d ns ∧ gainedN d ns ≤ 1099511627776 := by
  have hP : 0 ≤ d.Rate * ns := Int.mul_nonneg hd.hRate.1 hn
  have hM := hd.hRem
  have hg : 0 ≤ got d ns := by unfold got; omega
  unfold gainedN
  split
  · omega
  · unfold mn
    split <;> omega
theorem gainedR_range (d : Bkt) (ns : Int) : 0 ≤ gainedR d ns ∧ gainedR d ns < 1000000000 := by
  unfold gainedR
  split <;> omega
theorem fill_c (d : Bkt) (now : Int) (hd : d.Ok) (hn : 0 ≤ now ∧ now ≤ 18446744073709551615) (w : World) : Calls Try.prog 19 #[d.val, .int .u64 now] w fun e w' => e = .returned (pairV (fillS d now).1 (fillS d now).2) ∧ Grew w w' := by
  cases h1 : right d
  · have HR : Hid (fillS d now = (Bkt.zero, 2)) := by simp [Hid, fillS, h1]
    clear hn hd
    go_enter Try.func19, Try.ntmps19
    go_wp2_with fail
    refine (right_c d _).mono ?_
    rintro e w1 ⟨rfl, hb1⟩
    obtain ⟨hc1, hf1, hz1, hy1⟩ := kept2 (w := w) hb1 (by simp)
    have HB := Lib.hid hb1
    clear hb1
    go_wp2_with fail
    refine bodyPost_ret (v := pairV Bkt.zero 2) (by simp [results, Try.results19, go_sem, Bkt.zero, *]) rfl ⟨by rw [HR.out], ?_⟩
    repeat (with_reducible first | exact Grew.refl _ | refine Grew.drewN ?_ _ | refine Grew.alloc ?_ _ | refine Grew.set ?_ _ (by simp) _ | refine Grew.trans ?_ HB.out)
  by_cases h2 : now < d.At ∨ 9223372036854775807 < now
  · have HR : Hid (fillS d now = (Bkt.zero, 50)) := by simp only [Hid, fillS, h1, if_true, if_pos h2]
    clear hn hd
    by_cases h3 : now < d.At
    case' neg => have h5 : 9223372036854775807 < now := by omega
    all_goals
        clear h2
        go_enter Try.func19, Try.ntmps19
        go_wp2_with fail
        refine (right_c d _).mono ?_
        rintro e w1 ⟨rfl, hb1⟩
        obtain ⟨hc1, hf1, hz1, hy1⟩ := kept2 (w := w) hb1 (by simp)
        have HB := Lib.hid hb1
        clear hb1
        go_wp2_with fail
        refine bodyPost_ret (v := pairV Bkt.zero 50) (by simp [results, Try.results19, go_sem, Bkt.zero, *]) rfl ⟨by rw [HR.out], ?_⟩
        repeat (with_reducible first | exact Grew.refl _ | refine Grew.drewN ?_ _ | refine Grew.alloc ?_ _ | refine Grew.set ?_ _ (by simp) _ | refine Grew.trans ?_ HB.out)
  · have hr := (right_iff d).1 h1
    have hA := hd.hAt
    have h3 : ¬ now < d.At := by omega
    have h4 : ¬ 9223372036854775807 < now := by omega
    have h3' : decide (now < d.At) = false := by simpa using h3
    have h4' : decide (9223372036854775807 < now) = false := by simpa using h4
    have hg := gained_range d (now - d.At) hd (by omega)
    have hgr := gainedR_range d (now - d.At)
    have HR : Hid (fillS d now = if fullS d now = true then (⟨d.Rate, d.Burst, d.Burst, 0, now⟩, 0) else (⟨d.Rate, d.Burst, d.Level + gainedN d (now - d.At), gainedR d (now - d.At), now⟩, 0)) := by simp only [Hid, fillS, h1, if_true, if_neg h2]
    have HFU : Hid (fullS d now = ((d.Rate == 0) || decide (d.Burst ≤ d.Level + gainedN d (now - d.At)))) := rfl
    have hns2 : 0 ≤ now - d.At ∧ now - d.At ≤ 18446744073709551615 := by omega
    have hgc : ∀ W, Calls Try.prog 25 #[d.val, .int .u64 (now - d.At)] W fun e w' => e = .returned (.tuple #[.int .i64 (gainedN d (now - d.At)), .int .u64 (gainedR d (now - d.At))]) ∧ Grew W w' := fun W => gained_c d _ hd hns2 W
    obtain ⟨ns, hnn⟩ : ∃ ns, now - d.At = ns := ⟨_, rfl⟩
    rw [hnn] at hg hgr HR HFU hgc
    have hns : IntKind.u64.wrap (now - d.At) = ns := by rw [IntKind.wrap_u64]; omega
    obtain ⟨gn, hgn⟩ : ∃ gn, gainedN d ns = gn := ⟨_, rfl⟩
    obtain ⟨gr, hgr2⟩ : ∃ gr, gainedR d ns = gr := ⟨_, rfl⟩
    rw [hgn] at hg HR HFU hgc
    rw [hgr2] at hgr HR hgc
    have HGC := Lib.hid hgc
    have b1 : -9223372036854775808 ≤ d.Level + gn := by omega
    have b2 : d.Level + gn ≤ 9223372036854775807 := by omega
    have b3 : IntKind.i64.wrap (d.Level + gn) = d.Level + gn := by rw [IntKind.wrap_i64]; omega
    clear h2 h3 h4 hnn hgn hgr2 hgc hr hA hn hd hns2 hg hgr
    go_enter Try.func19, Try.ntmps19
    go_wp2_with fail
    refine (right_c d _).mono ?_
    rintro e w1 ⟨rfl, hb1⟩
    obtain ⟨hc1, hf1, hz1, hy1⟩ := kept2 (w := w) hb1 (by simp)
    have HB := Lib.hid hb1
    clear hb1
    go_wp2_with fail
    cases h5 : (d.Rate == 0)
    · cases h6 : decide (d.Burst ≤ d.Level + gn)
      · have HX : Hid (fillS d now = (⟨d.Rate, d.Burst, d.Level + gn, gr, now⟩, 0)) := by rw [Hid, HR.out, HFU.out, h5, h6]; rfl
        go_wp2_with fail
        refine (HGC.out _).mono ?_
        rintro e w2 ⟨rfl, hb2⟩
        have hw : w1.heap.size < w2.heap.size := Nat.lt_of_lt_of_le (by simp) hb2.below.size
        have hcF : ∀ j, w2.cell? ⟨w1.heap.size, j, none⟩ = (Bkt.mk d.Rate d.Burst d.Burst 0 now).cells[j]? := ((at_alloc w1 (Bkt.mk d.Rate d.Burst d.Burst 0 now).cells).grew hb2).cell
        obtain ⟨hc2, hf2, hz2, hy2⟩ := kept2 (w := w) hb2 (by simp; omega)
        have HB2 := Lib.hid hb2
        clear hb2
        go_wp2_with fail
        refine bodyPost_ret (v := pairV ⟨d.Rate, d.Burst, d.Level + gn, gr, now⟩ 0) (by simp [results, Try.results19, go_sem, *]) rfl ⟨by rw [HX.out], ?_⟩
        repeat (with_reducible first | exact Grew.refl _ | refine Grew.drewN ?_ _ | refine Grew.alloc ?_ _ | refine Grew.set ?_ _ (by first | (simp; done) | (simp; omega)) _ | refine Grew.trans ?_ HB2.out | refine Grew.trans ?_ HB.out)
      · have HX : Hid (fillS d now = (⟨d.Rate, d.Burst, d.Burst, 0, now⟩, 0)) := by rw [Hid, HR.out, HFU.out, h5, h6]; rfl
        go_wp2_with fail
        refine (HGC.out _).mono ?_
        rintro e w2 ⟨rfl, hb2⟩
        have hw : w1.heap.size < w2.heap.size := Nat.lt_of_lt_of_le (by simp) hb2.below.size
        have hcF : ∀ j, w2.cell? ⟨w1.heap.size, j, none⟩ = (Bkt.mk d.Rate d.Burst d.Burst 0 now).cells[j]? := ((at_alloc w1 (Bkt.mk d.Rate d.Burst d.Burst 0 now).cells).grew hb2).cell
        obtain ⟨hc2, hf2, hz2, hy2⟩ := kept2 (w := w) hb2 (by simp; omega)
        have HB2 := Lib.hid hb2
        clear hb2
        go_wp2_with fail
        refine bodyPost_ret (v := pairV ⟨d.Rate, d.Burst, d.Burst, 0, now⟩ 0) (by simp [results, Try.results19, go_sem, *]) rfl ⟨by rw [HX.out], ?_⟩
        repeat (with_reducible first | exact Grew.refl _ | refine Grew.drewN ?_ _ | refine Grew.alloc ?_ _ | refine Grew.set ?_ _ (by first | (simp; done) | (simp; omega)) _ | refine Grew.trans ?_ HB2.out | refine Grew.trans ?_ HB.out)
    · have HX : Hid (fillS d now = (⟨d.Rate, d.Burst, d.Burst, 0, now⟩, 0)) := by rw [Hid, HR.out, HFU.out, h5]; rfl
      go_wp2_with fail
      refine (HGC.out _).mono ?_
      rintro e w2 ⟨rfl, hb2⟩
      have hw : w1.heap.size < w2.heap.size := Nat.lt_of_lt_of_le (by simp) hb2.below.size
      have hcF : ∀ j, w2.cell? ⟨w1.heap.size, j, none⟩ = (Bkt.mk d.Rate d.Burst d.Burst 0 now).cells[j]? := ((at_alloc w1 (Bkt.mk d.Rate d.Burst d.Burst 0 now).cells).grew hb2).cell
      obtain ⟨hc2, hf2, hz2, hy2⟩ := kept2 (w := w) hb2 (by simp; omega)
      have HB2 := Lib.hid hb2
      clear hb2
      go_wp2_with fail
      refine bodyPost_ret (v := pairV ⟨d.Rate, d.Burst, d.Burst, 0, now⟩ 0) (by simp [results, Try.results19, go_sem, *]) rfl ⟨by rw [HX.out], ?_⟩
      repeat (with_reducible first | exact Grew.refl _ | refine Grew.drewN ?_ _ | refine Grew.alloc ?_ _ | refine Grew.set ?_ _ (by first | (simp; done) | (simp; omega)) _ | refine Grew.trans ?_ HB2.out | refine Grew.trans ?_ HB.out)
end Go.Proofs.Ytimogbalkhgplaa
