/- Contracts: SetRate, the program's and the reference's. -/
import Derived.Test.YtimogbalkhgplaaFi
import Derived.Test.YtimogbalkhgplaaPa
import Derived.Test.YtimogbalkhgplaaNw
namespace Go.Proofs.Ytimogbalkhgplaa
open Go.RowKit
set_option linter.unusedSimpArgs false
set_option maxHeartbeats 1000000
attribute [local go_sem] alloc_drewN setCell_drewN max2_mx min2_mn max_two min_two
attribute [local go_sem high] eqB
theorem rate_bad1 {d : Bkt} {rate burst now : Int} {x : Bkt} {ex : Int} (h : fillS d now = (x, ex)) (he : ¬ ex = 0) : rateS d rate burst now = (Bkt.zero, ex) := by unfold rateS; rw [h]; simp only; rw [if_neg he]
theorem rate_bad2 {d : Bkt} {rate burst now : Int} {x o : Bkt} {eo : Int} (h : fillS d now = (x, 0)) (h2 : newS rate burst now = (o, eo)) (he : ¬ eo = 0) : rateS d rate burst now = (Bkt.zero, 2) := by unfold rateS; rw [h, h2]; simp only [if_true]; rw [if_neg he]
theorem new_inv {rate burst now : Int} {o : Bkt} (h : newS rate burst now = (o, 0)) : right o = true ∧ o = newB rate burst now := by
  unfold newS at h
  by_cases h1 : right (newB rate burst now) = true
  · rw [if_pos h1] at h; simp at h; rw [← h]; exact ⟨h1, rfl⟩
  · rw [if_neg h1] at h; simp at h
theorem rate_good {d : Bkt} {rate burst now : Int} {x o : Bkt} (h : fillS d now = (x, 0)) (h2 : newS rate burst now = (o, 0)) : rateS d rate burst now = (⟨rate, burst, mn x.Level burst, 0, now⟩, 0) := by
  unfold rateS; rw [h, h2]; simp only [if_true, newB]
theorem rate_right {d : Bkt} {rate burst now : Int} {x o : Bkt} (hd : d.Ok) (h : fillS d now = (x, 0)) (h2 : newS rate burst now = (o, 0)) : right ⟨rate, burst, mn x.Level burst, 0, now⟩ = true := by
  obtain ⟨k1, k2⟩ := new_inv h2
  have hx := (right_iff x).1 (fill_right hd h).1
  rw [k2] at k1
  have hn := (right_iff _).1 k1
  simp only [newB] at hn
  rw [right_iff]
  simp only [mn]
  split <;> omega
theorem rate_c (d : Bkt) (hd : d.Ok) (rate burst now : Int) (hn : 0 ≤ now ∧ now ≤ 18446744073709551615) (w : World) : Calls Try.prog 21 #[d.val, .int .u64 rate, .int .i64 burst, .int .u64 now] w fun e w' => e = .returned (pairV (rateS d rate burst now).1 (rateS d rate burst now).2) ∧ Grew w w' := by
  obtain ⟨x, ex, qx⟩ : ∃ x ex, fillS d now = (x, ex) := ⟨_, _, rfl⟩
  obtain ⟨o, eo, qo⟩ : ∃ o eo, newS rate burst now = (o, eo) := ⟨_, _, rfl⟩
  have Q1 := Lib.hid qx
  have Q2 := Lib.hid qo
  clear qx qo
  cases h1 : (ex != 0)
  · have e1 : ex = 0 := by simpa using h1
    subst e1
    clear h1
    cases h2 : (eo != 0)
    · have e2 : eo = 0 := by simpa using h2
      subst e2
      clear h2
      have HX : Hid (rateS d rate burst now = (⟨rate, burst, mn x.Level burst, 0, now⟩, 0)) := rate_good Q1.out Q2.out
      obtain ⟨k1, k2⟩ := new_inv Q2.out
      have hob : (o.Burst == 0) = false := by
        have := (right_iff o).1 k1
        simp
        omega
      have HO := Lib.hid k2
      have HXA : Hid (x.At = now) := by
        obtain ⟨_, _, _, h⟩ := fill_inv Q1.out
        rw [Hid, h]
        split <;> rfl
      clear k1 k2
      go_enter Try.func21, Try.ntmps21
      go_wp2_with fail
      refine (fill_to d x hd now _ hn _ Q1.out).mono ?_
      rintro e w1 ⟨rfl, hb1⟩
      obtain ⟨hc1, hf1, hz1, hy1⟩ := kept2 (w := w) hb1 (by simp)
      have HB := Lib.hid hb1
      clear hb1
      go_wp2_with fail
      refine (new_to rate burst now o _ _ Q2.out).mono ?_
      rintro e w2 ⟨rfl, hb2⟩
      have hX2 := (at_alloc w1 x.cells).grew hb2
      have hcX := hX2.cell
      have hfX := hX2.free
      have hltX := hX2.lt
      have hw1 : w.heap.size + 1 < w1.heap.size := hy1
      obtain ⟨hc2, hf2, hz2, hy2⟩ := kept2 (w := w) hb2 (by simp; omega)
      have HB2 := Lib.hid hb2
      obtain ⟨bX, hbX⟩ : ∃ bX, w1.heap.size = bX := ⟨_, rfl⟩
      rw [hbX] at hcX hfX hltX hw1 ⊢
      clear hb2 hX2 hbX
      have hbw : w.heap.size ≤ bX := by omega
      have ho := HO.out
      subst ho
      clear HO
      have hob2 : (burst == 0) = false := hob
      go_wp2_with fail
      refine bodyPost_ret (v := pairV ⟨rate, burst, mn x.Level burst, 0, now⟩ 0) (by simp [results, Try.results21, go_sem, newB, HXA.out, *]) rfl ⟨by rw [HX.out], ?_⟩
      repeat (with_reducible first | exact Grew.refl _ | refine Grew.drewN ?_ _ | refine Grew.alloc ?_ _ | refine Grew.set ?_ _ (by first | (simp; done) | (simp; omega) | omega) _ | refine Grew.trans ?_ HB2.out | refine Grew.trans ?_ HB.out)
    · have e2 : ¬ eo = 0 := by simpa using h2
      have HX : Hid (rateS d rate burst now = (Bkt.zero, 2)) := rate_bad2 Q1.out Q2.out e2
      clear e2
      go_enter Try.func21, Try.ntmps21
      go_wp2_with fail
      refine (fill_to d x hd now _ hn _ Q1.out).mono ?_
      rintro e w1 ⟨rfl, hb1⟩
      obtain ⟨hc1, hf1, hz1, hy1⟩ := kept2 (w := w) hb1 (by simp)
      have HB := Lib.hid hb1
      clear hb1
      go_wp2_with fail
      refine (new_to rate burst now o _ _ Q2.out).mono ?_
      rintro e w2 ⟨rfl, hb2⟩
      have hX2 := (at_alloc w1 x.cells).grew hb2
      have hcX := hX2.cell
      have hfX := hX2.free
      have hltX := hX2.lt
      have hw1 : w.heap.size + 1 < w1.heap.size := hy1
      obtain ⟨hc2, hf2, hz2, hy2⟩ := kept2 (w := w) hb2 (by simp; omega)
      have HB2 := Lib.hid hb2
      obtain ⟨bX, hbX⟩ : ∃ bX, w1.heap.size = bX := ⟨_, rfl⟩
      rw [hbX] at hcX hfX hltX hw1 ⊢
      clear hb2 hX2 hbX
      have hbw : w.heap.size ≤ bX := by omega
      go_wp2_with fail
      refine bodyPost_ret (v := pairV Bkt.zero 2) (by simp [results, Try.results21, go_sem, Bkt.zero, *]) rfl ⟨by rw [HX.out], ?_⟩
      repeat (with_reducible first | exact Grew.refl _ | refine Grew.drewN ?_ _ | refine Grew.alloc ?_ _ | refine Grew.set ?_ _ (by first | (simp; done) | (simp; omega) | omega) _ | refine Grew.trans ?_ HB2.out | refine Grew.trans ?_ HB.out)
  · have e1 : ¬ ex = 0 := by simpa using h1
    have HX : Hid (rateS d rate burst now = (Bkt.zero, ex)) := rate_bad1 Q1.out e1
    clear e1
    go_enter Try.func21, Try.ntmps21
    go_wp2_with fail
    refine (fill_to d x hd now _ hn _ Q1.out).mono ?_
    rintro e w1 ⟨rfl, hb1⟩
    obtain ⟨hc1, hf1, hz1, hy1⟩ := kept2 (w := w) hb1 (by simp)
    have HB := Lib.hid hb1
    clear hb1
    go_wp2_with fail
    refine bodyPost_ret (v := pairV Bkt.zero ex) (by simp [results, Try.results21, go_sem, Bkt.zero, *]) rfl ⟨by rw [HX.out], ?_⟩
    repeat (with_reducible first | exact Grew.refl _ | refine Grew.drewN ?_ _ | refine Grew.alloc ?_ _ | refine Grew.set ?_ _ (by simp) _ | refine Grew.trans ?_ HB.out)
theorem rrate_c (d : Bkt) (hd : d.Ok) (rate burst now : Int) (hn : 0 ≤ now ∧ now ≤ 18446744073709551615) (w : World) : Calls Try.prog 22 #[d.val, .int .u64 rate, .int .i64 burst, .int .u64 now] w fun e w' => e = .returned (pairV (rateS d rate burst now).1 (rateS d rate burst now).2) ∧ Grew w w' := by
  obtain ⟨x, ex, qx⟩ : ∃ x ex, fillS d now = (x, ex) := ⟨_, _, rfl⟩
  obtain ⟨o, eo, qo⟩ : ∃ o eo, newS rate burst now = (o, eo) := ⟨_, _, rfl⟩
  have Q1 := Lib.hid qx
  have Q2 := Lib.hid qo
  clear qx qo
  cases h1 : (ex != 0)
  · have e1 : ex = 0 := by simpa using h1
    subst e1
    clear h1
    cases h2 : (eo != 0)
    · have e2 : eo = 0 := by simpa using h2
      subst e2
      clear h2
      have HX : Hid (rateS d rate burst now = (⟨rate, burst, mn x.Level burst, 0, now⟩, 0)) := rate_good Q1.out Q2.out
      obtain ⟨k1, k2⟩ := new_inv Q2.out
      have hob : (o.Burst == 0) = false := by
        have := (right_iff o).1 k1
        simp
        omega
      have HO := Lib.hid k2
      have HXA : Hid (x.At = now) := by
        obtain ⟨_, _, _, h⟩ := fill_inv Q1.out
        rw [Hid, h]
        split <;> rfl
      clear k1 k2
      go_enter Try.func22, Try.ntmps22
      go_wp2_with fail
      refine (rfill_to d x hd now _ hn _ Q1.out).mono ?_
      rintro e w1 ⟨rfl, hb1⟩
      obtain ⟨hc1, hf1, hz1, hy1⟩ := kept2 (w := w) hb1 (by simp)
      have HB := Lib.hid hb1
      clear hb1
      go_wp2_with fail
      refine (rnew_to rate burst now o _ _ Q2.out).mono ?_
      rintro e w2 ⟨rfl, hb2⟩
      have hX2 := (at_alloc w1 x.cells).grew hb2
      have hcX := hX2.cell
      have hfX := hX2.free
      have hltX := hX2.lt
      have hw1 : w.heap.size + 1 < w1.heap.size := hy1
      obtain ⟨hc2, hf2, hz2, hy2⟩ := kept2 (w := w) hb2 (by simp; omega)
      have HB2 := Lib.hid hb2
      obtain ⟨bX, hbX⟩ : ∃ bX, w1.heap.size = bX := ⟨_, rfl⟩
      rw [hbX] at hcX hfX hltX hw1 ⊢
      clear hb2 hX2 hbX
      have hbw : w.heap.size ≤ bX := by omega
      have ho := HO.out
      subst ho
      clear HO
      have hob2 : (burst == 0) = false := hob
      go_wp2_with fail
      refine bodyPost_ret (v := pairV ⟨rate, burst, mn x.Level burst, 0, now⟩ 0) (by simp [results, Try.results22, go_sem, newB, HXA.out, *]) rfl ⟨by rw [HX.out], ?_⟩
      repeat (with_reducible first | exact Grew.refl _ | refine Grew.drewN ?_ _ | refine Grew.alloc ?_ _ | refine Grew.set ?_ _ (by first | (simp; done) | (simp; omega) | omega) _ | refine Grew.trans ?_ HB2.out | refine Grew.trans ?_ HB.out)
    · have e2 : ¬ eo = 0 := by simpa using h2
      have HX : Hid (rateS d rate burst now = (Bkt.zero, 2)) := rate_bad2 Q1.out Q2.out e2
      clear e2
      go_enter Try.func22, Try.ntmps22
      go_wp2_with fail
      refine (rfill_to d x hd now _ hn _ Q1.out).mono ?_
      rintro e w1 ⟨rfl, hb1⟩
      obtain ⟨hc1, hf1, hz1, hy1⟩ := kept2 (w := w) hb1 (by simp)
      have HB := Lib.hid hb1
      clear hb1
      go_wp2_with fail
      refine (rnew_to rate burst now o _ _ Q2.out).mono ?_
      rintro e w2 ⟨rfl, hb2⟩
      have hX2 := (at_alloc w1 x.cells).grew hb2
      have hcX := hX2.cell
      have hfX := hX2.free
      have hltX := hX2.lt
      have hw1 : w.heap.size + 1 < w1.heap.size := hy1
      obtain ⟨hc2, hf2, hz2, hy2⟩ := kept2 (w := w) hb2 (by simp; omega)
      have HB2 := Lib.hid hb2
      obtain ⟨bX, hbX⟩ : ∃ bX, w1.heap.size = bX := ⟨_, rfl⟩
      rw [hbX] at hcX hfX hltX hw1 ⊢
      clear hb2 hX2 hbX
      have hbw : w.heap.size ≤ bX := by omega
      go_wp2_with fail
      refine bodyPost_ret (v := pairV Bkt.zero 2) (by simp [results, Try.results22, go_sem, Bkt.zero, *]) rfl ⟨by rw [HX.out], ?_⟩
      repeat (with_reducible first | exact Grew.refl _ | refine Grew.drewN ?_ _ | refine Grew.alloc ?_ _ | refine Grew.set ?_ _ (by first | (simp; done) | (simp; omega) | omega) _ | refine Grew.trans ?_ HB2.out | refine Grew.trans ?_ HB.out)
  · have e1 : ¬ ex = 0 := by simpa using h1
    have HX : Hid (rateS d rate burst now = (Bkt.zero, ex)) := rate_bad1 Q1.out e1
    clear e1
    go_enter Try.func22, Try.ntmps22
    go_wp2_with fail
    refine (rfill_to d x hd now _ hn _ Q1.out).mono ?_
    rintro e w1 ⟨rfl, hb1⟩
    obtain ⟨hc1, hf1, hz1, hy1⟩ := kept2 (w := w) hb1 (by simp)
    have HB := Lib.hid hb1
    clear hb1
    go_wp2_with fail
    refine bodyPost_ret (v := pairV Bkt.zero ex) (by simp [results, Try.results22, go_sem, Bkt.zero, *]) rfl ⟨by rw [HX.out], ?_⟩
    repeat (with_reducible first | exact Grew.refl _ | refine Grew.drewN ?_ _ | refine Grew.alloc ?_ _ | refine Grew.set ?_ _ (by simp) _ | refine Grew.trans ?_ HB.out)
end Go.Proofs.Ytimogbalkhgplaa
