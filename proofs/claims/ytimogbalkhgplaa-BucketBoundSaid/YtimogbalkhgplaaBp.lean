/- Plain laws for BucketBound: what is taken in a span of time. -/
import Derived.Test.YtimogbalkhgplaaPa
import Derived.Test.YtimogbalkhgplaaFr
namespace Go.Proofs.Ytimogbalkhgplaa
open Go.RowKit
set_option linter.unusedSimpArgs false
/-- What holds between two askings. -/
structure Inv (rate burst : Int) (k : Nat) (d : Bkt) (tk gr : Int) : Prop where
  r : right d = true
  ok : d.Ok
  hr : d.Rate = rate
  hb : d.Burst = burst
  t : d.At ≤ k * 1000000000
  k1 : 0 ≤ tk
  k2 : tk ≤ k * 65535
  g1 : 0 ≤ gr
  g2 : gr ≤ 65535
  l : 1 - gr ≤ d.Level
  p : tk * 1000000000 + d.Level * 1000000000 + d.Rem ≤ burst * 1000000000 + rate * d.At
theorem inv_new {rate burst : Int} (h : right (newB rate burst 0) = true) (ho : (newB rate burst 0).Ok) : Inv rate burst 0 (newB rate burst 0) 0 0 := by
  have hr := (right_iff _).1 h
  simp only [newB] at hr
  exact ⟨h, ho, rfl, rfl, by simp [newB], by omega, by omega, by omega, by omega, by simp only [newB]; omega, by simp [newB]⟩
theorem inv_fill {rate burst : Int} {k : Nat} {d : Bkt} {tk gr ns : Int} (h : Inv rate burst k d tk gr) (hR : 1 ≤ rate) (hk : k < 60) (h1 : 0 ≤ ns) (h2 : ns < 1000000000) :
    ∃ x, fillS d (d.At + ns) = (x, 0) ∧ Inv rate burst (k + 1) x tk gr := by
  have hr := (right_iff d).1 h.r
  have hA := h.ok.hAt
  have hM := h.ok.hRem
  have hp := h.p
  have ht := h.t
  have hl := h.l
  have hk2 := h.k2
  have hP : 0 ≤ d.Rate * ns := Int.mul_nonneg (by have := h.hr; omega) h1
  have e : fillS d (d.At + ns) = (if fullS d (d.At + ns) = true then (⟨d.Rate, d.Burst, d.Burst, 0, d.At + ns⟩, 0) else (⟨d.Rate, d.Burst, d.Level + gainedN d (d.At + ns - d.At), gainedR d (d.At + ns - d.At), d.At + ns⟩, 0)) := by
    unfold fillS
    rw [if_pos h.r, if_neg (by omega)]
  have hsub : d.At + ns - d.At = ns := by omega
  rw [hsub] at e
  have hG : got d ns = d.Rate * ns + d.Rem := rfl
  have hmul : rate * (d.At + ns) = rate * d.At + d.Rate * ns := by rw [h.hr, Int.mul_add]
  have hz : (d.Rate == 0) = false := by have := h.hr; simp; omega
  have hF : fullS d (d.At + ns) = decide (d.Burst ≤ d.Level + gainedN d ns) := by simp [fullS, hz, hsub]
  have hhb := h.hb
  have hsure := fill_right h.ok (t := d.At + ns) (c := (fillS d (d.At + ns)).1)
  by_cases hf : fullS d (d.At + ns) = true
  · rw [if_pos hf] at e
    have hs := hsure (by rw [e])
    rw [e] at hs
    refine ⟨_, e, hs.1, hs.2, h.hr, h.hb, ?_, h.k1, ?_, h.g1, h.g2, ?_, ?_⟩
    · simp only; omega
    · omega
    · simp only; omega
    · simp only
      rw [hmul]
      rw [hF] at hf
      have hf := of_decide_eq_true hf
      unfold gainedN mn at hf
      rw [hG] at hf
      generalize d.Rate * ns = P at hP hf ⊢
      generalize rate * d.At = Y at hp ⊢
      split at hf
      · omega
      · split at hf <;> omega
  · rw [if_neg hf] at e
    have hs := hsure (by rw [e])
    rw [e] at hs
    have hg0 := gained_range d ns h.ok h1
    refine ⟨_, e, hs.1, hs.2, h.hr, h.hb, ?_, h.k1, ?_, h.g1, h.g2, ?_, ?_⟩
    · simp only; omega
    · omega
    · simp only; omega
    · simp only
      rw [hmul]
      have hf' : ¬ d.Burst ≤ d.Level + gainedN d ns := by
        intro hh
        exact hf (by rw [hF]; exact decide_eq_true hh)
      unfold gainedN gainedR mn at *
      rw [hG] at hf' ⊢
      generalize d.Rate * ns = P at hP hf' ⊢
      generalize rate * d.At = Y at hp ⊢
      split
      · rename_i hh
        rw [if_pos hh] at hf'
        omega
      · rename_i hh
        rw [if_neg hh] at hf'
        split
        · rename_i h3
          rw [if_pos h3] at hf'
          omega
        · omega
theorem inv_take {rate burst : Int} {k : Nat} {d c : Bkt} {tk gr n : Int} {ok : Bool} (h : Inv rate burst (k + 1) d tk gr) (hk2 : tk ≤ k * 65535) (hR : 1 ≤ rate) (ht : takeS d n = (c, ok, 0)) (hok : ok = true) :
    Inv rate burst (k + 1) c (tk + n) (mx gr n) := by
  subst hok
  have hr := (right_iff d).1 h.r
  have hrt := h.hr
  have hl := h.l
  have hp := h.p
  have hg1 := h.g1
  have hg2 := h.g2
  have hk1 := h.k1
  unfold takeS at ht
  by_cases h1 : right d = true ∧ rises [1, n, 65535] = true
  · rw [if_pos h1, if_neg (by omega)] at ht
    have hn := (rises_three_iff _ _ _).1 h1.2
    by_cases h2 : d.Level ≤ 0
    · rw [if_pos h2] at ht; simp at ht
    · rw [if_neg h2] at ht
      simp at ht
      rw [← ht]
      have hL := h.ok.hLevel
      refine ⟨?_, { h.ok with hLevel := by simp only; omega }, h.hr, h.hb, h.t, ?_, ?_, ?_, ?_, ?_, ?_⟩
      · rw [right_iff]; simp only; omega
      · omega
      · omega
      · unfold mx; split <;> omega
      · unfold mx; split <;> omega
      · simp only; unfold mx; split <;> omega
      · simp only
        generalize rate * d.At = Y at hp ⊢
        omega
  · rw [if_neg h1] at ht; simp at ht
/-- The bound that the law reckons. -/
def mostI (rate burst at' gr : Int) : Int := burst + (rate * (at' / 1000) + 999999) / 1000000 + rate / 1000000 + 1 + gr
theorem inv_bound {rate burst : Int} {k : Nat} {d : Bkt} {tk gr : Int} (h : Inv rate burst k d tk gr) (hR : 1 ≤ rate) : tk ≤ mostI rate burst d.At gr := by
  have hp := h.p
  have hl := h.l
  have hM := h.ok.hRem
  have hA := h.ok.hAt
  unfold mostI
  have h1 : rate * d.At ≤ rate * (1000 * (d.At / 1000) + 999) := Int.mul_le_mul_of_nonneg_left (by omega) (by omega)
  have h2 : rate * (1000 * (d.At / 1000) + 999) = 1000 * (rate * (d.At / 1000)) + 999 * rate := by
    rw [Int.mul_add, Int.mul_left_comm]
    omega
  rw [h2] at h1
  generalize rate * (d.At / 1000) = X at h1 ⊢
  generalize rate * d.At = Y at hp h1
  omega
end Go.Proofs.Ytimogbalkhgplaa
