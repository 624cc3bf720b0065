/- BucketParts: the walk. -/
import Derived.Test.YtimogbalkhgplaaFr
import Derived.Test.YtimogbalkhgplaaRf
import Derived.Test.YtimogbalkhgplaaFi
import Derived.Deep.RegionHeld3
namespace Go.Proofs.Ytimogbalkhgplaa
open Go.RowKit Go.Shelf
set_option linter.unusedSimpArgs false
set_option maxHeartbeats 1000000
attribute [local go_sem] alloc_drewN setCell_drewN
attribute [local go_sem high] eqB
theorem got_parts (R M a b c : Int) : R * (c - a) + M = R * (c - b) + (R * (b - a) + M) := by
  have : c - a = (c - b) + (b - a) := by omega
  rw [this, Int.mul_add]
  omega
theorem fill_inv {d c : Bkt} {t : Int} (h : fillS d t = (c, 0)) : right d = true ∧ d.At ≤ t ∧ t ≤ 9223372036854775807 ∧ c = (if fullS d t = true then (⟨d.Rate, d.Burst, d.Burst, 0, t⟩ : Bkt) else ⟨d.Rate, d.Burst, d.Level + gainedN d (t - d.At), gainedR d (t - d.At), t⟩) := by
  unfold fillS at h
  by_cases h1 : right d = true
  · rw [if_pos h1] at h
    by_cases h2 : t < d.At ∨ 9223372036854775807 < t
    · rw [if_pos h2] at h; simp at h
    · rw [if_neg h2] at h
      refine ⟨h1, by omega, by omega, ?_⟩
      by_cases h3 : fullS d t = true
      · rw [if_pos h3] at h ⊢; simp at h; exact h.symm
      · rw [if_neg h3] at h ⊢; simp at h; exact h.symm
  · rw [if_neg h1] at h; simp at h
theorem fill_right {d c : Bkt} {t : Int} (hd : d.Ok) (h : fillS d t = (c, 0)) : right c = true ∧ c.Ok := by
  obtain ⟨h1, h2, h3, rfl⟩ := fill_inv h
  have hr := (right_iff d).1 h1
  have hg := gained_range d (t - d.At) hd (by omega)
  have hm := gainedR_range d (t - d.At)
  have hA := hd.hAt
  by_cases hf : fullS d t = true
  · rw [if_pos hf]
    refine ⟨by rw [right_iff]; simp only; omega, ⟨hd.hRate, hd.hBurst, hd.hBurst, by simp, ?_⟩⟩
    simp only; omega
  · rw [if_neg hf]
    have hf2 : ¬ d.Burst ≤ d.Level + gainedN d (t - d.At) := by
      intro hh
      exact hf (by simp [fullS, hh])
    refine ⟨by rw [right_iff]; simp only; omega, ⟨hd.hRate, hd.hBurst, ?_, ?_, ?_⟩⟩ <;> simp only <;> omega
/-- Filled up in two parts it is filled as at once. -/
theorem fill_parts {d x y : Bkt} {a b : Int} (hd : d.Ok) (h1 : fillS d a = (x, 0)) (h2 : fillS x b = (y, 0)) : fillS d b = (y, 0) := by
  have hx := fill_right hd h1
  obtain ⟨k1, k2, k3, ex⟩ := fill_inv h1
  obtain ⟨m1, m2, m3, ey⟩ := fill_inv h2
  have hr := (right_iff d).1 k1
  have hR := hd.hRate
  have hM := hd.hRem
  have hxat : x.At = a := by rw [ex]; split <;> rfl
  have hxr : x.Rate = d.Rate := by rw [ex]; split <;> rfl
  have hxb : x.Burst = d.Burst := by rw [ex]; split <;> rfl
  rw [hxat] at m2
  have e : fillS d b = (if fullS d b = true then (⟨d.Rate, d.Burst, d.Burst, 0, b⟩, 0) else (⟨d.Rate, d.Burst, d.Level + gainedN d (b - d.At), gainedR d (b - d.At), b⟩, 0)) := by
    unfold fillS
    rw [if_pos k1, if_neg (by omega)]
  rw [e]
  have hP1 : 0 ≤ d.Rate * (a - d.At) := Int.mul_nonneg hR.1 (by omega)
  have hP2 : 0 ≤ d.Rate * (b - a) := Int.mul_nonneg hR.1 (by omega)
  have hgp := got_parts d.Rate d.Rem d.At a b
  by_cases h0 : d.Rate = 0
  · have f1 : fullS d b = true := by simp [fullS, h0]
    have f2 : fullS x b = true := by simp [fullS, hxr, h0]
    rw [if_pos f1]
    rw [if_pos f2, hxr, hxb] at ey
    rw [ey]
  have hz : (d.Rate == 0) = false := by simpa using h0
  have hzx : (x.Rate == 0) = false := by rw [hxr]; exact hz
  have F1 : fullS d a = decide (d.Burst ≤ d.Level + gainedN d (a - d.At)) := by simp [fullS, hz]
  have F2 : fullS d b = decide (d.Burst ≤ d.Level + gainedN d (b - d.At)) := by simp [fullS, hz]
  have F3 : fullS x b = decide (x.Burst ≤ x.Level + gainedN x (b - x.At)) := by simp [fullS, hzx]
  have G1 : got d (a - d.At) = d.Rate * (a - d.At) + d.Rem := rfl
  have G2 : got d (b - d.At) = d.Rate * (b - d.At) + d.Rem := rfl
  have G3 : got x (b - x.At) = d.Rate * (b - a) + x.Rem := by unfold got; rw [hxr, hxat]
  rw [hgp] at G2
  generalize d.Rate * (a - d.At) = P1 at *
  generalize d.Rate * (b - a) = P2 at *
  by_cases hf : fullS d a = true
  · rw [if_pos hf] at ex
    have hxl : x.Level = d.Burst := by rw [ex]
    have hxm : x.Rem = 0 := by rw [ex]
    have f2 : fullS d b = true := by
      rw [F1] at hf
      have hf := of_decide_eq_true hf
      rw [F2]
      apply decide_eq_true
      unfold gainedN mn at hf ⊢
      rw [G1] at hf
      rw [G2]
      repeat' split at hf
      all_goals repeat' split
      all_goals omega
    have f3 : fullS x b = true := by
      rw [F3, hxb, hxl]
      apply decide_eq_true
      have := gained_range x (b - x.At) hx.2 (by rw [hxat]; omega)
      omega
    rw [if_pos f2]
    rw [if_pos f3, hxr, hxb] at ey
    rw [ey]
  · rw [if_neg hf] at ex
    have hxl : x.Level = d.Level + gainedN d (a - d.At) := by rw [ex]
    have hxm : x.Rem = gainedR d (a - d.At) := by rw [ex]
    have hf' : ¬ d.Burst ≤ d.Level + gainedN d (a - d.At) := by
      intro hh
      exact hf (by rw [F1]; exact decide_eq_true hh)
    have hS1 : ¬ 1000000000 ≤ got d (a - d.At) / 18446744073709551616 := by
      intro hh
      apply hf'
      unfold gainedN
      rw [if_pos hh]
      omega
    have hN1 : gainedN d (a - d.At) = got d (a - d.At) / 1000000000 := by
      unfold gainedN at hf' ⊢
      rw [if_neg hS1] at hf' ⊢
      unfold mn at hf' ⊢
      split at hf'
      · omega
      · rename_i hh
        rw [if_neg hh]
    have hM1 : gainedR d (a - d.At) = got d (a - d.At) % 1000000000 := by unfold gainedR; rw [if_neg hS1]
    rw [hN1, G1] at hxl
    rw [hM1, G1] at hxm
    rw [hxm] at G3
    have key : fullS x b = fullS d b ∧ (fullS d b = false → x.Level + gainedN x (b - x.At) = d.Level + gainedN d (b - d.At) ∧ gainedR x (b - x.At) = gainedR d (b - d.At)) := by
      rw [F2, F3, hxb, hxl]
      unfold gainedN gainedR mn
      rw [G2, G3]
      rw [hN1, G1] at hf'
      constructor
      · rw [Bool.eq_iff_iff]
        simp only [decide_eq_true_eq]
        repeat' split
        all_goals omega
      · intro hh
        have hh := of_decide_eq_false hh
        split at hh
        · omega
        · rename_i hb1
          split at hh
          · omega
          · rename_i hb2
            rw [if_neg (by omega), if_neg (by omega), if_neg (by omega)]
            rw [if_neg (by omega), if_neg (by omega), if_neg (by omega)]
            omega
    by_cases hfb : fullS d b = true
    · rw [if_pos hfb]
      rw [if_pos (key.1.trans hfb), hxr, hxb] at ey
      rw [ey]
    · have hfb' : fullS d b = false := by simpa using hfb
      rw [if_neg hfb]
      rw [if_neg (by rw [key.1]; exact hfb), hxr, hxb, (key.2 hfb').1, (key.2 hfb').2] at ey
      rw [ey]
end Go.Proofs.Ytimogbalkhgplaa
