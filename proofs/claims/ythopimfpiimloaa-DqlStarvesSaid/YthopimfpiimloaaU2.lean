/- Numbers of 32 bits that came in as a slice: opened. -/
import Derived.Test.YthopimfpiimloaaU
import Derived.ChangeSlices
namespace Go.Proofs.Ythopimfpiimloaa
open Go.ChangeShapes Go.WideShapes Go.ChangeAt Go.RowKit
/-- The numbers as they lie in memory. -/
def IsU32s (w : World) (A : Option Addr) (n : Nat) (f : Nat → Int) : Prop :=
  n ≤ 9223372036854775807 ∧ (n = 0 ∨ ∃ b off, A = some ⟨b, off, none⟩ ∧ ∀ i, i < n → w.cell? ⟨b, off + i, none⟩ = some (.int .u32 (f i)) ∧ (0 ≤ f i ∧ f i ≤ 4294967295))
theorem open_u32s {H : Type} {enc : TypeId × Value → H} {W : World} {base : Nat} {spare : Nat → Bool} {held : Bool} {r : Reach} {b0 : Nat} {v : Value} {dd : DataW H} {p : List MemPlace}
    (hv : Value.okWide Try.prog W r b0 41 v) (h : DataW.Trod enc Try.prog W base spare held 41 v dd p) : ∃ A n c f, v = .slice A n c ∧ IsU32s W A n f := by
  obtain ⟨a0, len, cap, rfl⟩ := okWide_slice Try.underlying41 hv
  obtain ⟨fuel, hf⟩ := h
  rcases open_ints Try.underlying41 Try.underlying22 cells22 hf with ⟨hcs, _⟩ | ⟨a, l, c, zs, hcs, _, hl, hc, hlen, _, hall, hwf⟩
  · simp [Value.cells] at hcs
    obtain ⟨rfl, rfl, rfl⟩ := hcs
    exact ⟨_, _, _, fun _ => 0, rfl, by omega, .inl rfl⟩
  · simp [Value.cells] at hcs
    obtain ⟨rfl, rfl, rfl⟩ := hcs
    have hle : len ≤ zs.length := by rw [hlen]; split <;> omega
    by_cases h0 : len = 0
    · exact ⟨_, _, _, fun _ => 0, rfl, by unfold maxLen at hc; omega, .inl h0⟩
    have hspot : a = ⟨a.block, a.off, none⟩ := by
      have h1 := hall 0 (by omega)
      have h2 : a.add 0 = a := by simp [Addr.add]
      rw [h2] at h1
      exact spot_none h1
    obtain ⟨b, off, hab⟩ : ∃ b off, a = ⟨b, off, none⟩ := ⟨_, _, hspot⟩
    subst hab
    refine ⟨_, _, _, fun i => zs.getD i 0, rfl, by unfold maxLen at hc; omega, .inr ⟨b, off, rfl, fun i hi => ?_⟩⟩
    have h1 := hall i (by omega)
    rw [add_none] at h1
    refine ⟨h1, ?_⟩
    have hm : zs.getD i 0 ∈ zs := by
      rw [List.getD_eq_getElem?_getD, List.getElem?_eq_getElem (by omega)]
      exact List.getElem_mem _
    exact bounds_u32 (hwf _ hm)
end Go.Proofs.Ythopimfpiimloaa
