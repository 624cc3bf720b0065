/- Acts that came in as a slice: opened. -/
import Derived.Test.YthopimfpiimloaaD
import Derived.Test.YthopimfpiimloaaW0
namespace Go.Proofs.Ythopimfpiimloaa
open Go.ChangeShapes Go.WideShapes Go.ChangeAt Go.RowKit
structure Act3 where
  Do : Int
  N : Int
  Ticks : Int
/-- The acts as they lie in memory. -/
def IsActs (w : World) (A : Option Addr) (n : Nat) (f : Nat → Act3) : Prop :=
  n ≤ 9223372036854775807 ∧ (n = 0 ∨ ∃ b off, A = some ⟨b, off, none⟩ ∧ ∀ i, i < n → w.cell? ⟨b, off + i * 3, none⟩ = some (.int .i64 (f i).Do) ∧ w.cell? ⟨b, off + i * 3 + 1, none⟩ = some (.int .u32 (f i).N) ∧ w.cell? ⟨b, off + i * 3 + 2, none⟩ = some (.int .u64 (f i).Ticks) ∧
    (-9223372036854775808 ≤ (f i).Do ∧ (f i).Do ≤ 9223372036854775807) ∧ (0 ≤ (f i).N ∧ (f i).N ≤ 4294967295) ∧ (0 ≤ (f i).Ticks ∧ (f i).Ticks ≤ 18446744073709551615))
theorem choose_acts {P : Nat → Act3 → Prop} {n : Nat} (h : ∀ i, i < n → ∃ x, P i x) : ∃ f : Nat → Act3, ∀ i, i < n → P i (f i) :=
  ⟨fun i => if hi : i < n then Classical.choose (h i hi) else ⟨0, 0, 0⟩, fun i hi => by simp only [hi, dif_pos]; exact Classical.choose_spec (h i hi)⟩
theorem add_none (b o n : Nat) : (⟨b, o, none⟩ : Addr).add n = ⟨b, o + n, none⟩ := by
  unfold Addr.add
  split
  · rename_i h; subst h; rfl
  · rfl
theorem spot_none {w : World} {a : Addr} {v : Value} (h : w.cell? a = some v) : a = ⟨a.block, a.off, none⟩ := by
  obtain ⟨b, o, s⟩ := a
  cases s with
  | none => rfl
  | some x =>
    exfalso
    unfold World.cell? at h
    split at h
    · simp at h
    · simp at h
theorem cells36 : Try.prog.cellsOf 36 = 3 := by kernel_rfl
theorem cells3 : Try.prog.cellsOf 3 = 1 := by kernel_rfl
theorem open_acts {H : Type} {enc : TypeId × Value → H} {W : World} {base : Nat} {spare : Nat → Bool} {held : Bool} {r : Reach} {b0 : Nat} {v : Value} {dd : DataW H} {p : List MemPlace}
    (hv : Value.okWide Try.prog W r b0 34 v) (h : DataW.Trod enc Try.prog W base spare held 34 v dd p) : ∃ A n c f, v = .slice A n c ∧ IsActs W A n f := by
  obtain ⟨a0, len, cap, rfl⟩ := okWide_slice Try.underlying34 hv
  obtain ⟨fuel, hf⟩ := h
  rcases DataW.trod_slice Try.underlying34 hf with ⟨hcs, _⟩ | ⟨a, l, c, elems, rest, n, _, hcs, _, _, hl, hc, hel, hall, _, _⟩
  · simp [Value.cells] at hcs
    obtain ⟨rfl, rfl, rfl⟩ := hcs
    exact ⟨_, _, _, fun _ => ⟨0, 0, 0⟩, rfl, by omega, .inl rfl⟩
  · simp [Value.cells] at hcs
    obtain ⟨rfl, rfl, rfl⟩ := hcs
    by_cases h0 : len = 0
    · exact ⟨_, _, _, fun _ => ⟨0, 0, 0⟩, rfl, by unfold maxLen at hc; omega, .inl h0⟩
    have hspot : a = ⟨a.block, a.off, none⟩ := by
      have h1 := hall 0 (by omega)
      rw [List.getElem?_eq_getElem (by omega), cells36, Option.bind_eq_some_iff] at h1
      obtain ⟨cs, hc1, ht⟩ := h1
      obtain ⟨_, hcl, hat⟩ := World.cells?_some hc1
      have h2 := hat 0 (by omega)
      rw [List.getElem?_eq_getElem (by omega)] at h2
      exact spot_none h2
    obtain ⟨b, off, hab⟩ : ∃ b off, a = ⟨b, off, none⟩ := ⟨_, _, hspot⟩
    subst hab
    have key : ∀ i, i < len → ∃ x : Act3, W.cell? ⟨b, off + i * 3, none⟩ = some (.int .i64 x.Do) ∧ W.cell? ⟨b, off + i * 3 + 1, none⟩ = some (.int .u32 x.N) ∧ W.cell? ⟨b, off + i * 3 + 2, none⟩ = some (.int .u64 x.Ticks) ∧
        (-9223372036854775808 ≤ x.Do ∧ x.Do ≤ 9223372036854775807) ∧ (0 ≤ x.N ∧ x.N ≤ 4294967295) ∧ (0 ≤ x.Ticks ∧ x.Ticks ≤ 18446744073709551615) := by
      intro i hi
      have hi' := hall i hi
      rw [List.getElem?_eq_getElem (by omega), cells36, Option.bind_eq_some_iff] at hi'
      obtain ⟨cs, hc1, ht⟩ := hi'
      obtain ⟨_, hcl, hat⟩ := World.cells?_some hc1
      obtain ⟨xs, m, _, _, _, hlen, hg⟩ := DataW.trod_struct Try.underlying36 ht
      have hlen' : xs.length = 3 := hlen
      match cs, hcl with
      | [c0, c1, c2], _ =>
        obtain ⟨x0, e0, _, w0⟩ := DataW.trod_int Try.underlying3 ((hg 0 _ rfl).trans (List.getElem?_eq_getElem (by omega)))
        replace e0 : c0 = .int .i64 x0 := by have e : List.take (Try.prog.cellsOf 3) (List.drop 0 _) = _ := e0; rw [cells3] at e; simpa using e
        obtain ⟨x1, e1, _, w1⟩ := DataW.trod_int Try.underlying22 ((hg 1 _ rfl).trans (List.getElem?_eq_getElem (by omega)))
        replace e1 : c1 = .int .u32 x1 := by have e : List.take (Try.prog.cellsOf 22) (List.drop 1 _) = _ := e1; rw [cells22] at e; simpa using e
        obtain ⟨x2, e2, _, w2⟩ := DataW.trod_int Try.underlying23 ((hg 2 _ rfl).trans (List.getElem?_eq_getElem (by omega)))
        replace e2 : c2 = .int .u64 x2 := by have e : List.take (Try.prog.cellsOf 23) (List.drop 2 _) = _ := e2; rw [cells23] at e; simpa using e
        subst e0 e1 e2
        have g0 := hat 0 (by omega)
        have g1 := hat 1 (by omega)
        have g2 := hat 2 (by omega)
        rw [add_none, add_none] at g0 g1 g2
        exact ⟨⟨x0, x1, x2⟩, g0, g1, g2, bounds_i64 w0, bounds_u32 w1, bounds_u64 w2⟩
    obtain ⟨f, hf'⟩ := choose_acts key
    exact ⟨_, _, _, f, rfl, by unfold maxLen at hc; omega, .inr ⟨b, off, rfl, hf'⟩⟩
end Go.Proofs.Ythopimfpiimloaa
