/- Askings that came in as a slice: opened. -/
import Derived.Test.YtimogbalkhgplaaO
namespace Go.Proofs.Ytimogbalkhgplaa
open Go.ChangeShapes Go.WideShapes Go.ChangeAt Go.RowKit
structure Ask2 where
  Ns : Int
  N : Int
/-- The acts as they lie in memory. -/
def IsAsks (w : World) (A : Option Addr) (n : Nat) (f : Nat → Ask2) : Prop :=
  n ≤ 9223372036854775807 ∧ (n = 0 ∨ ∃ b off, A = some ⟨b, off, none⟩ ∧ ∀ i, i < n → w.cell? ⟨b, off + i * 2, none⟩ = some (.int .u64 (f i).Ns) ∧ w.cell? ⟨b, off + i * 2 + 1, none⟩ = some (.int .i64 (f i).N) ∧
    (0 ≤ (f i).Ns ∧ (f i).Ns ≤ 18446744073709551615) ∧ (-9223372036854775808 ≤ (f i).N ∧ (f i).N ≤ 9223372036854775807))
theorem choose_asks {P : Nat → Ask2 → Prop} {n : Nat} (h : ∀ i, i < n → ∃ x, P i x) : ∃ f : Nat → Ask2, ∀ i, i < n → P i (f i) :=
  ⟨fun i => if hi : i < n then Classical.choose (h i hi) else ⟨0, 0⟩, fun i hi => by simp only [hi, dif_pos]; exact Classical.choose_spec (h i hi)⟩
theorem add_none (b o n : Nat) : (⟨b, o, none⟩ : Addr).add n = ⟨b, o + n, none⟩ := by
  unfold Addr.add
  split
  · rename_i h; subst h; rfl
  · rfl
theorem spot_none {w : World} {a : Addr} {v : Value} (h : w.cell? a = some v) : a = ⟨a.block, a.off, none⟩ := by
  obtain ⟨b, o, s⟩ := a
  cases s with
  | none => rfl
  | some x =>
    exfalso
    unfold World.cell? at h
    split at h
    · simp at h
    · simp at h
theorem cells41 : Try.prog.cellsOf 41 = 2 := by kernel_rfl
theorem open_asks {H : Type} {enc : TypeId × Value → H} {W : World} {base : Nat} {spare : Nat → Bool} {held : Bool} {r : Reach} {b0 : Nat} {v : Value} {dd : DataW H} {p : List MemPlace}
    (hv : Value.okWide Try.prog W r b0 39 v) (h : DataW.Trod enc Try.prog W base spare held 39 v dd p) : ∃ A n c f, v = .slice A n c ∧ IsAsks W A n f := by
  obtain ⟨a0, len, cap, rfl⟩ := okWide_slice Try.underlying39 hv
  obtain ⟨fuel, hf⟩ := h
  rcases DataW.trod_slice Try.underlying39 hf with ⟨hcs, _⟩ | ⟨a, l, c, elems, rest, n, _, hcs, _, _, hl, hc, hel, hall, _, _⟩
  · simp [Value.cells] at hcs
    obtain ⟨rfl, rfl, rfl⟩ := hcs
    exact ⟨_, _, _, fun _ => ⟨0, 0⟩, rfl, by omega, .inl rfl⟩
  · simp [Value.cells] at hcs
    obtain ⟨rfl, rfl, rfl⟩ := hcs
    by_cases h0 : len = 0
    · exact ⟨_, _, _, fun _ => ⟨0, 0⟩, rfl, by unfold maxLen at hc; omega, .inl h0⟩
    have hspot : a = ⟨a.block, a.off, none⟩ := by
      have h1 := hall 0 (by omega)
      rw [List.getElem?_eq_getElem (by omega), cells41, Option.bind_eq_some_iff] at h1
      obtain ⟨cs, hc1, ht⟩ := h1
      obtain ⟨_, hcl, hat⟩ := World.cells?_some hc1
      have h2 := hat 0 (by omega)
      rw [List.getElem?_eq_getElem (by omega)] at h2
      exact spot_none h2
    obtain ⟨b, off, hab⟩ : ∃ b off, a = ⟨b, off, none⟩ := ⟨_, _, hspot⟩
    subst hab
    have key : ∀ i, i < len → ∃ x : Ask2, W.cell? ⟨b, off + i * 2, none⟩ = some (.int .u64 x.Ns) ∧ W.cell? ⟨b, off + i * 2 + 1, none⟩ = some (.int .i64 x.N) ∧
        (0 ≤ x.Ns ∧ x.Ns ≤ 18446744073709551615) ∧ (-9223372036854775808 ≤ x.N ∧ x.N ≤ 9223372036854775807) := by
      intro i hi
      have hi' := hall i hi
      rw [List.getElem?_eq_getElem (by omega), cells41, Option.bind_eq_some_iff] at hi'
      obtain ⟨cs, hc1, ht⟩ := hi'
      obtain ⟨_, hcl, hat⟩ := World.cells?_some hc1
      obtain ⟨xs, m, _, _, _, hlen, hg⟩ := DataW.trod_struct Try.underlying41 ht
      have hlen' : xs.length = 2 := hlen
      match cs, hcl with
      | [c0, c1], _ =>
        obtain ⟨x0, e0, _, w0⟩ := DataW.trod_int Try.underlying22 ((hg 0 _ rfl).trans (List.getElem?_eq_getElem (by omega)))
        replace e0 : c0 = .int .u64 x0 := by have e : List.take (Try.prog.cellsOf 22) (List.drop 0 _) = _ := e0; rw [cells22] at e; simpa using e
        obtain ⟨x1, e1, _, w1⟩ := DataW.trod_int Try.underlying2 ((hg 1 _ rfl).trans (List.getElem?_eq_getElem (by omega)))
        replace e1 : c1 = .int .i64 x1 := by have e : List.take (Try.prog.cellsOf 2) (List.drop 1 _) = _ := e1; rw [cells2] at e; simpa using e
        subst e0 e1
        have g0 := hat 0 (by omega)
        have g1 := hat 1 (by omega)
        rw [add_none, add_none] at g0 g1
        exact ⟨⟨x0, x1⟩, g0, g1, bounds_u64 w0, bounds_i64 w1⟩
    obtain ⟨f, hf'⟩ := choose_asks key
    exact ⟨_, _, _, f, rfl, by unfold maxLen at hc; omega, .inr ⟨b, off, rfl, hf'⟩⟩
end Go.Proofs.Ytimogbalkhgplaa
