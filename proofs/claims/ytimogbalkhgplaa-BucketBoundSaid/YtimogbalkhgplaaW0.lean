/- Words on worlds: what a call leaves behind that only makes memory. -/
import Derived.Test.YtimogbalkhgplaaA
import Derived.WalkKit
import Derived.Below
import Derived.WalkSmall
import Derived.Laws.Rows
import Derived.Laws.CopyRow
import Derived.Deep.Draws
import Derived.Laws.NewBlocks
namespace Go.Proofs.Ytimogbalkhgplaa
open Go.RowKit

theorem max2_mx (k k' : IntKind) (x y : Int) : Builtin.max2 (.int k x) (.int k' y) = pure (.int k (mx x y)) := by simp only [Builtin.max2, gt_iff_lt]; rfl
theorem min2_mn (k k' : IntKind) (x y : Int) : Builtin.min2 (.int k x) (.int k' y) = pure (.int k (mn x y)) := by simp only [Builtin.min2]; rfl
theorem max_two (ats : Array TypeId) (ty : TypeId) (a b : Value) : Builtin.max_ ats ty #[a, b] = (Builtin.max2 a b >>= fun s => pure s) := by simp only [Builtin.max_, List.foldlM_cons, List.foldlM_nil]
theorem min_two (ats : Array TypeId) (ty : TypeId) (a b : Value) : Builtin.min_ ats ty #[a, b] = (Builtin.min2 a b >>= fun s => pure s) := by simp only [Builtin.min_, List.foldlM_cons, List.foldlM_nil]
theorem alloc_drewN (w : World) (n : Nat) (o : Obj) : (w.drewN n).alloc o = (w.alloc o).drewN n := rfl
theorem setCell_drewN (w : World) (n : Nat) (a : Addr) (v : Value) : (w.drewN n).setCell a v = (w.setCell a v).drewN n := rfl

/-- WHAT A CALL LEAVES THAT ONLY MAKES MEMORY: nothing that lay has turned. -/
def Grew (w w' : World) : Prop := Below w.heap.size w w'
theorem Grew.below {w w' : World} (h : Grew w w') : Below w.heap.size w w' := h
theorem Grew.refl (w : World) : Grew w w := Below.refl _ _
theorem Grew.alloc {w W : World} (h : Grew w W) (o : Obj) : Grew w (W.alloc o) := Below.alloc h h.below.size o
theorem Grew.drewN {w W : World} (h : Grew w W) (n : Nat) : Grew w (W.drewN n) := below_drewN h n
theorem Grew.drew {w W : World} (h : Grew w W) : Grew w W.drew := Below.drew h
theorem Grew.trans {a b c : World} (h : Grew a b) (k : Grew b c) : Grew a c := Below.trans h (Below.mono k h.below.size)
theorem Grew.set {w W : World} (h : Grew w W) (p : Addr) (hp : w.heap.size ≤ p.block) (u : Value) : Grew w (W.setCell p u) := Below.setCell h hp u

theorem Grew.rules {W w1 : World} (hb : Grew W w1) : (∀ b o, b < W.heap.size → w1.cell? ⟨b, o, none⟩ = W.cell? ⟨b, o, none⟩) ∧ (∀ b o, b < W.heap.size → w1.frozen? ⟨b, o, none⟩ = W.frozen? ⟨b, o, none⟩) :=
  ⟨fun b o h => hb.below.cell (p := ⟨b, o, none⟩) h, fun b o h => hb.below.frozen (p := ⟨b, o, none⟩) h⟩
/-- What stands of the first m blocks of a call's own, behind a callee. -/
theorem keptAll {w W w1 : World} (m : Nat) (h : Grew W w1) (hW : w.heap.size + m ≤ W.heap.size) :
    (∀ b o, b < w.heap.size + m → w1.cell? ⟨b, o, none⟩ = W.cell? ⟨b, o, none⟩) ∧ (∀ b o, b < w.heap.size + m → w1.frozen? ⟨b, o, none⟩ = W.frozen? ⟨b, o, none⟩) ∧ w.heap.size + m ≤ w1.heap.size :=
  ⟨fun b o hb => h.below.cell (p := ⟨b, o, none⟩) (Nat.lt_of_lt_of_le hb hW), fun b o hb => h.below.frozen (p := ⟨b, o, none⟩) (Nat.lt_of_lt_of_le hb hW), Nat.le_trans hW h.below.size⟩
theorem kept1 {w W w1 : World} (h : Grew W w1) (hW : w.heap.size + 1 ≤ W.heap.size) :
    (∀ b o, b < w.heap.size + 1 → w1.cell? ⟨b, o, none⟩ = W.cell? ⟨b, o, none⟩) ∧ (∀ b o, b < w.heap.size + 1 → w1.frozen? ⟨b, o, none⟩ = W.frozen? ⟨b, o, none⟩) ∧ w.heap.size < w1.heap.size := by
  obtain ⟨a, b, c⟩ := keptAll 1 h hW
  exact ⟨a, b, by omega⟩
theorem kept2 {w W w1 : World} (h : Grew W w1) (hW : w.heap.size + 2 ≤ W.heap.size) :
    (∀ b o, b < w.heap.size + 2 → w1.cell? ⟨b, o, none⟩ = W.cell? ⟨b, o, none⟩) ∧ (∀ b o, b < w.heap.size + 2 → w1.frozen? ⟨b, o, none⟩ = W.frozen? ⟨b, o, none⟩) ∧ w.heap.size < w1.heap.size ∧ w.heap.size + 1 < w1.heap.size := by
  obtain ⟨a, b, c⟩ := keptAll 2 h hW
  exact ⟨a, b, by omega, by omega⟩
theorem kept3 {w W w1 : World} (h : Grew W w1) (hW : w.heap.size + 3 ≤ W.heap.size) :
    (∀ b o, b < w.heap.size + 3 → w1.cell? ⟨b, o, none⟩ = W.cell? ⟨b, o, none⟩) ∧ (∀ b o, b < w.heap.size + 3 → w1.frozen? ⟨b, o, none⟩ = W.frozen? ⟨b, o, none⟩) ∧ w.heap.size < w1.heap.size ∧ w.heap.size + 1 < w1.heap.size ∧ w.heap.size + 1 + 1 < w1.heap.size := by
  obtain ⟨a, b, c⟩ := keptAll 3 h hW
  exact ⟨a, b, by omega, by omega, by omega⟩
end Go.Proofs.Ytimogbalkhgplaa
