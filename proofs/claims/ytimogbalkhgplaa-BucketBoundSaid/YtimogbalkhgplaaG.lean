/- Words on blocks that hold a bucket. -/
import Derived.Test.YtimogbalkhgplaaC
import Derived.Test.YtimogbalkhgplaaIt
namespace Go.Proofs.Ytimogbalkhgplaa
open Go.RowKit
set_option linter.unusedSimpArgs false
/-- Block g is a bucket's. -/
def At (w : World) (g : Nat) (cs : Array Value) : Prop := w.heap[g]? = some (.cells cs 24 (0, 0))
theorem At.set {w : World} {g : Nat} {cs : Array Value} (h : At w g cs) (i : Nat) (v : Value) : At (w.setCell ⟨g, i, none⟩ v) g (cs.setIfInBounds i v) := heap_setCell_same w g i cs 24 v h
theorem At.cell {w : World} {g : Nat} {cs : Array Value} (h : At w g cs) : ∀ j, w.cell? ⟨g, j, none⟩ = cs[j]? := fun j => by unfold At at h; simp [World.cell?, h]
theorem At.free {w : World} {g : Nat} {cs : Array Value} (h : At w g cs) : ∀ j, w.frozen? ⟨g, j, none⟩ = false := fun j => by unfold At at h; simp [World.frozen?, h]
theorem At.lt {w : World} {g : Nat} {cs : Array Value} (h : At w g cs) : g < w.heap.size := (Array.getElem?_eq_some_iff.1 h).1
theorem At.alloc {w : World} {g : Nat} {cs : Array Value} (h : At w g cs) (o : Obj) : At (w.alloc o) g cs := (Below.heap_alloc w o g h.lt).trans h
theorem At.grew {w w' : World} {g : Nat} {cs : Array Value} (h : At w g cs) (k : Grew w w') : At w' g cs := (k.below.block g h.lt).trans h
theorem At.drewN {w : World} {g : Nat} {cs : Array Value} (h : At w g cs) (n : Nat) : At (w.drewN n) g cs := h
theorem At.drew {w : World} {g : Nat} {cs : Array Value} (h : At w g cs) : At w.drew g cs := h
theorem At.far {w : World} {g : Nat} {cs : Array Value} (h : At w g cs) (p : Addr) (v : Value) (hp : g ≠ p.block) : At (w.setCell p v) g cs := (heap_setCell_other w p g v hp).trans h
theorem At.cast {w : World} {g : Nat} {cs cs' : Array Value} (h : At w g cs) (e : cs = cs') : At w g cs' := e ▸ h
theorem At.put {w : World} {g : Nat} {cs : Array Value} (h : At w g cs) (l : Nat) (o : Obj) (hl : g ≠ l) : At (w.putObj l o) g cs := (World.putObj_heap_other hl).trans h
theorem Grew.put {w W : World} (h : Grew w W) {l : Nat} (hl : w.heap.size ≤ l) (o : Obj) : Grew w (W.putObj l o) := below_putObj h hl o
theorem at_alloc (w : World) (cs : Array Value) : At (w.alloc (.cells cs 24)) w.heap.size cs := heap_alloc_new w _
theorem at_alloc1 (w : World) (o : Obj) (cs : Array Value) : At ((w.alloc o).alloc (.cells cs 24)) (w.heap.size + 1) cs := heap_alloc2_new w _ _
theorem results_ct {P : Program} {fn : Func} {p u : Tmp} {ty : TypeId} (h : fn.results = #[.cell p ty, .tmp u]) (tmps : Array Value) (w : World) (g : Nat) (t : TypeId) (cs : Array Value) (fr : Nat × Nat) (d : TypeDesc)
    (hp : tmps.getD p undef = .pointer (some ⟨g, 0, none⟩)) (hg : w.heap[g]? = some (.cells cs t fr))
    (hu : P.underlying ty = some d) (hd : (match d with | .struct _ | .array _ _ => true | _ => false) = true) (hi : (P.info? ty).map (·.size) = some cs.size) :
    (results fn tmps).run P w = .ok (.tuple #[.agg cs, tmps.getD u undef]) w := by
  have hp' : tmps[p]?.getD undef = .pointer (some ⟨g, 0, none⟩) := by simpa using hp
  simp [results, h, hp', asAddr, run_loadVar_row w g t ty cs fr d hg hu hd hi]
/-- A whole bucket stored in a block. -/
@[reducible] def storeB (w : World) (g : Nat) (d : Bkt) : World := ((((w.setCell ⟨g, 0, none⟩ (.int .u64 d.Rate)).setCell ⟨g, 1, none⟩ (.int .i64 d.Burst)).setCell ⟨g, 2, none⟩ (.int .i64 d.Level)).setCell ⟨g, 3, none⟩ (.int .u64 d.Rem)).setCell ⟨g, 4, none⟩ (.int .u64 d.At)
theorem At.store {w : World} {g : Nat} {e : Bkt} (h : At w g e.cells) (d : Bkt) : At (storeB w g d) g d.cells :=
  At.cast (((((h.set 0 _).set 1 _).set 2 _).set 3 _).set 4 _) (by simp)
theorem At.farStore {w : World} {g : Nat} {cs : Array Value} (h : At w g cs) (b : Nat) (d : Bkt) (hne : g ≠ b) : At (storeB w b d) g cs :=
  (((((h.far ⟨b, 0, none⟩ _ hne).far ⟨b, 1, none⟩ _ hne).far ⟨b, 2, none⟩ _ hne).far ⟨b, 3, none⟩ _ hne).far ⟨b, 4, none⟩ _ hne)
theorem Grew.store {w W : World} (h : Grew w W) (g : Nat) (d : Bkt) (hg : w.heap.size ≤ g) : Grew w (storeB W g d) :=
  (((((h.set ⟨g, 0, none⟩ hg _).set ⟨g, 1, none⟩ hg _).set ⟨g, 2, none⟩ hg _).set ⟨g, 3, none⟩ hg _).set ⟨g, 4, none⟩ hg _)
@[reducible] def pairV (d : Bkt) (e : Int) : Value := .tuple #[.agg d.cells, .int .i64 e]
@[reducible] def tripV (d : Bkt) (b : Bool) (e : Int) : Value := .tuple #[.agg d.cells, .bool b, .int .i64 e]
end Go.Proofs.Ytimogbalkhgplaa
