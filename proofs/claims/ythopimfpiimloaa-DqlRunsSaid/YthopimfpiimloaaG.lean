/- Contracts: restarts, grows. -/
import Derived.Test.YthopimfpiimloaaC
import Derived.StillTailTactics
import Derived.Deep.RegionWith
namespace Go.Proofs.Ythopimfpiimloaa
open Go.RowKit
set_option linter.unusedSimpArgs false
set_option maxHeartbeats 400000
attribute [local go_sem] alloc_drewN setCell_drewN
/-- Block g is a state's. -/
def At (w : World) (g : Nat) (cs : Array Value) : Prop := w.heap[g]? = some (.cells cs 26 (0, 0))
theorem At.set {w : World} {g : Nat} {cs : Array Value} (h : At w g cs) (i : Nat) (v : Value) : At (w.setCell ⟨g, i, none⟩ v) g (cs.setIfInBounds i v) := heap_setCell_same w g i cs 26 v h
theorem At.cell {w : World} {g : Nat} {cs : Array Value} (h : At w g cs) : ∀ j, w.cell? ⟨g, j, none⟩ = cs[j]? := fun j => by unfold At at h; simp [World.cell?, h]
theorem At.free {w : World} {g : Nat} {cs : Array Value} (h : At w g cs) : ∀ j, w.frozen? ⟨g, j, none⟩ = false := fun j => by unfold At at h; simp [World.frozen?, h]
theorem At.lt {w : World} {g : Nat} {cs : Array Value} (h : At w g cs) : g < w.heap.size := (Array.getElem?_eq_some_iff.1 h).1
theorem gself (w : World) (g : Nat) : w.grownBy w (some g) := ⟨rfl, rfl, rfl, Nat.le_refl _, fun _ _ _ => rfl⟩
theorem gset {a w : World} {g : Nat} (h : a.grownBy w (some g)) (i : Nat) (v : Value) : a.grownBy (w.setCell ⟨g, i, none⟩ v) (some g) :=
  ⟨h.os, h.tape, h.output, by simpa using h.size, fun k hk hne => (Below.heap_setCell w ⟨g, i, none⟩ v k (fun e => hne (by rw [e]))).trans (h.block k hk hne)⟩
theorem galloc {a w : World} {g : Nat} (h : a.grownBy w (some g)) (o : Obj) : a.grownBy (w.alloc o) (some g) :=
  ⟨h.os, h.tape, h.output, Nat.le_trans h.size (by simp), fun i hi hne => (Below.heap_alloc w o i (Nat.lt_of_lt_of_le hi h.size)).trans (h.block i hi hne)⟩
theorem gdrew {a w : World} {g : Nat} (h : a.grownBy w (some g)) : a.grownBy w.drew (some g) := ⟨h.os, h.tape, h.output, h.size, h.block⟩
theorem gdrewN {a w : World} {g : Nat} (h : a.grownBy w (some g)) (n : Nat) : a.grownBy (w.drewN n) (some g) := ⟨h.os, h.tape, h.output, h.size, h.block⟩
theorem gtrans {a b c : World} {g : Nat} (h : a.grownBy b (some g)) (k : b.grownBy c (some g)) : a.grownBy c (some g) :=
  ⟨k.os.trans h.os, k.tape.trans h.tape, k.output.trans h.output, Nat.le_trans h.size k.size, fun i hi hne => (k.block i (Nat.lt_of_lt_of_le hi h.size) hne).trans (h.block i hi hne)⟩
theorem At.alloc {w : World} {g : Nat} {cs : Array Value} (h : At w g cs) (o : Obj) : At (w.alloc o) g cs := (Below.heap_alloc w o g h.lt).trans h
theorem At.grew {w w' : World} {g : Nat} {cs : Array Value} (h : At w g cs) (k : Grew w w') : At w' g cs := (k.below.block g h.lt).trans h
theorem At.drewN {w : World} {g : Nat} {cs : Array Value} (h : At w g cs) (n : Nat) : At (w.drewN n) g cs := h
theorem restarts_c (d : Dql) (g : Nat) (now : Int) (w : World) (hg : At w g d.cells) : Calls Try.prog 38 #[.pointer (some ⟨g, 0, none⟩), .int .u64 now] w fun e w' => e = .returned (.tuple #[]) ∧ At w' g { d with Start := now, Slack := 4294967295 : Dql }.cells ∧ w.grownBy w' (some g) := by
  have hc := hg.cell
  have hf := hg.free
  have HG := Lib.hid hg
  clear hg
  go_enter Try.func38, Try.ntmps38
  go_wp2
  go_end0
  exact ⟨rfl, (HG.out.set 9 _).set 8 _, gset (gset (gself _ _) _ _) _ _⟩
theorem still_tail {P : Program} {id : Nat} {Q : Exit → Act → World → Prop} {a : Act} {w : World} {l : List Oper} (n : Nat) (hm : P.follows .mixedOrders = true) (hB : Region.lexTailB .any l.toArray n = true)
    (h : wpStill P l.toArray w.drew (fun a' => wpList P l.toArray Q (l.drop n) a' w.drew) (l.take n) a) : (Code.region id l.toArray true).wp P Q a w := wp_region_still_tail n hm hB h
theorem over_q (a b : Int) (w : World) : Calls Try.prog 29 #[.int .u32 a, .int .u32 b] w fun e w' => e = .returned (.int .u32 (over a b)) ∧ w' = w := (over_c a b w).mono fun _ _ ⟨h, k⟩ => ⟨h, k.symm⟩
/-- What a completion hands on. -/
structure Chg where
  n : Int
  done : Int
  now : Int
  over : Int
  isAll : Bool
@[reducible] def Chg.cells (c : Chg) : Array Value := #[.int .u32 c.n, .int .u32 c.done, .int .u64 c.now, .int .u32 c.over, .bool c.isAll]
@[reducible] def Chg.val (c : Chg) : Value := .agg c.cells
def growsB (d : Dql) (c : Chg) : Bool := (decide (0 < c.over) && (c.done == d.Queued)) || (!(d.PrevOver == 0) && c.isAll)
def growsS (d : Dql) (c : Chg) : Dql := { d with Limit := (d.Limit + (over c.done d.PrevQueued + d.PrevOver)) % 4294967296, Start := c.now, Slack := 4294967295 }
theorem grows_no (d : Dql) (c : Chg) (g : Nat) (w : World) (hg : At w g d.cells) (h : growsB d c = false) : Calls Try.prog 36 #[.pointer (some ⟨g, 0, none⟩), c.val] w fun e w' => e = .returned (.bool false) ∧ At w' g d.cells ∧ w.grownBy w' (some g) := by
  have hc := hg.cell
  have hf := hg.free
  have hlt := hg.lt
  have HG := Lib.hid hg
  have H := Lib.hid h
  clear hg h
  cases h1 : decide (0 < c.over) <;> cases h2 : (c.done == d.Queued) <;> cases h3 : (d.PrevOver == 0) <;> cases h4 : c.isAll
  all_goals first | (exfalso; have := H.out; simp [growsB, h1, h2, h3, h4] at this; done) | skip
  all_goals
    go_enter Try.func36, Try.ntmps36
    go_wp2
    go_quiet (fail)
    go_wp2
    go_ret
    exact ⟨rfl, (HG.out.alloc _), gdrewN (galloc (gself _ _) _) _⟩
theorem grows_yes (d : Dql) (c : Chg) (g : Nat) (w : World) (hg : At w g d.cells) (h : growsB d c = true) : Calls Try.prog 36 #[.pointer (some ⟨g, 0, none⟩), c.val] w fun e w' => e = .returned (.bool true) ∧ At w' g (growsS d c).cells ∧ w.grownBy w' (some g) := by
  have hc := hg.cell
  have hf := hg.free
  have hlt := hg.lt
  have HG := Lib.hid hg
  have H := Lib.hid h
  clear hg h
  cases h1 : decide (0 < c.over) <;> cases h2 : (c.done == d.Queued) <;> cases h3 : (d.PrevOver == 0) <;> cases h4 : c.isAll
  all_goals first | (exfalso; have := H.out; simp [growsB, h1, h2, h3, h4] at this; done) | skip
  all_goals
    go_enter Try.func36, Try.ntmps36
    go_wp2
    go_quiet (fail)
    go_wp2
    refine still_tail 17 (by kernel_rfl) (by kernel_rfl) ?_
    simp only [List.take_succ_cons, List.take_zero, List.drop_succ_cons, List.drop_zero]
    repeat (first | still_step | still_call (over_q _ _ _))
    refine wpStill_nil ?_
    go_wp2_with fail
    refine (restarts_c { d with Limit := (d.Limit + (over c.done d.PrevQueued + d.PrevOver)) % 4294967296 } g _ _ (((HG.out.set 3 _).alloc _).drewN _)).mono ?_
    rintro e w' ⟨rfl, hg2, hw2⟩
    go_wp2_with fail
    go_ret
    exact ⟨rfl, hg2, gtrans (gdrewN (galloc (gset (gself _ _) _ _) _) _) hw2⟩
end Go.Proofs.Ythopimfpiimloaa
