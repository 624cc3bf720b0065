/- The iterator over halves: a loop whose rounds are handed to yield. -/
import Derived.Test.YtimogbalkhgplaaH
import Derived.Test.YtimogbalkhgplaaIt
import Derived.Shelf.Abstract
import Derived.Shelf.RegionOpen
import Derived.OwnWalkIn
import Derived.TacticsInMore
import Derived.LoopNIn
import Derived.LoopIn
namespace Go.Proofs.Ytimogbalkhgplaa
open Go.RowKit Go.Shelf
set_option linter.unusedSimpArgs false
set_option maxHeartbeats 1000000
attribute [local go_sem] Oper.semAt_some alloc_drewN setCell_drewN max2_mx min2_mn max_two min_two
/-- A block of one cell. -/
def One (w : World) (g : Nat) (t : TypeId) (v : Value) : Prop := w.heap[g]? = some (.cells #[v] t (0, 0))
theorem One.cell {w : World} {g : Nat} {t : TypeId} {v : Value} (h : One w g t v) : w.cell? ⟨g, 0, none⟩ = some v := by unfold One at h; simp [World.cell?, h]
theorem One.free {w : World} {g : Nat} {t : TypeId} {v : Value} (h : One w g t v) : w.frozen? ⟨g, 0, none⟩ = false := by unfold One at h; simp [World.frozen?, h]
theorem One.lt {w : World} {g : Nat} {t : TypeId} {v : Value} (h : One w g t v) : g < w.heap.size := (Array.getElem?_eq_some_iff.1 h).1
theorem One.grew {w w' : World} {g : Nat} {t : TypeId} {v : Value} (h : One w g t v) (k : Grew w w') : One w' g t v := (k.below.block g h.lt).trans h
theorem One.alloc {w : World} {g : Nat} {t : TypeId} {v : Value} (h : One w g t v) (o : Obj) : One (w.alloc o) g t v := (Below.heap_alloc w o g h.lt).trans h
theorem One.set {w : World} {g : Nat} {t : TypeId} {v : Value} (h : One w g t v) (u : Value) : One (w.setCell ⟨g, 0, none⟩ u) g t u := heap_setCell_same w g 0 _ t u h
theorem One.far {w : World} {g : Nat} {t : TypeId} {v : Value} (h : One w g t v) (p : Addr) (u : Value) (hp : g ≠ p.block) : One (w.setCell p u) g t v := (heap_setCell_other w p g u hp).trans h
theorem One.put {w : World} {g : Nat} {t : TypeId} {v : Value} (h : One w g t v) (l : Nat) (o : Obj) (hl : g ≠ l) : One (w.putObj l o) g t v := (World.putObj_heap_other hl).trans h
theorem one_new (w : World) (t : TypeId) (v : Value) : One (w.alloc (.cells #[v] t)) w.heap.size t v := heap_alloc_new w _
/-- Between two steps of the search: the loop's record, the block for deferred calls, the bucket, what was found, the two ends, the test; they are six blocks and more. -/
structure Mid (w : World) (l D bb b1 bf bt bs : Nat) (r : Loop) (d : Bkt) (f t x : Int) (W : World) : Prop where
  loop : W.heap[l]? = some (.loop r)
  dfr : W.heap[D]? = some (.deferred (some []))
  bkt : At W bb d.cells
  one : One W b1 22 (.int .u64 x)
  frm : One W bf 22 (.int .u64 f)
  til : One W bt 22 (.int .u64 t)
  tst : One W bs 48 (.func (.func 24) #[] #[.pointer (some ⟨bb, 0, none⟩)])
  grew : Grew w W
/-- The blocks' numbers. -/
structure Blks (w : World) (l D bb b1 bf bt bs : Nat) : Prop where
  h1 : w.heap.size ≤ bb
  h2 : bb < b1
  h3 : b1 < bf
  h4 : bf < bt
  h5 : bt < bs
  h6 : bs < D
  h7 : l = D + 1
theorem Mid.call {w : World} {l D bb b1 bf bt bs : Nat} {r : Loop} {d : Bkt} {f t x : Int} {W W' : World} (m : Mid w l D bb b1 bf bt bs r d f t x W) (k : Grew W W') : Mid w l D bb b1 bf bt bs r d f t x W' :=
  ⟨(k.below.block l (Array.getElem?_eq_some_iff.1 m.loop).1).trans m.loop, (k.below.block D (Array.getElem?_eq_some_iff.1 m.dfr).1).trans m.dfr, m.bkt.grew k, m.one.grew k, m.frm.grew k, m.til.grew k, m.tst.grew k, m.grew.trans k⟩
theorem Mid.put {w : World} {l D bb b1 bf bt bs : Nat} {r : Loop} {d : Bkt} {f t x : Int} {W : World} (m : Mid w l D bb b1 bf bt bs r d f t x W) (h : Blks w l D bb b1 bf bt bs) (r' : Loop) : Mid w l D bb b1 bf bt bs r' d f t x (W.putObj l (.loop r')) := by
  obtain ⟨h1, h2, h3, h4, h5, h6, h7⟩ := h
  exact ⟨World.putObj_heap_same (Array.getElem?_eq_some_iff.1 m.loop).1, (World.putObj_heap_other (by omega)).trans m.dfr, m.bkt.put _ _ (by omega), m.one.put _ _ (by omega), m.frm.put _ _ (by omega), m.til.put _ _ (by omega), m.tst.put _ _ (by omega), m.grew.put (by omega) _⟩
theorem Mid.setF {w : World} {l D bb b1 bf bt bs : Nat} {r : Loop} {d : Bkt} {f t x : Int} {W : World} (m : Mid w l D bb b1 bf bt bs r d f t x W) (h : Blks w l D bb b1 bf bt bs) (u : Int) : Mid w l D bb b1 bf bt bs r d u t x (W.setCell ⟨bf, 0, none⟩ (.int .u64 u)) := by
  obtain ⟨h1, h2, h3, h4, h5, h6, h7⟩ := h
  exact ⟨(heap_setCell_other _ _ _ _ (by simp; omega)).trans m.loop, (heap_setCell_other _ _ _ _ (by simp; omega)).trans m.dfr, m.bkt.far _ _ (by simp; omega), m.one.far _ _ (by simp; omega), m.frm.set _, m.til.far _ _ (by simp; omega), m.tst.far _ _ (by simp; omega), m.grew.set _ (by simp; omega) _⟩
theorem Mid.setT {w : World} {l D bb b1 bf bt bs : Nat} {r : Loop} {d : Bkt} {f t x : Int} {W : World} (m : Mid w l D bb b1 bf bt bs r d f t x W) (h : Blks w l D bb b1 bf bt bs) (u : Int) : Mid w l D bb b1 bf bt bs r d f u x (W.setCell ⟨bt, 0, none⟩ (.int .u64 u)) := by
  obtain ⟨h1, h2, h3, h4, h5, h6, h7⟩ := h
  exact ⟨(heap_setCell_other _ _ _ _ (by simp; omega)).trans m.loop, (heap_setCell_other _ _ _ _ (by simp; omega)).trans m.dfr, m.bkt.far _ _ (by simp; omega), m.one.far _ _ (by simp; omega), m.frm.far _ _ (by simp; omega), m.til.set _, m.tst.far _ _ (by simp; omega), m.grew.set _ (by simp; omega) _⟩
theorem Mid.setX {w : World} {l D bb b1 bf bt bs : Nat} {r : Loop} {d : Bkt} {f t x : Int} {W : World} (m : Mid w l D bb b1 bf bt bs r d f t x W) (h : Blks w l D bb b1 bf bt bs) (u : Int) : Mid w l D bb b1 bf bt bs r d f t u (W.setCell ⟨b1, 0, none⟩ (.int .u64 u)) := by
  obtain ⟨h1, h2, h3, h4, h5, h6, h7⟩ := h
  exact ⟨(heap_setCell_other _ _ _ _ (by simp; omega)).trans m.loop, (heap_setCell_other _ _ _ _ (by simp; omega)).trans m.dfr, m.bkt.far _ _ (by simp; omega), m.one.set _, m.frm.far _ _ (by simp; omega), m.til.far _ _ (by simp; omega), m.tst.far _ _ (by simp; omega), m.grew.set _ (by simp; omega) _⟩
/-- How far the two ends lie apart, as the world says. -/
def gap (bf bt : Nat) (W : World) : Nat := (intOf ((W.cell? ⟨bt, 0, none⟩).getD undef) - intOf ((W.cell? ⟨bf, 0, none⟩).getD undef)).toNat
theorem Mid.gap {w : World} {l D bb b1 bf bt bs : Nat} {r : Loop} {d : Bkt} {f t x : Int} {W : World} (m : Mid w l D bb b1 bf bt bs r d f t x W) : gap bf bt W = (t - f).toNat := by
  simp [Ytimogbalkhgplaa.gap, m.til.cell, m.frm.cell, intOf]
theorem halves_in (w : World) (l D bb b1 bf bt bs : Nat) (hB : Blks w l D bb b1 bf bt bs) (r rx : Loop) (d : Bkt) (hd : d.Ok) (hr : right d = true) (N : Int)
    (hN : ∀ x, d.At ≤ x → x < 9223372036854775807 → (dry d x = true ↔ x < N))
    (hY : ∀ f t x W, Mid w l D bb b1 bf bt bs r d f t x W → f ≤ N → N ≤ t → t ≤ 9223372036854775807 → YieldAt Fence.wide 0 Try.prog l #[.int .u64 f] W fun e W' => (e = .returned (.bool true) ∧ Mid w l D bb b1 bf bt bs r d f t f W') ∨ (e = .returned (.bool false) ∧ Mid w l D bb b1 bf bt bs rx d f t N W'))
    (W : World) (h0 : Mid w l D bb b1 bf bt bs r d d.At 9223372036854775807 d.At W) (hN0 : d.At ≤ N) (hN1 : N ≤ 9223372036854775807) :
    CallsIn Fence.wide 0 Try.prog 31 #[.func (.yield l) #[] #[], .pointer (some ⟨bf, 0, none⟩), .pointer (some ⟨bt, 0, none⟩), .pointer (some ⟨bs, 0, none⟩)] W fun e W' => (∃ v, e = .returned v) ∧ ((∃ f t, Mid w l D bb b1 bf bt bs r d f t N W') ∨ (∃ f t, Mid w l D bb b1 bf bt bs rx d f t N W')) := by
  have hA := hd.hAt
  have HR := Lib.hid hr
  have HD := Lib.hid hd
  have HNN := Lib.hid hN
  clear hN hr hd
  refine callsIn_of_wp Try.func31 rfl trivial ?_ rfl
  simp only [Try.ntmps31, List.size_toArray, List.length_cons, List.length_nil, Nat.reduceAdd, Nat.reduceSub, Array.replicate_succ, Array.replicate_zero, List.push_toArray, List.append_toArray, List.nil_append, List.cons_append]
  gi_wp2
  gi_loopw [5] (fun _ wr => ∃ f t : Int, Mid w l D bb b1 bf bt bs r d f t f wr ∧ d.At ≤ f ∧ f ≤ N ∧ N ≤ t ∧ t ≤ 9223372036854775807) (fun _ wr => gap bf bt wr)
  case atStart => exact ⟨_, _, h0, Int.le_refl _, hN0, hN1, Int.le_refl _⟩
  case round =>
    obtain ⟨f, t, m, k1, k2, k3, k4⟩ := hrel
    have hcf := m.frm.cell
    have hct := m.til.cell
    have hcs := m.tst.cell
    have hff := m.frm.free
    have hft := m.til.free
    have M := Lib.hid m
    clear m h0
    by_cases hlt : f < t
    · have hf0 : 0 ≤ f := by omega
      have ht0 : t ≤ 18446744073709551615 := by omega
      gi_wp2_with fail
      have hmd1 : f ≤ f + (t - f) / 2 := by omega
      have hmd2 : f + (t - f) / 2 < t := by omega
      obtain ⟨md, hmd⟩ : ∃ md, f + (t - f) / 2 = md := ⟨_, rfl⟩
      rw [hmd] at hmd1 hmd2 ⊢
      clear hmd
      refine ⟨trivial, rfl, ((callsIn_wide (n := 0)).2 (dry_c d md bb HD.out HR.out (by omega) (by omega) _ M.out.bkt)).mono ?_⟩
      rintro e W1 ⟨rfl, hb1⟩
      have m1 := M.out.call hb1
      have HGAP := Lib.hid M.out.gap
      clear M hb1 hcf hct hcs hff hft
      have hcf := m1.frm.cell
      have hct := m1.til.cell
      have hff := m1.frm.free
      have hft := m1.til.free
      have hmd0 : 0 ≤ md := by omega
      have hmd3 : md ≤ 9223372036854775806 := by omega
      have hdn := HNN.out md (by omega) (by omega)
      cases hdr : dry d md
      · have hge : N ≤ md := by
          rw [hdr] at hdn
          simp at hdn
          omega
        have m2 := m1.setT hB md
        have M2 := Lib.hid m2
        have hcf2 := m2.frm.cell
        obtain ⟨f1, t1, a1, c1, hy1, hR1⟩ := hY f md f _ m2 k2 hge (by omega)
        clear hdr m2 m1
        gi_wp2
        refine ⟨rfl, hR1.mono ?_⟩
        rintro e W3 (⟨rfl, m3⟩ | ⟨rfl, m3⟩)
        · have M3 := Lib.hid m3
          clear m3
          gi_wp2
          go_roundw
          case rel => exact ⟨f, md, M3.out, by omega, by omega, by omega, by omega⟩
          case measure =>
            rw [M3.out.gap, HGAP.out]
            omega
        · have M3 := Lib.hid m3
          clear m3
          gi_wp2
          refine bodyPost_ret (results_none rfl _ _ _) rfl ?_
          exact ⟨⟨_, rfl⟩, .inr ⟨f, md, M3.out⟩⟩
      · have hge : md + 1 ≤ N := by
          rw [hdr] at hdn
          simp at hdn
          omega
        have m2 := m1.setF hB (md + 1)
        have M2 := Lib.hid m2
        have hcf2 := m2.frm.cell
        obtain ⟨f1, t1, a1, c1, hy1, hR1⟩ := hY (md + 1) t f _ m2 hge k3 k4
        clear hdr m2 m1
        gi_wp2
        refine ⟨rfl, hR1.mono ?_⟩
        rintro e W3 (⟨rfl, m3⟩ | ⟨rfl, m3⟩)
        · have M3 := Lib.hid m3
          clear m3
          gi_wp2
          go_roundw
          case rel => exact ⟨md + 1, t, M3.out, by omega, by omega, by omega, by omega⟩
          case measure =>
            rw [M3.out.gap, HGAP.out]
            omega
        · have M3 := Lib.hid m3
          clear m3
          gi_wp2
          refine bodyPost_ret (results_none rfl _ _ _) rfl ?_
          exact ⟨⟨_, rfl⟩, .inr ⟨md + 1, t, M3.out⟩⟩
    · have e : f = N := by omega
      gi_wp2
      go_end0
      exact ⟨⟨_, rfl⟩, .inl ⟨f, t, e ▸ M.out⟩⟩
end Go.Proofs.Ytimogbalkhgplaa
