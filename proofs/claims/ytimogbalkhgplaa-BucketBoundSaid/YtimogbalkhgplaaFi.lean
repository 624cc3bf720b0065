/- BucketFills: the walk. -/
import Derived.Test.YtimogbalkhgplaaFr
import Derived.Test.YtimogbalkhgplaaRf
import Derived.Test.YtimogbalkhgplaaRn
import Derived.Deep.RegionHeld3
namespace Go.Proofs.Ytimogbalkhgplaa
open Go.RowKit Go.Shelf
set_option linter.unusedSimpArgs false
set_option maxHeartbeats 1000000
attribute [local go_sem] alloc_drewN setCell_drewN
attribute [local go_sem high] eqB
theorem fill_to (d r : Bkt) (hd : d.Ok) (n e : Int) (hn : 0 ≤ n ∧ n ≤ 18446744073709551615) (w : World) (h : fillS d n = (r, e)) : Calls Try.prog 19 #[d.val, .int .u64 n] w fun x w' => x = .returned (pairV r e) ∧ Grew w w' := by
  have := fill_c d n hd hn w
  rw [h] at this
  exact this
theorem rfill_to (d r : Bkt) (hd : d.Ok) (n e : Int) (hn : 0 ≤ n ∧ n ≤ 18446744073709551615) (w : World) (h : fillS d n = (r, e)) : Calls Try.prog 20 #[d.val, .int .u64 n] w fun x w' => x = .returned (pairV r e) ∧ Grew w w' := by
  have := rfill_c d n hd hn w
  rw [h] at this
  exact this
theorem fills_walk (d : Bkt) (n : Int) (hd : d.Ok) (hn : 0 ≤ n ∧ n ≤ 18446744073709551615) (w : World) : Calls Try.prog 6 #[d.val, .int .u64 n] w fun e w' => e = .returned (.bool true) ∧ Grew w w' := by
  obtain ⟨c, ec, qc⟩ : ∃ c ec, fillS d n = (c, ec) := ⟨_, _, rfl⟩
  have Q1 := Lib.hid qc
  have HD := Lib.hid hd
  have HN := Lib.hid hn
  clear qc hd hn
  go_enter Try.func6, Try.ntmps6
  go_wp2_with fail
  refine (shown_c _).mono ?_
  rintro e w1 ⟨rfl, hb1⟩
  have hA1 := (at_alloc w d.cells).grew hb1
  have HG := Lib.hid (((Grew.refl w).alloc _).trans hb1)
  have hc := hA1.cell
  have hlt := hA1.lt
  have HA := Lib.hid hA1
  clear hA1 hb1
  go_wp2_with fail
  refine (fill_to d c HD.out n ec HN.out _ Q1.out).mono ?_
  rintro e w2 ⟨rfl, hg⟩
  have hA := (HA.out).grew hg
  have hG := (HG.out).trans hg
  clear hc hlt HA HG hg
  have hc := hA.cell
  have hlt := hA.lt
  have HA := Lib.hid hA
  have HG := Lib.hid hG
  clear hA hG
  go_wp2_with fail
  refine (rfill_to d c HD.out n ec HN.out _ Q1.out).mono ?_
  rintro e w3 ⟨rfl, hg⟩
  have hA := (HA.out.alloc (.cells c.cells 24)).grew hg
  have hG := (HG.out.alloc (.cells c.cells 24)).trans hg
  have hB0 := (at_alloc w2 c.cells).grew hg
  obtain ⟨b0, hb0⟩ : ∃ b0, w2.heap.size = b0 := ⟨_, rfl⟩
  rw [hb0] at hB0 ⊢
  clear hb0
  clear hc hlt HA HG hg
  have hc := hA.cell
  have hlt := hA.lt
  have HA := Lib.hid hA
  have HG := Lib.hid hG
  have HB0 := Lib.hid hB0
  clear hA hG hB0
  have hc0 := HB0.out.cell
  have hl0 := HB0.out.lt
  clear HA HB0
  go_wp2_with fail
  go_ret
  exact ⟨rfl, HG.out.alloc _⟩
end Go.Proofs.Ytimogbalkhgplaa
