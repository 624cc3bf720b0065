/- BucketTakes: the walk. -/
import Derived.Test.YtimogbalkhgplaaFr
import Derived.Test.YtimogbalkhgplaaRf
import Derived.Test.YtimogbalkhgplaaRn
import Derived.Deep.RegionHeld3
namespace Go.Proofs.Ytimogbalkhgplaa
open Go.RowKit Go.Shelf
set_option linter.unusedSimpArgs false
set_option maxHeartbeats 1000000
attribute [local go_sem] alloc_drewN setCell_drewN
attribute [local go_sem high] eqB
theorem rtake_to (d r : Bkt) (n : Int) (b : Bool) (e : Int) (w : World) (h : takeS d n = (r, b, e)) : Calls Try.prog 16 #[d.val, .int .i64 n] w fun x w' => x = .returned (tripV r b e) ∧ Grew w w' := by
  have := rtake_c d n w
  rw [h] at this
  exact this
theorem next_to (d : Bkt) (hd : d.Ok) (t e : Int) (w : World) (h : nextS d = (t, e)) : Calls Try.prog 17 #[d.val] w fun x w' => x = .returned (.tuple #[.int .u64 t, .int .i64 e]) ∧ Grew w w' := by
  have := next_c d hd w
  rw [h] at this
  exact this
theorem rnext_to (d : Bkt) (hd : d.Ok) (t e : Int) (w : World) (h : nextS d = (t, e)) : Calls Try.prog 18 #[d.val] w fun x w' => x = .returned (.tuple #[.int .u64 t, .int .i64 e]) ∧ Grew w w' := by
  have := rnext_c d hd w
  rw [h] at this
  exact this
theorem takes_walk (d : Bkt) (n : Int) (hd : d.Ok) (w : World) : Calls Try.prog 4 #[d.val, .int .i64 n] w fun e w' => e = .returned (.bool true) ∧ Grew w w' := by
  obtain ⟨c, ok, ec, qc⟩ : ∃ c ok ec, takeS d n = (c, ok, ec) := ⟨_, _, _, rfl⟩
  obtain ⟨t, et, qt⟩ : ∃ t et, nextS d = (t, et) := ⟨_, _, rfl⟩
  have Q1 := Lib.hid qc
  have Q2 := Lib.hid qt
  have HD := Lib.hid hd
  clear qc qt hd
  go_enter Try.func4, Try.ntmps4
  go_wp2_with fail
  refine (shown_c _).mono ?_
  rintro e w1 ⟨rfl, hb1⟩
  have hA1 := (at_alloc w d.cells).grew hb1
  have HG := Lib.hid (((Grew.refl w).alloc _).trans hb1)
  have hc := hA1.cell
  have hlt := hA1.lt
  have HA := Lib.hid hA1
  clear hA1 hb1
  go_wp2_with fail
  refine (take_to d c n ok ec _ Q1.out).mono ?_
  rintro e w2 ⟨rfl, hg⟩
  have hA := (HA.out).grew hg
  have hG := (HG.out).trans hg
  clear hc hlt HA HG hg
  have hc := hA.cell
  have hlt := hA.lt
  have HA := Lib.hid hA
  have HG := Lib.hid hG
  clear hA hG
  go_wp2_with fail
  refine (rtake_to d c n ok ec _ Q1.out).mono ?_
  rintro e w3 ⟨rfl, hg⟩
  have hA := (HA.out.alloc (.cells c.cells 24)).grew hg
  have hG := (HG.out.alloc (.cells c.cells 24)).trans hg
  have hB0 := (at_alloc w2 c.cells).grew hg
  obtain ⟨b0, hb0⟩ : ∃ b0, w2.heap.size = b0 := ⟨_, rfl⟩
  rw [hb0] at hB0 ⊢
  clear hb0
  clear hc hlt HA HG hg
  have hc := hA.cell
  have hlt := hA.lt
  have HA := Lib.hid hA
  have HG := Lib.hid hG
  have HB0 := Lib.hid hB0
  clear hA hG hB0
  go_wp2_with fail
  refine (next_to d HD.out t et _ Q2.out).mono ?_
  rintro e w4 ⟨rfl, hg⟩
  have hA := (HA.out.alloc (.cells c.cells 24)).grew hg
  have hG := (HG.out.alloc (.cells c.cells 24)).trans hg
  have hB0 := (HB0.out.alloc (.cells c.cells 24)).grew hg
  have hB1 := (at_alloc w3 c.cells).grew hg
  obtain ⟨b1, hb1⟩ : ∃ b1, w3.heap.size = b1 := ⟨_, rfl⟩
  rw [hb1] at hB1 ⊢
  clear hb1
  clear hc hlt HA HG hg HB0
  have hc := hA.cell
  have hlt := hA.lt
  have HA := Lib.hid hA
  have HG := Lib.hid hG
  have HB0 := Lib.hid hB0
  have HB1 := Lib.hid hB1
  clear hA hG hB0 hB1
  go_wp2_with fail
  refine (rnext_to d HD.out t et _ Q2.out).mono ?_
  rintro e w5 ⟨rfl, hg⟩
  have hA := (HA.out).grew hg
  have hG := (HG.out).trans hg
  have hB0 := (HB0.out).grew hg
  have hB1 := (HB1.out).grew hg
  clear hc hlt HA HG hg HB0 HB1
  have hc := hA.cell
  have hlt := hA.lt
  have HA := Lib.hid hA
  have HG := Lib.hid hG
  have HB0 := Lib.hid hB0
  have HB1 := Lib.hid hB1
  clear hA hG hB0 hB1
  have hc0 := HB0.out.cell
  have hl0 := HB0.out.lt
  have hc1 := HB1.out.cell
  have hl1 := HB1.out.lt
  clear HA HB0 HB1
  go_wp2_with fail
  go_ret
  exact ⟨rfl, HG.out⟩
end Go.Proofs.Ytimogbalkhgplaa
