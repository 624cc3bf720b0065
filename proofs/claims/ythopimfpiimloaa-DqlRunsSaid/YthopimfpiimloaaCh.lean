/- DqlChanges: the walk. -/
import Derived.Test.YthopimfpiimloaaRd
import Derived.Test.YthopimfpiimloaaSt
namespace Go.Proofs.Ythopimfpiimloaa
open Go.RowKit Go.Shelf
set_option linter.unusedSimpArgs false
set_option maxHeartbeats 1000000
set_option maxRecDepth 100000
attribute [local go_sem] alloc_drewN setCell_drewN
attribute [local go_sem high] eqD
theorem rqueue_to (d : Dql) (r : Dql) (n e : Int) (hn : 0 ≤ n ∧ n ≤ 4294967295) (w : World) (h : queueS d n = (r, e)) : Calls Try.prog 21 #[d.val, .int .u32 n] w fun x w' => x = .returned (pairV r e) ∧ Grew w w' := by
  have := rqueue_c d n hn w
  rw [h] at this
  exact this
theorem rcomplete_to (d : Dql) (r : Dql) (n now e : Int) (hd : d.Ok) (w : World) (h : completeS d n now = (r, e)) : Calls Try.prog 23 #[d.val, .int .u32 n, .int .u64 now] w fun x w' => x = .returned (pairV r e) ∧ Grew w w' := by
  have := rcomplete_c d hd n now w
  rw [h] at this
  exact this
theorem changes_walk (d : Dql) (n now : Int) (hd : d.Ok) (hn : 0 ≤ n ∧ n ≤ 4294967295) (w : World) : Calls Try.prog 9 #[d.val, .int .u32 n, .int .u64 now] w fun e w' => e = .returned (.bool true) ∧ Grew w w' := by
  obtain ⟨a, ea, qa⟩ : ∃ a ea, queueS d n = (a, ea) := ⟨_, _, rfl⟩
  obtain ⟨b, eb, qb⟩ : ∃ b eb, completeS d n now = (b, eb) := ⟨_, _, rfl⟩
  obtain ⟨c, ec, qc⟩ : ∃ c ec, resetS d now = (c, ec) := ⟨_, _, rfl⟩
  have Q1 := Lib.hid qa
  have Q2 := Lib.hid qb
  have Q3 := Lib.hid qc
  have HD := Lib.hid hd
  have HN := Lib.hid hn
  clear qa qb qc hd hn
  go_enter Try.func9, Try.ntmps9
  go_wp2_with fail
  refine (shown_c _).mono ?_
  rintro e w1 ⟨rfl, hb1⟩
  have hA1 := (at_alloc w d.cells).grew hb1
  have HG1 := Lib.hid (((Grew.refl w).alloc _).trans hb1)
  have hc := hA1.cell
  have hlt := hA1.lt
  have HA := Lib.hid hA1
  clear hA1 hb1
  go_wp2_with fail
  refine (queue_to d a n ea _ Q1.out).mono ?_
  rintro e w2 ⟨rfl, hg⟩
  have hA := HA.out.grew hg
  have hG := HG1.out.trans hg
  clear hc hlt HA HG1 hg
  have hc := hA.cell
  have hlt := hA.lt
  have HA := Lib.hid hA
  have HG := Lib.hid hG
  clear hA hG
  go_wp2_with fail
  refine (rqueue_to d a n ea HN.out _ Q1.out).mono ?_
  rintro e w3 ⟨rfl, hg⟩
  have hA := (HA.out.alloc (.cells a.cells 26)).grew hg
  have hB1 := (at_alloc w2 a.cells).grew hg
  have hG := (HG.out.alloc (.cells a.cells 26)).trans hg
  obtain ⟨b1, hb1⟩ : ∃ b1, w2.heap.size = b1 := ⟨_, rfl⟩
  rw [hb1] at hB1 ⊢
  clear hc hlt HA HG hg hb1
  have hc := hA.cell
  have hlt := hA.lt
  have HA := Lib.hid hA
  have HG := Lib.hid hG
  have HB1 := Lib.hid hB1
  clear hA hG hB1
  go_wp2_with fail
  refine (complete_to d b n now eb _ Q2.out).mono ?_
  rintro e w4 ⟨rfl, hg⟩
  have hA := (HA.out.alloc (.cells a.cells 26)).grew hg
  have hB1 := (HB1.out.alloc (.cells a.cells 26)).grew hg
  have hB2 := (at_alloc w3 a.cells).grew hg
  have hG := (HG.out.alloc (.cells a.cells 26)).trans hg
  obtain ⟨b2, hb2⟩ : ∃ b2, w3.heap.size = b2 := ⟨_, rfl⟩
  rw [hb2] at hB2 ⊢
  clear hc hlt HA HG hg hb2
  clear HB1
  have hc := hA.cell
  have hlt := hA.lt
  have HA := Lib.hid hA
  have HG := Lib.hid hG
  have HB1 := Lib.hid hB1
  have HB2 := Lib.hid hB2
  clear hA hG hB1 hB2
  go_wp2_with fail
  refine (rcomplete_to d b n now eb HD.out _ Q2.out).mono ?_
  rintro e w5 ⟨rfl, hg⟩
  have hA := (HA.out.alloc (.cells b.cells 26)).grew hg
  have hB1 := (HB1.out.alloc (.cells b.cells 26)).grew hg
  have hB2 := (HB2.out.alloc (.cells b.cells 26)).grew hg
  have hB3 := (at_alloc w4 b.cells).grew hg
  have hG := (HG.out.alloc (.cells b.cells 26)).trans hg
  obtain ⟨b3, hb3⟩ : ∃ b3, w4.heap.size = b3 := ⟨_, rfl⟩
  rw [hb3] at hB3 ⊢
  clear hc hlt HA HG hg hb3
  clear HB1 HB2
  have hc := hA.cell
  have hlt := hA.lt
  have HA := Lib.hid hA
  have HG := Lib.hid hG
  have HB1 := Lib.hid hB1
  have HB2 := Lib.hid hB2
  have HB3 := Lib.hid hB3
  clear hA hG hB1 hB2 hB3
  go_wp2_with fail
  refine (reset_to d c now ec _ Q3.out).mono ?_
  rintro e w6 ⟨rfl, hg⟩
  have hA := (HA.out.alloc (.cells b.cells 26)).grew hg
  have hB1 := (HB1.out.alloc (.cells b.cells 26)).grew hg
  have hB2 := (HB2.out.alloc (.cells b.cells 26)).grew hg
  have hB3 := (HB3.out.alloc (.cells b.cells 26)).grew hg
  have hB4 := (at_alloc w5 b.cells).grew hg
  have hG := (HG.out.alloc (.cells b.cells 26)).trans hg
  obtain ⟨b4, hb4⟩ : ∃ b4, w5.heap.size = b4 := ⟨_, rfl⟩
  rw [hb4] at hB4 ⊢
  clear hc hlt HA HG hg hb4
  clear HB1 HB2 HB3
  have hc := hA.cell
  have hlt := hA.lt
  have HA := Lib.hid hA
  have HG := Lib.hid hG
  have HB1 := Lib.hid hB1
  have HB2 := Lib.hid hB2
  have HB3 := Lib.hid hB3
  have HB4 := Lib.hid hB4
  clear hA hG hB1 hB2 hB3 hB4
  go_wp2_with fail
  refine (rreset_to d c now ec _ Q3.out).mono ?_
  rintro e w7 ⟨rfl, hg⟩
  have hA := (HA.out.alloc (.cells c.cells 26)).grew hg
  have hB1 := (HB1.out.alloc (.cells c.cells 26)).grew hg
  have hB2 := (HB2.out.alloc (.cells c.cells 26)).grew hg
  have hB3 := (HB3.out.alloc (.cells c.cells 26)).grew hg
  have hB4 := (HB4.out.alloc (.cells c.cells 26)).grew hg
  have hB5 := (at_alloc w6 c.cells).grew hg
  have hG := (HG.out.alloc (.cells c.cells 26)).trans hg
  obtain ⟨b5, hb5⟩ : ∃ b5, w6.heap.size = b5 := ⟨_, rfl⟩
  rw [hb5] at hB5 ⊢
  clear hc hlt HA HG hg hb5
  clear HB1 HB2 HB3 HB4
  have hc := hA.cell
  have hlt := hA.lt
  have HA := Lib.hid hA
  have HG := Lib.hid hG
  have HB1 := Lib.hid hB1
  have HB2 := Lib.hid hB2
  have HB3 := Lib.hid hB3
  have HB4 := Lib.hid hB4
  have HB5 := Lib.hid hB5
  clear hA hG hB1 hB2 hB3 hB4 hB5
  have hc1 := HB1.out.cell
  have hl1 := HB1.out.lt
  have hc2 := HB2.out.cell
  have hl2 := HB2.out.lt
  have hc3 := HB3.out.cell
  have hl3 := HB3.out.lt
  have hc4 := HB4.out.cell
  have hl4 := HB4.out.lt
  have hc5 := HB5.out.cell
  have hl5 := HB5.out.lt
  clear HA HB1 HB2 HB3 HB4 HB5
  go_wp2_with fail
  go_ret
  exact ⟨rfl, HG.out.alloc _⟩
end Go.Proofs.Ythopimfpiimloaa
