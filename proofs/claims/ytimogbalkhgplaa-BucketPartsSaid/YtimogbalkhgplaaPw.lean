/- BucketParts: the walk. -/
import Derived.Test.YtimogbalkhgplaaFr
import Derived.Test.YtimogbalkhgplaaRf
import Derived.Test.YtimogbalkhgplaaPa
import Derived.Deep.RegionHeld3
namespace Go.Proofs.Ytimogbalkhgplaa
open Go.RowKit Go.Shelf
set_option linter.unusedSimpArgs false
set_option maxHeartbeats 1000000
attribute [local go_sem] alloc_drewN setCell_drewN
attribute [local go_sem high] eqB
theorem fill_ok (d : Bkt) (t : Int) (hd : d.Ok) : (fillS d t).1.Ok := by
  by_cases h : (fillS d t).2 = 0
  · exact (fill_right (c := (fillS d t).1) (t := t) hd (Prod.ext rfl h)).2
  · have : (fillS d t).1 = Bkt.zero := by
      unfold fillS at h ⊢
      repeat' split
      all_goals first | rfl | (exfalso; apply h; repeat' split) 
      all_goals simp_all
    rw [this]
    constructor <;> simp [Bkt.zero]
theorem parts_walk (d : Bkt) (n m : Int) (hd : d.Ok) (hn : 0 ≤ n ∧ n ≤ 18446744073709551615) (hm : 0 ≤ m ∧ m ≤ 18446744073709551615) (w : World) : Calls Try.prog 7 #[d.val, .int .u64 n, .int .u64 m] w fun e w' => e = .returned (.bool true) ∧ Grew w w' := by
  obtain ⟨x, ex, qx⟩ : ∃ x ex, fillS d n = (x, ex) := ⟨_, _, rfl⟩
  obtain ⟨y, ey, qy⟩ : ∃ y ey, fillS x m = (y, ey) := ⟨_, _, rfl⟩
  obtain ⟨z, ez, qz⟩ : ∃ z ez, fillS d m = (z, ez) := ⟨_, _, rfl⟩
  have hx : x.Ok := by have := fill_ok d n hd; rw [qx] at this; exact this
  have hgood : ex = 0 → ey = 0 → ez = 0 ∧ z = y ∧ right y = true := by
    intro h1 h2
    subst h1 h2
    have hp := fill_parts hd qx qy
    rw [qz] at hp
    simp at hp
    exact ⟨hp.2, hp.1, (fill_right hx qy).1⟩
  have Q1 := Lib.hid qx
  have Q2 := Lib.hid qy
  have Q3 := Lib.hid qz
  have HD := Lib.hid hd
  have HN := Lib.hid hn
  have HM := Lib.hid hm
  have HX := Lib.hid hx
  have HGD := Lib.hid hgood
  clear qx qy qz hd hn hm hx hgood
  go_enter Try.func7, Try.ntmps7
  go_wp2_with fail
  refine (shown_c _).mono ?_
  rintro e w1 ⟨rfl, hb1⟩
  have hA1 := (at_alloc w d.cells).grew hb1
  have HG := Lib.hid (((Grew.refl w).alloc _).trans hb1)
  have hc := hA1.cell
  have hlt := hA1.lt
  have HA := Lib.hid hA1
  clear hA1 hb1
  go_wp2_with fail
  refine (fill_to d x HD.out n ex HN.out _ Q1.out).mono ?_
  rintro e w2 ⟨rfl, hg⟩
  have hA := (HA.out).grew hg
  have hG := (HG.out).trans hg
  clear hc hlt HA HG hg
  have hc := hA.cell
  have hlt := hA.lt
  have HA := Lib.hid hA
  have HG := Lib.hid hG
  clear hA hG
  go_wp2_with fail
  refine (fill_to x y HX.out m ey HM.out _ Q2.out).mono ?_
  rintro e w3 ⟨rfl, hg⟩
  have hA := (HA.out.alloc (.cells x.cells 24)).grew hg
  have hG := (HG.out.alloc (.cells x.cells 24)).trans hg
  have hB0 := (at_alloc w2 x.cells).grew hg
  obtain ⟨b0, hb0⟩ : ∃ b0, w2.heap.size = b0 := ⟨_, rfl⟩
  rw [hb0] at hB0 ⊢
  clear hb0
  clear hc hlt HA HG hg
  have hc := hA.cell
  have hlt := hA.lt
  have HA := Lib.hid hA
  have HG := Lib.hid hG
  have HB0 := Lib.hid hB0
  clear hA hG hB0
  go_wp2_with fail
  refine (fill_to d z HD.out m ez HM.out _ Q3.out).mono ?_
  rintro e w4 ⟨rfl, hg⟩
  have hA := (HA.out.alloc (.cells y.cells 24)).grew hg
  have hG := (HG.out.alloc (.cells y.cells 24)).trans hg
  have hB0 := (HB0.out.alloc (.cells y.cells 24)).grew hg
  have hB1 := (at_alloc w3 y.cells).grew hg
  obtain ⟨b1, hb1⟩ : ∃ b1, w3.heap.size = b1 := ⟨_, rfl⟩
  rw [hb1] at hB1 ⊢
  clear hb1
  clear hc hlt HA HG hg HB0
  have hc := hA.cell
  have hlt := hA.lt
  have HA := Lib.hid hA
  have HG := Lib.hid hG
  have HB0 := Lib.hid hB0
  have HB1 := Lib.hid hB1
  clear hA hG hB0 hB1
  have hc0 := HB0.out.cell
  have hl0 := HB0.out.lt
  have hc1 := HB1.out.cell
  have hl1 := HB1.out.lt
  clear HA HB0 HB1
  cases h1 : (ex != 0)
  · cases h2 : (ey != 0)
    · have e1 : ex = 0 := by simpa using h1
      have e2 : ey = 0 := by simpa using h2
      obtain ⟨rfl, rfl, hr⟩ := HGD.out e1 e2
      subst e1 e2
      clear h1 h2 HGD
      go_wp2_with fail
      refine (right_c z _).mono ?_
      rintro e w9 ⟨rfl, hg⟩
      have HG9 := Lib.hid ((HG.out.alloc (.cells z.cells 24)).trans hg)
      clear hg
      go_wp2_with fail
      go_ret
      exact ⟨rfl, HG9.out⟩
    · go_wp2_with fail
      go_ret
      exact ⟨rfl, HG.out.alloc _⟩
  · go_wp2_with fail
    go_ret
    exact ⟨rfl, HG.out.alloc _⟩
end Go.Proofs.Ytimogbalkhgplaa
