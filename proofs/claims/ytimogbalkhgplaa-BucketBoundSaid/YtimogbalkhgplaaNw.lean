/- BucketNews: the walk. -/
import Derived.Test.YtimogbalkhgplaaFr
import Derived.Test.YtimogbalkhgplaaRf
import Derived.Test.YtimogbalkhgplaaRn
import Derived.Deep.RegionHeld3
namespace Go.Proofs.Ytimogbalkhgplaa
open Go.RowKit Go.Shelf
set_option linter.unusedSimpArgs false
set_option maxHeartbeats 1000000
attribute [local go_sem] alloc_drewN setCell_drewN
attribute [local go_sem high] eqB
theorem three_held {v W : World} {b g k : Nat} {cs ds es : Array Value} (hb : At v b cs) (hg : At v g ds) (hk : At v k es) (h : Grew v W) :
    (∀ j : Nat, W.cell? ⟨b, j, none⟩ = cs[j]?) ∧ (∀ j : Nat, W.cell? ⟨g, j, none⟩ = ds[j]?) ∧ (∀ j : Nat, W.cell? ⟨k, j, none⟩ = es[j]?) ∧ Grew v W := ⟨(hb.grew h).cell, (hg.grew h).cell, (hk.grew h).cell, h⟩
theorem new_to (rate burst now : Int) (r : Bkt) (e : Int) (w : World) (h : newS rate burst now = (r, e)) : Calls Try.prog 11 #[.int .u64 rate, .int .i64 burst, .int .u64 now] w fun x w' => x = .returned (pairV r e) ∧ Grew w w' := by
  have := new_c rate burst now w
  rw [h] at this
  exact this
theorem rnew_to (rate burst now : Int) (r : Bkt) (e : Int) (w : World) (h : newS rate burst now = (r, e)) : Calls Try.prog 12 #[.int .u64 rate, .int .i64 burst, .int .u64 now] w fun x w' => x = .returned (pairV r e) ∧ Grew w w' := by
  have := rnew_c rate burst now w
  rw [h] at this
  exact this
theorem news_walk (rate burst now : Int) (d : Bkt) (w : World) : Calls Try.prog 3 #[.int .u64 rate, .int .i64 burst, .int .u64 now, d.val] w fun e w' => e = .returned (.bool true) ∧ Grew w w' := by
  obtain ⟨c, ec, qc⟩ : ∃ c ec, newS rate burst now = (c, ec) := ⟨_, _, rfl⟩
  have Q1 := Lib.hid qc
  clear qc
  go_enter Try.func3, Try.ntmps3
  go_wp2_with fail
  refine (shown_c _).mono ?_
  rintro e w1 ⟨rfl, hb1⟩
  have hA1 := (at_alloc w d.cells).grew hb1
  have HG := Lib.hid (((Grew.refl w).alloc _).trans hb1)
  have hc := hA1.cell
  have hlt := hA1.lt
  have HA := Lib.hid hA1
  clear hA1 hb1
  go_wp2_with fail
  refine (new_to rate burst now c ec _ Q1.out).mono ?_
  rintro e w2 ⟨rfl, hg⟩
  have hA := (HA.out).grew hg
  have hG := (HG.out).trans hg
  clear hc hlt HA HG hg
  have hc := hA.cell
  have hlt := hA.lt
  have HA := Lib.hid hA
  have HG := Lib.hid hG
  clear hA hG
  go_wp2_with fail
  refine (rnew_to rate burst now c ec _ Q1.out).mono ?_
  rintro e w3 ⟨rfl, hg⟩
  have hA := (HA.out.alloc (.cells c.cells 24)).grew hg
  have hG := (HG.out.alloc (.cells c.cells 24)).trans hg
  have hB0 := (at_alloc w2 c.cells).grew hg
  obtain ⟨b0, hb0⟩ : ∃ b0, w2.heap.size = b0 := ⟨_, rfl⟩
  rw [hb0] at hB0 ⊢
  clear hb0
  clear hc hlt HA HG hg
  have hc := hA.cell
  have hlt := hA.lt
  have HA := Lib.hid hA
  have HG := Lib.hid hG
  have HB0 := Lib.hid hB0
  clear hA hG hB0
  have hc0 := HB0.out.cell
  have hl0 := HB0.out.lt
  clear hc hlt hc0 hl0
  go_wp2_with fail
  have hA := HA.out.alloc (.cells c.cells 24)
  have hB := HB0.out.alloc (.cells c.cells 24)
  have hC := at_alloc w3 c.cells
  have hG := HG.out.alloc (.cells c.cells 24)
  obtain ⟨w4, hw4⟩ : ∃ w4, w3.alloc (.cells c.cells 24) = w4 := ⟨_, rfl⟩
  obtain ⟨b9, hb9⟩ : ∃ b9, w3.heap.size = b9 := ⟨_, rfl⟩
  rw [hw4] at hA hB hC hG ⊢
  rw [hb9] at hC ⊢
  clear hw4 hb9 HA HB0 HG
  have HA := Lib.hid hA
  have HB := Lib.hid hB
  have HC := Lib.hid hC
  have HG := Lib.hid hG
  have hcA := hA.cell
  have hcB := hB.cell
  have hcC := hC.cell
  clear hA hB hC hG
  go_region_held3 (fun w' => (∀ j : Nat, w'.cell? ⟨w.heap.size, j, none⟩ = d.cells[j]?) ∧ (∀ j : Nat, w'.cell? ⟨b0, j, none⟩ = c.cells[j]?) ∧ (∀ j : Nat, w'.cell? ⟨b9, j, none⟩ = c.cells[j]?) ∧ Grew w4 w')
    (with_reducible first | (exact three_held HA.out HB.out HC.out (Grew.refl w4).drew) | (exact three_held HA.out HB.out HC.out (Grew.trans (And.right (And.right (And.right (by assumption)))) hb)))
    ((first | (go_at_call 13; (with_reducible refine (right_c d _).mono ?_); rintro e w' ⟨rfl, hb⟩) | (go_at_call 14; (with_reducible refine (rright_c d _).mono ?_); rintro e w' ⟨rfl, hb⟩)))
  all_goals
    go_wp2_with fail
    go_ret
    exact ⟨rfl, HG.out.trans (And.right (And.right (And.right (by assumption))))⟩
end Go.Proofs.Ytimogbalkhgplaa
