/- BucketRates: the walk. -/
import Derived.Test.YtimogbalkhgplaaFr
import Derived.Test.YtimogbalkhgplaaRf
import Derived.Test.YtimogbalkhgplaaRt
import Derived.Deep.RegionHeld3
namespace Go.Proofs.Ytimogbalkhgplaa
open Go.RowKit Go.Shelf
set_option linter.unusedSimpArgs false
set_option maxHeartbeats 1000000
attribute [local go_sem] alloc_drewN setCell_drewN
attribute [local go_sem high] eqB
theorem rate_to (d : Bkt) (hd : d.Ok) (rate burst now : Int) (hn : 0 ≤ now ∧ now ≤ 18446744073709551615) (c : Bkt) (e : Int) (w : World) (h : rateS d rate burst now = (c, e)) : Calls Try.prog 21 #[d.val, .int .u64 rate, .int .i64 burst, .int .u64 now] w fun x w' => x = .returned (pairV c e) ∧ Grew w w' := by
  have := rate_c d hd rate burst now hn w
  rw [h] at this
  exact this
theorem rrate_to (d : Bkt) (hd : d.Ok) (rate burst now : Int) (hn : 0 ≤ now ∧ now ≤ 18446744073709551615) (c : Bkt) (e : Int) (w : World) (h : rateS d rate burst now = (c, e)) : Calls Try.prog 22 #[d.val, .int .u64 rate, .int .i64 burst, .int .u64 now] w fun x w' => x = .returned (pairV c e) ∧ Grew w w' := by
  have := rrate_c d hd rate burst now hn w
  rw [h] at this
  exact this
theorem rate_sure {d : Bkt} (hd : d.Ok) {rate burst now : Int} {c : Bkt} (h : rateS d rate burst now = (c, 0)) : right c = true := by
  obtain ⟨x, ex, qx⟩ : ∃ x ex, fillS d now = (x, ex) := ⟨_, _, rfl⟩
  obtain ⟨o, eo, qo⟩ : ∃ o eo, newS rate burst now = (o, eo) := ⟨_, _, rfl⟩
  by_cases h1 : ex = 0
  · subst h1
    by_cases h2 : eo = 0
    · subst h2
      rw [rate_good qx qo] at h
      simp at h
      rw [← h]
      exact rate_right hd qx qo
    · rw [rate_bad2 qx qo h2] at h
      simp at h
  · rw [rate_bad1 qx h1] at h
    simp at h
    exact absurd h.2 h1
theorem rates_walk (d : Bkt) (rate burst now : Int) (hd : d.Ok) (hn : 0 ≤ now ∧ now ≤ 18446744073709551615) (w : World) : Calls Try.prog 9 #[d.val, .int .u64 rate, .int .i64 burst, .int .u64 now] w fun e w' => e = .returned (.bool true) ∧ Grew w w' := by
  obtain ⟨c, ec, qc⟩ : ∃ c ec, rateS d rate burst now = (c, ec) := ⟨_, _, rfl⟩
  have Q1 := Lib.hid qc
  have HD := Lib.hid hd
  have HN := Lib.hid hn
  clear qc hd hn
  go_enter Try.func9, Try.ntmps9
  go_wp2_with fail
  refine (shown_c _).mono ?_
  rintro e w1 ⟨rfl, hb1⟩
  have hA1 := (at_alloc w d.cells).grew hb1
  have HG := Lib.hid (((Grew.refl w).alloc _).trans hb1)
  have hc := hA1.cell
  have hlt := hA1.lt
  have HA := Lib.hid hA1
  clear hA1 hb1
  go_wp2_with fail
  refine (rate_to d HD.out rate burst now HN.out c ec _ Q1.out).mono ?_
  rintro e w2 ⟨rfl, hg⟩
  have hA := (HA.out).grew hg
  have hG := (HG.out).trans hg
  clear hc hlt HA HG hg
  have hc := hA.cell
  have hlt := hA.lt
  have HA := Lib.hid hA
  have HG := Lib.hid hG
  clear hA hG
  go_wp2_with fail
  refine (rrate_to d HD.out rate burst now HN.out c ec _ Q1.out).mono ?_
  rintro e w3 ⟨rfl, hg⟩
  have hA := (HA.out.alloc (.cells c.cells 24)).grew hg
  have hG := (HG.out.alloc (.cells c.cells 24)).trans hg
  have hB0 := (at_alloc w2 c.cells).grew hg
  obtain ⟨b0, hb0⟩ : ∃ b0, w2.heap.size = b0 := ⟨_, rfl⟩
  rw [hb0] at hB0 ⊢
  clear hb0
  clear hc hlt HA HG hg
  have hc := hA.cell
  have hlt := hA.lt
  have HA := Lib.hid hA
  have HG := Lib.hid hG
  have HB0 := Lib.hid hB0
  clear hA hG hB0
  have hc0 := HB0.out.cell
  have hl0 := HB0.out.lt
  clear HA HB0
  cases h1 : (ec != 0)
  · have e1 : ec = 0 := by simpa using h1
    subst e1
    have hr : right c = true := rate_sure HD.out Q1.out
    clear h1
    go_wp2_with fail
    refine (right_c c _).mono ?_
    rintro e w9 ⟨rfl, hg⟩
    have HG9 := Lib.hid ((HG.out.alloc (.cells c.cells 24)).trans hg)
    clear hg
    go_wp2_with fail
    go_ret
    exact ⟨rfl, HG9.out⟩
  · go_wp2_with fail
    go_ret
    exact ⟨rfl, HG.out.alloc _⟩
end Go.Proofs.Ytimogbalkhgplaa
