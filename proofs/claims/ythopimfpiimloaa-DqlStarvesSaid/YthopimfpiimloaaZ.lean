/- DqlStarves: the walk. -/
import Derived.Test.YthopimfpiimloaaU2
import Derived.Test.YthopimfpiimloaaY
import Derived.Test.YthopimfpiimloaaT
import Derived.Deep.LoopGhost
import Derived.Deep.DeepCutAuto
import Derived.Deep.RegionHeld3
namespace Go.Proofs.Ythopimfpiimloaa
open Go.RowKit Go.Shelf
set_option linter.unusedSimpArgs false
set_option maxHeartbeats 2000000
set_option maxRecDepth 4000
attribute [local go_sem] alloc_drewN setCell_drewN max2_mx min2_mn max_two min_two
theorem u32_at {w wr : World} {b off n : Nat} {f : Nat → Int} (h : ∀ i, i < n → w.cell? ⟨b, off + i, none⟩ = some (.int .u32 (f i)) ∧ (0 ≤ f i ∧ f i ≤ 4294967295)) (hg : Grew w wr) {k : Nat} (hk : k < n) :
    wr.cell? ⟨b, off + k, none⟩ = some (.int .u32 (f k)) := by
  obtain ⟨h0, _⟩ := h k hk
  have hb : b < w.heap.size := World.block_lt_of_cell? w _ h0
  exact (hg.below.cell (p := ⟨b, _, none⟩) hb).trans h0
theorem st_held {w W : World} {b : Nat} {cs : Array Value} (hA : At W b cs) (hG : Grew w W) :
    (∀ j : Nat, W.cell? ⟨b, j, none⟩ = cs[j]?) ∧ b < W.heap.size ∧ Grew w W := ⟨hA.cell, hA.lt, hG⟩
theorem at_alloc1 (w : World) (o : Obj) (cs : Array Value) : At ((w.alloc o).alloc (.cells cs 26)) (w.heap.size + 1) cs := heap_alloc2_new w _ _
theorem new_b {w4 w' : World} {X : Obj} {Z : Array Value} (hb : Grew ((w4.alloc (.cells Z 26)).alloc X).drew w') : At w' w4.heap.size Z := At.grew (w := ((w4.alloc (.cells Z 26)).alloc X).drew) ((at_alloc w4 Z).alloc X).drew hb
theorem new_d {w4 w' : World} {X : Obj} {Z : Array Value} (hb : Grew ((w4.alloc X).alloc (.cells Z 26)).drew w') : At w' (w4.heap.size + 1) Z := At.grew (w := ((w4.alloc X).alloc (.cells Z 26)).drew) (at_alloc1 w4 X Z).drew hb
theorem starves_walk (least most hold : Int) (A : Option Addr) (n c : Nat) (f : Nat → Int) (w : World) (ha : IsU32s w A n f) : Calls Try.prog 8 #[.int .u32 least, .int .u32 most, .int .u64 hold, .slice A n c] w fun e w' => e = .returned (.bool true) ∧ Grew w w' := by
  obtain ⟨hn, hacts⟩ := ha
  have HACT := Lib.hid hacts
  clear hacts
  cases h : rises [1, least, most, 1073741824]
  · have HR := Lib.hid h
    clear h
    go_enter Try.func8, Try.ntmps8
    go_wp2_with fail
    refine (shown_c _).mono ?_
    rintro e w1 ⟨rfl, hb1⟩
    have HG1 := Lib.hid hb1
    clear hb1
    go_wp2_with fail
    refine (new_no _ _ _ _ _ HR.out).mono ?_
    rintro e w2 ⟨rfl, hb2⟩
    have HG2 := Lib.hid (HG1.out.trans hb2)
    clear hb2
    go_wp2_with fail
    go_ret
    exact ⟨rfl, HG2.out.alloc _⟩
  · have hr : Dry (newS least most hold 0) := dry_new h
    have HRR := Lib.hid hr
    have HR := Lib.hid h
    clear h hr
    go_enter Try.func8, Try.ntmps8
    go_wp2_with fail
    refine (shown_c _).mono ?_
    rintro e w1 ⟨rfl, hb1⟩
    have HG1 := Lib.hid hb1
    clear hb1
    go_wp2_with fail
    refine (new_yes _ _ _ _ _ HR.out).mono ?_
    rintro e w2 ⟨rfl, hb2⟩
    have HG2 := Lib.hid (HG1.out.trans hb2)
    have hle : w.heap.size ≤ w2.heap.size := HG2.out.below.size
    clear hb2 HG1
    go_wp2_with fail
    obtain ⟨bD, hbD⟩ : ∃ bD, w2.heap.size = bD := ⟨_, rfl⟩
    obtain ⟨w3, hw3⟩ : ∃ w3, w2.alloc (.cells (newS least most hold 0).cells 26) = w3 := ⟨_, rfl⟩
    have hA3 : At w3 bD (newS least most hold 0).cells := by rw [← hw3, ← hbD]; exact at_alloc _ _
    have hG3 : Grew w w3 := by rw [← hw3]; exact HG2.out.alloc _
    rw [hw3, hbD]
    rw [hbD] at hle
    have HA3 := Lib.hid hA3
    have HG3 := Lib.hid hG3
    clear hw3 hbD HG2 hA3 hG3
    go_loopw [12] (fun i wr => ∃ (k : Nat) (d : Dql), i = .int .i64 k ∧ Dry d ∧ At wr bD d.cells ∧ Grew w wr) (fun i _ => 40 - (intOf i).toNat)
    case atStart => exact ⟨0, newS least most hold 0, rfl, HRR.out, HA3.out, HG3.out⟩
    case round =>
      obtain ⟨k, d, rfl, hrd, hA, hG⟩ := hrel
      clear HA3 HG3 HRR HR
      have HRD := Lib.hid hrd
      have HA := Lib.hid hA
      have HG := Lib.hid hG
      have hc := hA.cell
      have hf := hA.free
      have hlt := hA.lt
      clear hrd hA hG
      by_cases hk1 : k < n
      · by_cases hk2 : k < 40
        · rcases HACT.out with h0 | ⟨b, off, rfl, hcells⟩
          · omega
          have c0 := u32_at hcells HG.out hk1
          obtain ⟨_, hD⟩ := hcells k hk1
          clear hcells
          obtain ⟨x, hE⟩ : ∃ x, f k = x := ⟨_, rfl⟩
          rw [hE] at c0 hD
          clear hE
          have hk3 : decide ((k : Int) < 40) = true := by simp; omega
          go_wp2_with fail
          clear hk3
          obtain ⟨an, han⟩ : ∃ an, 1 + x % 65535 = an := ⟨_, rfl⟩
          have hn1 : 1 ≤ an := by omega
          have hn2 : an ≤ 65535 := by omega
          rw [han]
          have HN1 := Lib.hid hn1
          have HN2 := Lib.hid hn2
          clear han hn1 hn2 c0 hc hf hlt
          go_loopw [14] (fun kk wv => ∃ (j : Nat) (d1 : Dql), kk = .int .i64 j ∧ Dry d1 ∧ At wv bD d1.cells ∧ Grew w wv) (fun kk _ => 200 - (intOf kk).toNat)
          case atStart => exact ⟨0, d, rfl, HRD.out, HA.out, HG.out⟩
          case round =>
            obtain ⟨j, d1, rfl, hrd, hA, hG⟩ := hrel
            clear HA HG HRD
            have HRD := Lib.hid hrd
            have HA := Lib.hid hA
            have HG := Lib.hid hG
            have hc := hA.cell
            have hf := hA.free
            have hlt := hA.lt
            clear hrd hA hG
            by_cases hgo : j < 200 ∧ 0 < left d1
            · obtain ⟨hj, hl⟩ := hgo
              obtain ⟨q, hq, hdq⟩ := dry_queue HRD.out HN1.out HN2.out hl
              have hqc : ∀ W, Calls Try.prog 20 #[d1.val, .int .u32 an] W fun e w' => e = .returned (pairV q 0) ∧ Grew W w' := fun W => by
                have := queue_c d1 an W
                rw [hq] at this
                exact this
              have HQC := Lib.hid hqc
              have HDQ := Lib.hid hdq
              clear hq hqc hdq
              go_wp2_with fail
              refine (left_c d1 _).mono ?_
              rintro e w4 ⟨rfl, hb4⟩
              have hA4 := HA.out.grew hb4
              have hG4 := HG.out.trans hb4
              clear hc hf hlt hb4 HA HG
              have hc := hA4.cell
              have hlt := hA4.lt
              have HA := Lib.hid hA4
              have HG := Lib.hid hG4
              clear hA4 hG4
              go_wp2_with fail
              refine (HQC.out _).mono ?_
              rintro e w5 ⟨rfl, hb5⟩
              have hA5 := HA.out.grew hb5
              have hG5 := HG.out.trans hb5
              clear hc hlt hb5 HA HG
              have hc := hA5.cell
              have hf := hA5.free
              have hlt := hA5.lt
              have HA := Lib.hid hA5
              have HG := Lib.hid hG5
              clear hA5 hG5
              go_wp2_with fail
              have hB := (HA.out.store q).alloc (.cells q.cells 26)
              have hG := (HG.out.store bD q hle).alloc (.cells q.cells 26)
              obtain ⟨wx, hwx⟩ : ∃ wx, (storeD w5 bD q).alloc (.cells q.cells 26) = wx := ⟨_, rfl⟩
              rw [hwx] at hB hG
              simp only [storeD] at hwx
              rw [hwx]
              clear hwx HA HG hc hf hlt
              refine ⟨⟨j + 1, q, by go_num, HDQ.out, hB, hG⟩, ?_⟩
              simp [intOf]
              omega
            · by_cases hj : j < 200
              case' pos =>
                have hl : decide (0 < left d1) = false := by simp; omega
                go_wp2_with fail
                refine (left_c d1 _).mono ?_
                rintro e w4 ⟨rfl, hb4⟩
                have hA4 := HA.out.grew hb4
                have hG4 := HG.out.trans hb4
                clear hc hf hlt hb4 HA HG
                have hc := hA4.cell
                have hlt := hA4.lt
                have HA := Lib.hid hA4
                have HG := Lib.hid hG4
                clear hA4 hG4
              all_goals
                have HGO := Lib.hid hgo
                clear hgo
                go_wp2_with fail
                refine (left_c d1 _).mono ?_
                rintro e w4 ⟨rfl, hb4⟩
                have hA4 := HA.out.grew hb4
                have hG4 := HG.out.trans hb4
                clear hb4 HA HG
                try clear hl
                try clear hc
                try clear hf
                try clear hlt
                have hc := hA4.cell
                have hlt := hA4.lt
                have HA := Lib.hid hA4
                have HG := Lib.hid hG4
                clear hA4 hG4
                cases hl : decide (0 < left d1)
                · obtain ⟨q, hq, hdq, hlq⟩ := dry_complete (IntKind.u64.wrap (k : Int)) HRD.out (by simpa using hl)
                  have hqc : ∀ W, Calls Try.prog 22 #[d1.val, .int .u32 (flight d1), .int .u64 (IntKind.u64.wrap (k : Int))] W fun e w' => e = .returned (pairV q 0) ∧ Grew W w' := fun W => complete_to d1 q (flight d1) _ 0 W hq
                  have HLQ := Lib.hid hlq
                  have HDQ := Lib.hid hdq
                  clear hq hlq hdq
                  go_wp2_with fail
                  have hg4 := HG.out
                  have ha4 := HA.out
                  have hle0 : w.heap.size ≤ w4.heap.size := hg4.below.size
                  have hle1 : w.heap.size ≤ w4.heap.size + 1 := by omega
                  have hne0 : bD ≠ w4.heap.size := by have := ha4.lt; omega
                  have hne1 : bD ≠ w4.heap.size + 1 := by have := ha4.lt; omega
                  go_cut [18, 19] from 31 to 88 (fun v18 v19 wx => ∃ g, v18 = .pointer (some ⟨g, 0, none⟩) ∧ v19 = .int .i64 0 ∧ At wx bD d1.cells ∧ At wx g q.cells ∧ bD ≠ g ∧ Grew w wx)
                  case first =>
                    go_region_held3 (fun w' => (∀ j : Nat, w'.cell? ⟨bD, j, none⟩ = d1.cells[j]?) ∧ bD < w'.heap.size ∧ Grew w w')
                      (with_reducible first | (exact st_held hzA hzG) | (exact st_held (hzA.farStore _ q hne0) (hzG.store _ q hle0)) | (exact st_held (hzA.farStore _ q hne1) (hzG.store _ q hle1)) | (refine st_held ?_ ?_ <;> repeat (with_reducible first | exact ha4 | exact hg4 | exact hzA | exact hzG | refine At.drew ?_ | refine At.alloc ?_ _ | refine Grew.drew ?_ | refine Grew.alloc ?_ _)))
                      ((first | (go_at_call 18; (with_reducible refine (flight_x d1 _).mono ?_); rintro e w' ⟨rfl, rfl⟩) | (go_at_call 22; (with_reducible refine (hqc _).mono ?_); rintro e w' ⟨rfl, hb⟩; (have hzA : At w' bD d1.cells := by (refine At.grew ?_ hb; repeat (with_reducible first | exact ha4 | refine At.drew ?_ | refine At.alloc ?_ _))); (have hzG : Grew w w' := by (refine Grew.trans ?_ hb; repeat (with_reducible first | exact hg4 | refine Grew.drew ?_ | refine Grew.alloc ?_ _))); (first | (have hnB := new_b hb; have hnC := new_d hb; have hnBc := hnB.cell; have hnBf := hnB.free; have hnCc := hnC.cell; have hnCf := hnC.free) | skip))))
                    all_goals go_wp2_with fail
                    all_goals go_meet
                    all_goals first
                      | (refine ⟨w'.heap.size, rfl, rfl, ?_, ?_, ?_, ?_⟩; exact hzA.alloc _; exact at_alloc _ _; (have := hzA.lt; omega); exact hzG.alloc _)
                      | (refine ⟨w4.heap.size, rfl, rfl, ?_, ?_, hne0, ?_⟩; exact hzA.farStore _ q hne0; exact At.store (e := Dql.zero) hnB q; exact hzG.store _ q hle0)
                      | (refine ⟨w4.heap.size + 1, rfl, rfl, ?_, ?_, hne1, ?_⟩; exact hzA.farStore _ q hne1; exact At.store (e := Dql.zero) hnC q; exact hzG.store _ q hle1)
                  case rest =>
                    obtain ⟨g, rfl, rfl, hA, hQ, hne, hG⟩ := hcut
                    clear ha4 hg4 hle0 hle1 hne0 hne1 HA HG hc hlt w4
                    have hx : decide (q.Limit < d1.Limit) = false := decide_eq_false (by have := HLQ.out; omega)
                    have hc := hA.cell
                    have hf := hA.free
                    have hcQ := hQ.cell
                    have HA := Lib.hid hA
                    have HG := Lib.hid hG
                    clear hA hG hQ hqc hl
                    go_wp2_with fail
                    have hB := HA.out.store q
                    have hG := HG.out.store bD q hle
                    obtain ⟨wx, hwx⟩ : ∃ wx, storeD wc bD q = wx := ⟨_, rfl⟩
                    rw [hwx] at hB hG
                    simp only [storeD] at hwx
                    rw [hwx]
                    clear hwx HA HG hc hf
                    refine ⟨⟨k + 1, q, by go_num, HDQ.out, hB, hG⟩, ?_⟩
                    simp [intOf]
                    omega
                · go_wp2_with fail
                  go_ret
                  exact ⟨rfl, HG.out⟩
        · go_wp2_with fail
          go_ret
          exact ⟨rfl, HG.out⟩
      · go_wp2_with fail
        go_ret
        exact ⟨rfl, HG.out⟩
end Go.Proofs.Ythopimfpiimloaa
