/- DqlRuns: the walk. -/
import Derived.Test.YthopimfpiimloaaU
import Derived.Test.YthopimfpiimloaaJ
import Derived.Test.YthopimfpiimloaaCh
import Derived.Test.YthopimfpiimloaaX
import Derived.Deep.LoopGhost
import Derived.Deep.DeepCutAuto
import Derived.Deep.RegionHeld3
namespace Go.Proofs.Ythopimfpiimloaa
open Go.RowKit Go.Shelf
set_option linter.unusedSimpArgs false
set_option maxHeartbeats 2000000
set_option maxRecDepth 100000
attribute [local go_sem] alloc_drewN setCell_drewN
attribute [local go_sem high] eqD
theorem storeD_other {W : World} {g b : Nat} (q : Dql) (o : Nat) (h : b ≠ g) : (storeD W g q).cell? ⟨b, o, none⟩ = W.cell? ⟨b, o, none⟩ := by
  refine World.cell?_of_block ?_
  simp only [storeD]
  rw [heap_setCell_other _ _ _ _ h, heap_setCell_other _ _ _ _ h, heap_setCell_other _ _ _ _ h, heap_setCell_other _ _ _ _ h, heap_setCell_other _ _ _ _ h, heap_setCell_other _ _ _ _ h, heap_setCell_other _ _ _ _ h, heap_setCell_other _ _ _ _ h, heap_setCell_other _ _ _ _ h, heap_setCell_other _ _ _ _ h, heap_setCell_other _ _ _ _ h, heap_setCell_other _ _ _ _ h, heap_setCell_other _ _ _ _ h]
/-- Between two statements of a round: the two states, the two results, an act's number, and what lay. -/
structure RunsAt (w : World) (bA bB bC bE ba o : Nat) (N : Int) (dA dB dC dE : Dql) (W : World) : Prop where
  a : At W bA dA.cells
  b : At W bB dB.cells
  c : At W bC dC.cells
  e : At W bE dE.cells
  k : W.cell? ⟨ba, o, none⟩ = some (.int .u32 N)
  g : Grew w W
theorem RunsAt.grew {w : World} {bA bB bC bE ba o : Nat} {N : Int} {dA dB dC dE : Dql} {W W' : World} (h : RunsAt w bA bB bC bE ba o N dA dB dC dE W) (hba : ba < w.heap.size) (k : Grew W W') : RunsAt w bA bB bC bE ba o N dA dB dC dE W' :=
  ⟨h.a.grew k, h.b.grew k, h.c.grew k, h.e.grew k, (k.below.cell (p := ⟨ba, o, none⟩) (Nat.lt_of_lt_of_le hba h.g.below.size)).trans h.k, h.g.trans k⟩
theorem RunsAt.drew {w : World} {bA bB bC bE ba o : Nat} {N : Int} {dA dB dC dE : Dql} {W : World} (h : RunsAt w bA bB bC bE ba o N dA dB dC dE W) : RunsAt w bA bB bC bE ba o N dA dB dC dE W.drew := ⟨h.a, h.b, h.c, h.e, h.k, h.g.drew⟩
theorem RunsAt.setC {w : World} {bA bB bC bE ba o : Nat} {N : Int} {dA dB dC dE : Dql} {W : World} (h : RunsAt w bA bB bC bE ba o N dA dB dC dE W) (q : Dql) (h1 : bA ≠ bC) (h2 : bB ≠ bC) (h3 : bE ≠ bC) (h4 : ba ≠ bC) (h5 : w.heap.size ≤ bC) : RunsAt w bA bB bC bE ba o N dA dB q dE (storeD W bC q) :=
  ⟨h.a.farStore _ _ h1, h.b.farStore _ _ h2, h.c.store q, h.e.farStore _ _ h3, (storeD_other q o h4).trans h.k, h.g.store _ _ h5⟩
theorem RunsAt.setE {w : World} {bA bB bC bE ba o : Nat} {N : Int} {dA dB dC dE : Dql} {W : World} (h : RunsAt w bA bB bC bE ba o N dA dB dC dE W) (q : Dql) (h1 : bA ≠ bE) (h2 : bB ≠ bE) (h3 : bC ≠ bE) (h4 : ba ≠ bE) (h5 : w.heap.size ≤ bE) : RunsAt w bA bB bC bE ba o N dA dB dC q (storeD W bE q) :=
  ⟨h.a.farStore _ _ h1, h.b.farStore _ _ h2, h.c.farStore _ _ h3, h.e.store q, (storeD_other q o h4).trans h.k, h.g.store _ _ h5⟩
theorem RunsAt.heldA {w : World} {bA bB bC bE ba o : Nat} {N : Int} {dA dB dC dE : Dql} {W : World} (h : RunsAt w bA bB bC bE ba o N dA dB dC dE W) : (∀ j : Nat, W.cell? ⟨bA, j, none⟩ = dA.cells[j]?) ∧ W.cell? ⟨ba, o, none⟩ = some (.int .u32 N) := ⟨h.a.cell, h.k⟩
theorem RunsAt.heldB {w : World} {bA bB bC bE ba o : Nat} {N : Int} {dA dB dC dE : Dql} {W : World} (h : RunsAt w bA bB bC bE ba o N dA dB dC dE W) : (∀ j : Nat, W.cell? ⟨bB, j, none⟩ = dB.cells[j]?) ∧ W.cell? ⟨ba, o, none⟩ = some (.int .u32 N) := ⟨h.b.cell, h.k⟩
theorem at_alloc1 (w : World) (o : Obj) (cs : Array Value) : At ((w.alloc o).alloc (.cells cs 26)) (w.heap.size + 1) cs := heap_alloc2_new w _ _
theorem runs_walk (least most hold : Int) (h1 : 0 ≤ least ∧ least ≤ 4294967295) (h2 : 0 ≤ most ∧ most ≤ 4294967295) (h3 : 0 ≤ hold ∧ hold ≤ 18446744073709551615) (A : Option Addr) (n c : Nat) (f : Nat → Act3) (w : World) (ha : IsActs w A n f) : Calls Try.prog 5 #[.int .u32 least, .int .u32 most, .int .u64 hold, .slice A n c] w fun e w' => e = .returned (.bool true) ∧ Grew w w' := by
  have HOK := Lib.hid (ok_new (hold := hold) h1 h2 h3 (n := 0) (by omega))
  obtain ⟨hn, hacts⟩ := ha
  have HACT := Lib.hid hacts
  clear hacts h1 h2 h3
  cases h : rises [1, least, most, 1073741824]
  · have HR := Lib.hid h
    clear h
    go_enter Try.func5, Try.ntmps5
    go_wp2_with fail
    refine (shown_c _).mono ?_
    rintro e w1 ⟨rfl, hb1⟩
    have HG1 := Lib.hid hb1
    clear hb1
    go_wp2_with fail
    refine (new_no _ _ _ _ _ HR.out).mono ?_
    rintro e w2 ⟨rfl, hb2⟩
    have HG2 := Lib.hid (HG1.out.trans hb2)
    clear hb2
    go_wp2_with fail
    go_ret
    exact ⟨rfl, HG2.out.alloc _⟩
  · have hr : right (newS least most hold 0) = true := right_new h
    have HRR := Lib.hid hr
    have HR := Lib.hid h
    clear h hr
    go_enter Try.func5, Try.ntmps5
    go_wp2_with fail
    refine (shown_c _).mono ?_
    rintro e w1 ⟨rfl, hb1⟩
    have HG1 := Lib.hid hb1
    clear hb1
    go_wp2_with fail
    refine (new_yes _ _ _ _ _ HR.out).mono ?_
    rintro e w2 ⟨rfl, hb2⟩
    have HG2 := Lib.hid (HG1.out.trans hb2)
    have hle : w.heap.size ≤ w2.heap.size := HG2.out.below.size
    clear hb2 HG1
    go_wp2_with fail
    obtain ⟨z, hz⟩ : ∃ z, newS least most hold 0 = z := ⟨_, rfl⟩
    obtain ⟨bA, hbA⟩ : ∃ bA, w2.heap.size = bA := ⟨_, rfl⟩
    obtain ⟨w3, hw3⟩ : ∃ w3, (w2.alloc (.cells (newS least most hold 0).cells 26)).alloc (.cells (newS least most hold 0).cells 26) = w3 := ⟨_, rfl⟩
    have hA3 : At w3 bA (newS least most hold 0).cells := by rw [← hw3, ← hbA]; exact (at_alloc _ _).alloc _
    have hB3 : At w3 (bA + 1) (newS least most hold 0).cells := by rw [← hw3, ← hbA]; exact at_alloc1 _ _ _
    have hG3 : Grew w w3 := by rw [← hw3]; exact (HG2.out.alloc _).alloc _
    have hne0 : bA ≠ bA + 1 := by omega
    obtain ⟨bB, hbB⟩ : ∃ bB, bA + 1 = bB := ⟨_, rfl⟩
    rw [hw3]
    simp only [hbA, hbB]
    rw [hbB] at hB3 hne0
    rw [hbA] at hle
    have hleB : w.heap.size ≤ bB := by omega
    have HA3 := Lib.hid hA3
    have HB3 := Lib.hid hB3
    have HG3 := Lib.hid hG3
    clear hw3 hbA hbB HG2 hA3 hB3 hG3 hz
    go_loopw [13, 14] (fun now i wr => ∃ (k : Nat) (nw : Int) (d : Dql), i = .int .i64 k ∧ now = .int .u64 nw ∧ right d = true ∧ d.Ok ∧ At wr bA d.cells ∧ At wr bB d.cells ∧ Grew w wr) (fun _ i _ => 80 - (intOf i).toNat)
    case atStart => exact ⟨0, 0, newS least most hold 0, rfl, rfl, HRR.out, HOK.out, HA3.out, HB3.out, HG3.out⟩
    case round =>
      obtain ⟨k, nw, d, rfl, rfl, hrd, hok, hA, hB, hG⟩ := hrel
      clear HA3 HB3 HG3 HRR HR HOK
      have HRD := Lib.hid hrd
      have HDOK := Lib.hid hok
      have HA := Lib.hid hA
      have HB := Lib.hid hB
      have HG := Lib.hid hG
      have hcA := hA.cell
      have hltA := hA.lt
      clear hrd hok hA hB hG
      by_cases hk1 : k < n
      · by_cases hk2 : k < 80
        · rcases HACT.out with h0 | ⟨b, off, rfl, hcells⟩
          · omega
          obtain ⟨c0, c1, c2, hbw⟩ := acts_at hcells HG.out hk1
          obtain ⟨_, _, _, hD, hN, hT⟩ := hcells k hk1
          clear hcells hcA
          obtain ⟨aD, hE⟩ : ∃ x, (f k).Do = x := ⟨_, rfl⟩
          rw [hE] at c0 hD
          clear hE
          obtain ⟨aN, hE⟩ : ∃ x, (f k).N = x := ⟨_, rfl⟩
          rw [hE] at c1 hN
          clear hE
          obtain ⟨aT, hE⟩ : ∃ x, (f k).Ticks = x := ⟨_, rfl⟩
          rw [hE] at c2 hT
          clear hE
          have hbr : b < wr.heap.size := Nat.lt_of_lt_of_le hbw HG.out.below.size
          have hk3 : decide ((k : Int) < 80) = true := by simp; omega
          go_upto_if 55 with (fail)
          clear hk3
          obtain ⟨tn, htn⟩ : ∃ tn, IntKind.u64.wrap (nw + aT % 1000) = tn := ⟨_, rfl⟩
          have hTN : 0 ≤ tn ∧ tn ≤ 18446744073709551615 := by rw [← htn, IntKind.wrap_u64]; omega
          have HTN := Lib.hid hTN
          have HN := Lib.hid hN
          clear hTN hN hD hT
          rw [htn]
          clear htn
          have hltB := HB.out.lt
          obtain ⟨W0, hW0⟩ : ∃ W0, (wr.alloc (.cells #[.int .u32 0, .int .u32 0, .int .u32 0, .int .u32 0, .int .u32 0, .int .u32 0, .int .u32 0, .int .u32 0, .int .u32 0, .int .u64 0, .int .u64 0, .int .u32 0, .int .u32 0] 26)).alloc (.cells #[.int .u32 0, .int .u32 0, .int .u32 0, .int .u32 0, .int .u32 0, .int .u32 0, .int .u32 0, .int .u32 0, .int .u32 0, .int .u64 0, .int .u64 0, .int .u32 0, .int .u32 0] 26) = W0 := ⟨_, rfl⟩
          obtain ⟨bC, hbC⟩ : ∃ bC, wr.heap.size = bC := ⟨_, rfl⟩
          obtain ⟨bE, hbE⟩ : ∃ bE, bC + 1 = bE := ⟨_, rfl⟩
          have hW : RunsAt w bA bB bC bE b (off + k * 3 + 1) aN d d Dql.zero Dql.zero W0 := by
            have k1 : At (wr.alloc (.cells Dql.zero.cells 26)) bC Dql.zero.cells := by rw [← hbC]; exact at_alloc _ _
            have k2 : At ((wr.alloc (.cells Dql.zero.cells 26)).alloc (.cells Dql.zero.cells 26)) bE Dql.zero.cells := by rw [← hbE, ← hbC]; exact at_alloc1 _ _ _
            rw [← hW0]
            have hG2 : Grew wr ((wr.alloc (.cells Dql.zero.cells 26)).alloc (.cells Dql.zero.cells 26)) := ((Grew.refl wr).alloc _).alloc _
            exact ⟨HA.out.grew hG2, HB.out.grew hG2, k1.alloc _, k2, (hG2.below.cell (p := ⟨b, off + k * 3 + 1, none⟩) hbr).trans c1, HG.out.trans hG2⟩
          rw [hW0]
          simp only [hbC, hbE]
          have hne1 : bA ≠ bC := by omega
          have hne2 : bB ≠ bC := by omega
          have hne3 : bA ≠ bE := by omega
          have hne4 : bB ≠ bE := by omega
          have hne5 : bE ≠ bC := by omega
          have hne6 : b ≠ bC := by omega
          have hne7 : b ≠ bE := by omega
          have hgs := HG.out.below.size
          have hle1 : w.heap.size ≤ bC := by omega
          have hle2 : w.heap.size ≤ bE := by omega
          clear hW0 hbC hbE hgs c0 c1 c2 hbr hltA hltB HA HB HG
          have HW := Lib.hid hW
          have hcA := hW.a.cell
          have hcB := hW.b.cell
          have hck := hW.k
          have hcC := hW.c.cell
          have hcE := hW.e.cell
          have hfC := hW.c.free
          have hfE := hW.e.free
          clear hW
          go_cut [17, 18] from 31 to 109 (fun v17 v18 wx => ∃ q eq, v17 = .int .i64 eq ∧ v18 = .int .i64 eq ∧ (eq = 0 → right q = true ∧ q.Ok) ∧ RunsAt w bA bB bC bE b (off + k * 3 + 1) aN d d q q wx)
          case first =>
            cases hdo : (aD.tmod 2 == 0)
            · skip
              obtain ⟨q, eq, hq⟩ : ∃ q eq, completeS d aN tn = (q, eq) := ⟨_, _, rfl⟩
              have hqc : ∀ W, Calls Try.prog 22 #[d.val, .int .u32 aN, .int .u64 tn] W fun e w' => e = .returned (pairV q eq) ∧ Grew W w' := fun W => complete_to d q aN tn eq W hq
              have hrc : ∀ W, Calls Try.prog 23 #[d.val, .int .u32 aN, .int .u64 tn] W fun e w' => e = .returned (pairV q eq) ∧ Grew W w' := fun W => rcomplete_to d q aN tn eq HDOK.out W hq
              have HNX : Hid (eq = 0 → right q = true ∧ q.Ok) := fun e0 => by subst e0; exact ⟨complete_right HN.out.1 hq, ok_complete HDOK.out HTN.out hq⟩
              clear hq
              go_upto_region 16 with (fail)
              go_cut [17] from 31 to 109 (fun v17 wx => v17 = .int .i64 eq ∧ RunsAt w bA bB bC bE b (off + k * 3 + 1) aN d d q Dql.zero wx)
              case first =>
                go_region_held3 (fun w' => (∀ j : Nat, w'.cell? ⟨bA, j, none⟩ = d.cells[j]?) ∧ w'.cell? ⟨b, off + k * 3 + 1, none⟩ = some (.int .u32 aN))
                  (with_reducible first | (exact HW.out.drew.heldA) | (exact hz.heldA) | (exact (hz.setC q hne1 hne2 hne5 hne6 hle1).heldA))
                  ((first | (go_at_call 22; (with_reducible refine (hqc _).mono ?_); rintro e w' ⟨rfl, hb⟩; (have hz := HW.out.drew.grew hbw hb); (have hzc := hz.c.cell); (have hzf := hz.c.free))))
                all_goals go_wp2_with fail
                all_goals go_meet
                all_goals exact ⟨rfl, hz.setC q hne1 hne2 hne5 hne6 hle1⟩
              case rest =>
                obtain ⟨rfl, hW⟩ := hcut
                clear HW hcA hcB hck hcC hcE hfC hfE
                have HW := Lib.hid hW
                have hcA := hW.a.cell
                have hcB := hW.b.cell
                have hck := hW.k
                have hcC := hW.c.cell
                have hcE := hW.e.cell
                have hfC := hW.c.free
                have hfE := hW.e.free
                clear hW
                go_upto_region 17 with (fail)
                go_cut [18] from 31 to 109 (fun v18 wx => v18 = .int .i64 eq ∧ RunsAt w bA bB bC bE b (off + k * 3 + 1) aN d d q q wx)
                case first =>
                  go_region_held3 (fun w' => (∀ j : Nat, w'.cell? ⟨bB, j, none⟩ = d.cells[j]?) ∧ w'.cell? ⟨b, off + k * 3 + 1, none⟩ = some (.int .u32 aN))
                    (with_reducible first | (exact HW.out.drew.heldB) | (exact hz.heldB) | (exact (hz.setE q hne3 hne4 (Ne.symm hne5) hne7 hle2).heldB))
                    ((first | (go_at_call 23; (with_reducible refine (hrc _).mono ?_); rintro e w' ⟨rfl, hb⟩; (have hz := HW.out.drew.grew hbw hb); (have hzc := hz.e.cell); (have hzf := hz.e.free))))
                  all_goals go_wp2_with fail
                  all_goals go_meet
                  all_goals exact ⟨rfl, hz.setE q hne3 hne4 (Ne.symm hne5) hne7 hle2⟩
                case rest =>
                  obtain ⟨rfl, hW⟩ := hcut
                  clear HW hcA hcB hck hcC hcE hfC hfE
                  have HW := Lib.hid hW
                  have hcA := hW.a.cell
                  have hcB := hW.b.cell
                  have hck := hW.k
                  have hcC := hW.c.cell
                  have hcE := hW.e.cell
                  have hfC := hW.c.free
                  have hfE := hW.e.free
                  clear hW
                  go_wp2_with fail
                  go_meet
                  exact ⟨q, eq, rfl, rfl, HNX.out, HW.out⟩
            · skip
              obtain ⟨q, eq, hq⟩ : ∃ q eq, queueS d aN = (q, eq) := ⟨_, _, rfl⟩
              have hqc : ∀ W, Calls Try.prog 20 #[d.val, .int .u32 aN] W fun e w' => e = .returned (pairV q eq) ∧ Grew W w' := fun W => queue_to d q aN eq W hq
              have hrc : ∀ W, Calls Try.prog 21 #[d.val, .int .u32 aN] W fun e w' => e = .returned (pairV q eq) ∧ Grew W w' := fun W => rqueue_to d q aN eq HN.out W hq
              have HNX : Hid (eq = 0 → right q = true ∧ q.Ok) := fun e0 => by subst e0; exact ⟨queue_right hq, ok_queue HDOK.out HN.out hq⟩
              clear hq
              go_upto_region 14 with (fail)
              go_cut [17] from 31 to 109 (fun v17 wx => v17 = .int .i64 eq ∧ RunsAt w bA bB bC bE b (off + k * 3 + 1) aN d d q Dql.zero wx)
              case first =>
                go_region_held3 (fun w' => (∀ j : Nat, w'.cell? ⟨bA, j, none⟩ = d.cells[j]?) ∧ w'.cell? ⟨b, off + k * 3 + 1, none⟩ = some (.int .u32 aN))
                  (with_reducible first | (exact HW.out.drew.heldA) | (exact hz.heldA) | (exact (hz.setC q hne1 hne2 hne5 hne6 hle1).heldA))
                  ((first | (go_at_call 20; (with_reducible refine (hqc _).mono ?_); rintro e w' ⟨rfl, hb⟩; (have hz := HW.out.drew.grew hbw hb); (have hzc := hz.c.cell); (have hzf := hz.c.free))))
                all_goals go_wp2_with fail
                all_goals go_meet
                all_goals exact ⟨rfl, hz.setC q hne1 hne2 hne5 hne6 hle1⟩
              case rest =>
                obtain ⟨rfl, hW⟩ := hcut
                clear HW hcA hcB hck hcC hcE hfC hfE
                have HW := Lib.hid hW
                have hcA := hW.a.cell
                have hcB := hW.b.cell
                have hck := hW.k
                have hcC := hW.c.cell
                have hcE := hW.e.cell
                have hfC := hW.c.free
                have hfE := hW.e.free
                clear hW
                go_upto_region 15 with (fail)
                go_cut [18] from 31 to 109 (fun v18 wx => v18 = .int .i64 eq ∧ RunsAt w bA bB bC bE b (off + k * 3 + 1) aN d d q q wx)
                case first =>
                  go_region_held3 (fun w' => (∀ j : Nat, w'.cell? ⟨bB, j, none⟩ = d.cells[j]?) ∧ w'.cell? ⟨b, off + k * 3 + 1, none⟩ = some (.int .u32 aN))
                    (with_reducible first | (exact HW.out.drew.heldB) | (exact hz.heldB) | (exact (hz.setE q hne3 hne4 (Ne.symm hne5) hne7 hle2).heldB))
                    ((first | (go_at_call 21; (with_reducible refine (hrc _).mono ?_); rintro e w' ⟨rfl, hb⟩; (have hz := HW.out.drew.grew hbw hb); (have hzc := hz.e.cell); (have hzf := hz.e.free))))
                  all_goals go_wp2_with fail
                  all_goals go_meet
                  all_goals exact ⟨rfl, hz.setE q hne3 hne4 (Ne.symm hne5) hne7 hle2⟩
                case rest =>
                  obtain ⟨rfl, hW⟩ := hcut
                  clear HW hcA hcB hck hcC hcE hfC hfE
                  have HW := Lib.hid hW
                  have hcA := hW.a.cell
                  have hcB := hW.b.cell
                  have hck := hW.k
                  have hcC := hW.c.cell
                  have hcE := hW.e.cell
                  have hfC := hW.c.free
                  have hfE := hW.e.free
                  clear hW
                  go_wp2_with fail
                  go_meet
                  exact ⟨q, eq, rfl, rfl, HNX.out, HW.out⟩
          case rest =>
            obtain ⟨q, eq, rfl, rfl, hnx, hW⟩ := hcut
            clear HW hcA hcB hck hcC hcE hfC hfE
            have HNX := Lib.hid hnx
            have HW := Lib.hid hW
            have hcA := hW.a.cell
            have hfA := hW.a.free
            have hcB := hW.b.cell
            have hfB := hW.b.free
            have hcC := hW.c.cell
            have hcE := hW.e.cell
            clear hW hnx
            cases he : (eq == 0)
            · go_wp2_with fail
              refine ⟨⟨k + 1, tn, d, by go_num, rfl, HRD.out, HDOK.out, HW.out.a, HW.out.b, HW.out.g⟩, ?_⟩
              simp [intOf]
              omega
            · have e0 : eq = 0 := by simpa using he
              subst e0
              clear he
              go_wp2_with fail
              have hA2 : At (storeD (storeD wc bA q) bB q) bA q.cells := (HW.out.a.store q).farStore bB q hne0
              have hB2 : At (storeD (storeD wc bA q) bB q) bB q.cells := (HW.out.b.farStore bA q (Ne.symm hne0)).store q
              have hG2 : Grew w (storeD (storeD wc bA q) bB q) := (HW.out.g.store bA q hle).store bB q hleB
              obtain ⟨wx, hwx⟩ : ∃ wx, storeD (storeD wc bA q) bB q = wx := ⟨_, rfl⟩
              rw [hwx] at hA2 hB2 hG2
              simp only [storeD] at hwx
              rw [hwx]
              clear hwx
              refine ⟨⟨k + 1, tn, q, by go_num, rfl, (HNX.out rfl).1, (HNX.out rfl).2, hA2, hB2, hG2⟩, ?_⟩
              simp [intOf]
              omega
        · go_wp2_with fail
          refine (right_c d _).mono ?_
          rintro e w4 ⟨rfl, hb4⟩
          have HG4 := Lib.hid (HG.out.trans hb4)
          have hrd : right d = true := HRD.out
          clear hb4
          go_wp2_with fail
          go_ret
          exact ⟨rfl, HG4.out⟩
      · go_wp2_with fail
        refine (right_c d _).mono ?_
        rintro e w4 ⟨rfl, hb4⟩
        have HG4 := Lib.hid (HG.out.trans hb4)
        have hrd : right d = true := HRD.out
        clear hb4
        go_wp2_with fail
        go_ret
        exact ⟨rfl, HG4.out⟩
end Go.Proofs.Ythopimfpiimloaa
