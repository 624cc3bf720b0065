/- DqlBounds: the walk. -/
import Derived.Test.YthopimfpiimloaaU
import Derived.Test.YthopimfpiimloaaV
import Derived.Test.YthopimfpiimloaaO
import Derived.Test.YthopimfpiimloaaT
import Derived.Deep.LoopGhost
import Derived.Deep.DeepCutAuto
import Derived.Deep.RegionHeld3
namespace Go.Proofs.Ythopimfpiimloaa
open Go.RowKit Go.Shelf
set_option linter.unusedSimpArgs false
set_option maxHeartbeats 2000000
set_option maxRecDepth 4000
attribute [local go_sem] alloc_drewN setCell_drewN max2_mx min2_mn max_two min_two
theorem acts_at {w wr : World} {b off n : Nat} {f : Nat → Act3} (h : ∀ i, i < n → w.cell? ⟨b, off + i * 3, none⟩ = some (.int .i64 (f i).Do) ∧ w.cell? ⟨b, off + i * 3 + 1, none⟩ = some (.int .u32 (f i).N) ∧ w.cell? ⟨b, off + i * 3 + 2, none⟩ = some (.int .u64 (f i).Ticks) ∧
    (-9223372036854775808 ≤ (f i).Do ∧ (f i).Do ≤ 9223372036854775807) ∧ (0 ≤ (f i).N ∧ (f i).N ≤ 4294967295) ∧ (0 ≤ (f i).Ticks ∧ (f i).Ticks ≤ 18446744073709551615)) (hg : Grew w wr) {k : Nat} (hk : k < n) :
    wr.cell? ⟨b, off + k * 3, none⟩ = some (.int .i64 (f k).Do) ∧ wr.cell? ⟨b, off + k * 3 + 1, none⟩ = some (.int .u32 (f k).N) ∧ wr.cell? ⟨b, off + k * 3 + 2, none⟩ = some (.int .u64 (f k).Ticks) ∧ b < w.heap.size := by
  obtain ⟨h0, h1, h2, _⟩ := h k hk
  have hb : b < w.heap.size := World.block_lt_of_cell? w _ h0
  exact ⟨(hg.below.cell (p := ⟨b, _, none⟩) hb).trans h0, (hg.below.cell (p := ⟨b, _, none⟩) hb).trans h1, (hg.below.cell (p := ⟨b, _, none⟩) hb).trans h2, hb⟩
/-- The state, a cell of the acts: as they stand behind a call; with a block made ahead of it. -/
theorem act_world1 {w w4 w' : World} {b ba o : Nat} {v : Value} {cs : Array Value} (hA : At w4 b cs) (hk : w4.cell? ⟨ba, o, none⟩ = some v) (hba : ba < w.heap.size) (hG : Grew w w4) (hb : Grew w4.drew w') :
    At w' b cs ∧ w'.cell? ⟨ba, o, none⟩ = some v ∧ Grew w w' :=
  ⟨hA.drew.grew hb, (hb.below.cell (p := ⟨ba, o, none⟩) (Nat.lt_of_lt_of_le hba hG.below.size)).trans hk, hG.drew.trans hb⟩
theorem act_world2 {w w4 w' : World} {b ba o : Nat} {v : Value} {cs zs : Array Value} (hA : At w4 b cs) (hk : w4.cell? ⟨ba, o, none⟩ = some v) (hba : ba < w.heap.size) (hG : Grew w w4) (hb : Grew (w4.alloc (.cells zs 26)).drew w') :
    At w' b cs ∧ w'.cell? ⟨ba, o, none⟩ = some v ∧ Grew w w' ∧ At w' w4.heap.size zs ∧ b ≠ w4.heap.size := by
  have h1 : At (w4.drew.alloc (.cells zs 26)) b cs := hA.drew.alloc _
  have hl := hA.lt
  refine ⟨h1.grew hb, (hb.below.cell (p := ⟨ba, o, none⟩) ?_).trans ?_, (hG.drew.alloc _).trans hb, (at_alloc w4.drew zs).grew hb, by omega⟩
  · have := hG.below.size
    simp
    omega
  · have := hG.below.size
    exact (((Grew.refl w4.drew).alloc (.cells zs 26)).below.cell (p := ⟨ba, o, none⟩) (show ba < w4.heap.size by omega)).trans hk
theorem act_held {w W : World} {b ba o : Nat} {v : Value} {cs : Array Value} (hA : At W b cs) (hk : W.cell? ⟨ba, o, none⟩ = some v) (hG : Grew w W) :
    (∀ j : Nat, W.cell? ⟨b, j, none⟩ = cs[j]?) ∧ W.cell? ⟨ba, o, none⟩ = some v ∧ b < W.heap.size ∧ Grew w W := ⟨hA.cell, hk, hA.lt, hG⟩
theorem act_held_alloc {w W : World} {b ba o : Nat} {v : Value} {cs : Array Value} (hA : At W b cs) (hk : W.cell? ⟨ba, o, none⟩ = some v) (hba : ba < w.heap.size) (hG : Grew w W) (obj : Obj) :
    (∀ j : Nat, (W.alloc obj).cell? ⟨b, j, none⟩ = cs[j]?) ∧ (W.alloc obj).cell? ⟨ba, o, none⟩ = some v ∧ b < (W.alloc obj).heap.size ∧ Grew w (W.alloc obj) :=
  act_held (hA.alloc obj) ((((Grew.refl W).alloc obj).below.cell (p := ⟨ba, o, none⟩) (Nat.lt_of_lt_of_le hba hG.below.size)).trans hk) (hG.alloc obj)
theorem act_held_store {w W : World} {b ba o g : Nat} {v : Value} {d : Dql} {cs : Array Value} (hA : At W b cs) (hk : W.cell? ⟨ba, o, none⟩ = some v) (hba : ba < w.heap.size) (hG : Grew w W) (hne : b ≠ g) (hg : w.heap.size ≤ g) :
    (∀ j : Nat, (storeD W g d).cell? ⟨b, j, none⟩ = cs[j]?) ∧ (storeD W g d).cell? ⟨ba, o, none⟩ = some v ∧ b < (storeD W g d).heap.size ∧ Grew w (storeD W g d) :=
  act_held (hA.farStore g d hne) (by
    have h2 : Below w.heap.size W (storeD W g d) := by
      have := Below.refl w.heap.size W
      repeat (with_reducible first | exact this | refine Below.setCell ?_ ?_ _ | exact hg)
    exact (h2.cell (p := ⟨ba, o, none⟩) hba).trans hk) (hG.store g d hg)
theorem act_held_drew {w W : World} {b ba o : Nat} {v : Value} {cs : Array Value} (hA : At W b cs) (hk : W.cell? ⟨ba, o, none⟩ = some v) (hG : Grew w W) :
    (∀ j : Nat, W.drew.cell? ⟨b, j, none⟩ = cs[j]?) ∧ W.drew.cell? ⟨ba, o, none⟩ = some v ∧ b < W.drew.heap.size ∧ Grew w W.drew := ⟨hA.drew.cell, hk, hA.lt, hG.drew⟩
theorem act_held_drew_alloc {w W : World} {b ba o : Nat} {v : Value} {cs : Array Value} (hA : At W b cs) (hk : W.cell? ⟨ba, o, none⟩ = some v) (hba : ba < w.heap.size) (hG : Grew w W) (obj : Obj) :
    (∀ j : Nat, (W.alloc obj).drew.cell? ⟨b, j, none⟩ = cs[j]?) ∧ (W.alloc obj).drew.cell? ⟨ba, o, none⟩ = some v ∧ b < (W.alloc obj).drew.heap.size ∧ Grew w (W.alloc obj).drew :=
  act_held_alloc hA.drew hk hba hG.drew obj
theorem act_after1 {w W : World} {b ba o : Nat} {v : Value} {cs : Array Value} (hA : At W b cs) (hk : W.cell? ⟨ba, o, none⟩ = some v) (hba : ba < w.heap.size) (hG : Grew w W) (q : Dql) :
    At (W.alloc (.cells q.cells 26)) b cs ∧ (W.alloc (.cells q.cells 26)).cell? ⟨ba, o, none⟩ = some v ∧ Grew w (W.alloc (.cells q.cells 26)) ∧ At (W.alloc (.cells q.cells 26)) W.heap.size q.cells ∧ b ≠ W.heap.size :=
  ⟨hA.alloc _, (((Grew.refl W).alloc _).below.cell (p := ⟨ba, o, none⟩) (Nat.lt_of_lt_of_le hba hG.below.size)).trans hk, hG.alloc _, at_alloc W q.cells, by have := hA.lt; omega⟩
theorem act_after2 {w W : World} {b ba o g : Nat} {v : Value} {cs : Array Value} {z : Dql} (hA : At W b cs) (hk : W.cell? ⟨ba, o, none⟩ = some v) (hba : ba < w.heap.size) (hG : Grew w W) (hz : At W g z.cells) (hne : b ≠ g) (hg : w.heap.size ≤ g) (q : Dql) :
    At (storeD W g q) b cs ∧ (storeD W g q).cell? ⟨ba, o, none⟩ = some v ∧ Grew w (storeD W g q) ∧ At (storeD W g q) g q.cells ∧ b ≠ g :=
  ⟨hA.farStore g q hne, (act_held_store (d := q) hA hk hba hG hne hg).2.1, hG.store g q hg, hz.store q, hne⟩
theorem bounds_walk (least most hold : Int) (A : Option Addr) (n c : Nat) (f : Nat → Act3) (w : World) (ha : IsActs w A n f) : Calls Try.prog 6 #[.int .u32 least, .int .u32 most, .int .u64 hold, .slice A n c] w fun e w' => e = .returned (.bool true) ∧ Grew w w' := by
  obtain ⟨hn, hacts⟩ := ha
  have HACT := Lib.hid hacts
  clear hacts
  cases h : rises [1, least, most, 1073741824]
  · have HR := Lib.hid h
    clear h
    go_enter Try.func6, Try.ntmps6
    go_wp2_with fail
    refine (shown_c _).mono ?_
    rintro e w1 ⟨rfl, hb1⟩
    have HG1 := Lib.hid hb1
    clear hb1
    go_wp2_with fail
    refine (new_no _ _ _ _ _ HR.out).mono ?_
    rintro e w2 ⟨rfl, hb2⟩
    have HG2 := Lib.hid (HG1.out.trans hb2)
    clear hb2
    go_wp2_with fail
    go_ret
    exact ⟨rfl, HG2.out.alloc _⟩
  · have hr : right (newS least most hold 0) = true := right_new h
    have HRR := Lib.hid hr
    have HR := Lib.hid h
    clear h hr
    go_enter Try.func6, Try.ntmps6
    go_wp2_with fail
    refine (shown_c _).mono ?_
    rintro e w1 ⟨rfl, hb1⟩
    have HG1 := Lib.hid hb1
    clear hb1
    go_wp2_with fail
    refine (new_yes _ _ _ _ _ HR.out).mono ?_
    rintro e w2 ⟨rfl, hb2⟩
    have HG2 := Lib.hid (HG1.out.trans hb2)
    have hle : w.heap.size ≤ w2.heap.size := HG2.out.below.size
    clear hb2 HG1
    go_wp2_with fail
    obtain ⟨bD, hbD⟩ : ∃ bD, w2.heap.size = bD := ⟨_, rfl⟩
    obtain ⟨w3, hw3⟩ : ∃ w3, w2.alloc (.cells (newS least most hold 0).cells 26) = w3 := ⟨_, rfl⟩
    have hA3 : At w3 bD (newS least most hold 0).cells := by rw [← hw3, ← hbD]; exact at_alloc _ _
    have hG3 : Grew w w3 := by rw [← hw3]; exact HG2.out.alloc _
    rw [hw3, hbD]
    rw [hbD] at hle
    have HA3 := Lib.hid hA3
    have HG3 := Lib.hid hG3
    clear hw3 hbD HG2 hA3 hG3
    go_loopw [12, 13, 14, 15] (fun now great bound i wr => ∃ (k : Nat) (nw gr bd : Int) (d : Dql), i = .int .i64 k ∧ now = .int .u64 nw ∧ great = .int .u32 gr ∧ bound = .int .u32 bd ∧ right d = true ∧ flight d ≤ bd ∧ At wr bD d.cells ∧ Grew w wr) (fun _ _ _ i _ => 80 - (intOf i).toNat)
    case atStart => exact ⟨0, 0, 0, 0, newS least most hold 0, rfl, rfl, rfl, rfl, HRR.out, by rw [flight_new]; omega, HA3.out, HG3.out⟩
    case round =>
      obtain ⟨k, nw, gr, bd, d, rfl, rfl, rfl, rfl, hrd, hfb, hA, hG⟩ := hrel
      clear HA3 HG3 HRR HR
      have HRD := Lib.hid hrd
      have HFB := Lib.hid hfb
      have HA := Lib.hid hA
      have HG := Lib.hid hG
      have hc := hA.cell
      have hf := hA.free
      have hlt := hA.lt
      clear hrd hfb hA hG
      by_cases hk1 : k < n
      · by_cases hk2 : k < 80
        · rcases HACT.out with h0 | ⟨b, off, rfl, hcells⟩
          · omega
          obtain ⟨c0, c1, c2, hbw⟩ := acts_at hcells HG.out hk1
          obtain ⟨_, _, _, hD, hN, hT⟩ := hcells k hk1
          clear hcells
          obtain ⟨aD, hE⟩ : ∃ x, (f k).Do = x := ⟨_, rfl⟩
          rw [hE] at c0 hD
          clear hE
          obtain ⟨aN, hE⟩ : ∃ x, (f k).N = x := ⟨_, rfl⟩
          rw [hE] at c1 hN
          clear hE
          obtain ⟨aT, hE⟩ : ∃ x, (f k).Ticks = x := ⟨_, rfl⟩
          rw [hE] at c2 hT
          clear hE
          cases hdo : (aD.tmod 2 == 0)
          · have hk1' := hk1
            have hk1 := c1
            have hg4 := HG.out
            go_wp2_with fail
            clear c0 c2
            obtain ⟨tn, htn⟩ : ∃ tn, IntKind.u64.wrap (nw + aT % 1000) = tn := ⟨_, rfl⟩
            rw [htn]
            clear htn
            obtain ⟨q, eq, hq⟩ : ∃ q eq, completeS d aN tn = (q, eq) := ⟨_, _, rfl⟩
            have hqc : ∀ W, Calls Try.prog 22 #[d.val, .int .u32 aN, .int .u64 tn] W fun e w' => e = .returned (pairV q eq) ∧ Grew W w' := fun W => complete_to d q aN tn eq W hq
            have HQ := Lib.hid hq
            clear hq
            go_region_held3 (fun w' => (∀ j : Nat, w'.cell? ⟨bD, j, none⟩ = d.cells[j]?) ∧ w'.cell? ⟨b, off + k * 3 + 1, none⟩ = some (.int .u32 aN) ∧ bD < w'.heap.size ∧ Grew w w')
              (with_reducible first | (exact act_held_drew HA.out hk1 hg4) | (exact act_held hzA hzk hzG) | (exact act_held_alloc hzA hzk hbw hzG _) | (exact act_held_store hzA hzk hbw hzG hnne hg4.below.size) | (exact act_held_drew_alloc HA.out hk1 hbw hg4 _))
              ((first | (go_at_call 22; refine (hqc _).mono ?_; rintro e w' ⟨rfl, hb⟩; (first | (have hz := act_world1 HA.out hk1 hbw hg4 hb; obtain ⟨hzA, hzk, hzG⟩ := hz) | (have hz := act_world2 HA.out hk1 hbw hg4 hb; obtain ⟨hzA, hzk, hzG, hnA, hnne⟩ := hz; have hnc := hnA.cell; have hnf := hnA.free)))))
            all_goals
              first
                | (have hz2 := act_after2 (z := Dql.zero) hzA hzk hbw hzG hnA hnne hg4.below.size q; obtain ⟨wv, hwv⟩ : ∃ wv, storeD w' wr.heap.size q = wv := ⟨_, rfl⟩; obtain ⟨gN, hgN⟩ : ∃ gN, wr.heap.size = gN := ⟨_, rfl⟩; rw [hwv] at hz2; simp only [storeD] at hwv; rw [hwv]; rw [hgN] at hz2 ⊢; clear hwv hgN hzA hzk hzG HA HG hc hlt hf hk1 hg4 hnA hnne)
                | (have hz2 := act_after1 hzA hzk hbw hzG q; obtain ⟨wv, hwv⟩ : ∃ wv, w'.alloc (.cells q.cells 26) = wv := ⟨_, rfl⟩; obtain ⟨gN, hgN⟩ : ∃ gN, w'.heap.size = gN := ⟨_, rfl⟩; rw [hwv, hgN] at hz2 ⊢; clear hwv hgN hzA hzk hzG HA HG hc hlt hf hk1 hg4)
              obtain ⟨hB, hk3, hG2, hR, hne2⟩ := hz2
              have hcB := hB.cell
              have hfB := hB.free
              have hcR := hR.cell
              have HB := Lib.hid hB
              have HG := Lib.hid hG2
              clear hB hG2 hR
              cases he : (eq == 0)
              · have hx : decide (bd < flight d) = false := by have := HFB.out; simp; omega
                have HRN := HRD
                have HFN := HFB
                go_wp2_with fail
                refine (flight_c d _).mono ?_
                rintro e w6 ⟨rfl, hb6⟩
                have hA6 := HB.out.grew hb6
                have hG6 := HG.out.trans hb6
                clear hb6
                go_wp2_with fail
                refine ⟨⟨k + 1, _, _, _, _, by go_num, rfl, rfl, rfl, HRN.out, HFN.out, hA6, hG6⟩, ?_⟩
                simp [intOf]
                omega
              · have e0 : eq = 0 := by simpa using he
                subst e0
                have HRN := Lib.hid (complete_right hN.1 HQ.out)
                have hfl : flight q ≤ bd := by
                  have := HFB.out
                  rw [complete_flight hN.1 HQ.out]
                  omega
                have hx : decide (bd < flight q) = false := decide_eq_false (Int.not_lt.2 hfl)
                have HFN := Lib.hid hfl
                clear HACT hk3 HQ hfl hdo hqc hD hN hT hn
                go_wp2_with fail
                have hB := HB.out.store q
                have hG := HG.out.store bD q hle
                obtain ⟨wx, hwx⟩ : ∃ wx, storeD wv bD q = wx := ⟨_, rfl⟩
                rw [hwx] at hB hG
                simp only [storeD] at hwx
                rw [hwx]
                clear HB HG hcB hfB hcR hwx
                have HB := Lib.hid hB
                have HG := Lib.hid hG
                clear hB hG
                refine (flight_c q _).mono ?_
                rintro e w6 ⟨rfl, hb6⟩
                have hA6 := HB.out.grew hb6
                have hG6 := HG.out.trans hb6
                clear hb6
                go_wp2_with fail
                refine ⟨⟨k + 1, _, _, _, _, by go_num, rfl, rfl, rfl, HRN.out, HFN.out, hA6, hG6⟩, ?_⟩
                simp [intOf]
                omega
          · go_wp2_with fail
            refine (left_c d _).mono ?_
            rintro e w4 ⟨rfl, hb4⟩
            have hA4 := HA.out.grew hb4
            have hG4 := HG.out.trans hb4
            have hk1 := (hb4.below.cell (p := ⟨b, off + k * 3 + 1, none⟩) (Nat.lt_of_lt_of_le hbw HG.out.below.size)).trans c1
            have HA := Lib.hid hA4
            have HG := Lib.hid hG4
            clear c0 c1 c2 hc hf hlt hb4
            have hc := hA4.cell
            have hlt := hA4.lt
            have hf := hA4.free
            clear hA4 hG4
            cases hl : decide (left d ≤ 0)
            · go_wp2_with fail
              obtain ⟨q, eq, hq⟩ : ∃ q eq, queueS d aN = (q, eq) := ⟨_, _, rfl⟩
              have hqc : ∀ W, Calls Try.prog 20 #[d.val, .int .u32 aN] W fun e w' => e = .returned (pairV q eq) ∧ Grew W w' := fun W => by
                have := queue_c d aN W
                rw [hq] at this
                exact this
              have HQ := Lib.hid hq
              clear hq
              have hg4 := HG.out
              go_region_held3 (fun w' => (∀ j : Nat, w'.cell? ⟨bD, j, none⟩ = d.cells[j]?) ∧ w'.cell? ⟨b, off + k * 3 + 1, none⟩ = some (.int .u32 aN) ∧ bD < w'.heap.size ∧ Grew w w')
                (with_reducible first | (exact act_held_drew HA.out hk1 hg4) | (exact act_held hzA hzk hzG) | (exact act_held_alloc hzA hzk hbw hzG _) | (exact act_held_store hzA hzk hbw hzG hnne hg4.below.size) | (exact act_held_drew_alloc HA.out hk1 hbw hg4 _))
                ((first | (go_at_call 20; refine (hqc _).mono ?_; rintro e w' ⟨rfl, hb⟩; (first | (have hz := act_world1 HA.out hk1 hbw hg4 hb; obtain ⟨hzA, hzk, hzG⟩ := hz) | (have hz := act_world2 HA.out hk1 hbw hg4 hb; obtain ⟨hzA, hzk, hzG, hnA, hnne⟩ := hz; have hnc := hnA.cell; have hnf := hnA.free)))))
              all_goals
                first
                  | (have hz2 := act_after2 (z := Dql.zero) hzA hzk hbw hzG hnA hnne hg4.below.size q; obtain ⟨wv, hwv⟩ : ∃ wv, storeD w' w4.heap.size q = wv := ⟨_, rfl⟩; obtain ⟨gN, hgN⟩ : ∃ gN, w4.heap.size = gN := ⟨_, rfl⟩; rw [hwv] at hz2; simp only [storeD] at hwv; rw [hwv]; rw [hgN] at hz2 ⊢; clear hwv hgN hzA hzk hzG HA HG hc hlt hf hk1 hg4 hnA hnne)
                  | (have hz2 := act_after1 hzA hzk hbw hzG q; obtain ⟨wv, hwv⟩ : ∃ wv, w'.alloc (.cells q.cells 26) = wv := ⟨_, rfl⟩; obtain ⟨gN, hgN⟩ : ∃ gN, w'.heap.size = gN := ⟨_, rfl⟩; rw [hwv, hgN] at hz2 ⊢; clear hwv hgN hzA hzk hzG HA HG hc hlt hf hk1 hg4)
                obtain ⟨hB, hk3, hG2, hR, hne2⟩ := hz2
                have hcB := hB.cell
                have hfB := hB.free
                have hcR := hR.cell
                have HB := Lib.hid hB
                have HG := Lib.hid hG2
                clear hB hG2 hR
                cases he : (eq == 0)
                · have hx : decide (bd < flight d) = false := by have := HFB.out; simp; omega
                  have HRN := HRD
                  have HFN := HFB
                  go_wp2_with fail
                  refine (flight_c d _).mono ?_
                  rintro e w6 ⟨rfl, hb6⟩
                  have hA6 := HB.out.grew hb6
                  have hG6 := HG.out.trans hb6
                  clear hb6
                  go_wp2_with fail
                  refine ⟨⟨k + 1, _, _, _, _, by go_num, rfl, rfl, rfl, HRN.out, HFN.out, hA6, hG6⟩, ?_⟩
                  simp [intOf]
                  omega
                · have e0 : eq = 0 := by simpa using he
                  subst e0
                  have HRN := Lib.hid (queue_right HQ.out)
                  have hfl : flight q ≤ (d.Limit + aN - 1) % 4294967296 := by
                    obtain ⟨_, h1, h2, h3, _⟩ := queue_ok HQ.out
                    have h5 := (left_pos HRD.out).1 (by simpa using hl)
                    have h6 := (right_iff d).1 HRD.out
                    rw [queue_flight HQ.out]
                    omega
                  have hx : decide ((d.Limit + aN - 1) % 4294967296 < flight q) = false := decide_eq_false (Int.not_lt.2 hfl)
                  have HFN := Lib.hid hfl
                  clear hfl
                  go_wp2_with fail
                  go_quiet (fail)
                  clear HACT hk3 HQ hl he hdo hqc hD hN hT hn
                  go_wp2_with fail
                  have hB := HB.out.store q
                  have hG := HG.out.store bD q hle
                  obtain ⟨wx, hwx⟩ : ∃ wx, storeD wv bD q = wx := ⟨_, rfl⟩
                  rw [hwx] at hB hG
                  simp only [storeD] at hwx
                  rw [hwx]
                  clear HB HG hcB hfB hcR hwx
                  have HB := Lib.hid hB
                  have HG := Lib.hid hG
                  clear hB hG
                  refine (flight_c q _).mono ?_
                  rintro e w6 ⟨rfl, hb7⟩
                  have hb6 : Grew wx w6 := ((Grew.refl wx).drewN _).trans hb7
                  have hB6 := HB.out.grew hb6
                  have hG6 := HG.out.trans hb6
                  clear hb7 hb6 HB HG
                  have HB := Lib.hid hB6
                  have HG := Lib.hid hG6
                  have hcB := hB6.cell
                  clear hB6 hG6
                  go_wp2_with fail
                  refine (flight_c q _).mono ?_
                  rintro e w8 ⟨rfl, hb6⟩
                  clear hcB
                  have hA6 := HB.out.grew hb6
                  have hG6 := HG.out.trans hb6
                  clear hb6
                  go_wp2_with fail
                  refine ⟨⟨k + 1, _, _, _, _, by go_num, rfl, rfl, rfl, HRN.out, HFN.out, hA6, hG6⟩, ?_⟩
                  simp [intOf]
                  omega
            · go_wp2_with fail
              refine ⟨⟨k + 1, _, _, _, _, by go_num, rfl, rfl, rfl, HRD.out, HFB.out, HA.out, HG.out⟩, ?_⟩
              simp [intOf]
              omega
        · go_wp2_with fail
          go_ret
          exact ⟨rfl, HG.out⟩
      · go_wp2_with fail
        go_ret
        exact ⟨rfl, HG.out⟩
end Go.Proofs.Ythopimfpiimloaa
