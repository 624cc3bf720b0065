/- BucketBound: the walk. -/
import Derived.Test.YtimogbalkhgplaaU
import Derived.Test.YtimogbalkhgplaaBp
import Derived.Test.YtimogbalkhgplaaFi
import Derived.Test.YtimogbalkhgplaaNw
import Derived.Deep.LoopGhost
import Derived.Deep.DeepCutAuto
import Derived.Deep.RegionHeld3
namespace Go.Proofs.Ytimogbalkhgplaa
open Go.RowKit Go.Shelf
set_option linter.unusedSimpArgs false
set_option maxHeartbeats 2000000
set_option maxRecDepth 100000
attribute [local go_sem] alloc_drewN setCell_drewN max2_mx min2_mn max_two min_two
theorem storeB_other {W : World} {g b : Nat} (q : Bkt) (o : Nat) (h : b ≠ g) : (storeB W g q).cell? ⟨b, o, none⟩ = W.cell? ⟨b, o, none⟩ := by
  refine World.cell?_of_block ?_
  simp only [storeB]
  rw [heap_setCell_other _ _ _ _ h, heap_setCell_other _ _ _ _ h, heap_setCell_other _ _ _ _ h, heap_setCell_other _ _ _ _ h, heap_setCell_other _ _ _ _ h]
/-- In a round: the bucket, an asking, and what lay. -/
structure BAt (w : World) (bD b o : Nat) (u v : Int) (d : Bkt) (W : World) : Prop where
  a : At W bD d.cells
  k1 : W.cell? ⟨b, o, none⟩ = some (.int .u64 u)
  k2 : W.cell? ⟨b, o + 1, none⟩ = some (.int .i64 v)
  g : Grew w W
theorem BAt.grew {w : World} {bD b o : Nat} {u v : Int} {d : Bkt} {W W' : World} (h : BAt w bD b o u v d W) (hb : b < w.heap.size) (k : Grew W W') : BAt w bD b o u v d W' :=
  ⟨h.a.grew k, (k.below.cell (p := ⟨b, o, none⟩) (Nat.lt_of_lt_of_le hb h.g.below.size)).trans h.k1, (k.below.cell (p := ⟨b, o + 1, none⟩) (Nat.lt_of_lt_of_le hb h.g.below.size)).trans h.k2, h.g.trans k⟩
theorem BAt.drew {w : World} {bD b o : Nat} {u v : Int} {d : Bkt} {W : World} (h : BAt w bD b o u v d W) : BAt w bD b o u v d W.drew := ⟨h.a, h.k1, h.k2, h.g.drew⟩
theorem BAt.alloc {w : World} {bD b o : Nat} {u v : Int} {d : Bkt} {W : World} (h : BAt w bD b o u v d W) (hb : b < w.heap.size) (ob : Obj) : BAt w bD b o u v d (W.alloc ob) := h.grew hb ((Grew.refl W).alloc ob)
theorem BAt.setX {w : World} {bD b o : Nat} {u v : Int} {d : Bkt} {W : World} (h : BAt w bD b o u v d W) (hb : b < w.heap.size) (g : Nat) (q : Bkt) (h1 : bD ≠ g) (h2 : w.heap.size ≤ g) : BAt w bD b o u v d (storeB W g q) :=
  ⟨h.a.farStore _ _ h1, (storeB_other q o (by omega)).trans h.k1, (storeB_other q (o + 1) (by omega)).trans h.k2, h.g.store _ _ h2⟩
theorem BAt.setD {w : World} {bD b o : Nat} {u v : Int} {d : Bkt} {W : World} (h : BAt w bD b o u v d W) (hb : b < w.heap.size) (q : Bkt) (h2 : w.heap.size ≤ bD) : BAt w bD b o u v q (storeB W bD q) :=
  ⟨h.a.store q, (storeB_other q o (by omega)).trans h.k1, (storeB_other q (o + 1) (by omega)).trans h.k2, h.g.store _ _ h2⟩
theorem BAt.held {w : World} {bD b o : Nat} {u v : Int} {d : Bkt} {W : World} (h : BAt w bD b o u v d W) : (∀ j : Nat, W.cell? ⟨bD, j, none⟩ = d.cells[j]?) ∧ W.cell? ⟨b, o, none⟩ = some (.int .u64 u) ∧ W.cell? ⟨b, o + 1, none⟩ = some (.int .i64 v) := ⟨h.a.cell, h.k1, h.k2⟩
theorem asks_at {w wr : World} {b off n : Nat} {f : Nat → Ask2} (h : ∀ i, i < n → w.cell? ⟨b, off + i * 2, none⟩ = some (.int .u64 (f i).Ns) ∧ w.cell? ⟨b, off + i * 2 + 1, none⟩ = some (.int .i64 (f i).N) ∧
    (0 ≤ (f i).Ns ∧ (f i).Ns ≤ 18446744073709551615) ∧ (-9223372036854775808 ≤ (f i).N ∧ (f i).N ≤ 9223372036854775807)) (hg : Grew w wr) {k : Nat} (hk : k < n) :
    wr.cell? ⟨b, off + k * 2, none⟩ = some (.int .u64 (f k).Ns) ∧ wr.cell? ⟨b, off + k * 2 + 1, none⟩ = some (.int .i64 (f k).N) ∧ b < w.heap.size := by
  obtain ⟨h0, h1, _⟩ := h k hk
  have hb : b < w.heap.size := World.block_lt_of_cell? w _ h0
  exact ⟨(hg.below.cell (p := ⟨b, _, none⟩) hb).trans h0, (hg.below.cell (p := ⟨b, _, none⟩) hb).trans h1, hb⟩
theorem new_ok {rate burst now : Int} (h1 : 0 ≤ rate ∧ rate ≤ 18446744073709551615) (h2 : -9223372036854775808 ≤ burst ∧ burst ≤ 9223372036854775807) (h3 : 0 ≤ now ∧ now ≤ 18446744073709551615) : (newB rate burst now).Ok := ⟨h1, h2, h2, by simp [newB], h3⟩
theorem ask_new {w4 w' : World} {Z : Array Value} (hb : Grew (w4.alloc (.cells Z 24)).drew w') : At w' w4.heap.size Z := At.grew (w := (w4.alloc (.cells Z 24)).drew) (at_alloc w4 Z).drew hb
theorem bound_walk (rate burst : Int) (h1 : 0 ≤ rate ∧ rate ≤ 18446744073709551615) (h2 : -9223372036854775808 ≤ burst ∧ burst ≤ 9223372036854775807) (A : Option Addr) (n c : Nat) (f : Nat → Ask2) (w : World) (ha : IsAsks w A n f) : Calls Try.prog 8 #[.int .u64 rate, .int .i64 burst, .slice A n c] w fun e w' => e = .returned (.bool true) ∧ Grew w w' := by
  obtain ⟨hn, hacts⟩ := ha
  have HACT := Lib.hid hacts
  clear hacts
  by_cases hgo : right (newB rate burst 0) = true ∧ 1 ≤ rate ∧ rate ≤ 1073741824
  · obtain ⟨hrn, hR1, hR2⟩ := hgo
    have q0 : newS rate burst 0 = (newB rate burst 0, 0) := by unfold newS; rw [if_pos hrn]
    have hi := inv_new hrn (new_ok h1 h2 (by omega))
    have hbr := (right_iff _).1 hrn
    simp only [newB] at hbr
    have HB1 : Hid (1 ≤ burst ∧ burst ≤ 1073741824) := by simp only [Hid]; omega
    have HI := Lib.hid hi
    have Q0 := Lib.hid q0
    have HR := Lib.hid (And.intro hR1 hR2)
    have hr1 : decide (rate < 1) = false := decide_eq_false (by omega)
    have hr2 : decide (1073741824 < rate) = false := decide_eq_false (by omega)
    clear h1 h2 hrn hi q0 hbr hR1 hR2
    go_enter Try.func8, Try.ntmps8
    go_wp2_with fail
    refine (shown_c _).mono ?_
    rintro e w1 ⟨rfl, hb1⟩
    have HG1 := Lib.hid hb1
    clear hb1
    go_wp2_with fail
    refine (new_to rate burst 0 _ _ _ Q0.out).mono ?_
    rintro e w2 ⟨rfl, hb2⟩
    have HG2 := Lib.hid (HG1.out.trans hb2)
    have hle : w.heap.size ≤ w2.heap.size := HG2.out.below.size
    clear hb2 HG1
    go_wp2_with fail
    obtain ⟨bD, hbD⟩ : ∃ bD, w2.heap.size = bD := ⟨_, rfl⟩
    obtain ⟨w3, hw3⟩ : ∃ w3, w2.alloc (.cells (newB rate burst 0).cells 24) = w3 := ⟨_, rfl⟩
    have hA3 : At w3 bD (newB rate burst 0).cells := by rw [← hw3, ← hbD]; exact at_alloc _ _
    have hG3 : Grew w w3 := by rw [← hw3]; exact HG2.out.alloc _
    rw [hw3, hbD]
    rw [hbD] at hle
    have HA3 := Lib.hid hA3
    have HG3 := Lib.hid hG3
    clear hw3 hbD HG2 hA3 hG3 Q0
    go_loopw [10, 11, 12] (fun tk gr i wr => ∃ (k : Nat) (t g : Int) (d : Bkt), i = .int .i64 k ∧ tk = .int .i64 t ∧ gr = .int .i64 g ∧ k ≤ 60 ∧ Inv rate burst k d t g ∧ At wr bD d.cells ∧ Grew w wr) (fun _ _ i _ => 60 - (intOf i).toNat)
    case atStart => exact ⟨0, 0, 0, _, rfl, rfl, rfl, by omega, HI.out, HA3.out, HG3.out⟩
    case round =>
      obtain ⟨k, tk, gr, d, rfl, rfl, rfl, hk60, hI, hA, hG⟩ := hrel
      clear HA3 HG3 HI
      have HI := Lib.hid hI
      have HA := Lib.hid hA
      have HG := Lib.hid hG
      have hc := hA.cell
      have hltA := hA.lt
      clear hI hA hG
      by_cases hk1 : k < n
      · by_cases hk2 : k < 60
        · rcases HACT.out with h0 | ⟨b, off, rfl, hcells⟩
          · omega
          obtain ⟨c0, c1, hbw⟩ := asks_at hcells HG.out hk1
          obtain ⟨_, _, hNs, hN⟩ := hcells k hk1
          clear hcells
          obtain ⟨aS, hE⟩ : ∃ x, (f k).Ns = x := ⟨_, rfl⟩
          rw [hE] at c0 hNs
          clear hE
          obtain ⟨aN, hE⟩ : ∃ x, (f k).N = x := ⟨_, rfl⟩
          rw [hE] at c1 hN
          clear hE
          have hk3 : decide ((k : Int) < 60) = true := by simp; omega
          obtain ⟨x, hx, hIx⟩ := inv_fill HI.out HR.out.1 hk2 (ns := aS % 1000000000) (by omega) (by omega)
          have hIt := HI.out.t
          have hok := HI.out.ok
          have hAt := hok.hAt
          obtain ⟨tn, htn⟩ : ∃ tn, d.At + aS % 1000000000 = tn := ⟨_, rfl⟩
          rw [htn] at hx
          have e1 : aS.tmod 1000000000 = aS % 1000000000 := Int.tmod_eq_emod_of_nonneg hNs.1
          have e2 : IntKind.u64.wrap (aS % 1000000000) = aS % 1000000000 := by rw [IntKind.wrap_u64]; omega
          have e3 : IntKind.u64.wrap (d.At + aS % 1000000000) = tn := by rw [IntKind.wrap_u64]; omega
          have hfc : ∀ W, Calls Try.prog 19 #[d.val, .int .u64 tn] W fun e w' => e = .returned (pairV x 0) ∧ Grew W w' := fun W => fill_to d x hok tn 0 (by omega) W hx
          obtain ⟨y, oky, ey, hy⟩ : ∃ y oky ey, takeS x aN = (y, oky, ey) := ⟨_, _, _, rfl⟩
          have htc : ∀ W, Calls Try.prog 15 #[x.val, .int .i64 aN] W fun e w' => e = .returned (tripV y oky ey) ∧ Grew W w' := fun W => take_to x y aN oky ey W hy
          have HIX := Lib.hid hIx
          have HTK := Lib.hid HI.out.k2
          have HY := Lib.hid hy
          have hW : BAt w bD b (off + k * 2) aS aN d wr := ⟨HA.out, c0, c1, HG.out⟩
          have HW := Lib.hid hW
          clear hx hIx hIt hok hAt htn hy hW hc hltA
          have hcA := HW.out.a.cell
          have hck := HW.out.k1
          have hltA := HW.out.a.lt
          have hne0 : bD ≠ wr.heap.size := by omega
          have hle0 : w.heap.size ≤ wr.heap.size := HG.out.below.size
          go_upto_region 10 with (fail)
          go_cut [13, 14] from 37 to 114 (fun v13 v14 wx => ∃ g, v13 = .pointer (some ⟨g, 0, none⟩) ∧ v14 = .int .i64 0 ∧ BAt w bD b (off + k * 2) aS aN d wx ∧ At wx g x.cells ∧ bD ≠ g)
          case first =>
            go_region_held3 (fun w' => (∀ j : Nat, w'.cell? ⟨bD, j, none⟩ = d.cells[j]?) ∧ w'.cell? ⟨b, off + k * 2, none⟩ = some (.int .u64 aS) ∧ w'.cell? ⟨b, off + k * 2 + 1, none⟩ = some (.int .i64 aN))
              (with_reducible first | (exact HW.out.drew.held) | (exact hz.held) | (exact (hz.alloc hbw _).held) | (exact (HW.out.alloc hbw _).drew.held) | (exact (HW.out.drew.alloc hbw _).held) | (exact (hz.setX hbw _ x hne0 hle0).held))
              ((first | (go_at_call 19; (with_reducible refine (hfc _).mono ?_); rintro e w' ⟨rfl, hb⟩; (with_reducible first | (have hz := HW.out.drew.grew hbw hb) | (have hz := (HW.out.alloc hbw _).drew.grew hbw hb; have hnA := ask_new hb; have hnc := hnA.cell; have hnf := hnA.free)))))
            all_goals go_wp2_with fail
            all_goals go_meet
            all_goals first
              | (refine ⟨w'.heap.size, rfl, rfl, ?_, ?_, ?_⟩; exact hz.alloc hbw _; exact at_alloc _ _; (have := hz.a.lt; omega))
              | (refine ⟨wr.heap.size, rfl, rfl, ?_, ?_, hne0⟩; exact hz.setX hbw _ x hne0 hle0; exact At.store (e := Bkt.zero) hnA x)
          case rest =>
            obtain ⟨g, rfl, rfl, hW, hX, hne⟩ := hcut
            clear HW hcA hck hltA hne0 hle0 HA HG e1 e2 e3 hfc
            have HW := Lib.hid hW
            have hcA := HW.out.a.cell
            have hfA := HW.out.a.free
            have hcX := hX.cell
            clear hW hX
            go_upto_region 14 with (fail)
            have hW2 := HW.out.setD hbw x hle
            obtain ⟨wz, hwz⟩ : ∃ wz, storeB wc bD x = wz := ⟨_, rfl⟩
            rw [hwz] at hW2
            simp only [storeB] at hwz
            rw [hwz]
            clear hwz HW hcA hfA hcX
            have HW := Lib.hid hW2
            have hcA := HW.out.a.cell
            have hck := HW.out.k2
            have hltA := HW.out.a.lt
            have hne0 : bD ≠ wz.heap.size := by omega
            have hle0 : w.heap.size ≤ wz.heap.size := HW.out.g.below.size
            clear hW2
            go_cut [15, 16, 17] from 37 to 114 (fun v15 v16 v17 wx => ∃ g, v15 = .pointer (some ⟨g, 0, none⟩) ∧ v16 = .bool oky ∧ v17 = .int .i64 ey ∧ BAt w bD b (off + k * 2) aS aN x wx ∧ At wx g y.cells ∧ bD ≠ g)
            case first =>
              go_region_held3 (fun w' => (∀ j : Nat, w'.cell? ⟨bD, j, none⟩ = x.cells[j]?) ∧ w'.cell? ⟨b, off + k * 2, none⟩ = some (.int .u64 aS) ∧ w'.cell? ⟨b, off + k * 2 + 1, none⟩ = some (.int .i64 aN))
                (with_reducible first | (exact HW.out.drew.held) | (exact hz.held) | (exact (hz.alloc hbw _).held) | (exact (HW.out.alloc hbw _).drew.held) | (exact (HW.out.drew.alloc hbw _).held) | (exact (hz.setX hbw _ y hne0 hle0).held))
                ((first | (go_at_call 15; (with_reducible refine (htc _).mono ?_); rintro e w' ⟨rfl, hb⟩; (with_reducible first | (have hz := HW.out.drew.grew hbw hb) | (have hz := (HW.out.alloc hbw _).drew.grew hbw hb; have hnA := ask_new hb; have hnc := hnA.cell; have hnf := hnA.free)))))
              all_goals go_wp2_with fail
              all_goals go_meet
              all_goals first
                | (refine ⟨w'.heap.size, rfl, rfl, rfl, ?_, ?_, ?_⟩; exact hz.alloc hbw _; exact at_alloc _ _; (have := hz.a.lt; omega))
                | (refine ⟨wz.heap.size, rfl, rfl, rfl, ?_, ?_, hne0⟩; exact hz.setX hbw _ y hne0 hle0; exact At.store (e := Bkt.zero) hnA y)
            case rest =>
              obtain ⟨g2, rfl, rfl, rfl, hW, hY2, hne2⟩ := hcut
              clear HW hcA hck hltA hne0 hle0 htc
              have HW := Lib.hid hW
              have hcA := HW.out.a.cell
              have hfA := HW.out.a.free
              have hck := HW.out.k2
              have hcY := hY2.cell
              clear hW hY2
              go_upto_region 15 with (fail)
              obtain ⟨z, hz⟩ : ∃ z, ((ey == 0) && oky) = z := ⟨_, rfl⟩
              go_cut [79] from 37 to 114 (fun v79 wx => v79 = .bool z ∧ wx = wc)
              case first =>
                cases he : (ey == 0) <;> cases oky
                all_goals go_wp2_with fail
                all_goals go_meet
                all_goals exact ⟨by rw [← hz]; simp [he], rfl⟩
              case rest =>
               obtain ⟨rfl, rfl⟩ := hcut
               have HZ := Lib.hid hz
               clear hz
               go_upto_if 79 with (fail)
               go_cut [10, 11] from 37 to 114 (fun v10 v11 wx => ∃ (d2 : Bkt) (t2 g3 : Int), v10 = .int .i64 t2 ∧ v11 = .int .i64 g3 ∧ Inv rate burst (k + 1) d2 t2 g3 ∧ At wx bD d2.cells ∧ Grew w wx)
               case first =>
                 cases z
                 · go_wp2_with fail
                   go_meet
                   exact ⟨x, tk, gr, rfl, rfl, HIX.out, HW.out.a, HW.out.g⟩
                 · have hzz := HZ.out
                   simp only [Bool.and_eq_true] at hzz
                   obtain ⟨he, ho⟩ := hzz
                   have e0 : ey = 0 := by simpa using he
                   clear HZ he
                   have HY2 : Hid (takeS x aN = (y, true, 0)) := by rw [Hid, HY.out, e0, ho]
                   clear e0 ho
                   have hIy := inv_take HIX.out HTK.out HR.out.1 HY2.out rfl
                   have b1 : -9223372036854775808 ≤ tk + aN := by have := hIy.k1; omega
                   have b2 : tk + aN ≤ 9223372036854775807 := by have := hIy.k2; omega
                   have HIY := Lib.hid hIy
                   clear hIy
                   go_wp2_with fail
                   have hB := HW.out.a.store y
                   have hG := HW.out.g.store bD y hle
                   obtain ⟨wx, hwx⟩ : ∃ wx, storeB wc bD y = wx := ⟨_, rfl⟩
                   rw [hwx] at hB hG
                   simp only [storeB] at hwx
                   rw [hwx]
                   clear hwx
                   go_meet
                   exact ⟨y, tk + aN, mx gr aN, rfl, rfl, HIY.out, hB, hG⟩
               case rest =>
                 obtain ⟨d2, t2, g3, rfl, rfl, hI2, hA2, hG2⟩ := hcut
                 clear HW hcA hfA hck hcY HIX HTK HY HI
                 have hcA := hA2.cell
                 have hbd := inv_bound hI2 HR.out.1
                 have hAt0 := hI2.ok.hAt.1
                 have hAt1 := hI2.t
                 have hg1 := hI2.g1
                 have hg2 := hI2.g2
                 have ht1 := hI2.k1
                 have ht2 := hI2.k2
                 have HI2 := Lib.hid hI2
                 have HA2 := Lib.hid hA2
                 have HG2 := Lib.hid hG2
                 clear hI2 hA2 hG2
                 unfold mostI at hbd
                 have hA3 : d2.At / 1000 ≤ 60000000 := by omega
                 have hA4 : 0 ≤ d2.At / 1000 := by omega
                 have hX0 : 0 ≤ rate * (d2.At / 1000) := Int.mul_nonneg (by have := HR.out.1; omega) hA4
                 have hX1 : rate * (d2.At / 1000) ≤ 1073741824 * 60000000 := Int.mul_le_mul HR.out.2 hA3 hA4 (by omega)
                 obtain ⟨X, hX⟩ : ∃ X, rate * (d2.At / 1000) = X := ⟨_, rfl⟩
                 rw [hX] at hbd hX0 hX1
                 have hX2 : X ≤ 64424509440000000 := by omega
                 have hAt2 : d2.At ≤ 60000000000 := by omega
                 have e1 : IntKind.u64.wrap (rate * (d2.At / 1000)) = X := by rw [IntKind.wrap_u64]; omega
                 have hb1 := HB1.out.1
                 have hb2 := HB1.out.2
                 have hr1' := HR.out.1
                 have hr2' := HR.out.2
                 have hcmp : decide (burst + (X + 999999) / 1000000 + rate / 1000000 + 1 + g3 < t2) = false := decide_eq_false (by omega)
                 clear hX hbd hA3 hA4 hX1 hAt1
                 go_wp2_with fail
                 refine ⟨⟨k + 1, t2, g3, d2, by go_num, rfl, rfl, by omega, HI2.out, HA2.out, HG2.out⟩, ?_⟩
                 simp [intOf]
                 omega
        · go_wp2_with fail
          go_ret
          exact ⟨rfl, HG.out⟩
      · go_wp2_with fail
        go_ret
        exact ⟨rfl, HG.out⟩
  · clear HACT hn
    cases hrn : right (newB rate burst 0)
    · have q0 : newS rate burst 0 = (Bkt.zero, 2) := by unfold newS; rw [hrn]; rfl
      have Q0 := Lib.hid q0
      clear q0 hgo h1 h2 hrn
      go_enter Try.func8, Try.ntmps8
      go_wp2_with fail
      refine (shown_c _).mono ?_
      rintro e w1 ⟨rfl, hb1⟩
      have HG1 := Lib.hid hb1
      clear hb1
      go_wp2_with fail
      refine (new_to rate burst 0 _ _ _ Q0.out).mono ?_
      rintro e w2 ⟨rfl, hb2⟩
      have HG2 := Lib.hid (HG1.out.trans hb2)
      clear hb2 HG1
      go_wp2_with fail
      go_ret
      exact ⟨rfl, HG2.out.alloc _⟩
    · have q0 : newS rate burst 0 = (newB rate burst 0, 0) := by unfold newS; rw [if_pos hrn]
      have Q0 := Lib.hid q0
      have hx : rate < 1 ∨ (¬ rate < 1 ∧ 1073741824 < rate) := by
        by_cases hh : rate < 1
        · exact .inl hh
        · refine .inr ⟨hh, ?_⟩
          by_cases h3 : rate ≤ 1073741824
          · exact absurd ⟨hrn, by omega, h3⟩ hgo
          · omega
      clear q0 hgo h1 h2 hrn
      rcases hx with hx | ⟨hx, hy⟩
      all_goals
        go_enter Try.func8, Try.ntmps8
        go_wp2_with fail
        refine (shown_c _).mono ?_
        rintro e w1 ⟨rfl, hb1⟩
        have HG1 := Lib.hid hb1
        clear hb1
        go_wp2_with fail
        refine (new_to rate burst 0 _ _ _ Q0.out).mono ?_
        rintro e w2 ⟨rfl, hb2⟩
        have HG2 := Lib.hid (HG1.out.trans hb2)
        clear hb2 HG1
        go_wp2_with fail
        go_ret
        exact ⟨rfl, HG2.out.alloc _⟩
end Go.Proofs.Ytimogbalkhgplaa
