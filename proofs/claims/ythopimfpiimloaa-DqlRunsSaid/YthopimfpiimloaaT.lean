/- DqlShifts: the walk. -/
import Derived.Test.YthopimfpiimloaaO
import Derived.Test.YthopimfpiimloaaQ
namespace Go.Proofs.Ythopimfpiimloaa
open Go.RowKit Go.Shelf
set_option linter.unusedSimpArgs false
set_option maxHeartbeats 1000000
attribute [local go_sem] alloc_drewN setCell_drewN
attribute [local go_sem high] eqD
theorem complete_to (d r : Dql) (n now e : Int) (w : World) (h : completeS d n now = (r, e)) : Calls Try.prog 22 #[d.val, .int .u32 n, .int .u64 now] w fun x w' => x = .returned (pairV r e) ∧ Grew w w' := by
  have := complete_c d n now w
  rw [h] at this
  exact this
theorem held_grew2 {w : World} {b g : Nat} {cs ds : Array Value} {W W' : World} (h : (∀ j : Nat, W.cell? ⟨b, j, none⟩ = cs[j]?) ∧ (∀ j : Nat, W.cell? ⟨g, j, none⟩ = ds[j]?) ∧ b < W.heap.size ∧ g < W.heap.size ∧ Grew w W) (k : Grew W W') :
    (∀ j : Nat, W'.cell? ⟨b, j, none⟩ = cs[j]?) ∧ (∀ j : Nat, W'.cell? ⟨g, j, none⟩ = ds[j]?) ∧ b < W'.heap.size ∧ g < W'.heap.size ∧ Grew w W' :=
  ⟨fun j => (k.below.cell (p := ⟨b, j, none⟩) h.2.2.1).trans (h.1 j), fun j => (k.below.cell (p := ⟨g, j, none⟩) h.2.2.2.1).trans (h.2.1 j), Nat.lt_of_lt_of_le h.2.2.1 k.below.size, Nat.lt_of_lt_of_le h.2.2.2.1 k.below.size, h.2.2.2.2.trans k⟩
theorem shifts_walk (d : Dql) (y n now : Int) (hd : d.Ok) (w : World) : Calls Try.prog 7 #[d.val, .int .u32 y, .int .u32 n, .int .u64 now] w fun e w' => e = .returned (.bool true) ∧ Grew w w' := by
  obtain ⟨r, er, hr⟩ : ∃ r er, completeS d n now = (r, er) := ⟨_, _, rfl⟩
  have hs := complete_shift d n now y hd
  rw [hr] at hs
  have HR := Lib.hid hr
  have HS := Lib.hid hs
  clear hr hs
  cases he : (er != 0)
  · have e0 : er = 0 := by simpa using he
    subst e0
    have h2 : completeS (shiftD d y) n now = (shiftD r y, 0) := by rw [HS.out]; rfl
    have H2 := Lib.hid h2
    clear h2 HS he
    go_enter Try.func7, Try.ntmps7
    go_wp2_with fail
    refine (shown_c _).mono ?_
    rintro e w1 ⟨rfl, hb1⟩
    have hA1 := (at_alloc w d.cells).grew hb1
    have HG1 := Lib.hid (((Grew.refl w).alloc _).trans hb1)
    clear hb1
    have hc := hA1.cell
    have hlt := hA1.lt
    have HA1 := Lib.hid hA1
    clear hA1
    go_wp2_with fail
    refine (complete_to d r _ _ 0 _ HR.out).mono ?_
    rintro e w2 ⟨rfl, hb2⟩
    have hC2 := (at_alloc w1 (shiftD d y).cells).grew hb2
    have HG2 := Lib.hid ((HG1.out.alloc _).trans hb2)
    clear hb2 hc hlt HA1 HG1
    obtain ⟨b1, hb⟩ : ∃ b, w1.heap.size = b := ⟨_, rfl⟩
    rw [hb] at hC2 ⊢
    clear hb
    have hc := hC2.cell
    have hlt := hC2.lt
    clear hC2
    go_wp2_with fail
    refine (complete_to (shiftD d y) (shiftD r y) _ _ 0 _ H2.out).mono ?_
    rintro e w3 ⟨rfl, hb3⟩
    have hA3 := (at_alloc w2 r.cells).grew hb3
    have HG3 := Lib.hid ((HG2.out.alloc _).trans hb3)
    have hle : w.heap.size ≤ w2.heap.size := HG2.out.below.size
    clear hb3 hc hlt HG2
    obtain ⟨b2, hb⟩ : ∃ b, w2.heap.size = b := ⟨_, rfl⟩
    rw [hb] at hA3 hle ⊢
    clear hb
    have hc := hA3.cell
    have hf := hA3.free
    have hlt := hA3.lt
    have HA3 := Lib.hid hA3
    clear hA3
    go_wp2_with fail
    obtain ⟨wv, hwv⟩ : ∃ wv, ((((w3.setCell ⟨b2, 0, none⟩ (.int .u32 ((r.Queued + y) % 4294967296))).setCell ⟨b2, 4, none⟩ (.int .u32 ((r.Completed + y) % 4294967296))).setCell ⟨b2, 7, none⟩ (.int .u32 ((r.PrevQueued + y) % 4294967296))).setCell ⟨b2, 1, none⟩ (.int .u32 ((r.Adj + y) % 4294967296))).alloc (.cells (shiftD r y).cells 26) = wv := ⟨_, rfl⟩
    have hs3 : (∀ j : Nat, wv.cell? ⟨b2, j, none⟩ = (shiftD r y).cells[j]?) ∧ (∀ j : Nat, wv.cell? ⟨w3.heap.size, j, none⟩ = (shiftD r y).cells[j]?) ∧ b2 < wv.heap.size ∧ w3.heap.size < wv.heap.size ∧ Grew w wv := by
      rw [← hwv]
      have k1 : At (((((w3.setCell ⟨b2, 0, none⟩ (.int .u32 ((r.Queued + y) % 4294967296))).setCell ⟨b2, 4, none⟩ (.int .u32 ((r.Completed + y) % 4294967296))).setCell ⟨b2, 7, none⟩ (.int .u32 ((r.PrevQueued + y) % 4294967296))).setCell ⟨b2, 1, none⟩ (.int .u32 ((r.Adj + y) % 4294967296))).alloc (.cells (shiftD r y).cells 26)) b2 (shiftD r y).cells :=
        ((((HA3.out.set 0 _).set 4 _).set 7 _).set 1 _).alloc _
      refine ⟨k1.cell, fun j => ?_, k1.lt, by simp, Grew.alloc ((((HG3.out.set ⟨b2, 0, none⟩ hle _).set ⟨b2, 4, none⟩ hle _).set ⟨b2, 7, none⟩ hle _).set ⟨b2, 1, none⟩ hle _) _⟩
      exact World.cell?_alloc_at _ _ _ _ (by simp)
    rw [hwv]
    clear hwv hc hf hlt HA3 HG3 hle H2 HR
    obtain ⟨hc, hc', hl, hl', HG⟩ := hs3
    obtain ⟨b3, hb⟩ : ∃ b, w3.heap.size = b := ⟨_, rfl⟩
    rw [hb] at hc' hl' ⊢
    clear hb
    go_region_held3 (fun w' => (∀ j : Nat, w'.cell? ⟨b2, j, none⟩ = (shiftD r y).cells[j]?) ∧ (∀ j : Nat, w'.cell? ⟨b3, j, none⟩ = (shiftD r y).cells[j]?) ∧ b2 < w'.heap.size ∧ b3 < w'.heap.size ∧ Grew w w')
      (first | (exact ⟨fun j => hc j, fun j => hc' j, hl, hl', Grew.drew HG⟩) | (exact held_grew2 (by assumption) hb))
      ((first | (go_at_call 15; refine (left_c (shiftD r y) _).mono ?_; rintro e w' ⟨rfl, hb⟩)))
    all_goals
      go_wp2_with fail
      go_ret
      exact ⟨rfl, And.right (And.right (And.right (And.right (by assumption))))⟩
  · have hn0 : ¬ er = 0 := by simpa using he
    have h2 : completeS (shiftD d y) n now = (r, er) := by rw [HS.out, if_neg hn0]
    have H2 := Lib.hid h2
    clear h2 HS hn0
    go_enter Try.func7, Try.ntmps7
    go_wp2_with fail
    refine (shown_c _).mono ?_
    rintro e w1 ⟨rfl, hb1⟩
    have hA1 := (at_alloc w d.cells).grew hb1
    have HG1 := Lib.hid (((Grew.refl w).alloc _).trans hb1)
    clear hb1
    have hc := hA1.cell
    have hlt := hA1.lt
    have HA1 := Lib.hid hA1
    clear hA1
    go_wp2_with fail
    refine (complete_to d r _ _ er _ HR.out).mono ?_
    rintro e w2 ⟨rfl, hb2⟩
    have hC2 := (at_alloc w1 (shiftD d y).cells).grew hb2
    have HG2 := Lib.hid ((HG1.out.alloc _).trans hb2)
    clear hb2 hc hlt HA1 HG1
    obtain ⟨b1, hb⟩ : ∃ b, w1.heap.size = b := ⟨_, rfl⟩
    rw [hb] at hC2 ⊢
    clear hb
    have hc := hC2.cell
    have hlt := hC2.lt
    clear hC2
    go_wp2_with fail
    refine (complete_to (shiftD d y) r _ _ er _ H2.out).mono ?_
    rintro e w3 ⟨rfl, hb3⟩
    have HG3 := Lib.hid ((HG2.out.alloc _).trans hb3)
    clear hb3 hc hlt HG2
    go_wp2_with fail
    go_ret
    exact ⟨rfl, HG3.out.alloc _⟩
end Go.Proofs.Ythopimfpiimloaa
