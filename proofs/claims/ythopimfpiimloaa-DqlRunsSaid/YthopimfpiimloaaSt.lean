/- DqlStays: the walk. -/
import Derived.Test.YthopimfpiimloaaRs
import Derived.Test.YthopimfpiimloaaT
import Derived.Deep.RegionHeld3
namespace Go.Proofs.Ythopimfpiimloaa
open Go.RowKit Go.Shelf
set_option linter.unusedSimpArgs false
set_option maxHeartbeats 1000000
set_option maxRecDepth 100000
attribute [local go_sem] alloc_drewN setCell_drewN
theorem queue_to (d r : Dql) (n e : Int) (w : World) (h : queueS d n = (r, e)) : Calls Try.prog 20 #[d.val, .int .u32 n] w fun x w' => x = .returned (pairV r e) ∧ Grew w w' := by
  have := queue_c d n w
  rw [h] at this
  exact this
theorem reset_to (d r : Dql) (n e : Int) (w : World) (h : resetS d n = (r, e)) : Calls Try.prog 24 #[d.val, .int .u64 n] w fun x w' => x = .returned (pairV r e) ∧ Grew w w' := by
  have := reset_c d n w
  rw [h] at this
  exact this
theorem rreset_to (d r : Dql) (n e : Int) (w : World) (h : resetS d n = (r, e)) : Calls Try.prog 25 #[d.val, .int .u64 n] w fun x w' => x = .returned (pairV r e) ∧ Grew w w' := by
  have := rreset_c d n w
  rw [h] at this
  exact this
/-- Two blocks, as they lay, and nothing that lay turned. -/
theorem two_held {v W : World} {b g : Nat} {cs ds : Array Value} (hb : At v b cs) (hg : At v g ds) (h : Grew v W) :
    (∀ j : Nat, W.cell? ⟨b, j, none⟩ = cs[j]?) ∧ (∀ j : Nat, W.cell? ⟨g, j, none⟩ = ds[j]?) ∧ Grew v W := ⟨(hb.grew h).cell, (hg.grew h).cell, h⟩
theorem stays_walk (d : Dql) (n now : Int) (hn : 0 ≤ n) (w : World) : Calls Try.prog 10 #[d.val, .int .u32 n, .int .u64 now] w fun e w' => e = .returned (.bool true) ∧ Grew w w' := by
  cases h1 : right d
  · have q1 : queueS d n = (Dql.zero, 2) := by simp [queueS, h1]
    have q2 : completeS d n now = (Dql.zero, 2) := by simp [completeS, h1]
    have q3 : resetS d now = (Dql.zero, 2) := by simp [resetS, h1]
    have Q1 := Lib.hid q1
    have Q2 := Lib.hid q2
    have Q3 := Lib.hid q3
    clear q1 q2 q3
    go_enter Try.func10, Try.ntmps10
    go_wp2_with fail
    refine (shown_c _).mono ?_
    rintro e w1 ⟨rfl, hb1⟩
    have hA1 := (at_alloc w d.cells).grew hb1
    have HG := Lib.hid (((Grew.refl w).alloc _).trans hb1)
    have hc := hA1.cell
    have hlt := hA1.lt
    have HA := Lib.hid hA1
    clear hA1 hb1
    go_wp2_with fail
    refine (queue_to d _ _ _ _ Q1.out).mono ?_
    rintro e w2 ⟨rfl, hb2⟩
    have hA2 := HA.out.grew hb2
    have HG2 := Lib.hid (HG.out.trans hb2)
    clear hc hlt HA hb2 HG
    have hc := hA2.cell
    have hlt := hA2.lt
    have HA := Lib.hid hA2
    clear hA2
    go_wp2_with fail
    refine (complete_to d _ _ _ _ _ Q2.out).mono ?_
    rintro e w3 ⟨rfl, hb3⟩
    have hA3 := (HA.out.alloc _).grew hb3
    have HG3 := Lib.hid ((HG2.out.alloc _).trans hb3)
    clear hc hlt HA hb3 HG2
    have hc := hA3.cell
    have hlt := hA3.lt
    have HA := Lib.hid hA3
    clear hA3
    go_wp2_with fail
    refine (reset_to d _ _ _ _ Q3.out).mono ?_
    rintro e w4 ⟨rfl, hb4⟩
    have hA4 := (HA.out.alloc _).grew hb4
    have HG4 := Lib.hid ((HG3.out.alloc _).trans hb4)
    clear hc hlt HA hb4 HG3
    have hc := hA4.cell
    have hlt := hA4.lt
    clear hA4
    go_wp2_with fail
    refine (right_c d _).mono ?_
    rintro e w5 ⟨rfl, hb5⟩
    have HG5 := Lib.hid ((HG4.out.alloc _).trans hb5)
    clear hc hlt hb5 HG4
    go_wp2_with fail
    go_ret
    exact ⟨rfl, HG5.out⟩
  · obtain ⟨a, ea, qa⟩ : ∃ a ea, queueS d n = (a, ea) := ⟨_, _, rfl⟩
    obtain ⟨b, eb, qb⟩ : ∃ b eb, completeS d n now = (b, eb) := ⟨_, _, rfl⟩
    have q3 : resetS d now = (newS d.Min d.Max d.Hold now, 0) := by simp [resetS, h1]
    have hrc : right (newS d.Min d.Max d.Hold now) = true := right_new (right_rises h1)
    have hfc : flight (newS d.Min d.Max d.Hold now) = 0 := flight_new ..
    obtain ⟨c, hcc⟩ : ∃ c, newS d.Min d.Max d.Hold now = c := ⟨_, rfl⟩
    rw [hcc] at q3 hrc hfc
    have HRC := Lib.hid hrc
    have HFC := Lib.hid hfc
    have Q1 := Lib.hid qa
    have Q2 := Lib.hid qb
    have Q3 := Lib.hid q3
    have HRD := Lib.hid h1
    clear qa qb q3 hrc hfc hcc
    go_enter Try.func10, Try.ntmps10
    go_wp2_with fail
    refine (shown_c _).mono ?_
    rintro e w1 ⟨rfl, hb1⟩
    have hA1 := (at_alloc w d.cells).grew hb1
    have HG := Lib.hid (((Grew.refl w).alloc _).trans hb1)
    have hc := hA1.cell
    have hlt := hA1.lt
    have HA := Lib.hid hA1
    clear hA1 hb1
    go_wp2_with fail
    refine (queue_to d _ _ _ _ Q1.out).mono ?_
    rintro e w2 ⟨rfl, hb2⟩
    have hA2 := HA.out.grew hb2
    have HG2 := Lib.hid (HG.out.trans hb2)
    clear hc hlt HA hb2 HG
    have hc := hA2.cell
    have hlt := hA2.lt
    have HA := Lib.hid hA2
    clear hA2
    go_wp2_with fail
    refine (complete_to d _ _ _ _ _ Q2.out).mono ?_
    rintro e w3 ⟨rfl, hb3⟩
    have hA3 := (HA.out.alloc _).grew hb3
    have hB3 := (at_alloc w2 a.cells).grew hb3
    have HG3 := Lib.hid ((HG2.out.alloc _).trans hb3)
    obtain ⟨b1, hb1⟩ : ∃ b1, w2.heap.size = b1 := ⟨_, rfl⟩
    rw [hb1] at hB3 ⊢
    clear hc hlt HA hb3 HG2 hb1
    have hc := hA3.cell
    have hlt := hA3.lt
    have HA := Lib.hid hA3
    have HB := Lib.hid hB3
    clear hA3 hB3
    go_wp2_with fail
    refine (reset_to d _ _ _ _ Q3.out).mono ?_
    rintro e w4 ⟨rfl, hb4⟩
    have hA4 := (HA.out.alloc _).grew hb4
    have hB4 := (HB.out.alloc _).grew hb4
    have hC4 := (at_alloc w3 b.cells).grew hb4
    have HG4 := Lib.hid ((HG3.out.alloc _).trans hb4)
    obtain ⟨b2, hb2⟩ : ∃ b2, w3.heap.size = b2 := ⟨_, rfl⟩
    rw [hb2] at hC4 ⊢
    clear hc hlt HA HB hb4 HG3 hb2
    have hc := hA4.cell
    have hlt := hA4.lt
    have HA := Lib.hid hA4
    have HB := Lib.hid hB4
    have HC := Lib.hid hC4
    clear hA4 hB4 hC4
    go_wp2_with fail
    refine (right_c d _).mono ?_
    rintro e w5 ⟨rfl, hb5⟩
    have hA5 := (HA.out.alloc _).grew hb5
    have hB5 := (HB.out.alloc _).grew hb5
    have hC5 := (HC.out.alloc _).grew hb5
    have hD5 := (at_alloc w4 c.cells).grew hb5
    have HG5 := Lib.hid ((HG4.out.alloc _).trans hb5)
    obtain ⟨b3, hb3⟩ : ∃ b3, w4.heap.size = b3 := ⟨_, rfl⟩
    rw [hb3] at hD5 ⊢
    clear hc hlt HA HB HC hb5 HG4 hb3
    have HA := Lib.hid hA5
    have HB := Lib.hid hB5
    have HC := Lib.hid hC5
    have HD := Lib.hid hD5
    have hcd := hA5.cell
    have hca := hB5.cell
    clear hA5 hB5 hC5 hD5
    have HN := Lib.hid hn
    clear hn
    have hcut7 : True := trivial
    go_wp2_with fail
    go_cut [72] from 50 to 127 (fun v72 wx => v72 = .bool false ∧ Grew w5 wx)
    case first =>
      cases ha : (ea == 0)
      · go_quiet (fail)
        go_wp2_with fail
        go_meet
        exact ⟨rfl, (Grew.refl _).drewN _⟩
      · have e0 : ea = 0 := by simpa using ha
        subst e0
        have hra : right a = true := queue_right Q1.out
        have hx1 : (flight a != IntKind.u32.wrap (flight d + n)) = false := by
          have h3 := (right_iff a).1 hra
          have h4 := flight_range a
          have h5 := queue_flight Q1.out
          rw [IntKind.wrap_u32]
          simp
          have := HN.out
          omega
        have hx2 : (a.Limit != d.Limit) = false := by
          obtain ⟨_, _, _, _, rfl⟩ := queue_ok Q1.out
          simp
        go_region_held3 (fun w' => (∀ j : Nat, w'.cell? ⟨w.heap.size, j, none⟩ = d.cells[j]?) ∧ (∀ j : Nat, w'.cell? ⟨b1, j, none⟩ = a.cells[j]?) ∧ Grew w5 w')
          (with_reducible first | (exact two_held HA.out HB.out (Grew.refl w5).drew) | (exact two_held HA.out HB.out (Grew.trans (And.right (And.right (by assumption))) hb)))
          ((first | (go_at_call 14; (with_reducible refine (right_c a _).mono ?_); rintro e w' ⟨rfl, hb⟩) | (go_at_call 18; (with_reducible refine (flight_c a _).mono ?_); rintro e w' ⟨rfl, hb⟩) | (go_at_call 18; (with_reducible refine (flight_c d _).mono ?_); rintro e w' ⟨rfl, hb⟩)))
        all_goals go_wp2_with fail
        all_goals go_meet
        all_goals exact ⟨rfl, And.right (And.right (by assumption))⟩
    case rest =>
      obtain ⟨rfl, hG6⟩ := hcut
      have hA6 := HA.out.grew hG6
      have hB6 := HC.out.grew hG6
      have hD6 := HD.out.grew hG6
      have HG6 := Lib.hid (HG5.out.trans hG6)
      clear HA HB HC HD hcd hca hG6 HG5 Q1
      have HA := Lib.hid hA6
      have HB := Lib.hid hB6
      have HD := Lib.hid hD6
      have hcd := hA6.cell
      have hcb := hB6.cell
      clear hA6 hB6 hD6
      go_wp2_with fail
      go_cut [113] from 73 to 127 (fun v113 wx => v113 = .bool false ∧ Grew wc wx)
      case first =>
        cases ha : (eb == 0)
        · go_quiet (fail)
          go_wp2_with fail
          go_meet
          exact ⟨rfl, (Grew.refl _).drewN _⟩
        · have e0 : eb = 0 := by simpa using ha
          subst e0
          have hn := HN.out
          have hrb : right b = true := complete_right hn Q2.out
          have hx1 : (flight b != IntKind.u32.wrap (flight d - n)) = false := by
            have h3 := (right_iff b).1 hrb
            have h4 := flight_range b
            have h5 := complete_flight hn Q2.out
            rw [IntKind.wrap_u32]
            simp
            omega
          have hlim := complete_limits Q2.out
          have hx2 : decide (b.Limit < d.Min) = false := decide_eq_false (by omega)
          have hx3 : decide (d.Max < b.Limit) = false := decide_eq_false (by omega)
          have hx4 : (left b != IntKind.i32.wrap (IntKind.u32.wrap (b.Limit - flight b))) = false := by
            rw [left_flight hrb, IntKind.wrap_u32, Go.IntWalk.i32_left]
            simp
          clear hlim hn
          go_region_held3 (fun w' => (∀ j : Nat, w'.cell? ⟨w.heap.size, j, none⟩ = d.cells[j]?) ∧ (∀ j : Nat, w'.cell? ⟨b2, j, none⟩ = b.cells[j]?) ∧ Grew wc w')
            (with_reducible first | (exact two_held HA.out HB.out (Grew.refl wc).drew) | (exact two_held HA.out HB.out (Grew.trans (And.right (And.right (by assumption))) hb)))
            ((first | (go_at_call 14; (with_reducible refine (right_c b _).mono ?_); rintro e w' ⟨rfl, hb⟩) | (go_at_call 15; (with_reducible refine (left_c b _).mono ?_); rintro e w' ⟨rfl, hb⟩) | (go_at_call 18; (with_reducible refine (flight_c b _).mono ?_); rintro e w' ⟨rfl, hb⟩) | (go_at_call 18; (with_reducible refine (flight_c d _).mono ?_); rintro e w' ⟨rfl, hb⟩)))
          all_goals go_wp2_with fail
          all_goals go_meet
          all_goals exact ⟨rfl, And.right (And.right (by assumption))⟩
      case rest =>
        obtain ⟨rfl, hG7⟩ := hcut
        have hD7 := HD.out.grew hG7
        have HG7 := Lib.hid (HG6.out.trans hG7)
        have hrc : right c = true := HRC.out
        have hfc : flight c = 0 := HFC.out
        clear HA HB HD hcd hcb hG7 HG6 Q2
        have HD := Lib.hid hD7
        have hcc := hD7.cell
        clear hD7
        go_wp2_with fail
        refine (right_c c _).mono ?_
        rintro e w8 ⟨rfl, hb8⟩
        have hD8 := HD.out.grew hb8
        have HG8 := Lib.hid (HG7.out.trans hb8)
        clear hb8 hcc HD HG7
        have hcc := hD8.cell
        clear hD8
        go_wp2_with fail
        refine (flight_c c _).mono ?_
        rintro e w9 ⟨rfl, hb9⟩
        have HG9 := Lib.hid (HG8.out.trans hb9)
        clear hb9 hcc HG8
        go_wp2_with fail
        go_ret
        exact ⟨rfl, HG9.out⟩
end Go.Proofs.Ythopimfpiimloaa
