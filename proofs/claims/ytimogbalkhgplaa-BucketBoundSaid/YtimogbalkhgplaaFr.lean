/- BucketFree: the walk. -/
import Derived.Test.YtimogbalkhgplaaO
namespace Go.Proofs.Ytimogbalkhgplaa
open Go.RowKit Go.Shelf
set_option linter.unusedSimpArgs false
set_option maxHeartbeats 1000000
attribute [local go_sem] alloc_drewN setCell_drewN
attribute [local go_sem high] eqB
theorem take_to (d r : Bkt) (n : Int) (b : Bool) (e : Int) (w : World) (h : takeS d n = (r, b, e)) : Calls Try.prog 15 #[d.val, .int .i64 n] w fun x w' => x = .returned (tripV r b e) ∧ Grew w w' := by
  have := take_c d n w
  rw [h] at this
  exact this
theorem free_walk (d : Bkt) (n : Int) (hn : -9223372036854775808 ≤ n ∧ n ≤ 9223372036854775807) (w : World) : Calls Try.prog 5 #[d.val, .int .i64 n] w fun e w' => e = .returned (.bool true) ∧ Grew w w' := by
  cases h1 : right d
  · have q1 : takeS d n = (Bkt.zero, false, 2) := by simp [takeS, h1]
    have Q1 := Lib.hid q1
    clear q1 hn
    go_enter Try.func5, Try.ntmps5
    go_wp2_with fail
    refine (shown_c _).mono ?_
    rintro e w1 ⟨rfl, hb1⟩
    have hA1 := (at_alloc w d.cells).grew hb1
    have HG := Lib.hid (((Grew.refl w).alloc _).trans hb1)
    have hc := hA1.cell
    have hlt := hA1.lt
    have HA := Lib.hid hA1
    clear hA1 hb1
    go_wp2_with fail
    refine (take_to d _ _ _ _ _ Q1.out).mono ?_
    rintro e w2 ⟨rfl, hb2⟩
    have hA2 := HA.out.grew hb2
    have HG2 := Lib.hid (HG.out.trans hb2)
    clear hc hlt HA hb2 HG
    have hc := hA2.cell
    have hlt := hA2.lt
    clear hA2
    go_wp2_with fail
    refine (right_c d _).mono ?_
    rintro e w3 ⟨rfl, hb3⟩
    have HG3 := Lib.hid ((HG2.out.alloc _).trans hb3)
    clear hc hlt hb3 HG2
    go_wp2_with fail
    go_ret
    exact ⟨rfl, HG3.out⟩
  · cases h2 : rises [1, n, 65535]
    · have q1 : takeS d n = (Bkt.zero, false, 2) := by simp [takeS, h1, h2]
      have hx : n < 1 ∨ (¬ n < 1 ∧ 65535 < n) := by
        have : ¬ rises [1, n, 65535] = true := by simp [h2]
        rw [rises_three_iff] at this
        omega
      have Q1 := Lib.hid q1
      clear q1 hn h2
      rcases hx with hx | ⟨hx, hy⟩
      all_goals
        go_enter Try.func5, Try.ntmps5
        go_wp2_with fail
        refine (shown_c _).mono ?_
        rintro e w1 ⟨rfl, hb1⟩
        have hA1 := (at_alloc w d.cells).grew hb1
        have HG := Lib.hid (((Grew.refl w).alloc _).trans hb1)
        have hc := hA1.cell
        have hlt := hA1.lt
        have HA := Lib.hid hA1
        clear hA1 hb1
        go_wp2_with fail
        refine (take_to d _ _ _ _ _ Q1.out).mono ?_
        rintro e w2 ⟨rfl, hb2⟩
        have hA2 := HA.out.grew hb2
        have HG2 := Lib.hid (HG.out.trans hb2)
        clear hc hlt HA hb2 HG
        have hc := hA2.cell
        have hlt := hA2.lt
        clear hA2
        go_wp2_with fail
        refine (right_c d _).mono ?_
        rintro e w3 ⟨rfl, hb3⟩
        have HG3 := Lib.hid ((HG2.out.alloc _).trans hb3)
        clear hc hlt hb3 HG2
        go_wp2_with fail
        go_ret
        exact ⟨rfl, HG3.out⟩
    have hr := (right_iff d).1 h1
    have hq := (rises_three_iff _ _ _).1 h2
    cases h3 : (d.Rate == 0)
    · have h3' : ¬ d.Rate = 0 := by simpa using h3
      cases h4 : decide (d.Level ≤ 0)
      · have h4' : ¬ d.Level ≤ 0 := of_decide_eq_false h4
        have q1 : takeS d n = ({ d with Level := d.Level - n }, true, 0) := by simp only [takeS, h1, h2, and_self, if_true, if_neg h3', if_neg h4']
        have Q1 := Lib.hid q1
        have hrc : right { d with Level := d.Level - n } = true := by rw [right_iff]; simp only; omega
        have b1 : -9223372036854775808 ≤ d.Level - n := by omega
        have b2 : d.Level - n ≤ 9223372036854775807 := by omega
        clear q1 hn h2 hr hq h3' h4'
        go_enter Try.func5, Try.ntmps5
        go_wp2_with fail
        refine (shown_c _).mono ?_
        rintro e w1 ⟨rfl, hb1⟩
        have hA1 := (at_alloc w d.cells).grew hb1
        have HG := Lib.hid (((Grew.refl w).alloc _).trans hb1)
        have hc := hA1.cell
        have hlt := hA1.lt
        have HA := Lib.hid hA1
        clear hA1 hb1
        go_wp2_with fail
        refine (take_to d _ _ _ _ _ Q1.out).mono ?_
        rintro e w2 ⟨rfl, hb2⟩
        have hA2 := HA.out.grew hb2
        have HG2 := Lib.hid (HG.out.trans hb2)
        clear hc hlt HA hb2 HG
        have hc := hA2.cell
        have hlt := hA2.lt
        clear hA2
        go_wp2_with fail
        refine (right_c { d with Level := d.Level - n } _).mono ?_
        rintro e w3 ⟨rfl, hb3⟩
        have HG3 := Lib.hid ((HG2.out.alloc _).trans hb3)
        clear hc hlt hb3 HG2
        go_wp2_with fail
        go_ret
        exact ⟨rfl, HG3.out⟩
      · have h4' : d.Level ≤ 0 := of_decide_eq_true h4
        have q1 : takeS d n = (d, false, 0) := by simp only [takeS, h1, h2, and_self, if_true, if_neg h3', if_pos h4']
        have Q1 := Lib.hid q1
        clear q1 hn h2 hr hq h3' h4'
        go_enter Try.func5, Try.ntmps5
        go_wp2_with fail
        refine (shown_c _).mono ?_
        rintro e w1 ⟨rfl, hb1⟩
        have hA1 := (at_alloc w d.cells).grew hb1
        have HG := Lib.hid (((Grew.refl w).alloc _).trans hb1)
        have hc := hA1.cell
        have hlt := hA1.lt
        have HA := Lib.hid hA1
        clear hA1 hb1
        go_wp2_with fail
        refine (take_to d _ _ _ _ _ Q1.out).mono ?_
        rintro e w2 ⟨rfl, hb2⟩
        have hA2 := HA.out.grew hb2
        have HG2 := Lib.hid (HG.out.trans hb2)
        clear hc hlt HA hb2 HG
        have hc := hA2.cell
        have hlt := hA2.lt
        clear hA2
        go_wp2_with fail
        go_ret
        exact ⟨rfl, HG2.out.alloc _⟩
    · have h3' : d.Rate = 0 := by simpa using h3
      have q1 : takeS d n = (d, true, 0) := by simp only [takeS, h1, h2, and_self, if_true, if_pos h3']
      have Q1 := Lib.hid q1
      clear q1 hn h2 hr hq h3'
      go_enter Try.func5, Try.ntmps5
      go_wp2_with fail
      refine (shown_c _).mono ?_
      rintro e w1 ⟨rfl, hb1⟩
      have hA1 := (at_alloc w d.cells).grew hb1
      have HG := Lib.hid (((Grew.refl w).alloc _).trans hb1)
      have hc := hA1.cell
      have hlt := hA1.lt
      have HA := Lib.hid hA1
      clear hA1 hb1
      go_wp2_with fail
      refine (take_to d _ _ _ _ _ Q1.out).mono ?_
      rintro e w2 ⟨rfl, hb2⟩
      have hA2 := HA.out.grew hb2
      have HG2 := Lib.hid (HG.out.trans hb2)
      clear hc hlt HA hb2 HG
      have hc := hA2.cell
      have hlt := hA2.lt
      clear hA2
      go_wp2_with fail
      go_ret
      exact ⟨rfl, HG2.out.alloc _⟩
end Go.Proofs.Ytimogbalkhgplaa
