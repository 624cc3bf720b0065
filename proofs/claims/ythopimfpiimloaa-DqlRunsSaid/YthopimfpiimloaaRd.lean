/- Contract of the reference: Complete. -/
import Derived.Test.YthopimfpiimloaaRc
import Derived.Test.YthopimfpiimloaaL
import Derived.Deep.DeepCutAuto
namespace Go.Proofs.Ythopimfpiimloaa
open Go.RowKit Go.Shelf
set_option linter.unusedSimpArgs false
set_option maxHeartbeats 1000000
set_option maxRecDepth 100000
attribute [local go_sem] alloc_drewN setCell_drewN max2_mx min2_mn max_two min_two
def rgB (ov p po : Int) (al : Bool) : Bool := (decide (0 < ov) && (p == 0)) || (decide (0 < po) && !al)
def rsB (p q : Int) (al : Bool) : Bool := (p != 0) && (q != 0) && al
theorem rgB_eq (d : Dql) (n now : Int) (h : d.Ok) : growsB d (chgOf d n now) = rgB (over ((d.Queued - d.Completed) % 4294967296) d.Limit) (far ((d.Completed + n) % 4294967296) d.Queued) d.PrevOver (ahead ((d.Completed + n) % 4294967296) d.PrevQueued) := by
  have h1 := h.hQueued
  have h2 := h.hPrevOver
  have e1 : ((d.Completed + n) % 4294967296 == d.Queued) = (far ((d.Completed + n) % 4294967296) d.Queued == 0) := by rw [Bool.eq_iff_iff]; simp only [beq_iff_eq, far]; omega
  have e2 : (!(d.PrevOver == 0)) = decide (0 < d.PrevOver) := by rw [Bool.eq_iff_iff]; simp; omega
  simp only [rgB, growsB, chgOf, flight, e1, e2]
  rfl
theorem rsB_eq (d : Dql) (n now : Int) (h : d.Ok) : shrinksB d (chgOf d n now) = rsB (far ((d.Completed + n) % 4294967296) d.Queued) ((d.PrevQueued - d.Completed) % 4294967296) (ahead ((d.Completed + n) % 4294967296) d.PrevQueued) := by
  have h1 := h.hQueued
  have h2 := h.hPrevQueued
  have h3 := h.hCompleted
  have e1 : (!((d.Completed + n) % 4294967296 == d.Queued)) = (far ((d.Completed + n) % 4294967296) d.Queued != 0) := by rw [Bool.eq_iff_iff]; simp [far]; omega
  have e2 : (!(d.PrevQueued == d.Completed)) = ((d.PrevQueued - d.Completed) % 4294967296 != 0) := by rw [Bool.eq_iff_iff]; simp; omega
  simp only [rsB, shrinksB, chgOf, e1, e2, Bool.not_not]
theorem rover_q (a b : Int) (w : World) : Calls Try.prog 33 #[.int .u32 a, .int .u32 b] w fun e w' => e = .returned (.int .u32 (over a b)) ∧ w' = w := (rover_c' a b w).mono fun _ _ ⟨h, k⟩ => ⟨h, k.symm⟩
theorem rcomplete_ok (d : Dql) (hd : d.Ok) (n now : Int) (w : World) (h1 : right d = true) (h2 : decide (flight d < n) = false) : Calls Try.prog 23 #[d.val, .int .u32 n, .int .u64 now] w fun e w' => e = .returned (pairV (completeS d n now).1 (completeS d n now).2) ∧ Grew w w' := by
  have hg := rgB_eq d n now hd
  have hs := rsB_eq d n now hd
  have HGR := Lib.hid hg
  have HSH := Lib.hid hs
  have HCS : Hid (completeS d n now = (closeS d (stepS d (chgOf d n now)) (chgOf d n now), 0)) := by
    have e2 : ¬ flight d < n := of_decide_eq_false h2
    simp only [Hid, completeS, h1, if_true, if_neg e2]
  clear hg hs
  go_enter Try.func23, Try.ntmps23
  go_wp2_with fail
  refine (rright_c' d _).mono ?_
  rintro e w1 ⟨rfl, hb1⟩
  have hA1 := (at_new0 _ _ _).grew hb1
  have hR1 := (at_new1 _ _ _).grew hb1
  have hG1 : Grew w w1 := (((Grew.refl w).alloc _).alloc _).trans hb1
  clear hb1
  have hc := hA1.cell
  go_wp2_with fail
  refine (rflight_c d _).mono ?_
  rintro e w2 ⟨rfl, hb2⟩
  have hA := hA1.grew hb2
  have hR := hR1.grew hb2
  have hG : Grew w w2 := hG1.trans hb2
  clear hb2 hA1 hR1 hG1 hc w1
  have HA := Lib.hid hA
  have HR := Lib.hid hR
  have HG := Lib.hid hG
  have hc := hA.cell
  have hf := hA.free
  clear hA hR hG
  go_upto_region 13 with (first | (go_at_call 33; refine (rover_c' _ _ _).mono ?_; rintro e w' ⟨rfl, rfl⟩) | (go_at_call 28; refine (rfar_c _ _ _).mono ?_; rintro e w' ⟨rfl, rfl⟩) | (go_at_call 34; refine (rahead_c' _ _ _).mono ?_; rintro e w' ⟨rfl, rfl⟩))
  have hcd : (chgOf d n now).done = (d.Completed + n) % 4294967296 := rfl
  have hco : (chgOf d n now).over = over ((d.Queued - d.Completed) % 4294967296) d.Limit := rfl
  have hcn : (chgOf d n now).n = n := rfl
  have hct : (chgOf d n now).now = now := rfl
  have hgr := HGR.out
  have hsh := HSH.out
  clear HGR HSH
  obtain ⟨c, hcg⟩ : ∃ c, chgOf d n now = c := ⟨_, rfl⟩
  rw [hcg] at hcd hco hcn hct hgr hsh HCS
  obtain ⟨p, hp⟩ : ∃ p, far ((d.Completed + n) % 4294967296) d.Queued = p := ⟨_, rfl⟩
  obtain ⟨q, hq⟩ : ∃ q, (d.PrevQueued - d.Completed) % 4294967296 = q := ⟨_, rfl⟩
  obtain ⟨al, hal⟩ : ∃ al, ahead ((d.Completed + n) % 4294967296) d.PrevQueued = al := ⟨_, rfl⟩
  rw [hp, hal] at hgr
  rw [hp, hq, hal] at hsh
  rw [hp, hq, hal]
  rw [← hco] at hgr
  rw [← hco]
  rw [← hcd]
  have HGR := Lib.hid hgr
  have HSH := Lib.hid hsh
  have HCN := Lib.hid hcn
  have HCT := Lib.hid hct
  clear hgr hsh hcn hct hcd hco hp hq hal hcg
  go_cut [69] from 56 to 69 (fun v69 wx => v69 = .bool (rgB c.over p d.PrevOver al) ∧ wx = w2)
  case first =>
    cases g1 : decide (0 < c.over) <;> cases g2 : (p == 0) <;> cases g3 : decide (0 < d.PrevOver) <;> cases al
    all_goals go_wp2_with fail
    all_goals go_meet
    all_goals exact ⟨by simp [rgB, g1, g2, g3], rfl⟩
  case rest =>
    obtain ⟨rfl, rfl⟩ := hcut
    go_upto_if 69 with (fail)
    go_cut [15] from 16 to 162 (fun v15 wx => v15 = .int .u32 (stepS d c).Limit ∧ At wx w.heap.size { stepS d c with Limit := d.Limit : Dql }.cells ∧ At wx (w.heap.size + 1) Dql.zero.cells ∧ Grew w wx)
    case first =>
      cases g : rgB c.over p d.PrevOver al
      · go_upto_region 17 with (fail)
        go_cut [91] from 82 to 91 (fun v91 wx => v91 = .bool (rsB p q al) ∧ wx = wc)
        case first =>
          cases g2 : (p != 0) <;> cases g3 : (q != 0) <;> cases al
          all_goals go_wp2_with fail
          all_goals go_meet
          all_goals exact ⟨by simp [rsB, g2, g3], rfl⟩
        case rest =>
          obtain ⟨rfl, rfl⟩ := hcut
          cases s : rsB p q al
          · have HST : Hid (stepS d c = d) := by
              simp only [Hid, stepS, HGR.out, HSH.out, g, s]
              rfl
            go_wp2_with fail
            go_meet
            exact ⟨by rw [HST.out], by rw [HST.out]; exact HA.out, HR.out, HG.out⟩
          · have HST : Hid (stepS d c = shrinksS d c) := by
              simp only [Hid, stepS, HGR.out, HSH.out, g, s, if_true]
              rfl
            cases h5 : decide (0 < d.PrevOver) <;> cases h6 : decide (d.Start < now)
            · have hsl : slack3 d c = mn d.Slack (over ((d.Limit + d.PrevOver) % 4294967296) (2 * n % 4294967296)) := by simp only [slack3, slack2, slack1, h5, HCN.out]; rfl
              have hla : lateB d c = false := by simp only [lateB, HCT.out, h6]; rfl
              have hst : stepS d c = { d with Slack := mn d.Slack (over ((d.Limit + d.PrevOver) % 4294967296) (2 * n % 4294967296)) } := by rw [HST.out]; simp only [shrinksS, hla, hsl]; rfl
              have HS2 := Lib.hid hst
              clear hst hla hsl
              go_wp2_with (go_at_call 33; refine (rover_c' _ _ _).mono ?_; rintro e w' ⟨rfl, rfl⟩)
              go_meet
              exact ⟨by rw [HS2.out], by rw [HS2.out]; exact HA.out.set 8 _, HR.out.far _ _ (by simp), HG.out.set _ (by simp) _⟩
            · cases h7 : decide (d.Hold < IntKind.u64.wrap (now - d.Start))
              · have hsl : slack3 d c = mn d.Slack (over ((d.Limit + d.PrevOver) % 4294967296) (2 * n % 4294967296)) := by simp only [slack3, slack2, slack1, h5, HCN.out]; rfl
                have hla : lateB d c = false := by simp only [lateB, HCT.out, h6, h7]; rfl
                have hst : stepS d c = { d with Slack := mn d.Slack (over ((d.Limit + d.PrevOver) % 4294967296) (2 * n % 4294967296)) } := by rw [HST.out]; simp only [shrinksS, hla, hsl]; rfl
                have HS2 := Lib.hid hst
                clear hst hla hsl
                go_wp2_with (go_at_call 33; refine (rover_c' _ _ _).mono ?_; rintro e w' ⟨rfl, rfl⟩)
                go_meet
                exact ⟨by rw [HS2.out], by rw [HS2.out]; exact HA.out.set 8 _, HR.out.far _ _ (by simp), HG.out.set _ (by simp) _⟩
              · have hsl : slack3 d c = mn d.Slack (over ((d.Limit + d.PrevOver) % 4294967296) (2 * n % 4294967296)) := by simp only [slack3, slack2, slack1, h5, HCN.out]; rfl
                have hla : lateB d c = true := by simp only [lateB, HCT.out, h6, h7]; rfl
                have hst : stepS d c = { d with Limit := over d.Limit (mn d.Slack (over ((d.Limit + d.PrevOver) % 4294967296) (2 * n % 4294967296))), Start := now, Slack := 4294967295 } := by rw [HST.out]; simp only [shrinksS, hla, hsl, HCT.out, if_true]
                have HS2 := Lib.hid hst
                clear hst hla hsl
                go_wp2_with (go_at_call 33; refine (rover_c' _ _ _).mono ?_; rintro e w' ⟨rfl, rfl⟩)
                go_meet
                exact ⟨by rw [HS2.out], by rw [HS2.out]; exact ((HA.out.set 8 _).set 9 _).set 8 _, ((HR.out.far _ _ (by simp)).far _ _ (by simp)).far _ _ (by simp), ((HG.out.set _ (by simp) _).set _ (by simp) _).set _ (by simp) _⟩
            · have hsl : slack3 d c = mn d.Slack (mx (over ((d.Limit + d.PrevOver) % 4294967296) (2 * n % 4294967296)) (over d.PrevLast d.PrevOver)) := by simp only [slack3, slack2, slack1, h5, HCN.out]; rfl
              have hla : lateB d c = false := by simp only [lateB, HCT.out, h6]; rfl
              have hst : stepS d c = { d with Slack := mn d.Slack (mx (over ((d.Limit + d.PrevOver) % 4294967296) (2 * n % 4294967296)) (over d.PrevLast d.PrevOver)) } := by rw [HST.out]; simp only [shrinksS, hla, hsl]; rfl
              have HS2 := Lib.hid hst
              clear hst hla hsl
              go_wp2_with (go_at_call 33; refine (rover_c' _ _ _).mono ?_; rintro e w' ⟨rfl, rfl⟩)
              go_meet
              exact ⟨by rw [HS2.out], by rw [HS2.out]; exact HA.out.set 8 _, HR.out.far _ _ (by simp), HG.out.set _ (by simp) _⟩
            · cases h7 : decide (d.Hold < IntKind.u64.wrap (now - d.Start))
              · have hsl : slack3 d c = mn d.Slack (mx (over ((d.Limit + d.PrevOver) % 4294967296) (2 * n % 4294967296)) (over d.PrevLast d.PrevOver)) := by simp only [slack3, slack2, slack1, h5, HCN.out]; rfl
                have hla : lateB d c = false := by simp only [lateB, HCT.out, h6, h7]; rfl
                have hst : stepS d c = { d with Slack := mn d.Slack (mx (over ((d.Limit + d.PrevOver) % 4294967296) (2 * n % 4294967296)) (over d.PrevLast d.PrevOver)) } := by rw [HST.out]; simp only [shrinksS, hla, hsl]; rfl
                have HS2 := Lib.hid hst
                clear hst hla hsl
                go_wp2_with (go_at_call 33; refine (rover_c' _ _ _).mono ?_; rintro e w' ⟨rfl, rfl⟩)
                go_meet
                exact ⟨by rw [HS2.out], by rw [HS2.out]; exact HA.out.set 8 _, HR.out.far _ _ (by simp), HG.out.set _ (by simp) _⟩
              · have hsl : slack3 d c = mn d.Slack (mx (over ((d.Limit + d.PrevOver) % 4294967296) (2 * n % 4294967296)) (over d.PrevLast d.PrevOver)) := by simp only [slack3, slack2, slack1, h5, HCN.out]; rfl
                have hla : lateB d c = true := by simp only [lateB, HCT.out, h6, h7]; rfl
                have hst : stepS d c = { d with Limit := over d.Limit (mn d.Slack (mx (over ((d.Limit + d.PrevOver) % 4294967296) (2 * n % 4294967296)) (over d.PrevLast d.PrevOver))), Start := now, Slack := 4294967295 } := by rw [HST.out]; simp only [shrinksS, hla, hsl, HCT.out, if_true]
                have HS2 := Lib.hid hst
                clear hst hla hsl
                go_wp2_with (go_at_call 33; refine (rover_c' _ _ _).mono ?_; rintro e w' ⟨rfl, rfl⟩)
                go_meet
                exact ⟨by rw [HS2.out], by rw [HS2.out]; exact ((HA.out.set 8 _).set 9 _).set 8 _, ((HR.out.far _ _ (by simp)).far _ _ (by simp)).far _ _ (by simp), ((HG.out.set _ (by simp) _).set _ (by simp) _).set _ (by simp) _⟩
      · have HST : Hid (stepS d c = growsS d c) := by simp only [Hid, stepS, HGR.out, g, if_true]
        go_wp2_with fail
        go_quiet ((go_at_call 33; exact Calls.quiet_of_same (rover_q _ _ _)))
        go_wp2_with fail
        go_meet
        refine ⟨?_, ?_, ?_, ?_⟩
        · rw [HST.out]
          simp only [growsS, IntKind.wrap_u32]
          congr 1
          omega
        · rw [HST.out, show ({ growsS d c with Limit := d.Limit } : Dql) = { d with Start := now, Slack := 4294967295 } by simp only [growsS, HCT.out]]
          exact ((HA.out.set 9 _).set 8 _).drewN _
        · exact ((HR.out.far _ _ (by simp)).far _ _ (by simp)).drewN _
        · exact ((HG.out.set _ (by simp) _).set _ (by simp) _).drewN _
    case rest =>
      obtain ⟨rfl, hA, hR, hG⟩ := hcut
      clear HA HR HG hc hf HGR HSH
      obtain ⟨d1, hd1⟩ : ∃ d1, stepS d c = d1 := ⟨_, rfl⟩
      rw [hd1] at hA HCS
      rw [hd1]
      have hc := hA.cell
      have hf := hA.free
      have hrc := hR.cell
      have hrf := hR.free
      have HA := Lib.hid hA
      have HR := Lib.hid hR
      have HG := Lib.hid hG
      clear hA hR hG hd1
      cases hl : (mn (mx d1.Limit d1.Min) d1.Max != d.Limit)
      · have hl2 : mn (mx d1.Limit d1.Min) d1.Max = d.Limit := by simpa using hl
        have HX : Hid (completeS d n now = ({ d1 with Limit := d.Limit, Completed := c.done, Adj := (mn (mx d1.Limit d1.Min) d1.Max + c.done) % 4294967296, PrevOver := c.over, PrevLast := d1.Last, PrevQueued := d1.Queued }, 0)) := by
          rw [Hid, HCS.out]
          simp only [closeS, hl2, if_true]
        clear hl2
        go_wp2_with fail
        refine bodyPost_ret (v := pairV { d1 with Limit := d.Limit, Completed := c.done, Adj := (mn (mx d1.Limit d1.Min) d1.Max + c.done) % 4294967296, PrevOver := c.over, PrevLast := d1.Last, PrevQueued := d1.Queued } 0) ?_ rfl ⟨by rw [HX.out], ?_⟩
        · refine results_ct Try.results23 _ _ (w.heap.size + 1) 26 _ (0, 0) _ rfl (show At _ _ _ from ?_) Try.underlying26 rfl (by kernel_rfl)
          refine At.cast ((((((((((((((?_ : At _ _ Dql.zero.cells).set 0 _).set 1 _).set 2 _).set 3 _).set 4 _).set 5 _).set 6 _).set 7 _).set 8 _).set 9 _).set 10 _).set 11 _).set 12 _) (by simp [Dql.zero])
          repeat (with_reducible first | exact HR.out | refine At.far ?_ _ _ (by simp))
        · repeat (with_reducible first | exact HG.out | refine Grew.set ?_ _ (by simp) _)
      · have hl2 : ¬ mn (mx d1.Limit d1.Min) d1.Max = d.Limit := by simpa using hl
        have HX : Hid (completeS d n now = ({ d1 with Limit := mn (mx d1.Limit d1.Min) d1.Max, Completed := c.done, Adj := (mn (mx d1.Limit d1.Min) d1.Max + c.done) % 4294967296, PrevOver := 0, PrevLast := d1.Last, PrevQueued := d1.Queued }, 0)) := by
          rw [Hid, HCS.out]
          simp only [closeS, if_neg hl2]
        clear hl2
        go_wp2_with fail
        refine bodyPost_ret (v := pairV { d1 with Limit := mn (mx d1.Limit d1.Min) d1.Max, Completed := c.done, Adj := (mn (mx d1.Limit d1.Min) d1.Max + c.done) % 4294967296, PrevOver := 0, PrevLast := d1.Last, PrevQueued := d1.Queued } 0) ?_ rfl ⟨by rw [HX.out], ?_⟩
        · refine results_ct Try.results23 _ _ (w.heap.size + 1) 26 _ (0, 0) _ rfl (show At _ _ _ from ?_) Try.underlying26 rfl (by kernel_rfl)
          refine At.cast ((((((((((((((?_ : At _ _ Dql.zero.cells).set 0 _).set 1 _).set 2 _).set 3 _).set 4 _).set 5 _).set 6 _).set 7 _).set 8 _).set 9 _).set 10 _).set 11 _).set 12 _) (by simp [Dql.zero])
          repeat (with_reducible first | exact HR.out | refine At.far ?_ _ _ (by simp))
        · repeat (with_reducible first | exact HG.out | refine Grew.set ?_ _ (by simp) _)
theorem rcomplete_c (d : Dql) (hd : d.Ok) (n now : Int) (w : World) : Calls Try.prog 23 #[d.val, .int .u32 n, .int .u64 now] w fun e w' => e = .returned (pairV (completeS d n now).1 (completeS d n now).2) ∧ Grew w w' := by
  cases h1 : right d
  · have HR : Hid (completeS d n now = (Dql.zero, 2)) := by simp [Hid, completeS, h1]
    go_enter Try.func23, Try.ntmps23
    go_wp2_with fail
    refine (rright_c' d _).mono ?_
    rintro e w1 ⟨rfl, hb1⟩
    obtain ⟨hc1, hf1, hz1⟩ := keptAll (w := w) 2 hb1 (by simp)
    have HB := Lib.hid hb1
    clear hb1
    go_wp2_with fail
    refine bodyPost_ret (v := pairV Dql.zero 2) (by simp [results, Try.results23, go_sem, Dql.zero, *]) rfl ⟨by rw [HR.out], ?_⟩
    repeat (with_reducible first | exact Grew.refl _ | refine Grew.drewN ?_ _ | refine Grew.alloc ?_ _ | refine Grew.set ?_ _ (by simp) _ | refine Grew.trans ?_ HB.out)
  · cases h2 : decide (flight d < n)
    · exact rcomplete_ok d hd n now w h1 h2
    · have HR : Hid (completeS d n now = (Dql.zero, 40)) := by
        have e2 : flight d < n := of_decide_eq_true h2
        simp only [Hid, completeS, h1, if_true, if_pos e2]
      go_enter Try.func23, Try.ntmps23
      go_wp2_with fail
      refine (rright_c' d _).mono ?_
      rintro e w1 ⟨rfl, hb1⟩
      obtain ⟨hc1, hf1, hz1⟩ := keptAll (w := w) 2 hb1 (by simp)
      have HB := Lib.hid hb1
      clear hb1
      go_wp2_with fail
      refine (rflight_c d _).mono ?_
      rintro e w2 ⟨rfl, hb2⟩
      obtain ⟨hc2, hf2, hz2⟩ := keptAll (w := w) 2 hb2 (by first | omega | (simp; omega))
      have HB2 := Lib.hid hb2
      clear hb2
      go_wp2_with fail
      refine bodyPost_ret (v := pairV Dql.zero 40) (by simp [results, Try.results23, go_sem, Dql.zero, *]) rfl ⟨by rw [HR.out], ?_⟩
      repeat (with_reducible first | exact Grew.refl _ | refine Grew.drewN ?_ _ | refine Grew.alloc ?_ _ | refine Grew.set ?_ _ (by simp) _ | refine Grew.trans ?_ HB2.out | refine Grew.trans ?_ HB.out)
end Go.Proofs.Ythopimfpiimloaa
