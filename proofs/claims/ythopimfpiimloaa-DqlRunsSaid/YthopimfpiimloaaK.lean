/- Contract: Complete. -/
import Derived.Test.YthopimfpiimloaaE
import Derived.WalkMore
import Derived.Deep.RegionHeld3
import Derived.Deep.DeepCutAuto
import Derived.Shelf.Abstract
import Derived.Shelf.RegionOpen
import Derived.OwnWalkIn
import Derived.TacticsInMore
namespace Go.Proofs.Ythopimfpiimloaa
open Go.RowKit Go.Shelf
set_option linter.unusedSimpArgs false
set_option maxHeartbeats 400000
attribute [local go_sem] Oper.semAt_some alloc_drewN setCell_drewN max2_mx min2_mn max_two min_two
def chgOf (d : Dql) (n now : Int) : Chg := { n := n, done := (d.Completed + n) % 4294967296, now := now, over := over (flight d) d.Limit, isAll := !ahead ((d.Completed + n) % 4294967296) d.PrevQueued }
def stepS (d : Dql) (c : Chg) : Dql := if growsB d c = true then growsS d c else if shrinksB d c = true then shrinksS d c else d
def closeS (d d1 : Dql) (c : Chg) : Dql := { d1 with Limit := mn (mx d1.Limit d1.Min) d1.Max, Completed := c.done, Adj := (mn (mx d1.Limit d1.Min) d1.Max + c.done) % 4294967296, PrevOver := if mn (mx d1.Limit d1.Min) d1.Max = d.Limit then c.over else 0, PrevLast := d1.Last, PrevQueued := d1.Queued }
def completeS (d : Dql) (n now : Int) : Dql × Int :=
  if right d = true then if flight d < n then (Dql.zero, 40) else (closeS d (stepS d (chgOf d n now)) (chgOf d n now), 0) else (Dql.zero, 2)
theorem At.far {w : World} {g : Nat} {cs : Array Value} (h : At w g cs) (p : Addr) (v : Value) (hp : g ≠ p.block) : At (w.setCell p v) g cs := (heap_setCell_other w p g v hp).trans h
theorem At.cast {w : World} {g : Nat} {cs cs' : Array Value} (h : At w g cs) (e : cs = cs') : At w g cs' := e ▸ h
theorem At.drew {w : World} {g : Nat} {cs : Array Value} (h : At w g cs) : At w.drew g cs := h
theorem At.put {w : World} {g : Nat} {cs : Array Value} (h : At w g cs) (l : Nat) (o : Obj) (hl : g ≠ l) : At (w.putObj l o) g cs := (World.putObj_heap_other hl).trans h
theorem Grew.put {w W : World} (h : Grew w W) {l : Nat} (hl : w.heap.size ≤ l) (o : Obj) : Grew w (W.putObj l o) := below_putObj h hl o
theorem results_ct {P : Program} {fn : Func} {p u : Tmp} {ty : TypeId} (h : fn.results = #[.cell p ty, .tmp u]) (tmps : Array Value) (w : World) (g : Nat) (t : TypeId) (cs : Array Value) (fr : Nat × Nat) (d : TypeDesc)
    (hp : tmps.getD p undef = .pointer (some ⟨g, 0, none⟩)) (hg : w.heap[g]? = some (.cells cs t fr))
    (hu : P.underlying ty = some d) (hd : (match d with | .struct _ | .array _ _ => true | _ => false) = true) (hi : (P.info? ty).map (·.size) = some cs.size) :
    (results fn tmps).run P w = .ok (.tuple #[.agg cs, tmps.getD u undef]) w := by
  have hp' : tmps[p]?.getD undef = .pointer (some ⟨g, 0, none⟩) := by simpa using hp
  simp [results, h, hp', asAddr, run_loadVar_row w g t ty cs fr d hg hu hd hi]
def Dfr (w : World) (D : Nat) : Prop := w.heap[D]? = some (.deferred (some []))
theorem Dfr.set {w : World} {D : Nat} (h : Dfr w D) (p : Addr) (v : Value) (hp : D ≠ p.block) : Dfr (w.setCell p v) D := (heap_setCell_other w p D v hp).trans h
theorem Dfr.drew {w : World} {D : Nat} (h : Dfr w D) : Dfr w.drew D := h
theorem flight_x (d : Dql) (w : World) : Calls Try.prog 18 #[d.val] w fun e w' => e = .returned (.int .u32 (flight d)) ∧ w.alloc (.cells d.cells 26) = w' := by
  go_enter Try.func18, Try.ntmps18
  go_wp2_with (go_at_call 27; refine (far_c _ _ _).mono ?_; rintro e w' ⟨rfl, rfl⟩)
  go_ret
  exact ⟨rfl, rfl⟩
theorem at_new0 (w : World) (a b : Array Value) : At ((w.alloc (.cells a 26)).alloc (.cells b 26)) w.heap.size a := heap_alloc2_old w _ _
theorem at_new1 (w : World) (a b : Array Value) : At ((w.alloc (.cells a 26)).alloc (.cells b 26)) (w.heap.size + 1) b := heap_alloc2_new w _ _
/-- Between two rounds: the loop's record, the block for deferred calls, the state, the result, the completion. -/
structure Mid (w : World) (l D Bc : Nat) (r : Loop) (dd : Dql) (c : Chg) (W : World) : Prop where
  loop : W.heap[l]? = some (.loop r)
  dfr : Dfr W D
  st : At W w.heap.size dd.cells
  res : At W (w.heap.size + 1) Dql.zero.cells
  chg : W.heap[Bc]? = some (.cells c.cells 48 (0, 0))
  grew : Grew w W
theorem Mid.call {w : World} {l D Bc : Nat} {r : Loop} {dd dd' : Dql} {c : Chg} {W W' : World} (m : Mid w l D Bc r dd c W) (hA : At W' w.heap.size dd'.cells) (hg : W.grownBy W' (some w.heap.size))
    (h1 : w.heap.size + 1 < D) (h2 : w.heap.size + 2 ≤ Bc) (h3 : l = D + 1) : Mid w l D Bc r dd' c W' := by
  have k : ∀ (b : Nat) (o : Obj), W.heap[b]? = some o → b ≠ w.heap.size → W'.heap[b]? = some o := fun b o hb hne =>
    (hg.block b (Array.getElem?_eq_some_iff.1 hb).1 (fun e => hne (by injection e))).trans hb
  exact ⟨k _ _ m.loop (by omega), k _ _ m.dfr (by omega), hA, k _ _ m.res (by omega), k _ _ m.chg (by omega), Below.grown m.grew hg m.grew.below.size (fun b e => by injection e with e; omega)⟩
theorem Mid.put {w : World} {l D Bc : Nat} {r : Loop} {dd : Dql} {c : Chg} {W : World} (m : Mid w l D Bc r dd c W) (r' : Loop)
    (h1 : w.heap.size + 1 < D) (h3 : l = D + 1) : Mid w l D Bc r' dd c (W.putObj l (.loop r')) := by
  have hB : Bc ≠ l := fun e => by have h := m.loop; rw [← e, m.chg] at h; cases h
  exact ⟨World.putObj_heap_same (Array.getElem?_eq_some_iff.1 m.loop).1, (World.putObj_heap_other (by omega)).trans m.dfr, m.st.put _ _ (by omega), m.res.put _ _ (by omega), (World.putObj_heap_other hB).trans m.chg, m.grew.put (by omega) _⟩
theorem Mid.chgc {w : World} {l D Bc : Nat} {r : Loop} {dd : Dql} {c : Chg} {W : World} (m : Mid w l D Bc r dd c W) : ∀ j, W.cell? ⟨Bc, j, none⟩ = c.cells[j]? := fun j => by simp [World.cell?, m.chg]
set_option maxHeartbeats 2000000 in
theorem complete_ok (d : Dql) (n now : Int) (w : World) (h1 : right d = true) (h2 : decide (flight d < n) = false) : Calls Try.prog 22 #[d.val, .int .u32 n, .int .u64 now] w fun e w' => e = .returned (pairV (completeS d n now).1 (completeS d n now).2) ∧ Grew w w' := by
  refine calls_of_marks Try.func22 rfl ?_
  simp only [Try.ntmps22, List.size_toArray, List.length_cons, List.length_nil, Nat.reduceAdd, Nat.reduceSub, Array.replicate_succ, Array.replicate_zero, List.push_toArray, List.append_toArray, List.nil_append, List.cons_append]
  go_wp2
  go_step3
  go_wp2_with fail
  refine (right_c d _).mono ?_
  rintro e w1 ⟨rfl, hb1⟩
  have hA1 := (at_new0 _ _ _).grew hb1
  have hR1 := (at_new1 _ _ _).grew hb1
  have hG1 : Grew w w1 := (((Grew.refl w).alloc _).alloc _).trans hb1
  clear hb1
  have hc := hA1.cell
  go_wp2_with fail
  refine (flight_c d _).mono ?_
  rintro e w2 ⟨rfl, hb2⟩
  have hA := hA1.grew hb2
  have hR := hR1.grew hb2
  have hG : Grew w w2 := hG1.trans hb2
  clear hb2 hA1 hR1 hG1 hc w1
  have hlt := hA.lt
  have hlt2 := hR.lt
  have HA := Lib.hid hA
  have HR := Lib.hid hR
  have HG := Lib.hid hG
  have hc := hA.cell
  clear hA hR hG
  go_wp2_with fail
  go_cut [8] from 12 to 78 (fun v8 wx => ∃ Bc, v8 = .pointer (some ⟨Bc, 0, none⟩) ∧ wx.heap[Bc]? = some (.cells (Chg.mk n ((d.Completed + n) % 4294967296) now (over (flight d) d.Limit) false).cells 48 (0, 0)) ∧ At wx w.heap.size d.cells ∧ At wx (w.heap.size + 1) Dql.zero.cells ∧ Grew w wx ∧ w.heap.size + 2 ≤ Bc)
  case first =>
    go_region_held3 (fun w' => ∀ j, w'.cell? ⟨w.heap.size, j, none⟩ = d.cells[j]?)
      (first | (exact fun j => (World.cell?_alloc_past _ _ j hlt).trans (hc j)) | (exact fun j => (World.cell?_alloc_past _ _ j (by simp; omega)).trans ((World.cell?_alloc_past _ _ j hlt).trans (hc j))) | assumption)
      ((first | (go_at_call 18; refine (flight_x d _).mono ?_; rintro e w3 ⟨rfl, rfl⟩) | (go_at_call 29; refine (over_c _ _ _).mono ?_; rintro e w4 ⟨rfl, rfl⟩)))
    all_goals go_wp2_with fail
    all_goals go_meet
    · exact ⟨w2.heap.size + 1, rfl, heap_alloc2_new w2 _ _, (HA.out.alloc _).alloc _, (HR.out.alloc _).alloc _, by repeat (with_reducible first | exact HG.out | refine Grew.drew ?_ | refine Grew.alloc ?_ _ | refine Grew.drewN ?_ _), by omega⟩
    · exact ⟨w2.heap.size + 1, rfl, heap_alloc2_new w2 _ _, (HA.out.alloc _).alloc _, (HR.out.alloc _).alloc _, by repeat (with_reducible first | exact HG.out | refine Grew.drew ?_ | refine Grew.alloc ?_ _ | refine Grew.drewN ?_ _), by omega⟩
    · exact ⟨w2.heap.size, rfl, heap_alloc2_old w2 _ _, (HA.out.alloc _).alloc _, (HR.out.alloc _).alloc _, by repeat (with_reducible first | exact HG.out | refine Grew.drew ?_ | refine Grew.alloc ?_ _ | refine Grew.drewN ?_ _), by omega⟩
  case rest =>
    obtain ⟨Bc, rfl, hC, hA, hR, hG, hB⟩ := hcut
    clear HA HR HG hc hlt hlt2 w2
    have hc := hA.cell
    have hcc : ∀ j, wc.cell? ⟨Bc, j, none⟩ = (Chg.mk n ((d.Completed + n) % 4294967296) now (over (flight d) d.Limit) false).cells[j]? := fun j => by simp [World.cell?, hC]
    have hcf : ∀ j, wc.frozen? ⟨Bc, j, none⟩ = false := fun j => by simp [World.frozen?, hC]
    have HA := Lib.hid hA
    have HR := Lib.hid hR
    have HG := Lib.hid hG
    have HC := Lib.hid hC
    clear hA hR hG hC
    go_wp2_with (first | (go_at_call 30; refine (ahead_c _ _ _).mono ?_; rintro e w' ⟨rfl, rfl⟩))
    obtain ⟨wd, hwd⟩ : ∃ wd, wc.setCell ⟨Bc, 4, none⟩ (.bool !ahead ((d.Completed + n) % 4294967296) d.PrevQueued) = wd := ⟨_, rfl⟩
    rw [hwd]
    have hD : wd.heap[Bc]? = some (.cells (chgOf d n now).cells 48 (0, 0)) := by rw [← hwd]; exact heap_setCell_same wc Bc 4 _ 48 _ HC.out
    have hA : At wd w.heap.size d.cells := by rw [← hwd]; exact (heap_setCell_other wc _ _ _ (by simp; omega)).trans HA.out
    have hR : At wd (w.heap.size + 1) Dql.zero.cells := by rw [← hwd]; exact (heap_setCell_other wc _ _ _ (by simp; omega)).trans HR.out
    have hG : Grew w wd := by rw [← hwd]; exact Grew.set HG.out _ (by simp; omega) _
    clear HA HR HG HC hc hcc hcf hwd wc
    have HA := Lib.hid hA
    have HR := Lib.hid hR
    have HG := Lib.hid hG
    have HD := Lib.hid hD
    have hlt2 := hR.lt
    have hBc : Bc < wd.heap.size := (Array.getElem?_eq_some_iff.1 hD).1
    have HDB : ¬ wd.heap.size = Bc := by have := (Array.getElem?_eq_some_iff.1 hD).1; omega
    clear hA hR hG hD
    go_step3
    go_wp2_with (first | (go_at_call 31; refine (steps_c _).mono ?_; rintro e w' ⟨rfl, rfl⟩))
    refine wp_range_blk (gf := 35) (lb := #[]) rfl (enters_of Try.func35 (by kernel_rfl) rfl) (fun W => W.heap[wd.heap.size]? = some (.deferred (some [])) ∧ At W w.heap.size (stepS d (chgOf d n now)).cells ∧ At W (w.heap.size + 1) Dql.zero.cells ∧ W.heap[Bc]? = some (.cells (chgOf d n now).cells 48 (0, 0)) ∧ Grew w W) ?_ ?_
    · intro fn tm asg bo htm has hbo
      have HT := Lib.hid htm
      have HS := Lib.hid has
      have HO := Lib.hid hbo
      clear htm has hbo
      refine (steps_in (wd.heap.size + 1)
        (fun W => growsB d (chgOf d n now) = false ∧ Mid w (wd.heap.size + 1) wd.heap.size Bc (recOf fn tm #[45] asg bo wd.heap.size .ready none) d (chgOf d n now) W)
        (fun W => growsB d (chgOf d n now) = true ∧ Mid w (wd.heap.size + 1) wd.heap.size Bc (recOf fn tm #[45] asg bo wd.heap.size .done (some (.exit 1))) (growsS d (chgOf d n now)) (chgOf d n now) W)
        (fun W => growsB d (chgOf d n now) = false ∧ shrinksB d (chgOf d n now) = false ∧ Mid w (wd.heap.size + 1) wd.heap.size Bc (recOf fn tm #[45] asg bo wd.heap.size .ready none) d (chgOf d n now) W)
        (fun W => growsB d (chgOf d n now) = false ∧ shrinksB d (chgOf d n now) = true ∧ Mid w (wd.heap.size + 1) wd.heap.size Bc (recOf fn tm #[45] asg bo wd.heap.size .done (some (.exit 1))) (shrinksS d (chgOf d n now)) (chgOf d n now) W)
        _ ?y1 ?y2).mono ?fin
      case y1 =>
        have m0 : Mid w (wd.heap.size + 1) wd.heap.size Bc (recOf fn tm #[45] asg bo wd.heap.size .ready none) d (chgOf d n now) ((wd.alloc (.deferred (some []))).alloc (.loop (recOf fn tm #[45] asg bo wd.heap.size .ready none))) :=
          ⟨heap_alloc2_new _ _ _, heap_alloc2_old _ _ _, (HA.out.alloc _).alloc _, (HR.out.alloc _).alloc _, (Below.heap_alloc _ _ _ (by simp; omega)).trans ((Below.heap_alloc _ _ _ hBc).trans HD.out), (HG.out.alloc _).alloc _⟩
        generalize ((wd.alloc (.deferred (some []))).alloc (.loop (recOf fn tm #[45] asg bo wd.heap.size .ready none))) = W1 at m0 ⊢
        cases hgr : growsB d (chgOf d n now)
        all_goals
          refine yield_rec m0.loop rfl HT.out HS.out HO.out ?_
          gi_wp2
          refine ⟨m0.loop, ?_⟩
          have m1 := m0.put (recOf fn tm #[45] asg bo wd.heap.size .busy none) hlt2 rfl
          generalize W1.putObj (wd.heap.size + 1) (.loop (recOf fn tm #[45] asg bo wd.heap.size .busy none)) = W2 at m1 ⊢
          have hc := m1.st.cell
          have hcc := m1.chgc
        · gi_wp2_with fail
          refine ⟨trivial, rfl, (CallsIn.inRound _ (callsIn_wide.2 (grows_no d _ _ _ m1.st hgr))).mono ?_⟩
          rintro e w' ⟨rfl, hA3, hg3⟩
          gi_wp2
          have m3 := m1.call hA3 hg3 hlt2 hB rfl
          first | exact ⟨m3.loop, rfl, hgr, m3.put _ hlt2 rfl⟩ | exact ⟨m3.loop, hgr, m3.put _ hlt2 rfl⟩ | exact ⟨m3.loop, m3.put _ hlt2 rfl⟩ | exact ⟨m3.loop, rfl, m3.put _ hlt2 rfl⟩
        · gi_wp2_with fail
          refine ⟨trivial, rfl, (CallsIn.inRound _ (callsIn_wide.2 (grows_yes d _ _ _ m1.st hgr))).mono ?_⟩
          rintro e w' ⟨rfl, hA3, hg3⟩
          gi_wp2
          have m3 := m1.call hA3 hg3 hlt2 hB rfl
          first | exact ⟨m3.loop, rfl, hgr, m3.put _ hlt2 rfl⟩ | exact ⟨m3.loop, hgr, m3.put _ hlt2 rfl⟩ | exact ⟨m3.loop, m3.put _ hlt2 rfl⟩ | exact ⟨m3.loop, rfl, m3.put _ hlt2 rfl⟩
      case y2 =>
        rintro W1 ⟨hgr, m0⟩
        cases hsr : shrinksB d (chgOf d n now)
        all_goals
          refine yield_rec m0.loop rfl HT.out HS.out HO.out ?_
          gi_wp2
          refine ⟨m0.loop, ?_⟩
          have m1 := m0.put (recOf fn tm #[45] asg bo wd.heap.size .busy none) hlt2 rfl
          generalize W1.putObj (wd.heap.size + 1) (.loop (recOf fn tm #[45] asg bo wd.heap.size .busy none)) = W2 at m1 ⊢
          have hc := m1.st.cell
          have hcc := m1.chgc
        · gi_wp2_with fail
          refine ⟨trivial, rfl, (CallsIn.inRound _ (callsIn_wide.2 (shrinks_no d _ _ _ m1.st hsr))).mono ?_⟩
          rintro e w' ⟨rfl, hA3, hg3⟩
          gi_wp2
          have m3 := m1.call hA3 hg3 hlt2 hB rfl
          first | exact ⟨m3.loop, rfl, hgr, hsr, m3.put _ hlt2 rfl⟩ | exact ⟨m3.loop, hgr, hsr, m3.put _ hlt2 rfl⟩ | exact ⟨m3.loop, m3.put _ hlt2 rfl⟩ | exact ⟨m3.loop, rfl, m3.put _ hlt2 rfl⟩
        · gi_wp2_with fail
          refine ⟨trivial, rfl, (CallsIn.inRound _ (callsIn_wide.2 (shrinks_yes d _ _ _ m1.st hsr))).mono ?_⟩
          rintro e w' ⟨rfl, hA3, hg3⟩
          gi_wp2
          have m3 := m1.call hA3 hg3 hlt2 hB rfl
          first | exact ⟨m3.loop, rfl, hgr, hsr, m3.put _ hlt2 rfl⟩ | exact ⟨m3.loop, hgr, hsr, m3.put _ hlt2 rfl⟩ | exact ⟨m3.loop, m3.put _ hlt2 rfl⟩ | exact ⟨m3.loop, rfl, m3.put _ hlt2 rfl⟩
      case fin =>
        rintro e W ⟨hv, ⟨hgr, hsr, m⟩ | ⟨hgr, m⟩ | ⟨hgr, hsr, m⟩⟩
        · have k := m.put { recOf fn tm #[45] asg bo wd.heap.size .ready none with state := .exhausted } hlt2 rfl
          exact ⟨hv, _, m.loop, (by simp [recOf]), .inl rfl, k.dfr, (by rw [show stepS d (chgOf d n now) = d by simp [stepS, hgr, hsr]]; exact k.st), k.res, k.chg, k.grew⟩
        · have k := m.put { recOf fn tm #[45] asg bo wd.heap.size .done (some (.exit 1)) with state := .exhausted } hlt2 rfl
          exact ⟨hv, _, m.loop, (by simp [recOf]), .inr rfl, k.dfr, (by rw [show stepS d (chgOf d n now) = growsS d (chgOf d n now) by simp [stepS, hgr]]; exact k.st), k.res, k.chg, k.grew⟩
        · have k := m.put { recOf fn tm #[45] asg bo wd.heap.size .done (some (.exit 1)) with state := .exhausted } hlt2 rfl
          exact ⟨hv, _, m.loop, (by simp [recOf]), .inr rfl, k.dfr, (by rw [show stepS d (chgOf d n now) = shrinksS d (chgOf d n now) by simp [stepS, hgr, hsr]]; exact k.st), k.res, k.chg, k.grew⟩
    · rintro wz ⟨hz, hA, hR, hD, hG⟩
      have hc := hA.cell
      have hf := hA.free
      have hcc : ∀ j, wz.cell? ⟨Bc, j, none⟩ = (chgOf d n now).cells[j]? := fun j => by simp [World.cell?, hD]
      have hcf : ∀ j, wz.frozen? ⟨Bc, j, none⟩ = false := fun j => by simp [World.frozen?, hD]
      clear HA HR HG HD
      have HA := Lib.hid hA
      have HR := Lib.hid hR
      have HG := Lib.hid hG
      have HD := Lib.hid hD
      have HZ := Lib.hid hz
      clear hA hR hG hD hz
      obtain ⟨lim, hlim⟩ : ∃ lim, mn (mx (stepS d (chgOf d n now)).Limit (stepS d (chgOf d n now)).Min) (stepS d (chgOf d n now)).Max = lim := ⟨_, rfl⟩
      have HL := Lib.hid hlim
      have bnd := bound_c _ _ (stepS d (chgOf d n now)).Limit wz HA.out
      rw [hlim] at bnd
      have BND := Lib.hid bnd
      clear hlim bnd
      cases hl : (lim != d.Limit)
      all_goals
        go_wp2_with (first | (go_at_call 32; refine (BND.out).mono ?_; rintro e w' ⟨rfl, rfl⟩))
      · obtain ⟨wv, hwv⟩ : ∃ wv, wz.setCell ⟨w.heap.size, 3, none⟩ (.int .u32 lim) = wv := ⟨_, rfl⟩
        rw [hwv]
        have hA : At wv w.heap.size { stepS d (chgOf d n now) with Limit := lim : Dql }.cells := by rw [← hwv]; exact HA.out.set 3 _
        have hR : At wv (w.heap.size + 1) Dql.zero.cells := by rw [← hwv]; exact (heap_setCell_other wz _ _ _ (by simp)).trans HR.out
        have hG : Grew w wv := by rw [← hwv]; exact Grew.set HG.out _ (by simp) _
        have hD : wv.heap[Bc]? = some (.cells (chgOf d n now).cells 48 (0, 0)) := by rw [← hwv]; exact (heap_setCell_other wz _ _ _ (by simp; omega)).trans HD.out
        have hZ : Dfr wv wd.heap.size := by rw [← hwv]; exact (heap_setCell_other wz _ _ _ (by simp; omega)).trans HZ.out
        clear hwv hc hf hcc hcf HA HR HG HD HZ
        have hc := hA.cell
        have hf := hA.free
        have hcc : ∀ j, wv.cell? ⟨Bc, j, none⟩ = (chgOf d n now).cells[j]? := fun j => by simp [World.cell?, hD]
        have hrc := hR.cell
        have hrf := hR.free
        have HA := Lib.hid hA
        have HR := Lib.hid hR
        have HG := Lib.hid hG
        have HZ := Lib.hid hZ
        clear hA hR hG hD hZ
        go_region
        go_wp2
        have HX : Hid (completeS d n now = ({ stepS d (chgOf d n now) with Limit := lim, Completed := (chgOf d n now).done, Adj := (lim + (chgOf d n now).done) % 4294967296, PrevOver := (chgOf d n now).over, PrevLast := (stepS d (chgOf d n now)).Last, PrevQueued := (stepS d (chgOf d n now)).Queued }, 0)) := by
          have e2 : ¬ flight d < n := of_decide_eq_false h2
          have e3 := HL.out
          simp only [Hid, completeS, h1, if_true, if_neg e2, closeS, e3]
          simp only [if_pos (show lim = d.Limit by simpa using hl)]
        refine marks_ret1 (v := pairV { stepS d (chgOf d n now) with Limit := lim, Completed := (chgOf d n now).done, Adj := (lim + (chgOf d n now).done) % 4294967296, PrevOver := (chgOf d n now).over, PrevLast := (stepS d (chgOf d n now)).Last, PrevQueued := (stepS d (chgOf d n now)).Queued } 0) (D := wd.heap.size) rfl ?_ ?_ ⟨by rw [HX.out], ?_⟩
        · show Dfr _ _
          repeat (with_reducible first | exact HZ.out | refine Dfr.drew ?_ | refine Dfr.set ?_ _ _ (by simp; omega))
        · refine results_ct Try.results22 _ _ (w.heap.size + 1) 26 _ (0, 0) _ rfl (show At _ _ _ from ?_) Try.underlying26 rfl (by kernel_rfl)
          refine At.put ?_ _ _ (by omega)
          refine At.drew ?_
          refine At.cast ((((((((((((((?_ : At _ _ Dql.zero.cells).set 0 _).set 1 _).set 2 _).set 3 _).set 4 _).set 5 _).set 6 _).set 7 _).set 8 _).set 9 _).set 10 _).set 11 _).set 12 _) (by simp [Dql.zero])
          repeat (with_reducible first | exact HR.out | refine At.far ?_ _ _ (by simp))
        · refine Grew.put ?_ (by omega) _
          repeat (with_reducible first | exact HG.out | refine Grew.drew ?_ | refine Grew.set ?_ _ (by simp) _)
      · obtain ⟨wv, hwv⟩ : ∃ wv, (wz.setCell ⟨w.heap.size, 3, none⟩ (.int .u32 lim)).setCell ⟨Bc, 3, none⟩ (.int .u32 0) = wv := ⟨_, rfl⟩
        rw [hwv]
        have hA : At wv w.heap.size { stepS d (chgOf d n now) with Limit := lim : Dql }.cells := by rw [← hwv]; exact (HA.out.set 3 _).far _ _ (by simp; omega)
        have hR : At wv (w.heap.size + 1) Dql.zero.cells := by rw [← hwv]; exact (At.far HR.out _ _ (by simp)).far _ _ (by simp; omega)
        have hG : Grew w wv := by rw [← hwv]; exact Grew.set (Grew.set HG.out _ (by simp) _) _ (by simp; omega) _
        have hD : wv.heap[Bc]? = some (.cells { chgOf d n now with over := 0 : Chg }.cells 48 (0, 0)) := by rw [← hwv]; exact heap_setCell_same _ _ _ _ _ _ ((heap_setCell_other wz _ _ _ (by simp; omega)).trans HD.out)
        have hZ : Dfr wv wd.heap.size := by rw [← hwv]; exact (heap_setCell_other _ _ _ _ (by simp; exact HDB)).trans ((heap_setCell_other wz _ _ _ (by simp; omega)).trans HZ.out)
        clear hwv hc hf hcc hcf HA HR HG HD HZ
        have hc := hA.cell
        have hf := hA.free
        have hcc : ∀ j, wv.cell? ⟨Bc, j, none⟩ = { chgOf d n now with over := 0 : Chg }.cells[j]? := fun j => by simp [World.cell?, hD]
        have hrc := hR.cell
        have hrf := hR.free
        have HA := Lib.hid hA
        have HR := Lib.hid hR
        have HG := Lib.hid hG
        have HZ := Lib.hid hZ
        clear hA hR hG hD hZ
        go_region
        go_wp2
        have HX : Hid (completeS d n now = ({ stepS d (chgOf d n now) with Limit := lim, Completed := (chgOf d n now).done, Adj := (lim + (chgOf d n now).done) % 4294967296, PrevOver := 0, PrevLast := (stepS d (chgOf d n now)).Last, PrevQueued := (stepS d (chgOf d n now)).Queued }, 0)) := by
          have e2 : ¬ flight d < n := of_decide_eq_false h2
          have e3 := HL.out
          simp only [Hid, completeS, h1, if_true, if_neg e2, closeS, e3]
          simp only [if_neg (show ¬ lim = d.Limit by simpa using hl)]
        refine marks_ret1 (v := pairV { stepS d (chgOf d n now) with Limit := lim, Completed := (chgOf d n now).done, Adj := (lim + (chgOf d n now).done) % 4294967296, PrevOver := 0, PrevLast := (stepS d (chgOf d n now)).Last, PrevQueued := (stepS d (chgOf d n now)).Queued } 0) (D := wd.heap.size) rfl ?_ ?_ ⟨by rw [HX.out], ?_⟩
        · show Dfr _ _
          repeat (with_reducible first | exact HZ.out | refine Dfr.drew ?_ | refine Dfr.set ?_ _ _ (by simp; omega))
        · refine results_ct Try.results22 _ _ (w.heap.size + 1) 26 _ (0, 0) _ rfl (show At _ _ _ from ?_) Try.underlying26 rfl (by kernel_rfl)
          refine At.put ?_ _ _ (by omega)
          refine At.drew ?_
          refine At.cast ((((((((((((((?_ : At _ _ Dql.zero.cells).set 0 _).set 1 _).set 2 _).set 3 _).set 4 _).set 5 _).set 6 _).set 7 _).set 8 _).set 9 _).set 10 _).set 11 _).set 12 _) (by simp [Dql.zero])
          repeat (with_reducible first | exact HR.out | refine At.far ?_ _ _ (by simp))
        · refine Grew.put ?_ (by omega) _
          repeat (with_reducible first | exact HG.out | refine Grew.drew ?_ | refine Grew.set ?_ _ (by simp) _)
end Go.Proofs.Ythopimfpiimloaa
