/- Contract: Next. -/
import Derived.Test.YtimogbalkhgplaaI
import Derived.Test.YtimogbalkhgplaaA2
import Derived.WalkMore
namespace Go.Proofs.Ytimogbalkhgplaa
open Go.RowKit Go.Shelf
set_option linter.unusedSimpArgs false
set_option maxHeartbeats 1000000
attribute [local go_sem] Oper.semAt_some alloc_drewN setCell_drewN max2_mx min2_mn max_two min_two
theorem next_wet (d : Bkt) (w : World) (h1 : right d = true) (h2 : d.Rate = 0 ∨ 0 < d.Level) : Calls Try.prog 17 #[d.val] w fun e w' => e = .returned (.tuple #[.int .u64 d.At, .int .i64 0]) ∧ Grew w w' := by
  cases h3 : (d.Rate == 0)
  case' false =>
    have h4 : decide (0 < d.Level) = true := by
      have : ¬ d.Rate = 0 := by simpa using h3
      simp
      omega
  all_goals
    clear h2
    go_enter Try.func17, Try.ntmps17
    go_wp2
    go_step3
    go_wp2_with fail
    refine (right_c d _).mono ?_
    rintro e w1 ⟨rfl, hb1⟩
    obtain ⟨hc1, hf1, hz1⟩ := kept1 (w := w) hb1 (by simp)
    have HB := Lib.hid hb1
    clear hb1
    go_wp2_with fail
    rw [Exit.noGoto_ret]
    go_ret2
    exact ⟨rfl, ((Grew.refl _).alloc _).trans HB.out⟩
theorem next_dry (d : Bkt) (hd : d.Ok) (w : World) (h1 : right d = true) (h2 : (d.Rate == 0) = false) (h3 : decide (0 < d.Level) = false) : Calls Try.prog 17 #[d.val] w fun e w' => e = .returned (.tuple #[.int .u64 (nextT d), .int .i64 0]) ∧ Grew w w' := by
  refine calls_of_marks Try.func17 rfl ?_
  simp only [Try.ntmps17, List.size_toArray, List.length_cons, List.length_nil, Nat.reduceAdd, Nat.reduceSub, Array.replicate_succ, Array.replicate_zero, List.push_toArray, List.append_toArray, List.nil_append, List.cons_append]
  have hN0 := nextT_range d hd h1 (by simpa using h2) (by simpa using h3)
  have hN := nextT_iff d hd h1 (by simpa using h2) (by simpa using h3)
  obtain ⟨N, hNN⟩ : ∃ N, nextT d = N := ⟨_, rfl⟩
  rw [hNN] at hN0 hN
  have HNN := Lib.hid hNN
  have HN0 := Lib.hid hN0
  have HN := Lib.hid hN
  have HD := Lib.hid hd
  clear hNN hN0 hN hd
  go_wp2
  go_step3
  go_wp2_with fail
  refine (right_c d _).mono ?_
  rintro e w1 ⟨rfl, hb1⟩
  have hA1 := (at_alloc w d.cells).grew hb1
  have hG1 := ((Grew.refl w).alloc (.cells d.cells 24)).trans hb1
  have hc := hA1.cell
  have hlt := hA1.lt
  have HA := Lib.hid hA1
  have HG := Lib.hid hG1
  clear hA1 hG1 hb1
  go_wp2_with fail
  obtain ⟨bb, hbb⟩ : ∃ bb, w.heap.size = bb := ⟨_, rfl⟩
  obtain ⟨b1, hbb1⟩ : ∃ b1, w1.heap.size = b1 := ⟨_, rfl⟩
  have hsz : w.heap.size ≤ bb := by omega
  rw [hbb] at hlt
  have HA2 : Hid (At w1 bb d.cells) := by rw [Hid, ← hbb]; exact HA.out
  rw [hbb1] at hlt
  rw [hbb, hbb1]
  have hA3 := HA2.out.alloc (.cells #[.int .u64 d.At] 22)
  have hO3 := one_new w1 22 (.int .u64 d.At)
  have hG3 := HG.out.alloc (.cells #[.int .u64 d.At] 22)
  rw [hbb1] at hO3
  obtain ⟨w3, hw3⟩ : ∃ w3, w1.alloc (.cells #[.int .u64 d.At] 22) = w3 := ⟨_, rfl⟩
  rw [hw3] at hA3 hO3 hG3 ⊢
  have HA := Lib.hid hA3
  have HO := Lib.hid hO3
  have HG := Lib.hid hG3
  have hc := hA3.cell
  have hlo := hO3.lt
  clear hA3 hO3 hG3 HA2 hw3 hbb hbb1
  go_step3
  go_wp2_with fail
  refine (halves_c _ _ _ _).mono ?_
  rintro e w2 ⟨rfl, hw2⟩
  have hA4 := ((HA.out.alloc (.cells #[.int .u64 d.At] 22)).alloc (.cells #[.int .u64 9223372036854775807] 22)).alloc (.cells #[.func (.func 24) #[] #[.pointer (some ⟨bb, 0, none⟩)]] 48)
  have hO4 := ((HO.out.alloc (.cells #[.int .u64 d.At] 22)).alloc (.cells #[.int .u64 9223372036854775807] 22)).alloc (.cells #[.func (.func 24) #[] #[.pointer (some ⟨bb, 0, none⟩)]] 48)
  have hG4 := ((HG.out.alloc (.cells #[.int .u64 d.At] 22)).alloc (.cells #[.int .u64 9223372036854775807] 22)).alloc (.cells #[.func (.func 24) #[] #[.pointer (some ⟨bb, 0, none⟩)]] 48)
  have hF4 := ((one_new w3 22 (.int .u64 d.At)).alloc (.cells #[.int .u64 9223372036854775807] 22)).alloc (.cells #[.func (.func 24) #[] #[.pointer (some ⟨bb, 0, none⟩)]] 48)
  have hT4 := (one_new (w3.alloc (.cells #[.int .u64 d.At] 22)) 22 (.int .u64 9223372036854775807)).alloc (.cells #[.func (.func 24) #[] #[.pointer (some ⟨bb, 0, none⟩)]] 48)
  have hS4 := one_new ((w3.alloc (.cells #[.int .u64 d.At] 22)).alloc (.cells #[.int .u64 9223372036854775807] 22)) 48 (.func (.func 24) #[] #[.pointer (some ⟨bb, 0, none⟩)])
  rw [hw2] at hA4 hO4 hG4 hF4 hT4 hS4
  simp only [World.size_alloc] at hT4 hS4
  have hsz2 : w3.heap.size + 3 ≤ w2.heap.size := by rw [← hw2]; simp
  clear hw2 HA HO HG hc
  have HM := Lib.hid hA4
  have HO := Lib.hid hO4
  have HG := Lib.hid hG4
  have HF := Lib.hid hF4
  have HT := Lib.hid hT4
  have HS := Lib.hid hS4
  clear hA4 hO4 hG4 hF4 hT4 hS4
  obtain ⟨bf, hbf⟩ : ∃ bf, w3.heap.size = bf := ⟨_, rfl⟩
  rw [hbf] at HF HT HS hlo hsz2 ⊢
  clear hbf
  have hBK : Blks w (w2.heap.size + 1) w2.heap.size bb b1 bf (bf + 1) (bf + 1 + 1) := ⟨hsz, hlt, hlo, by omega, by omega, by omega, rfl⟩
  go_wp2_with fail
  refine wp_range_blk (gf := 31) (lb := #[.pointer (some ⟨bf, 0, none⟩), .pointer (some ⟨bf + 1, 0, none⟩), .pointer (some ⟨bf + 1 + 1, 0, none⟩)]) rfl (enters_of Try.func31 (by kernel_rfl) rfl) (fun W => W.heap[w2.heap.size]? = some (.deferred (some [])) ∧ One W b1 22 (.int .u64 N) ∧ Grew w W) ?_ ?_
  · intro fn tm asg bo htm has hbo
    have HTM := Lib.hid htm
    have HAS := Lib.hid has
    have HBO := Lib.hid hbo
    clear htm has hbo
    have m0 : Mid w (w2.heap.size + 1) w2.heap.size bb b1 bf (bf + 1) (bf + 1 + 1) (recOf fn tm #[27] asg bo w2.heap.size .ready none) d d.At 9223372036854775807 d.At ((w2.alloc (.deferred (some []))).alloc (.loop (recOf fn tm #[27] asg bo w2.heap.size .ready none))) :=
      ⟨heap_alloc2_new _ _ _, heap_alloc2_old _ _ _, (HM.out.alloc _).alloc _, (HO.out.alloc _).alloc _, (HF.out.alloc _).alloc _, (HT.out.alloc _).alloc _, (HS.out.alloc _).alloc _, (HG.out.alloc _).alloc _⟩
    refine (halves_in w (w2.heap.size + 1) w2.heap.size bb b1 bf (bf + 1) (bf + 1 + 1) hBK (recOf fn tm #[27] asg bo w2.heap.size .ready none) (recOf fn tm #[27] asg bo w2.heap.size .done (some (.exit 0))) d HD.out h1 N HN.out ?rounds _ m0 HN0.out.1 HN0.out.2).mono ?fin
    case rounds =>
      intro f t x W m k1 k2 k3
      cases hm : (f == 9223372036854775807)
      all_goals
        refine yield_rec m.loop rfl HTM.out HAS.out HBO.out ?_
        gi_wp2
        refine ⟨m.loop, ?_⟩
        have m1 := m.put hBK (recOf fn tm #[27] asg bo w2.heap.size .busy none)
        generalize W.putObj (w2.heap.size + 1) (.loop (recOf fn tm #[27] asg bo w2.heap.size .busy none)) = W2 at m1 ⊢
        have hco := m1.one.cell
        have hfo := m1.one.free
        have m2 := m1.setX hBK f
        have M2 := Lib.hid m2
        clear m m1 m2
        gi_wp2
      · first | exact ⟨M2.out.loop, .inl ⟨rfl, M2.out.put hBK _⟩⟩ | exact ⟨M2.out.loop, M2.out.put hBK _⟩
      · have e : f = N := by
          have := HN0.out.2
          have : f = 9223372036854775807 := by simpa using hm
          omega
        have m3 := M2.out.put hBK (recOf fn tm #[27] asg bo w2.heap.size .done (some (.exit 0)))
        rw [show Mid w (w2.heap.size + 1) w2.heap.size bb b1 bf (bf + 1) (bf + 1 + 1) (recOf fn tm #[27] asg bo w2.heap.size .done (some (.exit 0))) d f t f = Mid w (w2.heap.size + 1) w2.heap.size bb b1 bf (bf + 1) (bf + 1 + 1) (recOf fn tm #[27] asg bo w2.heap.size .done (some (.exit 0))) d f t N by rw [e]] at m3
        first | exact ⟨M2.out.loop, .inr ⟨rfl, m3⟩⟩ | exact ⟨M2.out.loop, m3⟩
    case fin =>
      rintro e W ⟨hv, ⟨f, t, m⟩ | ⟨f, t, m⟩⟩
      · have k := m.put hBK { recOf fn tm #[27] asg bo w2.heap.size .ready none with state := .exhausted }
        exact ⟨hv, _, m.loop, (by simp [recOf]), .inl rfl, k.dfr, k.one, k.grew⟩
      · have k := m.put hBK { recOf fn tm #[27] asg bo w2.heap.size .done (some (.exit 0)) with state := .exhausted }
        exact ⟨hv, _, m.loop, (by simp [recOf]), .inr rfl, k.dfr, k.one, k.grew⟩
  · rintro wz ⟨hz, hO, hG⟩
    have hco := hO.cell
    have HZ := Lib.hid hz
    have HG2 := Lib.hid hG
    clear hz hO hG HM HO HG HF HT HS
    go_wp2_with fail
    rw [Exit.noGoto_ret]
    refine marks_ret1 (v := .tuple #[.int .u64 N, .int .i64 0]) (D := w2.heap.size) rfl HZ.out ?_ ⟨by rw [HNN.out], HG2.out.put (by omega) _⟩
    simp [results, Try.results17, go_sem]
theorem next_err (d : Bkt) (w : World) (h1 : right d = false) : Calls Try.prog 17 #[d.val] w fun e w' => e = .returned (.tuple #[.int .u64 0, .int .i64 2]) ∧ Grew w w' := by
  go_enter Try.func17, Try.ntmps17
  go_wp2
  go_step3
  go_wp2_with fail
  refine (right_c d _).mono ?_
  rintro e w1 ⟨rfl, hb1⟩
  obtain ⟨hc1, hf1, hz1⟩ := kept1 (w := w) hb1 (by simp)
  have HB := Lib.hid hb1
  clear hb1
  go_wp2_with fail
  rw [Exit.noGoto_ret]
  go_ret2
  exact ⟨rfl, ((Grew.refl _).alloc _).trans HB.out⟩
theorem next_c (d : Bkt) (hd : d.Ok) (w : World) : Calls Try.prog 17 #[d.val] w fun e w' => e = .returned (.tuple #[.int .u64 (nextS d).1, .int .i64 (nextS d).2]) ∧ Grew w w' := by
  cases h1 : right d
  · rw [show nextS d = (0, 2) by simp [nextS, h1]]
    exact next_err d w h1
  · rw [show nextS d = (nextT d, 0) by simp [nextS, h1]]
    by_cases h2 : d.Rate = 0 ∨ 0 < d.Level
    · rw [nextT_wet d h2]
      exact next_wet d w h1 h2
    · exact next_dry d hd w h1 (by simp; omega) (by simp; omega)
end Go.Proofs.Ytimogbalkhgplaa
