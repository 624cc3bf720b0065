/- Plain laws: the references tell what the program tells. -/
import Derived.Test.YthopimfpiimloaaR
import Derived.Laws.StructEq
namespace Go.Proofs.Ythopimfpiimloaa
open Go.RowKit
set_option linter.unusedSimpArgs false
theorem risesFrom_step (l : List Int) (k : Nat) : risesFrom l k = if k < l.length then (if l.getD (k - 1) 0 > l.getD k 0 then false else risesFrom l (k + 1)) else true := by rw [risesFrom]
theorem rises_five (a b c d e : Int) : rises [a, b, c, d, e] = (decide (a ≤ b) && (decide (b ≤ c) && (decide (c ≤ d) && decide (d ≤ e)))) := by
  unfold rises
  rw [risesFrom_step, risesFrom_step, risesFrom_step, risesFrom_step, risesFrom_step]
  simp
  by_cases h1 : a ≤ b <;> by_cases h2 : b ≤ c <;> by_cases h3 : c ≤ d <;> by_cases h4 : d ≤ e <;> simp [*] <;> omega
theorem rises_four (a b c d : Int) : rises [a, b, c, d] = (decide (a ≤ b) && (decide (b ≤ c) && decide (c ≤ d))) := by
  unfold rises
  rw [risesFrom_step, risesFrom_step, risesFrom_step, risesFrom_step]
  simp
  by_cases h1 : a ≤ b <;> by_cases h2 : b ≤ c <;> by_cases h3 : c ≤ d <;> simp [*] <;> omega
theorem rises_three (a b c : Int) : rises [a, b, c] = (decide (a ≤ b) && decide (b ≤ c)) := by
  unfold rises
  rw [risesFrom_step, risesFrom_step, risesFrom_step]
  simp
  by_cases h1 : a ≤ b <;> by_cases h2 : b ≤ c <;> simp [*] <;> omega
theorem far_range (a b : Int) : 0 ≤ far a b ∧ far a b < 4294967296 := by unfold far; omega
theorem rahead_eq (a b : Int) : raheadB a b = ahead a b := by
  have h := far_range a b
  unfold raheadB ahead wrap32
  rw [Bool.eq_iff_iff]
  simp only [Bool.and_eq_true, decide_eq_true_eq]
  omega
theorem rover_eq (a b : Int) : roverF a b = over a b := by unfold roverF over; rw [rahead_eq]
theorem rright_eq (d : Dql) : rrightB d = right d := by
  unfold rrightB right
  rw [rises_five]
  simp only [Bool.and_assoc]
theorem rright_c' (d : Dql) (w : World) : Calls Try.prog 16 #[d.val] w fun e w' => e = .returned (.bool (right d)) ∧ Grew w w' := by
  rw [← rright_eq]; exact rright_c d w
theorem rover_c' (a b : Int) (w : World) : Calls Try.prog 33 #[.int .u32 a, .int .u32 b] w fun e w' => e = .returned (.int .u32 (over a b)) ∧ w = w' := by
  rw [← rover_eq]; exact rover_c a b w
theorem rahead_c' (a b : Int) (w : World) : Calls Try.prog 34 #[.int .u32 a, .int .u32 b] w fun e w' => e = .returned (.bool (ahead a b)) ∧ w = w' := by
  rw [← rahead_eq]; exact rahead_c a b w
/-! ### '==' of states -/
section
variable {P : Program} {d : Nat} {xs ys : Array Value} {f : Field} {fs : List Field} {a b : Value} {r s : Bool} {w : World}
theorem eqf_one (hn : (f.name == "_") = false) (ha : (part f.type xs f.offset).run P w = .ok a w) (hb : (part f.type ys f.offset).run P w = .ok b w) (he : (Op.equalIn d f.type a b).run P w = .ok r w) (hr : (Op.eqFields d xs ys fs).run P w = .ok s w) : (Op.eqFields d xs ys (f :: fs)).run P w = .ok (r && s) w := by
  have hn' : f.name ≠ "_" := by simpa using hn
  rw [Op.eqFields]
  simp only [if_pos hn', Sem.run_bind, ha, hb, he, Result.andThen_ok]
  cases r
  · simp
  · simpa using hr
theorem eqf_nil : (Op.eqFields d xs ys []).run P w = .ok true w := by simp [Op.eqFields]
theorem eqA_of {t : TypeId} {fs : Array Field} (hu : P.underlying t = some (.struct fs)) (hp : P.stoodInHeld t = false) (h : (Op.eqFields d xs ys fs.toList).run P w = .ok r w) : (Op.equalIn (d + 1) t (.agg xs) (.agg ys)).run P w = .ok r w := by
  have hf : P.fieldsOf t = fs := by simp [Program.fieldsOf, hu]
  rw [run_equalIn_struct (P := P) w d t xs ys (by rw [hf]; exact hu) hp, hf]
  exact h
end
theorem eqD (d : Nat) (w : World) (x0 y0 x1 y1 x2 y2 x3 y3 x4 y4 x5 y5 x6 y6 x7 y7 x8 y8 x9 y9 x10 y10 x11 y11 x12 y12 : Int) :
    (Op.equalIn (d + 2) 26 (.agg #[.int .u32 x0, .int .u32 x1, .int .u32 x2, .int .u32 x3, .int .u32 x4, .int .u32 x5, .int .u32 x6, .int .u32 x7, .int .u32 x8, .int .u64 x9, .int .u64 x10, .int .u32 x11, .int .u32 x12]) (.agg #[.int .u32 y0, .int .u32 y1, .int .u32 y2, .int .u32 y3, .int .u32 y4, .int .u32 y5, .int .u32 y6, .int .u32 y7, .int .u32 y8, .int .u64 y9, .int .u64 y10, .int .u32 y11, .int .u32 y12])).run Try.prog w = .ok (x0 == y0 && (x1 == y1 && (x2 == y2 && (x3 == y3 && (x4 == y4 && (x5 == y5 && (x6 == y6 && (x7 == y7 && (x8 == y8 && (x9 == y9 && (x10 == y10 && (x11 == y11 && (x12 == y12 && true))))))))))))) w := by
  refine eqA_of Try.underlying26 (by kernel_rfl) ?_
  iterate 13 refine eqf_one (by rfl) (by go_simp; rfl) (by go_simp; rfl) (by go_simp) ?_
  exact eqf_nil
end Go.Proofs.Ythopimfpiimloaa
