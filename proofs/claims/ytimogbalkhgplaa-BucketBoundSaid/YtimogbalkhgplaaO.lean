/- A bucket that came in by value: opened; '==' of buckets. -/
import Derived.Test.YtimogbalkhgplaaRows
import Derived.Test.YtimogbalkhgplaaSh
import Derived.WalkKit
import Derived.ProofKit
import Derived.OpenShut
import Derived.Lib.SmallJoins
import Derived.Laws.StructEq
namespace Go.Proofs.Ytimogbalkhgplaa
open Go.ChangeShapes Go.WideShapes Go.ChangeAt Go.RowKit
set_option linter.unusedSimpArgs false
theorem array5 {α : Type} {cs : Array α} (h : cs.size = 5) : ∃ c0 c1 c2 c3 c4, cs = #[c0, c1, c2, c3, c4] := by
  obtain ⟨l⟩ := cs
  match l, h with
  | [c0, c1, c2, c3, c4], _ => exact ⟨c0, c1, c2, c3, c4, rfl⟩
theorem cells24 : Try.prog.cellsOf 24 = 5 := by kernel_rfl
theorem cells22 : Try.prog.cellsOf 22 = 1 := by kernel_rfl
theorem cells2 : Try.prog.cellsOf 2 = 1 := by kernel_rfl
theorem open_bkt {H : Type} {enc : TypeId × Value → H} {W : World} {base : Nat} {spare : Nat → Bool} {held : Bool} {r : Reach} {b0 : Nat} {v : Value} {dd : DataW H} {p : List MemPlace}
    (hv : Value.okWide Try.prog W r b0 24 v) (h : DataW.Trod enc Try.prog W base spare held 24 v dd p) : ∃ d : Bkt, v = d.val ∧ d.Ok := by
  obtain ⟨cs, rfl, hsz⟩ := okWide_struct Try.underlying24 hv
  obtain ⟨c0, c1, c2, c3, c4, rfl⟩ := array5 (hsz.trans cells24)
  obtain ⟨fuel, hf⟩ := h
  obtain ⟨xs, n, _, _, _, hlen, hall⟩ := DataW.trod_struct Try.underlying24 hf
  have hlen' : xs.length = 5 := hlen
  obtain ⟨a0, e0, _, w0⟩ := DataW.trod_int Try.underlying22 ((hall 0 _ rfl).trans (List.getElem?_eq_getElem (by omega)))
  replace e0 : c0 = .int .u64 a0 := by have e : List.take (Try.prog.cellsOf 22) (List.drop 0 _) = _ := e0; rw [cells22] at e; simpa [Value.cells] using e
  obtain ⟨a1, e1, _, w1⟩ := DataW.trod_int Try.underlying2 ((hall 1 _ rfl).trans (List.getElem?_eq_getElem (by omega)))
  replace e1 : c1 = .int .i64 a1 := by have e : List.take (Try.prog.cellsOf 2) (List.drop 1 _) = _ := e1; rw [cells2] at e; simpa [Value.cells] using e
  obtain ⟨a2, e2, _, w2⟩ := DataW.trod_int Try.underlying2 ((hall 2 _ rfl).trans (List.getElem?_eq_getElem (by omega)))
  replace e2 : c2 = .int .i64 a2 := by have e : List.take (Try.prog.cellsOf 2) (List.drop 2 _) = _ := e2; rw [cells2] at e; simpa [Value.cells] using e
  obtain ⟨a3, e3, _, w3⟩ := DataW.trod_int Try.underlying22 ((hall 3 _ rfl).trans (List.getElem?_eq_getElem (by omega)))
  replace e3 : c3 = .int .u64 a3 := by have e : List.take (Try.prog.cellsOf 22) (List.drop 3 _) = _ := e3; rw [cells22] at e; simpa [Value.cells] using e
  obtain ⟨a4, e4, _, w4⟩ := DataW.trod_int Try.underlying22 ((hall 4 _ rfl).trans (List.getElem?_eq_getElem (by omega)))
  replace e4 : c4 = .int .u64 a4 := by have e : List.take (Try.prog.cellsOf 22) (List.drop 4 _) = _ := e4; rw [cells22] at e; simpa [Value.cells] using e
  subst e0 e1 e2 e3 e4
  exact ⟨⟨a0, a1, a2, a3, a4⟩, rfl, ⟨bounds_u64 w0, bounds_i64 w1, bounds_i64 w2, bounds_u64 w3, bounds_u64 w4⟩⟩
section
variable {P : Program} {d : Nat} {xs ys : Array Value} {f : Field} {fs : List Field} {a b : Value} {r s : Bool} {w : World}
theorem eqf_one (hn : (f.name == "_") = false) (ha : (part f.type xs f.offset).run P w = .ok a w) (hb : (part f.type ys f.offset).run P w = .ok b w) (he : (Op.equalIn d f.type a b).run P w = .ok r w) (hr : (Op.eqFields d xs ys fs).run P w = .ok s w) : (Op.eqFields d xs ys (f :: fs)).run P w = .ok (r && s) w := by
  have hn' : f.name ≠ "_" := by simpa using hn
  rw [Op.eqFields]
  simp only [if_pos hn', Sem.run_bind, ha, hb, he, Result.andThen_ok]
  cases r
  · simp
  · simpa using hr
theorem eqf_nil : (Op.eqFields d xs ys []).run P w = .ok true w := by simp [Op.eqFields]
theorem eqA_of {t : TypeId} {fs : Array Field} (hu : P.underlying t = some (.struct fs)) (hp : P.stoodInHeld t = false) (h : (Op.eqFields d xs ys fs.toList).run P w = .ok r w) : (Op.equalIn (d + 1) t (.agg xs) (.agg ys)).run P w = .ok r w := by
  have hf : P.fieldsOf t = fs := by simp [Program.fieldsOf, hu]
  rw [run_equalIn_struct (P := P) w d t xs ys (by rw [hf]; exact hu) hp, hf]
  exact h
end
theorem eqB (d : Nat) (w : World) (x0 y0 x1 y1 x2 y2 x3 y3 x4 y4 : Int) :
    (Op.equalIn (d + 2) 24 (.agg #[.int .u64 x0, .int .i64 x1, .int .i64 x2, .int .u64 x3, .int .u64 x4]) (.agg #[.int .u64 y0, .int .i64 y1, .int .i64 y2, .int .u64 y3, .int .u64 y4])).run Try.prog w = .ok (x0 == y0 && (x1 == y1 && (x2 == y2 && (x3 == y3 && (x4 == y4 && true))))) w := by
  refine eqA_of Try.underlying24 (by kernel_rfl) ?_
  iterate 5 refine eqf_one (by rfl) (by go_simp; rfl) (by go_simp; rfl) (by go_simp) ?_
  exact eqf_nil
end Go.Proofs.Ytimogbalkhgplaa
