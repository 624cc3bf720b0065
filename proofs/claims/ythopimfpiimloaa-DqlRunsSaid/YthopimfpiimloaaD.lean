/- A state that came in by value: opened. -/
import Derived.Test.YthopimfpiimloaaRows
import Derived.Test.YthopimfpiimloaaA
import Derived.WalkKit
import Derived.ProofKit
import Derived.OpenShut
import Derived.Lib.SmallJoins
namespace Go.Proofs.Ythopimfpiimloaa
open Go.ChangeShapes Go.WideShapes Go.ChangeAt Go.RowKit
/-- Each number fits its kind. -/
structure Dql.Ok (d : Dql) : Prop where
  hQueued : 0 ≤ d.Queued ∧ d.Queued ≤ 4294967295
  hAdj : 0 ≤ d.Adj ∧ d.Adj ≤ 4294967295
  hLast : 0 ≤ d.Last ∧ d.Last ≤ 4294967295
  hLimit : 0 ≤ d.Limit ∧ d.Limit ≤ 4294967295
  hCompleted : 0 ≤ d.Completed ∧ d.Completed ≤ 4294967295
  hPrevOver : 0 ≤ d.PrevOver ∧ d.PrevOver ≤ 4294967295
  hPrevLast : 0 ≤ d.PrevLast ∧ d.PrevLast ≤ 4294967295
  hPrevQueued : 0 ≤ d.PrevQueued ∧ d.PrevQueued ≤ 4294967295
  hSlack : 0 ≤ d.Slack ∧ d.Slack ≤ 4294967295
  hStart : 0 ≤ d.Start ∧ d.Start ≤ 18446744073709551615
  hHold : 0 ≤ d.Hold ∧ d.Hold ≤ 18446744073709551615
  hMin : 0 ≤ d.Min ∧ d.Min ≤ 4294967295
  hMax : 0 ≤ d.Max ∧ d.Max ≤ 4294967295
theorem array13 {α : Type} {cs : Array α} (h : cs.size = 13) : ∃ c0 c1 c2 c3 c4 c5 c6 c7 c8 c9 c10 c11 c12, cs = #[c0, c1, c2, c3, c4, c5, c6, c7, c8, c9, c10, c11, c12] := by
  obtain ⟨l⟩ := cs
  match l, h with
  | [c0, c1, c2, c3, c4, c5, c6, c7, c8, c9, c10, c11, c12], _ => exact ⟨c0, c1, c2, c3, c4, c5, c6, c7, c8, c9, c10, c11, c12, rfl⟩
theorem cells26 : Try.prog.cellsOf 26 = 13 := by kernel_rfl
theorem cells22 : Try.prog.cellsOf 22 = 1 := by kernel_rfl
theorem cells23 : Try.prog.cellsOf 23 = 1 := by kernel_rfl
theorem open_dql {H : Type} {enc : TypeId × Value → H} {W : World} {base : Nat} {spare : Nat → Bool} {held : Bool} {r : Reach} {b0 : Nat} {v : Value} {dd : DataW H} {p : List MemPlace}
    (hv : Value.okWide Try.prog W r b0 26 v) (h : DataW.Trod enc Try.prog W base spare held 26 v dd p) : ∃ d : Dql, v = d.val ∧ d.Ok := by
  obtain ⟨cs, rfl, hsz⟩ := okWide_struct Try.underlying26 hv
  obtain ⟨c0, c1, c2, c3, c4, c5, c6, c7, c8, c9, c10, c11, c12, rfl⟩ := array13 (hsz.trans cells26)
  obtain ⟨fuel, hf⟩ := h
  obtain ⟨xs, n, _, _, _, hlen, hall⟩ := DataW.trod_struct Try.underlying26 hf
  have hlen' : xs.length = 13 := hlen
  obtain ⟨a0, e0, _, w0⟩ := DataW.trod_int Try.underlying22 ((hall 0 _ rfl).trans (List.getElem?_eq_getElem (by omega)))
  replace e0 : c0 = .int .u32 a0 := by have e : List.take (Try.prog.cellsOf 22) (List.drop 0 _) = _ := e0; rw [cells22] at e; simpa [Value.cells] using e
  obtain ⟨a1, e1, _, w1⟩ := DataW.trod_int Try.underlying22 ((hall 1 _ rfl).trans (List.getElem?_eq_getElem (by omega)))
  replace e1 : c1 = .int .u32 a1 := by have e : List.take (Try.prog.cellsOf 22) (List.drop 1 _) = _ := e1; rw [cells22] at e; simpa [Value.cells] using e
  obtain ⟨a2, e2, _, w2⟩ := DataW.trod_int Try.underlying22 ((hall 2 _ rfl).trans (List.getElem?_eq_getElem (by omega)))
  replace e2 : c2 = .int .u32 a2 := by have e : List.take (Try.prog.cellsOf 22) (List.drop 2 _) = _ := e2; rw [cells22] at e; simpa [Value.cells] using e
  obtain ⟨a3, e3, _, w3⟩ := DataW.trod_int Try.underlying22 ((hall 3 _ rfl).trans (List.getElem?_eq_getElem (by omega)))
  replace e3 : c3 = .int .u32 a3 := by have e : List.take (Try.prog.cellsOf 22) (List.drop 3 _) = _ := e3; rw [cells22] at e; simpa [Value.cells] using e
  obtain ⟨a4, e4, _, w4⟩ := DataW.trod_int Try.underlying22 ((hall 4 _ rfl).trans (List.getElem?_eq_getElem (by omega)))
  replace e4 : c4 = .int .u32 a4 := by have e : List.take (Try.prog.cellsOf 22) (List.drop 4 _) = _ := e4; rw [cells22] at e; simpa [Value.cells] using e
  obtain ⟨a5, e5, _, w5⟩ := DataW.trod_int Try.underlying22 ((hall 5 _ rfl).trans (List.getElem?_eq_getElem (by omega)))
  replace e5 : c5 = .int .u32 a5 := by have e : List.take (Try.prog.cellsOf 22) (List.drop 5 _) = _ := e5; rw [cells22] at e; simpa [Value.cells] using e
  obtain ⟨a6, e6, _, w6⟩ := DataW.trod_int Try.underlying22 ((hall 6 _ rfl).trans (List.getElem?_eq_getElem (by omega)))
  replace e6 : c6 = .int .u32 a6 := by have e : List.take (Try.prog.cellsOf 22) (List.drop 6 _) = _ := e6; rw [cells22] at e; simpa [Value.cells] using e
  obtain ⟨a7, e7, _, w7⟩ := DataW.trod_int Try.underlying22 ((hall 7 _ rfl).trans (List.getElem?_eq_getElem (by omega)))
  replace e7 : c7 = .int .u32 a7 := by have e : List.take (Try.prog.cellsOf 22) (List.drop 7 _) = _ := e7; rw [cells22] at e; simpa [Value.cells] using e
  obtain ⟨a8, e8, _, w8⟩ := DataW.trod_int Try.underlying22 ((hall 8 _ rfl).trans (List.getElem?_eq_getElem (by omega)))
  replace e8 : c8 = .int .u32 a8 := by have e : List.take (Try.prog.cellsOf 22) (List.drop 8 _) = _ := e8; rw [cells22] at e; simpa [Value.cells] using e
  obtain ⟨a9, e9, _, w9⟩ := DataW.trod_int Try.underlying23 ((hall 9 _ rfl).trans (List.getElem?_eq_getElem (by omega)))
  replace e9 : c9 = .int .u64 a9 := by have e : List.take (Try.prog.cellsOf 23) (List.drop 9 _) = _ := e9; rw [cells23] at e; simpa [Value.cells] using e
  obtain ⟨a10, e10, _, w10⟩ := DataW.trod_int Try.underlying23 ((hall 10 _ rfl).trans (List.getElem?_eq_getElem (by omega)))
  replace e10 : c10 = .int .u64 a10 := by have e : List.take (Try.prog.cellsOf 23) (List.drop 10 _) = _ := e10; rw [cells23] at e; simpa [Value.cells] using e
  obtain ⟨a11, e11, _, w11⟩ := DataW.trod_int Try.underlying22 ((hall 11 _ rfl).trans (List.getElem?_eq_getElem (by omega)))
  replace e11 : c11 = .int .u32 a11 := by have e : List.take (Try.prog.cellsOf 22) (List.drop 11 _) = _ := e11; rw [cells22] at e; simpa [Value.cells] using e
  obtain ⟨a12, e12, _, w12⟩ := DataW.trod_int Try.underlying22 ((hall 12 _ rfl).trans (List.getElem?_eq_getElem (by omega)))
  replace e12 : c12 = .int .u32 a12 := by have e : List.take (Try.prog.cellsOf 22) (List.drop 12 _) = _ := e12; rw [cells22] at e; simpa [Value.cells] using e
  subst e0 e1 e2 e3 e4 e5 e6 e7 e8 e9 e10 e11 e12
  exact ⟨⟨a0, a1, a2, a3, a4, a5, a6, a7, a8, a9, a10, a11, a12⟩, rfl, ⟨bounds_u32 w0, bounds_u32 w1, bounds_u32 w2, bounds_u32 w3, bounds_u32 w4, bounds_u32 w5, bounds_u32 w6, bounds_u32 w7, bounds_u32 w8, bounds_u64 w9, bounds_u64 w10, bounds_u32 w11, bounds_u32 w12⟩⟩
end Go.Proofs.Ythopimfpiimloaa
