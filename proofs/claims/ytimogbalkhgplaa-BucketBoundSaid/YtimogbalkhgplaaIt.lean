/- A range over a function, met directly: the statement, one round, the end; a function that holds one. -/
import Derived.RangeFuncNested
import Derived.RangeFuncBound
import Derived.RangeFuncCalls
import Derived.RangeFuncLeaves
import Derived.WalkKit
namespace Go.Proofs.Ytimogbalkhgplaa
open Go.RowKit

/-- The loop's record. -/
def recOf (fn : FuncId) (tmps : Array Value) (ps : Array Tmp) (assign body : Code) (D : Nat) (st : LoopState) (pe : Option Code) : Loop := { state := st, pending := pe, fn, tmps, params := ps, assign, body, defers := D }

/-- What a body must achieve, closed to the walk's looks. -/
structure MarksPost (P : Program) (fn : Func) (R : Ending → World → Prop) (e : Exit) (a : Act) (w : World) : Prop where
  out : bodyPostM Fence.wide 0 P fn R e a w
theorem calls_of_marks {P : Program} {f : FuncId} {fn : Func} {c : Code} {args : Array Value} {w : World} {R : Ending → World → Prop} (hf : P.funcs[f]? = some fn) (hb : fn.body = some c)
    (h : c.wp P (MarksPost P fn R) { tmps := args ++ Array.replicate (fn.ntmps - args.size) undef, defers := [] } w) : Calls P f args w R :=
  (callsIn_wide (n := 0)).1 (callsIn_of_wp_marks hf hb trivial (wpIn_wide.2 (wp_mono h fun _ _ _ hh => hh.out)) rfl)

/-- A return ahead of the loop. -/
theorem marks_ret0 {P : Program} {fn : Func} {R : Ending → World → Prop} {a : Act} {w : World} {v : Value} (hd : a.defers = []) (hr : (results fn a.tmps).run P w = .ok v w) (hR : R (.returned v) w) :
    MarksPost P fn R .ret a w := by
  refine ⟨?_⟩
  show LeavesInM _ _ _ _ _ _ a.defers _ _
  rw [hd]
  exact ⟨v, hr, hR⟩
/-- A return behind the loop: the mark is come to. -/
theorem marks_ret1 {P : Program} {fn : Func} {R : Ending → World → Prop} {a : Act} {w : World} {v : Value} {D : Nat} (hd : a.defers = [{ target := .collected D, args := #[] }]) (hD : w.heap[D]? = some (.deferred (some [])))
    (hr : (results fn a.tmps).run P (w.putObj D (.deferred none)) = .ok v (w.putObj D (.deferred none))) (hR : R (.returned v) (w.putObj D (.deferred none))) :
    MarksPost P fn R .ret a w := by
  refine ⟨?_⟩
  show LeavesInM _ _ _ _ _ _ a.defers _ _
  rw [hd]
  exact ⟨by simp, .inl ⟨D, _, rfl, run_takeDeferred hD, v, hr, hR⟩⟩
theorem marks_end1 {P : Program} {fn : Func} {R : Ending → World → Prop} {a : Act} {w : World} {v : Value} {D : Nat} (hd : a.defers = [{ target := .collected D, args := #[] }]) (hD : w.heap[D]? = some (.deferred (some [])))
    (hr : (results fn a.tmps).run P (w.putObj D (.deferred none)) = .ok v (w.putObj D (.deferred none))) (hR : R (.returned v) (w.putObj D (.deferred none))) :
    MarksPost P fn R .normal a w := ⟨(marks_ret1 hd hD hr hR).out⟩

/-- THE STATEMENT: the record and the block for deferred calls are laid; the iterator is called. -/
theorem wp_range {P : Program} {g : Operand} {ps : Array Tmp} {assign body : Code} {Q : Exit → Act → World → Prop} {a : Act} {w : World} {gf : FuncId} {lb : Array Value}
    (hg : a.eval g = .func (.func gf) #[] lb) (eg : ∀ args w, (callFunc gf args).run P w = .ok (.enter gf args) w)
    (h : ∀ fn, CallsIn Fence.wide 0 P gf (#[.func (.yield (w.heap.size + 1)) #[] #[]] ++ lb) ((w.alloc (.deferred (some []))).alloc (.loop (recOf fn a.tmps ps assign body w.heap.size .ready none)))
      (rangePost Fence.wide 0 P (w.heap.size + 1) Q { a with defers := { target := .collected w.heap.size, args := #[] } :: a.defers })) :
    (Code.rangeFunc g ps assign body).wp P Q a w := by
  refine (wpIn_wide (n := 0)).1 (wpIn_rangeFunc ?_)
  intro fn _
  have he := run_enterLoop_outer (P := P) (w := w) fn a.tmps ps assign body
  have hc := h fn
  unfold recOf at hc
  generalize ((w.alloc (.deferred (some []))).alloc (.loop { state := .ready, pending := none, fn, tmps := a.tmps, params := ps, assign, body, defers := w.heap.size })) = W1 at he hc
  refine ⟨w.heap.size + 1, [{ target := .collected w.heap.size, args := #[] }], W1, { target := .fn (.func gf) lb, args := #[.func (.yield (w.heap.size + 1)) #[] #[]] }, W1, gf,
    #[.func (.yield (w.heap.size + 1)) #[] #[]] ++ lb, W1, he, ?_, ?_, ?_, ?_, ?_⟩
  · simp only [resolve, hg]
    simp [go_sem]
  · intro f' hf'; simp [Target.leads] at hf'; subst hf'; trivial
  · simp [invoke, go_sem, eg]
  · intro hh; simp [Fence.wide] at hh
  · exact hc

/-- The end of the statement: nothing pending. -/
theorem range_done {P : Program} {l : Nat} {Q : Exit → Act → World → Prop} {a : Act} {w : World} {v : Value} {r : Loop} (hl : w.heap[l]? = some (.loop r)) (hs : r.state ≠ .busy) (hp : r.pending = none)
    (h : Q .normal a (w.putObj l (.loop { r with state := .exhausted }))) : rangePost Fence.wide 0 P l Q a (.returned v) w := by
  refine ⟨none, _, ?_, h⟩
  have := run_endLoop (P := P) hl hs
  rw [this, hp]
/-- The end of the statement: a round has left by a jump. -/
theorem range_jump {P : Program} {l : Nat} {Q : Exit → Act → World → Prop} {a : Act} {w : World} {v : Value} {r : Loop} {c : Code} (hl : w.heap[l]? = some (.loop r)) (hs : r.state ≠ .busy) (hp : r.pending = some c)
    (h : c.wp P Q a (w.putObj l (.loop { r with state := .exhausted }))) : rangePost Fence.wide 0 P l Q a (.returned v) w := by
  refine ⟨some c, _, ?_, wpIn_wide.2 h⟩
  have := run_endLoop (P := P) hl hs
  rw [this, hp]

/-- How a round's body is left: what becomes of the record. -/
def roundEnd (l : Nat) (r : Loop) (R : Ending → World → Prop) : Exit → Act → World → Prop
  | .normal, _, w => w.heap[l]? = some (.loop { r with state := .busy }) ∧ R (.returned (.bool true)) (w.putObj l (.loop { r with state := .ready, pending := none }))
  | .ret, _, w => w.heap[l]? = some (.loop { r with state := .busy }) ∧ R (.returned (.bool false)) (w.putObj l (.loop { r with state := .done, pending := some .ret }))
  | .exit id, _, w => w.heap[l]? = some (.loop { r with state := .busy }) ∧ R (.returned (.bool false)) (w.putObj l (.loop { r with state := .done, pending := some (.exit id) }))
  | _, _, _ => False
theorem recOf_state (fn : FuncId) (tmps : Array Value) (ps : Array Tmp) (assign body : Code) (D : Nat) (st st' : LoopState) (pe pe' : Option Code) : ({ recOf fn tmps ps assign body D st pe with state := st', pending := pe' } : Loop) = recOf fn tmps ps assign body D st' pe' := rfl
/-- ONE ROUND: yield is called. -/
theorem yield_round {P : Program} {l : Nat} {r : Loop} {args : Array Value} {W : World} {R : Ending → World → Prop} (hl : W.heap[l]? = some (.loop r)) (hr : r.state = .ready) (hs : args.size = r.params.size)
    (h : r.assign.wpIn (Fence.wide.inRound l) 0 P (Exit.then (fun a₁ w₁ => w₁.heap[l]? = some (.loop r) ∧ r.body.wpIn (Fence.wide.inRound l) 0 P (roundEnd l r R) a₁ (w₁.putObj l (.loop { r with state := .busy }))) (fun _ _ _ => False))
      { tmps := (r.params.zip args).foldl (fun tmps (t, a) => tmps.setIfInBounds t a) r.tmps, defers := [] } W) : YieldAt Fence.wide 0 P l args W R := by
  refine ⟨r.fn, _, r.assign, r.body, run_yield hl hs, roundIn_of_wpIn trivial (wpIn_mono h ?_)⟩
  intro e a w hq
  cases e with
  | normal =>
    obtain ⟨h1, h2⟩ := hq
    refine ⟨_, run_beginRound h1 hr, wpIn_mono h2 ?_⟩
    intro e a w hp
    cases e with
    | normal => exact ⟨_, _, run_endRound none hp.1, hp.2⟩
    | ret => exact ⟨_, _, run_endRound (some .ret) hp.1, hp.2⟩
    | exit id => exact ⟨_, _, run_endRound (some (.exit id)) hp.1, hp.2⟩
    | goto t => exact hp.elim
    | panic ch => exact hp.elim
    | outgrown => exact hp.elim
  | _ => exact hq.elim

/-- How a round's body is left, the record's fixed parts kept closed. -/
def roundOut (l : Nat) (r : LoopState → Option Code → Loop) (R : Ending → World → Prop) : Exit → Act → World → Prop
  | .normal, _, w => w.heap[l]? = some (.loop (r .busy none)) ∧ R (.returned (.bool true)) (w.putObj l (.loop (r .ready none)))
  | .ret, _, w => w.heap[l]? = some (.loop (r .busy none)) ∧ R (.returned (.bool false)) (w.putObj l (.loop (r .done (some .ret))))
  | .exit id, _, w => w.heap[l]? = some (.loop (r .busy none)) ∧ R (.returned (.bool false)) (w.putObj l (.loop (r .done (some (.exit id)))))
  | _, _, _ => False
/-- ONE ROUND of a record whose parts are named. -/
theorem yield_rec {P : Program} {l : Nat} {fn : FuncId} {tmps T : Array Value} {ps : Array Tmp} {assign body A B : Code} {D : Nat} {args : Array Value} {W : World} {R : Ending → World → Prop}
    (hl : W.heap[l]? = some (.loop (recOf fn tmps ps assign body D .ready none))) (hs : args.size = ps.size) (hT : tmps = T) (hA : assign = A) (hB : body = B)
    (h : A.wpIn (Fence.wide.inRound l) 0 P (Exit.then (fun a₁ w₁ => w₁.heap[l]? = some (.loop (recOf fn tmps ps assign body D .ready none)) ∧
        B.wpIn (Fence.wide.inRound l) 0 P (roundOut l (recOf fn tmps ps assign body D) R) a₁ (w₁.putObj l (.loop (recOf fn tmps ps assign body D .busy none)))) (fun _ _ _ => False))
      { tmps := (ps.zip args).foldl (fun tmps (t, a) => tmps.setIfInBounds t a) T, defers := [] } W) : YieldAt Fence.wide 0 P l args W R := by
  refine yield_round hl rfl hs ?_
  show assign.wpIn _ _ _ _ { tmps := (ps.zip args).foldl _ tmps, defers := [] } W
  subst hT hA
  refine wpIn_mono h ?_
  intro e a w hq
  cases e with
  | normal =>
    refine ⟨hq.1, ?_⟩
    subst hB
    refine wpIn_mono hq.2 ?_
    intro e a w hp
    cases e with
    | normal => exact hp
    | ret => exact hp
    | exit id => exact hp
    | goto t => exact hp
    | panic ch => exact hp
    | outgrown => exact hp
  | _ => exact hq.elim

/-! ### Cells lie as they lay where a block that holds none turns -/
theorem heap_putObj_ne {w : World} {l k : Nat} (o : Obj) (h : k ≠ l) : (w.putObj l o).heap[k]? = w.heap[k]? := World.putObj_heap_other h
theorem cell_put_loop {w : World} {l : Nat} {r : Loop} (r' : Loop) (h : w.heap[l]? = some (.loop r)) (a : Addr) : (w.putObj l (.loop r')).cell? a = w.cell? a := by
  by_cases e : a.block = l
  · have hlt := (Array.getElem?_eq_some_iff.1 h).1
    simp only [World.cell?, e, h, World.putObj_heap_same hlt]
  · exact World.cell?_of_block (World.putObj_heap_other e)
theorem below_putObj {w0 w : World} (h : Below w0.heap.size w0 w) {l : Nat} (hl : w0.heap.size ≤ l) (o : Obj) : Below w0.heap.size w0 (w.putObj l o) :=
  h.grown (grownBy_putObj' w l o) h.size (fun k e => by cases e; exact hl)

/-- THE STATEMENT IN A BLOCK OF ITS OWN, whose rounds go on or break: what holds behind it holds however it was left. -/
theorem wp_range_blk {P : Program} {g : Operand} {ps : Array Tmp} {assign body : Code} {Q0 : Exit → Act → World → Prop} {a : Act} {w : World} {gf : FuncId} {lb : Array Value} {bid : Nat}
    (hg : a.eval g = .func (.func gf) #[] lb) (eg : ∀ args w, (callFunc gf args).run P w = .ok (.enter gf args) w) (Fin : World → Prop)
    (h : ∀ fn tm as bo, tm = a.tmps → as = assign → bo = body → CallsIn Fence.wide 0 P gf (#[.func (.yield (w.heap.size + 1)) #[] #[]] ++ lb) ((w.alloc (.deferred (some []))).alloc (.loop (recOf fn tm ps as bo w.heap.size .ready none)))
      (fun e W => (∃ v, e = .returned v) ∧ ∃ r, W.heap[w.heap.size + 1]? = some (.loop r) ∧ r.state ≠ .busy ∧ (r.pending = none ∨ r.pending = some (.exit bid)) ∧ Fin (W.putObj (w.heap.size + 1) (.loop { r with state := .exhausted }))))
    (hn : ∀ W, Fin W → Q0 .normal { a with defers := { target := .collected w.heap.size, args := #[] } :: a.defers } W) :
    (Code.rangeFunc g ps assign body).wp P (Exit.inBlock bid Q0) a w := by
  refine wp_range hg eg (fun fn => (h fn _ _ _ rfl rfl rfl).mono ?_)
  rintro e W ⟨⟨v, rfl⟩, r, hl, hs, hp | hp, hF⟩
  · exact range_done hl hs hp (hn _ hF)
  · refine range_jump hl hs hp (wp_exit ?_)
    simpa [Exit.inBlock] using hn _ hF
end Go.Proofs.Ytimogbalkhgplaa
