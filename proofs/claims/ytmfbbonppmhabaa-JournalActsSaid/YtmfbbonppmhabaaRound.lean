/- A round of a range over a function, walked by the words of everywhere: an operation that is no defer statement does in a round what it does elsewhere. -/
import Derived.Test.YtmfbbonppmhabaaHeld
import Derived.RangeFuncNested
import Derived.RangeFuncLeaves
import Derived.RangeFuncCalls
import Derived.OrdersIn
namespace Go.Proofs.Ytmfbbonppmhabaa
set_option linter.unusedVariables false
set_option linter.unusedSimpArgs false
open Go.RowKit
theorem rowsIn_wide {n : Nat} {P : Program} {row : String} {args : Array Value} {w : World} {R : Value → World → Prop} (h : Rows P row args w R) : RowsIn Fence.wide n P row args w R := by
  intro c cs _
  obtain ⟨v, w', r, s⟩ := h c cs
  exact ⟨v, w', r, stepsIn_wide.2 s⟩
theorem oper_round {l n : Nat} {P : Program} {o : Oper} {a : Act} {w : World} {K : Act → World → Prop} {Q : Exit → Act → World → Prop} (hd : ∀ c, o.op ≠ .defer c) (h : o.wp P a w K Q) :
    o.wpIn (Fence.wide.inRound l) n P a w K Q := by
  unfold Oper.wpIn
  refine ⟨fun _ _ => trivial, ?_⟩
  rw [show (Fence.wide.inRound l).round = some l from rfl, Oper.semAt_some l _ _ hd]
  unfold Oper.wp at h
  generalize (execOp a.eval o).run P w = r at *
  cases r with
  | ok x w' =>
    cases x <;> simp only [Oper.upon] at h <;> simp only [Oper.uponIn]
    case value => exact h
    case skip => exact h
    case defer => exact h
    case enter => exact ⟨fun h => by simp [Fence.wide, Fence.inRound] at h, (callsIn_wide.2 h : CallsIn Fence.wide (n - 1) P _ _ _ _)⟩
    case row => exact ⟨fun h => by simp [Fence.wide, Fence.inRound] at h, (rowsIn_wide h : RowsIn Fence.wide (n - 1) P _ _ _ _)⟩
    all_goals exact h.elim
  | halt x w' => cases x <;> simp only [Oper.upon] at h <;> simp only [Oper.uponIn] <;> exact h
theorem any_round {l n : Nat} {P : Program} {md : Region.Mode} {ops : Array Oper} {Q : Exit → Act → World → Prop} (hops : ∀ o ∈ ops, ∀ c, o.op ≠ .defer c) (hQ : ¬ LetsOut Q) :
    ∀ (fuel : Nat) (listed : Array Bool) (a : Act) (w : World), wpAny P md ops Q fuel listed a w → wpAnyIn (Fence.wide.inRound l) n P md ops Q fuel listed a w
  | 0, _, _, _, h => h
  | fuel + 1, listed, a, w, h => by
    refine ⟨h.1, fun i hi => ?_⟩
    have h2 := h.2 i hi
    unfold wpOp at h2
    unfold wpOpIn
    cases ho : ops[i]? with
    | none =>
      rw [ho] at h2
      exact any_round hops hQ fuel _ _ _ h2
    | some o =>
      rw [ho] at h2
      simp only at h2 ⊢
      split
      · rename_i hw
        rw [if_pos hw] at h2
        rcases h2 with h2 | h2
        · exact oper_round (hops o (Array.mem_of_getElem? ho)) (Oper.wp_mono (fun a' w' h' => any_round hops hQ fuel _ _ _ h') h2)
        · exact absurd h2.2 hQ
      · rename_i hw
        rw [if_neg hw] at h2
        exact ⟨fun _ _ => trivial, any_round hops hQ fuel _ _ _ h2⟩
theorem region_round {l n : Nat} {P : Program} {id : Nat} {ops : Array Oper} {Q : Exit → Act → World → Prop} {a : Act} {w : World} (hm : P.follows .mixedOrders = true) (hops : ∀ o ∈ ops, ∀ c, o.op ≠ .defer c) (hQ : ¬ LetsOut Q)
    (h : wpAny P .any ops Q ops.size (Array.replicate ops.size false) a { w with drawn := w.drawn + 1 }) : (Code.region id ops true).wpIn (Fence.wide.inRound l) n P Q a w :=
  wpIn_region_any hm (any_round hops hQ _ _ _ _ h)
def noDefer (ops : Array Oper) : Bool := ops.all fun o => match o.op with | .defer _ => false | _ => true
theorem noDefer_is {ops : Array Oper} (h : noDefer ops = true) : ∀ o ∈ ops, ∀ c, o.op ≠ .defer c := by
  intro o ho c e
  unfold noDefer at h
  have := (Array.all_eq_true_iff_forall_mem.1 h) o ho
  rw [e] at this; cases this
theorem wpR_region_heldZ {l n : Nat} {P : Program} {ops : Array Oper} {Q : Exit → Act → World → Prop} {S : World → Prop} {id : Nat} {a : Act} {w : World} (z : Nat) (hm : P.follows .mixedOrders = true) (hd : noDefer ops = true) (hQ : ¬ LetsOut Q) (hS : S w.drew)
    (h : S w.drew → wpAnyZ P .any ops Q S z ops.size (Array.replicate ops.size false) a w.drew) : (Code.region id ops true).wpIn (Fence.wide.inRound l) n P Q a w :=
  region_round hm (noDefer_is hd) hQ (wpAnyZ_any _ _ _ _ (h hS))
def setO (w : World) (g : Nat) (o : Obj) : World := { w with heap := w.heap.setIfInBounds g o }
/-- One round, out of its body's walk: the record ready, then busy; the body ends normally; ready again. -/
theorem yield_round {P : Program} {l D : Nat} {fn : FuncId} {tmps : Array Value} {ps : Array Tmp} {assign body : Code} {W : World} {args : Array Value} {R : World → Prop}
    (hl : W.heap[l]? = some (.loop { state := .ready, pending := none, fn := fn, tmps := tmps, params := ps, assign := assign, body := body, defers := D })) (hs : args.size = ps.size)
    (h : assign.wpIn (Fence.wide.inRound l) 0 P (Exit.then (fun a₁ w₁ => w₁ = W ∧ body.wpIn (Fence.wide.inRound l) 0 P (fun e _ W' => e = .normal ∧ W'.heap[l]? = some (.loop { state := .busy, pending := none, fn := fn, tmps := tmps, params := ps, assign := assign, body := body, defers := D }) ∧
        R (setO W' l (.loop { state := .ready, pending := none, fn := fn, tmps := tmps, params := ps, assign := assign, body := body, defers := D })))
      a₁ (setO W l (.loop { state := .busy, pending := none, fn := fn, tmps := tmps, params := ps, assign := assign, body := body, defers := D }))) (fun _ _ _ => False)) { tmps := (ps.zip args).foldl (fun t (p, v) => t.setIfInBounds p v) tmps, defers := [] } W) :
    YieldAt Fence.wide 0 P l args W fun e W' => e = .returned (.bool true) ∧ R W' := by
  have hy := run_yield (P := P) (args := args) hl hs
  refine ⟨fn, _, assign, body, hy, roundIn_of_wpIn trivial (wpIn_mono h ?_)⟩
  rintro e a1 w1 hq
  cases e with
  | normal =>
    obtain ⟨rfl, hb⟩ := hq
    refine ⟨_, run_beginRound hl rfl, wpIn_mono hb ?_⟩
    rintro e2 a2 w2 ⟨rfl, h2, hR⟩
    refine ⟨_, _, run_endRound none h2, rfl, hR⟩
  | exit id => exact hq.elim
  | goto t => exact hq.elim
  | ret => exact hq.elim
  | panic c => exact hq.elim
  | outgrown => exact hq.elim
/-- The statement: the record and the block for the rounds' deferred calls are laid; the iterator's contract; the record is shut. -/
theorem wp_rangeFunc {P : Program} {g : Operand} {ps : Array Tmp} {assign body : Code} {Q : Exit → Act → World → Prop} {a : Act} {w : World} {gf : Nat} {lb : Array Value}
    (hg : a.eval g = .func (.func gf) #[] lb) (eg : ∀ args w, (callFunc gf args).run P w = .ok (.enter gf args) w)
    (h : ∀ fn, CallsIn Fence.wide 0 P gf (#[.func (.yield (w.heap.size + 1)) #[] #[]] ++ lb)
      ((w.alloc (.deferred (some []))).alloc (.loop { state := .ready, pending := none, fn := fn, tmps := a.tmps, params := ps, assign := assign, body := body, defers := w.heap.size }))
      fun e W2 => (∃ v, e = .returned v) ∧ W2.heap[w.heap.size + 1]? = some (.loop { state := .ready, pending := none, fn := fn, tmps := a.tmps, params := ps, assign := assign, body := body, defers := w.heap.size }) ∧
        Q .normal { a with defers := { target := .collected w.heap.size, args := #[] } :: a.defers } (setO W2 (w.heap.size + 1) (.loop { state := .exhausted, pending := none, fn := fn, tmps := a.tmps, params := ps, assign := assign, body := body, defers := w.heap.size }))) :
    (Code.rangeFunc g ps assign body).wp P Q a w := by
  refine (wpIn_wide (n := 0)).1 (wpIn_rangeFunc ?_)
  intro fn _
  obtain ⟨W1, hW1⟩ : ∃ W1, (w.alloc (.deferred (some []))).alloc (.loop { state := .ready, pending := none, fn := fn, tmps := a.tmps, params := ps, assign := assign, body := body, defers := w.heap.size }) = W1 := ⟨_, rfl⟩
  have h2 := h fn
  rw [hW1] at h2
  refine ⟨w.heap.size + 1, [{ target := .collected w.heap.size, args := #[] }], W1, { target := .fn (.func gf) lb, args := #[.func (.yield (w.heap.size + 1)) #[] #[]] }, W1, gf,
    #[.func (.yield (w.heap.size + 1)) #[] #[]] ++ lb, W1, ?_, ?_, ?_, ?_, ?_, ?_⟩
  · rw [← hW1]; exact run_enterLoop_outer _ _ _ _ _
  · simp only [resolve, hg]
    simp [go_sem]
  · intro f' _; trivial
  · simp [invoke, go_sem, eg]
  · intro h; simp [Fence.wide] at h
  · refine h2.mono ?_
    rintro e W2 ⟨⟨v, rfl⟩, hl, hQ⟩
    exact ⟨none, _, run_endLoop hl (by simp), hQ⟩
/-- The same, the record's three states as objects: what the rounds' caller need not see. -/
theorem wp_rangeFunc2 {P : Program} {g : Operand} {ps : Array Tmp} {assign body : Code} {Q : Exit → Act → World → Prop} {a : Act} {w : World} {gf : Nat} {lb : Array Value}
    (hg : a.eval g = .func (.func gf) #[] lb) (eg : ∀ args w, (callFunc gf args).run P w = .ok (.enter gf args) w)
    (h : ∀ rd bz ex : Obj,
      (∀ (W : World) (args : Array Value) (R : World → Prop), args.size = ps.size → W.heap[w.heap.size + 1]? = some rd →
        assign.wpIn (Fence.wide.inRound (w.heap.size + 1)) 0 P (Exit.then (fun a₁ w₁ => w₁ = W ∧ body.wpIn (Fence.wide.inRound (w.heap.size + 1)) 0 P (fun e _ W' => e = .normal ∧ W'.heap[w.heap.size + 1]? = some bz ∧ R (setO W' (w.heap.size + 1) rd)) a₁ (setO W (w.heap.size + 1) bz)) (fun _ _ _ => False)) { tmps := (ps.zip args).foldl (fun t (p, v) => t.setIfInBounds p v) a.tmps, defers := [] } W →
        YieldAt Fence.wide 0 P (w.heap.size + 1) args W fun e W' => e = .returned (.bool true) ∧ R W') →
      CallsIn Fence.wide 0 P gf (#[.func (.yield (w.heap.size + 1)) #[] #[]] ++ lb) ((w.alloc (.deferred (some []))).alloc rd)
        fun e W2 => (∃ v, e = .returned v) ∧ W2.heap[w.heap.size + 1]? = some rd ∧ Q .normal { a with defers := { target := .collected w.heap.size, args := #[] } :: a.defers } (setO W2 (w.heap.size + 1) ex)) :
    (Code.rangeFunc g ps assign body).wp P Q a w :=
  wp_rangeFunc hg eg fun fn => h _ _ _ fun W args R hs hl hr => yield_round hl hs hr
end Go.Proofs.Ytmfbbonppmhabaa
