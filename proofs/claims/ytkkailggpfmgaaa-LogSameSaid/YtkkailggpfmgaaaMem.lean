/- What a call turns, block by block: objects behind pointers, apart from one another. -/
import Derived.Test.YtkkailggpfmgaaaGen
import Derived.Laws.CopyOwn
import Derived.Laws.LoneSync
namespace Go.Proofs.Ytkkailggpfmgaaa
set_option linter.unusedVariables false
set_option linter.unusedSimpArgs false
open Go.RowKit

/-- Of the blocks that are there, none but those of `M` is turned. -/
structure Touch (M : Nat → Prop) (w w' : World) : Prop where
  os : w'.os = w.os
  tape : w'.tape = w.tape
  output : w'.output = w.output
  size : w.heap.size ≤ w'.heap.size
  block : ∀ k, k < w.heap.size → ¬ M k → w'.heap[k]? = w.heap[k]?

theorem Touch.refl (M : Nat → Prop) (w : World) : Touch M w w := ⟨rfl, rfl, rfl, Nat.le_refl _, fun _ _ _ => rfl⟩
theorem Touch.trans {M N : Nat → Prop} {a b c : World} (h : Touch M a b) (k : Touch N b c) (hN : ∀ x, N x → M x ∨ a.heap.size ≤ x) : Touch M a c :=
  ⟨k.os.trans h.os, k.tape.trans h.tape, k.output.trans h.output, Nat.le_trans h.size k.size, fun i hi hm =>
    (k.block i (Nat.lt_of_lt_of_le hi h.size) (fun hn => by rcases hN i hn with h1 | h1; exact hm h1; omega)).trans (h.block i hi hm)⟩
theorem Touch.mono {M N : Nat → Prop} {w w' : World} (h : Touch M w w') (hN : ∀ x, M x → N x) : Touch N w w' := ⟨h.os, h.tape, h.output, h.size, fun k hk hn => h.block k hk (fun hm => hn (hN k hm))⟩
theorem Touch.drewN {M : Nat → Prop} {a w : World} (h : Touch M a w) (n : Nat) : Touch M a (w.drewN n) := ⟨h.os, h.tape, h.output, h.size, h.block⟩
theorem Touch.undrewN {M : Nat → Prop} {a w : World} {n : Nat} (h : Touch M (a.drewN n) w) : Touch M a w := ⟨h.os, h.tape, h.output, h.size, h.block⟩
theorem Touch.undrew {M : Nat → Prop} {a w : World} (h : Touch M a.drew w) : Touch M a w := ⟨h.os, h.tape, h.output, h.size, h.block⟩
theorem Touch.alloc {M : Nat → Prop} {a w : World} (h : Touch M a w) (o : Obj) : Touch M a (w.alloc o) :=
  h.trans (N := fun _ => False) ⟨rfl, rfl, rfl, by simp, fun k hk _ => Below.heap_alloc _ _ _ hk⟩ (fun _ h => h.elim)
theorem Touch.setCell {M : Nat → Prop} {a w : World} (h : Touch M a w) {p : Addr} (hp : M p.block ∨ a.heap.size ≤ p.block) (u : Value) : Touch M a (w.setCell p u) :=
  h.trans (N := fun x => x = p.block) ⟨rfl, rfl, rfl, by simp [World.setCell], fun k hk hne => Below.heap_setCell _ _ _ _ hne⟩ (fun x hx => by subst hx; exact hp)
theorem Touch.setRow {M : Nat → Prop} {a w : World} (h : Touch M a w) {g : Nat} (hp : M g ∨ a.heap.size ≤ g) (cs : Array Value) : Touch M a (w.setRow g cs) :=
  h.trans (N := fun x => x = g) ⟨rfl, rfl, rfl, by simp [World.setRow], fun k hk hne => setRow_other w g k cs hne⟩ (fun x hx => by subst hx; exact hp)
theorem Touch.ofBelow {M : Nat → Prop} {w w' : World} (h : Below w.heap.size w w') : Touch M w w' := ⟨h.os, h.tape, h.output, h.size, fun k hk _ => h.block k hk⟩
theorem Touch.below {M : Nat → Prop} {w w' : World} {B : Nat} (h : Touch M w w') (hM : ∀ x, M x → B ≤ x) (hB : B ≤ w.heap.size) : Below B w w' :=
  ⟨h.os, h.tape, h.output, h.size, fun k hk => h.block k (by omega) (fun hm => by have := hM k hm; omega)⟩
theorem Touch.thenBelow {M : Nat → Prop} {a b c : World} (h : Touch M a b) (k : Below b.heap.size b c) : Touch M a c := h.trans (N := fun _ => False) (Touch.ofBelow k) (fun _ h => h.elim)

theorem At.touch {M : Nat → Prop} {w w' : World} {a : Option Addr} {l : List UInt8} (h : At w a l) (ht : Touch M w w') (hne : ∀ x, a = some x → ¬ M x.block) : At w' a l := by
  intro k hk
  obtain ⟨h1, h2⟩ := h k hk
  refine ⟨h1, ?_⟩
  obtain ⟨x, rfl⟩ := Option.isSome_iff_exists.1 h1
  have e : (adr (some x) k).block = x.block := by simp [adr]; unfold Addr.add; split <;> rfl
  rw [← h2]
  exact World.cell?_of_block (w := w) (ht.block _ (by rw [e]; exact h.lt (by omega) x rfl) (by rw [e]; exact hne x rfl))
theorem AtG.touch {α : Type} {e : Elt α} (he : e.Ok) {M : Nat → Prop} {w w' : World} {a : Option Addr} {l : List α} (h : AtG e w a l) (ht : Touch M w w') (hne : ∀ x, a = some x → ¬ M x.block) : AtG e w' a l := by
  intro k hk
  obtain ⟨h1, h2⟩ := h k hk
  refine ⟨h1, fun j hj => ?_⟩
  obtain ⟨x, rfl⟩ := Option.isSome_iff_exists.1 h1
  have ee : (adr (some x) (k * e.s + j)).block = x.block := by simp [adr]; unfold Addr.add; split <;> rfl
  rw [← h2 j hj]
  exact World.cell?_of_block (w := w) (ht.block _ (by rw [ee]; exact h.lt he (by omega) x rfl) (by rw [ee]; exact hne x rfl))
theorem OwnG.touch {α : Type} {e : Elt α} {M : Nat → Prop} {w w' : World} {B : Nat} {v : Value} {l : List α} (h : OwnG e w B v l) (ht : Touch M w w') (hne : ∀ g, v.ownBlock = some g → ¬ M g) : OwnG e w' B v l := by
  refine ⟨h.1, ?_⟩
  rcases h.2 with hn | ⟨g, cap, cur, rfl, h1, hg, rest⟩
  · exact .inl hn
  · refine .inr ⟨g, cap, cur, rfl, h1, ?_, rest⟩
    rw [ht.block g (Array.getElem?_eq_some_iff.1 hg).1 (hne g rfl)]; exact hg
theorem Own.touch {M : Nat → Prop} {w w' : World} {B : Nat} {v : Value} {l : List UInt8} (h : Own w B v l) (ht : Touch M w w') (hne : ∀ g, v.ownBlock = some g → ¬ M g) : Own w' B v l :=
  (ownB _ _ _ _).1 (((ownB _ _ _ _).2 h).touch ht hne)
theorem Apped.touch {α : Type} {e : Elt α} {w w' : World} {B : Nat} {v v' : Value} {l : List α} (h : Apped e w w' B v v' l) : Touch (fun b => v.ownBlock = some b) w w' :=
  ⟨h.below.os, h.below.tape, h.below.output, h.below.size, fun b hb hn => h.keep b hb hn⟩
theorem own_lt {α : Type} {e : Elt α} {w : World} {B : Nat} {v : Value} {l : List α} (h : OwnG e w B v l) : ∀ g, v.ownBlock = some g → B ≤ g ∧ g < w.heap.size := World.ownsRow.lt h

/-- A slice's value says where its row lies: the address that a slice of the call's own has. -/
theorem OwnG.at {α : Type} {e : Elt α} (he : e.Ok) {w : World} {B : Nat} {v : Value} {l : List α} (h : OwnG e w B v l) :
    ∃ a cap, v = .slice a l.length cap ∧ l.length ≤ cap ∧ cap ≤ maxLen ∧ (a = none → cap = 0) ∧ AtG e w a l ∧ ∀ x, a = some x → v.ownBlock = some x.block := by
  obtain ⟨a, cap, rfl, h1, h2, h3, h4⟩ := h.sl he
  refine ⟨a, cap, rfl, h1, h2, h3, h4, ?_⟩
  rintro x rfl
  rfl

/-- A function that has a body is entered. -/
theorem run_enter {f : FuncId} {fn : Func} {c : Code} (hf : Try.prog.funcs[f]? = some fn) (hname : (fn.name == "runtime.NumGoroutine") = false) (hb : fn.body = some c) (args : Array Value) (w : World) :
    (callFunc f args).run Try.prog w = .ok (.enter f args) w := by
  have h1 : fn.name ≠ "runtime.NumGoroutine" := by simpa using hname
  simp [callFunc, hf, h1, hb]
/-- A call of a Go function as one step of a region that draws its order. -/
theorem step_call1 {ops : Array Oper} {o : Oper} {a : Act} {w : World} {K : Act → World → Prop} {Q : Exit → Act → World → Prop} {E : Prop} (hw : Region.wanted o (yielded ops a.tmps) = true) (f : FuncId) (x : Operand) (t : TypeId)
    (ho : o.op = .call { callee := .value (.func f), args := #[x], argTypes := #[t] }) (y : Value) (hx : a.eval x = y) (he : ∀ w, (callFunc f #[y]).run Try.prog w = .ok (.enter f #[y]) w)
    {R : Value → World → Prop} (hc : Calls Try.prog f #[y] w fun e w' => ∃ v, e = .returned v ∧ R v w') (h : ∀ v w', R v w' → K (a.put o.dst v) w') :
    if Region.wanted o (yielded ops a.tmps) = true then Oper.wp Try.prog o a w K Q else E := by
  rw [if_pos hw]
  unfold Oper.wp execOp
  have e1 : a.eval (Operand.func f) = Value.func (Fn.func f) #[] #[] := rfl
  have e2 : (callFunc f (#[] ++ #[y] ++ #[])).run Try.prog w = .ok (.enter f #[y]) w := by simpa using he w
  simp only [ho, resolve, invoke, Sem.run_bind, Sem.run_pure, Result.andThen_ok, List.map_toArray, List.map_cons, List.map_nil, hx, e1, Deferred.ofValue, e2]
  rw [Oper.upon_enter]
  refine hc.mono ?_
  rintro e w' ⟨v, rfl, hr⟩
  exact h v w' hr

theorem step_call0 {ops : Array Oper} {o : Oper} {a : Act} {w : World} {K : Act → World → Prop} {Q : Exit → Act → World → Prop} {E : Prop} (hw : Region.wanted o (yielded ops a.tmps) = true) (f : FuncId) 
    (ho : o.op = .call { callee := .value (.func f), args := #[], argTypes := #[] })  (he : ∀ w, (callFunc f #[]).run Try.prog w = .ok (.enter f #[]) w)
    {R : Value → World → Prop} (hc : Calls Try.prog f #[] w fun e w' => ∃ v, e = .returned v ∧ R v w') (h : ∀ v w', R v w' → K (a.put o.dst v) w') :
    if Region.wanted o (yielded ops a.tmps) = true then Oper.wp Try.prog o a w K Q else E := by
  rw [if_pos hw]
  unfold Oper.wp execOp
  have e1 : a.eval (Operand.func f) = Value.func (Fn.func f) #[] #[] := rfl
  have e2 : (callFunc f (#[] ++ #[] ++ #[])).run Try.prog w = .ok (.enter f #[]) w := by simpa using he w
  simp only [ho, resolve, invoke, Sem.run_bind, Sem.run_pure, Result.andThen_ok, List.map_toArray, List.map_cons, List.map_nil, e1, Deferred.ofValue, e2]
  rw [Oper.upon_enter]
  refine hc.mono ?_
  rintro e w' ⟨v, rfl, hr⟩
  exact h v w' hr
theorem step_call2 {ops : Array Oper} {o : Oper} {a : Act} {w : World} {K : Act → World → Prop} {Q : Exit → Act → World → Prop} {E : Prop} (hw : Region.wanted o (yielded ops a.tmps) = true) (f : FuncId) (x1 x2 : Operand) (t1 t2 : TypeId)
    (ho : o.op = .call { callee := .value (.func f), args := #[x1, x2], argTypes := #[t1, t2] }) (y1 : Value) (h1 : a.eval x1 = y1) (y2 : Value) (h2 : a.eval x2 = y2) (he : ∀ w, (callFunc f #[y1, y2]).run Try.prog w = .ok (.enter f #[y1, y2]) w)
    {R : Value → World → Prop} (hc : Calls Try.prog f #[y1, y2] w fun e w' => ∃ v, e = .returned v ∧ R v w') (h : ∀ v w', R v w' → K (a.put o.dst v) w') :
    if Region.wanted o (yielded ops a.tmps) = true then Oper.wp Try.prog o a w K Q else E := by
  rw [if_pos hw]
  unfold Oper.wp execOp
  have e1 : a.eval (Operand.func f) = Value.func (Fn.func f) #[] #[] := rfl
  have e2 : (callFunc f (#[] ++ #[y1, y2] ++ #[])).run Try.prog w = .ok (.enter f #[y1, y2]) w := by simpa using he w
  simp only [ho, resolve, invoke, Sem.run_bind, Sem.run_pure, Result.andThen_ok, List.map_toArray, List.map_cons, List.map_nil, h1, h2, e1, Deferred.ofValue, e2]
  rw [Oper.upon_enter]
  refine hc.mono ?_
  rintro e w' ⟨v, rfl, hr⟩
  exact h v w' hr
theorem step_call3 {ops : Array Oper} {o : Oper} {a : Act} {w : World} {K : Act → World → Prop} {Q : Exit → Act → World → Prop} {E : Prop} (hw : Region.wanted o (yielded ops a.tmps) = true) (f : FuncId) (x1 x2 x3 : Operand) (t1 t2 t3 : TypeId)
    (ho : o.op = .call { callee := .value (.func f), args := #[x1, x2, x3], argTypes := #[t1, t2, t3] }) (y1 : Value) (h1 : a.eval x1 = y1) (y2 : Value) (h2 : a.eval x2 = y2) (y3 : Value) (h3 : a.eval x3 = y3) (he : ∀ w, (callFunc f #[y1, y2, y3]).run Try.prog w = .ok (.enter f #[y1, y2, y3]) w)
    {R : Value → World → Prop} (hc : Calls Try.prog f #[y1, y2, y3] w fun e w' => ∃ v, e = .returned v ∧ R v w') (h : ∀ v w', R v w' → K (a.put o.dst v) w') :
    if Region.wanted o (yielded ops a.tmps) = true then Oper.wp Try.prog o a w K Q else E := by
  rw [if_pos hw]
  unfold Oper.wp execOp
  have e1 : a.eval (Operand.func f) = Value.func (Fn.func f) #[] #[] := rfl
  have e2 : (callFunc f (#[] ++ #[y1, y2, y3] ++ #[])).run Try.prog w = .ok (.enter f #[y1, y2, y3]) w := by simpa using he w
  simp only [ho, resolve, invoke, Sem.run_bind, Sem.run_pure, Result.andThen_ok, List.map_toArray, List.map_cons, List.map_nil, h1, h2, h3, e1, Deferred.ofValue, e2]
  rw [Oper.upon_enter]
  refine hc.mono ?_
  rintro e w' ⟨v, rfl, hr⟩
  exact h v w' hr
theorem step_call4 {ops : Array Oper} {o : Oper} {a : Act} {w : World} {K : Act → World → Prop} {Q : Exit → Act → World → Prop} {E : Prop} (hw : Region.wanted o (yielded ops a.tmps) = true) (f : FuncId) (x1 x2 x3 x4 : Operand) (t1 t2 t3 t4 : TypeId)
    (ho : o.op = .call { callee := .value (.func f), args := #[x1, x2, x3, x4], argTypes := #[t1, t2, t3, t4] }) (y1 : Value) (h1 : a.eval x1 = y1) (y2 : Value) (h2 : a.eval x2 = y2) (y3 : Value) (h3 : a.eval x3 = y3) (y4 : Value) (h4 : a.eval x4 = y4) (he : ∀ w, (callFunc f #[y1, y2, y3, y4]).run Try.prog w = .ok (.enter f #[y1, y2, y3, y4]) w)
    {R : Value → World → Prop} (hc : Calls Try.prog f #[y1, y2, y3, y4] w fun e w' => ∃ v, e = .returned v ∧ R v w') (h : ∀ v w', R v w' → K (a.put o.dst v) w') :
    if Region.wanted o (yielded ops a.tmps) = true then Oper.wp Try.prog o a w K Q else E := by
  rw [if_pos hw]
  unfold Oper.wp execOp
  have e1 : a.eval (Operand.func f) = Value.func (Fn.func f) #[] #[] := rfl
  have e2 : (callFunc f (#[] ++ #[y1, y2, y3, y4] ++ #[])).run Try.prog w = .ok (.enter f #[y1, y2, y3, y4]) w := by simpa using he w
  simp only [ho, resolve, invoke, Sem.run_bind, Sem.run_pure, Result.andThen_ok, List.map_toArray, List.map_cons, List.map_nil, h1, h2, h3, h4, e1, Deferred.ofValue, e2]
  rw [Oper.upon_enter]
  refine hc.mono ?_
  rintro e w' ⟨v, rfl, hr⟩
  exact h v w' hr

theorem ret1 {f : FuncId} {ys : Array Value} {w : World} {v : Value} {Q : World → Prop} (h : Calls Try.prog f ys w fun e w' => e = .returned v ∧ Q w') : Calls Try.prog f ys w fun e w' => ∃ u, e = .returned u ∧ (u = v ∧ Q w') :=
  h.mono fun _ _ ⟨h1, h2⟩ => ⟨_, h1, rfl, h2⟩
theorem retS {f : FuncId} {ys : Array Value} {w : World} {n : Nat} {Q : Option Addr → Nat → World → Prop} (h : Calls Try.prog f ys w fun e w' => ∃ a c, e = .returned (.slice a n c) ∧ Q a c w') : Calls Try.prog f ys w fun e w' => ∃ u, e = .returned u ∧ ∃ a c, u = .slice a n c ∧ Q a c w' :=
  h.mono fun _ _ ⟨a, c, h1, h2⟩ => ⟨_, h1, a, c, rfl, h2⟩

/-- `copy` into a row of known cells, as one step of a region that draws its order: no other block is turned. -/
theorem step_copyT {ops : Array Oper} {o : Oper} {a : Act} {w : World} {K : Act → World → Prop} {Q : Exit → Act → World → Prop} {E : Prop} (hgd : o.guard = none) (d s : Operand) (dT sT : TypeId)
    (ho : o.op = .call { callee := .builtin .copy, args := #[d, s], argTypes := #[dT, sT] }) (elem : TypeId) (hu : Try.prog.underlying dT = some (.slice elem)) (hsz : (Try.prog.info? elem).map (·.size) = some 1)
    (dp sp : Option Addr) (dLen dCap sLen sCap : Nat) (hd : a.eval d = .slice dp dLen dCap) (hs : a.eval s = .slice sp sLen sCap)
    (g off : Nat) (cur : List Value) (t : TypeId) (hg : w.heap[g]? = some (.cells cur.toArray t (0, 0))) (cs : List Value) (hn : cs.length = Nat.min sLen dLen)
    (hpos : 0 < cs.length → dp = some ⟨g, off, none⟩ ∧ ∃ ad, sp = some ad ∧ ∀ j v, cs[j]? = some v → w.cell? (ad.add j) = some v)
    (hfit : off + cs.length ≤ cur.length) (h1 : ∀ v ∈ cs, v.oneCell' = true)
    (h : ∀ w', Hid (w'.heap[g]? = some (.cells (splice cur off cs).toArray t (0, 0))) → Touch (fun b => b = g) w w' → K (a.put o.dst (goInt cs.length)) w') :
    if Region.wanted o (yielded ops a.tmps) = true then Oper.wp Try.prog o a w K Q else E := by
  have hw : Region.wanted o (yielded ops a.tmps) = true := by simp [Region.wanted, hgd]
  rw [if_pos hw]
  rcases Nat.eq_zero_or_pos cs.length with h0 | h0
  · have e0 : cs = [] := List.eq_nil_of_length_eq_zero h0
    subst e0
    have hrun := run_copy_none (P := Try.prog) w dT sT o.type elem dp sp dLen dCap sLen sCap hu hsz (by simpa using hn.symm)
    unfold Oper.wp
    simp [execOp, ho, resolve, invoke, builtin, hd, hs, hrun, Result.andThen]
    exact h w (by rw [Hid, hg]; simp [splice]) (Touch.refl _ _)
  · obtain ⟨rfl, ad, rfl, hsrc⟩ := hpos h0
    have hrun := run_copy_row (P := Try.prog) w dT sT o.type elem g off dLen dCap ad sLen sCap cur.toArray t cs hu hsz hg hn hsrc (by simpa using hfit) h1
    unfold Oper.wp
    simp [execOp, ho, resolve, invoke, builtin, hd, hs, hrun, Result.andThen]
    exact h _ (by rw [Hid]; simpa [splice] using setRow_heap w g _ _ t _ hg) ((Touch.refl (fun b => b = g) w).setRow (g := g) (.inl rfl) _)

end Go.Proofs.Ytkkailggpfmgaaa
