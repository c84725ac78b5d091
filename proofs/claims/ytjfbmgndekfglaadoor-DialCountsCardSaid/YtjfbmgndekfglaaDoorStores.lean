/- Stores: their cells, and the walks of store's functions. Stores: what their methods do. Stores: Get, Commit, Stage, New. Stores: Stage, New. Stores: New; what a store's numbers are. -/
import Derived.Test.YtjfbmgndekfglaaDoorOwnC
import Derived.Test.YtjfbmgndekfglaaDoorHeld
import Derived.Test.YtjfbmgndekfglaaDoorEqs
namespace Go.Proofs.YtjfbmgndekfglaaDoor
set_option linter.unusedVariables false
set_option linter.unusedSimpArgs false
open Go.RowKit

/-- A shelf as it lies. -/
structure Sh where
  e1 : Int
  d1 : BS
  e2 : Int
  d2 : BS
def Sh.cs (x : Sh) : List Value := [.int .i64 x.e1, .slice x.d1.a x.d1.n x.d1.c, .int .i64 x.e2, .slice x.d2.a x.d2.n x.d2.c]
def shC (l : List Sh) : List Value := l.flatMap Sh.cs
theorem shC_len : ∀ l : List Sh, (shC l).length = l.length * 4
  | [] => rfl
  | x :: l => by
    have := shC_len l
    rw [shC, List.flatMap_cons, List.length_append, show l.flatMap Sh.cs = shC l from rfl, this, List.length_cons]
    show 4 + _ = _
    omega
theorem shC_get : ∀ (l : List Sh) (k j : Nat) (hk : k < l.length), j < 4 → (shC l)[k * 4 + j]? = (l[k]).cs[j]?
  | [], k, j, hk, _ => by simp at hk
  | x :: l, 0, j, hk, hj => by
    rw [shC, List.flatMap_cons, Nat.zero_mul, Nat.zero_add, List.getElem?_append_left (by show j < 4; exact hj)]; rfl
  | x :: l, k + 1, j, hk, hj => by
    rw [shC, List.flatMap_cons, List.getElem?_append_right (by show 4 ≤ _; omega)]
    have := shC_get l k j (by simpa using hk) hj
    rw [show (k + 1) * 4 + j - x.cs.length = k * 4 + j by show (k + 1) * 4 + j - 4 = _; omega]
    exact this
theorem shC_set : ∀ (l : List Sh) (k j : Nat) (y : Sh) (u : Value) (hk : k < l.length), j < 4 → y.cs = (l[k]).cs.set j u → shC (l.set k y) = (shC l).set (k * 4 + j) u
  | [], k, j, _, _, hk, _, _ => by simp at hk
  | x :: l, 0, j, y, u, hk, hj, h => by
    simp only [List.getElem_cons_zero] at h
    rw [List.set_cons_zero, shC, shC, List.flatMap_cons, List.flatMap_cons, h, Nat.zero_mul, Nat.zero_add, List.set_append_left _ _ (by show j < 4; exact hj)]
  | x :: l, k + 1, j, y, u, hk, hj, h => by
    simp only [List.getElem_cons_succ] at h
    have := shC_set l k j y u (by simpa using hk) hj h
    rw [List.set_cons_succ, shC, shC, List.flatMap_cons, List.flatMap_cons, List.set_append_right _ _ (by show 4 ≤ _; omega)]
    rw [show (k + 1) * 4 + j - x.cs.length = k * 4 + j by show (k + 1) * 4 + j - 4 = _; omega]
    congr 1
/-- A shelf: its checkpoint that counts, and the one that is staged (of the epoch 0: none). -/
structure PS where
  ce : Int
  cd : List UInt8
  se : Int
  sd : List UInt8
def Sh.ps (x : Sh) : PS := ⟨x.e1, x.d1.l, x.e2, x.d2.l⟩
/-- A store. -/
structure SS where
  room : Int
  term : Int
  js : List PS
  writes : Nat
def stC (s : SS) (l : List Sh) : List Value := .int .i64 s.room :: .int .i64 s.term :: (shC l ++ [.int .i64 (s.writes : Int)])
structure BS.Lie (w : World) (F : Nat → Prop) (g : Nat) (x : BS) : Prop where
  hd : BS.Hd x
  at_ : At w x.a x.l
  own : ∀ y, x.a = some y → F y.block ∧ y.block ≠ g
theorem BS.Lie.touch {w w' : World} {F M : Nat → Prop} {g : Nat} {x : BS} (h : x.Lie w F g) (ht : Touch M w w') (hM : ∀ b, F b → b ≠ g → ¬ M b) : x.Lie w' F g :=
  ⟨h.hd, h.at_.touch ht (fun y hy => hM _ (h.own y hy).1 (h.own y hy).2), h.own⟩
theorem stC_sh (s : SS) (l : List Sh) (k j : Nat) (hk : k < l.length) (hj : j < 4) : (stC s l)[2 + (k * 4 + j)]? = (l[k]).cs[j]? := by
  rw [Nat.add_comm 2]
  show (shC l ++ _)[k * 4 + j]? = _
  rw [List.getElem?_append_left (by rw [shC_len]; omega), shC_get l k j hk hj]
theorem stC_writes (s : SS) (l : List Sh) (h : l.length = 25) : (stC s l)[102]? = some (.int .i64 (s.writes : Int)) := by
  show (shC l ++ _)[100]? = _
  rw [List.getElem?_append_right (by rw [shC_len]; omega), shC_len, h]; rfl
/-- A load of whatever lies behind an address. -/
theorem wpList_loadV {P : Program} {ops : Array Oper} {rest : List Oper} {o : Oper} {a : Act} {w : World} {Q : Exit → Act → World → Prop} (hgd : o.guard = none) (ty : TypeId) (x : Operand) (ho : o.op = .load ty x)
    (p : Addr) (hx : a.eval x = .pointer (some p)) (v : Value) (hl : (loadVar ty p).run P w = .ok v w) (h : wpList P ops Q rest (a.put o.dst v) w) : wpList P ops Q (o :: rest) a w :=
  wpList_plain hgd fun _ hK => by
    unfold Oper.wp execOp
    simp only [ho, hx, Instr.loadAt, Instr.sureAddr, Sem.run_bind, Sem.run_pure, Result.andThen_ok, hl]
    exact hK _ _ h
def usedP (l : List PS) : Nat := (l.map fun x => x.cd.length + x.sd.length).sum
def usedS (l : List Sh) (k : Nat) : Nat := ((l.take k).map fun x => x.d1.n + x.d2.n).sum
theorem usedS_step {l : List Sh} {k : Nat} (h : k < l.length) : usedS l (k + 1) = usedS l k + (l[k].d1.n + l[k].d2.n) := by
  unfold usedS
  rw [List.take_succ_eq_append_getElem h, List.map_append, List.sum_append]
  simp
theorem usedS_le {l : List Sh} (h : ∀ x ∈ l, x.d1.n ≤ 100 ∧ x.d2.n ≤ 100) : ∀ k, k ≤ l.length → usedS l k ≤ 200 * k
  | 0, _ => by simp [usedS]
  | k + 1, hk => by
    have h1 := usedS_le h k (by omega)
    have h2 := h _ (List.getElem_mem (show k < l.length by omega))
    rw [usedS_step (by omega)]; omega
section
variable {w0 w : World} {r : List Thing} {g : Nat} {s : SS}
end

end Go.Proofs.YtjfbmgndekfglaaDoor

namespace Go.Proofs.YtjfbmgndekfglaaDoor
set_option linter.unusedVariables false
set_option linter.unusedSimpArgs false
open Go.RowKit

def PS.nil : PS := ⟨0, [], 0, []⟩
def SS.job (s : SS) (n : Int) : PS := s.js.getD n.toNat PS.nil
def jobOk (n : Int) : Prop := 1 ≤ n ∧ n ≤ 24
instance (n : Int) : Decidable (jobOk n) := inferInstanceAs (Decidable (1 ≤ n ∧ n ≤ 24))
def SS.put (s : SS) (n : Int) (x : PS) : SS := { s with js := s.js.set n.toNat x }
def sStage (s : SS) (term job epoch : Int) (d : List UInt8) : Int × SS :=
  if term < s.term then (6, s)
  else if ¬ jobOk job ∨ epoch < 1 ∨ 1000000 < epoch ∨ d.length = 0 ∨ 100 < d.length then (1, s)
  else if epoch ≤ (s.job job).ce ∨ epoch < (s.job job).se then (6, s)
  else if epoch = (s.job job).se then (0, s)
  else if s.room < (usedP s.js : Int) - (s.job job).sd.length + d.length then (3, s)
  else (0, { s.put job { s.job job with se := epoch, sd := d } with writes := s.writes + 1 })
def sCommit (s : SS) (job epoch : Int) : Int × SS :=
  if ¬ jobOk job ∨ epoch < 1 ∨ epoch ≠ (s.job job).ce ∧ epoch ≠ (s.job job).se then (4, s)
  else if epoch = (s.job job).se then (0, s.put job ⟨(s.job job).se, (s.job job).sd, 0, []⟩)
  else (0, s)
def sGet (s : SS) (job epoch : Int) : Option (List UInt8) :=
  if ¬ jobOk job ∨ epoch < 1 then none
  else if (s.job job).ce = epoch then some (s.job job).cd
  else if (s.job job).se = epoch then some (s.job job).sd
  else none
def sEnd (s : SS) (job : Int) : SS := if jobOk job then s.put job PS.nil else s
def sFence (s : SS) (term : Int) : SS := { s with term := max s.term term }
def sCounts (s : SS) (job : Int) : Int := if jobOk job then (s.job job).ce else 0
def SS.new (room : Int) : SS := ⟨max 0 room, 0, List.replicate 25 PS.nil, 0⟩

def jobV (g : Nat) (n : Int) : Value := if jobOk n then .pointer (some ⟨g, 2 + n.toNat * 4, none⟩) else .pointer none
section
variable {w0 w : World} {r : List Thing} {g : Nat} {s : SS}
theorem tch {a w : World} {g : Nat} (h : Touch (fun b => b = g) a w) (i : Nat) (v : Value) : Touch (fun b => b = g) a (w.setCell ⟨g, i, none⟩ v) := h.setCell (p := ⟨g, i, none⟩) (.inl rfl) v
theorem tch0 (g : Nat) (w : World) : Touch (fun b => b = g) w w := Touch.refl _ _
theorem rowSet {w : World} {g i : Nat} {L : List Value} {T : TypeId} (h : w.heap[g]? = some (.cells L.toArray T (0, 0))) (v : Value) : (w.setCell ⟨g, i, none⟩ v).heap[g]? = some (.cells (L.set i v).toArray T (0, 0)) := by
  have := heap_setCell_same w g i _ _ v h
  simpa using this
theorem stC_set (s : SS) (l : List Sh) (k j : Nat) (y : Sh) (u : Value) (hk : k < l.length) (hj : j < 4) (h : y.cs = (l[k]).cs.set j u) : stC s (l.set k y) = (stC s l).set (2 + (k * 4 + j)) u := by
  rw [Nat.add_comm 2]
  unfold stC
  rw [List.set_cons_succ, List.set_cons_succ, List.set_append_left _ _ (by rw [shC_len]; omega), shC_set l k j y u hk hj h]
theorem jobOk_nat {n : Int} (h : jobOk n) : ∃ N : Nat, n = N ∧ 1 ≤ N ∧ N ≤ 24 := by
  obtain ⟨N, rfl⟩ := Int.eq_ofNat_of_zero_le (show 0 ≤ n by unfold jobOk at h; omega)
  unfold jobOk at h
  exact ⟨N, rfl, by omega, by omega⟩
def Sh.zero : Sh := ⟨0, ⟨none, 0, 0, []⟩, 0, ⟨none, 0, 0, []⟩⟩
theorem BS.Lie.zero (w : World) (F : Nat → Prop) (g : Nat) : BS.Lie w F g ⟨none, 0, 0, []⟩ := ⟨⟨rfl, Nat.le_refl _, Nat.zero_le _, fun _ => rfl⟩, At.nil _ _, fun y h => by cases h⟩
theorem mem_set' {l : List Sh} {k : Nat} {y : Sh} {P : Sh → Prop} (h : ∀ x ∈ l, P x) (hy : P y) : ∀ x ∈ l.set k y, P x := fun x hx => (List.mem_or_eq_of_mem_set hx).elim (h x) (fun e => e ▸ hy)
theorem map_ps_set (l : List Sh) (k : Nat) (y : Sh) : (l.set k y).map Sh.ps = (l.map Sh.ps).set k y.ps := List.map_set ..
end

end Go.Proofs.YtjfbmgndekfglaaDoor

namespace Go.Proofs.YtjfbmgndekfglaaDoor
set_option linter.unusedVariables false
set_option linter.unusedSimpArgs false
open Go.RowKit
section
variable {w0 w : World} {r : List Thing} {g : Nat} {s : SS}
theorem set_same {l : List Thing} {k : Nat} {x : Thing} (h : l[k]? = some x) : l.set k x = l := by
  refine List.ext_getElem? fun i => ?_
  by_cases hi : k = i
  · subst hi; rw [List.getElem?_set_self (List.getElem?_eq_some_iff.1 h).1, h]
  · rw [List.getElem?_set_ne hi]
/-- What Get tells. -/
def SGPost (w : World) (o : Option (List UInt8)) (e : Ending) (w' : World) : Prop :=
  ∃ a c, e = .returned (.tuple #[.slice a (o.getD []).length c, .bool o.isSome]) ∧ Own w' w.heap.size (.slice a (o.getD []).length c) (o.getD []) ∧ Below w.heap.size w w'
end

end Go.Proofs.YtjfbmgndekfglaaDoor

namespace Go.Proofs.YtjfbmgndekfglaaDoor
set_option linter.unusedVariables false
set_option linter.unusedSimpArgs false
open Go.RowKit
section
variable {w0 w : World} {r : List Thing} {g : Nat} {s : SS}
theorem stC_setW (s : SS) (l : List Sh) (h : l.length = 25) (n : Nat) : (stC s l).set 102 (.int .i64 (n : Int)) = stC { s with writes := n } l := by
  unfold stC
  rw [show (102 : Nat) = 100 + 1 + 1 from rfl, List.set_cons_succ, List.set_cons_succ, List.set_append_right _ _ (by rw [shC_len]; omega), shC_len, h]
  rfl
theorem below_cell {B : Nat} {w w' : World} (h : Below B w w') {g : Nat} (hg : g < B) (i : Nat) : w'.cell? ⟨g, i, none⟩ = w.cell? ⟨g, i, none⟩ := by
  simp only [World.cell?, h.block g hg]
theorem BS.Lie.mono {w : World} {F F' : Nat → Prop} {g : Nat} {x : BS} (h : x.Lie w F g) (hF : ∀ b, F b → F' b) : x.Lie w F' g := ⟨h.hd, h.at_, fun y hy => ⟨hF _ (h.own y hy).1, (h.own y hy).2⟩⟩
end

end Go.Proofs.YtjfbmgndekfglaaDoor

namespace Go.Proofs.YtjfbmgndekfglaaDoor
set_option linter.unusedVariables false
set_option linter.unusedSimpArgs false
open Go.RowKit
section
variable {w0 w : World} {r : List Thing} {g : Nat} {s : SS}
/-- How a store may be. -/
structure SS.Ok (s : SS) : Prop where
  len : s.js.length = 25
  small : ∀ x ∈ s.js, x.cd.length ≤ 100 ∧ x.sd.length ≤ 100
end

end Go.Proofs.YtjfbmgndekfglaaDoor
