/- The agent: loose, New, Back, Fail. The agent: whole structs in boxes; Fail. The agent: Act, Fenced. The agent: Act whole, Tell; an order: own, renew. The agent: an order's own and renew; how orders to rest, take, work and turn are taken. -/
import Derived.Test.YtilobmefomoemaaStoreLaw6
import Derived.Laws.Rows
import Derived.Laws.ResultCell
import Derived.Laws.Tables
import Derived.Test.YtilobmefomoemaaNetLaws
namespace Go.Proofs.Ytilobmefomoemaa
set_option linter.unusedVariables false
set_option linter.unusedSimpArgs false
open Go.RowKit
structure AG where
  up : Bool
  term : Int
  gen : Int
  mode : Int
  job : Int
  inc : Int
  version : Int
  lease : Int
  worked : Int
  to_ : Int
def AG.cs (a : AG) : List Value := [.bool a.up, .int .i64 a.term, .int .i64 a.gen, .int .i64 a.mode, .int .i64 a.job, .int .i64 a.inc, .int .i64 a.version, .int .i64 a.lease, .int .i64 a.worked, .int .i64 a.to_]
def AG.v (a : AG) : Value := .agg a.cs.toArray
theorem res_ag {fn : Func} {p : Tmp} (h : fn.results = #[.cell p 31]) (tmps : Array Value) (w : World) (g : Nat) (cs : Array Value) (hp : tmps.getD p undef = .pointer (some ⟨g, 0, none⟩)) (hg : w.heap[g]? = some (.cells cs 31 (0, 0))) (hs : cs.size = 10) :
    (results fn tmps).run Try.prog w = .ok (.agg cs) w := by
  have hi : (Try.prog.info? 31).map (·.size) = some 10 := by kernel_rfl
  exact results_cell_row h tmps w g 31 cs (0, 0) _ hp hg Try.underlying31 rfl (by rw [hi, hs])
theorem heap2 (w : World) (o : Obj) (cs : Array Value) (T : TypeId) : ((w.alloc o).alloc (.cells cs T)).heap[w.heap.size + 1]? = some (.cells cs T (0, 0)) := by
  have := heap_alloc_new (w.alloc o) (.cells cs T)
  rwa [show (w.alloc o).heap.size = w.heap.size + 1 from by show (Array.push _ _).size = _; simp] at this
def aLoose (a : AG) : AG := { a with mode := 0, job := 0, inc := 0, lease := 0, worked := 0 }
def aFail (a : AG) : AG := { aLoose a with up := false, to_ := 0 }
def aBack (a : AG) : AG := { a with up := true }
def aNew : AG := ⟨true, 0, 0, 0, 0, 0, 1, 0, 0, 0⟩
set_option maxRecDepth 10000 in
set_option maxHeartbeats 1600000 in
theorem agNew (w : World) : Calls Try.prog 18 #[] w fun e w' => e = .returned aNew.v ∧ Below w.heap.size w w' := by
  go_enter Try.func18, Try.ntmps18
  go_wp2
  exact bodyPost_ret (res_ag rfl _ _ w.heap.size _ rfl (by exact heap_alloc_new _ _) rfl) rfl ⟨rfl, ((St.start w).alloc _).fin⟩
end Go.Proofs.Ytilobmefomoemaa

namespace Go.Proofs.Ytilobmefomoemaa
set_option linter.unusedVariables false
set_option linter.unusedSimpArgs false
open Go.RowKit
theorem St.setRow {w0 w : World} {l : List Thing} (S : St w0 w l) (k : Nat) {g : Nat} {T : TypeId} {cs : List Value} (h : l[k]? = some (cellsT g T cs)) (cs2 : Array Value) : St w0 (w.setRow g cs2) (l.set k (cellsT g T cs2.toList)) := by
  obtain ⟨F, ⟨h1, h2, h3⟩, h4⟩ := S.step k h
  refine h4 _ _ F ⟨h1, ?_, h3⟩ ((Touch.refl F w).setRow (g := g) (.inl ((h3 g).2 rfl)) cs2) (fun b hb => .inl hb)
  have := setRow_heap w g _ cs2 _ _ h2
  simpa using this
def AG.zero : AG := ⟨false, 0, 0, 0, 0, 0, 0, 0, 0, 0⟩
theorem agSize : (Try.prog.info? 31).map (·.size) = some 10 := by kernel_rfl
theorem agStore (w : World) (g : Nat) (a b : AG) (h : w.heap[g]? = some (.cells a.cs.toArray 31 (0, 0))) : (storeCells ⟨g, 0, none⟩ b.cs).run Try.prog w = .ok () (w.setRow g b.cs.toArray) := by
  have := run_storeCells_from (P := Try.prog) g 31 b.cs 0 a.cs.toArray w h rfl (by
    intro v hv
    simp only [AG.cs, List.mem_cons, List.not_mem_nil, or_false] at hv
    rcases hv with rfl | rfl | rfl | rfl | rfl | rfl | rfl | rfl | rfl | rfl <;> rfl)
  simpa using this
end Go.Proofs.Ytilobmefomoemaa

namespace Go.Proofs.Ytilobmefomoemaa
set_option linter.unusedVariables false
set_option linter.unusedSimpArgs false
open Go.RowKit
def aAct (a : AG) (now : Int) : AG :=
  if a.up = false ∨ a.mode = 0 then a
  else if a.mode = 4 then aLoose { a with version := a.to_, to_ := 0 }
  else if a.lease ≤ now then aLoose a
  else if a.mode = 2 then { a with worked := min 1000 (a.worked + 1) }
  else a
def aFenced (a : AG) (now : Int) : Bool := a.up && decide (a.mode = 2) && decide (a.lease ≤ now)
set_option maxRecDepth 10000 in
theorem agFenced (a : AG) (now : Int) (w : World) : Calls Try.prog 21 #[.agg #[.bool a.up, .int .i64 a.term, .int .i64 a.gen, .int .i64 a.mode, .int .i64 a.job, .int .i64 a.inc, .int .i64 a.version, .int .i64 a.lease, .int .i64 a.worked, .int .i64 a.to_], .int .i64 now] w fun e w' => e = .returned (.bool (aFenced a now)) ∧ Below w.heap.size w w' := by
  have hb := ((St.start w).alloc (.cells #[.bool a.up, .int .i64 a.term, .int .i64 a.gen, .int .i64 a.mode, .int .i64 a.job, .int .i64 a.inc, .int .i64 a.version, .int .i64 a.lease, .int .i64 a.worked, .int .i64 a.to_] 31)).fin
  unfold aFenced
  cases hu : a.up
  · go_enter Try.func21, Try.ntmps21
    go_wp2
    go_ret
    exact ⟨by simp, by rw [hu] at hb; exact hb⟩
  · by_cases hm : a.mode = 2
    · have g1 : (a.mode == 2) = true := by simpa using hm
      have g2 : decide (a.mode = 2) = true := decide_eq_true hm
      rw [g2]
      clear hm g2
      go_enter Try.func21, Try.ntmps21
      go_wp2
      go_ret
      exact ⟨by simp, by rw [hu] at hb; exact hb⟩
    · have g1 : (a.mode == 2) = false := by simpa using hm
      have g2 : decide (a.mode = 2) = false := decide_eq_false hm
      rw [g2]
      clear hm g2
      go_enter Try.func21, Try.ntmps21
      go_wp2
      go_ret
      exact ⟨by simp, by rw [hu] at hb; exact hb⟩
end Go.Proofs.Ytilobmefomoemaa

namespace Go.Proofs.Ytilobmefomoemaa
set_option linter.unusedVariables false
set_option linter.unusedSimpArgs false
open Go.RowKit
def aTell (a : AG) (node : Int) : Msg := ⟨node, 6, a.term, a.gen, a.job, a.inc, a.version, 0, 0, a.mode, a.worked⟩
def Msg.v (m : Msg) : Value := .agg m.cs.toArray
end Go.Proofs.Ytilobmefomoemaa

namespace Go.Proofs.Ytilobmefomoemaa
set_option linter.unusedVariables false
set_option linter.unusedSimpArgs false
open Go.RowKit
def ownsJ (a : AG) (m : Msg) (mode : Int) : Bool := (a.mode == mode) && ((a.job == m.job) && (a.inc == m.inc))
def aRenew (a : AG) (m : Msg) : AG := { a with lease := max a.lease m.until_ }
def oRest (a : AG) : AG := if a.mode = 4 then a else aLoose a
def oTake (a : AG) (m : Msg) (now : Int) : AG :=
  if ownsJ a m 1 = true ∨ ownsJ a m 2 = true then aRenew a m
  else if a.mode = 0 ∧ a.version = m.version ∧ now < m.until_ then { a with mode := 1, job := m.job, inc := m.inc, lease := m.until_ }
  else a
def oWork (a : AG) (m : Msg) : AG :=
  if ownsJ a m 2 = true then aRenew a m
  else if ownsJ a m 1 = true then { a with mode := 2, worked := m.work, lease := m.until_ }
  else a
def oTurn (a : AG) (m : Msg) : AG := if a.mode = 0 ∧ 1 ≤ m.version ∧ m.version ≤ 9 then { a with mode := 4, to_ := m.version } else a
section
variable {w0 w : World} {tl : List Thing} {g : Nat} {a : AG}
theorem agCells {w' : World} (S : St w0 w' (cellsT g 31 a.cs :: tl)) : (w'.cell? ⟨g, 0, none⟩ = some (.bool a.up) ∧ w'.cell? ⟨g, 1, none⟩ = some (.int .i64 a.term) ∧ w'.cell? ⟨g, 2, none⟩ = some (.int .i64 a.gen) ∧ w'.cell? ⟨g, 3, none⟩ = some (.int .i64 a.mode) ∧ w'.cell? ⟨g, 4, none⟩ = some (.int .i64 a.job) ∧ w'.cell? ⟨g, 5, none⟩ = some (.int .i64 a.inc) ∧ w'.cell? ⟨g, 6, none⟩ = some (.int .i64 a.version) ∧ w'.cell? ⟨g, 7, none⟩ = some (.int .i64 a.lease) ∧ w'.cell? ⟨g, 8, none⟩ = some (.int .i64 a.worked) ∧ w'.cell? ⟨g, 9, none⟩ = some (.int .i64 a.to_)) :=
  ⟨S.cell 0 rfl 0 rfl, S.cell 0 rfl 1 rfl, S.cell 0 rfl 2 rfl, S.cell 0 rfl 3 rfl, S.cell 0 rfl 4 rfl, S.cell 0 rfl 5 rfl, S.cell 0 rfl 6 rfl, S.cell 0 rfl 7 rfl, S.cell 0 rfl 8 rfl, S.cell 0 rfl 9 rfl⟩
theorem agFree {w' : World} (S : St w0 w' (cellsT g 31 a.cs :: tl)) : (w'.frozen? ⟨g, 3, none⟩ = false ∧ w'.frozen? ⟨g, 4, none⟩ = false ∧ w'.frozen? ⟨g, 5, none⟩ = false ∧ w'.frozen? ⟨g, 7, none⟩ = false ∧ w'.frozen? ⟨g, 8, none⟩ = false ∧ w'.frozen? ⟨g, 9, none⟩ = false) := ⟨S.frozen 0 rfl 3, S.frozen 0 rfl 4, S.frozen 0 rfl 5, S.frozen 0 rfl 7, S.frozen 0 rfl 8, S.frozen 0 rfl 9⟩
end
end Go.Proofs.Ytilobmefomoemaa
