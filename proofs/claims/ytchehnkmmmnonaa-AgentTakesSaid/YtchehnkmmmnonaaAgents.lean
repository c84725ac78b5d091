/- The agent: loose, New, Back, Fail. The agent: whole structs in boxes; Fail. The agent: Act, Fenced. The agent: Act whole, Tell; an order: own, renew. The agent: an order's own and renew; how orders to rest, take, work and turn are taken. -/
import Derived.Test.YtchehnkmmmnonaaStoreLaw6
import Derived.Laws.Rows
import Derived.Laws.ResultCell
import Derived.Laws.Tables
import Derived.Test.YtchehnkmmmnonaaNetLaws
namespace Go.Proofs.Ytchehnkmmmnonaa
set_option linter.unusedVariables false
set_option linter.unusedSimpArgs false
open Go.RowKit
structure AG where
  up : Bool
  term : Int
  gen : Int
  mode : Int
  job : Int
  inc : Int
  version : Int
  lease : Int
  worked : Int
  to_ : Int
def AG.cs (a : AG) : List Value := [.bool a.up, .int .i64 a.term, .int .i64 a.gen, .int .i64 a.mode, .int .i64 a.job, .int .i64 a.inc, .int .i64 a.version, .int .i64 a.lease, .int .i64 a.worked, .int .i64 a.to_]
def AG.v (a : AG) : Value := .agg a.cs.toArray
theorem res_ag {fn : Func} {p : Tmp} (h : fn.results = #[.cell p 23]) (tmps : Array Value) (w : World) (g : Nat) (cs : Array Value) (hp : tmps.getD p undef = .pointer (some ⟨g, 0, none⟩)) (hg : w.heap[g]? = some (.cells cs 23 (0, 0))) (hs : cs.size = 10) :
    (results fn tmps).run Try.prog w = .ok (.agg cs) w := by
  have hi : (Try.prog.info? 23).map (·.size) = some 10 := by kernel_rfl
  exact results_cell_row h tmps w g 23 cs (0, 0) _ hp hg Try.underlying23 rfl (by rw [hi, hs])
theorem heap2 (w : World) (o : Obj) (cs : Array Value) (T : TypeId) : ((w.alloc o).alloc (.cells cs T)).heap[w.heap.size + 1]? = some (.cells cs T (0, 0)) := by
  have := heap_alloc_new (w.alloc o) (.cells cs T)
  rwa [show (w.alloc o).heap.size = w.heap.size + 1 from by show (Array.push _ _).size = _; simp] at this
def aLoose (a : AG) : AG := { a with mode := 0, job := 0, inc := 0, lease := 0, worked := 0 }
def aFail (a : AG) : AG := { aLoose a with up := false, to_ := 0 }
def aBack (a : AG) : AG := { a with up := true }
def aNew : AG := ⟨true, 0, 0, 0, 0, 0, 1, 0, 0, 0⟩
set_option maxRecDepth 10000 in
set_option maxHeartbeats 1600000 in
theorem agLoose (a : AG) (w : World) : Calls Try.prog 30 #[.agg #[.bool a.up, .int .i64 a.term, .int .i64 a.gen, .int .i64 a.mode, .int .i64 a.job, .int .i64 a.inc, .int .i64 a.version, .int .i64 a.lease, .int .i64 a.worked, .int .i64 a.to_]] w fun e w' => e = .returned (aLoose a).v ∧ Below w.heap.size w w' := by
  go_enter Try.func30, Try.ntmps30
  go_wp2
  exact bodyPost_ret (res_ag rfl _ _ (w.heap.size + 1) _ rfl (heap2 _ _ _ _) rfl) rfl ⟨rfl, (((St.start w).alloc _).alloc _).fin⟩
set_option maxRecDepth 10000 in
set_option maxHeartbeats 1600000 in
theorem agBack (a : AG) (w : World) : Calls Try.prog 20 #[.agg #[.bool a.up, .int .i64 a.term, .int .i64 a.gen, .int .i64 a.mode, .int .i64 a.job, .int .i64 a.inc, .int .i64 a.version, .int .i64 a.lease, .int .i64 a.worked, .int .i64 a.to_]] w fun e w' => e = .returned (aBack a).v ∧ Below w.heap.size w w' := by
  go_enter Try.func20, Try.ntmps20
  go_wp2
  exact bodyPost_ret (res_ag rfl _ _ (w.heap.size + 1) _ rfl (heap2 _ _ _ _) rfl) rfl ⟨rfl, (((St.start w).alloc _).alloc _).fin⟩
set_option maxRecDepth 10000 in
set_option maxHeartbeats 1600000 in
theorem agNew (w : World) : Calls Try.prog 16 #[] w fun e w' => e = .returned aNew.v ∧ Below w.heap.size w w' := by
  go_enter Try.func16, Try.ntmps16
  go_wp2
  exact bodyPost_ret (res_ag rfl _ _ w.heap.size _ rfl (by exact heap_alloc_new _ _) rfl) rfl ⟨rfl, ((St.start w).alloc _).fin⟩
end Go.Proofs.Ytchehnkmmmnonaa

namespace Go.Proofs.Ytchehnkmmmnonaa
set_option linter.unusedVariables false
set_option linter.unusedSimpArgs false
open Go.RowKit
theorem St.setRow {w0 w : World} {l : List Thing} (S : St w0 w l) (k : Nat) {g : Nat} {T : TypeId} {cs : List Value} (h : l[k]? = some (cellsT g T cs)) (cs2 : Array Value) : St w0 (w.setRow g cs2) (l.set k (cellsT g T cs2.toList)) := by
  obtain ⟨F, ⟨h1, h2, h3⟩, h4⟩ := S.step k h
  refine h4 _ _ F ⟨h1, ?_, h3⟩ ((Touch.refl F w).setRow (g := g) (.inl ((h3 g).2 rfl)) cs2) (fun b hb => .inl hb)
  have := setRow_heap w g _ cs2 _ _ h2
  simpa using this
def AG.zero : AG := ⟨false, 0, 0, 0, 0, 0, 0, 0, 0, 0⟩
theorem agSize : (Try.prog.info? 23).map (·.size) = some 10 := by kernel_rfl
theorem agStore (w : World) (g : Nat) (a b : AG) (h : w.heap[g]? = some (.cells a.cs.toArray 23 (0, 0))) : (storeCells ⟨g, 0, none⟩ b.cs).run Try.prog w = .ok () (w.setRow g b.cs.toArray) := by
  have := run_storeCells_from (P := Try.prog) g 23 b.cs 0 a.cs.toArray w h rfl (by
    intro v hv
    simp only [AG.cs, List.mem_cons, List.not_mem_nil, or_false] at hv
    rcases hv with rfl | rfl | rfl | rfl | rfl | rfl | rfl | rfl | rfl | rfl <;> rfl)
  simpa using this
set_option maxRecDepth 10000 in
set_option maxHeartbeats 3200000 in
theorem agFail (a : AG) (w : World) : Calls Try.prog 19 #[.agg #[.bool a.up, .int .i64 a.term, .int .i64 a.gen, .int .i64 a.mode, .int .i64 a.job, .int .i64 a.inc, .int .i64 a.version, .int .i64 a.lease, .int .i64 a.worked, .int .i64 a.to_]] w fun e w' => e = .returned (aFail a).v ∧ Below w.heap.size w w' := by
  have S1 : St w (w.alloc (.cells #[.bool a.up, .int .i64 a.term, .int .i64 a.gen, .int .i64 a.mode, .int .i64 a.job, .int .i64 a.inc, .int .i64 a.version, .int .i64 a.lease, .int .i64 a.worked, .int .i64 a.to_] 23)) [cellsT w.heap.size 23 a.cs] := (St.start w).newCells 23 #[.bool a.up, .int .i64 a.term, .int .i64 a.gen, .int .i64 a.mode, .int .i64 a.job, .int .i64 a.inc, .int .i64 a.version, .int .i64 a.lease, .int .i64 a.worked, .int .i64 a.to_]
  have S2 : St w ((w.alloc (.cells #[.bool a.up, .int .i64 a.term, .int .i64 a.gen, .int .i64 a.mode, .int .i64 a.job, .int .i64 a.inc, .int .i64 a.version, .int .i64 a.lease, .int .i64 a.worked, .int .i64 a.to_] 23)).alloc (.cells #[.bool false, .int .i64 0, .int .i64 0, .int .i64 0, .int .i64 0, .int .i64 0, .int .i64 0, .int .i64 0, .int .i64 0, .int .i64 0] 23)) [cellsT w.heap.size 23 a.cs, cellsT (w.heap.size + 1) 23 AG.zero.cs] := newAtG S1 _ _ _ (by show (Array.push _ _).size = _; simp)
  clear S1
  have h2 := S2.heap 0 rfl
  go_enter Try.func19, Try.ntmps19
  go_wp2_with fail
  refine (agLoose a _).mono ?_
  rintro e w1 ⟨rfl, hb1⟩
  have HF : Hid (aFail a = { aLoose a with up := false, to_ := 0 }) := rfl
  generalize aLoose a = b at *
  unfold AG.v
  have S3 := S2.grow hb1
  have S4 := S3.setRow 0 rfl b.cs.toArray
  have h3 := S3.heap 0 rfl
  clear hb1 S2 h2
  have hst : (storeCells ⟨w.heap.size, 0, none⟩ b.cs).run Try.prog w1 = .ok () (w1.setRow w.heap.size b.cs.toArray) := agStore _ _ a b h3
  replace S4 : St w _ [cellsT w.heap.size 23 b.cs, cellsT (w.heap.size + 1) 23 AG.zero.cs] := S4
  have x0 := S4.frozen 0 rfl 0
  have x9 := S4.frozen 0 rfl 9
  have y0 := S4.cell 0 rfl 0 rfl
  have y1 := S4.cell 0 rfl 1 rfl
  have y2 := S4.cell 0 rfl 2 rfl
  have y3 := S4.cell 0 rfl 3 rfl
  have y4 := S4.cell 0 rfl 4 rfl
  have y5 := S4.cell 0 rfl 5 rfl
  have y6 := S4.cell 0 rfl 6 rfl
  have y7 := S4.cell 0 rfl 7 rfl
  have y8 := S4.cell 0 rfl 8 rfl
  have y9 := S4.cell 0 rfl 9 rfl
  have z0 := S4.cell 1 rfl 0 rfl
  have v0 := S4.frozen 1 rfl 0
  have z1 := S4.cell 1 rfl 1 rfl
  have v1 := S4.frozen 1 rfl 1
  have z2 := S4.cell 1 rfl 2 rfl
  have v2 := S4.frozen 1 rfl 2
  have z3 := S4.cell 1 rfl 3 rfl
  have v3 := S4.frozen 1 rfl 3
  have z4 := S4.cell 1 rfl 4 rfl
  have v4 := S4.frozen 1 rfl 4
  have z5 := S4.cell 1 rfl 5 rfl
  have v5 := S4.frozen 1 rfl 5
  have z6 := S4.cell 1 rfl 6 rfl
  have v6 := S4.frozen 1 rfl 6
  have z7 := S4.cell 1 rfl 7 rfl
  have v7 := S4.frozen 1 rfl 7
  have z8 := S4.cell 1 rfl 8 rfl
  have v8 := S4.frozen 1 rfl 8
  have z9 := S4.cell 1 rfl 9 rfl
  have v9 := S4.frozen 1 rfl 9
  generalize w1.setRow _ _ = w4 at *
  have S5 := (S4.setCell 0 rfl 0 (.bool false)).setCell 0 rfl 9 (.int .i64 0)
  have S6 := ((((((((((S5.setCell 1 rfl 0 (.bool false)).setCell 1 rfl 1 (.int .i64 b.term)).setCell 1 rfl 2 (.int .i64 b.gen)).setCell 1 rfl 3 (.int .i64 b.mode)).setCell 1 rfl 4 (.int .i64 b.job)).setCell 1 rfl 5 (.int .i64 b.inc)).setCell 1 rfl 6 (.int .i64 b.version)).setCell 1 rfl 7 (.int .i64 b.lease)).setCell 1 rfl 8 (.int .i64 b.worked)).setCell 1 rfl 9 (.int .i64 0))
  clear h3 S3
  go_wp2
  refine bodyPost_ret (res_ag rfl _ _ (w.heap.size + 1) _ rfl (by exact S6.heap 1 rfl) rfl) rfl ?_
  rw [HF.out]
  exact ⟨rfl, S6.fin⟩
end Go.Proofs.Ytchehnkmmmnonaa

namespace Go.Proofs.Ytchehnkmmmnonaa
set_option linter.unusedVariables false
set_option linter.unusedSimpArgs false
open Go.RowKit
def aAct (a : AG) (now : Int) : AG :=
  if a.up = false ∨ a.mode = 0 then a
  else if a.mode = 4 then aLoose { a with version := a.to_, to_ := 0 }
  else if a.lease ≤ now then aLoose a
  else if a.mode = 2 then { a with worked := min 1000 (a.worked + 1) }
  else a
def aFenced (a : AG) (now : Int) : Bool := a.up && decide (a.mode = 2) && decide (a.lease ≤ now)
set_option maxRecDepth 10000 in
theorem agFenced (a : AG) (now : Int) (w : World) : Calls Try.prog 18 #[.agg #[.bool a.up, .int .i64 a.term, .int .i64 a.gen, .int .i64 a.mode, .int .i64 a.job, .int .i64 a.inc, .int .i64 a.version, .int .i64 a.lease, .int .i64 a.worked, .int .i64 a.to_], .int .i64 now] w fun e w' => e = .returned (.bool (aFenced a now)) ∧ Below w.heap.size w w' := by
  have hb := ((St.start w).alloc (.cells #[.bool a.up, .int .i64 a.term, .int .i64 a.gen, .int .i64 a.mode, .int .i64 a.job, .int .i64 a.inc, .int .i64 a.version, .int .i64 a.lease, .int .i64 a.worked, .int .i64 a.to_] 23)).fin
  unfold aFenced
  cases hu : a.up
  · go_enter Try.func18, Try.ntmps18
    go_wp2
    go_ret
    exact ⟨by simp, by rw [hu] at hb; exact hb⟩
  · by_cases hm : a.mode = 2
    · have g1 : (a.mode == 2) = true := by simpa using hm
      have g2 : decide (a.mode = 2) = true := decide_eq_true hm
      rw [g2]
      clear hm g2
      go_enter Try.func18, Try.ntmps18
      go_wp2
      go_ret
      exact ⟨by simp, by rw [hu] at hb; exact hb⟩
    · have g1 : (a.mode == 2) = false := by simpa using hm
      have g2 : decide (a.mode = 2) = false := decide_eq_false hm
      rw [g2]
      clear hm g2
      go_enter Try.func18, Try.ntmps18
      go_wp2
      go_ret
      exact ⟨by simp, by rw [hu] at hb; exact hb⟩
set_option maxRecDepth 10000 in
set_option maxHeartbeats 3200000 in
theorem agAct_up (a : AG) (now : Int) (w : World) (hw : 0 ≤ a.worked ∧ a.worked ≤ 1000000) (h4 : a.up = false ∨ a.mode = 0 ∨ (a.mode ≠ 4 ∧ now < a.lease)) : Calls Try.prog 17 #[.agg #[.bool a.up, .int .i64 a.term, .int .i64 a.gen, .int .i64 a.mode, .int .i64 a.job, .int .i64 a.inc, .int .i64 a.version, .int .i64 a.lease, .int .i64 a.worked, .int .i64 a.to_], .int .i64 now] w fun e w' => e = .returned (aAct a now).v ∧ Below w.heap.size w w' := by
  cases hu : a.up
  · have HE : Hid (aAct a now = ⟨false, a.term, a.gen, a.mode, a.job, a.inc, a.version, a.lease, a.worked, a.to_⟩) := by rw [Hid]; unfold aAct; rw [if_pos (.inl hu), ← hu]
    clear hu h4
    go_enter Try.func17, Try.ntmps17
    go_wp2
    rw [HE.out]
    exact bodyPost_ret (res_ag rfl _ _ (w.heap.size + 1) _ rfl (heap2 _ _ _ _) rfl) rfl ⟨rfl, (((St.start w).alloc _).alloc _).fin⟩
  by_cases h0 : a.mode = 0
  · have HE : Hid (aAct a now = ⟨true, a.term, a.gen, a.mode, a.job, a.inc, a.version, a.lease, a.worked, a.to_⟩) := by rw [Hid]; unfold aAct; rw [if_pos (.inr h0), ← hu]
    have g0 : (a.mode == 0) = true := by simpa using h0
    clear hu h4 h0
    go_enter Try.func17, Try.ntmps17
    go_wp2
    rw [HE.out]
    exact bodyPost_ret (res_ag rfl _ _ (w.heap.size + 1) _ rfl (heap2 _ _ _ _) rfl) rfl ⟨rfl, (((St.start w).alloc _).alloc _).fin⟩
  have hx : a.mode ≠ 4 ∧ now < a.lease := by
    rcases h4 with h | h | h
    · rw [h] at hu; cases hu
    · exact absurd h h0
    · exact h
  have g0 : (a.mode == 0) = false := by simpa using h0
  have g4 : (a.mode == 4) = false := by simpa using hx.1
  have gl : decide (a.lease ≤ now) = false := decide_eq_false (by omega)
  have gl2 : ¬ a.lease ≤ now := by omega
  by_cases h2 : a.mode = 2
  · have HE : Hid (aAct a now = ⟨true, a.term, a.gen, a.mode, a.job, a.inc, a.version, a.lease, min 1000 (a.worked + 1), a.to_⟩) := by
      rw [Hid]; unfold aAct; rw [if_neg (by rw [hu]; simp [h0]), if_neg hx.1, if_neg gl2, if_pos h2, ← hu]
    have g2 : (a.mode == 2) = true := by simpa using h2
    clear hu h4 h0 h2 hx
    go_enter Try.func17, Try.ntmps17
    go_wp2
    all_goals first
      | (have hM : min 1000 (a.worked + 1) = 1000 := by omega
         rw [HE.out, hM]
         exact bodyPost_ret (res_ag rfl _ _ (w.heap.size + 1) _ rfl (heap2 _ _ _ _) rfl) rfl ⟨rfl, (((St.start w).alloc _).alloc _).fin⟩)
      | (have hM : min 1000 (a.worked + 1) = a.worked + 1 := by omega
         rw [HE.out, hM]
         exact bodyPost_ret (res_ag rfl _ _ (w.heap.size + 1) _ rfl (heap2 _ _ _ _) rfl) rfl ⟨rfl, (((St.start w).alloc _).alloc _).fin⟩)
  · have HE : Hid (aAct a now = ⟨true, a.term, a.gen, a.mode, a.job, a.inc, a.version, a.lease, a.worked, a.to_⟩) := by
      rw [Hid]; unfold aAct; rw [if_neg (by rw [hu]; simp [h0]), if_neg hx.1, if_neg gl2, if_neg h2, ← hu]
    have g2 : (a.mode == 2) = false := by simpa using h2
    clear hu h4 h0 h2 hx
    go_enter Try.func17, Try.ntmps17
    go_wp2
    rw [HE.out]
    exact bodyPost_ret (res_ag rfl _ _ (w.heap.size + 1) _ rfl (heap2 _ _ _ _) rfl) rfl ⟨rfl, (((St.start w).alloc _).alloc _).fin⟩
end Go.Proofs.Ytchehnkmmmnonaa

namespace Go.Proofs.Ytchehnkmmmnonaa
set_option linter.unusedVariables false
set_option linter.unusedSimpArgs false
open Go.RowKit
def aTell (a : AG) (node : Int) : Msg := ⟨node, 6, a.term, a.gen, a.job, a.inc, a.version, 0, 0, a.mode, a.worked⟩
theorem res_msgA {fn : Func} {p : Tmp} (h : fn.results = #[.cell p 25]) (tmps : Array Value) (w : World) (g : Nat) (cs : Array Value) (hp : tmps.getD p undef = .pointer (some ⟨g, 0, none⟩)) (hg : w.heap[g]? = some (.cells cs 25 (0, 0))) (hs : cs.size = 11) :
    (results fn tmps).run Try.prog w = .ok (.agg cs) w := by
  have hi : (Try.prog.info? 25).map (·.size) = some 11 := by kernel_rfl
  exact results_cell_row h tmps w g 25 cs (0, 0) _ hp hg Try.underlying25 rfl (by rw [hi, hs])
def Msg.v (m : Msg) : Value := .agg m.cs.toArray
set_option maxRecDepth 10000 in
set_option maxHeartbeats 1600000 in
theorem agTell (a : AG) (node : Int) (w : World) : Calls Try.prog 15 #[.agg #[.bool a.up, .int .i64 a.term, .int .i64 a.gen, .int .i64 a.mode, .int .i64 a.job, .int .i64 a.inc, .int .i64 a.version, .int .i64 a.lease, .int .i64 a.worked, .int .i64 a.to_], .int .i64 node] w fun e w' => e = .returned (aTell a node).v ∧ Below w.heap.size w w' := by
  go_enter Try.func15, Try.ntmps15
  go_wp2
  exact bodyPost_ret (res_msgA rfl _ _ (w.heap.size + 1) _ rfl (heap2 _ _ _ _) rfl) rfl ⟨rfl, (((St.start w).alloc _).alloc _).fin⟩
set_option maxRecDepth 10000 in
set_option maxHeartbeats 3200000 in
theorem agAct_turn (a : AG) (now : Int) (w : World) (hu : a.up = true) (h4 : a.mode = 4) : Calls Try.prog 17 #[.agg #[.bool a.up, .int .i64 a.term, .int .i64 a.gen, .int .i64 a.mode, .int .i64 a.job, .int .i64 a.inc, .int .i64 a.version, .int .i64 a.lease, .int .i64 a.worked, .int .i64 a.to_], .int .i64 now] w fun e w' => e = .returned (aAct a now).v ∧ Below w.heap.size w w' := by
  obtain ⟨b, HE, hl⟩ : ∃ b : AG, Hid (aAct a now = b) ∧ ∀ w : World, Calls Try.prog 30 #[.agg #[.bool true, .int .i64 a.term, .int .i64 a.gen, .int .i64 a.mode, .int .i64 a.job, .int .i64 a.inc, .int .i64 a.to_, .int .i64 a.lease, .int .i64 a.worked, .int .i64 0]] w fun e w' => e = .returned b.v ∧ Below w.heap.size w w' :=
    ⟨aLoose ⟨true, a.term, a.gen, a.mode, a.job, a.inc, a.to_, a.lease, a.worked, 0⟩, by rw [Hid]; unfold aAct; rw [if_neg (by rw [hu, h4]; decide), if_pos h4]; simp [aLoose, hu], fun w => agLoose ⟨true, a.term, a.gen, a.mode, a.job, a.inc, a.to_, a.lease, a.worked, 0⟩ w⟩
  obtain ⟨c, hcs⟩ : ∃ c : AG, c.cs = (#[.bool true, .int .i64 a.term, .int .i64 a.gen, .int .i64 a.mode, .int .i64 a.job, .int .i64 a.inc, .int .i64 a.to_, .int .i64 a.lease, .int .i64 a.worked, .int .i64 0] : Array Value).toList := ⟨⟨true, a.term, a.gen, a.mode, a.job, a.inc, a.to_, a.lease, a.worked, 0⟩, rfl⟩
  have g0 : (a.mode == 0) = false := by rw [h4]; rfl
  have g4 : (a.mode == 4) = true := by rw [h4]; rfl
  have g1 : a.up = true := hu
  clear h4
  have S1 : St w (w.alloc (.cells #[.bool true, .int .i64 a.term, .int .i64 a.gen, .int .i64 a.mode, .int .i64 a.job, .int .i64 a.inc, .int .i64 a.to_, .int .i64 a.lease, .int .i64 a.worked, .int .i64 0] 23)) [cellsT w.heap.size 23 c.cs] := by rw [hcs]; exact (St.start w).newCells 23 _
  have S2 : St w ((w.alloc (.cells #[.bool true, .int .i64 a.term, .int .i64 a.gen, .int .i64 a.mode, .int .i64 a.job, .int .i64 a.inc, .int .i64 a.to_, .int .i64 a.lease, .int .i64 a.worked, .int .i64 0] 23)).alloc (.cells #[.bool false, .int .i64 0, .int .i64 0, .int .i64 0, .int .i64 0, .int .i64 0, .int .i64 0, .int .i64 0, .int .i64 0, .int .i64 0] 23)) [cellsT w.heap.size 23 c.cs, cellsT (w.heap.size + 1) 23 AG.zero.cs] := newAtG S1 _ _ _ (by show (Array.push _ _).size = _; simp)
  clear hcs S1
  have h2 := S2.heap 0 rfl
  go_enter Try.func17, Try.ntmps17
  go_wp2_with fail
  refine (hl _).mono ?_
  rintro e w1 ⟨rfl, hb1⟩
  unfold AG.v
  have S3 := S2.grow hb1
  have S4 := S3.setRow 0 rfl b.cs.toArray
  have h3 := S3.heap 0 rfl
  clear hb1 S2 h2
  have hst : (storeCells ⟨w.heap.size, 0, none⟩ b.cs).run Try.prog w1 = .ok () (w1.setRow w.heap.size b.cs.toArray) := agStore _ _ c b h3
  replace S4 : St w _ [cellsT w.heap.size 23 b.cs, cellsT (w.heap.size + 1) 23 AG.zero.cs] := S4
  have y0 := S4.cell 0 rfl 0 rfl
  have y1 := S4.cell 0 rfl 1 rfl
  have y2 := S4.cell 0 rfl 2 rfl
  have y3 := S4.cell 0 rfl 3 rfl
  have y4 := S4.cell 0 rfl 4 rfl
  have y5 := S4.cell 0 rfl 5 rfl
  have y6 := S4.cell 0 rfl 6 rfl
  have y7 := S4.cell 0 rfl 7 rfl
  have y8 := S4.cell 0 rfl 8 rfl
  have y9 := S4.cell 0 rfl 9 rfl
  have z0 := S4.cell 1 rfl 0 rfl
  have v0 := S4.frozen 1 rfl 0
  have z1 := S4.cell 1 rfl 1 rfl
  have v1 := S4.frozen 1 rfl 1
  have z2 := S4.cell 1 rfl 2 rfl
  have v2 := S4.frozen 1 rfl 2
  have z3 := S4.cell 1 rfl 3 rfl
  have v3 := S4.frozen 1 rfl 3
  have z4 := S4.cell 1 rfl 4 rfl
  have v4 := S4.frozen 1 rfl 4
  have z5 := S4.cell 1 rfl 5 rfl
  have v5 := S4.frozen 1 rfl 5
  have z6 := S4.cell 1 rfl 6 rfl
  have v6 := S4.frozen 1 rfl 6
  have z7 := S4.cell 1 rfl 7 rfl
  have v7 := S4.frozen 1 rfl 7
  have z8 := S4.cell 1 rfl 8 rfl
  have v8 := S4.frozen 1 rfl 8
  have z9 := S4.cell 1 rfl 9 rfl
  have v9 := S4.frozen 1 rfl 9
  generalize w1.setRow _ _ = w4 at *
  have S6 := ((((((((((S4.setCell 1 rfl 0 (.bool b.up)).setCell 1 rfl 1 (.int .i64 b.term)).setCell 1 rfl 2 (.int .i64 b.gen)).setCell 1 rfl 3 (.int .i64 b.mode)).setCell 1 rfl 4 (.int .i64 b.job)).setCell 1 rfl 5 (.int .i64 b.inc)).setCell 1 rfl 6 (.int .i64 b.version)).setCell 1 rfl 7 (.int .i64 b.lease)).setCell 1 rfl 8 (.int .i64 b.worked)).setCell 1 rfl 9 (.int .i64 b.to_))
  clear h3 S3
  go_wp2
  refine bodyPost_ret (res_ag rfl _ _ (w.heap.size + 1) _ rfl (by exact S6.heap 1 rfl) rfl) rfl ?_
  rw [HE.out]
  exact ⟨rfl, S6.fin⟩
set_option maxRecDepth 10000 in
set_option maxHeartbeats 3200000 in
theorem agAct_late (a : AG) (now : Int) (w : World) (hu : a.up = true) (h0 : a.mode ≠ 0) (h4 : a.mode ≠ 4) (hl0 : a.lease ≤ now) : Calls Try.prog 17 #[.agg #[.bool a.up, .int .i64 a.term, .int .i64 a.gen, .int .i64 a.mode, .int .i64 a.job, .int .i64 a.inc, .int .i64 a.version, .int .i64 a.lease, .int .i64 a.worked, .int .i64 a.to_], .int .i64 now] w fun e w' => e = .returned (aAct a now).v ∧ Below w.heap.size w w' := by
  obtain ⟨b, HE, hl⟩ : ∃ b : AG, Hid (aAct a now = b) ∧ ∀ w : World, Calls Try.prog 30 #[.agg #[.bool true, .int .i64 a.term, .int .i64 a.gen, .int .i64 a.mode, .int .i64 a.job, .int .i64 a.inc, .int .i64 a.version, .int .i64 a.lease, .int .i64 a.worked, .int .i64 a.to_]] w fun e w' => e = .returned b.v ∧ Below w.heap.size w w' :=
    ⟨aLoose ⟨true, a.term, a.gen, a.mode, a.job, a.inc, a.version, a.lease, a.worked, a.to_⟩, by rw [Hid]; unfold aAct; rw [if_neg (by rw [hu]; simp [h0]), if_neg h4, if_pos hl0]; simp [aLoose, hu], fun w => agLoose ⟨true, a.term, a.gen, a.mode, a.job, a.inc, a.version, a.lease, a.worked, a.to_⟩ w⟩
  obtain ⟨c, hcs⟩ : ∃ c : AG, c.cs = (#[.bool true, .int .i64 a.term, .int .i64 a.gen, .int .i64 a.mode, .int .i64 a.job, .int .i64 a.inc, .int .i64 a.version, .int .i64 a.lease, .int .i64 a.worked, .int .i64 a.to_] : Array Value).toList := ⟨⟨true, a.term, a.gen, a.mode, a.job, a.inc, a.version, a.lease, a.worked, a.to_⟩, rfl⟩
  have g0 : (a.mode == 0) = false := by simpa using h0
  have g4 : (a.mode == 4) = false := by simpa using h4
  have gl : decide (a.lease ≤ now) = true := decide_eq_true hl0
  clear h4 h0
  have S1 : St w (w.alloc (.cells #[.bool true, .int .i64 a.term, .int .i64 a.gen, .int .i64 a.mode, .int .i64 a.job, .int .i64 a.inc, .int .i64 a.version, .int .i64 a.lease, .int .i64 a.worked, .int .i64 a.to_] 23)) [cellsT w.heap.size 23 c.cs] := by rw [hcs]; exact (St.start w).newCells 23 _
  have S2 : St w ((w.alloc (.cells #[.bool true, .int .i64 a.term, .int .i64 a.gen, .int .i64 a.mode, .int .i64 a.job, .int .i64 a.inc, .int .i64 a.version, .int .i64 a.lease, .int .i64 a.worked, .int .i64 a.to_] 23)).alloc (.cells #[.bool false, .int .i64 0, .int .i64 0, .int .i64 0, .int .i64 0, .int .i64 0, .int .i64 0, .int .i64 0, .int .i64 0, .int .i64 0] 23)) [cellsT w.heap.size 23 c.cs, cellsT (w.heap.size + 1) 23 AG.zero.cs] := newAtG S1 _ _ _ (by show (Array.push _ _).size = _; simp)
  clear hcs S1
  have h2 := S2.heap 0 rfl
  go_enter Try.func17, Try.ntmps17
  go_wp2_with fail
  refine (hl _).mono ?_
  rintro e w1 ⟨rfl, hb1⟩
  unfold AG.v
  have S3 := S2.grow hb1
  have S4 := S3.setRow 0 rfl b.cs.toArray
  have h3 := S3.heap 0 rfl
  clear hb1 S2 h2
  have hst : (storeCells ⟨w.heap.size, 0, none⟩ b.cs).run Try.prog w1 = .ok () (w1.setRow w.heap.size b.cs.toArray) := agStore _ _ c b h3
  replace S4 : St w _ [cellsT w.heap.size 23 b.cs, cellsT (w.heap.size + 1) 23 AG.zero.cs] := S4
  have y0 := S4.cell 0 rfl 0 rfl
  have y1 := S4.cell 0 rfl 1 rfl
  have y2 := S4.cell 0 rfl 2 rfl
  have y3 := S4.cell 0 rfl 3 rfl
  have y4 := S4.cell 0 rfl 4 rfl
  have y5 := S4.cell 0 rfl 5 rfl
  have y6 := S4.cell 0 rfl 6 rfl
  have y7 := S4.cell 0 rfl 7 rfl
  have y8 := S4.cell 0 rfl 8 rfl
  have y9 := S4.cell 0 rfl 9 rfl
  have z0 := S4.cell 1 rfl 0 rfl
  have v0 := S4.frozen 1 rfl 0
  have z1 := S4.cell 1 rfl 1 rfl
  have v1 := S4.frozen 1 rfl 1
  have z2 := S4.cell 1 rfl 2 rfl
  have v2 := S4.frozen 1 rfl 2
  have z3 := S4.cell 1 rfl 3 rfl
  have v3 := S4.frozen 1 rfl 3
  have z4 := S4.cell 1 rfl 4 rfl
  have v4 := S4.frozen 1 rfl 4
  have z5 := S4.cell 1 rfl 5 rfl
  have v5 := S4.frozen 1 rfl 5
  have z6 := S4.cell 1 rfl 6 rfl
  have v6 := S4.frozen 1 rfl 6
  have z7 := S4.cell 1 rfl 7 rfl
  have v7 := S4.frozen 1 rfl 7
  have z8 := S4.cell 1 rfl 8 rfl
  have v8 := S4.frozen 1 rfl 8
  have z9 := S4.cell 1 rfl 9 rfl
  have v9 := S4.frozen 1 rfl 9
  generalize w1.setRow _ _ = w4 at *
  have S6 := ((((((((((S4.setCell 1 rfl 0 (.bool b.up)).setCell 1 rfl 1 (.int .i64 b.term)).setCell 1 rfl 2 (.int .i64 b.gen)).setCell 1 rfl 3 (.int .i64 b.mode)).setCell 1 rfl 4 (.int .i64 b.job)).setCell 1 rfl 5 (.int .i64 b.inc)).setCell 1 rfl 6 (.int .i64 b.version)).setCell 1 rfl 7 (.int .i64 b.lease)).setCell 1 rfl 8 (.int .i64 b.worked)).setCell 1 rfl 9 (.int .i64 b.to_))
  clear h3 S3
  go_wp2
  refine bodyPost_ret (res_ag rfl _ _ (w.heap.size + 1) _ rfl (by exact S6.heap 1 rfl) rfl) rfl ?_
  rw [HE.out]
  exact ⟨rfl, S6.fin⟩
theorem agAct (a : AG) (now : Int) (w : World) (hw : 0 ≤ a.worked ∧ a.worked ≤ 1000000) : Calls Try.prog 17 #[.agg #[.bool a.up, .int .i64 a.term, .int .i64 a.gen, .int .i64 a.mode, .int .i64 a.job, .int .i64 a.inc, .int .i64 a.version, .int .i64 a.lease, .int .i64 a.worked, .int .i64 a.to_], .int .i64 now] w fun e w' => e = .returned (aAct a now).v ∧ Below w.heap.size w w' := by
  cases hu : a.up
  · have := agAct_up a now w hw (.inl hu); rw [hu] at this; exact this
  · by_cases h0 : a.mode = 0
    · have := agAct_up a now w hw (.inr (.inl h0)); rw [hu] at this; exact this
    · by_cases h4 : a.mode = 4
      · have := agAct_turn a now w hu h4; rw [hu] at this; exact this
      · by_cases hl : a.lease ≤ now
        · have := agAct_late a now w hu h0 h4 hl; rw [hu] at this; exact this
        · have := agAct_up a now w hw (.inr (.inr ⟨h4, by omega⟩)); rw [hu] at this; exact this
end Go.Proofs.Ytchehnkmmmnonaa

namespace Go.Proofs.Ytchehnkmmmnonaa
set_option linter.unusedVariables false
set_option linter.unusedSimpArgs false
open Go.RowKit
def ownsJ (a : AG) (m : Msg) (mode : Int) : Bool := (a.mode == mode) && ((a.job == m.job) && (a.inc == m.inc))
def aRenew (a : AG) (m : Msg) : AG := { a with lease := max a.lease m.until_ }
def oRest (a : AG) : AG := if a.mode = 4 then a else aLoose a
def oTake (a : AG) (m : Msg) (now : Int) : AG :=
  if ownsJ a m 1 = true ∨ ownsJ a m 2 = true then aRenew a m
  else if a.mode = 0 ∧ a.version = m.version ∧ now < m.until_ then { a with mode := 1, job := m.job, inc := m.inc, lease := m.until_ }
  else a
def oWork (a : AG) (m : Msg) : AG :=
  if ownsJ a m 2 = true then aRenew a m
  else if ownsJ a m 1 = true then { a with mode := 2, worked := m.work, lease := m.until_ }
  else a
def oTurn (a : AG) (m : Msg) : AG := if a.mode = 0 ∧ 1 ≤ m.version ∧ m.version ≤ 9 then { a with mode := 4, to_ := m.version } else a
section
variable {w0 w : World} {tl : List Thing} {g : Nat} {a : AG}
theorem ordSt (S : St w0 w (cellsT g 23 a.cs :: tl)) (m : Msg) (now : Int) (sv : Value) : St w0 (w.alloc (.cells #[.pointer (some ⟨g, 0, none⟩), .int .i64 m.node, .int .i64 m.kind, .int .i64 m.term, .int .i64 m.gen, .int .i64 m.job, .int .i64 m.inc, .int .i64 m.version, .int .i64 m.epoch, .int .i64 m.until_, .int .i64 m.mode, .int .i64 m.work, .int .i64 now, sv] 70)) (cellsT g 23 a.cs :: (tl ++ [cellsT w.heap.size 70 (#[.pointer (some ⟨g, 0, none⟩), .int .i64 m.node, .int .i64 m.kind, .int .i64 m.term, .int .i64 m.gen, .int .i64 m.job, .int .i64 m.inc, .int .i64 m.version, .int .i64 m.epoch, .int .i64 m.until_, .int .i64 m.mode, .int .i64 m.work, .int .i64 now, sv] : Array Value).toList])) := newAtG S _ _ _ rfl
theorem ordCells {w' : World} {m : Msg} {now : Int} {sv : Value} (S : St w0 w' (cellsT g 23 a.cs :: (tl ++ [cellsT w.heap.size 70 (#[.pointer (some ⟨g, 0, none⟩), .int .i64 m.node, .int .i64 m.kind, .int .i64 m.term, .int .i64 m.gen, .int .i64 m.job, .int .i64 m.inc, .int .i64 m.version, .int .i64 m.epoch, .int .i64 m.until_, .int .i64 m.mode, .int .i64 m.work, .int .i64 now, sv] : Array Value).toList]))) : (w'.cell? ⟨w.heap.size, 0, none⟩ = some (.pointer (some ⟨g, 0, none⟩)) ∧ w'.cell? ⟨w.heap.size, 1, none⟩ = some (.int .i64 m.node) ∧ w'.cell? ⟨w.heap.size, 2, none⟩ = some (.int .i64 m.kind) ∧ w'.cell? ⟨w.heap.size, 3, none⟩ = some (.int .i64 m.term) ∧ w'.cell? ⟨w.heap.size, 4, none⟩ = some (.int .i64 m.gen) ∧ w'.cell? ⟨w.heap.size, 5, none⟩ = some (.int .i64 m.job) ∧ w'.cell? ⟨w.heap.size, 6, none⟩ = some (.int .i64 m.inc) ∧ w'.cell? ⟨w.heap.size, 7, none⟩ = some (.int .i64 m.version) ∧ w'.cell? ⟨w.heap.size, 8, none⟩ = some (.int .i64 m.epoch) ∧ w'.cell? ⟨w.heap.size, 9, none⟩ = some (.int .i64 m.until_) ∧ w'.cell? ⟨w.heap.size, 10, none⟩ = some (.int .i64 m.mode) ∧ w'.cell? ⟨w.heap.size, 11, none⟩ = some (.int .i64 m.work) ∧ w'.cell? ⟨w.heap.size, 12, none⟩ = some (.int .i64 now) ∧ w'.cell? ⟨w.heap.size, 13, none⟩ = some sv) :=
  have R := St.rot (l := cellsT g 23 a.cs :: tl) S
  ⟨R.cell 0 rfl 0 rfl, R.cell 0 rfl 1 rfl, R.cell 0 rfl 2 rfl, R.cell 0 rfl 3 rfl, R.cell 0 rfl 4 rfl, R.cell 0 rfl 5 rfl, R.cell 0 rfl 6 rfl, R.cell 0 rfl 7 rfl, R.cell 0 rfl 8 rfl, R.cell 0 rfl 9 rfl, R.cell 0 rfl 10 rfl, R.cell 0 rfl 11 rfl, R.cell 0 rfl 12 rfl, R.cell 0 rfl 13 rfl⟩
theorem agCells {w' : World} (S : St w0 w' (cellsT g 23 a.cs :: tl)) : (w'.cell? ⟨g, 0, none⟩ = some (.bool a.up) ∧ w'.cell? ⟨g, 1, none⟩ = some (.int .i64 a.term) ∧ w'.cell? ⟨g, 2, none⟩ = some (.int .i64 a.gen) ∧ w'.cell? ⟨g, 3, none⟩ = some (.int .i64 a.mode) ∧ w'.cell? ⟨g, 4, none⟩ = some (.int .i64 a.job) ∧ w'.cell? ⟨g, 5, none⟩ = some (.int .i64 a.inc) ∧ w'.cell? ⟨g, 6, none⟩ = some (.int .i64 a.version) ∧ w'.cell? ⟨g, 7, none⟩ = some (.int .i64 a.lease) ∧ w'.cell? ⟨g, 8, none⟩ = some (.int .i64 a.worked) ∧ w'.cell? ⟨g, 9, none⟩ = some (.int .i64 a.to_)) :=
  ⟨S.cell 0 rfl 0 rfl, S.cell 0 rfl 1 rfl, S.cell 0 rfl 2 rfl, S.cell 0 rfl 3 rfl, S.cell 0 rfl 4 rfl, S.cell 0 rfl 5 rfl, S.cell 0 rfl 6 rfl, S.cell 0 rfl 7 rfl, S.cell 0 rfl 8 rfl, S.cell 0 rfl 9 rfl⟩
theorem agFree {w' : World} (S : St w0 w' (cellsT g 23 a.cs :: tl)) : (w'.frozen? ⟨g, 3, none⟩ = false ∧ w'.frozen? ⟨g, 4, none⟩ = false ∧ w'.frozen? ⟨g, 5, none⟩ = false ∧ w'.frozen? ⟨g, 7, none⟩ = false ∧ w'.frozen? ⟨g, 8, none⟩ = false ∧ w'.frozen? ⟨g, 9, none⟩ = false) := ⟨S.frozen 0 rfl 3, S.frozen 0 rfl 4, S.frozen 0 rfl 5, S.frozen 0 rfl 7, S.frozen 0 rfl 8, S.frozen 0 rfl 9⟩
theorem ordDrop {w' : World} {m : Msg} {now : Int} {sv : Value} (S : St w0 w' (cellsT g 23 a.cs :: (tl ++ [cellsT w.heap.size 70 (#[.pointer (some ⟨g, 0, none⟩), .int .i64 m.node, .int .i64 m.kind, .int .i64 m.term, .int .i64 m.gen, .int .i64 m.job, .int .i64 m.inc, .int .i64 m.version, .int .i64 m.epoch, .int .i64 m.until_, .int .i64 m.mode, .int .i64 m.work, .int .i64 now, sv] : Array Value).toList]))) : St w0 w' (cellsT g 23 a.cs :: tl) := (St.rot (l := cellsT g 23 a.cs :: tl) S).tail
set_option maxRecDepth 10000 in
set_option maxHeartbeats 1600000 in
theorem agOwn (S : St w0 w (cellsT g 23 a.cs :: tl)) (m : Msg) (now : Int) (sv : Value) (mode : Int) :
    Calls Try.prog 33 #[.agg #[.pointer (some ⟨g, 0, none⟩), .int .i64 m.node, .int .i64 m.kind, .int .i64 m.term, .int .i64 m.gen, .int .i64 m.job, .int .i64 m.inc, .int .i64 m.version, .int .i64 m.epoch, .int .i64 m.until_, .int .i64 m.mode, .int .i64 m.work, .int .i64 now, sv], .int .i64 mode] w fun e w' => e = .returned (.bool (ownsJ a m mode)) ∧ St w0 w' (cellsT g 23 a.cs :: tl) := by
  have S1 := (ordSt S m now sv).drew
  by_cases h1 : a.mode = mode
  case neg =>
    have g1 : (a.mode == mode) = false := by simpa using h1
    have HO : Hid (ownsJ a m mode = false) := by rw [Hid]; simp [ownsJ, g1]
    clear h1
    go_enter Try.func33, Try.ntmps33
    go_wp2_with fail
    refine wp_region_held_drew (S := (fun w' => (w'.cell? ⟨w.heap.size, 0, none⟩ = some (.pointer (some ⟨g, 0, none⟩)) ∧ w'.cell? ⟨w.heap.size, 1, none⟩ = some (.int .i64 m.node) ∧ w'.cell? ⟨w.heap.size, 2, none⟩ = some (.int .i64 m.kind) ∧ w'.cell? ⟨w.heap.size, 3, none⟩ = some (.int .i64 m.term) ∧ w'.cell? ⟨w.heap.size, 4, none⟩ = some (.int .i64 m.gen) ∧ w'.cell? ⟨w.heap.size, 5, none⟩ = some (.int .i64 m.job) ∧ w'.cell? ⟨w.heap.size, 6, none⟩ = some (.int .i64 m.inc) ∧ w'.cell? ⟨w.heap.size, 7, none⟩ = some (.int .i64 m.version) ∧ w'.cell? ⟨w.heap.size, 8, none⟩ = some (.int .i64 m.epoch) ∧ w'.cell? ⟨w.heap.size, 9, none⟩ = some (.int .i64 m.until_) ∧ w'.cell? ⟨w.heap.size, 10, none⟩ = some (.int .i64 m.mode) ∧ w'.cell? ⟨w.heap.size, 11, none⟩ = some (.int .i64 m.work) ∧ w'.cell? ⟨w.heap.size, 12, none⟩ = some (.int .i64 now) ∧ w'.cell? ⟨w.heap.size, 13, none⟩ = some sv) ∧ (w'.cell? ⟨g, 0, none⟩ = some (.bool a.up) ∧ w'.cell? ⟨g, 1, none⟩ = some (.int .i64 a.term) ∧ w'.cell? ⟨g, 2, none⟩ = some (.int .i64 a.gen) ∧ w'.cell? ⟨g, 3, none⟩ = some (.int .i64 a.mode) ∧ w'.cell? ⟨g, 4, none⟩ = some (.int .i64 a.job) ∧ w'.cell? ⟨g, 5, none⟩ = some (.int .i64 a.inc) ∧ w'.cell? ⟨g, 6, none⟩ = some (.int .i64 a.version) ∧ w'.cell? ⟨g, 7, none⟩ = some (.int .i64 a.lease) ∧ w'.cell? ⟨g, 8, none⟩ = some (.int .i64 a.worked) ∧ w'.cell? ⟨g, 9, none⟩ = some (.int .i64 a.to_)))) (by kernel_rfl) (by exact ⟨ordCells S1, agCells S1⟩) (fun hHeld => ?_)
    change wpAnyH _ _ _ _ _ 30 (Array.replicate 30 false) _ _
    refine wpAnyH_take (i := 0) (v := ?v1) (ops_at rfl) (by kernel_rfl) (by kernel_rfl) (by kernel_rfl) (fun _ _ _ h => h) (Or.inl ⟨by rfl, ?hy1⟩) (by assumption) ?rest1
    case hy1 => intro w' hSw; (try dsimp only at hSw); go_simp; try with_reducible rfl
    try simp only [Act.put, List.setIfInBounds_toArray, List.set_cons_zero, List.set_cons_succ]
    refine wpAnyH_take (i := 1) (v := ?v2) (ops_at rfl) (by kernel_rfl) (by kernel_rfl) (by kernel_rfl) (fun _ _ _ h => h) (Or.inl ⟨by rfl, ?hy2⟩) (by assumption) ?rest2
    case hy2 => intro w' hSw; (try dsimp only at hSw); go_simp; try with_reducible rfl
    try simp only [Act.put, List.setIfInBounds_toArray, List.set_cons_zero, List.set_cons_succ]
    refine wpAnyH_take (i := 2) (v := ?v3) (ops_at rfl) (by kernel_rfl) (by kernel_rfl) (by kernel_rfl) (fun _ _ _ h => h) (Or.inl ⟨by rfl, ?hy3⟩) (by assumption) ?rest3
    case hy3 => intro w' hSw; (try dsimp only at hSw); go_simp; try with_reducible rfl
    try simp only [Act.put, List.setIfInBounds_toArray, List.set_cons_zero, List.set_cons_succ]
    refine wpAnyH_take (i := 3) (v := ?v4) (ops_at rfl) (by kernel_rfl) (by kernel_rfl) (by kernel_rfl) (fun _ _ _ h => h) (Or.inl ⟨by rfl, ?hy4⟩) (by assumption) ?rest4
    case hy4 => intro w' hSw; (try dsimp only at hSw); go_simp; try with_reducible rfl
    try simp only [Act.put, List.setIfInBounds_toArray, List.set_cons_zero, List.set_cons_succ]
    refine wpAnyH_take (i := 4) (v := ?v5) (ops_at rfl) (by kernel_rfl) (by kernel_rfl) (by kernel_rfl) (fun _ _ _ h => h) (Or.inl ⟨by rfl, ?hy5⟩) (by assumption) ?rest5
    case hy5 => intro w' hSw; (try dsimp only at hSw); go_simp; try with_reducible rfl
    try simp only [Act.put, List.setIfInBounds_toArray, List.set_cons_zero, List.set_cons_succ]
    refine wpAnyH_take (i := 5) (v := ?v6) (ops_at rfl) (by kernel_rfl) (by kernel_rfl) (by kernel_rfl) (fun _ _ _ h => h) (Or.inl ⟨by rfl, ?hy6⟩) (by assumption) ?rest6
    case hy6 => intro w' hSw; (try dsimp only at hSw); go_simp; try with_reducible rfl
    try simp only [Act.put, List.setIfInBounds_toArray, List.set_cons_zero, List.set_cons_succ]
    refine wpAnyH_take (i := 6) (v := ?v7) (ops_at rfl) (by kernel_rfl) (by kernel_rfl) (by kernel_rfl) (fun _ _ _ h => h) (Or.inl ⟨by rfl, ?hy7⟩) (by assumption) ?rest7
    case hy7 => intro w' hSw; (try dsimp only at hSw); go_simp; try with_reducible rfl
    try simp only [Act.put, List.setIfInBounds_toArray, List.set_cons_zero, List.set_cons_succ]
    refine wpAnyH_take (i := 7) (v := ?v8) (ops_at rfl) (by kernel_rfl) (by kernel_rfl) (by kernel_rfl) (fun _ _ _ h => h) (Or.inl ⟨by rfl, ?hy8⟩) (by assumption) ?rest8
    case hy8 => intro w' hSw; (try dsimp only at hSw); go_simp; try with_reducible rfl
    try simp only [Act.put, List.setIfInBounds_toArray, List.set_cons_zero, List.set_cons_succ]
    refine wpAnyH_take (i := 8) (v := undef) (ops_at rfl) (by kernel_rfl) (by kernel_rfl) (by kernel_rfl) (fun _ _ _ h => h) (Or.inr ⟨by rfl, rfl⟩) (by assumption) ?rest9
    try simp only [Act.put, List.setIfInBounds_toArray, List.set_cons_zero, List.set_cons_succ]
    refine wpAnyH_take (i := 9) (v := undef) (ops_at rfl) (by kernel_rfl) (by kernel_rfl) (by kernel_rfl) (fun _ _ _ h => h) (Or.inr ⟨by rfl, rfl⟩) (by assumption) ?rest10
    try simp only [Act.put, List.setIfInBounds_toArray, List.set_cons_zero, List.set_cons_succ]
    refine wpAnyH_take (i := 10) (v := undef) (ops_at rfl) (by kernel_rfl) (by kernel_rfl) (by kernel_rfl) (fun _ _ _ h => h) (Or.inr ⟨by rfl, rfl⟩) (by assumption) ?rest11
    try simp only [Act.put, List.setIfInBounds_toArray, List.set_cons_zero, List.set_cons_succ]
    refine wpAnyH_take (i := 11) (v := undef) (ops_at rfl) (by kernel_rfl) (by kernel_rfl) (by kernel_rfl) (fun _ _ _ h => h) (Or.inr ⟨by rfl, rfl⟩) (by assumption) ?rest12
    try simp only [Act.put, List.setIfInBounds_toArray, List.set_cons_zero, List.set_cons_succ]
    refine wpAnyH_take (i := 12) (v := undef) (ops_at rfl) (by kernel_rfl) (by kernel_rfl) (by kernel_rfl) (fun _ _ _ h => h) (Or.inr ⟨by rfl, rfl⟩) (by assumption) ?rest13
    try simp only [Act.put, List.setIfInBounds_toArray, List.set_cons_zero, List.set_cons_succ]
    refine wpAnyH_take (i := 13) (v := undef) (ops_at rfl) (by kernel_rfl) (by kernel_rfl) (by kernel_rfl) (fun _ _ _ h => h) (Or.inr ⟨by rfl, rfl⟩) (by assumption) ?rest14
    try simp only [Act.put, List.setIfInBounds_toArray, List.set_cons_zero, List.set_cons_succ]
    refine wpAnyH_take (i := 14) (v := undef) (ops_at rfl) (by kernel_rfl) (by kernel_rfl) (by kernel_rfl) (fun _ _ _ h => h) (Or.inr ⟨by rfl, rfl⟩) (by assumption) ?rest15
    try simp only [Act.put, List.setIfInBounds_toArray, List.set_cons_zero, List.set_cons_succ]
    refine wpAnyH_take (i := 15) (v := undef) (ops_at rfl) (by kernel_rfl) (by kernel_rfl) (by kernel_rfl) (fun _ _ _ h => h) (Or.inr ⟨by rfl, rfl⟩) (by assumption) ?rest16
    try simp only [Act.put, List.setIfInBounds_toArray, List.set_cons_zero, List.set_cons_succ]
    refine wpAnyH_take (i := 16) (v := undef) (ops_at rfl) (by kernel_rfl) (by kernel_rfl) (by kernel_rfl) (fun _ _ _ h => h) (Or.inr ⟨by rfl, rfl⟩) (by assumption) ?rest17
    try simp only [Act.put, List.setIfInBounds_toArray, List.set_cons_zero, List.set_cons_succ]
    refine wpAnyH_take (i := 17) (v := ?v18) (ops_at rfl) (by kernel_rfl) (by kernel_rfl) (by kernel_rfl) (fun _ _ _ h => h) (Or.inl ⟨by rfl, ?hy18⟩) (by assumption) ?rest18
    case hy18 => intro w' hSw; (try dsimp only at hSw); go_simp; try with_reducible rfl
    try simp only [Act.put, List.setIfInBounds_toArray, List.set_cons_zero, List.set_cons_succ]
    refine wpAnyH_take (i := 18) (v := ?v19) (ops_at rfl) (by kernel_rfl) (by kernel_rfl) (by kernel_rfl) (fun _ _ _ h => h) (Or.inl ⟨by rfl, ?hy19⟩) (by assumption) ?rest19
    case hy19 => intro w' hSw; (try dsimp only at hSw); go_simp; try with_reducible rfl
    try simp only [Act.put, List.setIfInBounds_toArray, List.set_cons_zero, List.set_cons_succ]
    refine wpAnyH_take (i := 19) (v := undef) (ops_at rfl) (by kernel_rfl) (by kernel_rfl) (by kernel_rfl) (fun _ _ _ h => h) (Or.inr ⟨by rfl, rfl⟩) (by assumption) ?rest20
    try simp only [Act.put, List.setIfInBounds_toArray, List.set_cons_zero, List.set_cons_succ]
    refine wpAnyH_take (i := 20) (v := undef) (ops_at rfl) (by kernel_rfl) (by kernel_rfl) (by kernel_rfl) (fun _ _ _ h => h) (Or.inr ⟨by rfl, rfl⟩) (by assumption) ?rest21
    try simp only [Act.put, List.setIfInBounds_toArray, List.set_cons_zero, List.set_cons_succ]
    refine wpAnyH_take (i := 21) (v := undef) (ops_at rfl) (by kernel_rfl) (by kernel_rfl) (by kernel_rfl) (fun _ _ _ h => h) (Or.inr ⟨by rfl, rfl⟩) (by assumption) ?rest22
    try simp only [Act.put, List.setIfInBounds_toArray, List.set_cons_zero, List.set_cons_succ]
    refine wpAnyH_take (i := 22) (v := undef) (ops_at rfl) (by kernel_rfl) (by kernel_rfl) (by kernel_rfl) (fun _ _ _ h => h) (Or.inr ⟨by rfl, rfl⟩) (by assumption) ?rest23
    try simp only [Act.put, List.setIfInBounds_toArray, List.set_cons_zero, List.set_cons_succ]
    refine wpAnyH_take (i := 23) (v := undef) (ops_at rfl) (by kernel_rfl) (by kernel_rfl) (by kernel_rfl) (fun _ _ _ h => h) (Or.inr ⟨by rfl, rfl⟩) (by assumption) ?rest24
    try simp only [Act.put, List.setIfInBounds_toArray, List.set_cons_zero, List.set_cons_succ]
    refine wpAnyH_take (i := 24) (v := undef) (ops_at rfl) (by kernel_rfl) (by kernel_rfl) (by kernel_rfl) (fun _ _ _ h => h) (Or.inr ⟨by rfl, rfl⟩) (by assumption) ?rest25
    try simp only [Act.put, List.setIfInBounds_toArray, List.set_cons_zero, List.set_cons_succ]
    refine wpAnyH_take (i := 25) (v := undef) (ops_at rfl) (by kernel_rfl) (by kernel_rfl) (by kernel_rfl) (fun _ _ _ h => h) (Or.inr ⟨by rfl, rfl⟩) (by assumption) ?rest26
    try simp only [Act.put, List.setIfInBounds_toArray, List.set_cons_zero, List.set_cons_succ]
    refine wpAnyH_take (i := 26) (v := undef) (ops_at rfl) (by kernel_rfl) (by kernel_rfl) (by kernel_rfl) (fun _ _ _ h => h) (Or.inr ⟨by rfl, rfl⟩) (by assumption) ?rest27
    try simp only [Act.put, List.setIfInBounds_toArray, List.set_cons_zero, List.set_cons_succ]
    refine wpAnyH_take (i := 27) (v := undef) (ops_at rfl) (by kernel_rfl) (by kernel_rfl) (by kernel_rfl) (fun _ _ _ h => h) (Or.inr ⟨by rfl, rfl⟩) (by assumption) ?rest28
    try simp only [Act.put, List.setIfInBounds_toArray, List.set_cons_zero, List.set_cons_succ]
    refine wpAnyH_take (i := 28) (v := ?v29) (ops_at rfl) (by kernel_rfl) (by kernel_rfl) (by kernel_rfl) (fun _ _ _ h => h) (Or.inl ⟨by rfl, ?hy29⟩) (by assumption) ?rest29
    case hy29 => intro w' hSw; (try dsimp only at hSw); go_simp; try with_reducible rfl
    try simp only [Act.put, List.setIfInBounds_toArray, List.set_cons_zero, List.set_cons_succ]
    refine wpAnyH_take (i := 29) (v := ?v30) (ops_at rfl) (by kernel_rfl) (by kernel_rfl) (by kernel_rfl) (fun _ _ _ h => h) (Or.inl ⟨by rfl, ?hy30⟩) (by assumption) ?rest30
    case hy30 => intro w' hSw; (try dsimp only at hSw); go_simp; try with_reducible rfl
    try simp only [Act.put, List.setIfInBounds_toArray, List.set_cons_zero, List.set_cons_succ]
    refine wpAnyH_done (by kernel_rfl) ?_ _
    go_wp2
    go_ret
    rw [HO.out]
    exact ⟨rfl, ordDrop S1⟩
  have g1 : (a.mode == mode) = true := by simpa using h1
  by_cases h2 : a.job = m.job
  case neg =>
    have g2 : (a.job == m.job) = false := by simpa using h2
    have HO : Hid (ownsJ a m mode = false) := by rw [Hid]; simp [ownsJ, g2]
    clear h1 h2
    go_enter Try.func33, Try.ntmps33
    go_wp2_with fail
    refine wp_region_held_drew (S := (fun w' => (w'.cell? ⟨w.heap.size, 0, none⟩ = some (.pointer (some ⟨g, 0, none⟩)) ∧ w'.cell? ⟨w.heap.size, 1, none⟩ = some (.int .i64 m.node) ∧ w'.cell? ⟨w.heap.size, 2, none⟩ = some (.int .i64 m.kind) ∧ w'.cell? ⟨w.heap.size, 3, none⟩ = some (.int .i64 m.term) ∧ w'.cell? ⟨w.heap.size, 4, none⟩ = some (.int .i64 m.gen) ∧ w'.cell? ⟨w.heap.size, 5, none⟩ = some (.int .i64 m.job) ∧ w'.cell? ⟨w.heap.size, 6, none⟩ = some (.int .i64 m.inc) ∧ w'.cell? ⟨w.heap.size, 7, none⟩ = some (.int .i64 m.version) ∧ w'.cell? ⟨w.heap.size, 8, none⟩ = some (.int .i64 m.epoch) ∧ w'.cell? ⟨w.heap.size, 9, none⟩ = some (.int .i64 m.until_) ∧ w'.cell? ⟨w.heap.size, 10, none⟩ = some (.int .i64 m.mode) ∧ w'.cell? ⟨w.heap.size, 11, none⟩ = some (.int .i64 m.work) ∧ w'.cell? ⟨w.heap.size, 12, none⟩ = some (.int .i64 now) ∧ w'.cell? ⟨w.heap.size, 13, none⟩ = some sv) ∧ (w'.cell? ⟨g, 0, none⟩ = some (.bool a.up) ∧ w'.cell? ⟨g, 1, none⟩ = some (.int .i64 a.term) ∧ w'.cell? ⟨g, 2, none⟩ = some (.int .i64 a.gen) ∧ w'.cell? ⟨g, 3, none⟩ = some (.int .i64 a.mode) ∧ w'.cell? ⟨g, 4, none⟩ = some (.int .i64 a.job) ∧ w'.cell? ⟨g, 5, none⟩ = some (.int .i64 a.inc) ∧ w'.cell? ⟨g, 6, none⟩ = some (.int .i64 a.version) ∧ w'.cell? ⟨g, 7, none⟩ = some (.int .i64 a.lease) ∧ w'.cell? ⟨g, 8, none⟩ = some (.int .i64 a.worked) ∧ w'.cell? ⟨g, 9, none⟩ = some (.int .i64 a.to_)))) (by kernel_rfl) (by exact ⟨ordCells S1, agCells S1⟩) (fun hHeld => ?_)
    change wpAnyH _ _ _ _ _ 30 (Array.replicate 30 false) _ _
    refine wpAnyH_take (i := 0) (v := ?v31) (ops_at rfl) (by kernel_rfl) (by kernel_rfl) (by kernel_rfl) (fun _ _ _ h => h) (Or.inl ⟨by rfl, ?hy31⟩) (by assumption) ?rest31
    case hy31 => intro w' hSw; (try dsimp only at hSw); go_simp; try with_reducible rfl
    try simp only [Act.put, List.setIfInBounds_toArray, List.set_cons_zero, List.set_cons_succ]
    refine wpAnyH_take (i := 1) (v := ?v32) (ops_at rfl) (by kernel_rfl) (by kernel_rfl) (by kernel_rfl) (fun _ _ _ h => h) (Or.inl ⟨by rfl, ?hy32⟩) (by assumption) ?rest32
    case hy32 => intro w' hSw; (try dsimp only at hSw); go_simp; try with_reducible rfl
    try simp only [Act.put, List.setIfInBounds_toArray, List.set_cons_zero, List.set_cons_succ]
    refine wpAnyH_take (i := 2) (v := ?v33) (ops_at rfl) (by kernel_rfl) (by kernel_rfl) (by kernel_rfl) (fun _ _ _ h => h) (Or.inl ⟨by rfl, ?hy33⟩) (by assumption) ?rest33
    case hy33 => intro w' hSw; (try dsimp only at hSw); go_simp; try with_reducible rfl
    try simp only [Act.put, List.setIfInBounds_toArray, List.set_cons_zero, List.set_cons_succ]
    refine wpAnyH_take (i := 3) (v := ?v34) (ops_at rfl) (by kernel_rfl) (by kernel_rfl) (by kernel_rfl) (fun _ _ _ h => h) (Or.inl ⟨by rfl, ?hy34⟩) (by assumption) ?rest34
    case hy34 => intro w' hSw; (try dsimp only at hSw); go_simp; try with_reducible rfl
    try simp only [Act.put, List.setIfInBounds_toArray, List.set_cons_zero, List.set_cons_succ]
    refine wpAnyH_take (i := 4) (v := ?v35) (ops_at rfl) (by kernel_rfl) (by kernel_rfl) (by kernel_rfl) (fun _ _ _ h => h) (Or.inl ⟨by rfl, ?hy35⟩) (by assumption) ?rest35
    case hy35 => intro w' hSw; (try dsimp only at hSw); go_simp; try with_reducible rfl
    try simp only [Act.put, List.setIfInBounds_toArray, List.set_cons_zero, List.set_cons_succ]
    refine wpAnyH_take (i := 5) (v := ?v36) (ops_at rfl) (by kernel_rfl) (by kernel_rfl) (by kernel_rfl) (fun _ _ _ h => h) (Or.inl ⟨by rfl, ?hy36⟩) (by assumption) ?rest36
    case hy36 => intro w' hSw; (try dsimp only at hSw); go_simp; try with_reducible rfl
    try simp only [Act.put, List.setIfInBounds_toArray, List.set_cons_zero, List.set_cons_succ]
    refine wpAnyH_take (i := 6) (v := ?v37) (ops_at rfl) (by kernel_rfl) (by kernel_rfl) (by kernel_rfl) (fun _ _ _ h => h) (Or.inl ⟨by rfl, ?hy37⟩) (by assumption) ?rest37
    case hy37 => intro w' hSw; (try dsimp only at hSw); go_simp; try with_reducible rfl
    try simp only [Act.put, List.setIfInBounds_toArray, List.set_cons_zero, List.set_cons_succ]
    refine wpAnyH_take (i := 7) (v := ?v38) (ops_at rfl) (by kernel_rfl) (by kernel_rfl) (by kernel_rfl) (fun _ _ _ h => h) (Or.inl ⟨by rfl, ?hy38⟩) (by assumption) ?rest38
    case hy38 => intro w' hSw; (try dsimp only at hSw); go_simp; try with_reducible rfl
    try simp only [Act.put, List.setIfInBounds_toArray, List.set_cons_zero, List.set_cons_succ]
    refine wpAnyH_take (i := 8) (v := ?v39) (ops_at rfl) (by kernel_rfl) (by kernel_rfl) (by kernel_rfl) (fun _ _ _ h => h) (Or.inl ⟨by rfl, ?hy39⟩) (by assumption) ?rest39
    case hy39 => intro w' hSw; (try dsimp only at hSw); go_simp; try with_reducible rfl
    try simp only [Act.put, List.setIfInBounds_toArray, List.set_cons_zero, List.set_cons_succ]
    refine wpAnyH_take (i := 9) (v := ?v40) (ops_at rfl) (by kernel_rfl) (by kernel_rfl) (by kernel_rfl) (fun _ _ _ h => h) (Or.inl ⟨by rfl, ?hy40⟩) (by assumption) ?rest40
    case hy40 => intro w' hSw; (try dsimp only at hSw); go_simp; try with_reducible rfl
    try simp only [Act.put, List.setIfInBounds_toArray, List.set_cons_zero, List.set_cons_succ]
    refine wpAnyH_take (i := 10) (v := ?v41) (ops_at rfl) (by kernel_rfl) (by kernel_rfl) (by kernel_rfl) (fun _ _ _ h => h) (Or.inl ⟨by rfl, ?hy41⟩) (by assumption) ?rest41
    case hy41 => intro w' hSw; (try dsimp only at hSw); go_simp; try with_reducible rfl
    try simp only [Act.put, List.setIfInBounds_toArray, List.set_cons_zero, List.set_cons_succ]
    refine wpAnyH_take (i := 11) (v := ?v42) (ops_at rfl) (by kernel_rfl) (by kernel_rfl) (by kernel_rfl) (fun _ _ _ h => h) (Or.inl ⟨by rfl, ?hy42⟩) (by assumption) ?rest42
    case hy42 => intro w' hSw; (try dsimp only at hSw); go_simp; try with_reducible rfl
    try simp only [Act.put, List.setIfInBounds_toArray, List.set_cons_zero, List.set_cons_succ]
    refine wpAnyH_take (i := 12) (v := ?v43) (ops_at rfl) (by kernel_rfl) (by kernel_rfl) (by kernel_rfl) (fun _ _ _ h => h) (Or.inl ⟨by rfl, ?hy43⟩) (by assumption) ?rest43
    case hy43 => intro w' hSw; (try dsimp only at hSw); go_simp; try with_reducible rfl
    try simp only [Act.put, List.setIfInBounds_toArray, List.set_cons_zero, List.set_cons_succ]
    refine wpAnyH_take (i := 13) (v := ?v44) (ops_at rfl) (by kernel_rfl) (by kernel_rfl) (by kernel_rfl) (fun _ _ _ h => h) (Or.inl ⟨by rfl, ?hy44⟩) (by assumption) ?rest44
    case hy44 => intro w' hSw; (try dsimp only at hSw); go_simp; try with_reducible rfl
    try simp only [Act.put, List.setIfInBounds_toArray, List.set_cons_zero, List.set_cons_succ]
    refine wpAnyH_take (i := 14) (v := ?v45) (ops_at rfl) (by kernel_rfl) (by kernel_rfl) (by kernel_rfl) (fun _ _ _ h => h) (Or.inl ⟨by rfl, ?hy45⟩) (by assumption) ?rest45
    case hy45 => intro w' hSw; (try dsimp only at hSw); go_simp; try with_reducible rfl
    try simp only [Act.put, List.setIfInBounds_toArray, List.set_cons_zero, List.set_cons_succ]
    refine wpAnyH_take (i := 15) (v := ?v46) (ops_at rfl) (by kernel_rfl) (by kernel_rfl) (by kernel_rfl) (fun _ _ _ h => h) (Or.inl ⟨by rfl, ?hy46⟩) (by assumption) ?rest46
    case hy46 => intro w' hSw; (try dsimp only at hSw); go_simp; try with_reducible rfl
    try simp only [Act.put, List.setIfInBounds_toArray, List.set_cons_zero, List.set_cons_succ]
    refine wpAnyH_take (i := 16) (v := ?v47) (ops_at rfl) (by kernel_rfl) (by kernel_rfl) (by kernel_rfl) (fun _ _ _ h => h) (Or.inl ⟨by rfl, ?hy47⟩) (by assumption) ?rest47
    case hy47 => intro w' hSw; (try dsimp only at hSw); go_simp; try with_reducible rfl
    try simp only [Act.put, List.setIfInBounds_toArray, List.set_cons_zero, List.set_cons_succ]
    refine wpAnyH_take (i := 17) (v := ?v48) (ops_at rfl) (by kernel_rfl) (by kernel_rfl) (by kernel_rfl) (fun _ _ _ h => h) (Or.inl ⟨by rfl, ?hy48⟩) (by assumption) ?rest48
    case hy48 => intro w' hSw; (try dsimp only at hSw); go_simp; try with_reducible rfl
    try simp only [Act.put, List.setIfInBounds_toArray, List.set_cons_zero, List.set_cons_succ]
    refine wpAnyH_take (i := 18) (v := ?v49) (ops_at rfl) (by kernel_rfl) (by kernel_rfl) (by kernel_rfl) (fun _ _ _ h => h) (Or.inl ⟨by rfl, ?hy49⟩) (by assumption) ?rest49
    case hy49 => intro w' hSw; (try dsimp only at hSw); go_simp; try with_reducible rfl
    try simp only [Act.put, List.setIfInBounds_toArray, List.set_cons_zero, List.set_cons_succ]
    refine wpAnyH_take (i := 19) (v := undef) (ops_at rfl) (by kernel_rfl) (by kernel_rfl) (by kernel_rfl) (fun _ _ _ h => h) (Or.inr ⟨by rfl, rfl⟩) (by assumption) ?rest50
    try simp only [Act.put, List.setIfInBounds_toArray, List.set_cons_zero, List.set_cons_succ]
    refine wpAnyH_take (i := 20) (v := undef) (ops_at rfl) (by kernel_rfl) (by kernel_rfl) (by kernel_rfl) (fun _ _ _ h => h) (Or.inr ⟨by rfl, rfl⟩) (by assumption) ?rest51
    try simp only [Act.put, List.setIfInBounds_toArray, List.set_cons_zero, List.set_cons_succ]
    refine wpAnyH_take (i := 21) (v := undef) (ops_at rfl) (by kernel_rfl) (by kernel_rfl) (by kernel_rfl) (fun _ _ _ h => h) (Or.inr ⟨by rfl, rfl⟩) (by assumption) ?rest52
    try simp only [Act.put, List.setIfInBounds_toArray, List.set_cons_zero, List.set_cons_succ]
    refine wpAnyH_take (i := 22) (v := undef) (ops_at rfl) (by kernel_rfl) (by kernel_rfl) (by kernel_rfl) (fun _ _ _ h => h) (Or.inr ⟨by rfl, rfl⟩) (by assumption) ?rest53
    try simp only [Act.put, List.setIfInBounds_toArray, List.set_cons_zero, List.set_cons_succ]
    refine wpAnyH_take (i := 23) (v := undef) (ops_at rfl) (by kernel_rfl) (by kernel_rfl) (by kernel_rfl) (fun _ _ _ h => h) (Or.inr ⟨by rfl, rfl⟩) (by assumption) ?rest54
    try simp only [Act.put, List.setIfInBounds_toArray, List.set_cons_zero, List.set_cons_succ]
    refine wpAnyH_take (i := 24) (v := undef) (ops_at rfl) (by kernel_rfl) (by kernel_rfl) (by kernel_rfl) (fun _ _ _ h => h) (Or.inr ⟨by rfl, rfl⟩) (by assumption) ?rest55
    try simp only [Act.put, List.setIfInBounds_toArray, List.set_cons_zero, List.set_cons_succ]
    refine wpAnyH_take (i := 25) (v := undef) (ops_at rfl) (by kernel_rfl) (by kernel_rfl) (by kernel_rfl) (fun _ _ _ h => h) (Or.inr ⟨by rfl, rfl⟩) (by assumption) ?rest56
    try simp only [Act.put, List.setIfInBounds_toArray, List.set_cons_zero, List.set_cons_succ]
    refine wpAnyH_take (i := 26) (v := undef) (ops_at rfl) (by kernel_rfl) (by kernel_rfl) (by kernel_rfl) (fun _ _ _ h => h) (Or.inr ⟨by rfl, rfl⟩) (by assumption) ?rest57
    try simp only [Act.put, List.setIfInBounds_toArray, List.set_cons_zero, List.set_cons_succ]
    refine wpAnyH_take (i := 27) (v := undef) (ops_at rfl) (by kernel_rfl) (by kernel_rfl) (by kernel_rfl) (fun _ _ _ h => h) (Or.inr ⟨by rfl, rfl⟩) (by assumption) ?rest58
    try simp only [Act.put, List.setIfInBounds_toArray, List.set_cons_zero, List.set_cons_succ]
    refine wpAnyH_take (i := 28) (v := ?v59) (ops_at rfl) (by kernel_rfl) (by kernel_rfl) (by kernel_rfl) (fun _ _ _ h => h) (Or.inl ⟨by rfl, ?hy59⟩) (by assumption) ?rest59
    case hy59 => intro w' hSw; (try dsimp only at hSw); go_simp; try with_reducible rfl
    try simp only [Act.put, List.setIfInBounds_toArray, List.set_cons_zero, List.set_cons_succ]
    refine wpAnyH_take (i := 29) (v := ?v60) (ops_at rfl) (by kernel_rfl) (by kernel_rfl) (by kernel_rfl) (fun _ _ _ h => h) (Or.inl ⟨by rfl, ?hy60⟩) (by assumption) ?rest60
    case hy60 => intro w' hSw; (try dsimp only at hSw); go_simp; try with_reducible rfl
    try simp only [Act.put, List.setIfInBounds_toArray, List.set_cons_zero, List.set_cons_succ]
    refine wpAnyH_done (by kernel_rfl) ?_ _
    go_wp2
    go_ret
    rw [HO.out]
    exact ⟨rfl, ordDrop S1⟩
  have g2 : (a.job == m.job) = true := by simpa using h2
  have HO : Hid (ownsJ a m mode = (a.inc == m.inc)) := by rw [Hid]; simp [ownsJ, g1, g2]
  clear h1 h2
  go_enter Try.func33, Try.ntmps33
  go_wp2_with fail
  refine wp_region_held_drew (S := (fun w' => (w'.cell? ⟨w.heap.size, 0, none⟩ = some (.pointer (some ⟨g, 0, none⟩)) ∧ w'.cell? ⟨w.heap.size, 1, none⟩ = some (.int .i64 m.node) ∧ w'.cell? ⟨w.heap.size, 2, none⟩ = some (.int .i64 m.kind) ∧ w'.cell? ⟨w.heap.size, 3, none⟩ = some (.int .i64 m.term) ∧ w'.cell? ⟨w.heap.size, 4, none⟩ = some (.int .i64 m.gen) ∧ w'.cell? ⟨w.heap.size, 5, none⟩ = some (.int .i64 m.job) ∧ w'.cell? ⟨w.heap.size, 6, none⟩ = some (.int .i64 m.inc) ∧ w'.cell? ⟨w.heap.size, 7, none⟩ = some (.int .i64 m.version) ∧ w'.cell? ⟨w.heap.size, 8, none⟩ = some (.int .i64 m.epoch) ∧ w'.cell? ⟨w.heap.size, 9, none⟩ = some (.int .i64 m.until_) ∧ w'.cell? ⟨w.heap.size, 10, none⟩ = some (.int .i64 m.mode) ∧ w'.cell? ⟨w.heap.size, 11, none⟩ = some (.int .i64 m.work) ∧ w'.cell? ⟨w.heap.size, 12, none⟩ = some (.int .i64 now) ∧ w'.cell? ⟨w.heap.size, 13, none⟩ = some sv) ∧ (w'.cell? ⟨g, 0, none⟩ = some (.bool a.up) ∧ w'.cell? ⟨g, 1, none⟩ = some (.int .i64 a.term) ∧ w'.cell? ⟨g, 2, none⟩ = some (.int .i64 a.gen) ∧ w'.cell? ⟨g, 3, none⟩ = some (.int .i64 a.mode) ∧ w'.cell? ⟨g, 4, none⟩ = some (.int .i64 a.job) ∧ w'.cell? ⟨g, 5, none⟩ = some (.int .i64 a.inc) ∧ w'.cell? ⟨g, 6, none⟩ = some (.int .i64 a.version) ∧ w'.cell? ⟨g, 7, none⟩ = some (.int .i64 a.lease) ∧ w'.cell? ⟨g, 8, none⟩ = some (.int .i64 a.worked) ∧ w'.cell? ⟨g, 9, none⟩ = some (.int .i64 a.to_)))) (by kernel_rfl) (by exact ⟨ordCells S1, agCells S1⟩) (fun hHeld => ?_)
  change wpAnyH _ _ _ _ _ 30 (Array.replicate 30 false) _ _
  refine wpAnyH_take (i := 0) (v := ?v61) (ops_at rfl) (by kernel_rfl) (by kernel_rfl) (by kernel_rfl) (fun _ _ _ h => h) (Or.inl ⟨by rfl, ?hy61⟩) (by assumption) ?rest61
  case hy61 => intro w' hSw; (try dsimp only at hSw); go_simp; try with_reducible rfl
  try simp only [Act.put, List.setIfInBounds_toArray, List.set_cons_zero, List.set_cons_succ]
  refine wpAnyH_take (i := 1) (v := ?v62) (ops_at rfl) (by kernel_rfl) (by kernel_rfl) (by kernel_rfl) (fun _ _ _ h => h) (Or.inl ⟨by rfl, ?hy62⟩) (by assumption) ?rest62
  case hy62 => intro w' hSw; (try dsimp only at hSw); go_simp; try with_reducible rfl
  try simp only [Act.put, List.setIfInBounds_toArray, List.set_cons_zero, List.set_cons_succ]
  refine wpAnyH_take (i := 2) (v := ?v63) (ops_at rfl) (by kernel_rfl) (by kernel_rfl) (by kernel_rfl) (fun _ _ _ h => h) (Or.inl ⟨by rfl, ?hy63⟩) (by assumption) ?rest63
  case hy63 => intro w' hSw; (try dsimp only at hSw); go_simp; try with_reducible rfl
  try simp only [Act.put, List.setIfInBounds_toArray, List.set_cons_zero, List.set_cons_succ]
  refine wpAnyH_take (i := 3) (v := ?v64) (ops_at rfl) (by kernel_rfl) (by kernel_rfl) (by kernel_rfl) (fun _ _ _ h => h) (Or.inl ⟨by rfl, ?hy64⟩) (by assumption) ?rest64
  case hy64 => intro w' hSw; (try dsimp only at hSw); go_simp; try with_reducible rfl
  try simp only [Act.put, List.setIfInBounds_toArray, List.set_cons_zero, List.set_cons_succ]
  refine wpAnyH_take (i := 4) (v := ?v65) (ops_at rfl) (by kernel_rfl) (by kernel_rfl) (by kernel_rfl) (fun _ _ _ h => h) (Or.inl ⟨by rfl, ?hy65⟩) (by assumption) ?rest65
  case hy65 => intro w' hSw; (try dsimp only at hSw); go_simp; try with_reducible rfl
  try simp only [Act.put, List.setIfInBounds_toArray, List.set_cons_zero, List.set_cons_succ]
  refine wpAnyH_take (i := 5) (v := ?v66) (ops_at rfl) (by kernel_rfl) (by kernel_rfl) (by kernel_rfl) (fun _ _ _ h => h) (Or.inl ⟨by rfl, ?hy66⟩) (by assumption) ?rest66
  case hy66 => intro w' hSw; (try dsimp only at hSw); go_simp; try with_reducible rfl
  try simp only [Act.put, List.setIfInBounds_toArray, List.set_cons_zero, List.set_cons_succ]
  refine wpAnyH_take (i := 6) (v := ?v67) (ops_at rfl) (by kernel_rfl) (by kernel_rfl) (by kernel_rfl) (fun _ _ _ h => h) (Or.inl ⟨by rfl, ?hy67⟩) (by assumption) ?rest67
  case hy67 => intro w' hSw; (try dsimp only at hSw); go_simp; try with_reducible rfl
  try simp only [Act.put, List.setIfInBounds_toArray, List.set_cons_zero, List.set_cons_succ]
  refine wpAnyH_take (i := 7) (v := ?v68) (ops_at rfl) (by kernel_rfl) (by kernel_rfl) (by kernel_rfl) (fun _ _ _ h => h) (Or.inl ⟨by rfl, ?hy68⟩) (by assumption) ?rest68
  case hy68 => intro w' hSw; (try dsimp only at hSw); go_simp; try with_reducible rfl
  try simp only [Act.put, List.setIfInBounds_toArray, List.set_cons_zero, List.set_cons_succ]
  refine wpAnyH_take (i := 8) (v := ?v69) (ops_at rfl) (by kernel_rfl) (by kernel_rfl) (by kernel_rfl) (fun _ _ _ h => h) (Or.inl ⟨by rfl, ?hy69⟩) (by assumption) ?rest69
  case hy69 => intro w' hSw; (try dsimp only at hSw); go_simp; try with_reducible rfl
  try simp only [Act.put, List.setIfInBounds_toArray, List.set_cons_zero, List.set_cons_succ]
  refine wpAnyH_take (i := 9) (v := ?v70) (ops_at rfl) (by kernel_rfl) (by kernel_rfl) (by kernel_rfl) (fun _ _ _ h => h) (Or.inl ⟨by rfl, ?hy70⟩) (by assumption) ?rest70
  case hy70 => intro w' hSw; (try dsimp only at hSw); go_simp; try with_reducible rfl
  try simp only [Act.put, List.setIfInBounds_toArray, List.set_cons_zero, List.set_cons_succ]
  refine wpAnyH_take (i := 10) (v := ?v71) (ops_at rfl) (by kernel_rfl) (by kernel_rfl) (by kernel_rfl) (fun _ _ _ h => h) (Or.inl ⟨by rfl, ?hy71⟩) (by assumption) ?rest71
  case hy71 => intro w' hSw; (try dsimp only at hSw); go_simp; try with_reducible rfl
  try simp only [Act.put, List.setIfInBounds_toArray, List.set_cons_zero, List.set_cons_succ]
  refine wpAnyH_take (i := 11) (v := ?v72) (ops_at rfl) (by kernel_rfl) (by kernel_rfl) (by kernel_rfl) (fun _ _ _ h => h) (Or.inl ⟨by rfl, ?hy72⟩) (by assumption) ?rest72
  case hy72 => intro w' hSw; (try dsimp only at hSw); go_simp; try with_reducible rfl
  try simp only [Act.put, List.setIfInBounds_toArray, List.set_cons_zero, List.set_cons_succ]
  refine wpAnyH_take (i := 12) (v := ?v73) (ops_at rfl) (by kernel_rfl) (by kernel_rfl) (by kernel_rfl) (fun _ _ _ h => h) (Or.inl ⟨by rfl, ?hy73⟩) (by assumption) ?rest73
  case hy73 => intro w' hSw; (try dsimp only at hSw); go_simp; try with_reducible rfl
  try simp only [Act.put, List.setIfInBounds_toArray, List.set_cons_zero, List.set_cons_succ]
  refine wpAnyH_take (i := 13) (v := ?v74) (ops_at rfl) (by kernel_rfl) (by kernel_rfl) (by kernel_rfl) (fun _ _ _ h => h) (Or.inl ⟨by rfl, ?hy74⟩) (by assumption) ?rest74
  case hy74 => intro w' hSw; (try dsimp only at hSw); go_simp; try with_reducible rfl
  try simp only [Act.put, List.setIfInBounds_toArray, List.set_cons_zero, List.set_cons_succ]
  refine wpAnyH_take (i := 14) (v := ?v75) (ops_at rfl) (by kernel_rfl) (by kernel_rfl) (by kernel_rfl) (fun _ _ _ h => h) (Or.inl ⟨by rfl, ?hy75⟩) (by assumption) ?rest75
  case hy75 => intro w' hSw; (try dsimp only at hSw); go_simp; try with_reducible rfl
  try simp only [Act.put, List.setIfInBounds_toArray, List.set_cons_zero, List.set_cons_succ]
  refine wpAnyH_take (i := 15) (v := ?v76) (ops_at rfl) (by kernel_rfl) (by kernel_rfl) (by kernel_rfl) (fun _ _ _ h => h) (Or.inl ⟨by rfl, ?hy76⟩) (by assumption) ?rest76
  case hy76 => intro w' hSw; (try dsimp only at hSw); go_simp; try with_reducible rfl
  try simp only [Act.put, List.setIfInBounds_toArray, List.set_cons_zero, List.set_cons_succ]
  refine wpAnyH_take (i := 16) (v := ?v77) (ops_at rfl) (by kernel_rfl) (by kernel_rfl) (by kernel_rfl) (fun _ _ _ h => h) (Or.inl ⟨by rfl, ?hy77⟩) (by assumption) ?rest77
  case hy77 => intro w' hSw; (try dsimp only at hSw); go_simp; try with_reducible rfl
  try simp only [Act.put, List.setIfInBounds_toArray, List.set_cons_zero, List.set_cons_succ]
  refine wpAnyH_take (i := 17) (v := ?v78) (ops_at rfl) (by kernel_rfl) (by kernel_rfl) (by kernel_rfl) (fun _ _ _ h => h) (Or.inl ⟨by rfl, ?hy78⟩) (by assumption) ?rest78
  case hy78 => intro w' hSw; (try dsimp only at hSw); go_simp; try with_reducible rfl
  try simp only [Act.put, List.setIfInBounds_toArray, List.set_cons_zero, List.set_cons_succ]
  refine wpAnyH_take (i := 18) (v := ?v79) (ops_at rfl) (by kernel_rfl) (by kernel_rfl) (by kernel_rfl) (fun _ _ _ h => h) (Or.inl ⟨by rfl, ?hy79⟩) (by assumption) ?rest79
  case hy79 => intro w' hSw; (try dsimp only at hSw); go_simp; try with_reducible rfl
  try simp only [Act.put, List.setIfInBounds_toArray, List.set_cons_zero, List.set_cons_succ]
  refine wpAnyH_take (i := 19) (v := ?v80) (ops_at rfl) (by kernel_rfl) (by kernel_rfl) (by kernel_rfl) (fun _ _ _ h => h) (Or.inl ⟨by rfl, ?hy80⟩) (by assumption) ?rest80
  case hy80 => intro w' hSw; (try dsimp only at hSw); go_simp; try with_reducible rfl
  try simp only [Act.put, List.setIfInBounds_toArray, List.set_cons_zero, List.set_cons_succ]
  refine wpAnyH_take (i := 20) (v := ?v81) (ops_at rfl) (by kernel_rfl) (by kernel_rfl) (by kernel_rfl) (fun _ _ _ h => h) (Or.inl ⟨by rfl, ?hy81⟩) (by assumption) ?rest81
  case hy81 => intro w' hSw; (try dsimp only at hSw); go_simp; try with_reducible rfl
  try simp only [Act.put, List.setIfInBounds_toArray, List.set_cons_zero, List.set_cons_succ]
  refine wpAnyH_take (i := 21) (v := ?v82) (ops_at rfl) (by kernel_rfl) (by kernel_rfl) (by kernel_rfl) (fun _ _ _ h => h) (Or.inl ⟨by rfl, ?hy82⟩) (by assumption) ?rest82
  case hy82 => intro w' hSw; (try dsimp only at hSw); go_simp; try with_reducible rfl
  try simp only [Act.put, List.setIfInBounds_toArray, List.set_cons_zero, List.set_cons_succ]
  refine wpAnyH_take (i := 22) (v := ?v83) (ops_at rfl) (by kernel_rfl) (by kernel_rfl) (by kernel_rfl) (fun _ _ _ h => h) (Or.inl ⟨by rfl, ?hy83⟩) (by assumption) ?rest83
  case hy83 => intro w' hSw; (try dsimp only at hSw); go_simp; try with_reducible rfl
  try simp only [Act.put, List.setIfInBounds_toArray, List.set_cons_zero, List.set_cons_succ]
  refine wpAnyH_take (i := 23) (v := ?v84) (ops_at rfl) (by kernel_rfl) (by kernel_rfl) (by kernel_rfl) (fun _ _ _ h => h) (Or.inl ⟨by rfl, ?hy84⟩) (by assumption) ?rest84
  case hy84 => intro w' hSw; (try dsimp only at hSw); go_simp; try with_reducible rfl
  try simp only [Act.put, List.setIfInBounds_toArray, List.set_cons_zero, List.set_cons_succ]
  refine wpAnyH_take (i := 24) (v := ?v85) (ops_at rfl) (by kernel_rfl) (by kernel_rfl) (by kernel_rfl) (fun _ _ _ h => h) (Or.inl ⟨by rfl, ?hy85⟩) (by assumption) ?rest85
  case hy85 => intro w' hSw; (try dsimp only at hSw); go_simp; try with_reducible rfl
  try simp only [Act.put, List.setIfInBounds_toArray, List.set_cons_zero, List.set_cons_succ]
  refine wpAnyH_take (i := 25) (v := ?v86) (ops_at rfl) (by kernel_rfl) (by kernel_rfl) (by kernel_rfl) (fun _ _ _ h => h) (Or.inl ⟨by rfl, ?hy86⟩) (by assumption) ?rest86
  case hy86 => intro w' hSw; (try dsimp only at hSw); go_simp; try with_reducible rfl
  try simp only [Act.put, List.setIfInBounds_toArray, List.set_cons_zero, List.set_cons_succ]
  refine wpAnyH_take (i := 26) (v := ?v87) (ops_at rfl) (by kernel_rfl) (by kernel_rfl) (by kernel_rfl) (fun _ _ _ h => h) (Or.inl ⟨by rfl, ?hy87⟩) (by assumption) ?rest87
  case hy87 => intro w' hSw; (try dsimp only at hSw); go_simp; try with_reducible rfl
  try simp only [Act.put, List.setIfInBounds_toArray, List.set_cons_zero, List.set_cons_succ]
  refine wpAnyH_take (i := 27) (v := ?v88) (ops_at rfl) (by kernel_rfl) (by kernel_rfl) (by kernel_rfl) (fun _ _ _ h => h) (Or.inl ⟨by rfl, ?hy88⟩) (by assumption) ?rest88
  case hy88 => intro w' hSw; (try dsimp only at hSw); go_simp; try with_reducible rfl
  try simp only [Act.put, List.setIfInBounds_toArray, List.set_cons_zero, List.set_cons_succ]
  refine wpAnyH_take (i := 28) (v := ?v89) (ops_at rfl) (by kernel_rfl) (by kernel_rfl) (by kernel_rfl) (fun _ _ _ h => h) (Or.inl ⟨by rfl, ?hy89⟩) (by assumption) ?rest89
  case hy89 => intro w' hSw; (try dsimp only at hSw); go_simp; try with_reducible rfl
  try simp only [Act.put, List.setIfInBounds_toArray, List.set_cons_zero, List.set_cons_succ]
  refine wpAnyH_take (i := 29) (v := ?v90) (ops_at rfl) (by kernel_rfl) (by kernel_rfl) (by kernel_rfl) (fun _ _ _ h => h) (Or.inl ⟨by rfl, ?hy90⟩) (by assumption) ?rest90
  case hy90 => intro w' hSw; (try dsimp only at hSw); go_simp; try with_reducible rfl
  try simp only [Act.put, List.setIfInBounds_toArray, List.set_cons_zero, List.set_cons_succ]
  refine wpAnyH_done (by kernel_rfl) ?_ _
  go_wp2
  go_ret
  rw [HO.out]
  exact ⟨rfl, ordDrop S1⟩
set_option maxRecDepth 10000 in
set_option maxHeartbeats 1600000 in
theorem agRenew (S : St w0 w (cellsT g 23 a.cs :: tl)) (m : Msg) (now : Int) (sv : Value) :
    Calls Try.prog 34 #[.agg #[.pointer (some ⟨g, 0, none⟩), .int .i64 m.node, .int .i64 m.kind, .int .i64 m.term, .int .i64 m.gen, .int .i64 m.job, .int .i64 m.inc, .int .i64 m.version, .int .i64 m.epoch, .int .i64 m.until_, .int .i64 m.mode, .int .i64 m.work, .int .i64 now, sv]] w fun e w' => e = .returned (.tuple #[]) ∧ St w0 w' (cellsT g 23 (aRenew a m).cs :: tl) := by
  have S1 := (ordSt S m now sv).drew
  have HS : Hid (∀ x : Int, x = max a.lease m.until_ → St w0 ((w.alloc (.cells #[.pointer (some ⟨g, 0, none⟩), .int .i64 m.node, .int .i64 m.kind, .int .i64 m.term, .int .i64 m.gen, .int .i64 m.job, .int .i64 m.inc, .int .i64 m.version, .int .i64 m.epoch, .int .i64 m.until_, .int .i64 m.mode, .int .i64 m.work, .int .i64 now, sv] 70)).setCell ⟨g, 7, none⟩ (.int .i64 x)).drew (cellsT g 23 (aRenew a m).cs :: tl)) := by
    rw [Hid]; intro x hx; subst hx
    exact (St.rot (l := cellsT g 23 (aRenew a m).cs :: tl) ((ordSt S m now sv).setCell 0 rfl 7 (.int .i64 (max a.lease m.until_)))).tail.drew
  clear S
  have q1 := (agFree S1).2.2.2.1
  go_enter Try.func34, Try.ntmps34
  go_wp2_with fail
  refine wp_region_heldZ (S := (fun w' => (w'.cell? ⟨w.heap.size, 0, none⟩ = some (.pointer (some ⟨g, 0, none⟩)) ∧ w'.cell? ⟨w.heap.size, 1, none⟩ = some (.int .i64 m.node) ∧ w'.cell? ⟨w.heap.size, 2, none⟩ = some (.int .i64 m.kind) ∧ w'.cell? ⟨w.heap.size, 3, none⟩ = some (.int .i64 m.term) ∧ w'.cell? ⟨w.heap.size, 4, none⟩ = some (.int .i64 m.gen) ∧ w'.cell? ⟨w.heap.size, 5, none⟩ = some (.int .i64 m.job) ∧ w'.cell? ⟨w.heap.size, 6, none⟩ = some (.int .i64 m.inc) ∧ w'.cell? ⟨w.heap.size, 7, none⟩ = some (.int .i64 m.version) ∧ w'.cell? ⟨w.heap.size, 8, none⟩ = some (.int .i64 m.epoch) ∧ w'.cell? ⟨w.heap.size, 9, none⟩ = some (.int .i64 m.until_) ∧ w'.cell? ⟨w.heap.size, 10, none⟩ = some (.int .i64 m.mode) ∧ w'.cell? ⟨w.heap.size, 11, none⟩ = some (.int .i64 m.work) ∧ w'.cell? ⟨w.heap.size, 12, none⟩ = some (.int .i64 now) ∧ w'.cell? ⟨w.heap.size, 13, none⟩ = some sv) ∧ (w'.cell? ⟨g, 0, none⟩ = some (.bool a.up) ∧ w'.cell? ⟨g, 1, none⟩ = some (.int .i64 a.term) ∧ w'.cell? ⟨g, 2, none⟩ = some (.int .i64 a.gen) ∧ w'.cell? ⟨g, 3, none⟩ = some (.int .i64 a.mode) ∧ w'.cell? ⟨g, 4, none⟩ = some (.int .i64 a.job) ∧ w'.cell? ⟨g, 5, none⟩ = some (.int .i64 a.inc) ∧ w'.cell? ⟨g, 6, none⟩ = some (.int .i64 a.version) ∧ w'.cell? ⟨g, 7, none⟩ = some (.int .i64 a.lease) ∧ w'.cell? ⟨g, 8, none⟩ = some (.int .i64 a.worked) ∧ w'.cell? ⟨g, 9, none⟩ = some (.int .i64 a.to_)))) 13 (by kernel_rfl) (by exact ⟨ordCells S1, agCells S1⟩) (fun hHeld => ?_)
  change wpAnyZ _ _ _ _ _ 13 14 (Array.replicate 14 false) _ _
  refine wpAnyZ_take (i := 0) (v := ?v91) (ops_at rfl) (by kernel_rfl) (by kernel_rfl) (by kernel_rfl) (by kernel_rfl) [13] (by kernel_rfl) (by rfl) (fun _ _ _ h => h) (Or.inl ⟨by rfl, ?hy91⟩) (by assumption) ?rest91
  case hy91 => intro w' hSw; (try dsimp only at hSw); go_simp; try with_reducible rfl
  try simp only [Act.put, List.setIfInBounds_toArray, List.set_cons_zero, List.set_cons_succ]
  refine wpAnyZ_take (i := 1) (v := ?v92) (ops_at rfl) (by kernel_rfl) (by kernel_rfl) (by kernel_rfl) (by kernel_rfl) [13] (by kernel_rfl) (by rfl) (fun _ _ _ h => h) (Or.inl ⟨by rfl, ?hy92⟩) (by assumption) ?rest92
  case hy92 => intro w' hSw; (try dsimp only at hSw); go_simp; try with_reducible rfl
  try simp only [Act.put, List.setIfInBounds_toArray, List.set_cons_zero, List.set_cons_succ]
  refine wpAnyZ_take (i := 2) (v := ?v93) (ops_at rfl) (by kernel_rfl) (by kernel_rfl) (by kernel_rfl) (by kernel_rfl) [13] (by kernel_rfl) (by rfl) (fun _ _ _ h => h) (Or.inl ⟨by rfl, ?hy93⟩) (by assumption) ?rest93
  case hy93 => intro w' hSw; (try dsimp only at hSw); go_simp; try with_reducible rfl
  try simp only [Act.put, List.setIfInBounds_toArray, List.set_cons_zero, List.set_cons_succ]
  refine wpAnyZ_take (i := 3) (v := ?v94) (ops_at rfl) (by kernel_rfl) (by kernel_rfl) (by kernel_rfl) (by kernel_rfl) [13] (by kernel_rfl) (by rfl) (fun _ _ _ h => h) (Or.inl ⟨by rfl, ?hy94⟩) (by assumption) ?rest94
  case hy94 => intro w' hSw; (try dsimp only at hSw); go_simp; try with_reducible rfl
  try simp only [Act.put, List.setIfInBounds_toArray, List.set_cons_zero, List.set_cons_succ]
  refine wpAnyZ_take (i := 4) (v := ?v95) (ops_at rfl) (by kernel_rfl) (by kernel_rfl) (by kernel_rfl) (by kernel_rfl) [13] (by kernel_rfl) (by rfl) (fun _ _ _ h => h) (Or.inl ⟨by rfl, ?hy95⟩) (by assumption) ?rest95
  case hy95 => intro w' hSw; (try dsimp only at hSw); go_simp; try with_reducible rfl
  try simp only [Act.put, List.setIfInBounds_toArray, List.set_cons_zero, List.set_cons_succ]
  refine wpAnyZ_take (i := 5) (v := ?v96) (ops_at rfl) (by kernel_rfl) (by kernel_rfl) (by kernel_rfl) (by kernel_rfl) [13] (by kernel_rfl) (by rfl) (fun _ _ _ h => h) (Or.inl ⟨by rfl, ?hy96⟩) (by assumption) ?rest96
  case hy96 => intro w' hSw; (try dsimp only at hSw); go_simp; try with_reducible rfl
  try simp only [Act.put, List.setIfInBounds_toArray, List.set_cons_zero, List.set_cons_succ]
  refine wpAnyZ_take (i := 6) (v := ?v97) (ops_at rfl) (by kernel_rfl) (by kernel_rfl) (by kernel_rfl) (by kernel_rfl) [13] (by kernel_rfl) (by rfl) (fun _ _ _ h => h) (Or.inl ⟨by rfl, ?hy97⟩) (by assumption) ?rest97
  case hy97 => intro w' hSw; (try dsimp only at hSw); go_simp; try with_reducible rfl
  try simp only [Act.put, List.setIfInBounds_toArray, List.set_cons_zero, List.set_cons_succ]
  refine wpAnyZ_take (i := 7) (v := ?v98) (ops_at rfl) (by kernel_rfl) (by kernel_rfl) (by kernel_rfl) (by kernel_rfl) [13] (by kernel_rfl) (by rfl) (fun _ _ _ h => h) (Or.inl ⟨by rfl, ?hy98⟩) (by assumption) ?rest98
  case hy98 => intro w' hSw; (try dsimp only at hSw); go_simp; try with_reducible rfl
  try simp only [Act.put, List.setIfInBounds_toArray, List.set_cons_zero, List.set_cons_succ]
  refine wpAnyZ_take (i := 8) (v := ?v99) (ops_at rfl) (by kernel_rfl) (by kernel_rfl) (by kernel_rfl) (by kernel_rfl) [13] (by kernel_rfl) (by rfl) (fun _ _ _ h => h) (Or.inl ⟨by rfl, ?hy99⟩) (by assumption) ?rest99
  case hy99 => intro w' hSw; (try dsimp only at hSw); go_simp; try with_reducible rfl
  try simp only [Act.put, List.setIfInBounds_toArray, List.set_cons_zero, List.set_cons_succ]
  refine wpAnyZ_take (i := 9) (v := ?v100) (ops_at rfl) (by kernel_rfl) (by kernel_rfl) (by kernel_rfl) (by kernel_rfl) [13] (by kernel_rfl) (by rfl) (fun _ _ _ h => h) (Or.inl ⟨by rfl, ?hy100⟩) (by assumption) ?rest100
  case hy100 => intro w' hSw; (try dsimp only at hSw); go_simp; try with_reducible rfl
  try simp only [Act.put, List.setIfInBounds_toArray, List.set_cons_zero, List.set_cons_succ]
  refine wpAnyZ_take (i := 10) (v := ?v101) (ops_at rfl) (by kernel_rfl) (by kernel_rfl) (by kernel_rfl) (by kernel_rfl) [13] (by kernel_rfl) (by rfl) (fun _ _ _ h => h) (Or.inl ⟨by rfl, ?hy101⟩) (by assumption) ?rest101
  case hy101 => intro w' hSw; (try dsimp only at hSw); go_simp; try with_reducible rfl
  try simp only [Act.put, List.setIfInBounds_toArray, List.set_cons_zero, List.set_cons_succ]
  refine wpAnyZ_take (i := 11) (v := ?v102) (ops_at rfl) (by kernel_rfl) (by kernel_rfl) (by kernel_rfl) (by kernel_rfl) [12, 13] (by kernel_rfl) (by rfl) (fun _ _ _ h => h) (Or.inl ⟨by rfl, ?hy102⟩) (by assumption) ?rest102
  case hy102 => intro w' hSw; (try dsimp only at hSw); go_simp; try with_reducible rfl
  try simp only [Act.put, List.setIfInBounds_toArray, List.set_cons_zero, List.set_cons_succ]
  refine wpAnyZ_take (i := 12) (v := ?v103) (ops_at rfl) (by kernel_rfl) (by kernel_rfl) (by kernel_rfl) (by kernel_rfl) [13] (by kernel_rfl) (by rfl) (fun _ _ _ h => h) (Or.inl ⟨by rfl, ?hy103⟩) (by assumption) ?rest103
  case hy103 => intro w' hSw; (try dsimp only at hSw); go_simp; try with_reducible rfl
  try simp only [Act.put, List.setIfInBounds_toArray, List.set_cons_zero, List.set_cons_succ]
  refine wpAnyZ_free (i := 13) (by kernel_rfl) (ops_at rfl) (by kernel_rfl) (fun K hK => ?_)
  go_simp
  refine hK.out _ _ ?_
  clear hK K
  try simp only [Act.put, List.setIfInBounds_toArray, List.set_cons_zero, List.set_cons_succ]
  refine wpAnyZ_done (by kernel_rfl) ?_ _
  go_wp2
  all_goals (go_end0; exact ⟨rfl, HS.out _ (by omega)⟩)
end
end Go.Proofs.Ytchehnkmmmnonaa
