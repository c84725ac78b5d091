/- The document's agent: Take. -/
import Derived.Test.YtchehnkmmmnonaaAgentRef
namespace Go.Proofs.Ytchehnkmmmnonaa
set_option linter.unusedVariables false
set_option linter.unusedSimpArgs false
open Go.RowKit
theorem res_agB {fn : Func} {p u : Tmp} (h : fn.results = #[.cell p 23, .tmp u]) (tmps : Array Value) (w : World) (g : Nat) (cs : Array Value) (b : Value) (hp : tmps.getD p undef = .pointer (some ⟨g, 0, none⟩)) (hg : w.heap[g]? = some (.cells cs 23 (0, 0))) (hs : cs.size = 10) (hb : tmps.getD u undef = b) :
    (results fn tmps).run Try.prog w = .ok (.tuple #[.agg cs, b]) w := by
  have hi : (Try.prog.info? 23).map (·.size) = some 10 := by kernel_rfl
  have l1 := run_loadVar_row (P := Try.prog) w g 23 23 cs (0, 0) _ hg Try.underlying23 rfl (by rw [hi, hs])
  rw [results_cell_tmp h, hp, hb]
  simp [asAddr, l1, Result.andThen]
theorem heap34 (w : World) (o1 o2 o4 : Obj) (cs : Array Value) (T : TypeId) : ((((w.alloc o1).alloc o2).alloc (.cells cs T)).alloc o4).heap[w.heap.size + 1 + 1]? = some (.cells cs T (0, 0)) := by
  have h := heap_alloc_new ((w.alloc o1).alloc o2) (.cells cs T)
  rw [alloc_size, alloc_size] at h
  rw [heap_alloc_old _ _ (by rw [alloc_size, alloc_size, alloc_size]; omega)]
  exact h
theorem heap33 (w : World) (o1 o2 : Obj) (cs : Array Value) (T : TypeId) : (((w.alloc o1).alloc o2).alloc (.cells cs T)).heap[w.heap.size + 1 + 1]? = some (.cells cs T (0, 0)) := by
  have h := heap_alloc_new ((w.alloc o1).alloc o2) (.cells cs T)
  rw [alloc_size, alloc_size] at h
  exact h
theorem own_t {b : AG} {m : Msg} {k : Int} (h1 : (b.mode == k) = true) (h2 : (b.job == m.job) = true) (h3 : (b.inc == m.inc) = true) : ownsJ b m k = true := by unfold ownsJ; rw [h1, h2, h3]; rfl
theorem own_m {b : AG} {m : Msg} {k : Int} (h1 : (b.mode == k) = false) : ownsJ b m k = false := by unfold ownsJ; rw [h1]; rfl
theorem own_j {b : AG} {m : Msg} {k : Int} (h2 : (b.job == m.job) = false) : ownsJ b m k = false := by unfold ownsJ; rw [h2]; simp
theorem own_i {b : AG} {m : Msg} {k : Int} (h3 : (b.inc == m.inc) = false) : ownsJ b m k = false := by unfold ownsJ; rw [h3]; simp
theorem bt {x y : Int} (h : (x == y) = true) : x = y := by simpa using h
theorem bf {x y : Int} (h : (x == y) = false) : ¬ x = y := by simpa using h
theorem rO2_own {b : AG} {m : Msg} {now : Int} {q : QS} (hk : m.kind = 2) (h : ownsJ b m 1 = true ∨ ownsJ b m 2 = true) : rOrder b m now q = (aRenew b m, q) := by unfold rOrder oTake; rw [if_neg (by omega), if_pos hk, if_pos h]
theorem rO2_set {b : AG} {m : Msg} {now : Int} {q : QS} (hk : m.kind = 2) (h1 : ownsJ b m 1 = false) (h2 : ownsJ b m 2 = false) (c : b.mode = 0 ∧ b.version = m.version ∧ now < m.until_) : rOrder b m now q = ({ b with mode := 1, job := m.job, inc := m.inc, lease := m.until_ }, q) := by unfold rOrder oTake; rw [if_neg (by omega), if_pos hk, if_neg (by rw [h1, h2]; simp), if_pos c]
theorem rO2_no {b : AG} {m : Msg} {now : Int} {q : QS} (hk : m.kind = 2) (h1 : ownsJ b m 1 = false) (h2 : ownsJ b m 2 = false) (c : ¬ (b.mode = 0 ∧ b.version = m.version ∧ now < m.until_)) : rOrder b m now q = (b, q) := by unfold rOrder oTake; rw [if_neg (by omega), if_pos hk, if_neg (by rw [h1, h2]; simp), if_neg c]
theorem rO3_own {b : AG} {m : Msg} {now : Int} {q : QS} (hk : m.kind = 3) (h : ownsJ b m 2 = true) : rOrder b m now q = (aRenew b m, q) := by unfold rOrder oWork; rw [if_neg (by omega), if_neg (by omega), if_pos hk, if_pos h]
theorem rO3_set {b : AG} {m : Msg} {now : Int} {q : QS} (hk : m.kind = 3) (h1 : ownsJ b m 1 = true) (h2 : ownsJ b m 2 = false) : rOrder b m now q = ({ b with mode := 2, worked := m.work, lease := m.until_ }, q) := by unfold rOrder oWork; rw [if_neg (by omega), if_neg (by omega), if_pos hk, if_neg (by rw [h2]; simp), if_pos h1]
theorem rO3_no {b : AG} {m : Msg} {now : Int} {q : QS} (hk : m.kind = 3) (h1 : ownsJ b m 1 = false) (h2 : ownsJ b m 2 = false) : rOrder b m now q = (b, q) := by unfold rOrder oWork; rw [if_neg (by omega), if_neg (by omega), if_pos hk, if_neg (by rw [h2]; simp), if_neg (by rw [h1]; simp)]
theorem rO4_no {b : AG} {m : Msg} {now : Int} {q : QS} (hk : m.kind = 4) (h : ¬ (ownsJ b m 2 = true ∧ now < b.lease)) : rOrder b m now q = (b, q) := by unfold rOrder rSave; rw [if_neg (by omega), if_neg (by omega), if_neg (by omega), if_pos hk, if_neg h]
theorem rO4_kept {b : AG} {m : Msg} {now : Int} {q : QS} (hk : m.kind = 4) (h : ownsJ b m 2 = true ∧ now < b.lease) (h1 : ¬ m.mode = 1) : rOrder b m now q = ({ b with mode := 3 }, q) := by unfold rOrder rSave; rw [if_neg (by omega), if_neg (by omega), if_neg (by omega), if_pos hk, if_pos h, if_neg h1]
theorem rO4_save {b : AG} {m : Msg} {now : Int} {q : QS} (hk : m.kind = 4) (h : ownsJ b m 2 = true ∧ now < b.lease) (h1 : m.mode = 1) {r : Int × QS} (hr : qStage q m.term b.job b.inc (ckData b.worked) = r) : rOrder b m now q = (if r.1 = 0 then { b with mode := 3 } else b, r.2) := by unfold rOrder rSave; rw [if_neg (by omega), if_neg (by omega), if_neg (by omega), if_pos hk, if_pos h, if_pos h1, hr]
theorem rO5_set {b : AG} {m : Msg} {now : Int} {q : QS} (h0 : ¬ (m.kind = 1 ∨ m.kind = 2 ∨ m.kind = 3 ∨ m.kind = 4)) (c : b.mode = 0 ∧ 1 ≤ m.version ∧ m.version ≤ 9) : rOrder b m now q = ({ b with mode := 4, to_ := m.version }, q) := by unfold rOrder oTurn; rw [if_neg (by omega), if_neg (by omega), if_neg (by omega), if_neg (by omega), if_pos c]
theorem rO5_no {b : AG} {m : Msg} {now : Int} {q : QS} (h0 : ¬ (m.kind = 1 ∨ m.kind = 2 ∨ m.kind = 3 ∨ m.kind = 4)) (c : ¬ (b.mode = 0 ∧ 1 ≤ m.version ∧ m.version ≤ 9)) : rOrder b m now q = (b, q) := by unfold rOrder oTurn; rw [if_neg (by omega), if_neg (by omega), if_neg (by omega), if_neg (by omega), if_neg c]
end Go.Proofs.Ytchehnkmmmnonaa
