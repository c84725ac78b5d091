/- Watch: agents in slices; who has a job; what an agent may not have. -/
import Derived.Test.YtilobmefomoemaaAgents
import Derived.Test.YtilobmefomoemaaRight3
import Derived.Test.YtilobmefomoemaaStoreOpt
namespace Go.Proofs.Ytilobmefomoemaa
set_option linter.unusedVariables false
set_option linter.unusedSimpArgs false
open Go.RowKit
def eAG : Elt AG := { T := 26, E := 31, s := 10, byt := 80, z := .agg #[.bool false, .int .i64 0, .int .i64 0, .int .i64 0, .int .i64 0, .int .i64 0, .int .i64 0, .int .i64 0, .int .i64 0, .int .i64 0], enc := AG.cs }
theorem eAGok : eAG.Ok := ⟨fun _ => rfl, fun x u hu => by
  simp only [eAG, AG.cs, List.mem_cons, List.not_mem_nil, or_false] at hu
  rcases hu with rfl | rfl | rfl | rfl | rfl | rfl | rfl | rfl | rfl | rfl <;> rfl, by decide, by kernel_rfl, by kernel_rfl, by rfl⟩
def AgAt (w : World) (A : Addr) (x : AG) : Prop := w.cell? A = some (.bool x.up) ∧ w.cell? { block := A.block, off := A.off + 1 } = some (.int .i64 x.term) ∧ w.cell? { block := A.block, off := A.off + 2 } = some (.int .i64 x.gen) ∧ w.cell? { block := A.block, off := A.off + 3 } = some (.int .i64 x.mode) ∧ w.cell? { block := A.block, off := A.off + 4 } = some (.int .i64 x.job) ∧ w.cell? { block := A.block, off := A.off + 5 } = some (.int .i64 x.inc) ∧ w.cell? { block := A.block, off := A.off + 6 } = some (.int .i64 x.version) ∧ w.cell? { block := A.block, off := A.off + 7 } = some (.int .i64 x.lease) ∧ w.cell? { block := A.block, off := A.off + 8 } = some (.int .i64 x.worked) ∧ w.cell? { block := A.block, off := A.off + 9 } = some (.int .i64 x.to_)
theorem AtG.agAt {w : World} {a : Option Addr} {l : List AG} (h : AtG eAG w a l) {k : Nat} (hk : k < l.length) : AgAt w (adr a (k * 10)) l[k] := by
  have hj : ∀ j, j < 10 → w.cell? ((adr a (k * 10)).add j) = (eAG.enc l[k])[j]? := by
    intro j hj
    have := (h k hk).2 j hj
    rw [show eAG.s = 10 from rfl, ← adr_two] at this
    exact this
  exact ⟨hj 0 (by decide), hj 1 (by decide), hj 2 (by decide), hj 3 (by decide), hj 4 (by decide), hj 5 (by decide), hj 6 (by decide), hj 7 (by decide), hj 8 (by decide), hj 9 (by decide)⟩
theorem idxAG (a : Option Addr) (n cap : Nat) (hn : 0 < n → a.isSome = true) (k : Nat) (hk : k < n) (wx : World) :
    (Instr.indexAt 26 (.slice a n cap) (.int .i64 (k : Int))).run Try.prog wx = .ok (.pointer (some (adr a (k * 10)))) wx := idxG eAGok a n cap hn k k rfl hk wx
theorem St.agC {w0 w' : World} {l : List Thing} (S : St w0 w' l) (k : Nat) {g : Nat} {T : TypeId} {x : AG} (h : l[k]? = some (cellsT g T x.cs)) : AgAt w' ⟨g, 0, none⟩ x :=
  ⟨S.cell k h 0 rfl, S.cell k h 1 rfl, S.cell k h 2 rfl, S.cell k h 3 rfl, S.cell k h 4 rfl, S.cell k h 5 rfl, S.cell k h 6 rfl, S.cell k h 7 rfl, S.cell k h 8 rfl, S.cell k h 9 rfl⟩
theorem St.vwC {w0 w' : World} {l : List Thing} (S : St w0 w' l) (k : Nat) {G : Nat} {T : TypeId} {c : CF} {s : STA} {la : Option Addr} {ln lc : Nat} {sv : Value} (h : l[k]? = some (cellsT G T (#[.int .i64 c.nodes, .int .i64 c.queues, .int .i64 c.quota, .int .i64 c.wave, .int .i64 c.lease, .int .i64 c.retry, .int .i64 c.deadline, .int .i64 c.room, .int .i64 c.disk, .slice s.na s.nn s.nc, .slice s.ja s.jn s.jc, .int .i64 s.goal, .int .i64 s.prior, .int .i64 s.mode, .int .i64 s.term, .slice la ln lc, sv] : Array Value).toList)) : (w'.cell? ⟨G, 0, none⟩ = some (.int .i64 c.nodes) ∧ w'.cell? ⟨G, 1, none⟩ = some (.int .i64 c.queues) ∧ w'.cell? ⟨G, 2, none⟩ = some (.int .i64 c.quota) ∧ w'.cell? ⟨G, 3, none⟩ = some (.int .i64 c.wave) ∧ w'.cell? ⟨G, 4, none⟩ = some (.int .i64 c.lease) ∧ w'.cell? ⟨G, 5, none⟩ = some (.int .i64 c.retry) ∧ w'.cell? ⟨G, 6, none⟩ = some (.int .i64 c.deadline) ∧ w'.cell? ⟨G, 7, none⟩ = some (.int .i64 c.room) ∧ w'.cell? ⟨G, 8, none⟩ = some (.int .i64 c.disk) ∧ w'.cell? ⟨G, 9, none⟩ = some (.slice s.na s.nn s.nc) ∧ w'.cell? ⟨G, 10, none⟩ = some (.slice s.ja s.jn s.jc) ∧ w'.cell? ⟨G, 11, none⟩ = some (.int .i64 s.goal) ∧ w'.cell? ⟨G, 12, none⟩ = some (.int .i64 s.prior) ∧ w'.cell? ⟨G, 13, none⟩ = some (.int .i64 s.mode) ∧ w'.cell? ⟨G, 14, none⟩ = some (.int .i64 s.term) ∧ w'.cell? ⟨G, 15, none⟩ = some (.slice la ln lc) ∧ w'.cell? ⟨G, 16, none⟩ = some sv) :=
  ⟨S.cell k h 0 rfl, S.cell k h 1 rfl, S.cell k h 2 rfl, S.cell k h 3 rfl, S.cell k h 4 rfl, S.cell k h 5 rfl, S.cell k h 6 rfl, S.cell k h 7 rfl, S.cell k h 8 rfl, S.cell k h 9 rfl, S.cell k h 10 rfl, S.cell k h 11 rfl, S.cell k h 12 rfl, S.cell k h 13 rfl, S.cell k h 14 rfl, S.cell k h 15 rfl, S.cell k h 16 rfl⟩
def hasA (a : AG) : Bool := (a.mode == 1) || ((a.mode == 2) || (a.mode == 3))
set_option maxRecDepth 10000 in
theorem wtHas (a : AG) (w : World) : Calls Try.prog 7 #[.agg #[.bool a.up, .int .i64 a.term, .int .i64 a.gen, .int .i64 a.mode, .int .i64 a.job, .int .i64 a.inc, .int .i64 a.version, .int .i64 a.lease, .int .i64 a.worked, .int .i64 a.to_]] w fun e w' => e = .returned (.bool (hasA a)) ∧ Below w.heap.size w w' := by
  have hb := ((St.start w).alloc (.cells #[.bool a.up, .int .i64 a.term, .int .i64 a.gen, .int .i64 a.mode, .int .i64 a.job, .int .i64 a.inc, .int .i64 a.version, .int .i64 a.lease, .int .i64 a.worked, .int .i64 a.to_] 31)).fin
  cases m1 : (a.mode == 1)
  · cases m2 : (a.mode == 2)
    · cases m3 : (a.mode == 3)
      · have E : Hid (hasA a = false) := by rw [Hid, hasA, m1, m2, m3]; rfl
        go_enter Try.func7, Try.ntmps7
        go_wp2
        go_ret
        exact ⟨by rw [E.out]; rfl, hb⟩
      · have E : Hid (hasA a = true) := by rw [Hid, hasA, m1, m2, m3]; rfl
        go_enter Try.func7, Try.ntmps7
        go_wp2
        go_ret
        exact ⟨by rw [E.out]; rfl, hb⟩
    · have E : Hid (hasA a = true) := by rw [Hid, hasA, m1, m2]; rfl
      go_enter Try.func7, Try.ntmps7
      go_wp2
      go_ret
      exact ⟨by rw [E.out]; rfl, hb⟩
  · have E : Hid (hasA a = true) := by rw [Hid, hasA, m1]; rfl
    go_enter Try.func7, Try.ntmps7
    go_wp2
    go_ret
    exact ⟨by rw [E.out]; rfl, hb⟩
theorem hasA_range (a : AG) : hasA a = (decide (0 < a.mode) && decide (a.mode < 4)) := by
  unfold hasA
  by_cases h : 0 < a.mode ∧ a.mode < 4
  · rw [decide_eq_true h.1, decide_eq_true h.2]
    rcases (show a.mode = 1 ∨ a.mode = 2 ∨ a.mode = 3 by omega) with e | e | e <;> rw [e] <;> rfl
  · have h1 : ¬ a.mode = 1 := by omega
    have h2 : ¬ a.mode = 2 := by omega
    have h3 : ¬ a.mode = 3 := by omega
    rw [show (a.mode == 1) = false by simpa using h1, show (a.mode == 2) = false by simpa using h2, show (a.mode == 3) = false by simpa using h3]
    by_cases h0 : 0 < a.mode
    · rw [decide_eq_true h0, decide_eq_false (show ¬ a.mode < 4 by omega)]; rfl
    · rw [decide_eq_false h0]; rfl
set_option maxRecDepth 10000 in
theorem rtHas (a : AG) (w : World) : Calls Try.prog 8 #[.agg #[.bool a.up, .int .i64 a.term, .int .i64 a.gen, .int .i64 a.mode, .int .i64 a.job, .int .i64 a.inc, .int .i64 a.version, .int .i64 a.lease, .int .i64 a.worked, .int .i64 a.to_]] w fun e w' => e = .returned (.bool (hasA a)) ∧ Below w.heap.size w w' := by
  have hb := ((St.start w).alloc (.cells #[.bool a.up, .int .i64 a.term, .int .i64 a.gen, .int .i64 a.mode, .int .i64 a.job, .int .i64 a.inc, .int .i64 a.version, .int .i64 a.lease, .int .i64 a.worked, .int .i64 a.to_] 31)).fin
  have hR := hasA_range a
  cases m1 : decide (0 < a.mode)
  · have E : Hid (hasA a = false) := by rw [Hid, hR, m1]; rfl
    clear hR
    go_enter Try.func8, Try.ntmps8
    go_wp2
    go_ret
    exact ⟨by rw [E.out]; rfl, hb⟩
  · cases m2 : decide (a.mode < 4)
    · have E : Hid (hasA a = false) := by rw [Hid, hR, m1, m2]; rfl
      clear hR
      go_enter Try.func8, Try.ntmps8
      go_wp2
      go_ret
      exact ⟨by rw [E.out]; rfl, hb⟩
    · have E : Hid (hasA a = true) := by rw [Hid, hR, m1, m2]; rfl
      clear hR
      go_enter Try.func8, Try.ntmps8
      go_wp2
      go_ret
      exact ⟨by rw [E.out]; rfl, hb⟩
theorem heap2g (w : World) (o : Obj) (cs : Array Value) (T : TypeId) : ((w.alloc o).alloc (.cells cs T)).heap[w.heap.size + 1]? = some (.cells cs T (0, 0)) := heap2 w o cs T
theorem res_gang {fn : Func} {p : Tmp} (h : fn.results = #[.cell p 56]) (tmps : Array Value) (w : World) (g : Nat) (cs : Array Value) (hp : tmps.getD p undef = .pointer (some ⟨g, 0, none⟩)) (hg : w.heap[g]? = some (.cells cs 56 (0, 0))) (hs : cs.size = 2) :
    (results fn tmps).run Try.prog w = .ok (.agg cs) w := by
  have hi : (Try.prog.info? 56).map (·.size) = some 2 := by kernel_rfl
  exact results_cell_row h tmps w g 56 cs (0, 0) _ hp hg Try.underlying56 rfl (by rw [hi, hs])
set_option maxRecDepth 10000 in
theorem wtOf (a : AG) (w : World) : Calls Try.prog 45 #[.agg #[.bool a.up, .int .i64 a.term, .int .i64 a.gen, .int .i64 a.mode, .int .i64 a.job, .int .i64 a.inc, .int .i64 a.version, .int .i64 a.lease, .int .i64 a.worked, .int .i64 a.to_]] w fun e w' => e = .returned (.agg #[.int .i64 a.job, .int .i64 a.inc]) ∧ Below w.heap.size w w' := by
  go_enter Try.func45, Try.ntmps45
  go_wp2
  exact bodyPost_ret (res_gang rfl _ _ (w.heap.size + 1) _ rfl (heap2g _ _ _ _) rfl) rfl ⟨rfl, (((St.start w).alloc _).alloc _).fin⟩
def isJ (s : STA) (job : Int) : Bool := decide (1 ≤ job) && decide (job ≤ s.jn)
set_option maxRecDepth 10000 in
set_option maxHeartbeats 1600000 in
theorem wtIs (c : CF) (s : STA) (la : Option Addr) (ln lc : Nat) (sv : Value) (job : Int) (w : World) : Calls Try.prog 60 #[.agg #[.int .i64 c.nodes, .int .i64 c.queues, .int .i64 c.quota, .int .i64 c.wave, .int .i64 c.lease, .int .i64 c.retry, .int .i64 c.deadline, .int .i64 c.room, .int .i64 c.disk, .slice s.na s.nn s.nc, .slice s.ja s.jn s.jc, .int .i64 s.goal, .int .i64 s.prior, .int .i64 s.mode, .int .i64 s.term, .slice la ln lc, sv], .int .i64 job] w fun e w' => e = .returned (.bool (isJ s job)) ∧ Below w.heap.size w w' := by
  have hb := ((St.start w).alloc (.cells #[.int .i64 c.nodes, .int .i64 c.queues, .int .i64 c.quota, .int .i64 c.wave, .int .i64 c.lease, .int .i64 c.retry, .int .i64 c.deadline, .int .i64 c.room, .int .i64 c.disk, .slice s.na s.nn s.nc, .slice s.ja s.jn s.jc, .int .i64 s.goal, .int .i64 s.prior, .int .i64 s.mode, .int .i64 s.term, .slice la ln lc, sv] 77)).fin
  cases m1 : decide (1 ≤ job)
  · have E : Hid (isJ s job = false) := by rw [Hid, isJ, m1]; rfl
    go_enter Try.func60, Try.ntmps60
    go_wp2
    go_ret
    exact ⟨by rw [E.out]; rfl, hb⟩
  · cases m2 : decide (job ≤ (s.jn : Int))
    · have E : Hid (isJ s job = false) := by rw [Hid, isJ, m1, m2]; rfl
      go_enter Try.func60, Try.ntmps60
      go_wp2
      go_ret
      exact ⟨by rw [E.out]; rfl, hb⟩
    · have E : Hid (isJ s job = true) := by rw [Hid, isJ, m1, m2]; rfl
      go_enter Try.func60, Try.ntmps60
      go_wp2
      go_ret
      exact ⟨by rw [E.out]; rfl, hb⟩
end Go.Proofs.Ytilobmefomoemaa
