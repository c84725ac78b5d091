/- book.stands, book.sound, book.Drains as explicit values. -/
import Derived.Test.YtjfbmgndekfglaaDoorRightB2
namespace Go.Proofs.YtjfbmgndekfglaaDoor
set_option linter.unusedVariables false
set_option linter.unusedSimpArgs false
open Go.RowKit
def standsB (c : CF) (s : STA) (j : JB) (num : Int) : Bool := askedB c j && (inR j.phase 0 4 && (inR j.inc 0 1000000 && (inR j.since 0 1000000 && (inR j.until_ 0 1000000 && (inR j.epoch 0 j.inc && (if placedB j.phase = true then fitsB s j num else (j.nodes == 0)))))))
theorem standsB_small {c : CF} {s : STA} {j : JB} {num : Int} (h6 : s.nn ≤ 6) (h : standsB c s j num = true) : 0 ≤ j.nodes ∧ j.nodes < 64 := by
  unfold standsB at h
  simp only [Bool.and_eq_true] at h
  have h2 := h.2.2.2.2.2.2
  split at h2
  · unfold fitsB at h2
    simp only [Bool.and_eq_true, decide_eq_true_eq] at h2
    refine ⟨h2.1, ?_⟩
    have h3 := h2.2.1
    generalize s.nn = k at *
    rcases (show k = 0 ∨ k = 1 ∨ k = 2 ∨ k = 3 ∨ k = 4 ∨ k = 5 ∨ k = 6 by omega) with rfl | rfl | rfl | rfl | rfl | rfl | rfl <;> omega
  · have : j.nodes = 0 := by simpa using h2
    omega
set_option maxRecDepth 10000 in
set_option maxHeartbeats 6400000 in
theorem bxStands (w : World) (c : CF) (s : STA) (j : JB) (num : Int) (hc : 1 ≤ c.queues ∧ c.queues ≤ 3) (hs : s.At w) (h6 : s.nn ≤ 6) :
    Calls Tryd.prog 19 #[.agg #[.int .i64 c.nodes, .int .i64 c.queues, .int .i64 c.quota, .int .i64 c.wave, .int .i64 c.lease, .int .i64 c.retry, .int .i64 c.deadline, .int .i64 c.room, .int .i64 c.disk], .agg #[.slice s.na s.nn s.nc, .slice s.ja s.jn s.jc, .int .i64 s.goal, .int .i64 s.prior, .int .i64 s.mode, .int .i64 s.term], .agg #[.int .i64 j.queue, .int .i64 j.prio, .int .i64 j.lo, .int .i64 j.hi, .int .i64 j.work, .int .i64 j.pin, .int .i64 j.phase, .int .i64 j.inc, .int .i64 j.nodes, .int .i64 j.since, .int .i64 j.until_, .int .i64 j.epoch], .int .i64 num] w fun e w' => e = .returned (.bool (standsB c s j num)) ∧ Below w.heap.size w w' := by
  have S1 : St w _ [cellsT w.heap.size 23 c.cs, cellsT (w.heap.size + 1) 27 s.cs, cellsT (w.heap.size + 1 + 1) 51 j.cs, cellsT (w.heap.size + 1 + 1 + 1) 3 [.int .i64 num]] := ((((St.start w).newAt 23 #[.int .i64 c.nodes, .int .i64 c.queues, .int .i64 c.quota, .int .i64 c.wave, .int .i64 c.lease, .int .i64 c.retry, .int .i64 c.deadline, .int .i64 c.room, .int .i64 c.disk] w.heap.size rfl).newAt 27 #[.slice s.na s.nn s.nc, .slice s.ja s.jn s.jc, .int .i64 s.goal, .int .i64 s.prior, .int .i64 s.mode, .int .i64 s.term] (w.heap.size + 1) (alloc_size _ _)).newAt 51 #[.int .i64 j.queue, .int .i64 j.prio, .int .i64 j.lo, .int .i64 j.hi, .int .i64 j.work, .int .i64 j.pin, .int .i64 j.phase, .int .i64 j.inc, .int .i64 j.nodes, .int .i64 j.since, .int .i64 j.until_, .int .i64 j.epoch] (w.heap.size + 1 + 1) (by simp only [alloc_size])).newAt 3 #[.int .i64 num] (w.heap.size + 1 + 1 + 1) (by simp only [alloc_size])
  have HS := hid hs
  have HC := hid hc
  have hmf : ∀ (fn : Fn) (first cap : Array Value) (w : World), (Instr.makeFunc fn first cap).run Tryd.prog w = .ok (.func fn first cap) w := fun _ _ _ _ => rfl
  clear hs hc
  go_enter Tryd.func19, Tryd.ntmps19
  go_wp2_with fail
  generalize w.heap.size + 1 + 1 + 1 = g7 at *
  generalize w.heap.size + 1 + 1 = g6 at *
  generalize w.heap.size + 1 = g5 at *
  generalize w.heap.size = g4 at *
  generalize (((w.alloc _).alloc _).alloc _).alloc _ = w1 at *
  refine (bxAsked c j _ HC.out).mono ?_
  rintro e w2 ⟨rfl, hb2⟩
  have S2 := S1.grow hb2
  clear S1 hb2
  cases hqa : askedB c j
  · have E : Hid (standsB c s j num = false) := by rw [Hid, standsB, hqa]; rfl
    clear hqa
    go_wp2
    go_ret
    exact ⟨by rw [E.out]; rfl, S2.fin⟩
  have HQA := hid hqa
  clear hqa
  obtain ⟨x0, x1, x2, x3, x4, x5, x6, x7, x8, x9, x10, x11⟩ := S2.jbC 2 rfl
  obtain ⟨y0, y1, y2, y3, y4, y5⟩ := S2.sC 1 rfl
  go_wp2_with fail
  refine (bkIn j.phase 0 4 _).mono ?_
  rintro e wx ⟨rfl, rfl⟩
  rcases hq : inR j.phase 0 4 with _ | _
  · have E : Hid (standsB c s j num = false) := by rw [Hid, standsB, HQA.out, hq]; rfl
    clear hq
    go_wp2
    go_ret
    exact ⟨by rw [E.out]; rfl, S2.fin⟩
  have HQ0 := hid hq
  have Q0 := hid (inR_yes hq)
  clear hq
  go_wp2_with fail
  refine (bkIn j.inc 0 1000000 _).mono ?_
  rintro e wx ⟨rfl, rfl⟩
  rcases hq : inR j.inc 0 1000000 with _ | _
  · have E : Hid (standsB c s j num = false) := by rw [Hid, standsB, HQA.out, HQ0.out, hq]; rfl
    clear hq
    go_wp2
    go_ret
    exact ⟨by rw [E.out]; rfl, S2.fin⟩
  have HQ1 := hid hq
  have Q1 := hid (inR_yes hq)
  clear hq
  go_wp2_with fail
  refine (bkIn j.since 0 1000000 _).mono ?_
  rintro e wx ⟨rfl, rfl⟩
  rcases hq : inR j.since 0 1000000 with _ | _
  · have E : Hid (standsB c s j num = false) := by rw [Hid, standsB, HQA.out, HQ0.out, HQ1.out, hq]; rfl
    clear hq
    go_wp2
    go_ret
    exact ⟨by rw [E.out]; rfl, S2.fin⟩
  have HQ2 := hid hq
  have Q2 := hid (inR_yes hq)
  clear hq
  go_wp2_with fail
  refine (bkIn j.until_ 0 1000000 _).mono ?_
  rintro e wx ⟨rfl, rfl⟩
  rcases hq : inR j.until_ 0 1000000 with _ | _
  · have E : Hid (standsB c s j num = false) := by rw [Hid, standsB, HQA.out, HQ0.out, HQ1.out, HQ2.out, hq]; rfl
    clear hq
    go_wp2
    go_ret
    exact ⟨by rw [E.out]; rfl, S2.fin⟩
  have HQ3 := hid hq
  have Q3 := hid (inR_yes hq)
  clear hq
  go_wp2_with fail
  refine (bkIn j.epoch 0 j.inc _).mono ?_
  rintro e wx ⟨rfl, rfl⟩
  rcases hq : inR j.epoch 0 j.inc with _ | _
  · have E : Hid (standsB c s j num = false) := by rw [Hid, standsB, HQA.out, HQ0.out, HQ1.out, HQ2.out, HQ3.out, hq]; rfl
    clear hq
    go_wp2
    go_ret
    exact ⟨by rw [E.out]; rfl, S2.fin⟩
  have HQ4 := hid hq
  have Q4 := hid (inR_yes hq)
  clear hq
  go_wp2_with fail
  refine (bkPlaced j.phase _ Q0.out.1 Q0.out.2).mono ?_
  rintro e wx ⟨rfl, rfl⟩
  have E0 : Hid (standsB c s j num = if placedB j.phase = true then fitsB s j num else (j.nodes == 0)) := by rw [Hid, standsB, HQA.out, HQ0.out, HQ1.out, HQ2.out, HQ3.out, HQ4.out]; rfl
  rcases hp : placedB j.phase with _ | _
  · have E1 : Hid (standsB c s j num = (j.nodes == 0)) := by rw [Hid, E0.out, hp]; rfl
    clear hp E0
    cases h0 : (j.nodes == 0)
    · have E : Hid (standsB c s j num = false) := by rw [Hid, E1.out, h0]
      go_wp2
      go_ret
      exact ⟨by rw [E.out]; rfl, S2.fin⟩
    · have E : Hid (standsB c s j num = true) := by rw [Hid, E1.out, h0]
      go_wp2
      go_ret
      exact ⟨by rw [E.out]; rfl, S2.fin⟩
  · have E1 : Hid (standsB c s j num = fitsB s j num) := by rw [Hid, E0.out, hp]; rfl
    clear hp E0
    go_wp2_with fail
    refine (bxFits _ s (HS.out.all S2.fin) h6 j g7 num (S2.cell 3 rfl 0 rfl)).mono ?_
    rintro e w3 ⟨rfl, hb3⟩
    have S3 := S2.grow hb3
    go_wp2
    go_ret
    exact ⟨by rw [E1.out]; rfl, S3.fin⟩
def hasAt (s : STA) (x : ND) (num : Nat) : Bool := match s.J[(x.job - 1).toNat]? with | some j => hasB j.nodes num | none => false
def soundB (s : STA) (x : ND) (num : Nat) : Bool := inR x.version 1 9 && (inR x.job 0 s.jn && (!(x.moving && (!x.up || (!x.cordon || x.job != 0))) && (x.job == 0 || hasAt s x num)))
set_option maxRecDepth 10000 in
set_option maxHeartbeats 6400000 in
theorem bxSound (w : World) (s : STA) (x : ND) (num : Nat) (hn : num < 6) (hs : s.At w) (hJ : ∀ k (h : k < s.J.length), 0 ≤ s.J[k].nodes ∧ s.J[k].nodes < 64) :
    Calls Tryd.prog 20 #[.agg #[.slice s.na s.nn s.nc, .slice s.ja s.jn s.jc, .int .i64 s.goal, .int .i64 s.prior, .int .i64 s.mode, .int .i64 s.term], .agg #[.bool x.up, .bool x.cordon, .bool x.moving, .int .i64 x.version, .int .i64 x.job], .int .i64 (num : Int)] w fun e w' => e = .returned (.bool (soundB s x num)) ∧ Below w.heap.size w w' := by
  have S2 : St w _ [cellsT w.heap.size 27 s.cs, cellsT (w.heap.size + 1) 39 x.cs] := ((St.start w).newAt 27 #[.slice s.na s.nn s.nc, .slice s.ja s.jn s.jc, .int .i64 s.goal, .int .i64 s.prior, .int .i64 s.mode, .int .i64 s.term] w.heap.size rfl).newAt 39 #[.bool x.up, .bool x.cordon, .bool x.moving, .int .i64 x.version, .int .i64 x.job] (w.heap.size + 1) (alloc_size _ _)
  have HS := hid hs
  have HJ := hid hJ
  clear hs hJ
  go_enter Tryd.func20, Tryd.ntmps20
  go_wp2_with fail
  generalize w.heap.size + 1 = g4 at *
  generalize w.heap.size = g3 at *
  generalize (w.alloc _).alloc _ = w1 at *
  obtain ⟨y0, y1, y2, y3, y4, y5⟩ := S2.sC 0 rfl
  have x0 := S2.cell 1 rfl 0 rfl
  have x1 := S2.cell 1 rfl 1 rfl
  have x2 := S2.cell 1 rfl 2 rfl
  have x3 := S2.cell 1 rfl 3 rfl
  have x4 := S2.cell 1 rfl 4 rfl
  refine (bkIn x.version 1 9 _).mono ?_
  rintro e wx ⟨rfl, rfl⟩
  rcases hq : inR x.version 1 9 with _ | _
  · have E : Hid (soundB s x num = false) := by rw [Hid, soundB, hq]; rfl
    clear hq
    go_wp2
    go_ret
    exact ⟨by rw [E.out]; rfl, S2.fin⟩
  have HQ0 := hid hq
  clear hq
  go_wp2_with fail
  refine (bkIn x.job 0 s.jn _).mono ?_
  rintro e wx ⟨rfl, rfl⟩
  rcases hq : inR x.job 0 s.jn with _ | _
  · have E : Hid (soundB s x num = false) := by rw [Hid, soundB, HQ0.out, hq]; rfl
    clear hq
    go_wp2
    go_ret
    exact ⟨by rw [E.out]; rfl, S2.fin⟩
  have Q1 := hid (inR_yes hq)
  have E0 : Hid (∀ a b d : Bool, x.moving = a → x.up = b → x.cordon = d → soundB s x num = (!(a && (!b || (!d || x.job != 0))) && (x.job == 0 || hasAt s x num))) := by
    rintro a b d rfl rfl rfl
    rw [soundB, HQ0.out, hq]; rfl
  clear hq HQ0
  obtain ⟨mv, hmv⟩ : ∃ a, x.moving = a := ⟨_, rfl⟩
  obtain ⟨up, hup⟩ : ∃ a, x.up = a := ⟨_, rfl⟩
  obtain ⟨co, hco⟩ : ∃ a, x.cordon = a := ⟨_, rfl⟩
  have E1 := hid (E0.out _ _ _ hmv hup hco)
  rw [hup] at x0
  rw [hco] at x1
  rw [hmv] at x2
  clear hmv hup hco E0
  cases hj0 : (x.job == 0)
  case true =>
    have g0n : (x.job != 0) = false := by simp only [bne, hj0]; rfl
    cases mv
    · have E : Hid (soundB s x num = true) := by rw [Hid, E1.out, hj0]; rfl
      go_wp2
      go_ret
      exact ⟨by rw [E.out]; rfl, S2.fin⟩
    · cases up
      · have E : Hid (soundB s x num = false) := by rw [Hid, E1.out]; rfl
        go_wp2
        go_ret
        exact ⟨by rw [E.out]; rfl, S2.fin⟩
      · cases co
        · have E : Hid (soundB s x num = false) := by rw [Hid, E1.out]; rfl
          go_wp2
          go_ret
          exact ⟨by rw [E.out]; rfl, S2.fin⟩
        · have E : Hid (soundB s x num = true) := by rw [Hid, E1.out, hj0, g0n]; rfl
          go_wp2
          go_ret
          exact ⟨by rw [E.out]; rfl, S2.fin⟩
  have g0n : (x.job != 0) = true := by simp only [bne, hj0]; rfl
  cases mv
  case true =>
    have E : Hid (soundB s x num = false) := by rw [Hid, E1.out, g0n]; cases up <;> cases co <;> rfl
    cases up
    · skip
      go_wp2
      go_ret
      exact ⟨by rw [E.out]; rfl, S2.fin⟩
    · cases co
      · skip
        go_wp2
        go_ret
        exact ⟨by rw [E.out]; rfl, S2.fin⟩
      · skip
        go_wp2
        go_ret
        exact ⟨by rw [E.out]; rfl, S2.fin⟩
  have hj0' : ¬ x.job = 0 := by simpa using hj0
  obtain ⟨J, hJ⟩ : ∃ J : Nat, x.job = J + 1 := ⟨(x.job - 1).toNat, by have := Q1.out; omega⟩
  have hJn : J < s.jn := by have := Q1.out; omega
  have hlJ : J < s.J.length := by rw [HS.out.jn]; exact hJn
  have hjm := HS.out.jm
  unfold maxLen at hjm
  have i1 := fun wx => idxJB s.ja s.jn s.jc (fun h => HS.out.j.ok (by rw [HS.out.jn]; exact h)) J J rfl hJn wx
  have jc := ((HS.out.all S2.fin).j.jbAt hlJ).2.2.2.2.2.2.2.2.1
  have E2 : Hid (soundB s x num = hasB s.J[J].nodes num) := by
    rw [Hid, E1.out, hj0, hasAt, show (x.job - 1).toNat = J by omega, List.getElem?_eq_getElem hlJ]; rfl
  have hjn := HJ.out J hlJ
  rw [hJ] at x4 hj0 g0n
  clear E1 HJ hJ hj0'
  generalize s.J[J] = j at *
  obtain ⟨n, hn2⟩ : ∃ n : Nat, j.nodes = n := ⟨j.nodes.toNat, by omega⟩
  have hB : Hid (bits .and .i64 (j.nodes / 2 ^ num) 1 = if hasB j.nodes num = true then 1 else 0) := by
    rw [Hid, hn2]
    exact has_run ⟨n, by omega⟩ ⟨num, hn⟩
  clear hn2
  generalize adr s.ja (J * 12) = A at *
  cases hb : hasB j.nodes num
  · have gB : (bits .and .i64 (j.nodes / 2 ^ num) 1 == 1) = false := by rw [hB.out, hb]; rfl
    have E : Hid (soundB s x num = false) := by rw [Hid, E2.out, hb]
    clear hb hB
    go_wp2
    go_ret
    exact ⟨by rw [E.out]; rfl, S2.fin⟩
  · have gB : (bits .and .i64 (j.nodes / 2 ^ num) 1 == 1) = true := by rw [hB.out, hb]; rfl
    have E : Hid (soundB s x num = true) := by rw [Hid, E2.out, hb]
    clear hb hB
    go_wp2
    go_ret
    exact ⟨by rw [E.out]; rfl, S2.fin⟩
end Go.Proofs.YtjfbmgndekfglaaDoor
