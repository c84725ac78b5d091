/- book.Right, whole. -/
import Derived.Test.YtjfbmgndekfglaaDoorRight
namespace Go.Proofs.YtjfbmgndekfglaaDoor
set_option linter.unusedVariables false
set_option linter.unusedSimpArgs false
open Go.RowKit
theorem St.cfC {w0 w : World} {l : List Thing} (S : St w0 w l) (k : Nat) {g : Nat} {c : CF} (h : l[k]? = some (cellsT g 23 c.cs)) :
    w.cell? ⟨g, 0, none⟩ = some (.int .i64 c.nodes) ∧ w.cell? ⟨g, 1, none⟩ = some (.int .i64 c.queues) ∧ w.cell? ⟨g, 2, none⟩ = some (.int .i64 c.quota) ∧ w.cell? ⟨g, 3, none⟩ = some (.int .i64 c.wave) ∧ w.cell? ⟨g, 4, none⟩ = some (.int .i64 c.lease) ∧ w.cell? ⟨g, 5, none⟩ = some (.int .i64 c.retry) ∧ w.cell? ⟨g, 6, none⟩ = some (.int .i64 c.deadline) ∧ w.cell? ⟨g, 7, none⟩ = some (.int .i64 c.room) ∧ w.cell? ⟨g, 8, none⟩ = some (.int .i64 c.disk) :=
  ⟨S.cell k h 0 rfl, S.cell k h 1 rfl, S.cell k h 2 rfl, S.cell k h 3 rfl, S.cell k h 4 rfl, S.cell k h 5 rfl, S.cell k h 6 rfl, S.cell k h 7 rfl, S.cell k h 8 rfl⟩
theorem St.jbC {w0 w : World} {l : List Thing} (S : St w0 w l) (k : Nat) {g : Nat} {j : JB} (h : l[k]? = some (cellsT g 51 j.cs)) :
    w.cell? ⟨g, 0, none⟩ = some (.int .i64 j.queue) ∧ w.cell? ⟨g, 1, none⟩ = some (.int .i64 j.prio) ∧ w.cell? ⟨g, 2, none⟩ = some (.int .i64 j.lo) ∧ w.cell? ⟨g, 3, none⟩ = some (.int .i64 j.hi) ∧ w.cell? ⟨g, 4, none⟩ = some (.int .i64 j.work) ∧ w.cell? ⟨g, 5, none⟩ = some (.int .i64 j.pin) ∧ w.cell? ⟨g, 6, none⟩ = some (.int .i64 j.phase) ∧ w.cell? ⟨g, 7, none⟩ = some (.int .i64 j.inc) ∧ w.cell? ⟨g, 8, none⟩ = some (.int .i64 j.nodes) ∧ w.cell? ⟨g, 9, none⟩ = some (.int .i64 j.since) ∧ w.cell? ⟨g, 10, none⟩ = some (.int .i64 j.until_) ∧ w.cell? ⟨g, 11, none⟩ = some (.int .i64 j.epoch) :=
  ⟨S.cell k h 0 rfl, S.cell k h 1 rfl, S.cell k h 2 rfl, S.cell k h 3 rfl, S.cell k h 4 rfl, S.cell k h 5 rfl, S.cell k h 6 rfl, S.cell k h 7 rfl, S.cell k h 8 rfl, S.cell k h 9 rfl, S.cell k h 10 rfl, S.cell k h 11 rfl⟩
theorem St.sC {w0 w : World} {l : List Thing} (S : St w0 w l) (k : Nat) {g : Nat} {s : STA} (h : l[k]? = some (cellsT g 27 s.cs)) :
    w.cell? ⟨g, 0, none⟩ = some (.slice s.na s.nn s.nc) ∧ w.cell? ⟨g, 1, none⟩ = some (.slice s.ja s.jn s.jc) ∧ w.cell? ⟨g, 2, none⟩ = some (.int .i64 s.goal) ∧ w.cell? ⟨g, 3, none⟩ = some (.int .i64 s.prior) ∧ w.cell? ⟨g, 4, none⟩ = some (.int .i64 s.mode) ∧ w.cell? ⟨g, 5, none⟩ = some (.int .i64 s.term) :=
  ⟨S.cell k h 0 rfl, S.cell k h 1 rfl, S.cell k h 2 rfl, S.cell k h 3 rfl, S.cell k h 4 rfl, S.cell k h 5 rfl⟩
structure JobF (c : CF) (s : STA) (j : JB) (num : Int) : Prop where
  asked : j.Asked c
  phase : 0 ≤ j.phase ∧ j.phase ≤ 4
  inc : 0 ≤ j.inc ∧ j.inc ≤ 1000000
  since : 0 ≤ j.since ∧ j.since ≤ 1000000
  until_ : 0 ≤ j.until_ ∧ j.until_ ≤ 1000000
  epoch : 0 ≤ j.epoch ∧ j.epoch ≤ j.inc
  rest : placedB j.phase = false → j.nodes = 0
  put : placedB j.phase = true → Fits s j num
set_option maxRecDepth 10000 in
set_option maxHeartbeats 6400000 in
theorem bkStands (w : World) (c : CF) (s : STA) (j : JB) (num : Int) (hc : c.Ok) (hs : s.At w) (h6 : s.nn ≤ 6) :
    Calls Tryd.prog 19 #[.agg #[.int .i64 c.nodes, .int .i64 c.queues, .int .i64 c.quota, .int .i64 c.wave, .int .i64 c.lease, .int .i64 c.retry, .int .i64 c.deadline, .int .i64 c.room, .int .i64 c.disk], .agg #[.slice s.na s.nn s.nc, .slice s.ja s.jn s.jc, .int .i64 s.goal, .int .i64 s.prior, .int .i64 s.mode, .int .i64 s.term], .agg #[.int .i64 j.queue, .int .i64 j.prio, .int .i64 j.lo, .int .i64 j.hi, .int .i64 j.work, .int .i64 j.pin, .int .i64 j.phase, .int .i64 j.inc, .int .i64 j.nodes, .int .i64 j.since, .int .i64 j.until_, .int .i64 j.epoch], .int .i64 num] w (RetB (JobF c s j num) w) := by
  have S1 : St w _ [cellsT w.heap.size 23 c.cs, cellsT (w.heap.size + 1) 27 s.cs, cellsT (w.heap.size + 1 + 1) 51 j.cs, cellsT (w.heap.size + 1 + 1 + 1) 3 [.int .i64 num]] := ((((St.start w).newAt 23 #[.int .i64 c.nodes, .int .i64 c.queues, .int .i64 c.quota, .int .i64 c.wave, .int .i64 c.lease, .int .i64 c.retry, .int .i64 c.deadline, .int .i64 c.room, .int .i64 c.disk] w.heap.size rfl).newAt 27 #[.slice s.na s.nn s.nc, .slice s.ja s.jn s.jc, .int .i64 s.goal, .int .i64 s.prior, .int .i64 s.mode, .int .i64 s.term] (w.heap.size + 1) (alloc_size _ _)).newAt 51 #[.int .i64 j.queue, .int .i64 j.prio, .int .i64 j.lo, .int .i64 j.hi, .int .i64 j.work, .int .i64 j.pin, .int .i64 j.phase, .int .i64 j.inc, .int .i64 j.nodes, .int .i64 j.since, .int .i64 j.until_, .int .i64 j.epoch] (w.heap.size + 1 + 1) (by simp only [alloc_size])).newAt 3 #[.int .i64 num] (w.heap.size + 1 + 1 + 1) (by simp only [alloc_size])
  have HS := hid hs
  have HC := hid hc
  have hmf : ∀ (fn : Fn) (first cap : Array Value) (w : World), (Instr.makeFunc fn first cap).run Tryd.prog w = .ok (.func fn first cap) w := fun _ _ _ _ => rfl
  clear hs hc
  go_enter Tryd.func19, Tryd.ntmps19
  go_wp2_with fail
  generalize w.heap.size + 1 + 1 + 1 = g7 at *
  generalize w.heap.size + 1 + 1 = g6 at *
  generalize w.heap.size + 1 = g5 at *
  generalize w.heap.size = g4 at *
  generalize (((w.alloc _).alloc _).alloc _).alloc _ = w1 at *
  refine (bkAsked c j _ HC.out).mono ?_
  rintro e w2 ⟨b, rfl, hF, hb2⟩
  have S2 := S1.grow hb2
  clear S1 hb2
  cases b
  · go_wp2
    go_ret
    exact ⟨_, rfl, (fun h => by cases h), S2.fin⟩
  have QA := hid (hF rfl)
  clear hF
  obtain ⟨x0, x1, x2, x3, x4, x5, x6, x7, x8, x9, x10, x11⟩ := S2.jbC 2 rfl
  obtain ⟨y0, y1, y2, y3, y4, y5⟩ := S2.sC 1 rfl
  go_wp2_with fail
  refine (bkIn j.phase 0 4 _).mono ?_
  rintro e wx ⟨rfl, rfl⟩
  rcases hq : inR j.phase 0 4 with _ | _
  · clear hq
    go_wp2
    go_ret
    exact ⟨_, rfl, (fun h => by cases h), S2.fin⟩
  have Q0 := hid (inR_yes hq)
  clear hq
  go_wp2_with fail
  refine (bkIn j.inc 0 1000000 _).mono ?_
  rintro e wx ⟨rfl, rfl⟩
  rcases hq : inR j.inc 0 1000000 with _ | _
  · clear hq
    go_wp2
    go_ret
    exact ⟨_, rfl, (fun h => by cases h), S2.fin⟩
  have Q1 := hid (inR_yes hq)
  clear hq
  go_wp2_with fail
  refine (bkIn j.since 0 1000000 _).mono ?_
  rintro e wx ⟨rfl, rfl⟩
  rcases hq : inR j.since 0 1000000 with _ | _
  · clear hq
    go_wp2
    go_ret
    exact ⟨_, rfl, (fun h => by cases h), S2.fin⟩
  have Q2 := hid (inR_yes hq)
  clear hq
  go_wp2_with fail
  refine (bkIn j.until_ 0 1000000 _).mono ?_
  rintro e wx ⟨rfl, rfl⟩
  rcases hq : inR j.until_ 0 1000000 with _ | _
  · clear hq
    go_wp2
    go_ret
    exact ⟨_, rfl, (fun h => by cases h), S2.fin⟩
  have Q3 := hid (inR_yes hq)
  clear hq
  go_wp2_with fail
  refine (bkIn j.epoch 0 j.inc _).mono ?_
  rintro e wx ⟨rfl, rfl⟩
  rcases hq : inR j.epoch 0 j.inc with _ | _
  · clear hq
    go_wp2
    go_ret
    exact ⟨_, rfl, (fun h => by cases h), S2.fin⟩
  have Q4 := hid (inR_yes hq)
  clear hq
  go_wp2_with fail
  refine (bkPlaced j.phase _ Q0.out.1 Q0.out.2).mono ?_
  rintro e wx ⟨rfl, rfl⟩
  rcases hp : placedB j.phase with _ | _
  · have HP := hid hp
    clear hp
    by_cases h0 : j.nodes = 0
    · have g0 : (j.nodes == 0) = true := by simpa using h0
      have H0 := hid h0
      clear h0
      go_wp2
      go_ret
      exact ⟨_, rfl, fun _ => ⟨QA.out, Q0.out, Q1.out, Q2.out, Q3.out, Q4.out, fun _ => H0.out, fun h => by rw [HP.out] at h; cases h⟩, S2.fin⟩
    · have g0 : (j.nodes == 0) = false := by simpa using h0
      clear h0
      go_wp2
      go_ret
      exact ⟨_, rfl, (fun h => by cases h), S2.fin⟩
  · have HP := hid hp
    clear hp
    go_wp2_with fail
    refine (bkFits _ s (HS.out.all S2.fin) h6 j QA.out.lo.1 g7 num (S2.cell 3 rfl 0 rfl)).mono ?_
    rintro e w3 ⟨b, rfl, hF, hb3⟩
    have S3 := S2.grow hb3
    go_wp2
    go_ret
    exact ⟨_, rfl, fun h => ⟨QA.out, Q0.out, Q1.out, Q2.out, Q3.out, Q4.out, (fun h => by rw [HP.out] at h; cases h), fun _ => hF h⟩, S3.fin⟩
structure NodeF (s : STA) (x : ND) (num : Nat) : Prop where
  version : 1 ≤ x.version ∧ x.version ≤ 9
  job : 0 ≤ x.job ∧ x.job ≤ s.jn
  mv : x.moving = true → x.up = true ∧ x.cordon = true ∧ x.job = 0
  has : x.job ≠ 0 → ∃ j, s.J[(x.job - 1).toNat]? = some j ∧ hasB j.nodes num = true
set_option maxRecDepth 10000 in
set_option maxHeartbeats 6400000 in
theorem bkSound (w : World) (s : STA) (x : ND) (num : Nat) (hn : num < 6) (hs : s.At w) (hJ : ∀ k (h : k < s.J.length), 0 ≤ s.J[k].nodes ∧ s.J[k].nodes < 64) :
    Calls Tryd.prog 20 #[.agg #[.slice s.na s.nn s.nc, .slice s.ja s.jn s.jc, .int .i64 s.goal, .int .i64 s.prior, .int .i64 s.mode, .int .i64 s.term], .agg #[.bool x.up, .bool x.cordon, .bool x.moving, .int .i64 x.version, .int .i64 x.job], .int .i64 (num : Int)] w (RetB (NodeF s x num) w) := by
  have S2 : St w _ [cellsT w.heap.size 27 s.cs, cellsT (w.heap.size + 1) 39 x.cs] := ((St.start w).newAt 27 #[.slice s.na s.nn s.nc, .slice s.ja s.jn s.jc, .int .i64 s.goal, .int .i64 s.prior, .int .i64 s.mode, .int .i64 s.term] w.heap.size rfl).newAt 39 #[.bool x.up, .bool x.cordon, .bool x.moving, .int .i64 x.version, .int .i64 x.job] (w.heap.size + 1) (alloc_size _ _)
  have HS := hid hs
  have HJ := hid hJ
  clear hs hJ
  go_enter Tryd.func20, Tryd.ntmps20
  go_wp2_with fail
  generalize w.heap.size + 1 = g4 at *
  generalize w.heap.size = g3 at *
  generalize (w.alloc _).alloc _ = w1 at *
  obtain ⟨y0, y1, y2, y3, y4, y5⟩ := S2.sC 0 rfl
  have x0 := S2.cell 1 rfl 0 rfl
  have x1 := S2.cell 1 rfl 1 rfl
  have x2 := S2.cell 1 rfl 2 rfl
  have x3 := S2.cell 1 rfl 3 rfl
  have x4 := S2.cell 1 rfl 4 rfl
  refine (bkIn x.version 1 9 _).mono ?_
  rintro e wx ⟨rfl, rfl⟩
  rcases hq : inR x.version 1 9 with _ | _
  · clear hq
    go_wp2
    go_ret
    exact ⟨_, rfl, (fun h => by cases h), S2.fin⟩
  have Q0 := hid (inR_yes hq)
  clear hq
  go_wp2_with fail
  refine (bkIn x.job 0 s.jn _).mono ?_
  rintro e wx ⟨rfl, rfl⟩
  rcases hq : inR x.job 0 s.jn with _ | _
  · clear hq
    go_wp2
    go_ret
    exact ⟨_, rfl, (fun h => by cases h), S2.fin⟩
  have Q1 := hid (inR_yes hq)
  clear hq
  skip
  have HM : Hid (∀ (a b c : Bool), x.moving = a → x.up = b → x.cordon = c → (a = true → b = true ∧ c = true ∧ x.job = 0) → (x.moving = true → x.up = true ∧ x.cordon = true ∧ x.job = 0)) := by
    rintro a b c rfl rfl rfl h; exact h
  by_cases hj0 : x.job = 0
  · have g0 : (x.job == 0) = true := by simpa using hj0
    have g0n : (x.job != 0) = false := by simpa using hj0
    have HJ0 := hid hj0
    clear hj0
    have hF : ∀ (a b c : Bool), x.moving = a → x.up = b → x.cordon = c → (a = true → b = true ∧ c = true) → NodeF s x num := fun a b c h1 h2 h3 h4 =>
      ⟨Q0.out, Q1.out, HM.out a b c h1 h2 h3 (fun h => ⟨(h4 h).1, (h4 h).2, HJ0.out⟩), fun h => absurd HJ0.out h⟩
    have HF := hid hF
    clear hF HM
    rcases hm : x.moving with _ | _
    · have HMo := hid hm
      rw [hm] at x2
      clear hm
      go_wp2
      go_ret
      exact ⟨_, rfl, fun _ => HF.out false _ _ HMo.out rfl rfl (fun h => by cases h), S2.fin⟩
    · have HMo := hid hm
      rw [hm] at x2
      clear hm
      rcases hu : x.up with _ | _
      · rw [hu] at x0
        clear hu
        go_wp2
        go_ret
        exact ⟨_, rfl, (fun h => by cases h), S2.fin⟩
      · have HUp := hid hu
        rw [hu] at x0
        clear hu
        rcases hc : x.cordon with _ | _
        · rw [hc] at x1
          clear hc
          go_wp2
          go_ret
          exact ⟨_, rfl, (fun h => by cases h), S2.fin⟩
        · have HCo := hid hc
          rw [hc] at x1
          clear hc
          go_wp2
          go_ret
          exact ⟨_, rfl, fun _ => HF.out true true true HMo.out HUp.out HCo.out (fun _ => ⟨rfl, rfl⟩), S2.fin⟩
  · have g0 : (x.job == 0) = false := by simpa using hj0
    have g0n : (x.job != 0) = true := by simpa using hj0
    have HJ0 := hid hj0
    obtain ⟨J, hJ⟩ : ∃ J : Nat, x.job = J + 1 := ⟨(x.job - 1).toNat, by have := Q1.out; omega⟩
    have hJn : J < s.jn := by have := Q1.out; omega
    have hlJ : J < s.J.length := by rw [HS.out.jn]; exact hJn
    by_cases hm : x.moving = true
    case pos =>
      rw [hm] at x2
      clear hm hJ hj0
      rcases hu : x.up with _ | _
      · rw [hu] at x0
        clear hu
        go_wp2
        go_ret
        exact ⟨_, rfl, (fun h => by cases h), S2.fin⟩
      · rw [hu] at x0
        clear hu
        rcases hc : x.cordon with _ | _
        · rw [hc] at x1
          clear hc
          go_wp2
          go_ret
          exact ⟨_, rfl, (fun h => by cases h), S2.fin⟩
        · rw [hc] at x1
          clear hc
          go_wp2
          go_ret
          exact ⟨_, rfl, (fun h => by cases h), S2.fin⟩
    have hm : x.moving = false := by simpa using hm
    have HMo := hid hm
    rw [hm] at x2
    clear hm
    rw [hJ] at x4
    have g1 : ((J : Int) + 1 == 0) = false := by simp; omega
    have g1n : ((J : Int) + 1 != 0) = true := by simp; omega
    have HJe := hid hJ
    clear g0 g0n hJ hj0
    have hjm := HS.out.jm
    unfold maxLen at hjm
    have i1 := fun wx => idxJB s.ja s.jn s.jc (fun h => HS.out.j.ok (by rw [HS.out.jn]; exact h)) J J rfl hJn wx
    have jc := ((HS.out.all S2.fin).j.jbAt hlJ).2.2.2.2.2.2.2.2.1
    obtain ⟨j, hj⟩ : ∃ j, s.J[J] = j := ⟨_, rfl⟩
    have hjn := HJ.out J hlJ
    have HFa : Hid (hasB j.nodes num = true → NodeF s x num) := fun h => ⟨Q0.out, Q1.out, (fun hm => by rw [HMo.out] at hm; cases hm), fun _ => ⟨j, by rw [HJe.out, show ((J : Int) + 1 - 1).toNat = J by omega, List.getElem?_eq_getElem hlJ, hj], h⟩⟩
    rw [hj] at jc hjn
    clear hj HJ
    obtain ⟨n, hn2⟩ : ∃ n : Nat, j.nodes = n := ⟨j.nodes.toNat, by omega⟩
    have hB : Hid (bits .and .i64 (j.nodes / 2 ^ num) 1 = if hasB j.nodes num = true then 1 else 0) := by
      rw [Hid, hn2]
      exact has_run ⟨n, by omega⟩ ⟨num, hn⟩
    clear hn2
    generalize adr s.ja (J * 12) = A at *
    by_cases hb : hasB j.nodes num = true
    · have gB : (bits .and .i64 (j.nodes / 2 ^ num) 1 == 1) = true := by rw [hB.out, if_pos hb]; rfl
      have HFb := hid (HFa.out hb)
      clear hb hB
      go_wp2
      go_ret
      exact ⟨_, rfl, fun _ => HFb.out, S2.fin⟩
    · have gB : (bits .and .i64 (j.nodes / 2 ^ num) 1 == 1) = false := by rw [hB.out, if_neg hb]; rfl
      clear hb hB
      go_wp2
      go_ret
      exact ⟨_, rfl, (fun h => by cases h), S2.fin⟩
end Go.Proofs.YtjfbmgndekfglaaDoor
