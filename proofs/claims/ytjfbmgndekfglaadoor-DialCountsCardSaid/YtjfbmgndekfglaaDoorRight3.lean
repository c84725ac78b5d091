/- book.Right: the whole. -/
import Derived.Test.YtjfbmgndekfglaaDoorRight2
namespace Go.Proofs.YtjfbmgndekfglaaDoor
set_option linter.unusedVariables false
set_option linter.unusedSimpArgs false
open Go.RowKit
set_option maxRecDepth 10000 in
set_option maxHeartbeats 3200000 in
theorem bkDrains (w : World) (s : STA) (queue : Int) (hs : s.At w) (hn : s.jn ≤ 1000000) :
    Calls Tryd.prog 21 #[.agg #[.slice s.na s.nn s.nc, .slice s.ja s.jn s.jc, .int .i64 s.goal, .int .i64 s.prior, .int .i64 s.mode, .int .i64 s.term], .int .i64 queue] w fun e w' => ∃ r : Int, e = .returned (.int .i64 r) ∧ Below w.heap.size w w' := by
  have S1 : St w _ [cellsT w.heap.size 27 s.cs] := (St.start w).newAt 27 #[.slice s.na s.nn s.nc, .slice s.ja s.jn s.jc, .int .i64 s.goal, .int .i64 s.prior, .int .i64 s.mode, .int .i64 s.term] w.heap.size rfl
  have HS := hid hs
  clear hs
  go_enter Tryd.func21, Tryd.ntmps21
  go_wp2_with fail
  generalize w.alloc _ = w1 at *
  have S3 := S1.take 0
  clear S1
  go_loopw [5, 11] (fun v i wr => ∃ (k : Nat) (q : Int), k ≤ s.jn ∧ v = .int .i64 q ∧ i = .int .i64 k ∧ (0 ≤ q ∧ q ≤ k) ∧ St w wr []) (fun _ i _ => s.jn - (intOf i).toNat)
  case atStart => exact ⟨0, 0, Nat.zero_le _, rfl, rfl, ⟨by omega, by omega⟩, S3⟩
  case round =>
    obtain ⟨k, q, hk, rfl, rfl, hq, Sk⟩ := hrel
    clear S3
    by_cases hlt : k < s.jn
    case neg =>
      have g0 : decide ((k : Int) < (s.jn : Int)) = false := decide_eq_false (by omega)
      have g0n : decide (k < s.jn) = false := decide_eq_false (by omega)
      clear hlt hk
      go_wp2
      go_ret
      exact ⟨_, rfl, Sk.fin⟩
    have g0 : decide ((k : Int) < (s.jn : Int)) = true := decide_eq_true (by omega)
    have g0n : decide (k < s.jn) = true := decide_eq_true (by omega)
    have hkl : k < s.J.length := by rw [HS.out.jn]; exact hlt
    have i0 := fun wx => idxJB s.ja s.jn s.jc (fun h => HS.out.j.ok (by rw [HS.out.jn]; exact h)) k k rfl hlt wx
    have HX : Hid (∀ w', Below w.heap.size w w' → JbAt w' (adr s.ja (k * 12)) s.J[k]) := fun w' hb => (HS.out.j.all eJBok hb).jbAt hkl
    generalize s.J[k] = j at *
    generalize adr s.ja (k * 12) = A at *
    obtain ⟨x0, x1, x2, x3, x4, x5, x6, x7, x8, x9, x10, x11⟩ := HX.out _ Sk.fin
    obtain ⟨hq1, hq2⟩ := hq
    go_wp2
    all_goals
      go_roundw
      case rel => first | exact ⟨k + 1, q, by omega, rfl, by go_num, ⟨by omega, by omega⟩, Sk.alloc _⟩ | exact ⟨k + 1, q + 1, by omega, by go_num, by go_num, ⟨by omega, by omega⟩, Sk.alloc _⟩
      case measure => simp [intOf]; omega
structure RF (c : CF) (s : STA) : Prop where
  conf : c.Ok
  nn : (s.nn : Int) = c.nodes
  jn : s.jn ≤ 24
  goal : 1 ≤ s.goal ∧ s.goal ≤ 9
  prior : 1 ≤ s.prior ∧ s.prior ≤ 9
  mode : 0 ≤ s.mode ∧ s.mode ≤ 2
  term : 0 ≤ s.term ∧ s.term ≤ 1000000
  job : ∀ k (h : k < s.J.length), JobF c s s.J[k] ((k : Int) + 1)
  node : ∀ k (h : k < s.N.length), NodeF s s.N[k] k
theorem JobF.small {c : CF} {s : STA} {j : JB} {n : Int} (h : JobF c s j n) : 0 ≤ j.nodes ∧ j.nodes < 64 := by
  rcases hp : placedB j.phase with _ | _
  · have := h.rest hp; omega
  · have := h.put hp
    exact ⟨by have := this.pos; omega, this.lt⟩
set_option maxRecDepth 10000 in
set_option maxHeartbeats 6400000 in
theorem bkRight (w : World) (c : CF) (s : STA) (hs : s.At w) :
    Calls Tryd.prog 6 #[.agg #[.int .i64 c.nodes, .int .i64 c.queues, .int .i64 c.quota, .int .i64 c.wave, .int .i64 c.lease, .int .i64 c.retry, .int .i64 c.deadline, .int .i64 c.room, .int .i64 c.disk], .agg #[.slice s.na s.nn s.nc, .slice s.ja s.jn s.jc, .int .i64 s.goal, .int .i64 s.prior, .int .i64 s.mode, .int .i64 s.term]] w (RetB (RF c s) w) := by
  have S1 : St w _ [cellsT w.heap.size 23 c.cs, cellsT (w.heap.size + 1) 27 s.cs] := ((St.start w).newAt 23 #[.int .i64 c.nodes, .int .i64 c.queues, .int .i64 c.quota, .int .i64 c.wave, .int .i64 c.lease, .int .i64 c.retry, .int .i64 c.deadline, .int .i64 c.room, .int .i64 c.disk] w.heap.size rfl).newAt 27 #[.slice s.na s.nn s.nc, .slice s.ja s.jn s.jc, .int .i64 s.goal, .int .i64 s.prior, .int .i64 s.mode, .int .i64 s.term] (w.heap.size + 1) (alloc_size _ _)
  have HS := hid hs
  clear hs
  go_enter Tryd.func6, Tryd.ntmps6
  go_wp2_with fail
  generalize w.heap.size + 1 = g3 at *
  generalize w.heap.size = g2 at *
  generalize (w.alloc _).alloc _ = w1 at *
  refine (bkMay c _).mono ?_
  rintro e w2 ⟨b, rfl, hF, hb2⟩
  have S2 := S1.grow hb2
  clear S1 hb2
  cases b
  · skip
    go_wp2
    go_ret
    exact ⟨_, rfl, (fun h => by cases h), S2.fin⟩
  have QC := hid (hF rfl)
  clear hF
  obtain ⟨y0, y1, y2, y3, y4, y5⟩ := S2.sC 1 rfl
  obtain ⟨x0, x1, x2, x3, x4, x5, x6, x7, x8⟩ := S2.cfC 0 rfl
  by_cases hnn : (s.nn : Int) = c.nodes
  case neg =>
    have g0 : ((s.nn : Int) != c.nodes) = true := by simpa using hnn
    clear hnn
    go_wp2
    go_ret
    exact ⟨_, rfl, (fun h => by cases h), S2.fin⟩
  have g0 : ((s.nn : Int) != c.nodes) = false := by simpa using hnn
  have QN := hid hnn
  have h6 : s.nn ≤ 6 := by have := QC.out.nodes; omega
  clear hnn
  by_cases hjn : s.jn ≤ 24
  case neg =>
    have g1 : decide (24 < (s.jn : Int)) = true := decide_eq_true (by omega)
    have g1n : decide (24 < s.jn) = true := decide_eq_true (by omega)
    clear hjn
    go_wp2
    go_ret
    exact ⟨_, rfl, (fun h => by cases h), S2.fin⟩
  have g1 : decide (24 < (s.jn : Int)) = false := decide_eq_false (by omega)
  have g1n : decide (24 < s.jn) = false := decide_eq_false (by omega)
  go_wp2_with fail
  refine (bkIn s.goal 1 9 _).mono ?_
  rintro e wx ⟨rfl, rfl⟩
  rcases hq : inR s.goal 1 9 with _ | _
  · clear hq
    go_wp2
    go_ret
    exact ⟨_, rfl, (fun h => by cases h), S2.fin⟩
  have Q0 := hid (inR_yes hq)
  clear hq
  go_wp2_with fail
  refine (bkIn s.prior 1 9 _).mono ?_
  rintro e wx ⟨rfl, rfl⟩
  rcases hq : inR s.prior 1 9 with _ | _
  · clear hq
    go_wp2
    go_ret
    exact ⟨_, rfl, (fun h => by cases h), S2.fin⟩
  have Q1 := hid (inR_yes hq)
  clear hq
  go_wp2_with fail
  refine (bkIn s.mode 0 2 _).mono ?_
  rintro e wx ⟨rfl, rfl⟩
  rcases hq : inR s.mode 0 2 with _ | _
  · clear hq
    go_wp2
    go_ret
    exact ⟨_, rfl, (fun h => by cases h), S2.fin⟩
  have Q2 := hid (inR_yes hq)
  clear hq
  go_wp2_with fail
  refine (bkIn s.term 0 1000000 _).mono ?_
  rintro e wx ⟨rfl, rfl⟩
  rcases hq : inR s.term 0 1000000 with _ | _
  · clear hq
    go_wp2
    go_ret
    exact ⟨_, rfl, (fun h => by cases h), S2.fin⟩
  have Q3 := hid (inR_yes hq)
  clear hq
  go_wp2_with fail
  clear y0 y1 y2 y3 y4 y5 x0 x1 x2 x3 x4 x5 x6 x7 x8 g0 g1 g1n
  go_loopw [54] (fun i wr => ∃ k : Nat, k ≤ s.jn ∧ i = .int .i64 k ∧ (∀ i (h : i < s.J.length), i < k → JobF c s s.J[i] ((i : Int) + 1)) ∧ St w wr [cellsT g2 23 c.cs, cellsT g3 27 s.cs]) (fun i _ => s.jn - (intOf i).toNat)
  case atStart => exact ⟨0, Nat.zero_le _, rfl, fun i _ h => by omega, S2⟩
  case round =>
    obtain ⟨k, hk, rfl, hall, Sk⟩ := hrel
    have HAll := hid hall
    clear hall S2
    obtain ⟨y0, y1, y2, y3, y4, y5⟩ := Sk.sC 1 rfl
    obtain ⟨x0, x1, x2, x3, x4, x5, x6, x7, x8⟩ := Sk.cfC 0 rfl
    by_cases hlt : k < s.jn
    case pos =>
      have g0 : decide ((k : Int) < (s.jn : Int)) = true := decide_eq_true (by omega)
      have g0n : decide (k < s.jn) = true := decide_eq_true (by omega)
      have hkl : k < s.J.length := by rw [HS.out.jn]; exact hlt
      have i0 := fun wx => idxJB s.ja s.jn s.jc (fun h => HS.out.j.ok (by rw [HS.out.jn]; exact h)) k k rfl hlt wx
      have HX : Hid (∀ w', Below w.heap.size w w' → JbAt w' (adr s.ja (k * 12)) s.J[k]) := fun w' hb => (HS.out.j.all eJBok hb).jbAt hkl
      have hall2 : Hid (JobF c s s.J[k] ((k : Int) + 1) → ∀ i (h : i < s.J.length), i < k + 1 → JobF c s s.J[i] ((i : Int) + 1)) := by
        intro h i hi hik
        by_cases e : i = k
        · subst e; exact h
        · exact HAll.out i hi (by omega)
      generalize s.J[k] = j at *
      generalize adr s.ja (k * 12) = A at *
      obtain ⟨j0, j1, j2, j3, j4, j5, j6, j7, j8, j9, j10, j11⟩ := HX.out _ Sk.fin
      have Sj := Sk.alloc (.cells #[.int .i64 j.queue, .int .i64 j.prio, .int .i64 j.lo, .int .i64 j.hi, .int .i64 j.work, .int .i64 j.pin, .int .i64 j.phase, .int .i64 j.inc, .int .i64 j.nodes, .int .i64 j.since, .int .i64 j.until_, .int .i64 j.epoch] 51)
      obtain ⟨v0, v1, v2, v3, v4, v5⟩ := Sj.sC 1 rfl
      obtain ⟨u0, u1, u2, u3, u4, u5, u6, u7, u8⟩ := Sj.cfC 0 rfl
      go_wp2_with fail
      refine (bkStands _ c s j ((k : Int) + 1) QC.out (HS.out.all (Sk.alloc _).fin) h6).mono ?_
      rintro e w3 ⟨b, rfl, hF, hb3⟩
      have S2 := (Sk.alloc _).grow hb3
      clear y0 y1 y2 y3 y4 y5 x0 x1 x2 x3 x4 x5 x6 x7 x8 j0 j1 j2 j3 j4 j5 j6 j7 j8 j9 j10 j11 v0 v1 v2 v3 v4 v5 u0 u1 u2 u3 u4 u5 u6 u7 u8 Sj i0 HX hb3 Sk
      cases b
      · skip
        go_wp2
        go_ret
        exact ⟨_, rfl, (fun h => by cases h), S2.fin⟩
      have hall3 := hid (hall2.out (hF rfl))
      clear hF hall2
      go_wp2
      go_roundw
      case rel => exact ⟨k + 1, by omega, by go_num, hall3.out, S2⟩
      case measure => simp [intOf]; omega
    have g0 : decide ((k : Int) < (s.jn : Int)) = false := decide_eq_false (by omega)
    have g0n : decide (k < s.jn) = false := decide_eq_false (by omega)
    have HJob : Hid (∀ i (h : i < s.J.length), JobF c s s.J[i] ((i : Int) + 1)) := fun i h => HAll.out i h (by have := HS.out.jn; omega)
    clear HAll hlt hk
    go_wp2_with fail
    clear y0 y1 y2 y3 y4 y5 x0 x1 x2 x3 x4 x5 x6 x7 x8
    have S2 := Sk
    clear Sk
    go_loopw [70] (fun i wr => ∃ k : Nat, k ≤ s.nn ∧ i = .int .i64 k ∧ (∀ i (h : i < s.N.length), i < k → NodeF s s.N[i] i) ∧ St w wr [cellsT g2 23 c.cs, cellsT g3 27 s.cs]) (fun i _ => s.nn - (intOf i).toNat)
    case atStart => exact ⟨0, Nat.zero_le _, rfl, fun i _ h => by omega, S2⟩
    case round =>
      obtain ⟨k, hk, rfl, hall, Sk⟩ := hrel
      have HAll := hid hall
      clear hall S2
      obtain ⟨y0, y1, y2, y3, y4, y5⟩ := Sk.sC 1 rfl
      obtain ⟨x0, x1, x2, x3, x4, x5, x6, x7, x8⟩ := Sk.cfC 0 rfl
      by_cases hlt : k < s.nn
      case pos =>
        have g0 : decide ((k : Int) < (s.nn : Int)) = true := decide_eq_true (by omega)
        have g0n : decide (k < s.nn) = true := decide_eq_true (by omega)
        have hkl : k < s.N.length := by rw [HS.out.nn]; exact hlt
        have i0 := fun wx => idxND s.na s.nn s.nc (fun h => HS.out.n.ok (by rw [HS.out.nn]; exact h)) k hlt wx
        have HX : Hid (∀ w', Below w.heap.size w w' → NdAt w' (adr s.na (k * 5)) s.N[k]) := fun w' hb => (HS.out.n.all eNDok hb).ndAt hkl
        have hall2 : Hid (NodeF s s.N[k] k → ∀ i (h : i < s.N.length), i < k + 1 → NodeF s s.N[i] i) := by
          intro h i hi hik
          by_cases e : i = k
          · subst e; exact h
          · exact HAll.out i hi (by omega)
        generalize s.N[k] = x at *
        generalize adr s.na (k * 5) = A at *
        obtain ⟨j0, j1, j2, j3, j4⟩ := HX.out _ Sk.fin
        have Sj := Sk.alloc (.cells #[.bool x.up, .bool x.cordon, .bool x.moving, .int .i64 x.version, .int .i64 x.job] 39)
        obtain ⟨v0, v1, v2, v3, v4, v5⟩ := Sj.sC 1 rfl
        go_wp2_with fail
        refine (bkSound _ s x k (by omega) (HS.out.all (Sk.alloc _).fin) (fun i h => (HJob.out i h).small)).mono ?_
        rintro e w3 ⟨b, rfl, hF, hb3⟩
        have S2 := (Sk.alloc _).grow hb3
        clear y0 y1 y2 y3 y4 y5 x0 x1 x2 x3 x4 x5 x6 x7 x8 j0 j1 j2 j3 j4 v0 v1 v2 v3 v4 v5 Sj i0 HX hb3 Sk
        cases b
        · skip
          go_wp2
          go_ret
          exact ⟨_, rfl, (fun h => by cases h), S2.fin⟩
        have hall3 := hid (hall2.out (hF rfl))
        clear hF hall2
        go_wp2
        go_roundw
        case rel => exact ⟨k + 1, by omega, by go_num, hall3.out, S2⟩
        case measure => simp [intOf]; omega
      have g0 : decide ((k : Int) < (s.nn : Int)) = false := decide_eq_false (by omega)
      have g0n : decide (k < s.nn) = false := decide_eq_false (by omega)
      have HNode : Hid (∀ i (h : i < s.N.length), NodeF s s.N[i] i) := fun i h => HAll.out i h (by have := HS.out.nn; omega)
      clear HAll hlt hk
      go_wp2_with fail
      clear y0 y1 y2 y3 y4 y5 x0 x1 x2 x3 x4 x5 x6 x7 x8
      have S2 := Sk
      clear Sk
      have HF : Hid (RF c s) := ⟨QC.out, QN.out, hjn, Q0.out, Q1.out, Q2.out, Q3.out, HJob.out, HNode.out⟩
      obtain ⟨n, hn⟩ : ∃ n : Nat, c.queues = n := ⟨c.queues.toNat, by have := QC.out.queues; omega⟩
      go_loopw [83] (fun i wr => ∃ k : Nat, (k : Int) ≤ c.queues ∧ i = .int .i64 k ∧ St w wr [cellsT g2 23 c.cs, cellsT g3 27 s.cs]) (fun i _ => n - (intOf i).toNat)
      case atStart => exact ⟨0, by have := QC.out.queues; omega, rfl, S2⟩
      case round =>
        obtain ⟨k, hk, rfl, Sk⟩ := hrel
        clear S2
        have hq3 : c.queues ≤ 3 := QC.out.queues.2
        have HN := hid hn
        clear hn
        by_cases hlt : (k : Int) < c.queues
        case neg =>
          have g0 : decide ((k : Int) < c.queues) = false := decide_eq_false (by omega)
          clear hlt hk
          go_wp2
          go_ret
          exact ⟨_, rfl, fun _ => HF.out, Sk.fin⟩
        have g0 : decide ((k : Int) < c.queues) = true := decide_eq_true (by omega)
        have keep : ∀ {w' : World}, St w w' [cellsT g2 23 c.cs, cellsT g3 27 s.cs] → (w'.cell? ⟨g3, 0, none⟩ = some (.slice s.na s.nn s.nc) ∧ w'.cell? ⟨g3, 1, none⟩ = some (.slice s.ja s.jn s.jc) ∧ w'.cell? ⟨g3, 2, none⟩ = some (.int .i64 s.goal) ∧ w'.cell? ⟨g3, 3, none⟩ = some (.int .i64 s.prior) ∧ w'.cell? ⟨g3, 4, none⟩ = some (.int .i64 s.mode) ∧ w'.cell? ⟨g3, 5, none⟩ = some (.int .i64 s.term) ∧ w'.cell? ⟨g2, 2, none⟩ = some (.int .i64 c.quota)) := fun S => ⟨S.cell 1 rfl 0 rfl, S.cell 1 rfl 1 rfl, S.cell 1 rfl 2 rfl, S.cell 1 rfl 3 rfl, S.cell 1 rfl 4 rfl, S.cell 1 rfl 5 rfl, S.cell 0 rfl 2 rfl⟩
        go_wp2_with fail
        refine wp_region_held_drew (S := (fun w' => (w'.cell? ⟨g3, 0, none⟩ = some (.slice s.na s.nn s.nc) ∧ w'.cell? ⟨g3, 1, none⟩ = some (.slice s.ja s.jn s.jc) ∧ w'.cell? ⟨g3, 2, none⟩ = some (.int .i64 s.goal) ∧ w'.cell? ⟨g3, 3, none⟩ = some (.int .i64 s.prior) ∧ w'.cell? ⟨g3, 4, none⟩ = some (.int .i64 s.mode) ∧ w'.cell? ⟨g3, 5, none⟩ = some (.int .i64 s.term) ∧ w'.cell? ⟨g2, 2, none⟩ = some (.int .i64 c.quota)))) (by kernel_rfl) (by exact keep Sk.drew) (fun hHeld => ?_)
        change wpAnyH _ _ _ _ _ 6 (Array.replicate 6 false) _ _
        refine wpAnyH_take (i := 0) (v := ?v1) (ops_at rfl) (by kernel_rfl) (by kernel_rfl) (by kernel_rfl) (fun _ _ _ h => h) (Or.inl ⟨by rfl, ?hy1⟩) (by assumption) ?rest1
        case hy1 => intro w' hSw; (try dsimp only at hSw); go_simp; try with_reducible rfl
        try simp only [Act.put, List.setIfInBounds_toArray, List.set_cons_zero, List.set_cons_succ]
        refine wpAnyH_take (i := 1) (v := ?v2) (ops_at rfl) (by kernel_rfl) (by kernel_rfl) (by kernel_rfl) (fun _ _ _ h => h) (Or.inl ⟨by rfl, ?hy2⟩) (by assumption) ?rest2
        case hy2 => intro w' hSw; (try dsimp only at hSw); go_simp; try with_reducible rfl
        try simp only [Act.put, List.setIfInBounds_toArray, List.set_cons_zero, List.set_cons_succ]
        refine wpAnyH_take (i := 3) (v := ?v3) (ops_at rfl) (by kernel_rfl) (by kernel_rfl) (by kernel_rfl) (fun _ _ _ h => h) (Or.inl ⟨by rfl, ?hy3⟩) (by assumption) ?rest3
        case hy3 => intro w' hSw; (try dsimp only at hSw); go_simp; try with_reducible rfl
        try simp only [Act.put, List.setIfInBounds_toArray, List.set_cons_zero, List.set_cons_succ]
        refine wpAnyH_take (i := 4) (v := ?v4) (ops_at rfl) (by kernel_rfl) (by kernel_rfl) (by kernel_rfl) (fun _ _ _ h => h) (Or.inl ⟨by rfl, ?hy4⟩) (by assumption) ?rest4
        case hy4 => intro w' hSw; (try dsimp only at hSw); go_simp; try with_reducible rfl
        try simp only [Act.put, List.setIfInBounds_toArray, List.set_cons_zero, List.set_cons_succ]
        refine wpAnyH_ready (rs := [2]) (by kernel_rfl) (by simp) ?_
        refine AllReadyH.cons (ops_at rfl) (fun K hK => ?_) AllReadyH.nil
        go_simp
        refine (bkDrains _ s (k : Int) (HS.out.all Sk.drew.fin) (by omega)).mono ?_
        rintro e w3 ⟨q, rfl, hb3⟩
        have S2 := Sk.drew.grow hb3
        obtain ⟨bb, hbb⟩ : ∃ bb, decide (c.quota < q) = bb := ⟨_, rfl⟩
        refine hK.out _ _ (by exact keep S2) (fun hHeld => ?_)
        clear hK K
        try simp only [Act.put, List.setIfInBounds_toArray, List.set_cons_zero, List.set_cons_succ]
        refine wpAnyH_take (i := 5) (v := ?v6) (ops_at rfl) (by kernel_rfl) (by kernel_rfl) (by kernel_rfl) (fun _ _ _ h => h) (Or.inl ⟨by rfl, ?hy6⟩) (by assumption) ?rest6
        case hy6 => intro w' hSw; (try dsimp only at hSw); go_simp; try with_reducible rfl
        try simp only [Act.put, List.setIfInBounds_toArray, List.set_cons_zero, List.set_cons_succ]
        refine wpAnyH_done (by kernel_rfl) ?_ _
        clear keep hb3 Sk
        clear hbb
        cases bb
        · go_wp2
          go_roundw
          case rel => exact ⟨k + 1, by omega, by go_num, S2⟩
          case measure => simp [intOf]; have := HN.out; omega
        · skip
          go_wp2
          go_ret
          exact ⟨_, rfl, (fun h => by cases h), S2.fin⟩
end Go.Proofs.YtjfbmgndekfglaaDoor
