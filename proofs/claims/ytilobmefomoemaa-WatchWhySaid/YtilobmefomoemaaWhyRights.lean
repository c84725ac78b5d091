/- The document's Right (dunnageref09) of a state that may be: its parts, what it looks at, the whole. -/
import Derived.Test.YtilobmefomoemaaRightB4
import Derived.Deep.CutRange
namespace Go.Proofs.Ytilobmefomoemaa
set_option linter.unusedVariables false
set_option linter.unusedSimpArgs false
open Go.RowKit
def cntN (n : Int) : Nat → Nat
  | 0 => 0
  | k + 1 => cntN n k + if hasB n k = true then 1 else 0
theorem cntN_le (n : Int) : ∀ k, cntN n k ≤ k
  | 0 => Nat.le_refl _
  | k + 1 => by have := cntN_le n k; rw [cntN]; split <;> omega
theorem cntN_ones {n : Int} (h0 : 0 ≤ n) (h1 : n < 64) : (cntN n 6 : Int) = onesN n.toNat := by
  obtain ⟨m, rfl⟩ : ∃ m : Nat, n = m := ⟨n.toNat, by omega⟩
  have : ∀ m : Fin 64, (cntN (m.val : Int) 6 : Int) = onesN ((m.val : Int)).toNat := by decide +kernel
  exact this ⟨m, by omega⟩
set_option maxRecDepth 10000 in
theorem ryHas (n : Int) (i : Nat) (w : World) (h0 : 0 ≤ n) (h1 : n < 64) (hi : i < 6) : Calls Try.prog 67 #[.int .i64 n, .int .i64 (i : Int)] w fun e w' => e = .returned (.bool (hasB n i)) ∧ w = w' := by
  obtain ⟨m, hm⟩ : ∃ m : Nat, n = m := ⟨n.toNat, by omega⟩
  have hB : Hid (bits .and .i64 (n / 2 ^ i) 1 = if hasB n i = true then 1 else 0) := by
    rw [Hid, hm]
    exact has_run ⟨m, by omega⟩ ⟨i, hi⟩
  clear hm
  by_cases hb : hasB n i = true
  · have gB : (bits .and .i64 (n / 2 ^ i) 1 == 1) = true := by rw [hB.out, if_pos hb]; rfl
    have E := hid hb
    clear hb hB
    go_enter Try.func67, Try.ntmps67
    go_wp2
    go_ret
    exact ⟨by rw [E.out]; rfl, rfl⟩
  · have gB : (bits .and .i64 (n / 2 ^ i) 1 == 1) = false := by rw [hB.out, if_neg hb]; rfl
    have E : Hid (hasB n i = false) := by rw [Hid]; simpa using hb
    clear hb hB
    go_enter Try.func67, Try.ntmps67
    go_wp2
    go_ret
    exact ⟨by rw [E.out]; rfl, rfl⟩
set_option maxRecDepth 10000 in
set_option maxHeartbeats 1600000 in
theorem ryMany (n : Int) (w : World) (h0 : 0 ≤ n) (h1 : n < 64) : Calls Try.prog 70 #[.int .i64 n] w fun e w' => e = .returned (.int .i64 (cntN n 6 : Int)) ∧ w = w' := by
  go_enter Try.func70, Try.ntmps70
  go_wp2_with fail
  go_loopw [3, 4] (fun q i wr => ∃ k : Nat, k ≤ 6 ∧ q = .int .i64 (cntN n k : Int) ∧ i = .int .i64 k ∧ w = wr) (fun _ i _ => 6 - (intOf i).toNat)
  case atStart => exact ⟨0, by omega, rfl, rfl, rfl⟩
  case round =>
    obtain ⟨k, hk, rfl, rfl, rfl⟩ := hrel
    by_cases hlt : k < 6
    case neg =>
      have g0 : decide ((k : Int) < 6) = false := decide_eq_false (by omega)
      have g0n : decide (k < 6) = false := decide_eq_false (by omega)
      have e : Hid (k = 6) := by rw [Hid]; omega
      clear hlt hk
      go_wp2
      go_ret
      exact ⟨by rw [← e.out]; rfl, rfl⟩
    have g0 : decide ((k : Int) < 6) = true := decide_eq_true (by omega)
    have g0n : decide (k < 6) = true := decide_eq_true (by omega)
    have hc := cntN_le n k
    have HSt : Hid (cntN n (k + 1) = cntN n k + if hasB n k = true then 1 else 0) := rfl
    go_wp2_with fail
    refine (ryHas n k _ h0 h1 hlt).mono ?_
    rintro e wx ⟨rfl, rfl⟩
    rcases hb : hasB n k with _ | _
    · have HS2 : Hid (cntN n (k + 1) = cntN n k) := by rw [Hid, HSt.out, hb]; rfl
      clear hb HSt
      go_wp2
      go_roundw
      case rel => exact ⟨k + 1, by omega, by rw [HS2.out], by go_num, trivial⟩
      case measure => simp [intOf]; omega
    · have HS2 : Hid (cntN n (k + 1) = cntN n k + 1) := by rw [Hid, HSt.out, hb]; rfl
      clear hb HSt
      generalize cntN n k = q at *
      go_wp2
      go_roundw
      case rel => exact ⟨k + 1, by omega, by rw [HS2.out]; go_num, by go_num, trivial⟩
      case measure => simp [intOf]; omega
set_option maxRecDepth 10000 in
theorem ryNumber (n : Int) (w : World) (h0 : 0 ≤ n) (h1 : n ≤ 1000000) : Calls Try.prog 63 #[.int .i64 n] w fun e w' => e = .returned (.bool true) ∧ w = w' := by
  have g0 : decide (0 ≤ n) = true := decide_eq_true h0
  have g1 : decide (n ≤ 1000000) = true := decide_eq_true h1
  go_enter Try.func63, Try.ntmps63
  go_wp2
  go_ret
  exact ⟨rfl, rfl⟩
set_option maxRecDepth 10000 in
set_option maxHeartbeats 3200000 in
theorem ryMay (c : CF) (hc : c.Ok) (w : World) : Calls Try.prog 62 #[.agg #[.int .i64 c.nodes, .int .i64 c.queues, .int .i64 c.quota, .int .i64 c.wave, .int .i64 c.lease, .int .i64 c.retry, .int .i64 c.deadline, .int .i64 c.room, .int .i64 c.disk]] w fun e w' => e = .returned (.bool true) ∧ Below w.heap.size w w' := by
  have hb := ((St.start w).alloc (.cells #[.int .i64 c.nodes, .int .i64 c.queues, .int .i64 c.quota, .int .i64 c.wave, .int .i64 c.lease, .int .i64 c.retry, .int .i64 c.deadline, .int .i64 c.room, .int .i64 c.disk] 38)).fin
  have a1 : decide (c.nodes < 1) = false := decide_eq_false (by have := hc.nodes; omega)
  have a2 : decide (6 < c.nodes) = false := decide_eq_false (by have := hc.nodes; omega)
  have a3 : decide (c.queues < 1) = false := decide_eq_false (by have := hc.queues; omega)
  have a4 : decide (3 < c.queues) = false := decide_eq_false (by have := hc.queues; omega)
  have a5 : decide (c.quota < 0) = false := decide_eq_false (by have := hc.quota; omega)
  have a6 : decide (4 < c.quota) = false := decide_eq_false (by have := hc.quota; omega)
  have a7 : decide (c.wave < 1) = false := decide_eq_false (by have := hc.wave; omega)
  have a8 : decide (6 < c.wave) = false := decide_eq_false (by have := hc.wave; omega)
  have a9 : decide (c.lease < 2) = false := decide_eq_false (by have := hc.lease; omega)
  have b1 : decide (30 < c.lease) = false := decide_eq_false (by have := hc.lease; omega)
  have b2 : decide (c.retry < 1) = false := decide_eq_false (by have := hc.retry; omega)
  have b3 : decide (20 < c.retry) = false := decide_eq_false (by have := hc.retry; omega)
  have b4 : decide (c.deadline < 1) = false := decide_eq_false (by have := hc.deadline; omega)
  have b5 : decide (60 < c.deadline) = false := decide_eq_false (by have := hc.deadline; omega)
  have b6 : decide (0 ≤ c.room) = true := decide_eq_true (by have := hc.room; omega)
  have b7 : decide (c.room ≤ 5000) = true := decide_eq_true (by have := hc.room; omega)
  have b8 : decide (2000 ≤ c.disk) = true := decide_eq_true (by have := hc.disk; omega)
  have b9 : decide (c.disk ≤ 40000) = true := decide_eq_true (by have := hc.disk; omega)
  clear hc
  go_enter Try.func62, Try.ntmps62
  go_wp2
  go_ret
  exact ⟨rfl, hb⟩
set_option maxRecDepth 10000 in
set_option maxHeartbeats 3200000 in
theorem ryAsked (c : CF) (j : JB) (h : j.Asked c) (w : World) : Calls Try.prog 65 #[.agg #[.int .i64 c.nodes, .int .i64 c.queues, .int .i64 c.quota, .int .i64 c.wave, .int .i64 c.lease, .int .i64 c.retry, .int .i64 c.deadline, .int .i64 c.room, .int .i64 c.disk], .agg #[.int .i64 j.queue, .int .i64 j.prio, .int .i64 j.lo, .int .i64 j.hi, .int .i64 j.work, .int .i64 j.pin, .int .i64 j.phase, .int .i64 j.inc, .int .i64 j.nodes, .int .i64 j.since, .int .i64 j.until_, .int .i64 j.epoch]] w fun e w' => e = .returned (.bool true) ∧ Below w.heap.size w w' := by
  have hb := (((St.start w).alloc (.cells #[.int .i64 c.nodes, .int .i64 c.queues, .int .i64 c.quota, .int .i64 c.wave, .int .i64 c.lease, .int .i64 c.retry, .int .i64 c.deadline, .int .i64 c.room, .int .i64 c.disk] 38)).alloc (.cells #[.int .i64 j.queue, .int .i64 j.prio, .int .i64 j.lo, .int .i64 j.hi, .int .i64 j.work, .int .i64 j.pin, .int .i64 j.phase, .int .i64 j.inc, .int .i64 j.nodes, .int .i64 j.since, .int .i64 j.until_, .int .i64 j.epoch] 52)).fin
  have a1 : decide (0 ≤ j.queue) = true := decide_eq_true (by have := h.queue; omega)
  have a2 : decide (j.queue < c.queues) = true := decide_eq_true (by have := h.queue; omega)
  have a3 : decide (0 ≤ j.prio) = true := decide_eq_true (by have := h.prio; omega)
  have a4 : decide (j.prio ≤ 9) = true := decide_eq_true (by have := h.prio; omega)
  have a5 : decide (1 ≤ j.lo) = true := decide_eq_true (by have := h.lo; omega)
  have a6 : decide (j.lo ≤ j.hi) = true := decide_eq_true (by have := h.lo; omega)
  have a7 : decide (j.hi ≤ c.nodes) = true := decide_eq_true (by have := h.hi; omega)
  have a8 : decide (1 ≤ j.work) = true := decide_eq_true (by have := h.work; omega)
  have a9 : decide (j.work ≤ 1000) = true := decide_eq_true (by have := h.work; omega)
  have b1 : decide (0 ≤ j.pin) = true := decide_eq_true (by have := h.pin; omega)
  have b2 : decide (j.pin ≤ 9) = true := decide_eq_true (by have := h.pin; omega)
  clear h
  go_enter Try.func65, Try.ntmps65
  go_wp2
  go_ret
  exact ⟨rfl, hb⟩
set_option maxRecDepth 10000 in
set_option maxHeartbeats 3200000 in
theorem ryDrains (w : World) (s : STA) (queue : Int) (hs : s.At w) (hn : s.jn ≤ 1000000) :
    Calls Try.prog 64 #[.agg #[.slice s.na s.nn s.nc, .slice s.ja s.jn s.jc, .int .i64 s.goal, .int .i64 s.prior, .int .i64 s.mode, .int .i64 s.term], .int .i64 queue] w fun e w' => e = .returned (.int .i64 (drK s queue s.jn : Int)) ∧ Below w.heap.size w w' := by
  have S1 : St w _ [cellsT w.heap.size 25 s.cs] := (St.start w).newAt 25 #[.slice s.na s.nn s.nc, .slice s.ja s.jn s.jc, .int .i64 s.goal, .int .i64 s.prior, .int .i64 s.mode, .int .i64 s.term] w.heap.size rfl
  have HS := hid hs
  clear hs
  go_enter Try.func64, Try.ntmps64
  go_wp2_with fail
  generalize w.heap.size = g2 at *
  generalize w.alloc _ = w1 at *
  go_loopw [5, 6] (fun v i wr => ∃ (k : Nat), k ≤ s.jn ∧ v = .int .i64 (drK s queue k : Int) ∧ i = .int .i64 k ∧ w1 = wr) (fun _ i _ => s.jn - (intOf i).toNat)
  case atStart => exact ⟨0, Nat.zero_le _, rfl, rfl, rfl⟩
  case round =>
    obtain ⟨k, hk, rfl, rfl, rfl⟩ := hrel
    have hdl := drK_le s queue k
    obtain ⟨y0, y1, y2, y3, y4, y5⟩ := S1.sC 0 rfl
    by_cases hlt : k < s.jn
    case neg =>
      have g0 : decide ((k : Int) < (s.jn : Int)) = false := decide_eq_false (by omega)
      have g0n : decide (k < s.jn) = false := decide_eq_false (by omega)
      have E : Hid (drK s queue s.jn = drK s queue k) := by rw [Hid, show s.jn = k by omega]
      clear hlt hk
      go_wp2
      go_ret
      exact ⟨by rw [E.out]; rfl, S1.fin⟩
    have g0 : decide ((k : Int) < (s.jn : Int)) = true := decide_eq_true (by omega)
    have g0n : decide (k < s.jn) = true := decide_eq_true (by omega)
    have hkl : k < s.J.length := by rw [HS.out.jn]; exact hlt
    have i0 := fun wx => idxJB s.ja s.jn s.jc (fun h => HS.out.j.ok (by rw [HS.out.jn]; exact h)) k k rfl hlt wx
    have HX : Hid (∀ w', Below w.heap.size w w' → JbAt w' (adr s.ja (k * 12)) s.J[k]) := fun w' hb => (HS.out.j.all eJBok hb).jbAt hkl
    have HC : Hid (drK s queue (k + 1) = drK s queue k + if ((s.J[k].queue == queue) && (s.J[k].phase == 3)) = true then 1 else 0) := by rw [Hid, drK, List.getElem?_eq_getElem hkl]
    generalize s.J[k] = j at *
    generalize adr s.ja (k * 12) = A at *
    generalize drK s queue k = m at *
    obtain ⟨x0, x1, x2, x3, x4, x5, x6, x7, x8, x9, x10, x11⟩ := HX.out _ S1.fin
    cases b2 : (j.phase == 3)
    · have E : Hid (drK s queue (k + 1) = m) := by rw [Hid, HC.out, b2, Bool.and_false]; rfl
      clear HC HX
      go_wp2
      go_roundw
      case rel => exact ⟨k + 1, by omega, by rw [E.out], by go_num, trivial⟩
      case measure => simp [intOf]; omega
    · cases b1 : (j.queue == queue)
      · have E : Hid (drK s queue (k + 1) = m) := by rw [Hid, HC.out, b1]; rfl
        clear HC HX
        go_wp2
        go_roundw
        case rel => exact ⟨k + 1, by omega, by rw [E.out], by go_num, trivial⟩
        case measure => simp [intOf]; omega
      · have E : Hid (drK s queue (k + 1) = m + 1) := by rw [Hid, HC.out, b1, b2]; rfl
        clear HC HX
        go_wp2
        go_roundw
        case rel => exact ⟨k + 1, by omega, by rw [E.out]; go_num, by go_num, trivial⟩
        case measure => simp [intOf]; omega
structure FitsR (s : STA) (j : JB) (V : Int) : Prop where
  lo : 0 ≤ j.nodes
  lt : j.nodes < 64
  cnt : j.lo ≤ (cntN j.nodes 6 : Int) ∧ (cntN j.nodes 6 : Int) ≤ j.hi
  node : ∀ i, i < 6 → hasB j.nodes i = true → ∃ h : i < s.N.length, s.N[i].version = V
  pin : j.pin = 0 ∨ V = j.pin
set_option maxRecDepth 10000 in
set_option maxHeartbeats 3200000 in
theorem ryFits (w : World) (s : STA) (j : JB) (V : Int) (hs : s.At w) (hF : FitsR s j V) (h6 : s.nn ≤ 6) :
    Calls Try.prog 66 #[.agg #[.slice s.na s.nn s.nc, .slice s.ja s.jn s.jc, .int .i64 s.goal, .int .i64 s.prior, .int .i64 s.mode, .int .i64 s.term], .agg #[.int .i64 j.queue, .int .i64 j.prio, .int .i64 j.lo, .int .i64 j.hi, .int .i64 j.work, .int .i64 j.pin, .int .i64 j.phase, .int .i64 j.inc, .int .i64 j.nodes, .int .i64 j.since, .int .i64 j.until_, .int .i64 j.epoch], .int .i64 j.nodes] w fun e w' => e = .returned (.bool true) ∧ Below w.heap.size w w' := by
  have S1 : St w _ [cellsT w.heap.size 25 s.cs, cellsT (w.heap.size + 1) 52 j.cs] := ((St.start w).newAt 25 #[.slice s.na s.nn s.nc, .slice s.ja s.jn s.jc, .int .i64 s.goal, .int .i64 s.prior, .int .i64 s.mode, .int .i64 s.term] w.heap.size rfl).newAt 52 #[.int .i64 j.queue, .int .i64 j.prio, .int .i64 j.lo, .int .i64 j.hi, .int .i64 j.work, .int .i64 j.pin, .int .i64 j.phase, .int .i64 j.inc, .int .i64 j.nodes, .int .i64 j.since, .int .i64 j.until_, .int .i64 j.epoch] (w.heap.size + 1) (alloc_size _ _)
  have HS := hid hs
  have HF := hid hF
  have a0 : decide (j.nodes < 0) = false := decide_eq_false (by have := hF.lo; omega)
  have a1 : decide (64 ≤ j.nodes) = false := decide_eq_false (by have := hF.lt; omega)
  have a2 : decide ((cntN j.nodes 6 : Int) < j.lo) = false := decide_eq_false (by have := hF.cnt; omega)
  have a3 : decide (j.hi < (cntN j.nodes 6 : Int)) = false := decide_eq_false (by have := hF.cnt; omega)
  clear hs hF
  go_enter Try.func66, Try.ntmps66
  go_wp2_with fail
  generalize w.heap.size + 1 = g4 at *
  generalize w.heap.size = g3 at *
  generalize (w.alloc _).alloc _ = w1 at *
  have keep : ∀ {w' : World}, St w w' [cellsT g3 25 s.cs, cellsT g4 52 j.cs] → (w'.cell? ⟨g4, 2, none⟩ = some (.int .i64 j.lo) ∧ w'.cell? ⟨g4, 3, none⟩ = some (.int .i64 j.hi)) := fun S => ⟨S.cell 1 rfl 2 rfl, S.cell 1 rfl 3 rfl⟩
  refine wp_region_held_drew (S := (fun w' => (w'.cell? ⟨g4, 2, none⟩ = some (.int .i64 j.lo) ∧ w'.cell? ⟨g4, 3, none⟩ = some (.int .i64 j.hi)))) (by kernel_rfl) (by exact keep S1.drew) (fun hHeld => ?_)
  change wpAnyH _ _ _ _ _ 20 (Array.replicate 20 false) _ _
  refine wpAnyH_take (i := 0) (v := ?v1) (ops_at rfl) (by kernel_rfl) (by kernel_rfl) (by kernel_rfl) (fun _ _ _ h => h) (Or.inl ⟨by rfl, ?hy1⟩) (by assumption) ?rest1
  case hy1 => intro w' hSw; (try dsimp only at hSw); go_simp; try with_reducible rfl
  try simp only [Act.put, List.setIfInBounds_toArray, List.set_cons_zero, List.set_cons_succ]
  refine wpAnyH_take (i := 1) (v := ?v2) (ops_at rfl) (by kernel_rfl) (by kernel_rfl) (by kernel_rfl) (fun _ _ _ h => h) (Or.inl ⟨by rfl, ?hy2⟩) (by assumption) ?rest2
  case hy2 => intro w' hSw; (try dsimp only at hSw); go_simp; try with_reducible rfl
  try simp only [Act.put, List.setIfInBounds_toArray, List.set_cons_zero, List.set_cons_succ]
  refine wpAnyH_take (i := 2) (v := ?v3) (ops_at rfl) (by kernel_rfl) (by kernel_rfl) (by kernel_rfl) (fun _ _ _ h => h) (Or.inl ⟨by rfl, ?hy3⟩) (by assumption) ?rest3
  case hy3 => intro w' hSw; (try dsimp only at hSw); go_simp; try with_reducible rfl
  try simp only [Act.put, List.setIfInBounds_toArray, List.set_cons_zero, List.set_cons_succ]
  refine wpAnyH_take (i := 3) (v := ?v4) (ops_at rfl) (by kernel_rfl) (by kernel_rfl) (by kernel_rfl) (fun _ _ _ h => h) (Or.inl ⟨by rfl, ?hy4⟩) (by assumption) ?rest4
  case hy4 => intro w' hSw; (try dsimp only at hSw); go_simp; try with_reducible rfl
  try simp only [Act.put, List.setIfInBounds_toArray, List.set_cons_zero, List.set_cons_succ]
  refine wpAnyH_take (i := 4) (v := ?v5) (ops_at rfl) (by kernel_rfl) (by kernel_rfl) (by kernel_rfl) (fun _ _ _ h => h) (Or.inl ⟨by rfl, ?hy5⟩) (by assumption) ?rest5
  case hy5 => intro w' hSw; (try dsimp only at hSw); go_simp; try with_reducible rfl
  try simp only [Act.put, List.setIfInBounds_toArray, List.set_cons_zero, List.set_cons_succ]
  refine wpAnyH_take (i := 5) (v := ?v6) (ops_at rfl) (by kernel_rfl) (by kernel_rfl) (by kernel_rfl) (fun _ _ _ h => h) (Or.inl ⟨by rfl, ?hy6⟩) (by assumption) ?rest6
  case hy6 => intro w' hSw; (try dsimp only at hSw); go_simp; try with_reducible rfl
  try simp only [Act.put, List.setIfInBounds_toArray, List.set_cons_zero, List.set_cons_succ]
  refine wpAnyH_take (i := 6) (v := ?v7) (ops_at rfl) (by kernel_rfl) (by kernel_rfl) (by kernel_rfl) (fun _ _ _ h => h) (Or.inl ⟨by rfl, ?hy7⟩) (by assumption) ?rest7
  case hy7 => intro w' hSw; (try dsimp only at hSw); go_simp; try with_reducible rfl
  try simp only [Act.put, List.setIfInBounds_toArray, List.set_cons_zero, List.set_cons_succ]
  refine wpAnyH_take (i := 7) (v := ?v8) (ops_at rfl) (by kernel_rfl) (by kernel_rfl) (by kernel_rfl) (fun _ _ _ h => h) (Or.inl ⟨by rfl, ?hy8⟩) (by assumption) ?rest8
  case hy8 => intro w' hSw; (try dsimp only at hSw); go_simp; try with_reducible rfl
  try simp only [Act.put, List.setIfInBounds_toArray, List.set_cons_zero, List.set_cons_succ]
  refine wpAnyH_take (i := 9) (v := ?v9) (ops_at rfl) (by kernel_rfl) (by kernel_rfl) (by kernel_rfl) (fun _ _ _ h => h) (Or.inl ⟨by rfl, ?hy9⟩) (by assumption) ?rest9
  case hy9 => intro w' hSw; (try dsimp only at hSw); go_simp; try with_reducible rfl
  try simp only [Act.put, List.setIfInBounds_toArray, List.set_cons_zero, List.set_cons_succ]
  refine wpAnyH_take (i := 10) (v := ?v10) (ops_at rfl) (by kernel_rfl) (by kernel_rfl) (by kernel_rfl) (fun _ _ _ h => h) (Or.inl ⟨by rfl, ?hy10⟩) (by assumption) ?rest10
  case hy10 => intro w' hSw; (try dsimp only at hSw); go_simp; try with_reducible rfl
  try simp only [Act.put, List.setIfInBounds_toArray, List.set_cons_zero, List.set_cons_succ]
  refine wpAnyH_ready (rs := [8]) (by kernel_rfl) (by simp) ?_
  refine AllReadyH.cons (ops_at rfl) (fun K hK => ?_) AllReadyH.nil
  go_simp
  refine (ryMany j.nodes _ HF.out.lo HF.out.lt).mono ?_
  rintro e wa ⟨rfl, rfl⟩
  refine hK.out _ _ (by exact keep S1.drew) (fun hHeld => ?_)
  clear hK K
  try simp only [Act.put, List.setIfInBounds_toArray, List.set_cons_zero, List.set_cons_succ]
  refine wpAnyH_take (i := 11) (v := ?v12) (ops_at rfl) (by kernel_rfl) (by kernel_rfl) (by kernel_rfl) (fun _ _ _ h => h) (Or.inl ⟨by rfl, ?hy12⟩) (by assumption) ?rest12
  case hy12 => intro w' hSw; (try dsimp only at hSw); go_simp; try with_reducible rfl
  try simp only [Act.put, List.setIfInBounds_toArray, List.set_cons_zero, List.set_cons_succ]
  refine wpAnyH_take (i := 12) (v := ?v13) (ops_at rfl) (by kernel_rfl) (by kernel_rfl) (by kernel_rfl) (fun _ _ _ h => h) (Or.inl ⟨by rfl, ?hy13⟩) (by assumption) ?rest13
  case hy13 => intro w' hSw; (try dsimp only at hSw); go_simp; try with_reducible rfl
  try simp only [Act.put, List.setIfInBounds_toArray, List.set_cons_zero, List.set_cons_succ]
  refine wpAnyH_take (i := 13) (v := ?v14) (ops_at rfl) (by kernel_rfl) (by kernel_rfl) (by kernel_rfl) (fun _ _ _ h => h) (Or.inl ⟨by rfl, ?hy14⟩) (by assumption) ?rest14
  case hy14 => intro w' hSw; (try dsimp only at hSw); go_simp; try with_reducible rfl
  try simp only [Act.put, List.setIfInBounds_toArray, List.set_cons_zero, List.set_cons_succ]
  refine wpAnyH_take (i := 14) (v := ?v15) (ops_at rfl) (by kernel_rfl) (by kernel_rfl) (by kernel_rfl) (fun _ _ _ h => h) (Or.inl ⟨by rfl, ?hy15⟩) (by assumption) ?rest15
  case hy15 => intro w' hSw; (try dsimp only at hSw); go_simp; try with_reducible rfl
  try simp only [Act.put, List.setIfInBounds_toArray, List.set_cons_zero, List.set_cons_succ]
  refine wpAnyH_take (i := 16) (v := ?v16) (ops_at rfl) (by kernel_rfl) (by kernel_rfl) (by kernel_rfl) (fun _ _ _ h => h) (Or.inl ⟨by rfl, ?hy16⟩) (by assumption) ?rest16
  case hy16 => intro w' hSw; (try dsimp only at hSw); go_simp; try with_reducible rfl
  try simp only [Act.put, List.setIfInBounds_toArray, List.set_cons_zero, List.set_cons_succ]
  refine wpAnyH_take (i := 17) (v := ?v17) (ops_at rfl) (by kernel_rfl) (by kernel_rfl) (by kernel_rfl) (fun _ _ _ h => h) (Or.inl ⟨by rfl, ?hy17⟩) (by assumption) ?rest17
  case hy17 => intro w' hSw; (try dsimp only at hSw); go_simp; try with_reducible rfl
  try simp only [Act.put, List.setIfInBounds_toArray, List.set_cons_zero, List.set_cons_succ]
  refine wpAnyH_ready (rs := [15]) (by kernel_rfl) (by simp) ?_
  refine AllReadyH.cons (ops_at rfl) (fun K hK => ?_) AllReadyH.nil
  go_simp
  refine (ryMany j.nodes _ HF.out.lo HF.out.lt).mono ?_
  rintro e wb ⟨rfl, rfl⟩
  refine hK.out _ _ (by exact keep S1.drew) (fun hHeld => ?_)
  clear hK K
  try simp only [Act.put, List.setIfInBounds_toArray, List.set_cons_zero, List.set_cons_succ]
  refine wpAnyH_take (i := 18) (v := ?v19) (ops_at rfl) (by kernel_rfl) (by kernel_rfl) (by kernel_rfl) (fun _ _ _ h => h) (Or.inl ⟨by rfl, ?hy19⟩) (by assumption) ?rest19
  case hy19 => intro w' hSw; (try dsimp only at hSw); go_simp; try with_reducible rfl
  try simp only [Act.put, List.setIfInBounds_toArray, List.set_cons_zero, List.set_cons_succ]
  refine wpAnyH_take (i := 19) (v := ?v20) (ops_at rfl) (by kernel_rfl) (by kernel_rfl) (by kernel_rfl) (fun _ _ _ h => h) (Or.inl ⟨by rfl, ?hy20⟩) (by assumption) ?rest20
  case hy20 => intro w' hSw; (try dsimp only at hSw); go_simp; try with_reducible rfl
  try simp only [Act.put, List.setIfInBounds_toArray, List.set_cons_zero, List.set_cons_succ]
  refine wpAnyH_done (by kernel_rfl) ?_ _
  have S2 := S1.drew
  generalize w1.drew = w2 at *
  clear S1 keep a0 a1 a2 a3
  go_wp2_with fail
  go_loopw [7, 8, 9] (fun v i z wr => ∃ (k : Nat) (u : Int) (x : Value), k ≤ 6 ∧ v = .int .i64 u ∧ (u = 0 ∨ u = V) ∧ i = .int .i64 k ∧ z = x ∧ w2 = wr) (fun _ i _ _ => 6 - (intOf i).toNat)
  case atStart => exact ⟨0, 0, _, by omega, rfl, .inl rfl, rfl, rfl, rfl⟩
  case round =>
    obtain ⟨k, u, x, hk, rfl, hu, rfl, rfl, rfl⟩ := hrel
    have HU := hid hu
    clear hu
    obtain ⟨y0, y1, y2, y3, y4, y5⟩ := S2.sC 0 rfl
    have z5 := S2.cell 1 rfl 5 rfl
    by_cases hlt : k < 6
    case neg =>
      have g0 : decide ((k : Int) < 6) = false := decide_eq_false (by omega)
      have g0n : decide (k < 6) = false := decide_eq_false (by omega)
      clear hlt hk
      go_wp2
      go_ret
      exact ⟨rfl, S2.fin⟩
    have g0 : decide ((k : Int) < 6) = true := decide_eq_true (by omega)
    have g0n : decide (k < 6) = true := decide_eq_true (by omega)
    go_wp2_with fail
    refine (ryHas j.nodes k _ HF.out.lo HF.out.lt hlt).mono ?_
    rintro e wx ⟨rfl, rfl⟩
    cases hb : hasB j.nodes k
    · clear hb
      go_wp2
      go_roundw
      case rel => exact ⟨k + 1, u, _, by omega, rfl, HU.out, by go_num, rfl, trivial⟩
      case measure => simp [intOf]; omega
    obtain ⟨hkl, hv⟩ := HF.out.node k hlt hb
    have hkn : k < s.nn := by have := HS.out.nn; omega
    have g1 : decide ((s.nn : Int) ≤ (k : Int)) = false := decide_eq_false (by omega)
    have g1n : decide (s.nn ≤ k) = false := decide_eq_false (by omega)
    have i0 := fun wx => idxND s.na s.nn s.nc (fun h => HS.out.n.ok (by rw [HS.out.nn]; exact h)) k hkn wx
    obtain ⟨j0, j1, j2, j3, j4⟩ := (HS.out.n.all eNDok S2.fin).ndAt hkl
    rw [hv] at j3
    clear hb hv
    generalize s.N[k] = nd at *
    generalize adr s.na (k * 5) = A at *
    have q1 : (V != V) = false := by simp
    have HP := hid HF.out.pin
    cases p1 : (j.pin != 0)
    · cases p2 : (u != 0)
      · go_wp2
        go_roundw
        case rel => exact ⟨k + 1, V, _, by omega, rfl, .inr rfl, by go_num, rfl, trivial⟩
        case measure => simp [intOf]; omega
      · have hu2 : u = V := by
          rcases HU.out with h | h
          · rw [h] at p2; simp at p2
          · exact h
        clear HU
        subst hu2
        go_wp2
        go_roundw
        case rel => exact ⟨k + 1, u, _, by omega, rfl, .inr rfl, by go_num, rfl, trivial⟩
        case measure => simp [intOf]; omega
    · have p3 : (V != j.pin) = false := by
        rcases HP.out with h | h
        · rw [h] at p1; simp at p1
        · rw [h]; simp
      cases p2 : (u != 0)
      · go_wp2
        go_roundw
        case rel => exact ⟨k + 1, V, _, by omega, rfl, .inr rfl, by go_num, rfl, trivial⟩
        case measure => simp [intOf]; omega
      · have hu2 : u = V := by
          rcases HU.out with h | h
          · rw [h] at p2; simp at p2
          · exact h
        clear HU
        subst hu2
        go_wp2
        go_roundw
        case rel => exact ⟨k + 1, u, _, by omega, rfl, .inr rfl, by go_num, rfl, trivial⟩
        case measure => simp [intOf]; omega
end Go.Proofs.Ytilobmefomoemaa

namespace Go.Proofs.Ytilobmefomoemaa
set_option linter.unusedVariables false
set_option linter.unusedSimpArgs false
open Go.RowKit
structure JobR (c : CF) (s : STA) (j : JB) : Prop where
  asked : j.Asked c
  phase : 0 ≤ j.phase ∧ j.phase ≤ 4
  inc : 0 ≤ j.inc ∧ j.inc ≤ 1000000
  since : 0 ≤ j.since ∧ j.since ≤ 1000000
  until_ : 0 ≤ j.until_ ∧ j.until_ ≤ 1000000
  epoch : 0 ≤ j.epoch ∧ j.epoch ≤ j.inc
  small : 0 ≤ j.nodes ∧ j.nodes < 64
  rest : ¬ (1 ≤ j.phase ∧ j.phase ≤ 3) → j.nodes = 0
  put : 1 ≤ j.phase ∧ j.phase ≤ 3 → ∃ V, FitsR s j V
structure NodR (s : STA) (x : ND) : Prop where
  version : 1 ≤ x.version ∧ x.version ≤ 9
  job : 0 ≤ x.job ∧ x.job ≤ s.jn
  mv : x.moving = true → x.up = true ∧ x.cordon = true ∧ x.job = 0
structure RRF (c : CF) (s : STA) : Prop where
  conf : c.Ok
  nn : (s.nn : Int) = c.nodes
  jn : s.jn ≤ 24
  goal : 1 ≤ s.goal ∧ s.goal ≤ 9
  prior : 1 ≤ s.prior ∧ s.prior ≤ 9
  mode : 0 ≤ s.mode ∧ s.mode ≤ 2
  term : 0 ≤ s.term ∧ s.term ≤ 1000000
  node : ∀ i (h : i < s.N.length), NodR s s.N[i]
  quota : ∀ k : Nat, (k : Int) < c.queues → (drK s k s.jn : Int) ≤ c.quota
  job : ∀ k (h : k < s.J.length), JobR c s s.J[k]
  own : ∀ k (h : k < s.J.length) i (h' : i < s.N.length), ((s.N[i].job == (k : Int) + 1) = hasB s.J[k].nodes i) ∧ (s.N[i].job = (k : Int) + 1 → s.N[i].up = true ∧ s.N[i].moving = false)
theorem soundK_at {s : STA} {n : Nat} (h : soundK s n = true) (i : Nat) (hi : i < s.N.length) (hin : i < n) : soundB s s.N[i] i = true := by
  cases h1 : soundK s (i + 1) with
  | false => rw [soundK_no h1 n (by omega)] at h; cases h
  | true =>
    rw [soundK, Bool.and_eq_true, List.getElem?_eq_getElem hi] at h1
    exact h1.2
theorem quotaK_at {c : CF} {s : STA} {n : Nat} (h : quotaK c s n = true) (i : Nat) (hin : i < n) : (drK s i s.jn : Int) ≤ c.quota := by
  cases h1 : quotaK c s (i + 1) with
  | false => rw [quotaK_no h1 n (by omega)] at h; cases h
  | true =>
    rw [quotaK, Bool.and_eq_true] at h1
    have := h1.2
    simp at this
    omega
theorem hasB_hi {n : Int} {m i : Nat} (h0 : 0 ≤ n) (h : n < 2 ^ m) (hi : m ≤ i) : hasB n i = false := by
  unfold hasB
  apply Nat.testBit_lt_two_pow
  have h1 : n.toNat < 2 ^ m := by
    have : ((2 ^ m : Nat) : Int) = (2 : Int) ^ m := by simp
    omega
  exact Nat.lt_of_lt_of_le h1 (Nat.pow_le_pow_right (by decide) hi)
theorem soundB_node {s : STA} {x : ND} {i : Nat} (h : soundB s x i = true) : NodR s x ∧ (x.job ≠ 0 → hasAt s x i = true) := by
  unfold soundB at h
  simp only [Bool.and_eq_true] at h
  obtain ⟨h1, h2, h3, h4⟩ := h
  refine ⟨⟨inR_yes h1, inR_yes h2, ?_⟩, ?_⟩
  · intro hm
    rw [hm] at h3
    cases hu : x.up <;> cases hc : x.cordon <;> rw [hu, hc] at h3 <;> simp_all
  · intro hj
    have : (x.job == 0) = false := by simpa using hj
    rw [this] at h4
    simpa using h4
theorem fitK_all {s : STA} {j : JB} {num : Int} (hv : ∀ i (h : i < s.N.length), 1 ≤ s.N[i].version) : ∀ n v, fitK s j num n = some v → (j.pin = 0 ∨ v = j.pin) ∧ ∀ i (h : i < s.N.length), i < n → hasB j.nodes i = true → s.N[i].mine num = true ∧ s.N[i].version = v
  | 0, v, h => by
    rw [fitK] at h
    exact ⟨.inr (by simpa using h.symm), fun i _ hi => by omega⟩
  | k + 1, v, h => by
    rw [fitK] at h
    cases hf : fitK s j num k with
    | none => rw [hf] at h; cases h
    | some u =>
      rw [hf] at h
      obtain ⟨hp, ha⟩ := fitK_all hv k u hf
      by_cases hk : k < s.N.length
      · simp only [List.getElem?_eq_getElem hk] at h
        by_cases hb : hasB j.nodes k = true
        · rw [if_pos hb] at h
          by_cases hm : s.N[k].mine num = true ∧ s.N[k].version = (if u = 0 then s.N[k].version else u)
          · rw [if_pos hm] at h
            have hvk := hv k hk
            by_cases hu : u = 0
            · rw [if_pos hu] at h hm
              have e : s.N[k].version = v := by simpa using h
              refine ⟨?_, fun i hi hin hbi => ?_⟩
              · rcases hp with hp | hp
                · exact .inl hp
                · exact .inl (by omega)
              · by_cases e2 : i = k
                · subst e2; exact ⟨hm.1, e⟩
                · have := (ha i hi (by omega) hbi).2
                  have := hv i hi
                  omega
            · rw [if_neg hu] at h hm
              have e : u = v := by simpa using h
              subst e
              refine ⟨hp, fun i hi hin hbi => ?_⟩
              by_cases e2 : i = k
              · subst e2; exact hm
              · exact ha i hi (by omega) hbi
          · rw [if_neg hm] at h; cases h
        · rw [if_neg hb] at h
          have e : u = v := by simpa using h
          subst e
          refine ⟨hp, fun i hi hin hbi => ?_⟩
          by_cases e2 : i = k
          · subst e2; exact absurd hbi hb
          · exact ha i hi (by omega) hbi
      · rw [List.getElem?_eq_none (by omega)] at h
        have e : u = v := by simpa using h
        subst e
        exact ⟨hp, fun i hi hin hbi => ha i hi (by omega) hbi⟩
theorem askedB_ok {c : CF} {j : JB} (h : askedB c j = true) : j.Asked c := by
  unfold askedB at h
  simp only [Bool.and_eq_true] at h
  exact ⟨inR_yes h.1, inR_yes h.2.1, inR_yes h.2.2.1, inR_yes h.2.2.2.1, inR_yes h.2.2.2.2.1, inR_yes h.2.2.2.2.2⟩
theorem fitsB_fits {s : STA} {j : JB} {num : Int} (hv : ∀ i (h : i < s.N.length), 1 ≤ s.N[i].version) (hnn : s.N.length = s.nn) (hs : 0 ≤ j.nodes ∧ j.nodes < 64) (h : fitsB s j num = true) :
    (∃ V, FitsR s j V) ∧ ∀ i (h : i < s.N.length), hasB j.nodes i = true → s.N[i].mine num = true := by
  unfold fitsB at h
  simp only [Bool.and_eq_true, decide_eq_true_eq] at h
  obtain ⟨h1, h2, h3, h4⟩ := h
  obtain ⟨V, hV⟩ := Option.isSome_iff_exists.1 h4
  obtain ⟨hp, ha⟩ := fitK_all hv _ _ hV
  refine ⟨⟨V, hs.1, hs.2, ?_, ?_, hp⟩, fun i hi hb => (ha i hi (by omega) hb).1⟩
  · rw [cntN_ones hs.1 hs.2]; exact inR_yes h3
  · intro i hi hb
    by_cases hin : i < s.nn
    · exact ⟨by omega, (ha i (by omega) hin hb).2⟩
    · rw [hasB_hi h1 h2 (by omega)] at hb; cases hb
theorem placedB_iff {p : Int} : placedB p = true ↔ 1 ≤ p ∧ p ≤ 3 := by unfold placedB; simp
theorem rightB_rrf {c : CF} {s : STA} {w : World} (hs : s.At w) (h : rightB c s = true) : RRF c s := by
  unfold rightB at h
  simp only [Bool.and_eq_true] at h
  obtain ⟨h1, h2, h3, h4, h5, h6, h7, h8, h9, h10⟩ := h
  have hc := mayB_ok h1
  have hnn : (s.nn : Int) = c.nodes := by simpa using h2
  have hjn : s.jn ≤ 24 := by simpa using h3
  have n6 : s.nn ≤ 6 := by have := hc.nodes; omega
  have hN : ∀ i (h : i < s.N.length), NodR s s.N[i] ∧ (s.N[i].job ≠ 0 → hasAt s s.N[i] i = true) := fun i hi => soundB_node (soundK_at h9 i hi (by have := hs.nn; omega))
  have hv : ∀ i (h : i < s.N.length), 1 ≤ s.N[i].version := fun i hi => (hN i hi).1.version.1
  have hJ : ∀ k (h : k < s.J.length), standsB c s s.J[k] ((k : Int) + 1) = true := fun k hk => standsK_at h8 k hk (by have := hs.jn; omega)
  have hJR : ∀ k (h : k < s.J.length), JobR c s s.J[k] ∧ ∀ i (h : i < s.N.length), hasB s.J[k].nodes i = true → s.N[i].mine ((k : Int) + 1) = true := by
    intro k hk
    have hst := hJ k hk
    have hsm := standsB_small n6 hst
    generalize s.J[k] = j at *
    unfold standsB at hst
    simp only [Bool.and_eq_true] at hst
    obtain ⟨a1, a2, a3, a4, a5, a6, a7⟩ := hst
    have hq : (¬ (1 ≤ j.phase ∧ j.phase ≤ 3) → j.nodes = 0) ∧ ((1 ≤ j.phase ∧ j.phase ≤ 3) → fitsB s j ((k : Int) + 1) = true) := by
      by_cases hp : placedB j.phase = true
      · rw [if_pos hp] at a7
        exact ⟨fun h => absurd (placedB_iff.1 hp) h, fun _ => a7⟩
      · rw [if_neg hp] at a7
        exact ⟨fun _ => by simpa using a7, fun h => absurd (placedB_iff.2 h) hp⟩
    refine ⟨⟨askedB_ok a1, inR_yes a2, inR_yes a3, inR_yes a4, inR_yes a5, inR_yes a6, hsm, hq.1, fun h => (fitsB_fits hv hs.nn hsm (hq.2 h)).1⟩, ?_⟩
    intro i hi hb
    by_cases hp : 1 ≤ j.phase ∧ j.phase ≤ 3
    · exact (fitsB_fits hv hs.nn hsm (hq.2 hp)).2 i hi hb
    · rw [hq.1 hp] at hb
      rw [hasB_hi (m := 0) (by omega) (by decide) (by omega)] at hb; cases hb
  refine ⟨hc, hnn, hjn, inR_yes h4, inR_yes h5, inR_yes h6, inR_yes h7, fun i hi => (hN i hi).1, fun k hk => quotaK_at h10 k (by have := hc.queues; omega), fun k hk => (hJR k hk).1, ?_⟩
  intro k hk i hi
  have hm := (hJR k hk).2 i hi
  have key : hasB s.J[k].nodes i = true → s.N[i].job = (k : Int) + 1 ∧ s.N[i].up = true ∧ s.N[i].moving = false := by
    intro hb
    have := hm hb
    unfold ND.mine at this
    simp only [Bool.and_eq_true, decide_eq_true_eq] at this
    exact ⟨this.2.2, this.1, by simpa using this.2.1⟩
  have key2 : s.N[i].job = (k : Int) + 1 → hasB s.J[k].nodes i = true := by
    intro hj
    have := (hN i hi).2 (by omega)
    unfold hasAt at this
    rw [show (s.N[i].job - 1).toNat = k by omega, List.getElem?_eq_getElem hk] at this
    exact this
  refine ⟨?_, fun hj => (key (key2 hj)).2⟩
  cases hb : hasB s.J[k].nodes i with
  | true => simpa using (key hb).1
  | false =>
    have : ¬ s.N[i].job = (k : Int) + 1 := fun hj => by rw [key2 hj] at hb; cases hb
    simpa using this
end Go.Proofs.Ytilobmefomoemaa

namespace Go.Proofs.Ytilobmefomoemaa
set_option linter.unusedVariables false
set_option linter.unusedSimpArgs false
open Go.RowKit
set_option maxRecDepth 10000 in
set_option maxHeartbeats 6400000 in
theorem ryRight (w : World) (c : CF) (s : STA) (hs : s.At w) (hF : RRF c s) :
    Calls Try.prog 44 #[.agg #[.int .i64 c.nodes, .int .i64 c.queues, .int .i64 c.quota, .int .i64 c.wave, .int .i64 c.lease, .int .i64 c.retry, .int .i64 c.deadline, .int .i64 c.room, .int .i64 c.disk], .agg #[.slice s.na s.nn s.nc, .slice s.ja s.jn s.jc, .int .i64 s.goal, .int .i64 s.prior, .int .i64 s.mode, .int .i64 s.term]] w fun e w' => e = .returned (.bool true) ∧ Below w.heap.size w w' := by
  have S1 : St w _ [cellsT w.heap.size 38 c.cs, cellsT (w.heap.size + 1) 25 s.cs] := ((St.start w).newAt 38 #[.int .i64 c.nodes, .int .i64 c.queues, .int .i64 c.quota, .int .i64 c.wave, .int .i64 c.lease, .int .i64 c.retry, .int .i64 c.deadline, .int .i64 c.room, .int .i64 c.disk] w.heap.size rfl).newAt 25 #[.slice s.na s.nn s.nc, .slice s.ja s.jn s.jc, .int .i64 s.goal, .int .i64 s.prior, .int .i64 s.mode, .int .i64 s.term] (w.heap.size + 1) (alloc_size _ _)
  have HS := hid hs
  have HF := hid hF
  clear hs hF
  go_enter Try.func44, Try.ntmps44
  go_wp2_with fail
  generalize w.heap.size + 1 = g3 at *
  generalize w.heap.size = g2 at *
  generalize (w.alloc _).alloc _ = w1 at *
  refine (ryMay c HF.out.conf _).mono ?_
  rintro e w2 ⟨rfl, hb2⟩
  have S2 := S1.grow hb2
  clear S1 hb2
  obtain ⟨y0, y1, y2, y3, y4, y5⟩ := S2.sC 1 rfl
  obtain ⟨x0, x1, x2, x3, x4, x5, x6, x7, x8⟩ := S2.cfC 0 rfl
  have h6 : s.nn ≤ 6 := by have := HF.out.conf.nodes; have := HF.out.nn; omega
  have g0 : ((s.nn : Int) != c.nodes) = false := by have := HF.out.nn; simpa using this
  have g1 : decide (24 < (s.jn : Int)) = false := decide_eq_false (by have := HF.out.jn; omega)
  have g1n : decide (24 < s.jn) = false := decide_eq_false (by have := HF.out.jn; omega)
  have g2a : decide (s.goal < 1) = false := decide_eq_false (by have := HF.out.goal; omega)
  have g2b : decide (9 < s.goal) = false := decide_eq_false (by have := HF.out.goal; omega)
  have g3a : decide (s.prior < 1) = false := decide_eq_false (by have := HF.out.prior; omega)
  have g3b : decide (9 < s.prior) = false := decide_eq_false (by have := HF.out.prior; omega)
  have g4a : decide (s.mode < 0) = false := decide_eq_false (by have := HF.out.mode; omega)
  have g4b : decide (2 < s.mode) = false := decide_eq_false (by have := HF.out.mode; omega)
  go_wp2_with fail
  refine (ryNumber s.term _ HF.out.term.1 HF.out.term.2).mono ?_
  rintro e wx ⟨rfl, rfl⟩
  clear x0 x1 x2 x3 x4 x5 x6 x7 x8 g0 g1 g1n g2a g2b g3a g3b g4a g4b y0 y1 y2 y3 y4 y5
  have hj24 : s.jn ≤ 24 := HF.out.jn
  go_wp2_with fail
  go_loopw [5, 6] (fun i z wr => ∃ (k : Nat) (x : Value), k ≤ s.nn ∧ i = .int .i64 k ∧ z = x ∧ St w wr [cellsT g2 38 c.cs, cellsT g3 25 s.cs]) (fun i _ _ => s.nn - (intOf i).toNat)
  case atStart => exact ⟨0, _, Nat.zero_le _, rfl, rfl, S2⟩
  case round =>
    obtain ⟨k, x, hk, rfl, rfl, Sk⟩ := hrel
    clear S2
    obtain ⟨y0, y1, y2, y3, y4, y5⟩ := Sk.sC 1 rfl
    by_cases hlt : k < s.nn
    case pos =>
      have g0 : decide ((k : Int) < (s.nn : Int)) = true := decide_eq_true (by omega)
      have g0n : decide (k < s.nn) = true := decide_eq_true (by omega)
      have hkl : k < s.N.length := by rw [HS.out.nn]; exact hlt
      have i0 := fun wx => idxND s.na s.nn s.nc (fun h => HS.out.n.ok (by rw [HS.out.nn]; exact h)) k hlt wx
      obtain ⟨j0, j1, j2, j3, j4⟩ := (HS.out.n.all eNDok Sk.fin).ndAt hkl
      obtain ⟨r1, r2, r3⟩ := HF.out.node k hkl
      generalize s.N[k] = nd at *
      generalize adr s.na (k * 5) = A at *
      have b1 : decide (nd.version < 1) = false := decide_eq_false (by omega)
      have b2 : decide (9 < nd.version) = false := decide_eq_false (by omega)
      have b3 : decide (nd.job < 0) = false := decide_eq_false (by omega)
      have b4 : decide ((s.jn : Int) < nd.job) = false := decide_eq_false (by omega)
      have Sj := Sk.alloc (.cells #[.bool nd.up, .bool nd.cordon, .bool nd.moving, .int .i64 nd.version, .int .i64 nd.job] 73)
      obtain ⟨v0, v1, v2, v3, v4, v5⟩ := Sj.sC 1 rfl
      cases hm : nd.moving
      · rw [hm] at j2 Sj v0 v1 v2 v3 v4 v5
        clear hm r3
        go_wp2
        go_roundw
        case rel => exact ⟨k + 1, _, by omega, by go_num, rfl, Sj⟩
        case measure => simp [intOf]; omega
      · obtain ⟨q1, q2, q3⟩ := r3 hm
        have b5 : (nd.job == 0) = true := by simpa using q3
        rw [hm, q1, q2] at Sj v0 v1 v2 v3 v4 v5
        rw [hm] at j2
        rw [q1] at j0
        rw [q2] at j1
        clear hm r3 q1 q2 q3
        go_wp2
        go_roundw
        case rel => exact ⟨k + 1, _, by omega, by go_num, rfl, Sj⟩
        case measure => simp [intOf]; omega
    have g0 : decide ((k : Int) < (s.nn : Int)) = false := decide_eq_false (by omega)
    have g0n : decide (k < s.nn) = false := decide_eq_false (by omega)
    clear hlt hk
    go_wp2_with fail
    clear y0 y1 y2 y3 y4 y5
    have S2 := Sk
    clear Sk
    obtain ⟨n, hn⟩ : ∃ n : Nat, c.queues = n := ⟨c.queues.toNat, by have := HF.out.conf.queues; omega⟩
    go_loopw [7] (fun i wr => ∃ k : Nat, (k : Int) ≤ c.queues ∧ i = .int .i64 k ∧ St w wr [cellsT g2 38 c.cs, cellsT g3 25 s.cs]) (fun i _ => n - (intOf i).toNat)
    case atStart => exact ⟨0, by have := HF.out.conf.queues; omega, rfl, S2⟩
    case round =>
      obtain ⟨k, hk, rfl, Sk⟩ := hrel
      clear S2
      have hq3 : c.queues ≤ 3 := HF.out.conf.queues.2
      have HN := hid hn
      clear hn
      obtain ⟨x0, x1, x2, x3, x4, x5, x6, x7, x8⟩ := Sk.cfC 0 rfl
      by_cases hlt : (k : Int) < c.queues
      case pos =>
        have g0 : decide ((k : Int) < c.queues) = true := decide_eq_true (by omega)
        have keep : ∀ {w' : World}, St w w' [cellsT g2 38 c.cs, cellsT g3 25 s.cs] → (w'.cell? ⟨g3, 0, none⟩ = some (.slice s.na s.nn s.nc) ∧ w'.cell? ⟨g3, 1, none⟩ = some (.slice s.ja s.jn s.jc) ∧ w'.cell? ⟨g3, 2, none⟩ = some (.int .i64 s.goal) ∧ w'.cell? ⟨g3, 3, none⟩ = some (.int .i64 s.prior) ∧ w'.cell? ⟨g3, 4, none⟩ = some (.int .i64 s.mode) ∧ w'.cell? ⟨g3, 5, none⟩ = some (.int .i64 s.term) ∧ w'.cell? ⟨g2, 2, none⟩ = some (.int .i64 c.quota)) := fun S => ⟨S.cell 1 rfl 0 rfl, S.cell 1 rfl 1 rfl, S.cell 1 rfl 2 rfl, S.cell 1 rfl 3 rfl, S.cell 1 rfl 4 rfl, S.cell 1 rfl 5 rfl, S.cell 0 rfl 2 rfl⟩
        have hqq : decide (c.quota < (drK s k s.jn : Int)) = false := decide_eq_false (by have := HF.out.quota k hlt; omega)
        go_wp2_with fail
        refine wp_region_held_drew (S := (fun w' => (w'.cell? ⟨g3, 0, none⟩ = some (.slice s.na s.nn s.nc) ∧ w'.cell? ⟨g3, 1, none⟩ = some (.slice s.ja s.jn s.jc) ∧ w'.cell? ⟨g3, 2, none⟩ = some (.int .i64 s.goal) ∧ w'.cell? ⟨g3, 3, none⟩ = some (.int .i64 s.prior) ∧ w'.cell? ⟨g3, 4, none⟩ = some (.int .i64 s.mode) ∧ w'.cell? ⟨g3, 5, none⟩ = some (.int .i64 s.term) ∧ w'.cell? ⟨g2, 2, none⟩ = some (.int .i64 c.quota)))) (by kernel_rfl) (by exact keep Sk.drew) (fun hHeld => ?_)
        change wpAnyH _ _ _ _ _ 6 (Array.replicate 6 false) _ _
        refine wpAnyH_take (i := 0) (v := ?v21) (ops_at rfl) (by kernel_rfl) (by kernel_rfl) (by kernel_rfl) (fun _ _ _ h => h) (Or.inl ⟨by rfl, ?hy21⟩) (by assumption) ?rest21
        case hy21 => intro w' hSw; (try dsimp only at hSw); go_simp; try with_reducible rfl
        try simp only [Act.put, List.setIfInBounds_toArray, List.set_cons_zero, List.set_cons_succ]
        refine wpAnyH_take (i := 1) (v := ?v22) (ops_at rfl) (by kernel_rfl) (by kernel_rfl) (by kernel_rfl) (fun _ _ _ h => h) (Or.inl ⟨by rfl, ?hy22⟩) (by assumption) ?rest22
        case hy22 => intro w' hSw; (try dsimp only at hSw); go_simp; try with_reducible rfl
        try simp only [Act.put, List.setIfInBounds_toArray, List.set_cons_zero, List.set_cons_succ]
        refine wpAnyH_take (i := 3) (v := ?v23) (ops_at rfl) (by kernel_rfl) (by kernel_rfl) (by kernel_rfl) (fun _ _ _ h => h) (Or.inl ⟨by rfl, ?hy23⟩) (by assumption) ?rest23
        case hy23 => intro w' hSw; (try dsimp only at hSw); go_simp; try with_reducible rfl
        try simp only [Act.put, List.setIfInBounds_toArray, List.set_cons_zero, List.set_cons_succ]
        refine wpAnyH_take (i := 4) (v := ?v24) (ops_at rfl) (by kernel_rfl) (by kernel_rfl) (by kernel_rfl) (fun _ _ _ h => h) (Or.inl ⟨by rfl, ?hy24⟩) (by assumption) ?rest24
        case hy24 => intro w' hSw; (try dsimp only at hSw); go_simp; try with_reducible rfl
        try simp only [Act.put, List.setIfInBounds_toArray, List.set_cons_zero, List.set_cons_succ]
        refine wpAnyH_ready (rs := [2]) (by kernel_rfl) (by simp) ?_
        refine AllReadyH.cons (ops_at rfl) (fun K hK => ?_) AllReadyH.nil
        go_simp
        refine (ryDrains _ s (k : Int) (HS.out.all Sk.drew.fin) (by omega)).mono ?_
        rintro e w3 ⟨rfl, hb3⟩
        have S2 := Sk.drew.grow hb3
        refine hK.out _ _ (by exact keep S2) (fun hHeld => ?_)
        clear hK K
        try simp only [Act.put, List.setIfInBounds_toArray, List.set_cons_zero, List.set_cons_succ]
        refine wpAnyH_take (i := 5) (v := ?v26) (ops_at rfl) (by kernel_rfl) (by kernel_rfl) (by kernel_rfl) (fun _ _ _ h => h) (Or.inl ⟨by rfl, ?hy26⟩) (by assumption) ?rest26
        case hy26 => intro w' hSw; (try dsimp only at hSw); go_simp; try with_reducible rfl
        try simp only [Act.put, List.setIfInBounds_toArray, List.set_cons_zero, List.set_cons_succ]
        refine wpAnyH_done (by kernel_rfl) ?_ _
        clear keep hb3 Sk
        go_wp2
        go_roundw
        case rel => exact ⟨k + 1, by omega, by go_num, S2⟩
        case measure => simp [intOf]; have := HN.out; omega
      have g0 : decide ((k : Int) < c.queues) = false := decide_eq_false (by omega)
      clear hlt hk HN
      go_wp2_with fail
      clear x0 x1 x2 x3 x4 x5 x6 x7 x8
      have S2 := Sk
      clear Sk
      go_loopw [8, 9, 10, 11] (fun i z1 z2 z3 wr => ∃ (k : Nat) (x1 x2 x3 : Value), k ≤ s.jn ∧ i = .int .i64 k ∧ z1 = x1 ∧ z2 = x2 ∧ z3 = x3 ∧ St w wr [cellsT g2 38 c.cs, cellsT g3 25 s.cs]) (fun i _ _ _ _ => s.jn - (intOf i).toNat)
      case atStart => exact ⟨0, _, _, _, Nat.zero_le _, rfl, rfl, rfl, rfl, S2⟩
      case round =>
        obtain ⟨k, x1, x2, x3, hk, rfl, rfl, rfl, rfl, Sk⟩ := hrel
        clear S2
        obtain ⟨y0, y1, y2, y3, y4, y5⟩ := Sk.sC 1 rfl
        by_cases hlt : k < s.jn
        case neg =>
          have g0 : decide ((k : Int) < (s.jn : Int)) = false := decide_eq_false (by omega)
          have g0n : decide (k < s.jn) = false := decide_eq_false (by omega)
          clear hlt hk
          go_wp2
          go_ret
          exact ⟨rfl, Sk.fin⟩
        have g0 : decide ((k : Int) < (s.jn : Int)) = true := decide_eq_true (by omega)
        have g0n : decide (k < s.jn) = true := decide_eq_true (by omega)
        have hkl : k < s.J.length := by rw [HS.out.jn]; exact hlt
        have i0 := fun wx => idxJB s.ja s.jn s.jc (fun h => HS.out.j.ok (by rw [HS.out.jn]; exact h)) k k rfl hlt wx
        have HR := hid (HF.out.job k hkl)
        have HO := hid (HF.out.own k hkl)
        obtain ⟨j0, j1, j2, j3, j4, j5, j6, j7, j8, j9, j10, j11⟩ := (HS.out.j.all eJBok Sk.fin).jbAt hkl
        generalize s.J[k] = j at *
        generalize adr s.ja (k * 12) = A at *
        have S3 : St w _ [cellsT g2 38 c.cs, cellsT g3 25 s.cs, cellsT wr.heap.size 52 j.cs] := Sk.newAt 52 #[.int .i64 j.queue, .int .i64 j.prio, .int .i64 j.lo, .int .i64 j.hi, .int .i64 j.work, .int .i64 j.pin, .int .i64 j.phase, .int .i64 j.inc, .int .i64 j.nodes, .int .i64 j.since, .int .i64 j.until_, .int .i64 j.epoch] wr.heap.size rfl
        obtain ⟨v0, v1, v2, v3, v4, v5⟩ := S3.sC 1 rfl
        obtain ⟨u0, u1, u2, u3, u4, u5, u6, u7, u8⟩ := S3.cfC 0 rfl
        go_wp2_with fail
        generalize wr.heap.size = g4 at *
        generalize wr.alloc _ = w3 at *
        clear j0 j1 j2 j3 j4 j5 j6 j7 j8 j9 j10 j11 y0 y1 y2 y3 y4 y5 u0 u1 u2 u3 u4 u5 u6 u7 u8 v0 v1 v2 v3 v4 v5 i0 Sk
        refine (ryAsked c j HR.out.asked _).mono ?_
        rintro e w4 ⟨rfl, hb4⟩
        have S4 := S3.grow hb4
        clear S3 hb4
        obtain ⟨j0, j1, j2, j3, j4, j5, j6, j7, j8, j9, j10, j11⟩ := S4.jbC 2 rfl
        have b1 : decide (j.phase < 0) = false := decide_eq_false (by have := HR.out.phase; omega)
        have b2 : decide (4 < j.phase) = false := decide_eq_false (by have := HR.out.phase; omega)
        have b3 : decide (j.epoch < 0) = false := decide_eq_false (by have := HR.out.epoch; omega)
        have b4 : decide (j.inc < j.epoch) = false := decide_eq_false (by have := HR.out.epoch; omega)
        go_wp2_with fail
        refine (ryNumber j.inc _ HR.out.inc.1 HR.out.inc.2).mono ?_
        rintro e wx ⟨rfl, rfl⟩
        go_wp2_with fail
        refine (ryNumber j.since _ HR.out.since.1 HR.out.since.2).mono ?_
        rintro e wx ⟨rfl, rfl⟩
        go_wp2_with fail
        refine (ryNumber j.until_ _ HR.out.until_.1 HR.out.until_.2).mono ?_
        rintro e wx ⟨rfl, rfl⟩
        obtain ⟨pb, hpb⟩ : ∃ pb, (decide (1 ≤ j.phase) && decide (j.phase ≤ 3)) = pb := ⟨_, rfl⟩
        have HPB := hid hpb
        clear hpb
        go_upto_region 20 with fail
        go_cut [191] from 128 to 190 (fun s191 wc => s191 = .bool pb ∧ wc = w4)
        case first =>
          cases c1 : decide (1 ≤ j.phase)
          · go_wp2_with fail
            go_meet
            exact ⟨by rw [← HPB.out, c1]; rfl, rfl⟩
          · go_wp2_with fail
            go_meet
            exact ⟨by rw [← HPB.out, c1]; rfl, rfl⟩
        case rest =>
        obtain ⟨rfl, rfl⟩ := hcut
        go_upto_if 191 with fail
        go_cut [] from 128 to 200 (fun wc => St w wc [cellsT g2 38 c.cs, cellsT g3 25 s.cs, cellsT g4 52 j.cs])
        case first =>
          cases pb
          · have HZ : j.nodes = 0 := HR.out.rest (fun hp => by have := HPB.out; rw [decide_eq_true hp.1, decide_eq_true hp.2] at this; cases this)
            have c0 : (j.nodes != 0) = false := by rw [HZ]; rfl
            clear HZ
            go_wp2_with fail
            go_meet
            exact S4
          · obtain ⟨V, hV⟩ := HR.out.put (by have := HPB.out; simpa using this)
            have HV := hid hV
            clear hV
            obtain ⟨y0, y1, y2, y3, y4, y5⟩ := S4.sC 1 rfl
            go_wp2_with fail
            refine (ryFits _ s j V (HS.out.all S4.fin) HV.out h6).mono ?_
            rintro e w5 ⟨rfl, hb5⟩
            have S5 := S4.grow hb5
            go_wp2_with fail
            go_meet
            exact S5
        case rest =>
        have S5 := hcut
        clear hcut S4 j0 j1 j2 j3 j4 j5 j6 j7 j8 j9 j10 j11 b1 b2 b3 b4
        go_wp2_with fail
        go_loopw [10, 11] (fun i z wr => ∃ (m : Nat) (x : Value), m ≤ s.nn ∧ i = .int .i64 m ∧ z = x ∧ St w wr [cellsT g2 38 c.cs, cellsT g3 25 s.cs, cellsT g4 52 j.cs]) (fun i _ _ => s.nn - (intOf i).toNat)
        case atStart => exact ⟨0, _, Nat.zero_le _, rfl, rfl, S5⟩
        case round =>
          obtain ⟨m, x, hm, rfl, rfl, Sm⟩ := hrel
          clear S5
          obtain ⟨y0, y1, y2, y3, y4, y5⟩ := Sm.sC 1 rfl
          by_cases hmt : m < s.nn
          case neg =>
            have g1 : decide ((m : Int) < (s.nn : Int)) = false := decide_eq_false (by omega)
            have g1n : decide (m < s.nn) = false := decide_eq_false (by omega)
            clear hmt hm
            go_wp2
            go_roundw
            case rel => exact ⟨k + 1, _, _, _, by omega, by go_num, rfl, rfl, rfl, Sm.take 2⟩
            case measure => simp [intOf]; omega
          have g1 : decide ((m : Int) < (s.nn : Int)) = true := decide_eq_true (by omega)
          have g1n : decide (m < s.nn) = true := decide_eq_true (by omega)
          have hml : m < s.N.length := by rw [HS.out.nn]; exact hmt
          have i0 := fun wx => idxND s.na s.nn s.nc (fun h => HS.out.n.ok (by rw [HS.out.nn]; exact h)) m hmt wx
          obtain ⟨d0, d1, d2, d3, d4⟩ := (HS.out.n.all eNDok Sm.fin).ndAt hml
          obtain ⟨o1, o2⟩ := HO.out m hml
          generalize s.N[m] = nd at *
          generalize adr s.na (m * 5) = B at *
          have j8 := Sm.cell 2 rfl 8 rfl
          have O1 := hid o1
          clear o1
          cases ob : (nd.job == (k : Int) + 1)
          · have O2 : Hid (hasB j.nodes m = false) := by rw [Hid, ← O1.out, ob]
            clear O1 o2
            go_wp2_with fail
            refine (ryHas j.nodes m _ HR.out.small.1 HR.out.small.2 (by omega)).mono ?_
            rintro e wx ⟨rfl, rfl⟩
            rw [O2.out]
            go_wp2
            go_roundw
            case rel => exact ⟨m + 1, _, by omega, by go_num, rfl, Sm⟩
            case measure => simp [intOf]; omega
          · obtain ⟨u1, u2⟩ := o2 (by simpa using ob)
            have O2 : Hid (hasB j.nodes m = true) := by rw [Hid, ← O1.out, ob]
            rw [u1] at d0
            rw [u2] at d2
            clear O1 o2 u1 u2
            go_wp2_with fail
            refine (ryHas j.nodes m _ HR.out.small.1 HR.out.small.2 (by omega)).mono ?_
            rintro e wx ⟨rfl, rfl⟩
            rw [O2.out]
            go_wp2
            go_roundw
            case rel => exact ⟨m + 1, _, by omega, by go_num, rfl, Sm⟩
            case measure => simp [intOf]; omega
end Go.Proofs.Ytilobmefomoemaa
