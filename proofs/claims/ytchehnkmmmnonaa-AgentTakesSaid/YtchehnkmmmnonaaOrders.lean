/- The agent: how orders to rest, take, work and turn are taken. The agent: how orders to take and to save are taken. The agent: how an order to save is taken. -/
import Derived.Test.YtchehnkmmmnonaaAgents
import Derived.Test.YtchehnkmmmnonaaStoreOpt
namespace Go.Proofs.Ytchehnkmmmnonaa
set_option linter.unusedVariables false
set_option linter.unusedSimpArgs false
open Go.RowKit
section
variable {w0 w : World} {tl : List Thing} {g : Nat} {a : AG}
theorem agOut (b : AG) : b.v = .agg b.cs.toArray := rfl
set_option maxRecDepth 10000 in
set_option maxHeartbeats 1600000 in
theorem ordRest (S : St w0 w (cellsT g 23 a.cs :: tl)) (m : Msg) (now : Int) (sv : Value) :
    Calls Try.prog 31 #[.agg #[.pointer (some ⟨g, 0, none⟩), .int .i64 m.node, .int .i64 m.kind, .int .i64 m.term, .int .i64 m.gen, .int .i64 m.job, .int .i64 m.inc, .int .i64 m.version, .int .i64 m.epoch, .int .i64 m.until_, .int .i64 m.mode, .int .i64 m.work, .int .i64 now, sv]] w fun e w' => e = .returned (.tuple #[]) ∧ St w0 w' (cellsT g 23 (oRest a).cs :: tl) := by
  have S1 := ordSt S m now sv
  obtain ⟨x0, x1, x2, x3, x4, x5, x6, x7, x8, x9⟩ := agCells S1
  by_cases h4 : a.mode = 4
  · have HE : Hid (oRest a = a) := by rw [Hid]; unfold oRest; rw [if_pos h4]
    have g4 : (a.mode != 4) = false := by simpa using h4
    clear h4
    go_enter Try.func31, Try.ntmps31
    go_wp2
    go_end0
    rw [HE.out]
    exact ⟨rfl, ordDrop S1⟩
  have HE : Hid (oRest a = aLoose a) := by rw [Hid]; unfold oRest; rw [if_neg h4]
  have g4 : (a.mode != 4) = true := by simpa using h4
  clear h4
  go_enter Try.func31, Try.ntmps31
  go_wp2_with fail
  refine wp_region_heldZ (S := (fun w' => (w'.cell? ⟨w.heap.size, 0, none⟩ = some (.pointer (some ⟨g, 0, none⟩)) ∧ w'.cell? ⟨w.heap.size, 1, none⟩ = some (.int .i64 m.node) ∧ w'.cell? ⟨w.heap.size, 2, none⟩ = some (.int .i64 m.kind) ∧ w'.cell? ⟨w.heap.size, 3, none⟩ = some (.int .i64 m.term) ∧ w'.cell? ⟨w.heap.size, 4, none⟩ = some (.int .i64 m.gen) ∧ w'.cell? ⟨w.heap.size, 5, none⟩ = some (.int .i64 m.job) ∧ w'.cell? ⟨w.heap.size, 6, none⟩ = some (.int .i64 m.inc) ∧ w'.cell? ⟨w.heap.size, 7, none⟩ = some (.int .i64 m.version) ∧ w'.cell? ⟨w.heap.size, 8, none⟩ = some (.int .i64 m.epoch) ∧ w'.cell? ⟨w.heap.size, 9, none⟩ = some (.int .i64 m.until_) ∧ w'.cell? ⟨w.heap.size, 10, none⟩ = some (.int .i64 m.mode) ∧ w'.cell? ⟨w.heap.size, 11, none⟩ = some (.int .i64 m.work) ∧ w'.cell? ⟨w.heap.size, 12, none⟩ = some (.int .i64 now) ∧ w'.cell? ⟨w.heap.size, 13, none⟩ = some sv) ∧ (w'.cell? ⟨g, 0, none⟩ = some (.bool a.up) ∧ w'.cell? ⟨g, 1, none⟩ = some (.int .i64 a.term) ∧ w'.cell? ⟨g, 2, none⟩ = some (.int .i64 a.gen) ∧ w'.cell? ⟨g, 3, none⟩ = some (.int .i64 a.mode) ∧ w'.cell? ⟨g, 4, none⟩ = some (.int .i64 a.job) ∧ w'.cell? ⟨g, 5, none⟩ = some (.int .i64 a.inc) ∧ w'.cell? ⟨g, 6, none⟩ = some (.int .i64 a.version) ∧ w'.cell? ⟨g, 7, none⟩ = some (.int .i64 a.lease) ∧ w'.cell? ⟨g, 8, none⟩ = some (.int .i64 a.worked) ∧ w'.cell? ⟨g, 9, none⟩ = some (.int .i64 a.to_)))) 8 (by kernel_rfl) (by exact ⟨ordCells S1.drew, agCells S1.drew⟩) (fun hHeld => ?_)
  change wpAnyZ _ _ _ _ _ 8 9 (Array.replicate 9 false) _ _
  refine wpAnyZ_take (i := 0) (v := ?v1) (ops_at rfl) (by kernel_rfl) (by kernel_rfl) (by kernel_rfl) (by kernel_rfl) [8] (by kernel_rfl) (by rfl) (fun _ _ _ h => h) (Or.inl ⟨by rfl, ?hy1⟩) (by assumption) ?rest1
  case hy1 => intro w' hSw; (try dsimp only at hSw); go_simp; try with_reducible rfl
  try simp only [Act.put, List.setIfInBounds_toArray, List.set_cons_zero, List.set_cons_succ]
  refine wpAnyZ_take (i := 1) (v := ?v2) (ops_at rfl) (by kernel_rfl) (by kernel_rfl) (by kernel_rfl) (by kernel_rfl) [8] (by kernel_rfl) (by rfl) (fun _ _ _ h => h) (Or.inl ⟨by rfl, ?hy2⟩) (by assumption) ?rest2
  case hy2 => intro w' hSw; (try dsimp only at hSw); go_simp; try with_reducible rfl
  try simp only [Act.put, List.setIfInBounds_toArray, List.set_cons_zero, List.set_cons_succ]
  refine wpAnyZ_take (i := 2) (v := ?v3) (ops_at rfl) (by kernel_rfl) (by kernel_rfl) (by kernel_rfl) (by kernel_rfl) [8] (by kernel_rfl) (by rfl) (fun _ _ _ h => h) (Or.inl ⟨by rfl, ?hy3⟩) (by assumption) ?rest3
  case hy3 => intro w' hSw; (try dsimp only at hSw); go_simp; try with_reducible rfl
  try simp only [Act.put, List.setIfInBounds_toArray, List.set_cons_zero, List.set_cons_succ]
  refine wpAnyZ_take (i := 3) (v := ?v4) (ops_at rfl) (by kernel_rfl) (by kernel_rfl) (by kernel_rfl) (by kernel_rfl) [8] (by kernel_rfl) (by rfl) (fun _ _ _ h => h) (Or.inl ⟨by rfl, ?hy4⟩) (by assumption) ?rest4
  case hy4 => intro w' hSw; (try dsimp only at hSw); go_simp; try with_reducible rfl
  try simp only [Act.put, List.setIfInBounds_toArray, List.set_cons_zero, List.set_cons_succ]
  refine wpAnyZ_take (i := 4) (v := ?v5) (ops_at rfl) (by kernel_rfl) (by kernel_rfl) (by kernel_rfl) (by kernel_rfl) [8] (by kernel_rfl) (by rfl) (fun _ _ _ h => h) (Or.inl ⟨by rfl, ?hy5⟩) (by assumption) ?rest5
  case hy5 => intro w' hSw; (try dsimp only at hSw); go_simp; try with_reducible rfl
  try simp only [Act.put, List.setIfInBounds_toArray, List.set_cons_zero, List.set_cons_succ]
  refine wpAnyZ_take (i := 5) (v := ?v6) (ops_at rfl) (by kernel_rfl) (by kernel_rfl) (by kernel_rfl) (by kernel_rfl) [8] (by kernel_rfl) (by rfl) (fun _ _ _ h => h) (Or.inl ⟨by rfl, ?hy6⟩) (by assumption) ?rest6
  case hy6 => intro w' hSw; (try dsimp only at hSw); go_simp; try with_reducible rfl
  try simp only [Act.put, List.setIfInBounds_toArray, List.set_cons_zero, List.set_cons_succ]
  refine wpAnyZ_one (i := 6) (by kernel_rfl) (ops_at rfl) (fun K hK => ?_)
  go_simp
  refine (agLoose a _).mono ?_
  rintro e w1 ⟨rfl, hb1⟩
  have S2 := S1.drew.grow hb1
  rw [agOut]
  generalize aLoose a = b at *
  have hst := agStore _ _ a b (S2.heap 0 rfl)
  have S3 := ordDrop (a := b) (S2.setRow 0 rfl b.cs.toArray)
  refine hK.out _ _ (by exact ⟨ordCells S2, agCells S2⟩) (fun hHeld => ?_)
  clear hK K
  try simp only [Act.put, List.setIfInBounds_toArray, List.set_cons_zero, List.set_cons_succ]
  refine wpAnyZ_take (i := 7) (v := ?v7) (ops_at rfl) (by kernel_rfl) (by kernel_rfl) (by kernel_rfl) (by kernel_rfl) [8] (by kernel_rfl) (by rfl) (fun _ _ _ h => h) (Or.inl ⟨by rfl, ?hy7⟩) (by assumption) ?rest7
  case hy7 => intro w' hSw; (try dsimp only at hSw); go_simp; try with_reducible rfl
  try simp only [Act.put, List.setIfInBounds_toArray, List.set_cons_zero, List.set_cons_succ]
  refine wpAnyZ_free (i := 8) (by kernel_rfl) (ops_at rfl) (by kernel_rfl) (fun K hK => ?_)
  go_simp
  refine hK.out _ _ ?_
  clear hK K
  try simp only [Act.put, List.setIfInBounds_toArray, List.set_cons_zero, List.set_cons_succ]
  refine wpAnyZ_done (by kernel_rfl) ?_ _
  clear hst
  go_wp2
  go_end0
  rw [HE.out]
  exact ⟨rfl, S3⟩
set_option maxRecDepth 10000 in
set_option maxHeartbeats 1600000 in
theorem ordTurn (S : St w0 w (cellsT g 23 a.cs :: tl)) (m : Msg) (now : Int) (sv : Value) :
    Calls Try.prog 40 #[.agg #[.pointer (some ⟨g, 0, none⟩), .int .i64 m.node, .int .i64 m.kind, .int .i64 m.term, .int .i64 m.gen, .int .i64 m.job, .int .i64 m.inc, .int .i64 m.version, .int .i64 m.epoch, .int .i64 m.until_, .int .i64 m.mode, .int .i64 m.work, .int .i64 now, sv]] w fun e w' => e = .returned (.tuple #[]) ∧ St w0 w' (cellsT g 23 (oTurn a m).cs :: tl) := by
  have S1 := ordSt S m now sv
  obtain ⟨x0, x1, x2, x3, x4, x5, x6, x7, x8, x9⟩ := agCells S1
  by_cases h4 : a.mode = 0 ∧ 1 ≤ m.version ∧ m.version ≤ 9
  case neg =>
    have HE : Hid (oTurn a m = a) := by rw [Hid]; unfold oTurn; rw [if_neg h4]
    by_cases h0 : a.mode = 0
    · have g0 : (a.mode == 0) = true := by simpa using h0
      have h5 : m.version < 1 ∨ 9 < m.version := by omega
      clear h4 h0
      rcases h5 with h5 | h5
      · have g1 : decide (1 ≤ m.version) = false := decide_eq_false (by omega)
        clear h5
        go_enter Try.func40, Try.ntmps40
        go_wp2
        go_end0
        rw [HE.out]
        exact ⟨rfl, ordDrop S1⟩
      · have g1 : decide (1 ≤ m.version) = true := decide_eq_true (by omega)
        have g2 : decide (m.version ≤ 9) = false := decide_eq_false (by omega)
        clear h5
        go_enter Try.func40, Try.ntmps40
        go_wp2
        go_end0
        rw [HE.out]
        exact ⟨rfl, ordDrop S1⟩
    · have g0 : (a.mode == 0) = false := by simpa using h0
      clear h4 h0
      go_enter Try.func40, Try.ntmps40
      go_wp2
      go_end0
      rw [HE.out]
      exact ⟨rfl, ordDrop S1⟩
  have HE : Hid (oTurn a m = { a with mode := 4, to_ := m.version }) := by rw [Hid]; unfold oTurn; rw [if_pos h4]
  have g0 : (a.mode == 0) = true := by simpa using h4.1
  have g1 : decide (1 ≤ m.version) = true := decide_eq_true h4.2.1
  have g2 : decide (m.version ≤ 9) = true := decide_eq_true h4.2.2
  clear h4
  go_enter Try.func40, Try.ntmps40
  go_wp2_with fail
  obtain ⟨f3, f4, f5, f7, f8, f9⟩ := agFree S1
  have S2 : St w0 _ (cellsT g 23 ({ a with mode := 4 } : AG).cs :: (tl ++ [cellsT w.heap.size 70 (#[.pointer (some ⟨g, 0, none⟩), .int .i64 m.node, .int .i64 m.kind, .int .i64 m.term, .int .i64 m.gen, .int .i64 m.job, .int .i64 m.inc, .int .i64 m.version, .int .i64 m.epoch, .int .i64 m.until_, .int .i64 m.mode, .int .i64 m.work, .int .i64 now, sv] : Array Value).toList])) := S1.setCell 0 rfl 3 (.int .i64 4)
  obtain ⟨k3, k4, k5, k7, k8, k9⟩ := agFree S2
  have S3 := hid (ordDrop (a := { a with mode := 4, to_ := m.version }) (S2.setCell 0 rfl 9 (.int .i64 m.version)).drew)
  refine wp_region_held_drew (S := (fun w' => (w'.cell? ⟨w.heap.size, 0, none⟩ = some (.pointer (some ⟨g, 0, none⟩)) ∧ w'.cell? ⟨w.heap.size, 1, none⟩ = some (.int .i64 m.node) ∧ w'.cell? ⟨w.heap.size, 2, none⟩ = some (.int .i64 m.kind) ∧ w'.cell? ⟨w.heap.size, 3, none⟩ = some (.int .i64 m.term) ∧ w'.cell? ⟨w.heap.size, 4, none⟩ = some (.int .i64 m.gen) ∧ w'.cell? ⟨w.heap.size, 5, none⟩ = some (.int .i64 m.job) ∧ w'.cell? ⟨w.heap.size, 6, none⟩ = some (.int .i64 m.inc) ∧ w'.cell? ⟨w.heap.size, 7, none⟩ = some (.int .i64 m.version) ∧ w'.cell? ⟨w.heap.size, 8, none⟩ = some (.int .i64 m.epoch) ∧ w'.cell? ⟨w.heap.size, 9, none⟩ = some (.int .i64 m.until_) ∧ w'.cell? ⟨w.heap.size, 10, none⟩ = some (.int .i64 m.mode) ∧ w'.cell? ⟨w.heap.size, 11, none⟩ = some (.int .i64 m.work) ∧ w'.cell? ⟨w.heap.size, 12, none⟩ = some (.int .i64 now) ∧ w'.cell? ⟨w.heap.size, 13, none⟩ = some sv))) (by kernel_rfl) (by exact ordCells S1.drew) (fun hHeld => ?_)
  change wpAnyH _ _ _ _ _ 13 (Array.replicate 13 false) _ _
  refine wpAnyH_take (i := 0) (v := ?v8) (ops_at rfl) (by kernel_rfl) (by kernel_rfl) (by kernel_rfl) (fun _ _ _ h => h) (Or.inl ⟨by rfl, ?hy8⟩) (by assumption) ?rest8
  case hy8 => intro w' hSw; (try dsimp only at hSw); go_simp; try with_reducible rfl
  try simp only [Act.put, List.setIfInBounds_toArray, List.set_cons_zero, List.set_cons_succ]
  refine wpAnyH_take (i := 1) (v := ?v9) (ops_at rfl) (by kernel_rfl) (by kernel_rfl) (by kernel_rfl) (fun _ _ _ h => h) (Or.inl ⟨by rfl, ?hy9⟩) (by assumption) ?rest9
  case hy9 => intro w' hSw; (try dsimp only at hSw); go_simp; try with_reducible rfl
  try simp only [Act.put, List.setIfInBounds_toArray, List.set_cons_zero, List.set_cons_succ]
  refine wpAnyH_take (i := 2) (v := ?v10) (ops_at rfl) (by kernel_rfl) (by kernel_rfl) (by kernel_rfl) (fun _ _ _ h => h) (Or.inl ⟨by rfl, ?hy10⟩) (by assumption) ?rest10
  case hy10 => intro w' hSw; (try dsimp only at hSw); go_simp; try with_reducible rfl
  try simp only [Act.put, List.setIfInBounds_toArray, List.set_cons_zero, List.set_cons_succ]
  refine wpAnyH_take (i := 3) (v := ?v11) (ops_at rfl) (by kernel_rfl) (by kernel_rfl) (by kernel_rfl) (fun _ _ _ h => h) (Or.inl ⟨by rfl, ?hy11⟩) (by assumption) ?rest11
  case hy11 => intro w' hSw; (try dsimp only at hSw); go_simp; try with_reducible rfl
  try simp only [Act.put, List.setIfInBounds_toArray, List.set_cons_zero, List.set_cons_succ]
  refine wpAnyH_take (i := 4) (v := ?v12) (ops_at rfl) (by kernel_rfl) (by kernel_rfl) (by kernel_rfl) (fun _ _ _ h => h) (Or.inl ⟨by rfl, ?hy12⟩) (by assumption) ?rest12
  case hy12 => intro w' hSw; (try dsimp only at hSw); go_simp; try with_reducible rfl
  try simp only [Act.put, List.setIfInBounds_toArray, List.set_cons_zero, List.set_cons_succ]
  refine wpAnyH_take (i := 5) (v := ?v13) (ops_at rfl) (by kernel_rfl) (by kernel_rfl) (by kernel_rfl) (fun _ _ _ h => h) (Or.inl ⟨by rfl, ?hy13⟩) (by assumption) ?rest13
  case hy13 => intro w' hSw; (try dsimp only at hSw); go_simp; try with_reducible rfl
  try simp only [Act.put, List.setIfInBounds_toArray, List.set_cons_zero, List.set_cons_succ]
  refine wpAnyH_take (i := 6) (v := ?v14) (ops_at rfl) (by kernel_rfl) (by kernel_rfl) (by kernel_rfl) (fun _ _ _ h => h) (Or.inl ⟨by rfl, ?hy14⟩) (by assumption) ?rest14
  case hy14 => intro w' hSw; (try dsimp only at hSw); go_simp; try with_reducible rfl
  try simp only [Act.put, List.setIfInBounds_toArray, List.set_cons_zero, List.set_cons_succ]
  refine wpAnyH_take (i := 7) (v := ?v15) (ops_at rfl) (by kernel_rfl) (by kernel_rfl) (by kernel_rfl) (fun _ _ _ h => h) (Or.inl ⟨by rfl, ?hy15⟩) (by assumption) ?rest15
  case hy15 => intro w' hSw; (try dsimp only at hSw); go_simp; try with_reducible rfl
  try simp only [Act.put, List.setIfInBounds_toArray, List.set_cons_zero, List.set_cons_succ]
  refine wpAnyH_take (i := 8) (v := ?v16) (ops_at rfl) (by kernel_rfl) (by kernel_rfl) (by kernel_rfl) (fun _ _ _ h => h) (Or.inl ⟨by rfl, ?hy16⟩) (by assumption) ?rest16
  case hy16 => intro w' hSw; (try dsimp only at hSw); go_simp; try with_reducible rfl
  try simp only [Act.put, List.setIfInBounds_toArray, List.set_cons_zero, List.set_cons_succ]
  refine wpAnyH_ready (rs := [9]) (by kernel_rfl) (by simp) ?_
  refine AllReadyH.cons (ops_at rfl) (fun K hK => ?_) AllReadyH.nil
  go_simp
  refine hK.out _ _ (by exact ordCells (a := { a with mode := 4 }) S2.drew) (fun hHeld => ?_)
  clear hK K
  try simp only [Act.put, List.setIfInBounds_toArray, List.set_cons_zero, List.set_cons_succ]
  refine wpAnyH_take (i := 10) (v := ?v17) (ops_at rfl) (by kernel_rfl) (by kernel_rfl) (by kernel_rfl) (fun _ _ _ h => h) (Or.inl ⟨by rfl, ?hy17⟩) (by assumption) ?rest17
  case hy17 => intro w' hSw; (try dsimp only at hSw); go_simp; try with_reducible rfl
  try simp only [Act.put, List.setIfInBounds_toArray, List.set_cons_zero, List.set_cons_succ]
  refine wpAnyH_take (i := 11) (v := ?v18) (ops_at rfl) (by kernel_rfl) (by kernel_rfl) (by kernel_rfl) (fun _ _ _ h => h) (Or.inl ⟨by rfl, ?hy18⟩) (by assumption) ?rest18
  case hy18 => intro w' hSw; (try dsimp only at hSw); go_simp; try with_reducible rfl
  try simp only [Act.put, List.setIfInBounds_toArray, List.set_cons_zero, List.set_cons_succ]
  refine wpAnyH_ready (rs := [12]) (by kernel_rfl) (by simp) ?_
  refine AllReadyH.cons (ops_at rfl) (fun K hK => ?_) AllReadyH.nil
  go_simp
  refine hK.out _ _ (by exact ordCells (a := { a with mode := 4, to_ := m.version }) (S2.setCell 0 rfl 9 (.int .i64 m.version)).drew) (fun hHeld => ?_)
  clear hK K
  try simp only [Act.put, List.setIfInBounds_toArray, List.set_cons_zero, List.set_cons_succ]
  refine wpAnyH_done (by kernel_rfl) ?_ _
  go_wp2
  go_end0
  rw [HE.out]
  exact ⟨rfl, S3.out⟩
set_option maxRecDepth 10000 in
set_option maxHeartbeats 3200000 in
theorem ordWork (S : St w0 w (cellsT g 23 a.cs :: tl)) (m : Msg) (now : Int) (sv : Value) :
    Calls Try.prog 35 #[.agg #[.pointer (some ⟨g, 0, none⟩), .int .i64 m.node, .int .i64 m.kind, .int .i64 m.term, .int .i64 m.gen, .int .i64 m.job, .int .i64 m.inc, .int .i64 m.version, .int .i64 m.epoch, .int .i64 m.until_, .int .i64 m.mode, .int .i64 m.work, .int .i64 now, sv]] w fun e w' => e = .returned (.tuple #[]) ∧ St w0 w' (cellsT g 23 (oWork a m).cs :: tl) := by
  have S1 := ordSt S m now sv
  obtain ⟨x0, x1, x2, x3, x4, x5, x6, x7, x8, x9⟩ := agCells S1
  by_cases h2 : ownsJ a m 2 = true
  · have HE : Hid (oWork a m = aRenew a m) := by rw [Hid]; unfold oWork; rw [if_pos h2]
    have HO := hid h2
    clear h2
    go_enter Try.func35, Try.ntmps35
    go_wp2_with fail
    refine (agOwn S1 m now sv 2).mono ?_
    rintro e w1 ⟨rfl, S2⟩
    rw [HO.out]
    obtain ⟨y0, y1, y2, y3, y4, y5, y6, y7, y8, y9, y10, y11, y12, y13⟩ := ordCells S2
    clear x0 x1 x2 x3 x4 x5 x6 x7 x8 x9
    go_wp2_with fail
    refine (agRenew S2 m now sv).mono ?_
    rintro e w2 ⟨rfl, S3⟩
    clear y0 y1 y2 y3 y4 y5 y6 y7 y8 y9 y10 y11 y12 y13
    go_wp2
    go_end0
    rw [HE.out]
    exact ⟨rfl, ordDrop S3⟩
  have HO : Hid (ownsJ a m 2 = false) := by rw [Hid]; simpa using h2
  by_cases h1 : ownsJ a m 1 = true
  case neg =>
    have HE : Hid (oWork a m = a) := by rw [Hid]; unfold oWork; rw [if_neg h2, if_neg h1]
    have HP : Hid (ownsJ a m 1 = false) := by rw [Hid]; simpa using h1
    clear h2 h1
    go_enter Try.func35, Try.ntmps35
    go_wp2_with fail
    refine (agOwn S1 m now sv 2).mono ?_
    rintro e w1 ⟨rfl, S2⟩
    rw [HO.out]
    obtain ⟨y0, y1, y2, y3, y4, y5, y6, y7, y8, y9, y10, y11, y12, y13⟩ := ordCells S2
    clear x0 x1 x2 x3 x4 x5 x6 x7 x8 x9
    go_wp2_with fail
    refine (agOwn S2 m now sv 1).mono ?_
    rintro e w2 ⟨rfl, S3⟩
    rw [HP.out]
    clear y0 y1 y2 y3 y4 y5 y6 y7 y8 y9 y10 y11 y12 y13
    go_wp2
    go_end0
    rw [HE.out]
    exact ⟨rfl, ordDrop S3⟩
  have HE : Hid (oWork a m = { a with mode := 2, worked := m.work, lease := m.until_ }) := by rw [Hid]; unfold oWork; rw [if_neg h2, if_pos h1]
  have HP := hid h1
  clear h2 h1
  go_enter Try.func35, Try.ntmps35
  go_wp2_with fail
  refine (agOwn S1 m now sv 2).mono ?_
  rintro e w1 ⟨rfl, S2⟩
  rw [HO.out]
  obtain ⟨y0, y1, y2, y3, y4, y5, y6, y7, y8, y9, y10, y11, y12, y13⟩ := ordCells S2
  clear x0 x1 x2 x3 x4 x5 x6 x7 x8 x9
  go_wp2_with fail
  refine (agOwn S2 m now sv 1).mono ?_
  rintro e w2 ⟨rfl, S3⟩
  rw [HP.out]
  clear y0 y1 y2 y3 y4 y5 y6 y7 y8 y9 y10 y11 y12 y13
  obtain ⟨x0, x1, x2, x3, x4, x5, x6, x7, x8, x9⟩ := agCells S3
  obtain ⟨f3, f4, f5, f7, f8, f9⟩ := agFree S3
  have S4 : St w0 _ (cellsT g 23 ({ a with mode := 2 } : AG).cs :: (tl ++ [cellsT w.heap.size 70 (#[.pointer (some ⟨g, 0, none⟩), .int .i64 m.node, .int .i64 m.kind, .int .i64 m.term, .int .i64 m.gen, .int .i64 m.job, .int .i64 m.inc, .int .i64 m.version, .int .i64 m.epoch, .int .i64 m.until_, .int .i64 m.mode, .int .i64 m.work, .int .i64 now, sv] : Array Value).toList])) := S3.setCell 0 rfl 3 (.int .i64 2)
  have S5 : St w0 _ (cellsT g 23 ({ a with mode := 2, worked := m.work } : AG).cs :: (tl ++ [cellsT w.heap.size 70 (#[.pointer (some ⟨g, 0, none⟩), .int .i64 m.node, .int .i64 m.kind, .int .i64 m.term, .int .i64 m.gen, .int .i64 m.job, .int .i64 m.inc, .int .i64 m.version, .int .i64 m.epoch, .int .i64 m.until_, .int .i64 m.mode, .int .i64 m.work, .int .i64 now, sv] : Array Value).toList])) := S4.setCell 0 rfl 8 (.int .i64 m.work)
  have S6 : St w0 _ (cellsT g 23 ({ a with mode := 2, worked := m.work, lease := m.until_ } : AG).cs :: (tl ++ [cellsT w.heap.size 70 (#[.pointer (some ⟨g, 0, none⟩), .int .i64 m.node, .int .i64 m.kind, .int .i64 m.term, .int .i64 m.gen, .int .i64 m.job, .int .i64 m.inc, .int .i64 m.version, .int .i64 m.epoch, .int .i64 m.until_, .int .i64 m.mode, .int .i64 m.work, .int .i64 now, sv] : Array Value).toList])) := S5.setCell 0 rfl 7 (.int .i64 m.until_)
  have S7 := hid (ordDrop S6.drew)
  go_wp2_with fail
  refine wp_region_held_drew (S := (fun w' => (w'.cell? ⟨w.heap.size, 0, none⟩ = some (.pointer (some ⟨g, 0, none⟩)) ∧ w'.cell? ⟨w.heap.size, 1, none⟩ = some (.int .i64 m.node) ∧ w'.cell? ⟨w.heap.size, 2, none⟩ = some (.int .i64 m.kind) ∧ w'.cell? ⟨w.heap.size, 3, none⟩ = some (.int .i64 m.term) ∧ w'.cell? ⟨w.heap.size, 4, none⟩ = some (.int .i64 m.gen) ∧ w'.cell? ⟨w.heap.size, 5, none⟩ = some (.int .i64 m.job) ∧ w'.cell? ⟨w.heap.size, 6, none⟩ = some (.int .i64 m.inc) ∧ w'.cell? ⟨w.heap.size, 7, none⟩ = some (.int .i64 m.version) ∧ w'.cell? ⟨w.heap.size, 8, none⟩ = some (.int .i64 m.epoch) ∧ w'.cell? ⟨w.heap.size, 9, none⟩ = some (.int .i64 m.until_) ∧ w'.cell? ⟨w.heap.size, 10, none⟩ = some (.int .i64 m.mode) ∧ w'.cell? ⟨w.heap.size, 11, none⟩ = some (.int .i64 m.work) ∧ w'.cell? ⟨w.heap.size, 12, none⟩ = some (.int .i64 now) ∧ w'.cell? ⟨w.heap.size, 13, none⟩ = some sv))) (by kernel_rfl) (by exact ordCells S3.drew) (fun hHeld => ?_)
  change wpAnyH _ _ _ _ _ 21 (Array.replicate 21 false) _ _
  refine wpAnyH_take (i := 0) (v := ?v19) (ops_at rfl) (by kernel_rfl) (by kernel_rfl) (by kernel_rfl) (fun _ _ _ h => h) (Or.inl ⟨by rfl, ?hy19⟩) (by assumption) ?rest19
  case hy19 => intro w' hSw; (try dsimp only at hSw); go_simp; try with_reducible rfl
  try simp only [Act.put, List.setIfInBounds_toArray, List.set_cons_zero, List.set_cons_succ]
  refine wpAnyH_take (i := 1) (v := ?v20) (ops_at rfl) (by kernel_rfl) (by kernel_rfl) (by kernel_rfl) (fun _ _ _ h => h) (Or.inl ⟨by rfl, ?hy20⟩) (by assumption) ?rest20
  case hy20 => intro w' hSw; (try dsimp only at hSw); go_simp; try with_reducible rfl
  try simp only [Act.put, List.setIfInBounds_toArray, List.set_cons_zero, List.set_cons_succ]
  refine wpAnyH_take (i := 2) (v := ?v21) (ops_at rfl) (by kernel_rfl) (by kernel_rfl) (by kernel_rfl) (fun _ _ _ h => h) (Or.inl ⟨by rfl, ?hy21⟩) (by assumption) ?rest21
  case hy21 => intro w' hSw; (try dsimp only at hSw); go_simp; try with_reducible rfl
  try simp only [Act.put, List.setIfInBounds_toArray, List.set_cons_zero, List.set_cons_succ]
  refine wpAnyH_take (i := 3) (v := ?v22) (ops_at rfl) (by kernel_rfl) (by kernel_rfl) (by kernel_rfl) (fun _ _ _ h => h) (Or.inl ⟨by rfl, ?hy22⟩) (by assumption) ?rest22
  case hy22 => intro w' hSw; (try dsimp only at hSw); go_simp; try with_reducible rfl
  try simp only [Act.put, List.setIfInBounds_toArray, List.set_cons_zero, List.set_cons_succ]
  refine wpAnyH_take (i := 4) (v := ?v23) (ops_at rfl) (by kernel_rfl) (by kernel_rfl) (by kernel_rfl) (fun _ _ _ h => h) (Or.inl ⟨by rfl, ?hy23⟩) (by assumption) ?rest23
  case hy23 => intro w' hSw; (try dsimp only at hSw); go_simp; try with_reducible rfl
  try simp only [Act.put, List.setIfInBounds_toArray, List.set_cons_zero, List.set_cons_succ]
  refine wpAnyH_take (i := 5) (v := ?v24) (ops_at rfl) (by kernel_rfl) (by kernel_rfl) (by kernel_rfl) (fun _ _ _ h => h) (Or.inl ⟨by rfl, ?hy24⟩) (by assumption) ?rest24
  case hy24 => intro w' hSw; (try dsimp only at hSw); go_simp; try with_reducible rfl
  try simp only [Act.put, List.setIfInBounds_toArray, List.set_cons_zero, List.set_cons_succ]
  refine wpAnyH_take (i := 6) (v := ?v25) (ops_at rfl) (by kernel_rfl) (by kernel_rfl) (by kernel_rfl) (fun _ _ _ h => h) (Or.inl ⟨by rfl, ?hy25⟩) (by assumption) ?rest25
  case hy25 => intro w' hSw; (try dsimp only at hSw); go_simp; try with_reducible rfl
  try simp only [Act.put, List.setIfInBounds_toArray, List.set_cons_zero, List.set_cons_succ]
  refine wpAnyH_take (i := 7) (v := ?v26) (ops_at rfl) (by kernel_rfl) (by kernel_rfl) (by kernel_rfl) (fun _ _ _ h => h) (Or.inl ⟨by rfl, ?hy26⟩) (by assumption) ?rest26
  case hy26 => intro w' hSw; (try dsimp only at hSw); go_simp; try with_reducible rfl
  try simp only [Act.put, List.setIfInBounds_toArray, List.set_cons_zero, List.set_cons_succ]
  refine wpAnyH_take (i := 8) (v := ?v27) (ops_at rfl) (by kernel_rfl) (by kernel_rfl) (by kernel_rfl) (fun _ _ _ h => h) (Or.inl ⟨by rfl, ?hy27⟩) (by assumption) ?rest27
  case hy27 => intro w' hSw; (try dsimp only at hSw); go_simp; try with_reducible rfl
  try simp only [Act.put, List.setIfInBounds_toArray, List.set_cons_zero, List.set_cons_succ]
  refine wpAnyH_take (i := 9) (v := ?v28) (ops_at rfl) (by kernel_rfl) (by kernel_rfl) (by kernel_rfl) (fun _ _ _ h => h) (Or.inl ⟨by rfl, ?hy28⟩) (by assumption) ?rest28
  case hy28 => intro w' hSw; (try dsimp only at hSw); go_simp; try with_reducible rfl
  try simp only [Act.put, List.setIfInBounds_toArray, List.set_cons_zero, List.set_cons_succ]
  refine wpAnyH_take (i := 10) (v := ?v29) (ops_at rfl) (by kernel_rfl) (by kernel_rfl) (by kernel_rfl) (fun _ _ _ h => h) (Or.inl ⟨by rfl, ?hy29⟩) (by assumption) ?rest29
  case hy29 => intro w' hSw; (try dsimp only at hSw); go_simp; try with_reducible rfl
  try simp only [Act.put, List.setIfInBounds_toArray, List.set_cons_zero, List.set_cons_succ]
  refine wpAnyH_take (i := 11) (v := ?v30) (ops_at rfl) (by kernel_rfl) (by kernel_rfl) (by kernel_rfl) (fun _ _ _ h => h) (Or.inl ⟨by rfl, ?hy30⟩) (by assumption) ?rest30
  case hy30 => intro w' hSw; (try dsimp only at hSw); go_simp; try with_reducible rfl
  try simp only [Act.put, List.setIfInBounds_toArray, List.set_cons_zero, List.set_cons_succ]
  refine wpAnyH_take (i := 12) (v := ?v31) (ops_at rfl) (by kernel_rfl) (by kernel_rfl) (by kernel_rfl) (fun _ _ _ h => h) (Or.inl ⟨by rfl, ?hy31⟩) (by assumption) ?rest31
  case hy31 => intro w' hSw; (try dsimp only at hSw); go_simp; try with_reducible rfl
  try simp only [Act.put, List.setIfInBounds_toArray, List.set_cons_zero, List.set_cons_succ]
  refine wpAnyH_take (i := 13) (v := ?v32) (ops_at rfl) (by kernel_rfl) (by kernel_rfl) (by kernel_rfl) (fun _ _ _ h => h) (Or.inl ⟨by rfl, ?hy32⟩) (by assumption) ?rest32
  case hy32 => intro w' hSw; (try dsimp only at hSw); go_simp; try with_reducible rfl
  try simp only [Act.put, List.setIfInBounds_toArray, List.set_cons_zero, List.set_cons_succ]
  refine wpAnyH_ready (rs := [14]) (by kernel_rfl) (by simp) ?_
  refine AllReadyH.cons (ops_at rfl) (fun K hK => ?_) AllReadyH.nil
  go_simp
  refine hK.out _ _ (by exact ordCells S4.drew) (fun hHeld => ?_)
  clear hK K
  try simp only [Act.put, List.setIfInBounds_toArray, List.set_cons_zero, List.set_cons_succ]
  refine wpAnyH_take (i := 15) (v := ?v33) (ops_at rfl) (by kernel_rfl) (by kernel_rfl) (by kernel_rfl) (fun _ _ _ h => h) (Or.inl ⟨by rfl, ?hy33⟩) (by assumption) ?rest33
  case hy33 => intro w' hSw; (try dsimp only at hSw); go_simp; try with_reducible rfl
  try simp only [Act.put, List.setIfInBounds_toArray, List.set_cons_zero, List.set_cons_succ]
  refine wpAnyH_take (i := 16) (v := ?v34) (ops_at rfl) (by kernel_rfl) (by kernel_rfl) (by kernel_rfl) (fun _ _ _ h => h) (Or.inl ⟨by rfl, ?hy34⟩) (by assumption) ?rest34
  case hy34 => intro w' hSw; (try dsimp only at hSw); go_simp; try with_reducible rfl
  try simp only [Act.put, List.setIfInBounds_toArray, List.set_cons_zero, List.set_cons_succ]
  refine wpAnyH_ready (rs := [17]) (by kernel_rfl) (by simp) ?_
  refine AllReadyH.cons (ops_at rfl) (fun K hK => ?_) AllReadyH.nil
  go_simp
  refine hK.out _ _ (by exact ordCells S5.drew) (fun hHeld => ?_)
  clear hK K
  try simp only [Act.put, List.setIfInBounds_toArray, List.set_cons_zero, List.set_cons_succ]
  refine wpAnyH_take (i := 18) (v := ?v35) (ops_at rfl) (by kernel_rfl) (by kernel_rfl) (by kernel_rfl) (fun _ _ _ h => h) (Or.inl ⟨by rfl, ?hy35⟩) (by assumption) ?rest35
  case hy35 => intro w' hSw; (try dsimp only at hSw); go_simp; try with_reducible rfl
  try simp only [Act.put, List.setIfInBounds_toArray, List.set_cons_zero, List.set_cons_succ]
  refine wpAnyH_take (i := 19) (v := ?v36) (ops_at rfl) (by kernel_rfl) (by kernel_rfl) (by kernel_rfl) (fun _ _ _ h => h) (Or.inl ⟨by rfl, ?hy36⟩) (by assumption) ?rest36
  case hy36 => intro w' hSw; (try dsimp only at hSw); go_simp; try with_reducible rfl
  try simp only [Act.put, List.setIfInBounds_toArray, List.set_cons_zero, List.set_cons_succ]
  refine wpAnyH_ready (rs := [20]) (by kernel_rfl) (by simp) ?_
  refine AllReadyH.cons (ops_at rfl) (fun K hK => ?_) AllReadyH.nil
  go_simp
  refine hK.out _ _ (by exact ordCells S6.drew) (fun hHeld => ?_)
  clear hK K
  try simp only [Act.put, List.setIfInBounds_toArray, List.set_cons_zero, List.set_cons_succ]
  refine wpAnyH_done (by kernel_rfl) ?_ _
  go_wp2
  go_end0
  rw [HE.out]
  exact ⟨rfl, S7.out⟩
end
end Go.Proofs.Ytchehnkmmmnonaa

namespace Go.Proofs.Ytchehnkmmmnonaa
set_option linter.unusedVariables false
set_option linter.unusedSimpArgs false
open Go.RowKit
section
variable {w0 w : World} {tl : List Thing} {g : Nat} {a : AG}
set_option maxRecDepth 10000 in
set_option maxHeartbeats 3200000 in
theorem ordTake_own (S : St w0 w (cellsT g 23 a.cs :: tl)) (m : Msg) (now : Int) (sv : Value) (h : ownsJ a m 1 = true ∨ ownsJ a m 2 = true) :
    Calls Try.prog 32 #[.agg #[.pointer (some ⟨g, 0, none⟩), .int .i64 m.node, .int .i64 m.kind, .int .i64 m.term, .int .i64 m.gen, .int .i64 m.job, .int .i64 m.inc, .int .i64 m.version, .int .i64 m.epoch, .int .i64 m.until_, .int .i64 m.mode, .int .i64 m.work, .int .i64 now, sv]] w fun e w' => e = .returned (.tuple #[]) ∧ St w0 w' (cellsT g 23 (oTake a m now).cs :: tl) := by
  have S1 := ordSt S m now sv
  obtain ⟨x0, x1, x2, x3, x4, x5, x6, x7, x8, x9⟩ := agCells S1
  have HE : Hid (oTake a m now = aRenew a m) := by rw [Hid]; unfold oTake; rw [if_pos h]
  by_cases h1 : ownsJ a m 1 = true
  · have HO := hid h1
    clear h1 h
    go_enter Try.func32, Try.ntmps32
    go_wp2_with fail
    refine (agOwn S1 m now sv 1).mono ?_
    rintro e w1 ⟨rfl, S2⟩
    rw [HO.out]
    obtain ⟨y0, y1, y2, y3, y4, y5, y6, y7, y8, y9, y10, y11, y12, y13⟩ := ordCells S2
    clear x0 x1 x2 x3 x4 x5 x6 x7 x8 x9
    go_wp2_with fail
    refine (agRenew S2 m now sv).mono ?_
    rintro e w2 ⟨rfl, S3⟩
    clear y0 y1 y2 y3 y4 y5 y6 y7 y8 y9 y10 y11 y12 y13
    go_wp2
    go_end0
    rw [HE.out]
    exact ⟨rfl, ordDrop S3⟩
  have HO : Hid (ownsJ a m 1 = false) := by rw [Hid]; simpa using h1
  have HP : Hid (ownsJ a m 2 = true) := h.resolve_left h1
  clear h1 h
  go_enter Try.func32, Try.ntmps32
  go_wp2_with fail
  refine (agOwn S1 m now sv 1).mono ?_
  rintro e w1 ⟨rfl, S2⟩
  rw [HO.out]
  obtain ⟨y0, y1, y2, y3, y4, y5, y6, y7, y8, y9, y10, y11, y12, y13⟩ := ordCells S2
  clear x0 x1 x2 x3 x4 x5 x6 x7 x8 x9
  go_wp2_with fail
  refine (agOwn S2 m now sv 2).mono ?_
  rintro e w2 ⟨rfl, S3⟩
  rw [HP.out]
  clear y0 y1 y2 y3 y4 y5 y6 y7 y8 y9 y10 y11 y12 y13
  obtain ⟨y0, y1, y2, y3, y4, y5, y6, y7, y8, y9, y10, y11, y12, y13⟩ := ordCells S3
  go_wp2_with fail
  refine (agRenew S3 m now sv).mono ?_
  rintro e w3 ⟨rfl, S4⟩
  clear y0 y1 y2 y3 y4 y5 y6 y7 y8 y9 y10 y11 y12 y13
  go_wp2
  go_end0
  rw [HE.out]
  exact ⟨rfl, ordDrop S4⟩
set_option maxRecDepth 10000 in
set_option maxHeartbeats 3200000 in
theorem ordTake_not (S : St w0 w (cellsT g 23 a.cs :: tl)) (m : Msg) (now : Int) (sv : Value) (h1 : ¬ ownsJ a m 1 = true) (h2 : ¬ ownsJ a m 2 = true) :
    Calls Try.prog 32 #[.agg #[.pointer (some ⟨g, 0, none⟩), .int .i64 m.node, .int .i64 m.kind, .int .i64 m.term, .int .i64 m.gen, .int .i64 m.job, .int .i64 m.inc, .int .i64 m.version, .int .i64 m.epoch, .int .i64 m.until_, .int .i64 m.mode, .int .i64 m.work, .int .i64 now, sv]] w fun e w' => e = .returned (.tuple #[]) ∧ St w0 w' (cellsT g 23 (oTake a m now).cs :: tl) := by
  have S1 := ordSt S m now sv
  obtain ⟨x0, x1, x2, x3, x4, x5, x6, x7, x8, x9⟩ := agCells S1
  have HO : Hid (ownsJ a m 1 = false) := by rw [Hid]; simpa using h1
  have HP : Hid (ownsJ a m 2 = false) := by rw [Hid]; simpa using h2
  have h3 : ¬ (ownsJ a m 1 = true ∨ ownsJ a m 2 = true) := fun h => h.elim h1 h2
  by_cases h0 : a.mode = 0
  case neg =>
    have HE : Hid (oTake a m now = a) := by rw [Hid]; unfold oTake; rw [if_neg h3, if_neg (fun h => h0 h.1)]
    have g0 : (a.mode == 0) = false := by simpa using h0
    clear h0 h1 h2 h3
    go_enter Try.func32, Try.ntmps32
    go_wp2_with fail
    refine (agOwn S1 m now sv 1).mono ?_
    rintro e w1 ⟨rfl, S2⟩
    rw [HO.out]
    obtain ⟨y0, y1, y2, y3, y4, y5, y6, y7, y8, y9, y10, y11, y12, y13⟩ := ordCells S2
    clear x0 x1 x2 x3 x4 x5 x6 x7 x8 x9
    go_wp2_with fail
    refine (agOwn S2 m now sv 2).mono ?_
    rintro e w2 ⟨rfl, S3⟩
    rw [HP.out]
    clear y0 y1 y2 y3 y4 y5 y6 y7 y8 y9 y10 y11 y12 y13
    go_wp2_with fail
    refine wp_region_held_drew (S := (fun w' => (w'.cell? ⟨w.heap.size, 0, none⟩ = some (.pointer (some ⟨g, 0, none⟩)) ∧ w'.cell? ⟨w.heap.size, 1, none⟩ = some (.int .i64 m.node) ∧ w'.cell? ⟨w.heap.size, 2, none⟩ = some (.int .i64 m.kind) ∧ w'.cell? ⟨w.heap.size, 3, none⟩ = some (.int .i64 m.term) ∧ w'.cell? ⟨w.heap.size, 4, none⟩ = some (.int .i64 m.gen) ∧ w'.cell? ⟨w.heap.size, 5, none⟩ = some (.int .i64 m.job) ∧ w'.cell? ⟨w.heap.size, 6, none⟩ = some (.int .i64 m.inc) ∧ w'.cell? ⟨w.heap.size, 7, none⟩ = some (.int .i64 m.version) ∧ w'.cell? ⟨w.heap.size, 8, none⟩ = some (.int .i64 m.epoch) ∧ w'.cell? ⟨w.heap.size, 9, none⟩ = some (.int .i64 m.until_) ∧ w'.cell? ⟨w.heap.size, 10, none⟩ = some (.int .i64 m.mode) ∧ w'.cell? ⟨w.heap.size, 11, none⟩ = some (.int .i64 m.work) ∧ w'.cell? ⟨w.heap.size, 12, none⟩ = some (.int .i64 now) ∧ w'.cell? ⟨w.heap.size, 13, none⟩ = some sv) ∧ (w'.cell? ⟨g, 0, none⟩ = some (.bool a.up) ∧ w'.cell? ⟨g, 1, none⟩ = some (.int .i64 a.term) ∧ w'.cell? ⟨g, 2, none⟩ = some (.int .i64 a.gen) ∧ w'.cell? ⟨g, 3, none⟩ = some (.int .i64 a.mode) ∧ w'.cell? ⟨g, 4, none⟩ = some (.int .i64 a.job) ∧ w'.cell? ⟨g, 5, none⟩ = some (.int .i64 a.inc) ∧ w'.cell? ⟨g, 6, none⟩ = some (.int .i64 a.version) ∧ w'.cell? ⟨g, 7, none⟩ = some (.int .i64 a.lease) ∧ w'.cell? ⟨g, 8, none⟩ = some (.int .i64 a.worked) ∧ w'.cell? ⟨g, 9, none⟩ = some (.int .i64 a.to_)))) (by kernel_rfl) (by exact ⟨ordCells S3.drew, agCells S3.drew⟩) (fun hHeld => ?_)
    change wpAnyH _ _ _ _ _ 26 (Array.replicate 26 false) _ _
    refine wpAnyH_take (i := 0) (v := ?v37) (ops_at rfl) (by kernel_rfl) (by kernel_rfl) (by kernel_rfl) (fun _ _ _ h => h) (Or.inl ⟨by rfl, ?hy37⟩) (by assumption) ?rest37
    case hy37 => intro w' hSw; (try dsimp only at hSw); go_simp; try with_reducible rfl
    try simp only [Act.put, List.setIfInBounds_toArray, List.set_cons_zero, List.set_cons_succ]
    refine wpAnyH_take (i := 1) (v := ?v38) (ops_at rfl) (by kernel_rfl) (by kernel_rfl) (by kernel_rfl) (fun _ _ _ h => h) (Or.inl ⟨by rfl, ?hy38⟩) (by assumption) ?rest38
    case hy38 => intro w' hSw; (try dsimp only at hSw); go_simp; try with_reducible rfl
    try simp only [Act.put, List.setIfInBounds_toArray, List.set_cons_zero, List.set_cons_succ]
    refine wpAnyH_take (i := 2) (v := ?v39) (ops_at rfl) (by kernel_rfl) (by kernel_rfl) (by kernel_rfl) (fun _ _ _ h => h) (Or.inl ⟨by rfl, ?hy39⟩) (by assumption) ?rest39
    case hy39 => intro w' hSw; (try dsimp only at hSw); go_simp; try with_reducible rfl
    try simp only [Act.put, List.setIfInBounds_toArray, List.set_cons_zero, List.set_cons_succ]
    refine wpAnyH_take (i := 3) (v := ?v40) (ops_at rfl) (by kernel_rfl) (by kernel_rfl) (by kernel_rfl) (fun _ _ _ h => h) (Or.inl ⟨by rfl, ?hy40⟩) (by assumption) ?rest40
    case hy40 => intro w' hSw; (try dsimp only at hSw); go_simp; try with_reducible rfl
    try simp only [Act.put, List.setIfInBounds_toArray, List.set_cons_zero, List.set_cons_succ]
    refine wpAnyH_take (i := 4) (v := ?v41) (ops_at rfl) (by kernel_rfl) (by kernel_rfl) (by kernel_rfl) (fun _ _ _ h => h) (Or.inl ⟨by rfl, ?hy41⟩) (by assumption) ?rest41
    case hy41 => intro w' hSw; (try dsimp only at hSw); go_simp; try with_reducible rfl
    try simp only [Act.put, List.setIfInBounds_toArray, List.set_cons_zero, List.set_cons_succ]
    refine wpAnyH_take (i := 5) (v := ?v42) (ops_at rfl) (by kernel_rfl) (by kernel_rfl) (by kernel_rfl) (fun _ _ _ h => h) (Or.inl ⟨by rfl, ?hy42⟩) (by assumption) ?rest42
    case hy42 => intro w' hSw; (try dsimp only at hSw); go_simp; try with_reducible rfl
    try simp only [Act.put, List.setIfInBounds_toArray, List.set_cons_zero, List.set_cons_succ]
    refine wpAnyH_take (i := 6) (v := ?v43) (ops_at rfl) (by kernel_rfl) (by kernel_rfl) (by kernel_rfl) (fun _ _ _ h => h) (Or.inl ⟨by rfl, ?hy43⟩) (by assumption) ?rest43
    case hy43 => intro w' hSw; (try dsimp only at hSw); go_simp; try with_reducible rfl
    try simp only [Act.put, List.setIfInBounds_toArray, List.set_cons_zero, List.set_cons_succ]
    refine wpAnyH_take (i := 7) (v := undef) (ops_at rfl) (by kernel_rfl) (by kernel_rfl) (by kernel_rfl) (fun _ _ _ h => h) (Or.inr ⟨by rfl, rfl⟩) (by assumption) ?rest44
    try simp only [Act.put, List.setIfInBounds_toArray, List.set_cons_zero, List.set_cons_succ]
    refine wpAnyH_take (i := 8) (v := undef) (ops_at rfl) (by kernel_rfl) (by kernel_rfl) (by kernel_rfl) (fun _ _ _ h => h) (Or.inr ⟨by rfl, rfl⟩) (by assumption) ?rest45
    try simp only [Act.put, List.setIfInBounds_toArray, List.set_cons_zero, List.set_cons_succ]
    refine wpAnyH_take (i := 9) (v := undef) (ops_at rfl) (by kernel_rfl) (by kernel_rfl) (by kernel_rfl) (fun _ _ _ h => h) (Or.inr ⟨by rfl, rfl⟩) (by assumption) ?rest46
    try simp only [Act.put, List.setIfInBounds_toArray, List.set_cons_zero, List.set_cons_succ]
    refine wpAnyH_take (i := 10) (v := undef) (ops_at rfl) (by kernel_rfl) (by kernel_rfl) (by kernel_rfl) (fun _ _ _ h => h) (Or.inr ⟨by rfl, rfl⟩) (by assumption) ?rest47
    try simp only [Act.put, List.setIfInBounds_toArray, List.set_cons_zero, List.set_cons_succ]
    refine wpAnyH_take (i := 11) (v := undef) (ops_at rfl) (by kernel_rfl) (by kernel_rfl) (by kernel_rfl) (fun _ _ _ h => h) (Or.inr ⟨by rfl, rfl⟩) (by assumption) ?rest48
    try simp only [Act.put, List.setIfInBounds_toArray, List.set_cons_zero, List.set_cons_succ]
    refine wpAnyH_take (i := 12) (v := undef) (ops_at rfl) (by kernel_rfl) (by kernel_rfl) (by kernel_rfl) (fun _ _ _ h => h) (Or.inr ⟨by rfl, rfl⟩) (by assumption) ?rest49
    try simp only [Act.put, List.setIfInBounds_toArray, List.set_cons_zero, List.set_cons_succ]
    refine wpAnyH_take (i := 13) (v := undef) (ops_at rfl) (by kernel_rfl) (by kernel_rfl) (by kernel_rfl) (fun _ _ _ h => h) (Or.inr ⟨by rfl, rfl⟩) (by assumption) ?rest50
    try simp only [Act.put, List.setIfInBounds_toArray, List.set_cons_zero, List.set_cons_succ]
    refine wpAnyH_take (i := 14) (v := undef) (ops_at rfl) (by kernel_rfl) (by kernel_rfl) (by kernel_rfl) (fun _ _ _ h => h) (Or.inr ⟨by rfl, rfl⟩) (by assumption) ?rest51
    try simp only [Act.put, List.setIfInBounds_toArray, List.set_cons_zero, List.set_cons_succ]
    refine wpAnyH_take (i := 15) (v := undef) (ops_at rfl) (by kernel_rfl) (by kernel_rfl) (by kernel_rfl) (fun _ _ _ h => h) (Or.inr ⟨by rfl, rfl⟩) (by assumption) ?rest52
    try simp only [Act.put, List.setIfInBounds_toArray, List.set_cons_zero, List.set_cons_succ]
    refine wpAnyH_take (i := 16) (v := ?v53) (ops_at rfl) (by kernel_rfl) (by kernel_rfl) (by kernel_rfl) (fun _ _ _ h => h) (Or.inl ⟨by rfl, ?hy53⟩) (by assumption) ?rest53
    case hy53 => intro w' hSw; (try dsimp only at hSw); go_simp; try with_reducible rfl
    try simp only [Act.put, List.setIfInBounds_toArray, List.set_cons_zero, List.set_cons_succ]
    refine wpAnyH_take (i := 17) (v := ?v54) (ops_at rfl) (by kernel_rfl) (by kernel_rfl) (by kernel_rfl) (fun _ _ _ h => h) (Or.inl ⟨by rfl, ?hy54⟩) (by assumption) ?rest54
    case hy54 => intro w' hSw; (try dsimp only at hSw); go_simp; try with_reducible rfl
    try simp only [Act.put, List.setIfInBounds_toArray, List.set_cons_zero, List.set_cons_succ]
    refine wpAnyH_take (i := 18) (v := undef) (ops_at rfl) (by kernel_rfl) (by kernel_rfl) (by kernel_rfl) (fun _ _ _ h => h) (Or.inr ⟨by rfl, rfl⟩) (by assumption) ?rest55
    try simp only [Act.put, List.setIfInBounds_toArray, List.set_cons_zero, List.set_cons_succ]
    refine wpAnyH_take (i := 19) (v := undef) (ops_at rfl) (by kernel_rfl) (by kernel_rfl) (by kernel_rfl) (fun _ _ _ h => h) (Or.inr ⟨by rfl, rfl⟩) (by assumption) ?rest56
    try simp only [Act.put, List.setIfInBounds_toArray, List.set_cons_zero, List.set_cons_succ]
    refine wpAnyH_take (i := 20) (v := undef) (ops_at rfl) (by kernel_rfl) (by kernel_rfl) (by kernel_rfl) (fun _ _ _ h => h) (Or.inr ⟨by rfl, rfl⟩) (by assumption) ?rest57
    try simp only [Act.put, List.setIfInBounds_toArray, List.set_cons_zero, List.set_cons_succ]
    refine wpAnyH_take (i := 21) (v := undef) (ops_at rfl) (by kernel_rfl) (by kernel_rfl) (by kernel_rfl) (fun _ _ _ h => h) (Or.inr ⟨by rfl, rfl⟩) (by assumption) ?rest58
    try simp only [Act.put, List.setIfInBounds_toArray, List.set_cons_zero, List.set_cons_succ]
    refine wpAnyH_take (i := 22) (v := undef) (ops_at rfl) (by kernel_rfl) (by kernel_rfl) (by kernel_rfl) (fun _ _ _ h => h) (Or.inr ⟨by rfl, rfl⟩) (by assumption) ?rest59
    try simp only [Act.put, List.setIfInBounds_toArray, List.set_cons_zero, List.set_cons_succ]
    refine wpAnyH_take (i := 23) (v := undef) (ops_at rfl) (by kernel_rfl) (by kernel_rfl) (by kernel_rfl) (fun _ _ _ h => h) (Or.inr ⟨by rfl, rfl⟩) (by assumption) ?rest60
    try simp only [Act.put, List.setIfInBounds_toArray, List.set_cons_zero, List.set_cons_succ]
    refine wpAnyH_take (i := 24) (v := ?v61) (ops_at rfl) (by kernel_rfl) (by kernel_rfl) (by kernel_rfl) (fun _ _ _ h => h) (Or.inl ⟨by rfl, ?hy61⟩) (by assumption) ?rest61
    case hy61 => intro w' hSw; (try dsimp only at hSw); go_simp; try with_reducible rfl
    try simp only [Act.put, List.setIfInBounds_toArray, List.set_cons_zero, List.set_cons_succ]
    refine wpAnyH_take (i := 25) (v := ?v62) (ops_at rfl) (by kernel_rfl) (by kernel_rfl) (by kernel_rfl) (fun _ _ _ h => h) (Or.inl ⟨by rfl, ?hy62⟩) (by assumption) ?rest62
    case hy62 => intro w' hSw; (try dsimp only at hSw); go_simp; try with_reducible rfl
    try simp only [Act.put, List.setIfInBounds_toArray, List.set_cons_zero, List.set_cons_succ]
    refine wpAnyH_done (by kernel_rfl) ?_ _
    go_wp2
    go_end0
    rw [HE.out]
    exact ⟨rfl, ordDrop S3.drew⟩
  have g0 : (a.mode == 0) = true := by simpa using h0
  by_cases h4 : a.version = m.version
  case neg =>
    have HE : Hid (oTake a m now = a) := by rw [Hid]; unfold oTake; rw [if_neg h3, if_neg (fun h => h4 h.2.1)]
    have g4 : (a.version == m.version) = false := by simpa using h4
    clear h0 h1 h2 h3 h4
    go_enter Try.func32, Try.ntmps32
    go_wp2_with fail
    refine (agOwn S1 m now sv 1).mono ?_
    rintro e w1 ⟨rfl, S2⟩
    rw [HO.out]
    obtain ⟨y0, y1, y2, y3, y4, y5, y6, y7, y8, y9, y10, y11, y12, y13⟩ := ordCells S2
    clear x0 x1 x2 x3 x4 x5 x6 x7 x8 x9
    go_wp2_with fail
    refine (agOwn S2 m now sv 2).mono ?_
    rintro e w2 ⟨rfl, S3⟩
    rw [HP.out]
    clear y0 y1 y2 y3 y4 y5 y6 y7 y8 y9 y10 y11 y12 y13
    go_wp2_with fail
    refine wp_region_held_drew (S := (fun w' => (w'.cell? ⟨w.heap.size, 0, none⟩ = some (.pointer (some ⟨g, 0, none⟩)) ∧ w'.cell? ⟨w.heap.size, 1, none⟩ = some (.int .i64 m.node) ∧ w'.cell? ⟨w.heap.size, 2, none⟩ = some (.int .i64 m.kind) ∧ w'.cell? ⟨w.heap.size, 3, none⟩ = some (.int .i64 m.term) ∧ w'.cell? ⟨w.heap.size, 4, none⟩ = some (.int .i64 m.gen) ∧ w'.cell? ⟨w.heap.size, 5, none⟩ = some (.int .i64 m.job) ∧ w'.cell? ⟨w.heap.size, 6, none⟩ = some (.int .i64 m.inc) ∧ w'.cell? ⟨w.heap.size, 7, none⟩ = some (.int .i64 m.version) ∧ w'.cell? ⟨w.heap.size, 8, none⟩ = some (.int .i64 m.epoch) ∧ w'.cell? ⟨w.heap.size, 9, none⟩ = some (.int .i64 m.until_) ∧ w'.cell? ⟨w.heap.size, 10, none⟩ = some (.int .i64 m.mode) ∧ w'.cell? ⟨w.heap.size, 11, none⟩ = some (.int .i64 m.work) ∧ w'.cell? ⟨w.heap.size, 12, none⟩ = some (.int .i64 now) ∧ w'.cell? ⟨w.heap.size, 13, none⟩ = some sv) ∧ (w'.cell? ⟨g, 0, none⟩ = some (.bool a.up) ∧ w'.cell? ⟨g, 1, none⟩ = some (.int .i64 a.term) ∧ w'.cell? ⟨g, 2, none⟩ = some (.int .i64 a.gen) ∧ w'.cell? ⟨g, 3, none⟩ = some (.int .i64 a.mode) ∧ w'.cell? ⟨g, 4, none⟩ = some (.int .i64 a.job) ∧ w'.cell? ⟨g, 5, none⟩ = some (.int .i64 a.inc) ∧ w'.cell? ⟨g, 6, none⟩ = some (.int .i64 a.version) ∧ w'.cell? ⟨g, 7, none⟩ = some (.int .i64 a.lease) ∧ w'.cell? ⟨g, 8, none⟩ = some (.int .i64 a.worked) ∧ w'.cell? ⟨g, 9, none⟩ = some (.int .i64 a.to_)))) (by kernel_rfl) (by exact ⟨ordCells S3.drew, agCells S3.drew⟩) (fun hHeld => ?_)
    change wpAnyH _ _ _ _ _ 26 (Array.replicate 26 false) _ _
    refine wpAnyH_take (i := 0) (v := ?v63) (ops_at rfl) (by kernel_rfl) (by kernel_rfl) (by kernel_rfl) (fun _ _ _ h => h) (Or.inl ⟨by rfl, ?hy63⟩) (by assumption) ?rest63
    case hy63 => intro w' hSw; (try dsimp only at hSw); go_simp; try with_reducible rfl
    try simp only [Act.put, List.setIfInBounds_toArray, List.set_cons_zero, List.set_cons_succ]
    refine wpAnyH_take (i := 1) (v := ?v64) (ops_at rfl) (by kernel_rfl) (by kernel_rfl) (by kernel_rfl) (fun _ _ _ h => h) (Or.inl ⟨by rfl, ?hy64⟩) (by assumption) ?rest64
    case hy64 => intro w' hSw; (try dsimp only at hSw); go_simp; try with_reducible rfl
    try simp only [Act.put, List.setIfInBounds_toArray, List.set_cons_zero, List.set_cons_succ]
    refine wpAnyH_take (i := 2) (v := ?v65) (ops_at rfl) (by kernel_rfl) (by kernel_rfl) (by kernel_rfl) (fun _ _ _ h => h) (Or.inl ⟨by rfl, ?hy65⟩) (by assumption) ?rest65
    case hy65 => intro w' hSw; (try dsimp only at hSw); go_simp; try with_reducible rfl
    try simp only [Act.put, List.setIfInBounds_toArray, List.set_cons_zero, List.set_cons_succ]
    refine wpAnyH_take (i := 3) (v := ?v66) (ops_at rfl) (by kernel_rfl) (by kernel_rfl) (by kernel_rfl) (fun _ _ _ h => h) (Or.inl ⟨by rfl, ?hy66⟩) (by assumption) ?rest66
    case hy66 => intro w' hSw; (try dsimp only at hSw); go_simp; try with_reducible rfl
    try simp only [Act.put, List.setIfInBounds_toArray, List.set_cons_zero, List.set_cons_succ]
    refine wpAnyH_take (i := 4) (v := ?v67) (ops_at rfl) (by kernel_rfl) (by kernel_rfl) (by kernel_rfl) (fun _ _ _ h => h) (Or.inl ⟨by rfl, ?hy67⟩) (by assumption) ?rest67
    case hy67 => intro w' hSw; (try dsimp only at hSw); go_simp; try with_reducible rfl
    try simp only [Act.put, List.setIfInBounds_toArray, List.set_cons_zero, List.set_cons_succ]
    refine wpAnyH_take (i := 5) (v := ?v68) (ops_at rfl) (by kernel_rfl) (by kernel_rfl) (by kernel_rfl) (fun _ _ _ h => h) (Or.inl ⟨by rfl, ?hy68⟩) (by assumption) ?rest68
    case hy68 => intro w' hSw; (try dsimp only at hSw); go_simp; try with_reducible rfl
    try simp only [Act.put, List.setIfInBounds_toArray, List.set_cons_zero, List.set_cons_succ]
    refine wpAnyH_take (i := 6) (v := ?v69) (ops_at rfl) (by kernel_rfl) (by kernel_rfl) (by kernel_rfl) (fun _ _ _ h => h) (Or.inl ⟨by rfl, ?hy69⟩) (by assumption) ?rest69
    case hy69 => intro w' hSw; (try dsimp only at hSw); go_simp; try with_reducible rfl
    try simp only [Act.put, List.setIfInBounds_toArray, List.set_cons_zero, List.set_cons_succ]
    refine wpAnyH_take (i := 7) (v := ?v70) (ops_at rfl) (by kernel_rfl) (by kernel_rfl) (by kernel_rfl) (fun _ _ _ h => h) (Or.inl ⟨by rfl, ?hy70⟩) (by assumption) ?rest70
    case hy70 => intro w' hSw; (try dsimp only at hSw); go_simp; try with_reducible rfl
    try simp only [Act.put, List.setIfInBounds_toArray, List.set_cons_zero, List.set_cons_succ]
    refine wpAnyH_take (i := 8) (v := ?v71) (ops_at rfl) (by kernel_rfl) (by kernel_rfl) (by kernel_rfl) (fun _ _ _ h => h) (Or.inl ⟨by rfl, ?hy71⟩) (by assumption) ?rest71
    case hy71 => intro w' hSw; (try dsimp only at hSw); go_simp; try with_reducible rfl
    try simp only [Act.put, List.setIfInBounds_toArray, List.set_cons_zero, List.set_cons_succ]
    refine wpAnyH_take (i := 9) (v := ?v72) (ops_at rfl) (by kernel_rfl) (by kernel_rfl) (by kernel_rfl) (fun _ _ _ h => h) (Or.inl ⟨by rfl, ?hy72⟩) (by assumption) ?rest72
    case hy72 => intro w' hSw; (try dsimp only at hSw); go_simp; try with_reducible rfl
    try simp only [Act.put, List.setIfInBounds_toArray, List.set_cons_zero, List.set_cons_succ]
    refine wpAnyH_take (i := 10) (v := ?v73) (ops_at rfl) (by kernel_rfl) (by kernel_rfl) (by kernel_rfl) (fun _ _ _ h => h) (Or.inl ⟨by rfl, ?hy73⟩) (by assumption) ?rest73
    case hy73 => intro w' hSw; (try dsimp only at hSw); go_simp; try with_reducible rfl
    try simp only [Act.put, List.setIfInBounds_toArray, List.set_cons_zero, List.set_cons_succ]
    refine wpAnyH_take (i := 11) (v := ?v74) (ops_at rfl) (by kernel_rfl) (by kernel_rfl) (by kernel_rfl) (fun _ _ _ h => h) (Or.inl ⟨by rfl, ?hy74⟩) (by assumption) ?rest74
    case hy74 => intro w' hSw; (try dsimp only at hSw); go_simp; try with_reducible rfl
    try simp only [Act.put, List.setIfInBounds_toArray, List.set_cons_zero, List.set_cons_succ]
    refine wpAnyH_take (i := 12) (v := ?v75) (ops_at rfl) (by kernel_rfl) (by kernel_rfl) (by kernel_rfl) (fun _ _ _ h => h) (Or.inl ⟨by rfl, ?hy75⟩) (by assumption) ?rest75
    case hy75 => intro w' hSw; (try dsimp only at hSw); go_simp; try with_reducible rfl
    try simp only [Act.put, List.setIfInBounds_toArray, List.set_cons_zero, List.set_cons_succ]
    refine wpAnyH_take (i := 13) (v := ?v76) (ops_at rfl) (by kernel_rfl) (by kernel_rfl) (by kernel_rfl) (fun _ _ _ h => h) (Or.inl ⟨by rfl, ?hy76⟩) (by assumption) ?rest76
    case hy76 => intro w' hSw; (try dsimp only at hSw); go_simp; try with_reducible rfl
    try simp only [Act.put, List.setIfInBounds_toArray, List.set_cons_zero, List.set_cons_succ]
    refine wpAnyH_take (i := 14) (v := ?v77) (ops_at rfl) (by kernel_rfl) (by kernel_rfl) (by kernel_rfl) (fun _ _ _ h => h) (Or.inl ⟨by rfl, ?hy77⟩) (by assumption) ?rest77
    case hy77 => intro w' hSw; (try dsimp only at hSw); go_simp; try with_reducible rfl
    try simp only [Act.put, List.setIfInBounds_toArray, List.set_cons_zero, List.set_cons_succ]
    refine wpAnyH_take (i := 15) (v := ?v78) (ops_at rfl) (by kernel_rfl) (by kernel_rfl) (by kernel_rfl) (fun _ _ _ h => h) (Or.inl ⟨by rfl, ?hy78⟩) (by assumption) ?rest78
    case hy78 => intro w' hSw; (try dsimp only at hSw); go_simp; try with_reducible rfl
    try simp only [Act.put, List.setIfInBounds_toArray, List.set_cons_zero, List.set_cons_succ]
    refine wpAnyH_take (i := 16) (v := ?v79) (ops_at rfl) (by kernel_rfl) (by kernel_rfl) (by kernel_rfl) (fun _ _ _ h => h) (Or.inl ⟨by rfl, ?hy79⟩) (by assumption) ?rest79
    case hy79 => intro w' hSw; (try dsimp only at hSw); go_simp; try with_reducible rfl
    try simp only [Act.put, List.setIfInBounds_toArray, List.set_cons_zero, List.set_cons_succ]
    refine wpAnyH_take (i := 17) (v := ?v80) (ops_at rfl) (by kernel_rfl) (by kernel_rfl) (by kernel_rfl) (fun _ _ _ h => h) (Or.inl ⟨by rfl, ?hy80⟩) (by assumption) ?rest80
    case hy80 => intro w' hSw; (try dsimp only at hSw); go_simp; try with_reducible rfl
    try simp only [Act.put, List.setIfInBounds_toArray, List.set_cons_zero, List.set_cons_succ]
    refine wpAnyH_take (i := 18) (v := undef) (ops_at rfl) (by kernel_rfl) (by kernel_rfl) (by kernel_rfl) (fun _ _ _ h => h) (Or.inr ⟨by rfl, rfl⟩) (by assumption) ?rest81
    try simp only [Act.put, List.setIfInBounds_toArray, List.set_cons_zero, List.set_cons_succ]
    refine wpAnyH_take (i := 19) (v := undef) (ops_at rfl) (by kernel_rfl) (by kernel_rfl) (by kernel_rfl) (fun _ _ _ h => h) (Or.inr ⟨by rfl, rfl⟩) (by assumption) ?rest82
    try simp only [Act.put, List.setIfInBounds_toArray, List.set_cons_zero, List.set_cons_succ]
    refine wpAnyH_take (i := 20) (v := undef) (ops_at rfl) (by kernel_rfl) (by kernel_rfl) (by kernel_rfl) (fun _ _ _ h => h) (Or.inr ⟨by rfl, rfl⟩) (by assumption) ?rest83
    try simp only [Act.put, List.setIfInBounds_toArray, List.set_cons_zero, List.set_cons_succ]
    refine wpAnyH_take (i := 21) (v := undef) (ops_at rfl) (by kernel_rfl) (by kernel_rfl) (by kernel_rfl) (fun _ _ _ h => h) (Or.inr ⟨by rfl, rfl⟩) (by assumption) ?rest84
    try simp only [Act.put, List.setIfInBounds_toArray, List.set_cons_zero, List.set_cons_succ]
    refine wpAnyH_take (i := 22) (v := undef) (ops_at rfl) (by kernel_rfl) (by kernel_rfl) (by kernel_rfl) (fun _ _ _ h => h) (Or.inr ⟨by rfl, rfl⟩) (by assumption) ?rest85
    try simp only [Act.put, List.setIfInBounds_toArray, List.set_cons_zero, List.set_cons_succ]
    refine wpAnyH_take (i := 23) (v := undef) (ops_at rfl) (by kernel_rfl) (by kernel_rfl) (by kernel_rfl) (fun _ _ _ h => h) (Or.inr ⟨by rfl, rfl⟩) (by assumption) ?rest86
    try simp only [Act.put, List.setIfInBounds_toArray, List.set_cons_zero, List.set_cons_succ]
    refine wpAnyH_take (i := 24) (v := ?v87) (ops_at rfl) (by kernel_rfl) (by kernel_rfl) (by kernel_rfl) (fun _ _ _ h => h) (Or.inl ⟨by rfl, ?hy87⟩) (by assumption) ?rest87
    case hy87 => intro w' hSw; (try dsimp only at hSw); go_simp; try with_reducible rfl
    try simp only [Act.put, List.setIfInBounds_toArray, List.set_cons_zero, List.set_cons_succ]
    refine wpAnyH_take (i := 25) (v := ?v88) (ops_at rfl) (by kernel_rfl) (by kernel_rfl) (by kernel_rfl) (fun _ _ _ h => h) (Or.inl ⟨by rfl, ?hy88⟩) (by assumption) ?rest88
    case hy88 => intro w' hSw; (try dsimp only at hSw); go_simp; try with_reducible rfl
    try simp only [Act.put, List.setIfInBounds_toArray, List.set_cons_zero, List.set_cons_succ]
    refine wpAnyH_done (by kernel_rfl) ?_ _
    go_wp2
    go_end0
    rw [HE.out]
    exact ⟨rfl, ordDrop S3.drew⟩
  have g4 : (a.version == m.version) = true := by simpa using h4
  by_cases h5 : now < m.until_
  case neg =>
    have HE : Hid (oTake a m now = a) := by rw [Hid]; unfold oTake; rw [if_neg h3, if_neg (fun h => h5 h.2.2)]
    have g5 : decide (now < m.until_) = false := decide_eq_false h5
    clear h0 h1 h2 h3 h4 h5
    go_enter Try.func32, Try.ntmps32
    go_wp2_with fail
    refine (agOwn S1 m now sv 1).mono ?_
    rintro e w1 ⟨rfl, S2⟩
    rw [HO.out]
    obtain ⟨y0, y1, y2, y3, y4, y5, y6, y7, y8, y9, y10, y11, y12, y13⟩ := ordCells S2
    clear x0 x1 x2 x3 x4 x5 x6 x7 x8 x9
    go_wp2_with fail
    refine (agOwn S2 m now sv 2).mono ?_
    rintro e w2 ⟨rfl, S3⟩
    rw [HP.out]
    clear y0 y1 y2 y3 y4 y5 y6 y7 y8 y9 y10 y11 y12 y13
    go_wp2_with fail
    refine wp_region_held_drew (S := (fun w' => (w'.cell? ⟨w.heap.size, 0, none⟩ = some (.pointer (some ⟨g, 0, none⟩)) ∧ w'.cell? ⟨w.heap.size, 1, none⟩ = some (.int .i64 m.node) ∧ w'.cell? ⟨w.heap.size, 2, none⟩ = some (.int .i64 m.kind) ∧ w'.cell? ⟨w.heap.size, 3, none⟩ = some (.int .i64 m.term) ∧ w'.cell? ⟨w.heap.size, 4, none⟩ = some (.int .i64 m.gen) ∧ w'.cell? ⟨w.heap.size, 5, none⟩ = some (.int .i64 m.job) ∧ w'.cell? ⟨w.heap.size, 6, none⟩ = some (.int .i64 m.inc) ∧ w'.cell? ⟨w.heap.size, 7, none⟩ = some (.int .i64 m.version) ∧ w'.cell? ⟨w.heap.size, 8, none⟩ = some (.int .i64 m.epoch) ∧ w'.cell? ⟨w.heap.size, 9, none⟩ = some (.int .i64 m.until_) ∧ w'.cell? ⟨w.heap.size, 10, none⟩ = some (.int .i64 m.mode) ∧ w'.cell? ⟨w.heap.size, 11, none⟩ = some (.int .i64 m.work) ∧ w'.cell? ⟨w.heap.size, 12, none⟩ = some (.int .i64 now) ∧ w'.cell? ⟨w.heap.size, 13, none⟩ = some sv) ∧ (w'.cell? ⟨g, 0, none⟩ = some (.bool a.up) ∧ w'.cell? ⟨g, 1, none⟩ = some (.int .i64 a.term) ∧ w'.cell? ⟨g, 2, none⟩ = some (.int .i64 a.gen) ∧ w'.cell? ⟨g, 3, none⟩ = some (.int .i64 a.mode) ∧ w'.cell? ⟨g, 4, none⟩ = some (.int .i64 a.job) ∧ w'.cell? ⟨g, 5, none⟩ = some (.int .i64 a.inc) ∧ w'.cell? ⟨g, 6, none⟩ = some (.int .i64 a.version) ∧ w'.cell? ⟨g, 7, none⟩ = some (.int .i64 a.lease) ∧ w'.cell? ⟨g, 8, none⟩ = some (.int .i64 a.worked) ∧ w'.cell? ⟨g, 9, none⟩ = some (.int .i64 a.to_)))) (by kernel_rfl) (by exact ⟨ordCells S3.drew, agCells S3.drew⟩) (fun hHeld => ?_)
    change wpAnyH _ _ _ _ _ 26 (Array.replicate 26 false) _ _
    refine wpAnyH_take (i := 0) (v := ?v89) (ops_at rfl) (by kernel_rfl) (by kernel_rfl) (by kernel_rfl) (fun _ _ _ h => h) (Or.inl ⟨by rfl, ?hy89⟩) (by assumption) ?rest89
    case hy89 => intro w' hSw; (try dsimp only at hSw); go_simp; try with_reducible rfl
    try simp only [Act.put, List.setIfInBounds_toArray, List.set_cons_zero, List.set_cons_succ]
    refine wpAnyH_take (i := 1) (v := ?v90) (ops_at rfl) (by kernel_rfl) (by kernel_rfl) (by kernel_rfl) (fun _ _ _ h => h) (Or.inl ⟨by rfl, ?hy90⟩) (by assumption) ?rest90
    case hy90 => intro w' hSw; (try dsimp only at hSw); go_simp; try with_reducible rfl
    try simp only [Act.put, List.setIfInBounds_toArray, List.set_cons_zero, List.set_cons_succ]
    refine wpAnyH_take (i := 2) (v := ?v91) (ops_at rfl) (by kernel_rfl) (by kernel_rfl) (by kernel_rfl) (fun _ _ _ h => h) (Or.inl ⟨by rfl, ?hy91⟩) (by assumption) ?rest91
    case hy91 => intro w' hSw; (try dsimp only at hSw); go_simp; try with_reducible rfl
    try simp only [Act.put, List.setIfInBounds_toArray, List.set_cons_zero, List.set_cons_succ]
    refine wpAnyH_take (i := 3) (v := ?v92) (ops_at rfl) (by kernel_rfl) (by kernel_rfl) (by kernel_rfl) (fun _ _ _ h => h) (Or.inl ⟨by rfl, ?hy92⟩) (by assumption) ?rest92
    case hy92 => intro w' hSw; (try dsimp only at hSw); go_simp; try with_reducible rfl
    try simp only [Act.put, List.setIfInBounds_toArray, List.set_cons_zero, List.set_cons_succ]
    refine wpAnyH_take (i := 4) (v := ?v93) (ops_at rfl) (by kernel_rfl) (by kernel_rfl) (by kernel_rfl) (fun _ _ _ h => h) (Or.inl ⟨by rfl, ?hy93⟩) (by assumption) ?rest93
    case hy93 => intro w' hSw; (try dsimp only at hSw); go_simp; try with_reducible rfl
    try simp only [Act.put, List.setIfInBounds_toArray, List.set_cons_zero, List.set_cons_succ]
    refine wpAnyH_take (i := 5) (v := ?v94) (ops_at rfl) (by kernel_rfl) (by kernel_rfl) (by kernel_rfl) (fun _ _ _ h => h) (Or.inl ⟨by rfl, ?hy94⟩) (by assumption) ?rest94
    case hy94 => intro w' hSw; (try dsimp only at hSw); go_simp; try with_reducible rfl
    try simp only [Act.put, List.setIfInBounds_toArray, List.set_cons_zero, List.set_cons_succ]
    refine wpAnyH_take (i := 6) (v := ?v95) (ops_at rfl) (by kernel_rfl) (by kernel_rfl) (by kernel_rfl) (fun _ _ _ h => h) (Or.inl ⟨by rfl, ?hy95⟩) (by assumption) ?rest95
    case hy95 => intro w' hSw; (try dsimp only at hSw); go_simp; try with_reducible rfl
    try simp only [Act.put, List.setIfInBounds_toArray, List.set_cons_zero, List.set_cons_succ]
    refine wpAnyH_take (i := 7) (v := ?v96) (ops_at rfl) (by kernel_rfl) (by kernel_rfl) (by kernel_rfl) (fun _ _ _ h => h) (Or.inl ⟨by rfl, ?hy96⟩) (by assumption) ?rest96
    case hy96 => intro w' hSw; (try dsimp only at hSw); go_simp; try with_reducible rfl
    try simp only [Act.put, List.setIfInBounds_toArray, List.set_cons_zero, List.set_cons_succ]
    refine wpAnyH_take (i := 8) (v := ?v97) (ops_at rfl) (by kernel_rfl) (by kernel_rfl) (by kernel_rfl) (fun _ _ _ h => h) (Or.inl ⟨by rfl, ?hy97⟩) (by assumption) ?rest97
    case hy97 => intro w' hSw; (try dsimp only at hSw); go_simp; try with_reducible rfl
    try simp only [Act.put, List.setIfInBounds_toArray, List.set_cons_zero, List.set_cons_succ]
    refine wpAnyH_take (i := 9) (v := ?v98) (ops_at rfl) (by kernel_rfl) (by kernel_rfl) (by kernel_rfl) (fun _ _ _ h => h) (Or.inl ⟨by rfl, ?hy98⟩) (by assumption) ?rest98
    case hy98 => intro w' hSw; (try dsimp only at hSw); go_simp; try with_reducible rfl
    try simp only [Act.put, List.setIfInBounds_toArray, List.set_cons_zero, List.set_cons_succ]
    refine wpAnyH_take (i := 10) (v := ?v99) (ops_at rfl) (by kernel_rfl) (by kernel_rfl) (by kernel_rfl) (fun _ _ _ h => h) (Or.inl ⟨by rfl, ?hy99⟩) (by assumption) ?rest99
    case hy99 => intro w' hSw; (try dsimp only at hSw); go_simp; try with_reducible rfl
    try simp only [Act.put, List.setIfInBounds_toArray, List.set_cons_zero, List.set_cons_succ]
    refine wpAnyH_take (i := 11) (v := ?v100) (ops_at rfl) (by kernel_rfl) (by kernel_rfl) (by kernel_rfl) (fun _ _ _ h => h) (Or.inl ⟨by rfl, ?hy100⟩) (by assumption) ?rest100
    case hy100 => intro w' hSw; (try dsimp only at hSw); go_simp; try with_reducible rfl
    try simp only [Act.put, List.setIfInBounds_toArray, List.set_cons_zero, List.set_cons_succ]
    refine wpAnyH_take (i := 12) (v := ?v101) (ops_at rfl) (by kernel_rfl) (by kernel_rfl) (by kernel_rfl) (fun _ _ _ h => h) (Or.inl ⟨by rfl, ?hy101⟩) (by assumption) ?rest101
    case hy101 => intro w' hSw; (try dsimp only at hSw); go_simp; try with_reducible rfl
    try simp only [Act.put, List.setIfInBounds_toArray, List.set_cons_zero, List.set_cons_succ]
    refine wpAnyH_take (i := 13) (v := ?v102) (ops_at rfl) (by kernel_rfl) (by kernel_rfl) (by kernel_rfl) (fun _ _ _ h => h) (Or.inl ⟨by rfl, ?hy102⟩) (by assumption) ?rest102
    case hy102 => intro w' hSw; (try dsimp only at hSw); go_simp; try with_reducible rfl
    try simp only [Act.put, List.setIfInBounds_toArray, List.set_cons_zero, List.set_cons_succ]
    refine wpAnyH_take (i := 14) (v := ?v103) (ops_at rfl) (by kernel_rfl) (by kernel_rfl) (by kernel_rfl) (fun _ _ _ h => h) (Or.inl ⟨by rfl, ?hy103⟩) (by assumption) ?rest103
    case hy103 => intro w' hSw; (try dsimp only at hSw); go_simp; try with_reducible rfl
    try simp only [Act.put, List.setIfInBounds_toArray, List.set_cons_zero, List.set_cons_succ]
    refine wpAnyH_take (i := 15) (v := ?v104) (ops_at rfl) (by kernel_rfl) (by kernel_rfl) (by kernel_rfl) (fun _ _ _ h => h) (Or.inl ⟨by rfl, ?hy104⟩) (by assumption) ?rest104
    case hy104 => intro w' hSw; (try dsimp only at hSw); go_simp; try with_reducible rfl
    try simp only [Act.put, List.setIfInBounds_toArray, List.set_cons_zero, List.set_cons_succ]
    refine wpAnyH_take (i := 16) (v := ?v105) (ops_at rfl) (by kernel_rfl) (by kernel_rfl) (by kernel_rfl) (fun _ _ _ h => h) (Or.inl ⟨by rfl, ?hy105⟩) (by assumption) ?rest105
    case hy105 => intro w' hSw; (try dsimp only at hSw); go_simp; try with_reducible rfl
    try simp only [Act.put, List.setIfInBounds_toArray, List.set_cons_zero, List.set_cons_succ]
    refine wpAnyH_take (i := 17) (v := ?v106) (ops_at rfl) (by kernel_rfl) (by kernel_rfl) (by kernel_rfl) (fun _ _ _ h => h) (Or.inl ⟨by rfl, ?hy106⟩) (by assumption) ?rest106
    case hy106 => intro w' hSw; (try dsimp only at hSw); go_simp; try with_reducible rfl
    try simp only [Act.put, List.setIfInBounds_toArray, List.set_cons_zero, List.set_cons_succ]
    refine wpAnyH_take (i := 18) (v := ?v107) (ops_at rfl) (by kernel_rfl) (by kernel_rfl) (by kernel_rfl) (fun _ _ _ h => h) (Or.inl ⟨by rfl, ?hy107⟩) (by assumption) ?rest107
    case hy107 => intro w' hSw; (try dsimp only at hSw); go_simp; try with_reducible rfl
    try simp only [Act.put, List.setIfInBounds_toArray, List.set_cons_zero, List.set_cons_succ]
    refine wpAnyH_take (i := 19) (v := ?v108) (ops_at rfl) (by kernel_rfl) (by kernel_rfl) (by kernel_rfl) (fun _ _ _ h => h) (Or.inl ⟨by rfl, ?hy108⟩) (by assumption) ?rest108
    case hy108 => intro w' hSw; (try dsimp only at hSw); go_simp; try with_reducible rfl
    try simp only [Act.put, List.setIfInBounds_toArray, List.set_cons_zero, List.set_cons_succ]
    refine wpAnyH_take (i := 20) (v := ?v109) (ops_at rfl) (by kernel_rfl) (by kernel_rfl) (by kernel_rfl) (fun _ _ _ h => h) (Or.inl ⟨by rfl, ?hy109⟩) (by assumption) ?rest109
    case hy109 => intro w' hSw; (try dsimp only at hSw); go_simp; try with_reducible rfl
    try simp only [Act.put, List.setIfInBounds_toArray, List.set_cons_zero, List.set_cons_succ]
    refine wpAnyH_take (i := 21) (v := ?v110) (ops_at rfl) (by kernel_rfl) (by kernel_rfl) (by kernel_rfl) (fun _ _ _ h => h) (Or.inl ⟨by rfl, ?hy110⟩) (by assumption) ?rest110
    case hy110 => intro w' hSw; (try dsimp only at hSw); go_simp; try with_reducible rfl
    try simp only [Act.put, List.setIfInBounds_toArray, List.set_cons_zero, List.set_cons_succ]
    refine wpAnyH_take (i := 22) (v := ?v111) (ops_at rfl) (by kernel_rfl) (by kernel_rfl) (by kernel_rfl) (fun _ _ _ h => h) (Or.inl ⟨by rfl, ?hy111⟩) (by assumption) ?rest111
    case hy111 => intro w' hSw; (try dsimp only at hSw); go_simp; try with_reducible rfl
    try simp only [Act.put, List.setIfInBounds_toArray, List.set_cons_zero, List.set_cons_succ]
    refine wpAnyH_take (i := 23) (v := ?v112) (ops_at rfl) (by kernel_rfl) (by kernel_rfl) (by kernel_rfl) (fun _ _ _ h => h) (Or.inl ⟨by rfl, ?hy112⟩) (by assumption) ?rest112
    case hy112 => intro w' hSw; (try dsimp only at hSw); go_simp; try with_reducible rfl
    try simp only [Act.put, List.setIfInBounds_toArray, List.set_cons_zero, List.set_cons_succ]
    refine wpAnyH_take (i := 24) (v := ?v113) (ops_at rfl) (by kernel_rfl) (by kernel_rfl) (by kernel_rfl) (fun _ _ _ h => h) (Or.inl ⟨by rfl, ?hy113⟩) (by assumption) ?rest113
    case hy113 => intro w' hSw; (try dsimp only at hSw); go_simp; try with_reducible rfl
    try simp only [Act.put, List.setIfInBounds_toArray, List.set_cons_zero, List.set_cons_succ]
    refine wpAnyH_take (i := 25) (v := ?v114) (ops_at rfl) (by kernel_rfl) (by kernel_rfl) (by kernel_rfl) (fun _ _ _ h => h) (Or.inl ⟨by rfl, ?hy114⟩) (by assumption) ?rest114
    case hy114 => intro w' hSw; (try dsimp only at hSw); go_simp; try with_reducible rfl
    try simp only [Act.put, List.setIfInBounds_toArray, List.set_cons_zero, List.set_cons_succ]
    refine wpAnyH_done (by kernel_rfl) ?_ _
    go_wp2
    go_end0
    rw [HE.out]
    exact ⟨rfl, ordDrop S3.drew⟩
  have HE : Hid (oTake a m now = { a with mode := 1, job := m.job, inc := m.inc, lease := m.until_ }) := by rw [Hid]; unfold oTake; rw [if_neg h3, if_pos ⟨h0, h4, h5⟩]
  have g5 : decide (now < m.until_) = true := decide_eq_true h5
  clear h0 h1 h2 h3 h4 h5
  go_enter Try.func32, Try.ntmps32
  go_wp2_with fail
  refine (agOwn S1 m now sv 1).mono ?_
  rintro e w1 ⟨rfl, S2⟩
  rw [HO.out]
  obtain ⟨y0, y1, y2, y3, y4, y5, y6, y7, y8, y9, y10, y11, y12, y13⟩ := ordCells S2
  clear x0 x1 x2 x3 x4 x5 x6 x7 x8 x9
  go_wp2_with fail
  refine (agOwn S2 m now sv 2).mono ?_
  rintro e w2 ⟨rfl, S3⟩
  rw [HP.out]
  clear y0 y1 y2 y3 y4 y5 y6 y7 y8 y9 y10 y11 y12 y13
  go_wp2_with fail
  refine wp_region_held_drew (S := (fun w' => (w'.cell? ⟨w.heap.size, 0, none⟩ = some (.pointer (some ⟨g, 0, none⟩)) ∧ w'.cell? ⟨w.heap.size, 1, none⟩ = some (.int .i64 m.node) ∧ w'.cell? ⟨w.heap.size, 2, none⟩ = some (.int .i64 m.kind) ∧ w'.cell? ⟨w.heap.size, 3, none⟩ = some (.int .i64 m.term) ∧ w'.cell? ⟨w.heap.size, 4, none⟩ = some (.int .i64 m.gen) ∧ w'.cell? ⟨w.heap.size, 5, none⟩ = some (.int .i64 m.job) ∧ w'.cell? ⟨w.heap.size, 6, none⟩ = some (.int .i64 m.inc) ∧ w'.cell? ⟨w.heap.size, 7, none⟩ = some (.int .i64 m.version) ∧ w'.cell? ⟨w.heap.size, 8, none⟩ = some (.int .i64 m.epoch) ∧ w'.cell? ⟨w.heap.size, 9, none⟩ = some (.int .i64 m.until_) ∧ w'.cell? ⟨w.heap.size, 10, none⟩ = some (.int .i64 m.mode) ∧ w'.cell? ⟨w.heap.size, 11, none⟩ = some (.int .i64 m.work) ∧ w'.cell? ⟨w.heap.size, 12, none⟩ = some (.int .i64 now) ∧ w'.cell? ⟨w.heap.size, 13, none⟩ = some sv) ∧ (w'.cell? ⟨g, 0, none⟩ = some (.bool a.up) ∧ w'.cell? ⟨g, 1, none⟩ = some (.int .i64 a.term) ∧ w'.cell? ⟨g, 2, none⟩ = some (.int .i64 a.gen) ∧ w'.cell? ⟨g, 3, none⟩ = some (.int .i64 a.mode) ∧ w'.cell? ⟨g, 4, none⟩ = some (.int .i64 a.job) ∧ w'.cell? ⟨g, 5, none⟩ = some (.int .i64 a.inc) ∧ w'.cell? ⟨g, 6, none⟩ = some (.int .i64 a.version) ∧ w'.cell? ⟨g, 7, none⟩ = some (.int .i64 a.lease) ∧ w'.cell? ⟨g, 8, none⟩ = some (.int .i64 a.worked) ∧ w'.cell? ⟨g, 9, none⟩ = some (.int .i64 a.to_)))) (by kernel_rfl) (by exact ⟨ordCells S3.drew, agCells S3.drew⟩) (fun hHeld => ?_)
  change wpAnyH _ _ _ _ _ 26 (Array.replicate 26 false) _ _
  refine wpAnyH_take (i := 0) (v := ?v115) (ops_at rfl) (by kernel_rfl) (by kernel_rfl) (by kernel_rfl) (fun _ _ _ h => h) (Or.inl ⟨by rfl, ?hy115⟩) (by assumption) ?rest115
  case hy115 => intro w' hSw; (try dsimp only at hSw); go_simp; try with_reducible rfl
  try simp only [Act.put, List.setIfInBounds_toArray, List.set_cons_zero, List.set_cons_succ]
  refine wpAnyH_take (i := 1) (v := ?v116) (ops_at rfl) (by kernel_rfl) (by kernel_rfl) (by kernel_rfl) (fun _ _ _ h => h) (Or.inl ⟨by rfl, ?hy116⟩) (by assumption) ?rest116
  case hy116 => intro w' hSw; (try dsimp only at hSw); go_simp; try with_reducible rfl
  try simp only [Act.put, List.setIfInBounds_toArray, List.set_cons_zero, List.set_cons_succ]
  refine wpAnyH_take (i := 2) (v := ?v117) (ops_at rfl) (by kernel_rfl) (by kernel_rfl) (by kernel_rfl) (fun _ _ _ h => h) (Or.inl ⟨by rfl, ?hy117⟩) (by assumption) ?rest117
  case hy117 => intro w' hSw; (try dsimp only at hSw); go_simp; try with_reducible rfl
  try simp only [Act.put, List.setIfInBounds_toArray, List.set_cons_zero, List.set_cons_succ]
  refine wpAnyH_take (i := 3) (v := ?v118) (ops_at rfl) (by kernel_rfl) (by kernel_rfl) (by kernel_rfl) (fun _ _ _ h => h) (Or.inl ⟨by rfl, ?hy118⟩) (by assumption) ?rest118
  case hy118 => intro w' hSw; (try dsimp only at hSw); go_simp; try with_reducible rfl
  try simp only [Act.put, List.setIfInBounds_toArray, List.set_cons_zero, List.set_cons_succ]
  refine wpAnyH_take (i := 4) (v := ?v119) (ops_at rfl) (by kernel_rfl) (by kernel_rfl) (by kernel_rfl) (fun _ _ _ h => h) (Or.inl ⟨by rfl, ?hy119⟩) (by assumption) ?rest119
  case hy119 => intro w' hSw; (try dsimp only at hSw); go_simp; try with_reducible rfl
  try simp only [Act.put, List.setIfInBounds_toArray, List.set_cons_zero, List.set_cons_succ]
  refine wpAnyH_take (i := 5) (v := ?v120) (ops_at rfl) (by kernel_rfl) (by kernel_rfl) (by kernel_rfl) (fun _ _ _ h => h) (Or.inl ⟨by rfl, ?hy120⟩) (by assumption) ?rest120
  case hy120 => intro w' hSw; (try dsimp only at hSw); go_simp; try with_reducible rfl
  try simp only [Act.put, List.setIfInBounds_toArray, List.set_cons_zero, List.set_cons_succ]
  refine wpAnyH_take (i := 6) (v := ?v121) (ops_at rfl) (by kernel_rfl) (by kernel_rfl) (by kernel_rfl) (fun _ _ _ h => h) (Or.inl ⟨by rfl, ?hy121⟩) (by assumption) ?rest121
  case hy121 => intro w' hSw; (try dsimp only at hSw); go_simp; try with_reducible rfl
  try simp only [Act.put, List.setIfInBounds_toArray, List.set_cons_zero, List.set_cons_succ]
  refine wpAnyH_take (i := 7) (v := ?v122) (ops_at rfl) (by kernel_rfl) (by kernel_rfl) (by kernel_rfl) (fun _ _ _ h => h) (Or.inl ⟨by rfl, ?hy122⟩) (by assumption) ?rest122
  case hy122 => intro w' hSw; (try dsimp only at hSw); go_simp; try with_reducible rfl
  try simp only [Act.put, List.setIfInBounds_toArray, List.set_cons_zero, List.set_cons_succ]
  refine wpAnyH_take (i := 8) (v := ?v123) (ops_at rfl) (by kernel_rfl) (by kernel_rfl) (by kernel_rfl) (fun _ _ _ h => h) (Or.inl ⟨by rfl, ?hy123⟩) (by assumption) ?rest123
  case hy123 => intro w' hSw; (try dsimp only at hSw); go_simp; try with_reducible rfl
  try simp only [Act.put, List.setIfInBounds_toArray, List.set_cons_zero, List.set_cons_succ]
  refine wpAnyH_take (i := 9) (v := ?v124) (ops_at rfl) (by kernel_rfl) (by kernel_rfl) (by kernel_rfl) (fun _ _ _ h => h) (Or.inl ⟨by rfl, ?hy124⟩) (by assumption) ?rest124
  case hy124 => intro w' hSw; (try dsimp only at hSw); go_simp; try with_reducible rfl
  try simp only [Act.put, List.setIfInBounds_toArray, List.set_cons_zero, List.set_cons_succ]
  refine wpAnyH_take (i := 10) (v := ?v125) (ops_at rfl) (by kernel_rfl) (by kernel_rfl) (by kernel_rfl) (fun _ _ _ h => h) (Or.inl ⟨by rfl, ?hy125⟩) (by assumption) ?rest125
  case hy125 => intro w' hSw; (try dsimp only at hSw); go_simp; try with_reducible rfl
  try simp only [Act.put, List.setIfInBounds_toArray, List.set_cons_zero, List.set_cons_succ]
  refine wpAnyH_take (i := 11) (v := ?v126) (ops_at rfl) (by kernel_rfl) (by kernel_rfl) (by kernel_rfl) (fun _ _ _ h => h) (Or.inl ⟨by rfl, ?hy126⟩) (by assumption) ?rest126
  case hy126 => intro w' hSw; (try dsimp only at hSw); go_simp; try with_reducible rfl
  try simp only [Act.put, List.setIfInBounds_toArray, List.set_cons_zero, List.set_cons_succ]
  refine wpAnyH_take (i := 12) (v := ?v127) (ops_at rfl) (by kernel_rfl) (by kernel_rfl) (by kernel_rfl) (fun _ _ _ h => h) (Or.inl ⟨by rfl, ?hy127⟩) (by assumption) ?rest127
  case hy127 => intro w' hSw; (try dsimp only at hSw); go_simp; try with_reducible rfl
  try simp only [Act.put, List.setIfInBounds_toArray, List.set_cons_zero, List.set_cons_succ]
  refine wpAnyH_take (i := 13) (v := ?v128) (ops_at rfl) (by kernel_rfl) (by kernel_rfl) (by kernel_rfl) (fun _ _ _ h => h) (Or.inl ⟨by rfl, ?hy128⟩) (by assumption) ?rest128
  case hy128 => intro w' hSw; (try dsimp only at hSw); go_simp; try with_reducible rfl
  try simp only [Act.put, List.setIfInBounds_toArray, List.set_cons_zero, List.set_cons_succ]
  refine wpAnyH_take (i := 14) (v := ?v129) (ops_at rfl) (by kernel_rfl) (by kernel_rfl) (by kernel_rfl) (fun _ _ _ h => h) (Or.inl ⟨by rfl, ?hy129⟩) (by assumption) ?rest129
  case hy129 => intro w' hSw; (try dsimp only at hSw); go_simp; try with_reducible rfl
  try simp only [Act.put, List.setIfInBounds_toArray, List.set_cons_zero, List.set_cons_succ]
  refine wpAnyH_take (i := 15) (v := ?v130) (ops_at rfl) (by kernel_rfl) (by kernel_rfl) (by kernel_rfl) (fun _ _ _ h => h) (Or.inl ⟨by rfl, ?hy130⟩) (by assumption) ?rest130
  case hy130 => intro w' hSw; (try dsimp only at hSw); go_simp; try with_reducible rfl
  try simp only [Act.put, List.setIfInBounds_toArray, List.set_cons_zero, List.set_cons_succ]
  refine wpAnyH_take (i := 16) (v := ?v131) (ops_at rfl) (by kernel_rfl) (by kernel_rfl) (by kernel_rfl) (fun _ _ _ h => h) (Or.inl ⟨by rfl, ?hy131⟩) (by assumption) ?rest131
  case hy131 => intro w' hSw; (try dsimp only at hSw); go_simp; try with_reducible rfl
  try simp only [Act.put, List.setIfInBounds_toArray, List.set_cons_zero, List.set_cons_succ]
  refine wpAnyH_take (i := 17) (v := ?v132) (ops_at rfl) (by kernel_rfl) (by kernel_rfl) (by kernel_rfl) (fun _ _ _ h => h) (Or.inl ⟨by rfl, ?hy132⟩) (by assumption) ?rest132
  case hy132 => intro w' hSw; (try dsimp only at hSw); go_simp; try with_reducible rfl
  try simp only [Act.put, List.setIfInBounds_toArray, List.set_cons_zero, List.set_cons_succ]
  refine wpAnyH_take (i := 18) (v := ?v133) (ops_at rfl) (by kernel_rfl) (by kernel_rfl) (by kernel_rfl) (fun _ _ _ h => h) (Or.inl ⟨by rfl, ?hy133⟩) (by assumption) ?rest133
  case hy133 => intro w' hSw; (try dsimp only at hSw); go_simp; try with_reducible rfl
  try simp only [Act.put, List.setIfInBounds_toArray, List.set_cons_zero, List.set_cons_succ]
  refine wpAnyH_take (i := 19) (v := ?v134) (ops_at rfl) (by kernel_rfl) (by kernel_rfl) (by kernel_rfl) (fun _ _ _ h => h) (Or.inl ⟨by rfl, ?hy134⟩) (by assumption) ?rest134
  case hy134 => intro w' hSw; (try dsimp only at hSw); go_simp; try with_reducible rfl
  try simp only [Act.put, List.setIfInBounds_toArray, List.set_cons_zero, List.set_cons_succ]
  refine wpAnyH_take (i := 20) (v := ?v135) (ops_at rfl) (by kernel_rfl) (by kernel_rfl) (by kernel_rfl) (fun _ _ _ h => h) (Or.inl ⟨by rfl, ?hy135⟩) (by assumption) ?rest135
  case hy135 => intro w' hSw; (try dsimp only at hSw); go_simp; try with_reducible rfl
  try simp only [Act.put, List.setIfInBounds_toArray, List.set_cons_zero, List.set_cons_succ]
  refine wpAnyH_take (i := 21) (v := ?v136) (ops_at rfl) (by kernel_rfl) (by kernel_rfl) (by kernel_rfl) (fun _ _ _ h => h) (Or.inl ⟨by rfl, ?hy136⟩) (by assumption) ?rest136
  case hy136 => intro w' hSw; (try dsimp only at hSw); go_simp; try with_reducible rfl
  try simp only [Act.put, List.setIfInBounds_toArray, List.set_cons_zero, List.set_cons_succ]
  refine wpAnyH_take (i := 22) (v := ?v137) (ops_at rfl) (by kernel_rfl) (by kernel_rfl) (by kernel_rfl) (fun _ _ _ h => h) (Or.inl ⟨by rfl, ?hy137⟩) (by assumption) ?rest137
  case hy137 => intro w' hSw; (try dsimp only at hSw); go_simp; try with_reducible rfl
  try simp only [Act.put, List.setIfInBounds_toArray, List.set_cons_zero, List.set_cons_succ]
  refine wpAnyH_take (i := 23) (v := ?v138) (ops_at rfl) (by kernel_rfl) (by kernel_rfl) (by kernel_rfl) (fun _ _ _ h => h) (Or.inl ⟨by rfl, ?hy138⟩) (by assumption) ?rest138
  case hy138 => intro w' hSw; (try dsimp only at hSw); go_simp; try with_reducible rfl
  try simp only [Act.put, List.setIfInBounds_toArray, List.set_cons_zero, List.set_cons_succ]
  refine wpAnyH_take (i := 24) (v := ?v139) (ops_at rfl) (by kernel_rfl) (by kernel_rfl) (by kernel_rfl) (fun _ _ _ h => h) (Or.inl ⟨by rfl, ?hy139⟩) (by assumption) ?rest139
  case hy139 => intro w' hSw; (try dsimp only at hSw); go_simp; try with_reducible rfl
  try simp only [Act.put, List.setIfInBounds_toArray, List.set_cons_zero, List.set_cons_succ]
  refine wpAnyH_take (i := 25) (v := ?v140) (ops_at rfl) (by kernel_rfl) (by kernel_rfl) (by kernel_rfl) (fun _ _ _ h => h) (Or.inl ⟨by rfl, ?hy140⟩) (by assumption) ?rest140
  case hy140 => intro w' hSw; (try dsimp only at hSw); go_simp; try with_reducible rfl
  try simp only [Act.put, List.setIfInBounds_toArray, List.set_cons_zero, List.set_cons_succ]
  refine wpAnyH_done (by kernel_rfl) ?_ _
  go_wp2_with fail
  obtain ⟨x0, x1, x2, x3, x4, x5, x6, x7, x8, x9⟩ := agCells S3
  obtain ⟨f3, f4, f5, f7, f8, f9⟩ := agFree S3
  have S4 : St w0 _ (cellsT g 23 ({ a with mode := 1 } : AG).cs :: (tl ++ [cellsT w.heap.size 70 (#[.pointer (some ⟨g, 0, none⟩), .int .i64 m.node, .int .i64 m.kind, .int .i64 m.term, .int .i64 m.gen, .int .i64 m.job, .int .i64 m.inc, .int .i64 m.version, .int .i64 m.epoch, .int .i64 m.until_, .int .i64 m.mode, .int .i64 m.work, .int .i64 now, sv] : Array Value).toList])) := S3.setCell 0 rfl 3 (.int .i64 1)
  have S5 : St w0 _ (cellsT g 23 ({ a with mode := 1, job := m.job } : AG).cs :: (tl ++ [cellsT w.heap.size 70 (#[.pointer (some ⟨g, 0, none⟩), .int .i64 m.node, .int .i64 m.kind, .int .i64 m.term, .int .i64 m.gen, .int .i64 m.job, .int .i64 m.inc, .int .i64 m.version, .int .i64 m.epoch, .int .i64 m.until_, .int .i64 m.mode, .int .i64 m.work, .int .i64 now, sv] : Array Value).toList])) := S4.setCell 0 rfl 4 (.int .i64 m.job)
  have S6 : St w0 _ (cellsT g 23 ({ a with mode := 1, job := m.job, inc := m.inc } : AG).cs :: (tl ++ [cellsT w.heap.size 70 (#[.pointer (some ⟨g, 0, none⟩), .int .i64 m.node, .int .i64 m.kind, .int .i64 m.term, .int .i64 m.gen, .int .i64 m.job, .int .i64 m.inc, .int .i64 m.version, .int .i64 m.epoch, .int .i64 m.until_, .int .i64 m.mode, .int .i64 m.work, .int .i64 now, sv] : Array Value).toList])) := S5.setCell 0 rfl 5 (.int .i64 m.inc)
  have S7 : St w0 _ (cellsT g 23 ({ a with mode := 1, job := m.job, inc := m.inc, lease := m.until_ } : AG).cs :: (tl ++ [cellsT w.heap.size 70 (#[.pointer (some ⟨g, 0, none⟩), .int .i64 m.node, .int .i64 m.kind, .int .i64 m.term, .int .i64 m.gen, .int .i64 m.job, .int .i64 m.inc, .int .i64 m.version, .int .i64 m.epoch, .int .i64 m.until_, .int .i64 m.mode, .int .i64 m.work, .int .i64 now, sv] : Array Value).toList])) := S6.setCell 0 rfl 7 (.int .i64 m.until_)
  have S8 := hid (ordDrop S7.drew.drew)
  refine wp_region_held_drew (S := (fun w' => (w'.cell? ⟨w.heap.size, 0, none⟩ = some (.pointer (some ⟨g, 0, none⟩)) ∧ w'.cell? ⟨w.heap.size, 1, none⟩ = some (.int .i64 m.node) ∧ w'.cell? ⟨w.heap.size, 2, none⟩ = some (.int .i64 m.kind) ∧ w'.cell? ⟨w.heap.size, 3, none⟩ = some (.int .i64 m.term) ∧ w'.cell? ⟨w.heap.size, 4, none⟩ = some (.int .i64 m.gen) ∧ w'.cell? ⟨w.heap.size, 5, none⟩ = some (.int .i64 m.job) ∧ w'.cell? ⟨w.heap.size, 6, none⟩ = some (.int .i64 m.inc) ∧ w'.cell? ⟨w.heap.size, 7, none⟩ = some (.int .i64 m.version) ∧ w'.cell? ⟨w.heap.size, 8, none⟩ = some (.int .i64 m.epoch) ∧ w'.cell? ⟨w.heap.size, 9, none⟩ = some (.int .i64 m.until_) ∧ w'.cell? ⟨w.heap.size, 10, none⟩ = some (.int .i64 m.mode) ∧ w'.cell? ⟨w.heap.size, 11, none⟩ = some (.int .i64 m.work) ∧ w'.cell? ⟨w.heap.size, 12, none⟩ = some (.int .i64 now) ∧ w'.cell? ⟨w.heap.size, 13, none⟩ = some sv))) (by kernel_rfl) (by exact ordCells S3.drew.drew) (fun hHeld => ?_)
  change wpAnyH _ _ _ _ _ 29 (Array.replicate 29 false) _ _
  refine wpAnyH_take (i := 0) (v := ?v141) (ops_at rfl) (by kernel_rfl) (by kernel_rfl) (by kernel_rfl) (fun _ _ _ h => h) (Or.inl ⟨by rfl, ?hy141⟩) (by assumption) ?rest141
  case hy141 => intro w' hSw; (try dsimp only at hSw); go_simp; try with_reducible rfl
  try simp only [Act.put, List.setIfInBounds_toArray, List.set_cons_zero, List.set_cons_succ]
  refine wpAnyH_take (i := 1) (v := ?v142) (ops_at rfl) (by kernel_rfl) (by kernel_rfl) (by kernel_rfl) (fun _ _ _ h => h) (Or.inl ⟨by rfl, ?hy142⟩) (by assumption) ?rest142
  case hy142 => intro w' hSw; (try dsimp only at hSw); go_simp; try with_reducible rfl
  try simp only [Act.put, List.setIfInBounds_toArray, List.set_cons_zero, List.set_cons_succ]
  refine wpAnyH_take (i := 2) (v := ?v143) (ops_at rfl) (by kernel_rfl) (by kernel_rfl) (by kernel_rfl) (fun _ _ _ h => h) (Or.inl ⟨by rfl, ?hy143⟩) (by assumption) ?rest143
  case hy143 => intro w' hSw; (try dsimp only at hSw); go_simp; try with_reducible rfl
  try simp only [Act.put, List.setIfInBounds_toArray, List.set_cons_zero, List.set_cons_succ]
  refine wpAnyH_take (i := 3) (v := ?v144) (ops_at rfl) (by kernel_rfl) (by kernel_rfl) (by kernel_rfl) (fun _ _ _ h => h) (Or.inl ⟨by rfl, ?hy144⟩) (by assumption) ?rest144
  case hy144 => intro w' hSw; (try dsimp only at hSw); go_simp; try with_reducible rfl
  try simp only [Act.put, List.setIfInBounds_toArray, List.set_cons_zero, List.set_cons_succ]
  refine wpAnyH_take (i := 4) (v := ?v145) (ops_at rfl) (by kernel_rfl) (by kernel_rfl) (by kernel_rfl) (fun _ _ _ h => h) (Or.inl ⟨by rfl, ?hy145⟩) (by assumption) ?rest145
  case hy145 => intro w' hSw; (try dsimp only at hSw); go_simp; try with_reducible rfl
  try simp only [Act.put, List.setIfInBounds_toArray, List.set_cons_zero, List.set_cons_succ]
  refine wpAnyH_take (i := 5) (v := ?v146) (ops_at rfl) (by kernel_rfl) (by kernel_rfl) (by kernel_rfl) (fun _ _ _ h => h) (Or.inl ⟨by rfl, ?hy146⟩) (by assumption) ?rest146
  case hy146 => intro w' hSw; (try dsimp only at hSw); go_simp; try with_reducible rfl
  try simp only [Act.put, List.setIfInBounds_toArray, List.set_cons_zero, List.set_cons_succ]
  refine wpAnyH_take (i := 6) (v := ?v147) (ops_at rfl) (by kernel_rfl) (by kernel_rfl) (by kernel_rfl) (fun _ _ _ h => h) (Or.inl ⟨by rfl, ?hy147⟩) (by assumption) ?rest147
  case hy147 => intro w' hSw; (try dsimp only at hSw); go_simp; try with_reducible rfl
  try simp only [Act.put, List.setIfInBounds_toArray, List.set_cons_zero, List.set_cons_succ]
  refine wpAnyH_take (i := 7) (v := ?v148) (ops_at rfl) (by kernel_rfl) (by kernel_rfl) (by kernel_rfl) (fun _ _ _ h => h) (Or.inl ⟨by rfl, ?hy148⟩) (by assumption) ?rest148
  case hy148 => intro w' hSw; (try dsimp only at hSw); go_simp; try with_reducible rfl
  try simp only [Act.put, List.setIfInBounds_toArray, List.set_cons_zero, List.set_cons_succ]
  refine wpAnyH_take (i := 8) (v := ?v149) (ops_at rfl) (by kernel_rfl) (by kernel_rfl) (by kernel_rfl) (fun _ _ _ h => h) (Or.inl ⟨by rfl, ?hy149⟩) (by assumption) ?rest149
  case hy149 => intro w' hSw; (try dsimp only at hSw); go_simp; try with_reducible rfl
  try simp only [Act.put, List.setIfInBounds_toArray, List.set_cons_zero, List.set_cons_succ]
  refine wpAnyH_take (i := 9) (v := ?v150) (ops_at rfl) (by kernel_rfl) (by kernel_rfl) (by kernel_rfl) (fun _ _ _ h => h) (Or.inl ⟨by rfl, ?hy150⟩) (by assumption) ?rest150
  case hy150 => intro w' hSw; (try dsimp only at hSw); go_simp; try with_reducible rfl
  try simp only [Act.put, List.setIfInBounds_toArray, List.set_cons_zero, List.set_cons_succ]
  refine wpAnyH_take (i := 10) (v := ?v151) (ops_at rfl) (by kernel_rfl) (by kernel_rfl) (by kernel_rfl) (fun _ _ _ h => h) (Or.inl ⟨by rfl, ?hy151⟩) (by assumption) ?rest151
  case hy151 => intro w' hSw; (try dsimp only at hSw); go_simp; try with_reducible rfl
  try simp only [Act.put, List.setIfInBounds_toArray, List.set_cons_zero, List.set_cons_succ]
  refine wpAnyH_take (i := 11) (v := ?v152) (ops_at rfl) (by kernel_rfl) (by kernel_rfl) (by kernel_rfl) (fun _ _ _ h => h) (Or.inl ⟨by rfl, ?hy152⟩) (by assumption) ?rest152
  case hy152 => intro w' hSw; (try dsimp only at hSw); go_simp; try with_reducible rfl
  try simp only [Act.put, List.setIfInBounds_toArray, List.set_cons_zero, List.set_cons_succ]
  refine wpAnyH_take (i := 12) (v := ?v153) (ops_at rfl) (by kernel_rfl) (by kernel_rfl) (by kernel_rfl) (fun _ _ _ h => h) (Or.inl ⟨by rfl, ?hy153⟩) (by assumption) ?rest153
  case hy153 => intro w' hSw; (try dsimp only at hSw); go_simp; try with_reducible rfl
  try simp only [Act.put, List.setIfInBounds_toArray, List.set_cons_zero, List.set_cons_succ]
  refine wpAnyH_take (i := 13) (v := ?v154) (ops_at rfl) (by kernel_rfl) (by kernel_rfl) (by kernel_rfl) (fun _ _ _ h => h) (Or.inl ⟨by rfl, ?hy154⟩) (by assumption) ?rest154
  case hy154 => intro w' hSw; (try dsimp only at hSw); go_simp; try with_reducible rfl
  try simp only [Act.put, List.setIfInBounds_toArray, List.set_cons_zero, List.set_cons_succ]
  refine wpAnyH_take (i := 14) (v := ?v155) (ops_at rfl) (by kernel_rfl) (by kernel_rfl) (by kernel_rfl) (fun _ _ _ h => h) (Or.inl ⟨by rfl, ?hy155⟩) (by assumption) ?rest155
  case hy155 => intro w' hSw; (try dsimp only at hSw); go_simp; try with_reducible rfl
  try simp only [Act.put, List.setIfInBounds_toArray, List.set_cons_zero, List.set_cons_succ]
  refine wpAnyH_take (i := 15) (v := ?v156) (ops_at rfl) (by kernel_rfl) (by kernel_rfl) (by kernel_rfl) (fun _ _ _ h => h) (Or.inl ⟨by rfl, ?hy156⟩) (by assumption) ?rest156
  case hy156 => intro w' hSw; (try dsimp only at hSw); go_simp; try with_reducible rfl
  try simp only [Act.put, List.setIfInBounds_toArray, List.set_cons_zero, List.set_cons_succ]
  refine wpAnyH_take (i := 16) (v := ?v157) (ops_at rfl) (by kernel_rfl) (by kernel_rfl) (by kernel_rfl) (fun _ _ _ h => h) (Or.inl ⟨by rfl, ?hy157⟩) (by assumption) ?rest157
  case hy157 => intro w' hSw; (try dsimp only at hSw); go_simp; try with_reducible rfl
  try simp only [Act.put, List.setIfInBounds_toArray, List.set_cons_zero, List.set_cons_succ]
  refine wpAnyH_take (i := 17) (v := ?v158) (ops_at rfl) (by kernel_rfl) (by kernel_rfl) (by kernel_rfl) (fun _ _ _ h => h) (Or.inl ⟨by rfl, ?hy158⟩) (by assumption) ?rest158
  case hy158 => intro w' hSw; (try dsimp only at hSw); go_simp; try with_reducible rfl
  try simp only [Act.put, List.setIfInBounds_toArray, List.set_cons_zero, List.set_cons_succ]
  refine wpAnyH_take (i := 18) (v := ?v159) (ops_at rfl) (by kernel_rfl) (by kernel_rfl) (by kernel_rfl) (fun _ _ _ h => h) (Or.inl ⟨by rfl, ?hy159⟩) (by assumption) ?rest159
  case hy159 => intro w' hSw; (try dsimp only at hSw); go_simp; try with_reducible rfl
  try simp only [Act.put, List.setIfInBounds_toArray, List.set_cons_zero, List.set_cons_succ]
  refine wpAnyH_ready (rs := [19]) (by kernel_rfl) (by simp) ?_
  refine AllReadyH.cons (ops_at rfl) (fun K hK => ?_) AllReadyH.nil
  go_simp
  refine hK.out _ _ (by exact ordCells S4.drew.drew) (fun hHeld => ?_)
  clear hK K
  try simp only [Act.put, List.setIfInBounds_toArray, List.set_cons_zero, List.set_cons_succ]
  refine wpAnyH_take (i := 20) (v := ?v160) (ops_at rfl) (by kernel_rfl) (by kernel_rfl) (by kernel_rfl) (fun _ _ _ h => h) (Or.inl ⟨by rfl, ?hy160⟩) (by assumption) ?rest160
  case hy160 => intro w' hSw; (try dsimp only at hSw); go_simp; try with_reducible rfl
  try simp only [Act.put, List.setIfInBounds_toArray, List.set_cons_zero, List.set_cons_succ]
  refine wpAnyH_take (i := 21) (v := ?v161) (ops_at rfl) (by kernel_rfl) (by kernel_rfl) (by kernel_rfl) (fun _ _ _ h => h) (Or.inl ⟨by rfl, ?hy161⟩) (by assumption) ?rest161
  case hy161 => intro w' hSw; (try dsimp only at hSw); go_simp; try with_reducible rfl
  try simp only [Act.put, List.setIfInBounds_toArray, List.set_cons_zero, List.set_cons_succ]
  refine wpAnyH_ready (rs := [22]) (by kernel_rfl) (by simp) ?_
  refine AllReadyH.cons (ops_at rfl) (fun K hK => ?_) AllReadyH.nil
  go_simp
  refine hK.out _ _ (by exact ordCells S5.drew.drew) (fun hHeld => ?_)
  clear hK K
  try simp only [Act.put, List.setIfInBounds_toArray, List.set_cons_zero, List.set_cons_succ]
  refine wpAnyH_take (i := 23) (v := ?v162) (ops_at rfl) (by kernel_rfl) (by kernel_rfl) (by kernel_rfl) (fun _ _ _ h => h) (Or.inl ⟨by rfl, ?hy162⟩) (by assumption) ?rest162
  case hy162 => intro w' hSw; (try dsimp only at hSw); go_simp; try with_reducible rfl
  try simp only [Act.put, List.setIfInBounds_toArray, List.set_cons_zero, List.set_cons_succ]
  refine wpAnyH_take (i := 24) (v := ?v163) (ops_at rfl) (by kernel_rfl) (by kernel_rfl) (by kernel_rfl) (fun _ _ _ h => h) (Or.inl ⟨by rfl, ?hy163⟩) (by assumption) ?rest163
  case hy163 => intro w' hSw; (try dsimp only at hSw); go_simp; try with_reducible rfl
  try simp only [Act.put, List.setIfInBounds_toArray, List.set_cons_zero, List.set_cons_succ]
  refine wpAnyH_ready (rs := [25]) (by kernel_rfl) (by simp) ?_
  refine AllReadyH.cons (ops_at rfl) (fun K hK => ?_) AllReadyH.nil
  go_simp
  refine hK.out _ _ (by exact ordCells S6.drew.drew) (fun hHeld => ?_)
  clear hK K
  try simp only [Act.put, List.setIfInBounds_toArray, List.set_cons_zero, List.set_cons_succ]
  refine wpAnyH_take (i := 26) (v := ?v164) (ops_at rfl) (by kernel_rfl) (by kernel_rfl) (by kernel_rfl) (fun _ _ _ h => h) (Or.inl ⟨by rfl, ?hy164⟩) (by assumption) ?rest164
  case hy164 => intro w' hSw; (try dsimp only at hSw); go_simp; try with_reducible rfl
  try simp only [Act.put, List.setIfInBounds_toArray, List.set_cons_zero, List.set_cons_succ]
  refine wpAnyH_take (i := 27) (v := ?v165) (ops_at rfl) (by kernel_rfl) (by kernel_rfl) (by kernel_rfl) (fun _ _ _ h => h) (Or.inl ⟨by rfl, ?hy165⟩) (by assumption) ?rest165
  case hy165 => intro w' hSw; (try dsimp only at hSw); go_simp; try with_reducible rfl
  try simp only [Act.put, List.setIfInBounds_toArray, List.set_cons_zero, List.set_cons_succ]
  refine wpAnyH_ready (rs := [28]) (by kernel_rfl) (by simp) ?_
  refine AllReadyH.cons (ops_at rfl) (fun K hK => ?_) AllReadyH.nil
  go_simp
  refine hK.out _ _ (by exact ordCells S7.drew.drew) (fun hHeld => ?_)
  clear hK K
  try simp only [Act.put, List.setIfInBounds_toArray, List.set_cons_zero, List.set_cons_succ]
  refine wpAnyH_done (by kernel_rfl) ?_ _
  go_wp2
  go_end0
  rw [HE.out]
  exact ⟨rfl, S8.out⟩
theorem ordTake (S : St w0 w (cellsT g 23 a.cs :: tl)) (m : Msg) (now : Int) (sv : Value) :
    Calls Try.prog 32 #[.agg #[.pointer (some ⟨g, 0, none⟩), .int .i64 m.node, .int .i64 m.kind, .int .i64 m.term, .int .i64 m.gen, .int .i64 m.job, .int .i64 m.inc, .int .i64 m.version, .int .i64 m.epoch, .int .i64 m.until_, .int .i64 m.mode, .int .i64 m.work, .int .i64 now, sv]] w fun e w' => e = .returned (.tuple #[]) ∧ St w0 w' (cellsT g 23 (oTake a m now).cs :: tl) := by
  by_cases h1 : ownsJ a m 1 = true
  · exact ordTake_own S m now sv (.inl h1)
  · by_cases h2 : ownsJ a m 2 = true
    · exact ordTake_own S m now sv (.inr h2)
    · exact ordTake_not S m now sv h1 h2
end
end Go.Proofs.Ytchehnkmmmnonaa

namespace Go.Proofs.Ytchehnkmmmnonaa
set_option linter.unusedVariables false
set_option linter.unusedSimpArgs false
open Go.RowKit
def ckData (n : Int) : List UInt8 := codeText (codeNum n)
theorem ckData_len (n : Int) : (ckData n).length ≤ 16 := by
  unfold ckData codeText
  have h1 := codeNum_len n
  have h2 := codeNum_len ((codeNum n).length : Int)
  rw [List.length_append]; omega
def oSave (a : AG) (m : Msg) (now : Int) (o : Option SS) : AG × Option SS :=
  if ownsJ a m 2 = true ∧ now < a.lease then
    if m.mode = 1 then (if (oStage o m.term a.job a.inc (ckData a.worked)).1 = 0 then { a with mode := 3 } else a, (oStage o m.term a.job a.inc (ckData a.worked)).2)
    else ({ a with mode := 3 }, o)
  else (a, o)
section
variable {w0 w : World} {tl : List Thing} {g : Nat} {a : AG} {o : Option SS} {sv : Value}
set_option maxRecDepth 10000 in
set_option maxHeartbeats 3200000 in
theorem ordSave_not (S : St w0 w (cellsT g 23 a.cs :: soT sv o :: tl)) (m : Msg) (now : Int) (h : ¬ (ownsJ a m 2 = true ∧ now < a.lease)) :
    Calls Try.prog 36 #[.agg #[.pointer (some ⟨g, 0, none⟩), .int .i64 m.node, .int .i64 m.kind, .int .i64 m.term, .int .i64 m.gen, .int .i64 m.job, .int .i64 m.inc, .int .i64 m.version, .int .i64 m.epoch, .int .i64 m.until_, .int .i64 m.mode, .int .i64 m.work, .int .i64 now, sv]] w fun e w' => e = .returned (.tuple #[]) ∧ St w0 w' (cellsT g 23 a.cs :: soT sv o :: tl) := by
  have S1 := ordSt S m now sv
  by_cases h1 : ownsJ a m 2 = true
  · have HO := hid h1
    have gl : decide (a.lease ≤ now) = true := decide_eq_true (by rcases Int.lt_or_le now a.lease with h2 | h2; exact absurd ⟨h1, h2⟩ h; exact h2)
    clear h h1
    go_enter Try.func36, Try.ntmps36
    go_wp2_with fail
    refine wp_region_held_drew (S := (fun w' => (w'.cell? ⟨w.heap.size, 0, none⟩ = some (.pointer (some ⟨g, 0, none⟩)) ∧ w'.cell? ⟨w.heap.size, 1, none⟩ = some (.int .i64 m.node) ∧ w'.cell? ⟨w.heap.size, 2, none⟩ = some (.int .i64 m.kind) ∧ w'.cell? ⟨w.heap.size, 3, none⟩ = some (.int .i64 m.term) ∧ w'.cell? ⟨w.heap.size, 4, none⟩ = some (.int .i64 m.gen) ∧ w'.cell? ⟨w.heap.size, 5, none⟩ = some (.int .i64 m.job) ∧ w'.cell? ⟨w.heap.size, 6, none⟩ = some (.int .i64 m.inc) ∧ w'.cell? ⟨w.heap.size, 7, none⟩ = some (.int .i64 m.version) ∧ w'.cell? ⟨w.heap.size, 8, none⟩ = some (.int .i64 m.epoch) ∧ w'.cell? ⟨w.heap.size, 9, none⟩ = some (.int .i64 m.until_) ∧ w'.cell? ⟨w.heap.size, 10, none⟩ = some (.int .i64 m.mode) ∧ w'.cell? ⟨w.heap.size, 11, none⟩ = some (.int .i64 m.work) ∧ w'.cell? ⟨w.heap.size, 12, none⟩ = some (.int .i64 now) ∧ w'.cell? ⟨w.heap.size, 13, none⟩ = some sv) ∧ (w'.cell? ⟨g, 0, none⟩ = some (.bool a.up) ∧ w'.cell? ⟨g, 1, none⟩ = some (.int .i64 a.term) ∧ w'.cell? ⟨g, 2, none⟩ = some (.int .i64 a.gen) ∧ w'.cell? ⟨g, 3, none⟩ = some (.int .i64 a.mode) ∧ w'.cell? ⟨g, 4, none⟩ = some (.int .i64 a.job) ∧ w'.cell? ⟨g, 5, none⟩ = some (.int .i64 a.inc) ∧ w'.cell? ⟨g, 6, none⟩ = some (.int .i64 a.version) ∧ w'.cell? ⟨g, 7, none⟩ = some (.int .i64 a.lease) ∧ w'.cell? ⟨g, 8, none⟩ = some (.int .i64 a.worked) ∧ w'.cell? ⟨g, 9, none⟩ = some (.int .i64 a.to_)))) (by kernel_rfl) (by exact ⟨ordCells S1.drew, agCells S1.drew⟩) (fun hHeld => ?_)
    change wpAnyH _ _ _ _ _ 13 (Array.replicate 13 false) _ _
    refine wpAnyH_take (i := 0) (v := ?v166) (ops_at rfl) (by kernel_rfl) (by kernel_rfl) (by kernel_rfl) (fun _ _ _ h => h) (Or.inl ⟨by rfl, ?hy166⟩) (by assumption) ?rest166
    case hy166 => intro w' hSw; (try dsimp only at hSw); go_simp; try with_reducible rfl
    try simp only [Act.put, List.setIfInBounds_toArray, List.set_cons_zero, List.set_cons_succ]
    refine wpAnyH_ready (rs := [1]) (by kernel_rfl) (by simp) ?_
    refine AllReadyH.cons (ops_at rfl) (fun K hK => ?_) AllReadyH.nil
    go_simp
    refine (agOwn S1.drew m now sv 2).mono ?_
    rintro e w1 ⟨rfl, S2⟩
    rw [HO.out]
    refine hK.out _ _ (by exact ⟨ordCells S2, agCells S2⟩) (fun hHeld => ?_)
    clear hK K
    try simp only [Act.put, List.setIfInBounds_toArray, List.set_cons_zero, List.set_cons_succ]
    refine wpAnyH_take (i := 2) (v := ?v168) (ops_at rfl) (by kernel_rfl) (by kernel_rfl) (by kernel_rfl) (fun _ _ _ h => h) (Or.inl ⟨by rfl, ?hy168⟩) (by assumption) ?rest168
    case hy168 => intro w' hSw; (try dsimp only at hSw); go_simp; try with_reducible rfl
    try simp only [Act.put, List.setIfInBounds_toArray, List.set_cons_zero, List.set_cons_succ]
    refine wpAnyH_take (i := 3) (v := ?v169) (ops_at rfl) (by kernel_rfl) (by kernel_rfl) (by kernel_rfl) (fun _ _ _ h => h) (Or.inl ⟨by rfl, ?hy169⟩) (by assumption) ?rest169
    case hy169 => intro w' hSw; (try dsimp only at hSw); go_simp; try with_reducible rfl
    try simp only [Act.put, List.setIfInBounds_toArray, List.set_cons_zero, List.set_cons_succ]
    refine wpAnyH_take (i := 4) (v := ?v170) (ops_at rfl) (by kernel_rfl) (by kernel_rfl) (by kernel_rfl) (fun _ _ _ h => h) (Or.inl ⟨by rfl, ?hy170⟩) (by assumption) ?rest170
    case hy170 => intro w' hSw; (try dsimp only at hSw); go_simp; try with_reducible rfl
    try simp only [Act.put, List.setIfInBounds_toArray, List.set_cons_zero, List.set_cons_succ]
    refine wpAnyH_take (i := 5) (v := ?v171) (ops_at rfl) (by kernel_rfl) (by kernel_rfl) (by kernel_rfl) (fun _ _ _ h => h) (Or.inl ⟨by rfl, ?hy171⟩) (by assumption) ?rest171
    case hy171 => intro w' hSw; (try dsimp only at hSw); go_simp; try with_reducible rfl
    try simp only [Act.put, List.setIfInBounds_toArray, List.set_cons_zero, List.set_cons_succ]
    refine wpAnyH_take (i := 6) (v := ?v172) (ops_at rfl) (by kernel_rfl) (by kernel_rfl) (by kernel_rfl) (fun _ _ _ h => h) (Or.inl ⟨by rfl, ?hy172⟩) (by assumption) ?rest172
    case hy172 => intro w' hSw; (try dsimp only at hSw); go_simp; try with_reducible rfl
    try simp only [Act.put, List.setIfInBounds_toArray, List.set_cons_zero, List.set_cons_succ]
    refine wpAnyH_take (i := 7) (v := ?v173) (ops_at rfl) (by kernel_rfl) (by kernel_rfl) (by kernel_rfl) (fun _ _ _ h => h) (Or.inl ⟨by rfl, ?hy173⟩) (by assumption) ?rest173
    case hy173 => intro w' hSw; (try dsimp only at hSw); go_simp; try with_reducible rfl
    try simp only [Act.put, List.setIfInBounds_toArray, List.set_cons_zero, List.set_cons_succ]
    refine wpAnyH_take (i := 8) (v := ?v174) (ops_at rfl) (by kernel_rfl) (by kernel_rfl) (by kernel_rfl) (fun _ _ _ h => h) (Or.inl ⟨by rfl, ?hy174⟩) (by assumption) ?rest174
    case hy174 => intro w' hSw; (try dsimp only at hSw); go_simp; try with_reducible rfl
    try simp only [Act.put, List.setIfInBounds_toArray, List.set_cons_zero, List.set_cons_succ]
    refine wpAnyH_take (i := 9) (v := ?v175) (ops_at rfl) (by kernel_rfl) (by kernel_rfl) (by kernel_rfl) (fun _ _ _ h => h) (Or.inl ⟨by rfl, ?hy175⟩) (by assumption) ?rest175
    case hy175 => intro w' hSw; (try dsimp only at hSw); go_simp; try with_reducible rfl
    try simp only [Act.put, List.setIfInBounds_toArray, List.set_cons_zero, List.set_cons_succ]
    refine wpAnyH_take (i := 10) (v := ?v176) (ops_at rfl) (by kernel_rfl) (by kernel_rfl) (by kernel_rfl) (fun _ _ _ h => h) (Or.inl ⟨by rfl, ?hy176⟩) (by assumption) ?rest176
    case hy176 => intro w' hSw; (try dsimp only at hSw); go_simp; try with_reducible rfl
    try simp only [Act.put, List.setIfInBounds_toArray, List.set_cons_zero, List.set_cons_succ]
    refine wpAnyH_take (i := 11) (v := ?v177) (ops_at rfl) (by kernel_rfl) (by kernel_rfl) (by kernel_rfl) (fun _ _ _ h => h) (Or.inl ⟨by rfl, ?hy177⟩) (by assumption) ?rest177
    case hy177 => intro w' hSw; (try dsimp only at hSw); go_simp; try with_reducible rfl
    try simp only [Act.put, List.setIfInBounds_toArray, List.set_cons_zero, List.set_cons_succ]
    refine wpAnyH_take (i := 12) (v := ?v178) (ops_at rfl) (by kernel_rfl) (by kernel_rfl) (by kernel_rfl) (fun _ _ _ h => h) (Or.inl ⟨by rfl, ?hy178⟩) (by assumption) ?rest178
    case hy178 => intro w' hSw; (try dsimp only at hSw); go_simp; try with_reducible rfl
    try simp only [Act.put, List.setIfInBounds_toArray, List.set_cons_zero, List.set_cons_succ]
    refine wpAnyH_done (by kernel_rfl) ?_ _
    go_wp2
    refine bodyPost_ret (results_none rfl _ _ _) rfl ?_
    exact ⟨rfl, ordDrop S2⟩
  · have HO : Hid (ownsJ a m 2 = false) := by rw [Hid]; simpa using h1
    clear h h1
    go_enter Try.func36, Try.ntmps36
    go_wp2_with fail
    refine wp_region_held_drew (S := (fun w' => (w'.cell? ⟨w.heap.size, 0, none⟩ = some (.pointer (some ⟨g, 0, none⟩)) ∧ w'.cell? ⟨w.heap.size, 1, none⟩ = some (.int .i64 m.node) ∧ w'.cell? ⟨w.heap.size, 2, none⟩ = some (.int .i64 m.kind) ∧ w'.cell? ⟨w.heap.size, 3, none⟩ = some (.int .i64 m.term) ∧ w'.cell? ⟨w.heap.size, 4, none⟩ = some (.int .i64 m.gen) ∧ w'.cell? ⟨w.heap.size, 5, none⟩ = some (.int .i64 m.job) ∧ w'.cell? ⟨w.heap.size, 6, none⟩ = some (.int .i64 m.inc) ∧ w'.cell? ⟨w.heap.size, 7, none⟩ = some (.int .i64 m.version) ∧ w'.cell? ⟨w.heap.size, 8, none⟩ = some (.int .i64 m.epoch) ∧ w'.cell? ⟨w.heap.size, 9, none⟩ = some (.int .i64 m.until_) ∧ w'.cell? ⟨w.heap.size, 10, none⟩ = some (.int .i64 m.mode) ∧ w'.cell? ⟨w.heap.size, 11, none⟩ = some (.int .i64 m.work) ∧ w'.cell? ⟨w.heap.size, 12, none⟩ = some (.int .i64 now) ∧ w'.cell? ⟨w.heap.size, 13, none⟩ = some sv) ∧ (w'.cell? ⟨g, 0, none⟩ = some (.bool a.up) ∧ w'.cell? ⟨g, 1, none⟩ = some (.int .i64 a.term) ∧ w'.cell? ⟨g, 2, none⟩ = some (.int .i64 a.gen) ∧ w'.cell? ⟨g, 3, none⟩ = some (.int .i64 a.mode) ∧ w'.cell? ⟨g, 4, none⟩ = some (.int .i64 a.job) ∧ w'.cell? ⟨g, 5, none⟩ = some (.int .i64 a.inc) ∧ w'.cell? ⟨g, 6, none⟩ = some (.int .i64 a.version) ∧ w'.cell? ⟨g, 7, none⟩ = some (.int .i64 a.lease) ∧ w'.cell? ⟨g, 8, none⟩ = some (.int .i64 a.worked) ∧ w'.cell? ⟨g, 9, none⟩ = some (.int .i64 a.to_)))) (by kernel_rfl) (by exact ⟨ordCells S1.drew, agCells S1.drew⟩) (fun hHeld => ?_)
    change wpAnyH _ _ _ _ _ 13 (Array.replicate 13 false) _ _
    refine wpAnyH_take (i := 0) (v := ?v179) (ops_at rfl) (by kernel_rfl) (by kernel_rfl) (by kernel_rfl) (fun _ _ _ h => h) (Or.inl ⟨by rfl, ?hy179⟩) (by assumption) ?rest179
    case hy179 => intro w' hSw; (try dsimp only at hSw); go_simp; try with_reducible rfl
    try simp only [Act.put, List.setIfInBounds_toArray, List.set_cons_zero, List.set_cons_succ]
    refine wpAnyH_ready (rs := [1]) (by kernel_rfl) (by simp) ?_
    refine AllReadyH.cons (ops_at rfl) (fun K hK => ?_) AllReadyH.nil
    go_simp
    refine (agOwn S1.drew m now sv 2).mono ?_
    rintro e w1 ⟨rfl, S2⟩
    rw [HO.out]
    refine hK.out _ _ (by exact ⟨ordCells S2, agCells S2⟩) (fun hHeld => ?_)
    clear hK K
    try simp only [Act.put, List.setIfInBounds_toArray, List.set_cons_zero, List.set_cons_succ]
    refine wpAnyH_take (i := 2) (v := ?v181) (ops_at rfl) (by kernel_rfl) (by kernel_rfl) (by kernel_rfl) (fun _ _ _ h => h) (Or.inl ⟨by rfl, ?hy181⟩) (by assumption) ?rest181
    case hy181 => intro w' hSw; (try dsimp only at hSw); go_simp; try with_reducible rfl
    try simp only [Act.put, List.setIfInBounds_toArray, List.set_cons_zero, List.set_cons_succ]
    refine wpAnyH_take (i := 3) (v := ?v182) (ops_at rfl) (by kernel_rfl) (by kernel_rfl) (by kernel_rfl) (fun _ _ _ h => h) (Or.inl ⟨by rfl, ?hy182⟩) (by assumption) ?rest182
    case hy182 => intro w' hSw; (try dsimp only at hSw); go_simp; try with_reducible rfl
    try simp only [Act.put, List.setIfInBounds_toArray, List.set_cons_zero, List.set_cons_succ]
    refine wpAnyH_take (i := 4) (v := undef) (ops_at rfl) (by kernel_rfl) (by kernel_rfl) (by kernel_rfl) (fun _ _ _ h => h) (Or.inr ⟨by rfl, rfl⟩) (by assumption) ?rest183
    try simp only [Act.put, List.setIfInBounds_toArray, List.set_cons_zero, List.set_cons_succ]
    refine wpAnyH_take (i := 5) (v := undef) (ops_at rfl) (by kernel_rfl) (by kernel_rfl) (by kernel_rfl) (fun _ _ _ h => h) (Or.inr ⟨by rfl, rfl⟩) (by assumption) ?rest184
    try simp only [Act.put, List.setIfInBounds_toArray, List.set_cons_zero, List.set_cons_succ]
    refine wpAnyH_take (i := 6) (v := undef) (ops_at rfl) (by kernel_rfl) (by kernel_rfl) (by kernel_rfl) (fun _ _ _ h => h) (Or.inr ⟨by rfl, rfl⟩) (by assumption) ?rest185
    try simp only [Act.put, List.setIfInBounds_toArray, List.set_cons_zero, List.set_cons_succ]
    refine wpAnyH_take (i := 7) (v := undef) (ops_at rfl) (by kernel_rfl) (by kernel_rfl) (by kernel_rfl) (fun _ _ _ h => h) (Or.inr ⟨by rfl, rfl⟩) (by assumption) ?rest186
    try simp only [Act.put, List.setIfInBounds_toArray, List.set_cons_zero, List.set_cons_succ]
    refine wpAnyH_take (i := 8) (v := undef) (ops_at rfl) (by kernel_rfl) (by kernel_rfl) (by kernel_rfl) (fun _ _ _ h => h) (Or.inr ⟨by rfl, rfl⟩) (by assumption) ?rest187
    try simp only [Act.put, List.setIfInBounds_toArray, List.set_cons_zero, List.set_cons_succ]
    refine wpAnyH_take (i := 9) (v := undef) (ops_at rfl) (by kernel_rfl) (by kernel_rfl) (by kernel_rfl) (fun _ _ _ h => h) (Or.inr ⟨by rfl, rfl⟩) (by assumption) ?rest188
    try simp only [Act.put, List.setIfInBounds_toArray, List.set_cons_zero, List.set_cons_succ]
    refine wpAnyH_take (i := 10) (v := undef) (ops_at rfl) (by kernel_rfl) (by kernel_rfl) (by kernel_rfl) (fun _ _ _ h => h) (Or.inr ⟨by rfl, rfl⟩) (by assumption) ?rest189
    try simp only [Act.put, List.setIfInBounds_toArray, List.set_cons_zero, List.set_cons_succ]
    refine wpAnyH_take (i := 11) (v := undef) (ops_at rfl) (by kernel_rfl) (by kernel_rfl) (by kernel_rfl) (fun _ _ _ h => h) (Or.inr ⟨by rfl, rfl⟩) (by assumption) ?rest190
    try simp only [Act.put, List.setIfInBounds_toArray, List.set_cons_zero, List.set_cons_succ]
    refine wpAnyH_take (i := 12) (v := ?v191) (ops_at rfl) (by kernel_rfl) (by kernel_rfl) (by kernel_rfl) (fun _ _ _ h => h) (Or.inl ⟨by rfl, ?hy191⟩) (by assumption) ?rest191
    case hy191 => intro w' hSw; (try dsimp only at hSw); go_simp; try with_reducible rfl
    try simp only [Act.put, List.setIfInBounds_toArray, List.set_cons_zero, List.set_cons_succ]
    refine wpAnyH_done (by kernel_rfl) ?_ _
    go_wp2
    refine bodyPost_ret (results_none rfl _ _ _) rfl ?_
    exact ⟨rfl, ordDrop S2⟩
set_option maxRecDepth 10000 in
set_option maxHeartbeats 3200000 in
theorem ordSave_quiet (S : St w0 w (cellsT g 23 a.cs :: soT sv o :: tl)) (m : Msg) (now : Int) (h : ownsJ a m 2 = true ∧ now < a.lease) (hm : m.mode ≠ 1) :
    Calls Try.prog 36 #[.agg #[.pointer (some ⟨g, 0, none⟩), .int .i64 m.node, .int .i64 m.kind, .int .i64 m.term, .int .i64 m.gen, .int .i64 m.job, .int .i64 m.inc, .int .i64 m.version, .int .i64 m.epoch, .int .i64 m.until_, .int .i64 m.mode, .int .i64 m.work, .int .i64 now, sv]] w fun e w' => e = .returned (.tuple #[]) ∧ St w0 w' (cellsT g 23 ({ a with mode := 3 } : AG).cs :: soT sv o :: tl) := by
  have S1 := ordSt S m now sv
  have HO := hid h.1
  have gl : decide (a.lease ≤ now) = false := decide_eq_false (by have := h.2; omega)
  have gm : (m.mode == 1) = false := by simpa using hm
  clear h hm
  go_enter Try.func36, Try.ntmps36
  go_wp2_with fail
  refine wp_region_held_drew (S := (fun w' => (w'.cell? ⟨w.heap.size, 0, none⟩ = some (.pointer (some ⟨g, 0, none⟩)) ∧ w'.cell? ⟨w.heap.size, 1, none⟩ = some (.int .i64 m.node) ∧ w'.cell? ⟨w.heap.size, 2, none⟩ = some (.int .i64 m.kind) ∧ w'.cell? ⟨w.heap.size, 3, none⟩ = some (.int .i64 m.term) ∧ w'.cell? ⟨w.heap.size, 4, none⟩ = some (.int .i64 m.gen) ∧ w'.cell? ⟨w.heap.size, 5, none⟩ = some (.int .i64 m.job) ∧ w'.cell? ⟨w.heap.size, 6, none⟩ = some (.int .i64 m.inc) ∧ w'.cell? ⟨w.heap.size, 7, none⟩ = some (.int .i64 m.version) ∧ w'.cell? ⟨w.heap.size, 8, none⟩ = some (.int .i64 m.epoch) ∧ w'.cell? ⟨w.heap.size, 9, none⟩ = some (.int .i64 m.until_) ∧ w'.cell? ⟨w.heap.size, 10, none⟩ = some (.int .i64 m.mode) ∧ w'.cell? ⟨w.heap.size, 11, none⟩ = some (.int .i64 m.work) ∧ w'.cell? ⟨w.heap.size, 12, none⟩ = some (.int .i64 now) ∧ w'.cell? ⟨w.heap.size, 13, none⟩ = some sv) ∧ (w'.cell? ⟨g, 0, none⟩ = some (.bool a.up) ∧ w'.cell? ⟨g, 1, none⟩ = some (.int .i64 a.term) ∧ w'.cell? ⟨g, 2, none⟩ = some (.int .i64 a.gen) ∧ w'.cell? ⟨g, 3, none⟩ = some (.int .i64 a.mode) ∧ w'.cell? ⟨g, 4, none⟩ = some (.int .i64 a.job) ∧ w'.cell? ⟨g, 5, none⟩ = some (.int .i64 a.inc) ∧ w'.cell? ⟨g, 6, none⟩ = some (.int .i64 a.version) ∧ w'.cell? ⟨g, 7, none⟩ = some (.int .i64 a.lease) ∧ w'.cell? ⟨g, 8, none⟩ = some (.int .i64 a.worked) ∧ w'.cell? ⟨g, 9, none⟩ = some (.int .i64 a.to_)))) (by kernel_rfl) (by exact ⟨ordCells S1.drew, agCells S1.drew⟩) (fun hHeld => ?_)
  change wpAnyH _ _ _ _ _ 13 (Array.replicate 13 false) _ _
  refine wpAnyH_take (i := 0) (v := ?v192) (ops_at rfl) (by kernel_rfl) (by kernel_rfl) (by kernel_rfl) (fun _ _ _ h => h) (Or.inl ⟨by rfl, ?hy192⟩) (by assumption) ?rest192
  case hy192 => intro w' hSw; (try dsimp only at hSw); go_simp; try with_reducible rfl
  try simp only [Act.put, List.setIfInBounds_toArray, List.set_cons_zero, List.set_cons_succ]
  refine wpAnyH_ready (rs := [1]) (by kernel_rfl) (by simp) ?_
  refine AllReadyH.cons (ops_at rfl) (fun K hK => ?_) AllReadyH.nil
  go_simp
  refine (agOwn S1.drew m now sv 2).mono ?_
  rintro e w1 ⟨rfl, S2⟩
  rw [HO.out]
  refine hK.out _ _ (by exact ⟨ordCells S2, agCells S2⟩) (fun hHeld => ?_)
  clear hK K
  try simp only [Act.put, List.setIfInBounds_toArray, List.set_cons_zero, List.set_cons_succ]
  refine wpAnyH_take (i := 2) (v := ?v194) (ops_at rfl) (by kernel_rfl) (by kernel_rfl) (by kernel_rfl) (fun _ _ _ h => h) (Or.inl ⟨by rfl, ?hy194⟩) (by assumption) ?rest194
  case hy194 => intro w' hSw; (try dsimp only at hSw); go_simp; try with_reducible rfl
  try simp only [Act.put, List.setIfInBounds_toArray, List.set_cons_zero, List.set_cons_succ]
  refine wpAnyH_take (i := 3) (v := ?v195) (ops_at rfl) (by kernel_rfl) (by kernel_rfl) (by kernel_rfl) (fun _ _ _ h => h) (Or.inl ⟨by rfl, ?hy195⟩) (by assumption) ?rest195
  case hy195 => intro w' hSw; (try dsimp only at hSw); go_simp; try with_reducible rfl
  try simp only [Act.put, List.setIfInBounds_toArray, List.set_cons_zero, List.set_cons_succ]
  refine wpAnyH_take (i := 4) (v := ?v196) (ops_at rfl) (by kernel_rfl) (by kernel_rfl) (by kernel_rfl) (fun _ _ _ h => h) (Or.inl ⟨by rfl, ?hy196⟩) (by assumption) ?rest196
  case hy196 => intro w' hSw; (try dsimp only at hSw); go_simp; try with_reducible rfl
  try simp only [Act.put, List.setIfInBounds_toArray, List.set_cons_zero, List.set_cons_succ]
  refine wpAnyH_take (i := 5) (v := ?v197) (ops_at rfl) (by kernel_rfl) (by kernel_rfl) (by kernel_rfl) (fun _ _ _ h => h) (Or.inl ⟨by rfl, ?hy197⟩) (by assumption) ?rest197
  case hy197 => intro w' hSw; (try dsimp only at hSw); go_simp; try with_reducible rfl
  try simp only [Act.put, List.setIfInBounds_toArray, List.set_cons_zero, List.set_cons_succ]
  refine wpAnyH_take (i := 6) (v := ?v198) (ops_at rfl) (by kernel_rfl) (by kernel_rfl) (by kernel_rfl) (fun _ _ _ h => h) (Or.inl ⟨by rfl, ?hy198⟩) (by assumption) ?rest198
  case hy198 => intro w' hSw; (try dsimp only at hSw); go_simp; try with_reducible rfl
  try simp only [Act.put, List.setIfInBounds_toArray, List.set_cons_zero, List.set_cons_succ]
  refine wpAnyH_take (i := 7) (v := ?v199) (ops_at rfl) (by kernel_rfl) (by kernel_rfl) (by kernel_rfl) (fun _ _ _ h => h) (Or.inl ⟨by rfl, ?hy199⟩) (by assumption) ?rest199
  case hy199 => intro w' hSw; (try dsimp only at hSw); go_simp; try with_reducible rfl
  try simp only [Act.put, List.setIfInBounds_toArray, List.set_cons_zero, List.set_cons_succ]
  refine wpAnyH_take (i := 8) (v := ?v200) (ops_at rfl) (by kernel_rfl) (by kernel_rfl) (by kernel_rfl) (fun _ _ _ h => h) (Or.inl ⟨by rfl, ?hy200⟩) (by assumption) ?rest200
  case hy200 => intro w' hSw; (try dsimp only at hSw); go_simp; try with_reducible rfl
  try simp only [Act.put, List.setIfInBounds_toArray, List.set_cons_zero, List.set_cons_succ]
  refine wpAnyH_take (i := 9) (v := ?v201) (ops_at rfl) (by kernel_rfl) (by kernel_rfl) (by kernel_rfl) (fun _ _ _ h => h) (Or.inl ⟨by rfl, ?hy201⟩) (by assumption) ?rest201
  case hy201 => intro w' hSw; (try dsimp only at hSw); go_simp; try with_reducible rfl
  try simp only [Act.put, List.setIfInBounds_toArray, List.set_cons_zero, List.set_cons_succ]
  refine wpAnyH_take (i := 10) (v := ?v202) (ops_at rfl) (by kernel_rfl) (by kernel_rfl) (by kernel_rfl) (fun _ _ _ h => h) (Or.inl ⟨by rfl, ?hy202⟩) (by assumption) ?rest202
  case hy202 => intro w' hSw; (try dsimp only at hSw); go_simp; try with_reducible rfl
  try simp only [Act.put, List.setIfInBounds_toArray, List.set_cons_zero, List.set_cons_succ]
  refine wpAnyH_take (i := 11) (v := ?v203) (ops_at rfl) (by kernel_rfl) (by kernel_rfl) (by kernel_rfl) (fun _ _ _ h => h) (Or.inl ⟨by rfl, ?hy203⟩) (by assumption) ?rest203
  case hy203 => intro w' hSw; (try dsimp only at hSw); go_simp; try with_reducible rfl
  try simp only [Act.put, List.setIfInBounds_toArray, List.set_cons_zero, List.set_cons_succ]
  refine wpAnyH_take (i := 12) (v := ?v204) (ops_at rfl) (by kernel_rfl) (by kernel_rfl) (by kernel_rfl) (fun _ _ _ h => h) (Or.inl ⟨by rfl, ?hy204⟩) (by assumption) ?rest204
  case hy204 => intro w' hSw; (try dsimp only at hSw); go_simp; try with_reducible rfl
  try simp only [Act.put, List.setIfInBounds_toArray, List.set_cons_zero, List.set_cons_succ]
  refine wpAnyH_done (by kernel_rfl) ?_ _
  go_wp2_with fail
  obtain ⟨x0, x1, x2, x3, x4, x5, x6, x7, x8, x9⟩ := agCells S2
  obtain ⟨f3, f4, f5, f7, f8, f9⟩ := agFree S2
  obtain ⟨y0, y1, y2, y3, y4, y5, y6, y7, y8, y9, y10, y11, y12, y13⟩ := ordCells S2
  refine wp_region_held_drew (S := (fun w' => (w'.cell? ⟨w.heap.size, 0, none⟩ = some (.pointer (some ⟨g, 0, none⟩)) ∧ w'.cell? ⟨w.heap.size, 1, none⟩ = some (.int .i64 m.node) ∧ w'.cell? ⟨w.heap.size, 2, none⟩ = some (.int .i64 m.kind) ∧ w'.cell? ⟨w.heap.size, 3, none⟩ = some (.int .i64 m.term) ∧ w'.cell? ⟨w.heap.size, 4, none⟩ = some (.int .i64 m.gen) ∧ w'.cell? ⟨w.heap.size, 5, none⟩ = some (.int .i64 m.job) ∧ w'.cell? ⟨w.heap.size, 6, none⟩ = some (.int .i64 m.inc) ∧ w'.cell? ⟨w.heap.size, 7, none⟩ = some (.int .i64 m.version) ∧ w'.cell? ⟨w.heap.size, 8, none⟩ = some (.int .i64 m.epoch) ∧ w'.cell? ⟨w.heap.size, 9, none⟩ = some (.int .i64 m.until_) ∧ w'.cell? ⟨w.heap.size, 10, none⟩ = some (.int .i64 m.mode) ∧ w'.cell? ⟨w.heap.size, 11, none⟩ = some (.int .i64 m.work) ∧ w'.cell? ⟨w.heap.size, 12, none⟩ = some (.int .i64 now) ∧ w'.cell? ⟨w.heap.size, 13, none⟩ = some sv) ∧ (w'.cell? ⟨g, 0, none⟩ = some (.bool a.up) ∧ w'.cell? ⟨g, 1, none⟩ = some (.int .i64 a.term) ∧ w'.cell? ⟨g, 2, none⟩ = some (.int .i64 a.gen) ∧ w'.cell? ⟨g, 3, none⟩ = some (.int .i64 a.mode) ∧ w'.cell? ⟨g, 4, none⟩ = some (.int .i64 a.job) ∧ w'.cell? ⟨g, 5, none⟩ = some (.int .i64 a.inc) ∧ w'.cell? ⟨g, 6, none⟩ = some (.int .i64 a.version) ∧ w'.cell? ⟨g, 7, none⟩ = some (.int .i64 a.lease) ∧ w'.cell? ⟨g, 8, none⟩ = some (.int .i64 a.worked) ∧ w'.cell? ⟨g, 9, none⟩ = some (.int .i64 a.to_)))) (by kernel_rfl) (by exact ⟨ordCells S2.drew, agCells S2.drew⟩) (fun hHeld => ?_)
  change wpAnyH _ _ _ _ _ 31 (Array.replicate 31 false) _ _
  refine wpAnyH_take (i := 0) (v := ?v205) (ops_at rfl) (by kernel_rfl) (by kernel_rfl) (by kernel_rfl) (fun _ _ _ h => h) (Or.inl ⟨by rfl, ?hy205⟩) (by assumption) ?rest205
  case hy205 => intro w' hSw; (try dsimp only at hSw); go_simp; try with_reducible rfl
  try simp only [Act.put, List.setIfInBounds_toArray, List.set_cons_zero, List.set_cons_succ]
  refine wpAnyH_take (i := 1) (v := ?v206) (ops_at rfl) (by kernel_rfl) (by kernel_rfl) (by kernel_rfl) (fun _ _ _ h => h) (Or.inl ⟨by rfl, ?hy206⟩) (by assumption) ?rest206
  case hy206 => intro w' hSw; (try dsimp only at hSw); go_simp; try with_reducible rfl
  try simp only [Act.put, List.setIfInBounds_toArray, List.set_cons_zero, List.set_cons_succ]
  refine wpAnyH_take (i := 2) (v := ?v207) (ops_at rfl) (by kernel_rfl) (by kernel_rfl) (by kernel_rfl) (fun _ _ _ h => h) (Or.inl ⟨by rfl, ?hy207⟩) (by assumption) ?rest207
  case hy207 => intro w' hSw; (try dsimp only at hSw); go_simp; try with_reducible rfl
  try simp only [Act.put, List.setIfInBounds_toArray, List.set_cons_zero, List.set_cons_succ]
  refine wpAnyH_take (i := 3) (v := ?v208) (ops_at rfl) (by kernel_rfl) (by kernel_rfl) (by kernel_rfl) (fun _ _ _ h => h) (Or.inl ⟨by rfl, ?hy208⟩) (by assumption) ?rest208
  case hy208 => intro w' hSw; (try dsimp only at hSw); go_simp; try with_reducible rfl
  try simp only [Act.put, List.setIfInBounds_toArray, List.set_cons_zero, List.set_cons_succ]
  refine wpAnyH_take (i := 4) (v := ?v209) (ops_at rfl) (by kernel_rfl) (by kernel_rfl) (by kernel_rfl) (fun _ _ _ h => h) (Or.inl ⟨by rfl, ?hy209⟩) (by assumption) ?rest209
  case hy209 => intro w' hSw; (try dsimp only at hSw); go_simp; try with_reducible rfl
  try simp only [Act.put, List.setIfInBounds_toArray, List.set_cons_zero, List.set_cons_succ]
  refine wpAnyH_take (i := 5) (v := undef) (ops_at rfl) (by kernel_rfl) (by kernel_rfl) (by kernel_rfl) (fun _ _ _ h => h) (Or.inr ⟨by rfl, rfl⟩) (by assumption) ?rest210
  try simp only [Act.put, List.setIfInBounds_toArray, List.set_cons_zero, List.set_cons_succ]
  refine wpAnyH_take (i := 6) (v := undef) (ops_at rfl) (by kernel_rfl) (by kernel_rfl) (by kernel_rfl) (fun _ _ _ h => h) (Or.inr ⟨by rfl, rfl⟩) (by assumption) ?rest211
  try simp only [Act.put, List.setIfInBounds_toArray, List.set_cons_zero, List.set_cons_succ]
  refine wpAnyH_take (i := 7) (v := undef) (ops_at rfl) (by kernel_rfl) (by kernel_rfl) (by kernel_rfl) (fun _ _ _ h => h) (Or.inr ⟨by rfl, rfl⟩) (by assumption) ?rest212
  try simp only [Act.put, List.setIfInBounds_toArray, List.set_cons_zero, List.set_cons_succ]
  refine wpAnyH_take (i := 8) (v := undef) (ops_at rfl) (by kernel_rfl) (by kernel_rfl) (by kernel_rfl) (fun _ _ _ h => h) (Or.inr ⟨by rfl, rfl⟩) (by assumption) ?rest213
  try simp only [Act.put, List.setIfInBounds_toArray, List.set_cons_zero, List.set_cons_succ]
  refine wpAnyH_take (i := 9) (v := undef) (ops_at rfl) (by kernel_rfl) (by kernel_rfl) (by kernel_rfl) (fun _ _ _ h => h) (Or.inr ⟨by rfl, rfl⟩) (by assumption) ?rest214
  try simp only [Act.put, List.setIfInBounds_toArray, List.set_cons_zero, List.set_cons_succ]
  refine wpAnyH_take (i := 10) (v := undef) (ops_at rfl) (by kernel_rfl) (by kernel_rfl) (by kernel_rfl) (fun _ _ _ h => h) (Or.inr ⟨by rfl, rfl⟩) (by assumption) ?rest215
  try simp only [Act.put, List.setIfInBounds_toArray, List.set_cons_zero, List.set_cons_succ]
  refine wpAnyH_take (i := 11) (v := undef) (ops_at rfl) (by kernel_rfl) (by kernel_rfl) (by kernel_rfl) (fun _ _ _ h => h) (Or.inr ⟨by rfl, rfl⟩) (by assumption) ?rest216
  try simp only [Act.put, List.setIfInBounds_toArray, List.set_cons_zero, List.set_cons_succ]
  refine wpAnyH_take (i := 12) (v := undef) (ops_at rfl) (by kernel_rfl) (by kernel_rfl) (by kernel_rfl) (fun _ _ _ h => h) (Or.inr ⟨by rfl, rfl⟩) (by assumption) ?rest217
  try simp only [Act.put, List.setIfInBounds_toArray, List.set_cons_zero, List.set_cons_succ]
  refine wpAnyH_take (i := 13) (v := undef) (ops_at rfl) (by kernel_rfl) (by kernel_rfl) (by kernel_rfl) (fun _ _ _ h => h) (Or.inr ⟨by rfl, rfl⟩) (by assumption) ?rest218
  try simp only [Act.put, List.setIfInBounds_toArray, List.set_cons_zero, List.set_cons_succ]
  refine wpAnyH_take (i := 14) (v := undef) (ops_at rfl) (by kernel_rfl) (by kernel_rfl) (by kernel_rfl) (fun _ _ _ h => h) (Or.inr ⟨by rfl, rfl⟩) (by assumption) ?rest219
  try simp only [Act.put, List.setIfInBounds_toArray, List.set_cons_zero, List.set_cons_succ]
  refine wpAnyH_take (i := 15) (v := undef) (ops_at rfl) (by kernel_rfl) (by kernel_rfl) (by kernel_rfl) (fun _ _ _ h => h) (Or.inr ⟨by rfl, rfl⟩) (by assumption) ?rest220
  try simp only [Act.put, List.setIfInBounds_toArray, List.set_cons_zero, List.set_cons_succ]
  refine wpAnyH_take (i := 16) (v := undef) (ops_at rfl) (by kernel_rfl) (by kernel_rfl) (by kernel_rfl) (fun _ _ _ h => h) (Or.inr ⟨by rfl, rfl⟩) (by assumption) ?rest221
  try simp only [Act.put, List.setIfInBounds_toArray, List.set_cons_zero, List.set_cons_succ]
  refine wpAnyH_take (i := 17) (v := undef) (ops_at rfl) (by kernel_rfl) (by kernel_rfl) (by kernel_rfl) (fun _ _ _ h => h) (Or.inr ⟨by rfl, rfl⟩) (by assumption) ?rest222
  try simp only [Act.put, List.setIfInBounds_toArray, List.set_cons_zero, List.set_cons_succ]
  refine wpAnyH_take (i := 18) (v := undef) (ops_at rfl) (by kernel_rfl) (by kernel_rfl) (by kernel_rfl) (fun _ _ _ h => h) (Or.inr ⟨by rfl, rfl⟩) (by assumption) ?rest223
  try simp only [Act.put, List.setIfInBounds_toArray, List.set_cons_zero, List.set_cons_succ]
  refine wpAnyH_take (i := 19) (v := undef) (ops_at rfl) (by kernel_rfl) (by kernel_rfl) (by kernel_rfl) (fun _ _ _ h => h) (Or.inr ⟨by rfl, rfl⟩) (by assumption) ?rest224
  try simp only [Act.put, List.setIfInBounds_toArray, List.set_cons_zero, List.set_cons_succ]
  refine wpAnyH_take (i := 20) (v := undef) (ops_at rfl) (by kernel_rfl) (by kernel_rfl) (by kernel_rfl) (fun _ _ _ h => h) (Or.inr ⟨by rfl, rfl⟩) (by assumption) ?rest225
  try simp only [Act.put, List.setIfInBounds_toArray, List.set_cons_zero, List.set_cons_succ]
  refine wpAnyH_take (i := 21) (v := undef) (ops_at rfl) (by kernel_rfl) (by kernel_rfl) (by kernel_rfl) (fun _ _ _ h => h) (Or.inr ⟨by rfl, rfl⟩) (by assumption) ?rest226
  try simp only [Act.put, List.setIfInBounds_toArray, List.set_cons_zero, List.set_cons_succ]
  refine wpAnyH_take (i := 22) (v := undef) (ops_at rfl) (by kernel_rfl) (by kernel_rfl) (by kernel_rfl) (fun _ _ _ h => h) (Or.inr ⟨by rfl, rfl⟩) (by assumption) ?rest227
  try simp only [Act.put, List.setIfInBounds_toArray, List.set_cons_zero, List.set_cons_succ]
  refine wpAnyH_take (i := 23) (v := undef) (ops_at rfl) (by kernel_rfl) (by kernel_rfl) (by kernel_rfl) (fun _ _ _ h => h) (Or.inr ⟨by rfl, rfl⟩) (by assumption) ?rest228
  try simp only [Act.put, List.setIfInBounds_toArray, List.set_cons_zero, List.set_cons_succ]
  refine wpAnyH_take (i := 24) (v := undef) (ops_at rfl) (by kernel_rfl) (by kernel_rfl) (by kernel_rfl) (fun _ _ _ h => h) (Or.inr ⟨by rfl, rfl⟩) (by assumption) ?rest229
  try simp only [Act.put, List.setIfInBounds_toArray, List.set_cons_zero, List.set_cons_succ]
  refine wpAnyH_take (i := 25) (v := undef) (ops_at rfl) (by kernel_rfl) (by kernel_rfl) (by kernel_rfl) (fun _ _ _ h => h) (Or.inr ⟨by rfl, rfl⟩) (by assumption) ?rest230
  try simp only [Act.put, List.setIfInBounds_toArray, List.set_cons_zero, List.set_cons_succ]
  refine wpAnyH_take (i := 26) (v := undef) (ops_at rfl) (by kernel_rfl) (by kernel_rfl) (by kernel_rfl) (fun _ _ _ h => h) (Or.inr ⟨by rfl, rfl⟩) (by assumption) ?rest231
  try simp only [Act.put, List.setIfInBounds_toArray, List.set_cons_zero, List.set_cons_succ]
  refine wpAnyH_take (i := 27) (v := undef) (ops_at rfl) (by kernel_rfl) (by kernel_rfl) (by kernel_rfl) (fun _ _ _ h => h) (Or.inr ⟨by rfl, rfl⟩) (by assumption) ?rest232
  try simp only [Act.put, List.setIfInBounds_toArray, List.set_cons_zero, List.set_cons_succ]
  refine wpAnyH_take (i := 28) (v := undef) (ops_at rfl) (by kernel_rfl) (by kernel_rfl) (by kernel_rfl) (fun _ _ _ h => h) (Or.inr ⟨by rfl, rfl⟩) (by assumption) ?rest233
  try simp only [Act.put, List.setIfInBounds_toArray, List.set_cons_zero, List.set_cons_succ]
  refine wpAnyH_take (i := 29) (v := undef) (ops_at rfl) (by kernel_rfl) (by kernel_rfl) (by kernel_rfl) (fun _ _ _ h => h) (Or.inr ⟨by rfl, rfl⟩) (by assumption) ?rest234
  try simp only [Act.put, List.setIfInBounds_toArray, List.set_cons_zero, List.set_cons_succ]
  refine wpAnyH_take (i := 30) (v := ?v235) (ops_at rfl) (by kernel_rfl) (by kernel_rfl) (by kernel_rfl) (fun _ _ _ h => h) (Or.inl ⟨by rfl, ?hy235⟩) (by assumption) ?rest235
  case hy235 => intro w' hSw; (try dsimp only at hSw); go_simp; try with_reducible rfl
  try simp only [Act.put, List.setIfInBounds_toArray, List.set_cons_zero, List.set_cons_succ]
  refine wpAnyH_done (by kernel_rfl) ?_ _
  have S3 : St w0 _ (cellsT g 23 ({ a with mode := 3 } : AG).cs :: (soT sv o :: (tl ++ [cellsT w.heap.size 70 (#[.pointer (some ⟨g, 0, none⟩), .int .i64 m.node, .int .i64 m.kind, .int .i64 m.term, .int .i64 m.gen, .int .i64 m.job, .int .i64 m.inc, .int .i64 m.version, .int .i64 m.epoch, .int .i64 m.until_, .int .i64 m.mode, .int .i64 m.work, .int .i64 now, sv] : Array Value).toList]))) := S2.setCell 0 rfl 3 (.int .i64 3)
  go_wp2
  go_end0
  exact ⟨rfl, ordDrop (tl := soT sv o :: tl) S3.drew⟩
set_option maxRecDepth 10000 in
set_option maxHeartbeats 3200000 in
theorem ordSave_stage (S : St w0 w (cellsT g 23 a.cs :: soT sv o :: tl)) (m : Msg) (now : Int) (hw : oWrites o ≤ 1000000) (h : ownsJ a m 2 = true ∧ now < a.lease) (hm : m.mode = 1) :
    Calls Try.prog 36 #[.agg #[.pointer (some ⟨g, 0, none⟩), .int .i64 m.node, .int .i64 m.kind, .int .i64 m.term, .int .i64 m.gen, .int .i64 m.job, .int .i64 m.inc, .int .i64 m.version, .int .i64 m.epoch, .int .i64 m.until_, .int .i64 m.mode, .int .i64 m.work, .int .i64 now, sv]] w fun e w' => e = .returned (.tuple #[]) ∧ St w0 w' (cellsT g 23 (oSave a m now o).1.cs :: soT sv (oSave a m now o).2 :: tl) := by
  have S1 := ordSt S m now sv
  have HO := hid h.1
  obtain ⟨c, hc⟩ : ∃ c, (oStage o m.term a.job a.inc (ckData a.worked)).1 = c := ⟨_, rfl⟩
  obtain ⟨o', ho'⟩ : ∃ o', (oStage o m.term a.job a.inc (ckData a.worked)).2 = o' := ⟨_, rfl⟩
  have HE : Hid (oSave a m now o = (if c = 0 then { a with mode := 3 } else a, o')) := by rw [Hid]; unfold oSave; rw [if_pos h, if_pos hm, hc, ho']
  have HC := hid hc
  have HO2 := hid ho'
  have gl : decide (a.lease ≤ now) = false := decide_eq_false (by have := h.2; omega)
  have gm : (m.mode == 1) = true := by simpa using hm
  obtain ⟨k5, hk5⟩ : ∃ k, (codeNum a.worked).length = k := ⟨_, rfl⟩
  obtain ⟨k6, hk6⟩ : ∃ k, (ckData a.worked).length = k := ⟨_, rfl⟩
  have b5 : k5 ≤ 8 := hk5 ▸ codeNum_len _
  have b6 : k6 ≤ 16 := hk6 ▸ ckData_len _
  have HK5 := hid hk5
  have HK6 := hid hk6
  clear h hm hc ho' hk5 hk6
  go_enter Try.func36, Try.ntmps36
  go_wp2_with fail
  refine wp_region_held_drew (S := (fun w' => (w'.cell? ⟨w.heap.size, 0, none⟩ = some (.pointer (some ⟨g, 0, none⟩)) ∧ w'.cell? ⟨w.heap.size, 1, none⟩ = some (.int .i64 m.node) ∧ w'.cell? ⟨w.heap.size, 2, none⟩ = some (.int .i64 m.kind) ∧ w'.cell? ⟨w.heap.size, 3, none⟩ = some (.int .i64 m.term) ∧ w'.cell? ⟨w.heap.size, 4, none⟩ = some (.int .i64 m.gen) ∧ w'.cell? ⟨w.heap.size, 5, none⟩ = some (.int .i64 m.job) ∧ w'.cell? ⟨w.heap.size, 6, none⟩ = some (.int .i64 m.inc) ∧ w'.cell? ⟨w.heap.size, 7, none⟩ = some (.int .i64 m.version) ∧ w'.cell? ⟨w.heap.size, 8, none⟩ = some (.int .i64 m.epoch) ∧ w'.cell? ⟨w.heap.size, 9, none⟩ = some (.int .i64 m.until_) ∧ w'.cell? ⟨w.heap.size, 10, none⟩ = some (.int .i64 m.mode) ∧ w'.cell? ⟨w.heap.size, 11, none⟩ = some (.int .i64 m.work) ∧ w'.cell? ⟨w.heap.size, 12, none⟩ = some (.int .i64 now) ∧ w'.cell? ⟨w.heap.size, 13, none⟩ = some sv) ∧ (w'.cell? ⟨g, 0, none⟩ = some (.bool a.up) ∧ w'.cell? ⟨g, 1, none⟩ = some (.int .i64 a.term) ∧ w'.cell? ⟨g, 2, none⟩ = some (.int .i64 a.gen) ∧ w'.cell? ⟨g, 3, none⟩ = some (.int .i64 a.mode) ∧ w'.cell? ⟨g, 4, none⟩ = some (.int .i64 a.job) ∧ w'.cell? ⟨g, 5, none⟩ = some (.int .i64 a.inc) ∧ w'.cell? ⟨g, 6, none⟩ = some (.int .i64 a.version) ∧ w'.cell? ⟨g, 7, none⟩ = some (.int .i64 a.lease) ∧ w'.cell? ⟨g, 8, none⟩ = some (.int .i64 a.worked) ∧ w'.cell? ⟨g, 9, none⟩ = some (.int .i64 a.to_)))) (by kernel_rfl) (by exact ⟨ordCells S1.drew, agCells S1.drew⟩) (fun hHeld => ?_)
  change wpAnyH _ _ _ _ _ 13 (Array.replicate 13 false) _ _
  refine wpAnyH_take (i := 0) (v := ?v236) (ops_at rfl) (by kernel_rfl) (by kernel_rfl) (by kernel_rfl) (fun _ _ _ h => h) (Or.inl ⟨by rfl, ?hy236⟩) (by assumption) ?rest236
  case hy236 => intro w' hSw; (try dsimp only at hSw); go_simp; try with_reducible rfl
  try simp only [Act.put, List.setIfInBounds_toArray, List.set_cons_zero, List.set_cons_succ]
  refine wpAnyH_ready (rs := [1]) (by kernel_rfl) (by simp) ?_
  refine AllReadyH.cons (ops_at rfl) (fun K hK => ?_) AllReadyH.nil
  go_simp
  refine (agOwn S1.drew m now sv 2).mono ?_
  rintro e w1 ⟨rfl, S2⟩
  rw [HO.out]
  refine hK.out _ _ (by exact ⟨ordCells S2, agCells S2⟩) (fun hHeld => ?_)
  clear hK K
  try simp only [Act.put, List.setIfInBounds_toArray, List.set_cons_zero, List.set_cons_succ]
  refine wpAnyH_take (i := 2) (v := ?v238) (ops_at rfl) (by kernel_rfl) (by kernel_rfl) (by kernel_rfl) (fun _ _ _ h => h) (Or.inl ⟨by rfl, ?hy238⟩) (by assumption) ?rest238
  case hy238 => intro w' hSw; (try dsimp only at hSw); go_simp; try with_reducible rfl
  try simp only [Act.put, List.setIfInBounds_toArray, List.set_cons_zero, List.set_cons_succ]
  refine wpAnyH_take (i := 3) (v := ?v239) (ops_at rfl) (by kernel_rfl) (by kernel_rfl) (by kernel_rfl) (fun _ _ _ h => h) (Or.inl ⟨by rfl, ?hy239⟩) (by assumption) ?rest239
  case hy239 => intro w' hSw; (try dsimp only at hSw); go_simp; try with_reducible rfl
  try simp only [Act.put, List.setIfInBounds_toArray, List.set_cons_zero, List.set_cons_succ]
  refine wpAnyH_take (i := 4) (v := ?v240) (ops_at rfl) (by kernel_rfl) (by kernel_rfl) (by kernel_rfl) (fun _ _ _ h => h) (Or.inl ⟨by rfl, ?hy240⟩) (by assumption) ?rest240
  case hy240 => intro w' hSw; (try dsimp only at hSw); go_simp; try with_reducible rfl
  try simp only [Act.put, List.setIfInBounds_toArray, List.set_cons_zero, List.set_cons_succ]
  refine wpAnyH_take (i := 5) (v := ?v241) (ops_at rfl) (by kernel_rfl) (by kernel_rfl) (by kernel_rfl) (fun _ _ _ h => h) (Or.inl ⟨by rfl, ?hy241⟩) (by assumption) ?rest241
  case hy241 => intro w' hSw; (try dsimp only at hSw); go_simp; try with_reducible rfl
  try simp only [Act.put, List.setIfInBounds_toArray, List.set_cons_zero, List.set_cons_succ]
  refine wpAnyH_take (i := 6) (v := ?v242) (ops_at rfl) (by kernel_rfl) (by kernel_rfl) (by kernel_rfl) (fun _ _ _ h => h) (Or.inl ⟨by rfl, ?hy242⟩) (by assumption) ?rest242
  case hy242 => intro w' hSw; (try dsimp only at hSw); go_simp; try with_reducible rfl
  try simp only [Act.put, List.setIfInBounds_toArray, List.set_cons_zero, List.set_cons_succ]
  refine wpAnyH_take (i := 7) (v := ?v243) (ops_at rfl) (by kernel_rfl) (by kernel_rfl) (by kernel_rfl) (fun _ _ _ h => h) (Or.inl ⟨by rfl, ?hy243⟩) (by assumption) ?rest243
  case hy243 => intro w' hSw; (try dsimp only at hSw); go_simp; try with_reducible rfl
  try simp only [Act.put, List.setIfInBounds_toArray, List.set_cons_zero, List.set_cons_succ]
  refine wpAnyH_take (i := 8) (v := ?v244) (ops_at rfl) (by kernel_rfl) (by kernel_rfl) (by kernel_rfl) (fun _ _ _ h => h) (Or.inl ⟨by rfl, ?hy244⟩) (by assumption) ?rest244
  case hy244 => intro w' hSw; (try dsimp only at hSw); go_simp; try with_reducible rfl
  try simp only [Act.put, List.setIfInBounds_toArray, List.set_cons_zero, List.set_cons_succ]
  refine wpAnyH_take (i := 9) (v := ?v245) (ops_at rfl) (by kernel_rfl) (by kernel_rfl) (by kernel_rfl) (fun _ _ _ h => h) (Or.inl ⟨by rfl, ?hy245⟩) (by assumption) ?rest245
  case hy245 => intro w' hSw; (try dsimp only at hSw); go_simp; try with_reducible rfl
  try simp only [Act.put, List.setIfInBounds_toArray, List.set_cons_zero, List.set_cons_succ]
  refine wpAnyH_take (i := 10) (v := ?v246) (ops_at rfl) (by kernel_rfl) (by kernel_rfl) (by kernel_rfl) (fun _ _ _ h => h) (Or.inl ⟨by rfl, ?hy246⟩) (by assumption) ?rest246
  case hy246 => intro w' hSw; (try dsimp only at hSw); go_simp; try with_reducible rfl
  try simp only [Act.put, List.setIfInBounds_toArray, List.set_cons_zero, List.set_cons_succ]
  refine wpAnyH_take (i := 11) (v := ?v247) (ops_at rfl) (by kernel_rfl) (by kernel_rfl) (by kernel_rfl) (fun _ _ _ h => h) (Or.inl ⟨by rfl, ?hy247⟩) (by assumption) ?rest247
  case hy247 => intro w' hSw; (try dsimp only at hSw); go_simp; try with_reducible rfl
  try simp only [Act.put, List.setIfInBounds_toArray, List.set_cons_zero, List.set_cons_succ]
  refine wpAnyH_take (i := 12) (v := ?v248) (ops_at rfl) (by kernel_rfl) (by kernel_rfl) (by kernel_rfl) (fun _ _ _ h => h) (Or.inl ⟨by rfl, ?hy248⟩) (by assumption) ?rest248
  case hy248 => intro w' hSw; (try dsimp only at hSw); go_simp; try with_reducible rfl
  try simp only [Act.put, List.setIfInBounds_toArray, List.set_cons_zero, List.set_cons_succ]
  refine wpAnyH_done (by kernel_rfl) ?_ _
  go_wp2_with fail
  refine wp_region_held_drew (S := (fun w' => (w'.cell? ⟨w.heap.size, 0, none⟩ = some (.pointer (some ⟨g, 0, none⟩)) ∧ w'.cell? ⟨w.heap.size, 1, none⟩ = some (.int .i64 m.node) ∧ w'.cell? ⟨w.heap.size, 2, none⟩ = some (.int .i64 m.kind) ∧ w'.cell? ⟨w.heap.size, 3, none⟩ = some (.int .i64 m.term) ∧ w'.cell? ⟨w.heap.size, 4, none⟩ = some (.int .i64 m.gen) ∧ w'.cell? ⟨w.heap.size, 5, none⟩ = some (.int .i64 m.job) ∧ w'.cell? ⟨w.heap.size, 6, none⟩ = some (.int .i64 m.inc) ∧ w'.cell? ⟨w.heap.size, 7, none⟩ = some (.int .i64 m.version) ∧ w'.cell? ⟨w.heap.size, 8, none⟩ = some (.int .i64 m.epoch) ∧ w'.cell? ⟨w.heap.size, 9, none⟩ = some (.int .i64 m.until_) ∧ w'.cell? ⟨w.heap.size, 10, none⟩ = some (.int .i64 m.mode) ∧ w'.cell? ⟨w.heap.size, 11, none⟩ = some (.int .i64 m.work) ∧ w'.cell? ⟨w.heap.size, 12, none⟩ = some (.int .i64 now) ∧ w'.cell? ⟨w.heap.size, 13, none⟩ = some sv) ∧ (w'.cell? ⟨g, 0, none⟩ = some (.bool a.up) ∧ w'.cell? ⟨g, 1, none⟩ = some (.int .i64 a.term) ∧ w'.cell? ⟨g, 2, none⟩ = some (.int .i64 a.gen) ∧ w'.cell? ⟨g, 3, none⟩ = some (.int .i64 a.mode) ∧ w'.cell? ⟨g, 4, none⟩ = some (.int .i64 a.job) ∧ w'.cell? ⟨g, 5, none⟩ = some (.int .i64 a.inc) ∧ w'.cell? ⟨g, 6, none⟩ = some (.int .i64 a.version) ∧ w'.cell? ⟨g, 7, none⟩ = some (.int .i64 a.lease) ∧ w'.cell? ⟨g, 8, none⟩ = some (.int .i64 a.worked) ∧ w'.cell? ⟨g, 9, none⟩ = some (.int .i64 a.to_)))) (by kernel_rfl) (by exact ⟨ordCells S2.drew, agCells S2.drew⟩) (fun hHeld => ?_)
  change wpAnyH _ _ _ _ _ 31 (Array.replicate 31 false) _ _
  refine wpAnyH_take (i := 0) (v := ?v249) (ops_at rfl) (by kernel_rfl) (by kernel_rfl) (by kernel_rfl) (fun _ _ _ h => h) (Or.inl ⟨by rfl, ?hy249⟩) (by assumption) ?rest249
  case hy249 => intro w' hSw; (try dsimp only at hSw); go_simp; try with_reducible rfl
  try simp only [Act.put, List.setIfInBounds_toArray, List.set_cons_zero, List.set_cons_succ]
  refine wpAnyH_take (i := 1) (v := ?v250) (ops_at rfl) (by kernel_rfl) (by kernel_rfl) (by kernel_rfl) (fun _ _ _ h => h) (Or.inl ⟨by rfl, ?hy250⟩) (by assumption) ?rest250
  case hy250 => intro w' hSw; (try dsimp only at hSw); go_simp; try with_reducible rfl
  try simp only [Act.put, List.setIfInBounds_toArray, List.set_cons_zero, List.set_cons_succ]
  refine wpAnyH_take (i := 2) (v := ?v251) (ops_at rfl) (by kernel_rfl) (by kernel_rfl) (by kernel_rfl) (fun _ _ _ h => h) (Or.inl ⟨by rfl, ?hy251⟩) (by assumption) ?rest251
  case hy251 => intro w' hSw; (try dsimp only at hSw); go_simp; try with_reducible rfl
  try simp only [Act.put, List.setIfInBounds_toArray, List.set_cons_zero, List.set_cons_succ]
  refine wpAnyH_take (i := 3) (v := ?v252) (ops_at rfl) (by kernel_rfl) (by kernel_rfl) (by kernel_rfl) (fun _ _ _ h => h) (Or.inl ⟨by rfl, ?hy252⟩) (by assumption) ?rest252
  case hy252 => intro w' hSw; (try dsimp only at hSw); go_simp; try with_reducible rfl
  try simp only [Act.put, List.setIfInBounds_toArray, List.set_cons_zero, List.set_cons_succ]
  refine wpAnyH_take (i := 4) (v := ?v253) (ops_at rfl) (by kernel_rfl) (by kernel_rfl) (by kernel_rfl) (fun _ _ _ h => h) (Or.inl ⟨by rfl, ?hy253⟩) (by assumption) ?rest253
  case hy253 => intro w' hSw; (try dsimp only at hSw); go_simp; try with_reducible rfl
  try simp only [Act.put, List.setIfInBounds_toArray, List.set_cons_zero, List.set_cons_succ]
  refine wpAnyH_take (i := 5) (v := ?v254) (ops_at rfl) (by kernel_rfl) (by kernel_rfl) (by kernel_rfl) (fun _ _ _ h => h) (Or.inl ⟨by rfl, ?hy254⟩) (by assumption) ?rest254
  case hy254 => intro w' hSw; (try dsimp only at hSw); go_simp; try with_reducible rfl
  try simp only [Act.put, List.setIfInBounds_toArray, List.set_cons_zero, List.set_cons_succ]
  refine wpAnyH_take (i := 6) (v := ?v255) (ops_at rfl) (by kernel_rfl) (by kernel_rfl) (by kernel_rfl) (fun _ _ _ h => h) (Or.inl ⟨by rfl, ?hy255⟩) (by assumption) ?rest255
  case hy255 => intro w' hSw; (try dsimp only at hSw); go_simp; try with_reducible rfl
  try simp only [Act.put, List.setIfInBounds_toArray, List.set_cons_zero, List.set_cons_succ]
  refine wpAnyH_take (i := 7) (v := ?v256) (ops_at rfl) (by kernel_rfl) (by kernel_rfl) (by kernel_rfl) (fun _ _ _ h => h) (Or.inl ⟨by rfl, ?hy256⟩) (by assumption) ?rest256
  case hy256 => intro w' hSw; (try dsimp only at hSw); go_simp; try with_reducible rfl
  try simp only [Act.put, List.setIfInBounds_toArray, List.set_cons_zero, List.set_cons_succ]
  refine wpAnyH_take (i := 8) (v := ?v257) (ops_at rfl) (by kernel_rfl) (by kernel_rfl) (by kernel_rfl) (fun _ _ _ h => h) (Or.inl ⟨by rfl, ?hy257⟩) (by assumption) ?rest257
  case hy257 => intro w' hSw; (try dsimp only at hSw); go_simp; try with_reducible rfl
  try simp only [Act.put, List.setIfInBounds_toArray, List.set_cons_zero, List.set_cons_succ]
  refine wpAnyH_take (i := 9) (v := ?v258) (ops_at rfl) (by kernel_rfl) (by kernel_rfl) (by kernel_rfl) (fun _ _ _ h => h) (Or.inl ⟨by rfl, ?hy258⟩) (by assumption) ?rest258
  case hy258 => intro w' hSw; (try dsimp only at hSw); go_simp; try with_reducible rfl
  try simp only [Act.put, List.setIfInBounds_toArray, List.set_cons_zero, List.set_cons_succ]
  refine wpAnyH_take (i := 10) (v := ?v259) (ops_at rfl) (by kernel_rfl) (by kernel_rfl) (by kernel_rfl) (fun _ _ _ h => h) (Or.inl ⟨by rfl, ?hy259⟩) (by assumption) ?rest259
  case hy259 => intro w' hSw; (try dsimp only at hSw); go_simp; try with_reducible rfl
  try simp only [Act.put, List.setIfInBounds_toArray, List.set_cons_zero, List.set_cons_succ]
  refine wpAnyH_take (i := 11) (v := ?v260) (ops_at rfl) (by kernel_rfl) (by kernel_rfl) (by kernel_rfl) (fun _ _ _ h => h) (Or.inl ⟨by rfl, ?hy260⟩) (by assumption) ?rest260
  case hy260 => intro w' hSw; (try dsimp only at hSw); go_simp; try with_reducible rfl
  try simp only [Act.put, List.setIfInBounds_toArray, List.set_cons_zero, List.set_cons_succ]
  refine wpAnyH_take (i := 12) (v := ?v261) (ops_at rfl) (by kernel_rfl) (by kernel_rfl) (by kernel_rfl) (fun _ _ _ h => h) (Or.inl ⟨by rfl, ?hy261⟩) (by assumption) ?rest261
  case hy261 => intro w' hSw; (try dsimp only at hSw); go_simp; try with_reducible rfl
  try simp only [Act.put, List.setIfInBounds_toArray, List.set_cons_zero, List.set_cons_succ]
  refine wpAnyH_take (i := 13) (v := ?v262) (ops_at rfl) (by kernel_rfl) (by kernel_rfl) (by kernel_rfl) (fun _ _ _ h => h) (Or.inl ⟨by rfl, ?hy262⟩) (by assumption) ?rest262
  case hy262 => intro w' hSw; (try dsimp only at hSw); go_simp; try with_reducible rfl
  try simp only [Act.put, List.setIfInBounds_toArray, List.set_cons_zero, List.set_cons_succ]
  refine wpAnyH_take (i := 14) (v := ?v263) (ops_at rfl) (by kernel_rfl) (by kernel_rfl) (by kernel_rfl) (fun _ _ _ h => h) (Or.inl ⟨by rfl, ?hy263⟩) (by assumption) ?rest263
  case hy263 => intro w' hSw; (try dsimp only at hSw); go_simp; try with_reducible rfl
  try simp only [Act.put, List.setIfInBounds_toArray, List.set_cons_zero, List.set_cons_succ]
  refine wpAnyH_take (i := 15) (v := ?v264) (ops_at rfl) (by kernel_rfl) (by kernel_rfl) (by kernel_rfl) (fun _ _ _ h => h) (Or.inl ⟨by rfl, ?hy264⟩) (by assumption) ?rest264
  case hy264 => intro w' hSw; (try dsimp only at hSw); go_simp; try with_reducible rfl
  try simp only [Act.put, List.setIfInBounds_toArray, List.set_cons_zero, List.set_cons_succ]
  refine wpAnyH_take (i := 16) (v := ?v265) (ops_at rfl) (by kernel_rfl) (by kernel_rfl) (by kernel_rfl) (fun _ _ _ h => h) (Or.inl ⟨by rfl, ?hy265⟩) (by assumption) ?rest265
  case hy265 => intro w' hSw; (try dsimp only at hSw); go_simp; try with_reducible rfl
  try simp only [Act.put, List.setIfInBounds_toArray, List.set_cons_zero, List.set_cons_succ]
  refine wpAnyH_take (i := 17) (v := ?v266) (ops_at rfl) (by kernel_rfl) (by kernel_rfl) (by kernel_rfl) (fun _ _ _ h => h) (Or.inl ⟨by rfl, ?hy266⟩) (by assumption) ?rest266
  case hy266 => intro w' hSw; (try dsimp only at hSw); go_simp; try with_reducible rfl
  try simp only [Act.put, List.setIfInBounds_toArray, List.set_cons_zero, List.set_cons_succ]
  refine wpAnyH_take (i := 18) (v := ?v267) (ops_at rfl) (by kernel_rfl) (by kernel_rfl) (by kernel_rfl) (fun _ _ _ h => h) (Or.inl ⟨by rfl, ?hy267⟩) (by assumption) ?rest267
  case hy267 => intro w' hSw; (try dsimp only at hSw); go_simp; try with_reducible rfl
  try simp only [Act.put, List.setIfInBounds_toArray, List.set_cons_zero, List.set_cons_succ]
  refine wpAnyH_take (i := 19) (v := ?v268) (ops_at rfl) (by kernel_rfl) (by kernel_rfl) (by kernel_rfl) (fun _ _ _ h => h) (Or.inl ⟨by rfl, ?hy268⟩) (by assumption) ?rest268
  case hy268 => intro w' hSw; (try dsimp only at hSw); go_simp; try with_reducible rfl
  try simp only [Act.put, List.setIfInBounds_toArray, List.set_cons_zero, List.set_cons_succ]
  refine wpAnyH_take (i := 20) (v := ?v269) (ops_at rfl) (by kernel_rfl) (by kernel_rfl) (by kernel_rfl) (fun _ _ _ h => h) (Or.inl ⟨by rfl, ?hy269⟩) (by assumption) ?rest269
  case hy269 => intro w' hSw; (try dsimp only at hSw); go_simp; try with_reducible rfl
  try simp only [Act.put, List.setIfInBounds_toArray, List.set_cons_zero, List.set_cons_succ]
  refine wpAnyH_take (i := 21) (v := ?v270) (ops_at rfl) (by kernel_rfl) (by kernel_rfl) (by kernel_rfl) (fun _ _ _ h => h) (Or.inl ⟨by rfl, ?hy270⟩) (by assumption) ?rest270
  case hy270 => intro w' hSw; (try dsimp only at hSw); go_simp; try with_reducible rfl
  try simp only [Act.put, List.setIfInBounds_toArray, List.set_cons_zero, List.set_cons_succ]
  refine wpAnyH_take (i := 22) (v := ?v271) (ops_at rfl) (by kernel_rfl) (by kernel_rfl) (by kernel_rfl) (fun _ _ _ h => h) (Or.inl ⟨by rfl, ?hy271⟩) (by assumption) ?rest271
  case hy271 => intro w' hSw; (try dsimp only at hSw); go_simp; try with_reducible rfl
  try simp only [Act.put, List.setIfInBounds_toArray, List.set_cons_zero, List.set_cons_succ]
  refine wpAnyH_take (i := 23) (v := ?v272) (ops_at rfl) (by kernel_rfl) (by kernel_rfl) (by kernel_rfl) (fun _ _ _ h => h) (Or.inl ⟨by rfl, ?hy272⟩) (by assumption) ?rest272
  case hy272 => intro w' hSw; (try dsimp only at hSw); go_simp; try with_reducible rfl
  try simp only [Act.put, List.setIfInBounds_toArray, List.set_cons_zero, List.set_cons_succ]
  refine wpAnyH_take (i := 24) (v := ?v273) (ops_at rfl) (by kernel_rfl) (by kernel_rfl) (by kernel_rfl) (fun _ _ _ h => h) (Or.inl ⟨by rfl, ?hy273⟩) (by assumption) ?rest273
  case hy273 => intro w' hSw; (try dsimp only at hSw); go_simp; try with_reducible rfl
  try simp only [Act.put, List.setIfInBounds_toArray, List.set_cons_zero, List.set_cons_succ]
  refine wpAnyH_ready (rs := [25]) (by kernel_rfl) (by simp) ?_
  refine AllReadyH.cons (ops_at rfl) (fun K hK => ?_) AllReadyH.nil
  go_simp
  refine (num_any a.worked _).mono ?_
  rintro e w5 ⟨v5, rfl, ho5, hb5⟩
  obtain ⟨a5, c5, rfl⟩ := ho5.written HK5.out
  have S5 := (S2.drew.bytes ho5 hb5).rot
  have hcv := str_run w5 a5 _ k5 c5 HK5.out (S5.at 0 rfl)
  clear ho5 hb5
  refine hK.out _ _ (by exact ⟨ordCells S5.tail, agCells S5.tail⟩) (fun hHeld => ?_)
  clear hK K
  try simp only [Act.put, List.setIfInBounds_toArray, List.set_cons_zero, List.set_cons_succ]
  refine wpAnyH_ready (rs := [26]) (by kernel_rfl) (by simp) ?_
  refine AllReadyH.cons (ops_at rfl) (fun K hK => ?_) AllReadyH.nil
  go_simp
  refine hK.out _ _ (by exact ⟨ordCells S5.tail, agCells S5.tail⟩) (fun hHeld => ?_)
  clear hK K
  try simp only [Act.put, List.setIfInBounds_toArray, List.set_cons_zero, List.set_cons_succ]
  clear hcv
  refine wpAnyH_ready (rs := [27]) (by kernel_rfl) (by simp) ?_
  refine AllReadyH.cons (ops_at rfl) (fun K hK => ?_) AllReadyH.nil
  go_simp
  refine (text_any _ (by show (codeNum a.worked).toArray.size ≤ _; rw [List.size_toArray, HK5.out]; omega) _).mono ?_
  rintro e w6 ⟨v6, rfl, ho6, hb6⟩
  have ho6' : Own w6 w5.heap.size v6 (ckData a.worked) := ho6
  obtain ⟨a6, c6, rfl⟩ := ho6'.written HK6.out
  have S6 := (S5.tail.bytes ho6' hb6).rot
  clear ho6 ho6' hb6 S5
  refine hK.out _ _ (by exact ⟨ordCells S6.tail, agCells S6.tail⟩) (fun hHeld => ?_)
  clear hK K
  try simp only [Act.put, List.setIfInBounds_toArray, List.set_cons_zero, List.set_cons_succ]
  refine wpAnyH_ready (rs := [28]) (by kernel_rfl) (by simp) ?_
  refine AllReadyH.cons (ops_at rfl) (fun K hK => ?_) AllReadyH.nil
  go_simp
  refine (soStage (o := o) S6 2 rfl hw m.term a.job a.inc a6 _ k6 c6 HK6.out (by omega) (S6.slA 0 rfl).2.2.2.1 (by exact S6.at 0 rfl)).mono ?_
  rintro e w7 ⟨rfl, S7⟩
  rw [HC.out]
  rw [HO2.out] at S7
  have S8 : St w0 w7 (cellsT g 23 a.cs :: ((soT sv o' :: tl) ++ [cellsT w.heap.size 70 (#[.pointer (some ⟨g, 0, none⟩), .int .i64 m.node, .int .i64 m.kind, .int .i64 m.term, .int .i64 m.gen, .int .i64 m.job, .int .i64 m.inc, .int .i64 m.version, .int .i64 m.epoch, .int .i64 m.until_, .int .i64 m.mode, .int .i64 m.work, .int .i64 now, sv] : Array Value).toList])) := S7.tail
  clear S7 S6
  refine hK.out _ _ (by exact ⟨ordCells S8, agCells S8⟩) (fun hHeld => ?_)
  clear hK K
  try simp only [Act.put, List.setIfInBounds_toArray, List.set_cons_zero, List.set_cons_succ]
  refine wpAnyH_take (i := 29) (v := ?v277) (ops_at rfl) (by kernel_rfl) (by kernel_rfl) (by kernel_rfl) (fun _ _ _ h => h) (Or.inl ⟨by rfl, ?hy277⟩) (by assumption) ?rest277
  case hy277 => intro w' hSw; (try dsimp only at hSw); go_simp; try with_reducible rfl
  try simp only [Act.put, List.setIfInBounds_toArray, List.set_cons_zero, List.set_cons_succ]
  refine wpAnyH_take (i := 30) (v := ?v278) (ops_at rfl) (by kernel_rfl) (by kernel_rfl) (by kernel_rfl) (fun _ _ _ h => h) (Or.inl ⟨by rfl, ?hy278⟩) (by assumption) ?rest278
  case hy278 => intro w' hSw; (try dsimp only at hSw); go_simp; try with_reducible rfl
  try simp only [Act.put, List.setIfInBounds_toArray, List.set_cons_zero, List.set_cons_succ]
  refine wpAnyH_done (by kernel_rfl) ?_ _
  by_cases h0 : c = 0
  · have g0 : (c != 0) = false := by simpa using h0
    have HF : Hid (oSave a m now o = ({ a with mode := 3 }, o')) := by rw [Hid, HE.out, if_pos h0]
    clear h0
    obtain ⟨x0, x1, x2, x3, x4, x5, x6, x7, x8, x9⟩ := agCells S8
    obtain ⟨f3, f4, f5, f7, f8, f9⟩ := agFree S8
    obtain ⟨y0, y1, y2, y3, y4, y5, y6, y7, y8, y9, y10, y11, y12, y13⟩ := ordCells S8
    have S9 : St w0 _ (cellsT g 23 ({ a with mode := 3 } : AG).cs :: ((soT sv o' :: tl) ++ [cellsT w.heap.size 70 (#[.pointer (some ⟨g, 0, none⟩), .int .i64 m.node, .int .i64 m.kind, .int .i64 m.term, .int .i64 m.gen, .int .i64 m.job, .int .i64 m.inc, .int .i64 m.version, .int .i64 m.epoch, .int .i64 m.until_, .int .i64 m.mode, .int .i64 m.work, .int .i64 now, sv] : Array Value).toList])) := S8.setCell 0 rfl 3 (.int .i64 3)
    go_wp2
    go_end0
    rw [HF.out]
    exact ⟨rfl, ordDrop S9⟩
  · have g0 : (c != 0) = true := by simpa using h0
    have HF : Hid (oSave a m now o = (a, o')) := by rw [Hid, HE.out, if_neg h0]
    clear h0
    go_wp2
    refine bodyPost_ret (results_none rfl _ _ _) rfl ?_
    rw [HF.out]
    exact ⟨rfl, ordDrop S8⟩
theorem ordSave (S : St w0 w (cellsT g 23 a.cs :: soT sv o :: tl)) (m : Msg) (now : Int) (hw : oWrites o ≤ 1000000) :
    Calls Try.prog 36 #[.agg #[.pointer (some ⟨g, 0, none⟩), .int .i64 m.node, .int .i64 m.kind, .int .i64 m.term, .int .i64 m.gen, .int .i64 m.job, .int .i64 m.inc, .int .i64 m.version, .int .i64 m.epoch, .int .i64 m.until_, .int .i64 m.mode, .int .i64 m.work, .int .i64 now, sv]] w fun e w' => e = .returned (.tuple #[]) ∧ St w0 w' (cellsT g 23 (oSave a m now o).1.cs :: soT sv (oSave a m now o).2 :: tl) := by
  by_cases h : ownsJ a m 2 = true ∧ now < a.lease
  · by_cases hm : m.mode = 1
    · exact ordSave_stage S m now hw h hm
    · have e : oSave a m now o = ({ a with mode := 3 }, o) := by unfold oSave; rw [if_pos h, if_neg hm]
      rw [e]; exact ordSave_quiet S m now h hm
  · have e : oSave a m now o = (a, o) := by unfold oSave; rw [if_neg h]
    rw [e]; exact ordSave_not S m now h
end
end Go.Proofs.Ytchehnkmmmnonaa
