/- Watch: what an agent may not have; whether a function holds of an agent. -/
import Derived.Test.YtilobmefomoemaaWatch4
namespace Go.Proofs.Ytilobmefomoemaa
set_option linter.unusedVariables false
set_option linter.unusedSimpArgs false
open Go.RowKit
def jobOf (s : STA) (job : Int) : Option JB := s.J[(job - 1).toNat]?
def incOf (s : STA) (job : Int) : Int := match jobOf s job with | some j => j.inc | none => 0
def strayA (s : STA) (x : AG) : Bool := decide (s.term < x.term) || (hasA x && (!isJ s x.job || decide (incOf s x.job < x.inc)))
set_option maxRecDepth 10000 in
set_option maxHeartbeats 6400000 in
theorem wtStray (c : CF) (s : STA) (la : Option Addr) (ln lc : Nat) (sv : Value) (x : AG) (w : World) (hs : s.At w) :
    Calls Try.prog 36 #[.agg #[.int .i64 c.nodes, .int .i64 c.queues, .int .i64 c.quota, .int .i64 c.wave, .int .i64 c.lease, .int .i64 c.retry, .int .i64 c.deadline, .int .i64 c.room, .int .i64 c.disk, .slice s.na s.nn s.nc, .slice s.ja s.jn s.jc, .int .i64 s.goal, .int .i64 s.prior, .int .i64 s.mode, .int .i64 s.term, .slice la ln lc, sv], .agg #[.bool x.up, .int .i64 x.term, .int .i64 x.gen, .int .i64 x.mode, .int .i64 x.job, .int .i64 x.inc, .int .i64 x.version, .int .i64 x.lease, .int .i64 x.worked, .int .i64 x.to_]] w fun e w' => e = .returned (.bool (strayA s x)) ∧ Below w.heap.size w w' := by
  have S1 : St w _ [cellsT w.heap.size 77 (#[.int .i64 c.nodes, .int .i64 c.queues, .int .i64 c.quota, .int .i64 c.wave, .int .i64 c.lease, .int .i64 c.retry, .int .i64 c.deadline, .int .i64 c.room, .int .i64 c.disk, .slice s.na s.nn s.nc, .slice s.ja s.jn s.jc, .int .i64 s.goal, .int .i64 s.prior, .int .i64 s.mode, .int .i64 s.term, .slice la ln lc, sv] : Array Value).toList, cellsT (w.heap.size + 1) 31 x.cs] := ((St.start w).newAt 77 #[.int .i64 c.nodes, .int .i64 c.queues, .int .i64 c.quota, .int .i64 c.wave, .int .i64 c.lease, .int .i64 c.retry, .int .i64 c.deadline, .int .i64 c.room, .int .i64 c.disk, .slice s.na s.nn s.nc, .slice s.ja s.jn s.jc, .int .i64 s.goal, .int .i64 s.prior, .int .i64 s.mode, .int .i64 s.term, .slice la ln lc, sv] w.heap.size rfl).newAt 31 #[.bool x.up, .int .i64 x.term, .int .i64 x.gen, .int .i64 x.mode, .int .i64 x.job, .int .i64 x.inc, .int .i64 x.version, .int .i64 x.lease, .int .i64 x.worked, .int .i64 x.to_] (w.heap.size + 1) (alloc_size _ _)
  cases t1 : decide (s.term < x.term)
  case true =>
    have E : Hid (strayA s x = true) := by rw [Hid, strayA, t1]; rfl
    go_enter Try.func36, Try.ntmps36
    go_wp2
    go_ret
    exact ⟨by rw [E.out]; rfl, S1.fin⟩
  have E0 : Hid (strayA s x = (hasA x && (!isJ s x.job || decide (incOf s x.job < x.inc)))) := by rw [Hid, strayA, t1]; rfl
  cases hh : hasA x
  · have E : Hid (strayA s x = false) := by rw [Hid, E0.out, hh]; rfl
    have HH := hid hh
    clear E0 hh
    go_enter Try.func36, Try.ntmps36
    go_wp2_with fail
    generalize w.heap.size + 1 = g3 at *
    generalize w.heap.size = g2 at *
    generalize (w.alloc _).alloc _ = w1 at *
    have keep : ∀ {w' : World}, St w w' [cellsT g2 77 (#[.int .i64 c.nodes, .int .i64 c.queues, .int .i64 c.quota, .int .i64 c.wave, .int .i64 c.lease, .int .i64 c.retry, .int .i64 c.deadline, .int .i64 c.room, .int .i64 c.disk, .slice s.na s.nn s.nc, .slice s.ja s.jn s.jc, .int .i64 s.goal, .int .i64 s.prior, .int .i64 s.mode, .int .i64 s.term, .slice la ln lc, sv] : Array Value).toList, cellsT g3 31 x.cs] → (w'.cell? ⟨g2, 0, none⟩ = some (.int .i64 c.nodes) ∧ w'.cell? ⟨g2, 1, none⟩ = some (.int .i64 c.queues) ∧ w'.cell? ⟨g2, 2, none⟩ = some (.int .i64 c.quota) ∧ w'.cell? ⟨g2, 3, none⟩ = some (.int .i64 c.wave) ∧ w'.cell? ⟨g2, 4, none⟩ = some (.int .i64 c.lease) ∧ w'.cell? ⟨g2, 5, none⟩ = some (.int .i64 c.retry) ∧ w'.cell? ⟨g2, 6, none⟩ = some (.int .i64 c.deadline) ∧ w'.cell? ⟨g2, 7, none⟩ = some (.int .i64 c.room) ∧ w'.cell? ⟨g2, 8, none⟩ = some (.int .i64 c.disk) ∧ w'.cell? ⟨g2, 9, none⟩ = some (.slice s.na s.nn s.nc) ∧ w'.cell? ⟨g2, 10, none⟩ = some (.slice s.ja s.jn s.jc) ∧ w'.cell? ⟨g2, 11, none⟩ = some (.int .i64 s.goal) ∧ w'.cell? ⟨g2, 12, none⟩ = some (.int .i64 s.prior) ∧ w'.cell? ⟨g2, 13, none⟩ = some (.int .i64 s.mode) ∧ w'.cell? ⟨g2, 14, none⟩ = some (.int .i64 s.term) ∧ w'.cell? ⟨g2, 15, none⟩ = some (.slice la ln lc) ∧ w'.cell? ⟨g2, 16, none⟩ = some sv) ∧ (w'.cell? ⟨g3, 0, none⟩ = some (.bool x.up) ∧ w'.cell? ⟨g3, 1, none⟩ = some (.int .i64 x.term) ∧ w'.cell? ⟨g3, 2, none⟩ = some (.int .i64 x.gen) ∧ w'.cell? ⟨g3, 3, none⟩ = some (.int .i64 x.mode) ∧ w'.cell? ⟨g3, 4, none⟩ = some (.int .i64 x.job) ∧ w'.cell? ⟨g3, 5, none⟩ = some (.int .i64 x.inc) ∧ w'.cell? ⟨g3, 6, none⟩ = some (.int .i64 x.version) ∧ w'.cell? ⟨g3, 7, none⟩ = some (.int .i64 x.lease) ∧ w'.cell? ⟨g3, 8, none⟩ = some (.int .i64 x.worked) ∧ w'.cell? ⟨g3, 9, none⟩ = some (.int .i64 x.to_)) := fun S => ⟨S.vwC 0 rfl, S.agK 1 rfl⟩
    refine wp_region_held_drew (S := (fun w' => (w'.cell? ⟨g2, 0, none⟩ = some (.int .i64 c.nodes) ∧ w'.cell? ⟨g2, 1, none⟩ = some (.int .i64 c.queues) ∧ w'.cell? ⟨g2, 2, none⟩ = some (.int .i64 c.quota) ∧ w'.cell? ⟨g2, 3, none⟩ = some (.int .i64 c.wave) ∧ w'.cell? ⟨g2, 4, none⟩ = some (.int .i64 c.lease) ∧ w'.cell? ⟨g2, 5, none⟩ = some (.int .i64 c.retry) ∧ w'.cell? ⟨g2, 6, none⟩ = some (.int .i64 c.deadline) ∧ w'.cell? ⟨g2, 7, none⟩ = some (.int .i64 c.room) ∧ w'.cell? ⟨g2, 8, none⟩ = some (.int .i64 c.disk) ∧ w'.cell? ⟨g2, 9, none⟩ = some (.slice s.na s.nn s.nc) ∧ w'.cell? ⟨g2, 10, none⟩ = some (.slice s.ja s.jn s.jc) ∧ w'.cell? ⟨g2, 11, none⟩ = some (.int .i64 s.goal) ∧ w'.cell? ⟨g2, 12, none⟩ = some (.int .i64 s.prior) ∧ w'.cell? ⟨g2, 13, none⟩ = some (.int .i64 s.mode) ∧ w'.cell? ⟨g2, 14, none⟩ = some (.int .i64 s.term) ∧ w'.cell? ⟨g2, 15, none⟩ = some (.slice la ln lc) ∧ w'.cell? ⟨g2, 16, none⟩ = some sv) ∧ (w'.cell? ⟨g3, 0, none⟩ = some (.bool x.up) ∧ w'.cell? ⟨g3, 1, none⟩ = some (.int .i64 x.term) ∧ w'.cell? ⟨g3, 2, none⟩ = some (.int .i64 x.gen) ∧ w'.cell? ⟨g3, 3, none⟩ = some (.int .i64 x.mode) ∧ w'.cell? ⟨g3, 4, none⟩ = some (.int .i64 x.job) ∧ w'.cell? ⟨g3, 5, none⟩ = some (.int .i64 x.inc) ∧ w'.cell? ⟨g3, 6, none⟩ = some (.int .i64 x.version) ∧ w'.cell? ⟨g3, 7, none⟩ = some (.int .i64 x.lease) ∧ w'.cell? ⟨g3, 8, none⟩ = some (.int .i64 x.worked) ∧ w'.cell? ⟨g3, 9, none⟩ = some (.int .i64 x.to_)))) (by kernel_rfl) (by exact keep S1.drew) (fun hHeld => ?_)
    change wpAnyH _ _ _ _ _ 24 (Array.replicate 24 false) _ _
    refine wpAnyH_take (i := 0) (v := ?v1) (ops_at rfl) (by kernel_rfl) (by kernel_rfl) (by kernel_rfl) (fun _ _ _ h => h) (Or.inl ⟨by rfl, ?hy1⟩) (by assumption) ?rest1
    case hy1 => intro w' hSw; (try dsimp only at hSw); go_simp; try with_reducible rfl
    try simp only [Act.put, List.setIfInBounds_toArray, List.set_cons_zero, List.set_cons_succ]
    refine wpAnyH_ready (rs := [1]) (by kernel_rfl) (by simp) ?_
    refine AllReadyH.cons (ops_at rfl) (fun K hK => ?_) AllReadyH.nil
    go_simp
    refine (wtHas x _).mono ?_
    rintro e w3 ⟨rfl, hb3⟩
    rw [HH.out]
    have S3 := S1.drew.grow hb3
    refine hK.out _ _ (by exact keep S3) (fun hHeld => ?_)
    clear hK K
    try simp only [Act.put, List.setIfInBounds_toArray, List.set_cons_zero, List.set_cons_succ]
    refine wpAnyH_take (i := 2) (v := ?v3) (ops_at rfl) (by kernel_rfl) (by kernel_rfl) (by kernel_rfl) (fun _ _ _ h => h) (Or.inl ⟨by rfl, ?hy3⟩) (by assumption) ?rest3
    case hy3 => intro w' hSw; (try dsimp only at hSw); go_simp; try with_reducible rfl
    try simp only [Act.put, List.setIfInBounds_toArray, List.set_cons_zero, List.set_cons_succ]
    refine wpAnyH_take (i := 3) (v := undef) (ops_at rfl) (by kernel_rfl) (by kernel_rfl) (by kernel_rfl) (fun _ _ _ h => h) (Or.inr ⟨by rfl, rfl⟩) (by assumption) ?rest4
    try simp only [Act.put, List.setIfInBounds_toArray, List.set_cons_zero, List.set_cons_succ]
    refine wpAnyH_take (i := 4) (v := undef) (ops_at rfl) (by kernel_rfl) (by kernel_rfl) (by kernel_rfl) (fun _ _ _ h => h) (Or.inr ⟨by rfl, rfl⟩) (by assumption) ?rest5
    try simp only [Act.put, List.setIfInBounds_toArray, List.set_cons_zero, List.set_cons_succ]
    refine wpAnyH_take (i := 5) (v := undef) (ops_at rfl) (by kernel_rfl) (by kernel_rfl) (by kernel_rfl) (fun _ _ _ h => h) (Or.inr ⟨by rfl, rfl⟩) (by assumption) ?rest6
    try simp only [Act.put, List.setIfInBounds_toArray, List.set_cons_zero, List.set_cons_succ]
    refine wpAnyH_take (i := 6) (v := undef) (ops_at rfl) (by kernel_rfl) (by kernel_rfl) (by kernel_rfl) (fun _ _ _ h => h) (Or.inr ⟨by rfl, rfl⟩) (by assumption) ?rest7
    try simp only [Act.put, List.setIfInBounds_toArray, List.set_cons_zero, List.set_cons_succ]
    refine wpAnyH_take (i := 7) (v := undef) (ops_at rfl) (by kernel_rfl) (by kernel_rfl) (by kernel_rfl) (fun _ _ _ h => h) (Or.inr ⟨by rfl, rfl⟩) (by assumption) ?rest8
    try simp only [Act.put, List.setIfInBounds_toArray, List.set_cons_zero, List.set_cons_succ]
    refine wpAnyH_take (i := 8) (v := undef) (ops_at rfl) (by kernel_rfl) (by kernel_rfl) (by kernel_rfl) (fun _ _ _ h => h) (Or.inr ⟨by rfl, rfl⟩) (by assumption) ?rest9
    try simp only [Act.put, List.setIfInBounds_toArray, List.set_cons_zero, List.set_cons_succ]
    refine wpAnyH_take (i := 9) (v := undef) (ops_at rfl) (by kernel_rfl) (by kernel_rfl) (by kernel_rfl) (fun _ _ _ h => h) (Or.inr ⟨by rfl, rfl⟩) (by assumption) ?rest10
    try simp only [Act.put, List.setIfInBounds_toArray, List.set_cons_zero, List.set_cons_succ]
    refine wpAnyH_take (i := 10) (v := undef) (ops_at rfl) (by kernel_rfl) (by kernel_rfl) (by kernel_rfl) (fun _ _ _ h => h) (Or.inr ⟨by rfl, rfl⟩) (by assumption) ?rest11
    try simp only [Act.put, List.setIfInBounds_toArray, List.set_cons_zero, List.set_cons_succ]
    refine wpAnyH_take (i := 11) (v := undef) (ops_at rfl) (by kernel_rfl) (by kernel_rfl) (by kernel_rfl) (fun _ _ _ h => h) (Or.inr ⟨by rfl, rfl⟩) (by assumption) ?rest12
    try simp only [Act.put, List.setIfInBounds_toArray, List.set_cons_zero, List.set_cons_succ]
    refine wpAnyH_take (i := 12) (v := undef) (ops_at rfl) (by kernel_rfl) (by kernel_rfl) (by kernel_rfl) (fun _ _ _ h => h) (Or.inr ⟨by rfl, rfl⟩) (by assumption) ?rest13
    try simp only [Act.put, List.setIfInBounds_toArray, List.set_cons_zero, List.set_cons_succ]
    refine wpAnyH_take (i := 13) (v := undef) (ops_at rfl) (by kernel_rfl) (by kernel_rfl) (by kernel_rfl) (fun _ _ _ h => h) (Or.inr ⟨by rfl, rfl⟩) (by assumption) ?rest14
    try simp only [Act.put, List.setIfInBounds_toArray, List.set_cons_zero, List.set_cons_succ]
    refine wpAnyH_take (i := 14) (v := undef) (ops_at rfl) (by kernel_rfl) (by kernel_rfl) (by kernel_rfl) (fun _ _ _ h => h) (Or.inr ⟨by rfl, rfl⟩) (by assumption) ?rest15
    try simp only [Act.put, List.setIfInBounds_toArray, List.set_cons_zero, List.set_cons_succ]
    refine wpAnyH_take (i := 15) (v := undef) (ops_at rfl) (by kernel_rfl) (by kernel_rfl) (by kernel_rfl) (fun _ _ _ h => h) (Or.inr ⟨by rfl, rfl⟩) (by assumption) ?rest16
    try simp only [Act.put, List.setIfInBounds_toArray, List.set_cons_zero, List.set_cons_succ]
    refine wpAnyH_take (i := 16) (v := undef) (ops_at rfl) (by kernel_rfl) (by kernel_rfl) (by kernel_rfl) (fun _ _ _ h => h) (Or.inr ⟨by rfl, rfl⟩) (by assumption) ?rest17
    try simp only [Act.put, List.setIfInBounds_toArray, List.set_cons_zero, List.set_cons_succ]
    refine wpAnyH_take (i := 17) (v := undef) (ops_at rfl) (by kernel_rfl) (by kernel_rfl) (by kernel_rfl) (fun _ _ _ h => h) (Or.inr ⟨by rfl, rfl⟩) (by assumption) ?rest18
    try simp only [Act.put, List.setIfInBounds_toArray, List.set_cons_zero, List.set_cons_succ]
    refine wpAnyH_take (i := 18) (v := undef) (ops_at rfl) (by kernel_rfl) (by kernel_rfl) (by kernel_rfl) (fun _ _ _ h => h) (Or.inr ⟨by rfl, rfl⟩) (by assumption) ?rest19
    try simp only [Act.put, List.setIfInBounds_toArray, List.set_cons_zero, List.set_cons_succ]
    refine wpAnyH_take (i := 19) (v := undef) (ops_at rfl) (by kernel_rfl) (by kernel_rfl) (by kernel_rfl) (fun _ _ _ h => h) (Or.inr ⟨by rfl, rfl⟩) (by assumption) ?rest20
    try simp only [Act.put, List.setIfInBounds_toArray, List.set_cons_zero, List.set_cons_succ]
    refine wpAnyH_take (i := 20) (v := undef) (ops_at rfl) (by kernel_rfl) (by kernel_rfl) (by kernel_rfl) (fun _ _ _ h => h) (Or.inr ⟨by rfl, rfl⟩) (by assumption) ?rest21
    try simp only [Act.put, List.setIfInBounds_toArray, List.set_cons_zero, List.set_cons_succ]
    refine wpAnyH_take (i := 21) (v := undef) (ops_at rfl) (by kernel_rfl) (by kernel_rfl) (by kernel_rfl) (fun _ _ _ h => h) (Or.inr ⟨by rfl, rfl⟩) (by assumption) ?rest22
    try simp only [Act.put, List.setIfInBounds_toArray, List.set_cons_zero, List.set_cons_succ]
    refine wpAnyH_take (i := 22) (v := ?v23) (ops_at rfl) (by kernel_rfl) (by kernel_rfl) (by kernel_rfl) (fun _ _ _ h => h) (Or.inl ⟨by rfl, ?hy23⟩) (by assumption) ?rest23
    case hy23 => intro w' hSw; (try dsimp only at hSw); go_simp; try with_reducible rfl
    try simp only [Act.put, List.setIfInBounds_toArray, List.set_cons_zero, List.set_cons_succ]
    refine wpAnyH_take (i := 23) (v := ?v24) (ops_at rfl) (by kernel_rfl) (by kernel_rfl) (by kernel_rfl) (fun _ _ _ h => h) (Or.inl ⟨by rfl, ?hy24⟩) (by assumption) ?rest24
    case hy24 => intro w' hSw; (try dsimp only at hSw); go_simp; try with_reducible rfl
    try simp only [Act.put, List.setIfInBounds_toArray, List.set_cons_zero, List.set_cons_succ]
    refine wpAnyH_done (by kernel_rfl) ?_ _
    go_wp2
    go_ret
    exact ⟨by rw [E.out]; rfl, S3.fin⟩
  cases hi : isJ s x.job
  · have E : Hid (strayA s x = true) := by rw [Hid, E0.out, hh, hi]; rfl
    have HH := hid hh
    have HI := hid hi
    clear E0 hh hi
    go_enter Try.func36, Try.ntmps36
    go_wp2_with fail
    generalize w.heap.size + 1 = g3 at *
    generalize w.heap.size = g2 at *
    generalize (w.alloc _).alloc _ = w1 at *
    have keep : ∀ {w' : World}, St w w' [cellsT g2 77 (#[.int .i64 c.nodes, .int .i64 c.queues, .int .i64 c.quota, .int .i64 c.wave, .int .i64 c.lease, .int .i64 c.retry, .int .i64 c.deadline, .int .i64 c.room, .int .i64 c.disk, .slice s.na s.nn s.nc, .slice s.ja s.jn s.jc, .int .i64 s.goal, .int .i64 s.prior, .int .i64 s.mode, .int .i64 s.term, .slice la ln lc, sv] : Array Value).toList, cellsT g3 31 x.cs] → (w'.cell? ⟨g2, 0, none⟩ = some (.int .i64 c.nodes) ∧ w'.cell? ⟨g2, 1, none⟩ = some (.int .i64 c.queues) ∧ w'.cell? ⟨g2, 2, none⟩ = some (.int .i64 c.quota) ∧ w'.cell? ⟨g2, 3, none⟩ = some (.int .i64 c.wave) ∧ w'.cell? ⟨g2, 4, none⟩ = some (.int .i64 c.lease) ∧ w'.cell? ⟨g2, 5, none⟩ = some (.int .i64 c.retry) ∧ w'.cell? ⟨g2, 6, none⟩ = some (.int .i64 c.deadline) ∧ w'.cell? ⟨g2, 7, none⟩ = some (.int .i64 c.room) ∧ w'.cell? ⟨g2, 8, none⟩ = some (.int .i64 c.disk) ∧ w'.cell? ⟨g2, 9, none⟩ = some (.slice s.na s.nn s.nc) ∧ w'.cell? ⟨g2, 10, none⟩ = some (.slice s.ja s.jn s.jc) ∧ w'.cell? ⟨g2, 11, none⟩ = some (.int .i64 s.goal) ∧ w'.cell? ⟨g2, 12, none⟩ = some (.int .i64 s.prior) ∧ w'.cell? ⟨g2, 13, none⟩ = some (.int .i64 s.mode) ∧ w'.cell? ⟨g2, 14, none⟩ = some (.int .i64 s.term) ∧ w'.cell? ⟨g2, 15, none⟩ = some (.slice la ln lc) ∧ w'.cell? ⟨g2, 16, none⟩ = some sv) ∧ (w'.cell? ⟨g3, 0, none⟩ = some (.bool x.up) ∧ w'.cell? ⟨g3, 1, none⟩ = some (.int .i64 x.term) ∧ w'.cell? ⟨g3, 2, none⟩ = some (.int .i64 x.gen) ∧ w'.cell? ⟨g3, 3, none⟩ = some (.int .i64 x.mode) ∧ w'.cell? ⟨g3, 4, none⟩ = some (.int .i64 x.job) ∧ w'.cell? ⟨g3, 5, none⟩ = some (.int .i64 x.inc) ∧ w'.cell? ⟨g3, 6, none⟩ = some (.int .i64 x.version) ∧ w'.cell? ⟨g3, 7, none⟩ = some (.int .i64 x.lease) ∧ w'.cell? ⟨g3, 8, none⟩ = some (.int .i64 x.worked) ∧ w'.cell? ⟨g3, 9, none⟩ = some (.int .i64 x.to_)) := fun S => ⟨S.vwC 0 rfl, S.agK 1 rfl⟩
    refine wp_region_held_drew (S := (fun w' => (w'.cell? ⟨g2, 0, none⟩ = some (.int .i64 c.nodes) ∧ w'.cell? ⟨g2, 1, none⟩ = some (.int .i64 c.queues) ∧ w'.cell? ⟨g2, 2, none⟩ = some (.int .i64 c.quota) ∧ w'.cell? ⟨g2, 3, none⟩ = some (.int .i64 c.wave) ∧ w'.cell? ⟨g2, 4, none⟩ = some (.int .i64 c.lease) ∧ w'.cell? ⟨g2, 5, none⟩ = some (.int .i64 c.retry) ∧ w'.cell? ⟨g2, 6, none⟩ = some (.int .i64 c.deadline) ∧ w'.cell? ⟨g2, 7, none⟩ = some (.int .i64 c.room) ∧ w'.cell? ⟨g2, 8, none⟩ = some (.int .i64 c.disk) ∧ w'.cell? ⟨g2, 9, none⟩ = some (.slice s.na s.nn s.nc) ∧ w'.cell? ⟨g2, 10, none⟩ = some (.slice s.ja s.jn s.jc) ∧ w'.cell? ⟨g2, 11, none⟩ = some (.int .i64 s.goal) ∧ w'.cell? ⟨g2, 12, none⟩ = some (.int .i64 s.prior) ∧ w'.cell? ⟨g2, 13, none⟩ = some (.int .i64 s.mode) ∧ w'.cell? ⟨g2, 14, none⟩ = some (.int .i64 s.term) ∧ w'.cell? ⟨g2, 15, none⟩ = some (.slice la ln lc) ∧ w'.cell? ⟨g2, 16, none⟩ = some sv) ∧ (w'.cell? ⟨g3, 0, none⟩ = some (.bool x.up) ∧ w'.cell? ⟨g3, 1, none⟩ = some (.int .i64 x.term) ∧ w'.cell? ⟨g3, 2, none⟩ = some (.int .i64 x.gen) ∧ w'.cell? ⟨g3, 3, none⟩ = some (.int .i64 x.mode) ∧ w'.cell? ⟨g3, 4, none⟩ = some (.int .i64 x.job) ∧ w'.cell? ⟨g3, 5, none⟩ = some (.int .i64 x.inc) ∧ w'.cell? ⟨g3, 6, none⟩ = some (.int .i64 x.version) ∧ w'.cell? ⟨g3, 7, none⟩ = some (.int .i64 x.lease) ∧ w'.cell? ⟨g3, 8, none⟩ = some (.int .i64 x.worked) ∧ w'.cell? ⟨g3, 9, none⟩ = some (.int .i64 x.to_)))) (by kernel_rfl) (by exact keep S1.drew) (fun hHeld => ?_)
    change wpAnyH _ _ _ _ _ 24 (Array.replicate 24 false) _ _
    refine wpAnyH_take (i := 0) (v := ?v25) (ops_at rfl) (by kernel_rfl) (by kernel_rfl) (by kernel_rfl) (fun _ _ _ h => h) (Or.inl ⟨by rfl, ?hy25⟩) (by assumption) ?rest25
    case hy25 => intro w' hSw; (try dsimp only at hSw); go_simp; try with_reducible rfl
    try simp only [Act.put, List.setIfInBounds_toArray, List.set_cons_zero, List.set_cons_succ]
    refine wpAnyH_ready (rs := [1]) (by kernel_rfl) (by simp) ?_
    refine AllReadyH.cons (ops_at rfl) (fun K hK => ?_) AllReadyH.nil
    go_simp
    refine (wtHas x _).mono ?_
    rintro e w3 ⟨rfl, hb3⟩
    rw [HH.out]
    have S3 := S1.drew.grow hb3
    refine hK.out _ _ (by exact keep S3) (fun hHeld => ?_)
    clear hK K
    try simp only [Act.put, List.setIfInBounds_toArray, List.set_cons_zero, List.set_cons_succ]
    refine wpAnyH_take (i := 2) (v := ?v27) (ops_at rfl) (by kernel_rfl) (by kernel_rfl) (by kernel_rfl) (fun _ _ _ h => h) (Or.inl ⟨by rfl, ?hy27⟩) (by assumption) ?rest27
    case hy27 => intro w' hSw; (try dsimp only at hSw); go_simp; try with_reducible rfl
    try simp only [Act.put, List.setIfInBounds_toArray, List.set_cons_zero, List.set_cons_succ]
    refine wpAnyH_take (i := 3) (v := ?v28) (ops_at rfl) (by kernel_rfl) (by kernel_rfl) (by kernel_rfl) (fun _ _ _ h => h) (Or.inl ⟨by rfl, ?hy28⟩) (by assumption) ?rest28
    case hy28 => intro w' hSw; (try dsimp only at hSw); go_simp; try with_reducible rfl
    try simp only [Act.put, List.setIfInBounds_toArray, List.set_cons_zero, List.set_cons_succ]
    refine wpAnyH_take (i := 4) (v := ?v29) (ops_at rfl) (by kernel_rfl) (by kernel_rfl) (by kernel_rfl) (fun _ _ _ h => h) (Or.inl ⟨by rfl, ?hy29⟩) (by assumption) ?rest29
    case hy29 => intro w' hSw; (try dsimp only at hSw); go_simp; try with_reducible rfl
    try simp only [Act.put, List.setIfInBounds_toArray, List.set_cons_zero, List.set_cons_succ]
    refine wpAnyH_take (i := 5) (v := ?v30) (ops_at rfl) (by kernel_rfl) (by kernel_rfl) (by kernel_rfl) (fun _ _ _ h => h) (Or.inl ⟨by rfl, ?hy30⟩) (by assumption) ?rest30
    case hy30 => intro w' hSw; (try dsimp only at hSw); go_simp; try with_reducible rfl
    try simp only [Act.put, List.setIfInBounds_toArray, List.set_cons_zero, List.set_cons_succ]
    refine wpAnyH_ready (rs := [6]) (by kernel_rfl) (by simp) ?_
    refine AllReadyH.cons (ops_at rfl) (fun K hK => ?_) AllReadyH.nil
    go_simp
    refine (wtIs c s la ln lc sv x.job _).mono ?_
    rintro e w4 ⟨rfl, hb4⟩
    rw [HI.out]
    have S4 := S3.grow hb4
    refine hK.out _ _ (by exact keep S4) (fun hHeld => ?_)
    clear hK K
    try simp only [Act.put, List.setIfInBounds_toArray, List.set_cons_zero, List.set_cons_succ]
    refine wpAnyH_take (i := 7) (v := ?v32) (ops_at rfl) (by kernel_rfl) (by kernel_rfl) (by kernel_rfl) (fun _ _ _ h => h) (Or.inl ⟨by rfl, ?hy32⟩) (by assumption) ?rest32
    case hy32 => intro w' hSw; (try dsimp only at hSw); go_simp; try with_reducible rfl
    try simp only [Act.put, List.setIfInBounds_toArray, List.set_cons_zero, List.set_cons_succ]
    refine wpAnyH_take (i := 8) (v := ?v33) (ops_at rfl) (by kernel_rfl) (by kernel_rfl) (by kernel_rfl) (fun _ _ _ h => h) (Or.inl ⟨by rfl, ?hy33⟩) (by assumption) ?rest33
    case hy33 => intro w' hSw; (try dsimp only at hSw); go_simp; try with_reducible rfl
    try simp only [Act.put, List.setIfInBounds_toArray, List.set_cons_zero, List.set_cons_succ]
    refine wpAnyH_take (i := 9) (v := undef) (ops_at rfl) (by kernel_rfl) (by kernel_rfl) (by kernel_rfl) (fun _ _ _ h => h) (Or.inr ⟨by rfl, rfl⟩) (by assumption) ?rest34
    try simp only [Act.put, List.setIfInBounds_toArray, List.set_cons_zero, List.set_cons_succ]
    refine wpAnyH_take (i := 10) (v := undef) (ops_at rfl) (by kernel_rfl) (by kernel_rfl) (by kernel_rfl) (fun _ _ _ h => h) (Or.inr ⟨by rfl, rfl⟩) (by assumption) ?rest35
    try simp only [Act.put, List.setIfInBounds_toArray, List.set_cons_zero, List.set_cons_succ]
    refine wpAnyH_take (i := 11) (v := undef) (ops_at rfl) (by kernel_rfl) (by kernel_rfl) (by kernel_rfl) (fun _ _ _ h => h) (Or.inr ⟨by rfl, rfl⟩) (by assumption) ?rest36
    try simp only [Act.put, List.setIfInBounds_toArray, List.set_cons_zero, List.set_cons_succ]
    refine wpAnyH_take (i := 12) (v := undef) (ops_at rfl) (by kernel_rfl) (by kernel_rfl) (by kernel_rfl) (fun _ _ _ h => h) (Or.inr ⟨by rfl, rfl⟩) (by assumption) ?rest37
    try simp only [Act.put, List.setIfInBounds_toArray, List.set_cons_zero, List.set_cons_succ]
    refine wpAnyH_take (i := 13) (v := undef) (ops_at rfl) (by kernel_rfl) (by kernel_rfl) (by kernel_rfl) (fun _ _ _ h => h) (Or.inr ⟨by rfl, rfl⟩) (by assumption) ?rest38
    try simp only [Act.put, List.setIfInBounds_toArray, List.set_cons_zero, List.set_cons_succ]
    refine wpAnyH_take (i := 14) (v := undef) (ops_at rfl) (by kernel_rfl) (by kernel_rfl) (by kernel_rfl) (fun _ _ _ h => h) (Or.inr ⟨by rfl, rfl⟩) (by assumption) ?rest39
    try simp only [Act.put, List.setIfInBounds_toArray, List.set_cons_zero, List.set_cons_succ]
    refine wpAnyH_take (i := 15) (v := undef) (ops_at rfl) (by kernel_rfl) (by kernel_rfl) (by kernel_rfl) (fun _ _ _ h => h) (Or.inr ⟨by rfl, rfl⟩) (by assumption) ?rest40
    try simp only [Act.put, List.setIfInBounds_toArray, List.set_cons_zero, List.set_cons_succ]
    refine wpAnyH_take (i := 16) (v := undef) (ops_at rfl) (by kernel_rfl) (by kernel_rfl) (by kernel_rfl) (fun _ _ _ h => h) (Or.inr ⟨by rfl, rfl⟩) (by assumption) ?rest41
    try simp only [Act.put, List.setIfInBounds_toArray, List.set_cons_zero, List.set_cons_succ]
    refine wpAnyH_take (i := 17) (v := undef) (ops_at rfl) (by kernel_rfl) (by kernel_rfl) (by kernel_rfl) (fun _ _ _ h => h) (Or.inr ⟨by rfl, rfl⟩) (by assumption) ?rest42
    try simp only [Act.put, List.setIfInBounds_toArray, List.set_cons_zero, List.set_cons_succ]
    refine wpAnyH_take (i := 18) (v := undef) (ops_at rfl) (by kernel_rfl) (by kernel_rfl) (by kernel_rfl) (fun _ _ _ h => h) (Or.inr ⟨by rfl, rfl⟩) (by assumption) ?rest43
    try simp only [Act.put, List.setIfInBounds_toArray, List.set_cons_zero, List.set_cons_succ]
    refine wpAnyH_take (i := 19) (v := undef) (ops_at rfl) (by kernel_rfl) (by kernel_rfl) (by kernel_rfl) (fun _ _ _ h => h) (Or.inr ⟨by rfl, rfl⟩) (by assumption) ?rest44
    try simp only [Act.put, List.setIfInBounds_toArray, List.set_cons_zero, List.set_cons_succ]
    refine wpAnyH_take (i := 20) (v := undef) (ops_at rfl) (by kernel_rfl) (by kernel_rfl) (by kernel_rfl) (fun _ _ _ h => h) (Or.inr ⟨by rfl, rfl⟩) (by assumption) ?rest45
    try simp only [Act.put, List.setIfInBounds_toArray, List.set_cons_zero, List.set_cons_succ]
    refine wpAnyH_take (i := 21) (v := ?v46) (ops_at rfl) (by kernel_rfl) (by kernel_rfl) (by kernel_rfl) (fun _ _ _ h => h) (Or.inl ⟨by rfl, ?hy46⟩) (by assumption) ?rest46
    case hy46 => intro w' hSw; (try dsimp only at hSw); go_simp; try with_reducible rfl
    try simp only [Act.put, List.setIfInBounds_toArray, List.set_cons_zero, List.set_cons_succ]
    refine wpAnyH_take (i := 22) (v := ?v47) (ops_at rfl) (by kernel_rfl) (by kernel_rfl) (by kernel_rfl) (fun _ _ _ h => h) (Or.inl ⟨by rfl, ?hy47⟩) (by assumption) ?rest47
    case hy47 => intro w' hSw; (try dsimp only at hSw); go_simp; try with_reducible rfl
    try simp only [Act.put, List.setIfInBounds_toArray, List.set_cons_zero, List.set_cons_succ]
    refine wpAnyH_take (i := 23) (v := ?v48) (ops_at rfl) (by kernel_rfl) (by kernel_rfl) (by kernel_rfl) (fun _ _ _ h => h) (Or.inl ⟨by rfl, ?hy48⟩) (by assumption) ?rest48
    case hy48 => intro w' hSw; (try dsimp only at hSw); go_simp; try with_reducible rfl
    try simp only [Act.put, List.setIfInBounds_toArray, List.set_cons_zero, List.set_cons_succ]
    refine wpAnyH_done (by kernel_rfl) ?_ _
    go_wp2
    go_ret
    exact ⟨by rw [E.out]; rfl, S4.fin⟩
  have hij := hi
  unfold isJ at hij
  rw [Bool.and_eq_true, decide_eq_true_iff, decide_eq_true_iff] at hij
  obtain ⟨K, hK⟩ : ∃ K : Nat, x.job = K + 1 := ⟨(x.job - 1).toNat, by omega⟩
  have hKn : K < s.jn := by omega
  have hl : K < s.J.length := by rw [hs.jn]; exact hKn
  have hjm := hs.jm
  unfold maxLen at hjm
  have i0 := fun wx => idxJB s.ja s.jn s.jc (fun h => hs.j.ok (by rw [hs.jn]; exact h)) K (x.job - 1) (by omega) hKn wx
  have iw := fun wx => idxJB s.ja s.jn s.jc (fun h => hs.j.ok (by rw [hs.jn]; exact h)) K (IntKind.i64.wrap (x.job - 1)) (by rw [IntKind.wrap_i64]; omega) hKn wx
  have HX : Hid (∀ w' l, St w w' l → JbAt w' (adr s.ja (K * 12)) s.J[K]) := fun w' l S => (hs.j.all eJBok S.fin).jbAt hl
  have E : Hid (strayA s x = decide (s.J[K].inc < x.inc)) := by
    rw [Hid, E0.out, hh, hi, incOf, jobOf, show (x.job - 1).toNat = K by omega, List.getElem?_eq_getElem hl]; rfl
  have hr : -9223372036854775808 ≤ x.job - 1 ∧ x.job - 1 ≤ 9223372036854775807 := by omega
  generalize s.J[K] = j at *
  generalize adr s.ja (K * 12) = B at *
  have HH := hid hh
  have HI := hid hi
  clear E0 hh hi hK hl hij
  go_enter Try.func36, Try.ntmps36
  go_wp2_with fail
  generalize w.heap.size + 1 = g3 at *
  generalize w.heap.size = g2 at *
  generalize (w.alloc _).alloc _ = w1 at *
  have keep : ∀ {w' : World}, St w w' [cellsT g2 77 (#[.int .i64 c.nodes, .int .i64 c.queues, .int .i64 c.quota, .int .i64 c.wave, .int .i64 c.lease, .int .i64 c.retry, .int .i64 c.deadline, .int .i64 c.room, .int .i64 c.disk, .slice s.na s.nn s.nc, .slice s.ja s.jn s.jc, .int .i64 s.goal, .int .i64 s.prior, .int .i64 s.mode, .int .i64 s.term, .slice la ln lc, sv] : Array Value).toList, cellsT g3 31 x.cs] → (w'.cell? ⟨g2, 0, none⟩ = some (.int .i64 c.nodes) ∧ w'.cell? ⟨g2, 1, none⟩ = some (.int .i64 c.queues) ∧ w'.cell? ⟨g2, 2, none⟩ = some (.int .i64 c.quota) ∧ w'.cell? ⟨g2, 3, none⟩ = some (.int .i64 c.wave) ∧ w'.cell? ⟨g2, 4, none⟩ = some (.int .i64 c.lease) ∧ w'.cell? ⟨g2, 5, none⟩ = some (.int .i64 c.retry) ∧ w'.cell? ⟨g2, 6, none⟩ = some (.int .i64 c.deadline) ∧ w'.cell? ⟨g2, 7, none⟩ = some (.int .i64 c.room) ∧ w'.cell? ⟨g2, 8, none⟩ = some (.int .i64 c.disk) ∧ w'.cell? ⟨g2, 9, none⟩ = some (.slice s.na s.nn s.nc) ∧ w'.cell? ⟨g2, 10, none⟩ = some (.slice s.ja s.jn s.jc) ∧ w'.cell? ⟨g2, 11, none⟩ = some (.int .i64 s.goal) ∧ w'.cell? ⟨g2, 12, none⟩ = some (.int .i64 s.prior) ∧ w'.cell? ⟨g2, 13, none⟩ = some (.int .i64 s.mode) ∧ w'.cell? ⟨g2, 14, none⟩ = some (.int .i64 s.term) ∧ w'.cell? ⟨g2, 15, none⟩ = some (.slice la ln lc) ∧ w'.cell? ⟨g2, 16, none⟩ = some sv) ∧ (w'.cell? ⟨g3, 0, none⟩ = some (.bool x.up) ∧ w'.cell? ⟨g3, 1, none⟩ = some (.int .i64 x.term) ∧ w'.cell? ⟨g3, 2, none⟩ = some (.int .i64 x.gen) ∧ w'.cell? ⟨g3, 3, none⟩ = some (.int .i64 x.mode) ∧ w'.cell? ⟨g3, 4, none⟩ = some (.int .i64 x.job) ∧ w'.cell? ⟨g3, 5, none⟩ = some (.int .i64 x.inc) ∧ w'.cell? ⟨g3, 6, none⟩ = some (.int .i64 x.version) ∧ w'.cell? ⟨g3, 7, none⟩ = some (.int .i64 x.lease) ∧ w'.cell? ⟨g3, 8, none⟩ = some (.int .i64 x.worked) ∧ w'.cell? ⟨g3, 9, none⟩ = some (.int .i64 x.to_)) ∧ w'.cell? { block := B.block, off := B.off + 7 } = some (.int .i64 j.inc) := fun S => ⟨S.vwC 0 rfl, S.agK 1 rfl, (HX.out _ _ S).2.2.2.2.2.2.2.1⟩
  refine wp_region_held_drew (S := (fun w' => (w'.cell? ⟨g2, 0, none⟩ = some (.int .i64 c.nodes) ∧ w'.cell? ⟨g2, 1, none⟩ = some (.int .i64 c.queues) ∧ w'.cell? ⟨g2, 2, none⟩ = some (.int .i64 c.quota) ∧ w'.cell? ⟨g2, 3, none⟩ = some (.int .i64 c.wave) ∧ w'.cell? ⟨g2, 4, none⟩ = some (.int .i64 c.lease) ∧ w'.cell? ⟨g2, 5, none⟩ = some (.int .i64 c.retry) ∧ w'.cell? ⟨g2, 6, none⟩ = some (.int .i64 c.deadline) ∧ w'.cell? ⟨g2, 7, none⟩ = some (.int .i64 c.room) ∧ w'.cell? ⟨g2, 8, none⟩ = some (.int .i64 c.disk) ∧ w'.cell? ⟨g2, 9, none⟩ = some (.slice s.na s.nn s.nc) ∧ w'.cell? ⟨g2, 10, none⟩ = some (.slice s.ja s.jn s.jc) ∧ w'.cell? ⟨g2, 11, none⟩ = some (.int .i64 s.goal) ∧ w'.cell? ⟨g2, 12, none⟩ = some (.int .i64 s.prior) ∧ w'.cell? ⟨g2, 13, none⟩ = some (.int .i64 s.mode) ∧ w'.cell? ⟨g2, 14, none⟩ = some (.int .i64 s.term) ∧ w'.cell? ⟨g2, 15, none⟩ = some (.slice la ln lc) ∧ w'.cell? ⟨g2, 16, none⟩ = some sv) ∧ (w'.cell? ⟨g3, 0, none⟩ = some (.bool x.up) ∧ w'.cell? ⟨g3, 1, none⟩ = some (.int .i64 x.term) ∧ w'.cell? ⟨g3, 2, none⟩ = some (.int .i64 x.gen) ∧ w'.cell? ⟨g3, 3, none⟩ = some (.int .i64 x.mode) ∧ w'.cell? ⟨g3, 4, none⟩ = some (.int .i64 x.job) ∧ w'.cell? ⟨g3, 5, none⟩ = some (.int .i64 x.inc) ∧ w'.cell? ⟨g3, 6, none⟩ = some (.int .i64 x.version) ∧ w'.cell? ⟨g3, 7, none⟩ = some (.int .i64 x.lease) ∧ w'.cell? ⟨g3, 8, none⟩ = some (.int .i64 x.worked) ∧ w'.cell? ⟨g3, 9, none⟩ = some (.int .i64 x.to_)) ∧ w'.cell? { block := B.block, off := B.off + 7 } = some (.int .i64 j.inc))) (by kernel_rfl) (by exact keep S1.drew) (fun hHeld => ?_)
  change wpAnyH _ _ _ _ _ 24 (Array.replicate 24 false) _ _
  refine wpAnyH_take (i := 0) (v := ?v49) (ops_at rfl) (by kernel_rfl) (by kernel_rfl) (by kernel_rfl) (fun _ _ _ h => h) (Or.inl ⟨by rfl, ?hy49⟩) (by assumption) ?rest49
  case hy49 => intro w' hSw; (try dsimp only at hSw); go_simp; try with_reducible rfl
  try simp only [Act.put, List.setIfInBounds_toArray, List.set_cons_zero, List.set_cons_succ]
  refine wpAnyH_ready (rs := [1]) (by kernel_rfl) (by simp) ?_
  refine AllReadyH.cons (ops_at rfl) (fun K hK => ?_) AllReadyH.nil
  go_simp
  refine (wtHas x _).mono ?_
  rintro e w3 ⟨rfl, hb3⟩
  rw [HH.out]
  have S3 := S1.drew.grow hb3
  refine hK.out _ _ (by exact keep S3) (fun hHeld => ?_)
  clear hK K
  try simp only [Act.put, List.setIfInBounds_toArray, List.set_cons_zero, List.set_cons_succ]
  refine wpAnyH_take (i := 2) (v := ?v51) (ops_at rfl) (by kernel_rfl) (by kernel_rfl) (by kernel_rfl) (fun _ _ _ h => h) (Or.inl ⟨by rfl, ?hy51⟩) (by assumption) ?rest51
  case hy51 => intro w' hSw; (try dsimp only at hSw); go_simp; try with_reducible rfl
  try simp only [Act.put, List.setIfInBounds_toArray, List.set_cons_zero, List.set_cons_succ]
  refine wpAnyH_take (i := 3) (v := ?v52) (ops_at rfl) (by kernel_rfl) (by kernel_rfl) (by kernel_rfl) (fun _ _ _ h => h) (Or.inl ⟨by rfl, ?hy52⟩) (by assumption) ?rest52
  case hy52 => intro w' hSw; (try dsimp only at hSw); go_simp; try with_reducible rfl
  try simp only [Act.put, List.setIfInBounds_toArray, List.set_cons_zero, List.set_cons_succ]
  refine wpAnyH_take (i := 4) (v := ?v53) (ops_at rfl) (by kernel_rfl) (by kernel_rfl) (by kernel_rfl) (fun _ _ _ h => h) (Or.inl ⟨by rfl, ?hy53⟩) (by assumption) ?rest53
  case hy53 => intro w' hSw; (try dsimp only at hSw); go_simp; try with_reducible rfl
  try simp only [Act.put, List.setIfInBounds_toArray, List.set_cons_zero, List.set_cons_succ]
  refine wpAnyH_take (i := 5) (v := ?v54) (ops_at rfl) (by kernel_rfl) (by kernel_rfl) (by kernel_rfl) (fun _ _ _ h => h) (Or.inl ⟨by rfl, ?hy54⟩) (by assumption) ?rest54
  case hy54 => intro w' hSw; (try dsimp only at hSw); go_simp; try with_reducible rfl
  try simp only [Act.put, List.setIfInBounds_toArray, List.set_cons_zero, List.set_cons_succ]
  refine wpAnyH_ready (rs := [6]) (by kernel_rfl) (by simp) ?_
  refine AllReadyH.cons (ops_at rfl) (fun K hK => ?_) AllReadyH.nil
  go_simp
  refine (wtIs c s la ln lc sv x.job _).mono ?_
  rintro e w4 ⟨rfl, hb4⟩
  rw [HI.out]
  have S4 := S3.grow hb4
  refine hK.out _ _ (by exact keep S4) (fun hHeld => ?_)
  clear hK K
  try simp only [Act.put, List.setIfInBounds_toArray, List.set_cons_zero, List.set_cons_succ]
  refine wpAnyH_take (i := 7) (v := ?v56) (ops_at rfl) (by kernel_rfl) (by kernel_rfl) (by kernel_rfl) (fun _ _ _ h => h) (Or.inl ⟨by rfl, ?hy56⟩) (by assumption) ?rest56
  case hy56 => intro w' hSw; (try dsimp only at hSw); go_simp; try with_reducible rfl
  try simp only [Act.put, List.setIfInBounds_toArray, List.set_cons_zero, List.set_cons_succ]
  refine wpAnyH_take (i := 8) (v := ?v57) (ops_at rfl) (by kernel_rfl) (by kernel_rfl) (by kernel_rfl) (fun _ _ _ h => h) (Or.inl ⟨by rfl, ?hy57⟩) (by assumption) ?rest57
  case hy57 => intro w' hSw; (try dsimp only at hSw); go_simp; try with_reducible rfl
  try simp only [Act.put, List.setIfInBounds_toArray, List.set_cons_zero, List.set_cons_succ]
  refine wpAnyH_take (i := 9) (v := ?v58) (ops_at rfl) (by kernel_rfl) (by kernel_rfl) (by kernel_rfl) (fun _ _ _ h => h) (Or.inl ⟨by rfl, ?hy58⟩) (by assumption) ?rest58
  case hy58 => intro w' hSw; (try dsimp only at hSw); go_simp; try with_reducible rfl
  try simp only [Act.put, List.setIfInBounds_toArray, List.set_cons_zero, List.set_cons_succ]
  refine wpAnyH_take (i := 10) (v := ?v59) (ops_at rfl) (by kernel_rfl) (by kernel_rfl) (by kernel_rfl) (fun _ _ _ h => h) (Or.inl ⟨by rfl, ?hy59⟩) (by assumption) ?rest59
  case hy59 => intro w' hSw; (try dsimp only at hSw); go_simp; try with_reducible rfl
  try simp only [Act.put, List.setIfInBounds_toArray, List.set_cons_zero, List.set_cons_succ]
  refine wpAnyH_take (i := 11) (v := ?v60) (ops_at rfl) (by kernel_rfl) (by kernel_rfl) (by kernel_rfl) (fun _ _ _ h => h) (Or.inl ⟨by rfl, ?hy60⟩) (by assumption) ?rest60
  case hy60 => intro w' hSw; (try dsimp only at hSw); go_simp; try with_reducible rfl
  try simp only [Act.put, List.setIfInBounds_toArray, List.set_cons_zero, List.set_cons_succ]
  refine wpAnyH_take (i := 12) (v := ?v61) (ops_at rfl) (by kernel_rfl) (by kernel_rfl) (by kernel_rfl) (fun _ _ _ h => h) (Or.inl ⟨by rfl, ?hy61⟩) (by assumption) ?rest61
  case hy61 => intro w' hSw; (try dsimp only at hSw); go_simp; try with_reducible rfl
  try simp only [Act.put, List.setIfInBounds_toArray, List.set_cons_zero, List.set_cons_succ]
  refine wpAnyH_take (i := 13) (v := ?v62) (ops_at rfl) (by kernel_rfl) (by kernel_rfl) (by kernel_rfl) (fun _ _ _ h => h) (Or.inl ⟨by rfl, ?hy62⟩) (by assumption) ?rest62
  case hy62 => intro w' hSw; (try dsimp only at hSw); go_simp; try with_reducible rfl
  try simp only [Act.put, List.setIfInBounds_toArray, List.set_cons_zero, List.set_cons_succ]
  refine wpAnyH_take (i := 14) (v := ?v63) (ops_at rfl) (by kernel_rfl) (by kernel_rfl) (by kernel_rfl) (fun _ _ _ h => h) (Or.inl ⟨by rfl, ?hy63⟩) (by assumption) ?rest63
  case hy63 => intro w' hSw; (try dsimp only at hSw); go_simp; try with_reducible rfl
  try simp only [Act.put, List.setIfInBounds_toArray, List.set_cons_zero, List.set_cons_succ]
  refine wpAnyH_take (i := 15) (v := ?v64) (ops_at rfl) (by kernel_rfl) (by kernel_rfl) (by kernel_rfl) (fun _ _ _ h => h) (Or.inl ⟨by rfl, ?hy64⟩) (by assumption) ?rest64
  case hy64 => intro w' hSw; (try dsimp only at hSw); go_simp; try with_reducible rfl
  try simp only [Act.put, List.setIfInBounds_toArray, List.set_cons_zero, List.set_cons_succ]
  refine wpAnyH_take (i := 16) (v := ?v65) (ops_at rfl) (by kernel_rfl) (by kernel_rfl) (by kernel_rfl) (fun _ _ _ h => h) (Or.inl ⟨by rfl, ?hy65⟩) (by assumption) ?rest65
  case hy65 => intro w' hSw; (try dsimp only at hSw); go_simp; try with_reducible rfl
  try simp only [Act.put, List.setIfInBounds_toArray, List.set_cons_zero, List.set_cons_succ]
  refine wpAnyH_ready (rs := [17]) (by kernel_rfl) (by simp) ?_
  refine AllReadyH.cons (ops_at rfl) (fun K hK => ?_) AllReadyH.nil
  go_simp
  refine hK.out _ _ (by exact keep S4) (fun hHeld => ?_)
  clear hK K
  try simp only [Act.put, List.setIfInBounds_toArray, List.set_cons_zero, List.set_cons_succ]
  refine wpAnyH_take (i := 18) (v := ?v66) (ops_at rfl) (by kernel_rfl) (by kernel_rfl) (by kernel_rfl) (fun _ _ _ h => h) (Or.inl ⟨by rfl, ?hy66⟩) (by assumption) ?rest66
  case hy66 => intro w' hSw; (try dsimp only at hSw); go_simp; try with_reducible rfl
  try simp only [Act.put, List.setIfInBounds_toArray, List.set_cons_zero, List.set_cons_succ]
  refine wpAnyH_take (i := 19) (v := ?v67) (ops_at rfl) (by kernel_rfl) (by kernel_rfl) (by kernel_rfl) (fun _ _ _ h => h) (Or.inl ⟨by rfl, ?hy67⟩) (by assumption) ?rest67
  case hy67 => intro w' hSw; (try dsimp only at hSw); go_simp; try with_reducible rfl
  try simp only [Act.put, List.setIfInBounds_toArray, List.set_cons_zero, List.set_cons_succ]
  refine wpAnyH_take (i := 20) (v := ?v68) (ops_at rfl) (by kernel_rfl) (by kernel_rfl) (by kernel_rfl) (fun _ _ _ h => h) (Or.inl ⟨by rfl, ?hy68⟩) (by assumption) ?rest68
  case hy68 => intro w' hSw; (try dsimp only at hSw); go_simp; try with_reducible rfl
  try simp only [Act.put, List.setIfInBounds_toArray, List.set_cons_zero, List.set_cons_succ]
  refine wpAnyH_take (i := 21) (v := ?v69) (ops_at rfl) (by kernel_rfl) (by kernel_rfl) (by kernel_rfl) (fun _ _ _ h => h) (Or.inl ⟨by rfl, ?hy69⟩) (by assumption) ?rest69
  case hy69 => intro w' hSw; (try dsimp only at hSw); go_simp; try with_reducible rfl
  try simp only [Act.put, List.setIfInBounds_toArray, List.set_cons_zero, List.set_cons_succ]
  refine wpAnyH_take (i := 22) (v := ?v70) (ops_at rfl) (by kernel_rfl) (by kernel_rfl) (by kernel_rfl) (fun _ _ _ h => h) (Or.inl ⟨by rfl, ?hy70⟩) (by assumption) ?rest70
  case hy70 => intro w' hSw; (try dsimp only at hSw); go_simp; try with_reducible rfl
  try simp only [Act.put, List.setIfInBounds_toArray, List.set_cons_zero, List.set_cons_succ]
  refine wpAnyH_take (i := 23) (v := ?v71) (ops_at rfl) (by kernel_rfl) (by kernel_rfl) (by kernel_rfl) (fun _ _ _ h => h) (Or.inl ⟨by rfl, ?hy71⟩) (by assumption) ?rest71
  case hy71 => intro w' hSw; (try dsimp only at hSw); go_simp; try with_reducible rfl
  try simp only [Act.put, List.setIfInBounds_toArray, List.set_cons_zero, List.set_cons_succ]
  refine wpAnyH_done (by kernel_rfl) ?_ _
  go_wp2
  go_ret
  exact ⟨by rw [E.out]; rfl, S4.fin⟩
def pinOf (s : STA) (job : Int) : Int := match jobOf s job with | some j => j.pin | none => 0
def wrongA (s : STA) (x : AG) : Bool := (hasA x && isJ s x.job) && (!(pinOf s x.job == 0) && !(pinOf s x.job == x.version))
set_option maxRecDepth 10000 in
set_option maxHeartbeats 6400000 in
theorem wtWrong (c : CF) (s : STA) (la : Option Addr) (ln lc : Nat) (sv : Value) (x : AG) (w : World) (hs : s.At w) :
    Calls Try.prog 39 #[.agg #[.int .i64 c.nodes, .int .i64 c.queues, .int .i64 c.quota, .int .i64 c.wave, .int .i64 c.lease, .int .i64 c.retry, .int .i64 c.deadline, .int .i64 c.room, .int .i64 c.disk, .slice s.na s.nn s.nc, .slice s.ja s.jn s.jc, .int .i64 s.goal, .int .i64 s.prior, .int .i64 s.mode, .int .i64 s.term, .slice la ln lc, sv], .agg #[.bool x.up, .int .i64 x.term, .int .i64 x.gen, .int .i64 x.mode, .int .i64 x.job, .int .i64 x.inc, .int .i64 x.version, .int .i64 x.lease, .int .i64 x.worked, .int .i64 x.to_]] w fun e w' => e = .returned (.bool (wrongA s x)) ∧ Below w.heap.size w w' := by
  have S1 : St w _ [cellsT w.heap.size 77 (#[.int .i64 c.nodes, .int .i64 c.queues, .int .i64 c.quota, .int .i64 c.wave, .int .i64 c.lease, .int .i64 c.retry, .int .i64 c.deadline, .int .i64 c.room, .int .i64 c.disk, .slice s.na s.nn s.nc, .slice s.ja s.jn s.jc, .int .i64 s.goal, .int .i64 s.prior, .int .i64 s.mode, .int .i64 s.term, .slice la ln lc, sv] : Array Value).toList, cellsT (w.heap.size + 1) 31 x.cs] := ((St.start w).newAt 77 #[.int .i64 c.nodes, .int .i64 c.queues, .int .i64 c.quota, .int .i64 c.wave, .int .i64 c.lease, .int .i64 c.retry, .int .i64 c.deadline, .int .i64 c.room, .int .i64 c.disk, .slice s.na s.nn s.nc, .slice s.ja s.jn s.jc, .int .i64 s.goal, .int .i64 s.prior, .int .i64 s.mode, .int .i64 s.term, .slice la ln lc, sv] w.heap.size rfl).newAt 31 #[.bool x.up, .int .i64 x.term, .int .i64 x.gen, .int .i64 x.mode, .int .i64 x.job, .int .i64 x.inc, .int .i64 x.version, .int .i64 x.lease, .int .i64 x.worked, .int .i64 x.to_] (w.heap.size + 1) (alloc_size _ _)
  obtain ⟨hv, hhv⟩ : ∃ b, hasA x = b := ⟨_, rfl⟩
  obtain ⟨iv, hiv⟩ : ∃ b, isJ s x.job = b := ⟨_, rfl⟩
  have HH := hid hhv
  have HI := hid hiv
  have HX : Hid (isJ s x.job = true → ∃ (K : Nat) (hl : K < s.J.length), x.job = K + 1 ∧ K < s.jn ∧ pinOf s x.job = s.J[K].pin) := fun h => by
    unfold isJ at h
    rw [Bool.and_eq_true, decide_eq_true_iff, decide_eq_true_iff] at h
    obtain ⟨K, hK⟩ : ∃ K : Nat, x.job = K + 1 := ⟨(x.job - 1).toNat, by omega⟩
    have hl : K < s.J.length := by rw [hs.jn]; omega
    refine ⟨K, hl, hK, by omega, ?_⟩
    rw [pinOf, jobOf, show (x.job - 1).toNat = K by omega, List.getElem?_eq_getElem hl]
  have HS := hid hs
  clear hhv hiv hs
  have y := S1.agC 1 rfl
  obtain ⟨y0, y1, y2, y3, y4, y5, y6, y7, y8, y9⟩ := y
  go_enter Try.func39, Try.ntmps39
  go_wp2_with fail
  generalize w.heap.size + 1 = g3 at *
  generalize w.heap.size = g2 at *
  generalize (w.alloc _).alloc _ = w1 at *
  refine (wtHas x _).mono ?_
  rintro e w3 ⟨rfl, hb3⟩
  rw [HH.out]
  have S3 := S1.grow hb3
  clear S1 hb3 y0 y1 y2 y3 y4 y5 y6 y7 y8 y9
  cases hv
  · have E : Hid (wrongA s x = false) := by rw [Hid, wrongA, HH.out]; rfl
    go_wp2
    go_ret
    exact ⟨by rw [E.out]; rfl, S3.fin⟩
  obtain ⟨v0, v1, v2, v3, v4, v5, v6, v7, v8, v9, v10, v11, v12, v13, v14, v15, v16⟩ := S3.vwC 0 rfl
  obtain ⟨y0, y1, y2, y3, y4, y5, y6, y7, y8, y9⟩ := S3.agC 1 rfl
  go_wp2_with fail
  refine (wtIs c s la ln lc sv x.job _).mono ?_
  rintro e w4 ⟨rfl, hb4⟩
  rw [HI.out]
  have S4 := S3.grow hb4
  clear S3 hb4 y0 y1 y2 y3 y4 y5 y6 y7 y8 y9 v0 v1 v2 v3 v4 v5 v6 v7 v8 v9 v10 v11 v12 v13 v14 v15 v16
  have S3 := S4
  clear S4
  cases iv
  · have E : Hid (wrongA s x = false) := by rw [Hid, wrongA, HI.out]; simp
    go_wp2
    go_ret
    exact ⟨by rw [E.out]; rfl, S3.fin⟩
  obtain ⟨K, hl, hK, hKn, hp⟩ := HX.out HI.out
  have hjm := HS.out.jm
  unfold maxLen at hjm
  have i0 := fun wx => idxJB s.ja s.jn s.jc (fun h => HS.out.j.ok (by rw [HS.out.jn]; exact h)) K (x.job - 1) (by omega) hKn wx
  have hr : -9223372036854775808 ≤ x.job - 1 ∧ x.job - 1 ≤ 9223372036854775807 := by omega
  have E0 : Hid (wrongA s x = (!(s.J[K].pin == 0) && !(s.J[K].pin == x.version))) := by rw [Hid, wrongA, HH.out, HI.out, hp]; rfl
  obtain ⟨j0, j1, j2, j3, j4, j5, j6, j7, j8, j9, j10, j11⟩ := (HS.out.j.all eJBok S3.fin).jbAt hl
  obtain ⟨v0, v1, v2, v3, v4, v5, v6, v7, v8, v9, v10, v11, v12, v13, v14, v15, v16⟩ := S3.vwC 0 rfl
  obtain ⟨y0, y1, y2, y3, y4, y5, y6, y7, y8, y9⟩ := S3.agC 1 rfl
  generalize s.J[K] = j at *
  generalize adr s.ja (K * 12) = B at *
  clear hK hp HX HH HI
  cases p0 : (j.pin == 0)
  · have q0 : (j.pin != 0) = true := by simp only [bne, p0]; rfl
    cases p1 : (j.pin == x.version)
    · have q1 : (j.pin != x.version) = true := by simp only [bne, p1]; rfl
      have E : Hid (wrongA s x = true) := by rw [Hid, E0.out, p0, p1]; rfl
      go_wp2
      go_ret
      exact ⟨by rw [E.out]; rfl, S3.fin⟩
    · have q1 : (j.pin != x.version) = false := by simp only [bne, p1]; rfl
      have E : Hid (wrongA s x = false) := by rw [Hid, E0.out, p0, p1]; rfl
      go_wp2
      go_ret
      exact ⟨by rw [E.out]; rfl, S3.fin⟩
  · have q0 : (j.pin != 0) = false := by simp only [bne, p0]; rfl
    have E : Hid (wrongA s x = false) := by rw [Hid, E0.out, p0]; rfl
    go_wp2
    go_ret
    exact ⟨by rw [E.out]; rfl, S3.fin⟩
end Go.Proofs.Ytilobmefomoemaa
