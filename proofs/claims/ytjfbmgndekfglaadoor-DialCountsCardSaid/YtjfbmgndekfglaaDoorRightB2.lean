/- book.fits as an explicit value. -/
import Derived.Test.YtjfbmgndekfglaaDoorRightB
namespace Go.Proofs.YtjfbmgndekfglaaDoor
set_option linter.unusedVariables false
set_option linter.unusedSimpArgs false
open Go.RowKit
def fitK (s : STA) (j : JB) (num : Int) : Nat → Option Int
  | 0 => some j.pin
  | k + 1 => match fitK s j num k with
    | none => none
    | some v => match s.N[k]? with
      | none => some v
      | some x => if hasB j.nodes k = true then (if x.mine num = true ∧ x.version = (if v = 0 then x.version else v) then some (if v = 0 then x.version else v) else none) else some v
theorem fitK_none {s : STA} {j : JB} {num : Int} {k : Nat} (h : fitK s j num k = none) : ∀ n, k ≤ n → fitK s j num n = none
  | 0, hn => by obtain rfl : k = 0 := by omega
                exact h
  | n + 1, hn => by
    by_cases e : k = n + 1
    · subst e; exact h
    · rw [fitK, fitK_none h n (by omega)]
def fitsB (s : STA) (j : JB) (num : Int) : Bool := decide (0 ≤ j.nodes) && (decide (j.nodes < 2 ^ s.nn) && (inR (onesN j.nodes.toNat) j.lo j.hi && (fitK s j num s.nn).isSome))
set_option maxRecDepth 10000 in
set_option maxHeartbeats 3200000 in
theorem bxFits (w : World) (s : STA) (hs : s.At w) (h6 : s.nn ≤ 6) (j : JB) (g : Nat) (num : Int) (hg : w.cell? ⟨g, 0, none⟩ = some (.int .i64 num)) :
    Calls Tryd.prog 39 #[.agg #[.slice s.na s.nn s.nc, .slice s.ja s.jn s.jc, .int .i64 s.goal, .int .i64 s.prior, .int .i64 s.mode, .int .i64 s.term], .agg #[.int .i64 j.queue, .int .i64 j.prio, .int .i64 j.lo, .int .i64 j.hi, .int .i64 j.work, .int .i64 j.pin, .int .i64 j.phase, .int .i64 j.inc, .int .i64 j.nodes, .int .i64 j.since, .int .i64 j.until_, .int .i64 j.epoch], .int .i64 j.nodes, .func (.func 40) #[] #[.pointer (some ⟨g, 0, none⟩)]] w fun e w' => e = .returned (.bool (fitsB s j num)) ∧ Below w.heap.size w w' := by
  have S1 : St w _ [cellsT w.heap.size 27 s.cs, cellsT (w.heap.size + 1) 51 j.cs] := ((St.start w).newAt 27 #[.slice s.na s.nn s.nc, .slice s.ja s.jn s.jc, .int .i64 s.goal, .int .i64 s.prior, .int .i64 s.mode, .int .i64 s.term] w.heap.size rfl).newAt 51 #[.int .i64 j.queue, .int .i64 j.prio, .int .i64 j.lo, .int .i64 j.hi, .int .i64 j.work, .int .i64 j.pin, .int .i64 j.phase, .int .i64 j.inc, .int .i64 j.nodes, .int .i64 j.since, .int .i64 j.until_, .int .i64 j.epoch] (w.heap.size + 1) (alloc_size _ _)
  have hb := S1.fin
  have HS := hid hs
  have HG := hid hg
  clear hs hg
  go_enter Tryd.func39, Tryd.ntmps39
  go_wp2_with fail
  generalize (w.alloc _).alloc _ = w1 at *
  have keep : ∀ {w' : World}, St w w' [cellsT w.heap.size 27 s.cs, cellsT (w.heap.size + 1) 51 j.cs] → (w'.cell? ⟨w.heap.size, 0, none⟩ = some (.slice s.na s.nn s.nc) ∧ w'.cell? ⟨w.heap.size + 1, 2, none⟩ = some (.int .i64 j.lo) ∧ w'.cell? ⟨w.heap.size + 1, 3, none⟩ = some (.int .i64 j.hi)) := fun S => ⟨S.cell 0 rfl 0 rfl, S.cell 1 rfl 2 rfl, S.cell 1 rfl 3 rfl⟩
  by_cases c0 : j.nodes < 0
  · have g0 : decide (j.nodes < 0) = true := decide_eq_true c0
    have E : Hid (fitsB s j num = false) := by rw [Hid, fitsB, decide_eq_false (show ¬ 0 ≤ j.nodes by omega)]; rfl
    refine wp_region_held_drew (S := (fun w' => (w'.cell? ⟨w.heap.size, 0, none⟩ = some (.slice s.na s.nn s.nc) ∧ w'.cell? ⟨w.heap.size + 1, 2, none⟩ = some (.int .i64 j.lo) ∧ w'.cell? ⟨w.heap.size + 1, 3, none⟩ = some (.int .i64 j.hi)))) (by kernel_rfl) (by exact keep S1.drew) (fun hHeld => ?_)
    change wpAnyH _ _ _ _ _ 21 (Array.replicate 21 false) _ _
    refine wpAnyH_take (i := 0) (v := ?v1) (ops_at rfl) (by kernel_rfl) (by kernel_rfl) (by kernel_rfl) (fun _ _ _ h => h) (Or.inl ⟨by rfl, ?hy1⟩) (by assumption) ?rest1
    case hy1 => intro w' hSw; (try dsimp only at hSw); go_simp; try with_reducible rfl
    try simp only [Act.put, List.setIfInBounds_toArray, List.set_cons_zero, List.set_cons_succ]
    refine wpAnyH_take (i := 1) (v := ?v2) (ops_at rfl) (by kernel_rfl) (by kernel_rfl) (by kernel_rfl) (fun _ _ _ h => h) (Or.inl ⟨by rfl, ?hy2⟩) (by assumption) ?rest2
    case hy2 => intro w' hSw; (try dsimp only at hSw); go_simp; try with_reducible rfl
    try simp only [Act.put, List.setIfInBounds_toArray, List.set_cons_zero, List.set_cons_succ]
    refine wpAnyH_take (i := 2) (v := ?v3) (ops_at rfl) (by kernel_rfl) (by kernel_rfl) (by kernel_rfl) (fun _ _ _ h => h) (Or.inl ⟨by rfl, ?hy3⟩) (by assumption) ?rest3
    case hy3 => intro w' hSw; (try dsimp only at hSw); go_simp; try with_reducible rfl
    try simp only [Act.put, List.setIfInBounds_toArray, List.set_cons_zero, List.set_cons_succ]
    refine wpAnyH_take (i := 3) (v := undef) (ops_at rfl) (by kernel_rfl) (by kernel_rfl) (by kernel_rfl) (fun _ _ _ h => h) (Or.inr ⟨by rfl, rfl⟩) (by assumption) ?rest4
    try simp only [Act.put, List.setIfInBounds_toArray, List.set_cons_zero, List.set_cons_succ]
    refine wpAnyH_take (i := 4) (v := undef) (ops_at rfl) (by kernel_rfl) (by kernel_rfl) (by kernel_rfl) (fun _ _ _ h => h) (Or.inr ⟨by rfl, rfl⟩) (by assumption) ?rest5
    try simp only [Act.put, List.setIfInBounds_toArray, List.set_cons_zero, List.set_cons_succ]
    refine wpAnyH_take (i := 5) (v := undef) (ops_at rfl) (by kernel_rfl) (by kernel_rfl) (by kernel_rfl) (fun _ _ _ h => h) (Or.inr ⟨by rfl, rfl⟩) (by assumption) ?rest6
    try simp only [Act.put, List.setIfInBounds_toArray, List.set_cons_zero, List.set_cons_succ]
    refine wpAnyH_take (i := 6) (v := undef) (ops_at rfl) (by kernel_rfl) (by kernel_rfl) (by kernel_rfl) (fun _ _ _ h => h) (Or.inr ⟨by rfl, rfl⟩) (by assumption) ?rest7
    try simp only [Act.put, List.setIfInBounds_toArray, List.set_cons_zero, List.set_cons_succ]
    refine wpAnyH_take (i := 7) (v := undef) (ops_at rfl) (by kernel_rfl) (by kernel_rfl) (by kernel_rfl) (fun _ _ _ h => h) (Or.inr ⟨by rfl, rfl⟩) (by assumption) ?rest8
    try simp only [Act.put, List.setIfInBounds_toArray, List.set_cons_zero, List.set_cons_succ]
    refine wpAnyH_take (i := 8) (v := undef) (ops_at rfl) (by kernel_rfl) (by kernel_rfl) (by kernel_rfl) (fun _ _ _ h => h) (Or.inr ⟨by rfl, rfl⟩) (by assumption) ?rest9
    try simp only [Act.put, List.setIfInBounds_toArray, List.set_cons_zero, List.set_cons_succ]
    refine wpAnyH_take (i := 9) (v := ?v10) (ops_at rfl) (by kernel_rfl) (by kernel_rfl) (by kernel_rfl) (fun _ _ _ h => h) (Or.inl ⟨by rfl, ?hy10⟩) (by assumption) ?rest10
    case hy10 => intro w' hSw; (try dsimp only at hSw); go_simp; try with_reducible rfl
    try simp only [Act.put, List.setIfInBounds_toArray, List.set_cons_zero, List.set_cons_succ]
    refine wpAnyH_take (i := 10) (v := ?v11) (ops_at rfl) (by kernel_rfl) (by kernel_rfl) (by kernel_rfl) (fun _ _ _ h => h) (Or.inl ⟨by rfl, ?hy11⟩) (by assumption) ?rest11
    case hy11 => intro w' hSw; (try dsimp only at hSw); go_simp; try with_reducible rfl
    try simp only [Act.put, List.setIfInBounds_toArray, List.set_cons_zero, List.set_cons_succ]
    refine wpAnyH_take (i := 11) (v := undef) (ops_at rfl) (by kernel_rfl) (by kernel_rfl) (by kernel_rfl) (fun _ _ _ h => h) (Or.inr ⟨by rfl, rfl⟩) (by assumption) ?rest12
    try simp only [Act.put, List.setIfInBounds_toArray, List.set_cons_zero, List.set_cons_succ]
    refine wpAnyH_take (i := 12) (v := undef) (ops_at rfl) (by kernel_rfl) (by kernel_rfl) (by kernel_rfl) (fun _ _ _ h => h) (Or.inr ⟨by rfl, rfl⟩) (by assumption) ?rest13
    try simp only [Act.put, List.setIfInBounds_toArray, List.set_cons_zero, List.set_cons_succ]
    refine wpAnyH_take (i := 13) (v := undef) (ops_at rfl) (by kernel_rfl) (by kernel_rfl) (by kernel_rfl) (fun _ _ _ h => h) (Or.inr ⟨by rfl, rfl⟩) (by assumption) ?rest14
    try simp only [Act.put, List.setIfInBounds_toArray, List.set_cons_zero, List.set_cons_succ]
    refine wpAnyH_take (i := 14) (v := undef) (ops_at rfl) (by kernel_rfl) (by kernel_rfl) (by kernel_rfl) (fun _ _ _ h => h) (Or.inr ⟨by rfl, rfl⟩) (by assumption) ?rest15
    try simp only [Act.put, List.setIfInBounds_toArray, List.set_cons_zero, List.set_cons_succ]
    refine wpAnyH_take (i := 15) (v := undef) (ops_at rfl) (by kernel_rfl) (by kernel_rfl) (by kernel_rfl) (fun _ _ _ h => h) (Or.inr ⟨by rfl, rfl⟩) (by assumption) ?rest16
    try simp only [Act.put, List.setIfInBounds_toArray, List.set_cons_zero, List.set_cons_succ]
    refine wpAnyH_take (i := 16) (v := undef) (ops_at rfl) (by kernel_rfl) (by kernel_rfl) (by kernel_rfl) (fun _ _ _ h => h) (Or.inr ⟨by rfl, rfl⟩) (by assumption) ?rest17
    try simp only [Act.put, List.setIfInBounds_toArray, List.set_cons_zero, List.set_cons_succ]
    refine wpAnyH_take (i := 17) (v := undef) (ops_at rfl) (by kernel_rfl) (by kernel_rfl) (by kernel_rfl) (fun _ _ _ h => h) (Or.inr ⟨by rfl, rfl⟩) (by assumption) ?rest18
    try simp only [Act.put, List.setIfInBounds_toArray, List.set_cons_zero, List.set_cons_succ]
    refine wpAnyH_take (i := 18) (v := undef) (ops_at rfl) (by kernel_rfl) (by kernel_rfl) (by kernel_rfl) (fun _ _ _ h => h) (Or.inr ⟨by rfl, rfl⟩) (by assumption) ?rest19
    try simp only [Act.put, List.setIfInBounds_toArray, List.set_cons_zero, List.set_cons_succ]
    refine wpAnyH_take (i := 19) (v := undef) (ops_at rfl) (by kernel_rfl) (by kernel_rfl) (by kernel_rfl) (fun _ _ _ h => h) (Or.inr ⟨by rfl, rfl⟩) (by assumption) ?rest20
    try simp only [Act.put, List.setIfInBounds_toArray, List.set_cons_zero, List.set_cons_succ]
    refine wpAnyH_take (i := 20) (v := ?v21) (ops_at rfl) (by kernel_rfl) (by kernel_rfl) (by kernel_rfl) (fun _ _ _ h => h) (Or.inl ⟨by rfl, ?hy21⟩) (by assumption) ?rest21
    case hy21 => intro w' hSw; (try dsimp only at hSw); go_simp; try with_reducible rfl
    try simp only [Act.put, List.setIfInBounds_toArray, List.set_cons_zero, List.set_cons_succ]
    refine wpAnyH_done (by kernel_rfl) ?_ _
    go_wp2
    go_ret
    exact ⟨by rw [E.out]; rfl, (S1.drew).fin⟩
  obtain ⟨n, hn⟩ : ∃ n : Nat, j.nodes = n := ⟨j.nodes.toNat, by omega⟩
  have g0 : decide (j.nodes < 0) = false := decide_eq_false c0
  obtain ⟨P, hP, hP1, hP2⟩ : ∃ P : Int, IntKind.i64.wrap (2 ^ s.nn) = P ∧ P ≤ 64 ∧ P = 2 ^ s.nn := by
    have h := h6
    generalize s.nn = k at *
    rcases (show k = 0 ∨ k = 1 ∨ k = 2 ∨ k = 3 ∨ k = 4 ∨ k = 5 ∨ k = 6 by omega) with rfl | rfl | rfl | rfl | rfl | rfl | rfl <;> exact ⟨_, rfl, by decide, by decide⟩
  have HP2 := hid hP2
  clear hP2
  have HN := hid hn
  clear hn
  by_cases c1 : P ≤ j.nodes
  · have g1 : decide (P ≤ j.nodes) = true := decide_eq_true c1
    have E : Hid (fitsB s j num = false) := by rw [Hid, fitsB, decide_eq_false (show ¬ j.nodes < 2 ^ s.nn by rw [← HP2.out]; omega), Bool.false_and, Bool.and_false]
    refine wp_region_held_drew (S := (fun w' => (w'.cell? ⟨w.heap.size, 0, none⟩ = some (.slice s.na s.nn s.nc) ∧ w'.cell? ⟨w.heap.size + 1, 2, none⟩ = some (.int .i64 j.lo) ∧ w'.cell? ⟨w.heap.size + 1, 3, none⟩ = some (.int .i64 j.hi)))) (by kernel_rfl) (by exact keep S1.drew) (fun hHeld => ?_)
    change wpAnyH _ _ _ _ _ 21 (Array.replicate 21 false) _ _
    refine wpAnyH_take (i := 0) (v := ?v22) (ops_at rfl) (by kernel_rfl) (by kernel_rfl) (by kernel_rfl) (fun _ _ _ h => h) (Or.inl ⟨by rfl, ?hy22⟩) (by assumption) ?rest22
    case hy22 => intro w' hSw; (try dsimp only at hSw); go_simp; try with_reducible rfl
    try simp only [Act.put, List.setIfInBounds_toArray, List.set_cons_zero, List.set_cons_succ]
    refine wpAnyH_take (i := 1) (v := ?v23) (ops_at rfl) (by kernel_rfl) (by kernel_rfl) (by kernel_rfl) (fun _ _ _ h => h) (Or.inl ⟨by rfl, ?hy23⟩) (by assumption) ?rest23
    case hy23 => intro w' hSw; (try dsimp only at hSw); go_simp; try with_reducible rfl
    try simp only [Act.put, List.setIfInBounds_toArray, List.set_cons_zero, List.set_cons_succ]
    refine wpAnyH_take (i := 2) (v := ?v24) (ops_at rfl) (by kernel_rfl) (by kernel_rfl) (by kernel_rfl) (fun _ _ _ h => h) (Or.inl ⟨by rfl, ?hy24⟩) (by assumption) ?rest24
    case hy24 => intro w' hSw; (try dsimp only at hSw); go_simp; try with_reducible rfl
    try simp only [Act.put, List.setIfInBounds_toArray, List.set_cons_zero, List.set_cons_succ]
    refine wpAnyH_take (i := 3) (v := ?v25) (ops_at rfl) (by kernel_rfl) (by kernel_rfl) (by kernel_rfl) (fun _ _ _ h => h) (Or.inl ⟨by rfl, ?hy25⟩) (by assumption) ?rest25
    case hy25 => intro w' hSw; (try dsimp only at hSw); go_simp; try with_reducible rfl
    try simp only [Act.put, List.setIfInBounds_toArray, List.set_cons_zero, List.set_cons_succ]
    refine wpAnyH_take (i := 4) (v := ?v26) (ops_at rfl) (by kernel_rfl) (by kernel_rfl) (by kernel_rfl) (fun _ _ _ h => h) (Or.inl ⟨by rfl, ?hy26⟩) (by assumption) ?rest26
    case hy26 => intro w' hSw; (try dsimp only at hSw); go_simp; try with_reducible rfl
    try simp only [Act.put, List.setIfInBounds_toArray, List.set_cons_zero, List.set_cons_succ]
    refine wpAnyH_take (i := 5) (v := ?v27) (ops_at rfl) (by kernel_rfl) (by kernel_rfl) (by kernel_rfl) (fun _ _ _ h => h) (Or.inl ⟨by rfl, ?hy27⟩) (by assumption) ?rest27
    case hy27 => intro w' hSw; (try dsimp only at hSw); go_simp; try with_reducible rfl
    try simp only [Act.put, List.setIfInBounds_toArray, List.set_cons_zero, List.set_cons_succ]
    refine wpAnyH_take (i := 6) (v := ?v28) (ops_at rfl) (by kernel_rfl) (by kernel_rfl) (by kernel_rfl) (fun _ _ _ h => h) (Or.inl ⟨by rfl, ?hy28⟩) (by assumption) ?rest28
    case hy28 => intro w' hSw; (try dsimp only at hSw); go_simp; try with_reducible rfl
    try simp only [Act.put, List.setIfInBounds_toArray, List.set_cons_zero, List.set_cons_succ]
    refine wpAnyH_take (i := 7) (v := ?v29) (ops_at rfl) (by kernel_rfl) (by kernel_rfl) (by kernel_rfl) (fun _ _ _ h => h) (Or.inl ⟨by rfl, ?hy29⟩) (by assumption) ?rest29
    case hy29 => intro w' hSw; (try dsimp only at hSw); go_simp; try with_reducible rfl
    try simp only [Act.put, List.setIfInBounds_toArray, List.set_cons_zero, List.set_cons_succ]
    refine wpAnyH_take (i := 8) (v := ?v30) (ops_at rfl) (by kernel_rfl) (by kernel_rfl) (by kernel_rfl) (fun _ _ _ h => h) (Or.inl ⟨by rfl, ?hy30⟩) (by assumption) ?rest30
    case hy30 => intro w' hSw; (try dsimp only at hSw); go_simp; try with_reducible rfl
    try simp only [Act.put, List.setIfInBounds_toArray, List.set_cons_zero, List.set_cons_succ]
    refine wpAnyH_take (i := 9) (v := ?v31) (ops_at rfl) (by kernel_rfl) (by kernel_rfl) (by kernel_rfl) (fun _ _ _ h => h) (Or.inl ⟨by rfl, ?hy31⟩) (by assumption) ?rest31
    case hy31 => intro w' hSw; (try dsimp only at hSw); go_simp; try with_reducible rfl
    try simp only [Act.put, List.setIfInBounds_toArray, List.set_cons_zero, List.set_cons_succ]
    refine wpAnyH_take (i := 10) (v := ?v32) (ops_at rfl) (by kernel_rfl) (by kernel_rfl) (by kernel_rfl) (fun _ _ _ h => h) (Or.inl ⟨by rfl, ?hy32⟩) (by assumption) ?rest32
    case hy32 => intro w' hSw; (try dsimp only at hSw); go_simp; try with_reducible rfl
    try simp only [Act.put, List.setIfInBounds_toArray, List.set_cons_zero, List.set_cons_succ]
    refine wpAnyH_take (i := 11) (v := undef) (ops_at rfl) (by kernel_rfl) (by kernel_rfl) (by kernel_rfl) (fun _ _ _ h => h) (Or.inr ⟨by rfl, rfl⟩) (by assumption) ?rest33
    try simp only [Act.put, List.setIfInBounds_toArray, List.set_cons_zero, List.set_cons_succ]
    refine wpAnyH_take (i := 12) (v := undef) (ops_at rfl) (by kernel_rfl) (by kernel_rfl) (by kernel_rfl) (fun _ _ _ h => h) (Or.inr ⟨by rfl, rfl⟩) (by assumption) ?rest34
    try simp only [Act.put, List.setIfInBounds_toArray, List.set_cons_zero, List.set_cons_succ]
    refine wpAnyH_take (i := 13) (v := undef) (ops_at rfl) (by kernel_rfl) (by kernel_rfl) (by kernel_rfl) (fun _ _ _ h => h) (Or.inr ⟨by rfl, rfl⟩) (by assumption) ?rest35
    try simp only [Act.put, List.setIfInBounds_toArray, List.set_cons_zero, List.set_cons_succ]
    refine wpAnyH_take (i := 14) (v := undef) (ops_at rfl) (by kernel_rfl) (by kernel_rfl) (by kernel_rfl) (fun _ _ _ h => h) (Or.inr ⟨by rfl, rfl⟩) (by assumption) ?rest36
    try simp only [Act.put, List.setIfInBounds_toArray, List.set_cons_zero, List.set_cons_succ]
    refine wpAnyH_take (i := 15) (v := undef) (ops_at rfl) (by kernel_rfl) (by kernel_rfl) (by kernel_rfl) (fun _ _ _ h => h) (Or.inr ⟨by rfl, rfl⟩) (by assumption) ?rest37
    try simp only [Act.put, List.setIfInBounds_toArray, List.set_cons_zero, List.set_cons_succ]
    refine wpAnyH_take (i := 16) (v := undef) (ops_at rfl) (by kernel_rfl) (by kernel_rfl) (by kernel_rfl) (fun _ _ _ h => h) (Or.inr ⟨by rfl, rfl⟩) (by assumption) ?rest38
    try simp only [Act.put, List.setIfInBounds_toArray, List.set_cons_zero, List.set_cons_succ]
    refine wpAnyH_take (i := 17) (v := undef) (ops_at rfl) (by kernel_rfl) (by kernel_rfl) (by kernel_rfl) (fun _ _ _ h => h) (Or.inr ⟨by rfl, rfl⟩) (by assumption) ?rest39
    try simp only [Act.put, List.setIfInBounds_toArray, List.set_cons_zero, List.set_cons_succ]
    refine wpAnyH_take (i := 18) (v := undef) (ops_at rfl) (by kernel_rfl) (by kernel_rfl) (by kernel_rfl) (fun _ _ _ h => h) (Or.inr ⟨by rfl, rfl⟩) (by assumption) ?rest40
    try simp only [Act.put, List.setIfInBounds_toArray, List.set_cons_zero, List.set_cons_succ]
    refine wpAnyH_take (i := 19) (v := undef) (ops_at rfl) (by kernel_rfl) (by kernel_rfl) (by kernel_rfl) (fun _ _ _ h => h) (Or.inr ⟨by rfl, rfl⟩) (by assumption) ?rest41
    try simp only [Act.put, List.setIfInBounds_toArray, List.set_cons_zero, List.set_cons_succ]
    refine wpAnyH_take (i := 20) (v := ?v42) (ops_at rfl) (by kernel_rfl) (by kernel_rfl) (by kernel_rfl) (fun _ _ _ h => h) (Or.inl ⟨by rfl, ?hy42⟩) (by assumption) ?rest42
    case hy42 => intro w' hSw; (try dsimp only at hSw); go_simp; try with_reducible rfl
    try simp only [Act.put, List.setIfInBounds_toArray, List.set_cons_zero, List.set_cons_succ]
    refine wpAnyH_done (by kernel_rfl) ?_ _
    go_wp2
    go_ret
    exact ⟨by rw [E.out]; rfl, (S1.drew).fin⟩
  have g1 : decide (P ≤ j.nodes) = false := decide_eq_false c1
  have hn64 : n < 64 := by have := HN.out; omega
  have HO : Hid (∀ wx, Calls Tryd.prog 48 #[.int .u64 (IntKind.u64.wrap j.nodes)] wx fun e w' => e = .returned (.int .i64 (onesN n)) ∧ w' = wx) := by
    intro wx
    rw [HN.out, show IntKind.u64.wrap (n : Int) = n by rw [IntKind.wrap_u64]; omega]
    exact bxOnes n wx hn64
  have hn1 : 0 ≤ j.nodes := by omega
  have hn2 : j.nodes < 64 := by omega
  refine wp_region_held_drew (S := (fun w' => (w'.cell? ⟨w.heap.size, 0, none⟩ = some (.slice s.na s.nn s.nc) ∧ w'.cell? ⟨w.heap.size + 1, 2, none⟩ = some (.int .i64 j.lo) ∧ w'.cell? ⟨w.heap.size + 1, 3, none⟩ = some (.int .i64 j.hi)))) (by kernel_rfl) (by exact keep S1.drew) (fun hHeld => ?_)
  change wpAnyH _ _ _ _ _ 21 (Array.replicate 21 false) _ _
  refine wpAnyH_take (i := 0) (v := ?v43) (ops_at rfl) (by kernel_rfl) (by kernel_rfl) (by kernel_rfl) (fun _ _ _ h => h) (Or.inl ⟨by rfl, ?hy43⟩) (by assumption) ?rest43
  case hy43 => intro w' hSw; (try dsimp only at hSw); go_simp; try with_reducible rfl
  try simp only [Act.put, List.setIfInBounds_toArray, List.set_cons_zero, List.set_cons_succ]
  refine wpAnyH_take (i := 1) (v := ?v44) (ops_at rfl) (by kernel_rfl) (by kernel_rfl) (by kernel_rfl) (fun _ _ _ h => h) (Or.inl ⟨by rfl, ?hy44⟩) (by assumption) ?rest44
  case hy44 => intro w' hSw; (try dsimp only at hSw); go_simp; try with_reducible rfl
  try simp only [Act.put, List.setIfInBounds_toArray, List.set_cons_zero, List.set_cons_succ]
  refine wpAnyH_take (i := 2) (v := ?v45) (ops_at rfl) (by kernel_rfl) (by kernel_rfl) (by kernel_rfl) (fun _ _ _ h => h) (Or.inl ⟨by rfl, ?hy45⟩) (by assumption) ?rest45
  case hy45 => intro w' hSw; (try dsimp only at hSw); go_simp; try with_reducible rfl
  try simp only [Act.put, List.setIfInBounds_toArray, List.set_cons_zero, List.set_cons_succ]
  refine wpAnyH_take (i := 3) (v := ?v46) (ops_at rfl) (by kernel_rfl) (by kernel_rfl) (by kernel_rfl) (fun _ _ _ h => h) (Or.inl ⟨by rfl, ?hy46⟩) (by assumption) ?rest46
  case hy46 => intro w' hSw; (try dsimp only at hSw); go_simp; try with_reducible rfl
  try simp only [Act.put, List.setIfInBounds_toArray, List.set_cons_zero, List.set_cons_succ]
  refine wpAnyH_take (i := 4) (v := ?v47) (ops_at rfl) (by kernel_rfl) (by kernel_rfl) (by kernel_rfl) (fun _ _ _ h => h) (Or.inl ⟨by rfl, ?hy47⟩) (by assumption) ?rest47
  case hy47 => intro w' hSw; (try dsimp only at hSw); go_simp; try with_reducible rfl
  try simp only [Act.put, List.setIfInBounds_toArray, List.set_cons_zero, List.set_cons_succ]
  refine wpAnyH_take (i := 5) (v := ?v48) (ops_at rfl) (by kernel_rfl) (by kernel_rfl) (by kernel_rfl) (fun _ _ _ h => h) (Or.inl ⟨by rfl, ?hy48⟩) (by assumption) ?rest48
  case hy48 => intro w' hSw; (try dsimp only at hSw); go_simp; try with_reducible rfl
  try simp only [Act.put, List.setIfInBounds_toArray, List.set_cons_zero, List.set_cons_succ]
  refine wpAnyH_take (i := 6) (v := ?v49) (ops_at rfl) (by kernel_rfl) (by kernel_rfl) (by kernel_rfl) (fun _ _ _ h => h) (Or.inl ⟨by rfl, ?hy49⟩) (by assumption) ?rest49
  case hy49 => intro w' hSw; (try dsimp only at hSw); go_simp; try with_reducible rfl
  try simp only [Act.put, List.setIfInBounds_toArray, List.set_cons_zero, List.set_cons_succ]
  refine wpAnyH_take (i := 7) (v := ?v50) (ops_at rfl) (by kernel_rfl) (by kernel_rfl) (by kernel_rfl) (fun _ _ _ h => h) (Or.inl ⟨by rfl, ?hy50⟩) (by assumption) ?rest50
  case hy50 => intro w' hSw; (try dsimp only at hSw); go_simp; try with_reducible rfl
  try simp only [Act.put, List.setIfInBounds_toArray, List.set_cons_zero, List.set_cons_succ]
  refine wpAnyH_take (i := 8) (v := ?v51) (ops_at rfl) (by kernel_rfl) (by kernel_rfl) (by kernel_rfl) (fun _ _ _ h => h) (Or.inl ⟨by rfl, ?hy51⟩) (by assumption) ?rest51
  case hy51 => intro w' hSw; (try dsimp only at hSw); go_simp; try with_reducible rfl
  try simp only [Act.put, List.setIfInBounds_toArray, List.set_cons_zero, List.set_cons_succ]
  refine wpAnyH_take (i := 9) (v := ?v52) (ops_at rfl) (by kernel_rfl) (by kernel_rfl) (by kernel_rfl) (fun _ _ _ h => h) (Or.inl ⟨by rfl, ?hy52⟩) (by assumption) ?rest52
  case hy52 => intro w' hSw; (try dsimp only at hSw); go_simp; try with_reducible rfl
  try simp only [Act.put, List.setIfInBounds_toArray, List.set_cons_zero, List.set_cons_succ]
  refine wpAnyH_take (i := 10) (v := ?v53) (ops_at rfl) (by kernel_rfl) (by kernel_rfl) (by kernel_rfl) (fun _ _ _ h => h) (Or.inl ⟨by rfl, ?hy53⟩) (by assumption) ?rest53
  case hy53 => intro w' hSw; (try dsimp only at hSw); go_simp; try with_reducible rfl
  try simp only [Act.put, List.setIfInBounds_toArray, List.set_cons_zero, List.set_cons_succ]
  refine wpAnyH_take (i := 11) (v := ?v54) (ops_at rfl) (by kernel_rfl) (by kernel_rfl) (by kernel_rfl) (fun _ _ _ h => h) (Or.inl ⟨by rfl, ?hy54⟩) (by assumption) ?rest54
  case hy54 => intro w' hSw; (try dsimp only at hSw); go_simp; try with_reducible rfl
  try simp only [Act.put, List.setIfInBounds_toArray, List.set_cons_zero, List.set_cons_succ]
  refine wpAnyH_take (i := 12) (v := ?v55) (ops_at rfl) (by kernel_rfl) (by kernel_rfl) (by kernel_rfl) (fun _ _ _ h => h) (Or.inl ⟨by rfl, ?hy55⟩) (by assumption) ?rest55
  case hy55 => intro w' hSw; (try dsimp only at hSw); go_simp; try with_reducible rfl
  try simp only [Act.put, List.setIfInBounds_toArray, List.set_cons_zero, List.set_cons_succ]
  refine wpAnyH_take (i := 14) (v := ?v56) (ops_at rfl) (by kernel_rfl) (by kernel_rfl) (by kernel_rfl) (fun _ _ _ h => h) (Or.inl ⟨by rfl, ?hy56⟩) (by assumption) ?rest56
  case hy56 => intro w' hSw; (try dsimp only at hSw); go_simp; try with_reducible rfl
  try simp only [Act.put, List.setIfInBounds_toArray, List.set_cons_zero, List.set_cons_succ]
  refine wpAnyH_take (i := 15) (v := ?v57) (ops_at rfl) (by kernel_rfl) (by kernel_rfl) (by kernel_rfl) (fun _ _ _ h => h) (Or.inl ⟨by rfl, ?hy57⟩) (by assumption) ?rest57
  case hy57 => intro w' hSw; (try dsimp only at hSw); go_simp; try with_reducible rfl
  try simp only [Act.put, List.setIfInBounds_toArray, List.set_cons_zero, List.set_cons_succ]
  refine wpAnyH_take (i := 16) (v := ?v58) (ops_at rfl) (by kernel_rfl) (by kernel_rfl) (by kernel_rfl) (fun _ _ _ h => h) (Or.inl ⟨by rfl, ?hy58⟩) (by assumption) ?rest58
  case hy58 => intro w' hSw; (try dsimp only at hSw); go_simp; try with_reducible rfl
  try simp only [Act.put, List.setIfInBounds_toArray, List.set_cons_zero, List.set_cons_succ]
  refine wpAnyH_take (i := 17) (v := ?v59) (ops_at rfl) (by kernel_rfl) (by kernel_rfl) (by kernel_rfl) (fun _ _ _ h => h) (Or.inl ⟨by rfl, ?hy59⟩) (by assumption) ?rest59
  case hy59 => intro w' hSw; (try dsimp only at hSw); go_simp; try with_reducible rfl
  try simp only [Act.put, List.setIfInBounds_toArray, List.set_cons_zero, List.set_cons_succ]
  refine wpAnyH_ready (rs := [13]) (by kernel_rfl) (by simp) ?_
  refine AllReadyH.cons (ops_at rfl) (fun K hK => ?_) AllReadyH.nil
  go_simp
  refine (HO.out _).mono ?_
  rintro e w3 ⟨rfl, rfl⟩
  refine hK.out _ _ (by exact keep S1.drew) (fun hHeld => ?_)
  clear hK K
  try simp only [Act.put, List.setIfInBounds_toArray, List.set_cons_zero, List.set_cons_succ]
  refine wpAnyH_ready (rs := [18]) (by kernel_rfl) (by simp) ?_
  refine AllReadyH.cons (ops_at rfl) (fun K hK => ?_) AllReadyH.nil
  go_simp
  refine (bkIn (onesN n) j.lo j.hi _).mono ?_
  rintro e w3 ⟨rfl, rfl⟩
  refine hK.out _ _ (by exact keep S1.drew) (fun hHeld => ?_)
  clear hK K
  try simp only [Act.put, List.setIfInBounds_toArray, List.set_cons_zero, List.set_cons_succ]
  refine wpAnyH_take (i := 19) (v := ?v62) (ops_at rfl) (by kernel_rfl) (by kernel_rfl) (by kernel_rfl) (fun _ _ _ h => h) (Or.inl ⟨by rfl, ?hy62⟩) (by assumption) ?rest62
  case hy62 => intro w' hSw; (try dsimp only at hSw); go_simp; try with_reducible rfl
  try simp only [Act.put, List.setIfInBounds_toArray, List.set_cons_zero, List.set_cons_succ]
  refine wpAnyH_take (i := 20) (v := ?v63) (ops_at rfl) (by kernel_rfl) (by kernel_rfl) (by kernel_rfl) (fun _ _ _ h => h) (Or.inl ⟨by rfl, ?hy63⟩) (by assumption) ?rest63
  case hy63 => intro w' hSw; (try dsimp only at hSw); go_simp; try with_reducible rfl
  try simp only [Act.put, List.setIfInBounds_toArray, List.set_cons_zero, List.set_cons_succ]
  refine wpAnyH_done (by kernel_rfl) ?_ _
  rcases hq : inR (onesN n) j.lo j.hi with _ | _
  · have E : Hid (fitsB s j num = false) := by rw [Hid, fitsB, show j.nodes.toNat = n by have := HN.out; omega, hq, Bool.false_and, Bool.and_false, Bool.and_false]
    clear hq
    go_wp2
    go_ret
    exact ⟨by rw [E.out]; rfl, (S1.drew).fin⟩
  have E0 : Hid (fitsB s j num = (fitK s j num s.nn).isSome) := by
    rw [Hid, fitsB, show j.nodes.toNat = n by have := HN.out; omega, hq, decide_eq_true hn1, decide_eq_true (show j.nodes < 2 ^ s.nn by rw [← HP2.out]; omega)]; rfl
  clear hq
  rw [show (!true) = false from rfl]
  have S2 := S1.drew
  have hsl := S2.cell 0 rfl 0 rfl
  have hpin := S2.cell 1 rfl 5 rfl
  clear hHeld HO hP hP1 c1 g1 g0 c0 keep
  go_wp2_with fail
  have S3 := S2.take 0
  clear S1 S2 hsl hpin hb
  go_loopw [9, 38] (fun v i wr => ∃ (k : Nat) (q : Int), k ≤ s.nn ∧ v = .int .i64 q ∧ i = .int .i64 k ∧ fitK s j num k = some q ∧ St w wr []) (fun _ i _ => s.nn - (intOf i).toNat)
  case atStart => exact ⟨0, _, Nat.zero_le _, rfl, rfl, rfl, S3⟩
  case round =>
    obtain ⟨k, q, hk, rfl, rfl, hall, Sk⟩ := hrel
    have HAll := hid hall
    clear hall S3
    by_cases hlt : k < s.nn
    case neg =>
      have g0 : decide ((k : Int) < (s.nn : Int)) = false := decide_eq_false (by omega)
      have g0n : decide (k < s.nn) = false := decide_eq_false (by omega)
      have E : Hid (fitsB s j num = true) := by rw [Hid, E0.out, show s.nn = k by omega, HAll.out]; rfl
      clear hlt hk
      go_wp2
      go_ret
      exact ⟨by rw [E.out]; rfl, Sk.fin⟩
    have g0 : decide ((k : Int) < (s.nn : Int)) = true := decide_eq_true (by omega)
    have g0n : decide (k < s.nn) = true := decide_eq_true (by omega)
    have hkl : k < s.N.length := by rw [HS.out.nn]; exact hlt
    have i0 := fun wx => idxND s.na s.nn s.nc (fun h => HS.out.n.ok (by rw [HS.out.nn]; exact h)) k hlt wx
    have HX : Hid (∀ w', Below w.heap.size w w' → NdAt w' (adr s.na (k * 5)) s.N[k]) := fun w' hb => (HS.out.n.all eNDok hb).ndAt hkl
    have hstep : Hid (fitK s j num (k + 1) = if hasB j.nodes k = true then (if s.N[k].mine num = true ∧ s.N[k].version = (if q = 0 then s.N[k].version else q) then some (if q = 0 then s.N[k].version else q) else none) else some q) := by rw [Hid, fitK, HAll.out, List.getElem?_eq_getElem hkl]
    have hfail : Hid (fitK s j num (k + 1) = none → fitsB s j num = false) := fun h => by rw [E0.out, fitK_none h s.nn (by omega)]; rfl
    generalize s.N[k] = x at *
    generalize adr s.na (k * 5) = A at *
    obtain ⟨x0, x1, x2, x3, x4⟩ := HX.out _ Sk.fin
    have hB : Hid (bits .and .i64 (j.nodes / 2 ^ k) 1 = if hasB j.nodes k = true then 1 else 0) := by
      rw [Hid, HN.out]
      exact has_run ⟨n, hn64⟩ ⟨k, by omega⟩
    have Sn : St w (wr.alloc (.cells #[.bool x.up, .bool x.cordon, .bool x.moving, .int .i64 x.version, .int .i64 x.job] 39)) [cellsT wr.heap.size 39 x.cs] := Sk.newAt 39 #[.bool x.up, .bool x.cordon, .bool x.moving, .int .i64 x.version, .int .i64 x.job] wr.heap.size rfl
    by_cases hb : hasB j.nodes k = true
    case neg =>
      have gB : (bits .and .i64 (j.nodes / 2 ^ k) 1 == 0) = true := by rw [hB.out, if_neg hb]; rfl
      have hall3 : Hid (fitK s j num (k + 1) = some q) := by rw [Hid, hstep.out, if_neg hb]
      clear hb hB HX hstep hfail
      go_wp2
      go_roundw
      case rel => exact ⟨k + 1, q, by omega, rfl, by go_num, hall3.out, Sn.take 0⟩
      case measure => simp [intOf]; omega
    have gB : (bits .and .i64 (j.nodes / 2 ^ k) 1 == 0) = false := by rw [hB.out, if_pos hb]; rfl
    have hgx := (Sn.fin.cell (World.block_lt_of_cell? w _ HG.out)).trans HG.out
    have gv : (x.version != x.version) = false := by simp
    have hstep2 : Hid (fitK s j num (k + 1) = if x.mine num = true ∧ x.version = (if q = 0 then x.version else q) then some (if q = 0 then x.version else q) else none) := by rw [Hid, hstep.out, if_pos hb]
    clear hb hB HX hstep
    by_cases hq : q = 0
    · have gq : (q == 0) = true := by simpa using hq
      have hst3 : Hid (fitK s j num (k + 1) = if x.mine num = true then some x.version else none) := by rw [Hid, hstep2.out, if_pos hq]; simp
      clear hq hstep2
      go_wp2_with fail
      refine (bkMine x g num _ hgx).mono ?_
      rintro e w9 ⟨rfl, hb9⟩
      have S9 := Sn.grow hb9
      have xv := S9.cell 0 rfl 3 rfl
      clear hgx x0 x1 x2 x3 x4 i0 hb9 Sn
      rcases hm : x.mine num with _ | _
      · have E := hid (hfail.out (by rw [hst3.out, hm]; rfl))
        clear hm hfail
        go_wp2
        go_ret
        exact ⟨by rw [E.out]; rfl, S9.fin⟩
      · have hall3 : Hid (fitK s j num (k + 1) = some x.version) := by rw [Hid, hst3.out, hm]; rfl
        clear hm hst3 hfail
        go_wp2
        go_roundw
        case rel => exact ⟨k + 1, x.version, by omega, rfl, by go_num, hall3.out, S9.take 0⟩
        case measure => simp [intOf]; omega
    · have gq : (q == 0) = false := by simpa using hq
      have hst3 : Hid (fitK s j num (k + 1) = if x.mine num = true ∧ x.version = q then some q else none) := by rw [Hid, hstep2.out, if_neg hq]
      clear hq hstep2
      go_wp2_with fail
      refine (bkMine x g num _ hgx).mono ?_
      rintro e w9 ⟨rfl, hb9⟩
      have S9 := Sn.grow hb9
      have xv := S9.cell 0 rfl 3 rfl
      clear hgx x0 x1 x2 x3 x4 i0 hb9 Sn
      rcases hm : x.mine num with _ | _
      · have E := hid (hfail.out (by rw [hst3.out, if_neg (by rw [hm]; simp)]))
        clear hm hfail
        go_wp2
        go_ret
        exact ⟨by rw [E.out]; rfl, S9.fin⟩
      · cases hv : (x.version != q)
        · have hall3 : Hid (fitK s j num (k + 1) = some q) := by rw [Hid, hst3.out, if_pos ⟨hm, by simpa using hv⟩]
          clear hm hst3 hfail
          go_wp2
          go_roundw
          case rel => exact ⟨k + 1, q, by omega, rfl, by go_num, hall3.out, S9.take 0⟩
          case measure => simp [intOf]; omega
        · have E := hid (hfail.out (by rw [hst3.out, if_neg (by intro h; rw [h.2] at hv; simp at hv)]))
          clear hm hst3 hfail
          go_wp2
          go_ret
          exact ⟨by rw [E.out]; rfl, S9.fin⟩
end Go.Proofs.YtjfbmgndekfglaaDoor
