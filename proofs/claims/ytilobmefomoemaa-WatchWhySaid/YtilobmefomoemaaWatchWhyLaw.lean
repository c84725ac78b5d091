/- WatchWhy: the law. -/
import Derived.Test.YtilobmefomoemaaWhys
import Derived.Test.YtilobmefomoemaaWatch13
import Derived.Test.YtilobmefomoemaaWatchConv
namespace Go.Proofs.Ytilobmefomoemaa
set_option linter.unusedVariables false
set_option linter.unusedSimpArgs false
open Go.RowKit
set_option maxRecDepth 10000 in
set_option maxHeartbeats 12800000 in
theorem watchWhy_law (c : CF) (s : STA) (a : Option Addr) (L : List AG) (n cap : Nat) (ta : Option Addr) (TL : List TAct) (tn tc : Nat) (w : World) (hs : s.At w) (hn : L.length = n) (hA : AtG eAG w a L) (htn : TL.length = tn) (htm : tn ≤ maxLen) (hT : AtG eTA w ta TL) (hok : ∀ x ∈ TL, x.Ok w) :
    Calls Try.prog 4 #[.agg #[.int .i64 c.nodes, .int .i64 c.queues, .int .i64 c.quota, .int .i64 c.wave, .int .i64 c.lease, .int .i64 c.retry, .int .i64 c.deadline, .int .i64 c.room, .int .i64 c.disk], .agg #[.slice s.na s.nn s.nc, .slice s.ja s.jn s.jc, .int .i64 s.goal, .int .i64 s.prior, .int .i64 s.mode, .int .i64 s.term], .slice a n cap, .slice ta tn tc] w fun e w' => e = .returned (.bool true) ∧ Below w.heap.size w w' := by
  have S1 : St w _ [cellsT w.heap.size 38 c.cs, cellsT (w.heap.size + 1) 25 s.cs] := ((St.start w).newAt 38 #[.int .i64 c.nodes, .int .i64 c.queues, .int .i64 c.quota, .int .i64 c.wave, .int .i64 c.lease, .int .i64 c.retry, .int .i64 c.deadline, .int .i64 c.room, .int .i64 c.disk] w.heap.size rfl).newAt 25 #[.slice s.na s.nn s.nc, .slice s.ja s.jn s.jc, .int .i64 s.goal, .int .i64 s.prior, .int .i64 s.mode, .int .i64 s.term] (w.heap.size + 1) (alloc_size _ _)
  have HS := hid hs
  have HN := hid hn
  have HA := hid hA
  have HTN := hid htn
  have HTM := hid htm
  have HT := hid hT
  have HOk := hid hok
  clear hs hn hA htn htm hT hok
  go_enter Try.func4, Try.ntmps4
  go_wp2_with fail
  generalize w.heap.size + 1 = bs at *
  generalize w.heap.size = bc at *
  generalize (w.alloc _).alloc _ = w1 at *
  refine (alive24_any _).mono ?_
  rintro e w2 ⟨rfl, hb2⟩
  have S2 := S1.grow hb2
  clear S1 hb2
  go_wp2_with fail
  refine (stores_any S2 500 ta TL tn tc HTN.out HTM.out HT.out HOk.out).mono ?_
  rintro e w3 ⟨g, h, t, q, ok, rfl, hR, hq60, S3⟩
  have HR := hid hR
  clear S2 hR
  cases ok
  · go_wp2
    go_ret
    exact ⟨rfl, S3.fin⟩
  obtain ⟨y0, y1, y2, y3, y4, y5⟩ := S3.sC 3 rfl
  obtain ⟨x0, x1, x2, x3, x4, x5, x6, x7, x8⟩ := S3.cfC 2 rfl
  go_wp2_with fail
  refine (bxRight _ c s (HS.out.all S3.fin)).mono ?_
  rintro e w4 ⟨rfl, hb4⟩
  have S4 : St w w4 [rstT h q, soT (.pointer (some ⟨g, 0, none⟩)) (some t), cellsT bc 38 c.cs, cellsT bs 25 s.cs] := (S3.grow hb4).soMk 1 rfl
  clear y0 y1 y2 y3 y4 y5 x0 x1 x2 x3 x4 x5 x6 x7 x8 S3 hb4
  obtain ⟨rb, hrb⟩ : ∃ rb, rightB c s = rb := ⟨_, rfl⟩
  rw [hrb]
  have HRB := hid hrb
  clear hrb
  cases rb
  · go_wp2
    go_ret
    exact ⟨rfl, S4.fin⟩
  have HRF := hid (rightB_rrf HS.out HRB.out)
  by_cases h20 : n ≤ 20
  case neg =>
    have g0 : decide (20 < (n : Int)) = true := decide_eq_true (by omega)
    have g0n : decide (20 < n) = true := decide_eq_true (by omega)
    go_wp2
    go_ret
    exact ⟨rfl, S4.fin⟩
  have g0 : decide (20 < (n : Int)) = false := decide_eq_false (by omega)
  have g0n : decide (20 < n) = false := decide_eq_false (by omega)
  have keep : ∀ {w' : World} {l : List Thing}, St w w' (rstT h q :: soT (.pointer (some ⟨g, 0, none⟩)) (some t) :: cellsT bc 38 c.cs :: cellsT bs 25 s.cs :: l) → ((w'.cell? ⟨bs, 0, none⟩ = some (.slice s.na s.nn s.nc) ∧ w'.cell? ⟨bs, 1, none⟩ = some (.slice s.ja s.jn s.jc) ∧ w'.cell? ⟨bs, 2, none⟩ = some (.int .i64 s.goal) ∧ w'.cell? ⟨bs, 3, none⟩ = some (.int .i64 s.prior) ∧ w'.cell? ⟨bs, 4, none⟩ = some (.int .i64 s.mode) ∧ w'.cell? ⟨bs, 5, none⟩ = some (.int .i64 s.term)) ∧ (w'.cell? ⟨bc, 0, none⟩ = some (.int .i64 c.nodes) ∧ w'.cell? ⟨bc, 1, none⟩ = some (.int .i64 c.queues) ∧ w'.cell? ⟨bc, 2, none⟩ = some (.int .i64 c.quota) ∧ w'.cell? ⟨bc, 3, none⟩ = some (.int .i64 c.wave) ∧ w'.cell? ⟨bc, 4, none⟩ = some (.int .i64 c.lease) ∧ w'.cell? ⟨bc, 5, none⟩ = some (.int .i64 c.retry) ∧ w'.cell? ⟨bc, 6, none⟩ = some (.int .i64 c.deadline) ∧ w'.cell? ⟨bc, 7, none⟩ = some (.int .i64 c.room) ∧ w'.cell? ⟨bc, 8, none⟩ = some (.int .i64 c.disk))) := fun S => ⟨S.sC 3 rfl, S.cfC 2 rfl⟩
  go_wp2_with fail
  refine wp_region_held_drew (S := (fun w' => ((w'.cell? ⟨bs, 0, none⟩ = some (.slice s.na s.nn s.nc) ∧ w'.cell? ⟨bs, 1, none⟩ = some (.slice s.ja s.jn s.jc) ∧ w'.cell? ⟨bs, 2, none⟩ = some (.int .i64 s.goal) ∧ w'.cell? ⟨bs, 3, none⟩ = some (.int .i64 s.prior) ∧ w'.cell? ⟨bs, 4, none⟩ = some (.int .i64 s.mode) ∧ w'.cell? ⟨bs, 5, none⟩ = some (.int .i64 s.term)) ∧ (w'.cell? ⟨bc, 0, none⟩ = some (.int .i64 c.nodes) ∧ w'.cell? ⟨bc, 1, none⟩ = some (.int .i64 c.queues) ∧ w'.cell? ⟨bc, 2, none⟩ = some (.int .i64 c.quota) ∧ w'.cell? ⟨bc, 3, none⟩ = some (.int .i64 c.wave) ∧ w'.cell? ⟨bc, 4, none⟩ = some (.int .i64 c.lease) ∧ w'.cell? ⟨bc, 5, none⟩ = some (.int .i64 c.retry) ∧ w'.cell? ⟨bc, 6, none⟩ = some (.int .i64 c.deadline) ∧ w'.cell? ⟨bc, 7, none⟩ = some (.int .i64 c.room) ∧ w'.cell? ⟨bc, 8, none⟩ = some (.int .i64 c.disk))))) (by kernel_rfl) (by exact keep S4.drew) (fun hHeld => ?_)
  change wpAnyH _ _ _ _ _ 12 (Array.replicate 12 false) _ _
  refine wpAnyH_take (i := 0) (v := ?v1) (ops_at rfl) (by kernel_rfl) (by kernel_rfl) (by kernel_rfl) (fun _ _ _ h => h) (Or.inl ⟨by rfl, ?hy1⟩) (by assumption) ?rest1
  case hy1 => intro w' hSw; (try dsimp only at hSw); go_simp; try with_reducible rfl
  try simp only [Act.put, List.setIfInBounds_toArray, List.set_cons_zero, List.set_cons_succ]
  refine wpAnyH_take (i := 1) (v := ?v2) (ops_at rfl) (by kernel_rfl) (by kernel_rfl) (by kernel_rfl) (fun _ _ _ h => h) (Or.inl ⟨by rfl, ?hy2⟩) (by assumption) ?rest2
  case hy2 => intro w' hSw; (try dsimp only at hSw); go_simp; try with_reducible rfl
  try simp only [Act.put, List.setIfInBounds_toArray, List.set_cons_zero, List.set_cons_succ]
  refine wpAnyH_take (i := 2) (v := ?v3) (ops_at rfl) (by kernel_rfl) (by kernel_rfl) (by kernel_rfl) (fun _ _ _ h => h) (Or.inl ⟨by rfl, ?hy3⟩) (by assumption) ?rest3
  case hy3 => intro w' hSw; (try dsimp only at hSw); go_simp; try with_reducible rfl
  try simp only [Act.put, List.setIfInBounds_toArray, List.set_cons_zero, List.set_cons_succ]
  refine wpAnyH_take (i := 3) (v := ?v4) (ops_at rfl) (by kernel_rfl) (by kernel_rfl) (by kernel_rfl) (fun _ _ _ h => h) (Or.inl ⟨by rfl, ?hy4⟩) (by assumption) ?rest4
  case hy4 => intro w' hSw; (try dsimp only at hSw); go_simp; try with_reducible rfl
  try simp only [Act.put, List.setIfInBounds_toArray, List.set_cons_zero, List.set_cons_succ]
  refine wpAnyH_take (i := 5) (v := ?v5) (ops_at rfl) (by kernel_rfl) (by kernel_rfl) (by kernel_rfl) (fun _ _ _ h => h) (Or.inl ⟨by rfl, ?hy5⟩) (by assumption) ?rest5
  case hy5 => intro w' hSw; (try dsimp only at hSw); go_simp; try with_reducible rfl
  try simp only [Act.put, List.setIfInBounds_toArray, List.set_cons_zero, List.set_cons_succ]
  refine wpAnyH_take (i := 6) (v := ?v6) (ops_at rfl) (by kernel_rfl) (by kernel_rfl) (by kernel_rfl) (fun _ _ _ h => h) (Or.inl ⟨by rfl, ?hy6⟩) (by assumption) ?rest6
  case hy6 => intro w' hSw; (try dsimp only at hSw); go_simp; try with_reducible rfl
  try simp only [Act.put, List.setIfInBounds_toArray, List.set_cons_zero, List.set_cons_succ]
  refine wpAnyH_take (i := 7) (v := ?v7) (ops_at rfl) (by kernel_rfl) (by kernel_rfl) (by kernel_rfl) (fun _ _ _ h => h) (Or.inl ⟨by rfl, ?hy7⟩) (by assumption) ?rest7
  case hy7 => intro w' hSw; (try dsimp only at hSw); go_simp; try with_reducible rfl
  try simp only [Act.put, List.setIfInBounds_toArray, List.set_cons_zero, List.set_cons_succ]
  refine wpAnyH_take (i := 8) (v := ?v8) (ops_at rfl) (by kernel_rfl) (by kernel_rfl) (by kernel_rfl) (fun _ _ _ h => h) (Or.inl ⟨by rfl, ?hy8⟩) (by assumption) ?rest8
  case hy8 => intro w' hSw; (try dsimp only at hSw); go_simp; try with_reducible rfl
  try simp only [Act.put, List.setIfInBounds_toArray, List.set_cons_zero, List.set_cons_succ]
  refine wpAnyH_ready (rs := [4]) (by kernel_rfl) (by simp) ?_
  refine AllReadyH.cons (ops_at rfl) (fun K hK => ?_) AllReadyH.nil
  go_simp
  refine (wtWhy S4.drew (k := 1) rfl c s a n cap L true (HS.out.all S4.drew.fin) HN.out (by omega) (HA.out.all eAGok S4.drew.fin) (fun w' hb => by have H := bxRight w' c s (HS.out.all (S4.drew.grow hb).fin); rw [HRB.out] at H; exact H)).mono ?_
  rintro e wa ⟨rfl, hba⟩
  have Sa := S4.drew.grow hba
  refine hK.out _ _ (by exact keep Sa) (fun hHeld => ?_)
  clear hK K
  try simp only [Act.put, List.setIfInBounds_toArray, List.set_cons_zero, List.set_cons_succ]
  refine wpAnyH_ready (rs := [9]) (by kernel_rfl) (by simp) ?_
  refine AllReadyH.cons (ops_at rfl) (fun K hK => ?_) AllReadyH.nil
  go_simp
  refine (rtWhy Sa t HR.out (by omega) c s a n cap L (HS.out.all Sa.fin) HRF.out HN.out (by omega) (HA.out.all eAGok Sa.fin)).mono ?_
  rintro e wb ⟨rfl, hbb⟩
  have Sb := Sa.grow hbb
  have q1 : (whyN s L (some t) true == whyN s L (some t) true) = true := by simp
  refine hK.out _ _ (by exact keep Sb) (fun hHeld => ?_)
  clear hK K
  try simp only [Act.put, List.setIfInBounds_toArray, List.set_cons_zero, List.set_cons_succ]
  refine wpAnyH_take (i := 10) (v := ?v11) (ops_at rfl) (by kernel_rfl) (by kernel_rfl) (by kernel_rfl) (fun _ _ _ h => h) (Or.inl ⟨by rfl, ?hy11⟩) (by assumption) ?rest11
  case hy11 => intro w' hSw; (try dsimp only at hSw); go_simp; try with_reducible rfl
  try simp only [Act.put, List.setIfInBounds_toArray, List.set_cons_zero, List.set_cons_succ]
  refine wpAnyH_take (i := 11) (v := ?v12) (ops_at rfl) (by kernel_rfl) (by kernel_rfl) (by kernel_rfl) (fun _ _ _ h => h) (Or.inl ⟨by rfl, ?hy12⟩) (by assumption) ?rest12
  case hy12 => intro w' hSw; (try dsimp only at hSw); go_simp; try with_reducible rfl
  try simp only [Act.put, List.setIfInBounds_toArray, List.set_cons_zero, List.set_cons_succ]
  refine wpAnyH_done (by kernel_rfl) ?_ _
  go_wp2
  go_ret
  exact ⟨rfl, Sb.fin⟩
end Go.Proofs.Ytilobmefomoemaa
