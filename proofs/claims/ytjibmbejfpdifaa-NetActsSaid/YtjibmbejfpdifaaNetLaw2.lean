/- NetBytes, NetTurned. -/
import Derived.Test.YtjibmbejfpdifaaNetLaw
namespace Go.Proofs.Ytjibmbejfpdifaa
set_option linter.unusedVariables false
set_option linter.unusedSimpArgs false
open Go.RowKit
theorem GetMPost.val {o : Option Msg} {e : Ending} (h : GetMPost o e) : ∃ x t, (t = true → o = some x) ∧ (t = false → o = none ∧ x = Msg.zero) ∧ e = .returned (.tuple #[.agg #[.int .i64 x.node, .int .i64 x.kind, .int .i64 x.term, .int .i64 x.gen, .int .i64 x.job, .int .i64 x.inc, .int .i64 x.version, .int .i64 x.epoch, .int .i64 x.until_, .int .i64 x.mode, .int .i64 x.work], .bool t]) := by
  cases o with
  | none => exact ⟨Msg.zero, false, fun h => (by cases h), fun _ => ⟨rfl, rfl⟩, h⟩
  | some x => exact ⟨x, true, fun _ => rfl, fun h => (by cases h), h⟩
theorem GetMPost.same {o : Option Msg} {x y : Msg} {t s : Bool} (h1 : t = true → o = some x) (h2 : t = false → o = none ∧ x = Msg.zero) (k1 : s = true → o = some y) (k2 : s = false → o = none ∧ y = Msg.zero) : x = y ∧ t = s := by
  cases t <;> cases s
  · exact ⟨(h2 rfl).2.trans (k2 rfl).2.symm, rfl⟩
  · rw [(h2 rfl).1] at k1; cases k1 rfl
  · rw [(k2 rfl).1] at h1; cases h1 rfl
  · have := (h1 rfl).symm.trans (k1 rfl)
    exact ⟨Option.some.inj this, rfl⟩
theorem Msg.conv {H : Type} {enc : TypeId × Value → H} {w : World} {base : Nat} {spare : Nat → Bool} {held : Bool} (fuel : Nat) (cs : List Value) (x : DataW H × List MemPlace) (hl : cs.length = 11)
    (h : DataW.trod enc Try.prog w base spare held fuel 23 cs = some x) : ∃ m : Msg, cs = m.cs := by
  have hC : Try.prog.cellsOf 23 = 11 := by kernel_rfl
  obtain ⟨vs, rfl, hr⟩ := open_leaves 2 (ks := [.int, .int, .int, .int, .int, .int, .int, .int, .int, .int, .int]) (by kernel_rfl) (hl.trans hC.symm) hC h
  obtain ⟨a1, _, rfl, _, hr⟩ := hr.int
  obtain ⟨a2, _, rfl, _, hr⟩ := hr.int
  obtain ⟨a3, _, rfl, _, hr⟩ := hr.int
  obtain ⟨a4, _, rfl, _, hr⟩ := hr.int
  obtain ⟨a5, _, rfl, _, hr⟩ := hr.int
  obtain ⟨a6, _, rfl, _, hr⟩ := hr.int
  obtain ⟨a7, _, rfl, _, hr⟩ := hr.int
  obtain ⟨a8, _, rfl, _, hr⟩ := hr.int
  obtain ⟨a9, _, rfl, _, hr⟩ := hr.int
  obtain ⟨a10, _, rfl, _, hr⟩ := hr.int
  obtain ⟨a11, _, rfl, _, hr⟩ := hr.int
  obtain rfl := hr.nil
  exact ⟨⟨a1, a2, a3, a4, a5, a6, a7, a8, a9, a10, a11⟩, rfl⟩
set_option maxRecDepth 10000 in
set_option maxHeartbeats 3200000 in
theorem netBytes_law (m : Msg) (a : Option Addr) (b : List UInt8) (n cap : Nat) (w : World) (hn : b.length = n) (hcap : n ≤ cap) (hm : n ≤ maxLen) (hnil : a = none → cap = 0) (hA : At w a b) :
    Calls Try.prog 3 #[.agg #[.int .i64 m.node, .int .i64 m.kind, .int .i64 m.term, .int .i64 m.gen, .int .i64 m.job, .int .i64 m.inc, .int .i64 m.version, .int .i64 m.epoch, .int .i64 m.until_, .int .i64 m.mode, .int .i64 m.work], .slice a n cap] w fun e w' => e = .returned (.bool true) ∧ Below w.heap.size w w' := by
  have HN := hid hn
  unfold maxLen at hm
  have S0 : St w (w.alloc (.cells #[.int .i64 m.node, .int .i64 m.kind, .int .i64 m.term, .int .i64 m.gen, .int .i64 m.job, .int .i64 m.inc, .int .i64 m.version, .int .i64 m.epoch, .int .i64 m.until_, .int .i64 m.mode, .int .i64 m.work] 23)) [cellsT w.heap.size 23 m.cs] := (St.start w).newCells 23 #[.int .i64 m.node, .int .i64 m.kind, .int .i64 m.term, .int .i64 m.gen, .int .i64 m.job, .int .i64 m.inc, .int .i64 m.version, .int .i64 m.epoch, .int .i64 m.until_, .int .i64 m.mode, .int .i64 m.work]
  clear hn hnil
  go_enter Try.func3, Try.ntmps3
  go_wp2_with fail
  refine (alive12_any _).mono ?_
  rintro e w1 ⟨rfl, hb1⟩
  have S1 := S0.grow hb1
  clear hb1 S0
  go_wp2_with fail
  all_goals (try (go_ret; exact ⟨rfl, S1.fin⟩))
  refine (netGet_any a b n cap _ HN.out (by omega) hcap (by exact S1.old hA)).mono ?_
  rintro e w2 ⟨hp2, hb2⟩
  obtain ⟨x, t, hx1, hx2, rfl⟩ := hp2.val
  have S2 : St w (w2.alloc (.cells #[.int .i64 x.node, .int .i64 x.kind, .int .i64 x.term, .int .i64 x.gen, .int .i64 x.job, .int .i64 x.inc, .int .i64 x.version, .int .i64 x.epoch, .int .i64 x.until_, .int .i64 x.mode, .int .i64 x.work] 23)) [cellsT w.heap.size 23 m.cs, cellsT w2.heap.size 23 x.cs] := (S1.grow hb2).newAt _ _ _ rfl
  clear hb2 S1 hp2
  go_wp2_with fail
  refine (rnetGet_any a b n cap _ HN.out (by omega) hcap (by exact S2.old hA)).mono ?_
  rintro e w3 ⟨hp3, hb3⟩
  rw [rgetM_is] at hp3
  obtain ⟨y, s, hy1, hy2, rfl⟩ := hp3.val
  obtain ⟨rfl, rfl⟩ := GetMPost.same hx1 hx2 hy1 hy2
  have S3 : St w (w3.alloc (.cells #[.int .i64 x.node, .int .i64 x.kind, .int .i64 x.term, .int .i64 x.gen, .int .i64 x.job, .int .i64 x.inc, .int .i64 x.version, .int .i64 x.epoch, .int .i64 x.until_, .int .i64 x.mode, .int .i64 x.work] 23)) [cellsT w.heap.size 23 m.cs, cellsT w2.heap.size 23 x.cs, cellsT w3.heap.size 23 x.cs] := (S2.grow hb3).newAt _ _ _ rfl
  clear hb3 S2 hp3 hx1 hx2 hy1 hy2
  have q1 := fun wx => eqM x x wx
  rw [Msg.eq_self] at q1
  go_wp2_with fail
  have HP : Hid ((putM m).length ≤ 47) := by
    rw [Hid]
    by_cases h : m.right = true
    · exact (putM_len h).2.1
    · unfold putM; rw [if_neg h]; simp
  refine wp_region_held_drew (S := (fun w' => (w'.cell? ⟨w.heap.size, 0, none⟩ = some (.int .i64 m.node) ∧ w'.cell? ⟨w.heap.size, 1, none⟩ = some (.int .i64 m.kind) ∧ w'.cell? ⟨w.heap.size, 2, none⟩ = some (.int .i64 m.term) ∧ w'.cell? ⟨w.heap.size, 3, none⟩ = some (.int .i64 m.gen) ∧ w'.cell? ⟨w.heap.size, 4, none⟩ = some (.int .i64 m.job) ∧ w'.cell? ⟨w.heap.size, 5, none⟩ = some (.int .i64 m.inc) ∧ w'.cell? ⟨w.heap.size, 6, none⟩ = some (.int .i64 m.version) ∧ w'.cell? ⟨w.heap.size, 7, none⟩ = some (.int .i64 m.epoch) ∧ w'.cell? ⟨w.heap.size, 8, none⟩ = some (.int .i64 m.until_) ∧ w'.cell? ⟨w.heap.size, 9, none⟩ = some (.int .i64 m.mode) ∧ w'.cell? ⟨w.heap.size, 10, none⟩ = some (.int .i64 m.work)) ∧ (w'.cell? ⟨w2.heap.size, 0, none⟩ = some (.int .i64 x.node) ∧ w'.cell? ⟨w2.heap.size, 1, none⟩ = some (.int .i64 x.kind) ∧ w'.cell? ⟨w2.heap.size, 2, none⟩ = some (.int .i64 x.term) ∧ w'.cell? ⟨w2.heap.size, 3, none⟩ = some (.int .i64 x.gen) ∧ w'.cell? ⟨w2.heap.size, 4, none⟩ = some (.int .i64 x.job) ∧ w'.cell? ⟨w2.heap.size, 5, none⟩ = some (.int .i64 x.inc) ∧ w'.cell? ⟨w2.heap.size, 6, none⟩ = some (.int .i64 x.version) ∧ w'.cell? ⟨w2.heap.size, 7, none⟩ = some (.int .i64 x.epoch) ∧ w'.cell? ⟨w2.heap.size, 8, none⟩ = some (.int .i64 x.until_) ∧ w'.cell? ⟨w2.heap.size, 9, none⟩ = some (.int .i64 x.mode) ∧ w'.cell? ⟨w2.heap.size, 10, none⟩ = some (.int .i64 x.work)) ∧ (w'.cell? ⟨w3.heap.size, 0, none⟩ = some (.int .i64 x.node) ∧ w'.cell? ⟨w3.heap.size, 1, none⟩ = some (.int .i64 x.kind) ∧ w'.cell? ⟨w3.heap.size, 2, none⟩ = some (.int .i64 x.term) ∧ w'.cell? ⟨w3.heap.size, 3, none⟩ = some (.int .i64 x.gen) ∧ w'.cell? ⟨w3.heap.size, 4, none⟩ = some (.int .i64 x.job) ∧ w'.cell? ⟨w3.heap.size, 5, none⟩ = some (.int .i64 x.inc) ∧ w'.cell? ⟨w3.heap.size, 6, none⟩ = some (.int .i64 x.version) ∧ w'.cell? ⟨w3.heap.size, 7, none⟩ = some (.int .i64 x.epoch) ∧ w'.cell? ⟨w3.heap.size, 8, none⟩ = some (.int .i64 x.until_) ∧ w'.cell? ⟨w3.heap.size, 9, none⟩ = some (.int .i64 x.mode) ∧ w'.cell? ⟨w3.heap.size, 10, none⟩ = some (.int .i64 x.work)))) (by kernel_rfl) (by exact ⟨S3.drew.msg 0 rfl, S3.drew.msg 1 rfl, S3.drew.msg 2 rfl⟩) (fun hHeld => ?_)
  change wpAnyH _ _ _ _ _ 23 (Array.replicate 23 false) _ _
  refine wpAnyH_take (i := 0) (v := ?v1) (ops_at rfl) (by kernel_rfl) (by kernel_rfl) (by kernel_rfl) (fun _ _ _ h => h) (Or.inl ⟨by rfl, ?hy1⟩) (by assumption) ?rest1
  case hy1 => intro w' hSw; (try dsimp only at hSw); go_simp; try with_reducible rfl
  try simp only [Act.put, List.setIfInBounds_toArray, List.set_cons_zero, List.set_cons_succ]
  refine wpAnyH_take (i := 2) (v := ?v2) (ops_at rfl) (by kernel_rfl) (by kernel_rfl) (by kernel_rfl) (fun _ _ _ h => h) (Or.inl ⟨by rfl, ?hy2⟩) (by assumption) ?rest2
  case hy2 => intro w' hSw; (try dsimp only at hSw); go_simp; try with_reducible rfl
  try simp only [Act.put, List.setIfInBounds_toArray, List.set_cons_zero, List.set_cons_succ]
  refine wpAnyH_ready (rs := [1]) (by kernel_rfl) (by simp) ?_
  refine AllReadyH.cons (ops_at rfl) (fun K hK => ?_) AllReadyH.nil
  go_simp
  refine (right_any m _).mono ?_
  rintro e w4 ⟨rfl, hb4⟩
  have S4 := S3.drew.grow hb4
  clear hb4
  refine hK.out _ _ (by exact ⟨S4.msg 0 rfl, S4.msg 1 rfl, S4.msg 2 rfl⟩) (fun hHeld => ?_)
  clear hK K
  try simp only [Act.put, List.setIfInBounds_toArray, List.set_cons_zero, List.set_cons_succ]
  refine wpAnyH_ready (rs := [3]) (by kernel_rfl) (by simp) ?_
  refine AllReadyH.cons (ops_at rfl) (fun K hK => ?_) AllReadyH.nil
  go_simp
  refine (rright_any m _).mono ?_
  rintro e w5 ⟨rfl, hb5⟩
  have S5 := S4.grow hb5
  clear hb5
  refine hK.out _ _ (by exact ⟨S5.msg 0 rfl, S5.msg 1 rfl, S5.msg 2 rfl⟩) (fun hHeld => ?_)
  clear hK K
  try simp only [Act.put, List.setIfInBounds_toArray, List.set_cons_zero, List.set_cons_succ]
  refine wpAnyH_take (i := 4) (v := ?v5) (ops_at rfl) (by kernel_rfl) (by kernel_rfl) (by kernel_rfl) (fun _ _ _ h => h) (Or.inl ⟨by rfl, ?hy5⟩) (by assumption) ?rest5
  case hy5 => intro w' hSw; (try dsimp only at hSw); go_simp; try with_reducible rfl
  try simp only [Act.put, List.setIfInBounds_toArray, List.set_cons_zero, List.set_cons_succ]
  refine wpAnyH_take (i := 5) (v := ?v6) (ops_at rfl) (by kernel_rfl) (by kernel_rfl) (by kernel_rfl) (fun _ _ _ h => h) (Or.inl ⟨by rfl, ?hy6⟩) (by assumption) ?rest6
  case hy6 => intro w' hSw; (try dsimp only at hSw); go_simp; try with_reducible rfl
  try simp only [Act.put, List.setIfInBounds_toArray, List.set_cons_zero, List.set_cons_succ]
  refine wpAnyH_take (i := 6) (v := ?v7) (ops_at rfl) (by kernel_rfl) (by kernel_rfl) (by kernel_rfl) (fun _ _ _ h => h) (Or.inl ⟨by rfl, ?hy7⟩) (by assumption) ?rest7
  case hy7 => intro w' hSw; (try dsimp only at hSw); go_simp; try with_reducible rfl
  try simp only [Act.put, List.setIfInBounds_toArray, List.set_cons_zero, List.set_cons_succ]
  refine wpAnyH_take (i := 8) (v := ?v8) (ops_at rfl) (by kernel_rfl) (by kernel_rfl) (by kernel_rfl) (fun _ _ _ h => h) (Or.inl ⟨by rfl, ?hy8⟩) (by assumption) ?rest8
  case hy8 => intro w' hSw; (try dsimp only at hSw); go_simp; try with_reducible rfl
  try simp only [Act.put, List.setIfInBounds_toArray, List.set_cons_zero, List.set_cons_succ]
  refine wpAnyH_ready (rs := [7]) (by kernel_rfl) (by simp) ?_
  refine AllReadyH.cons (ops_at rfl) (fun K hK => ?_) AllReadyH.nil
  go_simp
  refine (netPut_any m _).mono ?_
  rintro e w6 ⟨a6, c6, rfl, ho6, hb6⟩
  have S6 := S5.bytes ho6 hb6
  clear ho6 hb6
  refine hK.out _ _ (by exact ⟨S6.msg 0 rfl, S6.msg 1 rfl, S6.msg 2 rfl⟩) (fun hHeld => ?_)
  clear hK K
  try simp only [Act.put, List.setIfInBounds_toArray, List.set_cons_zero, List.set_cons_succ]
  refine wpAnyH_ready (rs := [9]) (by kernel_rfl) (by simp) ?_
  refine AllReadyH.cons (ops_at rfl) (fun K hK => ?_) AllReadyH.nil
  go_simp
  refine (rnetPut_any m _).mono ?_
  rintro e w7 ⟨a7, c7, rfl, ho7, hb7⟩
  have S7 := S6.bytes ho7 hb7
  clear ho7 hb7
  refine hK.out _ _ (by exact ⟨S7.msg 0 rfl, S7.msg 1 rfl, S7.msg 2 rfl⟩) (fun hHeld => ?_)
  clear hK K
  try simp only [Act.put, List.setIfInBounds_toArray, List.set_cons_zero, List.set_cons_succ]
  refine wpAnyH_ready (rs := [10]) (by kernel_rfl) (by simp) ?_
  refine AllReadyH.cons (ops_at rfl) (fun K hK => ?_) AllReadyH.nil
  go_simp
  refine (hcmp S7 true _ _ (putM m) (putM m) _ _ _ _ (by simp) rfl rfl (by have := HP.out; unfold maxLen; omega) (by have := HP.out; unfold maxLen; omega) (by exact S7.at 3 rfl) (by exact S7.at 4 rfl)).mono ?_
  rintro e w8 ⟨rfl, S8, -⟩
  refine hK.out _ _ (by exact ⟨S8.msg 0 rfl, S8.msg 1 rfl, S8.msg 2 rfl⟩) (fun hHeld => ?_)
  clear hK K
  try simp only [Act.put, List.setIfInBounds_toArray, List.set_cons_zero, List.set_cons_succ]
  refine wpAnyH_take (i := 11) (v := ?v12) (ops_at rfl) (by kernel_rfl) (by kernel_rfl) (by kernel_rfl) (fun _ _ _ h => h) (Or.inl ⟨by rfl, ?hy12⟩) (by assumption) ?rest12
  case hy12 => intro w' hSw; (try dsimp only at hSw); go_simp; try with_reducible rfl
  try simp only [Act.put, List.setIfInBounds_toArray, List.set_cons_zero, List.set_cons_succ]
  refine wpAnyH_take (i := 12) (v := ?v13) (ops_at rfl) (by kernel_rfl) (by kernel_rfl) (by kernel_rfl) (fun _ _ _ h => h) (Or.inl ⟨by rfl, ?hy13⟩) (by assumption) ?rest13
  case hy13 => intro w' hSw; (try dsimp only at hSw); go_simp; try with_reducible rfl
  try simp only [Act.put, List.setIfInBounds_toArray, List.set_cons_zero, List.set_cons_succ]
  refine wpAnyH_take (i := 13) (v := ?v14) (ops_at rfl) (by kernel_rfl) (by kernel_rfl) (by kernel_rfl) (fun _ _ _ h => h) (Or.inl ⟨by rfl, ?hy14⟩) (by assumption) ?rest14
  case hy14 => intro w' hSw; (try dsimp only at hSw); go_simp; try with_reducible rfl
  try simp only [Act.put, List.setIfInBounds_toArray, List.set_cons_zero, List.set_cons_succ]
  refine wpAnyH_take (i := 14) (v := ?v15) (ops_at rfl) (by kernel_rfl) (by kernel_rfl) (by kernel_rfl) (fun _ _ _ h => h) (Or.inl ⟨by rfl, ?hy15⟩) (by assumption) ?rest15
  case hy15 => intro w' hSw; (try dsimp only at hSw); go_simp; try with_reducible rfl
  try simp only [Act.put, List.setIfInBounds_toArray, List.set_cons_zero, List.set_cons_succ]
  refine wpAnyH_take (i := 15) (v := ?v16) (ops_at rfl) (by kernel_rfl) (by kernel_rfl) (by kernel_rfl) (fun _ _ _ h => h) (Or.inl ⟨by rfl, ?hy16⟩) (by assumption) ?rest16
  case hy16 => intro w' hSw; (try dsimp only at hSw); go_simp; try with_reducible rfl
  try simp only [Act.put, List.setIfInBounds_toArray, List.set_cons_zero, List.set_cons_succ]
  refine wpAnyH_take (i := 16) (v := ?v17) (ops_at rfl) (by kernel_rfl) (by kernel_rfl) (by kernel_rfl) (fun _ _ _ h => h) (Or.inl ⟨by rfl, ?hy17⟩) (by assumption) ?rest17
  case hy17 => intro w' hSw; (try dsimp only at hSw); go_simp; try with_reducible rfl
  try simp only [Act.put, List.setIfInBounds_toArray, List.set_cons_zero, List.set_cons_succ]
  refine wpAnyH_take (i := 17) (v := ?v18) (ops_at rfl) (by kernel_rfl) (by kernel_rfl) (by kernel_rfl) (fun _ _ _ h => h) (Or.inl ⟨by rfl, ?hy18⟩) (by assumption) ?rest18
  case hy18 => intro w' hSw; (try dsimp only at hSw); go_simp; try with_reducible rfl
  try simp only [Act.put, List.setIfInBounds_toArray, List.set_cons_zero, List.set_cons_succ]
  refine wpAnyH_take (i := 18) (v := ?v19) (ops_at rfl) (by kernel_rfl) (by kernel_rfl) (by kernel_rfl) (fun _ _ _ h => h) (Or.inl ⟨by rfl, ?hy19⟩) (by assumption) ?rest19
  case hy19 => intro w' hSw; (try dsimp only at hSw); go_simp; try with_reducible rfl
  try simp only [Act.put, List.setIfInBounds_toArray, List.set_cons_zero, List.set_cons_succ]
  refine wpAnyH_take (i := 19) (v := ?v20) (ops_at rfl) (by kernel_rfl) (by kernel_rfl) (by kernel_rfl) (fun _ _ _ h => h) (Or.inl ⟨by rfl, ?hy20⟩) (by assumption) ?rest20
  case hy20 => intro w' hSw; (try dsimp only at hSw); go_simp; try with_reducible rfl
  try simp only [Act.put, List.setIfInBounds_toArray, List.set_cons_zero, List.set_cons_succ]
  refine wpAnyH_take (i := 20) (v := ?v21) (ops_at rfl) (by kernel_rfl) (by kernel_rfl) (by kernel_rfl) (fun _ _ _ h => h) (Or.inl ⟨by rfl, ?hy21⟩) (by assumption) ?rest21
  case hy21 => intro w' hSw; (try dsimp only at hSw); go_simp; try with_reducible rfl
  try simp only [Act.put, List.setIfInBounds_toArray, List.set_cons_zero, List.set_cons_succ]
  refine wpAnyH_take (i := 21) (v := ?v22) (ops_at rfl) (by kernel_rfl) (by kernel_rfl) (by kernel_rfl) (fun _ _ _ h => h) (Or.inl ⟨by rfl, ?hy22⟩) (by assumption) ?rest22
  case hy22 => intro w' hSw; (try dsimp only at hSw); go_simp; try with_reducible rfl
  try simp only [Act.put, List.setIfInBounds_toArray, List.set_cons_zero, List.set_cons_succ]
  refine wpAnyH_take (i := 22) (v := ?v23) (ops_at rfl) (by kernel_rfl) (by kernel_rfl) (by kernel_rfl) (fun _ _ _ h => h) (Or.inl ⟨by rfl, ?hy23⟩) (by assumption) ?rest23
  case hy23 => intro w' hSw; (try dsimp only at hSw); go_simp; try with_reducible rfl
  try simp only [Act.put, List.setIfInBounds_toArray, List.set_cons_zero, List.set_cons_succ]
  refine wpAnyH_done (by kernel_rfl) ?_ _
  go_wp2
  go_ret
  exact ⟨rfl, S8.fin⟩

theorem nSend_new {m : Msg} (h : m.right = true) : nSend ⟨[], 0⟩ m = (true, ⟨[⟨m, none⟩], 1⟩) := by unfold nSend; rw [if_pos ⟨by decide, h⟩]; rfl
theorem nSend_not {s : NS} {m : Msg} (h : m.right = false) : nSend s m = (false, s) := by unfold nSend; rw [if_neg (by rw [h]; simp)]
set_option maxRecDepth 10000 in
set_option maxHeartbeats 3200000 in
theorem netTurned_law (m : Msg) (bit : Int) (hbit : bit ≤ 9223372036854775807) (w : World) :
    Calls Try.prog 7 #[.agg #[.int .i64 m.node, .int .i64 m.kind, .int .i64 m.term, .int .i64 m.gen, .int .i64 m.job, .int .i64 m.inc, .int .i64 m.version, .int .i64 m.epoch, .int .i64 m.until_, .int .i64 m.mode, .int .i64 m.work], .int .i64 bit] w fun e w' => e = .returned (.bool true) ∧ Below w.heap.size w w' := by
  have S0 : St w (w.alloc (.cells #[.int .i64 m.node, .int .i64 m.kind, .int .i64 m.term, .int .i64 m.gen, .int .i64 m.job, .int .i64 m.inc, .int .i64 m.version, .int .i64 m.epoch, .int .i64 m.until_, .int .i64 m.mode, .int .i64 m.work] 23)) [cellsT w.heap.size 23 m.cs] := (St.start w).newCells 23 #[.int .i64 m.node, .int .i64 m.kind, .int .i64 m.term, .int .i64 m.gen, .int .i64 m.job, .int .i64 m.inc, .int .i64 m.version, .int .i64 m.epoch, .int .i64 m.until_, .int .i64 m.mode, .int .i64 m.work]
  go_enter Try.func7, Try.ntmps7
  go_wp2_with fail
  refine (alive12_any _).mono ?_
  rintro e w1 ⟨rfl, hb1⟩
  have S1 : St w (w1.alloc (.cells #[.slice none 0 0, .int .i64 0] 47)) [cellsT w.heap.size 23 m.cs, netT w1.heap.size ⟨[], 0⟩] := (S0.grow hb1).netNew
  obtain ⟨z0, z1, z2, z3, z4, z5, z6, z7, z8, z9, z10⟩ := S1.msg 0 rfl
  clear hb1 S0
  go_wp2_with fail
  refine (hnSend S1 1 rfl (by decide) m).mono ?_
  rintro e w2 ⟨rfl, S2⟩
  clear z0 z1 z2 z3 z4 z5 z6 z7 z8 z9 z10 S1
  by_cases hr : m.right = true
  case neg =>
    have HR : Hid (m.right = false) := by rw [Hid]; simpa using hr
    rw [nSend_not HR.out] at S2 ⊢
    have S2' : St w w2 [cellsT w.heap.size 23 m.cs, netT w1.heap.size ⟨[], 0⟩] := S2
    clear S2 hr
    obtain ⟨z0, z1, z2, z3, z4, z5, z6, z7, z8, z9, z10⟩ := S2'.msg 0 rfl
    go_wp2_with fail
    refine (hnLen S2' 1 rfl).mono ?_
    rintro e w3 ⟨rfl, rfl⟩
    go_wp2_with fail
    refine (right_any m _).mono ?_
    rintro e w3 ⟨rfl, hb3⟩
    rw [HR.out]
    have S3 := S2'.grow hb3
    clear hb3
    go_wp2
    go_ret
    exact ⟨rfl, S3.fin⟩
  have HR := hid hr
  have HL := hid (putM_len hr).1
  rw [nSend_new hr] at S2 ⊢
  have S2' : St w w2 [cellsT w.heap.size 23 m.cs, netT w1.heap.size ⟨[⟨m, none⟩], 1⟩] := S2
  clear S2 hr
  go_wp2_with fail
  refine (hnFlip S2' 1 rfl 0 bit hbit).mono ?_
  rintro e w3 ⟨rfl, S3⟩
  by_cases hc : 0 ≤ bit ∧ bit / 8 < ((putM m).length : Int)
  case neg =>
    have e1 : nFlip ⟨[⟨m, none⟩], 1⟩ 0 bit = (false, ⟨[⟨m, none⟩], 1⟩) := by unfold nFlip; rw [if_neg (fun h => hc h.2.1)]
    rw [e1] at S3 ⊢
    have S3' : St w w3 [cellsT w.heap.size 23 m.cs, netT w1.heap.size ⟨[⟨m, none⟩], 1⟩] := S3
    clear S3 S2' e1 hc
    go_wp2_with fail
    refine (hnDeliver S3' 1 rfl 0).mono ?_
    rintro e w4 ⟨hp, S4⟩
    have hp2 : e = .returned (.tuple #[.agg #[.int .i64 m.node, .int .i64 m.kind, .int .i64 m.term, .int .i64 m.gen, .int .i64 m.job, .int .i64 m.inc, .int .i64 m.version, .int .i64 m.epoch, .int .i64 m.until_, .int .i64 m.mode, .int .i64 m.work], .bool true]) := hp
    subst hp2
    have S4' : St w (w4.alloc (.cells #[.int .i64 m.node, .int .i64 m.kind, .int .i64 m.term, .int .i64 m.gen, .int .i64 m.job, .int .i64 m.inc, .int .i64 m.version, .int .i64 m.epoch, .int .i64 m.until_, .int .i64 m.mode, .int .i64 m.work] 23)) [cellsT w.heap.size 23 m.cs, netT w1.heap.size ⟨[], 1⟩, cellsT w4.heap.size 23 m.cs] := St.newAt S4 _ _ _ rfl
    clear S4 hp S3'
    obtain ⟨z0, z1, z2, z3, z4, z5, z6, z7, z8, z9, z10⟩ := S4'.msg 0 rfl
    obtain ⟨y0, y1, y2, y3, y4, y5, y6, y7, y8, y9, y10⟩ := S4'.msg 2 rfl
    have q1 := fun wx => eqM m m wx
    rw [Msg.eq_self] at q1
    go_wp2
    go_ret
    exact ⟨rfl, S4'.fin⟩
  have e1 : nFlip ⟨[⟨m, none⟩], 1⟩ 0 bit = (true, ⟨[⟨m, some bit.toNat⟩], 1⟩) := by unfold nFlip; rw [if_pos ⟨⟨Int.le_refl _, by show (0 : Int) < 1; omega⟩, hc, rfl⟩]; rfl
  rw [e1] at S3 ⊢
  have S3' : St w w3 [cellsT w.heap.size 23 m.cs, netT w1.heap.size ⟨[⟨m, some bit.toNat⟩], 1⟩] := S3
  have e2 : Hid (nFlip ⟨[⟨m, some bit.toNat⟩], 1⟩ 0 bit = (false, ⟨[⟨m, some bit.toNat⟩], 1⟩)) := by rw [Hid]; unfold nFlip; rw [if_neg (fun h => by cases h.2.2)]
  have e3 : Hid (nFlip ⟨[⟨m, some bit.toNat⟩, ⟨m, some bit.toNat⟩], 1⟩ 1 bit = (false, ⟨[⟨m, some bit.toNat⟩, ⟨m, some bit.toNat⟩], 1⟩)) := by rw [Hid]; unfold nFlip; rw [if_neg (fun h => by cases h.2.2)]
  clear S3 S2' e1 hc
  go_wp2_with fail
  refine (hnFlip S3' 1 rfl 0 bit hbit).mono ?_
  rintro e w4 ⟨rfl, S4⟩
  rw [e2.out] at S4 ⊢
  go_wp2_with fail
  refine (hnTwice (S4) 1 rfl 0).mono ?_
  rintro e w5 ⟨rfl, S5⟩
  have S5' : St w w5 [cellsT w.heap.size 23 m.cs, netT w1.heap.size ⟨[⟨m, some bit.toNat⟩, ⟨m, some bit.toNat⟩], 1⟩] := S5
  rw [show (nTwice ((false, (⟨[⟨m, some bit.toNat⟩], 1⟩ : NS)).2) 0).1 = true from rfl]
  clear S4 S5
  go_wp2_with fail
  refine (hnFlip S5' 1 rfl 1 bit hbit).mono ?_
  rintro e w6 ⟨rfl, S6⟩
  rw [e3.out] at S6 ⊢
  have S6' : St w w6 [cellsT w.heap.size 23 m.cs, netT w1.heap.size ⟨[⟨m, some bit.toNat⟩, ⟨m, some bit.toNat⟩], 1⟩] := S6
  clear S6 S5'
  go_wp2_with fail
  refine (hnList S6' 1 rfl 0 rfl).mono ?_
  rintro e w7 ⟨a7, c7, rfl, S7⟩
  have S7' : St w w7 [cellsT w.heap.size 23 m.cs, netT w1.heap.size ⟨[⟨m, some bit.toNat⟩, ⟨m, some bit.toNat⟩], 1⟩] := S7.take 2
  clear S7 S6'
  go_wp2_with fail
  refine (hnDeliver S7' 1 rfl 1).mono ?_
  rintro e w8 ⟨hp, S8⟩
  have S8' : St w w8 [cellsT w.heap.size 23 m.cs, netT w1.heap.size ⟨[⟨m, some bit.toNat⟩], 1⟩] := S8
  have hp2 : GetMPost none e := hp
  simp only [GetMPost] at hp2
  subst hp2
  clear S8 S7' hp
  go_wp2_with fail
  refine (hnDeliver (S8'.alloc _) 1 rfl 0).mono ?_
  rintro e w9 ⟨hp, S9⟩
  have S9' : St w w9 [cellsT w.heap.size 23 m.cs, netT w1.heap.size ⟨[], 1⟩] := S9
  have hp2 : GetMPost none e := hp
  simp only [GetMPost] at hp2
  subst hp2
  clear S9 S8' hp
  go_wp2_with fail
  refine (hnLen (S9'.alloc _) 1 rfl).mono ?_
  rintro e w10 ⟨rfl, rfl⟩
  go_wp2
  go_ret
  exact ⟨rfl, (S9'.alloc _).fin⟩

end Go.Proofs.Ytjibmbejfpdifaa
