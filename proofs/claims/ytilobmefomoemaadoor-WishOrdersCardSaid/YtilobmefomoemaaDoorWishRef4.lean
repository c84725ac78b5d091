/- WishOrders: the law. -/
import Derived.Test.YtilobmefomoemaaDoorWishRef3
namespace Go.Proofs.YtilobmefomoemaaDoor
set_option linter.unusedVariables false
set_option linter.unusedSimpArgs false
open Go.RowKit
def optMsg (o : Option Msg) : Msg := o.getD Msg.zero
theorem orderV_get (o : Option Msg) : orderV o = .tuple #[.agg (optMsg o).cs.toArray, .bool o.isSome] := by cases o <;> rfl
set_option maxRecDepth 10000 in
set_option maxHeartbeats 6400000 in
theorem wishOrders_law (c : CF) (s : STA) (a : Option Addr) (L : List TAct) (n cap : Nat) (node : Int) (w : World) (hs : s.At w) (hT : TabOk w) (hn : L.length = n) (hm : n ≤ maxLen) (hA : AtG eTA w a L) (hok : ∀ x ∈ L, x.Ok w) :
    Calls Tryd.prog 8 #[.agg #[.int .i64 c.nodes, .int .i64 c.queues, .int .i64 c.quota, .int .i64 c.wave, .int .i64 c.lease, .int .i64 c.retry, .int .i64 c.deadline, .int .i64 c.room, .int .i64 c.disk], .agg #[.slice s.na s.nn s.nc, .slice s.ja s.jn s.jc, .int .i64 s.goal, .int .i64 s.prior, .int .i64 s.mode, .int .i64 s.term], .slice a n cap, .int .i64 node] w fun e w' => e = .returned (.bool true) ∧ Below w.heap.size w w' := by
  have S1 : St w _ [cellsT w.heap.size 29 c.cs, cellsT (w.heap.size + 1) 33 s.cs] := ((St.start w).newAt 29 #[.int .i64 c.nodes, .int .i64 c.queues, .int .i64 c.quota, .int .i64 c.wave, .int .i64 c.lease, .int .i64 c.retry, .int .i64 c.deadline, .int .i64 c.room, .int .i64 c.disk] w.heap.size rfl).newAt 33 #[.slice s.na s.nn s.nc, .slice s.ja s.jn s.jc, .int .i64 s.goal, .int .i64 s.prior, .int .i64 s.mode, .int .i64 s.term] (w.heap.size + 1) (alloc_size _ _)
  have HS := hid hs
  have HT := hid hT
  have HN := hid hn
  have HA := hid hA
  have HM := hid hm
  have HOk := hid hok
  clear hs hT hn hA hm hok
  go_enter Tryd.func8, Tryd.ntmps8
  go_wp2_with fail
  generalize w.heap.size + 1 = bs at *
  generalize w.heap.size = bc at *
  generalize (w.alloc _).alloc _ = w1 at *
  refine (alive19_any _ (HT.out.all S1.fin)).mono ?_
  rintro e w2 ⟨rfl, hb2⟩
  have S2 := S1.grow hb2
  clear S1 hb2
  go_wp2_with fail
  refine (stores_any S2 500 a L n cap HN.out HM.out HA.out HOk.out).mono ?_
  rintro e w3 ⟨g, h, t, q, ok, rfl, hR, hl, S3⟩
  have HR := hid hR
  clear hR S2
  cases ok
  · go_wp2
    go_ret
    exact ⟨rfl, S3.fin⟩
  obtain ⟨y0, y1, y2, y3, y4, y5⟩ := S3.sC 3 rfl
  obtain ⟨x0, x1, x2, x3, x4, x5, x6, x7, x8⟩ := S3.cfC 2 rfl
  go_wp2_with fail
  refine (bkRight _ c s (HS.out.all S3.fin)).mono ?_
  rintro e w4 ⟨b, rfl, hF, hb4⟩
  have S4 := S3.grow hb4
  clear y0 y1 y2 y3 y4 y5 x0 x1 x2 x3 x4 x5 x6 x7 x8 S3 hb4
  cases b
  · go_wp2
    go_ret
    exact ⟨rfl, S4.fin⟩
  have HF := hid (hF rfl)
  clear hF
  have h6 : s.nn ≤ 6 := by have h1 := HF.out.nn; have h2 := HF.out.conf.nodes; omega
  obtain ⟨y0, y1, y2, y3, y4, y5⟩ := S4.sC 3 rfl
  have S5 : St w w4 [rstT h q, soT (.pointer (some ⟨g, 0, none⟩)) (some t), cellsT bc 29 c.cs, cellsT bs 33 s.cs] := S4.soMk 1 rfl
  clear S4
  have HO := hid (fun w' (hb : Below w.heap.size w w') (X : St w w' [rstT h q, soT (.pointer (some ⟨g, 0, none⟩)) (some t), cellsT bc 29 c.cs, cellsT bs 33 s.cs]) => wOrder_any X (k := 1) rfl s (HS.out.all hb) (HT.out.all hb) HF.out.ord node)
  obtain ⟨M, hM⟩ : ∃ M, wOrder s node (some t) = M := ⟨_, rfl⟩
  have HMe := hid hM
  clear hM
  go_wp2_with fail
  refine (HO.out _ S5.fin S5).mono ?_
  rintro e w5 ⟨rfl, hb5⟩
  rw [HMe.out, orderV_get]
  have S6 := S5.grow hb5
  clear y0 y1 y2 y3 y4 y5 hb5 HO S5
  obtain ⟨m, hm⟩ : ∃ m, optMsg M = m := ⟨_, rfl⟩
  obtain ⟨ob, hob⟩ : ∃ ob, M.isSome = ob := ⟨_, rfl⟩
  rw [hm, hob, show Value.agg m.cs.toArray = .agg #[.int .i64 m.node, .int .i64 m.kind, .int .i64 m.term, .int .i64 m.gen, .int .i64 m.job, .int .i64 m.inc, .int .i64 m.version, .int .i64 m.epoch, .int .i64 m.until_, .int .i64 m.mode, .int .i64 m.work] from rfl]
  have Hm := hid hm
  have Hob := hid hob
  clear hm hob
  have S7 : St w _ [rstT h q, soT (.pointer (some ⟨g, 0, none⟩)) (some t), cellsT bc 29 c.cs, cellsT bs 33 s.cs, cellsT w5.heap.size 23 m.cs] := S6.newAt 23 #[.int .i64 m.node, .int .i64 m.kind, .int .i64 m.term, .int .i64 m.gen, .int .i64 m.job, .int .i64 m.inc, .int .i64 m.version, .int .i64 m.epoch, .int .i64 m.until_, .int .i64 m.mode, .int .i64 m.work] w5.heap.size rfl
  clear S6
  obtain ⟨y0, y1, y2, y3, y4, y5⟩ := S7.sC 3 rfl
  go_wp2_with fail
  generalize w5.heap.size = ga at *
  generalize w5.alloc _ = w6 at *
  refine (rOrder_any S7 (by omega) s (HS.out.all S7.fin) HF.out HR.out node).mono ?_
  rintro e w7 ⟨rfl, hb7⟩
  rw [HMe.out, orderV_get, Hm.out, Hob.out, show Value.agg m.cs.toArray = .agg #[.int .i64 m.node, .int .i64 m.kind, .int .i64 m.term, .int .i64 m.gen, .int .i64 m.job, .int .i64 m.inc, .int .i64 m.version, .int .i64 m.epoch, .int .i64 m.until_, .int .i64 m.mode, .int .i64 m.work] from rfl]
  have S8 := S7.grow hb7
  clear y0 y1 y2 y3 y4 y5 hb7 S7
  have S9 : St w _ [rstT h q, soT (.pointer (some ⟨g, 0, none⟩)) (some t), cellsT bc 29 c.cs, cellsT bs 33 s.cs, cellsT ga 23 m.cs, cellsT w7.heap.size 23 m.cs] := S8.newAt 23 #[.int .i64 m.node, .int .i64 m.kind, .int .i64 m.term, .int .i64 m.gen, .int .i64 m.job, .int .i64 m.inc, .int .i64 m.version, .int .i64 m.epoch, .int .i64 m.until_, .int .i64 m.mode, .int .i64 m.work] w7.heap.size rfl
  clear S8
  obtain ⟨v, hv⟩ : ∃ v, wHad s node (some t) = v := ⟨_, rfl⟩
  have hv2 : qHad s node q = v := by rw [qHad_eq HF.out HR.out, hv]
  have HV := hid hv
  have HV2 := hid hv2
  clear hv hv2
  have k1 : (v == v) = true := by simp
  have k2 : (ob == ob) = true := by simp
  have q1 : ∀ wx, (binOp .eql 23 (.agg #[.int .i64 m.node, .int .i64 m.kind, .int .i64 m.term, .int .i64 m.gen, .int .i64 m.job, .int .i64 m.inc, .int .i64 m.version, .int .i64 m.epoch, .int .i64 m.until_, .int .i64 m.mode, .int .i64 m.work]) (.agg #[.int .i64 m.node, .int .i64 m.kind, .int .i64 m.term, .int .i64 m.gen, .int .i64 m.job, .int .i64 m.inc, .int .i64 m.version, .int .i64 m.epoch, .int .i64 m.until_, .int .i64 m.mode, .int .i64 m.work])).run Tryd.prog wx = .ok (.bool true) wx := fun wx => by
    have := eqM m m wx
    rw [Msg.eq_self] at this
    exact this
  go_wp2_with fail
  generalize w7.heap.size = gb at *
  generalize w7.alloc _ = w8 at *
  have keep : ∀ {w' : World} {l : List Thing}, St w w' (rstT h q :: soT (.pointer (some ⟨g, 0, none⟩)) (some t) :: cellsT bc 29 c.cs :: cellsT bs 33 s.cs :: cellsT ga 23 m.cs :: cellsT gb 23 m.cs :: l) → ((w'.cell? ⟨bs, 0, none⟩ = some (.slice s.na s.nn s.nc) ∧ w'.cell? ⟨bs, 1, none⟩ = some (.slice s.ja s.jn s.jc) ∧ w'.cell? ⟨bs, 2, none⟩ = some (.int .i64 s.goal) ∧ w'.cell? ⟨bs, 3, none⟩ = some (.int .i64 s.prior) ∧ w'.cell? ⟨bs, 4, none⟩ = some (.int .i64 s.mode) ∧ w'.cell? ⟨bs, 5, none⟩ = some (.int .i64 s.term)) ∧ (w'.cell? ⟨ga, 0, none⟩ = some (.int .i64 m.node) ∧ w'.cell? ⟨ga, 1, none⟩ = some (.int .i64 m.kind) ∧ w'.cell? ⟨ga, 2, none⟩ = some (.int .i64 m.term) ∧ w'.cell? ⟨ga, 3, none⟩ = some (.int .i64 m.gen) ∧ w'.cell? ⟨ga, 4, none⟩ = some (.int .i64 m.job) ∧ w'.cell? ⟨ga, 5, none⟩ = some (.int .i64 m.inc) ∧ w'.cell? ⟨ga, 6, none⟩ = some (.int .i64 m.version) ∧ w'.cell? ⟨ga, 7, none⟩ = some (.int .i64 m.epoch) ∧ w'.cell? ⟨ga, 8, none⟩ = some (.int .i64 m.until_) ∧ w'.cell? ⟨ga, 9, none⟩ = some (.int .i64 m.mode) ∧ w'.cell? ⟨ga, 10, none⟩ = some (.int .i64 m.work)) ∧ (w'.cell? ⟨gb, 0, none⟩ = some (.int .i64 m.node) ∧ w'.cell? ⟨gb, 1, none⟩ = some (.int .i64 m.kind) ∧ w'.cell? ⟨gb, 2, none⟩ = some (.int .i64 m.term) ∧ w'.cell? ⟨gb, 3, none⟩ = some (.int .i64 m.gen) ∧ w'.cell? ⟨gb, 4, none⟩ = some (.int .i64 m.job) ∧ w'.cell? ⟨gb, 5, none⟩ = some (.int .i64 m.inc) ∧ w'.cell? ⟨gb, 6, none⟩ = some (.int .i64 m.version) ∧ w'.cell? ⟨gb, 7, none⟩ = some (.int .i64 m.epoch) ∧ w'.cell? ⟨gb, 8, none⟩ = some (.int .i64 m.until_) ∧ w'.cell? ⟨gb, 9, none⟩ = some (.int .i64 m.mode) ∧ w'.cell? ⟨gb, 10, none⟩ = some (.int .i64 m.work))) := fun S => ⟨S.sC 3 rfl, S.msg 4 rfl, S.msg 5 rfl⟩
  refine wp_region_held_drew (S := (fun w' => ((w'.cell? ⟨bs, 0, none⟩ = some (.slice s.na s.nn s.nc) ∧ w'.cell? ⟨bs, 1, none⟩ = some (.slice s.ja s.jn s.jc) ∧ w'.cell? ⟨bs, 2, none⟩ = some (.int .i64 s.goal) ∧ w'.cell? ⟨bs, 3, none⟩ = some (.int .i64 s.prior) ∧ w'.cell? ⟨bs, 4, none⟩ = some (.int .i64 s.mode) ∧ w'.cell? ⟨bs, 5, none⟩ = some (.int .i64 s.term)) ∧ (w'.cell? ⟨ga, 0, none⟩ = some (.int .i64 m.node) ∧ w'.cell? ⟨ga, 1, none⟩ = some (.int .i64 m.kind) ∧ w'.cell? ⟨ga, 2, none⟩ = some (.int .i64 m.term) ∧ w'.cell? ⟨ga, 3, none⟩ = some (.int .i64 m.gen) ∧ w'.cell? ⟨ga, 4, none⟩ = some (.int .i64 m.job) ∧ w'.cell? ⟨ga, 5, none⟩ = some (.int .i64 m.inc) ∧ w'.cell? ⟨ga, 6, none⟩ = some (.int .i64 m.version) ∧ w'.cell? ⟨ga, 7, none⟩ = some (.int .i64 m.epoch) ∧ w'.cell? ⟨ga, 8, none⟩ = some (.int .i64 m.until_) ∧ w'.cell? ⟨ga, 9, none⟩ = some (.int .i64 m.mode) ∧ w'.cell? ⟨ga, 10, none⟩ = some (.int .i64 m.work)) ∧ (w'.cell? ⟨gb, 0, none⟩ = some (.int .i64 m.node) ∧ w'.cell? ⟨gb, 1, none⟩ = some (.int .i64 m.kind) ∧ w'.cell? ⟨gb, 2, none⟩ = some (.int .i64 m.term) ∧ w'.cell? ⟨gb, 3, none⟩ = some (.int .i64 m.gen) ∧ w'.cell? ⟨gb, 4, none⟩ = some (.int .i64 m.job) ∧ w'.cell? ⟨gb, 5, none⟩ = some (.int .i64 m.inc) ∧ w'.cell? ⟨gb, 6, none⟩ = some (.int .i64 m.version) ∧ w'.cell? ⟨gb, 7, none⟩ = some (.int .i64 m.epoch) ∧ w'.cell? ⟨gb, 8, none⟩ = some (.int .i64 m.until_) ∧ w'.cell? ⟨gb, 9, none⟩ = some (.int .i64 m.mode) ∧ w'.cell? ⟨gb, 10, none⟩ = some (.int .i64 m.work))))) (by kernel_rfl) (by exact keep S9.drew) (fun hHeld => ?_)
  change wpAnyH _ _ _ _ _ 29 (Array.replicate 29 false) _ _
  refine wpAnyH_take (i := 0) (v := ?v1) (ops_at rfl) (by kernel_rfl) (by kernel_rfl) (by kernel_rfl) (fun _ _ _ h => h) (Or.inl ⟨by rfl, ?hy1⟩) (by assumption) ?rest1
  case hy1 => intro w' hSw; (try dsimp only at hSw); go_simp; try with_reducible rfl
  try simp only [Act.put, List.setIfInBounds_toArray, List.set_cons_zero, List.set_cons_succ]
  refine wpAnyH_take (i := 1) (v := ?v2) (ops_at rfl) (by kernel_rfl) (by kernel_rfl) (by kernel_rfl) (fun _ _ _ h => h) (Or.inl ⟨by rfl, ?hy2⟩) (by assumption) ?rest2
  case hy2 => intro w' hSw; (try dsimp only at hSw); go_simp; try with_reducible rfl
  try simp only [Act.put, List.setIfInBounds_toArray, List.set_cons_zero, List.set_cons_succ]
  refine wpAnyH_take (i := 2) (v := ?v3) (ops_at rfl) (by kernel_rfl) (by kernel_rfl) (by kernel_rfl) (fun _ _ _ h => h) (Or.inl ⟨by rfl, ?hy3⟩) (by assumption) ?rest3
  case hy3 => intro w' hSw; (try dsimp only at hSw); go_simp; try with_reducible rfl
  try simp only [Act.put, List.setIfInBounds_toArray, List.set_cons_zero, List.set_cons_succ]
  refine wpAnyH_take (i := 4) (v := ?v4) (ops_at rfl) (by kernel_rfl) (by kernel_rfl) (by kernel_rfl) (fun _ _ _ h => h) (Or.inl ⟨by rfl, ?hy4⟩) (by assumption) ?rest4
  case hy4 => intro w' hSw; (try dsimp only at hSw); go_simp; try with_reducible rfl
  try simp only [Act.put, List.setIfInBounds_toArray, List.set_cons_zero, List.set_cons_succ]
  refine wpAnyH_take (i := 5) (v := ?v5) (ops_at rfl) (by kernel_rfl) (by kernel_rfl) (by kernel_rfl) (fun _ _ _ h => h) (Or.inl ⟨by rfl, ?hy5⟩) (by assumption) ?rest5
  case hy5 => intro w' hSw; (try dsimp only at hSw); go_simp; try with_reducible rfl
  try simp only [Act.put, List.setIfInBounds_toArray, List.set_cons_zero, List.set_cons_succ]
  refine wpAnyH_take (i := 6) (v := ?v6) (ops_at rfl) (by kernel_rfl) (by kernel_rfl) (by kernel_rfl) (fun _ _ _ h => h) (Or.inl ⟨by rfl, ?hy6⟩) (by assumption) ?rest6
  case hy6 => intro w' hSw; (try dsimp only at hSw); go_simp; try with_reducible rfl
  try simp only [Act.put, List.setIfInBounds_toArray, List.set_cons_zero, List.set_cons_succ]
  refine wpAnyH_ready (rs := [3]) (by kernel_rfl) (by simp) ?_
  refine AllReadyH.cons (ops_at rfl) (fun K hK => ?_) AllReadyH.nil
  go_simp
  refine (wHad_any S9.drew (k := 1) rfl s (HS.out.all S9.drew.fin) node).mono ?_
  rintro e wa ⟨rfl, hba⟩
  rw [HV.out]
  have Sa := S9.drew.grow hba
  refine hK.out _ _ (by exact keep Sa) (fun hHeld => ?_)
  clear hK K
  try simp only [Act.put, List.setIfInBounds_toArray, List.set_cons_zero, List.set_cons_succ]
  refine wpAnyH_ready (rs := [7]) (by kernel_rfl) (by simp) ?_
  refine AllReadyH.cons (ops_at rfl) (fun K hK => ?_) AllReadyH.nil
  go_simp
  refine (rHad_any Sa (by omega) s (HS.out.all Sa.fin) node).mono ?_
  rintro e wb ⟨rfl, hbb⟩
  rw [HV2.out]
  have Sb := Sa.grow hbb
  refine hK.out _ _ (by exact keep Sb) (fun hHeld => ?_)
  clear hK K
  try simp only [Act.put, List.setIfInBounds_toArray, List.set_cons_zero, List.set_cons_succ]
  refine wpAnyH_take (i := 8) (v := ?v9) (ops_at rfl) (by kernel_rfl) (by kernel_rfl) (by kernel_rfl) (fun _ _ _ h => h) (Or.inl ⟨by rfl, ?hy9⟩) (by assumption) ?rest9
  case hy9 => intro w' hSw; (try dsimp only at hSw); go_simp; try with_reducible rfl
  try simp only [Act.put, List.setIfInBounds_toArray, List.set_cons_zero, List.set_cons_succ]
  refine wpAnyH_take (i := 9) (v := ?v10) (ops_at rfl) (by kernel_rfl) (by kernel_rfl) (by kernel_rfl) (fun _ _ _ h => h) (Or.inl ⟨by rfl, ?hy10⟩) (by assumption) ?rest10
  case hy10 => intro w' hSw; (try dsimp only at hSw); go_simp; try with_reducible rfl
  try simp only [Act.put, List.setIfInBounds_toArray, List.set_cons_zero, List.set_cons_succ]
  refine wpAnyH_take (i := 10) (v := ?v11) (ops_at rfl) (by kernel_rfl) (by kernel_rfl) (by kernel_rfl) (fun _ _ _ h => h) (Or.inl ⟨by rfl, ?hy11⟩) (by assumption) ?rest11
  case hy11 => intro w' hSw; (try dsimp only at hSw); go_simp; try with_reducible rfl
  try simp only [Act.put, List.setIfInBounds_toArray, List.set_cons_zero, List.set_cons_succ]
  refine wpAnyH_take (i := 11) (v := ?v12) (ops_at rfl) (by kernel_rfl) (by kernel_rfl) (by kernel_rfl) (fun _ _ _ h => h) (Or.inl ⟨by rfl, ?hy12⟩) (by assumption) ?rest12
  case hy12 => intro w' hSw; (try dsimp only at hSw); go_simp; try with_reducible rfl
  try simp only [Act.put, List.setIfInBounds_toArray, List.set_cons_zero, List.set_cons_succ]
  refine wpAnyH_take (i := 12) (v := ?v13) (ops_at rfl) (by kernel_rfl) (by kernel_rfl) (by kernel_rfl) (fun _ _ _ h => h) (Or.inl ⟨by rfl, ?hy13⟩) (by assumption) ?rest13
  case hy13 => intro w' hSw; (try dsimp only at hSw); go_simp; try with_reducible rfl
  try simp only [Act.put, List.setIfInBounds_toArray, List.set_cons_zero, List.set_cons_succ]
  refine wpAnyH_take (i := 13) (v := ?v14) (ops_at rfl) (by kernel_rfl) (by kernel_rfl) (by kernel_rfl) (fun _ _ _ h => h) (Or.inl ⟨by rfl, ?hy14⟩) (by assumption) ?rest14
  case hy14 => intro w' hSw; (try dsimp only at hSw); go_simp; try with_reducible rfl
  try simp only [Act.put, List.setIfInBounds_toArray, List.set_cons_zero, List.set_cons_succ]
  refine wpAnyH_take (i := 14) (v := ?v15) (ops_at rfl) (by kernel_rfl) (by kernel_rfl) (by kernel_rfl) (fun _ _ _ h => h) (Or.inl ⟨by rfl, ?hy15⟩) (by assumption) ?rest15
  case hy15 => intro w' hSw; (try dsimp only at hSw); go_simp; try with_reducible rfl
  try simp only [Act.put, List.setIfInBounds_toArray, List.set_cons_zero, List.set_cons_succ]
  refine wpAnyH_take (i := 15) (v := ?v16) (ops_at rfl) (by kernel_rfl) (by kernel_rfl) (by kernel_rfl) (fun _ _ _ h => h) (Or.inl ⟨by rfl, ?hy16⟩) (by assumption) ?rest16
  case hy16 => intro w' hSw; (try dsimp only at hSw); go_simp; try with_reducible rfl
  try simp only [Act.put, List.setIfInBounds_toArray, List.set_cons_zero, List.set_cons_succ]
  refine wpAnyH_take (i := 16) (v := ?v17) (ops_at rfl) (by kernel_rfl) (by kernel_rfl) (by kernel_rfl) (fun _ _ _ h => h) (Or.inl ⟨by rfl, ?hy17⟩) (by assumption) ?rest17
  case hy17 => intro w' hSw; (try dsimp only at hSw); go_simp; try with_reducible rfl
  try simp only [Act.put, List.setIfInBounds_toArray, List.set_cons_zero, List.set_cons_succ]
  refine wpAnyH_take (i := 17) (v := ?v18) (ops_at rfl) (by kernel_rfl) (by kernel_rfl) (by kernel_rfl) (fun _ _ _ h => h) (Or.inl ⟨by rfl, ?hy18⟩) (by assumption) ?rest18
  case hy18 => intro w' hSw; (try dsimp only at hSw); go_simp; try with_reducible rfl
  try simp only [Act.put, List.setIfInBounds_toArray, List.set_cons_zero, List.set_cons_succ]
  refine wpAnyH_take (i := 18) (v := ?v19) (ops_at rfl) (by kernel_rfl) (by kernel_rfl) (by kernel_rfl) (fun _ _ _ h => h) (Or.inl ⟨by rfl, ?hy19⟩) (by assumption) ?rest19
  case hy19 => intro w' hSw; (try dsimp only at hSw); go_simp; try with_reducible rfl
  try simp only [Act.put, List.setIfInBounds_toArray, List.set_cons_zero, List.set_cons_succ]
  refine wpAnyH_take (i := 19) (v := ?v20) (ops_at rfl) (by kernel_rfl) (by kernel_rfl) (by kernel_rfl) (fun _ _ _ h => h) (Or.inl ⟨by rfl, ?hy20⟩) (by assumption) ?rest20
  case hy20 => intro w' hSw; (try dsimp only at hSw); go_simp; try with_reducible rfl
  try simp only [Act.put, List.setIfInBounds_toArray, List.set_cons_zero, List.set_cons_succ]
  refine wpAnyH_take (i := 20) (v := ?v21) (ops_at rfl) (by kernel_rfl) (by kernel_rfl) (by kernel_rfl) (fun _ _ _ h => h) (Or.inl ⟨by rfl, ?hy21⟩) (by assumption) ?rest21
  case hy21 => intro w' hSw; (try dsimp only at hSw); go_simp; try with_reducible rfl
  try simp only [Act.put, List.setIfInBounds_toArray, List.set_cons_zero, List.set_cons_succ]
  refine wpAnyH_take (i := 21) (v := ?v22) (ops_at rfl) (by kernel_rfl) (by kernel_rfl) (by kernel_rfl) (fun _ _ _ h => h) (Or.inl ⟨by rfl, ?hy22⟩) (by assumption) ?rest22
  case hy22 => intro w' hSw; (try dsimp only at hSw); go_simp; try with_reducible rfl
  try simp only [Act.put, List.setIfInBounds_toArray, List.set_cons_zero, List.set_cons_succ]
  refine wpAnyH_take (i := 23) (v := ?v23) (ops_at rfl) (by kernel_rfl) (by kernel_rfl) (by kernel_rfl) (fun _ _ _ h => h) (Or.inl ⟨by rfl, ?hy23⟩) (by assumption) ?rest23
  case hy23 => intro w' hSw; (try dsimp only at hSw); go_simp; try with_reducible rfl
  try simp only [Act.put, List.setIfInBounds_toArray, List.set_cons_zero, List.set_cons_succ]
  refine wpAnyH_take (i := 24) (v := ?v24) (ops_at rfl) (by kernel_rfl) (by kernel_rfl) (by kernel_rfl) (fun _ _ _ h => h) (Or.inl ⟨by rfl, ?hy24⟩) (by assumption) ?rest24
  case hy24 => intro w' hSw; (try dsimp only at hSw); go_simp; try with_reducible rfl
  try simp only [Act.put, List.setIfInBounds_toArray, List.set_cons_zero, List.set_cons_succ]
  refine wpAnyH_ready (rs := [22]) (by kernel_rfl) (by simp) ?_
  refine AllReadyH.cons (ops_at rfl) (fun K hK => ?_) AllReadyH.nil
  go_simp
  refine (wAll_any Sb (k := 1) rfl s (HS.out.all Sb.fin) (HT.out.all Sb.fin) HF.out.ord (by omega)).mono ?_
  rintro e wc ⟨ac, cc, rfl, hoc, hbc⟩
  have Sc : St w wc [rstT h q, soT (.pointer (some ⟨g, 0, none⟩)) (some t), cellsT bc 29 c.cs, cellsT bs 33 s.cs, cellsT ga 23 m.cs, cellsT gb 23 m.cs, ownT eM (.slice ac (wAllL s (some t) s.nn).length cc) (wAllL s (some t) s.nn)] := Sb.own hoc hbc
  refine hK.out _ _ (by exact keep Sc) (fun hHeld => ?_)
  clear hK K
  try simp only [Act.put, List.setIfInBounds_toArray, List.set_cons_zero, List.set_cons_succ]
  refine wpAnyH_ready (rs := [25]) (by kernel_rfl) (by simp) ?_
  refine AllReadyH.cons (ops_at rfl) (fun K hK => ?_) AllReadyH.nil
  go_simp
  refine (rAll_any Sc (by omega) s (HS.out.all Sc.fin) HF.out HR.out).mono ?_
  rintro e wd ⟨ad, cd, rfl, hod, hbd⟩
  have Sd := Sc.own hod hbd
  have hll : (wAllL s (some t) s.nn).length ≤ 1000000 := by have := wAllL_len s (some t) s.nn; omega
  refine hK.out _ _ (by exact keep Sd) (fun hHeld => ?_)
  clear hK K
  try simp only [Act.put, List.setIfInBounds_toArray, List.set_cons_zero, List.set_cons_succ]
  refine wpAnyH_ready (rs := [26]) (by kernel_rfl) (by simp) ?_
  refine AllReadyH.cons (ops_at rfl) (fun K hK => ?_) AllReadyH.nil
  go_simp
  refine (msame_any ac ad (wAllL s (some t) s.nn) _ cc cd wd rfl hll (by exact (Sd.slG eMok 6 rfl).2.2.2.2) (by exact (Sd.slG eMok 7 rfl).2.2.2.2)).mono ?_
  rintro e we ⟨rfl, hbe⟩
  have Se := Sd.grow hbe
  refine hK.out _ _ (by exact keep Se) (fun hHeld => ?_)
  clear hK K
  try simp only [Act.put, List.setIfInBounds_toArray, List.set_cons_zero, List.set_cons_succ]
  refine wpAnyH_take (i := 27) (v := ?v28) (ops_at rfl) (by kernel_rfl) (by kernel_rfl) (by kernel_rfl) (fun _ _ _ h => h) (Or.inl ⟨by rfl, ?hy28⟩) (by assumption) ?rest28
  case hy28 => intro w' hSw; (try dsimp only at hSw); go_simp; try with_reducible rfl
  try simp only [Act.put, List.setIfInBounds_toArray, List.set_cons_zero, List.set_cons_succ]
  refine wpAnyH_take (i := 28) (v := ?v29) (ops_at rfl) (by kernel_rfl) (by kernel_rfl) (by kernel_rfl) (fun _ _ _ h => h) (Or.inl ⟨by rfl, ?hy29⟩) (by assumption) ?rest29
  case hy29 => intro w' hSw; (try dsimp only at hSw); go_simp; try with_reducible rfl
  try simp only [Act.put, List.setIfInBounds_toArray, List.set_cons_zero, List.set_cons_succ]
  refine wpAnyH_done (by kernel_rfl) ?_ _
  go_wp2
  go_ret
  exact ⟨rfl, Se.fin⟩
end Go.Proofs.YtilobmefomoemaaDoor
