/- WishAlike, WishSame: the laws. -/
import Derived.Test.YtilobmefomoemaaDoorWish4
namespace Go.Proofs.YtilobmefomoemaaDoor
set_option linter.unusedVariables false
set_option linter.unusedSimpArgs false
open Go.RowKit
def MC (w : World) (g : Nat) (m : Msg) : Prop := w.cell? ⟨g, 0, none⟩ = some (.int .i64 m.node) ∧ w.cell? ⟨g, 1, none⟩ = some (.int .i64 m.kind) ∧ w.cell? ⟨g, 2, none⟩ = some (.int .i64 m.term) ∧ w.cell? ⟨g, 3, none⟩ = some (.int .i64 m.gen) ∧ w.cell? ⟨g, 4, none⟩ = some (.int .i64 m.job) ∧ w.cell? ⟨g, 5, none⟩ = some (.int .i64 m.inc) ∧ w.cell? ⟨g, 6, none⟩ = some (.int .i64 m.version) ∧ w.cell? ⟨g, 7, none⟩ = some (.int .i64 m.epoch) ∧ w.cell? ⟨g, 8, none⟩ = some (.int .i64 m.until_) ∧ w.cell? ⟨g, 9, none⟩ = some (.int .i64 m.mode) ∧ w.cell? ⟨g, 10, none⟩ = some (.int .i64 m.work)
theorem wAlike_x (a : Msg) (t g u : Int) : wAlike a { a with term := t, gen := g, until_ := u } = true := (wAlike_iff _ _).2 ⟨rfl, rfl, rfl, rfl, rfl, rfl, rfl, rfl⟩
set_option maxRecDepth 10000 in
set_option maxHeartbeats 3200000 in
theorem wishAlike_law (a b : Msg) (term gen until_ : Int) (w : World) (hT : TabOk w) : Calls Tryd.prog 3 #[.agg #[.int .i64 a.node, .int .i64 a.kind, .int .i64 a.term, .int .i64 a.gen, .int .i64 a.job, .int .i64 a.inc, .int .i64 a.version, .int .i64 a.epoch, .int .i64 a.until_, .int .i64 a.mode, .int .i64 a.work], .agg #[.int .i64 b.node, .int .i64 b.kind, .int .i64 b.term, .int .i64 b.gen, .int .i64 b.job, .int .i64 b.inc, .int .i64 b.version, .int .i64 b.epoch, .int .i64 b.until_, .int .i64 b.mode, .int .i64 b.work], .int .i64 term, .int .i64 gen, .int .i64 until_] w fun e w' => e = .returned (.bool true) ∧ Below w.heap.size w w' := by
  have S1 : St w _ [cellsT w.heap.size 23 a.cs, cellsT (w.heap.size + 1) 23 b.cs] := ((St.start w).newAt 23 #[.int .i64 a.node, .int .i64 a.kind, .int .i64 a.term, .int .i64 a.gen, .int .i64 a.job, .int .i64 a.inc, .int .i64 a.version, .int .i64 a.epoch, .int .i64 a.until_, .int .i64 a.mode, .int .i64 a.work] w.heap.size rfl).newAt 23 #[.int .i64 b.node, .int .i64 b.kind, .int .i64 b.term, .int .i64 b.gen, .int .i64 b.job, .int .i64 b.inc, .int .i64 b.version, .int .i64 b.epoch, .int .i64 b.until_, .int .i64 b.mode, .int .i64 b.work] (w.heap.size + 1) (alloc_size _ _)
  have HT := hid hT
  have HX := hid (wAlike_x a term gen until_)
  clear hT
  go_enter Tryd.func3, Tryd.ntmps3
  go_wp2_with fail
  generalize w.heap.size + 1 = gb at *
  generalize w.heap.size = ga at *
  generalize (w.alloc _).alloc _ = w1 at *
  refine (alive19_any _ (HT.out.all S1.fin)).mono ?_
  rintro e w2 ⟨rfl, hb2⟩
  have S2 := S1.grow hb2
  clear S1 hb2
  obtain ⟨x0, x1, x2, x3, x4, x5, x6, x7, x8, x9, x10⟩ := S2.msg 0 rfl
  have S3 : St w (w2.alloc (.cells #[.int .i64 a.node, .int .i64 a.kind, .int .i64 term, .int .i64 gen, .int .i64 a.job, .int .i64 a.inc, .int .i64 a.version, .int .i64 a.epoch, .int .i64 until_, .int .i64 a.mode, .int .i64 a.work] 23)) [cellsT ga 23 a.cs, cellsT gb 23 b.cs, cellsT w2.heap.size 23 ({ a with term := term, gen := gen, until_ := until_ } : Msg).cs] := S2.newAt 23 #[.int .i64 a.node, .int .i64 a.kind, .int .i64 term, .int .i64 gen, .int .i64 a.job, .int .i64 a.inc, .int .i64 a.version, .int .i64 a.epoch, .int .i64 until_, .int .i64 a.mode, .int .i64 a.work] w2.heap.size rfl
  go_wp2_with fail
  generalize w2.heap.size = gx at *
  generalize w2.alloc _ = w3 at *
  clear S2 x0 x1 x2 x3 x4 x5 x6 x7 x8 x9 x10
  have keep : ∀ {w' : World}, St w w' [cellsT ga 23 a.cs, cellsT gb 23 b.cs, cellsT gx 23 ({ a with term := term, gen := gen, until_ := until_ } : Msg).cs] → ((w'.cell? ⟨ga, 0, none⟩ = some (.int .i64 a.node) ∧ w'.cell? ⟨ga, 1, none⟩ = some (.int .i64 a.kind) ∧ w'.cell? ⟨ga, 2, none⟩ = some (.int .i64 a.term) ∧ w'.cell? ⟨ga, 3, none⟩ = some (.int .i64 a.gen) ∧ w'.cell? ⟨ga, 4, none⟩ = some (.int .i64 a.job) ∧ w'.cell? ⟨ga, 5, none⟩ = some (.int .i64 a.inc) ∧ w'.cell? ⟨ga, 6, none⟩ = some (.int .i64 a.version) ∧ w'.cell? ⟨ga, 7, none⟩ = some (.int .i64 a.epoch) ∧ w'.cell? ⟨ga, 8, none⟩ = some (.int .i64 a.until_) ∧ w'.cell? ⟨ga, 9, none⟩ = some (.int .i64 a.mode) ∧ w'.cell? ⟨ga, 10, none⟩ = some (.int .i64 a.work)) ∧ (w'.cell? ⟨gb, 0, none⟩ = some (.int .i64 b.node) ∧ w'.cell? ⟨gb, 1, none⟩ = some (.int .i64 b.kind) ∧ w'.cell? ⟨gb, 2, none⟩ = some (.int .i64 b.term) ∧ w'.cell? ⟨gb, 3, none⟩ = some (.int .i64 b.gen) ∧ w'.cell? ⟨gb, 4, none⟩ = some (.int .i64 b.job) ∧ w'.cell? ⟨gb, 5, none⟩ = some (.int .i64 b.inc) ∧ w'.cell? ⟨gb, 6, none⟩ = some (.int .i64 b.version) ∧ w'.cell? ⟨gb, 7, none⟩ = some (.int .i64 b.epoch) ∧ w'.cell? ⟨gb, 8, none⟩ = some (.int .i64 b.until_) ∧ w'.cell? ⟨gb, 9, none⟩ = some (.int .i64 b.mode) ∧ w'.cell? ⟨gb, 10, none⟩ = some (.int .i64 b.work)) ∧ (w'.cell? ⟨gx, 0, none⟩ = some (.int .i64 a.node) ∧ w'.cell? ⟨gx, 1, none⟩ = some (.int .i64 a.kind) ∧ w'.cell? ⟨gx, 2, none⟩ = some (.int .i64 term) ∧ w'.cell? ⟨gx, 3, none⟩ = some (.int .i64 gen) ∧ w'.cell? ⟨gx, 4, none⟩ = some (.int .i64 a.job) ∧ w'.cell? ⟨gx, 5, none⟩ = some (.int .i64 a.inc) ∧ w'.cell? ⟨gx, 6, none⟩ = some (.int .i64 a.version) ∧ w'.cell? ⟨gx, 7, none⟩ = some (.int .i64 a.epoch) ∧ w'.cell? ⟨gx, 8, none⟩ = some (.int .i64 until_) ∧ w'.cell? ⟨gx, 9, none⟩ = some (.int .i64 a.mode) ∧ w'.cell? ⟨gx, 10, none⟩ = some (.int .i64 a.work))) := fun S => ⟨S.msg 0 rfl, S.msg 1 rfl, S.msg 2 rfl⟩
  refine wp_region_held_drew (S := (fun w' => ((w'.cell? ⟨ga, 0, none⟩ = some (.int .i64 a.node) ∧ w'.cell? ⟨ga, 1, none⟩ = some (.int .i64 a.kind) ∧ w'.cell? ⟨ga, 2, none⟩ = some (.int .i64 a.term) ∧ w'.cell? ⟨ga, 3, none⟩ = some (.int .i64 a.gen) ∧ w'.cell? ⟨ga, 4, none⟩ = some (.int .i64 a.job) ∧ w'.cell? ⟨ga, 5, none⟩ = some (.int .i64 a.inc) ∧ w'.cell? ⟨ga, 6, none⟩ = some (.int .i64 a.version) ∧ w'.cell? ⟨ga, 7, none⟩ = some (.int .i64 a.epoch) ∧ w'.cell? ⟨ga, 8, none⟩ = some (.int .i64 a.until_) ∧ w'.cell? ⟨ga, 9, none⟩ = some (.int .i64 a.mode) ∧ w'.cell? ⟨ga, 10, none⟩ = some (.int .i64 a.work)) ∧ (w'.cell? ⟨gb, 0, none⟩ = some (.int .i64 b.node) ∧ w'.cell? ⟨gb, 1, none⟩ = some (.int .i64 b.kind) ∧ w'.cell? ⟨gb, 2, none⟩ = some (.int .i64 b.term) ∧ w'.cell? ⟨gb, 3, none⟩ = some (.int .i64 b.gen) ∧ w'.cell? ⟨gb, 4, none⟩ = some (.int .i64 b.job) ∧ w'.cell? ⟨gb, 5, none⟩ = some (.int .i64 b.inc) ∧ w'.cell? ⟨gb, 6, none⟩ = some (.int .i64 b.version) ∧ w'.cell? ⟨gb, 7, none⟩ = some (.int .i64 b.epoch) ∧ w'.cell? ⟨gb, 8, none⟩ = some (.int .i64 b.until_) ∧ w'.cell? ⟨gb, 9, none⟩ = some (.int .i64 b.mode) ∧ w'.cell? ⟨gb, 10, none⟩ = some (.int .i64 b.work)) ∧ (w'.cell? ⟨gx, 0, none⟩ = some (.int .i64 a.node) ∧ w'.cell? ⟨gx, 1, none⟩ = some (.int .i64 a.kind) ∧ w'.cell? ⟨gx, 2, none⟩ = some (.int .i64 term) ∧ w'.cell? ⟨gx, 3, none⟩ = some (.int .i64 gen) ∧ w'.cell? ⟨gx, 4, none⟩ = some (.int .i64 a.job) ∧ w'.cell? ⟨gx, 5, none⟩ = some (.int .i64 a.inc) ∧ w'.cell? ⟨gx, 6, none⟩ = some (.int .i64 a.version) ∧ w'.cell? ⟨gx, 7, none⟩ = some (.int .i64 a.epoch) ∧ w'.cell? ⟨gx, 8, none⟩ = some (.int .i64 until_) ∧ w'.cell? ⟨gx, 9, none⟩ = some (.int .i64 a.mode) ∧ w'.cell? ⟨gx, 10, none⟩ = some (.int .i64 a.work))))) (by kernel_rfl) (by exact keep S3.drew) (fun hHeld => ?_)
  change wpAnyH _ _ _ _ _ 13 (Array.replicate 13 false) _ _
  refine wpAnyH_take (i := 0) (v := ?v1) (ops_at rfl) (by kernel_rfl) (by kernel_rfl) (by kernel_rfl) (fun _ _ _ h => h) (Or.inl ⟨by rfl, ?hy1⟩) (by assumption) ?rest1
  case hy1 => intro w' hSw; (try dsimp only at hSw); go_simp; try with_reducible rfl
  try simp only [Act.put, List.setIfInBounds_toArray, List.set_cons_zero, List.set_cons_succ]
  refine wpAnyH_take (i := 1) (v := ?v2) (ops_at rfl) (by kernel_rfl) (by kernel_rfl) (by kernel_rfl) (fun _ _ _ h => h) (Or.inl ⟨by rfl, ?hy2⟩) (by assumption) ?rest2
  case hy2 => intro w' hSw; (try dsimp only at hSw); go_simp; try with_reducible rfl
  try simp only [Act.put, List.setIfInBounds_toArray, List.set_cons_zero, List.set_cons_succ]
  refine wpAnyH_take (i := 3) (v := ?v3) (ops_at rfl) (by kernel_rfl) (by kernel_rfl) (by kernel_rfl) (fun _ _ _ h => h) (Or.inl ⟨by rfl, ?hy3⟩) (by assumption) ?rest3
  case hy3 => intro w' hSw; (try dsimp only at hSw); go_simp; try with_reducible rfl
  try simp only [Act.put, List.setIfInBounds_toArray, List.set_cons_zero, List.set_cons_succ]
  refine wpAnyH_take (i := 4) (v := ?v4) (ops_at rfl) (by kernel_rfl) (by kernel_rfl) (by kernel_rfl) (fun _ _ _ h => h) (Or.inl ⟨by rfl, ?hy4⟩) (by assumption) ?rest4
  case hy4 => intro w' hSw; (try dsimp only at hSw); go_simp; try with_reducible rfl
  try simp only [Act.put, List.setIfInBounds_toArray, List.set_cons_zero, List.set_cons_succ]
  refine wpAnyH_ready (rs := [2]) (by kernel_rfl) (by simp) ?_
  refine AllReadyH.cons (ops_at rfl) (fun K hK => ?_) AllReadyH.nil
  go_simp
  refine (wAlike_any a b _).mono ?_
  rintro e w4 ⟨rfl, hb4⟩
  have S4 := S3.drew.grow hb4
  refine hK.out _ _ (by exact keep S4) (fun hHeld => ?_)
  clear hK K
  try simp only [Act.put, List.setIfInBounds_toArray, List.set_cons_zero, List.set_cons_succ]
  refine wpAnyH_ready (rs := [5]) (by kernel_rfl) (by simp) ?_
  refine AllReadyH.cons (ops_at rfl) (fun K hK => ?_) AllReadyH.nil
  go_simp
  refine (rAlike_any a b _).mono ?_
  rintro e w5 ⟨rfl, hb5⟩
  have S5 := S4.grow hb5
  have gq : ((wAlike a b) == (wAlike a b)) = true := beq_self_eq_true _
  refine hK.out _ _ (by exact keep S5) (fun hHeld => ?_)
  clear hK K
  try simp only [Act.put, List.setIfInBounds_toArray, List.set_cons_zero, List.set_cons_succ]
  refine wpAnyH_take (i := 6) (v := ?v7) (ops_at rfl) (by kernel_rfl) (by kernel_rfl) (by kernel_rfl) (fun _ _ _ h => h) (Or.inl ⟨by rfl, ?hy7⟩) (by assumption) ?rest7
  case hy7 => intro w' hSw; (try dsimp only at hSw); go_simp; try with_reducible rfl
  try simp only [Act.put, List.setIfInBounds_toArray, List.set_cons_zero, List.set_cons_succ]
  refine wpAnyH_take (i := 7) (v := ?v8) (ops_at rfl) (by kernel_rfl) (by kernel_rfl) (by kernel_rfl) (fun _ _ _ h => h) (Or.inl ⟨by rfl, ?hy8⟩) (by assumption) ?rest8
  case hy8 => intro w' hSw; (try dsimp only at hSw); go_simp; try with_reducible rfl
  try simp only [Act.put, List.setIfInBounds_toArray, List.set_cons_zero, List.set_cons_succ]
  refine wpAnyH_take (i := 8) (v := ?v9) (ops_at rfl) (by kernel_rfl) (by kernel_rfl) (by kernel_rfl) (fun _ _ _ h => h) (Or.inl ⟨by rfl, ?hy9⟩) (by assumption) ?rest9
  case hy9 => intro w' hSw; (try dsimp only at hSw); go_simp; try with_reducible rfl
  try simp only [Act.put, List.setIfInBounds_toArray, List.set_cons_zero, List.set_cons_succ]
  refine wpAnyH_take (i := 9) (v := ?v10) (ops_at rfl) (by kernel_rfl) (by kernel_rfl) (by kernel_rfl) (fun _ _ _ h => h) (Or.inl ⟨by rfl, ?hy10⟩) (by assumption) ?rest10
  case hy10 => intro w' hSw; (try dsimp only at hSw); go_simp; try with_reducible rfl
  try simp only [Act.put, List.setIfInBounds_toArray, List.set_cons_zero, List.set_cons_succ]
  refine wpAnyH_ready (rs := [10]) (by kernel_rfl) (by simp) ?_
  refine AllReadyH.cons (ops_at rfl) (fun K hK => ?_) AllReadyH.nil
  go_simp
  refine (wAlike_any a { a with term := term, gen := gen, until_ := until_ } _).mono ?_
  rintro e w6 ⟨rfl, hb6⟩
  rw [HX.out]
  have S6 := S5.grow hb6
  refine hK.out _ _ (by exact keep S6) (fun hHeld => ?_)
  clear hK K
  try simp only [Act.put, List.setIfInBounds_toArray, List.set_cons_zero, List.set_cons_succ]
  refine wpAnyH_take (i := 11) (v := ?v12) (ops_at rfl) (by kernel_rfl) (by kernel_rfl) (by kernel_rfl) (fun _ _ _ h => h) (Or.inl ⟨by rfl, ?hy12⟩) (by assumption) ?rest12
  case hy12 => intro w' hSw; (try dsimp only at hSw); go_simp; try with_reducible rfl
  try simp only [Act.put, List.setIfInBounds_toArray, List.set_cons_zero, List.set_cons_succ]
  refine wpAnyH_take (i := 12) (v := ?v13) (ops_at rfl) (by kernel_rfl) (by kernel_rfl) (by kernel_rfl) (fun _ _ _ h => h) (Or.inl ⟨by rfl, ?hy13⟩) (by assumption) ?rest13
  case hy13 => intro w' hSw; (try dsimp only at hSw); go_simp; try with_reducible rfl
  try simp only [Act.put, List.setIfInBounds_toArray, List.set_cons_zero, List.set_cons_succ]
  refine wpAnyH_done (by kernel_rfl) ?_ _
  go_wp2
  go_ret
  exact ⟨rfl, S6.fin⟩
theorem wAlike_back (a b : Msg) : wAlike b ({ a with term := b.term, gen := b.gen, until_ := b.until_ } : Msg) = wAlike a b := by
  rw [Bool.eq_iff_iff, wAlike_iff, wAlike_iff]
  constructor
  · rintro ⟨h1, h2, h3, h4, h5, h6, h7, h8⟩
    exact ⟨h1.symm, h2.symm, h3.symm, h4.symm, h5.symm, h6.symm, h7.symm, h8.symm⟩
  · rintro ⟨h1, h2, h3, h4, h5, h6, h7, h8⟩
    exact ⟨h1.symm, h2.symm, h3.symm, h4.symm, h5.symm, h6.symm, h7.symm, h8.symm⟩
theorem wAlike_self (a : Msg) : wAlike a a = true := (wAlike_iff _ _).2 ⟨rfl, rfl, rfl, rfl, rfl, rfl, rfl, rfl⟩
theorem wAlike_trans {a b c : Msg} (h : wAlike a b = true) (k : wAlike b c = true) : wAlike a c = true := by
  rw [wAlike_iff] at *
  obtain ⟨h1, h2, h3, h4, h5, h6, h7, h8⟩ := h
  obtain ⟨k1, k2, k3, k4, k5, k6, k7, k8⟩ := k
  exact ⟨h1.trans k1, h2.trans k2, h3.trans k3, h4.trans k4, h5.trans k5, h6.trans k6, h7.trans k7, h8.trans k8⟩
theorem wAlike_eq (a b : Msg) : ({ a with term := b.term, gen := b.gen, until_ := b.until_ } : Msg).eq b = wAlike a b := by
  rw [Bool.eq_iff_iff, Msg.eq_iff, wAlike_iff]
  constructor
  · intro h
    rw [← h]
    exact ⟨rfl, rfl, rfl, rfl, rfl, rfl, rfl, rfl⟩
  · rintro ⟨h1, h2, h3, h4, h5, h6, h7, h8⟩
    simp only [h1, h2, h3, h4, h5, h6, h7, h8]
set_option maxRecDepth 10000 in
set_option maxHeartbeats 3200000 in
theorem wishSame_law (a b c : Msg) (w : World) (hT : TabOk w) : Calls Tryd.prog 4 #[.agg #[.int .i64 a.node, .int .i64 a.kind, .int .i64 a.term, .int .i64 a.gen, .int .i64 a.job, .int .i64 a.inc, .int .i64 a.version, .int .i64 a.epoch, .int .i64 a.until_, .int .i64 a.mode, .int .i64 a.work], .agg #[.int .i64 b.node, .int .i64 b.kind, .int .i64 b.term, .int .i64 b.gen, .int .i64 b.job, .int .i64 b.inc, .int .i64 b.version, .int .i64 b.epoch, .int .i64 b.until_, .int .i64 b.mode, .int .i64 b.work], .agg #[.int .i64 c.node, .int .i64 c.kind, .int .i64 c.term, .int .i64 c.gen, .int .i64 c.job, .int .i64 c.inc, .int .i64 c.version, .int .i64 c.epoch, .int .i64 c.until_, .int .i64 c.mode, .int .i64 c.work]] w fun e w' => e = .returned (.bool true) ∧ Below w.heap.size w w' := by
  have S1 : St w _ [cellsT w.heap.size 23 a.cs, cellsT (w.heap.size + 1) 23 b.cs, cellsT (w.heap.size + 1 + 1) 23 c.cs] := (((St.start w).newAt 23 #[.int .i64 a.node, .int .i64 a.kind, .int .i64 a.term, .int .i64 a.gen, .int .i64 a.job, .int .i64 a.inc, .int .i64 a.version, .int .i64 a.epoch, .int .i64 a.until_, .int .i64 a.mode, .int .i64 a.work] w.heap.size rfl).newAt 23 #[.int .i64 b.node, .int .i64 b.kind, .int .i64 b.term, .int .i64 b.gen, .int .i64 b.job, .int .i64 b.inc, .int .i64 b.version, .int .i64 b.epoch, .int .i64 b.until_, .int .i64 b.mode, .int .i64 b.work] (w.heap.size + 1) (alloc_size _ _)).newAt 23 #[.int .i64 c.node, .int .i64 c.kind, .int .i64 c.term, .int .i64 c.gen, .int .i64 c.job, .int .i64 c.inc, .int .i64 c.version, .int .i64 c.epoch, .int .i64 c.until_, .int .i64 c.mode, .int .i64 c.work] (w.heap.size + 1 + 1) (by simp only [alloc_size])
  have HT := hid hT
  have H1 := hid (wAlike_back a b)
  have H2 := hid (wAlike_self ({ a with term := b.term, gen := b.gen, until_ := b.until_ } : Msg))
  have H3 : Hid (wAlike a b = true → wAlike b c = true → wAlike a c = true) := wAlike_trans
  have H4 := hid (wAlike_eq a b)
  clear hT
  go_enter Tryd.func4, Tryd.ntmps4
  go_wp2_with fail
  generalize w.heap.size + 1 + 1 = gc at *
  generalize w.heap.size + 1 = gb at *
  generalize w.heap.size = ga at *
  generalize ((w.alloc _).alloc _).alloc _ = w1 at *
  refine (alive19_any _ (HT.out.all S1.fin)).mono ?_
  rintro e w2 ⟨rfl, hb2⟩
  have S2 := S1.grow hb2
  clear S1 hb2
  go_wp2_with fail
  have keep : ∀ {w' : World}, St w w' [cellsT ga 23 a.cs, cellsT gb 23 b.cs, cellsT gc 23 c.cs] → ((w'.cell? ⟨ga, 0, none⟩ = some (.int .i64 a.node) ∧ w'.cell? ⟨ga, 1, none⟩ = some (.int .i64 a.kind) ∧ w'.cell? ⟨ga, 2, none⟩ = some (.int .i64 a.term) ∧ w'.cell? ⟨ga, 3, none⟩ = some (.int .i64 a.gen) ∧ w'.cell? ⟨ga, 4, none⟩ = some (.int .i64 a.job) ∧ w'.cell? ⟨ga, 5, none⟩ = some (.int .i64 a.inc) ∧ w'.cell? ⟨ga, 6, none⟩ = some (.int .i64 a.version) ∧ w'.cell? ⟨ga, 7, none⟩ = some (.int .i64 a.epoch) ∧ w'.cell? ⟨ga, 8, none⟩ = some (.int .i64 a.until_) ∧ w'.cell? ⟨ga, 9, none⟩ = some (.int .i64 a.mode) ∧ w'.cell? ⟨ga, 10, none⟩ = some (.int .i64 a.work)) ∧ (w'.cell? ⟨gb, 0, none⟩ = some (.int .i64 b.node) ∧ w'.cell? ⟨gb, 1, none⟩ = some (.int .i64 b.kind) ∧ w'.cell? ⟨gb, 2, none⟩ = some (.int .i64 b.term) ∧ w'.cell? ⟨gb, 3, none⟩ = some (.int .i64 b.gen) ∧ w'.cell? ⟨gb, 4, none⟩ = some (.int .i64 b.job) ∧ w'.cell? ⟨gb, 5, none⟩ = some (.int .i64 b.inc) ∧ w'.cell? ⟨gb, 6, none⟩ = some (.int .i64 b.version) ∧ w'.cell? ⟨gb, 7, none⟩ = some (.int .i64 b.epoch) ∧ w'.cell? ⟨gb, 8, none⟩ = some (.int .i64 b.until_) ∧ w'.cell? ⟨gb, 9, none⟩ = some (.int .i64 b.mode) ∧ w'.cell? ⟨gb, 10, none⟩ = some (.int .i64 b.work)) ∧ (w'.cell? ⟨gc, 0, none⟩ = some (.int .i64 c.node) ∧ w'.cell? ⟨gc, 1, none⟩ = some (.int .i64 c.kind) ∧ w'.cell? ⟨gc, 2, none⟩ = some (.int .i64 c.term) ∧ w'.cell? ⟨gc, 3, none⟩ = some (.int .i64 c.gen) ∧ w'.cell? ⟨gc, 4, none⟩ = some (.int .i64 c.job) ∧ w'.cell? ⟨gc, 5, none⟩ = some (.int .i64 c.inc) ∧ w'.cell? ⟨gc, 6, none⟩ = some (.int .i64 c.version) ∧ w'.cell? ⟨gc, 7, none⟩ = some (.int .i64 c.epoch) ∧ w'.cell? ⟨gc, 8, none⟩ = some (.int .i64 c.until_) ∧ w'.cell? ⟨gc, 9, none⟩ = some (.int .i64 c.mode) ∧ w'.cell? ⟨gc, 10, none⟩ = some (.int .i64 c.work))) := fun S => ⟨S.msg 0 rfl, S.msg 1 rfl, S.msg 2 rfl⟩
  refine wp_region_held_drew (S := (fun w' => ((w'.cell? ⟨ga, 0, none⟩ = some (.int .i64 a.node) ∧ w'.cell? ⟨ga, 1, none⟩ = some (.int .i64 a.kind) ∧ w'.cell? ⟨ga, 2, none⟩ = some (.int .i64 a.term) ∧ w'.cell? ⟨ga, 3, none⟩ = some (.int .i64 a.gen) ∧ w'.cell? ⟨ga, 4, none⟩ = some (.int .i64 a.job) ∧ w'.cell? ⟨ga, 5, none⟩ = some (.int .i64 a.inc) ∧ w'.cell? ⟨ga, 6, none⟩ = some (.int .i64 a.version) ∧ w'.cell? ⟨ga, 7, none⟩ = some (.int .i64 a.epoch) ∧ w'.cell? ⟨ga, 8, none⟩ = some (.int .i64 a.until_) ∧ w'.cell? ⟨ga, 9, none⟩ = some (.int .i64 a.mode) ∧ w'.cell? ⟨ga, 10, none⟩ = some (.int .i64 a.work)) ∧ (w'.cell? ⟨gb, 0, none⟩ = some (.int .i64 b.node) ∧ w'.cell? ⟨gb, 1, none⟩ = some (.int .i64 b.kind) ∧ w'.cell? ⟨gb, 2, none⟩ = some (.int .i64 b.term) ∧ w'.cell? ⟨gb, 3, none⟩ = some (.int .i64 b.gen) ∧ w'.cell? ⟨gb, 4, none⟩ = some (.int .i64 b.job) ∧ w'.cell? ⟨gb, 5, none⟩ = some (.int .i64 b.inc) ∧ w'.cell? ⟨gb, 6, none⟩ = some (.int .i64 b.version) ∧ w'.cell? ⟨gb, 7, none⟩ = some (.int .i64 b.epoch) ∧ w'.cell? ⟨gb, 8, none⟩ = some (.int .i64 b.until_) ∧ w'.cell? ⟨gb, 9, none⟩ = some (.int .i64 b.mode) ∧ w'.cell? ⟨gb, 10, none⟩ = some (.int .i64 b.work)) ∧ (w'.cell? ⟨gc, 0, none⟩ = some (.int .i64 c.node) ∧ w'.cell? ⟨gc, 1, none⟩ = some (.int .i64 c.kind) ∧ w'.cell? ⟨gc, 2, none⟩ = some (.int .i64 c.term) ∧ w'.cell? ⟨gc, 3, none⟩ = some (.int .i64 c.gen) ∧ w'.cell? ⟨gc, 4, none⟩ = some (.int .i64 c.job) ∧ w'.cell? ⟨gc, 5, none⟩ = some (.int .i64 c.inc) ∧ w'.cell? ⟨gc, 6, none⟩ = some (.int .i64 c.version) ∧ w'.cell? ⟨gc, 7, none⟩ = some (.int .i64 c.epoch) ∧ w'.cell? ⟨gc, 8, none⟩ = some (.int .i64 c.until_) ∧ w'.cell? ⟨gc, 9, none⟩ = some (.int .i64 c.mode) ∧ w'.cell? ⟨gc, 10, none⟩ = some (.int .i64 c.work))))) (by kernel_rfl) (by exact keep S2.drew) (fun hHeld => ?_)
  change wpAnyH _ _ _ _ _ 12 (Array.replicate 12 false) _ _
  refine wpAnyH_take (i := 0) (v := ?v14) (ops_at rfl) (by kernel_rfl) (by kernel_rfl) (by kernel_rfl) (fun _ _ _ h => h) (Or.inl ⟨by rfl, ?hy14⟩) (by assumption) ?rest14
  case hy14 => intro w' hSw; (try dsimp only at hSw); go_simp; try with_reducible rfl
  try simp only [Act.put, List.setIfInBounds_toArray, List.set_cons_zero, List.set_cons_succ]
  refine wpAnyH_take (i := 1) (v := ?v15) (ops_at rfl) (by kernel_rfl) (by kernel_rfl) (by kernel_rfl) (fun _ _ _ h => h) (Or.inl ⟨by rfl, ?hy15⟩) (by assumption) ?rest15
  case hy15 => intro w' hSw; (try dsimp only at hSw); go_simp; try with_reducible rfl
  try simp only [Act.put, List.setIfInBounds_toArray, List.set_cons_zero, List.set_cons_succ]
  refine wpAnyH_take (i := 3) (v := ?v16) (ops_at rfl) (by kernel_rfl) (by kernel_rfl) (by kernel_rfl) (fun _ _ _ h => h) (Or.inl ⟨by rfl, ?hy16⟩) (by assumption) ?rest16
  case hy16 => intro w' hSw; (try dsimp only at hSw); go_simp; try with_reducible rfl
  try simp only [Act.put, List.setIfInBounds_toArray, List.set_cons_zero, List.set_cons_succ]
  refine wpAnyH_take (i := 4) (v := ?v17) (ops_at rfl) (by kernel_rfl) (by kernel_rfl) (by kernel_rfl) (fun _ _ _ h => h) (Or.inl ⟨by rfl, ?hy17⟩) (by assumption) ?rest17
  case hy17 => intro w' hSw; (try dsimp only at hSw); go_simp; try with_reducible rfl
  try simp only [Act.put, List.setIfInBounds_toArray, List.set_cons_zero, List.set_cons_succ]
  refine wpAnyH_take (i := 6) (v := ?v18) (ops_at rfl) (by kernel_rfl) (by kernel_rfl) (by kernel_rfl) (fun _ _ _ h => h) (Or.inl ⟨by rfl, ?hy18⟩) (by assumption) ?rest18
  case hy18 => intro w' hSw; (try dsimp only at hSw); go_simp; try with_reducible rfl
  try simp only [Act.put, List.setIfInBounds_toArray, List.set_cons_zero, List.set_cons_succ]
  refine wpAnyH_take (i := 7) (v := ?v19) (ops_at rfl) (by kernel_rfl) (by kernel_rfl) (by kernel_rfl) (fun _ _ _ h => h) (Or.inl ⟨by rfl, ?hy19⟩) (by assumption) ?rest19
  case hy19 => intro w' hSw; (try dsimp only at hSw); go_simp; try with_reducible rfl
  try simp only [Act.put, List.setIfInBounds_toArray, List.set_cons_zero, List.set_cons_succ]
  refine wpAnyH_ready (rs := [2]) (by kernel_rfl) (by simp) ?_
  refine AllReadyH.cons (ops_at rfl) (fun K hK => ?_) AllReadyH.nil
  go_simp
  refine (wAlike_any a b _).mono ?_
  rintro e w4 ⟨rfl, hb4⟩
  have S4 := S2.drew.grow hb4
  refine hK.out _ _ (by exact keep S4) (fun hHeld => ?_)
  clear hK K
  try simp only [Act.put, List.setIfInBounds_toArray, List.set_cons_zero, List.set_cons_succ]
  refine wpAnyH_ready (rs := [5]) (by kernel_rfl) (by simp) ?_
  refine AllReadyH.cons (ops_at rfl) (fun K hK => ?_) AllReadyH.nil
  go_simp
  refine (wAlike_any b c _).mono ?_
  rintro e w5 ⟨rfl, hb5⟩
  have S5 := S4.grow hb5
  refine hK.out _ _ (by exact keep S5) (fun hHeld => ?_)
  clear hK K
  try simp only [Act.put, List.setIfInBounds_toArray, List.set_cons_zero, List.set_cons_succ]
  refine wpAnyH_ready (rs := [8]) (by kernel_rfl) (by simp) ?_
  refine AllReadyH.cons (ops_at rfl) (fun K hK => ?_) AllReadyH.nil
  go_simp
  refine (wAlike_any a c _).mono ?_
  rintro e w6 ⟨rfl, hb6⟩
  have S6 := S5.grow hb6
  refine hK.out _ _ (by exact keep S6) (fun hHeld => ?_)
  clear hK K
  try simp only [Act.put, List.setIfInBounds_toArray, List.set_cons_zero, List.set_cons_succ]
  refine wpAnyH_take (i := 9) (v := ?v23) (ops_at rfl) (by kernel_rfl) (by kernel_rfl) (by kernel_rfl) (fun _ _ _ h => h) (Or.inl ⟨by rfl, ?hy23⟩) (by assumption) ?rest23
  case hy23 => intro w' hSw; (try dsimp only at hSw); go_simp; try with_reducible rfl
  try simp only [Act.put, List.setIfInBounds_toArray, List.set_cons_zero, List.set_cons_succ]
  refine wpAnyH_take (i := 10) (v := ?v24) (ops_at rfl) (by kernel_rfl) (by kernel_rfl) (by kernel_rfl) (fun _ _ _ h => h) (Or.inl ⟨by rfl, ?hy24⟩) (by assumption) ?rest24
  case hy24 => intro w' hSw; (try dsimp only at hSw); go_simp; try with_reducible rfl
  try simp only [Act.put, List.setIfInBounds_toArray, List.set_cons_zero, List.set_cons_succ]
  refine wpAnyH_take (i := 11) (v := ?v25) (ops_at rfl) (by kernel_rfl) (by kernel_rfl) (by kernel_rfl) (fun _ _ _ h => h) (Or.inl ⟨by rfl, ?hy25⟩) (by assumption) ?rest25
  case hy25 => intro w' hSw; (try dsimp only at hSw); go_simp; try with_reducible rfl
  try simp only [Act.put, List.setIfInBounds_toArray, List.set_cons_zero, List.set_cons_succ]
  refine wpAnyH_done (by kernel_rfl) ?_ _
  clear keep S5 S4 S2
  generalize wAlike a b = q at *
  generalize wAlike b c = p at *
  generalize wAlike a c = z at *
  obtain ⟨x0, x1, x2, x3, x4, x5, x6, x7, x8, x9, x10⟩ := S6.msg 0 rfl
  obtain ⟨y0, y1, y2, y3, y4, y5, y6, y7, y8, y9, y10⟩ := S6.msg 1 rfl
  obtain ⟨e0, e1, e2, e3, e4, e5, e6, e7, e8, e9, e10⟩ := S6.msgFrozen 0 rfl
  have n1 := S6.neq 0 1 (by decide) rfl rfl
  have n2 : ¬ gb = ga := fun h => n1 h.symm
  have S7 : St w _ [cellsT ga 23 ({ a with term := b.term, gen := b.gen, until_ := b.until_ } : Msg).cs, cellsT gb 23 b.cs, cellsT gc 23 c.cs] := ((S6.setCell 0 rfl 2 (.int .i64 b.term)).setCell 0 rfl 3 (.int .i64 b.gen)).setCell 0 rfl 8 (.int .i64 b.until_)
  have keep2 : ∀ {w' : World}, St w w' [cellsT ga 23 ({ a with term := b.term, gen := b.gen, until_ := b.until_ } : Msg).cs, cellsT gb 23 b.cs, cellsT gc 23 c.cs] → (w'.cell? ⟨ga, 0, none⟩ = some (.int .i64 a.node) ∧ w'.cell? ⟨ga, 1, none⟩ = some (.int .i64 a.kind) ∧ w'.cell? ⟨ga, 2, none⟩ = some (.int .i64 b.term) ∧ w'.cell? ⟨ga, 3, none⟩ = some (.int .i64 b.gen) ∧ w'.cell? ⟨ga, 4, none⟩ = some (.int .i64 a.job) ∧ w'.cell? ⟨ga, 5, none⟩ = some (.int .i64 a.inc) ∧ w'.cell? ⟨ga, 6, none⟩ = some (.int .i64 a.version) ∧ w'.cell? ⟨ga, 7, none⟩ = some (.int .i64 a.epoch) ∧ w'.cell? ⟨ga, 8, none⟩ = some (.int .i64 b.until_) ∧ w'.cell? ⟨ga, 9, none⟩ = some (.int .i64 a.mode) ∧ w'.cell? ⟨ga, 10, none⟩ = some (.int .i64 a.work)) ∧ (w'.cell? ⟨gb, 0, none⟩ = some (.int .i64 b.node) ∧ w'.cell? ⟨gb, 1, none⟩ = some (.int .i64 b.kind) ∧ w'.cell? ⟨gb, 2, none⟩ = some (.int .i64 b.term) ∧ w'.cell? ⟨gb, 3, none⟩ = some (.int .i64 b.gen) ∧ w'.cell? ⟨gb, 4, none⟩ = some (.int .i64 b.job) ∧ w'.cell? ⟨gb, 5, none⟩ = some (.int .i64 b.inc) ∧ w'.cell? ⟨gb, 6, none⟩ = some (.int .i64 b.version) ∧ w'.cell? ⟨gb, 7, none⟩ = some (.int .i64 b.epoch) ∧ w'.cell? ⟨gb, 8, none⟩ = some (.int .i64 b.until_) ∧ w'.cell? ⟨gb, 9, none⟩ = some (.int .i64 b.mode) ∧ w'.cell? ⟨gb, 10, none⟩ = some (.int .i64 b.work)) := fun S => ⟨S.msg 0 rfl, S.msg 1 rfl⟩
  have q1 : ∀ wx, (binOp .eql 23 (.agg #[.int .i64 a.node, .int .i64 a.kind, .int .i64 b.term, .int .i64 b.gen, .int .i64 a.job, .int .i64 a.inc, .int .i64 a.version, .int .i64 a.epoch, .int .i64 b.until_, .int .i64 a.mode, .int .i64 a.work]) (.agg #[.int .i64 b.node, .int .i64 b.kind, .int .i64 b.term, .int .i64 b.gen, .int .i64 b.job, .int .i64 b.inc, .int .i64 b.version, .int .i64 b.epoch, .int .i64 b.until_, .int .i64 b.mode, .int .i64 b.work])).run Tryd.prog wx = .ok (.bool q) wx := fun wx => by
    have := eqM ({ a with term := b.term, gen := b.gen, until_ := b.until_ } : Msg) b wx
    rw [H4.out] at this
    exact this
  generalize hw7 : (((w6.setCell ⟨ga, 2, none⟩ (.int .i64 b.term)).setCell ⟨ga, 3, none⟩ (.int .i64 b.gen)).setCell ⟨ga, 8, none⟩ (.int .i64 b.until_)) = w7 at *
  obtain ⟨⟨u0, u1, u2, u3, u4, u5, u6, u7, u8, u9, u10⟩, ⟨v0, v1, v2, v3, v4, v5, v6, v7, v8, v9, v10⟩⟩ := keep2 S7
  go_wp2_with (simp only [hw7])
  refine (wAlike_any ({ a with term := b.term, gen := b.gen, until_ := b.until_ } : Msg) ({ a with term := b.term, gen := b.gen, until_ := b.until_ } : Msg) _).mono ?_
  rintro e w8 ⟨rfl, hb8⟩
  rw [H2.out]
  have S8 := S7.grow hb8
  clear x0 x1 x2 x3 x4 x5 x6 x7 x8 x9 x10 y0 y1 y2 y3 y4 y5 y6 y7 y8 y9 y10 e0 e1 e2 e3 e4 e5 e6 e7 e8 e9 e10 u0 u1 u2 u3 u4 u5 u6 u7 u8 u9 u10 v0 v1 v2 v3 v4 v5 v6 v7 v8 v9 v10 S7 S6 hw7 hb8
  obtain ⟨⟨u0, u1, u2, u3, u4, u5, u6, u7, u8, u9, u10⟩, ⟨v0, v1, v2, v3, v4, v5, v6, v7, v8, v9, v10⟩⟩ := keep2 S8
  go_wp2_with fail
  refine (wAlike_any b ({ a with term := b.term, gen := b.gen, until_ := b.until_ } : Msg) _).mono ?_
  rintro e w9 ⟨rfl, hb9⟩
  rw [H1.out]
  have S9 := S8.grow hb9
  clear u0 u1 u2 u3 u4 u5 u6 u7 u8 u9 u10 v0 v1 v2 v3 v4 v5 v6 v7 v8 v9 v10 S8 hb9
  obtain ⟨⟨u0, u1, u2, u3, u4, u5, u6, u7, u8, u9, u10⟩, ⟨v0, v1, v2, v3, v4, v5, v6, v7, v8, v9, v10⟩⟩ := keep2 S9
  clear keep2 H1 H2 H4
  cases q <;> cases p <;> cases z <;> first
    | exact absurd (H3.out rfl rfl) (by decide)
    | (clear H3; go_wp2; go_ret; exact ⟨rfl, S9.fin⟩)
end Go.Proofs.YtilobmefomoemaaDoor
