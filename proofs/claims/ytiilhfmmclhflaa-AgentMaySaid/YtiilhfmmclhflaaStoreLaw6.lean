/- StoreActs: do. -/
import Derived.Test.YtiilhfmmclhflaaStoreRef7
namespace Go.Proofs.Ytiilhfmmclhflaa
set_option linter.unusedVariables false
set_option linter.unusedSimpArgs false
open Go.RowKit
section
variable {w0 w : World} {tl : List Thing} {g h : Nat} {q : QS} {s : SS}
def DoPost (w0 : World) (g h : Nat) (tl : List Thing) (q : QS) (e : Ending) (w' : World) : Prop :=
  ∃ s' q', e = .returned (.bool true) ∧ RelS s' q' ∧ q'.L.length ≤ q.L.length + 1 ∧ q'.writes ≤ q.writes + 1 ∧ St w0 w' (rstT h q' :: storeT g s' :: tl)
set_option maxRecDepth 10000 in
set_option maxHeartbeats 3200000 in
theorem storeDo_any (S : St w0 w (rstT h q :: storeT g s :: tl)) (R : RelS s q) (hm : q.L.length ≤ 1000) (hw : q.writes ≤ 1000) (x : TAct) (hn : x.b.length = x.n) (hN : x.n ≤ 1000) (hnil : x.a = none → x.c = 0) (hA : At w0 x.a x.b) :
    Calls Try.prog 27 #[.pointer (some ⟨g, 0, none⟩), .pointer (some ⟨h, 0, none⟩), .agg #[.int .i64 x.kind, .int .i64 x.term, .int .i64 x.job, .int .i64 x.ep, .slice x.a x.n x.c]] w (DoPost w0 g h tl q) := by
  have S1 : St w0 (w.alloc (.cells #[.int .i64 x.kind, .int .i64 x.term, .int .i64 x.job, .int .i64 x.ep, .slice x.a x.n x.c] 39)) (rstT h q :: storeT g s :: (tl ++ [cellsT w.heap.size 39 x.cs])) := newAtG S _ _ _ rfl
  have HB : Hid (∀ w' q' s', St w0 w' (rstT h q' :: storeT g s' :: (tl ++ [cellsT w.heap.size 39 x.cs])) → St w0 w' (cellsT w.heap.size 39 x.cs :: rstT h q' :: storeT g s' :: tl)) := fun w' q' s' S' => St.rot (l := rstT h q' :: storeT g s' :: tl) S'
  have HC : Hid (∀ w' q' s', St w0 w' (rstT h q' :: storeT g s' :: (tl ++ [cellsT w.heap.size 39 x.cs])) → (w'.cell? ⟨w.heap.size, 1, none⟩ = some (.int .i64 x.term) ∧ w'.cell? ⟨w.heap.size, 2, none⟩ = some (.int .i64 x.job) ∧ w'.cell? ⟨w.heap.size, 3, none⟩ = some (.int .i64 x.ep) ∧ w'.cell? ⟨w.heap.size, 4, none⟩ = some (.slice x.a x.n x.c))) := fun w' q' s' S' =>
    have S2 := HB.out w' q' s' S'
    ⟨S2.cell 0 rfl 1 rfl, S2.cell 0 rfl 2 rfl, S2.cell 0 rfl 3 rfl, S2.cell 0 rfl 4 rfl⟩
  have x0 := (HB.out _ _ _ S1).cell 0 rfl 0 rfl
  have HR : Hid (∀ w' s' q', RelS s' q' → q'.L.length ≤ q.L.length + 1 → q'.writes ≤ q.writes + 1 → St w0 w' (rstT h q' :: storeT g s' :: (tl ++ [cellsT w.heap.size 39 x.cs])) → DoPost w0 g h tl q (.returned (.bool true)) w') :=
    fun w' s' q' h1 h2 h3 S' => ⟨s', q', rfl, h1, h2, h3, (HB.out _ _ _ S').tail⟩
  have hql := q_len q x.term x.job x.ep x.b
  have hsw : s.writes ≤ 1000000 := by rw [R.writes]; omega
  have HN := hid hn
  have HNil := hid hnil
  have HA := hid hA
  clear hn hnil hA S
  by_cases k0 : x.kind = 0
  · have g0 : (x.kind == 0) = true := by simpa using k0
    clear k0
    have R2 := R.stage x.term x.job x.ep x.b
    obtain ⟨s2, hs2⟩ : ∃ s2, sStage s x.term x.job x.ep x.b = s2 := ⟨_, rfl⟩
    obtain ⟨q2, hq2⟩ : ∃ q2, qStage q x.term x.job x.ep x.b = q2 := ⟨_, rfl⟩
    rw [hs2, hq2] at R2
    rw [hq2] at hql
    have HS2 := hid hs2
    have HQ2 := hid hq2
    clear hs2 hq2
    go_enter Try.func27, Try.ntmps27
    go_wp2_with fail
    refine wp_region_held_drew (S := (fun w' => (w'.cell? ⟨w.heap.size, 1, none⟩ = some (.int .i64 x.term) ∧ w'.cell? ⟨w.heap.size, 2, none⟩ = some (.int .i64 x.job) ∧ w'.cell? ⟨w.heap.size, 3, none⟩ = some (.int .i64 x.ep) ∧ w'.cell? ⟨w.heap.size, 4, none⟩ = some (.slice x.a x.n x.c)))) (by kernel_rfl) (by exact HC.out _ _ _ S1.drew) (fun hHeld => ?_)
    change wpAnyH _ _ _ _ _ 22 (Array.replicate 22 false) _ _
    refine wpAnyH_take (i := 0) (v := ?v1) (ops_at rfl) (by kernel_rfl) (by kernel_rfl) (by kernel_rfl) (fun _ _ _ h => h) (Or.inl ⟨by rfl, ?hy1⟩) (by assumption) ?rest1
    case hy1 => intro w' hSw; (try dsimp only at hSw); go_simp; try with_reducible rfl
    try simp only [Act.put, List.setIfInBounds_toArray, List.set_cons_zero, List.set_cons_succ]
    refine wpAnyH_take (i := 1) (v := ?v2) (ops_at rfl) (by kernel_rfl) (by kernel_rfl) (by kernel_rfl) (fun _ _ _ h => h) (Or.inl ⟨by rfl, ?hy2⟩) (by assumption) ?rest2
    case hy2 => intro w' hSw; (try dsimp only at hSw); go_simp; try with_reducible rfl
    try simp only [Act.put, List.setIfInBounds_toArray, List.set_cons_zero, List.set_cons_succ]
    refine wpAnyH_take (i := 2) (v := ?v3) (ops_at rfl) (by kernel_rfl) (by kernel_rfl) (by kernel_rfl) (fun _ _ _ h => h) (Or.inl ⟨by rfl, ?hy3⟩) (by assumption) ?rest3
    case hy3 => intro w' hSw; (try dsimp only at hSw); go_simp; try with_reducible rfl
    try simp only [Act.put, List.setIfInBounds_toArray, List.set_cons_zero, List.set_cons_succ]
    refine wpAnyH_take (i := 3) (v := ?v4) (ops_at rfl) (by kernel_rfl) (by kernel_rfl) (by kernel_rfl) (fun _ _ _ h => h) (Or.inl ⟨by rfl, ?hy4⟩) (by assumption) ?rest4
    case hy4 => intro w' hSw; (try dsimp only at hSw); go_simp; try with_reducible rfl
    try simp only [Act.put, List.setIfInBounds_toArray, List.set_cons_zero, List.set_cons_succ]
    refine wpAnyH_take (i := 4) (v := ?v5) (ops_at rfl) (by kernel_rfl) (by kernel_rfl) (by kernel_rfl) (fun _ _ _ h => h) (Or.inl ⟨by rfl, ?hy5⟩) (by assumption) ?rest5
    case hy5 => intro w' hSw; (try dsimp only at hSw); go_simp; try with_reducible rfl
    try simp only [Act.put, List.setIfInBounds_toArray, List.set_cons_zero, List.set_cons_succ]
    refine wpAnyH_take (i := 5) (v := ?v6) (ops_at rfl) (by kernel_rfl) (by kernel_rfl) (by kernel_rfl) (fun _ _ _ h => h) (Or.inl ⟨by rfl, ?hy6⟩) (by assumption) ?rest6
    case hy6 => intro w' hSw; (try dsimp only at hSw); go_simp; try with_reducible rfl
    try simp only [Act.put, List.setIfInBounds_toArray, List.set_cons_zero, List.set_cons_succ]
    refine wpAnyH_take (i := 6) (v := ?v7) (ops_at rfl) (by kernel_rfl) (by kernel_rfl) (by kernel_rfl) (fun _ _ _ h => h) (Or.inl ⟨by rfl, ?hy7⟩) (by assumption) ?rest7
    case hy7 => intro w' hSw; (try dsimp only at hSw); go_simp; try with_reducible rfl
    try simp only [Act.put, List.setIfInBounds_toArray, List.set_cons_zero, List.set_cons_succ]
    refine wpAnyH_take (i := 7) (v := ?v8) (ops_at rfl) (by kernel_rfl) (by kernel_rfl) (by kernel_rfl) (fun _ _ _ h => h) (Or.inl ⟨by rfl, ?hy8⟩) (by assumption) ?rest8
    case hy8 => intro w' hSw; (try dsimp only at hSw); go_simp; try with_reducible rfl
    try simp only [Act.put, List.setIfInBounds_toArray, List.set_cons_zero, List.set_cons_succ]
    refine wpAnyH_take (i := 8) (v := ?v9) (ops_at rfl) (by kernel_rfl) (by kernel_rfl) (by kernel_rfl) (fun _ _ _ h => h) (Or.inl ⟨by rfl, ?hy9⟩) (by assumption) ?rest9
    case hy9 => intro w' hSw; (try dsimp only at hSw); go_simp; try with_reducible rfl
    try simp only [Act.put, List.setIfInBounds_toArray, List.set_cons_zero, List.set_cons_succ]
    refine wpAnyH_take (i := 10) (v := ?v10) (ops_at rfl) (by kernel_rfl) (by kernel_rfl) (by kernel_rfl) (fun _ _ _ h => h) (Or.inl ⟨by rfl, ?hy10⟩) (by assumption) ?rest10
    case hy10 => intro w' hSw; (try dsimp only at hSw); go_simp; try with_reducible rfl
    try simp only [Act.put, List.setIfInBounds_toArray, List.set_cons_zero, List.set_cons_succ]
    refine wpAnyH_take (i := 11) (v := ?v11) (ops_at rfl) (by kernel_rfl) (by kernel_rfl) (by kernel_rfl) (fun _ _ _ h => h) (Or.inl ⟨by rfl, ?hy11⟩) (by assumption) ?rest11
    case hy11 => intro w' hSw; (try dsimp only at hSw); go_simp; try with_reducible rfl
    try simp only [Act.put, List.setIfInBounds_toArray, List.set_cons_zero, List.set_cons_succ]
    refine wpAnyH_take (i := 12) (v := ?v12) (ops_at rfl) (by kernel_rfl) (by kernel_rfl) (by kernel_rfl) (fun _ _ _ h => h) (Or.inl ⟨by rfl, ?hy12⟩) (by assumption) ?rest12
    case hy12 => intro w' hSw; (try dsimp only at hSw); go_simp; try with_reducible rfl
    try simp only [Act.put, List.setIfInBounds_toArray, List.set_cons_zero, List.set_cons_succ]
    refine wpAnyH_take (i := 13) (v := ?v13) (ops_at rfl) (by kernel_rfl) (by kernel_rfl) (by kernel_rfl) (fun _ _ _ h => h) (Or.inl ⟨by rfl, ?hy13⟩) (by assumption) ?rest13
    case hy13 => intro w' hSw; (try dsimp only at hSw); go_simp; try with_reducible rfl
    try simp only [Act.put, List.setIfInBounds_toArray, List.set_cons_zero, List.set_cons_succ]
    refine wpAnyH_take (i := 14) (v := ?v14) (ops_at rfl) (by kernel_rfl) (by kernel_rfl) (by kernel_rfl) (fun _ _ _ h => h) (Or.inl ⟨by rfl, ?hy14⟩) (by assumption) ?rest14
    case hy14 => intro w' hSw; (try dsimp only at hSw); go_simp; try with_reducible rfl
    try simp only [Act.put, List.setIfInBounds_toArray, List.set_cons_zero, List.set_cons_succ]
    refine wpAnyH_take (i := 15) (v := ?v15) (ops_at rfl) (by kernel_rfl) (by kernel_rfl) (by kernel_rfl) (fun _ _ _ h => h) (Or.inl ⟨by rfl, ?hy15⟩) (by assumption) ?rest15
    case hy15 => intro w' hSw; (try dsimp only at hSw); go_simp; try with_reducible rfl
    try simp only [Act.put, List.setIfInBounds_toArray, List.set_cons_zero, List.set_cons_succ]
    refine wpAnyH_take (i := 16) (v := ?v16) (ops_at rfl) (by kernel_rfl) (by kernel_rfl) (by kernel_rfl) (fun _ _ _ h => h) (Or.inl ⟨by rfl, ?hy16⟩) (by assumption) ?rest16
    case hy16 => intro w' hSw; (try dsimp only at hSw); go_simp; try with_reducible rfl
    try simp only [Act.put, List.setIfInBounds_toArray, List.set_cons_zero, List.set_cons_succ]
    refine wpAnyH_take (i := 17) (v := ?v17) (ops_at rfl) (by kernel_rfl) (by kernel_rfl) (by kernel_rfl) (fun _ _ _ h => h) (Or.inl ⟨by rfl, ?hy17⟩) (by assumption) ?rest17
    case hy17 => intro w' hSw; (try dsimp only at hSw); go_simp; try with_reducible rfl
    try simp only [Act.put, List.setIfInBounds_toArray, List.set_cons_zero, List.set_cons_succ]
    refine wpAnyH_take (i := 18) (v := ?v18) (ops_at rfl) (by kernel_rfl) (by kernel_rfl) (by kernel_rfl) (fun _ _ _ h => h) (Or.inl ⟨by rfl, ?hy18⟩) (by assumption) ?rest18
    case hy18 => intro w' hSw; (try dsimp only at hSw); go_simp; try with_reducible rfl
    try simp only [Act.put, List.setIfInBounds_toArray, List.set_cons_zero, List.set_cons_succ]
    refine wpAnyH_ready (rs := [9]) (by kernel_rfl) (by simp) ?_
    refine AllReadyH.cons (ops_at rfl) (fun K hK => ?_) AllReadyH.nil
    go_simp
    refine (stStage_any S1.drew 1 rfl hsw x.term x.job x.ep x.a x.b x.n x.c HN.out (by omega) HNil.out (by exact S1.drew.old HA.out)).mono ?_
    rintro e w3 ⟨rfl, S3⟩
    rw [HS2.out] at S3 ⊢
    rw [R2.1]
    replace S3 : St w0 w3 (rstT h q :: storeT g s2.2 :: (tl ++ [cellsT w.heap.size 39 x.cs])) := S3
    refine hK.out _ _ (by exact HC.out _ _ _ S3) (fun hHeld => ?_)
    clear hK K
    try simp only [Act.put, List.setIfInBounds_toArray, List.set_cons_zero, List.set_cons_succ]
    refine wpAnyH_ready (rs := [19]) (by kernel_rfl) (by simp) ?_
    refine AllReadyH.cons (ops_at rfl) (fun K hK => ?_) AllReadyH.nil
    go_simp
    refine (rqStage_any S3 (by omega) (by omega) x.term x.job x.ep x.a x.b x.n x.c HN.out (by omega) HA.out).mono ?_
    rintro e w4 ⟨rfl, S4⟩
    rw [HQ2.out] at S4 ⊢
    refine hK.out _ _ (by exact HC.out _ _ _ S4) (fun hHeld => ?_)
    clear hK K
    try simp only [Act.put, List.setIfInBounds_toArray, List.set_cons_zero, List.set_cons_succ]
    refine wpAnyH_take (i := 20) (v := ?v21) (ops_at rfl) (by kernel_rfl) (by kernel_rfl) (by kernel_rfl) (fun _ _ _ h => h) (Or.inl ⟨by rfl, ?hy21⟩) (by assumption) ?rest21
    case hy21 => intro w' hSw; (try dsimp only at hSw); go_simp; try with_reducible rfl
    try simp only [Act.put, List.setIfInBounds_toArray, List.set_cons_zero, List.set_cons_succ]
    refine wpAnyH_take (i := 21) (v := ?v22) (ops_at rfl) (by kernel_rfl) (by kernel_rfl) (by kernel_rfl) (fun _ _ _ h => h) (Or.inl ⟨by rfl, ?hy22⟩) (by assumption) ?rest22
    case hy22 => intro w' hSw; (try dsimp only at hSw); go_simp; try with_reducible rfl
    try simp only [Act.put, List.setIfInBounds_toArray, List.set_cons_zero, List.set_cons_succ]
    refine wpAnyH_done (by kernel_rfl) ?_ _
    go_wp2
    go_ret
    exact HR.out _ s2.2 q2.2 R2.2 hql.1 hql.2.1 S4
  have g0 : (x.kind == 0) = false := by simpa using k0
  clear k0
  by_cases k1 : x.kind = 1
  · have g1 : (x.kind == 1) = true := by simpa using k1
    clear k1
    have R2 := R.commit x.job x.ep
    obtain ⟨s2, hs2⟩ : ∃ s2, sCommit s x.job x.ep = s2 := ⟨_, rfl⟩
    obtain ⟨q2, hq2⟩ : ∃ q2, qCommit q x.job x.ep = q2 := ⟨_, rfl⟩
    rw [hs2, hq2] at R2
    rw [hq2] at hql
    have HS2 := hid hs2
    have HQ2 := hid hq2
    clear hs2 hq2
    go_enter Try.func27, Try.ntmps27
    go_wp2_with fail
    refine wp_region_held_drew (S := (fun w' => (w'.cell? ⟨w.heap.size, 1, none⟩ = some (.int .i64 x.term) ∧ w'.cell? ⟨w.heap.size, 2, none⟩ = some (.int .i64 x.job) ∧ w'.cell? ⟨w.heap.size, 3, none⟩ = some (.int .i64 x.ep) ∧ w'.cell? ⟨w.heap.size, 4, none⟩ = some (.slice x.a x.n x.c)))) (by kernel_rfl) (by exact HC.out _ _ _ S1.drew) (fun hHeld => ?_)
    change wpAnyH _ _ _ _ _ 14 (Array.replicate 14 false) _ _
    refine wpAnyH_take (i := 0) (v := ?v23) (ops_at rfl) (by kernel_rfl) (by kernel_rfl) (by kernel_rfl) (fun _ _ _ h => h) (Or.inl ⟨by rfl, ?hy23⟩) (by assumption) ?rest23
    case hy23 => intro w' hSw; (try dsimp only at hSw); go_simp; try with_reducible rfl
    try simp only [Act.put, List.setIfInBounds_toArray, List.set_cons_zero, List.set_cons_succ]
    refine wpAnyH_take (i := 1) (v := ?v24) (ops_at rfl) (by kernel_rfl) (by kernel_rfl) (by kernel_rfl) (fun _ _ _ h => h) (Or.inl ⟨by rfl, ?hy24⟩) (by assumption) ?rest24
    case hy24 => intro w' hSw; (try dsimp only at hSw); go_simp; try with_reducible rfl
    try simp only [Act.put, List.setIfInBounds_toArray, List.set_cons_zero, List.set_cons_succ]
    refine wpAnyH_take (i := 2) (v := ?v25) (ops_at rfl) (by kernel_rfl) (by kernel_rfl) (by kernel_rfl) (fun _ _ _ h => h) (Or.inl ⟨by rfl, ?hy25⟩) (by assumption) ?rest25
    case hy25 => intro w' hSw; (try dsimp only at hSw); go_simp; try with_reducible rfl
    try simp only [Act.put, List.setIfInBounds_toArray, List.set_cons_zero, List.set_cons_succ]
    refine wpAnyH_take (i := 3) (v := ?v26) (ops_at rfl) (by kernel_rfl) (by kernel_rfl) (by kernel_rfl) (fun _ _ _ h => h) (Or.inl ⟨by rfl, ?hy26⟩) (by assumption) ?rest26
    case hy26 => intro w' hSw; (try dsimp only at hSw); go_simp; try with_reducible rfl
    try simp only [Act.put, List.setIfInBounds_toArray, List.set_cons_zero, List.set_cons_succ]
    refine wpAnyH_take (i := 4) (v := ?v27) (ops_at rfl) (by kernel_rfl) (by kernel_rfl) (by kernel_rfl) (fun _ _ _ h => h) (Or.inl ⟨by rfl, ?hy27⟩) (by assumption) ?rest27
    case hy27 => intro w' hSw; (try dsimp only at hSw); go_simp; try with_reducible rfl
    try simp only [Act.put, List.setIfInBounds_toArray, List.set_cons_zero, List.set_cons_succ]
    refine wpAnyH_take (i := 6) (v := ?v28) (ops_at rfl) (by kernel_rfl) (by kernel_rfl) (by kernel_rfl) (fun _ _ _ h => h) (Or.inl ⟨by rfl, ?hy28⟩) (by assumption) ?rest28
    case hy28 => intro w' hSw; (try dsimp only at hSw); go_simp; try with_reducible rfl
    try simp only [Act.put, List.setIfInBounds_toArray, List.set_cons_zero, List.set_cons_succ]
    refine wpAnyH_take (i := 7) (v := ?v29) (ops_at rfl) (by kernel_rfl) (by kernel_rfl) (by kernel_rfl) (fun _ _ _ h => h) (Or.inl ⟨by rfl, ?hy29⟩) (by assumption) ?rest29
    case hy29 => intro w' hSw; (try dsimp only at hSw); go_simp; try with_reducible rfl
    try simp only [Act.put, List.setIfInBounds_toArray, List.set_cons_zero, List.set_cons_succ]
    refine wpAnyH_take (i := 8) (v := ?v30) (ops_at rfl) (by kernel_rfl) (by kernel_rfl) (by kernel_rfl) (fun _ _ _ h => h) (Or.inl ⟨by rfl, ?hy30⟩) (by assumption) ?rest30
    case hy30 => intro w' hSw; (try dsimp only at hSw); go_simp; try with_reducible rfl
    try simp only [Act.put, List.setIfInBounds_toArray, List.set_cons_zero, List.set_cons_succ]
    refine wpAnyH_take (i := 9) (v := ?v31) (ops_at rfl) (by kernel_rfl) (by kernel_rfl) (by kernel_rfl) (fun _ _ _ h => h) (Or.inl ⟨by rfl, ?hy31⟩) (by assumption) ?rest31
    case hy31 => intro w' hSw; (try dsimp only at hSw); go_simp; try with_reducible rfl
    try simp only [Act.put, List.setIfInBounds_toArray, List.set_cons_zero, List.set_cons_succ]
    refine wpAnyH_take (i := 10) (v := ?v32) (ops_at rfl) (by kernel_rfl) (by kernel_rfl) (by kernel_rfl) (fun _ _ _ h => h) (Or.inl ⟨by rfl, ?hy32⟩) (by assumption) ?rest32
    case hy32 => intro w' hSw; (try dsimp only at hSw); go_simp; try with_reducible rfl
    try simp only [Act.put, List.setIfInBounds_toArray, List.set_cons_zero, List.set_cons_succ]
    refine wpAnyH_ready (rs := [5]) (by kernel_rfl) (by simp) ?_
    refine AllReadyH.cons (ops_at rfl) (fun K hK => ?_) AllReadyH.nil
    go_simp
    refine (stCommit_any S1.drew 1 rfl x.job x.ep).mono ?_
    rintro e w3 ⟨rfl, S3⟩
    rw [HS2.out] at S3 ⊢
    rw [R2.1]
    replace S3 : St w0 w3 (rstT h q :: storeT g s2.2 :: (tl ++ [cellsT w.heap.size 39 x.cs])) := S3
    refine hK.out _ _ (by exact HC.out _ _ _ S3) (fun hHeld => ?_)
    clear hK K
    try simp only [Act.put, List.setIfInBounds_toArray, List.set_cons_zero, List.set_cons_succ]
    refine wpAnyH_ready (rs := [11]) (by kernel_rfl) (by simp) ?_
    refine AllReadyH.cons (ops_at rfl) (fun K hK => ?_) AllReadyH.nil
    go_simp
    refine (rqCommit_any S3 (by omega) x.job x.ep).mono ?_
    rintro e w4 ⟨rfl, S4⟩
    rw [HQ2.out] at S4 ⊢
    refine hK.out _ _ (by exact HC.out _ _ _ S4) (fun hHeld => ?_)
    clear hK K
    try simp only [Act.put, List.setIfInBounds_toArray, List.set_cons_zero, List.set_cons_succ]
    refine wpAnyH_take (i := 12) (v := ?v35) (ops_at rfl) (by kernel_rfl) (by kernel_rfl) (by kernel_rfl) (fun _ _ _ h => h) (Or.inl ⟨by rfl, ?hy35⟩) (by assumption) ?rest35
    case hy35 => intro w' hSw; (try dsimp only at hSw); go_simp; try with_reducible rfl
    try simp only [Act.put, List.setIfInBounds_toArray, List.set_cons_zero, List.set_cons_succ]
    refine wpAnyH_take (i := 13) (v := ?v36) (ops_at rfl) (by kernel_rfl) (by kernel_rfl) (by kernel_rfl) (fun _ _ _ h => h) (Or.inl ⟨by rfl, ?hy36⟩) (by assumption) ?rest36
    case hy36 => intro w' hSw; (try dsimp only at hSw); go_simp; try with_reducible rfl
    try simp only [Act.put, List.setIfInBounds_toArray, List.set_cons_zero, List.set_cons_succ]
    refine wpAnyH_done (by kernel_rfl) ?_ _
    go_wp2
    go_ret
    exact HR.out _ s2.2 q2.2 R2.2 hql.2.2.1 (by rw [hql.2.2.2.1]; omega) S4
  have g1 : (x.kind == 1) = false := by simpa using k1
  clear k1
  obtain ⟨x1, x2, x3, x4⟩ := HC.out _ _ _ S1
  by_cases k2 : x.kind = 2
  · have g2 : (x.kind == 2) = true := by simpa using k2
    clear k2
    go_enter Try.func27, Try.ntmps27
    go_wp2_with fail
    refine (stEnd_any S1 1 rfl x.job).mono ?_
    rintro e w3 ⟨rfl, S3⟩
    replace S3 : St w0 w3 (rstT h q :: storeT g _ :: (tl ++ [cellsT w.heap.size 39 x.cs])) := S3
    obtain ⟨z1, z2, z3, z4⟩ := HC.out _ _ _ S3
    clear x0 x1 x2 x3 x4
    go_wp2_with fail
    refine (rqEnd_any S3 (by omega) x.job).mono ?_
    rintro e w4 ⟨rfl, S4⟩
    go_wp2
    go_ret
    exact HR.out _ _ _ (R.end_ x.job) (by have := hql.2.2.2.2; omega) (Nat.le_succ _) S4
  have g2 : (x.kind == 2) = false := by simpa using k2
  clear k2
  by_cases k3 : x.kind = 3
  · have g3 : (x.kind == 3) = true := by simpa using k3
    clear k3
    go_enter Try.func27, Try.ntmps27
    go_wp2_with fail
    refine (stFence_any S1 1 rfl x.term).mono ?_
    rintro e w3 ⟨rfl, S3⟩
    replace S3 : St w0 w3 (rstT h q :: storeT g _ :: (tl ++ [cellsT w.heap.size 39 x.cs])) := S3
    obtain ⟨z1, z2, z3, z4⟩ := HC.out _ _ _ S3
    clear x0 x1 x2 x3 x4
    go_wp2_with fail
    refine (rqFence_any S3 x.term).mono ?_
    rintro e w4 ⟨rfl, S4⟩
    go_wp2
    go_ret
    exact HR.out _ _ _ (R.fence x.term) (Nat.le_succ _) (Nat.le_succ _) S4
  have g3 : (x.kind == 3) = false := by simpa using k3
  clear k3
  go_enter Try.func27, Try.ntmps27
  go_wp2
  go_ret
  exact HR.out _ _ _ R (Nat.le_succ _) (Nat.le_succ _) S1
end
end Go.Proofs.Ytiilhfmmclhflaa
