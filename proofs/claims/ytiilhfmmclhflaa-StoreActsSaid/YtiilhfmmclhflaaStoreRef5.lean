/- The document's store: Commit. -/
import Derived.Test.YtiilhfmmclhflaaStoreRef4
import Derived.Test.YtiilhfmmclhflaaHeld
namespace Go.Proofs.Ytiilhfmmclhflaa
set_option linter.unusedVariables false
set_option linter.unusedSimpArgs false
open Go.RowKit
section
variable {w0 w : World} {tl r0 : List Thing} {h : Nat} {aL : Option Addr} {cL : Nat} {r : RS}
def rCommit (r : RS) (job ep : Int) : Int × RS :=
  if 0 < ep ∧ repoch r.L job true = ep then (0, r)
  else match r.L.find? (rm job false) with
    | none => (4, r)
    | some x => if x.ep ≠ ep then (4, r) else (0, { rEnd r job with L := (rEnd r job).L ++ [{ x with cnt := true }] })
def RIPost (w0 : World) (h : Nat) (tl : List Thing) (q : Int × RS) (e : Ending) (w' : World) : Prop := ∃ a c, e = .returned (.int .i64 q.1) ∧ St w0 w' (rstL h a c q.2 tl)
theorem rEnd_len (r : RS) (job : Int) : (rEnd r job).L.length ≤ r.L.length := Nat.le_trans (rwith_len _ _ _) (rwith_len _ _ _)
set_option maxRecDepth 10000 in
set_option maxHeartbeats 3200000 in
theorem rsCommit_any (S : St w0 w (rstL h aL cL r tl)) (hm : r.L.length ≤ 100000) (job ep : Int) :
    Calls Try.prog 49 #[.pointer (some ⟨h, 0, none⟩), .int .i64 job, .int .i64 ep] w (RIPost w0 h tl (rCommit r job ep)) := by
  have hm2 : r.L.length ≤ 1000000 := by omega
  obtain ⟨E1, hE1⟩ : ∃ E1, repoch r.L job true = E1 := ⟨_, rfl⟩
  have HE1 := hid hE1
  by_cases hA : 0 < ep ∧ E1 = ep
  · have HR : Hid (rCommit r job ep = (0, r)) := by rw [Hid, rCommit, if_pos (by rw [hE1]; exact hA)]
    have g0 : decide (0 < ep) = true := decide_eq_true hA.1
    have g1 : (E1 == ep) = true := by simpa using hA.2
    clear hA hE1
    go_enter Try.func49, Try.ntmps49
    go_wp2_with fail
    refine (rsEpoch_any S hm2 job true).mono ?_
    rintro e w1 ⟨rfl, rfl⟩
    rw [HE1.out]
    go_wp2
    go_ret
    rw [HR.out]
    exact ⟨aL, cL, rfl, S⟩
  have HR : Hid (rCommit r job ep = match r.L.find? (rm job false) with
    | none => (4, r)
    | some x => if x.ep ≠ ep then (4, r) else (0, { rEnd r job with L := (rEnd r job).L ++ [{ x with cnt := true }] })) := by rw [Hid, rCommit, if_neg (by rw [hE1]; exact hA)]
  have HG : Hid (0 < ep → (E1 == ep) = false) := fun h => by simpa using fun h2 => hA ⟨h, h2⟩
  clear hA hE1
  rcases rfind_cases r.L job false with ⟨h1, h2⟩ | ⟨k, hk, h1, h2, h3⟩
  · have HR2 : Hid (rCommit r job ep = (4, r)) := by rw [Hid, HR.out, find_no h2]
    have HF := hid h1
    clear h1 h2 HR
    rcases Decidable.em (0 < ep) with hep | hep
    · have g0 : decide (0 < ep) = true := decide_eq_true hep
      have g1 := HG.out hep
      clear hep
      go_enter Try.func49, Try.ntmps49
      go_wp2_with fail
      refine (rsEpoch_any S hm2 job true).mono ?_
      rintro e w1 ⟨rfl, rfl⟩
      rw [HE1.out]
      go_wp2_with fail
      refine (rsFind_any S hm2 job false).mono ?_
      rintro e w1 ⟨rfl, rfl⟩
      rw [HF.out]
      go_wp2
      go_ret
      rw [HR2.out]
      exact ⟨aL, cL, rfl, S⟩
    · have g0 : decide (0 < ep) = false := decide_eq_false hep
      clear hep
      go_enter Try.func49, Try.ntmps49
      go_wp2_with fail
      refine (rsFind_any S hm2 job false).mono ?_
      rintro e w1 ⟨rfl, rfl⟩
      rw [HF.out]
      go_wp2
      go_ret
      rw [HR2.out]
      exact ⟨aL, cL, rfl, S⟩
  have HF := hid h1
  have c0 := S.cell 0 rfl 2 rfl
  have hAt := (S.slG eRPok 1 rfl).2.2.2.2
  have i0 := fun wx => idxRP aL r.L.length cL (fun h => hAt.ok (by omega)) k hk wx
  obtain ⟨y0, y1, y2, y3⟩ := hAt.rpAt hk
  have gk : decide ((k : Int) < 0) = false := decide_eq_false (by omega)
  have HR3 := hid HR.out
  rw [find_of hk h2 h3] at HR3
  clear h1 h2 h3 hAt HR
  generalize r.L[k] = x at *
  generalize adr aL (k * 4) = A at *
  have gki : ((k : Int) < 0) = False := by simp
  by_cases hx : x.ep = ep
  case neg =>
    have HR2 : Hid (rCommit r job ep = (4, r)) := by rw [Hid, HR3.out]; simp [hx]
    have q1 : (x.ep != ep) = true := by simpa using hx
    have q2 : (x.ep == ep) = false := by simpa using hx
    clear HR3 hx
    rcases Decidable.em (0 < ep) with hep | hep
    · have g0 : decide (0 < ep) = true := decide_eq_true hep
      have g1 := HG.out hep
      clear hep
      go_enter Try.func49, Try.ntmps49
      go_wp2_with fail
      refine (rsEpoch_any S hm2 job true).mono ?_
      rintro e w1 ⟨rfl, rfl⟩
      rw [HE1.out]
      go_wp2_with fail
      refine (rsFind_any S hm2 job false).mono ?_
      rintro e w1 ⟨rfl, rfl⟩
      rw [HF.out]
      go_wp2
      go_ret
      rw [HR2.out]
      exact ⟨aL, cL, rfl, S⟩
    · have g0 : decide (0 < ep) = false := decide_eq_false hep
      clear hep
      go_enter Try.func49, Try.ntmps49
      go_wp2_with fail
      refine (rsFind_any S hm2 job false).mono ?_
      rintro e w1 ⟨rfl, rfl⟩
      rw [HF.out]
      go_wp2
      go_ret
      rw [HR2.out]
      exact ⟨aL, cL, rfl, S⟩
  have HR2 : Hid (rCommit r job ep = (0, { rEnd r job with L := (rEnd r job).L ++ [{ x with cnt := true }] })) := by rw [Hid, HR3.out]; simp [hx]
  have q1 : (x.ep != ep) = false := by simpa using hx
  have q2 : (x.ep == ep) = true := by simpa using hx
  clear HR3 hx
  have S7 : St w0 (w.alloc (.cells #[.int .i64 x.job, .int .i64 x.ep, .bool true, .slice x.d.a x.d.n x.d.c] 92)) (rstL h aL cL r (tl ++ [cellsT w.heap.size 92 [.int .i64 x.job, .int .i64 x.ep, .bool true, .slice x.d.a x.d.n x.d.c]])) := newAtG S _ _ _ rfl
  rcases Decidable.em (0 < ep) with hep | hep
  · have g0 : decide (0 < ep) = true := decide_eq_true hep
    have g1 := HG.out hep
    clear hep
    go_enter Try.func49, Try.ntmps49
    go_wp2_with fail
    refine (rsEpoch_any S hm2 job true).mono ?_
    rintro e w1 ⟨rfl, rfl⟩
    rw [HE1.out]
    go_wp2_with fail
    refine (rsFind_any S hm2 job false).mono ?_
    rintro e w1 ⟨rfl, rfl⟩
    rw [HF.out]
    go_wp2_with fail
    refine (rsEnd_any S7 hm2 job).mono ?_
    rintro e w8 ⟨a8, c8, rfl, S8⟩
    have S9 : St w0 w8 (cellsT w.heap.size 92 [.int .i64 x.job, .int .i64 x.ep, .bool true, .slice x.d.a x.d.n x.d.c] :: rstL h a8 c8 (rEnd r job) tl) := (S8 : St w0 w8 (rstL h a8 c8 (rEnd r job) tl ++ [_])).rot
    have hl2 := rEnd_len r job
    obtain ⟨r2, hr2⟩ : ∃ r2, rEnd r job = r2 := ⟨_, rfl⟩
    rw [hr2] at HR2 S9 hl2
    clear S8 S7 y0 y1 y2 y3 i0 c0 hr2
    generalize w.heap.size = B at *
    have HC : Hid (∀ w' l, St w0 w' (cellsT B 92 [.int .i64 x.job, .int .i64 x.ep, .bool true, .slice x.d.a x.d.n x.d.c] :: rstL h a8 c8 r2 l) → (w'.cell? ⟨B, 0, none⟩ = some (.int .i64 x.job) ∧ w'.cell? ⟨B, 1, none⟩ = some (.int .i64 x.ep) ∧ w'.cell? ⟨B, 2, none⟩ = some (.bool true) ∧ w'.cell? ⟨B, 3, none⟩ = some (.slice x.d.a x.d.n x.d.c) ∧ w'.cell? ⟨h, 2, none⟩ = some (.slice a8 r2.L.length c8))) := fun w' l S' => ⟨S'.cell 0 rfl 0 rfl, S'.cell 0 rfl 1 rfl, S'.cell 0 rfl 2 rfl, S'.cell 0 rfl 3 rfl, S'.cell 1 rfl 2 rfl⟩
    go_wp2_with fail
    refine wp_region_heldZ (S := (fun w' => (w'.cell? ⟨B, 0, none⟩ = some (.int .i64 x.job) ∧ w'.cell? ⟨B, 1, none⟩ = some (.int .i64 x.ep) ∧ w'.cell? ⟨B, 2, none⟩ = some (.bool true) ∧ w'.cell? ⟨B, 3, none⟩ = some (.slice x.d.a x.d.n x.d.c) ∧ w'.cell? ⟨h, 2, none⟩ = some (.slice a8 r2.L.length c8)))) 7 (by kernel_rfl) (by exact HC.out _ _ S9.drew) (fun hHeld => ?_)
    change wpAnyZ _ _ _ _ _ 7 11 (Array.replicate 11 false) _ _
    refine wpAnyZ_pure (i := 0) (v := ?v1) (ops_at rfl) (by kernel_rfl) (by kernel_rfl) (by kernel_rfl) (by kernel_rfl) (by rfl) (fun _ _ _ h => h) (Or.inl ⟨by rfl, ?hy1⟩) (fun _ => by assumption) ?rest1
    case hy1 => intro w' hSw; (try dsimp only at hSw); go_simp; try with_reducible rfl
    try simp only [Act.put, List.setIfInBounds_toArray, List.set_cons_zero, List.set_cons_succ]
    refine wpAnyZ_take (i := 1) (v := ?v2) (ops_at rfl) (by kernel_rfl) (by kernel_rfl) (by kernel_rfl) (by kernel_rfl) [2, 3, 4, 7] (by kernel_rfl) (by rfl) (fun _ _ _ h => h) (Or.inl ⟨by rfl, ?hy2⟩) (by assumption) ?rest2
    case hy2 => intro w' hSw; (try dsimp only at hSw); go_simp; try with_reducible rfl
    try simp only [Act.put, List.setIfInBounds_toArray, List.set_cons_zero, List.set_cons_succ]
    refine wpAnyZ_take (i := 2) (v := ?v3) (ops_at rfl) (by kernel_rfl) (by kernel_rfl) (by kernel_rfl) (by kernel_rfl) [3, 4, 7] (by kernel_rfl) (by rfl) (fun _ _ _ h => h) (Or.inl ⟨by rfl, ?hy3⟩) (by assumption) ?rest3
    case hy3 => intro w' hSw; (try dsimp only at hSw); go_simp; try with_reducible rfl
    try simp only [Act.put, List.setIfInBounds_toArray, List.set_cons_zero, List.set_cons_succ]
    refine wpAnyZ_take (i := 3) (v := ?v4) (ops_at rfl) (by kernel_rfl) (by kernel_rfl) (by kernel_rfl) (by kernel_rfl) [4, 7] (by kernel_rfl) (by rfl) (fun _ _ _ h => h) (Or.inl ⟨by rfl, ?hy4⟩) (by assumption) ?rest4
    case hy4 => intro w' hSw; (try dsimp only at hSw); go_simp; try with_reducible rfl
    try simp only [Act.put, List.setIfInBounds_toArray, List.set_cons_zero, List.set_cons_succ]
    refine wpAnyZ_take (i := 4) (v := ?v5) (ops_at rfl) (by kernel_rfl) (by kernel_rfl) (by kernel_rfl) (by kernel_rfl) [7] (by kernel_rfl) (by rfl) (fun _ _ _ h => h) (Or.inl ⟨by rfl, ?hy5⟩) (by assumption) ?rest5
    case hy5 => intro w' hSw; (try dsimp only at hSw); go_simp; try with_reducible rfl
    try simp only [Act.put, List.setIfInBounds_toArray, List.set_cons_zero, List.set_cons_succ]
    refine wpAnyZ_take (i := 5) (v := ?v6) (ops_at rfl) (by kernel_rfl) (by kernel_rfl) (by kernel_rfl) (by kernel_rfl) [6, 7] (by kernel_rfl) (by rfl) (fun _ _ _ h => h) (Or.inl ⟨by rfl, ?hy6⟩) (by assumption) ?rest6
    case hy6 => intro w' hSw; (try dsimp only at hSw); go_simp; try with_reducible rfl
    try simp only [Act.put, List.setIfInBounds_toArray, List.set_cons_zero, List.set_cons_succ]
    refine wpAnyZ_one (i := 6) (by kernel_rfl) (ops_at rfl) (fun K hK => ?_)
    go_simp
    refine hK.out _ _ (by exact HC.out _ _ (S9.drew.alloc _)) (fun hHeld => ?_)
    clear hK K
    try simp only [Act.put, List.setIfInBounds_toArray, List.set_cons_zero, List.set_cons_succ]
    refine wpAnyZ_free (i := 7) (by kernel_rfl) (ops_at rfl) (by kernel_rfl) (fun K hK => ?_)
    refine step_app (by rfl) (.tmp 50) (.tmp 52) eRP.T eRP.T eRP.T rfl rfl _ _ rfl rfl (S9.drew.appG1 eRPok w8.heap.size rfl 2 rfl { x with cnt := true } _ (by rfl) (r2.L.length + 1) rfl (by show _ * 48 ≤ _; omega) (by unfold maxLen; omega)) ?_
    rintro v6 w6 ⟨⟨a6, c6, rfl⟩, S6⟩
    have f6 := S6.frozen 1 rfl 2
    have d6 := S6.cell 1 rfl 2 rfl
    refine hK.out _ _ ?_
    clear hK K
    try simp only [Act.put, List.setIfInBounds_toArray, List.set_cons_zero, List.set_cons_succ]
    refine wpAnyZ_pure (i := 8) (v := ?v7) (ops_at rfl) (by kernel_rfl) (by kernel_rfl) (by kernel_rfl) (by kernel_rfl) (by rfl) (fun _ _ _ h => h) (Or.inl ⟨by rfl, ?hy7⟩) (fun h => absurd h (by decide)) ?rest7
    case hy7 => intro w' hSw; (try dsimp only at hSw); go_simp; try with_reducible rfl
    try simp only [Act.put, List.setIfInBounds_toArray, List.set_cons_zero, List.set_cons_succ]
    refine wpAnyZ_pure (i := 9) (v := ?v8) (ops_at rfl) (by kernel_rfl) (by kernel_rfl) (by kernel_rfl) (by kernel_rfl) (by rfl) (fun _ _ _ h => h) (Or.inl ⟨by rfl, ?hy8⟩) (fun h => absurd h (by decide)) ?rest8
    case hy8 => intro w' hSw; (try dsimp only at hSw); go_simp; try with_reducible rfl
    try simp only [Act.put, List.setIfInBounds_toArray, List.set_cons_zero, List.set_cons_succ]
    refine wpAnyZ_free (i := 10) (by kernel_rfl) (ops_at rfl) (by kernel_rfl) (fun K hK => ?_)
    go_simp
    refine hK.out _ _ ?_
    clear hK K
    try simp only [Act.put, List.setIfInBounds_toArray, List.set_cons_zero, List.set_cons_succ]
    refine wpAnyZ_done (by kernel_rfl) ?_ _
    have S10 := (S6.setCell 1 rfl 2 (.slice a6 (r2.L.length + 1) c6)).tail
    go_wp2
    go_ret
    rw [HR2.out]
    refine ⟨a6, c6, rfl, St.conv S10 ?_⟩
    simp [rstL, rstC]
  · have g0 : decide (0 < ep) = false := decide_eq_false hep
    clear hep
    go_enter Try.func49, Try.ntmps49
    go_wp2_with fail
    refine (rsFind_any S hm2 job false).mono ?_
    rintro e w1 ⟨rfl, rfl⟩
    rw [HF.out]
    go_wp2_with fail
    refine (rsEnd_any S7 hm2 job).mono ?_
    rintro e w8 ⟨a8, c8, rfl, S8⟩
    have S9 : St w0 w8 (cellsT w.heap.size 92 [.int .i64 x.job, .int .i64 x.ep, .bool true, .slice x.d.a x.d.n x.d.c] :: rstL h a8 c8 (rEnd r job) tl) := (S8 : St w0 w8 (rstL h a8 c8 (rEnd r job) tl ++ [_])).rot
    have hl2 := rEnd_len r job
    obtain ⟨r2, hr2⟩ : ∃ r2, rEnd r job = r2 := ⟨_, rfl⟩
    rw [hr2] at HR2 S9 hl2
    clear S8 S7 y0 y1 y2 y3 i0 c0 hr2
    generalize w.heap.size = B at *
    have HC : Hid (∀ w' l, St w0 w' (cellsT B 92 [.int .i64 x.job, .int .i64 x.ep, .bool true, .slice x.d.a x.d.n x.d.c] :: rstL h a8 c8 r2 l) → (w'.cell? ⟨B, 0, none⟩ = some (.int .i64 x.job) ∧ w'.cell? ⟨B, 1, none⟩ = some (.int .i64 x.ep) ∧ w'.cell? ⟨B, 2, none⟩ = some (.bool true) ∧ w'.cell? ⟨B, 3, none⟩ = some (.slice x.d.a x.d.n x.d.c) ∧ w'.cell? ⟨h, 2, none⟩ = some (.slice a8 r2.L.length c8))) := fun w' l S' => ⟨S'.cell 0 rfl 0 rfl, S'.cell 0 rfl 1 rfl, S'.cell 0 rfl 2 rfl, S'.cell 0 rfl 3 rfl, S'.cell 1 rfl 2 rfl⟩
    go_wp2_with fail
    refine wp_region_heldZ (S := (fun w' => (w'.cell? ⟨B, 0, none⟩ = some (.int .i64 x.job) ∧ w'.cell? ⟨B, 1, none⟩ = some (.int .i64 x.ep) ∧ w'.cell? ⟨B, 2, none⟩ = some (.bool true) ∧ w'.cell? ⟨B, 3, none⟩ = some (.slice x.d.a x.d.n x.d.c) ∧ w'.cell? ⟨h, 2, none⟩ = some (.slice a8 r2.L.length c8)))) 7 (by kernel_rfl) (by exact HC.out _ _ S9.drew) (fun hHeld => ?_)
    change wpAnyZ _ _ _ _ _ 7 11 (Array.replicate 11 false) _ _
    refine wpAnyZ_pure (i := 0) (v := ?v9) (ops_at rfl) (by kernel_rfl) (by kernel_rfl) (by kernel_rfl) (by kernel_rfl) (by rfl) (fun _ _ _ h => h) (Or.inl ⟨by rfl, ?hy9⟩) (fun _ => by assumption) ?rest9
    case hy9 => intro w' hSw; (try dsimp only at hSw); go_simp; try with_reducible rfl
    try simp only [Act.put, List.setIfInBounds_toArray, List.set_cons_zero, List.set_cons_succ]
    refine wpAnyZ_take (i := 1) (v := ?v10) (ops_at rfl) (by kernel_rfl) (by kernel_rfl) (by kernel_rfl) (by kernel_rfl) [2, 3, 4, 7] (by kernel_rfl) (by rfl) (fun _ _ _ h => h) (Or.inl ⟨by rfl, ?hy10⟩) (by assumption) ?rest10
    case hy10 => intro w' hSw; (try dsimp only at hSw); go_simp; try with_reducible rfl
    try simp only [Act.put, List.setIfInBounds_toArray, List.set_cons_zero, List.set_cons_succ]
    refine wpAnyZ_take (i := 2) (v := ?v11) (ops_at rfl) (by kernel_rfl) (by kernel_rfl) (by kernel_rfl) (by kernel_rfl) [3, 4, 7] (by kernel_rfl) (by rfl) (fun _ _ _ h => h) (Or.inl ⟨by rfl, ?hy11⟩) (by assumption) ?rest11
    case hy11 => intro w' hSw; (try dsimp only at hSw); go_simp; try with_reducible rfl
    try simp only [Act.put, List.setIfInBounds_toArray, List.set_cons_zero, List.set_cons_succ]
    refine wpAnyZ_take (i := 3) (v := ?v12) (ops_at rfl) (by kernel_rfl) (by kernel_rfl) (by kernel_rfl) (by kernel_rfl) [4, 7] (by kernel_rfl) (by rfl) (fun _ _ _ h => h) (Or.inl ⟨by rfl, ?hy12⟩) (by assumption) ?rest12
    case hy12 => intro w' hSw; (try dsimp only at hSw); go_simp; try with_reducible rfl
    try simp only [Act.put, List.setIfInBounds_toArray, List.set_cons_zero, List.set_cons_succ]
    refine wpAnyZ_take (i := 4) (v := ?v13) (ops_at rfl) (by kernel_rfl) (by kernel_rfl) (by kernel_rfl) (by kernel_rfl) [7] (by kernel_rfl) (by rfl) (fun _ _ _ h => h) (Or.inl ⟨by rfl, ?hy13⟩) (by assumption) ?rest13
    case hy13 => intro w' hSw; (try dsimp only at hSw); go_simp; try with_reducible rfl
    try simp only [Act.put, List.setIfInBounds_toArray, List.set_cons_zero, List.set_cons_succ]
    refine wpAnyZ_take (i := 5) (v := ?v14) (ops_at rfl) (by kernel_rfl) (by kernel_rfl) (by kernel_rfl) (by kernel_rfl) [6, 7] (by kernel_rfl) (by rfl) (fun _ _ _ h => h) (Or.inl ⟨by rfl, ?hy14⟩) (by assumption) ?rest14
    case hy14 => intro w' hSw; (try dsimp only at hSw); go_simp; try with_reducible rfl
    try simp only [Act.put, List.setIfInBounds_toArray, List.set_cons_zero, List.set_cons_succ]
    refine wpAnyZ_one (i := 6) (by kernel_rfl) (ops_at rfl) (fun K hK => ?_)
    go_simp
    refine hK.out _ _ (by exact HC.out _ _ (S9.drew.alloc _)) (fun hHeld => ?_)
    clear hK K
    try simp only [Act.put, List.setIfInBounds_toArray, List.set_cons_zero, List.set_cons_succ]
    refine wpAnyZ_free (i := 7) (by kernel_rfl) (ops_at rfl) (by kernel_rfl) (fun K hK => ?_)
    refine step_app (by rfl) (.tmp 50) (.tmp 52) eRP.T eRP.T eRP.T rfl rfl _ _ rfl rfl (S9.drew.appG1 eRPok w8.heap.size rfl 2 rfl { x with cnt := true } _ (by rfl) (r2.L.length + 1) rfl (by show _ * 48 ≤ _; omega) (by unfold maxLen; omega)) ?_
    rintro v6 w6 ⟨⟨a6, c6, rfl⟩, S6⟩
    have f6 := S6.frozen 1 rfl 2
    have d6 := S6.cell 1 rfl 2 rfl
    refine hK.out _ _ ?_
    clear hK K
    try simp only [Act.put, List.setIfInBounds_toArray, List.set_cons_zero, List.set_cons_succ]
    refine wpAnyZ_pure (i := 8) (v := ?v15) (ops_at rfl) (by kernel_rfl) (by kernel_rfl) (by kernel_rfl) (by kernel_rfl) (by rfl) (fun _ _ _ h => h) (Or.inl ⟨by rfl, ?hy15⟩) (fun h => absurd h (by decide)) ?rest15
    case hy15 => intro w' hSw; (try dsimp only at hSw); go_simp; try with_reducible rfl
    try simp only [Act.put, List.setIfInBounds_toArray, List.set_cons_zero, List.set_cons_succ]
    refine wpAnyZ_pure (i := 9) (v := ?v16) (ops_at rfl) (by kernel_rfl) (by kernel_rfl) (by kernel_rfl) (by kernel_rfl) (by rfl) (fun _ _ _ h => h) (Or.inl ⟨by rfl, ?hy16⟩) (fun h => absurd h (by decide)) ?rest16
    case hy16 => intro w' hSw; (try dsimp only at hSw); go_simp; try with_reducible rfl
    try simp only [Act.put, List.setIfInBounds_toArray, List.set_cons_zero, List.set_cons_succ]
    refine wpAnyZ_free (i := 10) (by kernel_rfl) (ops_at rfl) (by kernel_rfl) (fun K hK => ?_)
    go_simp
    refine hK.out _ _ ?_
    clear hK K
    try simp only [Act.put, List.setIfInBounds_toArray, List.set_cons_zero, List.set_cons_succ]
    refine wpAnyZ_done (by kernel_rfl) ?_ _
    have S10 := (S6.setCell 1 rfl 2 (.slice a6 (r2.L.length + 1) c6)).tail
    go_wp2
    go_ret
    rw [HR2.out]
    refine ⟨a6, c6, rfl, St.conv S10 ?_⟩
    simp [rstL, rstC]
end

end Go.Proofs.Ytiilhfmmclhflaa
