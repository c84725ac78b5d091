/- The document's store: Stage of bytes of the call's own. -/
import Derived.Test.YtchehnkmmmnonaaStoreRefs
namespace Go.Proofs.Ytchehnkmmmnonaa
set_option linter.unusedVariables false
set_option linter.unusedSimpArgs false
open Go.RowKit

section
variable {w0 w : World} {tl r0 : List Thing} {h : Nat} {q : QS}
set_option maxRecDepth 10000 in
set_option maxHeartbeats 3200000 in
theorem rqStageR_any (S : St w0 w (rstT h q :: tl)) (hm : q.L.length ≤ 100000) (hw : q.writes ≤ 1000000) (term jb ep : Int) (a : Option Addr) (b : List UInt8) (n cap : Nat) (hn : b.length = n) (hN : n ≤ 140737488355328) (hA : Reads w0 tl a b) :
    Calls Try.prog 25 #[.pointer (some ⟨h, 0, none⟩), .int .i64 term, .int .i64 jb, .int .i64 ep, .slice a n cap] w fun e w' => e = .returned (.int .i64 (qStage q term jb ep b).1) ∧ St w0 w' (rstT h (qStage q term jb ep b).2 :: tl) := by
  have HS := hid S
  obtain ⟨r, aL, cL, D, R, S1⟩ := S.rstO
  clear S
  obtain ⟨hq, hmem, hsmall⟩ := R
  have hlen := ROk.lens ⟨hq, hmem, hsmall⟩ S1
  have HB := hid (rsum_all (L := rwith r.L jb false) fun x hx => hlen x (rwith_mem hx))
  rw [rwith_pt] at HB
  have HE0 := hid (repoch_pt r.L jb false)
  have HE1 := hid (repoch_pt r.L jb true)
  have hm1 : r.L.length ≤ 100000 := by rw [← hq] at hm; simpa [RS.q] using hm
  have hm2 : r.L.length ≤ 1000000 := by omega
  have hw1 : r.writes ≤ 1000000 := by rw [← hq] at hw; exact hw
  have hE : qStage q term jb ep b = if term < r.term then (6, q)
      else if jb < 1 ∨ 24 < jb ∨ ep < 1 ∨ 1000000 < ep ∨ n < 1 ∨ 100 < n then (1, q)
      else if ep ≤ repoch r.L jb true ∨ ep < repoch r.L jb false then (6, q)
      else if ep = repoch r.L jb false then (0, q)
      else if r.room < (rsum (rwith r.L jb false) (rwith r.L jb false).length : Int) + n then (3, q)
      else (0, { q with L := pwith q.L jb false ++ [⟨jb, ep, false, b⟩], writes := q.writes + 1 }) := by
    unfold qStage
    rw [hn, HB.out, HE0.out, HE1.out, ← hq]; rfl
  clear HB HE0 HE1 hm hw hlen
  have c0 := S1.cell 0 rfl 1 rfl
  have c1 := S1.cell 0 rfl 0 rfl
  have HN := hid hn
  have HA := hid hA
  clear hn hA
  by_cases q0 : term < r.term
  · rw [show qStage q term jb ep b = (6, q) by rw [hE, if_pos q0]]
    have g : decide (term < r.term) = true := decide_eq_true q0
    clear hE q0 S1
    go_enter Try.func25, Try.ntmps25
    go_wp2
    go_ret
    exact ⟨rfl, HS.out⟩
  have g0 : decide (term < r.term) = false := decide_eq_false q0
  rw [if_neg q0] at hE
  by_cases q1 : jb < 1
  · rw [show qStage q term jb ep b = (1, q) by rw [hE, if_pos (.inl q1)]]
    have g : decide (jb < 1) = true := decide_eq_true q1
    clear hE q0 q1 S1
    go_enter Try.func25, Try.ntmps25
    go_wp2
    go_ret
    exact ⟨rfl, HS.out⟩
  have g1 : decide (jb < 1) = false := decide_eq_false q1
  by_cases q2 : 24 < jb
  · rw [show qStage q term jb ep b = (1, q) by rw [hE, if_pos (.inr (.inl q2))]]
    have g : decide (24 < jb) = true := decide_eq_true q2
    clear hE q0 q1 q2 S1
    go_enter Try.func25, Try.ntmps25
    go_wp2
    go_ret
    exact ⟨rfl, HS.out⟩
  have g2 : decide (24 < jb) = false := decide_eq_false q2
  by_cases q3 : ep < 1
  · rw [show qStage q term jb ep b = (1, q) by rw [hE, if_pos (.inr (.inr (.inl q3)))]]
    have g : decide (ep < 1) = true := decide_eq_true q3
    clear hE q0 q1 q2 q3 S1
    go_enter Try.func25, Try.ntmps25
    go_wp2
    go_ret
    exact ⟨rfl, HS.out⟩
  have g3 : decide (ep < 1) = false := decide_eq_false q3
  by_cases q4 : 1000000 < ep
  · rw [show qStage q term jb ep b = (1, q) by rw [hE, if_pos (.inr (.inr (.inr (.inl q4))))]]
    have g : decide (1000000 < ep) = true := decide_eq_true q4
    clear hE q0 q1 q2 q3 q4 S1
    go_enter Try.func25, Try.ntmps25
    go_wp2
    go_ret
    exact ⟨rfl, HS.out⟩
  have g4 : decide (1000000 < ep) = false := decide_eq_false q4
  by_cases q5 : n < 1
  · rw [show qStage q term jb ep b = (1, q) by rw [hE, if_pos (.inr (.inr (.inr (.inr (.inl q5)))))]]
    have g : decide ((n : Int) < 1) = true := decide_eq_true (by omega)
    have gn : decide (n < 1) = true := decide_eq_true q5
    have en : n = 0 := by omega
    subst en
    clear hE q0 q1 q2 q3 q4 q5 S1
    go_enter Try.func25, Try.ntmps25
    go_wp2
    go_ret
    exact ⟨rfl, HS.out⟩
  have g5 : decide ((n : Int) < 1) = false := decide_eq_false (by omega)
  have g5n : decide (n < 1) = false := decide_eq_false q5
  have g5z : decide (n = 0) = false := decide_eq_false (by omega)
  by_cases q6 : 100 < n
  · rw [show qStage q term jb ep b = (1, q) by rw [hE, if_pos (.inr (.inr (.inr (.inr (.inr q6)))))]]
    have g : decide ((100 : Int) < (n : Int)) = true := decide_eq_true (by omega)
    have gn : decide (100 < n) = true := decide_eq_true q6
    clear hE q0 q1 q2 q3 q4 q5 S1
    go_enter Try.func25, Try.ntmps25
    go_wp2
    go_ret
    exact ⟨rfl, HS.out⟩
  have g6 : decide ((100 : Int) < (n : Int)) = false := decide_eq_false (by omega)
  have g6n : decide (100 < n) = false := decide_eq_false q6
  rw [if_neg (by omega)] at hE
  obtain ⟨E0, hE0⟩ : ∃ E0, repoch r.L jb false = E0 := ⟨_, rfl⟩
  obtain ⟨E1, hE1⟩ : ∃ E1, repoch r.L jb true = E1 := ⟨_, rfl⟩
  rw [hE0, hE1] at hE
  have HE0 := hid hE0
  have HE1 := hid hE1
  clear hE0 hE1 q0 q1 q2 q3 q4
  by_cases q7 : ep ≤ E1
  · rw [show qStage q term jb ep b = (6, q) by rw [hE, if_pos (.inl q7)]]
    have g : decide (ep ≤ E1) = true := decide_eq_true q7
    clear hE q7
    go_enter Try.func25, Try.ntmps25
    go_wp2_with fail
    refine (rsEpoch_any S1 hm2 jb false).mono ?_
    rintro e w1 ⟨rfl, rfl⟩
    rw [HE0.out]
    go_wp2_with fail
    refine (rsEpoch_any S1 hm2 jb true).mono ?_
    rintro e w1 ⟨rfl, rfl⟩
    rw [HE1.out]
    go_wp2
    go_ret
    exact ⟨rfl, HS.out⟩
  have g7 : decide (ep ≤ E1) = false := decide_eq_false q7
  by_cases q8 : ep < E0
  · rw [show qStage q term jb ep b = (6, q) by rw [hE, if_pos (.inr q8)]]
    have g : decide (ep < E0) = true := decide_eq_true q8
    clear hE q7 q8
    go_enter Try.func25, Try.ntmps25
    go_wp2_with fail
    refine (rsEpoch_any S1 hm2 jb false).mono ?_
    rintro e w1 ⟨rfl, rfl⟩
    rw [HE0.out]
    go_wp2_with fail
    refine (rsEpoch_any S1 hm2 jb true).mono ?_
    rintro e w1 ⟨rfl, rfl⟩
    rw [HE1.out]
    go_wp2
    go_ret
    exact ⟨rfl, HS.out⟩
  have g8 : decide (ep < E0) = false := decide_eq_false q8
  rw [if_neg (by omega)] at hE
  by_cases q9 : ep = E0
  · rw [show qStage q term jb ep b = (0, q) by rw [hE, if_pos q9]]
    have g : (ep == E0) = true := by simpa using q9
    clear hE q7 q8 q9
    go_enter Try.func25, Try.ntmps25
    go_wp2_with fail
    refine (rsEpoch_any S1 hm2 jb false).mono ?_
    rintro e w1 ⟨rfl, rfl⟩
    rw [HE0.out]
    go_wp2_with fail
    refine (rsEpoch_any S1 hm2 jb true).mono ?_
    rintro e w1 ⟨rfl, rfl⟩
    rw [HE1.out]
    go_wp2
    go_ret
    exact ⟨rfl, HS.out⟩
  have g9 : (ep == E0) = false := by simpa using q9
  rw [if_neg q9] at hE
  clear q7 q8 q9
  obtain ⟨L2, hL2⟩ : ∃ L2, rwith r.L jb false = L2 := ⟨_, rfl⟩
  have HL2 := hid hL2
  have HM2 := hid (rwith_len r.L jb false)
  have HS2 : Hid (∀ x ∈ L2, x.d.n ≤ 100) := fun x hx => hsmall x (rwith_mem (hL2 ▸ hx))
  rw [hL2] at hE HM2
  obtain ⟨U, hU⟩ : ∃ U, rsum L2 L2.length = U := ⟨_, rfl⟩
  have HU := hid hU
  rw [hU] at hE
  obtain ⟨m, hm⟩ : ∃ m, L2.length = m := ⟨_, rfl⟩
  have HM := hid hm
  have hmm : m ≤ 100000 := by have := HM2.out; omega
  have hUU : U ≤ 10000000 := by
    have := rsum_le HS2.out L2.length (Nat.le_refl _)
    omega
  clear hU hL2 hm
  have HC : Hid (∀ w' a c, St w0 w' (ownT eRP (.slice a m c) L2 :: rstL h aL cL r (poolT D :: tl)) → w'.cell? ⟨h, 0, none⟩ = some (.int .i64 r.room)) := fun w' a c S' => S'.cell 1 rfl 0 rfl
  have hwr : IntKind.i64.wrap ((U : Int) + (n : Int)) = (U : Int) + (n : Int) := by rw [IntKind.wrap_i64]; omega
  by_cases q10 : r.room < (U : Int) + n
  · rw [show qStage q term jb ep b = (3, q) by rw [hE, if_pos q10]]
    have g : decide (r.room < IntKind.i64.wrap ((U : Int) + (n : Int))) = true := by rw [hwr]; exact decide_eq_true q10
    clear hE
    go_enter Try.func25, Try.ntmps25
    go_wp2_with fail
    refine (rsEpoch_any S1 hm2 jb false).mono ?_
    rintro e w1 ⟨rfl, rfl⟩
    rw [HE0.out]
    go_wp2_with fail
    refine (rsEpoch_any S1 hm2 jb true).mono ?_
    rintro e w1 ⟨rfl, rfl⟩
    rw [HE1.out]
    go_wp2_with fail
    refine (rsWithout_any S1 hm2 jb false).mono ?_
    rintro e w1 ⟨a1, k1, rfl, S2⟩
    rw [HL2.out, HM.out] at S2 ⊢
    go_wp2_with fail
    refine wp_region_held_drew (S := (fun w' => w'.cell? ⟨h, 0, none⟩ = some (.int .i64 r.room))) (by kernel_rfl) (by exact HC.out _ _ _ S2.drew) (fun hHeld => ?_)
    change wpAnyH _ _ _ _ _ 10 (Array.replicate 10 false) _ _
    refine wpAnyH_take (i := 0) (v := ?v1) (ops_at rfl) (by kernel_rfl) (by kernel_rfl) (by kernel_rfl) (fun _ _ _ h => h) (Or.inl ⟨by rfl, ?hy1⟩) (by assumption) ?rest1
    case hy1 => intro w' hSw; (try dsimp only at hSw); go_simp; try with_reducible rfl
    try simp only [Act.put, List.setIfInBounds_toArray, List.set_cons_zero, List.set_cons_succ]
    refine wpAnyH_take (i := 2) (v := ?v2) (ops_at rfl) (by kernel_rfl) (by kernel_rfl) (by kernel_rfl) (fun _ _ _ h => h) (Or.inl ⟨by rfl, ?hy2⟩) (by assumption) ?rest2
    case hy2 => intro w' hSw; (try dsimp only at hSw); go_simp; try with_reducible rfl
    try simp only [Act.put, List.setIfInBounds_toArray, List.set_cons_zero, List.set_cons_succ]
    refine wpAnyH_take (i := 3) (v := ?v3) (ops_at rfl) (by kernel_rfl) (by kernel_rfl) (by kernel_rfl) (fun _ _ _ h => h) (Or.inl ⟨by rfl, ?hy3⟩) (by assumption) ?rest3
    case hy3 => intro w' hSw; (try dsimp only at hSw); go_simp; try with_reducible rfl
    try simp only [Act.put, List.setIfInBounds_toArray, List.set_cons_zero, List.set_cons_succ]
    refine wpAnyH_take (i := 5) (v := ?v4) (ops_at rfl) (by kernel_rfl) (by kernel_rfl) (by kernel_rfl) (fun _ _ _ h => h) (Or.inl ⟨by rfl, ?hy4⟩) (by assumption) ?rest4
    case hy4 => intro w' hSw; (try dsimp only at hSw); go_simp; try with_reducible rfl
    try simp only [Act.put, List.setIfInBounds_toArray, List.set_cons_zero, List.set_cons_succ]
    refine wpAnyH_take (i := 6) (v := ?v5) (ops_at rfl) (by kernel_rfl) (by kernel_rfl) (by kernel_rfl) (fun _ _ _ h => h) (Or.inl ⟨by rfl, ?hy5⟩) (by assumption) ?rest5
    case hy5 => intro w' hSw; (try dsimp only at hSw); go_simp; try with_reducible rfl
    try simp only [Act.put, List.setIfInBounds_toArray, List.set_cons_zero, List.set_cons_succ]
    refine wpAnyH_take (i := 7) (v := ?v6) (ops_at rfl) (by kernel_rfl) (by kernel_rfl) (by kernel_rfl) (fun _ _ _ h => h) (Or.inl ⟨by rfl, ?hy6⟩) (by assumption) ?rest6
    case hy6 => intro w' hSw; (try dsimp only at hSw); go_simp; try with_reducible rfl
    try simp only [Act.put, List.setIfInBounds_toArray, List.set_cons_zero, List.set_cons_succ]
    refine wpAnyH_take (i := 8) (v := ?v7) (ops_at rfl) (by kernel_rfl) (by kernel_rfl) (by kernel_rfl) (fun _ _ _ h => h) (Or.inl ⟨by rfl, ?hy7⟩) (by assumption) ?rest7
    case hy7 => intro w' hSw; (try dsimp only at hSw); go_simp; try with_reducible rfl
    try simp only [Act.put, List.setIfInBounds_toArray, List.set_cons_zero, List.set_cons_succ]
    refine wpAnyH_ready (rs := [1]) (by kernel_rfl) (by simp) ?_
    refine AllReadyH.cons (ops_at rfl) (fun K hK => ?_) AllReadyH.nil
    go_simp
    refine (rsBytes_any a1 L2 m k1 w1.drew HM.out (by omega) (by exact (S2.drew.slG eRPok 0 rfl).2.2.2.2) HS2.out).mono ?_
    rintro e w3 ⟨rfl, rfl⟩
    have HM' := HM.out
    subst HM'
    rw [HU.out]
    have S3 := S2.drew
    refine hK.out _ _ (by exact HC.out _ _ _ S3) (fun hHeld => ?_)
    clear hK K
    try simp only [Act.put, List.setIfInBounds_toArray, List.set_cons_zero, List.set_cons_succ]
    refine wpAnyH_take (i := 4) (v := ?v9) (ops_at rfl) (by kernel_rfl) (by kernel_rfl) (by kernel_rfl) (fun _ _ _ h => h) (Or.inl ⟨by rfl, ?hy9⟩) (by assumption) ?rest9
    case hy9 => intro w' hSw; (try dsimp only at hSw); go_simp; try with_reducible rfl
    try simp only [Act.put, List.setIfInBounds_toArray, List.set_cons_zero, List.set_cons_succ]
    refine wpAnyH_take (i := 9) (v := ?v10) (ops_at rfl) (by kernel_rfl) (by kernel_rfl) (by kernel_rfl) (fun _ _ _ h => h) (Or.inl ⟨by rfl, ?hy10⟩) (by assumption) ?rest10
    case hy10 => intro w' hSw; (try dsimp only at hSw); go_simp; try with_reducible rfl
    try simp only [Act.put, List.setIfInBounds_toArray, List.set_cons_zero, List.set_cons_succ]
    refine wpAnyH_done (by kernel_rfl) ?_ _
    go_wp2
    all_goals first
      | (exfalso; omega)
      | (go_ret; exact ⟨rfl, St.rstI ⟨hq, hmem, hsmall⟩ S3.tail⟩)
  have g10 : decide (r.room < IntKind.i64.wrap ((U : Int) + (n : Int))) = false := by rw [hwr]; exact decide_eq_false q10
  rw [show qStage q term jb ep b = (0, { q with L := pwith q.L jb false ++ [⟨jb, ep, false, b⟩], writes := q.writes + 1 }) by rw [hE, if_neg q10]]
  clear hE
  go_enter Try.func25, Try.ntmps25
  go_wp2_with fail
  refine (rsEpoch_any S1 hm2 jb false).mono ?_
  rintro e w1 ⟨rfl, rfl⟩
  rw [HE0.out]
  go_wp2_with fail
  refine (rsEpoch_any S1 hm2 jb true).mono ?_
  rintro e w1 ⟨rfl, rfl⟩
  rw [HE1.out]
  go_wp2_with fail
  refine (rsWithout_any S1 hm2 jb false).mono ?_
  rintro e w1 ⟨a1, k1, rfl, S2⟩
  rw [HL2.out, HM.out] at S2 ⊢
  go_wp2_with fail
  refine wp_region_held_drew (S := (fun w' => w'.cell? ⟨h, 0, none⟩ = some (.int .i64 r.room))) (by kernel_rfl) (by exact HC.out _ _ _ S2.drew) (fun hHeld => ?_)
  change wpAnyH _ _ _ _ _ 10 (Array.replicate 10 false) _ _
  refine wpAnyH_take (i := 0) (v := ?v11) (ops_at rfl) (by kernel_rfl) (by kernel_rfl) (by kernel_rfl) (fun _ _ _ h => h) (Or.inl ⟨by rfl, ?hy11⟩) (by assumption) ?rest11
  case hy11 => intro w' hSw; (try dsimp only at hSw); go_simp; try with_reducible rfl
  try simp only [Act.put, List.setIfInBounds_toArray, List.set_cons_zero, List.set_cons_succ]
  refine wpAnyH_take (i := 2) (v := ?v12) (ops_at rfl) (by kernel_rfl) (by kernel_rfl) (by kernel_rfl) (fun _ _ _ h => h) (Or.inl ⟨by rfl, ?hy12⟩) (by assumption) ?rest12
  case hy12 => intro w' hSw; (try dsimp only at hSw); go_simp; try with_reducible rfl
  try simp only [Act.put, List.setIfInBounds_toArray, List.set_cons_zero, List.set_cons_succ]
  refine wpAnyH_take (i := 3) (v := ?v13) (ops_at rfl) (by kernel_rfl) (by kernel_rfl) (by kernel_rfl) (fun _ _ _ h => h) (Or.inl ⟨by rfl, ?hy13⟩) (by assumption) ?rest13
  case hy13 => intro w' hSw; (try dsimp only at hSw); go_simp; try with_reducible rfl
  try simp only [Act.put, List.setIfInBounds_toArray, List.set_cons_zero, List.set_cons_succ]
  refine wpAnyH_take (i := 5) (v := ?v14) (ops_at rfl) (by kernel_rfl) (by kernel_rfl) (by kernel_rfl) (fun _ _ _ h => h) (Or.inl ⟨by rfl, ?hy14⟩) (by assumption) ?rest14
  case hy14 => intro w' hSw; (try dsimp only at hSw); go_simp; try with_reducible rfl
  try simp only [Act.put, List.setIfInBounds_toArray, List.set_cons_zero, List.set_cons_succ]
  refine wpAnyH_take (i := 6) (v := ?v15) (ops_at rfl) (by kernel_rfl) (by kernel_rfl) (by kernel_rfl) (fun _ _ _ h => h) (Or.inl ⟨by rfl, ?hy15⟩) (by assumption) ?rest15
  case hy15 => intro w' hSw; (try dsimp only at hSw); go_simp; try with_reducible rfl
  try simp only [Act.put, List.setIfInBounds_toArray, List.set_cons_zero, List.set_cons_succ]
  refine wpAnyH_take (i := 7) (v := ?v16) (ops_at rfl) (by kernel_rfl) (by kernel_rfl) (by kernel_rfl) (fun _ _ _ h => h) (Or.inl ⟨by rfl, ?hy16⟩) (by assumption) ?rest16
  case hy16 => intro w' hSw; (try dsimp only at hSw); go_simp; try with_reducible rfl
  try simp only [Act.put, List.setIfInBounds_toArray, List.set_cons_zero, List.set_cons_succ]
  refine wpAnyH_take (i := 8) (v := ?v17) (ops_at rfl) (by kernel_rfl) (by kernel_rfl) (by kernel_rfl) (fun _ _ _ h => h) (Or.inl ⟨by rfl, ?hy17⟩) (by assumption) ?rest17
  case hy17 => intro w' hSw; (try dsimp only at hSw); go_simp; try with_reducible rfl
  try simp only [Act.put, List.setIfInBounds_toArray, List.set_cons_zero, List.set_cons_succ]
  refine wpAnyH_ready (rs := [1]) (by kernel_rfl) (by simp) ?_
  refine AllReadyH.cons (ops_at rfl) (fun K hK => ?_) AllReadyH.nil
  go_simp
  refine (rsBytes_any a1 L2 m k1 w1.drew HM.out (by omega) (by exact (S2.drew.slG eRPok 0 rfl).2.2.2.2) HS2.out).mono ?_
  rintro e w3 ⟨rfl, rfl⟩
  have HM' := HM.out
  subst HM'
  rw [HU.out]
  have S3 := S2.drew
  refine hK.out _ _ (by exact HC.out _ _ _ S3) (fun hHeld => ?_)
  clear hK K
  try simp only [Act.put, List.setIfInBounds_toArray, List.set_cons_zero, List.set_cons_succ]
  refine wpAnyH_take (i := 4) (v := ?v19) (ops_at rfl) (by kernel_rfl) (by kernel_rfl) (by kernel_rfl) (fun _ _ _ h => h) (Or.inl ⟨by rfl, ?hy19⟩) (by assumption) ?rest19
  case hy19 => intro w' hSw; (try dsimp only at hSw); go_simp; try with_reducible rfl
  try simp only [Act.put, List.setIfInBounds_toArray, List.set_cons_zero, List.set_cons_succ]
  refine wpAnyH_take (i := 9) (v := ?v20) (ops_at rfl) (by kernel_rfl) (by kernel_rfl) (by kernel_rfl) (fun _ _ _ h => h) (Or.inl ⟨by rfl, ?hy20⟩) (by assumption) ?rest20
  case hy20 => intro w' hSw; (try dsimp only at hSw); go_simp; try with_reducible rfl
  try simp only [Act.put, List.setIfInBounds_toArray, List.set_cons_zero, List.set_cons_succ]
  refine wpAnyH_done (by kernel_rfl) ?_ _
  go_wp2_with first
    | (at_builtin; refine wpList_app (by rfl) (.tmp 76) (.tmp 77) 38 38 38 rfl rfl _ _ rfl rfl (S3.lit0.rot.app 0 rfl a b n cap HN.out (by exact HA.out _ [_, _, _, _] (S3.alloc _)) n (by simp) (by omega)) ?_; rintro v5 w5 ⟨⟨a5, c5, rfl⟩, S5⟩)
    | (at_builtin; refine wpList_app (by rfl) (.tmp 73) (.tmp 80) eRP.T eRP.T eRP.T rfl rfl _ _ rfl rfl (S5.appG1 eRPok w5.heap.size rfl 1 rfl ⟨jb, ep, false, ⟨a5, n, c5, b⟩⟩ _ (by rfl) (L2.length + 1) rfl (by show _ * 48 ≤ _; omega) (by unfold maxLen; omega)) ?_; rintro v6 w6 ⟨⟨a6, c6, rfl⟩, S6⟩; have f6 := S6.frozen 2 rfl 2; have d6 := S6.cell 2 rfl 2 rfl; have f7 := S6.frozen 2 rfl 3; have d7 := S6.cell 2 rfl 3 rfl)
  all_goals first
    | (exfalso; omega)
    | skip
  go_ret
  refine ⟨rfl, ?_⟩
  have S7 := (S6.setCell 2 rfl 2 (.slice a6 (L2.length + 1) c6)).setCell 2 rfl 3 (.int .i64 ((r.writes : Int) + 1))
  have S8 : St w0 _ (poolT D :: bytesT (.slice a5 n c5) b :: _) := (((S7.front 3 rfl).tail).front 3 rfl)
  have S9 := S8.poolAdd
  refine St.rstI (r := { r with L := L2 ++ [⟨jb, ep, false, ⟨a5, n, c5, b⟩⟩], writes := r.writes + 1 }) (aL := a6) (cL := c6) (D := ⟨a5, n, c5, b⟩ :: D) ⟨?_, ?_, ?_⟩ (St.conv ((S9.front 1 rfl).front 2 rfl) ?_)
  · rw [← hq, ← HL2.out]
    have e := rwith_pt r.L jb false
    simp [RS.q, RP.pt, e]
  · intro x hx
    rcases List.mem_append.1 hx with hx | hx
    · exact List.mem_cons_of_mem _ (hmem x (rwith_mem (HL2.out ▸ hx)))
    · rw [List.mem_singleton] at hx; subst hx; exact List.mem_cons_self
  · intro x hx
    rcases List.mem_append.1 hx with hx | hx
    · exact HS2.out x hx
    · rw [List.mem_singleton] at hx; subst hx; show n ≤ 100; omega
  · simp [rstL, rstC]
end
end Go.Proofs.Ytchehnkmmmnonaa
