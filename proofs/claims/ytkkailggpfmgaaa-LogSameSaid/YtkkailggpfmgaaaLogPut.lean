/- log: Put, Append, Used, Clear. -/
import Derived.Test.YtkkailggpfmgaaaLogWalk
namespace Go.Proofs.Ytkkailggpfmgaaa
set_option linter.unusedVariables false
set_option linter.unusedSimpArgs false
open Go.RowKit

/-- What Put makes: an error's number, the disk, how much is used. -/
def logPut (d : DSt) (fr sz used : Nat) (p : List UInt8) : Int × DSt × Nat :=
  if p.length = 0 ∨ 4000 < p.length then (1, d, used)
  else if roomB sz used p.length = false then (3, d, used)
  else (0, d.write ((fr + used : Nat) : Int) (frameB p), used + (frameB p).length)

section
variable {w0 w : World} {tl : List Thing} {pd : Value} {d : DSt} {g fr sz used : Nat}
set_option maxRecDepth 10000 in
set_option maxHeartbeats 1600000 in
theorem logPut_any (S : St w0 w (cellsT g 81 (logC pd fr sz used) :: diskT pd d :: tl)) (a : Option Addr) (l : List UInt8) (n cap : Nat) (hn : l.length = n) (hm : n ≤ maxLen) (hcap : n ≤ cap) (hnil : a = none → cap = 0) (hA : Reads w0 tl a l)
    (hf : fr + sz ≤ d.lasts.length) (hu : used ≤ sz) (hw : d.waits.length ≤ 10000) :
    Calls Try.prog 18 #[.pointer (some ⟨g, 0, none⟩), .slice a n cap] w fun e w' => e = .returned (.int .i64 (logPut d fr sz used l).1) ∧ St w0 w' (cellsT g 81 (logC pd fr sz (logPut d fr sz used l).2.2) :: diskT pd (logPut d fr sz used l).2.1 :: tl) := by
  have hN := (S.disk 1 rfl).2.2.1
  have HN := hid hn
  have HA := hid hA
  have HNil := hid hnil
  unfold maxLen at hm
  clear hA hnil
  by_cases q1 : n = 0 ∨ 4000 < n
  · have e : logPut d fr sz used l = (1, d, used) := by unfold logPut; rw [hn, if_pos q1]
    rw [e]
    clear e hn
    rcases q1 with rfl | q1
    · go_enter Try.func18, Try.ntmps18
      go_wp2
      go_ret
      exact ⟨rfl, S⟩
    · have g1 : ((n : Int) == 0) = false := by simp; omega
      have g2 : decide ((4000 : Int) < (n : Int)) = true := decide_eq_true (by omega)
      go_enter Try.func18, Try.ntmps18
      go_wp2
      go_ret
      exact ⟨rfl, S⟩
  have g1 : ((n : Int) == 0) = false := by simp; omega
  have g2 : decide ((4000 : Int) < (n : Int)) = false := decide_eq_false (by omega)
  by_cases q2 : roomB sz used n = false
  · have e : logPut d fr sz used l = (3, d, used) := by unfold logPut; rw [hn, if_neg q1, if_pos q2]
    have Q2 := hid q2
    rw [e]
    clear e hn q2
    go_enter Try.func18, Try.ntmps18
    go_wp2_with fail
    refine (room_any S n (by omega) (by omega)).mono ?_
    rintro e w1 ⟨rfl, S1, -⟩
    rw [Q2.out]
    go_wp2
    go_ret
    exact ⟨rfl, S1⟩
  have Q2 : Hid (roomB sz used n = true) := by rw [Hid]; simpa using q2
  obtain ⟨N, hNN⟩ : ∃ N, (frameB l).length = N := ⟨_, rfl⟩
  have hNb : N ≤ 5000 := by
    rw [← hNN, frameB]
    split
    · simp
    · have := codeNum_len (l.length : Int)
      simp only [List.length_append, putB_length, List.length_singleton]; omega
  have e : logPut d fr sz used l = (0, d.write ((fr + used : Nat) : Int) (frameB l), used + N) := by unfold logPut; rw [hn, if_neg q1, if_neg q2, hNN]
  rw [e]
  have HL := hid hNN
  have e1 : IntKind.i64.wrap ((fr : Int) + (used : Int)) = (fr : Int) + (used : Int) := by rw [IntKind.wrap_i64]; omega
  clear e hn q2 hNN
  go_enter Try.func18, Try.ntmps18
  go_wp2_with fail
  refine (room_any S n (by omega) (by omega)).mono ?_
  rintro e w1 ⟨rfl, S1, -⟩
  rw [Q2.out]
  go_wp2_with fail
  refine (frPut_any a l n cap w1 HN.out (by unfold maxLen; omega) hcap HNil.out (by exact HA.out w1 [_, _] S1)).mono ?_
  rintro e w2 ⟨a2, c2, rfl, ho2, hb2⟩
  rw [HL.out] at ho2
  rw [HL.out]
  have S2 := (S1.bytes ho2 hb2).rot
  clear ho2 hb2
  go_wp2_with fail
  refine wp_region_held_drew (S := (fun w' => w'.cell? ⟨g, 0, none⟩ = some pd ∧ w'.cell? ⟨g, 1, none⟩ = some (.int .i64 (fr : Int)) ∧ w'.cell? ⟨g, 3, none⟩ = some (.int .i64 (used : Int)))) (by kernel_rfl) (by exact ⟨S2.drew.cell 1 rfl 0 rfl, S2.drew.cell 1 rfl 1 rfl, S2.drew.cell 1 rfl 3 rfl⟩) (fun hHeld => ?_)
  change wpAnyH _ _ _ _ _ 15 (Array.replicate 15 false) _ _
  refine wpAnyH_take (i := 0) (v := ?v1) (ops_at rfl) (by kernel_rfl) (by kernel_rfl) (by kernel_rfl) (fun _ _ _ h => h) (Or.inl ⟨by rfl, ?hy1⟩) (by assumption) ?rest1
  case hy1 => intro w' hSw; (try dsimp only at hSw); go_simp; try with_reducible rfl
  try simp only [Act.put, List.setIfInBounds_toArray, List.set_cons_zero, List.set_cons_succ]
  refine wpAnyH_take (i := 1) (v := ?v2) (ops_at rfl) (by kernel_rfl) (by kernel_rfl) (by kernel_rfl) (fun _ _ _ h => h) (Or.inl ⟨by rfl, ?hy2⟩) (by assumption) ?rest2
  case hy2 => intro w' hSw; (try dsimp only at hSw); go_simp; try with_reducible rfl
  try simp only [Act.put, List.setIfInBounds_toArray, List.set_cons_zero, List.set_cons_succ]
  refine wpAnyH_take (i := 2) (v := ?v3) (ops_at rfl) (by kernel_rfl) (by kernel_rfl) (by kernel_rfl) (fun _ _ _ h => h) (Or.inl ⟨by rfl, ?hy3⟩) (by assumption) ?rest3
  case hy3 => intro w' hSw; (try dsimp only at hSw); go_simp; try with_reducible rfl
  try simp only [Act.put, List.setIfInBounds_toArray, List.set_cons_zero, List.set_cons_succ]
  refine wpAnyH_take (i := 3) (v := ?v4) (ops_at rfl) (by kernel_rfl) (by kernel_rfl) (by kernel_rfl) (fun _ _ _ h => h) (Or.inl ⟨by rfl, ?hy4⟩) (by assumption) ?rest4
  case hy4 => intro w' hSw; (try dsimp only at hSw); go_simp; try with_reducible rfl
  try simp only [Act.put, List.setIfInBounds_toArray, List.set_cons_zero, List.set_cons_succ]
  refine wpAnyH_take (i := 4) (v := ?v5) (ops_at rfl) (by kernel_rfl) (by kernel_rfl) (by kernel_rfl) (fun _ _ _ h => h) (Or.inl ⟨by rfl, ?hy5⟩) (by assumption) ?rest5
  case hy5 => intro w' hSw; (try dsimp only at hSw); go_simp; try with_reducible rfl
  try simp only [Act.put, List.setIfInBounds_toArray, List.set_cons_zero, List.set_cons_succ]
  refine wpAnyH_take (i := 5) (v := ?v6) (ops_at rfl) (by kernel_rfl) (by kernel_rfl) (by kernel_rfl) (fun _ _ _ h => h) (Or.inl ⟨by rfl, ?hy6⟩) (by assumption) ?rest6
  case hy6 => intro w' hSw; (try dsimp only at hSw); go_simp; try with_reducible rfl
  try simp only [Act.put, List.setIfInBounds_toArray, List.set_cons_zero, List.set_cons_succ]
  refine wpAnyH_take (i := 6) (v := ?v7) (ops_at rfl) (by kernel_rfl) (by kernel_rfl) (by kernel_rfl) (fun _ _ _ h => h) (Or.inl ⟨by rfl, ?hy7⟩) (by assumption) ?rest7
  case hy7 => intro w' hSw; (try dsimp only at hSw); go_simp; try with_reducible rfl
  try simp only [Act.put, List.setIfInBounds_toArray, List.set_cons_zero, List.set_cons_succ]
  refine wpAnyH_take (i := 7) (v := ?v8) (ops_at rfl) (by kernel_rfl) (by kernel_rfl) (by kernel_rfl) (fun _ _ _ h => h) (Or.inl ⟨by rfl, ?hy8⟩) (by assumption) ?rest8
  case hy8 => intro w' hSw; (try dsimp only at hSw); go_simp; try with_reducible rfl
  try simp only [Act.put, List.setIfInBounds_toArray, List.set_cons_zero, List.set_cons_succ]
  refine wpAnyH_take (i := 8) (v := ?v9) (ops_at rfl) (by kernel_rfl) (by kernel_rfl) (by kernel_rfl) (fun _ _ _ h => h) (Or.inl ⟨by rfl, ?hy9⟩) (by assumption) ?rest9
  case hy9 => intro w' hSw; (try dsimp only at hSw); go_simp; try with_reducible rfl
  try simp only [Act.put, List.setIfInBounds_toArray, List.set_cons_zero, List.set_cons_succ]
  refine wpAnyH_take (i := 9) (v := ?v10) (ops_at rfl) (by kernel_rfl) (by kernel_rfl) (by kernel_rfl) (fun _ _ _ h => h) (Or.inl ⟨by rfl, ?hy10⟩) (by assumption) ?rest10
  case hy10 => intro w' hSw; (try dsimp only at hSw); go_simp; try with_reducible rfl
  try simp only [Act.put, List.setIfInBounds_toArray, List.set_cons_zero, List.set_cons_succ]
  refine wpAnyH_take (i := 10) (v := ?v11) (ops_at rfl) (by kernel_rfl) (by kernel_rfl) (by kernel_rfl) (fun _ _ _ h => h) (Or.inl ⟨by rfl, ?hy11⟩) (by assumption) ?rest11
  case hy11 => intro w' hSw; (try dsimp only at hSw); go_simp; try with_reducible rfl
  try simp only [Act.put, List.setIfInBounds_toArray, List.set_cons_zero, List.set_cons_succ]
  refine wpAnyH_take (i := 11) (v := ?v12) (ops_at rfl) (by kernel_rfl) (by kernel_rfl) (by kernel_rfl) (fun _ _ _ h => h) (Or.inl ⟨by rfl, ?hy12⟩) (by assumption) ?rest12
  case hy12 => intro w' hSw; (try dsimp only at hSw); go_simp; try with_reducible rfl
  try simp only [Act.put, List.setIfInBounds_toArray, List.set_cons_zero, List.set_cons_succ]
  refine wpAnyH_take (i := 12) (v := ?v13) (ops_at rfl) (by kernel_rfl) (by kernel_rfl) (by kernel_rfl) (fun _ _ _ h => h) (Or.inl ⟨by rfl, ?hy13⟩) (by assumption) ?rest13
  case hy13 => intro w' hSw; (try dsimp only at hSw); go_simp; try with_reducible rfl
  try simp only [Act.put, List.setIfInBounds_toArray, List.set_cons_zero, List.set_cons_succ]
  refine wpAnyH_take (i := 13) (v := ?v14) (ops_at rfl) (by kernel_rfl) (by kernel_rfl) (by kernel_rfl) (fun _ _ _ h => h) (Or.inl ⟨by rfl, ?hy14⟩) (by assumption) ?rest14
  case hy14 => intro w' hSw; (try dsimp only at hSw); go_simp; try with_reducible rfl
  try simp only [Act.put, List.setIfInBounds_toArray, List.set_cons_zero, List.set_cons_succ]
  refine wpAnyH_ready (rs := [14]) (by kernel_rfl) (by simp) ?_
  refine AllReadyH.cons (ops_at rfl) (fun K hK => ?_) AllReadyH.nil
  go_simp
  refine (hwrite S2.drew 2 rfl _ a2 (frameB l) N c2 _ rfl HL.out (by omega) (by omega) (by exact (S2.drew.slA 0 rfl).2.2.2.1) (by exact S2.drew.at 0 rfl)).mono ?_
  rintro e w3 ⟨rfl, S3⟩
  refine hK.out _ _ (by exact ⟨S3.cell 1 rfl 0 rfl, S3.cell 1 rfl 1 rfl, S3.cell 1 rfl 3 rfl⟩) (fun hHeld => ?_)
  clear hK K
  try simp only [Act.put, List.setIfInBounds_toArray, List.set_cons_zero, List.set_cons_succ]
  refine wpAnyH_done (by kernel_rfl) ?_ _
  have c3 : w3.cell? ⟨g, 3, none⟩ = some (.int .i64 (used : Int)) := S3.cell 1 rfl 3 rfl
  have f3 := S3.frozen 1 rfl 3
  go_wp2
  go_ret
  refine ⟨rfl, ?_⟩
  have S4 := (S3.setCell 1 rfl 3 (.int .i64 ((used : Int) + (N : Int)))).tail
  have e4 : ((used + N : Nat) : Int) = (used : Int) + (N : Int) := by omega
  have e5 : ((fr + used : Nat) : Int) = (fr : Int) + (used : Int) := by omega
  unfold logC
  rw [e4, e5]
  exact S4

theorem logUsed_any (S : St w0 w (cellsT g 81 (logC pd fr sz used) :: tl)) :
    Calls Try.prog 17 #[.pointer (some ⟨g, 0, none⟩)] w fun e w' => e = .returned (.int .i64 (used : Int)) ∧ w = w' := by
  have c3 : w.cell? ⟨g, 3, none⟩ = some (.int .i64 (used : Int)) := S.cell 0 rfl 3 rfl
  go_enter Try.func17, Try.ntmps17
  go_wp2
  go_ret
  exact ⟨rfl, rfl⟩

set_option maxRecDepth 10000 in
theorem logClear_any (S : St w0 w (cellsT g 81 (logC pd fr sz used) :: diskT pd d :: tl)) (hf : fr + sz ≤ d.lasts.length) (hw : d.waits.length ≤ 1000) (hs : d.syncs < 100000000) :
    Calls Try.prog 39 #[.pointer (some ⟨g, 0, none⟩)] w fun e w' => e = .returned (.tuple #[]) ∧ St w0 w' (cellsT g 81 (logC pd fr sz 0) :: diskT pd (d.nought fr sz 0) :: tl) := by
  go_enter Try.func39, Try.ntmps39
  go_wp2_with fail
  refine (noughts_any S 0 (Nat.zero_le _) hf hw hs).mono ?_
  rintro e w1 ⟨rfl, S1⟩
  have c3 : w1.cell? ⟨g, 3, none⟩ = some (.int .i64 (used : Int)) := S1.cell 0 rfl 3 rfl
  have f3 := S1.frozen 0 rfl 3
  go_wp2
  exact bodyPost_end (results_none rfl _ _ _) rfl ⟨rfl, S1.setCell 0 rfl 3 (.int .i64 0)⟩

/-- What Append makes. -/
def logApp (d : DSt) (fr sz used : Nat) (p : List UInt8) : Int × DSt × Nat :=
  ((logPut d fr sz used p).1, if (logPut d fr sz used p).1 = 0 then (logPut d fr sz used p).2.1.sync else (logPut d fr sz used p).2.1, (logPut d fr sz used p).2.2)
theorem logPut_lens (d : DSt) (fr sz used : Nat) (p : List UInt8) : (logPut d fr sz used p).2.1.waits.length ≤ d.waits.length + 1 ∧ (logPut d fr sz used p).2.1.syncs = d.syncs ∧ (logPut d fr sz used p).2.1.lasts = d.lasts := by
  unfold logPut
  split
  · exact ⟨by show d.waits.length ≤ _; omega, rfl, rfl⟩
  split
  · exact ⟨by show d.waits.length ≤ _; omega, rfl, rfl⟩
  · exact ⟨DSt.write_waits _ _ _, DSt.write_syncs _ _ _, DSt.write_lasts _ _ _⟩
set_option maxRecDepth 10000 in
set_option maxHeartbeats 1600000 in
theorem logApp_any (S : St w0 w (cellsT g 81 (logC pd fr sz used) :: diskT pd d :: tl)) (a : Option Addr) (l : List UInt8) (n cap : Nat) (hn : l.length = n) (hm : n ≤ maxLen) (hcap : n ≤ cap) (hnil : a = none → cap = 0) (hA : Reads w0 tl a l)
    (hf : fr + sz ≤ d.lasts.length) (hu : used ≤ sz) (hw : d.waits.length ≤ 10000) (hs : d.syncs < 100000000) :
    Calls Try.prog 16 #[.pointer (some ⟨g, 0, none⟩), .slice a n cap] w fun e w' => e = .returned (.int .i64 (logApp d fr sz used l).1) ∧ St w0 w' (cellsT g 81 (logC pd fr sz (logApp d fr sz used l).2.2) :: diskT pd (logApp d fr sz used l).2.1 :: tl) := by
  have HP := hid (logPut_lens d fr sz used l)
  unfold logApp
  have hc := logPut_any S a l n cap hn hm hcap hnil hA hf hu hw
  have HC := hid hc
  unfold maxLen at hm
  clear hc hn hnil hA
  generalize logPut d fr sz used l = r at *
  obtain ⟨x, d1, u1⟩ := r
  by_cases q : x = 0
  · subst q
    go_enter Try.func16, Try.ntmps16
    go_wp2_with fail
    refine HC.out.mono ?_
    rintro e w1 ⟨rfl, S1⟩
    have c0 : w1.cell? ⟨g, 0, none⟩ = some pd := S1.cell 0 rfl 0 rfl
    go_wp2_with fail
    refine (hsync S1 1 rfl (Nat.le_trans HP.out.1 (by omega)) (by have : d1.syncs = d.syncs := HP.out.2.1; show d1.syncs < _; omega)).mono ?_
    rintro e w2 ⟨rfl, S2⟩
    go_wp2
    go_ret
    exact ⟨rfl, S2⟩
  · have g1 : (x != 0) = true := by simpa using q
    have Q := hid q
    clear q
    go_enter Try.func16, Try.ntmps16
    go_wp2_with fail
    refine HC.out.mono ?_
    rintro e w1 ⟨rfl, S1⟩
    go_wp2
    go_ret
    exact ⟨rfl, S1⟩
end

end Go.Proofs.Ytkkailggpfmgaaa
