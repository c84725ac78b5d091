/- The journal's methods: Start, Append. -/
import Derived.Test.YtmfbbonppmhabaaJournal3
namespace Go.Proofs.Ytmfbbonppmhabaa
set_option linter.unusedVariables false
set_option linter.unusedSimpArgs false
open Go.RowKit
section
variable {w0 w : World} {tl : List Thing} {gj gs gl : Nat} {pd ps pl : Value} {cnt age : Int} {fr sz used q : Nat} {d : DSt}
theorem jStart_nil (w : World) (a : Option Addr) (n c : Nat) : Calls Try.prog 17 #[.pointer none, .slice a n c] w fun e w' => e = .returned (.int .i64 1) ∧ w = w' := by
  go_enter Try.func17, Try.ntmps17
  go_wp2
  go_ret
  exact ⟨rfl, rfl⟩
set_option maxRecDepth 10000 in
set_option maxHeartbeats 3200000 in
theorem jlStart (S : St w0 w (cellsT gj 70 (jC pd (.pointer (some ⟨gs, 0, none⟩)) (.pointer (some ⟨gl, 0, none⟩)) cnt age) :: cellsT gl 99 (logC pd fr sz used) :: diskT pd d :: tl)) (a : Option Addr) (l : List UInt8) (n cap : Nat) (hn : l.length = n) (hm : n ≤ maxLen) (hcap : n ≤ cap) (hnil : a = none → cap = 0) (hA : Reads w0 tl a l)
    (hc : 0 ≤ cnt ∧ cnt ≤ 1000000000) (hf : fr + sz ≤ d.lasts.length) (hu : used ≤ sz) (hw : d.waits.length ≤ 1000) :
    Calls Try.prog 17 #[(.pointer (some ⟨gj, 0, none⟩)), .slice a n cap] w fun e w' => e = .returned (.int .i64 (jStart d fr sz used cnt l).1) ∧
      St w0 w' (cellsT gj 70 (jC pd (.pointer (some ⟨gs, 0, none⟩)) (.pointer (some ⟨gl, 0, none⟩)) (jStart d fr sz used cnt l).2.2.2 age) :: cellsT gl 99 (logC pd fr sz (jStart d fr sz used cnt l).2.2.1) :: diskT pd (jStart d fr sz used cnt l).2.1 :: tl) := by
  have hN := (S.disk 2 rfl).2.2.1
  have HN := hid hn
  have HA := hid hA
  unfold maxLen at hm
  clear hn hA
  by_cases q1 : l.length = 0 ∨ 3900 < l.length
  · have E : Hid (jStart d fr sz used cnt l = (1, d, used, cnt)) := by rw [Hid, jStart, if_pos q1]
    rw [E.out]
    rw [HN.out] at q1
    rcases q1 with q1 | q1
    · have g1 : ((n : Int) == 0) = true := by simp; omega
      clear q1 E
      go_enter Try.func17, Try.ntmps17
      go_wp2
      go_ret
      exact ⟨rfl, S⟩
    · have g1 : ((n : Int) == 0) = false := by simp; omega
      have g2 : decide (3900 < (n : Int)) = true := decide_eq_true (by omega)
      have g2n : decide (3900 < n) = true := decide_eq_true (by omega)
      clear q1 E
      go_enter Try.func17, Try.ntmps17
      go_wp2
      go_ret
      exact ⟨rfl, S⟩
  have q2 := q1
  rw [HN.out] at q2
  have hn1 : 1 ≤ n ∧ n ≤ 3900 := by omega
  have g1 : ((n : Int) == 0) = false := by simp; omega
  have g2 : decide (3900 < (n : Int)) = false := decide_eq_false (by omega)
  have g2n : decide (3900 < n) = false := decide_eq_false (by omega)
  have hcl := codeNum_len cnt
  go_enter Try.func17, Try.ntmps17
  go_wp2_with fail
  refine (jlRoom S (n : Int) hc (by omega) (by omega)).mono ?_
  rintro e w1 ⟨rfl, S1, hb1⟩
  clear S
  cases hr : jRoom sz used cnt (n : Int)
  · have E : Hid (jStart d fr sz used cnt l = (3, d, used, cnt)) := by rw [Hid, jStart, if_neg q1, if_pos (by rw [HN.out]; exact hr)]
    clear hr q1
    go_wp2
    go_ret
    exact ⟨by rw [E.out]; rfl, by rw [E.out]; exact S1⟩
  have E : Hid (jStart d fr sz used cnt l = ((logPut d fr sz used (codeNum cnt ++ l)).1, (logPut d fr sz used (codeNum cnt ++ l)).2.1, (logPut d fr sz used (codeNum cnt ++ l)).2.2, cnt + 1)) := by
    rw [Hid, jStart, if_neg q1, if_neg (by rw [HN.out, hr]; simp)]
  clear hr q1 q2
  have keep : ∀ {w' : World} {r : List Thing}, St w0 w' (cellsT gj 70 (jC pd (.pointer (some ⟨gs, 0, none⟩)) (.pointer (some ⟨gl, 0, none⟩)) cnt age) :: r) → (w'.cell? ⟨gj, 2, none⟩ = some (.pointer (some ⟨gl, 0, none⟩)) ∧ w'.cell? ⟨gj, 3, none⟩ = some (.int .i64 cnt)) := fun S => ⟨S.cell 0 rfl 2 rfl, S.cell 0 rfl 3 rfl⟩
  go_wp2_with fail
  refine wp_region_held_drew (S := (fun w' => (w'.cell? ⟨gj, 2, none⟩ = some (.pointer (some ⟨gl, 0, none⟩)) ∧ w'.cell? ⟨gj, 3, none⟩ = some (.int .i64 cnt)))) (by kernel_rfl) (by exact keep S1.drew) (fun hHeld => ?_)
  change wpAnyH _ _ _ _ _ 9 (Array.replicate 9 false) _ _
  refine wpAnyH_take (i := 0) (v := ?v1) (ops_at rfl) (by kernel_rfl) (by kernel_rfl) (by kernel_rfl) (fun _ _ _ h => h) (Or.inl ⟨by rfl, ?hy1⟩) (by assumption) ?rest1
  case hy1 => intro w' hSw; (try dsimp only at hSw); go_simp; try with_reducible rfl
  try simp only [Act.put, List.setIfInBounds_toArray, List.set_cons_zero, List.set_cons_succ]
  refine wpAnyH_take (i := 1) (v := ?v2) (ops_at rfl) (by kernel_rfl) (by kernel_rfl) (by kernel_rfl) (fun _ _ _ h => h) (Or.inl ⟨by rfl, ?hy2⟩) (by assumption) ?rest2
  case hy2 => intro w' hSw; (try dsimp only at hSw); go_simp; try with_reducible rfl
  try simp only [Act.put, List.setIfInBounds_toArray, List.set_cons_zero, List.set_cons_succ]
  refine wpAnyH_take (i := 2) (v := ?v3) (ops_at rfl) (by kernel_rfl) (by kernel_rfl) (by kernel_rfl) (fun _ _ _ h => h) (Or.inl ⟨by rfl, ?hy3⟩) (by assumption) ?rest3
  case hy3 => intro w' hSw; (try dsimp only at hSw); go_simp; try with_reducible rfl
  try simp only [Act.put, List.setIfInBounds_toArray, List.set_cons_zero, List.set_cons_succ]
  refine wpAnyH_take (i := 3) (v := ?v4) (ops_at rfl) (by kernel_rfl) (by kernel_rfl) (by kernel_rfl) (fun _ _ _ h => h) (Or.inl ⟨by rfl, ?hy4⟩) (by assumption) ?rest4
  case hy4 => intro w' hSw; (try dsimp only at hSw); go_simp; try with_reducible rfl
  try simp only [Act.put, List.setIfInBounds_toArray, List.set_cons_zero, List.set_cons_succ]
  refine wpAnyH_take (i := 4) (v := ?v5) (ops_at rfl) (by kernel_rfl) (by kernel_rfl) (by kernel_rfl) (fun _ _ _ h => h) (Or.inl ⟨by rfl, ?hy5⟩) (by assumption) ?rest5
  case hy5 => intro w' hSw; (try dsimp only at hSw); go_simp; try with_reducible rfl
  try simp only [Act.put, List.setIfInBounds_toArray, List.set_cons_zero, List.set_cons_succ]
  refine wpAnyH_take (i := 5) (v := ?v6) (ops_at rfl) (by kernel_rfl) (by kernel_rfl) (by kernel_rfl) (fun _ _ _ h => h) (Or.inl ⟨by rfl, ?hy6⟩) (by assumption) ?rest6
  case hy6 => intro w' hSw; (try dsimp only at hSw); go_simp; try with_reducible rfl
  try simp only [Act.put, List.setIfInBounds_toArray, List.set_cons_zero, List.set_cons_succ]
  refine wpAnyH_ready (rs := [6]) (by kernel_rfl) (by simp) ?_
  refine AllReadyH.cons (ops_at rfl) (fun K hK => ?_) AllReadyH.nil
  go_simp
  refine (jlRecord S1.drew a l n cap HN.out (by omega) (by omega) hcap hnil (fun W pre S' => HA.out W (pre ++ [_, _]) (by rw [List.append_assoc]; exact S')) ((codeNum cnt).length + n) rfl).mono ?_
  rintro e w2 ⟨b, c, rfl, S2⟩
  have S3 : St w0 w2 (cellsT gl 99 (logC pd fr sz used) :: diskT pd d :: bytesT (.slice b ((codeNum cnt).length + n) c) (codeNum cnt ++ l) :: cellsT gj 70 (jC pd (.pointer (some ⟨gs, 0, none⟩)) (.pointer (some ⟨gl, 0, none⟩)) cnt age) :: tl) := (S2.front 3 rfl).front 3 rfl
  have hsl := S2.slA 0 rfl
  refine hK.out _ _ (by exact keep S2.tail) (fun hHeld => ?_)
  clear hK K
  try simp only [Act.put, List.setIfInBounds_toArray, List.set_cons_zero, List.set_cons_succ]
  refine wpAnyH_ready (rs := [7]) (by kernel_rfl) (by simp) ?_
  refine AllReadyH.cons (ops_at rfl) (fun K hK => ?_) AllReadyH.nil
  go_simp
  refine (logPut_any S3 b (codeNum cnt ++ l) ((codeNum cnt).length + n) c (by rw [List.length_append, HN.out]) (by unfold maxLen; omega) hsl.2.1 hsl.2.2.2.1 (Reads.at 0 rfl) hf hu (by omega)).mono ?_
  rintro e w3 ⟨rfl, S4⟩
  have S5 : St w0 w3 (cellsT gj 70 (jC pd (.pointer (some ⟨gs, 0, none⟩)) (.pointer (some ⟨gl, 0, none⟩)) cnt age) :: cellsT gl 99 (logC pd fr sz (logPut d fr sz used (codeNum cnt ++ l)).2.2) :: diskT pd (logPut d fr sz used (codeNum cnt ++ l)).2.1 :: tl) := (S4.front 2 rfl).tail.front 2 rfl
  refine hK.out _ _ (by exact keep S5) (fun hHeld => ?_)
  clear hK K
  try simp only [Act.put, List.setIfInBounds_toArray, List.set_cons_zero, List.set_cons_succ]
  refine wpAnyH_take (i := 8) (v := ?v9) (ops_at rfl) (by kernel_rfl) (by kernel_rfl) (by kernel_rfl) (fun _ _ _ h => h) (Or.inl ⟨by rfl, ?hy9⟩) (by assumption) ?rest9
  case hy9 => intro w' hSw; (try dsimp only at hSw); go_simp; try with_reducible rfl
  try simp only [Act.put, List.setIfInBounds_toArray, List.set_cons_zero, List.set_cons_succ]
  refine wpAnyH_done (by kernel_rfl) ?_ _
  have c3 := S5.cell 0 rfl 3 rfl
  have f3 := S5.frozen 0 rfl 3
  have S6 := S5.setCell 0 rfl 3 (.int .i64 (cnt + 1))
  have hwr : IntKind.i64.wrap (cnt + 1) = cnt + 1 := by rw [IntKind.wrap_i64]; omega
  clear S1 S2 S3 S4 keep
  go_wp2
  go_ret
  exact ⟨by rw [E.out]; rfl, by rw [E.out]; exact S6⟩
end
end Go.Proofs.Ytmfbbonppmhabaa
