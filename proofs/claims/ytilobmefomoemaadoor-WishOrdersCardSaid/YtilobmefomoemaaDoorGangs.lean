/- Bits counted: Has, Many. -/
import Derived.Test.YtilobmefomoemaaDoorWish7
namespace Go.Proofs.YtilobmefomoemaaDoor
set_option linter.unusedVariables false
set_option linter.unusedSimpArgs false
open Go.RowKit
def cntB (n : Int) : Nat → Nat
  | 0 => 0
  | k + 1 => cntB n k + if hasB n k = true then 1 else 0
theorem cntB_le (n : Int) : ∀ k, cntB n k ≤ k
  | 0 => Nat.le_refl _
  | k + 1 => by have := cntB_le n k; rw [cntB]; split <;> omega
theorem cntB_zero : ∀ k, cntB 0 k = 0
  | 0 => rfl
  | k + 1 => by rw [cntB, cntB_zero k, if_neg (by unfold hasB; simp)]
theorem hasB_big {n : Int} {m i : Nat} (h0 : 0 ≤ n) (h : n < 2 ^ m) (hi : m ≤ i) : hasB n i = false := by
  unfold hasB
  apply Nat.testBit_lt_two_pow
  have h1 : n.toNat < 2 ^ m := by
    have : ((2 ^ m : Nat) : Int) = (2 : Int) ^ m := by simp
    omega
  exact Nat.lt_of_lt_of_le h1 (Nat.pow_le_pow_right (by decide) hi)
theorem cntB_big {n : Int} {m : Nat} (h0 : 0 ≤ n) (h : n < 2 ^ m) : ∀ k, cntB n (m + k) = cntB n m
  | 0 => rfl
  | k + 1 => by rw [show m + (k + 1) = (m + k) + 1 by omega, cntB, cntB_big h0 h k, if_neg (by rw [hasB_big h0 h (by omega)]; simp)]; omega
theorem cntB_pos {n : Int} {i : Nat} (h : hasB n i = true) : ∀ k, i < k → 0 < cntB n k
  | 0, hi => by omega
  | k + 1, hi => by
    rw [cntB]
    by_cases e : i = k
    · subst e; rw [if_pos h]; omega
    · have := cntB_pos h k (by omega); omega
set_option maxRecDepth 10000 in
theorem rHas (n : Int) (i : Nat) (w : World) (h0 : 0 ≤ n) (h1 : n < 64) (hi : i < 6) : Calls Tryd.prog 34 #[.int .i64 n, .int .i64 (i : Int)] w fun e w' => e = .returned (.bool (hasB n i)) ∧ w = w' := by
  obtain ⟨m, hm⟩ : ∃ m : Nat, n = m := ⟨n.toNat, by omega⟩
  have hB : Hid (bits .and .i64 (n / 2 ^ i) 1 = if hasB n i = true then 1 else 0) := by
    rw [Hid, hm]
    exact has_run ⟨m, by omega⟩ ⟨i, hi⟩
  clear hm
  by_cases hb : hasB n i = true
  · have gB : (bits .and .i64 (n / 2 ^ i) 1 == 1) = true := by rw [hB.out, if_pos hb]; rfl
    have E := hid hb
    clear hb hB
    go_enter Tryd.func34, Tryd.ntmps34
    go_wp2
    go_ret
    exact ⟨by rw [E.out]; rfl, rfl⟩
  · have gB : (bits .and .i64 (n / 2 ^ i) 1 == 1) = false := by rw [hB.out, if_neg hb]; rfl
    have E : Hid (hasB n i = false) := by rw [Hid]; simpa using hb
    clear hb hB
    go_enter Tryd.func34, Tryd.ntmps34
    go_wp2
    go_ret
    exact ⟨by rw [E.out]; rfl, rfl⟩
set_option maxRecDepth 10000 in
set_option maxHeartbeats 1600000 in
theorem rMany (n : Int) (w : World) (h0 : 0 ≤ n) (h1 : n < 64) : Calls Tryd.prog 14 #[.int .i64 n] w fun e w' => e = .returned (.int .i64 (cntB n 6 : Int)) ∧ w = w' := by
  go_enter Tryd.func14, Tryd.ntmps14
  go_wp2_with fail
  go_loopw [3, 4] (fun q i wr => ∃ k : Nat, k ≤ 6 ∧ q = .int .i64 (cntB n k : Int) ∧ i = .int .i64 k ∧ w = wr) (fun _ i _ => 6 - (intOf i).toNat)
  case atStart => exact ⟨0, by omega, rfl, rfl, rfl⟩
  case round =>
    obtain ⟨k, hk, rfl, rfl, rfl⟩ := hrel
    by_cases hlt : k < 6
    case neg =>
      have g0 : decide ((k : Int) < 6) = false := decide_eq_false (by omega)
      have g0n : decide (k < 6) = false := decide_eq_false (by omega)
      have e : Hid (k = 6) := by rw [Hid]; omega
      clear hlt hk
      go_wp2
      go_ret
      exact ⟨by rw [← e.out]; rfl, rfl⟩
    have g0 : decide ((k : Int) < 6) = true := decide_eq_true (by omega)
    have g0n : decide (k < 6) = true := decide_eq_true (by omega)
    have hc := cntB_le n k
    have HSt : Hid (cntB n (k + 1) = cntB n k + if hasB n k = true then 1 else 0) := rfl
    go_wp2_with fail
    refine (rHas n k _ h0 h1 hlt).mono ?_
    rintro e wx ⟨rfl, rfl⟩
    rcases hb : hasB n k with _ | _
    · have HS2 : Hid (cntB n (k + 1) = cntB n k) := by rw [Hid, HSt.out, hb]; rfl
      clear hb HSt
      go_wp2
      go_roundw
      case rel => exact ⟨k + 1, by omega, by rw [HS2.out], by go_num, trivial⟩
      case measure => simp [intOf]; omega
    · have HS2 : Hid (cntB n (k + 1) = cntB n k + 1) := by rw [Hid, HSt.out, hb]; rfl
      clear hb HSt
      generalize cntB n k = q at *
      go_wp2
      go_roundw
      case rel => exact ⟨k + 1, by omega, by rw [HS2.out]; go_num, by go_num, trivial⟩
      case measure => simp [intOf]; omega
end Go.Proofs.YtilobmefomoemaaDoor
