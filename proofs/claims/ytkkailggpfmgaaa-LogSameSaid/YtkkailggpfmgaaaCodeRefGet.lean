/- The walks of layer 1's reference, the readers and lists. -/
import Derived.Test.YtkkailggpfmgaaaCodeRef
namespace Go.Proofs.Ytkkailggpfmgaaa
set_option linter.unusedVariables false
set_option linter.unusedSimpArgs false
open Go.RowKit

theorem getNum_at' {l : List UInt8} {p : Nat} (h : p < l.length) : getNum l p = (getF 8 0 0 (l.drop p)).map fun q => (q.1, p + q.2) := by
  unfold getNum
  rw [if_pos (by omega)]; rfl

set_option maxRecDepth 10000 in
set_option maxHeartbeats 1000000 in
theorem rgetNum_any (a : Option Addr) (l : List UInt8) (n cap : Nat) (at_ : Int) (w : World) (hn : l.length = n) (hl : n ≤ 140737488355328) (hA : At w a l) :
    Calls Try.prog 73 #[.slice a n cap, .int .i64 at_] w fun e w' => e = .returned (res3 (getNum l at_)) ∧ Below w.heap.size w w' := by
  by_cases h0 : at_ < 0
  · have g0 : decide (at_ < 0) = true := by simp; omega
    have HR : Hid (getNum l at_ = none) := by rw [Hid, getNum, if_neg (by omega)]
    go_enter Try.func73, Try.ntmps73
    go_wp2
    go_ret3
    exact ⟨by rw [HR.out]; rfl, Below.refl _ _⟩
  have g0 : decide (at_ < 0) = false := by simp; omega
  by_cases h1 : (n : Int) ≤ at_
  · have g1 : decide ((n : Int) ≤ at_) = true := by simp; omega
    have HR : Hid (getNum l at_ = none) := by rw [Hid, getNum, if_neg (by omega)]
    go_enter Try.func73, Try.ntmps73
    go_wp2
    go_ret3
    exact ⟨by rw [HR.out]; rfl, Below.refl _ _⟩
  have g1 : decide ((n : Int) ≤ at_) = false := by simp; omega
  obtain ⟨p, rfl⟩ := Int.eq_ofNat_of_zero_le (show 0 ≤ at_ by omega)
  have hp : p < n := by omega
  have HG := hid (getNum_at' (l := l) (p := p) (by omega))
  have HA := hid hA
  have HN := hid hn
  have hok := hA.ok
  rw [hn] at hok
  have i0 := fun k i hi hk => idx_at a n cap hok k i hi hk
  clear hok hA hn
  go_enter Try.func73, Try.ntmps73
  go_wp2
  clear g0 g1
  go_loop [7, 8, 9] (fun acc st q => ∃ (k s t : Nat), k ≤ 8 ∧ p + k ≤ n ∧ q = .int .i64 k ∧ acc = .int .i64 s ∧ st = .int .i64 t ∧ t = 128 ^ k ∧ s < t ∧ getF 8 0 0 (l.drop p) = getF (8 - k) k s (l.drop (p + k))) (fun _ _ q => 8 - (intOf q).toNat)
  case atStart => exact ⟨0, 0, 1, by omega, by omega, rfl, rfl, rfl, rfl, by omega, rfl⟩
  case round =>
    obtain ⟨k, s, t, hk, hkn, rfl, rfl, rfl, ht, hs, hF⟩ := hrel
    have HF := hid hF
    have HT := hid ht
    clear hF ht
    have ht56 : t ≤ 72057594037927936 := by rw [HT.out]; exact pow_le_56 hk
    by_cases hk8 : k < 8
    case neg =>
      have g8 : decide ((k : Int) < 8) = false := by simp; omega
      have HR : Hid (getNum l p = none) := by
        rw [Hid, HG.out, HF.out, show 8 - k = 0 by omega]; rfl
      go_wp2
      go_ret3
      exact ⟨by rw [HR.out]; rfl, Below.refl _ _⟩
    have g8 : decide ((k : Int) < 8) = true := by simp; omega
    by_cases hlt : p + k < n
    case neg =>
      have g9 : decide ((k : Int) < (n : Int) - (p : Int)) = false := by simp; omega
      have HR : Hid (getNum l p = none) := by
        rw [Hid, HG.out, HF.out, List.drop_eq_nil_of_le (by rw [HN.out]; omega), getF_nil]; rfl
      go_wp2
      go_ret3
      exact ⟨by rw [HR.out]; rfl, Below.refl _ _⟩
    have g9 : decide ((k : Int) < (n : Int) - (p : Int)) = true := by simp; omega
    have hkl : p + k < l.length := by rw [HN.out]; exact hlt
    have i1 := i0 (p + k) ((p : Int) + (k : Int)) (by omega) hlt
    have c1 := HA.out.cell hkl
    have hcb := l[p + k].toNat_lt
    have HD := hid (List.drop_eq_getElem_cons hkl)
    clear i0
    generalize hcv : l[p + k].toNat = c at c1 hcb
    have HC := hid hcv
    clear hcv
    have hts : t ≤ 562949953421312 := by
      rw [HT.out]
      have : 128 ^ k ≤ 128 ^ 7 := Nat.pow_le_pow_right (by omega) (by omega)
      exact this
    obtain ⟨q, hq⟩ : ∃ q, q = t * (c % 128) := ⟨_, rfl⟩
    have hq1 : q ≤ t * 127 := by rw [hq]; exact Nat.mul_le_mul_left _ (by omega)
    have e1 : (t : Int) * ((c : Int) % 128) = (q : Int) := by rw [hq, Int.natCast_mul]; rfl
    have HQ := hid hq
    have HK : Hid (getF 8 0 0 (l.drop p) = if 128 ≤ c then getF (8 - (k + 1)) (k + 1) (s + q) (l.drop (p + k + 1))
        else if (c = 0 ∧ 0 < k) ∨ 9007199254740991 < s + q then none else some (s + q, k + 1)) := by
      rw [Hid, HF.out, HD.out, show 8 - k = (8 - (k + 1)) + 1 by omega, HQ.out, HT.out, Nat.mul_comm]
      simp only [getF, HC.out]
    have hsq : s + q < t * 128 := by omega
    clear hq
    by_cases h128 : 128 ≤ c
    · have HK2 : Hid (getF 8 0 0 (l.drop p) = getF (8 - (k + 1)) (k + 1) (s + q) (l.drop (p + (k + 1)))) := by rw [Hid, HK.out, if_pos h128]; rfl
      have HT2 : Hid (t * 128 = 128 ^ (k + 1)) := by rw [Hid, HT.out, Nat.pow_succ]
      go_wp2
      go_round
      case rel => exact ⟨k + 1, s + q, t * 128, by omega, by omega, by go_num, by go_num, by go_num, HT2.out, hsq, HK2.out⟩
      case measure => simp [intOf]; omega
    · have HM : Hid ((codeNum ((s + q : Nat) : Int)).length = k + 1 ↔ ¬ ((c = 0 ∧ 0 < k) ∨ 9007199254740991 < s + q)) := by
        have := codeNum_minimal (s := s) (c := c) (k := k) (by rw [← HT.out]; exact hs) (by omega) hk8
        rw [Nat.mul_comm c, ← HT.out] at this
        have e : t * c = q := by rw [HQ.out, Nat.mod_eq_of_lt (by omega)]
        rw [e] at this
        exact this
      have e2 : ((s + q : Nat) : Int) = (s : Int) + (q : Int) := by omega
      have HA1 := HA
      go_wp2_with fail
      refine (rnum_any _ _).mono ?_
      rintro e w1 ⟨v1, rfl, hown, hb⟩
      obtain ⟨a1, cc1, rfl, _, _, _⟩ := hown.sl
      have HB := hid hb
      clear hown hb
      rw [e2] at HM
      generalize hN : (codeNum ((s : Int) + (q : Int))).length = N at *
      by_cases hbad : (c = 0 ∧ 0 < k) ∨ 9007199254740991 < s + q
      · have HR : Hid (getNum l p = none) := by rw [Hid, HG.out, HK.out, if_neg h128, if_pos hbad]; rfl
        have hne : N ≠ k + 1 := fun h => (HM.out.1 h) hbad
        have g5 : ((N : Int) != (k : Int) + 1) = true := by simp; omega
        have HN2 := hid hN
        clear hN
        go_wp2
        go_ret3
        exact ⟨by rw [HR.out]; rfl, HB.out⟩
      · have HR : Hid (getNum l p = some (s + q, p + (k + 1))) := by rw [Hid, HG.out, HK.out, if_neg h128, if_neg hbad]; rfl
        have hne : N = k + 1 := HM.out.2 hbad
        have g5 : ((N : Int) != (k : Int) + 1) = false := by simp; omega
        have HN2 := hid hN
        clear hN hne
        go_wp2
        go_ret3
        exact ⟨by rw [HR.out]; simp [res3]; omega, HB.out⟩

end Go.Proofs.Ytkkailggpfmgaaa
