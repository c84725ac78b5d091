/- The walks of layer 1's reference. -/
import Derived.Test.YtkkailggpfmgaaaCodeList
import Derived.Test.YtkkailggpfmgaaaCodeMath
namespace Go.Proofs.Ytkkailggpfmgaaa
set_option linter.unusedVariables false
set_option linter.unusedSimpArgs false
open Go.RowKit

set_option maxHeartbeats 400000 in
theorem ris1_any (n : Int) (w : World) : Calls Try.prog 57 #[.int .i64 n] w fun e w' => e = .returned (.bool (isNum n)) ∧ w = w' := by
  by_cases h0 : 0 ≤ n
  · have g0 : decide (0 ≤ n) = true := by simp; omega
    have HR : Hid (isNum n = decide (n < 9007199254740992)) := by rw [Hid, isNum, Bool.eq_iff_iff]; simp; omega
    go_enter Try.func57, Try.ntmps57
    go_wp2
    go_ret
    exact ⟨by rw [HR.out]; rfl, rfl⟩
  · have g0 : decide (0 ≤ n) = false := by simp; omega
    have HR : Hid (isNum n = false) := by rw [Hid, isNum]; simp; omega
    go_enter Try.func57, Try.ntmps57
    go_wp2
    go_ret
    exact ⟨by rw [HR.out]; rfl, rfl⟩

set_option maxRecDepth 10000 in
set_option maxHeartbeats 1000000 in
theorem rnum_any (n : Int) (w : World) :
    Calls Try.prog 59 #[.int .i64 n] w fun e w' => ∃ v, e = .returned v ∧ Own w' w.heap.size v (codeNum n) ∧ Below w.heap.size w w' := by
  by_cases hno : isNum n = false
  · have HN := hid hno
    have HR := hid ((codeNum_nil n).2 hno)
    clear hno
    go_enter Try.func59, Try.ntmps59
    go_wp2
    go_loop [0, 3, 4] (fun q v i => q = .int .i64 n ∧ v = .slice none 0 0 ∧ i = .int .i64 0) (fun _ _ _ => 0)
    case atStart => exact ⟨rfl, rfl, rfl⟩
    case round =>
      obtain ⟨rfl, rfl, rfl⟩ := hrel
      go_wp2_with fail
      refine (ris1_any n w).mono ?_
      rintro e w' ⟨rfl, rfl⟩
      rw [HN.out]
      go_wp2
      go_ret
      exact ⟨_, rfl, by rw [HR.out]; exact Own.nil _ _, Below.refl _ _⟩
  have hyes : isNum n = true := by simpa using hno
  have hr : 0 ≤ n ∧ n ≤ 9007199254740991 := by simpa [isNum] using hyes
  obtain ⟨n, rfl⟩ := Int.eq_ofNat_of_zero_le hr.1
  have hnI : (n : Int) ≤ 9007199254740991 := hr.2
  clear hno hyes hr
  go_enter Try.func59, Try.ntmps59
  go_wp2
  go_loopw [0, 3, 4] (fun q v i wr => ∃ (k m : Nat), k ≤ 8 ∧ i = .int .i64 k ∧ q = .int .i64 m ∧ m = n / 128 ^ k ∧ Own wr w.heap.size v (pre k n) ∧ Below w.heap.size w wr ∧ (k ≤ 1 ∨ 0 < n / 128 ^ (k - 1))) (fun _ _ i _ => 8 - (intOf i).toNat)
  case atStart => exact ⟨0, n, by omega, rfl, rfl, by simp, Own.nil _ _, Below.refl _ _, .inl (by omega)⟩
  case round =>
    obtain ⟨k, m, hk, rfl, rfl, hm, hown, hbel, hpos⟩ := hrel
    have HO := hid hown
    have HB := hid hbel
    have HP := hid hpos
    have hsz := hbel.size
    have hle : (m : Int) ≤ 9007199254740991 := by
      have : n / 128 ^ k ≤ n := Nat.div_le_self _ _
      omega
    have hIs : Hid (isNum (m : Int) = true) := by rw [Hid, isNum]; simp; omega
    have HM := hid hm
    clear hown hbel hpos hm
    go_wp2_with fail
    refine (ris1_any _ wr).mono ?_
    rintro e w' ⟨rfl, rfl⟩
    rw [hIs.out]
    have HQ : Hid (m / 128 = n / 128 ^ (k + 1)) := by rw [Hid, HM.out]; exact div_pow' n k
    have HX : Hid (#[Value.int .u8 ((m : Int) % 128)].toList = [bv (UInt8.ofNat (m % 128))]) := by
      have := bv_of ((m : Int) % 128) (by omega) (by omega)
      rw [show ((m : Int) % 128).toNat = m % 128 by omega] at this
      rw [Hid, this]
    by_cases h0 : k = 0
    · subst h0
      have HO1 : Hid (Own wr w.heap.size u3 []) := HO.out
      have HP1 : Hid ([] ++ [UInt8.ofNat (m % 128)] = pre 1 n) := by rw [Hid, HM.out]; simp [pre]
      go_wp2_with (at_builtin; refine wpList_app (by rfl) (.tmp 29) (.tmp 33) 32 32 32 rfl rfl _ _ rfl rfl (run_one wr w.heap.size _ [] (by exact HO1.out) _ _ HX.out (by simp) hsz) ?_; rintro v2 w2 ⟨hown2, hb2⟩; have HO2 := hid hown2; have HB2 := hid (HB.out.trans hb2); clear hown2 hb2)
      go_roundw
      case rel => exact ⟨1, m / 128, by omega, by go_num, by go_num, HQ.out, by rw [← HP1.out]; exact HO2.out, HB2.out, .inl (by omega)⟩
      case measure => simp [intOf]
    · obtain ⟨j, rfl⟩ : ∃ j, k = j + 1 := ⟨k - 1, by omega⟩
      have g0 : (((j + 1 : Nat) : Int) == 0) = false := by simp; omega
      have g1 : (((j : Int) + 1) == 0) = false := by simp; omega
      by_cases hz : m = 0
      · have HR : Hid (codeNum n = pre (j + 1) n) := by
          have hp : 0 < 128 ^ (j + 1) := Nat.pow_pos (by omega)
          have hm0 := HM.out
          rw [hz] at hm0
          have h1 : n < 128 ^ (j + 1) := by
            rcases Nat.lt_or_ge n (128 ^ (j + 1)) with h | h
            · exact h
            · have := (Nat.le_div_iff_mul_le hp (x := 1)).2 (by rw [Nat.one_mul]; exact h)
              rw [← hm0] at this; omega
          have h2 : j = 0 ∨ 128 ^ j ≤ n := by
            rcases HP.out with h | h
            · left; omega
            · right
              rw [show j + 1 - 1 = j by omega] at h
              rcases Nat.lt_or_ge n (128 ^ j) with h3 | h3
              · rw [Nat.div_eq_of_lt h3] at h; omega
              · exact h3
          rw [Hid, codeNum_yes (by omega), pre_num j (7 - j) n h1 h2, show j + 1 + (7 - j) = 8 by omega]
        have g2 : decide (0 < m) = false := by simp; omega
        have g3 : decide ((0 : Int) < (m : Int)) = false := by simp; omega
        clear hz
        go_wp2
        go_ret
        exact ⟨_, rfl, by rw [HR.out]; exact HO.out, HB.out⟩
      · have hj7 : j + 1 < 8 := by
          rcases Nat.lt_or_ge (j + 1) 8 with h | h
          · exact h
          · exfalso
            apply hz
            rw [HM.out]
            apply Nat.div_eq_of_lt
            have : 128 ^ 8 ≤ 128 ^ (j + 1) := Nat.pow_le_pow_right (by omega) h
            have e : 128 ^ 8 = 72057594037927936 := by decide
            omega
        obtain ⟨g, c, hv, hat⟩ := HO.out.at (by rw [pre_len]; omega)
        subst hv
        have hjl : j < (pre (j + 1) n).length := by rw [pre_len]; omega
        have k1 := hat.cell hjl
        have k2 := hat.frz j
        have hL : (pre (j + 1) n).length = j + 1 := pre_len _ _
        have hd1 : n / 128 ^ j % 128 < 128 := Nat.mod_lt _ (by omega)
        have hsum : (UInt8.ofNat (n / 128 ^ j % 128 + 128)).toNat = n / 128 ^ j % 128 + 128 := by rw [UInt8.toNat_ofNat']; omega
        have hone : (UInt8.ofNat (n / 128 ^ j % 128)).toNat = n / 128 ^ j % 128 := by rw [UInt8.toNat_ofNat']; omega
        rw [pre_last j n hjl, bv_def, hone] at k1
        have i1 := idx_own g (j + 1) c j j rfl (by omega)
        have HS := hat.set j (UInt8.ofNat (n / 128 ^ j % 128 + 128))
        have HPS := hid (pre_step j n)
        have HBs := hid (HB.out.setCell (p := ⟨g, j, none⟩) (show w.heap.size ≤ g from hat.ge) (.int .u8 ((n / 128 ^ j % 128 + 128 : Nat) : Int)))
        have HS1 := HS.own
        rw [List.length_set, hL, bv_def, hsum] at HS1
        have HS2 := hid HS1
        have HLs : Hid (((pre (j + 1) n).set j (UInt8.ofNat (n / 128 ^ j % 128 + 128))).length ≤ 9) := by rw [Hid, List.length_set, hL]; omega
        rw [hL]
        have g2 : decide (0 < m) = true := by simp; omega
        have g3 : decide ((0 : Int) < (m : Int)) = true := by simp; omega
        have HZ := hid (show 0 < n / 128 ^ (j + 1) by have := HM.out; omega)
        clear HS HS1 hsum hone hjl hat hL
        generalize hdv : n / 128 ^ j % 128 = d at *
        have HDv := hid hdv
        clear hdv
        have e1 : (((d + 128 : Nat)) : Int) = (d : Int) + 128 := by omega
        rw [e1] at HBs HS2
        clear e1 hz
        go_wp2_with (at_builtin; refine wpList_app (by rfl) (.tmp 29) (.tmp 33) 32 32 32 rfl rfl _ _ rfl rfl (run_oneG (wr.setCell ⟨g, j, none⟩ (.int .u8 ((d : Int) + 128))) wr.heap.size (by simp [World.setCell]) w.heap.size _ _ (by exact HS2.out) _ _ HX.out (by have := HLs.out; omega) hsz) ?_; rintro v2 w2 ⟨hown2, hb2⟩; have HO2 := hid hown2; have HB2 := hid (HBs.out.trans hb2); clear hown2 hb2)
        have HP2 : Hid ((pre (j + 1) n).set j (UInt8.ofNat (d + 128)) ++ [UInt8.ofNat (m % 128)] = pre (j + 2) n) := by rw [Hid, ← HPS.out, HM.out]
        go_roundw
        case rel => exact ⟨j + 2, m / 128, by omega, by go_num, by go_num, HQ.out, by rw [← HP2.out]; exact HO2.out, HB2.out, .inr HZ.out⟩
        case measure => simp [intOf]; omega

end Go.Proofs.Ytkkailggpfmgaaa
