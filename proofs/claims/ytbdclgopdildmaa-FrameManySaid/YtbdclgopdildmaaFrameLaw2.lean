/- FrameLong, FrameBack. -/
import Derived.Test.YtbdclgopdildmaaFrameLaw
import Derived.Test.YtbdclgopdildmaaFrameMath2
namespace Go.Proofs.Ytbdclgopdildmaa
set_option linter.unusedVariables false
set_option linter.unusedSimpArgs false
open Go.RowKit

theorem code_len1 {m : Nat} (h : m ≤ 127) : (codeNum (m : Int)).length = 1 := by
  rw [codeNum_yes (by omega), numF, if_pos (by omega)]; rfl
theorem code_len2 {m : Nat} (h : 127 < m) (h2 : m < 16384) : (codeNum (m : Int)).length = 2 := by
  rw [codeNum_yes (by omega), numF, if_neg (by omega), numF, if_pos (by omega)]; rfl
theorem St.newBytes {w0 w w' : World} {r : List Thing} (S : St w0 w r) {n : Nat} {l : List UInt8} (ho : Own w' w.heap.size (.slice (some ⟨w.heap.size, 0, none⟩) n n) l) (hb : Below w.heap.size w w') : St w0 w' (r ++ [bytesT (.slice (some ⟨w.heap.size, 0, none⟩) n n) l]) := S.bytes ho hb

set_option maxRecDepth 10000 in
set_option maxHeartbeats 1600000 in
theorem frameLong_law (n : Int) (w : World) :
    Calls Try.prog 12 #[.int .i64 n] w fun e w' => e = .returned (.bool true) ∧ Below w.heap.size w w' := by
  have S0 := St.start w
  by_cases q0 : n < 0 ∨ 4100 < n
  · go_enter Try.func12, Try.ntmps12
    go_wp2_with fail
    refine (alive3_any _).mono ?_
    rintro e w1 ⟨rfl, hb1⟩
    have S1 := S0.grow hb1
    clear hb1
    rcases q0 with q0 | q0
    all_goals (
      go_wp2
      go_ret
      exact ⟨rfl, S1.fin⟩)
  obtain ⟨m, rfl⟩ := Int.eq_ofNat_of_zero_le (show 0 ≤ n by omega)
  have g1 : decide ((m : Int) < 0) = false := decide_eq_false (by omega)
  have g2 : decide ((4100 : Int) < (m : Int)) = false := decide_eq_false (by omega)
  by_cases q1 : m = 0 ∨ 4000 < m
  · have HF : Hid (frameB (List.replicate m (0 : UInt8)) = []) := by rw [Hid, frameB, List.length_replicate, if_pos q1]
    go_enter Try.func12, Try.ntmps12
    go_wp2_with fail
    refine (alive3_any _).mono ?_
    rintro e w1 ⟨rfl, hb1⟩
    have S1 := S0.grow hb1
    clear hb1
    go_wp2_with (at_make; refine wpList_make (by rfl) (.tmp 16) (.tmp 16) 30 rfl _ _ rfl rfl (run_make _ m (by omega)) ?_; rintro v2 w2 ⟨rfl, ho2, hb2⟩)
    have S2 := S1.newBytes ho2 hb2
    clear ho2 hb2
    refine (frPut_any _ (List.replicate m 0) m m w2 (by simp) (by unfold maxLen; omega) (Nat.le_refl _) (fun e => by cases e) (by exact S2.at 0 rfl)).mono ?_
    rintro e w3 ⟨a3, c3, rfl, ho3, hb3⟩
    rw [HF.out]
    have S3 := S2.grow hb3
    clear ho3 hb3
    rcases q1 with rfl | q1
    · go_wp2
      go_ret
      exact ⟨rfl, S3.fin⟩
    · have g3 : decide ((m : Int) < 1) = false := decide_eq_false (by omega)
      have g4 : decide ((4000 : Int) < (m : Int)) = true := decide_eq_true (by omega)
      go_wp2
      go_ret
      exact ⟨rfl, S3.fin⟩
  have g3 : decide ((m : Int) < 1) = false := decide_eq_false (by omega)
  have g4 : decide ((4000 : Int) < (m : Int)) = false := decide_eq_false (by omega)
  obtain ⟨t, r, ht, hr, hlen⟩ : ∃ (t : Bool) (r : Nat), decide ((127 : Int) < (m : Int)) = t ∧ r = (if t = true then 7 else 6) ∧ (frameB (List.replicate m (0 : UInt8))).length = m + r := by
    have hl := frame_len (p := List.replicate m (0 : UInt8)) (by simp; omega) (by simp; omega)
    rw [List.length_replicate] at hl
    by_cases q : 127 < m
    · refine ⟨true, 7, decide_eq_true (by omega), rfl, ?_⟩
      rw [hl, code_len2 q (by omega)]; omega
    · refine ⟨false, 6, decide_eq_false (by omega), rfl, ?_⟩
      rw [hl, code_len1 (by omega)]; omega
  have HL := hid hlen
  have HG : Hid (fGet (frameB (List.replicate m (0 : UInt8))) 0 = (List.replicate m 0, ((m + r : Nat) : Int), 1)) := by
    have := fGet_put [] [] (p := List.replicate m (0 : UInt8)) (by simp; omega) (by simp; omega)
    rw [List.append_nil, List.nil_append] at this
    rw [Hid, ← hlen]
    simpa using this
  have hr7 : r ≤ 7 := by rw [hr]; split <;> omega
  clear hlen
  obtain ⟨F, hF⟩ : ∃ F, frameB (List.replicate m (0 : UInt8)) = F := ⟨_, rfl⟩
  rw [hF] at HL HG
  have HF := hid hF
  have hr2 : Hid (r = if t = true then 7 else 6) := hr
  clear hF hr
  go_enter Try.func12, Try.ntmps12
  go_wp2_with fail
  refine (alive3_any _).mono ?_
  rintro e w1 ⟨rfl, hb1⟩
  have S1 := S0.grow hb1
  clear hb1
  go_wp2_with (at_make; refine wpList_make (by rfl) (.tmp 16) (.tmp 16) 30 rfl _ _ rfl rfl (run_make _ m (by omega)) ?_; rintro v2 w2 ⟨rfl, ho2, hb2⟩)
  have S2 := S1.newBytes ho2 hb2
  clear ho2 hb2
  refine (frPut_any _ (List.replicate m 0) m m w2 (by simp) (by unfold maxLen; omega) (Nat.le_refl _) (fun e => by cases e) (by exact S2.at 0 rfl)).mono ?_
  rintro e w3 ⟨a3, c3, rfl, ho3, hb3⟩
  rw [HF.out, HL.out] at ho3
  rw [HF.out, HL.out]
  have S3 := S2.bytes ho3 hb3
  clear ho3 hb3
  have hc3 := (S3.slA 1 rfl).2.1
  go_wp2_with fail
  refine (frGet_any a3 F (m + r) c3 0 w3 HL.out (by omega) hc3 (by exact S3.at 1 rfl)).mono ?_
  rintro e w4 ⟨⟨a4, c4, rfl, ho4⟩, hb4⟩
  rw [HG.out] at ho4 ⊢
  simp only [List.length_replicate] at ho4
  simp only [List.length_replicate]
  have S4 := S3.grow hb4
  clear ho4 hb4
  cases t with
  | true =>
    have er : r = 7 := hr2.out
    subst er
    have g9 : (((m + 7 : Nat) : Int) == (m : Int) + 7) = true := by simp
    go_wp2
    go_ret
    exact ⟨rfl, S4.fin⟩
  | false =>
    have er : r = 6 := hr2.out
    subst er
    have g9 : (((m + 6 : Nat) : Int) == (m : Int) + 6) = true := by simp
    go_wp2
    go_ret
    exact ⟨rfl, S4.fin⟩

end Go.Proofs.Ytbdclgopdildmaa
