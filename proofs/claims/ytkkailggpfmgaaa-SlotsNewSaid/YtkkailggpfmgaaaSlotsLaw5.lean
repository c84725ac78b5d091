/- SlotsNew. -/
import Derived.Test.YtkkailggpfmgaaaSlotsLaw
import Derived.Test.YtkkailggpfmgaaaSlotsMath2
namespace Go.Proofs.Ytkkailggpfmgaaa
set_option linter.unusedVariables false
set_option linter.unusedSimpArgs false
open Go.RowKit

theorem sn_num : codeNum (5 : Int) = [5] ∧ (frameB (codeNum (5 : Int) ++ [7])).length = 8 := ⟨by kernel_rfl, by kernel_rfl⟩
theorem sn_bad (d : DSt) (fr sz : Nat) (b : List UInt8) : slSave d fr sz b (-1) = (1, d) := by
  unfold slSave slStart
  rw [if_pos (by rfl)]; rfl
theorem sn_full {d : DSt} {fr sz : Nat} (ho : d.shows fr sz = none) (h : sz < 8) : slSave d fr sz [7] 5 = (3, d) := by
  have hs : slStart d fr sz [7] 5 = (3, d) := by
    unfold slStart
    rw [if_neg (by rw [sn_num.1]; simp), ho, if_neg (by intro e; cases e), if_pos (by rw [sn_num.2]; exact .inr h)]
  unfold slSave
  rw [hs]; rfl
theorem sn_takes {d : DSt} {fr sz : Nat} (ho : d.shows fr sz = none) (h : 8 ≤ sz) : Takes d fr sz [7] 5 :=
  ⟨by rfl, by rw [ho]; rfl, by rw [show ((5 : Nat) : Int) = 5 from rfl, sn_num.1]; simp, by rw [show ((5 : Nat) : Int) = 5 from rfl, sn_num.1]; simp, by rw [show ((5 : Nat) : Int) = 5 from rfl, sn_num.2]; exact h⟩

set_option maxRecDepth 10000 in
set_option maxHeartbeats 3200000 in
theorem slotsNew_law (size fr sz : Int) (hf0 : -9223372036854775808 ≤ fr) (hf1 : fr ≤ 9223372036854775807) (hz0 : -9223372036854775808 ≤ sz) (hz1 : sz ≤ 9223372036854775807) (w : World) :
    Calls Try.prog 9 #[.int .i64 size, .int .i64 fr, .int .i64 sz] w fun e w' => e = .returned (.bool true) ∧ Below w.heap.size w w' := by
  have S0 := St.start w
  by_cases h1 : size < 1
  · have g1 : decide (size < 1) = true := decide_eq_true h1
    go_enter Try.func9, Try.ntmps9
    go_wp2_with fail
    refine (alive6_any _).mono ?_
    rintro e w1 ⟨rfl, hb1⟩
    have S1 := S0.grow hb1
    clear hb1
    go_wp2
    go_ret
    exact ⟨rfl, S1.fin⟩
  have g1 : decide (size < 1) = false := decide_eq_false h1
  by_cases h2 : 400 < size
  · have g2 : decide (400 < size) = true := decide_eq_true h2
    go_enter Try.func9, Try.ntmps9
    go_wp2_with fail
    refine (alive6_any _).mono ?_
    rintro e w1 ⟨rfl, hb1⟩
    have S1 := S0.grow hb1
    clear hb1
    go_wp2
    go_ret
    exact ⟨rfl, S1.fin⟩
  have g2 : decide (400 < size) = false := decide_eq_false h2
  obtain ⟨n, rfl⟩ := Int.eq_ofNat_of_zero_le (show 0 ≤ size by omega)
  have h3 : 1 ≤ n := by omega
  have h4 : n ≤ 400 := by omega
  clear h1 h2
  go_enter Try.func9, Try.ntmps9
  go_wp2_with fail
  refine (alive6_any _).mono ?_
  rintro e w1 ⟨rfl, hb1⟩
  have S1 := S0.grow hb1
  clear hb1
  go_wp2_with fail
  refine (hnew S1 n h3 (by omega)).mono ?_
  rintro e w2 ⟨pd, rfl, S2, -⟩
  by_cases hbad : fr < 0 ∨ sz < 1 ∨ (n : Int) < 2 * sz ∨ (n : Int) - 2 * sz < fr
  · have HBad := hid hbad
    clear hbad
    go_wp2_with fail
    refine (slOpen_no (by exact S2) fr sz hz0 hz1 (by simpa [DSt.new] using HBad.out)).mono ?_
    rintro e w4 ⟨rfl, rfl⟩
    go_wp2
    go_ret
    exact ⟨rfl, S2.fin⟩
  obtain ⟨fr, rfl⟩ := Int.eq_ofNat_of_zero_le (show 0 ≤ fr by omega)
  obtain ⟨sz, rfl⟩ := Int.eq_ofNat_of_zero_le (show 0 ≤ sz by omega)
  have hsz : 1 ≤ sz := by omega
  have hr : fr + 2 * sz ≤ n := by omega
  clear hbad hf0 hf1 hz0 hz1
  obtain ⟨D, hD, hDi, hDs, hDn⟩ := new_shows (N := n) (fr := fr) (sz := sz) hr
  rw [hD] at S2
  have HDn := hid hDn
  clear hD hDn
  go_wp2_with fail
  refine (slOpen_yes (by exact S2) fr sz hsz (by rw [hDi.len]; exact hr)).mono ?_
  rintro e w3 ⟨g, rfl, S3⟩
  have hL := slLoad_any S3 (by rw [hDi.len]; exact hr) (by rw [hDi.waits]; simp)
  rw [HDn.out] at hL
  have HL := hid hL
  clear hL
  go_wp2_with fail
  refine HL.out.mono ?_
  rintro e w4 ⟨a4, c4, rfl, -, -, -, T4⟩
  have S4 := T4.tail
  simp only [picA, picL, Option.isSome_none]
  clear HL T4
  have hP := slSave_any S4 (by rw [hDi.len]; exact hr) (by rw [hDi.waits]; simp) (by omega) none [] 0 0 rfl (by omega) (by omega) (fun _ => rfl) (Reads.old (At.nil _ _)) (-1)
  rw [sn_bad] at hP
  have HP := hid hP
  clear hP
  go_wp2_with fail
  refine HP.out.mono ?_
  rintro e w5 ⟨rfl, S5⟩
  clear HP S4
  have S6 : St w (w5.alloc (.cells #[.int .u8 7] 5)) (cellsT g 90 (slotC pd fr sz) :: diskT pd D :: [bytesT (.slice (some ⟨w5.heap.size, 0, none⟩) 1 1) [7]]) :=
    St.bytes (by exact S5) (own_new w5 w5.heap.size [7] #[.int .u8 7] 1 rfl rfl (by unfold maxLen; simp) (Nat.le_refl _)) ((Below.refl _ _).alloc (Nat.le_refl _) _)
  have hP := slSave_any S6 (by rw [hDi.len]; exact hr) (by rw [hDi.waits]; simp) (by omega) (some ⟨w5.heap.size, 0, none⟩) [7] 1 1 rfl (by omega) (by omega) (fun e => by cases e) (Reads.at 0 rfl) 5
  by_cases h8 : sz < 8
  · have g8 : decide ((sz : Int) < 8) = true := decide_eq_true (by omega)
    have g8n : decide (sz < 8) = true := decide_eq_true h8
    rw [sn_full HDn.out h8] at hP
    have HP := hid hP
    clear hP
    go_wp2_with fail
    refine HP.out.mono ?_
    rintro e w6 ⟨rfl, S7⟩
    have hL := slLoad_any S7 (by rw [hDi.len]; exact hr) (by rw [hDi.waits]; simp)
    rw [HDn.out] at hL
    have HL := hid hL
    clear hL HP
    go_wp2_with fail
    refine HL.out.mono ?_
    rintro e w7 ⟨a7, c7, rfl, -, -, -, T7⟩
    simp only [picA, picL, Option.isSome_none]
    go_wp2
    go_ret
    exact ⟨rfl, T7.fin⟩
  · have g8 : decide ((sz : Int) < 8) = false := decide_eq_false (by omega)
    have g8n : decide (sz < 8) = false := decide_eq_false h8
    obtain ⟨s1, s2, s3, s4⟩ := (sn_takes HDn.out (by omega : 8 ≤ sz)).save hDi
    rw [show ((5 : Nat) : Int) = 5 from rfl] at s1 s2 s3 s4
    obtain ⟨d2, hd2⟩ : ∃ d2, (slSave D fr sz [7] 5).2 = d2 := ⟨_, rfl⟩
    rw [s1, hd2] at hP
    rw [hd2] at s2 s3 s4
    have HP := hid hP
    have HS3 := hid s3
    clear hP s1 s3 hd2
    go_wp2_with fail
    refine HP.out.mono ?_
    rintro e w6 ⟨rfl, S7⟩
    have hL := slLoad_any S7 (by rw [s2.len]; exact hr) (by rw [s2.waits]; simp)
    rw [HS3.out] at hL
    have HL := hid hL
    clear hL HP
    go_wp2_with fail
    refine HL.out.mono ?_
    rintro e w7 ⟨a7, c7, rfl, q1, q2, q3, T7⟩
    have hT : St w w7 (roT a7 [7] :: _) := T7
    have hat := hT.roAt 0 rfl
    have i7 := fun wx => idx_at a7 1 c7 (fun h => hat.ok (by simp)) 0 0 rfl (by omega) wx
    have x7 : w7.cell? (adr a7 0) = some (.int .u8 7) := hat.cell (k := 0) (by simp)
    simp only [picA, picL, Option.isSome_some, List.length_singleton]
    clear q1 q2 q3 T7 hat HL
    go_wp2
    go_ret
    exact ⟨rfl, hT.fin⟩

end Go.Proofs.Ytkkailggpfmgaaa
