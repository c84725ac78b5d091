/- JournalActs, whatever is asked. -/
import Derived.Test.YtmfbbonppmhabaaJournalLaw5
import Derived.Test.YtmfbbonppmhabaaJournalRef4
namespace Go.Proofs.Ytmfbbonppmhabaa
set_option linter.unusedVariables false
set_option linter.unusedSimpArgs false
open Go.RowKit
set_option maxRecDepth 10000 in
set_option maxHeartbeats 3200000 in
theorem journalActs_law (size : Int) (a : Option Addr) (L : List JAct) (m cap : Nat) (w : World) (hm : L.length = m) (hm1 : m ≤ maxLen) (hA : AtG eJA w a L) (hok : ∀ x ∈ L, JAct.Ok w x) :
    Calls Try.prog 4 #[.int .i64 size, .slice a m cap] w fun e w' => e = .returned (.bool true) ∧ Below w.heap.size w w' := by
  by_cases hs : 1 ≤ size ∧ size ≤ 600
  case neg =>
    have S0 := St.start w
    by_cases h1 : size < 1
    · have g1 : decide (size < 1) = true := decide_eq_true h1
      clear hs hA hok hm
      go_enter Try.func4, Try.ntmps4
      go_wp2_with fail
      refine (alive7_any _).mono ?_
      rintro e w1 ⟨rfl, hb1⟩
      have S1 := S0.grow hb1
      clear hb1
      go_wp2
      go_ret
      exact ⟨rfl, S1.fin⟩
    · have g1 : decide (size < 1) = false := decide_eq_false h1
      have g2 : decide (600 < size) = true := decide_eq_true (by omega)
      clear hs hA hok hm
      go_enter Try.func4, Try.ntmps4
      go_wp2_with fail
      refine (alive7_any _).mono ?_
      rintro e w1 ⟨rfl, hb1⟩
      have S1 := S0.grow hb1
      clear hb1
      go_wp2
      go_ret
      exact ⟨rfl, S1.fin⟩
  obtain ⟨n, rfl⟩ := Int.eq_ofNat_of_zero_le (show 0 ≤ size by omega)
  by_cases hf : few7 L = true
  case neg =>
    have HF : Hid (few7 L = false) := by rw [Hid]; simpa using hf
    have HM := hid hm
    have HA := hid hA
    have S0 := St.start w
    have gg0 : decide ((n : Int) < 1) = false := decide_eq_false (by omega)
    have gg0n : decide (n < 1) = false := decide_eq_false (by omega)
    have gg1 : decide ((600 : Int) < (n : Int)) = false := decide_eq_false (by omega)
    have gg1n : decide (600 < n) = false := decide_eq_false (by omega)
    clear hf hm hA hok hs
    go_enter Try.func4, Try.ntmps4
    go_wp2_with fail
    refine (alive7_any _).mono ?_
    rintro e w1 ⟨rfl, hb1⟩
    have S1 := S0.grow hb1
    clear hb1
    go_wp2_with fail
    refine (few7_any a L m cap w1 HM.out hm1 (by exact HA.out.all eJAok S1.fin)).mono ?_
    rintro e w2 ⟨rfl, rfl⟩
    rw [HF.out]
    go_wp2
    go_ret
    exact ⟨rfl, S1.fin⟩
  by_cases h64 : 64 ≤ n
  · exact journalActs_main n h64 (by omega) a L m cap w hm hm1 hA hok hf
  have k1 := fun (w : World) => Lib.run_convert_bytes_const (P := Try.prog) w 27 5 #[.int .u8 97] 1 1 sliceB u8T
  have HF := hid hf
  have HM := hid hm
  have HA := hid hA
  have S0 := St.start w
  have gg0 : decide ((n : Int) < 1) = false := decide_eq_false (by omega)
  have gg0n : decide (n < 1) = false := decide_eq_false (by omega)
  have gg1 : decide ((600 : Int) < (n : Int)) = false := decide_eq_false (by omega)
  have gg1n : decide (600 < n) = false := decide_eq_false (by omega)
  have hn1 : 1 ≤ n := by omega
  clear hf hm hA hok hs
  go_enter Try.func4, Try.ntmps4
  go_wp2_with fail
  refine (alive7_any _).mono ?_
  rintro e w1 ⟨rfl, hb1⟩
  have S1 := S0.grow hb1
  clear hb1
  go_wp2_with fail
  refine (few7_any a L m cap w1 HM.out hm1 (by exact HA.out.all eJAok S1.fin)).mono ?_
  rintro e w2 ⟨rfl, rfl⟩
  rw [HF.out]
  go_wp2_with fail
  refine (hnew S1 n hn1 (by omega)).mono ?_
  rintro e w2 ⟨pd, rfl, S2, -⟩
  go_wp2_with fail
  refine (rdnew_any S2 n (by omega)).mono ?_
  rintro e w3 ⟨pr, rfl, S3, -⟩
  go_wp2_with fail
  refine (jlOpen_no (by exact S3.swap) (by simp [DSt.new]; omega)).mono ?_
  rintro e w4 ⟨rfl, rfl⟩
  go_wp2_with fail
  refine (rjOpen_no S3 (by simp; omega)).mono ?_
  rintro e w4 ⟨rfl, rfl⟩
  go_wp2_with fail
  refine (jAppend_nil _ _ _ _).mono ?_
  rintro e w4 ⟨rfl, rfl⟩
  have S4 := S3.alloc (.cells #[.int .u8 97] 5 (1, 2))
  generalize w3.alloc (.cells #[.int .u8 97] 5 (1, 2)) = w4 at S4 ⊢
  go_wp2_with fail
  refine (jStart_nil _ _ _ _).mono ?_
  rintro e w4 ⟨rfl, rfl⟩
  go_wp2_with fail
  refine (jCompact_nil _ _ _ _).mono ?_
  rintro e w4 ⟨rfl, rfl⟩
  go_wp2_with fail
  refine (jlCount_nil _).mono ?_
  rintro e w4 ⟨rfl, rfl⟩
  go_wp2_with fail
  refine (jRoom_nil _ _).mono ?_
  rintro e w4 ⟨rfl, rfl⟩
  go_wp2
  go_ret
  exact ⟨rfl, ((S4.alloc _).drew).fin⟩
end Go.Proofs.Ytmfbbonppmhabaa
