/- SlotsActs, whatever is asked. -/
import Derived.Test.YtkkailggpfmgaaaSlotsLaw2
namespace Go.Proofs.Ytkkailggpfmgaaa
set_option linter.unusedVariables false
set_option linter.unusedSimpArgs false
open Go.RowKit

set_option maxRecDepth 10000 in
set_option maxHeartbeats 3200000 in
theorem slotsActs_law (size fr sz : Int) (hf0 : -9223372036854775808 ≤ fr) (hf1 : fr ≤ 9223372036854775807) (hz0 : -9223372036854775808 ≤ sz) (hz1 : sz ≤ 9223372036854775807) (a : Option Addr) (L : List SAct) (m cap : Nat) (w : World) (hm : L.length = m) (hm1 : m ≤ maxLen) (hA : AtG eSA w a L) (hok : ∀ x ∈ L, SAct.Ok w x) :
    Calls Try.prog 6 #[.int .i64 size, .int .i64 fr, .int .i64 sz, .slice a m cap] w fun e w' => e = .returned (.bool true) ∧ Below w.heap.size w w' := by
  by_cases hs : 1 ≤ size ∧ size ≤ 400
  · by_cases hf : few6 L = true
    · obtain ⟨n, rfl⟩ := Int.eq_ofNat_of_zero_le (show 0 ≤ size by omega)
      exact slotsActs_main n (by omega) (by omega) fr sz hf0 hf1 hz0 hz1 a L m cap w hm hm1 hA hok hf
    · have HF : Hid (few6 L = false) := by rw [Hid]; simpa using hf
      have HM := hid hm
      have HA := hid hA
      have S0 := St.start w
      clear hf hm hA hok
      go_enter Try.func6, Try.ntmps6
      go_wp2_with fail
      refine (alive6_any _).mono ?_
      rintro e w1 ⟨rfl, hb1⟩
      have S1 := S0.grow hb1
      clear hb1
      go_wp2_with (refine (few6_any a L m cap w1 HM.out hm1 (by exact HA.out.all eSAok S1.fin)).mono ?_; rintro e w2 ⟨rfl, rfl⟩; rw [HF.out])
      all_goals (go_ret; exact ⟨rfl, S1.fin⟩)
  · have S0 := St.start w
    have HS := hid hs
    by_cases h1 : size < 1
    · have g1 : decide (size < 1) = true := decide_eq_true h1
      clear hs hA hok hm
      go_enter Try.func6, Try.ntmps6
      go_wp2_with fail
      refine (alive6_any _).mono ?_
      rintro e w1 ⟨rfl, hb1⟩
      have S1 := S0.grow hb1
      clear hb1
      go_wp2
      go_ret
      exact ⟨rfl, S1.fin⟩
    · have g1 : decide (size < 1) = false := decide_eq_false h1
      have g2 : decide (400 < size) = true := decide_eq_true (by omega)
      clear hs hA hok hm
      go_enter Try.func6, Try.ntmps6
      go_wp2_with fail
      refine (alive6_any _).mono ?_
      rintro e w1 ⟨rfl, hb1⟩
      have S1 := S0.grow hb1
      clear hb1
      go_wp2
      go_ret
      exact ⟨rfl, S1.fin⟩

end Go.Proofs.Ytkkailggpfmgaaa
