/- The document's frames (dunnageref03): Put. -/
import Derived.Test.YtkkailggpfmgaaaFramePut
namespace Go.Proofs.Ytkkailggpfmgaaa
set_option linter.unusedVariables false
set_option linter.unusedSimpArgs false
open Go.RowKit

set_option maxRecDepth 10000 in
set_option maxHeartbeats 1600000 in
theorem rfrPut_any (a : Option Addr) (l : List UInt8) (n cap : Nat) (w : World) (hn : l.length = n) (hm : n ≤ 140737488355328) (hA : At w a l) :
    Calls Try.prog 44 #[.slice a n cap] w fun e w' => ∃ a c, e = .returned (.slice a (frameB l).length c) ∧ Own w' w.heap.size (.slice a (frameB l).length c) (frameB l) ∧ Below w.heap.size w w' := by
  have HN := hid hn
  have HA := hid hA
  clear hn hA
  by_cases h0 : n = 0 ∨ 4000 < n
  · have e : frameB l = [] := by unfold frameB; rw [HN.out, if_pos h0]
    rw [e]
    clear e
    rcases h0 with rfl | h0
    · go_enter Try.func44, Try.ntmps44
      go_wp2
      go_ret
      exact ⟨_, _, rfl, Own.nil _ _, Below.refl _ _⟩
    · have g1 : decide ((n : Int) < 1) = false := decide_eq_false (by omega)
      have g2 : decide ((4000 : Int) < (n : Int)) = true := decide_eq_true (by omega)
      go_enter Try.func44, Try.ntmps44
      go_wp2
      go_ret
      exact ⟨_, _, rfl, Own.nil _ _, Below.refl _ _⟩
  have g1 : decide ((n : Int) < 1) = false := decide_eq_false (by omega)
  have g2 : decide ((4000 : Int) < (n : Int)) = false := decide_eq_false (by omega)
  have ef : Hid (frameB l = ((([] ++ codeNum n) ++ l) ++ putB (sumOf l)) ++ [1]) := by
    rw [Hid, frameB, HN.out, if_neg h0]; simp
  have hcl := codeNum_len (n : Int)
  obtain ⟨c, hc⟩ : ∃ c, (codeNum n).length = c := ⟨_, rfl⟩
  rw [hc] at hcl
  have HC := hid hc
  have eN : Hid ((frameB l).length = c + n + 4 + 1) := by
    rw [Hid, ef.out]; simp only [List.length_append, HN.out, HC.out, putB_length, List.length_singleton, List.length_nil]; omega
  rw [eN.out]
  clear hc
  go_enter Try.func44, Try.ntmps44
  go_wp2_with fail
  refine (rnum_any n w).mono ?_
  rintro e w1 ⟨v1, rfl, ho1, hb1⟩
  obtain ⟨a1, c1, rfl⟩ := ho1.written HC.out
  have S1 := (St.start w).nil.bytes ho1 hb1
  clear ho1 hb1
  go_wp2_with (at_builtin; first
    | (refine wpList_app (by rfl) (.tmp 12) (.tmp 15) 32 32 32 rfl rfl _ _ rfl rfl (S1.app 0 rfl a1 (codeNum n) c c1 HC.out (by exact S1.at 1 rfl) c (by simp) (by omega)) ?_; rintro v2 w2 ⟨⟨a2, c2, rfl⟩, S2⟩)
    | (refine wpList_app (by rfl) (.tmp 17) (.tmp 18) 32 32 32 rfl rfl _ _ rfl rfl (S2.app 0 rfl a l n cap HN.out (by exact S2.old HA.out) (c + n) (by rw [List.nil_append, HC.out]) (by omega)) ?_; rintro v3 w3 ⟨⟨a3, c3, rfl⟩, S3⟩))
  refine (rof_any a l n cap w3 HN.out (by unfold maxLen; omega) (by exact S3.old HA.out)).mono ?_
  rintro e w4 ⟨rfl, rfl⟩
  go_wp2_with fail
  refine (rput_any (sumOf l : Int) w3).mono ?_
  rintro e w4 ⟨v4, rfl, ho4, hb4⟩
  obtain ⟨a4, c4, rfl⟩ := ho4.written (n := 4) (putB_length _)
  have S4 := S3.bytes ho4 hb4
  clear ho4 hb4
  go_wp2_with (at_builtin; first
    | (refine wpList_app (by rfl) (.tmp 20) (.tmp 23) 32 32 32 rfl rfl _ _ rfl rfl (S4.app 0 rfl a4 (putB (sumOf l)) 4 c4 (putB_length _) (by exact S4.at 2 rfl) (c + n + 4) (by rw [List.nil_append, List.length_append, HC.out, HN.out]) (by omega)) ?_; rintro v5 w5 ⟨⟨a5, c5, rfl⟩, S5⟩)
    | (refine wpList_app (by rfl) (.tmp 25) (.tmp 26) 32 32 32 rfl rfl _ _ rfl rfl (S5.app1 w5.heap.size rfl 0 rfl 1 _ (by rfl) (c + n + 4 + 1) (by rw [List.nil_append, List.length_append, List.length_append, HC.out, HN.out, putB_length]) (by omega)) ?_; rintro v6 w6 ⟨⟨a6, c6, rfl⟩, S6⟩))
  go_ret
  refine ⟨_, _, rfl, ?_, S6.fin⟩
  rw [ef.out]
  exact S6.ownAt 0 rfl

end Go.Proofs.Ytkkailggpfmgaaa
