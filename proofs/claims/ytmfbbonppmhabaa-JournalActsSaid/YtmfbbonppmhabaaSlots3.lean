/- Slots: Save; none of a nil. -/
import Derived.Test.YtmfbbonppmhabaaSlots2
namespace Go.Proofs.Ytmfbbonppmhabaa
set_option linter.unusedVariables false
set_option linter.unusedSimpArgs false
open Go.RowKit

/-- What Save leaves. -/
def slSave (d : DSt) (fr sz : Nat) (b : List UInt8) (age : Int) : Int × DSt := ((slStart d fr sz b age).1, if (slStart d fr sz b age).1 = 0 then (slStart d fr sz b age).2.sync else (slStart d fr sz b age).2)
theorem slStart_lens (d : DSt) (fr sz : Nat) (b : List UInt8) (age : Int) : (slStart d fr sz b age).2.waits.length ≤ d.waits.length + 1 ∧ (slStart d fr sz b age).2.syncs ≤ d.syncs + 1 := by
  unfold slStart
  split
  · exact ⟨Nat.le_add_right _ _, Nat.le_add_right _ _⟩
  split
  · exact ⟨Nat.le_add_right _ _, Nat.le_add_right _ _⟩
  split
  · exact ⟨Nat.le_add_right _ _, Nat.le_add_right _ _⟩
  · refine ⟨Nat.le_trans (DSt.write_waits _ _ _) (by rw [(sync_waits _).1]; simp), ?_⟩
    show (DSt.write _ _ _).syncs ≤ _
    rw [DSt.write_syncs, (sync_waits _).2, DSt.write_syncs]
    exact Nat.le_refl _
section
variable {w0 w : World} {tl : List Thing} {pd : Value} {d : DSt} {g fr sz : Nat}
set_option maxRecDepth 10000 in
set_option maxHeartbeats 1600000 in
theorem slSave_any (S : St w0 w (cellsT g 97 (slotC pd fr sz) :: diskT pd d :: tl)) (hf : fr + 2 * sz ≤ d.lasts.length) (hw : d.waits.length ≤ 1000) (hs : d.syncs < 10000000) (a : Option Addr) (l : List UInt8) (n cap : Nat) (hn : l.length = n) (hm : n ≤ 65536) (hcap : n ≤ cap) (hnil : a = none → cap = 0) (hA : Reads w0 tl a l) (age : Int) :
    Calls Try.prog 40 #[.pointer (some ⟨g, 0, none⟩), .slice a n cap, .int .i64 age] w fun e w' => e = .returned (.int .i64 (slSave d fr sz l age).1) ∧ St w0 w' (cellsT g 97 (slotC pd fr sz) :: diskT pd (slSave d fr sz l age).2 :: tl) := by
  have hl := slStart_lens d fr sz l age
  have hP := slStart_any S hf hw (by omega) a l n cap hn hm hcap hnil hA age
  unfold slSave
  obtain ⟨R, hR⟩ : ∃ R, slStart d fr sz l age = R := ⟨_, rfl⟩
  rw [hR] at hl hP ⊢
  have HP := hid hP
  clear hP hR hn hnil hA
  by_cases h0 : R.1 = 0
  · have g0 : (R.1 != 0) = false := by rw [h0]; rfl
    have HZ := hid h0
    obtain ⟨R2, hR2⟩ : ∃ R2, (R.1, if R.1 = 0 then R.2.sync else R.2) = R2 := ⟨_, rfl⟩
    have HR2 : Hid ((R.1, R.2.sync) = R2) := by rw [Hid, ← hR2, if_pos h0]
    rw [show R.1 = R2.1 by rw [← hR2], show (if R2.1 = 0 then R.2.sync else R.2) = R2.2 by rw [← hR2]]
    clear h0 hR2
    go_enter Try.func40, Try.ntmps40
    go_wp2_with fail
    refine HP.out.mono ?_
    rintro e w1 ⟨rfl, S1⟩
    have c1 := S1.cell 0 rfl 0 rfl
    go_wp2_with fail
    refine (hsync S1 1 rfl (by omega) (by omega)).mono ?_
    rintro e w2 ⟨rfl, S2⟩
    go_wp2
    go_ret
    rw [← HR2.out]
    exact ⟨by rw [HZ.out]; rfl, S2⟩
  · have g0 : (R.1 != 0) = true := by simpa using h0
    obtain ⟨R2, hR2⟩ : ∃ R2, (R.1, if R.1 = 0 then R.2.sync else R.2) = R2 := ⟨_, rfl⟩
    have HR2 : Hid (R = R2) := by rw [Hid, ← hR2, if_neg h0]
    rw [show R.1 = R2.1 by rw [← hR2], show (if R2.1 = 0 then R.2.sync else R.2) = R2.2 by rw [← hR2]]
    clear h0 hR2
    go_enter Try.func40, Try.ntmps40
    go_wp2_with fail
    refine HP.out.mono ?_
    rintro e w1 ⟨rfl, S1⟩
    go_wp2
    go_ret
    rw [← HR2.out]
    exact ⟨rfl, S1⟩
theorem slStart_nil (w : World) (a : Option Addr) (n c : Nat) (age : Int) : Calls Try.prog 64 #[.pointer none, .slice a n c, .int .i64 age] w fun e w' => e = .returned (.int .i64 1) ∧ w = w' := by
  go_enter Try.func64, Try.ntmps64
  go_wp2
  go_ret
  exact ⟨rfl, rfl⟩
theorem slSave_nil (w : World) (a : Option Addr) (n c : Nat) (age : Int) : Calls Try.prog 40 #[.pointer none, .slice a n c, .int .i64 age] w fun e w' => e = .returned (.int .i64 1) ∧ w = w' := by
  go_enter Try.func40, Try.ntmps40
  go_wp2_with fail
  refine (slStart_nil w a n c age).mono ?_
  rintro e w1 ⟨rfl, rfl⟩
  go_wp2
  go_ret
  exact ⟨rfl, rfl⟩
end

end Go.Proofs.Ytmfbbonppmhabaa
