/- FrameBits. -/
import Derived.Test.YtbdclgopdildmaaFrameLaw2
import Derived.Test.YtbdclgopdildmaaRdisk2
namespace Go.Proofs.Ytbdclgopdildmaa
set_option linter.unusedVariables false
set_option linter.unusedSimpArgs false
open Go.RowKit

theorem bit_ne (x : UInt8) (k : Nat) (hk : k < 8) : x ^^^ UInt8.ofNat (2 ^ k) ≠ x ∧ ((2 : Int) ^ k) % 256 = ((UInt8.ofNat (2 ^ k)).toNat : Int) := by
  have h : k = 0 ∨ k = 1 ∨ k = 2 ∨ k = 3 ∨ k = 4 ∨ k = 5 ∨ k = 6 ∨ k = 7 := by omega
  refine ⟨?_, by rcases h with rfl | rfl | rfl | rfl | rfl | rfl | rfl | rfl <;> rfl⟩
  intro e
  have e2 : x ^^^ (x ^^^ UInt8.ofNat (2 ^ k)) = x ^^^ x := by rw [e]
  rw [← UInt8.xor_assoc, UInt8.xor_self, UInt8.zero_xor] at e2
  rcases h with rfl | rfl | rfl | rfl | rfl | rfl | rfl | rfl <;> cases e2

set_option maxRecDepth 10000 in
set_option maxHeartbeats 1600000 in
theorem frameBits_law (a : Option Addr) (l : List UInt8) (n cap : Nat) (bit : Int) (w : World) (hn : l.length = n) (hcap : n ≤ cap) (hm : n ≤ maxLen) (hnil : a = none → cap = 0) (hA : At w a l) :
    Calls Try.prog 11 #[.slice a n cap, .int .i64 bit] w fun e w' => e = .returned (.bool true) ∧ Below w.heap.size w w' := by
  have HN := hid hn
  have HNil := hid hnil
  unfold maxLen at hm
  have S0 := St.start w
  clear hnil
  by_cases q1 : n = 0 ∨ 4000 < n
  · have HF : Hid (frameB l = []) := by rw [Hid, frameB, hn, if_pos q1]
    clear hn q1
    go_enter Try.func11, Try.ntmps11
    go_wp2_with fail
    refine (alive3_any _).mono ?_
    rintro e w1 ⟨rfl, hb1⟩
    have S1 := S0.grow hb1
    clear hb1
    go_wp2_with fail
    refine (frPut_any a l n cap w1 HN.out (by unfold maxLen; omega) hcap HNil.out (by exact S1.old hA)).mono ?_
    rintro e w3 ⟨a3, c3, rfl, ho3, hb3⟩
    rw [HF.out]
    have S3 := S1.grow hb3
    clear ho3 hb3
    go_wp2
    go_ret
    exact ⟨rfl, S3.fin⟩
  have hl := frame_len (p := l) (by omega) (by omega)
  obtain ⟨F, hF⟩ : ∃ F, frameB l = F := ⟨_, rfl⟩
  obtain ⟨c, hc⟩ : ∃ c, (codeNum (l.length : Int)).length = c := ⟨_, rfl⟩
  rw [hF, hc, hn] at hl
  have HL := hid hl
  have HF := hid hF
  have HC := hid hc
  have hc8 : c ≤ 8 := by rw [← hc]; exact codeNum_len _
  have g1 : (((c + n + 5 : Nat) : Int) == 0) = false := by simp; omega
  clear hl hF hc hn
  go_enter Try.func11, Try.ntmps11
  go_wp2_with fail
  refine (alive3_any _).mono ?_
  rintro e w1 ⟨rfl, hb1⟩
  have S1 := S0.grow hb1
  clear hb1
  go_wp2_with fail
  refine (frPut_any a l n cap w1 HN.out (by unfold maxLen; omega) hcap HNil.out (by exact S1.old hA)).mono ?_
  rintro e w3 ⟨a3, c3, rfl, ho3, hb3⟩
  rw [HF.out, HL.out] at ho3
  rw [HF.out, HL.out]
  have S3 := S1.bytes ho3 hb3
  clear ho3 hb3
  generalize hNN : c + n + 5 = N at *
  by_cases q2 : 120 < N
  · have g2 : decide ((120 : Int) < (N : Int)) = true := decide_eq_true (by omega)
    go_wp2
    go_ret
    exact ⟨rfl, S3.fin⟩
  have g2 : decide ((120 : Int) < (N : Int)) = false := decide_eq_false (by omega)
  by_cases q3 : bit < 8 * (c : Int)
  · have g3 : decide (bit < 8 * ((N : Int) - (n : Int) - 5)) = true := decide_eq_true (by omega)
    go_wp2
    go_ret
    exact ⟨rfl, S3.fin⟩
  have g3 : decide (bit < 8 * ((N : Int) - (n : Int) - 5)) = false := decide_eq_false (by omega)
  by_cases q4 : 8 * (N : Int) ≤ bit
  · have g4 : decide (8 * (N : Int) ≤ bit) = true := decide_eq_true (by omega)
    go_wp2
    go_ret
    exact ⟨rfl, S3.fin⟩
  have g4 : decide (8 * (N : Int) ≤ bit) = false := decide_eq_false (by omega)
  obtain ⟨b, rfl⟩ := Int.eq_ofNat_of_zero_le (show 0 ≤ bit by omega)
  obtain ⟨gb, cb', eb, _⟩ := (S3.ownAt 0 rfl).form (by rw [HL.out]; omega)
  have eb2 : a3 = some ⟨gb, 0, none⟩ := by injection eb
  subst eb2
  have hj : b / 8 < N := by omega
  have i0 := fun wx => idx_own gb N c3 (b / 8) ((b : Int) / 8) (by omega) hj wx
  have hown := S3.ownAt 0 rfl
  have x0 := hown.cellAt HL.out (b / 8) (by rw [HL.out]; exact hj)
  have f0 := hown.frz HL.out (b / 8)
  clear eb hown
  rw [bv_def] at x0
  go_wp2_with fail
  have hjF : b / 8 < F.length := by rw [HL.out]; exact hj
  obtain ⟨hne, hpow⟩ := bit_ne F[b / 8] (b % 8) (by omega)
  have hxor : bits .xor .u8 (F[b / 8].toNat : Int) ((2 : Int) ^ (b % 8) % 256) = ((F[b / 8] ^^^ UInt8.ofNat (2 ^ (b % 8))).toNat : Int) := by rw [hpow, xor_u8]
  rw [hxor]
  have S4 : St w (w3.setCell ⟨gb, b / 8, none⟩ (.int .u8 ((F[b / 8] ^^^ UInt8.ofNat (2 ^ (b % 8))).toNat : Int))) [bytesT (.slice (some ⟨gb, 0, none⟩) N c3) (F.set (b / 8) (F[b / 8] ^^^ UInt8.ofNat (2 ^ (b % 8))))] := S3.setByte 0 rfl (k := b / 8) (F[b / 8] ^^^ UInt8.ofNat (2 ^ (b % 8)))
  have HG : Hid (fGet (F.set (b / 8) (F[b / 8] ^^^ UInt8.ofNat (2 ^ (b % 8)))) 0 = ([], 0, 2)) := by
    have h1 : 1 ≤ l.length := by rw [HN.out]; omega
    have h2 : l.length ≤ 4000 := by rw [HN.out]; omega
    have hFF := HF.out
    subst hFF
    exact fGet_turned h1 h2 (b / 8) (by rw [HC.out]; omega) hjF _ hne
  clear hne hpow hxor x0 f0
  generalize F[b / 8] ^^^ UInt8.ofNat (2 ^ (b % 8)) = d at *
  generalize w3.setCell _ _ = w4 at *
  have hc4 := (S4.slA 0 rfl).2.1
  refine (frGet_any _ (F.set (b / 8) d) N c3 0 w4 (by rw [List.length_set]; exact HL.out) (by omega) hc4 (by exact S4.at 0 rfl)).mono ?_
  rintro e w5 ⟨⟨a5, c5, rfl, ho5⟩, hb5⟩
  rw [HG.out] at ho5 ⊢
  have S5 := S4.grow hb5
  clear ho5 hb5
  go_wp2
  go_ret
  exact ⟨rfl, S5.fin⟩

end Go.Proofs.Ytbdclgopdildmaa
