/- The statements of layer 3: alive, FramePuts, FrameGets. -/
import Derived.Test.YtbdclgopdildmaaFrameAll
import Derived.Test.YtbdclgopdildmaaDiskLaw
namespace Go.Proofs.Ytbdclgopdildmaa
set_option linter.unusedVariables false
set_option linter.unusedSimpArgs false
open Go.RowKit

def fr7 : List UInt8 := [1, 97, 232, 183, 190, 67, 1]
theorem fr_1 : frameB [97] = fr7 := by kernel_rfl
theorem fr_2 : fGet fr7 0 = ([97], 7, 1) := by kernel_rfl
theorem fr_3 : fGet (fr7.take 6) 0 = ([], 0, 2) := by kernel_rfl
theorem fAllF_len : ∀ (f : Nat) (l : List UInt8) (at_ : Int), (fAllF f l at_).1.length ≤ f
  | 0, _, _ => Nat.le_refl _
  | f + 1, l, at_ => by
    rw [fAllF]
    split
    · have := fAllF_len f l (fGet l at_).2.1
      simp only [List.length_cons]; omega
    · simp
theorem fr_4 : fAll fr7 0 = ([[97]], 7) := by kernel_rfl

set_option maxRecDepth 100000 in
set_option maxHeartbeats 1600000 in
theorem alive3_any (w : World) : Calls Try.prog 27 #[] w fun e w' => e = .returned (.bool true) ∧ Below w.heap.size w w' := by
  have c0 := Lib.run_convert_bytes_const (P := Try.prog) w 30 5 #[.int .u8 97] 1 1 sliceB u8T
  have hat : At (w.alloc (.cells #[.int .u8 97] 5 (1, 2))) (some ⟨w.heap.size, 0, none⟩) [97] := At.mark rfl _
  have HAt := hid hat
  have S0 := St.start w
  have X7 : Hid (#[Value.int .u8 1, .int .u8 97, .int .u8 232, .int .u8 183, .int .u8 190, .int .u8 67, .int .u8 1].toList = fr7.map bv) := rfl
  have E1 := hid fr_1
  have E2 := hid fr_2
  have E3 := hid fr_3
  have E4 := hid fr_4
  have L7 : Hid (fr7.length = 7) := rfl
  have L6 : Hid ((fr7.take 6).length = 6) := rfl
  clear hat
  go_enter Try.func27, Try.ntmps27
  go_wp2_with fail
  clear c0
  refine (frPut_any _ [97] 1 _ _ rfl (by decide) (by omega) (fun e => by cases e) (by exact HAt.out)).mono ?_
  rintro e w1 ⟨a1, c1, rfl, ho1, hb1⟩
  rw [E1.out, L7.out] at ho1
  rw [E1.out, L7.out]
  have S1 : St w w1 [bytesT (.slice a1 7 c1) fr7] := (S0.alloc _).bytes ho1 hb1
  clear ho1 hb1
  have hc1 := (S1.slA 0 rfl).2.1
  have ic := cut_hI a1 7 c1 6 6 rfl (by omega)
  go_wp2_with fail
  refine (frGet_any a1 fr7 7 c1 0 w1 L7.out (by omega) hc1 (by exact S1.at 0 rfl)).mono ?_
  rintro e w2 ⟨⟨a2, c2, rfl, ho2⟩, hb2⟩
  rw [E2.out] at ho2 ⊢
  have S2 := S1.bytes ho2 hb2
  clear ho2 hb2
  go_wp2_with fail
  refine (frGet_any _ (fr7.take 6) 6 c1 0 w2 L6.out (by omega) (by omega) (by exact (S2.at 0 rfl).h 6 c1 (by omega))).mono ?_
  rintro e w3 ⟨⟨a3, c3, rfl, ho3⟩, hb3⟩
  rw [E3.out] at ho3 ⊢
  have S3 := S2.grow hb3
  clear ho3 hb3
  go_wp2_with fail
  refine (frAll_any a1 fr7 7 c1 0 w3 L7.out (by omega) hc1 (by exact S3.at 0 rfl) (by omega) (by omega)).mono ?_
  rintro e w4 ⟨a4, c4, xs, rfl, hxs, hhd, S4'⟩
  rw [E4.out] at S4' ⊢
  have S4 := S3.grow S4'.fin
  clear hxs hhd S4'
  go_wp2_with fail
  refine (hcmp (by exact S4.alloc _) true _ _ fr7 fr7 7 7 _ _ (by simp) L7.out L7.out (by decide) (by decide) (by exact (S4.alloc _).at 0 rfl) (by exact at_lit w4 fr7 _ X7.out)).mono ?_
  rintro e w5 ⟨rfl, S5, -⟩
  go_wp2
  go_ret
  exact ⟨rfl, S5.fin⟩

set_option maxRecDepth 10000 in
set_option maxHeartbeats 1600000 in
theorem framePuts_law (a : Option Addr) (l : List UInt8) (n cap : Nat) (w : World) (hn : l.length = n) (hcap : n ≤ cap) (hm : n ≤ maxLen) (hnil : a = none → cap = 0) (hA : At w a l) :
    Calls Try.prog 7 #[.slice a n cap] w fun e w' => e = .returned (.bool true) ∧ Below w.heap.size w w' := by
  have HN := hid hn
  have HNil := hid hnil
  unfold maxLen at hm
  have S0 := St.start w
  have hfl : (frameB l).length ≤ 10000 := by
    rw [frameB]
    split
    · simp
    · have := codeNum_len (l.length : Int)
      simp only [List.length_append, putB_length, List.length_singleton]; omega
  clear hn hnil
  go_enter Try.func7, Try.ntmps7
  go_wp2_with fail
  refine (alive3_any _).mono ?_
  rintro e w1 ⟨rfl, hb1⟩
  have S1 := S0.grow hb1
  clear hb1
  go_wp2_with fail
  all_goals (try (go_ret; exact ⟨rfl, S1.fin⟩))
  all_goals (
    refine (frPut_any a l n cap w1 HN.out (by unfold maxLen; omega) hcap HNil.out (by exact S1.old hA)).mono ?_
    rintro e w2 ⟨a2, c2, rfl, ho2, hb2⟩
    have S2 := S1.bytes ho2 hb2
    clear ho2 hb2
    go_wp2_with fail
    refine (rfrPut_any a l n cap w2 HN.out (by omega) (by exact S2.old hA)).mono ?_
    rintro e w3 ⟨a3, c3, rfl, ho3, hb3⟩
    have S3 := S2.bytes ho3 hb3
    clear ho3 hb3
    go_wp2_with fail
    refine (hcmp S3 true _ _ (frameB l) (frameB l) _ _ _ _ (by simp) rfl rfl (by unfold maxLen; omega) (by unfold maxLen; omega) (by exact S3.at 0 rfl) (by exact S3.at 1 rfl)).mono ?_
    rintro e w4 ⟨rfl, S4, -⟩
    go_wp2
    go_ret
    exact ⟨rfl, S4.fin⟩)

set_option maxRecDepth 10000 in
set_option maxHeartbeats 1600000 in
theorem frameGets_law (a : Option Addr) (l : List UInt8) (n cap : Nat) (at_ : Int) (w : World) (hn : l.length = n) (hcap : n ≤ cap) (hm : n ≤ maxLen) (hA : At w a l) (hk0 : -9223372036854775808 ≤ at_) (hk1 : at_ ≤ 9223372036854775807) :
    Calls Try.prog 8 #[.slice a n cap, .int .i64 at_] w fun e w' => e = .returned (.bool true) ∧ Below w.heap.size w w' := by
  have HN := hid hn
  unfold maxLen at hm
  have S0 := St.start w
  clear hn
  go_enter Try.func8, Try.ntmps8
  go_wp2_with fail
  refine (alive3_any _).mono ?_
  rintro e w1 ⟨rfl, hb1⟩
  have S1 := S0.grow hb1
  clear hb1
  go_wp2_with fail
  all_goals (try (go_ret; exact ⟨rfl, S1.fin⟩))
  have hfl : (fGet l at_).1.length ≤ n := by
    have h : (fGet l at_).1.length ≤ l.length := by
      unfold fGet
      split
      · simp
      split
      · simp
      cases getNum l at_ with
      | none => simp [fNum]
      | some q =>
        simp only [fNum]
        unfold fBody
        split
        · simp
        split
        · simp only [List.length_take, List.length_drop]; omega
        · simp
    rw [HN.out] at h; exact h
  generalize hg : fGet l at_ = r at *
  have HG := hid hg
  clear hg
  obtain ⟨p, nx, wh⟩ := r
  obtain ⟨j, hj⟩ : ∃ j, p.length = j := ⟨_, rfl⟩
  have HJ := hid hj
  simp only [] at hfl
  rw [hj] at hfl
  clear hj
  refine (frGet_any a l n cap at_ w1 HN.out (by omega) hcap (by exact S1.old hA)).mono ?_
  rintro e w2 ⟨⟨a2, c2, rfl, ho2⟩, hb2⟩
  rw [HG.out] at ho2 ⊢
  simp only [] at ho2
  simp only []
  rw [HJ.out] at ho2 ⊢
  have S2 := S1.bytes ho2 hb2
  clear ho2 hb2
  go_wp2_with fail
  refine (rfrGet_any a l n cap at_ w2 HN.out (by omega) hcap (by exact S2.old hA)).mono ?_
  rintro e w3 ⟨⟨a3, c3, rfl, ho3⟩, hb3⟩
  rw [HG.out] at ho3 ⊢
  simp only [] at ho3
  simp only []
  rw [HJ.out] at ho3 ⊢
  have S3 := S2.bytes ho3 hb3
  clear ho3 hb3
  obtain ⟨R, hR⟩ : ∃ R, fAll l at_ = R := ⟨_, rfl⟩
  have HR := hid hR
  clear hR
  go_wp2_with fail
  refine (frAll_any a l n cap at_ w3 HN.out (by omega) hcap (by exact S3.old hA) hk0 hk1).mono ?_
  rintro e w4 ⟨a4, c4, xs, rfl, hxs, hhd, T4⟩
  rw [HR.out] at hxs T4 ⊢
  have S4 := S3.grow T4.fin
  have A4 := hid (T4.rowsAt eSok 0 rfl)
  have HX := hid (And.intro hxs hhd)
  clear hxs hhd T4
  go_wp2_with fail
  refine (rfrAll_any a l n cap at_ w4 HN.out (by omega) hcap (by exact S4.old hA) hk0 hk1).mono ?_
  rintro e w5 ⟨a5, c5, ys, rfl, hys, hhd, T5⟩
  rw [HR.out] at hys T5 ⊢
  have S5 := S4.grow T5.fin
  have A5 := hid (T5.rowsAt eSok 0 rfl)
  have HY := hid (And.intro hys hhd)
  have HB5 := hid T5.fin
  clear hys hhd T5
  have HLen : Hid (R.1.length ≤ 1000000) := by
    have := fAllF_len (l.length + 1) l at_
    rw [Hid, ← HR.out, fAll]
    have := HN.out
    omega
  go_wp2_with fail
  refine (hcmp S5 true _ _ p p j j _ _ (by simp) HJ.out HJ.out (by unfold maxLen; omega) (by unfold maxLen; omega) (by exact S5.at 0 rfl) (by exact S5.at 1 rfl)).mono ?_
  rintro e w6 ⟨rfl, S6, hb6⟩
  have HB6 := hid hb6
  clear hb6
  go_wp2_with fail
  refine (same_any a4 a5 xs ys _ _ c4 c5 w6 A4.out.1 A5.out.1 HLen.out HLen.out (by exact (A4.out.2.2.2.2.1.all eSok HB5.out).all eSok HB6.out) (by exact A5.out.2.2.2.2.1.all eSok HB6.out)
    (by exact fun x hx => ⟨HX.out.2 x hx, ((A4.out.2.2.2.2.2 x hx _ (List.mem_singleton.2 rfl)).all HB5.out).all HB6.out⟩) (by exact fun x hx => ⟨HY.out.2 x hx, (A5.out.2.2.2.2.2 x hx _ (List.mem_singleton.2 rfl)).all HB6.out⟩)).mono ?_
  rintro e w7 ⟨rfl, hb7⟩
  have S7 := S6.grow hb7
  have ht : (xs.map BS.l == ys.map BS.l) = true := by rw [HX.out.1, HY.out.1]; simp
  rw [ht]
  clear ht hb7
  go_wp2
  go_ret
  exact ⟨rfl, S7.fin⟩

end Go.Proofs.Ytbdclgopdildmaa
