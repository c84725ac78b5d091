/- NetFull. -/
import Derived.Test.YtjibmbejfpdifaaNetLaw2
namespace Go.Proofs.Ytjibmbejfpdifaa
set_option linter.unusedVariables false
set_option linter.unusedSimpArgs false
open Go.RowKit
/-- A net of messages that are all alike. -/
def nF (m : Msg) (j s : Nat) : NS := ⟨List.replicate (min j 40) ⟨m, none⟩, s⟩
theorem nF_send {m : Msg} (h : m.right = true) (j : Nat) : nSend (nF m j (min j 40)) m = (decide ((j : Int) < 40), nF m (j + 1) (min (j + 1) 40)) := by
  unfold nSend nF
  by_cases hj : j < 40
  · have e1 : min j 40 = j := by omega
    have e2 : min (j + 1) 40 = j + 1 := by omega
    rw [if_pos ⟨by simp; omega, h⟩, decide_eq_true (show (j : Int) < 40 by omega), e1, e2]
    simp [List.replicate_succ']
  · have e1 : min j 40 = 40 := by omega
    have e2 : min (j + 1) 40 = 40 := by omega
    rw [if_neg (by simp; omega), decide_eq_false (show ¬ (j : Int) < 40 by omega), e1, e2]
theorem nF_twice {m : Msg} (j s : Nat) (h0 : 0 < j) : nTwice (nF m j s) 0 = (decide ((j : Int) < 40), nF m (j + 1) s) := by
  unfold nTwice nF
  by_cases hj : j < 40
  · have e1 : min j 40 = j := by omega
    have e2 : min (j + 1) 40 = j + 1 := by omega
    rw [if_pos ⟨⟨by omega, by simp; omega⟩, by simp; omega⟩, decide_eq_true (show (j : Int) < 40 by omega), e1, e2]
    have hg : (List.replicate j (⟨m, none⟩ : NM)).getD (0 : Int).toNat NM.nil = ⟨m, none⟩ := by rw [getD_at (by simp; omega)]; simp
    rw [hg, List.replicate_succ']
  · have e1 : min j 40 = 40 := by omega
    have e2 : min (j + 1) 40 = 40 := by omega
    rw [if_neg (by simp; omega), decide_eq_false (show ¬ (j : Int) < 40 by omega), e1, e2]
theorem nF_len (m : Msg) (j s : Nat) : (nF m j s).l.length = min j 40 := by simp [nF]
set_option maxRecDepth 10000 in
set_option maxHeartbeats 3200000 in
theorem netFull_law (m : Msg) (n : Int) (hn : 0 ≤ n ∧ n ≤ 255) (w : World) :
    Calls Try.prog 8 #[.agg #[.int .i64 m.node, .int .i64 m.kind, .int .i64 m.term, .int .i64 m.gen, .int .i64 m.job, .int .i64 m.inc, .int .i64 m.version, .int .i64 m.epoch, .int .i64 m.until_, .int .i64 m.mode, .int .i64 m.work], .int .u8 n] w fun e w' => e = .returned (.bool true) ∧ Below w.heap.size w w' := by
  have S0 : St w (w.alloc (.cells #[.int .i64 m.node, .int .i64 m.kind, .int .i64 m.term, .int .i64 m.gen, .int .i64 m.job, .int .i64 m.inc, .int .i64 m.version, .int .i64 m.epoch, .int .i64 m.until_, .int .i64 m.mode, .int .i64 m.work] 23)) [cellsT w.heap.size 23 m.cs] := (St.start w).newCells 23 #[.int .i64 m.node, .int .i64 m.kind, .int .i64 m.term, .int .i64 m.gen, .int .i64 m.job, .int .i64 m.inc, .int .i64 m.version, .int .i64 m.epoch, .int .i64 m.until_, .int .i64 m.mode, .int .i64 m.work]
  obtain ⟨N, rfl⟩ := Int.eq_ofNat_of_zero_le hn.1
  go_enter Try.func8, Try.ntmps8
  go_wp2_with fail
  refine (alive12_any _).mono ?_
  rintro e w1 ⟨rfl, hb1⟩
  have S1 : St w (w1.alloc (.cells #[.slice none 0 0, .int .i64 0] 47)) [cellsT w.heap.size 23 m.cs, netT w1.heap.size ⟨[], 0⟩] := (S0.grow hb1).netNew
  obtain ⟨z0, z1, z2, z3, z4, z5, z6, z7, z8, z9, z10⟩ := S1.msg 0 rfl
  clear hb1 S0
  go_wp2_with fail
  refine (right_any m _).mono ?_
  rintro e w2 ⟨rfl, hb2⟩
  have S2 := S1.grow hb2
  clear z0 z1 z2 z3 z4 z5 z6 z7 z8 z9 z10 S1 hb2
  by_cases hr : m.right = true
  case neg =>
    have HR : Hid (m.right = false) := by rw [Hid]; simpa using hr
    rw [HR.out]
    obtain ⟨z0, z1, z2, z3, z4, z5, z6, z7, z8, z9, z10⟩ := S2.msg 0 rfl
    clear hr
    go_wp2_with fail
    refine (hnSend S2 1 rfl (by decide) m).mono ?_
    rintro e w3 ⟨rfl, S3⟩
    rw [nSend_not HR.out] at S3 ⊢
    have S3' : St w w3 [cellsT w.heap.size 23 m.cs, netT w1.heap.size ⟨[], 0⟩] := S3
    clear S3
    go_wp2_with fail
    refine (hnLen S3' 1 rfl).mono ?_
    rintro e w4 ⟨rfl, rfl⟩
    go_wp2
    go_ret
    exact ⟨rfl, S3'.fin⟩
  have HR := hid hr
  rw [HR.out]
  clear hr
  obtain ⟨K, hK⟩ : ∃ K, N % 60 = K := ⟨_, rfl⟩
  have hK60 : K < 60 := by omega
  have tm : (N : Int).tmod 60 = (K : Int) := by rw [← hK]; simp [Int.tmod]
  have HK := hid hK
  clear hK
  go_wp2_with fail
  go_loopw [7] (fun i wr => ∃ j : Nat, j ≤ K ∧ i = .int .i64 j ∧ St w wr [cellsT w.heap.size 23 m.cs, netT w1.heap.size (nF m j (min j 40))]) (fun i _ => K - (intOf i).toNat)
  case atStart => exact ⟨0, Nat.zero_le _, rfl, S2⟩
  case round =>
    obtain ⟨j, hj, rfl, Sk⟩ := hrel
    clear S2
    by_cases hlt : j < K
    · have g0 : decide ((j : Int) < (K : Int)) = true := decide_eq_true (by omega)
      have g0n : decide (j < K) = true := decide_eq_true (by omega)
      obtain ⟨z0, z1, z2, z3, z4, z5, z6, z7, z8, z9, z10⟩ := Sk.msg 0 rfl
      go_wp2_with fail
      refine (hnSend Sk 1 rfl (by show min j 40 ≤ _; omega) m).mono ?_
      rintro e w3 ⟨rfl, S3⟩
      rw [nF_send HR.out] at S3 ⊢
      have S3' : St w w3 [cellsT w.heap.size 23 m.cs, netT w1.heap.size (nF m (j + 1) (min (j + 1) 40))] := S3
      clear S3 z0 z1 z2 z3 z4 z5 z6 z7 z8 z9 z10
      generalize ht : decide ((j : Int) < 40) = t
      have g1 : (t != t) = false := by simp
      go_wp2
      go_roundw
      case rel => exact ⟨j + 1, by omega, by go_num, S3'⟩
      case measure => simp [intOf]; omega
    have g0 : decide ((j : Int) < (K : Int)) = false := decide_eq_false (by omega)
    have g0n : decide (j < K) = false := decide_eq_false (by omega)
    have ej : j = K := by omega
    subst ej
    clear hlt hj
    go_wp2_with fail
    by_cases h0 : j = 0
    · have S0' : St w wr [cellsT w.heap.size 23 m.cs, netT w1.heap.size (nF m 0 0)] := by rw [h0] at Sk; exact Sk
      have k1 : decide ((0 : Int) < (j : Int)) = false := decide_eq_false (by omega)
      have k1n : decide (0 < j) = false := decide_eq_false (by omega)
      have k2 : ((j : Int) == 0) = true := by simp; omega
      have k3 : (j == 0) = true := by simp; omega
      clear Sk h0
      go_loopw [8] (fun i wr => ∃ i' : Nat, i' ≤ 60 ∧ i = .int .i64 i' ∧ St w wr [cellsT w.heap.size 23 m.cs, netT w1.heap.size (nF m 0 0)]) (fun i _ => 60 - (intOf i).toNat)
      case atStart => exact ⟨j, by omega, rfl, S0'⟩
      case round =>
        obtain ⟨i, hi, rfl, Sk⟩ := hrel
        clear S0'
        by_cases hlt : i < 60
        · have k0 : decide ((i : Int) < 60) = true := decide_eq_true (by omega)
          go_wp2_with fail
          refine (hnTwice Sk 1 rfl 0).mono ?_
          rintro e w3 ⟨rfl, S3⟩
          have S3' : St w w3 [cellsT w.heap.size 23 m.cs, netT w1.heap.size (nF m 0 0)] := S3
          rw [show (nTwice (nF m 0 0) 0).1 = false from rfl]
          clear S3
          go_wp2
          go_roundw
          case rel => exact ⟨i + 1, by omega, by go_num, S3'⟩
          case measure => simp [intOf]; omega
        · have k0 : decide ((i : Int) < 60) = false := decide_eq_false (by omega)
          clear hlt
          go_wp2_with fail
          refine (hnLen Sk 1 rfl).mono ?_
          rintro e w3 ⟨rfl, rfl⟩
          rw [nF_len]
          go_wp2_with fail
          refine (hnSent Sk 1 rfl).mono ?_
          rintro e w3 ⟨rfl, rfl⟩
          rw [show (nF m 0 0).sent = 0 from rfl]
          go_wp2
          go_ret
          exact ⟨rfl, Sk.fin⟩
    have h0' : 0 < j := by omega
    have k1 : decide ((0 : Int) < (j : Int)) = true := decide_eq_true (by omega)
    have k1n : decide (0 < j) = true := decide_eq_true (by omega)
    have k2 : ((j : Int) == 0) = false := by simp; omega
    have k3 : (j == 0) = false := by simp; omega
    clear h0
    obtain ⟨Z, hZ⟩ : ∃ Z, min j 40 = Z := ⟨_, rfl⟩
    have hZ40 : Z ≤ 40 := by omega
    rw [hZ] at Sk
    clear hZ
    go_loopw [8] (fun i wr => ∃ i' : Nat, j ≤ i' ∧ i' ≤ 60 ∧ i = .int .i64 i' ∧ St w wr [cellsT w.heap.size 23 m.cs, netT w1.heap.size (nF m i' Z)]) (fun i _ => 60 - (intOf i).toNat)
    case atStart => exact ⟨j, Nat.le_refl _, by omega, rfl, Sk⟩
    case round =>
      obtain ⟨i, hi, hi2, rfl, Si⟩ := hrel
      clear Sk
      by_cases hlt : i < 60
      · have k0 : decide ((i : Int) < 60) = true := decide_eq_true (by omega)
        go_wp2_with fail
        refine (hnTwice Si 1 rfl 0).mono ?_
        rintro e w3 ⟨rfl, S3⟩
        rw [nF_twice i Z (by omega)] at S3 ⊢
        have S3' : St w w3 [cellsT w.heap.size 23 m.cs, netT w1.heap.size (nF m (i + 1) Z)] := S3
        clear S3
        generalize ht : decide ((i : Int) < 40) = t
        have g1 : (t != t) = false := by simp
        go_wp2
        go_roundw
        case rel => exact ⟨i + 1, by omega, by omega, by go_num, S3'⟩
        case measure => simp [intOf]; omega
      · have k0 : decide ((i : Int) < 60) = false := decide_eq_false (by omega)
        have ei : i = 60 := by omega
        subst ei
        clear hlt
        go_wp2_with fail
        refine (hnLen Si 1 rfl).mono ?_
        rintro e w3 ⟨rfl, rfl⟩
        rw [nF_len]
        go_wp2_with fail
        refine (hnSent Si 1 rfl).mono ?_
        rintro e w3 ⟨rfl, rfl⟩
        rw [show (nF m 60 Z).sent = Z from rfl]
        have k5 : decide ((Z : Int) ≤ 40) = true := decide_eq_true (by omega)
        have k5n : decide (Z ≤ 40) = true := decide_eq_true (by omega)
        go_wp2_with fail
        refine (hnLen Si 1 rfl).mono ?_
        rintro e w3 ⟨rfl, rfl⟩
        rw [nF_len]
        go_wp2
        go_ret
        exact ⟨rfl, Si.fin⟩

end Go.Proofs.Ytjibmbejfpdifaa
