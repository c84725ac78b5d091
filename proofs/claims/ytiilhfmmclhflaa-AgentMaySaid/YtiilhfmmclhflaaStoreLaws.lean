/- The statements of layer 11: alive. StoreTwice. What is done to stores. -/
import Derived.Test.YtiilhfmmclhflaaStores
import Derived.Test.YtiilhfmmclhflaaLogs
import Derived.Test.YtiilhfmmclhflaaOpens
namespace Go.Proofs.Ytiilhfmmclhflaa
set_option linter.unusedVariables false
set_option linter.unusedSimpArgs false
open Go.RowKit
def sa1 : SS := (sStage (SS.new 5) 0 1 2 [97, 98, 99]).2
def sa2 : SS := (sCommit sa1 1 2).2
theorem sb_1 : sStage (SS.new 5) 0 1 2 [97, 98, 99] = (0, sa1) := by kernel_rfl
theorem sb_2 : sCommit sa1 1 2 = (0, sa2) := by kernel_rfl
theorem sb_3 : sGet sa2 1 2 = some [97, 98, 99] := by kernel_rfl
theorem sb_4 : sStage sa2 0 1 3 [120, 121, 122] = (3, sa2) := by kernel_rfl
theorem sb_5 : sStage sa2 0 1 2 [120] = (6, sa2) := by kernel_rfl
theorem sb_6 : usedP sa2.js = 3 ∧ sCounts sa2 1 = 2 ∧ sa2.writes = 1 ∧ sa2.term = 0 ∧ (SS.new 5).writes = 0 := ⟨by kernel_rfl, by kernel_rfl, by kernel_rfl, by kernel_rfl, by kernel_rfl⟩
set_option maxRecDepth 100000 in
set_option maxHeartbeats 1600000 in
theorem alive11_any (w : World) : Calls Try.prog 13 #[] w fun e w' => e = .returned (.bool true) ∧ Below w.heap.size w w' := by
  have k1 := fun (w : World) => Lib.run_convert_bytes_const (P := Try.prog) w 22 5 #[.int .u8 97, .int .u8 98, .int .u8 99] 3 3 sliceB u8T
  have k2 := fun (w : World) => Lib.run_convert_bytes_const (P := Try.prog) w 22 5 #[.int .u8 120, .int .u8 121, .int .u8 122] 3 3 sliceB u8T
  have k3 := fun (w : World) => Lib.run_convert_bytes_const (P := Try.prog) w 22 5 #[.int .u8 120] 1 1 sliceB u8T
  have S0 := St.start w
  have E1 := hid sb_1
  have E2 := hid sb_2
  have E3 := hid sb_3
  have E4 := hid sb_4
  have E5 := hid sb_5
  have E6 := hid sb_6
  go_enter Try.func13, Try.ntmps13
  go_wp2_with fail
  refine (stNew_any S0 5).mono ?_
  rintro e w1 ⟨rfl, S1⟩
  have S1' : St w w1 [storeT w.heap.size (SS.new 5)] := S1
  clear S1
  go_wp2_with fail
  have L1 := S1'.alloc (.cells #[.int .u8 97, .int .u8 98, .int .u8 99] 5 (3, 4))
  refine (stStage_any L1 0 rfl (by rw [E6.out.2.2.2.2]; omega) 0 1 2 _ [97, 98, 99] 3 3 rfl (by omega) (fun e => by cases e) (At.mark rfl _)).mono ?_
  rintro e w2 ⟨rfl, S2⟩
  rw [E1.out] at S2 ⊢
  have S2' : St w w2 [storeT w.heap.size sa1] := S2
  clear S2 L1 S1'
  go_wp2_with fail
  refine (stCommit_any S2' 0 rfl 1 2).mono ?_
  rintro e w3 ⟨rfl, S3⟩
  rw [E2.out] at S3 ⊢
  have S3' : St w w3 [storeT w.heap.size sa2] := S3
  clear S3 S2'
  go_wp2_with fail
  refine (stGet_any S3' 0 rfl 1 2).mono ?_
  rintro e w4 ⟨a4, c4, rfl, ho4, hb4⟩
  rw [E3.out] at ho4 ⊢
  have S4 : St w w4 [storeT w.heap.size sa2, bytesT (.slice a4 3 c4) [97, 98, 99]] := S3'.bytes ho4 hb4
  have sr := str_run w4 a4 [97, 98, 99] 3 c4 rfl (S4.at 1 rfl)
  clear ho4 hb4 S3'
  go_wp2_with fail
  have L5 := S4.alloc (.cells #[.int .u8 120, .int .u8 121, .int .u8 122] 5 (3, 4))
  refine (stStage_any L5 0 rfl (by rw [E6.out.2.2.1]; omega) 0 1 3 _ [120, 121, 122] 3 3 rfl (by omega) (fun e => by cases e) (At.mark rfl _)).mono ?_
  rintro e w5 ⟨rfl, S5⟩
  rw [E4.out] at S5 ⊢
  have S5' : St w w5 [storeT w.heap.size sa2] := S5.take 1
  clear S5 L5 S4 sr
  go_wp2_with fail
  have L6 := S5'.alloc (.cells #[.int .u8 120] 5 (1, 2))
  refine (stStage_any L6 0 rfl (by rw [E6.out.2.2.1]; omega) 0 1 2 _ [120] 1 1 rfl (by omega) (fun e => by cases e) (At.mark rfl _)).mono ?_
  rintro e w6 ⟨rfl, S6⟩
  rw [E5.out] at S6 ⊢
  have S6' : St w w6 [storeT w.heap.size sa2] := S6.take 1
  clear S6 L6 S5'
  go_wp2_with fail
  refine (stUsed_any S6' 0 rfl).mono ?_
  rintro e w7 ⟨rfl, hb7⟩
  rw [E6.out.1]
  have S7 := S6'.grow hb7
  clear hb7 S6'
  go_wp2_with fail
  refine (stCounts_any S7 0 rfl 1).mono ?_
  rintro e w8 ⟨rfl, rfl⟩
  rw [E6.out.2.1]
  go_wp2_with fail
  refine (stWrites_any S7 0 rfl).mono ?_
  rintro e w8 ⟨rfl, rfl⟩
  rw [E6.out.2.2.1]
  go_wp2_with fail
  refine (stTerm_any S7 0 rfl).mono ?_
  rintro e w8 ⟨rfl, rfl⟩
  rw [E6.out.2.2.2.1]
  go_wp2
  go_ret
  exact ⟨rfl, S7.fin⟩

end Go.Proofs.Ytiilhfmmclhflaa

namespace Go.Proofs.Ytiilhfmmclhflaa
set_option linter.unusedVariables false
set_option linter.unusedSimpArgs false
open Go.RowKit
theorem SS.job_put {s : SS} {n : Int} (h : n.toNat < s.js.length) (x : PS) : (s.put n x).job n = x := by
  unfold SS.put SS.job
  simp [List.getD, h]
theorem jobOk_lt {s : SS} (h : s.js.length = 25) {n : Int} (hn : jobOk n) : n.toNat < s.js.length := by
  unfold jobOk at hn; omega
def s5k : SS := SS.new 5000
theorem s5k_job (n : Int) : s5k.job n = PS.nil := by
  unfold SS.job s5k SS.new
  simp only [List.getD]
  rcases Nat.lt_or_ge n.toNat 25 with h | h
  · rw [List.getElem?_replicate, if_pos h]; rfl
  · rw [List.getElem?_replicate, if_neg (by omega)]; rfl
theorem s5k_used : usedP s5k.js = 0 := by kernel_rfl
theorem s5k_len : s5k.js.length = 25 := by kernel_rfl
theorem tw_stage (t j e : Int) (a : List UInt8) : (t < 0 ∨ ¬ jobOk j ∨ e < 1 ∨ 1000000 < e ∨ a.length = 0 ∨ 100 < a.length) ∧ (sStage s5k t j e a).1 ≠ 0 ∧ (sStage s5k t j e a).2 = s5k ∨
    (¬ t < 0 ∧ jobOk j ∧ 1 ≤ e ∧ ¬ 1000000 < e ∧ a.length ≠ 0 ∧ a.length ≤ 100) ∧ sStage s5k t j e a = (0, { s5k.put j ⟨0, [], e, a⟩ with writes := 1 }) := by
  have ht : s5k.term = 0 := rfl
  have hr : s5k.room = 5000 := rfl
  by_cases h1 : t < 0
  · left; refine ⟨.inl h1, ?_, ?_⟩ <;> (unfold sStage; rw [ht, if_pos h1]); simp
  by_cases h2 : ¬ jobOk j ∨ e < 1 ∨ 1000000 < e ∨ a.length = 0 ∨ 100 < a.length
  · left; refine ⟨.inr h2, ?_, ?_⟩ <;> (unfold sStage; rw [ht, if_neg h1, if_pos h2]); simp
  right
  have h3 := h2
  simp only [not_or, Decidable.not_not] at h3
  obtain ⟨q1, q2, q3, q4, q5⟩ := h3
  refine ⟨⟨h1, q1, by omega, q3, q4, by omega⟩, ?_⟩
  unfold sStage
  rw [ht, if_neg h1, if_neg h2, s5k_job, if_neg (by show ¬ (e ≤ 0 ∨ e < 0); omega), if_neg (by show ¬ e = 0; omega), s5k_used, hr, if_neg (by show ¬ ((5000 : Int) < ((0 : Nat) : Int) - ((([] : List UInt8).length : Nat) : Int) + (a.length : Int)); simp; omega)]
  rfl
theorem tw_none (j e : Int) (h : ¬ (jobOk j ∧ 1 ≤ e ∧ e = 0)) : sGet s5k j e = none ∧ sCommit s5k j e = (4, s5k) := by
  constructor
  · unfold sGet
    by_cases h1 : ¬ jobOk j ∨ e < 1
    · rw [if_pos h1]
    · rw [if_neg h1, s5k_job, if_neg (by show ¬ (0 : Int) = e; omega), if_neg (by show ¬ (0 : Int) = e; omega)]
  · unfold sCommit
    rw [if_pos]
    by_cases h1 : jobOk j
    · by_cases h2 : e < 1
      · exact .inr (.inl h2)
      · rw [s5k_job]; exact .inr (.inr ⟨by show e ≠ 0; omega, by show e ≠ 0; omega⟩)
    · exact .inl h1
theorem tw_second {s : SS} (hl : s.js.length = 25) {t j e : Int} {a b : List UInt8} (h1 : ¬ t < s.term) (hj : jobOk j) (he : 1 ≤ e) (he2 : ¬ 1000000 < e) (hs : s.job j = ⟨0, [], e, a⟩) :
    (sStage s t j e b).2 = s ∧ (0 < b.length → b.length ≤ 100 → (sStage s t j e b).1 = 0) ∧ sCommit s j e = (0, s.put j ⟨e, a, 0, []⟩) := by
  refine ⟨?_, ?_, ?_⟩
  · unfold sStage
    rw [if_neg h1]
    split
    · rfl
    · rw [hs, if_neg (by show ¬ (e ≤ 0 ∨ e < e); omega), if_pos (by rfl)]
  · intro h2 h3
    unfold sStage
    rw [if_neg h1, if_neg (by rintro (q | q | q | q | q); exact q hj; all_goals omega), hs, if_neg (by show ¬ (e ≤ 0 ∨ e < e); omega), if_pos (by rfl)]
  · unfold sCommit
    rw [hs, if_neg (by rintro (q | q | q); exact q hj; omega; exact q.2 rfl), if_pos (by rfl)]
theorem tw_third {s : SS} {t j e : Int} {a b : List UInt8} (h1 : ¬ t < s.term) (hj : jobOk j) (he : 1 ≤ e) (hs : s.job j = ⟨e, a, 0, []⟩) :
    sCommit s j e = (0, s) ∧ sGet s j e = some a ∧ sCounts s j = e ∧ (sStage s t j e b).1 ≠ 0 := by
  refine ⟨?_, ?_, ?_, ?_⟩
  · unfold sCommit
    rw [hs, if_neg (by rintro (q | q | q); exact q hj; omega; exact q.1 rfl), if_neg (by show ¬ e = 0; omega)]
  · unfold sGet
    rw [if_neg (by rintro (q | q); exact q hj; omega), hs, if_pos rfl]
  · unfold sCounts
    rw [if_pos hj, hs]
  · unfold sStage
    rw [if_neg h1]
    split
    · simp
    · rw [hs, if_pos (.inl (by show e ≤ e; omega))]; simp
set_option maxRecDepth 10000 in
set_option maxHeartbeats 3200000 in
theorem storeTwice_law (t j e : Int) (a : Option Addr) (la : List UInt8) (na ca : Nat) (b : Option Addr) (lb : List UInt8) (nb cb : Nat) (w : World) (hna : la.length = na) (hnb : lb.length = nb) (hma : na ≤ maxLen) (hmb : nb ≤ maxLen) (hca : a = none → ca = 0) (hcb : b = none → cb = 0) (hA : At w a la) (hB : At w b lb) :
    Calls Try.prog 3 #[.int .i64 t, .int .i64 j, .int .i64 e, .slice a na ca, .slice b nb cb] w fun e' w' => e' = .returned (.bool true) ∧ Below w.heap.size w w' := by
  have HNa := hid hna
  have HNb := hid hnb
  have HCa := hid hca
  have HCb := hid hcb
  unfold maxLen at hma hmb
  have S0 := St.start w
  clear hna hnb hca hcb
  go_enter Try.func3, Try.ntmps3
  go_wp2_with fail
  refine (alive11_any _).mono ?_
  rintro e' w1 ⟨rfl, hb1⟩
  have S1 := S0.grow hb1
  clear hb1 S0
  go_wp2_with fail
  all_goals (try (go_ret; exact ⟨rfl, S1.fin⟩))
  refine (stNew_any S1 5000).mono ?_
  rintro e' w2 ⟨rfl, S2⟩
  have S2' : St w w2 [storeT w1.heap.size s5k] := S2
  clear S2 S1
  go_wp2_with fail
  refine (stStage_any S2' 0 rfl (by decide) t j e a la na ca HNa.out (by omega) HCa.out (by exact S2'.old hA)).mono ?_
  rintro e' w3 ⟨rfl, S3⟩
  rcases tw_stage t j e la with ⟨hbad, hne, hst⟩ | ⟨⟨q1, q2, q3, q4, q5, q6⟩, hst⟩
  · rw [hst] at S3
    have S3' : St w w3 [storeT w1.heap.size s5k] := S3
    obtain ⟨E, hE⟩ : ∃ E, (sStage s5k t j e la).1 = E := ⟨_, rfl⟩
    rw [hE] at hne ⊢
    have g1 : (E != 0) = true := by simpa using hne
    obtain ⟨T1, T2⟩ := tw_none j e (by omega)
    have HT1 := hid T1
    have HT2 := hid T2
    have HU := hid s5k_used
    clear S3 hbad hst hE hne T1 T2 S2'
    go_wp2_with fail
    refine (stGet_any S3' 0 rfl j e).mono ?_
    rintro e' w4 ⟨a4, c4, rfl, ho4, hb4⟩
    rw [HT1.out] at ho4 ⊢
    have S4 := S3'.grow hb4
    clear ho4 hb4 S3'
    go_wp2_with fail
    refine (stUsed_any S4 0 rfl).mono ?_
    rintro e' w5 ⟨rfl, hb5⟩
    rw [HU.out]
    have S5 := S4.grow hb5
    clear hb5 S4
    go_wp2_with fail
    refine (stCommit_any S5 0 rfl j e).mono ?_
    rintro e' w6 ⟨rfl, S6⟩
    rw [HT2.out] at S6 ⊢
    go_wp2
    go_ret
    exact ⟨rfl, S6.fin⟩
  rw [hst] at S3 ⊢
  obtain ⟨s1, hs1⟩ : ∃ s1, ({ s5k.put j ⟨0, [], e, la⟩ with writes := 1 } : SS) = s1 := ⟨_, rfl⟩
  rw [hs1] at S3
  have S3' : St w w3 [storeT w1.heap.size s1] := S3
  have hl1 : s1.js.length = 25 := by rw [← hs1]; show (s5k.js.set _ _).length = 25; rw [List.length_set]; exact s5k_len
  have hj1 : s1.job j = ⟨0, [], e, la⟩ := by rw [← hs1]; exact SS.job_put (jobOk_lt s5k_len q2) _
  have ht1 : s1.term = 0 := hs1 ▸ rfl
  have hw1 : s1.writes = 1 := hs1 ▸ rfl
  obtain ⟨r1, r2, r3⟩ := tw_second (b := lb) hl1 (t := t) (by rw [ht1]; exact q1) q2 q3 q4 hj1
  obtain ⟨s2, hs2⟩ : ∃ s2, s1.put j ⟨e, la, 0, []⟩ = s2 := ⟨_, rfl⟩
  rw [hs2] at r3
  have hj2 : s2.job j = ⟨e, la, 0, []⟩ := by rw [← hs2]; exact SS.job_put (jobOk_lt hl1 q2) _
  have ht2 : s2.term = 0 := by rw [← hs2]; exact ht1
  have hw2 : s2.writes = 1 := by rw [← hs2]; exact hw1
  obtain ⟨u1, u2, u3, u4⟩ := tw_third (b := lb) (t := t) (by rw [ht2]; exact q1) q2 q3 hj2
  have HW1 := hid hw1
  have HW2 := hid hw2
  have HR1 := hid r1
  have HR3 := hid r3
  have HU1 := hid u1
  have HU2 := hid u2
  have HU3 := hid u3
  obtain ⟨E, hE⟩ : ∃ E, (sStage s1 t j e lb).1 = E := ⟨_, rfl⟩
  rw [hE, HNb.out] at r2
  have HE := hid hE
  obtain ⟨E2, hE2⟩ : ∃ E2, (sStage s2 t j e lb).1 = E2 := ⟨_, rfl⟩
  rw [hE2] at u4
  have HE2 := hid hE2
  have g9 : (E2 != 0) = true := by simpa using u4
  have HLa := hid q6
  clear S3 hst hs1 hl1 hj1 ht1 hw1 r1 r3 hs2 hj2 ht2 hw2 u1 u2 u3 u4 hE hE2 q1 q2 q3 q4 q5 q6 S2'
  go_wp2_with fail
  refine (stWrites_any S3' 0 rfl).mono ?_
  rintro e' w4 ⟨rfl, rfl⟩
  rw [HW1.out]
  go_wp2_with fail
  refine (stStage_any S3' 0 rfl (by rw [HW1.out]; omega) t j e b lb nb cb HNb.out (by omega) HCb.out (by exact S3'.old hB)).mono ?_
  rintro e' w4 ⟨rfl, S4⟩
  rw [HE.out]
  rw [HR1.out] at S4
  have S4' : St w w4 [storeT w1.heap.size s1] := S4
  clear S4 S3'
  have hC : nb = 0 ∨ (0 < nb ∧ nb ≤ 100 ∧ E = 0) ∨ 100 < nb := by
    by_cases h1 : nb = 0
    · exact .inl h1
    · by_cases h2 : nb ≤ 100
      · exact .inr (.inl ⟨by omega, h2, r2 (by omega) h2⟩)
      · exact .inr (.inr (by omega))
  clear r2
  rcases hC with h1 | ⟨h1, h2, rfl⟩ | h1
  · have g1 : decide ((0 : Int) < (nb : Int)) = false := decide_eq_false (by omega)
    have g1n : decide (0 < nb) = false := decide_eq_false (by omega)
    clear h1
    go_wp2_with fail
    refine (stWrites_any S4' 0 rfl).mono ?_
    rintro e' w5 ⟨rfl, rfl⟩
    rw [HW1.out]
    go_wp2_with fail
    refine (stCommit_any S4' 0 rfl j e).mono ?_
    rintro e' w5 ⟨rfl, S5⟩
    rw [HR3.out] at S5 ⊢
    have S5' : St w w5 [storeT w1.heap.size s2] := S5
    clear S5 S4'
    go_wp2_with fail
    refine (stCommit_any S5' 0 rfl j e).mono ?_
    rintro e' w6 ⟨rfl, S6⟩
    rw [HU1.out] at S6 ⊢
    have S6' : St w w6 [storeT w1.heap.size s2] := S6
    clear S6 S5'
    go_wp2_with fail
    refine (stGet_any S6' 0 rfl j e).mono ?_
    rintro e' w7 ⟨a7, c7, rfl, ho7, hb7⟩
    rw [HU2.out] at ho7 ⊢
    have S7 : St w w7 [storeT w1.heap.size s2, bytesT (.slice a7 la.length c7) la] := S6'.bytes ho7 hb7
    clear ho7 hb7 S6'
    go_wp2_with fail
    refine (hcmp S7 true _ _ la la _ _ _ _ (by simp) rfl HNa.out (by have := HLa.out; unfold maxLen; omega) (by unfold maxLen; omega) (by exact S7.at 1 rfl) (by exact S7.old hA)).mono ?_
    rintro e' w8 ⟨rfl, S8, -⟩
    clear S7
    go_wp2_with fail
    refine (stCounts_any S8 0 rfl j).mono ?_
    rintro e' w9 ⟨rfl, rfl⟩
    rw [HU3.out]
    go_wp2_with fail
    refine (stStage_any S8 0 rfl (by rw [HW2.out]; omega) t j e b lb nb cb HNb.out (by omega) HCb.out (by exact S8.old hB)).mono ?_
    rintro e' w10 ⟨rfl, S10⟩
    rw [HE2.out]
    go_wp2
    go_ret
    exact ⟨rfl, S10.fin⟩
  · have g1 : decide ((0 : Int) < (nb : Int)) = true := decide_eq_true (by omega)
    have g1n : decide (0 < nb) = true := decide_eq_true (by omega)
    have g2 : decide ((nb : Int) ≤ 100) = true := decide_eq_true (by omega)
    have g2n : decide (nb ≤ 100) = true := decide_eq_true (by omega)
    clear h1 h2
    go_wp2_with fail
    refine (stWrites_any S4' 0 rfl).mono ?_
    rintro e' w5 ⟨rfl, rfl⟩
    rw [HW1.out]
    go_wp2_with fail
    refine (stCommit_any S4' 0 rfl j e).mono ?_
    rintro e' w5 ⟨rfl, S5⟩
    rw [HR3.out] at S5 ⊢
    have S5' : St w w5 [storeT w1.heap.size s2] := S5
    clear S5 S4'
    go_wp2_with fail
    refine (stCommit_any S5' 0 rfl j e).mono ?_
    rintro e' w6 ⟨rfl, S6⟩
    rw [HU1.out] at S6 ⊢
    have S6' : St w w6 [storeT w1.heap.size s2] := S6
    clear S6 S5'
    go_wp2_with fail
    refine (stGet_any S6' 0 rfl j e).mono ?_
    rintro e' w7 ⟨a7, c7, rfl, ho7, hb7⟩
    rw [HU2.out] at ho7 ⊢
    have S7 : St w w7 [storeT w1.heap.size s2, bytesT (.slice a7 la.length c7) la] := S6'.bytes ho7 hb7
    clear ho7 hb7 S6'
    go_wp2_with fail
    refine (hcmp S7 true _ _ la la _ _ _ _ (by simp) rfl HNa.out (by have := HLa.out; unfold maxLen; omega) (by unfold maxLen; omega) (by exact S7.at 1 rfl) (by exact S7.old hA)).mono ?_
    rintro e' w8 ⟨rfl, S8, -⟩
    clear S7
    go_wp2_with fail
    refine (stCounts_any S8 0 rfl j).mono ?_
    rintro e' w9 ⟨rfl, rfl⟩
    rw [HU3.out]
    go_wp2_with fail
    refine (stStage_any S8 0 rfl (by rw [HW2.out]; omega) t j e b lb nb cb HNb.out (by omega) HCb.out (by exact S8.old hB)).mono ?_
    rintro e' w10 ⟨rfl, S10⟩
    rw [HE2.out]
    go_wp2
    go_ret
    exact ⟨rfl, S10.fin⟩
  · have g1 : decide ((0 : Int) < (nb : Int)) = true := decide_eq_true (by omega)
    have g1n : decide (0 < nb) = true := decide_eq_true (by omega)
    have g2 : decide ((nb : Int) ≤ 100) = false := decide_eq_false (by omega)
    have g2n : decide (nb ≤ 100) = false := decide_eq_false (by omega)
    clear h1
    go_wp2_with fail
    refine (stWrites_any S4' 0 rfl).mono ?_
    rintro e' w5 ⟨rfl, rfl⟩
    rw [HW1.out]
    go_wp2_with fail
    refine (stCommit_any S4' 0 rfl j e).mono ?_
    rintro e' w5 ⟨rfl, S5⟩
    rw [HR3.out] at S5 ⊢
    have S5' : St w w5 [storeT w1.heap.size s2] := S5
    clear S5 S4'
    go_wp2_with fail
    refine (stCommit_any S5' 0 rfl j e).mono ?_
    rintro e' w6 ⟨rfl, S6⟩
    rw [HU1.out] at S6 ⊢
    have S6' : St w w6 [storeT w1.heap.size s2] := S6
    clear S6 S5'
    go_wp2_with fail
    refine (stGet_any S6' 0 rfl j e).mono ?_
    rintro e' w7 ⟨a7, c7, rfl, ho7, hb7⟩
    rw [HU2.out] at ho7 ⊢
    have S7 : St w w7 [storeT w1.heap.size s2, bytesT (.slice a7 la.length c7) la] := S6'.bytes ho7 hb7
    clear ho7 hb7 S6'
    go_wp2_with fail
    refine (hcmp S7 true _ _ la la _ _ _ _ (by simp) rfl HNa.out (by have := HLa.out; unfold maxLen; omega) (by unfold maxLen; omega) (by exact S7.at 1 rfl) (by exact S7.old hA)).mono ?_
    rintro e' w8 ⟨rfl, S8, -⟩
    clear S7
    go_wp2_with fail
    refine (stCounts_any S8 0 rfl j).mono ?_
    rintro e' w9 ⟨rfl, rfl⟩
    rw [HU3.out]
    go_wp2_with fail
    refine (stStage_any S8 0 rfl (by rw [HW2.out]; omega) t j e b lb nb cb HNb.out (by omega) HCb.out (by exact S8.old hB)).mono ?_
    rintro e' w10 ⟨rfl, S10⟩
    rw [HE2.out]
    go_wp2
    go_ret
    exact ⟨rfl, S10.fin⟩

end Go.Proofs.Ytiilhfmmclhflaa

namespace Go.Proofs.Ytiilhfmmclhflaa
set_option linter.unusedVariables false
set_option linter.unusedSimpArgs false
open Go.RowKit
structure TAct where
  kind : Int
  term : Int
  job : Int
  ep : Int
  a : Option Addr
  n : Nat
  c : Nat
  b : List UInt8
def TAct.cs (x : TAct) : List Value := [.int .i64 x.kind, .int .i64 x.term, .int .i64 x.job, .int .i64 x.ep, .slice x.a x.n x.c]
def eTA : Elt TAct := { T := 35, E := 39, s := 5, byt := 56, z := .agg #[.int .i64 0, .int .i64 0, .int .i64 0, .int .i64 0, .slice none 0 0], enc := TAct.cs }
theorem eTAok : eTA.Ok := ⟨fun _ => rfl, fun x u hu => by
  simp only [eTA, TAct.cs, List.mem_cons, List.not_mem_nil, or_false] at hu
  rcases hu with rfl | rfl | rfl | rfl | rfl <;> rfl, by decide, by kernel_rfl, by kernel_rfl, by rfl⟩
structure TAct.Ok (w : World) (x : TAct) : Prop where
  len : x.b.length = x.n
  le : x.n ≤ x.c
  big : x.c ≤ maxLen
  nil : x.a = none → x.c = 0
  isAt : At w x.a x.b
theorem TAct.conv {H : Type} {enc : TypeId × Value → H} {w : World} {base : Nat} {spare : Nat → Bool} {held : Bool} (fuel : Nat) (cs : List Value) (x : DataW H × List MemPlace) (hl : cs.length = eTA.s)
    (h : DataW.trod enc Try.prog w base spare held fuel eTA.E cs = some x) : ∃ y : TAct, cs = eTA.enc y ∧ y.Ok w := by
  have hC : Try.prog.cellsOf eTA.E = 5 := by kernel_rfl
  obtain ⟨vs, rfl, hr⟩ := open_leaves 2 (ks := [.int, .int, .int, .int, .bytes]) (by kernel_rfl) (hl.trans hC.symm) hC h
  obtain ⟨a1, _, rfl, _, hr⟩ := hr.int
  obtain ⟨a2, _, rfl, _, hr⟩ := hr.int
  obtain ⟨a3, _, rfl, _, hr⟩ := hr.int
  obtain ⟨a4, _, rfl, _, hr⟩ := hr.int
  obtain ⟨ad, n, c, l, _, rfl, ⟨h1, h2, h3, h4, h5⟩, hr⟩ := hr.bytes
  obtain rfl := hr.nil
  exact ⟨⟨a1, a2, a3, a4, ad, n, c, l⟩, rfl, h1, h2, h3, h4, h5⟩
def TAt (w : World) (A : Addr) (x : TAct) : Prop := w.cell? A = some (.int .i64 x.kind) ∧ w.cell? { block := A.block, off := A.off + 1 } = some (.int .i64 x.term) ∧ w.cell? { block := A.block, off := A.off + 2 } = some (.int .i64 x.job) ∧ w.cell? { block := A.block, off := A.off + 3 } = some (.int .i64 x.ep) ∧ w.cell? { block := A.block, off := A.off + 4 } = some (.slice x.a x.n x.c)
theorem AtG.tAt {w : World} {a : Option Addr} {l : List TAct} (h : AtG eTA w a l) {k : Nat} (hk : k < l.length) : TAt w (adr a (k * 5)) l[k] := by
  have hj : ∀ j, j < 5 → w.cell? ((adr a (k * 5)).add j) = (eTA.enc l[k])[j]? := by
    intro j hj
    have := (h k hk).2 j hj
    rw [show eTA.s = 5 from rfl, ← adr_two] at this
    exact this
  exact ⟨hj 0 (by decide), hj 1 (by decide), hj 2 (by decide), hj 3 (by decide), hj 4 (by decide)⟩
theorem idxTA (a : Option Addr) (n cap : Nat) (hn : 0 < n → a.isSome = true) (k : Nat) (hk : k < n) (wx : World) :
    (Instr.indexAt 35 (.slice a n cap) (.int .i64 (k : Int))).run Try.prog wx = .ok (.pointer (some (adr a (k * 5)))) wx := idxG eTAok a n cap hn k k rfl hk wx
theorem St.tact {w0 w : World} {l : List Thing} (S : St w0 w l) (k : Nat) {g : Nat} {T : TypeId} {x : TAct} (h : l[k]? = some (cellsT g T x.cs)) :
    w.cell? ⟨g, 0, none⟩ = some (.int .i64 x.kind) ∧ w.cell? ⟨g, 1, none⟩ = some (.int .i64 x.term) ∧ w.cell? ⟨g, 2, none⟩ = some (.int .i64 x.job) ∧ w.cell? ⟨g, 3, none⟩ = some (.int .i64 x.ep) ∧ w.cell? ⟨g, 4, none⟩ = some (.slice x.a x.n x.c) :=
  ⟨S.cell k h 0 rfl, S.cell k h 1 rfl, S.cell k h 2 rfl, S.cell k h 3 rfl, S.cell k h 4 rfl⟩
theorem newAtG {w0 w : World} {l : List Thing} (S : St w0 w l) (T : TypeId) (cs : Array Value) (g : Nat) (hg : w.heap.size = g) : St w0 (w.alloc (.cells cs T)) (l ++ [cellsT g T cs.toList]) := hg ▸ S.newCells T cs
def few11 (l : List TAct) : Bool := decide (l.length ≤ 60) && l.all fun x => decide (x.n ≤ 200)
set_option maxRecDepth 10000 in
theorem few11_any (a : Option Addr) (l : List TAct) (n cap : Nat) (w : World) (hn : l.length = n) (hm : n ≤ maxLen) (hA : AtG eTA w a l) :
    Calls Try.prog 22 #[.slice a n cap] w fun e w' => e = .returned (.bool (few11 l)) ∧ w = w' := by
  unfold maxLen at hm
  have HA := hid hA
  have HN := hid hn
  clear hA hn
  by_cases q : 60 < n
  · have e : few11 l = false := by unfold few11; rw [HN.out]; simp; omega
    rw [e]
    clear e
    go_enter Try.func22, Try.ntmps22
    go_wp2
    go_ret
    exact ⟨rfl, rfl⟩
  · go_enter Try.func22, Try.ntmps22
    go_wp2_with fail
    go_loop [3] (fun q => ∃ k : Nat, k ≤ n ∧ q = .int .i64 k ∧ ∀ i (h : i < l.length), i < k → l[i].n ≤ 200) (fun q => n - (intOf q).toNat)
    case atStart => exact ⟨0, Nat.zero_le _, rfl, fun i h hi => by omega⟩
    case round =>
      obtain ⟨k, hk, rfl, hall⟩ := hrel
      have HAll := hid hall
      clear hall
      by_cases hlt : k < n
      · have hkl : k < l.length := by rw [HN.out]; exact hlt
        have i0 := fun wx => idxTA a n cap (fun h => HA.out.ok (by rw [HN.out]; exact h)) k hlt wx
        obtain ⟨x0, x1, x2, x3, x4⟩ := HA.out.tAt hkl
        have HX : Hid (l[k].n = l[k].n) := rfl
        have hall2 : Hid (l[k].n ≤ 200 → ∀ i (h : i < l.length), i < k + 1 → l[i].n ≤ 200) := by
          intro h i hi hik
          by_cases e : i = k
          · subst e; exact h
          · exact HAll.out i hi (by omega)
        have hall3 : Hid (¬ l[k].n ≤ 200 → few11 l = false) := by
          intro h
          unfold few11
          rw [Bool.and_eq_false_iff]
          right
          rw [List.all_eq_false]
          exact ⟨l[k], List.getElem_mem _, by simpa using h⟩
        generalize l[k] = x at *
        generalize adr a (k * 5) = A at *
        by_cases h3 : 200 < x.n
        · go_wp2
          go_ret
          rw [hall3.out (by omega)]
          exact ⟨rfl, rfl⟩
        · go_wp2
          go_round
          case rel => exact ⟨k + 1, by omega, by go_num, hall2.out (by omega)⟩
          case measure => simp [intOf]; omega
      · have e : Hid (few11 l = true) := by
          rw [Hid, few11, Bool.and_eq_true]
          refine ⟨by rw [HN.out]; simp; omega, ?_⟩
          rw [List.all_eq_true]
          intro x hx
          obtain ⟨i, hi, rfl⟩ := List.getElem_of_mem hx
          have := HAll.out i hi (by have := HN.out; omega)
          simpa using this
        go_wp2
        go_ret
        rw [e.out]
        exact ⟨rfl, rfl⟩

/-- What is staged has bytes. -/
def SS.Full (s : SS) : Prop := ∀ x ∈ s.js, 1 ≤ x.se → 1 ≤ x.sd.length
theorem mem_put {s : SS} {n : Int} {y : PS} {P : PS → Prop} (h : ∀ x ∈ s.js, P x) (hy : P y) : ∀ x ∈ (s.put n y).js, P x := fun x hx => (List.mem_or_eq_of_mem_set hx).elim (h x) (fun e => e ▸ hy)
theorem SS.Full.stage {s : SS} (h : s.Full) (t j e : Int) (b : List UInt8) : (sStage s t j e b).2.Full := by
  unfold sStage
  split
  · exact h
  split
  · exact h
  · rename_i hb
    split
    · exact h
    split
    · exact h
    split
    · exact h
    · exact mem_put h (fun _ => by show 1 ≤ b.length; omega)
theorem SS.Full.new (room : Int) : (SS.new room).Full := by
  intro x hx
  rw [List.eq_of_mem_replicate hx]
  intro h; cases h
theorem sStage_term (s : SS) (t j e : Int) (b : List UInt8) : (sStage s t j e b).2.term = s.term ∧ (sStage s t j e b).2.writes ≤ s.writes + 1 ∧ (sStage s t j e b).2.room = s.room := by
  unfold sStage
  (repeat' split) <;> simp [SS.put]
theorem mem_le_sum : ∀ {l : List Nat} {x : Nat}, x ∈ l → x ≤ l.sum
  | y :: l, x, h => by
    rw [List.sum_cons]
    rcases List.mem_cons.1 h with h | h
    · omega
    · have := mem_le_sum h; omega
theorem usedP_pos {s : SS} {x : PS} (h : x ∈ s.js) (h1 : 1 ≤ x.sd.length) : 0 < usedP s.js := by
  unfold usedP
  have : x.cd.length + x.sd.length ∈ s.js.map fun x => x.cd.length + x.sd.length := List.mem_map_of_mem h
  have := mem_le_sum this
  omega
/-- What was staged already. -/
theorem sStage_same {s : SS} (hl : s.js.length = 25) (h : s.Full) {t j e : Int} {b : List UInt8} (h0 : (sStage s t j e b).1 = 0) (hw : (sStage s t j e b).2.writes = s.writes) : 0 < usedP (sStage s t j e b).2.js := by
  unfold sStage at h0 hw ⊢
  split at h0
  · simp at h0
  · rename_i h1
    rw [if_neg h1] at hw ⊢
    split at h0
    · simp at h0
    · rename_i h2
      rw [if_neg h2] at hw ⊢
      split at h0
      · simp at h0
      · rename_i h3
        rw [if_neg h3] at hw ⊢
        split at h0
        · rename_i h4
          rw [if_pos h4] at hw ⊢
          have hj : jobOk j := by
            rcases Decidable.em (jobOk j) with q | q
            · exact q
            · exact absurd (.inl q) h2
          have hlt : j.toNat < s.js.length := by unfold jobOk at hj; omega
          have hx : s.job j = s.js[j.toNat] := by unfold SS.job; simp [List.getD, hlt]
          refine usedP_pos (List.getElem_mem hlt) (h _ (List.getElem_mem hlt) ?_)
          rw [← hx, ← h4]
          omega
        · rename_i h4
          rw [if_neg h4] at hw
          split at hw
          · rename_i h5
            rw [if_pos h5] at h0
            simp at h0
          · simp [SS.put] at hw

end Go.Proofs.Ytiilhfmmclhflaa
