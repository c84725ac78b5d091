/- StoreTwice. -/
import Derived.Test.YtiilhfmmclhflaaStoreLaw
namespace Go.Proofs.Ytiilhfmmclhflaa
set_option linter.unusedVariables false
set_option linter.unusedSimpArgs false
open Go.RowKit
theorem SS.job_put {s : SS} {n : Int} (h : n.toNat < s.js.length) (x : PS) : (s.put n x).job n = x := by
  unfold SS.put SS.job
  simp [List.getD, h]
theorem jobOk_lt {s : SS} (h : s.js.length = 25) {n : Int} (hn : jobOk n) : n.toNat < s.js.length := by
  unfold jobOk at hn; omega
def s5k : SS := SS.new 5000
theorem s5k_job (n : Int) : s5k.job n = PS.nil := by
  unfold SS.job s5k SS.new
  simp only [List.getD]
  rcases Nat.lt_or_ge n.toNat 25 with h | h
  · rw [List.getElem?_replicate, if_pos h]; rfl
  · rw [List.getElem?_replicate, if_neg (by omega)]; rfl
theorem s5k_used : usedP s5k.js = 0 := by kernel_rfl
theorem s5k_len : s5k.js.length = 25 := by kernel_rfl
theorem tw_stage (t j e : Int) (a : List UInt8) : (t < 0 ∨ ¬ jobOk j ∨ e < 1 ∨ 1000000 < e ∨ a.length = 0 ∨ 100 < a.length) ∧ (sStage s5k t j e a).1 ≠ 0 ∧ (sStage s5k t j e a).2 = s5k ∨
    (¬ t < 0 ∧ jobOk j ∧ 1 ≤ e ∧ ¬ 1000000 < e ∧ a.length ≠ 0 ∧ a.length ≤ 100) ∧ sStage s5k t j e a = (0, { s5k.put j ⟨0, [], e, a⟩ with writes := 1 }) := by
  have ht : s5k.term = 0 := rfl
  have hr : s5k.room = 5000 := rfl
  by_cases h1 : t < 0
  · left; refine ⟨.inl h1, ?_, ?_⟩ <;> (unfold sStage; rw [ht, if_pos h1]); simp
  by_cases h2 : ¬ jobOk j ∨ e < 1 ∨ 1000000 < e ∨ a.length = 0 ∨ 100 < a.length
  · left; refine ⟨.inr h2, ?_, ?_⟩ <;> (unfold sStage; rw [ht, if_neg h1, if_pos h2]); simp
  right
  have h3 := h2
  simp only [not_or, Decidable.not_not] at h3
  obtain ⟨q1, q2, q3, q4, q5⟩ := h3
  refine ⟨⟨h1, q1, by omega, q3, q4, by omega⟩, ?_⟩
  unfold sStage
  rw [ht, if_neg h1, if_neg h2, s5k_job, if_neg (by show ¬ (e ≤ 0 ∨ e < 0); omega), if_neg (by show ¬ e = 0; omega), s5k_used, hr, if_neg (by show ¬ ((5000 : Int) < ((0 : Nat) : Int) - ((([] : List UInt8).length : Nat) : Int) + (a.length : Int)); simp; omega)]
  rfl
theorem tw_none (j e : Int) (h : ¬ (jobOk j ∧ 1 ≤ e ∧ e = 0)) : sGet s5k j e = none ∧ sCommit s5k j e = (4, s5k) := by
  constructor
  · unfold sGet
    by_cases h1 : ¬ jobOk j ∨ e < 1
    · rw [if_pos h1]
    · rw [if_neg h1, s5k_job, if_neg (by show ¬ (0 : Int) = e; omega), if_neg (by show ¬ (0 : Int) = e; omega)]
  · unfold sCommit
    rw [if_pos]
    by_cases h1 : jobOk j
    · by_cases h2 : e < 1
      · exact .inr (.inl h2)
      · rw [s5k_job]; exact .inr (.inr ⟨by show e ≠ 0; omega, by show e ≠ 0; omega⟩)
    · exact .inl h1
theorem tw_second {s : SS} (hl : s.js.length = 25) {t j e : Int} {a b : List UInt8} (h1 : ¬ t < s.term) (hj : jobOk j) (he : 1 ≤ e) (he2 : ¬ 1000000 < e) (hs : s.job j = ⟨0, [], e, a⟩) :
    (sStage s t j e b).2 = s ∧ (0 < b.length → b.length ≤ 100 → (sStage s t j e b).1 = 0) ∧ sCommit s j e = (0, s.put j ⟨e, a, 0, []⟩) := by
  refine ⟨?_, ?_, ?_⟩
  · unfold sStage
    rw [if_neg h1]
    split
    · rfl
    · rw [hs, if_neg (by show ¬ (e ≤ 0 ∨ e < e); omega), if_pos (by rfl)]
  · intro h2 h3
    unfold sStage
    rw [if_neg h1, if_neg (by rintro (q | q | q | q | q); exact q hj; all_goals omega), hs, if_neg (by show ¬ (e ≤ 0 ∨ e < e); omega), if_pos (by rfl)]
  · unfold sCommit
    rw [hs, if_neg (by rintro (q | q | q); exact q hj; omega; exact q.2 rfl), if_pos (by rfl)]
theorem tw_third {s : SS} {t j e : Int} {a b : List UInt8} (h1 : ¬ t < s.term) (hj : jobOk j) (he : 1 ≤ e) (hs : s.job j = ⟨e, a, 0, []⟩) :
    sCommit s j e = (0, s) ∧ sGet s j e = some a ∧ sCounts s j = e ∧ (sStage s t j e b).1 ≠ 0 := by
  refine ⟨?_, ?_, ?_, ?_⟩
  · unfold sCommit
    rw [hs, if_neg (by rintro (q | q | q); exact q hj; omega; exact q.1 rfl), if_neg (by show ¬ e = 0; omega)]
  · unfold sGet
    rw [if_neg (by rintro (q | q); exact q hj; omega), hs, if_pos rfl]
  · unfold sCounts
    rw [if_pos hj, hs]
  · unfold sStage
    rw [if_neg h1]
    split
    · simp
    · rw [hs, if_pos (.inl (by show e ≤ e; omega))]; simp
set_option maxRecDepth 10000 in
set_option maxHeartbeats 3200000 in
theorem storeTwice_law (t j e : Int) (a : Option Addr) (la : List UInt8) (na ca : Nat) (b : Option Addr) (lb : List UInt8) (nb cb : Nat) (w : World) (hna : la.length = na) (hnb : lb.length = nb) (hma : na ≤ maxLen) (hmb : nb ≤ maxLen) (hca : a = none → ca = 0) (hcb : b = none → cb = 0) (hA : At w a la) (hB : At w b lb) :
    Calls Try.prog 3 #[.int .i64 t, .int .i64 j, .int .i64 e, .slice a na ca, .slice b nb cb] w fun e' w' => e' = .returned (.bool true) ∧ Below w.heap.size w w' := by
  have HNa := hid hna
  have HNb := hid hnb
  have HCa := hid hca
  have HCb := hid hcb
  unfold maxLen at hma hmb
  have S0 := St.start w
  clear hna hnb hca hcb
  go_enter Try.func3, Try.ntmps3
  go_wp2_with fail
  refine (alive11_any _).mono ?_
  rintro e' w1 ⟨rfl, hb1⟩
  have S1 := S0.grow hb1
  clear hb1 S0
  go_wp2_with fail
  all_goals (try (go_ret; exact ⟨rfl, S1.fin⟩))
  refine (stNew_any S1 5000).mono ?_
  rintro e' w2 ⟨rfl, S2⟩
  have S2' : St w w2 [storeT w1.heap.size s5k] := S2
  clear S2 S1
  go_wp2_with fail
  refine (stStage_any S2' 0 rfl (by decide) t j e a la na ca HNa.out (by omega) HCa.out (by exact S2'.old hA)).mono ?_
  rintro e' w3 ⟨rfl, S3⟩
  rcases tw_stage t j e la with ⟨hbad, hne, hst⟩ | ⟨⟨q1, q2, q3, q4, q5, q6⟩, hst⟩
  · rw [hst] at S3
    have S3' : St w w3 [storeT w1.heap.size s5k] := S3
    obtain ⟨E, hE⟩ : ∃ E, (sStage s5k t j e la).1 = E := ⟨_, rfl⟩
    rw [hE] at hne ⊢
    have g1 : (E != 0) = true := by simpa using hne
    obtain ⟨T1, T2⟩ := tw_none j e (by omega)
    have HT1 := hid T1
    have HT2 := hid T2
    have HU := hid s5k_used
    clear S3 hbad hst hE hne T1 T2 S2'
    go_wp2_with fail
    refine (stGet_any S3' 0 rfl j e).mono ?_
    rintro e' w4 ⟨a4, c4, rfl, ho4, hb4⟩
    rw [HT1.out] at ho4 ⊢
    have S4 := S3'.grow hb4
    clear ho4 hb4 S3'
    go_wp2_with fail
    refine (stUsed_any S4 0 rfl).mono ?_
    rintro e' w5 ⟨rfl, hb5⟩
    rw [HU.out]
    have S5 := S4.grow hb5
    clear hb5 S4
    go_wp2_with fail
    refine (stCommit_any S5 0 rfl j e).mono ?_
    rintro e' w6 ⟨rfl, S6⟩
    rw [HT2.out] at S6 ⊢
    go_wp2
    go_ret
    exact ⟨rfl, S6.fin⟩
  rw [hst] at S3 ⊢
  obtain ⟨s1, hs1⟩ : ∃ s1, ({ s5k.put j ⟨0, [], e, la⟩ with writes := 1 } : SS) = s1 := ⟨_, rfl⟩
  rw [hs1] at S3
  have S3' : St w w3 [storeT w1.heap.size s1] := S3
  have hl1 : s1.js.length = 25 := by rw [← hs1]; show (s5k.js.set _ _).length = 25; rw [List.length_set]; exact s5k_len
  have hj1 : s1.job j = ⟨0, [], e, la⟩ := by rw [← hs1]; exact SS.job_put (jobOk_lt s5k_len q2) _
  have ht1 : s1.term = 0 := hs1 ▸ rfl
  have hw1 : s1.writes = 1 := hs1 ▸ rfl
  obtain ⟨r1, r2, r3⟩ := tw_second (b := lb) hl1 (t := t) (by rw [ht1]; exact q1) q2 q3 q4 hj1
  obtain ⟨s2, hs2⟩ : ∃ s2, s1.put j ⟨e, la, 0, []⟩ = s2 := ⟨_, rfl⟩
  rw [hs2] at r3
  have hj2 : s2.job j = ⟨e, la, 0, []⟩ := by rw [← hs2]; exact SS.job_put (jobOk_lt hl1 q2) _
  have ht2 : s2.term = 0 := by rw [← hs2]; exact ht1
  have hw2 : s2.writes = 1 := by rw [← hs2]; exact hw1
  obtain ⟨u1, u2, u3, u4⟩ := tw_third (b := lb) (t := t) (by rw [ht2]; exact q1) q2 q3 hj2
  have HW1 := hid hw1
  have HW2 := hid hw2
  have HR1 := hid r1
  have HR3 := hid r3
  have HU1 := hid u1
  have HU2 := hid u2
  have HU3 := hid u3
  obtain ⟨E, hE⟩ : ∃ E, (sStage s1 t j e lb).1 = E := ⟨_, rfl⟩
  rw [hE, HNb.out] at r2
  have HE := hid hE
  obtain ⟨E2, hE2⟩ : ∃ E2, (sStage s2 t j e lb).1 = E2 := ⟨_, rfl⟩
  rw [hE2] at u4
  have HE2 := hid hE2
  have g9 : (E2 != 0) = true := by simpa using u4
  have HLa := hid q6
  clear S3 hst hs1 hl1 hj1 ht1 hw1 r1 r3 hs2 hj2 ht2 hw2 u1 u2 u3 u4 hE hE2 q1 q2 q3 q4 q5 q6 S2'
  go_wp2_with fail
  refine (stWrites_any S3' 0 rfl).mono ?_
  rintro e' w4 ⟨rfl, rfl⟩
  rw [HW1.out]
  go_wp2_with fail
  refine (stStage_any S3' 0 rfl (by rw [HW1.out]; omega) t j e b lb nb cb HNb.out (by omega) HCb.out (by exact S3'.old hB)).mono ?_
  rintro e' w4 ⟨rfl, S4⟩
  rw [HE.out]
  rw [HR1.out] at S4
  have S4' : St w w4 [storeT w1.heap.size s1] := S4
  clear S4 S3'
  have hC : nb = 0 ∨ (0 < nb ∧ nb ≤ 100 ∧ E = 0) ∨ 100 < nb := by
    by_cases h1 : nb = 0
    · exact .inl h1
    · by_cases h2 : nb ≤ 100
      · exact .inr (.inl ⟨by omega, h2, r2 (by omega) h2⟩)
      · exact .inr (.inr (by omega))
  clear r2
  rcases hC with h1 | ⟨h1, h2, rfl⟩ | h1
  · have g1 : decide ((0 : Int) < (nb : Int)) = false := decide_eq_false (by omega)
    have g1n : decide (0 < nb) = false := decide_eq_false (by omega)
    clear h1
    go_wp2_with fail
    refine (stWrites_any S4' 0 rfl).mono ?_
    rintro e' w5 ⟨rfl, rfl⟩
    rw [HW1.out]
    go_wp2_with fail
    refine (stCommit_any S4' 0 rfl j e).mono ?_
    rintro e' w5 ⟨rfl, S5⟩
    rw [HR3.out] at S5 ⊢
    have S5' : St w w5 [storeT w1.heap.size s2] := S5
    clear S5 S4'
    go_wp2_with fail
    refine (stCommit_any S5' 0 rfl j e).mono ?_
    rintro e' w6 ⟨rfl, S6⟩
    rw [HU1.out] at S6 ⊢
    have S6' : St w w6 [storeT w1.heap.size s2] := S6
    clear S6 S5'
    go_wp2_with fail
    refine (stGet_any S6' 0 rfl j e).mono ?_
    rintro e' w7 ⟨a7, c7, rfl, ho7, hb7⟩
    rw [HU2.out] at ho7 ⊢
    have S7 : St w w7 [storeT w1.heap.size s2, bytesT (.slice a7 la.length c7) la] := S6'.bytes ho7 hb7
    clear ho7 hb7 S6'
    go_wp2_with fail
    refine (hcmp S7 true _ _ la la _ _ _ _ (by simp) rfl HNa.out (by have := HLa.out; unfold maxLen; omega) (by unfold maxLen; omega) (by exact S7.at 1 rfl) (by exact S7.old hA)).mono ?_
    rintro e' w8 ⟨rfl, S8, -⟩
    clear S7
    go_wp2_with fail
    refine (stCounts_any S8 0 rfl j).mono ?_
    rintro e' w9 ⟨rfl, rfl⟩
    rw [HU3.out]
    go_wp2_with fail
    refine (stStage_any S8 0 rfl (by rw [HW2.out]; omega) t j e b lb nb cb HNb.out (by omega) HCb.out (by exact S8.old hB)).mono ?_
    rintro e' w10 ⟨rfl, S10⟩
    rw [HE2.out]
    go_wp2
    go_ret
    exact ⟨rfl, S10.fin⟩
  · have g1 : decide ((0 : Int) < (nb : Int)) = true := decide_eq_true (by omega)
    have g1n : decide (0 < nb) = true := decide_eq_true (by omega)
    have g2 : decide ((nb : Int) ≤ 100) = true := decide_eq_true (by omega)
    have g2n : decide (nb ≤ 100) = true := decide_eq_true (by omega)
    clear h1 h2
    go_wp2_with fail
    refine (stWrites_any S4' 0 rfl).mono ?_
    rintro e' w5 ⟨rfl, rfl⟩
    rw [HW1.out]
    go_wp2_with fail
    refine (stCommit_any S4' 0 rfl j e).mono ?_
    rintro e' w5 ⟨rfl, S5⟩
    rw [HR3.out] at S5 ⊢
    have S5' : St w w5 [storeT w1.heap.size s2] := S5
    clear S5 S4'
    go_wp2_with fail
    refine (stCommit_any S5' 0 rfl j e).mono ?_
    rintro e' w6 ⟨rfl, S6⟩
    rw [HU1.out] at S6 ⊢
    have S6' : St w w6 [storeT w1.heap.size s2] := S6
    clear S6 S5'
    go_wp2_with fail
    refine (stGet_any S6' 0 rfl j e).mono ?_
    rintro e' w7 ⟨a7, c7, rfl, ho7, hb7⟩
    rw [HU2.out] at ho7 ⊢
    have S7 : St w w7 [storeT w1.heap.size s2, bytesT (.slice a7 la.length c7) la] := S6'.bytes ho7 hb7
    clear ho7 hb7 S6'
    go_wp2_with fail
    refine (hcmp S7 true _ _ la la _ _ _ _ (by simp) rfl HNa.out (by have := HLa.out; unfold maxLen; omega) (by unfold maxLen; omega) (by exact S7.at 1 rfl) (by exact S7.old hA)).mono ?_
    rintro e' w8 ⟨rfl, S8, -⟩
    clear S7
    go_wp2_with fail
    refine (stCounts_any S8 0 rfl j).mono ?_
    rintro e' w9 ⟨rfl, rfl⟩
    rw [HU3.out]
    go_wp2_with fail
    refine (stStage_any S8 0 rfl (by rw [HW2.out]; omega) t j e b lb nb cb HNb.out (by omega) HCb.out (by exact S8.old hB)).mono ?_
    rintro e' w10 ⟨rfl, S10⟩
    rw [HE2.out]
    go_wp2
    go_ret
    exact ⟨rfl, S10.fin⟩
  · have g1 : decide ((0 : Int) < (nb : Int)) = true := decide_eq_true (by omega)
    have g1n : decide (0 < nb) = true := decide_eq_true (by omega)
    have g2 : decide ((nb : Int) ≤ 100) = false := decide_eq_false (by omega)
    have g2n : decide (nb ≤ 100) = false := decide_eq_false (by omega)
    clear h1
    go_wp2_with fail
    refine (stWrites_any S4' 0 rfl).mono ?_
    rintro e' w5 ⟨rfl, rfl⟩
    rw [HW1.out]
    go_wp2_with fail
    refine (stCommit_any S4' 0 rfl j e).mono ?_
    rintro e' w5 ⟨rfl, S5⟩
    rw [HR3.out] at S5 ⊢
    have S5' : St w w5 [storeT w1.heap.size s2] := S5
    clear S5 S4'
    go_wp2_with fail
    refine (stCommit_any S5' 0 rfl j e).mono ?_
    rintro e' w6 ⟨rfl, S6⟩
    rw [HU1.out] at S6 ⊢
    have S6' : St w w6 [storeT w1.heap.size s2] := S6
    clear S6 S5'
    go_wp2_with fail
    refine (stGet_any S6' 0 rfl j e).mono ?_
    rintro e' w7 ⟨a7, c7, rfl, ho7, hb7⟩
    rw [HU2.out] at ho7 ⊢
    have S7 : St w w7 [storeT w1.heap.size s2, bytesT (.slice a7 la.length c7) la] := S6'.bytes ho7 hb7
    clear ho7 hb7 S6'
    go_wp2_with fail
    refine (hcmp S7 true _ _ la la _ _ _ _ (by simp) rfl HNa.out (by have := HLa.out; unfold maxLen; omega) (by unfold maxLen; omega) (by exact S7.at 1 rfl) (by exact S7.old hA)).mono ?_
    rintro e' w8 ⟨rfl, S8, -⟩
    clear S7
    go_wp2_with fail
    refine (stCounts_any S8 0 rfl j).mono ?_
    rintro e' w9 ⟨rfl, rfl⟩
    rw [HU3.out]
    go_wp2_with fail
    refine (stStage_any S8 0 rfl (by rw [HW2.out]; omega) t j e b lb nb cb HNb.out (by omega) HCb.out (by exact S8.old hB)).mono ?_
    rintro e' w10 ⟨rfl, S10⟩
    rw [HE2.out]
    go_wp2
    go_ret
    exact ⟨rfl, S10.fin⟩

end Go.Proofs.Ytiilhfmmclhflaa
