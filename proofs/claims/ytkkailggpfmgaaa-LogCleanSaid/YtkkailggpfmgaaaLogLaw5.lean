/- LogClean. -/
import Derived.Test.YtkkailggpfmgaaaLogLaw
import Derived.Test.YtkkailggpfmgaaaLogActs
import Derived.Test.YtkkailggpfmgaaaLogTear
namespace Go.Proofs.Ytkkailggpfmgaaa
set_option linter.unusedVariables false
set_option linter.unusedSimpArgs false
open Go.RowKit

set_option maxRecDepth 10000 in
set_option maxHeartbeats 3200000 in
theorem logClean_law (a : Option Addr) (L : List LAct) (m cap : Nat) (w : World) (hm : L.length = m) (hm1 : m ≤ maxLen) (hA : AtG eLA w a L) (hok : ∀ x ∈ L, LAct.Ok w x) :
    Calls Try.prog 11 #[.slice a m cap] w fun e w' => e = .returned (.bool true) ∧ Below w.heap.size w w' := by
  have HM := hid hm
  have HA := hid hA
  have HOk := hid hok
  have S0 := St.start w
  have hmL := hm1
  unfold maxLen at hmL
  clear hm hA hok
  by_cases hf : few5 L = true
  case neg =>
    have HF : Hid (few5 L = false) := by rw [Hid]; simpa using hf
    clear hf
    go_enter Try.func11, Try.ntmps11
    go_wp2_with fail
    refine (alive5_any _).mono ?_
    rintro e w1 ⟨rfl, hb1⟩
    have S1 := S0.grow hb1
    clear hb1
    go_wp2_with (refine (few5_any a L m cap w1 HM.out hm1 (by exact HA.out.all eLAok S1.fin)).mono ?_; rintro e w2 ⟨rfl, rfl⟩; rw [HF.out])
    all_goals (go_ret; exact ⟨rfl, S1.fin⟩)
  have HF := hid hf
  have hfw := hf
  unfold few5 at hfw
  rw [Bool.and_eq_true, decide_eq_true_iff, List.all_eq_true, HM.out] at hfw
  have hm60 := hfw.1
  obtain ⟨D, hD, hDf, hDa, hDl, hDw, hDs⟩ := new_is (N := 4000) (fr := 8) (sz := 3900) (by omega)
  have HD := hid hD
  clear hf hfw hD
  go_enter Try.func11, Try.ntmps11
  go_wp2_with fail
  refine (alive5_any _).mono ?_
  rintro e w1 ⟨rfl, hb1⟩
  have S1 := S0.grow hb1
  clear hb1
  go_wp2_with (refine (few5_any a L m cap w1 HM.out hm1 (by exact HA.out.all eLAok S1.fin)).mono ?_; rintro e w2 ⟨rfl, rfl⟩; rw [HF.out])
  all_goals (try (go_ret; exact ⟨rfl, S1.fin⟩))
  refine (hnew S1 4000 (by omega) (by omega)).mono ?_
  rintro e w2 ⟨pd, rfl, S2, -⟩
  go_wp2_with fail
  rw [HD.out] at S2
  refine (logOpen_inv (by exact S2) 8 3900 hDf hDa (by omega) (by omega) (by rw [hDw]; simp) (by omega)).mono ?_
  rintro e w3 ⟨g0, a3, c3, xs, d0, rfl, -, -, hI0, hw0, hs0, hl0, S3'⟩
  have S3 : St w w3 [cellsT g0 81 (logC pd 8 3900 0), diskT pd d0] := S3'.take 2
  clear S3' S2
  go_wp2_with fail
  go_loopw [4, 6, 7] (fun l e i wr => ∃ (k u g : Nat) (d : DSt) (ps : List (List UInt8)), k ≤ m ∧ l = .pointer (some ⟨g, 0, none⟩) ∧ e = .int .i64 0 ∧ i = .int .i64 k ∧ LogInv d 8 3900 u ps ∧ d.waits = [] ∧ d.syncs ≤ 1 + 2 * k ∧ d.lasts.length = 4000 ∧ u ≤ 86 * k ∧ St w wr [cellsT g 81 (logC pd 8 3900 u), diskT pd d]) (fun _ _ i _ => m - (intOf i).toNat)
  case atStart => exact ⟨0, 0, g0, d0, [], Nat.zero_le _, rfl, rfl, rfl, hI0, hw0, by omega, by omega, by omega, S3⟩
  case round =>
    obtain ⟨k, u, g, d, ps, hk, rfl, rfl, rfl, hI, hw, hsy, hl, huk, Sk⟩ := hrel
    have hu := hI.le
    by_cases hlt : k < m
    · have hkl : k < L.length := by rw [HM.out]; exact hlt
      have i0 := fun wx => idxLA a m cap (fun h => HA.out.ok (by rw [HM.out]; exact h)) k k rfl hlt wx
      have HEl : Hid (∀ w', Below w.heap.size w w' → _ ∧ _ ∧ _) := fun w' hb => (HA.out.all eLAok hb).cellL hkl
      have HX := hid (HOk.out _ (List.getElem_mem hkl))
      generalize L[k] = x at *
      generalize adr a (k * 3) = A at *
      obtain ⟨y0, y1, y2⟩ := HEl.out _ Sk.fin
      by_cases h80 : 80 < x.n
      · have g1 : decide ((80 : Int) < (x.n : Int)) = true := decide_eq_true (by omega)
        go_wp2
        go_ret
        exact ⟨rfl, Sk.fin⟩
      have g1 : decide ((80 : Int) < (x.n : Int)) = false := decide_eq_false (by omega)
      have hlen := HX.out.len
      obtain ⟨r, hr⟩ : ∃ r, logPut d 8 3900 u x.b = r := ⟨_, rfl⟩
      have HC := hid (hI.cleanPut hw x.b (by omega) (by omega) x.keep)
      rw [hr] at HC
      go_wp2_with fail
      refine (logPut_any Sk x.a x.b x.n x.c hlen (by unfold maxLen; omega) HX.out.le HX.out.nil (Reads.old HX.out.isAt) (by omega) (by omega) (by rw [hw]; simp)).mono ?_
      rintro e w6 ⟨rfl, S6⟩
      rw [hr] at S6 ⊢
      obtain ⟨y0, y1, y2⟩ := HEl.out _ S6.fin
      by_cases hk0 : x.kind = 0
      · have g2 : (x.kind == 0) = true := by simpa using hk0
        clear hk0
        obtain ⟨b1, b2, ⟨c3, qs, u2, c4, c5⟩, -⟩ := HC.out
        go_wp2_with fail
        refine (hsync S6 1 rfl (by omega) (by omega)).mono ?_
        rintro e w7 ⟨rfl, S7⟩
        obtain ⟨y0, y1, y2⟩ := HEl.out _ S7.fin
        go_wp2_with fail
        refine (hcrash S7 1 rfl x.keep HX.out.k0 HX.out.k1 (by rw [(sync_waits _).1]; simp)).mono ?_
        rintro e w8 ⟨rfl, S8⟩
        go_wp2_with fail
        refine (logOpen_inv (by exact S8.front 1 rfl) 8 3900 (by intro y hy; rw [show (r.2.1.sync.crash x.keep).waits = [] from rfl] at hy; simp at hy) c5 (by omega) (by omega) (by show ([] : List (Nat × List UInt8)).length ≤ 1000; simp) (by show r.2.1.syncs + 1 < 100000000; omega)).mono ?_
        rintro e w9 ⟨g9, a9, c9, qs9, d9, rfl, hqs, hqd, hI9, hw9, hs9, hl9, S9⟩
        have hs9' : d9.syncs = r.2.1.syncs + 1 + 1 := hs9
        go_wp2
        go_roundw
        case rel => exact ⟨k + 1, u2, g9, d9, qs, by omega, rfl, rfl, by go_num, hI9, hw9, by omega, by omega, by omega, S9.take 2⟩
        case measure => simp [intOf]; omega
      · have g2 : (x.kind == 0) = false := by simpa using hk0
        clear hk0
        obtain ⟨b1, b2, -, ⟨c3, qs, u2, c4, c5⟩⟩ := HC.out
        go_wp2_with fail
        refine (hcrash S6 1 rfl x.keep HX.out.k0 HX.out.k1 (by omega)).mono ?_
        rintro e w8 ⟨rfl, S8⟩
        go_wp2_with fail
        refine (logOpen_inv (by exact S8.front 1 rfl) 8 3900 (by intro y hy; rw [show (r.2.1.crash x.keep).waits = [] from rfl] at hy; simp at hy) c5 (by omega) (by omega) (by show ([] : List (Nat × List UInt8)).length ≤ 1000; simp) (by show r.2.1.syncs < 100000000; omega)).mono ?_
        rintro e w9 ⟨g9, a9, c9, qs9, d9, rfl, hqs, hqd, hI9, hw9, hs9, hl9, S9⟩
        have hs9' : d9.syncs = r.2.1.syncs + 1 := hs9
        go_wp2
        go_roundw
        case rel => exact ⟨k + 1, u2, g9, d9, qs, by omega, rfl, rfl, by go_num, hI9, hw9, by omega, by omega, by omega, S9.take 2⟩
        case measure => simp [intOf]; omega
    · obtain ⟨hI7, hl7, hw7, hs7⟩ := hI.clear
      go_wp2_with fail
      refine (logClear_any Sk (by omega) (by rw [hw]; simp) (by omega)).mono ?_
      rintro e w7 ⟨rfl, S7⟩
      generalize d.nought 8 3900 0 = d7 at *
      obtain ⟨hI8, hl8⟩ := hI7.calm hw7 0
      obtain ⟨-, hw8, hs8, -⟩ := crash_calm hw7 0
      go_wp2_with fail
      refine (hcrash S7 1 rfl 0 (by omega) (by omega) (by rw [hw7]; simp)).mono ?_
      rintro e w8 ⟨rfl, S8⟩
      go_wp2_with fail
      refine (logOpen_inv (by exact S8.front 1 rfl) 8 3900 hI8.fit hI8.all (by omega) (by omega) (by rw [hw8]; simp) (by omega)).mono ?_
      rintro e w9 ⟨g9, a9, c9, qs9, d9, rfl, hqs, hqd, hI9, hw9, hs9, hl9, S9⟩
      have C9 : St w w9 [cellsT g 81 (logC pd 8 3900 0)] := (S9.drop 3).take 1
      go_wp2_with fail
      refine (logUsed_any S9).mono ?_
      rintro e w10 ⟨rfl, rfl⟩
      go_wp2_with fail
      refine (logUsed_any C9).mono ?_
      rintro e w10 ⟨rfl, rfl⟩
      go_wp2
      go_ret
      exact ⟨rfl, S9.fin⟩

end Go.Proofs.Ytkkailggpfmgaaa
