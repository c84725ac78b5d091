/- SlotsLast. -/
import Derived.Test.YtkkailggpfmgaaaSlotsLaw
import Derived.Test.YtkkailggpfmgaaaSlotsMath2
import Derived.Test.YtkkailggpfmgaaaOpens
namespace Go.Proofs.Ytkkailggpfmgaaa
set_option linter.unusedVariables false
set_option linter.unusedSimpArgs false
open Go.RowKit

theorem takes_small {d : DSt} {fr sz A : Nat} {b : List UInt8} (hA : A ≤ 1000) (hb : b.length ≤ 200) (hsz : 300 ≤ sz) (ho : oldO (d.shows fr sz) (A : Int) = false) : Takes d fr sz b A := by
  have hn : isNum (A : Int) = true := by simp [isNum]; omega
  have h1 : 1 ≤ (codeNum (A : Int)).length := by
    rcases Nat.eq_zero_or_pos (codeNum (A : Int)).length with h | h
    · rw [List.length_eq_zero_iff, codeNum_nil, hn] at h; cases h
    · exact h
  have h2 := codeNum_len (A : Int)
  have hl : (codeNum (A : Int) ++ b).length = (codeNum (A : Int)).length + b.length := List.length_append
  have h3 := codeNum_len ((codeNum (A : Int) ++ b).length : Int)
  have hf := frame_len (p := codeNum (A : Int) ++ b) (by omega) (by omega)
  exact ⟨hn, ho, by omega, by omega, by omega⟩

set_option maxRecDepth 10000 in
set_option maxHeartbeats 3200000 in
theorem slotsLast_law (a : Option Addr) (L : List BS) (n ca : Nat) (w : World) (hn : L.length = n) (hm : n ≤ maxLen) (hA : AtG eS w a L) (hok : ∀ x ∈ L, BS.Hd x ∧ At w x.a x.l) :
    Calls Try.prog 8 #[.slice a n ca] w fun e w' => e = .returned (.bool true) ∧ Below w.heap.size w w' := by
  have HN := hid hn
  have HA := hid hA
  have HOk := hid hok
  unfold maxLen at hm
  have S0 := St.start w
  obtain ⟨D, hD, hDi, hDs, hDn⟩ := new_shows (N := 700) (fr := 3) (sz := 300) (by omega)
  have HD := hid hD
  have HDn := hid hDn
  clear hn hA hok hD hDn
  by_cases h30 : 30 < n
  · have g1 : decide ((30 : Int) < (n : Int)) = true := decide_eq_true (by omega)
    go_enter Try.func8, Try.ntmps8
    go_wp2_with fail
    refine (alive6_any _).mono ?_
    rintro e w1 ⟨rfl, hb1⟩
    have S1 := S0.grow hb1
    clear hb1
    go_wp2
    go_ret
    exact ⟨rfl, S1.fin⟩
  have g1 : decide ((30 : Int) < (n : Int)) = false := decide_eq_false (by omega)
  go_enter Try.func8, Try.ntmps8
  go_wp2_with fail
  refine (alive6_any _).mono ?_
  rintro e w1 ⟨rfl, hb1⟩
  have S1 := S0.grow hb1
  clear hb1
  go_wp2_with fail
  refine (hnew S1 700 (by omega) (by omega)).mono ?_
  rintro e w2 ⟨pd, rfl, S2, -⟩
  rw [HD.out] at S2
  go_wp2_with fail
  refine (slOpen_yes (by exact S2) 3 300 (by omega) (by rw [hDi.len]; omega)).mono ?_
  rintro e w3 ⟨g, rfl, S3⟩
  go_wp2_with fail
  go_loopw [6] (fun i wr => ∃ (k : Nat) (d : DSt), k ≤ n ∧ i = .int .i64 k ∧ SInv d 3 300 700 ∧ oldO (d.shows 3 300) ((k : Int) + 1) = false ∧ d.syncs ≤ 2 * k ∧ St w wr [cellsT g 90 (slotC pd 3 300), diskT pd d]) (fun i _ => n - (intOf i).toNat)
  case atStart => exact ⟨0, D, Nat.zero_le _, rfl, hDi, by rw [HDn.out]; rfl, by omega, S3⟩
  case round =>
    obtain ⟨k, d, hk, rfl, hi, hold, hsy, Sk⟩ := hrel
    have HOld := hid hold
    clear hold
    by_cases hlt : k < n
    case neg =>
      go_wp2
      go_ret
      exact ⟨rfl, Sk.fin⟩
    have hkL : k < L.length := by rw [HN.out]; exact hlt
    have i0 := fun wx => idxS a n ca (fun h => HA.out.ok (by rw [HN.out]; exact h)) k k rfl hlt wx
    have HX := hid (HOk.out _ (List.getElem_mem hkL))
    have HC : Hid (∀ w', Below w.heap.size w w' → w'.cell? (adr a k) = some (.slice L[k].a L[k].n L[k].c)) := fun w' h => (HA.out.all eSok h).cellS hkL
    generalize L[k] = x at *
    generalize adr a k = A at *
    have x0 := HC.out _ Sk.fin
    by_cases q1 : 200 < x.n
    · have g2 : decide ((200 : Int) < (x.n : Int)) = true := decide_eq_true (by omega)
      go_wp2
      go_ret
      exact ⟨rfl, Sk.fin⟩
    have g2 : decide ((200 : Int) < (x.n : Int)) = false := decide_eq_false (by omega)
    have hlen := HX.out.1.len
    have tk := takes_small (d := d) (fr := 3) (sz := 300) (A := k + 1) (b := x.l) (by omega) (by omega) (by omega) (by rw [Int.natCast_add]; exact HOld.out)
    obtain ⟨s1, s2, s3, s4⟩ := tk.save hi
    have t1 : IntKind.i64.wrap ((k : Int) + 1) = (k : Int) + 1 := by rw [IntKind.wrap_i64]; omega
    have hP := slSave_any Sk (by rw [hi.len]; omega) (by rw [hi.waits]; simp) (by omega) x.a x.l x.n x.c hlen (by omega) HX.out.1.le HX.out.1.nil (Reads.old HX.out.2) ((k : Int) + 1)
    rw [show (((k + 1 : Nat)) : Int) = (k : Int) + 1 by omega] at s1 s2 s3 s4
    obtain ⟨d2, hd2⟩ : ∃ d2, (slSave d 3 300 x.l ((k : Int) + 1)).2 = d2 := ⟨_, rfl⟩
    rw [s1, hd2] at hP
    rw [hd2] at s2 s3 s4
    have HP := hid hP
    have HS3 := hid s3
    have e2 : slSave d2 3 300 x.l ((k : Int) + 1) = (6, d2) := slSave_old (by simp [isNum]; omega) (by rw [s3]; exact decide_eq_true (by show (k : Int) + 1 ≤ ((k + 1 : Nat) : Int); omega))
    have e3 : slStart d2 3 300 [] (k : Int) = (6, d2) := slStart_old (by simp [isNum]; omega) (by rw [s3]; exact decide_eq_true (by show (k : Int) ≤ ((k + 1 : Nat) : Int); omega))
    have E2 := hid e2
    have E3 := hid e3
    clear hP s1 s3 hd2 e2 e3 tk
    go_wp2_with fail
    refine HP.out.mono ?_
    rintro e w4 ⟨rfl, S4⟩
    have x4 := HC.out _ S4.fin
    have hP2 := slSave_any S4 (by rw [s2.len]; omega) (by rw [s2.waits]; simp) (by omega) x.a x.l x.n x.c hlen (by omega) HX.out.1.le HX.out.1.nil (Reads.old HX.out.2) ((k : Int) + 1)
    rw [E2.out] at hP2
    have HP2 := hid hP2
    clear hP2 HP
    go_wp2_with fail
    refine HP2.out.mono ?_
    rintro e w5 ⟨rfl, S5⟩
    have hP3 := slStart_any S5 (by rw [s2.len]; omega) (by rw [s2.waits]; simp) (by show d2.syncs < _; omega) none [] 0 0 rfl (by omega) (by omega) (fun _ => rfl) (Reads.old (At.nil _ _)) (k : Int)
    rw [E3.out] at hP3
    have HP3 := hid hP3
    clear hP3 HP2
    go_wp2_with fail
    refine HP3.out.mono ?_
    rintro e w6 ⟨rfl, S6⟩
    have hL := slLoad_any S6 (by rw [s2.len]; omega) (by rw [s2.waits]; simp)
    rw [HS3.out] at hL
    have HL := hid hL
    have x6 := HC.out _ S6.fin
    clear hL HP3
    go_wp2_with fail
    refine HL.out.mono ?_
    rintro e w7 ⟨a7, c7, rfl, -, -, -, T7⟩
    simp only [picA, picL, Option.isSome_some]
    rw [hlen]
    have hT : St w w7 (roT a7 x.l :: _) := T7
    have x7 := HC.out _ hT.fin
    have q8 : (((k + 1 : Nat) : Int) != (k : Int) + 1) = false := by simp
    go_wp2_with fail
    refine (hcmp hT true a7 x.a x.l x.l x.n x.n c7 x.c (by simp) hlen hlen (by unfold maxLen; omega) (by unfold maxLen; omega) (by exact hT.roAt 0 rfl) (by exact hT.old HX.out.2)).mono ?_
    rintro e w8 ⟨rfl, T8, -⟩
    go_wp2
    go_roundw
    case rel => exact ⟨k + 1, d2, by omega, by go_num, s2, by rw [HS3.out]; exact decide_eq_false (by show ¬ ((k + 1 : Nat) : Int) + 1 ≤ ((k + 1 : Nat) : Int); omega), by omega, T8.tail⟩
    case measure => simp [intOf]; omega

end Go.Proofs.Ytkkailggpfmgaaa
