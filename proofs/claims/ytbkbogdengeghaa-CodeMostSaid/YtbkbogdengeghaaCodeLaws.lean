/- The statements of layer 1, walked. -/
import Derived.Test.YtbkbogdengeghaaCodeRefGet
import Derived.Test.YtbkbogdengeghaaSumRef
namespace Go.Proofs.Ytbkbogdengeghaa
set_option linter.unusedVariables false
set_option linter.unusedSimpArgs false
open Go.RowKit

theorem al_1 : getNum [172, 2] 0 = some (300, 2) := by kernel_rfl
theorem al_2 : getText [2, 97, 98] 0 = some ([97, 98], 3) := by kernel_rfl
theorem al_3 : getList [1, 7] 0 3 = some ([7], 2) := by kernel_rfl
theorem al_4 : getNum [128, 0] 0 = none := by kernel_rfl
theorem al_5 : codeNum 300 = [172, 2] := by kernel_rfl
theorem al_6 : (codeText [97, 98]).length = 3 := by kernel_rfl
theorem al_7 : (codeList [1, 300]).length = 4 := by kernel_rfl

set_option maxRecDepth 100000 in
set_option maxHeartbeats 1000000 in
theorem alive1_any (w : World) : Calls Try.prog 23 #[] w fun e w' => e = .returned (.bool true) ∧ Below w.heap.size w w' := by
  go_enter Try.func23, Try.ntmps23
  go_wp2_with fail
  refine (getNum_any (some ⟨w.heap.size, 0, none⟩) [172, 2] 2 2 0 _ rfl (by omega) (by omega) (by exact At.mark rfl _)).mono ?_
  rintro e w' ⟨rfl, rfl⟩
  rw [al_1, res3]
  have HB1 := hid ((Below.refl w.heap.size w).alloc (Nat.le_refl _) (.cells #[.int .u8 172, .int .u8 2] 5))
  generalize w.alloc (.cells #[.int .u8 172, .int .u8 2] 5) = w1 at HB1 ⊢
  go_wp2_with fail
  refine (getText_any (some ⟨w1.heap.size, 0, none⟩) [2, 97, 98] 3 3 0 _ rfl (by omega) (by omega) (by exact At.mark rfl _)).mono ?_
  rintro e w' ⟨rfl, rfl⟩
  rw [al_2, res3s]
  have HB2 := hid (HB1.out.alloc HB1.out.size (.cells #[.int .u8 2, .int .u8 97, .int .u8 98] 5))
  generalize w1.alloc (.cells #[.int .u8 2, .int .u8 97, .int .u8 98] 5) = w2 at HB2 ⊢
  go_wp2_with fail
  have hb3 := HB2.out.alloc HB2.out.size (.cells #[.int .u8 1, .int .u8 7] 5)
  refine (getList_any (some ⟨w2.heap.size, 0, none⟩) [1, 7] 2 2 0 3 _ rfl (by omega) (by omega) (by exact At.mark rfl _)).mono ?_
  rintro e w4 ⟨hpost, hb4⟩
  have HB4 := hid (bst hb3 hb4)
  clear hb3 hb4
  rw [al_3] at hpost
  obtain ⟨v4, rfl, hown4⟩ := hpost
  obtain ⟨a4, c4, rfl, _, _, _, _⟩ := hown4.sl eIok
  clear hown4
  go_wp2_with fail
  refine (getNum_any (some ⟨w4.heap.size, 0, none⟩) [128, 0] 2 2 0 _ rfl (by omega) (by omega) (by exact At.mark rfl _)).mono ?_
  rintro e w' ⟨rfl, rfl⟩
  rw [al_4, res3]
  have HB5 := hid (HB4.out.alloc HB4.out.size (.cells #[.int .u8 128, .int .u8 0] 5))
  generalize w4.alloc (.cells #[.int .u8 128, .int .u8 0] 5) = w5 at HB5 ⊢
  go_wp2_with fail
  refine (num_any _ _).mono ?_
  rintro e w6 ⟨v6, rfl, hown6, hb6⟩
  have HB6 := hid (bst HB5.out hb6)
  obtain ⟨a6, c6, rfl, _, _, hat6⟩ := hown6.sl
  rw [al_5] at hat6
  have HT6 := hid hat6
  clear hown6 hb6 hat6
  rw [al_5]
  go_wp2_with fail
  have HB7 := hid (HB6.out.alloc HB6.out.size (.cells #[.int .u8 172, .int .u8 2] 5))
  refine (bytes_any a6 (some ⟨w6.heap.size, 0, none⟩) [172, 2] [172, 2] 2 2 c6 2 _ rfl rfl (by decide) (by decide) (by exact HT6.out.all ((Below.refl _ _).alloc (Nat.le_refl _) _)) (by exact At.mark rfl _)).mono ?_
  rintro e w' ⟨rfl, n7, rfl⟩
  have HB8 := hid (below_drewN HB7.out n7)
  generalize (w6.alloc (.cells #[.int .u8 172, .int .u8 2] 5)).drewN n7 = w8 at HB8 ⊢
  have e1 : (([172, 2] : List UInt8) == [172, 2]) = true := by decide
  rw [e1]
  go_wp2_with fail
  refine (text_any ⟨#[97, 98]⟩ (by decide) _).mono ?_
  rintro e w9 ⟨v9, rfl, hown9, hb9⟩
  have HB9 := hid (bst HB8.out hb9)
  obtain ⟨a9, c9, hv9, _, _, _⟩ := hown9.sl
  rw [show (codeText (⟨#[97, 98]⟩ : ByteArray).data.toList).length = 3 from al_6] at hv9
  subst hv9
  clear hown9 hb9
  go_wp2_with fail
  have HBx := hid (HB9.out.alloc HB9.out.size (.cells #[.int .i64 1, .int .i64 300] 3))
  have hlit : AtG eI (w9.alloc (.cells #[.int .i64 1, .int .i64 300] 3)) (some ⟨w9.heap.size, 0, none⟩) [1, 300] := by
    have := ownG_new eIok w9 w9.heap.size [1, 300] #[.int .i64 1, .int .i64 300] 2 rfl rfl (by decide) (Nat.le_refl _)
    obtain ⟨a, c, e, _, _, _, h⟩ := this.sl eIok
    cases e; exact h
  refine (list_any (some ⟨w9.heap.size, 0, none⟩) [1, 300] 2 2 _ rfl (by omega) hlit).mono ?_
  rintro e wx ⟨vx, rfl, hownx, hbx⟩
  have HBy := hid (bst HBx.out hbx)
  obtain ⟨ax, cx, hvx, _, _, _⟩ := hownx.sl
  rw [al_7] at hvx
  subst hvx
  clear hownx hbx hlit
  go_wp2
  go_ret
  exact ⟨rfl, HBy.out⟩

/-- A slice of integers that came in, as the shell of a proof tells it. -/
theorem row_atI {w : World} {a : Option Addr} {len cap : Nat} {zs : List Int}
    (h : (a = none ∧ len = 0 ∧ cap = 0 ∧ zs = []) ∨ ∃ x, a = some x ∧ len ≤ cap ∧ cap ≤ maxLen ∧ zs.length = cap ∧ (∀ i, i < zs.length → w.cell? (x.add i) = some (.int .i64 (zs.getD i 0))) ∧ ∀ n ∈ zs, (Lit.int .i64 n).wf = true) :
    ∃ l : List Int, l.length = len ∧ len ≤ cap ∧ len ≤ maxLen ∧ AtG eI w a l ∧ (a = none → cap = 0) ∧ ∀ n ∈ l, -9223372036854775808 ≤ n ∧ n ≤ 9223372036854775807 := by
  rcases h with ⟨rfl, rfl, rfl, rfl⟩ | ⟨x, rfl, hl, hm, hz, hc, hw⟩
  · exact ⟨[], rfl, Nat.le_refl _, by unfold maxLen; omega, AtG.nil _ _, (fun _ => rfl), by simp⟩
  · refine ⟨zs.take len, by simp; omega, hl, by omega, ?_, (fun e => by cases e), fun n hn => i64_wf (hw n (List.mem_of_mem_take hn))⟩
    intro k hk
    simp at hk
    refine ⟨rfl, fun j hj => ?_⟩
    have hj0 : j = 0 := by have : eI.s = 1 := rfl; omega
    subst hj0
    rw [show k * eI.s + 0 = k from Nat.mul_one k]
    have hk' : k < zs.length := by omega
    simp only [adr, Option.getD_some, hc k hk']
    simp [eI, List.getD, hk']

set_option maxRecDepth 100000 in
set_option maxHeartbeats 1000000 in
theorem codePuts_law (n : Int) (s : ByteArray) (a : Option Addr) (l : List Int) (k cap : Nat) (w : World) (hs : s.size ≤ maxLen) (hn : l.length = k) (hl : k ≤ maxLen) (hA : AtG eI w a l) :
    Calls Try.prog 8 #[.int .i64 n, .string s, .slice a k cap] w fun e w' => e = .returned (.bool true) ∧ Below w.heap.size w w' := by
  unfold maxLen at hs hl
  have HA := hid hA
  clear hA
  by_cases h1 : 5000 < s.size
  · have g1 : decide (5000 < s.size) = true := by simp; omega
    have g1' : decide ((5000 : Int) < (s.size : Int)) = true := by simp; omega
    go_enter Try.func8, Try.ntmps8
    go_wp2_with fail
    refine (alive1_any _).mono ?_
    rintro e w1 ⟨rfl, hb⟩
    have HW := hid hb
    clear hb
    go_wp2
    go_ret
    exact ⟨rfl, HW.out⟩
  have g1' : decide ((5000 : Int) < (s.size : Int)) = false := by simp; omega
  by_cases h2 : 500 < k
  · have g2 : decide ((500 : Int) < (k : Int)) = true := by simp; omega
    go_enter Try.func8, Try.ntmps8
    go_wp2_with fail
    refine (alive1_any _).mono ?_
    rintro e w1 ⟨rfl, hb⟩
    have HW := hid hb
    clear hb
    go_wp2
    go_ret
    exact ⟨rfl, HW.out⟩
  have g2 : decide ((500 : Int) < (k : Int)) = false := by simp; omega
  go_enter Try.func8, Try.ntmps8
  go_wp2_with fail
  refine (alive1_any _).mono ?_
  rintro e w1 ⟨rfl, hb⟩
  have HW := hid hb
  clear hb
  go_wp2_with fail
  -- numbers
  refine (num_any _ _).mono ?_
  rintro e w2 ⟨v2, rfl, hown, hb⟩
  obtain ⟨a2, c2, rfl, _, _, hat⟩ := hown.sl
  have HT2 := hid hat
  have HB2 := hid (bst HW.out hb)
  clear hown hat hb
  go_wp2_with fail
  refine (rnum_any _ _).mono ?_
  rintro e w3 ⟨v3, rfl, hown, hb⟩
  obtain ⟨a3, c3, rfl, _, _, hat⟩ := hown.sl
  have HT3 := hid hat
  have HT2' := hid (HT2.out.all hb)
  have HB3 := hid (bst HB2.out hb)
  clear hown hat hb
  have hcl : (codeNum n).length ≤ maxLen := by have := codeNum_len n; unfold maxLen; omega
  go_wp2_with fail
  refine (bytes_any _ _ _ _ _ _ _ _ _ rfl rfl hcl hcl (by exact HT2'.out) (by exact HT3.out)).mono ?_
  rintro e w' ⟨rfl, n3, rfl⟩
  have HB4 := hid (below_drewN HB3.out n3)
  generalize w3.drewN n3 = w4 at HB4 ⊢
  have e1 : (codeNum n == codeNum n) = true := by simp
  clear hcl
  go_wp2_with fail
  -- texts
  refine (text_any s (by omega) _).mono ?_
  rintro e w5 ⟨v5, rfl, hown, hb⟩
  obtain ⟨a5, c5, rfl, _, _, hat⟩ := hown.sl
  have HT5 := hid hat
  have HB5 := hid (bst HB4.out hb)
  clear hown hat hb
  go_wp2_with fail
  refine (rtext_any s (by omega) _).mono ?_
  rintro e w6 ⟨v6, rfl, hown, hb⟩
  obtain ⟨a6, c6, rfl, _, _, hat⟩ := hown.sl
  have HT6 := hid hat
  have HT5' := hid (HT5.out.all hb)
  have HB6 := hid (bst HB5.out hb)
  clear hown hat hb
  have hcl : (codeText s.data.toList).length ≤ maxLen := by
    unfold codeText maxLen; rw [List.length_append]; have := codeNum_len s.data.toList.length; have e : s.data.toList.length = s.size := by simp
    omega
  generalize codeText s.data.toList = q at *
  go_wp2_with fail
  refine (bytes_any _ _ _ _ _ _ _ _ _ rfl rfl hcl hcl (by exact HT5'.out) (by exact HT6.out)).mono ?_
  rintro e w' ⟨rfl, n6, rfl⟩
  have HB7 := hid (below_drewN HB6.out n6)
  generalize w6.drewN n6 = w7 at HB7 ⊢
  have e2 : (q == q) = true := by simp
  clear hcl
  go_wp2_with fail
  -- lists
  refine (list_any a l k cap _ hn (by omega) (by exact HA.out.all eIok HB7.out)).mono ?_
  rintro e w8 ⟨v8, rfl, hown, hb⟩
  obtain ⟨a8, c8, rfl, _, _, hat⟩ := hown.sl
  have HT8 := hid hat
  have HB8 := hid (bst HB7.out hb)
  clear hown hat hb
  go_wp2_with fail
  refine (rlist_any a l k cap _ hn (by omega) (by exact HA.out.all eIok HB8.out)).mono ?_
  rintro e w9 ⟨v9, rfl, hown, hb⟩
  obtain ⟨a9, c9, rfl, hc9, hm9, hat⟩ := hown.sl
  have HT9 := hid hat
  have HT8' := hid (HT8.out.all hb)
  have HB9 := hid (bst HB8.out hb)
  have hcl : (codeList l).length ≤ maxLen := by omega
  clear hown hat hb hc9 hm9
  generalize codeList l = r at *
  go_wp2_with fail
  refine (bytes_any _ _ _ _ _ _ _ _ _ rfl rfl hcl hcl (by exact HT8'.out) (by exact HT9.out)).mono ?_
  rintro e w' ⟨rfl, n9, rfl⟩
  have e3 : (r == r) = true := by simp
  go_wp2
  go_ret
  exact ⟨rfl, below_drewN HB9.out n9⟩

set_option maxRecDepth 100000 in
set_option maxHeartbeats 1000000 in
theorem codeShort_law (m n : Int) (w : World) : Calls Try.prog 11 #[.int .i64 m, .int .i64 n] w fun e w' => e = .returned (.bool true) ∧ Below w.heap.size w w' := by
  have hm8 := codeNum_len m
  have hn8 := codeNum_len n
  have hmono : isNum m = true → isNum n = true → m ≤ n → (codeNum m).length ≤ (codeNum n).length := codeNum_mono
  have zm : (codeNum m).length = 0 ↔ isNum m = false := by rw [List.length_eq_zero_iff]; exact codeNum_nil m
  have zn : (codeNum n).length = 0 ↔ isNum n = false := by rw [List.length_eq_zero_iff]; exact codeNum_nil n
  have hmm : 0 < (codeNum m).length → 0 < (codeNum n).length → m ≤ n → (codeNum m).length ≤ (codeNum n).length := by
    intro h1 h2 h3
    refine hmono ?_ ?_ h3
    · cases hb : isNum m with
      | true => rfl
      | false => have := zm.2 hb; omega
    · cases hb : isNum n with
      | true => rfl
      | false => have := zn.2 hb; omega
  have HM := hid hmm
  clear hmono zm zn hmm
  have enter : ∀ (x y : Nat), x = (codeNum m).length → y = (codeNum n).length → x ≤ 8 → y ≤ 8 → (0 < x → 0 < y → m ≤ n → x ≤ y) →
      Calls Try.prog 11 #[.int .i64 m, .int .i64 n] w fun e w' => e = .returned (.bool true) ∧ Below w.heap.size w w' := by
    intro x y hx hy hx8 hy8 hxy
    have HX := hid hx
    have HY := hid hy
    have HXY := hid hxy
    clear hx hy hxy hm8 hn8
    have k8 : decide ((x : Int) ≤ 8) = true := by simp; omega
    have k9 : decide ((y : Int) ≤ 8) = true := by simp; omega
    have cases3 : (((x : Int) == 0) = true) ∨ (((x : Int) == 0) = false ∧ ((y : Int) == 0) = true) ∨ (((x : Int) == 0) = false ∧ ((y : Int) == 0) = false ∧ decide (n < m) = true) ∨ (((x : Int) == 0) = false ∧ ((y : Int) == 0) = false ∧ decide (n < m) = false ∧ decide (x ≤ y) = true) := by
      by_cases c1 : x = 0
      · left; simp [c1]
      · by_cases c2 : y = 0
        · right; left; simp [c2]; omega
        · by_cases c3 : n < m
          · right; right; left; simp; omega
          · have := HXY.out (by omega) (by omega) (by omega)
            right; right; right; simp; omega
    rcases cases3 with g | ⟨g, h⟩ | ⟨g, h, i⟩ | ⟨g, h, i, j⟩
    all_goals
      go_enter Try.func11, Try.ntmps11
      go_wp2_with fail
      refine (alive1_any _).mono ?_
      rintro e w1 ⟨rfl, hb⟩
      have HW := hid hb
      clear hb
      go_wp2_with fail
      refine (num_any _ _).mono ?_
      rintro e w2 ⟨v2, rfl, hown, hb⟩
      obtain ⟨a2, c2, hv, _, _, _⟩ := hown.sl
      rw [← HX.out] at hv
      subst hv
      have HB2 := hid (bst HW.out hb)
      clear hown hb
      go_wp2_with fail
      refine (num_any _ _).mono ?_
      rintro e w3 ⟨v3, rfl, hown, hb⟩
      obtain ⟨a3, c3, hv, _, _, _⟩ := hown.sl
      rw [← HY.out] at hv
      subst hv
      have HB3 := hid (bst HB2.out hb)
      clear hown hb
      go_wp2
      go_ret
      exact ⟨rfl, HB3.out⟩
  exact enter _ _ rfl rfl hm8 hn8 HM.out

end Go.Proofs.Ytbkbogdengeghaa
