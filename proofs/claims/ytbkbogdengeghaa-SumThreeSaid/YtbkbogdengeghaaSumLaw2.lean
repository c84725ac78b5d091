/- The statements SumPuts, SumParts, SumSteps, SumThree, walked. -/
import Derived.Test.YtbkbogdengeghaaSumLaws
import Derived.Test.YtbkbogdengeghaaSumMath
namespace Go.Proofs.Ytbkbogdengeghaa
set_option linter.unusedVariables false
set_option linter.unusedSimpArgs false
open Go.RowKit

set_option maxHeartbeats 400000 in
theorem sumPuts_law (n : Int) (a : Option Addr) (l : List UInt8) (k cap : Nat) (w : World) (hn : l.length = k) (hl : k ≤ maxLen) (hcap : k ≤ cap) (hA : At w a l) :
    Calls Try.prog 4 #[.int .i64 n, .slice a k cap] w fun e w' => e = .returned (.bool true) ∧ Below w.heap.size w w' := by
  have H := hid hA
  clear hA
  go_enter Try.func4, Try.ntmps4
  go_wp2_with fail
  refine (alive_any _).mono ?_
  rintro e w1 ⟨rfl, hb⟩
  have HB := hid hb
  clear hb
  by_cases h3 : 300 < k
  · go_wp2
    go_ret
    exact ⟨rfl, HB.out⟩
  have H1 : Hid (At w1 a l) := H.out.all HB.out
  go_wp2_with (at_builtin; refine wpList_app (by rfl) (.tmp 11) (.tmp 12) 22 22 22 rfl rfl _ _ rfl rfl (run_app 22 _ w1.heap.size _ [] (Own.nil _ _) a l k cap hn (by exact H1.out) (by simp; omega) (Nat.le_refl _)) ?_; rintro v2 w2 ⟨hown2, hg2⟩)
  have HO := hid hown2
  have HG := hid ((Own.nil w1 w1.heap.size).below (Nat.le_refl _) hg2)
  clear hown2 hg2
  go_wp2_with fail
  refine (put_any _ _).mono ?_
  rintro e w3 ⟨v3, rfl, hown3, hb3⟩
  have HB3 := hid hb3
  have HO2 := hid (HO.out.stay hb3)
  obtain ⟨a3, c3, rfl, _, _, hat3⟩ := hown3.sl
  have HT3 := hid hat3
  have hsz := HG.out.size
  have hsz3 := hb3.size
  clear hown3 hb3 hat3
  go_wp2_with (at_builtin; refine wpList_app (by rfl) (.tmp 14) (.tmp 16) 22 22 22 rfl rfl _ _ rfl rfl (run_app 22 _ w1.heap.size _ _ (by exact HO2.out) a3 (putB n) _ c3 rfl (by exact HT3.out) (by simp [putB_length]; omega) (by omega)) ?_; rintro v4 w4 ⟨hown4, hg4⟩)
  have HG4 := hid (HO2.out.below (by omega) hg4)
  obtain ⟨a4, c4, rfl, _, _, hat4⟩ := hown4.sl
  have HT4 := hid hat4
  have H4 := hid (bst HB.out (HG.out.trans ((HB3.out.mono hsz).trans HG4.out)))
  have hlen4 : k + (putB n).length ≤ maxLen := by simp [putB_length, maxLen]; omega
  have heq4 : ([] ++ l ++ putB n).length = k + (putB n).length := by simp [hn]
  rename_i hcap4 _
  rw [heq4] at hcap4
  have HE := hid heq4
  clear heq4
  clear hown4 hg4 hat4
  refine (put_any _ _).mono ?_
  rintro e w5 ⟨v5, rfl, hown5, hb5⟩
  obtain ⟨a5, c5, rfl, _, _, hat5⟩ := hown5.sl
  have HT5 := hid hat5
  have HB5 := hid hb5
  clear hown5 hat5 hb5
  go_wp2_with fail
  refine (rput_any _ _).mono ?_
  rintro e w6 ⟨v6, rfl, hown6, hb6⟩
  obtain ⟨a6, c6, rfl, _, _, hat6⟩ := hown6.sl
  have HT6 := hid hat6
  have HB6 := hid hb6
  have HT5' := hid (HT5.out.all hb6)
  clear hown6 hat6 hb6
  go_wp2_with fail
  refine (bytes_any _ _ _ _ _ _ _ _ _ rfl rfl (by simp [putB_length, maxLen]) (by simp [putB_length, maxLen]) (by exact HT5'.out) (by exact HT6.out)).mono ?_
  rintro e w7 ⟨rfl, n7, rfl⟩
  have H6 := hid (below_drewN (bst (bst H4.out HB5.out) HB6.out) n7)
  have h46 := hid (below_drewN (bst HB5.out HB6.out) n7)
  have e1 : (putB n == putB n) = true := by simp
  go_wp2_with fail
  refine (is_any a l k cap _ hn hl hcap (by exact H.out.all H6.out)).mono ?_
  rintro e w8 ⟨rfl, hb8⟩
  have HB8 := hid hb8
  clear hb8
  go_wp2_with fail
  refine (ris_any a l k cap _ hn hl hcap (by exact H.out.all (bst H6.out HB8.out))).mono ?_
  rintro e w9 ⟨rfl, hb9⟩
  have HB9 := hid hb9
  clear hb9
  have e2 : (isB l == isB l) = true := by simp
  have h49 := hid (bst (bst h46.out HB8.out) HB9.out)
  have H9 := hid (bst (bst H6.out HB8.out) HB9.out)
  go_wp2_with fail
  refine (is_any a4 _ _ c4 _ HE.out hlen4 hcap4 (by exact HT4.out.all h49.out)).mono ?_
  rintro e w10 ⟨rfl, hb10⟩
  have HB10 := hid hb10
  clear hb10
  go_wp2_with fail
  refine (ris_any a4 _ _ c4 _ HE.out hlen4 hcap4 (by exact HT4.out.all (bst h49.out HB10.out))).mono ?_
  rintro e w11 ⟨rfl, hb11⟩
  have HB11 := hid hb11
  clear hb11
  have e3 : (isB ([] ++ l ++ putB n) == isB ([] ++ l ++ putB n)) = true := by simp
  go_wp2
  go_ret
  exact ⟨rfl, bst (bst H9.out HB10.out) HB11.out⟩

set_option maxHeartbeats 1000000 in
theorem sumParts_law (a b : Option Addr) (l m : List UInt8) (k j ca cb : Nat) (at_ : Int) (byn : UInt8) (w : World) (hn : l.length = k) (hm : m.length = j) (hl : k ≤ maxLen) (hj : j ≤ maxLen) (hA : At w a l) (hB : At w b m)
    (h0 : -9223372036854775808 ≤ at_ ∧ at_ ≤ 9223372036854775807) :
    Calls Try.prog 5 #[.slice a k ca, .slice b j cb, .int .i64 at_, .int .u8 (byn.toNat : Int)] w fun e w' => e = .returned (.bool true) ∧ Below w.heap.size w w' := by
  have HA := hid hA
  have HB := hid hB
  clear hA hB
  by_cases h3 : 300 < k
  · have g1 : decide ((300 : Int) < (k : Int)) = true := by simp; omega
    go_enter Try.func5, Try.ntmps5
    go_wp2_with fail
    refine (alive_any _).mono ?_
    rintro e w1 ⟨rfl, hb⟩
    have HW := hid hb
    clear hb
    go_wp2
    go_ret
    exact ⟨rfl, HW.out⟩
  have g1 : decide ((300 : Int) < (k : Int)) = false := by simp; omega
  by_cases h4 : 300 < j
  · have g2 : decide ((300 : Int) < (j : Int)) = true := by simp; omega
    go_enter Try.func5, Try.ntmps5
    go_wp2_with fail
    refine (alive_any _).mono ?_
    rintro e w1 ⟨rfl, hb⟩
    have HW := hid hb
    clear hb
    go_wp2
    go_ret
    exact ⟨rfl, HW.out⟩
  have g2 : decide ((300 : Int) < (j : Int)) = false := by simp; omega
  go_enter Try.func5, Try.ntmps5
  go_wp2_with fail
  refine (alive_any _).mono ?_
  rintro e w1 ⟨rfl, hb⟩
  have HW := hid hb
  have HA1 : Hid (At w1 a l) := HA.out.all hb
  have HB1 : Hid (At w1 b m) := HB.out.all hb
  clear hb
  have HLM : Hid ((l ++ m).length = k + j) := by rw [Hid, List.length_append, hn, hm]
  go_wp2_with (first
    | (at_builtin; refine wpList_app (by rfl) (.tmp 21) (.tmp 22) 22 22 22 rfl rfl _ _ rfl rfl (run_app0 _ a l k ca hn (by exact HA1.out) (by omega)) ?_; rintro v2 w2 ⟨hown2, hg2⟩; have HO2 := hid hown2; have HG2 := hid hg2; have hs2 := hg2.size; have HB2 := hid (HB1.out.all hg2); clear hown2 hg2)
    | (at_builtin; refine wpList_app (by rfl) (.tmp 24) (.tmp 25) 22 22 22 rfl rfl _ _ rfl rfl (run_app1 _ w1.heap.size _ l (by exact HO2.out) b m j cb hm (by exact HB2.out) (by omega) (by omega)) ?_; rintro v3 w3 ⟨hown3, hg3⟩; have HG3 := hid (HG2.out.trans hg3); have hs3 := hg3.size; obtain ⟨a3, c3, rfl, hcap3, hmx3, hat3⟩ := hown3.sl; rw [HLM.out] at hown3; have HO3 := hid hown3; have HT3 := hid hat3; clear hown3 hg3 hat3))
  have H3 := hid (bst HW.out HG3.out)
  have hsm : k + j ≤ maxLen := by unfold maxLen; omega
  refine (of_any a3 (l ++ m) (k + j) c3 _ HLM.out hsm (by exact HT3.out)).mono ?_
  rintro e w' ⟨rfl, rfl⟩
  go_wp2_with fail
  refine (of_any a l k ca _ hn hl (by exact HA.out.all H3.out)).mono ?_
  rintro e w' ⟨rfl, rfl⟩
  go_wp2_with fail
  refine (more_any _ b m j cb _ hm hj (by exact HB.out.all H3.out)).mono ?_
  rintro e w' ⟨rfl, rfl⟩
  have e1 : sumMore ((sumOf l : Nat) : Int) m = ((sumOf (l ++ m) : Nat) : Int) := more_append l m
  have hlt := sumOf_lt (l ++ m)
  have HP := hid (isB_put (l ++ m))
  have HT := hid (isB_turned (l ++ m))
  generalize hsv : sumOf (l ++ m) = s at *
  have HS := hid hsv
  clear hsv
  have e2 : ((s : Int) != (s : Int)) = false := by simp
  have e3 : decide ((s : Int) < 0) = false := by simp
  have e4 : decide ((4294967295 : Int) < (s : Int)) = false := by simp; omega
  go_wp2_with fail
  refine (put_any _ _).mono ?_
  rintro e w5 ⟨v5, rfl, hown5, hb5⟩
  obtain ⟨a5, c5, rfl, _, _, hat5⟩ := hown5.sl
  have HT5 := hid hat5
  have HB5 := hid (bst H3.out hb5)
  have HO5 := hid (HO3.out.stay hb5)
  have hs5 := hb5.size
  have hs1 := HW.out.size
  clear hown5 hat5 hb5
  go_wp2_with (at_builtin; refine wpList_app (by rfl) (.tmp 43) (.tmp 45) 22 22 22 rfl rfl _ _ rfl rfl (run_app1 _ w1.heap.size _ (l ++ m) (by exact HO5.out) a5 (putB s) 4 c5 (by simp [putB_length]) (by exact HT5.out) (by rw [List.length_append]; omega) (by omega)) ?_; rintro v6 w6 ⟨hown6, hg6⟩; have HB6 := hid (HB5.out.trans (hg6.mono hs1)); obtain ⟨g, c6, rfl, hat6⟩ := hown6.at (by simp [putB_length]; omega); have HT6 := hid hat6; generalize hN6 : (l ++ m ++ putB (s : Int)).length = N; have HN := hid hN6; clear hown6 hg6 hat6 hN6)
  have hN : N = k + j + 4 := by rw [← HN.out]; simp [putB_length, hn, hm]; omega
  have hN1 : N ≤ 604 := by omega
  have HNL := hid hN
  have hNc : N ≤ c6 := by have := HT6.out.room; rw [HN.out] at this; exact this
  clear hN
  refine (is_any (some ⟨g, 0, none⟩) (l ++ m ++ putB s) N c6 _ HN.out (by unfold maxLen; omega) hNc (by exact HT6.out.sl)).mono ?_
  rintro e w7 ⟨rfl, hb7⟩
  rw [HP.out]
  have HT7 := hid (HT6.out.stay hb7)
  have HB7 := hid (bst HB6.out hb7)
  clear hb7
  clear e1 e2 e3 e4 g1 g2 hlt
  by_cases q0 : at_ < 0
  · have f0 : decide (at_ < 0) = true := by simp; omega
    go_wp2
    go_ret
    exact ⟨rfl, HB7.out⟩
  have f0 : decide (at_ < 0) = false := by simp; omega
  obtain ⟨p, rfl⟩ := Int.eq_ofNat_of_zero_le (show 0 ≤ at_ by omega)
  by_cases q1 : N ≤ p
  · have f1 : decide ((N : Int) ≤ (p : Int)) = true := by simp; omega
    go_wp2
    go_ret
    exact ⟨rfl, HB7.out⟩
  have f1 : decide ((N : Int) ≤ (p : Int)) = false := by simp; omega
  by_cases q2 : byn = 0
  · have f2 : ((byn.toNat : Int) == 0) = true := by rw [q2]; rfl
    go_wp2
    go_ret
    exact ⟨rfl, HB7.out⟩
  have f2 : ((byn.toNat : Int) == 0) = false := by
    simp; intro h; exact q2 (UInt8.toNat_inj.1 (by simpa using h))
  have hpl : p < (l ++ m ++ putB s).length := by rw [HN.out]; omega
  have i1 := idx_own g N c6 p p rfl (by omega)
  have k1 := HT7.out.cell hpl
  have k2 := HT7.out.frz p
  have HU := hid (HT.out p ((l ++ m ++ putB s)[p] ^^^ byn) hpl (by
    intro h
    apply q2
    have := congrArg (· ^^^ (l ++ m ++ putB s)[p]) h
    simpa [UInt8.xor_comm _ byn, UInt8.xor_assoc] using this))
  have HS8 := hid (HT7.out.set p ((l ++ m ++ putB s)[p] ^^^ byn))
  generalize (l ++ m ++ putB s)[p] = x at k1 HU HS8
  rw [bv_def] at k1
  have hx := xor_u8 x byn
  have HB8 := hid (HB7.out.setCell (p := ⟨g, p, none⟩) (show w.heap.size ≤ g from Nat.le_trans HW.out.size HT6.out.ge) (bv (x ^^^ byn)))
  have HL8 : Hid (((l ++ m ++ putB s).set p (x ^^^ byn)).length = N) := by rw [Hid, List.length_set, HN.out]
  rw [bv_def, UInt8.toNat_xor] at HS8 HB8
  rw [UInt8.toNat_xor] at hx
  go_wp2_with fail
  refine (is_any (some ⟨g, 0, none⟩) _ N c6 _ HL8.out (by unfold maxLen; omega) hNc (by exact HS8.out.sl)).mono ?_
  rintro e w9 ⟨rfl, hb9⟩
  rw [HU.out]
  have HB9 := hid (bst HB8.out hb9)
  clear hb9
  go_wp2
  go_ret
  exact ⟨rfl, HB9.out⟩

set_option maxHeartbeats 1000000 in
theorem sumSteps_law (a b c : Option Addr) (l m r : List UInt8) (i j k ca cb cc : Nat) (w : World) (hi : l.length = i) (hj : m.length = j) (hk : r.length = k) (hli : i ≤ maxLen) (hlj : j ≤ maxLen) (hlk : k ≤ maxLen)
    (hcb : j ≤ cb) (hA : At w a l) (hB : At w b m) (hC : At w c r) :
    Calls Try.prog 6 #[.slice a i ca, .slice b j cb, .slice c k cc] w fun e w' => e = .returned (.bool true) ∧ Below w.heap.size w w' := by
  have HA := hid hA
  have HB := hid hB
  have HC := hid hC
  clear hA hB hC
  have early : ∀ g : Nat → Prop, True := fun _ => trivial
  clear early
  by_cases h1 : 300 < i
  · have g1 : decide ((300 : Int) < (i : Int)) = true := by simp; omega
    go_enter Try.func6, Try.ntmps6
    go_wp2_with fail
    refine (alive_any _).mono ?_
    rintro e w1 ⟨rfl, hb⟩
    have HW := hid hb
    clear hb
    go_wp2
    go_ret
    exact ⟨rfl, HW.out⟩
  have g1 : decide ((300 : Int) < (i : Int)) = false := by simp; omega
  by_cases h2 : 300 < j
  · have g2 : decide ((300 : Int) < (j : Int)) = true := by simp; omega
    go_enter Try.func6, Try.ntmps6
    go_wp2_with fail
    refine (alive_any _).mono ?_
    rintro e w1 ⟨rfl, hb⟩
    have HW := hid hb
    clear hb
    go_wp2
    go_ret
    exact ⟨rfl, HW.out⟩
  have g2 : decide ((300 : Int) < (j : Int)) = false := by simp; omega
  by_cases h3 : 300 < k
  · have g3 : decide ((300 : Int) < (k : Int)) = true := by simp; omega
    go_enter Try.func6, Try.ntmps6
    go_wp2_with fail
    refine (alive_any _).mono ?_
    rintro e w1 ⟨rfl, hb⟩
    have HW := hid hb
    clear hb
    go_wp2
    go_ret
    exact ⟨rfl, HW.out⟩
  have g3 : decide ((300 : Int) < (k : Int)) = false := by simp; omega
  go_enter Try.func6, Try.ntmps6
  go_wp2_with fail
  refine (alive_any _).mono ?_
  rintro e w1 ⟨rfl, hb⟩
  have HW := hid hb
  have HA1 : Hid (At w1 a l) := HA.out.all hb
  have HB1 : Hid (At w1 b m) := HB.out.all hb
  have HC1 : Hid (At w1 c r) := HC.out.all hb
  clear hb
  go_wp2_with fail
  refine (of_any a l i ca _ hi hli (by exact HA1.out)).mono ?_
  rintro e w' ⟨rfl, rfl⟩
  go_wp2_with fail
  refine (more_any _ none [] 0 0 _ rfl (by decide) (At.nil _ _)).mono ?_
  rintro e w' ⟨rfl, rfl⟩
  have e1 : sumMore ((sumOf l : Nat) : Int) [] = ((sumOf l : Nat) : Int) := by rw [more_append, List.append_nil]
  have e2 : (((sumOf l : Nat) : Int) != ((sumOf l : Nat) : Int)) = false := by simp
  go_wp2_with fail
  refine (more_any _ b m j cb _ hj hlj (by exact HB1.out)).mono ?_
  rintro e w' ⟨rfl, rfl⟩
  have e3 : sumMore ((sumOf l : Nat) : Int) m = ((sumOf (l ++ m) : Nat) : Int) := more_append _ _
  go_wp2_with fail
  refine (more_any _ c r k cc _ hk hlk (by exact HC1.out)).mono ?_
  rintro e w' ⟨rfl, rfl⟩
  have e4 : sumMore ((sumOf (l ++ m) : Nat) : Int) r = ((sumOf (l ++ m ++ r) : Nat) : Int) := more_append _ _
  have HE4 := hid e4
  rw [e4]
  clear e1 e2 e3 e4 g1 g2 g3
  go_wp2_with fail
  have HJ := hid hj
  go_loop [7, 9] (fun s q => ∃ p : Nat, p ≤ j ∧ q = .int .i64 p ∧ s = .int .i64 (sumOf (l ++ m.take p))) (fun _ q => j - (intOf q).toNat)
  case atStart => exact ⟨0, Nat.zero_le _, rfl, by simp⟩
  case round =>
    obtain ⟨p, hp, rfl, rfl⟩ := hrel
    by_cases hlt : p < j
    · have c1 := cut_lhI b j cb p (p + 1) p (p + 1) rfl (by omega) (by omega) (by omega)
      rw [show p + 1 - p = 1 from by omega] at c1
      have HK : Hid (At w1 (cutH b p cb) [m[p]]) := by
        have := HB1.out.cut p 1 cb (by omega)
        rwa [show (m.drop p).take 1 = [m[p]] from by rw [List.drop_eq_getElem_cons (by omega)]; rfl] at this
      have HM : Hid (sumMore ((sumOf (l ++ m.take p) : Nat) : Int) [m[p]] = ((sumOf (l ++ m.take (p + 1)) : Nat) : Int)) := by
        rw [Hid, more_append, List.take_succ_eq_append_getElem (by omega), List.append_assoc]
      go_wp2_with fail
      refine (more_any _ (cutH b p cb) [m[p]] 1 (cb - p) _ rfl (by decide) (by exact HK.out)).mono ?_
      rintro e w' ⟨rfl, rfl⟩
      rw [HM.out]
      go_wp2
      go_round
      case rel => exact ⟨p + 1, by omega, by go_num, rfl⟩
      case measure => simp [intOf]; omega
    · have ep : p = j := by omega
      have ht : m.take p = m := by rw [ep, ← HJ.out]; exact List.take_length
      rw [ht]
      clear ht ep
      go_wp2_with fail
      refine (more_any _ c r k cc _ hk hlk (by exact HC1.out)).mono ?_
      rintro e w' ⟨rfl, rfl⟩
      rw [HE4.out]
      go_wp2
      go_ret
      exact ⟨by simp, HW.out⟩

/-- Three texts, put together byte by byte, as far as `p`. -/
def tri (l m r : List UInt8) (n p : Nat) : List UInt8 := (List.range n).map fun k => if k < p then l.getD k 0 ^^^ m.getD k 0 ^^^ r.getD k 0 else 0
theorem tri_zero (l m r : List UInt8) (n : Nat) : tri l m r n 0 = List.replicate n 0 := by
  apply List.ext_getElem
  · simp [tri]
  · intro k h1 h2; simp [tri]
theorem tri_length (l m r : List UInt8) (n p : Nat) : (tri l m r n p).length = n := by simp [tri]
theorem tri_set (l m r : List UInt8) (n p : Nat) (_hp : p < n) : (tri l m r n p).set p (l.getD p 0 ^^^ m.getD p 0 ^^^ r.getD p 0) = tri l m r n (p + 1) := by
  apply List.ext_getElem
  · simp [tri]
  · intro k h1 h2
    simp only [tri, List.getElem_set, List.getElem_map, List.getElem_range]
    by_cases e : p = k
    · subst e; simp
    · rw [if_neg e]
      by_cases h : k < p
      · rw [if_pos h, if_pos (by omega)]
      · rw [if_neg h, if_neg (by omega)]
theorem sum_tri (l m r : List UInt8) (n : Nat) (hl : l.length = n) (hm : m.length = n) (hr : r.length = n) : sumOf (tri l m r n n) = sumOf l ^^^ sumOf m ^^^ sumOf r := by
  apply sumOf_three
  · rw [tri_length, hl]
  · rw [tri_length, hm]
  · rw [tri_length, hr]
  · intro k hk
    rw [tri_length] at hk
    have : (tri l m r n n).getD k 0 = (tri l m r n n)[k]'(by rw [tri_length]; exact hk) := by
      rw [List.getD_eq_getElem?_getD, List.getElem?_eq_getElem (by rw [tri_length]; exact hk)]; rfl
    rw [this]
    simp only [tri, List.getElem_map, List.getElem_range, if_pos hk]

set_option maxHeartbeats 1000000 in
theorem sumThree_law (a b c : Option Addr) (l m r : List UInt8) (i j k ca cb cc : Nat) (w : World) (hi : l.length = i) (hj : m.length = j) (hk : r.length = k) (hli : i ≤ maxLen) (hlj : j ≤ maxLen) (hlk : k ≤ maxLen)
    (hA : At w a l) (hB : At w b m) (hC : At w c r) :
    Calls Try.prog 7 #[.slice a i ca, .slice b j cb, .slice c k cc] w fun e w' => e = .returned (.bool true) ∧ Below w.heap.size w w' := by
  unfold maxLen at hli hlj hlk
  have HA := hid hA
  have HB := hid hB
  have HC := hid hC
  clear hA hB hC
  by_cases h1 : 300 < i
  · have g1 : decide ((300 : Int) < (i : Int)) = true := by simp; omega
    go_enter Try.func7, Try.ntmps7
    go_wp2_with fail
    refine (alive_any _).mono ?_
    rintro e w1 ⟨rfl, hb⟩
    have HW := hid hb
    clear hb
    go_wp2
    go_ret
    exact ⟨rfl, HW.out⟩
  have g1 : decide ((300 : Int) < (i : Int)) = false := by simp; omega
  by_cases h2 : j = i
  case neg =>
    have g2 : ((j : Int) != (i : Int)) = true := by simp; omega
    go_enter Try.func7, Try.ntmps7
    go_wp2_with fail
    refine (alive_any _).mono ?_
    rintro e w1 ⟨rfl, hb⟩
    have HW := hid hb
    clear hb
    go_wp2
    go_ret
    exact ⟨rfl, HW.out⟩
  subst h2
  have g2 : ((j : Int) != (j : Int)) = false := by simp
  by_cases h3 : k = j
  case neg =>
    have g3 : ((k : Int) != (j : Int)) = true := by simp; omega
    go_enter Try.func7, Try.ntmps7
    go_wp2_with fail
    refine (alive_any _).mono ?_
    rintro e w1 ⟨rfl, hb⟩
    have HW := hid hb
    clear hb
    go_wp2
    go_ret
    exact ⟨rfl, HW.out⟩
  subst h3
  go_enter Try.func7, Try.ntmps7
  go_wp2_with fail
  refine (alive_any _).mono ?_
  rintro e w1 ⟨rfl, hb⟩
  have HW := hid hb
  have HA1 : Hid (At w1 a l) := HA.out.all hb
  have HB1 : Hid (At w1 b m) := HB.out.all hb
  have HC1 : Hid (At w1 c r) := HC.out.all hb
  clear hb
  have HI := hid hi
  have HJ := hid hj
  have HK := hid hk
  clear hi hj hk
  go_wp2_with (at_make; refine wpList_make (by rfl) (.tmp 28) (.tmp 28) 22 rfl _ _ rfl rfl (run_make _ k (by omega)) ?_; rintro v2 w2 ⟨rfl, hown2, hb2⟩; have HO2 := hid hown2; have HB2 := hid hb2; clear hown2 hb2)
  generalize hg : w1.heap.size = g at *
  have HG := hid hg
  clear hg
  have HO3 : Hid (Own w2 g (.slice (some ⟨g, 0, none⟩) k k) (tri l m r k 0)) := by rw [tri_zero]; exact HO2.out
  go_loopw [9] (fun q wr => ∃ p : Nat, p ≤ k ∧ q = .int .i64 p ∧ Own wr g (.slice (some ⟨g, 0, none⟩) k k) (tri l m r k p) ∧ Below g w1 wr) (fun q _ => k - (intOf q).toNat)
  case atStart => exact ⟨0, Nat.zero_le _, rfl, HO3.out, HB2.out⟩
  case round =>
    obtain ⟨p, hp, rfl, hown, hbel⟩ := hrel
    have HO := hid hown
    have HBL := hid hbel
    have hbel' := hbel
    rw [← HG.out] at hbel'
    by_cases hlt : p < k
    · have i1 := idx_at a k ca (by rw [← HI.out]; exact HA1.out.ok) p p rfl hlt
      have i2 := idx_at b k cb (by rw [← HJ.out]; exact HB1.out.ok) p p rfl hlt
      have i3 := idx_at c k cc (by rw [← HK.out]; exact HC1.out.ok) p p rfl hlt
      have i4 := idx_own g k k p p rfl hlt
      have k1 := (HA1.out.all hbel').cell (k := p) (by rw [HI.out]; exact hlt)
      have k2 := (HB1.out.all hbel').cell (k := p) (by rw [HJ.out]; exact hlt)
      have k3 := (HC1.out.all hbel').cell (k := p) (by rw [HK.out]; exact hlt)
      have k4 := hown.cellAt (tri_length _ _ _ _ _) p (by rw [tri_length]; exact hlt)
      have k5 := hown.frz (tri_length _ _ _ _ _) p
      have HS := hid (hown.set (tri_length _ _ _ _ _) p (l.getD p 0 ^^^ m.getD p 0 ^^^ r.getD p 0))
      have hpl : p < l.length := by rw [HI.out]; exact hlt
      have hpm : p < m.length := by rw [HJ.out]; exact hlt
      have hpr : p < r.length := by rw [HK.out]; exact hlt
      have e1 : l.getD p 0 = l[p]'(by rw [HI.out]; exact hlt) := by simp [List.getD, HI.out, hlt]
      have e2 : m.getD p 0 = m[p]'(by rw [HJ.out]; exact hlt) := by simp [List.getD, HJ.out, hlt]
      have e3 : r.getD p 0 = r[p]'(by rw [HK.out]; exact hlt) := by simp [List.getD, HK.out, hlt]
      have HS2 := HS
      rw [tri_set _ _ _ _ _ hlt, e1, e2, e3] at HS2
      generalize l[p] = x at k1 HS2
      generalize m[p] = y at k2 HS2
      generalize r[p] = z at k3 HS2
      have hx1 := xor_u8 x y
      have hx2 := xor_u8 (x ^^^ y) z
      rw [bv_def] at k4 HS2
      rw [UInt8.toNat_xor] at hx1
      rw [UInt8.toNat_xor, UInt8.toNat_xor] at hx2 HS2
      clear hown hbel hbel' e1 e2 e3
      have HF := hid (HBL.out.setCell (p := ⟨g, p, none⟩) (Nat.le_refl _) (.int .u8 ((x.toNat ^^^ y.toNat ^^^ z.toNat : Nat) : Int)))
      go_wp2
      go_region
      go_wp2
      go_roundw
      case rel => exact ⟨p + 1, by omega, by go_num, HS2.out, HF.out.drew⟩
      case measure => simp [intOf]; omega
    · have ep : p = k := by omega
      rw [ep] at HO
      have HW4 := hid (bst HW.out hbel')
      have hat := HO.out.sl
      obtain ⟨a0, c0, e0, h0, h0', hat⟩ := hat
      rw [tri_length] at e0
      cases e0
      have HT := hid hat
      have HA2 := hid (HA1.out.all hbel')
      have HB3 := hid (HB1.out.all hbel')
      have HC2 := hid (HC1.out.all hbel')
      have hx1 := xor_i64 _ _ (sumOf_lt l) (sumOf_lt m)
      have hx2 := xor_i64 (sumOf l ^^^ sumOf m) (sumOf r) (Nat.xor_lt_two_pow (n := 32) (sumOf_lt l) (sumOf_lt m)) (sumOf_lt r)
      have HS := hid (sum_tri l m r k HI.out HJ.out HK.out)
      have hli' : k ≤ maxLen := by unfold maxLen; omega
      clear hown hbel hbel' hat h0 h0' ep
      go_wp2_with fail
      refine (of_any _ (tri l m r k k) k k _ (tri_length _ _ _ _ _) hli' (by exact HT.out)).mono ?_
      rintro e w' ⟨rfl, rfl⟩
      rw [HS.out]
      go_wp2_with fail
      refine (of_any a l k ca _ HI.out hli' (by exact HA2.out)).mono ?_
      rintro e w' ⟨rfl, rfl⟩
      go_wp2_with fail
      refine (of_any b m k cb _ HJ.out hli' (by exact HB3.out)).mono ?_
      rintro e w' ⟨rfl, rfl⟩
      go_wp2_with fail
      refine (of_any c r k cc _ HK.out hli' (by exact HC2.out)).mono ?_
      rintro e w' ⟨rfl, rfl⟩
      go_wp2
      go_ret
      exact ⟨by simp, HW4.out⟩

end Go.Proofs.Ytbkbogdengeghaa
