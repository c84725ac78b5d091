/- dunnageref03.Get. -/
import Derived.Test.YtkkailggpfmgaaaFrameMath
import Derived.Test.YtkkailggpfmgaaaFrameRef
namespace Go.Proofs.Ytkkailggpfmgaaa
set_option linter.unusedVariables false
set_option linter.unusedSimpArgs false
open Go.RowKit

theorem St.lit0 {w0 w : World} {l : List Thing} (S : St w0 w l) : St w0 (w.alloc (.cells #[] 5)) (l ++ [bytesT (.slice (some ⟨w.heap.size, 0, none⟩) 0 0) []]) :=
  S.bytes (own_new w w.heap.size [] #[] 0 rfl rfl (by unfold maxLen; simp) (Nat.le_refl _)) ((Below.refl _ _).alloc (Nat.le_refl _) _)

set_option maxRecDepth 10000 in
set_option maxHeartbeats 1600000 in
theorem rfrGet_any (a : Option Addr) (l : List UInt8) (n cap : Nat) (at_ : Int) (w : World) (hn : l.length = n) (hm : n ≤ 140737488355328) (hcap : n ≤ cap) (hA : At w a l) :
    Calls Try.prog 72 #[.slice a n cap, .int .i64 at_] w fun e w' => GetPost (fGet l at_) w.heap.size e w' ∧ Below w.heap.size w w' := by
  have HN := hid hn
  have HA := hid hA
  clear hn hA
  have no : ∀ (z : Int) (w' : World) (B : Nat), fGet l at_ = ([], at_, z) → GetPost (fGet l at_) B (.returned (.tuple #[.slice none 0 0, .int .i64 at_, .int .i64 z])) w' := by
    intro z w' B h
    rw [h]
    exact ⟨none, 0, rfl, Own.nil _ _⟩
  have No := hid no
  clear no
  by_cases q0 : at_ < 0
  · have HF : Hid (fGet l at_ = ([], at_, 2)) := by rw [Hid, fGet, if_pos (.inl q0)]
    go_enter Try.func72, Try.ntmps72
    go_wp2
    go_ret3
    exact ⟨No.out _ _ _ HF.out, Below.refl _ _⟩
  obtain ⟨k, rfl⟩ := Int.eq_ofNat_of_zero_le (show 0 ≤ at_ by omega)
  by_cases q1 : n < k
  · have HF : Hid (fGet l k = ([], (k : Int), 2)) := by rw [Hid, fGet, if_pos (.inr (by rw [HN.out]; omega))]
    have g1 : decide (n < k) = true := decide_eq_true q1
    go_enter Try.func72, Try.ntmps72
    go_wp2
    go_ret3
    exact ⟨No.out _ _ _ HF.out, Below.refl _ _⟩
  have hF1 : fGet l k = if l[k]?.getD 0 = 0 then ([], (k : Int), 0) else fNum l k (getNum l k) := by
    rw [fGet, if_neg (by rw [HN.out]; omega), Int.toNat_natCast]
  have g1 : decide (n < k) = false := decide_eq_false q1
  by_cases q2 : k = n
  · subst q2
    have HF : Hid (fGet l k = ([], (k : Int), 0)) := by rw [Hid, hF1, if_pos (by rw [List.getElem?_eq_none (by have := HN.out; omega)]; rfl)]
    clear hF1
    go_enter Try.func72, Try.ntmps72
    go_wp2
    go_ret3
    exact ⟨No.out _ _ _ HF.out, Below.refl _ _⟩
  have hkl : k < l.length := by rw [HN.out]; omega
  have g2 : ((k : Int) == (n : Int)) = false := by simp; omega
  have i0 := fun wx => idx_at a n cap (fun h => HA.out.ok (by rw [HN.out]; exact h)) k k rfl (by omega) wx
  have x0 := HA.out.cell hkl
  have hzk : l[k]?.getD 0 = l[k] := by rw [List.getElem?_eq_getElem hkl, Option.getD_some]
  rw [hzk] at hF1
  have HZ := hid hzk
  clear hzk
  generalize l[k] = z at *
  generalize adr a k = A at *
  by_cases q3 : z = 0
  · subst q3
    have HF : Hid (fGet l k = ([], (k : Int), 0)) := by rw [Hid, hF1, if_pos rfl]
    clear hF1
    have g3 : (((0 : UInt8).toNat : Int) == 0) = true := rfl
    go_enter Try.func72, Try.ntmps72
    go_wp2
    go_ret3
    exact ⟨No.out _ _ _ HF.out, Below.refl _ _⟩
  have g3 : ((z.toNat : Int) == 0) = false := by
    have : z.toNat ≠ 0 := fun h => q3 (by apply UInt8.toNat.inj; simpa using h)
    simp; omega
  rw [if_neg q3] at hF1
  have HF1 := hid hF1
  have HZ0 : Hid (l[k]?.getD 0 ≠ 0) := by rw [Hid, HZ.out]; exact q3
  clear hF1 q3
  cases hg : getNum l k with
  | none =>
    have HG := hid hg
    have HF : Hid (fGet l k = ([], (k : Int), 2)) := by rw [Hid, HF1.out, hg]; rfl
    clear hg
    go_enter Try.func72, Try.ntmps72
    go_wp2_with fail
    refine (rgetNum_any a l n cap k w HN.out hm HA.out).mono ?_
    rintro e w1 ⟨rfl, hb⟩
    rw [HG.out]
    unfold res3
    have HB := hid hb
    clear hb
    go_wp2
    go_ret3
    exact ⟨No.out _ _ _ HF.out, HB.out⟩
  | some q =>
    obtain ⟨m, x⟩ := q
    have hgs := getNum_some hg
    rw [HN.out] at hgs
    have HG := hid hg
    have hm1 := getNum_pos hg HZ0.out
    have HF2 : Hid (fGet l k = rBody l k m x) := by rw [Hid, HF1.out, hg, rBody_eq hg hm1]; rfl
    clear hg
    obtain ⟨_, hkx, hxn, _⟩ := hgs
    have hkx' : k < x := by omega
    have g0 : decide ((m : Int) < 1) = false := decide_eq_false (by omega)
    by_cases q5 : 4000 < m
    · have HF : Hid (fGet l k = ([], (k : Int), 2)) := by rw [Hid, HF2.out, rBody, if_pos (.inl q5)]
      have g4 : decide ((4000 : Int) < (m : Int)) = true := decide_eq_true (by omega)
      go_enter Try.func72, Try.ntmps72
      go_wp2_with fail
      refine (rgetNum_any a l n cap k w HN.out hm HA.out).mono ?_
      rintro e w1 ⟨rfl, hb⟩
      rw [HG.out]
      unfold res3
      have HB := hid hb
      clear hb
      go_wp2
      go_ret3
      exact ⟨No.out _ _ _ HF.out, HB.out⟩
    have g4 : decide ((4000 : Int) < (m : Int)) = false := decide_eq_false (by omega)
    by_cases q6 : n < x + m
    · have HF : Hid (fGet l k = ([], (k : Int), 2)) := by rw [Hid, HF2.out, rBody, if_pos (.inr (by rw [HN.out]; exact q6))]
      have g5 : decide ((n : Int) - (x : Int) < (m : Int)) = true := decide_eq_true (by omega)
      go_enter Try.func72, Try.ntmps72
      go_wp2_with fail
      refine (rgetNum_any a l n cap k w HN.out hm HA.out).mono ?_
      rintro e w1 ⟨rfl, hb⟩
      rw [HG.out]
      unfold res3
      have HB := hid hb
      clear hb
      go_wp2
      go_ret3
      exact ⟨No.out _ _ _ HF.out, HB.out⟩
    have g5 : decide ((n : Int) - (x : Int) < (m : Int)) = false := decide_eq_false (by omega)
    have HR : Hid (rBody l k m x = if n < k + (frameB ((l.drop x).take m)).length ∨ frameB ((l.drop x).take m) ≠ (l.drop k).take (frameB ((l.drop x).take m)).length then ([], (k : Int), 2)
        else ((l.drop x).take m, ((k + (frameB ((l.drop x).take m)).length : Nat) : Int), 1)) := by rw [Hid, rBody, HN.out, if_neg (by omega)]
    have ic := cut_lhI a n cap x (x + m) (x : Int) ((x : Int) + (m : Int)) rfl (by omega) (by omega) (by omega)
    have HAc := hid (HA.out.cut x m cap (by omega))
    have HLc : Hid (((l.drop x).take m).length = m) := by rw [Hid, List.length_take, List.length_drop, HN.out]; omega
    generalize (l.drop x).take m = p at *
    obtain ⟨N, hN⟩ : ∃ N, (frameB p).length = N := ⟨_, rfl⟩
    rw [hN] at HR
    have HFN := hid hN
    have hNb : N ≤ 5000 := by
      rw [← hN, frameB]
      split
      · simp
      · have := codeNum_len (p.length : Int)
        simp only [List.length_append, putB_length, List.length_singleton]; omega
    have ic2 := fun (h : k + N ≤ n) => cut_lhI a n cap k (k + N) (k : Int) ((k : Int) + (N : Int)) rfl (by omega) (by omega) (by omega)
    have IC2 := hid ic2
    clear hN ic2
    by_cases q7 : n < k + N
    · have HF : Hid (fGet l k = ([], (k : Int), 2)) := by rw [Hid, HF2.out, HR.out, if_pos (.inl q7)]
      have g7 : decide ((n : Int) - (k : Int) < (N : Int)) = true := decide_eq_true (by omega)
      go_enter Try.func72, Try.ntmps72
      go_wp2_with fail
      refine (rgetNum_any a l n cap k w HN.out hm HA.out).mono ?_
      rintro e w1 ⟨rfl, hb⟩
      rw [HG.out]
      unfold res3
      have S1 := (St.start w).grow hb
      clear hb
      go_wp2_with (at_builtin; refine wpList_app (by rfl) (.tmp 59) (.tmp 65) 32 32 32 rfl rfl _ _ rfl rfl (S1.lit0.app 0 rfl _ p m _ HLc.out (by exact (S1.alloc _).old HAc.out) m (by simp) (by omega)) ?_; rintro v2 w2 ⟨⟨a2, c2, rfl⟩, S2⟩)
      refine (rfrPut_any a2 p m c2 w2 HLc.out (by omega) (by exact S2.at 0 rfl)).mono ?_
      rintro e w3 ⟨a3, c3, rfl, ho3, hb3⟩
      have S3 := S2.grow hb3
      rw [HFN.out]
      clear ho3 hb3
      go_wp2
      go_ret3
      exact ⟨No.out _ _ _ HF.out, S3.fin⟩
    have g7 : decide ((n : Int) - (k : Int) < (N : Int)) = false := decide_eq_false (by omega)
    have ic2 := IC2.out (by omega)
    have HAk := hid (HA.out.cut k N cap (by omega))
    have HLk : Hid ((((l.drop k).take N)).length = N) := by rw [Hid, List.length_take, List.length_drop, HN.out]; omega
    obtain ⟨t, ht⟩ : ∃ t, (frameB p == (l.drop k).take N) = t := ⟨_, rfl⟩
    have HT := hid ht
    clear ht IC2
    go_enter Try.func72, Try.ntmps72
    go_wp2_with fail
    refine (rgetNum_any a l n cap k w HN.out hm HA.out).mono ?_
    rintro e w1 ⟨rfl, hb⟩
    rw [HG.out]
    unfold res3
    have S1 := (St.start w).grow hb
    clear hb
    go_wp2_with (at_builtin; refine wpList_app (by rfl) (.tmp 59) (.tmp 65) 32 32 32 rfl rfl _ _ rfl rfl (S1.lit0.app 0 rfl _ p m _ HLc.out (by exact (S1.alloc _).old HAc.out) m (by simp) (by omega)) ?_; rintro v2 w2 ⟨⟨a2, c2, rfl⟩, S2⟩)
    refine (rfrPut_any a2 p m c2 w2 HLc.out (by omega) (by exact S2.at 0 rfl)).mono ?_
    rintro e w3 ⟨a3, c3, rfl, ho3, hb3⟩
    have S3 := S2.bytes ho3 hb3
    rw [HFN.out] at S3 ⊢
    clear ho3 hb3
    go_wp2_with fail
    refine (bytes_any _ _ (frameB p) _ _ _ _ _ w3 HFN.out HLk.out (by unfold maxLen; omega) (by unfold maxLen; omega) (by exact S3.at 1 rfl) (by exact S3.old HAk.out)).mono ?_
    rintro e w4 ⟨rfl, n4, rfl⟩
    rw [HT.out]
    have S4 := S3.drewN n4
    cases t with
    | false =>
      have HF : Hid (fGet l k = ([], (k : Int), 2)) := by
        rw [Hid, HF2.out, HR.out, if_pos (.inr (by have := HT.out; simpa using this))]
      go_wp2
      go_ret3
      exact ⟨No.out _ _ _ HF.out, S4.fin⟩
    | true =>
      have HF : Hid (fGet l k = (p, ((k + N : Nat) : Int), 1)) := by
        have := HT.out
        rw [beq_iff_eq] at this
        rw [Hid, HF2.out, HR.out, if_neg (by rw [this]; simp; omega)]
      go_wp2
      go_ret3
      refine ⟨?_, S4.fin⟩
      rw [HF.out]
      have hl := HLc.out
      refine ⟨a2, c2, ?_, by rw [hl]; exact S4.ownAt 0 rfl⟩
      rw [hl]
      have e3 : (k : Int) + (N : Int) = ((k + N : Nat) : Int) := by omega
      rw [← e3]
      rfl

end Go.Proofs.Ytkkailggpfmgaaa
