/- FrameBack. -/
import Derived.Test.YtbdclgopdildmaaFrameLaw2
import Derived.Test.YtbdclgopdildmaaRdisk2
namespace Go.Proofs.Ytbdclgopdildmaa
set_option linter.unusedVariables false
set_option linter.unusedSimpArgs false
open Go.RowKit

theorem torn_set {F : List UInt8} {i T : Nat} (hi : i < F.length) (hT : i < T) : (F.take i ++ List.replicate (T - i) 0).set i F[i] = F.take (i + 1) ++ List.replicate (T - (i + 1)) 0 := by
  rw [List.set_append_right _ _ (by rw [List.length_take]; omega), List.length_take, Nat.min_eq_left (by omega), Nat.sub_self, show T - i = (T - (i + 1)) + 1 by omega, List.replicate_succ, List.set_cons_zero, List.take_succ_eq_append_getElem hi, List.append_assoc]
  rfl

theorem run_makeI (w : World) (n : Nat) (i : Int) (hi : i = (n : Int)) (hn : n ≤ 140737488355328) :
    ∃ v' w', (Instr.makeSlice 30 (.int .i64 i) (.int .i64 i)).run Try.prog w = .ok v' w' ∧ (v' = .slice (some ⟨w.heap.size, 0, none⟩) n n ∧ Own w' w.heap.size v' (List.replicate n 0) ∧ Below w.heap.size w w') := by
  subst hi; exact run_make w n hn

set_option maxRecDepth 10000 in
set_option maxHeartbeats 3200000 in
theorem frameBack_law (a b : Option Addr) (l m : List UInt8) (n j ca cb : Nat) (kp nz : UInt8) (w : World) (hn : l.length = n) (hj : m.length = j) (hcap : n ≤ ca) (hm : n ≤ maxLen) (hmj : j ≤ maxLen) (hnil : a = none → ca = 0) (hA : At w a l) (hB : At w b m) :
    Calls Try.prog 9 #[.slice a n ca, .slice b j cb, .int .u8 (kp.toNat : Int), .int .u8 (nz.toNat : Int)] w fun e w' => e = .returned (.bool true) ∧ Below w.heap.size w w' := by
  have HN := hid hn
  have HJ := hid hj
  have HNil := hid hnil
  unfold maxLen at hm hmj
  have S0 := St.start w
  have hkp := kp.toNat_lt
  have hnz := nz.toNat_lt
  generalize kp.toNat = kq at *
  generalize nz.toNat = z at *
  clear hn hj hnil
  go_enter Try.func9, Try.ntmps9
  go_wp2_with fail
  refine (alive3_any _).mono ?_
  rintro e w1 ⟨rfl, hb1⟩
  have S1 := S0.grow hb1
  clear hb1
  go_wp2_with fail
  all_goals (try (go_ret; exact ⟨rfl, S1.fin⟩))
  have h1 : 1 ≤ n ∧ n ≤ 200 ∧ j ≤ 300 := by omega
  have hl := frame_len (p := l) (by rw [HN.out]; omega) (by rw [HN.out]; omega)
  have HG : Hid (fGet (([] ++ frameB l) ++ m) 0 = (l, ((frameB l).length : Int), 1)) := by
    have := fGet_put [] m (p := l) (by rw [HN.out]; omega) (by rw [HN.out]; omega)
    rw [Hid, List.nil_append]
    simpa using this
  have HTn : Hid (∀ K, K < (frameB l).length → fGet ((frameB l).take K ++ List.replicate z 0) 0 = ([], 0, if K = 0 then 0 else 2)) := fun K hK => fGet_torn (by rw [HN.out]; omega) (by rw [HN.out]; omega) K z hK
  have hcl := codeNum_len (l.length : Int)
  obtain ⟨F, hF⟩ : ∃ F, frameB l = F := ⟨_, rfl⟩
  rw [hF] at hl HG HTn
  obtain ⟨N, hN⟩ : ∃ N, F.length = N := ⟨_, rfl⟩
  rw [hN] at hl HG HTn
  have HL := hid hN
  have HF := hid hF
  have hNb : 6 ≤ N ∧ N ≤ 300 := by rw [HN.out] at hl hcl; omega
  clear hl hF hN hcl
  refine (frPut_any a l n ca w1 HN.out (by unfold maxLen; omega) hcap HNil.out (by exact S1.old hA)).mono ?_
  rintro e w3 ⟨a3, c3, rfl, ho3, hb3⟩
  rw [HF.out, HL.out] at ho3
  rw [HF.out, HL.out]
  have S3 := (S1.bytes ho3 hb3).nil
  clear ho3 hb3
  go_wp2_with (at_builtin; first
    | (refine wpList_app (by rfl) (.tmp 38) (.tmp 39) 30 30 30 rfl rfl _ _ rfl rfl (S3.app 1 rfl a3 F N c3 HL.out (by exact S3.at 0 rfl) N (by simp) (by omega)) ?_; rintro v4 w4 ⟨⟨a4, c4, rfl⟩, S4⟩)
    | (refine wpList_app (by rfl) (.tmp 41) (.tmp 42) 30 30 30 rfl rfl _ _ rfl rfl (S4.app 1 rfl b m j cb HJ.out (by exact S4.old hB) (N + j) (by rw [List.nil_append, HL.out]) (by omega)) ?_; rintro v5 w5 ⟨⟨a5, c5, rfl⟩, S5⟩))
  have S5' : St w w5 [bytesT (.slice a3 N c3) F, bytesT (.slice a5 (N + j) c5) (([] ++ F) ++ m)] := S5
  have h5 := S5'.slA 1 rfl
  have H51 := hid h5.1
  have h52 := h5.2.1
  clear h5
  refine (frGet_any a5 (([] ++ F) ++ m) (N + j) c5 0 w5 H51.out (by omega) h52 (by exact S5'.at 1 rfl)).mono ?_
  rintro e w6 ⟨⟨a6, c6, rfl, ho6⟩, hb6⟩
  rw [HG.out] at ho6 ⊢
  simp only [] at ho6
  simp only []
  rw [HN.out] at ho6 ⊢
  have S6 := S5'.bytes ho6 hb6
  clear ho6 hb6
  go_wp2_with fail
  refine (hcmp S6 true _ _ l l n n _ _ (by simp) HN.out HN.out (by unfold maxLen; omega) (by unfold maxLen; omega) (by exact S6.old hA) (by exact S6.at 2 rfl)).mono ?_
  rintro e w7 ⟨rfl, S7, -⟩
  have hK : kq % N < N := Nat.mod_lt _ (by omega)
  have eK : ((kq : Int) % (N : Int)) = ((kq % N : Nat) : Int) := by omega
  have EK := hid eK
  obtain ⟨K, hKK⟩ : ∃ K, kq % N = K := ⟨_, rfl⟩
  rw [hKK] at hK EK
  have HTK := hid (HTn.out K hK)
  have hNz : ((N : Int) == 0) = false := by simp; omega
  clear hKK
  rw [show kq % N = K from by have := EK.out; omega] at eK
  go_wp2_with (at_make; refine wpList_make (by rfl) (.tmp 72) (.tmp 72) 30 rfl _ _ rfl rfl (run_makeI _ (K + z) ((K : Int) + (z : Int)) (by omega) (by omega)) ?_; rintro v8 w8 ⟨rfl, ho8, hb8⟩)
  have S8 := S7.newBytes ho8 hb8
  have S9 : St w w8 [bytesT (.slice a3 N c3) F, bytesT (.slice (some ⟨w7.heap.size, 0, none⟩) (K + z) (K + z)) (F.take 0 ++ List.replicate (K + z - 0) 0)] := ((S8.front 3 rfl).swap).take 2
  clear ho8 hb8 eK hNz
  generalize w7.heap.size = g at *
  go_loopw [16] (fun q wr => ∃ i : Nat, i ≤ K ∧ q = .int .i64 i ∧ St w wr [bytesT (.slice a3 N c3) F, bytesT (.slice (some ⟨g, 0, none⟩) (K + z) (K + z)) (F.take i ++ List.replicate (K + z - i) 0)]) (fun q _ => K - (intOf q).toNat)
  case atStart => exact ⟨0, Nat.zero_le _, rfl, S9⟩
  case round =>
    obtain ⟨i, hi, rfl, Sk⟩ := hrel
    by_cases hlt : i < K
    · have hiF : i < F.length := by rw [HL.out]; omega
      have hF := Sk.at 0 rfl
      have i1 := fun wx => idx_at a3 N c3 (fun h => hF.ok (by omega)) i i rfl (by omega) wx
      have x1 := hF.cell hiF
      have i2 := fun wx => idx_own g (K + z) (K + z) i (i : Int) rfl (by omega) wx
      have hown := Sk.ownAt 1 rfl
      have hlen := (Sk.slA 1 rfl).1
      have x2 := hown.cellAt hlen i (by rw [hlen]; omega)
      have f2 := hown.frz hlen i
      have S5 := Sk.setByte 1 rfl (k := i) F[i]
      have HT := hid (torn_set (T := K + z) hiF (by omega))
      rw [bv_def] at x2 S5
      clear hown hF
      generalize (F.take i ++ List.replicate (K + z - i) 0)[i] = old at *
      clear hlen
      generalize F[i] = x at *
      go_wp2
      go_roundw
      case rel => exact ⟨i + 1, by omega, by go_num, St.conv S5 (by rw [← HT.out]; rfl)⟩
      case measure => simp [intOf]; omega
    · have ei : i = K := by omega
      have HE : Hid (F.take i ++ List.replicate (K + z - i) 0 = F.take K ++ List.replicate z 0) := by rw [Hid, ei, Nat.add_sub_cancel_left]
      rw [HE.out] at Sk
      have hlen := (Sk.slA 1 rfl).1
      have HLen := hid hlen
      clear ei hlen
      go_wp2_with fail
      refine (frGet_any _ _ (K + z) (K + z) 0 wr HLen.out (by omega) (Nat.le_refl _) (by exact Sk.at 1 rfl)).mono ?_
      rintro e w9 ⟨⟨a9, c9, rfl, ho9⟩, hb9⟩
      rw [HTK.out] at ho9 ⊢
      have S10 := Sk.grow hb9
      clear ho9 hb9
      by_cases k0 : K = 0
      · subst k0
        rw [if_pos rfl]
        go_wp2
        go_ret
        exact ⟨rfl, S10.fin⟩
      · have g9 : ((K : Int) == 0) = false := by simp; omega
        rw [if_neg k0]
        go_wp2
        go_ret
        exact ⟨rfl, S10.fin⟩

end Go.Proofs.Ytbdclgopdildmaa
