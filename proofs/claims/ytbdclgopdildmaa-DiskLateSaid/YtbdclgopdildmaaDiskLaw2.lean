/- DiskSplit and DiskLate. -/
import Derived.Test.YtbdclgopdildmaaDiskLaw
import Derived.Test.YtbdclgopdildmaaDiskPlain
namespace Go.Proofs.Ytbdclgopdildmaa
set_option linter.unusedVariables false
set_option linter.unusedSimpArgs false
open Go.RowKit

set_option maxRecDepth 10000 in
set_option maxHeartbeats 1600000 in
theorem diskSplit_law (size at_ keep : Int) (a b : Option Addr) (l m : List UInt8) (i j ca cb : Nat) (w : World) (hi : l.length = i) (hj : m.length = j) (hli : i ≤ maxLen) (hlj : j ≤ maxLen) (hna : a = none → ca = 0) (hnb : b = none → cb = 0)
    (hA : At w a l) (hB : At w b m) (hk0 : -9223372036854775808 ≤ keep) (hk1 : keep ≤ 9223372036854775807) :
    Calls Try.prog 5 #[.int .i64 size, .int .i64 at_, .slice a i ca, .slice b j cb, .int .i64 keep] w fun e w' => e = .returned (.bool true) ∧ Below w.heap.size w w' := by
  have HI := hid hi
  have HJ := hid hj
  unfold maxLen at hli hlj
  clear hi hj
  go_enter Try.func5, Try.ntmps5
  go_wp2_with fail
  refine (alive4_any _).mono ?_
  rintro e w1 ⟨rfl, hb1⟩
  have S1 := (St.start w).grow hb1
  clear hb1
  go_wp2_with fail
  all_goals (try (go_ret; exact ⟨rfl, S1.fin⟩))
  obtain ⟨n, rfl⟩ := Int.eq_ofNat_of_zero_le (show 0 ≤ size by omega)
  obtain ⟨p, rfl⟩ := Int.eq_ofNat_of_zero_le (show 0 ≤ at_ by omega)
  refine (hnew S1 n (by omega) (by omega)).mono ?_
  rintro e w2 ⟨x, rfl, S2, -⟩
  go_wp2_with fail
  refine (hnew S2 n (by omega) (by omega)).mono ?_
  rintro e w3 ⟨y, rfl, S3, -⟩
  have S3n := S3.nil
  have HIJ : Hid (([] ++ l ++ m).length = i + j) := by rw [Hid, List.nil_append, List.length_append, HI.out, HJ.out]
  go_wp2_with (at_builtin; first
    | (refine wpList_app (by rfl) (.tmp 44) (.tmp 45) 30 30 30 rfl rfl _ _ rfl rfl (S3n.app 2 rfl a l i ca HI.out (by exact S3.old hA) i (by simp) (by omega)) ?_; rintro v4 w4 ⟨⟨a4, c4, rfl⟩, S4⟩)
    | (refine wpList_app (by rfl) (.tmp 47) (.tmp 48) 30 30 30 rfl rfl _ _ rfl rfl (S4.app 2 rfl b m j cb HJ.out (by exact S4.old hB) (i + j) (by rw [List.nil_append, HI.out]) (by omega)) ?_; rintro v5 w5 ⟨⟨a5, c5, rfl⟩, S5⟩))
  by_cases hc : (DSt.new n).can p (i + j : Nat) = 0
  case neg =>
    refine (hwrite S5 0 rfl p _ _ (i + j) c5 _ rfl HIJ.out (by omega) (by simp [DSt.new]) (by exact (S5.slA 2 rfl).2.2.2.1) (by exact S5.at 2 rfl)).mono ?_
    rintro e w6 ⟨rfl, S6⟩
    have hc' : ((DSt.new n).can p (i + j : Nat) != 0) = true := by simpa using hc
    go_wp2
    go_ret
    exact ⟨rfl, S6.fin⟩
  refine (hwrite S5 0 rfl p _ _ (i + j) c5 0 hc HIJ.out (by omega) (by simp [DSt.new]) (by exact (S5.slA 2 rfl).2.2.2.1) (by exact S5.at 2 rfl)).mono ?_
  rintro e w6 ⟨rfl, S6⟩
  have hcw := hc
  obtain ⟨k1, k2⟩ : p + (i + j) ≤ n ∧ p + i ≤ n := by
    unfold DSt.can DSt.new at hcw
    rw [if_neg (by omega), List.length_replicate] at hcw
    split at hcw
    · cases hcw
    · omega
  clear hcw
  have c1 : (DSt.new n).can p i = 0 := by
    unfold DSt.can DSt.new
    rw [if_neg (by omega), List.length_replicate, if_neg (by omega)]
  have c2 : ((DSt.new n).write p l).can (p + i) j = 0 := by
    have e : ((DSt.new n).write p l).lasts.length = n := by unfold DSt.write; split <;> simp [DSt.new]
    unfold DSt.can
    rw [if_neg (by omega), e, if_neg (by omega)]
  have C1 := hid c1
  have C2 := hid c2
  have HC := hid hc
  clear c1 c2 hc
  go_wp2_with fail
  refine (hwrite S6 1 rfl p a l i ca 0 C1.out HI.out (by omega) (by simp [DSt.new]) hna (by exact S6.old hA)).mono ?_
  rintro e w7 ⟨rfl, S7⟩
  have E1 : (DSt.new n).write p ([] ++ l ++ m) = ⟨List.replicate n 0, [(p, l ++ m)], 0⟩ := by
    unfold DSt.write; rw [HIJ.out, if_pos HC.out]; rfl
  have E2 : (DSt.new n).write p l = ⟨List.replicate n 0, [(p, l)], 0⟩ := by
    unfold DSt.write; rw [HI.out, if_pos C1.out]; rfl
  rw [E2] at S7 C2
  rw [E1] at S7
  have E3 : (⟨List.replicate n 0, [(p, l)], 0⟩ : DSt).write (p + i) m = ⟨List.replicate n 0, [(p, l), (p + i, m)], 0⟩ := by
    unfold DSt.write; rw [HJ.out, if_pos C2.out]; rfl
  have HF : Hid (p + (l.length + m.length) ≤ (List.replicate n (0 : UInt8)).length) := by rw [Hid, List.length_replicate, HI.out, HJ.out]; exact k1
  have E4 := hid (split_bytes HF.out)
  have E5 := hid (split_done keep HF.out)
  have E3' := hid E3
  clear E1 E2 E3
  go_wp2_with fail
  refine (hwrite S7 1 rfl (p + i) b m j cb 0 C2.out HJ.out (by omega) (by simp) hnb (by exact S7.old hB)).mono ?_
  rintro e w8 ⟨rfl, S8⟩
  rw [E3'.out] at S8
  have S9 : St w w8 [diskT x ⟨List.replicate n 0, [(p, l ++ m)], 0⟩, diskT y ⟨List.replicate n 0, [(p, l), (p + i, m)], 0⟩] := S8.take 2
  rw [HI.out] at E4 E5
  go_wp2_with fail
  refine (hbytes S9 0 rfl (by simp) _ rfl).mono ?_
  rintro e w10 ⟨a10, c10, rfl, S10, -⟩
  go_wp2_with fail
  refine (hbytes S10 1 rfl (by simp) _ rfl).mono ?_
  rintro e w11 ⟨a11, c11, rfl, S11, -⟩
  have L10 := S10.disk 0 rfl
  have L11 := S10.disk 1 rfl
  have e10 := L10.2.2.2
  have e11 := L11.2.2.2
  simp only [List.length_replicate] at e10 e11
  have E10 := hid e10
  have E11 := hid e11
  clear L10 L11 e10 e11
  go_wp2_with fail
  refine (hcmp S11 true _ _ _ _ _ _ _ _ (by rw [beq_iff_eq]; exact E4.out) rfl rfl (by rw [E10.out]; unfold maxLen; omega) (by rw [E11.out]; unfold maxLen; omega) (by exact S11.at 2 rfl) (by exact S11.at 3 rfl)).mono ?_
  rintro e w12 ⟨rfl, S12, -⟩
  go_wp2_with fail
  refine (hcrash S12 0 rfl keep hk0 hk1 (by simp)).mono ?_
  rintro e w13 ⟨rfl, S13⟩
  go_wp2_with fail
  refine (hcrash S13 1 rfl keep hk0 hk1 (by simp)).mono ?_
  rintro e w14 ⟨rfl, S14⟩
  go_wp2_with fail
  refine (hbytes S14 0 rfl (by simp [DSt.crash]) _ rfl).mono ?_
  rintro e w15 ⟨a15, c15, rfl, S15, -⟩
  go_wp2_with fail
  refine (hbytes S15 1 rfl (by simp [DSt.crash]) _ rfl).mono ?_
  rintro e w16 ⟨a16, c16, rfl, S16, -⟩
  have L10 := S16.disk 0 rfl
  have L11 := S16.disk 1 rfl
  have E20 := hid (by rw [L10.2.2.2]; unfold maxLen; omega : (DSt.crash ⟨List.replicate n 0, [(p, l ++ m)], 0⟩ keep).bytes.length ≤ maxLen)
  have E21 := hid (by rw [L11.2.2.2]; unfold maxLen; omega : (DSt.crash ⟨List.replicate n 0, [(p, l), (p + i, m)], 0⟩ keep).bytes.length ≤ maxLen)
  clear L10 L11
  go_wp2_with fail
  refine (hcmp S16 true _ _ _ _ _ _ _ _ (by rw [beq_iff_eq]; simp only [DSt.bytes, DSt.crash]; rw [E5.out]) rfl rfl E20.out E21.out (by exact S16.at 4 rfl) (by exact S16.at 5 rfl)).mono ?_
  rintro e w17 ⟨rfl, S17, -⟩
  go_wp2
  go_ret
  exact ⟨rfl, S17.fin⟩

set_option maxRecDepth 10000 in
set_option maxHeartbeats 1600000 in
theorem diskLate_law (size at_ fr : Int) (a b : Option Addr) (l m : List UInt8) (i j ca cb : Nat) (w : World) (hi : l.length = i) (hj : m.length = j) (hna : a = none → ca = 0) (hnb : b = none → cb = 0) (hli : i ≤ maxLen) (hlj : j ≤ maxLen)
    (hA : At w a l) (hB : At w b m) :
    Calls Try.prog 6 #[.int .i64 size, .int .i64 at_, .int .i64 fr, .slice a i ca, .slice b j cb] w fun e w' => e = .returned (.bool true) ∧ Below w.heap.size w w' := by
  have HI := hid hi
  have HJ := hid hj
  unfold maxLen at hli hlj
  clear hi hj
  go_enter Try.func6, Try.ntmps6
  go_wp2_with fail
  refine (alive4_any _).mono ?_
  rintro e w1 ⟨rfl, hb1⟩
  have S1 := (St.start w).grow hb1
  clear hb1
  go_wp2_with fail
  all_goals (try (go_ret; exact ⟨rfl, S1.fin⟩))
  obtain ⟨n, rfl⟩ := Int.eq_ofNat_of_zero_le (show 0 ≤ size by omega)
  obtain ⟨c1, hc1⟩ : ∃ c, (DSt.new n).can at_ i = c := ⟨_, rfl⟩
  obtain ⟨c2, hc2⟩ : ∃ c, (DSt.new n).can fr j = c := ⟨_, rfl⟩
  have C1 := hid hc1
  have C2 := hid hc2
  clear hc1 hc2
  refine (hnew S1 n (by omega) (by omega)).mono ?_
  rintro e w2 ⟨x, rfl, S2, -⟩
  go_wp2_with fail
  refine (hnew S2 n (by omega) (by omega)).mono ?_
  rintro e w3 ⟨y, rfl, S3, -⟩
  go_wp2_with fail
  refine (hwrite S3 0 rfl at_ a l i ca c1 C1.out HI.out (by omega) (by simp [DSt.new]) hna (by exact S3.old hA)).mono ?_
  rintro e w4 ⟨rfl, S4⟩
  go_wp2_with fail
  refine (hwrite S4 0 rfl fr b m j cb c2 (by rw [DSt.can_write]; exact C2.out) HJ.out (by omega) (Nat.le_trans (DSt.write_waits _ _ _) (by simp [DSt.new])) hnb (by exact S4.old hB)).mono ?_
  rintro e w5 ⟨rfl, S5⟩
  go_wp2_with fail
  refine (hwrite S5 1 rfl at_ a l i ca c1 C1.out HI.out (by omega) (by simp [DSt.new]) hna (by exact S5.old hA)).mono ?_
  rintro e w6 ⟨rfl, S6⟩
  go_wp2_with fail
  refine (hsync S6 1 rfl (Nat.le_trans (DSt.write_waits _ _ _) (by simp [DSt.new])) (by rw [DSt.write_syncs]; simp [DSt.new])).mono ?_
  rintro e w7 ⟨rfl, S7⟩
  have CY : Hid (((DSt.new n).write at_ l).sync.can fr j = c2) := by
    have e : ((DSt.new n).write at_ l).sync.lasts.length = (DSt.new n).lasts.length := by
      have := (S7.disk 1 rfl).2.2.2
      rw [← this, DSt.sync_bytes, (S6.disk 1 rfl).2.2.2, DSt.write_lasts]
    have : ((DSt.new n).write at_ l).sync.can fr j = (DSt.new n).can fr j := by unfold DSt.can; rw [e]
    rw [Hid, this]; exact C2.out
  go_wp2_with fail
  refine (hwrite S7 1 rfl fr b m j cb c2 CY.out HJ.out (by omega) (by simp [DSt.sync, DSt.crash]) hnb (by exact S7.old hB)).mono ?_
  rintro e w8 ⟨rfl, S8⟩
  have S9 : St w w8 [diskT x (((DSt.new n).write at_ l).write fr m), diskT y (((DSt.new n).write at_ l).sync.write fr m)] := S8.take 2
  have EB : Hid ((((DSt.new n).write at_ l).sync.write fr m).bytes = (((DSt.new n).write at_ l).write fr m).bytes) := by
    rw [Hid, DSt.write_bytes, DSt.write_bytes, DSt.sync_bytes, DSt.can_write, HJ.out, CY.out, C2.out]
  have EL : Hid ((((DSt.new n).write at_ l).write fr m).bytes.length = n) := by
    rw [Hid, (S9.disk 0 rfl).2.2.2, DSt.write_lasts, DSt.write_lasts]; simp [DSt.new]
  have EV : Hid (c2 = 0 → 0 ≤ fr ∧ fr.toNat + j ≤ n ∧ ((((DSt.new n).write at_ l).write fr m).bytes.drop fr.toNat).take j = m) := by
    intro h0
    have h1 := C2.out.trans h0
    have h2 := DSt.can_zero h1
    have h3 : (DSt.new n).lasts.length = n := by simp [DSt.new]
    rw [h3] at h2
    refine ⟨h2.1, h2.2, ?_⟩
    have e1 : ((DSt.new n).write at_ l).can fr m.length = 0 := by rw [DSt.can_write, HJ.out]; exact h1
    have e2 : ((DSt.new n).write at_ l).bytes.length = n := by rw [(S4.disk 0 rfl).2.2.2, DSt.write_lasts]; simp [DSt.new]
    rw [DSt.write_bytes, if_pos e1, ← HJ.out]
    exact splice_read (by rw [e2, HJ.out]; exact h2.2)
  have hw1 : (((DSt.new n).write at_ l).write fr m).waits.length ≤ 1000000 := by
    have h1 := DSt.write_waits ((DSt.new n).write at_ l) fr m
    have h2 := DSt.write_waits (DSt.new n) at_ l
    have h3 : (DSt.new n).waits.length = 0 := rfl
    omega
  have hw2 : (((DSt.new n).write at_ l).sync.write fr m).waits.length ≤ 1000000 := Nat.le_trans (DSt.write_waits _ _ _) (by simp [DSt.sync, DSt.crash])
  clear C1 C2 CY
  generalize ((DSt.new n).write at_ l).write fr m = d1 at *
  generalize ((DSt.new n).write at_ l).sync.write fr m = d2 at *
  go_wp2_with fail
  refine (hbytes S9 0 rfl hw1 n EL.out).mono ?_
  rintro e w10 ⟨a10, c10, rfl, S10, -⟩
  go_wp2_with fail
  refine (hbytes S10 1 rfl hw2 n (by rw [EB.out]; exact EL.out)).mono ?_
  rintro e w11 ⟨a11, c11, rfl, S11, -⟩
  go_wp2_with fail
  refine (hcmp S11 true _ _ d1.bytes d2.bytes _ _ _ _ (by rw [beq_iff_eq]; exact EB.out.symm) EL.out (by rw [EB.out]; exact EL.out) (by unfold maxLen; omega) (by unfold maxLen; omega) (by exact S11.at 2 rfl) (by exact S11.at 3 rfl)).mono ?_
  rintro e w12 ⟨rfl, S12, -⟩
  by_cases h0 : c2 = 0
  case neg =>
    have h0' : (c2 != 0) = true := by simpa using h0
    go_wp2
    go_ret
    exact ⟨rfl, S12.fin⟩
  subst h0
  obtain ⟨hf0, hf1, hf2⟩ := EV.out rfl
  obtain ⟨f, rfl⟩ := Int.eq_ofNat_of_zero_le hf0
  rw [Int.toNat_natCast] at hf1 hf2
  have HF2 := hid hf2
  clear hf2
  go_wp2_with fail
  refine (hbytes S12 0 rfl hw1 n EL.out).mono ?_
  rintro e w13 ⟨a13, c13, rfl, S13, -⟩
  have hc13 := (S13.slA 4 rfl).2.1
  have icut := cut_lhI a13 n c13 f (f + j) f (f + j : Nat) rfl rfl (by omega) (by omega)
  have icut' := cut_lhI a13 n c13 f (f + j) f ((f : Int) + j) rfl (by omega) (by omega) (by omega)
  have hfj : f + j - f = j := by omega
  go_wp2_with fail
  refine (hcmp S13 true _ _ ((d1.bytes.drop f).take j) m j j _ _ (by rw [beq_iff_eq]; exact HF2.out) (by rw [HF2.out]; exact HJ.out) HJ.out (by unfold maxLen; omega) (by unfold maxLen; omega) (by exact (S13.at 4 rfl).cut f j c13 (by omega)) (by exact S13.old hB)).mono ?_
  rintro e w14 ⟨rfl, S14, -⟩
  go_wp2
  go_ret
  exact ⟨rfl, S14.fin⟩

end Go.Proofs.Ytbdclgopdildmaa
