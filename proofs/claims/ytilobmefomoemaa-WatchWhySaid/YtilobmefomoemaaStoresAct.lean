/- Two stores behind acts: dunnagelaw19.Stores. -/
import Derived.Test.YtilobmefomoemaaStoreLaw6
namespace Go.Proofs.Ytilobmefomoemaa
set_option linter.unusedVariables false
set_option linter.unusedSimpArgs false
open Go.RowKit
theorem qCommit_w (q : QS) (j e : Int) : (qCommit q j e).2.writes = q.writes := (q_len q 0 j e []).2.2.2.1
def StsPost (w0 : World) (tl : List Thing) (e : Ending) (w' : World) : Prop :=
  ∃ (g h : Nat) (s : SS) (q : QS) (ok : Bool), e = .returned (.tuple #[.pointer (some ⟨g, 0, none⟩), .pointer (some ⟨h, 0, none⟩), .bool ok]) ∧ RelS s q ∧ q.L.length ≤ 60 ∧ St w0 w' (rstT h q :: storeT g s :: tl)
set_option maxRecDepth 10000 in
set_option maxHeartbeats 6400000 in
theorem stores_any {w0 w : World} {tl : List Thing} (S0 : St w0 w tl) (room : Int) (a : Option Addr) (L : List TAct) (n cap : Nat) (hn : L.length = n) (hm : n ≤ maxLen) (hA : AtG eTA w0 a L) (hok : ∀ x ∈ L, x.Ok w0) :
    Calls Try.prog 14 #[.int .i64 room, .slice a n cap] w (StsPost w0 tl) := by
  have HN := hid hn
  have HA := hid hA
  have HOk := hid hok
  have HM := hid hm
  clear hn hA hok hm
  go_enter Try.func14, Try.ntmps14
  go_wp2_with fail
  refine (stNew_any S0 room).mono ?_
  rintro e w4 ⟨rfl, S4⟩
  obtain ⟨gs, hgs⟩ : ∃ gs, w.heap.size = gs := ⟨_, rfl⟩
  rw [hgs] at S4 ⊢
  have S4' : St w0 w4 (storeT gs (SS.new room) :: tl) := S4.rot
  clear S4 hgs S0
  go_wp2_with fail
  refine (rqNew_any S4' room).mono ?_
  rintro e w5 ⟨rfl, S5⟩
  obtain ⟨gh, hgh⟩ : ∃ gh, w4.heap.size = gh := ⟨_, rfl⟩
  rw [hgh] at S5 ⊢
  have S5' : St w0 w5 (rstT gh _ :: storeT gs (SS.new room) :: tl) := S5
  have HR0 := hid (RelS.new room)
  clear S4' hgh S5
  by_cases h60 : 60 < n
  · have g0 : decide (60 < (n : Int)) = true := decide_eq_true (by omega)
    have g0n : decide (60 < n) = true := decide_eq_true (by omega)
    go_wp2
    go_ret3
    exact ⟨gs, gh, _, _, false, rfl, HR0.out, Nat.zero_le _, S5'⟩
  have g0 : decide (60 < (n : Int)) = false := decide_eq_false (by omega)
  have g0n : decide (60 < n) = false := decide_eq_false (by omega)
  go_wp2_with fail
  go_loopw [9] (fun i wr => ∃ (k : Nat) (s : SS) (q : QS), k ≤ n ∧ i = .int .i64 k ∧ RelS s q ∧ q.L.length ≤ k ∧ q.writes ≤ k ∧ St w0 wr (rstT gh q :: storeT gs s :: tl)) (fun i _ => n - (intOf i).toNat)
  case atStart => exact ⟨0, _, _, Nat.zero_le _, rfl, HR0.out, Nat.le_refl _, Nat.le_refl _, S5'⟩
  case round =>
    obtain ⟨k, s, q, hk, rfl, hR, hL, hW, Sk⟩ := hrel
    clear S5' HR0
    have HR := hid hR
    have hsw : s.writes ≤ 1000000 := by rw [hR.writes]; omega
    clear hR
    by_cases hlt : k < n
    case neg =>
      have g1 : decide ((k : Int) < (n : Int)) = false := decide_eq_false (by omega)
      have g1n : decide (k < n) = false := decide_eq_false (by omega)
      clear hlt
      go_wp2
      go_ret3
      exact ⟨gs, gh, s, q, true, rfl, HR.out, by omega, Sk⟩
    have g1 : decide ((k : Int) < (n : Int)) = true := decide_eq_true (by omega)
    have g1n : decide (k < n) = true := decide_eq_true (by omega)
    have hkl : k < L.length := by rw [HN.out]; exact hlt
    have hAk : AtG eTA wr a L := HA.out.all eTAok Sk.fin
    have i0 := fun wx => idxTA a n cap (fun h => hAk.ok (by omega)) k hlt wx
    obtain ⟨y0, y1, y2, y3, y4⟩ := hAk.tAt hkl
    have HX := hid (HOk.out _ (List.getElem_mem hkl))
    generalize L[k] = x at *
    generalize adr a (k * 5) = A at *
    have S6 : St w0 (wr.alloc (.cells #[.int .i64 x.kind, .int .i64 x.term, .int .i64 x.job, .int .i64 x.ep, .slice x.a x.n x.c] 63)) (rstT gh q :: storeT gs s :: (tl ++ [cellsT wr.heap.size 63 x.cs])) := newAtG Sk _ _ _ rfl
    have HB : Hid (∀ w' q' s', St w0 w' (rstT gh q' :: storeT gs s' :: (tl ++ [cellsT wr.heap.size 63 x.cs])) → St w0 w' (cellsT wr.heap.size 63 x.cs :: rstT gh q' :: storeT gs s' :: tl)) := fun w' q' s' S' => St.rot (l := rstT gh q' :: storeT gs s' :: tl) S'
    by_cases h200 : 200 < x.n
    · have g2 : decide (200 < (x.n : Int)) = true := decide_eq_true (by omega)
      have g2n : decide (200 < x.n) = true := decide_eq_true (by omega)
      go_wp2
      go_ret3
      exact ⟨gs, gh, s, q, false, rfl, HR.out, by omega, (HB.out _ _ _ S6).tail⟩
    have g2 : decide (200 < (x.n : Int)) = false := decide_eq_false (by omega)
    have g2n : decide (200 < x.n) = false := decide_eq_false (by omega)
    obtain ⟨z0, z1, z2, z3, z4⟩ := (HB.out _ _ _ S6).tact 0 rfl
    have hql := q_len q x.term x.job x.ep x.b
    by_cases hk1 : x.kind = 1
    · have g3 : (x.kind == 1) = true := by simpa using hk1
      have R2 := HR.out.commit x.job x.ep
      obtain ⟨s2, hs2⟩ : ∃ s2, sCommit s x.job x.ep = s2 := ⟨_, rfl⟩
      obtain ⟨q2, hq2⟩ : ∃ q2, qCommit q x.job x.ep = q2 := ⟨_, rfl⟩
      rw [hs2, hq2] at R2
      rw [hq2] at hql
      have HS2 := hid hs2
      have HQ2 := hid hq2
      have HR2 := hid R2.2
      obtain ⟨-, -, l3, l4, -⟩ := hql
      clear hs2 hq2 R2 hk1
      go_wp2_with fail
      refine (stCommit_any S6 1 rfl x.job x.ep).mono ?_
      rintro e w3 ⟨rfl, S3⟩
      rw [HS2.out] at S3 ⊢
      replace S3 : St w0 w3 (rstT gh q :: storeT gs s2.2 :: (tl ++ [cellsT wr.heap.size 63 x.cs])) := S3
      clear y0 y1 y2 y3 y4 z0 z1 z2 z3 z4 S6 Sk i0 hAk
      obtain ⟨z0, z1, z2, z3, z4⟩ := (HB.out _ _ _ S3).tact 0 rfl
      go_wp2_with fail
      refine (rqCommit_any S3 (by omega) x.job x.ep).mono ?_
      rintro e w4 ⟨rfl, S4⟩
      rw [HQ2.out] at S4 ⊢
      go_wp2
      go_roundw
      case rel => exact ⟨k + 1, s2.2, q2.2, by omega, by go_num, HR2.out, by omega, by omega, (HB.out _ _ _ S4).tail⟩
      case measure => simp [intOf]; omega
    · have g3 : (x.kind == 1) = false := by simpa using hk1
      have R2 := HR.out.stage x.term x.job x.ep x.b
      obtain ⟨s2, hs2⟩ : ∃ s2, sStage s x.term x.job x.ep x.b = s2 := ⟨_, rfl⟩
      obtain ⟨q2, hq2⟩ : ∃ q2, qStage q x.term x.job x.ep x.b = q2 := ⟨_, rfl⟩
      rw [hs2, hq2] at R2
      rw [hq2] at hql
      have HS2 := hid hs2
      have HQ2 := hid hq2
      have HR2 := hid R2.2
      obtain ⟨l1, l2, -, -, -⟩ := hql
      clear hs2 hq2 R2 hk1
      go_wp2_with fail
      refine (stStage_any S6 1 rfl hsw x.term x.job x.ep x.a x.b x.n x.c HX.out.len (by omega) HX.out.nil (by exact S6.old HX.out.isAt)).mono ?_
      rintro e w3 ⟨rfl, S3⟩
      rw [HS2.out] at S3 ⊢
      replace S3 : St w0 w3 (rstT gh q :: storeT gs s2.2 :: (tl ++ [cellsT wr.heap.size 63 x.cs])) := S3
      clear y0 y1 y2 y3 y4 z0 z1 z2 z3 z4 S6 Sk i0 hAk
      obtain ⟨z0, z1, z2, z3, z4⟩ := (HB.out _ _ _ S3).tact 0 rfl
      go_wp2_with fail
      refine (rqStage_any S3 (by omega) (by omega) x.term x.job x.ep x.a x.b x.n x.c HX.out.len (by omega) HX.out.isAt).mono ?_
      rintro e w4 ⟨rfl, S4⟩
      rw [HQ2.out] at S4 ⊢
      go_wp2
      go_roundw
      case rel => exact ⟨k + 1, s2.2, q2.2, by omega, by go_num, HR2.out, by omega, by omega, (HB.out _ _ _ S4).tail⟩
      case measure => simp [intOf]; omega
end Go.Proofs.Ytilobmefomoemaa
