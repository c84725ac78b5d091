/- Wish: the document's orders of all nodes; WishOrders. -/
import Derived.Test.YtilobmefomoemaaDoorWishRef2
import Derived.Test.YtilobmefomoemaaDoorStoresAct
import Derived.Test.YtilobmefomoemaaDoorNetRef4
namespace Go.Proofs.YtilobmefomoemaaDoor
set_option linter.unusedVariables false
set_option linter.unusedSimpArgs false
open Go.RowKit
section
variable {w0 w : World} {tl : List Thing} {h : Nat} {q : QS}
set_option maxRecDepth 10000 in
set_option maxHeartbeats 6400000 in
theorem rAll_any (S : St w0 w (rstT h q :: tl)) (hq : q.L.length ≤ 100000) {c : CF} (s : STA) (hs : s.At w) (F : RF c s) {t : SS} (R : RelS t q) :
    Calls Tryd.prog 25 #[.agg #[.slice s.na s.nn s.nc, .slice s.ja s.jn s.jc, .int .i64 s.goal, .int .i64 s.prior, .int .i64 s.mode, .int .i64 s.term], .pointer (some ⟨h, 0, none⟩)] w fun e w' => ∃ a c, e = .returned (.slice a (wAllL s (some t) s.nn).length c) ∧ OwnG eM w' w.heap.size (.slice a (wAllL s (some t) s.nn).length c) (wAllL s (some t) s.nn) ∧ Below w.heap.size w w' := by
  have HS := hid hs
  have HF := hid F
  have HR := hid R
  have hN6 : s.nn ≤ 6 := by have := F.conf.nodes; have := F.nn; omega
  have S0 : St w (w.alloc (.cells #[.slice s.na s.nn s.nc, .slice s.ja s.jn s.jc, .int .i64 s.goal, .int .i64 s.prior, .int .i64 s.mode, .int .i64 s.term] 33)) [ownT eM (.slice none 0 0) [], cellsT w.heap.size 33 s.cs] := (((St.start w).newCells 33 #[.slice s.na s.nn s.nc, .slice s.ja s.jn s.jc, .int .i64 s.goal, .int .i64 s.prior, .int .i64 s.mode, .int .i64 s.term]).nilG eM).rot
  clear hs F R
  go_enter Tryd.func25, Tryd.ntmps25
  go_wp2_with fail
  generalize w.alloc _ = w1 at *
  obtain ⟨g, hg⟩ : ∃ g, w.heap.size = g := ⟨_, rfl⟩
  rw [hg] at S0 ⊢
  go_loopw [5, 6] (fun v i wr => ∃ (k : Nat) (a1 : Option Addr) (c1 : Nat), k ≤ s.nn ∧ v = .slice a1 (wAllL s (some t) k).length c1 ∧ i = .int .i64 k ∧ St w wr [ownT eM (.slice a1 (wAllL s (some t) k).length c1) (wAllL s (some t) k), cellsT g 33 s.cs]) (fun _ i _ => s.nn - (intOf i).toNat)
  case atStart => exact ⟨0, none, 0, Nat.zero_le _, rfl, rfl, S0⟩
  case round =>
    obtain ⟨k1, a1, c1, hk1, rfl, rfl, Sk⟩ := hrel
    clear S0
    obtain ⟨x0, x1, x2, x3, x4, x5⟩ := Sk.stC 1 rfl
    by_cases hlt : k1 < s.nn
    case neg =>
      have g0 : decide ((k1 : Int) < (s.nn : Int)) = false := decide_eq_false (by omega)
      have g0n : decide (k1 < s.nn) = false := decide_eq_false (by omega)
      have e : Hid (k1 = s.nn) := by rw [Hid]; omega
      clear hlt hk1
      go_wp2
      go_ret
      obtain ⟨F, ⟨ho, -⟩, -⟩ := Sk.step 0 rfl
      try rw [hg] at ho
      exact ⟨a1, c1, by rw [e.out]; rfl, by rw [← e.out, hg]; exact ho, by rw [hg]; have := Sk.fin; (try rw [hg] at this); exact this⟩
    have g0 : decide ((k1 : Int) < (s.nn : Int)) = true := decide_eq_true (by omega)
    have g0n : decide (k1 < s.nn) = true := decide_eq_true (by omega)
    have HSt := hid (wAllL_step s (some t) k1)
    have hml := wAllL_len s (some t) k1
    go_wp2_with fail
    refine (rOrder_any (S.grow Sk.fin) hq s (HS.out.all Sk.fin) HF.out HR.out k1).mono ?_
    rintro e w2 ⟨rfl, hb2⟩
    have S1 := Sk.grow hb2
    obtain ⟨O, hO⟩ : ∃ O, wOrder s (k1 : Int) (some t) = O := ⟨_, rfl⟩
    rw [hO] at HSt ⊢
    clear hO hb2 x0 x1 x2 x3 x4 x5
    rcases O with _ | m
    · rw [orderV_none]
      go_wp2
      go_roundw
      case rel => exact ⟨k1 + 1, a1, c1, by omega, by rw [HSt.out]; simp, by go_num, by rw [HSt.out]; simpa using S1.alloc _⟩
      case measure => simp [intOf]; omega
    · rw [orderV_some]
      have S2 := S1.alloc (.cells #[.int .i64 m.node, .int .i64 m.kind, .int .i64 m.term, .int .i64 m.gen, .int .i64 m.job, .int .i64 m.inc, .int .i64 m.version, .int .i64 m.epoch, .int .i64 m.until_, .int .i64 m.mode, .int .i64 m.work] 23)
      obtain ⟨N, hN1⟩ : ∃ N, (wAllL s (some t) k1).length + 1 = N := ⟨_, rfl⟩
      have HN1 := hid hN1
      go_wp2_with (at_builtin; refine wpList_app (by rfl) (.tmp 24) (.tmp 26) eM.T eM.T eM.T rfl rfl _ _ rfl rfl (S2.appG1 eMok (w2.heap.size + 1) (by show _ = (Array.push _ _).size; simp) 0 rfl m _ (by rfl) N HN1.out (by show _ * 88 ≤ _; omega) (by unfold maxLen; omega)) ?_; rintro v3 w3 ⟨⟨a3, c3, rfl⟩, S3⟩)
      go_roundw
      case rel => exact ⟨k1 + 1, a3, c3, by omega, by rw [HSt.out]; simp [HN1.out], by go_num, by rw [HSt.out]; simpa [HN1.out] using S3⟩
      case measure => simp [intOf]; omega
end
end Go.Proofs.YtilobmefomoemaaDoor
