/- Wish: all nodes' orders; the example. -/
import Derived.Test.YtilobmefomoemaaDoorWish2
import Derived.Test.YtilobmefomoemaaDoorStoreLaw6
namespace Go.Proofs.YtilobmefomoemaaDoor
set_option linter.unusedVariables false
set_option linter.unusedSimpArgs false
open Go.RowKit
def wAllL (s : STA) (o : Option SS) (k : Nat) : List Msg := (List.range k).filterMap fun i : Nat => wOrder s (i : Int) o
theorem wAllL_step (s : STA) (o : Option SS) (k : Nat) : wAllL s o (k + 1) = wAllL s o k ++ (wOrder s (k : Int) o).toList := by
  unfold wAllL
  rw [List.range_succ, List.filterMap_append]
  cases h : wOrder s (k : Int) o <;> simp [h]
theorem wAllL_len (s : STA) (o : Option SS) (k : Nat) : (wAllL s o k).length ≤ k := by
  unfold wAllL
  refine Nat.le_trans (List.length_filterMap_le _ _) ?_
  simp
theorem orderV_none : orderV none = .tuple #[.agg #[.int .i64 0, .int .i64 0, .int .i64 0, .int .i64 0, .int .i64 0, .int .i64 0, .int .i64 0, .int .i64 0, .int .i64 0, .int .i64 0, .int .i64 0], .bool false] := rfl
theorem orderV_some (m : Msg) : orderV (some m) = .tuple #[.agg #[.int .i64 m.node, .int .i64 m.kind, .int .i64 m.term, .int .i64 m.gen, .int .i64 m.job, .int .i64 m.inc, .int .i64 m.version, .int .i64 m.epoch, .int .i64 m.until_, .int .i64 m.mode, .int .i64 m.work], .bool true] := rfl
theorem St.stC {w0 w : World} {l : List Thing} (S : St w0 w l) (k : Nat) {g : Nat} {s : STA} (h : l[k]? = some (cellsT g 33 s.cs)) :
    w.cell? ⟨g, 0, none⟩ = some (.slice s.na s.nn s.nc) ∧ w.cell? ⟨g, 1, none⟩ = some (.slice s.ja s.jn s.jc) ∧ w.cell? ⟨g, 2, none⟩ = some (.int .i64 s.goal) ∧ w.cell? ⟨g, 3, none⟩ = some (.int .i64 s.prior) ∧ w.cell? ⟨g, 4, none⟩ = some (.int .i64 s.mode) ∧ w.cell? ⟨g, 5, none⟩ = some (.int .i64 s.term) :=
  ⟨S.cell k h 0 rfl, S.cell k h 1 rfl, S.cell k h 2 rfl, S.cell k h 3 rfl, S.cell k h 4 rfl, S.cell k h 5 rfl⟩
section
variable {w0 w : World} {r : List Thing} {k : Nat} {sv : Value} {o : Option SS}
set_option maxRecDepth 10000 in
set_option maxHeartbeats 6400000 in
theorem wAll_any (S : St w0 w r) (hk : r[k]? = some (soT sv o)) (s : STA) (hs : s.At w) (hT : TabOk w) (hO : OrdOk s) (hN : s.nn ≤ 1000000) :
    Calls Tryd.prog 20 #[.agg #[.slice s.na s.nn s.nc, .slice s.ja s.jn s.jc, .int .i64 s.goal, .int .i64 s.prior, .int .i64 s.mode, .int .i64 s.term], sv] w fun e w' => ∃ a c, e = .returned (.slice a (wAllL s o s.nn).length c) ∧ OwnG eM w' w.heap.size (.slice a (wAllL s o s.nn).length c) (wAllL s o s.nn) ∧ Below w.heap.size w w' := by
  have HS := hid hs
  have HT := hid hT
  have HK := hid hk
  have HO := hid hO
  have S0 : St w (w.alloc (.cells #[.slice s.na s.nn s.nc, .slice s.ja s.jn s.jc, .int .i64 s.goal, .int .i64 s.prior, .int .i64 s.mode, .int .i64 s.term] 33)) [ownT eM (.slice none 0 0) [], cellsT w.heap.size 33 s.cs] := (((St.start w).newCells 33 #[.slice s.na s.nn s.nc, .slice s.ja s.jn s.jc, .int .i64 s.goal, .int .i64 s.prior, .int .i64 s.mode, .int .i64 s.term]).nilG eM).rot
  clear hs hT hk hO
  go_enter Tryd.func20, Tryd.ntmps20
  go_wp2_with fail
  generalize w.alloc _ = w1 at *
  obtain ⟨g, hg⟩ : ∃ g, w.heap.size = g := ⟨_, rfl⟩
  rw [hg] at S0 ⊢
  go_loopw [5, 12] (fun v i wr => ∃ (k : Nat) (a1 : Option Addr) (c1 : Nat), k ≤ s.nn ∧ v = .slice a1 (wAllL s o k).length c1 ∧ i = .int .i64 k ∧ St w wr [ownT eM (.slice a1 (wAllL s o k).length c1) (wAllL s o k), cellsT g 33 s.cs]) (fun _ i _ => s.nn - (intOf i).toNat)
  case atStart => exact ⟨0, none, 0, Nat.zero_le _, rfl, rfl, S0⟩
  case round =>
    obtain ⟨k1, a1, c1, hk1, rfl, rfl, Sk⟩ := hrel
    clear S0
    by_cases hlt : k1 < s.nn
    case neg =>
      have g0 : decide ((k1 : Int) < (s.nn : Int)) = false := decide_eq_false (by omega)
      have g0n : decide (k1 < s.nn) = false := decide_eq_false (by omega)
      have e : Hid (k1 = s.nn) := by rw [Hid]; omega
      clear hlt hk1
      go_wp2
      go_ret
      obtain ⟨F, ⟨ho, -⟩, -⟩ := Sk.step 0 rfl
      try rw [hg] at ho
      exact ⟨a1, c1, by rw [e.out]; rfl, by rw [← e.out, hg]; exact ho, by rw [hg]; have := Sk.fin; (try rw [hg] at this); exact this⟩
    have g0 : decide ((k1 : Int) < (s.nn : Int)) = true := decide_eq_true (by omega)
    have g0n : decide (k1 < s.nn) = true := decide_eq_true (by omega)
    obtain ⟨x0, x1, x2, x3, x4, x5⟩ := Sk.stC 1 rfl
    have HSt := hid (wAllL_step s o k1)
    have hml := wAllL_len s o k1
    go_wp2_with fail
    refine (wOrder_any (S.grow Sk.fin) HK.out s (HS.out.all Sk.fin) (HT.out.all Sk.fin) HO.out k1).mono ?_
    rintro e w2 ⟨rfl, hb2⟩
    have S1 := Sk.grow hb2
    obtain ⟨O, hO⟩ : ∃ O, wOrder s (k1 : Int) o = O := ⟨_, rfl⟩
    rw [hO] at HSt ⊢
    clear hO hb2 x0 x1 x2 x3 x4 x5
    rcases O with _ | m
    · rw [orderV_none]
      go_wp2
      go_roundw
      case rel => exact ⟨k1 + 1, a1, c1, by omega, by rw [HSt.out]; simp, by go_num, by rw [HSt.out]; simpa using S1.alloc _⟩
      case measure => simp [intOf]; omega
    · rw [orderV_some]
      have S2 := S1.alloc (.cells #[.int .i64 m.node, .int .i64 m.kind, .int .i64 m.term, .int .i64 m.gen, .int .i64 m.job, .int .i64 m.inc, .int .i64 m.version, .int .i64 m.epoch, .int .i64 m.until_, .int .i64 m.mode, .int .i64 m.work] 23)
      obtain ⟨N, hN1⟩ : ∃ N, (wAllL s o k1).length + 1 = N := ⟨_, rfl⟩
      have HN1 := hid hN1
      go_wp2_with (at_builtin; refine wpList_app (by rfl) (.tmp 23) (.tmp 25) eM.T eM.T eM.T rfl rfl _ _ rfl rfl (S2.appG1 eMok (w2.heap.size + 1) (by show _ = (Array.push _ _).size; simp) 0 rfl m _ (by rfl) N HN1.out (by show _ * 88 ≤ _; omega) (by unfold maxLen; omega)) ?_; rintro v3 w3 ⟨⟨a3, c3, rfl⟩, S3⟩)
      go_roundw
      case rel => exact ⟨k1 + 1, a3, c3, by omega, by rw [HSt.out]; simp [HN1.out], by go_num, by rw [HSt.out]; simpa [HN1.out] using S3⟩
      case measure => simp [intOf]; omega
end
end Go.Proofs.YtilobmefomoemaaDoor
