/- The document's store as one thing: its methods. -/
import Derived.Test.YtilobmefomoemaaStoreNil
namespace Go.Proofs.Ytilobmefomoemaa
set_option linter.unusedVariables false
set_option linter.unusedSimpArgs false
open Go.RowKit
section
variable {w0 w : World} {tl : List Thing} {h : Nat} {q : QS}
theorem ROk.len {r : RS} {D : List BS} (R : ROk r D q) : r.L.length = q.L.length := by rw [← R.q]; simp [RS.q]
theorem ROk.end_ {r : RS} {D : List BS} (R : ROk r D q) (j : Int) : ROk (rEnd r j) D (qEnd q j) := by
  refine ⟨?_, fun x hx => R.mem x (rwith_mem (rwith_mem hx)), fun x hx => R.small x (rwith_mem (rwith_mem hx))⟩
  rw [← R.q]
  show RS.q _ = _
  unfold rEnd RS.q qEnd
  simp only [rwith_pt]
theorem ROk.fence {r : RS} {D : List BS} (R : ROk r D q) (t : Int) : ROk { r with term := max r.term t } D (qFence q t) := by
  refine ⟨?_, R.mem, R.small⟩
  rw [← R.q]; rfl
theorem ROk.commit {r : RS} {D : List BS} (R : ROk r D q) (j e : Int) : (rCommit r j e).1 = (qCommit q j e).1 ∧ ROk (rCommit r j e).2 D (qCommit q j e).2 := by
  unfold rCommit qCommit
  have h1 : repoch r.L j true = pepoch q.L j true := by rw [repoch_pt, ← R.q]; rfl
  have h2 : q.L.find? (pm j false) = (r.L.find? (rm j false)).map RP.pt := by
    rw [← R.q]
    show (r.L.map RP.pt).find? _ = _
    rw [List.find?_map]; rfl
  rw [h1, h2]
  split
  · exact ⟨rfl, R⟩
  cases hx : r.L.find? (rm j false) with
  | none => exact ⟨rfl, R⟩
  | some x =>
    have hxL := List.mem_of_find?_eq_some hx
    simp only [Option.map_some]
    have e1 : x.pt.ep = x.ep := rfl
    rw [e1]
    split
    · exact ⟨rfl, R⟩
    · have R2 := R.end_ j
      refine ⟨rfl, ?_, fun y hy => ?_, fun y hy => ?_⟩
      · rw [← R2.q]; simp [RS.q, RP.pt]
      · rcases List.mem_append.1 hy with hy | hy
        · exact R2.mem y hy
        · rw [List.mem_singleton] at hy; subst hy; exact R.mem x hxL
      · rcases List.mem_append.1 hy with hy | hy
        · exact R2.small y hy
        · rw [List.mem_singleton] at hy; subst hy; exact R.small x hxL
theorem rqNew_any (S : St w0 w tl) (room : Int) :
    Calls Try.prog 24 #[.int .i64 room] w fun e w' => e = .returned (.pointer (some ⟨w.heap.size, 0, none⟩)) ∧ St w0 w' (rstT w.heap.size ⟨max 0 room, 0, [], 0⟩ :: tl) := by
  refine (rsNew_any S room).mono ?_
  rintro e w' ⟨rfl, S1⟩
  refine ⟨rfl, St.rstI (r := RS.new room) (aL := none) (cL := 0) (D := []) ⟨rfl, fun x hx => by simp [RS.new] at hx, fun x hx => by simp [RS.new] at hx⟩ ?_⟩
  have h1 := S1.poolNil
  exact (h1.front 2 rfl).front 2 rfl
theorem rqEnd_any (S : St w0 w (rstT h q :: tl)) (hm : q.L.length ≤ 100000) (j : Int) :
    Calls Try.prog 49 #[.pointer (some ⟨h, 0, none⟩), .int .i64 j] w fun e w' => e = .returned (.tuple #[]) ∧ St w0 w' (rstT h (qEnd q j) :: tl) := by
  obtain ⟨r, aL, cL, D, R, S1⟩ := S.rstO
  refine (rsEnd_any S1 (by rw [R.len]; omega) j).mono ?_
  rintro e w' ⟨a, c, rfl, S2⟩
  exact ⟨rfl, St.rstI (R.end_ j) S2⟩
theorem rqCommit_any (S : St w0 w (rstT h q :: tl)) (hm : q.L.length ≤ 100000) (j ep : Int) :
    Calls Try.prog 26 #[.pointer (some ⟨h, 0, none⟩), .int .i64 j, .int .i64 ep] w fun e w' => e = .returned (.int .i64 (qCommit q j ep).1) ∧ St w0 w' (rstT h (qCommit q j ep).2 :: tl) := by
  obtain ⟨r, aL, cL, D, R, S1⟩ := S.rstO
  have R2 := R.commit j ep
  refine (rsCommit_any S1 (by rw [R.len]; omega) j ep).mono ?_
  rintro e w' ⟨a, c, rfl, S2⟩
  exact ⟨by rw [R2.1], St.rstI R2.2 S2⟩
theorem rqEpoch_any (S : St w0 w (rstT h q :: tl)) (hm : q.L.length ≤ 100000) (j : Int) (c : Bool) :
    Calls Try.prog 47 #[.pointer (some ⟨h, 0, none⟩), .int .i64 j, .bool c] w fun e w' => e = .returned (.int .i64 (pepoch q.L j c)) ∧ w = w' := by
  obtain ⟨r, aL, cL, D, R, S1⟩ := S.rstO
  refine (rsEpoch_any S1 (by rw [R.len]; omega) j c).mono ?_
  rintro e w' ⟨rfl, rfl⟩
  refine ⟨?_, rfl⟩
  rw [repoch_pt, ← R.q]; rfl
theorem rqGet_any (S : St w0 w (rstT h q :: tl)) (hm : q.L.length ≤ 100000) (j ep : Int) :
    Calls Try.prog 43 #[.pointer (some ⟨h, 0, none⟩), .int .i64 j, .int .i64 ep] w fun e w' => ∃ a c, e = .returned (.tuple #[.slice a ((qGet q j ep).getD []).length c, .bool (qGet q j ep).isSome]) ∧ At w a ((qGet q j ep).getD []) ∧ ((qGet q j ep).getD []).length ≤ 100 ∧ w = w' := by
  obtain ⟨r, aL, cL, D, R, S1⟩ := S.rstO
  refine (rsGet_any S1 (by rw [R.len]; omega) j ep).mono ?_
  rintro e w' ⟨rfl, rfl⟩
  have h2 : q.L.find? (fun x => decide (x.job = j) && decide (x.ep = ep)) = (r.L.find? (rgm j ep)).map RP.pt := by
    rw [← R.q]
    show (r.L.map RP.pt).find? _ = _
    rw [List.find?_map]; rfl
  unfold qGet rGetV
  rw [h2]
  cases hx : r.L.find? (rgm j ep) with
  | none => exact ⟨none, 0, rfl, At.nil _ _, by simp, rfl⟩
  | some x =>
    have hxL := List.mem_of_find?_eq_some hx
    obtain ⟨k1, k2⟩ := S1.poolAt 2 rfl (R.mem x hxL)
    have k3 := R.small x hxL
    have k4 := k1.len
    refine ⟨x.d.a, x.d.c, ?_, k2, ?_, rfl⟩
    · show _ = Ending.returned (.tuple #[.slice x.d.a x.d.l.length x.d.c, .bool true])
      rw [k4]
    · show x.d.l.length ≤ 100; omega
end
end Go.Proofs.Ytilobmefomoemaa
