/- The document's store as one thing: its methods. -/
import Derived.Test.YtjfbmgndekfglaaDoorStoreNil
namespace Go.Proofs.YtjfbmgndekfglaaDoor
set_option linter.unusedVariables false
set_option linter.unusedSimpArgs false
open Go.RowKit
section
variable {w0 w : World} {tl : List Thing} {h : Nat} {q : QS}
theorem ROk.len {r : RS} {D : List BS} (R : ROk r D q) : r.L.length = q.L.length := by rw [← R.q]; simp [RS.q]
theorem ROk.end_ {r : RS} {D : List BS} (R : ROk r D q) (j : Int) : ROk (rEnd r j) D (qEnd q j) := by
  refine ⟨?_, fun x hx => R.mem x (rwith_mem (rwith_mem hx)), fun x hx => R.small x (rwith_mem (rwith_mem hx))⟩
  rw [← R.q]
  show RS.q _ = _
  unfold rEnd RS.q qEnd
  simp only [rwith_pt]
theorem ROk.fence {r : RS} {D : List BS} (R : ROk r D q) (t : Int) : ROk { r with term := max r.term t } D (qFence q t) := by
  refine ⟨?_, R.mem, R.small⟩
  rw [← R.q]; rfl
theorem ROk.commit {r : RS} {D : List BS} (R : ROk r D q) (j e : Int) : (rCommit r j e).1 = (qCommit q j e).1 ∧ ROk (rCommit r j e).2 D (qCommit q j e).2 := by
  unfold rCommit qCommit
  have h1 : repoch r.L j true = pepoch q.L j true := by rw [repoch_pt, ← R.q]; rfl
  have h2 : q.L.find? (pm j false) = (r.L.find? (rm j false)).map RP.pt := by
    rw [← R.q]
    show (r.L.map RP.pt).find? _ = _
    rw [List.find?_map]; rfl
  rw [h1, h2]
  split
  · exact ⟨rfl, R⟩
  cases hx : r.L.find? (rm j false) with
  | none => exact ⟨rfl, R⟩
  | some x =>
    have hxL := List.mem_of_find?_eq_some hx
    simp only [Option.map_some]
    have e1 : x.pt.ep = x.ep := rfl
    rw [e1]
    split
    · exact ⟨rfl, R⟩
    · have R2 := R.end_ j
      refine ⟨rfl, ?_, fun y hy => ?_, fun y hy => ?_⟩
      · rw [← R2.q]; simp [RS.q, RP.pt]
      · rcases List.mem_append.1 hy with hy | hy
        · exact R2.mem y hy
        · rw [List.mem_singleton] at hy; subst hy; exact R.mem x hxL
      · rcases List.mem_append.1 hy with hy | hy
        · exact R2.small y hy
        · rw [List.mem_singleton] at hy; subst hy; exact R.small x hxL
end
end Go.Proofs.YtjfbmgndekfglaaDoor
