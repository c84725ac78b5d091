/- The document's Open of a journal: what its loop comes to. -/
import Derived.Test.YtmfbbonppmhabaaJournal6
namespace Go.Proofs.Ytmfbbonppmhabaa
set_option linter.unusedVariables false
set_option linter.unusedSimpArgs false
open Go.RowKit
structure DocS where
  ops : List (List UInt8)
  cnt : Nat
  old : Nat
  stop : Bool
def elder1 (r : List UInt8) (f : Nat) : Bool := match getNum r 0 with | none => false | some p => decide (p.1 < f)
def docStep (f : Nat) (s : DocS) (r : List UInt8) : DocS :=
  let o := if elder1 r f = true ∧ s.ops = [] then s.old + 1 else s.old
  if s.stop = true then ⟨s.ops, s.cnt, o, true⟩
  else match folNext r s.cnt with
    | none => ⟨s.ops, s.cnt, o, true⟩
    | some false => ⟨s.ops, s.cnt, o, false⟩
    | some true => ⟨s.ops ++ [folOp r], s.cnt + 1, o, false⟩
def docL (f : Nat) (s : DocS) (rs : List (List UInt8)) : DocS := rs.foldl (docStep f) s
theorem docL_snoc (f : Nat) (s : DocS) (rs : List (List UInt8)) (r : List UInt8) : docL f s (rs ++ [r]) = docStep f (docL f s rs) r := by
  unfold docL; rw [List.foldl_append]; rfl
theorem docL_stop (f : Nat) : ∀ (rs : List (List UInt8)) (s : DocS), s.stop = true → (docL f s rs).ops = s.ops ∧ (docL f s rs).cnt = s.cnt
  | [], s, h => ⟨rfl, rfl⟩
  | r :: rs, s, h => by
    have e : docStep f s r = ⟨s.ops, s.cnt, if elder1 r f = true ∧ s.ops = [] then s.old + 1 else s.old, true⟩ := by unfold docStep; rw [if_pos h]
    show (docL f (docStep f s r) rs).ops = _ ∧ (docL f (docStep f s r) rs).cnt = _
    rw [e]
    exact docL_stop f rs _ rfl
theorem docL_ops (f : Nat) : ∀ (rs : List (List UInt8)) (s : DocS), s.stop = false → (docL f s rs).ops = s.ops ++ followL rs s.cnt ∧ (docL f s rs).cnt = s.cnt + (followL rs s.cnt).length
  | [], s, h => ⟨by simp [docL, followL], by simp [docL, followL]⟩
  | r :: rs, s, h => by
    show (docL f (docStep f s r) rs).ops = _ ∧ (docL f (docStep f s r) rs).cnt = _
    unfold docStep
    rw [if_neg (by rw [h]; simp), followL]
    cases folNext r s.cnt with
    | none =>
      have := docL_stop f rs ⟨s.ops, s.cnt, if elder1 r f = true ∧ s.ops = [] then s.old + 1 else s.old, true⟩ rfl
      simpa using this
    | some b =>
      cases b
      · exact docL_ops f rs ⟨s.ops, s.cnt, if elder1 r f = true ∧ s.ops = [] then s.old + 1 else s.old, false⟩ rfl
      · have := docL_ops f rs ⟨s.ops ++ [folOp r], s.cnt + 1, if elder1 r f = true ∧ s.ops = [] then s.old + 1 else s.old, false⟩ rfl
        refine ⟨by rw [this.1, List.append_assoc]; rfl, by rw [this.2, List.length_cons]; show s.cnt + 1 + (followL rs (s.cnt + 1)).length = _; omega⟩
theorem docL_nil {f : Nat} {s : DocS} {rs : List (List UInt8)} (h : (docL f s rs).ops = []) : s.ops = [] := by
  cases hs : s.stop
  · rw [(docL_ops f rs s hs).1] at h
    exact (List.append_eq_nil_iff.1 h).1
  · rw [(docL_stop f rs s hs).1] at h
    exact h
theorem folNext_elder {r : List UInt8} {f : Nat} (h : folNext r f = some true) : elder1 r f = false := by
  unfold folNext at h
  unfold elder1
  cases hg : getNum r 0 with
  | none => rfl
  | some p =>
    rw [hg] at h
    simp only at h
    split at h
    · cases h
    · split at h
      · cases h
      · rename_i h1 h2
        show decide (p.1 < f) = false
        exact decide_eq_false (by omega)
theorem docStep_is (f : Nat) (s : DocS) (r : List UInt8) : (docStep f s r).old = (if elder1 r f = true ∧ s.ops = [] then s.old + 1 else s.old) ∧ (((docStep f s r).ops = s.ops ∧ (docStep f s r).cnt = s.cnt) ∨ ((docStep f s r).ops ≠ [] ∧ folNext r s.cnt = some true)) := by
  by_cases hs : s.stop = true
  · have e : docStep f s r = ⟨s.ops, s.cnt, if elder1 r f = true ∧ s.ops = [] then s.old + 1 else s.old, true⟩ := by unfold docStep; rw [if_pos hs]
    rw [e]
    exact ⟨rfl, .inl ⟨rfl, rfl⟩⟩
  · unfold docStep
    rw [if_neg hs]
    cases h : folNext r s.cnt with
    | none => exact ⟨rfl, .inl ⟨rfl, rfl⟩⟩
    | some b =>
      cases b
      · exact ⟨rfl, .inl ⟨rfl, rfl⟩⟩
      · exact ⟨rfl, .inr ⟨by simp, rfl⟩⟩
theorem docL_old (f : Nat) : ∀ (rs : List (List UInt8)) (s : DocS), (s.ops = [] → s.cnt = f) →
    (docL f s rs).old ≤ s.old + (rs.filter fun r => elder1 r f).length ∧ ((docL f s rs).ops = [] → (docL f s rs).old = s.old + (rs.filter fun r => elder1 r f).length) ∧ (s.ops = [] → (docL f s rs).ops ≠ [] → ∃ r ∈ rs, elder1 r f = false)
  | [], s, h => ⟨Nat.le_refl _, fun _ => rfl, fun h0 h1 => absurd h0 h1⟩
  | r :: rs, s, h => by
    obtain ⟨e1, e2⟩ := docStep_is f s r
    have hs : (docStep f s r).ops = [] → (docStep f s r).cnt = f := by
      intro h0
      rcases e2 with ⟨e2, e3⟩ | ⟨e2, -⟩
      · rw [e3]; exact h (by rw [← e2]; exact h0)
      · exact absurd h0 e2
    obtain ⟨i1, i2, i3⟩ := docL_old f rs (docStep f s r) hs
    show (docL f (docStep f s r) rs).old ≤ _ ∧ ((docL f (docStep f s r) rs).ops = [] → (docL f (docStep f s r) rs).old = _) ∧ (_ → (docL f (docStep f s r) rs).ops ≠ [] → _)
    rw [e1] at i1 i2
    have hf : ((r :: rs).filter fun r => elder1 r f).length = (if elder1 r f = true then 1 else 0) + (rs.filter fun r => elder1 r f).length := by
      rw [List.filter_cons]
      split
      · rw [List.length_cons]; omega
      · omega
    rw [hf]
    refine ⟨?_, ?_, ?_⟩
    · by_cases q : elder1 r f = true
      · rw [if_pos q]
        split at i1 <;> omega
      · rw [if_neg (fun h => q h.1)] at i1
        omega
    · intro h0
      have h1 := docL_nil h0
      have h2 : s.ops = [] := by
        rcases e2 with ⟨e2, -⟩ | ⟨e2, -⟩
        · rw [← e2]; exact h1
        · exact absurd h1 e2
      have i := i2 h0
      by_cases q : elder1 r f = true
      · rw [if_pos ⟨q, h2⟩] at i
        rw [if_pos q]; omega
      · rw [if_neg (fun h => q h.1)] at i
        rw [if_neg q]; omega
    · intro h0 h1
      rcases e2 with ⟨e2, e3⟩ | ⟨-, e3⟩
      · obtain ⟨x, hx, hy⟩ := i3 (by rw [e2]; exact h0) h1
        exact ⟨x, List.mem_cons_of_mem _ hx, hy⟩
      · rw [h h0] at e3
        exact ⟨r, List.mem_cons_self, folNext_elder e3⟩
theorem docL_elder (f : Nat) (rs : List (List UInt8)) : (decide (0 < (docL f ⟨[], f, 0, false⟩ rs).old) && decide ((docL f ⟨[], f, 0, false⟩ rs).old = rs.length)) = elderL rs f := by
  obtain ⟨i1, i2, i3⟩ := docL_old f rs ⟨[], f, 0, false⟩ (fun _ => rfl)
  show _ = (decide (0 < rs.length) && rs.all fun r => elder1 r f)
  cases ha : rs.all fun r => elder1 r f
  · have hlt : (rs.filter fun r => elder1 r f).length < rs.length := by
      rw [List.all_eq_false] at ha
      obtain ⟨x, hx, hy⟩ := ha
      have := List.length_filter_lt_length_iff_exists (p := fun r => elder1 r f) (l := rs)
      exact this.2 ⟨x, hx, hy⟩
    simp only at i1
    rw [decide_eq_false (show ¬ (docL f ⟨[], f, 0, false⟩ rs).old = rs.length by omega), Bool.and_false, Bool.and_false]
  · have hal := List.all_eq_true.1 ha
    have hE : rs.filter (fun r => elder1 r f) = rs := List.filter_eq_self.2 hal
    have h0 : (docL f ⟨[], f, 0, false⟩ rs).ops = [] := by
      by_cases h : (docL f ⟨[], f, 0, false⟩ rs).ops = []
      · exact h
      · obtain ⟨x, hx, hy⟩ := i3 rfl h
        rw [hal x hx] at hy
        cases hy
    have e : (docL f ⟨[], f, 0, false⟩ rs).old = rs.length := by
      have := i2 h0
      rw [hE] at this
      simpa using this
    rw [e, decide_eq_true rfl]
end Go.Proofs.Ytmfbbonppmhabaa
