/- StoreKeeps. -/
import Derived.Test.YtjfbmgndekfglaaDoorStoreLaws
namespace Go.Proofs.YtjfbmgndekfglaaDoor
set_option linter.unusedVariables false
set_option linter.unusedSimpArgs false
open Go.RowKit
theorem SS.job_put' {s : SS} (h : s.js.length = 25) {n m : Int} (hn : jobOk n) (hm : jobOk m) (y : PS) : (s.put n y).job m = if m = n then y else s.job m := by
  unfold SS.put SS.job jobOk at *
  by_cases e : m = n
  · subst e; rw [if_pos rfl]; simp [List.getD, show m.toNat < s.js.length by omega]
  · rw [if_neg e]
    simp only [List.getD]
    rw [List.getElem?_set_ne (by omega)]
theorem SS.job_mem {s : SS} (h : s.js.length = 25) {n : Int} (hn : jobOk n) : s.job n ∈ s.js := by
  unfold jobOk at hn
  have hlt : n.toNat < s.js.length := by omega
  have : s.job n = s.js[n.toNat] := by unfold SS.job; simp [List.getD, hlt]
  rw [this]; exact List.getElem_mem hlt
def PS.size (x : PS) : Nat := x.cd.length + x.sd.length
theorem usedP_set : ∀ (l : List PS) (n : Nat) (y : PS) (h : n < l.length), usedP (l.set n y) + (l[n]).size = usedP l + y.size
  | [], n, y, h => by simp at h
  | x :: l, 0, y, h => by
    simp only [List.set_cons_zero, usedP, List.map_cons, List.sum_cons, List.getElem_cons_zero, PS.size]; omega
  | x :: l, n + 1, y, h => by
    have := usedP_set l n y (by simpa using h)
    simp only [List.set_cons_succ, usedP, List.map_cons, List.sum_cons, List.getElem_cons_succ, PS.size] at this ⊢
    omega
theorem usedP_put {s : SS} (h : s.js.length = 25) {n : Int} (hn : jobOk n) (y : PS) : usedP (s.put n y).js + (s.job n).size = usedP s.js + y.size := by
  unfold jobOk at hn
  have hlt : n.toNat < s.js.length := by omega
  have e : s.job n = s.js[n.toNat] := by unfold SS.job; simp [List.getD, hlt]
  rw [e]
  exact usedP_set s.js n.toNat y hlt
/-- How a store is that was never fenced in from outside. -/
structure SK (s : SS) (R : Int) : Prop where
  len : s.js.length = 25
  order : ∀ x ∈ s.js, 0 ≤ x.ce ∧ (1 ≤ x.se → x.ce < x.se)
  used : (usedP s.js : Int) ≤ R
  room : s.room = R
/-- What a step may do to what counts. -/
def SKeep (s s' : SS) (job : Int) : Prop := sCounts s job ≤ sCounts s' job ∧ (sCounts s' job = sCounts s job → sGet s' job (sCounts s job) = sGet s job (sCounts s job))
theorem SKeep.refl (s : SS) (job : Int) : SKeep s s job := ⟨Int.le_refl _, fun _ => rfl⟩
theorem sGet_counts (s : SS) (job : Int) : sGet s job (sCounts s job) = if jobOk job ∧ 1 ≤ sCounts s job then some (s.job job).cd else none := by
  unfold sGet
  by_cases h : jobOk job
  · by_cases h1 : sCounts s job < 1
    · rw [if_pos (.inr h1), if_neg (by omega)]
    · have : (s.job job).ce = sCounts s job := by unfold sCounts; rw [if_pos h]
      rw [if_neg (by rintro (q | q); exact q h; exact h1 q), if_pos this, if_pos ⟨h, by omega⟩]
  · rw [if_pos (.inl h), if_neg (fun q => h q.1)]
theorem SKeep.of {s s' : SS} {job : Int} (h : jobOk job → (s.job job).ce ≤ (s'.job job).ce ∧ ((s'.job job).ce = (s.job job).ce → (s'.job job).cd = (s.job job).cd)) : SKeep s s' job := by
  by_cases hj : jobOk job
  · obtain ⟨h1, h2⟩ := h hj
    have e1 : sCounts s job = (s.job job).ce := by unfold sCounts; rw [if_pos hj]
    have e2 : sCounts s' job = (s'.job job).ce := by unfold sCounts; rw [if_pos hj]
    refine ⟨by rw [e1, e2]; exact h1, fun h3 => ?_⟩
    rw [sGet_counts]
    have := sGet_counts s' job
    rw [h3] at this
    rw [this, h2 (by rw [← e1, ← e2]; exact h3)]
  · have e1 : ∀ s : SS, sCounts s job = 0 := fun s => by unfold sCounts; rw [if_neg hj]
    refine ⟨by rw [e1, e1]; exact Int.le_refl _, fun _ => ?_⟩
    have h1 := sGet_counts s job
    have h2 := sGet_counts s' job
    rw [if_neg (fun q => hj q.1)] at h1 h2
    rw [e1] at h2
    rw [h1, e1, h2]
theorem SK.stage {s : SS} {R : Int} (h : SK s R) (t j e : Int) (b : List UInt8) : SK (sStage s t j e b).2 R ∧ ∀ job, SKeep s (sStage s t j e b).2 job := by
  unfold sStage
  split
  · exact ⟨h, fun _ => SKeep.refl _ _⟩
  split
  · exact ⟨h, fun _ => SKeep.refl _ _⟩
  rename_i h1 h2
  simp only [not_or, Decidable.not_not] at h2
  obtain ⟨hj, q2, q3, q4, q5⟩ := h2
  split
  · exact ⟨h, fun _ => SKeep.refl _ _⟩
  rename_i h3
  split
  · exact ⟨h, fun _ => SKeep.refl _ _⟩
  split
  · exact ⟨h, fun _ => SKeep.refl _ _⟩
  rename_i h4 h5
  have hx := h.order _ (SS.job_mem h.len hj)
  have hu := usedP_put h.len hj ⟨(s.job j).ce, (s.job j).cd, e, b⟩
  refine ⟨⟨by show (s.js.set _ _).length = 25; rw [List.length_set]; exact h.len, mem_put h.order ⟨hx.1, fun _ => by show (s.job j).ce < e; omega⟩, ?_, h.room⟩, fun job => SKeep.of fun hjob => ?_⟩
  · have h6 := h.room
    show (usedP (s.put j ⟨(s.job j).ce, (s.job j).cd, e, b⟩).js : Int) ≤ R
    simp only [PS.size] at hu
    omega
  · show (s.job job).ce ≤ ((s.put j _).job job).ce ∧ (((s.put j _).job job).ce = _ → ((s.put j _).job job).cd = _)
    rw [SS.job_put' h.len hj hjob]
    split
    · rename_i hq; subst hq; exact ⟨Int.le_refl _, fun _ => rfl⟩
    · exact ⟨Int.le_refl _, fun _ => rfl⟩
theorem SK.commit {s : SS} {R : Int} (h : SK s R) (j e : Int) : SK (sCommit s j e).2 R ∧ ∀ job, SKeep s (sCommit s j e).2 job := by
  unfold sCommit
  split
  · exact ⟨h, fun _ => SKeep.refl _ _⟩
  rename_i h1
  simp only [not_or, Decidable.not_not] at h1
  obtain ⟨hj, q2, q3⟩ := h1
  split
  · rename_i h2
    have hx := h.order _ (SS.job_mem h.len hj)
    have hu := usedP_put h.len hj ⟨(s.job j).se, (s.job j).sd, 0, []⟩
    have hlt := hx.2 (by omega)
    refine ⟨⟨by show (s.js.set _ _).length = 25; rw [List.length_set]; exact h.len, mem_put h.order ⟨by show 0 ≤ (s.job j).se; omega, fun q => by cases q⟩, ?_, h.room⟩, fun job => SKeep.of fun hjob => ?_⟩
    · have h6 := h.used
      show (usedP (s.put j ⟨(s.job j).se, (s.job j).sd, 0, []⟩).js : Int) ≤ R
      simp only [PS.size, List.length_nil] at hu
      omega
    · show (s.job job).ce ≤ ((s.put j _).job job).ce ∧ (((s.put j _).job job).ce = _ → ((s.put j _).job job).cd = _)
      rw [SS.job_put' h.len hj hjob]
      split
      · rename_i hq; subst hq; exact ⟨by show (s.job job).ce ≤ (s.job job).se; omega, fun q => by exfalso; have : (s.job job).se = (s.job job).ce := q; omega⟩
      · exact ⟨Int.le_refl _, fun _ => rfl⟩
  · exact ⟨h, fun _ => SKeep.refl _ _⟩
theorem SK.end_ {s : SS} {R : Int} (h : SK s R) (j : Int) : SK (sEnd s j) R ∧ (∀ job, job ≠ j → SKeep s (sEnd s j) job) ∧ sCounts (sEnd s j) j = 0 := by
  unfold sEnd
  split
  · rename_i hj
    have hu := usedP_put h.len hj PS.nil
    refine ⟨⟨by show (s.js.set _ _).length = 25; rw [List.length_set]; exact h.len, mem_put h.order ⟨Int.le_refl _, fun q => by cases q⟩, ?_, h.room⟩, fun job hne => SKeep.of fun hjob => ?_, ?_⟩
    · have h6 := h.used
      show (usedP (s.put j PS.nil).js : Int) ≤ R
      rw [show PS.nil.size = 0 from rfl] at hu
      omega
    · rw [SS.job_put' h.len hj hjob, if_neg hne]
      exact ⟨Int.le_refl _, fun _ => rfl⟩
    · unfold sCounts
      rw [if_pos hj, SS.job_put' h.len hj hj, if_pos rfl]; rfl
  · rename_i hj
    refine ⟨h, fun job _ => SKeep.refl _ _, ?_⟩
    unfold sCounts
    rw [if_neg hj]
theorem SK.fence {s : SS} {R : Int} (h : SK s R) (t : Int) : SK (sFence s t) R ∧ ∀ job, SKeep s (sFence s t) job := ⟨⟨h.len, h.order, h.used, h.room⟩, fun _ => SKeep.refl _ _⟩
theorem SK.new {R : Int} (h : 0 ≤ R) : SK (SS.new R) R := by
  refine ⟨rfl, fun x hx => ?_, ?_, by show max 0 R = R; omega⟩
  · rw [List.eq_of_mem_replicate hx]; exact ⟨Int.le_refl _, fun q => by cases q⟩
  · have : usedP (SS.new R).js = 0 := s5k_used
    rw [this]; exact h
theorem sWrites (s : SS) (j e : Int) : (sCommit s j e).2.writes = s.writes ∧ (sEnd s j).writes = s.writes := by
  constructor
  · unfold sCommit; (repeat' split) <;> rfl
  · unfold sEnd; split <;> rfl
theorem getOk (s : SS) (job : Int) (h : 0 ≤ sCounts s job) : (sGet s job (sCounts s job)).isSome = decide (0 < sCounts s job) := by
  rw [sGet_counts]
  by_cases h1 : jobOk job
  · by_cases h2 : 1 ≤ sCounts s job
    · rw [if_pos ⟨h1, h2⟩, decide_eq_true (by omega)]; rfl
    · rw [if_neg (fun q => h2 q.2), decide_eq_false (by omega)]; rfl
  · have : sCounts s job = 0 := by unfold sCounts; rw [if_neg h1]
    rw [if_neg (fun q => h1 q.1), this]; rfl
theorem SK.pos {s : SS} {R : Int} (h : SK s R) (job : Int) : 0 ≤ sCounts s job := by
  unfold sCounts
  split
  · rename_i hj; exact (h.order _ (SS.job_mem h.len hj)).1
  · exact Int.le_refl _
end Go.Proofs.YtjfbmgndekfglaaDoor
