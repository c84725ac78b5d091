/- The store and the document's store. -/
import Derived.Test.YtjfbmgndekfglaaDoorStoreRefs
import Derived.Test.YtjfbmgndekfglaaDoorStoreLaw4
namespace Go.Proofs.YtjfbmgndekfglaaDoor
set_option linter.unusedVariables false
set_option linter.unusedSimpArgs false
open Go.RowKit
def pf (L : List PT) (j : Int) (c : Bool) : Option PT := L.find? (pm j c)
def ptE : Option PT → Int | some x => x.ep | none => 0
def ptD : Option PT → List UInt8 | some x => x.l | none => []
def pj (L : List PT) (n : Int) : PS := ⟨ptE (pf L n true), ptD (pf L n true), ptE (pf L n false), ptD (pf L n false)⟩
theorem pepoch_eq (L : List PT) (j : Int) (c : Bool) : pepoch L j c = ptE (pf L j c) := by
  unfold pepoch pf
  cases L.find? (pm j c) <;> rfl
theorem pm_iff (j : Int) (c : Bool) (x : PT) : pm j c x = true ↔ x.job = j ∧ x.cnt = c := by unfold pm; simp
def PU (L : List PT) : Prop := L.Pairwise fun x y => ¬ (x.job = y.job ∧ x.cnt = y.cnt)
theorem pf_of : ∀ {L : List PT} (hu : PU L) {y : PT} (hy : y ∈ L), pf L y.job y.cnt = some y
  | z :: L, hu, y, hy => by
    obtain ⟨h1, h2⟩ := List.pairwise_cons.1 hu
    unfold pf
    rcases List.mem_cons.1 hy with rfl | hy
    · rw [List.find?_cons_of_pos (by rw [pm_iff]; exact ⟨rfl, rfl⟩)]
    · rw [List.find?_cons_of_neg (by rw [pm_iff]; exact h1 y hy)]
      exact pf_of h2 hy
theorem pf_in {L : List PT} {j : Int} {c : Bool} {x : PT} (h : pf L j c = some x) : x ∈ L ∧ x.job = j ∧ x.cnt = c := ⟨List.mem_of_find?_eq_some h, (pm_iff _ _ _).1 (List.find?_some h)⟩
theorem pf_with (L : List PT) (j j' : Int) (c c' : Bool) : pf (pwith L j c) j' c' = if j' = j ∧ c' = c then none else pf L j' c' := by
  unfold pf pwith
  rw [List.find?_filter]
  by_cases h : j' = j ∧ c' = c
  · rw [if_pos h, List.find?_eq_none]
    obtain ⟨rfl, rfl⟩ := h
    intro x hx
    simp
  · rw [if_neg h]
    congr 1
    funext x
    by_cases h1 : pm j' c' x = true
    · have h2 : pm j c x = false := by
        cases h3 : pm j c x
        · rfl
        · rw [pm_iff] at h1 h3
          exact absurd ⟨h1.1.symm.trans h3.1, h1.2.symm.trans h3.2⟩ h
      simp [h1, h2]
    · simp [h1]
theorem pf_app (L : List PT) (x : PT) (j : Int) (c : Bool) : pf (L ++ [x]) j c = (pf L j c).or (if x.job = j ∧ x.cnt = c then some x else none) := by
  unfold pf
  rw [List.find?_append]
  congr 1
  by_cases h : x.job = j ∧ x.cnt = c
  · rw [if_pos h, List.find?_cons_of_pos ((pm_iff _ _ _).2 h)]
  · rw [if_neg h, List.find?_cons_of_neg (by rw [pm_iff]; exact h)]; rfl
theorem PU.with_ {L : List PT} (h : PU L) (j : Int) (c : Bool) : PU (pwith L j c) := List.Pairwise.filter _ h
theorem PU.app {L : List PT} (h : PU L) {x : PT} (hx : pf L x.job x.cnt = none) : PU (L ++ [x]) := by
  unfold PU at *
  rw [List.pairwise_append]
  refine ⟨h, List.pairwise_singleton _ _, fun a ha b hb => ?_⟩
  rw [List.mem_singleton] at hb
  subst hb
  intro hab
  have := List.find?_eq_none.1 hx a ha
  rw [pm_iff] at this
  exact this hab
theorem pbytes_with : ∀ {L : List PT} (hu : PU L) (j : Int) (c : Bool), pbytes (pwith L j c) + (ptD (pf L j c)).length = pbytes L
  | [], _, _, _ => rfl
  | x :: L, hu, j, c => by
    obtain ⟨h1, h2⟩ := List.pairwise_cons.1 hu
    have ih := pbytes_with h2 j c
    by_cases h : pm j c x = true
    · have e1 : pwith (x :: L) j c = pwith L j c := by unfold pwith; rw [List.filter_cons_of_neg (by simp [h])]
      have e2 : pf (x :: L) j c = some x := by unfold pf; rw [List.find?_cons_of_pos h]
      have e3 : pf L j c = none := by
        unfold pf
        rw [List.find?_eq_none]
        intro y hy hp
        rw [pm_iff] at h hp
        exact h1 y hy ⟨h.1.trans hp.1.symm, h.2.trans hp.2.symm⟩
      rw [e3] at ih
      rw [e1, e2]
      have : pbytes (x :: L) = x.l.length + pbytes L := by simp [pbytes]
      rw [this]
      simp only [ptD, List.length_nil] at ih ⊢
      omega
    · have e1 : pwith (x :: L) j c = x :: pwith L j c := by unfold pwith; rw [List.filter_cons_of_pos (by simp [h])]
      have e2 : pf (x :: L) j c = pf L j c := by unfold pf; rw [List.find?_cons_of_neg h]
      rw [e1, e2]
      have : ∀ M : List PT, pbytes (x :: M) = x.l.length + pbytes M := fun M => by simp [pbytes]
      rw [this, this]
      omega
theorem pbytes_app (L : List PT) (x : PT) : pbytes (L ++ [x]) = pbytes L + x.l.length := by unfold pbytes; simp
theorem pwith_in {L : List PT} {j : Int} {c : Bool} {x : PT} (h : x ∈ pwith L j c) : x ∈ L := (List.mem_filter.1 h).1
/-- The store tells what the document's tells. -/
structure RelS (s : SS) (q : QS) : Prop where
  len : s.js.length = 25
  room : s.room = q.room
  term : s.term = q.term
  writes : s.writes = q.writes
  ok : ∀ x ∈ q.L, jobOk x.job ∧ 1 ≤ x.ep
  u : PU q.L
  job : ∀ n, jobOk n → s.job n = pj q.L n
  used : usedP s.js = pbytes q.L
  ord : ∀ n, jobOk n → (s.job n).se = 0 ∨ (s.job n).ce < (s.job n).se
theorem RelS.new (room : Int) : RelS (SS.new room) ⟨max 0 room, 0, [], 0⟩ := by
  refine ⟨by simp [SS.new], rfl, rfl, rfl, fun x hx => by simp at hx, List.Pairwise.nil, fun n hn => ?_, by kernel_rfl, fun n hn => ?_⟩
  all_goals
    have e : (SS.new room).job n = PS.nil := by
      simp only [SS.job, SS.new, List.getD, List.getElem?_replicate]
      split <;> rfl
    rw [e]
  · rfl
  · exact .inl rfl
theorem RelS.out {s : SS} {q : QS} (h : RelS s q) {n : Int} (hn : ¬ jobOk n) (c : Bool) : pf q.L n c = none := by
  unfold pf
  rw [List.find?_eq_none]
  intro x hx hp
  rw [pm_iff] at hp
  exact hn (hp.1 ▸ (h.ok x hx).1)
theorem RelS.counts {s : SS} {q : QS} (h : RelS s q) (n : Int) : sCounts s n = pepoch q.L n true := by
  rw [pepoch_eq]
  unfold sCounts
  split
  · rename_i hn; rw [h.job n hn]; rfl
  · rename_i hn; rw [h.out hn]; rfl
theorem RelS.fence {s : SS} {q : QS} (h : RelS s q) (t : Int) : RelS (sFence s t) (qFence q t) :=
  ⟨h.len, h.room, by show max s.term t = max q.term t; rw [h.term], h.writes, h.ok, h.u, h.job, h.used, h.ord⟩
theorem put_len (s : SS) (n : Int) (y : PS) (h : s.js.length = 25) : (s.put n y).js.length = 25 := by unfold SS.put; simp [h]
theorem RelS.end_ {s : SS} {q : QS} (h : RelS s q) (j : Int) : RelS (sEnd s j) (qEnd q j) := by
  unfold sEnd
  by_cases hj : jobOk j
  · rw [if_pos hj]
    have hu1 := h.u.with_ j true
    have hu2 := hu1.with_ j false
    have b1 := pbytes_with h.u j true
    have b2 := pbytes_with hu1 j false
    have hjj := h.job j hj
    have hp := usedP_put h.len hj PS.nil
    rw [pf_with, if_neg (by simp)] at b2
    refine ⟨put_len _ _ _ h.len, h.room, h.term, h.writes, fun x hx => h.ok x (pwith_in (pwith_in hx)), hu2, fun n hn => ?_, ?_, fun n hn => ?_⟩
    · rw [SS.job_put' h.len hj hn]
      show _ = pj (pwith (pwith q.L j true) j false) n
      unfold pj
      rw [pf_with, pf_with, pf_with, pf_with]
      by_cases e : n = j
      · subst e; simp [PS.nil, ptE, ptD]
      · simp [e, h.job n hn, pj]
    · show usedP (s.put j PS.nil).js = pbytes (pwith (pwith q.L j true) j false)
      rw [hjj] at hp
      have hu := h.used
      generalize usedP (s.put j PS.nil).js = U at hp ⊢
      simp only [PS.size, pj, PS.nil, List.length_nil] at hp
      omega
    · rw [SS.job_put' h.len hj hn]
      split
      · exact .inl rfl
      · exact h.ord n hn
  · rw [if_neg hj]
    have e : qEnd q j = q := by
      unfold qEnd
      have hall : ∀ c, pwith q.L j c = q.L := by
        intro c
        unfold pwith
        rw [List.filter_eq_self]
        intro x hx
        have := List.find?_eq_none.1 (h.out hj c) x hx
        simpa using this
      rw [hall, hall]
    rw [e]; exact h
theorem RelS.stage {s : SS} {q : QS} (h : RelS s q) (t j e : Int) (b : List UInt8) : (sStage s t j e b).1 = (qStage q t j e b).1 ∧ RelS (sStage s t j e b).2 (qStage q t j e b).2 := by
  unfold sStage qStage
  rw [h.term]
  by_cases h1 : t < q.term
  · rw [if_pos h1, if_pos h1]; exact ⟨rfl, h⟩
  rw [if_neg h1, if_neg h1]
  by_cases h2 : ¬ jobOk j ∨ e < 1 ∨ 1000000 < e ∨ b.length = 0 ∨ 100 < b.length
  · rw [if_pos h2, if_pos (by unfold jobOk at h2; omega)]; exact ⟨rfl, h⟩
  have h2' : ¬ (j < 1 ∨ 24 < j ∨ e < 1 ∨ 1000000 < e ∨ b.length < 1 ∨ 100 < b.length) := by unfold jobOk at h2; omega
  rw [if_neg h2, if_neg h2']
  have hj : jobOk j := by
    rcases Decidable.em (jobOk j) with k | k
    · exact k
    · exact absurd (.inl k) h2
  have hjj := h.job j hj
  have hcT : pepoch q.L j true = (s.job j).ce := by rw [pepoch_eq, hjj]; rfl
  have hcF : pepoch q.L j false = (s.job j).se := by rw [pepoch_eq, hjj]; rfl
  rw [hcT, hcF]
  by_cases h3 : e ≤ (s.job j).ce ∨ e < (s.job j).se
  · rw [if_pos h3, if_pos h3]; exact ⟨rfl, h⟩
  rw [if_neg h3, if_neg h3]
  by_cases h4 : e = (s.job j).se
  · rw [if_pos h4, if_pos h4]; exact ⟨rfl, h⟩
  rw [if_neg h4, if_neg h4]
  have b1 := pbytes_with h.u j false
  have hsd : (s.job j).sd = ptD (pf q.L j false) := by rw [hjj]; rfl
  have hroom : (q.room < (pbytes (pwith q.L j false) : Int) + b.length) ↔ (s.room < (usedP s.js : Int) - (s.job j).sd.length + b.length) := by
    rw [h.room, h.used, hsd]; omega
  by_cases h5 : s.room < (usedP s.js : Int) - (s.job j).sd.length + b.length
  · rw [if_pos h5, if_pos (hroom.2 h5)]; exact ⟨rfl, h⟩
  rw [if_neg h5, if_neg (fun k => h5 (hroom.1 k))]
  refine ⟨rfl, put_len _ _ _ h.len, h.room, h.term, by show s.writes + 1 = q.writes + 1; rw [h.writes], fun x hx => ?_, ?_, fun n hn => ?_, ?_, fun n hn => ?_⟩
  · rcases List.mem_append.1 hx with hx | hx
    · exact h.ok x (pwith_in hx)
    · rw [List.mem_singleton] at hx; subst hx; exact ⟨hj, by show 1 ≤ e; omega⟩
  · refine (h.u.with_ j false).app ?_
    rw [pf_with, if_pos ⟨rfl, rfl⟩]
  · show (s.put j _).job n = pj (pwith q.L j false ++ [_]) n
    rw [SS.job_put' h.len hj hn]
    unfold pj
    rw [pf_app, pf_app, pf_with, pf_with]
    by_cases k : n = j
    · subst k; simp [hjj, pj, ptE, ptD]
    · have k2 : ¬ j = n := fun k3 => k k3.symm
      simp [k, k2, h.job n hn, pj]
  · show usedP (s.put j _).js = pbytes (pwith q.L j false ++ [_])
    obtain ⟨y, hy⟩ : ∃ y : PS, ({ s.job j with se := e, sd := b } : PS) = y := ⟨_, rfl⟩
    have hp := usedP_put h.len hj y
    rw [pbytes_app]
    have hu := h.used
    have hys : y.size = (s.job j).cd.length + b.length := by rw [← hy]; rfl
    have hjs : (s.job j).size = (s.job j).cd.length + (ptD (pf q.L j false)).length := by rw [PS.size, hsd]
    rw [hys, hjs] at hp
    rw [hy]
    show usedP (s.put j y).js = _ + b.length
    omega
  · show ((s.put j _).job n).se = 0 ∨ ((s.put j _).job n).ce < ((s.put j _).job n).se
    rw [SS.job_put' h.len hj hn]
    split
    · exact .inr (by show (s.job j).ce < e; omega)
    · exact h.ord n hn
theorem RelS.commit {s : SS} {q : QS} (h : RelS s q) (j e : Int) : (sCommit s j e).1 = (qCommit q j e).1 ∧ RelS (sCommit s j e).2 (qCommit q j e).2 := by
  unfold sCommit qCommit
  have hpf : q.L.find? (pm j false) = pf q.L j false := rfl
  rw [hpf, pepoch_eq]
  by_cases hj : jobOk j
  case neg =>
    have hh : ¬ (0 < e ∧ ptE none = e) := by
      rintro ⟨h1, h2⟩
      have : (0 : Int) = e := h2
      omega
    rw [if_pos (.inl hj), h.out hj true, h.out hj false, if_neg hh]
    exact ⟨rfl, h⟩
  have hjj := h.job j hj
  have hcT : ptE (pf q.L j true) = (s.job j).ce := by rw [hjj]; rfl
  have ho := h.ord j hj
  rw [hcT]
  have hse : (s.job j).se = ptE (pf q.L j false) := by rw [hjj]; rfl
  by_cases h1 : 0 < e ∧ (s.job j).ce = e
  · have hA : ¬ (¬ jobOk j ∨ e < 1 ∨ e ≠ (s.job j).ce ∧ e ≠ (s.job j).se) := by
      rintro (k | k | k)
      · exact k hj
      · omega
      · omega
    have hB : ¬ e = (s.job j).se := by omega
    rw [if_pos h1, if_neg hA, if_neg hB]
    exact ⟨rfl, h⟩
  rw [if_neg h1]
  cases hx : pf q.L j false with
  | none =>
    rw [hx] at hse
    simp only [ptE] at hse
    have hA : ¬ jobOk j ∨ e < 1 ∨ e ≠ (s.job j).ce ∧ e ≠ (s.job j).se := .inr (by omega)
    rw [if_pos hA]
    exact ⟨rfl, h⟩
  | some x =>
    rw [hx] at hse
    simp only [ptE] at hse
    obtain ⟨hxL, hxj, hxc⟩ := pf_in hx
    have hxe := (h.ok x hxL).2
    by_cases h2 : x.ep = e
    case neg =>
      have hA : ¬ jobOk j ∨ e < 1 ∨ e ≠ (s.job j).ce ∧ e ≠ (s.job j).se := .inr (by omega)
      have hne : x.ep ≠ e := h2
      rw [if_pos hA]
      dsimp only
      rw [if_pos hne]
      exact ⟨rfl, h⟩
    have hA : ¬ (¬ jobOk j ∨ e < 1 ∨ e ≠ (s.job j).ce ∧ e ≠ (s.job j).se) := by
      rintro (k | k | k)
      · exact k hj
      · omega
      · omega
    have hB : e = (s.job j).se := by omega
    have hne : ¬ x.ep ≠ e := fun k => k h2
    rw [if_neg hA, if_pos hB]
    dsimp only
    rw [if_neg hne]
    have hu1 := h.u.with_ j true
    have hu2 := hu1.with_ j false
    have b1 := pbytes_with h.u j true
    have b2 := pbytes_with hu1 j false
    rw [pf_with, if_neg (by simp)] at b2
    rw [hx] at b2
    have hsd : (s.job j).sd = x.l := by rw [hjj]; show ptD (pf q.L j false) = _; rw [hx]; rfl
    have hcd : (s.job j).cd = ptD (pf q.L j true) := by rw [hjj]; rfl
    obtain ⟨y, hy⟩ : ∃ y : PS, (⟨(s.job j).se, (s.job j).sd, 0, []⟩ : PS) = y := ⟨_, rfl⟩
    have hp := usedP_put h.len hj y
    rw [hy]
    refine ⟨rfl, put_len _ _ _ h.len, h.room, h.term, h.writes, fun z hz => ?_, ?_, fun n hn => ?_, ?_, fun n hn => ?_⟩
    · rcases List.mem_append.1 hz with hz | hz
      · exact h.ok z (pwith_in (pwith_in hz))
      · rw [List.mem_singleton] at hz; subst hz; exact ⟨(h.ok x hxL).1, (h.ok x hxL).2⟩
    · refine hu2.app ?_
      show pf _ x.job true = none
      rw [hxj, pf_with, if_neg (by simp), pf_with, if_pos ⟨rfl, rfl⟩]
    · show (s.put j y).job n = pj (pwith (pwith q.L j true) j false ++ [_]) n
      rw [SS.job_put' h.len hj hn]
      unfold pj
      rw [pf_app, pf_app, pf_with, pf_with, pf_with, pf_with]
      by_cases k : n = j
      · subst k; simp [hxj, ← hy, ptE, ptD, hse, hsd]
      · have k2 : ¬ x.job = n := fun k3 => k (k3.symm.trans hxj)
        simp [k, k2, h.job n hn, pj]
    · show usedP (s.put j y).js = pbytes (pwith (pwith q.L j true) j false ++ [_])
      rw [pbytes_app]
      have hu := h.used
      have hys : y.size = x.l.length := by rw [← hy, ← hsd]; simp [PS.size]
      have hjs : (s.job j).size = (ptD (pf q.L j true)).length + x.l.length := by rw [PS.size, hsd, hcd]
      rw [hys, hjs] at hp
      simp only [ptD] at b2
      show usedP (s.put j y).js = _ + x.l.length
      omega
    · show ((s.put j y).job n).se = 0 ∨ ((s.put j y).job n).ce < ((s.put j y).job n).se
      rw [SS.job_put' h.len hj hn]
      split
      · exact .inl (by rw [← hy])
      · exact h.ord n hn
theorem RelS.get {s : SS} {q : QS} (h : RelS s q) (n ep : Int) : sGet s n ep = qGet q n ep := by
  unfold sGet qGet
  cases hy : q.L.find? (fun x => decide (x.job = n) && decide (x.ep = ep)) with
  | none =>
    rw [List.find?_eq_none] at hy
    split
    · rfl
    rename_i hn
    have hj : jobOk n := by
      rcases Decidable.em (jobOk n) with k | k
      · exact k
      · exact absurd (.inl k) hn
    have hjj := h.job n hj
    have key : ∀ c, ptE (pf q.L n c) ≠ ep := by
      intro c hc
      cases hx : pf q.L n c with
      | none => rw [hx] at hc; simp only [ptE] at hc; omega
      | some x =>
        rw [hx] at hc
        obtain ⟨h1, h2, h3⟩ := pf_in hx
        exact hy x h1 (by simp only [ptE] at hc; simp [h2, hc])
    rw [if_neg (by rw [hjj]; exact key true), if_neg (by rw [hjj]; exact key false)]
    rfl
  | some y =>
    have hyL := List.mem_of_find?_eq_some hy
    have hy2 := List.find?_some hy
    simp only [Bool.and_eq_true, decide_eq_true_eq] at hy2
    obtain ⟨hyj, hye⟩ := hy2
    obtain ⟨hk1, hk2⟩ := h.ok y hyL
    rw [hyj] at hk1
    have hjj := h.job n hk1
    have ho := h.ord n hk1
    have hf := pf_of h.u hyL
    rw [hyj] at hf
    rw [if_neg (by rintro (k | k); exact k hk1; omega)]
    cases hc : y.cnt
    · rw [hc] at hf
      have e1 : (s.job n).se = ep := by rw [hjj]; show ptE (pf q.L n false) = ep; rw [hf]; exact hye
      have e2 : (s.job n).sd = y.l := by rw [hjj]; show ptD (pf q.L n false) = _; rw [hf]; rfl
      rw [if_neg (by omega), if_pos e1, e2]; rfl
    · rw [hc] at hf
      have e1 : (s.job n).ce = ep := by rw [hjj]; show ptE (pf q.L n true) = ep; rw [hf]; exact hye
      have e2 : (s.job n).cd = y.l := by rw [hjj]; show ptD (pf q.L n true) = _; rw [hf]; rfl
      rw [if_pos e1, e2]; rfl
theorem pwith_len (L : List PT) (j : Int) (c : Bool) : (pwith L j c).length ≤ L.length := List.length_filter_le _ _
theorem q_len (q : QS) (t j e : Int) (b : List UInt8) : (qStage q t j e b).2.L.length ≤ q.L.length + 1 ∧ (qStage q t j e b).2.writes ≤ q.writes + 1 ∧ (qCommit q j e).2.L.length ≤ q.L.length + 1 ∧ (qCommit q j e).2.writes = q.writes ∧ (qEnd q j).L.length ≤ q.L.length := by
  have e1 := pwith_len q.L j false
  have e2 := pwith_len (pwith q.L j true) j false
  have e3 := pwith_len q.L j true
  refine ⟨?_, ?_, ?_, ?_, ?_⟩
  · unfold qStage; (repeat' split) <;> simp <;> omega
  · unfold qStage; (repeat' split) <;> simp
  · unfold qCommit qEnd; (repeat' split) <;> simp <;> omega
  · unfold qCommit qEnd; (repeat' split) <;> simp
  · show (pwith (pwith q.L j true) j false).length ≤ _; omega
end Go.Proofs.YtjfbmgndekfglaaDoor
