/- Watch: crowded gangs. -/
import Derived.Test.YtilobmefomoemaaWatch6
namespace Go.Proofs.Ytilobmefomoemaa
set_option linter.unusedVariables false
set_option linter.unusedSimpArgs false
open Go.RowKit
theorem nextAt {w : World} {r bm since c0 : Nat} {seen : Array Nat} {es : Array MapEntry} {clock : Nat} (hr : w.heap[r]? = some (.mapIter (some bm) since seen c0)) (hb : w.heap[bm]? = some (.map es clock)) (hold : ∀ x ∈ es.toList, x.born < since) (hsc : since ≤ c0) :
    ((leftOf es seen).size = 0 ∧ ∀ ty, (Instr.next (.pointer (some ⟨r, 0, none⟩)) false ty).run Try.prog w = .ok (.tuple #[.bool false]) w) ∨
    ∃ e ∈ (leftOf es seen).toList, ∃ n, ∀ ty, (Instr.next (.pointer (some ⟨r, 0, none⟩)) false ty).run Try.prog w = .ok (.tuple #[.bool true, e.key, e.val]) (putO (w.drewN n) r (.mapIter (some bm) since (seen.push e.born) clock)) := by
  simp only [Instr.next, getObj, Sem.run_bind, Sem.run, hr, hb, Result.andThen, next_test_false seen es since c0 hold hsc, Bool.false_eq_true, if_false]
  unfold leftOf
  have hmem : ∀ x ∈ (Array.filter (fun e => !seen.contains e.born) es).toList, x.born < since := fun x hx => hold x (by simp at hx ⊢; exact hx.1)
  generalize Array.filter (fun e => !seen.contains e.born) es = L at hmem ⊢
  have e1 : L.filter (fun x => decide (x.born < since)) = L := Array.filter_eq_self.2 (fun x hx => by simpa using hmem x (by simpa using hx))
  have e2 : L.filter (fun x => decide (x.born ≥ since)) = #[] := by
    rw [Array.filter_eq_empty_iff]
    intro x hx
    have := hmem x (by simpa using hx)
    simp
    omega
  simp only [e1, e2, Array.append_empty]
  by_cases h0 : L.size = 0
  · left
    have : L = #[] := Array.eq_empty_of_size_eq_zero h0
    subst this
    refine ⟨rfl, fun _ => ?_⟩
    simp [choose, Sem.run, Question.forced]
  · right
    have hne : L.isEmpty = false := by simp [Array.isEmpty, h0]
    simp only [hne, Bool.false_eq_true, if_false, Array.empty_append, Array.size_map]
    have hch : ∃ (j n : Nat), j < L.size ∧ (choose (Question.mapNext L.size)).run Try.prog w = .ok j (w.drewN n) := by
      by_cases hf : L.size ≤ 1
      · exact ⟨0, 0, by omega, by simp [choose, Sem.run, Question.forced, hf]; rfl⟩
      · exact ⟨_, 1, Nat.mod_lt _ (by omega), by
          simp only [choose, Sem.run, Question.forced, decide_eq_true_eq, hf, if_false, Question.cut]
          rfl⟩
    obtain ⟨j, n, hj, hrun⟩ := hch
    refine ⟨L[j], by simp, n, fun _ => ?_⟩
    have hset : ∀ o', (setObj r o').run Try.prog (w.drewN n) = .ok () (putO (w.drewN n) r o') := fun o' => by
      have hr' : (w.drewN n).heap[r]? = some (.mapIter (some bm) since seen c0) := hr
      simp only [setObj, Sem.run, hr']
      rfl
    simp only [hrun, Array.getElem?_map, Array.getElem?_eq_getElem hj, Option.map_some, Sem.run_bind, hset, Result.andThen]
    rfl
theorem entryAt {w : World} {r bm since : Nat} {seen : Array Nat} {es : Array MapEntry} {clock : Nat} {e : MapEntry} (hr : w.heap[r]? = some (.mapIter (some bm) since (seen.push e.born) clock)) (hb : w.heap[bm]? = some (.map es clock)) (he : e ∈ es.toList) (hn : (es.toList.map (·.born)).Nodup) :
    (Instr.entry (.pointer (some ⟨r, 0, none⟩))).run Try.prog w = .ok (.tuple #[e.key, e.val]) w := by
  have hf : es.find? (·.born == e.born) = some e := by rw [← Array.find?_toList]; exact find_born e es.toList hn he
  simp only [Instr.entry, getObj, Sem.run_bind, Sem.run, hr, hb, Result.andThen, Array.back?_push, bne_self_eq_false, Bool.false_eq_true, if_false, hf]
  rfl
theorem gEs_born : ∀ (G : List GE) (n : Nat), (gEs n G).map (·.born) = List.range' n G.length
  | [], _ => rfl
  | x :: l, n => by rw [gEs, List.map_cons, gEs_born l, List.length_cons, List.range'_succ]; rfl
theorem gEs_nodup (G : List GE) : ((gEs 0 G).map (·.born)).Nodup := by rw [gEs_born]; exact List.nodup_range'
theorem gEs_old (G : List GE) : ∀ x ∈ gEs 0 G, x.born < G.length := fun x hx => by
  have h1 : x.born ∈ (gEs 0 G).map (·.born) := List.mem_map.2 ⟨x, hx, rfl⟩
  rw [gEs_born] at h1
  have := List.mem_range'.1 h1
  omega
theorem gEs_mem {G : List GE} {e : MapEntry} (h : e ∈ gEs 0 G) : ∃ x ∈ G, e.key = x.key ∧ e.val = x.sl ∧ gEnt e.born x = e := by
  obtain ⟨k, hk, rfl⟩ := List.getElem_of_mem h
  have h1 : (gEs 0 G)[k]? = some (gEs 0 G)[k] := List.getElem?_eq_getElem hk
  rw [gEs_get] at h1
  have hk2 : k < G.length := by rw [gEs_len] at hk; exact hk
  rw [List.getElem?_eq_getElem hk2] at h1
  simp only [Option.map_some, Option.some.injEq] at h1
  rw [← h1]
  exact ⟨G[k], List.getElem_mem hk2, rfl, rfl, rfl⟩
def maxOf (s : STA) (job : Int) : Int := match s.J[(job - 1).toNat]? with | some j => j.hi | none => 0
def crowdE (s : STA) (x : GE) : Bool := isJ s x.job && decide (maxOf s x.job < (x.L.length : Int))
def crowdL (s : STA) (L : List AG) : Bool := L.any fun a => hasA a && (isJ s a.job && decide (maxOf s a.job < (cntG L a.job a.inc : Int)))
theorem crowd_eq {s : STA} {G : List GE} {L : List AG} (h : GInv G L) : G.any (crowdE s) = crowdL s L := by
  unfold crowdL
  rw [Bool.eq_iff_iff, List.any_eq_true, List.any_eq_true]
  constructor
  · rintro ⟨x, hx, hc⟩
    obtain ⟨h1, h2⟩ := h.len x hx
    rw [h1] at h2
    unfold cntG at h2
    obtain ⟨a, ha⟩ := List.exists_mem_of_length_pos h2
    obtain ⟨ha1, ha2⟩ := List.mem_filter.1 ha
    unfold ofG at ha2
    simp only [Bool.and_eq_true, decide_eq_true_eq] at ha2
    refine ⟨a, ha1, ?_⟩
    unfold crowdE at hc
    rw [h1] at hc
    rw [ha2.1, ha2.2.1, ha2.2.2]
    simpa using hc
  · rintro ⟨a, ha, hc⟩
    rw [Bool.and_eq_true] at hc
    obtain ⟨x, hx, e1, e2⟩ := h.all a ha hc.1
    refine ⟨x, hx, ?_⟩
    unfold crowdE
    rw [(h.len x hx).1, e1, e2]
    exact hc.2
end Go.Proofs.Ytilobmefomoemaa
