/- The statements of layer 11: alive. StoreTwice. What is done to stores. -/
import Derived.Test.YtjfbmgndekfglaaDoorStores
import Derived.Test.YtjfbmgndekfglaaDoorLogs
import Derived.Test.YtjfbmgndekfglaaDoorOpens
namespace Go.Proofs.YtjfbmgndekfglaaDoor
set_option linter.unusedVariables false
set_option linter.unusedSimpArgs false
open Go.RowKit
def sa1 : SS := (sStage (SS.new 5) 0 1 2 [97, 98, 99]).2
def sa2 : SS := (sCommit sa1 1 2).2
theorem sb_1 : sStage (SS.new 5) 0 1 2 [97, 98, 99] = (0, sa1) := by kernel_rfl
theorem sb_2 : sCommit sa1 1 2 = (0, sa2) := by kernel_rfl
theorem sb_3 : sGet sa2 1 2 = some [97, 98, 99] := by kernel_rfl
theorem sb_4 : sStage sa2 0 1 3 [120, 121, 122] = (3, sa2) := by kernel_rfl
theorem sb_5 : sStage sa2 0 1 2 [120] = (6, sa2) := by kernel_rfl
theorem sb_6 : usedP sa2.js = 3 ∧ sCounts sa2 1 = 2 ∧ sa2.writes = 1 ∧ sa2.term = 0 ∧ (SS.new 5).writes = 0 := ⟨by kernel_rfl, by kernel_rfl, by kernel_rfl, by kernel_rfl, by kernel_rfl⟩
end Go.Proofs.YtjfbmgndekfglaaDoor

namespace Go.Proofs.YtjfbmgndekfglaaDoor
set_option linter.unusedVariables false
set_option linter.unusedSimpArgs false
open Go.RowKit
theorem SS.job_put {s : SS} {n : Int} (h : n.toNat < s.js.length) (x : PS) : (s.put n x).job n = x := by
  unfold SS.put SS.job
  simp [List.getD, h]
theorem jobOk_lt {s : SS} (h : s.js.length = 25) {n : Int} (hn : jobOk n) : n.toNat < s.js.length := by
  unfold jobOk at hn; omega
def s5k : SS := SS.new 5000
theorem s5k_job (n : Int) : s5k.job n = PS.nil := by
  unfold SS.job s5k SS.new
  simp only [List.getD]
  rcases Nat.lt_or_ge n.toNat 25 with h | h
  · rw [List.getElem?_replicate, if_pos h]; rfl
  · rw [List.getElem?_replicate, if_neg (by omega)]; rfl
theorem s5k_used : usedP s5k.js = 0 := by kernel_rfl
theorem s5k_len : s5k.js.length = 25 := by kernel_rfl
theorem tw_stage (t j e : Int) (a : List UInt8) : (t < 0 ∨ ¬ jobOk j ∨ e < 1 ∨ 1000000 < e ∨ a.length = 0 ∨ 100 < a.length) ∧ (sStage s5k t j e a).1 ≠ 0 ∧ (sStage s5k t j e a).2 = s5k ∨
    (¬ t < 0 ∧ jobOk j ∧ 1 ≤ e ∧ ¬ 1000000 < e ∧ a.length ≠ 0 ∧ a.length ≤ 100) ∧ sStage s5k t j e a = (0, { s5k.put j ⟨0, [], e, a⟩ with writes := 1 }) := by
  have ht : s5k.term = 0 := rfl
  have hr : s5k.room = 5000 := rfl
  by_cases h1 : t < 0
  · left; refine ⟨.inl h1, ?_, ?_⟩ <;> (unfold sStage; rw [ht, if_pos h1]); simp
  by_cases h2 : ¬ jobOk j ∨ e < 1 ∨ 1000000 < e ∨ a.length = 0 ∨ 100 < a.length
  · left; refine ⟨.inr h2, ?_, ?_⟩ <;> (unfold sStage; rw [ht, if_neg h1, if_pos h2]); simp
  right
  have h3 := h2
  simp only [not_or, Decidable.not_not] at h3
  obtain ⟨q1, q2, q3, q4, q5⟩ := h3
  refine ⟨⟨h1, q1, by omega, q3, q4, by omega⟩, ?_⟩
  unfold sStage
  rw [ht, if_neg h1, if_neg h2, s5k_job, if_neg (by show ¬ (e ≤ 0 ∨ e < 0); omega), if_neg (by show ¬ e = 0; omega), s5k_used, hr, if_neg (by show ¬ ((5000 : Int) < ((0 : Nat) : Int) - ((([] : List UInt8).length : Nat) : Int) + (a.length : Int)); simp; omega)]
  rfl
theorem tw_none (j e : Int) (h : ¬ (jobOk j ∧ 1 ≤ e ∧ e = 0)) : sGet s5k j e = none ∧ sCommit s5k j e = (4, s5k) := by
  constructor
  · unfold sGet
    by_cases h1 : ¬ jobOk j ∨ e < 1
    · rw [if_pos h1]
    · rw [if_neg h1, s5k_job, if_neg (by show ¬ (0 : Int) = e; omega), if_neg (by show ¬ (0 : Int) = e; omega)]
  · unfold sCommit
    rw [if_pos]
    by_cases h1 : jobOk j
    · by_cases h2 : e < 1
      · exact .inr (.inl h2)
      · rw [s5k_job]; exact .inr (.inr ⟨by show e ≠ 0; omega, by show e ≠ 0; omega⟩)
    · exact .inl h1
theorem tw_second {s : SS} (hl : s.js.length = 25) {t j e : Int} {a b : List UInt8} (h1 : ¬ t < s.term) (hj : jobOk j) (he : 1 ≤ e) (he2 : ¬ 1000000 < e) (hs : s.job j = ⟨0, [], e, a⟩) :
    (sStage s t j e b).2 = s ∧ (0 < b.length → b.length ≤ 100 → (sStage s t j e b).1 = 0) ∧ sCommit s j e = (0, s.put j ⟨e, a, 0, []⟩) := by
  refine ⟨?_, ?_, ?_⟩
  · unfold sStage
    rw [if_neg h1]
    split
    · rfl
    · rw [hs, if_neg (by show ¬ (e ≤ 0 ∨ e < e); omega), if_pos (by rfl)]
  · intro h2 h3
    unfold sStage
    rw [if_neg h1, if_neg (by rintro (q | q | q | q | q); exact q hj; all_goals omega), hs, if_neg (by show ¬ (e ≤ 0 ∨ e < e); omega), if_pos (by rfl)]
  · unfold sCommit
    rw [hs, if_neg (by rintro (q | q | q); exact q hj; omega; exact q.2 rfl), if_pos (by rfl)]
theorem tw_third {s : SS} {t j e : Int} {a b : List UInt8} (h1 : ¬ t < s.term) (hj : jobOk j) (he : 1 ≤ e) (hs : s.job j = ⟨e, a, 0, []⟩) :
    sCommit s j e = (0, s) ∧ sGet s j e = some a ∧ sCounts s j = e ∧ (sStage s t j e b).1 ≠ 0 := by
  refine ⟨?_, ?_, ?_, ?_⟩
  · unfold sCommit
    rw [hs, if_neg (by rintro (q | q | q); exact q hj; omega; exact q.1 rfl), if_neg (by show ¬ e = 0; omega)]
  · unfold sGet
    rw [if_neg (by rintro (q | q); exact q hj; omega), hs, if_pos rfl]
  · unfold sCounts
    rw [if_pos hj, hs]
  · unfold sStage
    rw [if_neg h1]
    split
    · simp
    · rw [hs, if_pos (.inl (by show e ≤ e; omega))]; simp
end Go.Proofs.YtjfbmgndekfglaaDoor

namespace Go.Proofs.YtjfbmgndekfglaaDoor
set_option linter.unusedVariables false
set_option linter.unusedSimpArgs false
open Go.RowKit
structure TAct where
  kind : Int
  term : Int
  job : Int
  ep : Int
  a : Option Addr
  n : Nat
  c : Nat
  b : List UInt8
def TAct.cs (x : TAct) : List Value := [.int .i64 x.kind, .int .i64 x.term, .int .i64 x.job, .int .i64 x.ep, .slice x.a x.n x.c]
structure TAct.Ok (w : World) (x : TAct) : Prop where
  len : x.b.length = x.n
  le : x.n ≤ x.c
  big : x.c ≤ maxLen
  nil : x.a = none → x.c = 0
  isAt : At w x.a x.b
def TAt (w : World) (A : Addr) (x : TAct) : Prop := w.cell? A = some (.int .i64 x.kind) ∧ w.cell? { block := A.block, off := A.off + 1 } = some (.int .i64 x.term) ∧ w.cell? { block := A.block, off := A.off + 2 } = some (.int .i64 x.job) ∧ w.cell? { block := A.block, off := A.off + 3 } = some (.int .i64 x.ep) ∧ w.cell? { block := A.block, off := A.off + 4 } = some (.slice x.a x.n x.c)
theorem St.tact {w0 w : World} {l : List Thing} (S : St w0 w l) (k : Nat) {g : Nat} {T : TypeId} {x : TAct} (h : l[k]? = some (cellsT g T x.cs)) :
    w.cell? ⟨g, 0, none⟩ = some (.int .i64 x.kind) ∧ w.cell? ⟨g, 1, none⟩ = some (.int .i64 x.term) ∧ w.cell? ⟨g, 2, none⟩ = some (.int .i64 x.job) ∧ w.cell? ⟨g, 3, none⟩ = some (.int .i64 x.ep) ∧ w.cell? ⟨g, 4, none⟩ = some (.slice x.a x.n x.c) :=
  ⟨S.cell k h 0 rfl, S.cell k h 1 rfl, S.cell k h 2 rfl, S.cell k h 3 rfl, S.cell k h 4 rfl⟩
theorem newAtG {w0 w : World} {l : List Thing} (S : St w0 w l) (T : TypeId) (cs : Array Value) (g : Nat) (hg : w.heap.size = g) : St w0 (w.alloc (.cells cs T)) (l ++ [cellsT g T cs.toList]) := hg ▸ S.newCells T cs
def few11 (l : List TAct) : Bool := decide (l.length ≤ 60) && l.all fun x => decide (x.n ≤ 200)
/-- What is staged has bytes. -/
def SS.Full (s : SS) : Prop := ∀ x ∈ s.js, 1 ≤ x.se → 1 ≤ x.sd.length
theorem mem_put {s : SS} {n : Int} {y : PS} {P : PS → Prop} (h : ∀ x ∈ s.js, P x) (hy : P y) : ∀ x ∈ (s.put n y).js, P x := fun x hx => (List.mem_or_eq_of_mem_set hx).elim (h x) (fun e => e ▸ hy)
theorem SS.Full.stage {s : SS} (h : s.Full) (t j e : Int) (b : List UInt8) : (sStage s t j e b).2.Full := by
  unfold sStage
  split
  · exact h
  split
  · exact h
  · rename_i hb
    split
    · exact h
    split
    · exact h
    split
    · exact h
    · exact mem_put h (fun _ => by show 1 ≤ b.length; omega)
theorem SS.Full.new (room : Int) : (SS.new room).Full := by
  intro x hx
  rw [List.eq_of_mem_replicate hx]
  intro h; cases h
theorem sStage_term (s : SS) (t j e : Int) (b : List UInt8) : (sStage s t j e b).2.term = s.term ∧ (sStage s t j e b).2.writes ≤ s.writes + 1 ∧ (sStage s t j e b).2.room = s.room := by
  unfold sStage
  (repeat' split) <;> simp [SS.put]
theorem mem_le_sum : ∀ {l : List Nat} {x : Nat}, x ∈ l → x ≤ l.sum
  | y :: l, x, h => by
    rw [List.sum_cons]
    rcases List.mem_cons.1 h with h | h
    · omega
    · have := mem_le_sum h; omega
theorem usedP_pos {s : SS} {x : PS} (h : x ∈ s.js) (h1 : 1 ≤ x.sd.length) : 0 < usedP s.js := by
  unfold usedP
  have : x.cd.length + x.sd.length ∈ s.js.map fun x => x.cd.length + x.sd.length := List.mem_map_of_mem h
  have := mem_le_sum this
  omega
/-- What was staged already. -/
theorem sStage_same {s : SS} (hl : s.js.length = 25) (h : s.Full) {t j e : Int} {b : List UInt8} (h0 : (sStage s t j e b).1 = 0) (hw : (sStage s t j e b).2.writes = s.writes) : 0 < usedP (sStage s t j e b).2.js := by
  unfold sStage at h0 hw ⊢
  split at h0
  · simp at h0
  · rename_i h1
    rw [if_neg h1] at hw ⊢
    split at h0
    · simp at h0
    · rename_i h2
      rw [if_neg h2] at hw ⊢
      split at h0
      · simp at h0
      · rename_i h3
        rw [if_neg h3] at hw ⊢
        split at h0
        · rename_i h4
          rw [if_pos h4] at hw ⊢
          have hj : jobOk j := by
            rcases Decidable.em (jobOk j) with q | q
            · exact q
            · exact absurd (.inl q) h2
          have hlt : j.toNat < s.js.length := by unfold jobOk at hj; omega
          have hx : s.job j = s.js[j.toNat] := by unfold SS.job; simp [List.getD, hlt]
          refine usedP_pos (List.getElem_mem hlt) (h _ (List.getElem_mem hlt) ?_)
          rw [← hx, ← h4]
          omega
        · rename_i h4
          rw [if_neg h4] at hw
          split at hw
          · rename_i h5
            rw [if_pos h5] at h0
            simp at h0
          · simp [SS.put] at hw

end Go.Proofs.YtjfbmgndekfglaaDoor
