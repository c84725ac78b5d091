/- The statements of layer 12: alive, messages held against each other. NetBytes, NetTurned. -/
import Derived.Test.YtjfbmgndekfglaaDoorNets
import Derived.Test.YtjfbmgndekfglaaDoorEqs
namespace Go.Proofs.YtjfbmgndekfglaaDoor
set_option linter.unusedVariables false
set_option linter.unusedSimpArgs false
open Go.RowKit
def Msg.eq (m x : Msg) : Bool := decide (m.nums = x.nums)
theorem Msg.eq_iff (m x : Msg) : m.eq x = true ↔ m = x := by
  unfold Msg.eq
  rw [decide_eq_true_iff]
  refine ⟨fun h => ?_, fun h => by rw [h]⟩
  rw [← Msg.of_nums m, h, Msg.of_nums]
theorem Msg.eq_self (m : Msg) : m.eq m = true := (Msg.eq_iff m m).2 rfl
def mA : Msg := ⟨0, 1, 300, 0, 0, 0, 0, 0, 0, 0, 0⟩
theorem mA_right : mA.right = true := by rfl
def sA1 : NS := ⟨[⟨mA, none⟩], 1⟩
def sA2 : NS := ⟨[⟨mA, none⟩, ⟨mA, none⟩], 1⟩
theorem sA_1 : nSend ⟨[], 0⟩ mA = (true, sA1) := by unfold nSend; rw [if_pos ⟨by decide, mA_right⟩]; rfl
theorem sA_2 : nTwice sA1 0 = (true, sA2) := rfl
theorem sA_3 : nDeliver sA2 1 = (some mA, sA1) := rfl
theorem sA_4 : nList sA1 = [mA] := rfl
theorem sA_5 : nFlip sA1 0 3 = (true, ⟨[⟨mA, some 3⟩], 1⟩) := by
  have h := (putM_len mA_right).1
  unfold nFlip
  rw [if_pos ⟨by decide, by refine ⟨by omega, ?_⟩; show _ < ((putM mA).length : Int); omega, rfl⟩]
  rfl
theorem sA_6 : nDrop ⟨[⟨mA, some 3⟩], 1⟩ 0 = (true, ⟨[], 1⟩) := rfl
theorem St.newAt {w0 w : World} {l : List Thing} (S : St w0 w l) (T : TypeId) (cs : Array Value) (g : Nat) (hg : w.heap.size = g) : St w0 (w.alloc (.cells cs T)) (l ++ [cellsT g T cs.toList]) := hg ▸ S.newCells T cs
theorem alloc_size (w : World) (o : Obj) : (w.alloc o).heap.size = w.heap.size + 1 := by show (Array.push _ _).size = _; simp
end Go.Proofs.YtjfbmgndekfglaaDoor

namespace Go.Proofs.YtjfbmgndekfglaaDoor
set_option linter.unusedVariables false
set_option linter.unusedSimpArgs false
open Go.RowKit
theorem GetMPost.val {o : Option Msg} {e : Ending} (h : GetMPost o e) : ∃ x t, (t = true → o = some x) ∧ (t = false → o = none ∧ x = Msg.zero) ∧ e = .returned (.tuple #[.agg #[.int .i64 x.node, .int .i64 x.kind, .int .i64 x.term, .int .i64 x.gen, .int .i64 x.job, .int .i64 x.inc, .int .i64 x.version, .int .i64 x.epoch, .int .i64 x.until_, .int .i64 x.mode, .int .i64 x.work], .bool t]) := by
  cases o with
  | none => exact ⟨Msg.zero, false, fun h => (by cases h), fun _ => ⟨rfl, rfl⟩, h⟩
  | some x => exact ⟨x, true, fun _ => rfl, fun h => (by cases h), h⟩
theorem GetMPost.same {o : Option Msg} {x y : Msg} {t s : Bool} (h1 : t = true → o = some x) (h2 : t = false → o = none ∧ x = Msg.zero) (k1 : s = true → o = some y) (k2 : s = false → o = none ∧ y = Msg.zero) : x = y ∧ t = s := by
  cases t <;> cases s
  · exact ⟨(h2 rfl).2.trans (k2 rfl).2.symm, rfl⟩
  · rw [(h2 rfl).1] at k1; cases k1 rfl
  · rw [(k2 rfl).1] at h1; cases h1 rfl
  · have := (h1 rfl).symm.trans (k1 rfl)
    exact ⟨Option.some.inj this, rfl⟩
theorem nSend_new {m : Msg} (h : m.right = true) : nSend ⟨[], 0⟩ m = (true, ⟨[⟨m, none⟩], 1⟩) := by unfold nSend; rw [if_pos ⟨by decide, h⟩]; rfl
theorem nSend_not {s : NS} {m : Msg} (h : m.right = false) : nSend s m = (false, s) := by unfold nSend; rw [if_neg (by rw [h]; simp)]
end Go.Proofs.YtjfbmgndekfglaaDoor
