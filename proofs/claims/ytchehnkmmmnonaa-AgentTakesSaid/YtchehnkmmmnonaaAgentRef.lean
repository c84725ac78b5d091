/- The document's agent: Loose, Tell, Take. -/
import Derived.Test.YtchehnkmmmnonaaAgentLaws
import Derived.Test.YtchehnkmmmnonaaStoreRefOwn
namespace Go.Proofs.Ytchehnkmmmnonaa
set_option linter.unusedVariables false
set_option linter.unusedSimpArgs false
open Go.RowKit
set_option maxRecDepth 10000 in
set_option maxHeartbeats 1600000 in
theorem agrLoose (a : AG) (w : World) : Calls Try.prog 24 #[.agg #[.bool a.up, .int .i64 a.term, .int .i64 a.gen, .int .i64 a.mode, .int .i64 a.job, .int .i64 a.inc, .int .i64 a.version, .int .i64 a.lease, .int .i64 a.worked, .int .i64 a.to_]] w fun e w' => e = .returned (aLoose a).v ∧ Below w.heap.size w w' := by
  go_enter Try.func24, Try.ntmps24
  go_wp2
  exact bodyPost_ret (res_ag rfl _ _ (w.heap.size + 1) _ rfl (heap2 _ _ _ _) rfl) rfl ⟨rfl, (((St.start w).alloc _).alloc _).fin⟩
set_option maxRecDepth 10000 in
set_option maxHeartbeats 1600000 in
theorem agrTell (a : AG) (node : Int) (w : World) : Calls Try.prog 11 #[.agg #[.bool a.up, .int .i64 a.term, .int .i64 a.gen, .int .i64 a.mode, .int .i64 a.job, .int .i64 a.inc, .int .i64 a.version, .int .i64 a.lease, .int .i64 a.worked, .int .i64 a.to_], .int .i64 node] w fun e w' => e = .returned (aTell a node).v ∧ Below w.heap.size w w' := by
  go_enter Try.func11, Try.ntmps11
  go_wp2
  exact bodyPost_ret (res_msgA rfl _ _ (w.heap.size + 1) _ rfl (by exact (newAtG (newAtG ((St.start w).newCells 23 #[.bool a.up, .int .i64 a.term, .int .i64 a.gen, .int .i64 a.mode, .int .i64 a.job, .int .i64 a.inc, .int .i64 a.version, .int .i64 a.lease, .int .i64 a.worked, .int .i64 a.to_]) 25 (aTell a node).cs.toArray _ (alloc_size _ _)) 25 (aTell a node).cs.toArray (w.heap.size + 1 + 1) (by simp only [alloc_size])).heap 1 rfl) rfl) rfl ⟨rfl, ((((St.start w).alloc _).alloc _).alloc _).fin⟩
def rSave (a : AG) (m : Msg) (now : Int) (q : QS) : AG × QS :=
  if ownsJ a m 2 = true ∧ now < a.lease then
    if m.mode = 1 then (if (qStage q m.term a.job a.inc (ckData a.worked)).1 = 0 then { a with mode := 3 } else a, (qStage q m.term a.job a.inc (ckData a.worked)).2)
    else ({ a with mode := 3 }, q)
  else (a, q)
def rOrder (b : AG) (m : Msg) (now : Int) (q : QS) : AG × QS :=
  if m.kind = 1 then (oRest b, q) else if m.kind = 2 then (oTake b m now, q) else if m.kind = 3 then (oWork b m, q) else if m.kind = 4 then rSave b m now q else (oTurn b m, q)
theorem rOrder_rel {s : SS} {q : QS} (h : RelS s q) (b : AG) (m : Msg) (now : Int) : (oOrder b m now (some s)).1 = (rOrder b m now q).1 ∧ ∃ s', (oOrder b m now (some s)).2 = some s' ∧ RelS s' (rOrder b m now q).2 := by
  unfold oOrder rOrder
  split
  · exact ⟨rfl, s, rfl, h⟩
  · split
    · exact ⟨rfl, s, rfl, h⟩
    · split
      · exact ⟨rfl, s, rfl, h⟩
      · split
        · unfold oSave rSave
          split
          · split
            · obtain ⟨h1, h2⟩ := h.stage m.term b.job b.inc (ckData b.worked)
              refine ⟨?_, _, rfl, h2⟩
              show (if (sStage s m.term b.job b.inc (ckData b.worked)).1 = 0 then _ else _) = _
              rw [h1]
            · exact ⟨rfl, s, rfl, h⟩
          · exact ⟨rfl, s, rfl, h⟩
        · exact ⟨rfl, s, rfl, h⟩
theorem aRenew_lt {a : AG} {m : Msg} (h : a.lease < m.until_) : aRenew a m = { a with lease := m.until_ } := by
  unfold aRenew; rw [Int.max_eq_right (by omega)]
theorem aRenew_ge {a : AG} {m : Msg} (h : ¬ a.lease < m.until_) : aRenew a m = a := by
  unfold aRenew; rw [Int.max_eq_left (by omega)]
end Go.Proofs.Ytchehnkmmmnonaa
