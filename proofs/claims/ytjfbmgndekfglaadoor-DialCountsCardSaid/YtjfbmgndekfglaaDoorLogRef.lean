/- The document's log (dunnageref05): its walks. -/
import Derived.Test.YtjfbmgndekfglaaDoorLogs
namespace Go.Proofs.YtjfbmgndekfglaaDoor
set_option linter.unusedVariables false
set_option linter.unusedSimpArgs false
open Go.RowKit

theorem step_make {ops : Array Oper} {o : Oper} {a : Act} {w : World} {K : Act → World → Prop} {Q : Exit → Act → World → Prop} {E : Prop} (hw : Region.wanted o (yielded ops a.tmps) = true) (s x : Operand) (t : TypeId)
    (ho : o.op = .makeSlice t s x) {R : Value → World → Prop} (v y : Value) (hs : a.eval s = v) (hx : a.eval x = y)
    (hr : ∃ v' w', (Instr.makeSlice t v y).run Tryd.prog w = .ok v' w' ∧ R v' w') (h : ∀ v' w', R v' w' → K (a.put o.dst v') w') : if Region.wanted o (yielded ops a.tmps) = true then Oper.wp Tryd.prog o a w K Q else E := by
  rw [if_pos hw]
  exact wp_make s x t ho v y hs hx hr h
/-- A document's log as it lies. -/
def rlogC (pr : Value) (fr sz : Nat) (vL : Value) : List Value := [pr, .int .i64 (fr : Int), .int .i64 (sz : Int), vL]
def RD.nought (r : RD) (fr sz at_ : Nat) : RD := (r.write ((fr + at_ : Nat) : Int) (List.replicate (sz - at_) 0)).sync
theorem RD.write_len (r : RD) (a : Int) (l : List UInt8) : (r.write a l).ps.length ≤ r.ps.length + l.length ∧ (r.write a l).syncs = r.syncs ∧ (r.write a l).b = r.b := by
  unfold RD.write
  split
  · exact ⟨Nat.le_add_right _ _, rfl, rfl⟩
  · exact ⟨by simp, rfl, rfl⟩
/-- What the document's Put answers and leaves. -/
def rlogPut (fr sz : Nat) (r : RD) (ps : List (List UInt8)) (l : List UInt8) : Int × RD × List (List UInt8) :=
  if (frameB l).length = 0 then (1, r, ps)
  else if sz < (frameB l).length + (ps.flatMap frameB).length then (3, r, ps)
  else (0, r.write ((fr + (ps.flatMap frameB).length : Nat) : Int) (frameB l), ps ++ [l])
theorem frameB_le (l : List UInt8) : (frameB l).length ≤ 4020 := by
  by_cases h1 : 1 ≤ l.length
  · by_cases h2 : l.length ≤ 4000
    · rw [frame_len h1 h2]
      have := codeNum_len (l.length : Int)
      omega
    · unfold frameB; rw [if_pos (by omega)]; simp
  · unfold frameB; rw [if_pos (by omega)]; simp

section
variable {w0 w : World} {tl : List Thing} {pr vL : Value} {r : RD} {g fr sz : Nat} {xs : List BS}
theorem St.swap23 {x y z : Thing} (S : St w0 w (x :: y :: z :: tl)) : St w0 w (x :: z :: y :: tl) := ((S.front 1 rfl).front 2 rfl).front 2 rfl
end

end Go.Proofs.YtjfbmgndekfglaaDoor
