/- NetOrder. -/
import Derived.Test.YtilobmefomoemaaDoorNetLaws
namespace Go.Proofs.YtilobmefomoemaaDoor
set_option linter.unusedVariables false
set_option linter.unusedSimpArgs false
open Go.RowKit
/-- A message behind an address. -/
def MsgAt (w : World) (A : Addr) (m : Msg) : Prop := w.cell? (A) = some (.int .i64 m.node) ∧ w.cell? { block := (A).block, off := (A).off + 1 } = some (.int .i64 m.kind) ∧ w.cell? { block := (A).block, off := (A).off + 2 } = some (.int .i64 m.term) ∧ w.cell? { block := (A).block, off := (A).off + 3 } = some (.int .i64 m.gen) ∧ w.cell? { block := (A).block, off := (A).off + 4 } = some (.int .i64 m.job) ∧ w.cell? { block := (A).block, off := (A).off + 5 } = some (.int .i64 m.inc) ∧ w.cell? { block := (A).block, off := (A).off + 6 } = some (.int .i64 m.version) ∧ w.cell? { block := (A).block, off := (A).off + 7 } = some (.int .i64 m.epoch) ∧ w.cell? { block := (A).block, off := (A).off + 8 } = some (.int .i64 m.until_) ∧ w.cell? { block := (A).block, off := (A).off + 9 } = some (.int .i64 m.mode) ∧ w.cell? { block := (A).block, off := (A).off + 10 } = some (.int .i64 m.work)
theorem AtG.msgAt {w : World} {a : Option Addr} {l : List Msg} (h : AtG eM w a l) {k : Nat} (hk : k < l.length) : MsgAt w (adr a (k * 11)) l[k] := by
  have hj : ∀ j, j < 11 → w.cell? ((adr a (k * 11)).add j) = (eM.enc l[k])[j]? := by
    intro j hj
    have := (h k hk).2 j hj
    rw [show eM.s = 11 from rfl, ← adr_two] at this
    exact this
  exact ⟨hj 0 (by decide), hj 1 (by decide), hj 2 (by decide), hj 3 (by decide), hj 4 (by decide), hj 5 (by decide), hj 6 (by decide), hj 7 (by decide), hj 8 (by decide), hj 9 (by decide), hj 10 (by decide)⟩
theorem idxM (a : Option Addr) (n cap : Nat) (hn : 0 < n → a.isSome = true) (k : Nat) (hk : k < n) (wx : World) :
    (Instr.indexAt 51 (.slice a n cap) (.int .i64 (k : Int))).run Tryd.prog wx = .ok (.pointer (some (adr a (k * 11)))) wx := idxG eMok a n cap hn k k rfl hk wx
def sentOf (L : List Msg) : List Msg := L.filter Msg.right
/-- A net of such messages. -/
def nO (W : List Msg) (s : Nat) : NS := ⟨W.map fun m => ⟨m, none⟩, s⟩
theorem sentOf_step {L : List Msg} {k : Nat} (hk : k < L.length) : sentOf (L.take (k + 1)) = sentOf (L.take k) ++ if L[k].right = true then [L[k]] else [] := by
  unfold sentOf
  rw [List.take_succ_eq_append_getElem hk, List.filter_append]
  congr 1
  cases h : L[k].right <;> simp [h]
theorem sentOf_len (L : List Msg) : (sentOf L).length ≤ L.length := List.length_filter_le _ _
theorem nO_send {W : List Msg} {s : Nat} {m : Msg} (h : W.length < 40) : nSend (nO W s) m = (m.right, nO (W ++ if m.right = true then [m] else []) (s + if m.right = true then 1 else 0)) := by
  unfold nSend nO
  cases hr : m.right with
  | true => rw [if_pos ⟨by simpa using h, rfl⟩]; simp
  | false => rw [if_neg (by simp)]; simp
theorem nO_drop {W : List Msg} {s k : Nat} (h : k < W.length) : nDrop (nO W s) (k : Int) = (true, nO (W.eraseIdx k) s) := by
  unfold nDrop nO
  rw [if_pos (by simp; omega)]
  simp only [Int.toNat_natCast, List.eraseIdx_eq_take_drop_succ, List.map_append, List.map_take, List.map_drop]
theorem nO_deliver {W : List Msg} {s : Nat} {m : Msg} : nDeliver (nO (m :: W) s) 0 = (some m, nO W s) := by
  unfold nDeliver nO
  rw [if_pos ⟨Int.le_refl _, by simp⟩]
  rfl
end Go.Proofs.YtilobmefomoemaaDoor
