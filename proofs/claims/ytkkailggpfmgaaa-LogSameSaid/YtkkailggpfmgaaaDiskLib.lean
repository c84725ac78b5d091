/- A disk as lists: no program in sight. -/
import Derived.Test.YtkkailggpfmgaaaMem
namespace Go.Proofs.Ytkkailggpfmgaaa
set_option linter.unusedVariables false
set_option linter.unusedSimpArgs false
open Go.RowKit

/-- What lasts, what waits (a place and its bytes), how often it was synced. -/
structure DSt where
  lasts : List UInt8
  waits : List (Nat × List UInt8)
  syncs : Nat

/-- The bytes behind `keep` more of the bytes that wait. -/
def dDone (l : List UInt8) (keep : Int) : List (Nat × List UInt8) → List UInt8
  | [] => l
  | x :: ws => dDone (splice l x.1 (x.2.take (min keep x.2.length).toNat)) (keep - (max 0 (min keep x.2.length))) ws
def dAll (l : List UInt8) : List (Nat × List UInt8) → List UInt8
  | [] => l
  | x :: ws => dAll (splice l x.1 x.2) ws
def dWaits : List (Nat × List UInt8) → Nat
  | [] => 0
  | x :: ws => x.2.length + dWaits ws

def DSt.new (n : Nat) : DSt := ⟨List.replicate n 0, [], 0⟩
def DSt.can (d : DSt) (a : Int) (n : Nat) : Int := if a < 0 then 1 else if (n : Int) > d.lasts.length ∨ a > (d.lasts.length : Int) - n then 3 else 0
def DSt.write (d : DSt) (a : Int) (b : List UInt8) : DSt := if d.can a b.length = 0 then { d with waits := d.waits ++ [(a.toNat, b)] } else d
def DSt.crash (d : DSt) (keep : Int) : DSt := { d with lasts := dDone d.lasts keep d.waits, waits := [] }
def DSt.sync (d : DSt) : DSt := { d.crash (dWaits d.waits) with syncs := d.syncs + 1 }
def DSt.bytes (d : DSt) : List UInt8 := dAll d.lasts d.waits

theorem splice_len {l : List UInt8} {k : Nat} {b : List UInt8} (h : k + b.length ≤ l.length) : (splice l k b).length = l.length := by simp [splice]; omega
theorem dAll_snoc : ∀ (ws : List (Nat × List UInt8)) (l : List UInt8) (x : Nat × List UInt8), dAll l (ws ++ [x]) = splice (dAll l ws) x.1 x.2
  | [], l, x => rfl
  | y :: ws, l, x => dAll_snoc ws _ x
theorem dAll_len : ∀ (ws : List (Nat × List UInt8)) (l : List UInt8), (∀ x ∈ ws, x.1 + x.2.length ≤ l.length) → (dAll l ws).length = l.length
  | [], l, h => rfl
  | x :: ws, l, h => by
    have e := splice_len (h x (by simp))
    rw [dAll, dAll_len ws _ (by intro y hy; rw [e]; exact h y (by simp [hy])), e]
theorem dDone_len : ∀ (ws : List (Nat × List UInt8)) (l : List UInt8) (keep : Int), (∀ x ∈ ws, x.1 + x.2.length ≤ l.length) → (dDone l keep ws).length = l.length
  | [], l, keep, h => rfl
  | x :: ws, l, keep, h => by
    have e : (splice l x.1 (x.2.take (min keep x.2.length).toNat)).length = l.length := by
      have := h x (by simp)
      refine splice_len ?_
      rw [List.length_take]; omega
    rw [dDone, dDone_len ws _ _ (by intro y hy; rw [e]; exact h y (by simp [hy])), e]
theorem dWaits_snoc : ∀ (ws : List (Nat × List UInt8)) (x : Nat × List UInt8), dWaits (ws ++ [x]) = dWaits ws + x.2.length
  | [], x => by simp [dWaits]
  | y :: ws, x => by rw [List.cons_append, dWaits, dWaits_snoc ws x, dWaits]; omega
theorem dWaits_take {ws : List (Nat × List UInt8)} {k : Nat} (h : k < ws.length) : dWaits (ws.take (k + 1)) = dWaits (ws.take k) + ws[k].2.length := by
  rw [List.take_succ_eq_append_getElem h, dWaits_snoc]
theorem dAll_take {ws : List (Nat × List UInt8)} {l : List UInt8} {k : Nat} (h : k < ws.length) : dAll l (ws.take (k + 1)) = splice (dAll l (ws.take k)) ws[k].1 ws[k].2 := by
  rw [List.take_succ_eq_append_getElem h, dAll_snoc]
/-- The last step of what is done: what was kept of the first ones is what is left. -/
def dKeep (keep : Int) : List (Nat × List UInt8) → Int
  | [] => keep
  | x :: ws => dKeep (keep - (max 0 (min keep x.2.length))) ws
theorem dKeep_snoc : ∀ (ws : List (Nat × List UInt8)) (keep : Int) (x : Nat × List UInt8), dKeep keep (ws ++ [x]) = dKeep keep ws - max 0 (min (dKeep keep ws) x.2.length)
  | [], keep, x => rfl
  | y :: ws, keep, x => dKeep_snoc ws _ x
theorem dDone_snoc : ∀ (ws : List (Nat × List UInt8)) (l : List UInt8) (keep : Int) (x : Nat × List UInt8), dDone l keep (ws ++ [x]) = splice (dDone l keep ws) x.1 (x.2.take (min (dKeep keep ws) x.2.length).toNat)
  | [], l, keep, x => rfl
  | y :: ws, l, keep, x => dDone_snoc ws _ _ x
theorem dKeep_take {ws : List (Nat × List UInt8)} {keep : Int} {k : Nat} (h : k < ws.length) : dKeep keep (ws.take (k + 1)) = dKeep keep (ws.take k) - max 0 (min (dKeep keep (ws.take k)) ws[k].2.length) := by
  rw [List.take_succ_eq_append_getElem h, dKeep_snoc]
theorem dDone_take {ws : List (Nat × List UInt8)} {l : List UInt8} {keep : Int} {k : Nat} (h : k < ws.length) :
    dDone l keep (ws.take (k + 1)) = splice (dDone l keep (ws.take k)) ws[k].1 (ws[k].2.take (min (dKeep keep (ws.take k)) ws[k].2.length).toNat) := by
  rw [List.take_succ_eq_append_getElem h, dDone_snoc]

end Go.Proofs.Ytkkailggpfmgaaa
