/- A disk as lists: no program in sight. The walks of layer 4's functions. The walk of Write. The walks of Waits, Bytes, done, Sync and Crash. The walks of done, Sync and Crash. -/
import Derived.Test.YtjfbmgndekfglaaDoorGround
namespace Go.Proofs.YtjfbmgndekfglaaDoor
set_option linter.unusedVariables false
set_option linter.unusedSimpArgs false
open Go.RowKit

/-- What lasts, what waits (a place and its bytes), how often it was synced. -/
structure DSt where
  lasts : List UInt8
  waits : List (Nat × List UInt8)
  syncs : Nat

/-- The bytes behind `keep` more of the bytes that wait. -/
def dDone (l : List UInt8) (keep : Int) : List (Nat × List UInt8) → List UInt8
  | [] => l
  | x :: ws => dDone (splice l x.1 (x.2.take (min keep x.2.length).toNat)) (keep - (max 0 (min keep x.2.length))) ws
def dAll (l : List UInt8) : List (Nat × List UInt8) → List UInt8
  | [] => l
  | x :: ws => dAll (splice l x.1 x.2) ws
def dWaits : List (Nat × List UInt8) → Nat
  | [] => 0
  | x :: ws => x.2.length + dWaits ws

def DSt.new (n : Nat) : DSt := ⟨List.replicate n 0, [], 0⟩
def DSt.can (d : DSt) (a : Int) (n : Nat) : Int := if a < 0 then 1 else if (n : Int) > d.lasts.length ∨ a > (d.lasts.length : Int) - n then 3 else 0
def DSt.write (d : DSt) (a : Int) (b : List UInt8) : DSt := if d.can a b.length = 0 then { d with waits := d.waits ++ [(a.toNat, b)] } else d
def DSt.crash (d : DSt) (keep : Int) : DSt := { d with lasts := dDone d.lasts keep d.waits, waits := [] }
def DSt.sync (d : DSt) : DSt := { d.crash (dWaits d.waits) with syncs := d.syncs + 1 }
def DSt.bytes (d : DSt) : List UInt8 := dAll d.lasts d.waits

theorem splice_len {l : List UInt8} {k : Nat} {b : List UInt8} (h : k + b.length ≤ l.length) : (splice l k b).length = l.length := by simp [splice]; omega
theorem dAll_snoc : ∀ (ws : List (Nat × List UInt8)) (l : List UInt8) (x : Nat × List UInt8), dAll l (ws ++ [x]) = splice (dAll l ws) x.1 x.2
  | [], l, x => rfl
  | y :: ws, l, x => dAll_snoc ws _ x
theorem dAll_len : ∀ (ws : List (Nat × List UInt8)) (l : List UInt8), (∀ x ∈ ws, x.1 + x.2.length ≤ l.length) → (dAll l ws).length = l.length
  | [], l, h => rfl
  | x :: ws, l, h => by
    have e := splice_len (h x (by simp))
    rw [dAll, dAll_len ws _ (by intro y hy; rw [e]; exact h y (by simp [hy])), e]
theorem dDone_len : ∀ (ws : List (Nat × List UInt8)) (l : List UInt8) (keep : Int), (∀ x ∈ ws, x.1 + x.2.length ≤ l.length) → (dDone l keep ws).length = l.length
  | [], l, keep, h => rfl
  | x :: ws, l, keep, h => by
    have e : (splice l x.1 (x.2.take (min keep x.2.length).toNat)).length = l.length := by
      have := h x (by simp)
      refine splice_len ?_
      rw [List.length_take]; omega
    rw [dDone, dDone_len ws _ _ (by intro y hy; rw [e]; exact h y (by simp [hy])), e]
theorem dWaits_snoc : ∀ (ws : List (Nat × List UInt8)) (x : Nat × List UInt8), dWaits (ws ++ [x]) = dWaits ws + x.2.length
  | [], x => by simp [dWaits]
  | y :: ws, x => by rw [List.cons_append, dWaits, dWaits_snoc ws x, dWaits]; omega
theorem dWaits_take {ws : List (Nat × List UInt8)} {k : Nat} (h : k < ws.length) : dWaits (ws.take (k + 1)) = dWaits (ws.take k) + ws[k].2.length := by
  rw [List.take_succ_eq_append_getElem h, dWaits_snoc]
theorem dAll_take {ws : List (Nat × List UInt8)} {l : List UInt8} {k : Nat} (h : k < ws.length) : dAll l (ws.take (k + 1)) = splice (dAll l (ws.take k)) ws[k].1 ws[k].2 := by
  rw [List.take_succ_eq_append_getElem h, dAll_snoc]
/-- The last step of what is done: what was kept of the first ones is what is left. -/
def dKeep (keep : Int) : List (Nat × List UInt8) → Int
  | [] => keep
  | x :: ws => dKeep (keep - (max 0 (min keep x.2.length))) ws
theorem dKeep_snoc : ∀ (ws : List (Nat × List UInt8)) (keep : Int) (x : Nat × List UInt8), dKeep keep (ws ++ [x]) = dKeep keep ws - max 0 (min (dKeep keep ws) x.2.length)
  | [], keep, x => rfl
  | y :: ws, keep, x => dKeep_snoc ws _ x
theorem dDone_snoc : ∀ (ws : List (Nat × List UInt8)) (l : List UInt8) (keep : Int) (x : Nat × List UInt8), dDone l keep (ws ++ [x]) = splice (dDone l keep ws) x.1 (x.2.take (min (dKeep keep ws) x.2.length).toNat)
  | [], l, keep, x => rfl
  | y :: ws, l, keep, x => dDone_snoc ws _ _ x
theorem dKeep_take {ws : List (Nat × List UInt8)} {keep : Int} {k : Nat} (h : k < ws.length) : dKeep keep (ws.take (k + 1)) = dKeep keep (ws.take k) - max 0 (min (dKeep keep (ws.take k)) ws[k].2.length) := by
  rw [List.take_succ_eq_append_getElem h, dKeep_snoc]
theorem dDone_take {ws : List (Nat × List UInt8)} {l : List UInt8} {keep : Int} {k : Nat} (h : k < ws.length) :
    dDone l keep (ws.take (k + 1)) = splice (dDone l keep (ws.take k)) ws[k].1 (ws[k].2.take (min (dKeep keep (ws.take k)) ws[k].2.length).toNat) := by
  rw [List.take_succ_eq_append_getElem h, dDone_snoc]

end Go.Proofs.YtjfbmgndekfglaaDoor

namespace Go.Proofs.YtjfbmgndekfglaaDoor
set_option linter.unusedVariables false
set_option linter.unusedSimpArgs false
open Go.RowKit

/-- One write that waits, as it lies. -/
structure WR where
  at_ : Nat
  a : Option Addr
  n : Nat
  c : Nat
def WR.v (x : WR) : Value := .slice x.a x.n x.c
theorem own_whole {w : World} {B g n : Nat} {l : List UInt8} (h : Own w B (.slice (some ⟨g, 0, none⟩) n n) l) : w.heap[g]? = some (.cells (l.map bv).toArray 5 (0, 0)) ∧ l.length = n := by
  obtain ⟨_, h⟩ := h
  rcases h with ⟨h0, _⟩ | ⟨g', cap, cur, e, hB, hg, h1, h2, h3, h4⟩
  · cases h0
  · cases e
    refine ⟨?_, rfl⟩
    rw [Nat.mul_one] at h3
    rw [Nat.mul_one, List.take_of_length_le (by simp [h3])] at h4
    rw [hg, ← h4, Array.toArray_toList]
theorem cells3 {w : World} {g : Nat} {x y z : Value} {T : TypeId} (h : w.heap[g]? = some (.cells #[x, y, z] T (0, 0))) :
    w.cell? ⟨g, 0, none⟩ = some x ∧ w.cell? ⟨g, 1, none⟩ = some y ∧ w.cell? ⟨g, 2, none⟩ = some z ∧ ∀ j, w.frozen? ⟨g, j, none⟩ = false :=
  ⟨cell_of_row w g 0 _ _ _ h, cell_of_row w g 1 _ _ _ h, cell_of_row w g 2 _ _ _ h, fun j => frozen_of_row w g j _ _ h⟩

theorem errno_case (d : DSt) (a : Int) (n : Nat) : d.can a n = if a < 0 then 1 else if (n : Int) > d.lasts.length ∨ a > (d.lasts.length : Int) - n then 3 else 0 := rfl

theorem heap_set3 {w : World} {g : Nat} {x y z : Value} {T : TypeId} (h : w.heap[g]? = some (.cells #[x, y, z] T (0, 0))) (u : Value) :
    (w.setCell ⟨g, 0, none⟩ u).heap[g]? = some (.cells #[u, y, z] T (0, 0)) ∧ (w.setCell ⟨g, 1, none⟩ u).heap[g]? = some (.cells #[x, u, z] T (0, 0)) ∧ (w.setCell ⟨g, 2, none⟩ u).heap[g]? = some (.cells #[x, y, u] T (0, 0)) :=
  ⟨heap_setCell_same w g 0 _ _ u h, heap_setCell_same w g 1 _ _ u h, heap_setCell_same w g 2 _ _ u h⟩

end Go.Proofs.YtjfbmgndekfglaaDoor

namespace Go.Proofs.YtjfbmgndekfglaaDoor
set_option linter.unusedVariables false
set_option linter.unusedSimpArgs false
open Go.RowKit

end Go.Proofs.YtjfbmgndekfglaaDoor

namespace Go.Proofs.YtjfbmgndekfglaaDoor
set_option linter.unusedVariables false
set_option linter.unusedSimpArgs false
open Go.RowKit

theorem adr_two (a : Option Addr) (k j : Nat) : (adr a k).add j = adr a (k + j) := by
  unfold adr Addr.add
  by_cases hi : k = 0 <;> by_cases hj : j = 0 <;> simp [hi, hj, Nat.add_assoc]
theorem dWaits_le {ws : List (Nat × List UInt8)} {m : Nat} (h : ∀ x ∈ ws, x.1 + x.2.length ≤ m) : dWaits ws ≤ ws.length * m := by
  induction ws with
  | nil => simp [dWaits]
  | cons x ws ih =>
    have h1 := ih (fun y hy => h y (by simp [hy]))
    have h2 := h x (by simp)
    rw [dWaits, List.length_cons, Nat.add_mul]; omega

theorem Own.row {w : World} {B : Nat} {v : Value} {l : List UInt8} (h : Own w B v l) (hl : 0 < l.length) :
    ∃ g cap sp, v = .slice (some ⟨g, 0, none⟩) l.length cap ∧ B ≤ g ∧ cap = l.length + sp.length ∧ cap ≤ maxLen ∧ w.heap[g]? = some (.cells (l.map bv ++ sp).toArray 5 (0, 0)) := by
  obtain ⟨_, h⟩ := h
  rcases h with ⟨rfl, h0⟩ | ⟨g, cap, cur, rfl, hB, hg, h1, h2, h3, h4⟩
  · omega
  · refine ⟨g, cap, cur.toList.drop l.length, rfl, hB, ?_, h2, ?_⟩
    · have : (cur.toList.drop l.length).length = cur.size - l.length := by simp
      omega
    · rw [Nat.mul_one] at h4
      rw [hg, ← h4, List.take_append_drop, Array.toArray_toList]
theorem own_of_row {w : World} {B g cap : Nat} {l : List UInt8} {sp : List Value} (hB : B ≤ g) (hc : cap = l.length + sp.length) (hm : cap ≤ maxLen) (hg : w.heap[g]? = some (.cells (l.map bv ++ sp).toArray 5 (0, 0))) :
    Own w B (.slice (some ⟨g, 0, none⟩) l.length cap) l := by
  refine ⟨by simp, .inr ⟨g, cap, _, rfl, hB, hg, by omega, hm, by simp; omega, ?_⟩⟩
  simp
theorem splice_map {l b : List UInt8} {sp : List Value} {k : Nat} (h : k + b.length ≤ l.length) : splice (l.map bv ++ sp) k (b.map bv) = (splice l k b).map bv ++ sp := by
  unfold splice
  rw [List.take_append_of_le_length (by simp; omega), List.drop_append_of_le_length (by simp; omega)]
  simp
theorem cut_at {g lo cap : Nat} (h : lo < cap) : cutH (some ⟨g, 0, none⟩) lo cap = some ⟨g, lo, none⟩ := by
  unfold cutH
  rw [if_neg (by omega), Nat.mul_one]
  simp [Addr.add_lit]
theorem At.src {w : World} {a : Option Addr} {b : List UInt8} (h : At w a b) (hp : 0 < b.length) : ∃ ad, a = some ad ∧ ∀ j v, (b.map bv)[j]? = some v → w.cell? (ad.add j) = some v := by
  obtain ⟨ad, rfl⟩ := Option.isSome_iff_exists.1 (h.ok hp)
  refine ⟨ad, rfl, fun j v hj => ?_⟩
  simp only [List.getElem?_map, Option.map_eq_some_iff] at hj
  obtain ⟨c, hc, rfl⟩ := hj
  obtain ⟨hk, rfl⟩ := List.getElem?_eq_some_iff.1 hc
  exact (h j hk).2

end Go.Proofs.YtjfbmgndekfglaaDoor

namespace Go.Proofs.YtjfbmgndekfglaaDoor
set_option linter.unusedVariables false
set_option linter.unusedSimpArgs false
open Go.RowKit

end Go.Proofs.YtjfbmgndekfglaaDoor
