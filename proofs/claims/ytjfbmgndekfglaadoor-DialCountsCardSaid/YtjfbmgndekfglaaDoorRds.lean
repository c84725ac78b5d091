/- The document's disk (dunnageref04): its walks. The document's disk: Crash, Sync, Bytes. The disk and the document's disk: lists alone. -/
import Derived.Test.YtjfbmgndekfglaaDoorThings
import Derived.Test.YtjfbmgndekfglaaDoorCodes
namespace Go.Proofs.YtjfbmgndekfglaaDoor
set_option linter.unusedVariables false
set_option linter.unusedSimpArgs false
open Go.RowKit

/-- What lasts, the places and bytes that wait, how often it was synced. -/
structure RD where
  b : List UInt8
  ps : List (Nat × UInt8)
  syncs : Nat
def rdAt (ps : List (Nat × UInt8)) : List Int := ps.map fun p => (p.1 : Int)
def rdV (ps : List (Nat × UInt8)) : List UInt8 := ps.map (·.2)
def rdSet (b : List UInt8) (ps : List (Nat × UInt8)) : List UInt8 := ps.foldl (fun b p => b.set p.1 p.2) b
def RD.write (r : RD) (at_ : Int) (l : List UInt8) : RD := if at_ < 0 ∨ (r.b.length : Int) < at_ + l.length then r else { r with ps := r.ps ++ (List.range l.length).map fun i => (at_.toNat + i, l.getD i 0) }
def RD.crash (r : RD) (keep : Int) : RD := ⟨rdSet r.b (r.ps.take keep.toNat), [], r.syncs⟩
def RD.sync (r : RD) : RD := ⟨rdSet r.b r.ps, [], r.syncs + 1⟩
def RD.bytes (r : RD) : List UInt8 := rdSet r.b r.ps
structure RD.Ok (r : RD) : Prop where
  fit : ∀ p ∈ r.ps, p.1 < r.b.length
  big : r.b.length ≤ 65536

section
variable {w0 w : World} {tl : List Thing} {p : Value} {r : RD}
theorem at_len {a : Option Addr} {c n : Nat} {l : List UInt8} {w : World} {B : Nat} (h : Own w B (.slice a n c) l) : l.length = n := by
  obtain ⟨a', c', e, _⟩ := OwnG.at eBok ((ownB _ _ _ _).2 h)
  cases e; rfl

theorem rdV_write (ps : List (Nat × UInt8)) (l : List UInt8) (k0 : Nat) {k : Nat} (hk : l.length = k) : rdV (ps ++ (List.range k).map fun i => (k0 + i, l.getD i 0)) = rdV ps ++ l.take k := by
  subst hk
  unfold rdV
  rw [List.map_append]
  congr 1
  apply List.ext_getElem
  · simp
  · intro i h1 h2
    simp at h1
    simp [h1]
theorem rdEnd {g : Nat} {T : TypeId} {v0 v3 y1 y2 : Value} {r : RD} {l LV : List UInt8} {LA : List Int} {k k0 : Nat} {x : UInt8} {B : Thing} {tl : List Thing} (h1 : (rdAt r.ps ++ (List.range k).map fun i => ((k0 + i : Nat) : Int)) = LA) (h2 : rdV r.ps ++ l.take k = LV) (hk : k < l.length) (hx : l[k] = x) :
    (cellsT g T [v0, y1, y2, v3] :: B :: ownT eI y1 (LA ++ [(k0 : Int) + (k : Int)]) :: bytesT y2 (LV ++ [x]) :: tl) = (cellsT g T [v0, y1, y2, v3] :: B :: ownT eI y1 (rdAt r.ps ++ (List.range (k + 1)).map fun i => ((k0 + i : Nat) : Int)) :: bytesT y2 (rdV r.ps ++ l.take (k + 1)) :: tl) := by
  subst h1 h2 hx
  rw [List.range_succ, List.map_append, List.take_succ_eq_append_getElem hk, ← List.append_assoc, ← List.append_assoc]
  rfl
end

end Go.Proofs.YtjfbmgndekfglaaDoor

namespace Go.Proofs.YtjfbmgndekfglaaDoor
set_option linter.unusedVariables false
set_option linter.unusedSimpArgs false
open Go.RowKit

section
variable {w0 w : World} {tl : List Thing} {p : Value} {r : RD}
theorem run_both {x : Sem Value} {w : World} {A B : Value → World → Prop} (h1 : ∃ v w', x.run Tryd.prog w = .ok v w' ∧ A v w') (h2 : ∃ v w', x.run Tryd.prog w = .ok v w' ∧ B v w') : ∃ v w', x.run Tryd.prog w = .ok v w' ∧ A v w' ∧ B v w' := by
  obtain ⟨v, w', e, ha⟩ := h1
  obtain ⟨v2, w2, e2, hb⟩ := h2
  rw [e] at e2
  cases e2
  exact ⟨v, w', e, ha, hb⟩
theorem rdSet_len (ps : List (Nat × UInt8)) : ∀ b : List UInt8, (rdSet b ps).length = b.length := by
  unfold rdSet
  induction ps with
  | nil => intro b; rfl
  | cons p ps ih => intro b; rw [List.foldl_cons, ih, List.length_set]
theorem rdSet_take (b : List UInt8) (ps : List (Nat × UInt8)) (k : Nat) (hk : k < ps.length) : rdSet b (ps.take (k + 1)) = (rdSet b (ps.take k)).set ps[k].1 ps[k].2 := by
  unfold rdSet
  rw [List.take_succ_eq_append_getElem hk, List.foldl_append]; rfl
theorem St.setByte {g k n c : Nat} {l : List UInt8} (j : Nat) (hj : tl[j]? = some (bytesT (.slice (some ⟨g, 0, none⟩) n c) l)) (S : St w0 w tl) (x : UInt8) : St w0 (w.setCell ⟨g, k, none⟩ (bv x)) (tl.set j (bytesT (.slice (some ⟨g, 0, none⟩) n c) (l.set k x))) := by
  have hn := (S.slA j hj).1
  obtain ⟨F, ⟨h1, h2⟩, h3⟩ := S.step j hj
  exact h3 _ _ F ⟨h1.set hn k x, h2⟩ ((Touch.refl F w).setCell (p := ⟨g, k, none⟩) (.inl ((h2 g).2 rfl)) _) (fun b hb => .inl hb)

end

end Go.Proofs.YtjfbmgndekfglaaDoor

namespace Go.Proofs.YtjfbmgndekfglaaDoor
set_option linter.unusedVariables false
set_option linter.unusedSimpArgs false
open Go.RowKit

def pairs (k : Nat) (l : List UInt8) : List (Nat × UInt8) := (List.range l.length).map fun i => (k + i, l.getD i 0)
def flatW (ws : List (Nat × List UInt8)) : List (Nat × UInt8) := ws.flatMap fun x => pairs x.1 x.2
theorem pairs_nil (k : Nat) : pairs k [] = [] := rfl
theorem pairs_cons (k : Nat) (c : UInt8) (l : List UInt8) : pairs k (c :: l) = (k, c) :: pairs (k + 1) l := by
  unfold pairs
  rw [List.length_cons, List.range_succ_eq_map, List.map_cons, List.map_map]
  simp only [Function.comp_def, Nat.add_zero, List.getD_cons_zero, List.cons.injEq, true_and]
  apply List.map_congr_left
  intro i _
  simp only [List.getD_cons_succ, Prod.mk.injEq, and_true]; omega
theorem pairs_len (k : Nat) (l : List UInt8) : (pairs k l).length = l.length := by simp [pairs]
theorem pairs_take : ∀ (l : List UInt8) (k m : Nat), (pairs k l).take m = pairs k (l.take m)
  | [], k, m => by simp [pairs_nil]
  | c :: l, k, 0 => by simp [pairs_nil]
  | c :: l, k, m + 1 => by rw [pairs_cons, List.take_succ_cons, List.take_succ_cons, pairs_cons, pairs_take l]
theorem rdSet_app (b : List UInt8) (x y : List (Nat × UInt8)) : rdSet b (x ++ y) = rdSet (rdSet b x) y := by unfold rdSet; rw [List.foldl_append]
theorem set_splice {b : List UInt8} {k : Nat} (c : UInt8) (l : List UInt8) (h : k + (l.length + 1) ≤ b.length) : splice (b.set k c) (k + 1) l = splice b k (c :: l) := by
  have e : b.set k c = splice b k [c] := by
    unfold splice
    rw [List.set_eq_take_append_cons_drop, if_pos (by omega)]
    simp
  rw [e]
  exact (splice_app (a := [c]) (b := l) (by simpa [Nat.add_comm] using h)).symm
theorem rdSet_pairs : ∀ (l : List UInt8) (k : Nat) (b : List UInt8), k + l.length ≤ b.length → rdSet b (pairs k l) = splice b k l
  | [], k, b, _ => by rw [pairs_nil, splice_nil]; rfl
  | c :: l, k, b, h => by
    rw [pairs_cons]
    show rdSet (b.set k c) (pairs (k + 1) l) = _
    rw [List.length_cons] at h
    rw [rdSet_pairs l (k + 1) _ (by rw [List.length_set]; omega), set_splice c l (by omega)]
theorem dAll_flat : ∀ (ws : List (Nat × List UInt8)) (l : List UInt8), (∀ x ∈ ws, x.1 + x.2.length ≤ l.length) → dAll l ws = rdSet l (flatW ws)
  | [], l, _ => rfl
  | x :: ws, l, h => by
    have h1 := h x (by simp)
    rw [dAll, flatW, List.flatMap_cons, rdSet_app, rdSet_pairs _ _ _ h1]
    exact dAll_flat ws _ (by intro y hy; rw [splice_len h1]; exact h y (by simp [hy]))
theorem dDone_flat : ∀ (ws : List (Nat × List UInt8)) (l : List UInt8) (keep : Int), (∀ x ∈ ws, x.1 + x.2.length ≤ l.length) → dDone l keep ws = rdSet l ((flatW ws).take keep.toNat)
  | [], l, keep, _ => by simp [dDone, flatW, rdSet]
  | x :: ws, l, keep, h => by
    have h1 := h x (by simp)
    have h2 : x.1 + (x.2.take (min keep (x.2.length : Int)).toNat).length ≤ l.length := by rw [List.length_take]; omega
    rw [dDone, flatW, List.flatMap_cons, List.take_append, rdSet_app, pairs_take, pairs_len]
    have e : x.2.take keep.toNat = x.2.take (min keep (x.2.length : Int)).toNat := by
      by_cases hk : keep ≤ x.2.length
      · rw [Int.min_eq_left hk]
      · rw [List.take_of_length_le (by omega), List.take_of_length_le (by omega)]
    rw [e, rdSet_pairs _ _ _ h2]
    rw [dDone_flat ws _ _ (by intro y hy; rw [splice_len h2]; exact h y (by simp [hy]))]
    congr 2
    omega
theorem dWaits_flat : ∀ ws : List (Nat × List UInt8), dWaits ws = (flatW ws).length
  | [] => rfl
  | x :: ws => by rw [dWaits, dWaits_flat ws, flatW, flatW, List.flatMap_cons, List.length_append, pairs_len]

/-- One disk, told in two ways. -/
structure Rel (d : DSt) (r : RD) : Prop where
  b : r.b = d.lasts
  ps : r.ps = flatW d.waits
  syncs : r.syncs = d.syncs
theorem Rel.new (n : Nat) : Rel (DSt.new n) ⟨List.replicate n 0, [], 0⟩ := ⟨rfl, rfl, rfl⟩
section
variable {d : DSt} {r : RD}
theorem Rel.bytes (h : Rel d r) (hf : ∀ x ∈ d.waits, x.1 + x.2.length ≤ d.lasts.length) : r.bytes = d.bytes := by
  unfold RD.bytes DSt.bytes; rw [h.b, h.ps, dAll_flat _ _ hf]
theorem Rel.write (h : Rel d r) (a : Int) (l : List UInt8) : Rel (d.write a l) (r.write a l) := by
  unfold DSt.write RD.write
  by_cases hc : d.can a l.length = 0
  · have hz := DSt.can_zero hc
    rw [if_pos hc, if_neg (by rw [h.b]; omega)]
    exact ⟨h.b, by show r.ps ++ _ = _; rw [h.ps, flatW, flatW, List.flatMap_append]; simp [pairs], h.syncs⟩
  · rw [if_neg hc]
    have : a < 0 ∨ (r.b.length : Int) < a + l.length := by
      rw [h.b]
      unfold DSt.can at hc
      by_cases h0 : a < 0
      · exact .inl h0
      · rw [if_neg h0] at hc
        split at hc
        · omega
        · exact absurd rfl hc
    rw [if_pos this]
    exact h
theorem Rel.crash (h : Rel d r) (keep : Int) (hf : ∀ x ∈ d.waits, x.1 + x.2.length ≤ d.lasts.length) : Rel (d.crash keep) (r.crash keep) :=
  ⟨by show rdSet r.b _ = dDone _ _ _; rw [h.b, h.ps, dDone_flat _ _ _ hf], rfl, h.syncs⟩
theorem Rel.sync (h : Rel d r) (hf : ∀ x ∈ d.waits, x.1 + x.2.length ≤ d.lasts.length) : Rel d.sync r.sync :=
  ⟨by show rdSet r.b r.ps = dDone _ _ _; rw [h.b, h.ps, dDone_flat _ _ _ hf, Int.toNat_natCast, dWaits_flat, List.take_length], rfl, by show r.syncs + 1 = d.syncs + 1; rw [h.syncs]⟩
theorem Rel.waits (h : Rel d r) : (dWaits d.waits : Int) = (rdAt r.ps).length := by rw [dWaits_flat, h.ps]; simp [rdAt]
end

end Go.Proofs.YtjfbmgndekfglaaDoor
