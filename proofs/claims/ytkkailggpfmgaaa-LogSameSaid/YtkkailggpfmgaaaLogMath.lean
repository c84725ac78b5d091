/- Logs: lists alone. -/
import Derived.Test.YtkkailggpfmgaaaFrameMath2
import Derived.Test.YtkkailggpfmgaaaDiskPlain
namespace Go.Proofs.Ytkkailggpfmgaaa
set_option linter.unusedVariables false
set_option linter.unusedSimpArgs false
open Go.RowKit

/-! ### A piece of a disk -/
def piece (l : List UInt8) (fr sz : Nat) : List UInt8 := (l.drop fr).take sz
theorem piece_len {l : List UInt8} {fr sz : Nat} (h : fr + sz ≤ l.length) : (piece l fr sz).length = sz := by unfold piece; rw [List.length_take, List.length_drop]; omega
theorem piece_splice {l b : List UInt8} {fr sz k : Nat} (h : fr + sz ≤ l.length) (hk : k + b.length ≤ sz) : piece (splice l (fr + k) b) fr sz = splice (piece l fr sz) k b := by
  obtain ⟨p, x, r, rfl, rfl, hx⟩ := parts h
  obtain ⟨y, z, t, rfl, rfl, hz⟩ := parts (l := x) (k := k) (n := b.length) (by omega)
  have e1 : p ++ (y ++ (z ++ t) ++ r) = (p ++ y) ++ (z ++ (t ++ r)) := by simp
  have e2 : (p ++ y).length = p.length + y.length := List.length_append
  have e3 : splice (p ++ (y ++ (z ++ t) ++ r)) (p.length + y.length) b = p ++ ((y ++ (b ++ t)) ++ r) := by
    rw [e1, ← e2, splice_parts hz]; simp
  have hb : (y ++ (b ++ t)).length = sz := by rw [← hx]; simp; omega
  unfold piece
  rw [e3, List.drop_left' rfl, List.take_left' hb, List.drop_left' rfl, List.take_left' hx, splice_parts hz]
theorem splice_end {l b : List UInt8} {k : Nat} (h : k + b.length = l.length) : splice l k b = l.take k ++ b := by
  unfold splice
  rw [show k + b.length = l.length from h, List.drop_length, List.append_nil]

/-! ### What is read behind other bytes -/
theorem getNum_shift (P X : List UInt8) (k : Nat) : getNum (P ++ X) ((P.length + k : Nat) : Int) = (getNum X k).map fun q => (q.1, P.length + q.2) := by
  by_cases h : k < X.length
  · rw [getNum_at' (by simp; omega), getNum_at' h, ← List.drop_drop, List.drop_left' rfl, Option.map_map]
    congr 1
    funext q
    simp [Nat.add_assoc]
  · unfold getNum
    rw [if_neg (by simp; omega), if_neg (by omega)]; rfl
theorem fGet_in {l : List UInt8} {k : Nat} (h : k ≤ l.length) : fGet l (k : Int) = if l[k]?.getD 0 = 0 then ([], (k : Int), 0) else fNum l k (getNum l k) := by
  rw [fGet, if_neg (by omega), Int.toNat_natCast]
theorem fGet_shift (P X : List UInt8) (k : Nat) : fGet (P ++ X) ((P.length + k : Nat) : Int) = ((fGet X k).1, (P.length : Int) + (fGet X k).2.1, (fGet X k).2.2) := by
  by_cases h : X.length < k
  · rw [fGet, if_pos (.inr (by simp; omega)), fGet, if_pos (.inr (by omega))]; simp
  rw [fGet_in (l := P ++ X) (by rw [List.length_append]; omega), fGet_in (l := X) (by omega), List.getElem?_append_right (by omega), Nat.add_sub_cancel_left]
  by_cases hz : X[k]?.getD 0 = 0
  · rw [if_pos hz, if_pos hz]; simp
  rw [if_neg hz, if_neg hz, getNum_shift]
  cases hg : getNum X k with
  | none => simp [fNum]
  | some q =>
    obtain ⟨n, x⟩ := q
    simp only [Option.map_some, fNum]
    unfold fBody
    by_cases h1 : 4000 < n ∨ X.length ≤ x + n + 4
    · rw [if_pos (by rw [List.length_append]; omega), if_pos h1]; simp
    rw [if_neg (by rw [List.length_append]; omega), if_neg h1]
    have e1 : (P ++ X).drop (P.length + x) = X.drop x := by rw [← List.drop_drop, List.drop_left' rfl]
    have e2 : (P ++ X)[P.length + x + n + 4]? = X[x + n + 4]? := by
      rw [List.getElem?_append_right (by omega)]; congr 1; omega
    rw [e1, e2]
    by_cases h2 : isB ((X.drop x).take (n + 4)) = true ∧ X[x + n + 4]?.getD 0 = 1
    · rw [if_pos h2, if_pos h2]
      simp only [Prod.mk.injEq, and_true, true_and]
      omega
    · rw [if_neg h2, if_neg h2]; simp
theorem fGet_zeros (n : Nat) : fGet (List.replicate n (0 : UInt8)) 0 = ([], 0, 0) := by
  rw [fGet, if_neg (by omega), if_pos]
  cases n <;> simp [List.replicate]
/-- Frames, and behind them what is none. -/
theorem fAll_frames {ps : List (List UInt8)} {X : List UInt8} (hp : ∀ p ∈ ps, 1 ≤ p.length ∧ p.length ≤ 4000) (hX : (fGet X 0).2.2 ≠ 1) : fAll (ps.flatMap frameB ++ X) 0 = (ps, ((ps.flatMap frameB).length : Int)) := by
  have h := all_frames ps [] X 0 [] hp (AllAt.start _ _)
  simp only [List.nil_append] at h
  refine h.stop ?_
  have := fGet_shift (ps.flatMap frameB) X 0
  rw [Nat.add_zero] at this
  rw [this]
  exact hX
theorem frames_snoc (ps : List (List UInt8)) (p : List UInt8) : (ps ++ [p]).flatMap frameB = ps.flatMap frameB ++ frameB p := by simp
/-- What all frames are, is what stands there. -/
theorem fGet_frame {l : List UInt8} {k : Nat} (h : (fGet l k).2.2 = 1) : 1 ≤ (fGet l k).1.length ∧ (fGet l k).1.length ≤ 4000 ∧ (fGet l k).2.1 = ((k + (frameB (fGet l k).1).length : Nat) : Int) ∧ (l.drop k).take (frameB (fGet l k).1).length = frameB (fGet l k).1 ∧ k + (frameB (fGet l k).1).length ≤ l.length := by
  have hb := fGet_one h
  by_cases hz : l[k]?.getD 0 = 0
  · rw [fGet, if_neg (by omega), Int.toNat_natCast, if_pos hz] at h; cases h
  cases hg : getNum l k with
  | none => rw [fGet, if_neg (by omega), Int.toNat_natCast, if_neg hz, hg] at h; cases h
  | some q =>
    obtain ⟨m, x⟩ := q
    have hm := getNum_pos hg hz
    have e : fGet l k = rBody l k m x := by rw [fGet_num hg hz, rBody_eq hg hm]
    rw [e] at h ⊢
    unfold rBody at h ⊢
    split at h
    · cases h
    rename_i h1
    rw [if_neg h1]
    split at h
    · cases h
    rename_i h2
    rw [if_neg h2]
    have hl : ((l.drop x).take m).length = m := by rw [List.length_take, List.length_drop]; omega
    simp only []
    refine ⟨by rw [hl]; exact hm, by rw [hl]; omega, trivial, ?_, ?_⟩
    · by_cases h3 : frameB ((l.drop x).take m) = (l.drop k).take (frameB ((l.drop x).take m)).length
      · exact h3.symm
      · exact absurd (.inr h3) h2
    · omega
theorem fAllF_frames : ∀ (f : Nat) (l : List UInt8) (k : Nat), k ≤ l.length → (∀ p ∈ (fAllF f l k).1, 1 ≤ p.length ∧ p.length ≤ 4000) ∧ (fAllF f l k).2 = ((k + ((fAllF f l k).1.flatMap frameB).length : Nat) : Int) ∧ k + ((fAllF f l k).1.flatMap frameB).length ≤ l.length ∧ (l.drop k).take ((fAllF f l k).1.flatMap frameB).length = (fAllF f l k).1.flatMap frameB
  | 0, l, k, hk => by simp [fAllF]; exact hk
  | f + 1, l, k, hk => by
    rw [fAllF]
    by_cases hw : (fGet l k).2.2 = 1
    · rw [if_pos hw]
      obtain ⟨h1, h2, h3, h4, h5⟩ := fGet_frame hw
      rw [h3]
      have ih := fAllF_frames f l (k + (frameB (fGet l k).1).length) h5
      generalize (fGet l k).1 = p at *
      generalize fAllF f l ((k + (frameB p).length : Nat) : Int) = r at *
      refine ⟨?_, ?_, ?_, ?_⟩
      · intro q hq
        rcases List.mem_cons.1 hq with rfl | hq
        · exact ⟨h1, h2⟩
        · exact ih.1 q hq
      · rw [ih.2.1, List.flatMap_cons, List.length_append]; omega
      · rw [List.flatMap_cons, List.length_append]; have := ih.2.2.1; omega
      · rw [List.flatMap_cons, List.length_append, List.take_add, h4, List.drop_drop, ih.2.2.2]
    · rw [if_neg hw]; simp; exact hk
theorem fAll_is (l : List UInt8) : (∀ p ∈ (fAll l 0).1, 1 ≤ p.length ∧ p.length ≤ 4000) ∧ (fAll l 0).2 = (((fAll l 0).1.flatMap frameB).length : Int) ∧ ((fAll l 0).1.flatMap frameB).length ≤ l.length ∧ l.take ((fAll l 0).1.flatMap frameB).length = (fAll l 0).1.flatMap frameB := by
  have := fAllF_frames (l.length + 1) l 0 (Nat.zero_le _)
  simp only [Nat.zero_add, List.drop_zero] at this
  exact this

end Go.Proofs.Ytkkailggpfmgaaa
