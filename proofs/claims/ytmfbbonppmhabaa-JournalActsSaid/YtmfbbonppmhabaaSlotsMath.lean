/- What Start and a crash, or Save, leave of two slots; lists alone. -/
import Derived.Test.YtmfbbonppmhabaaSlotsRel
namespace Go.Proofs.Ytmfbbonppmhabaa
set_option linter.unusedVariables false
set_option linter.unusedSimpArgs false
open Go.RowKit

theorem piece_other {l b : List UInt8} {p q sz : Nat} (hp : p + sz ≤ l.length) (hq : q + b.length ≤ l.length) (h : p + sz ≤ q ∨ q + b.length ≤ p) : piece (splice l q b) p sz = piece l p sz := by
  unfold piece splice
  rcases h with h | h
  · rw [List.drop_append_of_le_length (by rw [List.length_take]; omega), List.take_append_of_le_length (by rw [List.length_drop, List.length_take]; omega), List.drop_take, List.take_take]
    congr 1
    omega
  · have e1 : (l.take q ++ b).length = q + b.length := by rw [List.length_append, List.length_take]; omega
    rw [← List.append_assoc, List.drop_append, e1, List.drop_of_length_le (by omega), List.nil_append, List.drop_drop]
    congr 2
    omega
theorem piece_same {l b : List UInt8} {p sz : Nat} (hp : p + sz ≤ l.length) (hb : b.length ≤ sz) : piece (splice l p b) p sz = b ++ (piece l p sz).drop b.length := by
  have := piece_splice (l := l) (b := b) (fr := p) (sz := sz) (k := 0) hp (by omega)
  rw [Nat.add_zero] at this
  rw [this]
  unfold splice
  simp
/-- A frame that stands as a whole, and one that is torn. -/
theorem pic_whole {age : Nat} {b : List UInt8} (ha : isNum (age : Int) = true) (hl : (codeNum (age : Int) ++ b).length ≤ 4000) (R : List UInt8) : pic (frameB (codeNum (age : Int) ++ b) ++ R) = some (b, age) := by
  have hne : 1 ≤ (codeNum (age : Int)).length := by
    rcases Nat.eq_zero_or_pos (codeNum (age : Int)).length with h | h
    · rw [List.length_eq_zero_iff, codeNum_nil] at h; rw [h] at ha; cases ha
    · exact h
  have hg := fGet_put [] R (p := codeNum (age : Int) ++ b) (by rw [List.length_append]; omega) hl
  simp only [List.nil_append, List.length_nil] at hg
  have hn := getNum_put [] b (age : Int) ha
  simp only [List.nil_append, List.length_nil, Int.toNat_natCast, Nat.zero_add] at hn
  have hg' : fGet (frameB (codeNum (age : Int) ++ b) ++ R) 0 = (codeNum (age : Int) ++ b, ((0 + (frameB (codeNum (age : Int) ++ b)).length : Nat) : Int), 1) := hg
  unfold pic
  rw [hg', if_pos rfl]
  simp only []
  have hn' : getNum (codeNum (age : Int) ++ b) 0 = some (age, (codeNum (age : Int)).length) := hn
  rw [hn']
  simp
theorem pic_torn {p : List UInt8} (h1 : 1 ≤ p.length) (h2 : p.length ≤ 4000) {k z : Nat} (hk : k < (frameB p).length) : pic ((frameB p).take k ++ List.replicate z 0) = none := by
  unfold pic
  rw [fGet_torn h1 h2 k z hk, if_neg]
  simp only []
  split <;> simp
/-- What two slots of bytes show. -/
def showsB (l : List UInt8) (fr sz : Nat) : Option (List UInt8 × Nat) := loadO (pic (piece l (fr + 0 * sz) sz)) (pic (piece l (fr + 1 * sz) sz))
theorem shows_is (d : DSt) (fr sz : Nat) : d.shows fr sz = showsB d.bytes fr sz := rfl
def slotJ (l : List UInt8) (fr sz : Nat) : Nat := if newestI (pic (piece l (fr + 0 * sz) sz)) (pic (piece l (fr + 1 * sz) sz)) = 0 then 1 else 0
theorem showsB_start {l b : List UInt8} {fr sz age k : Nat} (hr : fr + 2 * sz ≤ l.length) (ha : isNum (age : Int) = true) (hold : oldO (showsB l fr sz) (age : Int) = false) (hl : (codeNum (age : Int) ++ b).length ≤ 4000) (hf : (frameB (codeNum (age : Int) ++ b)).length ≤ sz) (hk : k ≤ (frameB (codeNum (age : Int) ++ b)).length) :
    showsB (splice (splice l (fr + slotJ l fr sz * sz) (List.replicate sz 0)) (fr + slotJ l fr sz * sz) ((frameB (codeNum (age : Int) ++ b)).take k)) fr sz = if k = (frameB (codeNum (age : Int) ++ b)).length then some (b, age) else showsB l fr sz := by
  obtain ⟨F, hF⟩ : ∃ F, frameB (codeNum (age : Int) ++ b) = F := ⟨_, rfl⟩
  have hne : 1 ≤ (codeNum (age : Int) ++ b).length := by
    rcases Nat.eq_zero_or_pos (codeNum (age : Int)).length with h | h
    · rw [List.length_eq_zero_iff, codeNum_nil] at h; rw [h] at ha; cases ha
    · rw [List.length_append]; omega
  have hnew : ∀ z, pic (F.take k ++ List.replicate z 0) = if k = F.length then some (b, age) else none := by
    intro z
    by_cases h : k = F.length
    · rw [if_pos h, h, List.take_length, ← hF]; exact pic_whole ha hl _
    · rw [if_neg h, ← hF]; exact pic_torn hne hl (by rw [hF] at hk ⊢; omega)
  rw [hF] at hf hk ⊢
  have hzl : (List.replicate sz (0 : UInt8)).length = sz := List.length_replicate
  have htl : (F.take k).length = k := by rw [List.length_take]; omega
  -- the slot that is written
  have hw : ∀ p, p + sz ≤ l.length → pic (piece (splice (splice l p (List.replicate sz 0)) p (F.take k)) p sz) = if k = F.length then some (b, age) else none := by
    intro p hp
    have e1 : (splice l p (List.replicate sz 0)).length = l.length := splice_len (by rw [hzl]; exact hp)
    rw [piece_same (by rw [e1]; exact hp) (by rw [htl]; omega), piece_same hp (by rw [hzl]; omega), hzl, htl]
    have e2 : (List.replicate sz (0 : UInt8) ++ (piece l p sz).drop sz).drop k = List.replicate (sz - k) 0 := by
      rw [List.drop_of_length_le (l := piece l p sz) (by rw [piece_len hp]; omega), List.append_nil, List.drop_replicate]
    rw [e2]
    exact hnew _
  -- the other one
  have ho : ∀ p q, p + sz ≤ l.length → q + sz ≤ l.length → (p + sz ≤ q ∨ q + sz ≤ p) → piece (splice (splice l q (List.replicate sz 0)) q (F.take k)) p sz = piece l p sz := by
    intro p q hp hq h
    have e1 : (splice l q (List.replicate sz 0)).length = l.length := splice_len (by rw [hzl]; exact hq)
    rw [piece_other (by rw [e1]; exact hp) (by rw [e1, htl]; omega) (by rw [htl]; omega), piece_other hp (by rw [hzl]; exact hq) (by rw [hzl]; exact h)]
  unfold slotJ showsB at *
  obtain ⟨x, hx⟩ : ∃ x, pic (piece l (fr + 0 * sz) sz) = x := ⟨_, rfl⟩
  obtain ⟨y, hy⟩ : ∃ y, pic (piece l (fr + 1 * sz) sz) = y := ⟨_, rfl⟩
  rw [hx, hy] at hold ⊢
  have hold2 : ¬ ((age : Int) ≤ picI x ∨ (age : Int) ≤ picI y) := fun e => by
    rw [(oldO_is x y (by omega)).2 e] at hold; cases hold
  by_cases hz : newestI x y = 0
  · rw [if_pos hz, hw (fr + 1 * sz) (by omega), ho (fr + 0 * sz) (fr + 1 * sz) (by omega) (by omega) (by omega), hx]
    by_cases hkf : k = F.length
    · rw [if_pos hkf, if_pos hkf, loadO_is, if_pos (by show picI x < (age : Int); omega)]
    · rw [if_neg hkf, if_neg hkf]
      have := (newest_zero x y).1 hz
      rw [loadO_is, loadO_is, if_neg (by show ¬ picI x < -1; have := picI_ge x; omega), if_neg (by omega)]
  · rw [if_neg hz, hw (fr + 0 * sz) (by omega), ho (fr + 1 * sz) (fr + 0 * sz) (by omega) (by omega) (by omega), hy]
    have hn : ¬ (picI y ≤ picI x ∧ 0 ≤ picI x) := fun e => hz ((newest_zero x y).2 e)
    by_cases hkf : k = F.length
    · rw [if_pos hkf, if_pos hkf, loadO_is, if_neg (by show ¬ (age : Int) < picI y; omega)]
    · rw [if_neg hkf, if_neg hkf]
      have hxg := picI_ge x
      have hyg := picI_ge y
      rw [loadO_is, loadO_is]
      by_cases hxy : picI x < picI y
      · rw [if_pos hxy, if_pos (by show -1 < picI y; omega)]
      · -- neither has a picture
        have h1 : picI x = -1 := by omega
        have h2 : picI y = -1 := by omega
        rcases x with _ | p
        · rw [if_neg hxy]
        · exfalso; have : (p.2 : Int) = -1 := h1; omega

end Go.Proofs.Ytmfbbonppmhabaa
