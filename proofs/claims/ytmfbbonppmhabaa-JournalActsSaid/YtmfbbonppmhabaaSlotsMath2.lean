/- Start that answers 0, told as a whole; lists alone. -/
import Derived.Test.YtmfbbonppmhabaaSlotsMath
namespace Go.Proofs.Ytmfbbonppmhabaa
set_option linter.unusedVariables false
set_option linter.unusedSimpArgs false
open Go.RowKit

/-- A disk whose slots are ready: nothing pending, the slots on it. -/
structure SInv (d : DSt) (fr sz n : Nat) : Prop where
  waits : d.waits = []
  len : d.lasts.length = n
  room : fr + 2 * sz ≤ n
/-- When Start answers 0. -/
structure Takes (d : DSt) (fr sz : Nat) (b : List UInt8) (A : Nat) : Prop where
  num : isNum (A : Int) = true
  new : oldO (d.shows fr sz) (A : Int) = false
  some_ : 1 ≤ (codeNum (A : Int) ++ b).length
  few : (codeNum (A : Int) ++ b).length ≤ 4000
  fits : (frameB (codeNum (A : Int) ++ b)).length ≤ sz
section
variable {d : DSt} {fr sz n : Nat} {b : List UInt8}
theorem SInv.bytes (h : SInv d fr sz n) : d.bytes = d.lasts := by unfold DSt.bytes; rw [h.waits]; rfl
theorem slStart_inv {age : Int} (h0 : (slStart d fr sz b age).1 = 0) : ∃ A : Nat, age = (A : Int) ∧ Takes d fr sz b A := by
  unfold slStart at h0
  by_cases h1 : (codeNum age).length = 0
  · rw [if_pos h1] at h0; cases h0
  rw [if_neg h1] at h0
  by_cases h2 : oldO (d.shows fr sz) age = true
  · rw [if_pos h2] at h0; cases h0
  rw [if_neg h2] at h0
  by_cases h3 : (frameB (codeNum age ++ b)).length = 0 ∨ sz < (frameB (codeNum age ++ b)).length
  · rw [if_pos h3] at h0; cases h0
  have hi : isNum age = true := by
    rcases hb : isNum age with _ | _
    · rw [(codeNum_nil age).2 hb] at h1; exact absurd rfl h1
    · rfl
  obtain ⟨A, rfl, _⟩ := isNum_nat hi
  refine ⟨A, rfl, hi, by simpa using h2, by rw [List.length_append]; omega, ?_, by omega⟩
  rcases Nat.lt_or_ge 4000 (codeNum (A : Int) ++ b).length with h | h
  · have : frameB (codeNum (A : Int) ++ b) = [] := by unfold frameB; rw [if_pos (.inr h)]
    rw [this] at h3; simp at h3
  · exact h
theorem Takes.run {A : Nat} (t : Takes d fr sz b A) : slStart d fr sz b (A : Int) = (0, ((d.write ((fr + slotJ d.bytes fr sz * sz : Nat) : Int) (List.replicate sz 0)).sync).write ((fr + slotJ d.bytes fr sz * sz : Nat) : Int) (frameB (codeNum (A : Int) ++ b))) := by
  have hfl := frame_len t.some_ t.few
  unfold slStart
  rw [if_neg (fun e => by rw [List.length_eq_zero_iff, codeNum_nil, t.num] at e; cases e), if_neg (by rw [t.new]; simp), if_neg (by have := t.fits; omega)]
  rfl
theorem slotJ_le (l : List UInt8) (fr sz : Nat) : slotJ l fr sz * sz ≤ sz := by
  unfold slotJ; split <;> simp
/-- What is there behind Start, and behind a crash, and behind Sync. -/
theorem Takes.after {A : Nat} (t : Takes d fr sz b A) (h : SInv d fr sz n) :
    (slStart d fr sz b (A : Int)).1 = 0 ∧ (dWaits (slStart d fr sz b (A : Int)).2.waits : Int) = ((frameB (codeNum (A : Int) ++ b)).length : Int) ∧ (slStart d fr sz b (A : Int)).2.waits.length ≤ 1 ∧ (slStart d fr sz b (A : Int)).2.syncs = d.syncs + 1 ∧
    (∀ keep : Int, SInv ((slStart d fr sz b (A : Int)).2.crash keep) fr sz n ∧ ((slStart d fr sz b (A : Int)).2.crash keep).shows fr sz = if ((frameB (codeNum (A : Int) ++ b)).length : Int) ≤ keep then some (b, A) else d.shows fr sz) ∧
    SInv (slStart d fr sz b (A : Int)).2.sync fr sz n ∧ (slStart d fr sz b (A : Int)).2.sync.shows fr sz = some (b, A) := by
  have hj := slotJ_le d.bytes fr sz
  have hroom := h.room
  have hlen := h.len
  have hS := fun k hk => showsB_start (l := d.bytes) (b := b) (k := k) (by rw [h.bytes, hlen]; exact hroom) t.num t.new t.few t.fits hk
  rw [t.run]
  obtain ⟨F, hF⟩ : ∃ F, frameB (codeNum (A : Int) ++ b) = F := ⟨_, rfl⟩
  have hfit := t.fits
  rw [hF] at hfit hS ⊢
  obtain ⟨p, hp⟩ : ∃ p, fr + slotJ d.bytes fr sz * sz = p := ⟨_, rfl⟩
  rw [hp] at hS ⊢
  have hpn : p + sz ≤ n := by omega
  simp only []
  have hz : d.write (p : Int) (List.replicate sz 0) = { d with waits := [(p, List.replicate sz 0)] } := by rw [write_in (by rw [List.length_replicate]; omega), h.waits]; rfl
  have e1 : (d.write (p : Int) (List.replicate sz 0)).sync = ⟨splice d.lasts p (List.replicate sz 0), [], d.syncs + 1⟩ := by
    rw [hz]
    show (⟨dDone d.lasts (dWaits [(p, List.replicate sz 0)]) [(p, List.replicate sz 0)], [], d.syncs + 1⟩ : DSt) = _
    rw [dDone_all _ _ _ (Int.le_refl _)]; rfl
  rw [e1]
  have hl1 : (splice d.lasts p (List.replicate sz 0)).length = n := by rw [splice_len (by rw [List.length_replicate]; omega)]; exact hlen
  have e2 : (⟨splice d.lasts p (List.replicate sz 0), [], d.syncs + 1⟩ : DSt).write (p : Int) F = ⟨splice d.lasts p (List.replicate sz 0), [(p, F)], d.syncs + 1⟩ := by
    rw [write_in (by show p + F.length ≤ (splice _ _ _).length; rw [hl1]; omega)]; rfl
  rw [e2]
  refine ⟨trivial, by show ((F.length + 0 : Nat) : Int) = _; omega, Nat.le_refl _, rfl, ?_, ?_⟩
  · intro keep
    have hm1 : min keep (F.length : Int) ≤ F.length := Int.min_le_right _ _
    have ec : (⟨splice d.lasts p (List.replicate sz 0), [(p, F)], d.syncs + 1⟩ : DSt).crash keep = ⟨splice (splice d.lasts p (List.replicate sz 0)) p (F.take (min keep F.length).toNat), [], d.syncs + 1⟩ := rfl
    rw [ec]
    refine ⟨⟨rfl, ?_, hroom⟩, ?_⟩
    · show (splice _ _ _).length = n
      have htk : (F.take (min keep F.length).toNat).length ≤ F.length := by rw [List.length_take]; exact Nat.min_le_right _ _
      exact (splice_len (l := splice d.lasts p (List.replicate sz 0)) (k := p) (b := F.take (min keep F.length).toNat) (by rw [hl1]; omega)).trans hl1
    · rw [shows_is]
      show showsB (splice (splice d.lasts p (List.replicate sz 0)) p (F.take (min keep F.length).toNat)) fr sz = _
      rw [← h.bytes, hS (min keep F.length).toNat (by omega), shows_is]
      by_cases hk : (F.length : Int) ≤ keep
      · rw [if_pos (by rw [Int.min_eq_right hk]; omega), if_pos hk]
      · rw [if_neg (by rw [Int.min_eq_left (by omega)]; have := frame_len t.some_ t.few; rw [hF] at this; omega), if_neg hk]
  · have es : (⟨splice d.lasts p (List.replicate sz 0), [(p, F)], d.syncs + 1⟩ : DSt).sync = ⟨splice (splice d.lasts p (List.replicate sz 0)) p F, [], d.syncs + 1 + 1⟩ := by
      show (⟨dDone (splice d.lasts p (List.replicate sz 0)) (dWaits [(p, F)]) [(p, F)], [], d.syncs + 1 + 1⟩ : DSt) = _
      rw [dDone_all _ _ _ (Int.le_refl _)]; rfl
    rw [es]
    refine ⟨⟨rfl, ?_, hroom⟩, ?_⟩
    · show (splice _ _ _).length = n
      rw [splice_len (by rw [hl1]; omega)]; exact hl1
    · rw [shows_is]
      show showsB (splice (splice d.lasts p (List.replicate sz 0)) p F) fr sz = _
      have := hS F.length (Nat.le_refl _)
      rw [List.take_length, if_pos rfl] at this
      rw [← h.bytes]
      exact this
theorem Takes.save {A : Nat} (t : Takes d fr sz b A) (h : SInv d fr sz n) : (slSave d fr sz b (A : Int)).1 = 0 ∧ SInv (slSave d fr sz b (A : Int)).2 fr sz n ∧ (slSave d fr sz b (A : Int)).2.shows fr sz = some (b, A) ∧ (slSave d fr sz b (A : Int)).2.syncs = d.syncs + 2 := by
  obtain ⟨a1, a2, a3, a4, a5, a6, a7⟩ := t.after h
  unfold slSave
  rw [a1, if_pos rfl]
  exact ⟨rfl, a6, a7, by rw [(sync_waits _).2, a4]⟩
/-- What is as old as what is there is not taken. -/
theorem slStart_old {age : Int} (hn : isNum age = true) (ho : oldO (d.shows fr sz) age = true) : slStart d fr sz b age = (6, d) := by
  unfold slStart
  rw [if_neg (fun e => by rw [List.length_eq_zero_iff, codeNum_nil, hn] at e; cases e), if_pos ho]
theorem slSave_old {age : Int} (hn : isNum age = true) (ho : oldO (d.shows fr sz) age = true) : slSave d fr sz b age = (6, d) := by
  unfold slSave
  rw [slStart_old hn ho]; rfl
/-- A new disk shows nothing. -/
theorem new_shows {N fr sz : Nat} (h : fr + 2 * sz ≤ N) : ∃ D, DSt.new N = D ∧ SInv D fr sz N ∧ D.syncs = 0 ∧ D.shows fr sz = none := by
  have hp : ∀ p, p + sz ≤ N → pic (piece (List.replicate N (0 : UInt8)) p sz) = none := by
    intro p hp
    have e : piece (List.replicate N (0 : UInt8)) p sz = List.replicate sz 0 := by
      unfold piece
      rw [List.drop_replicate, List.take_replicate]
      congr 1; omega
    rw [e]
    unfold pic
    rw [fGet_zeros, if_neg (by simp)]
  refine ⟨_, rfl, ⟨rfl, by simp [DSt.new], h⟩, rfl, ?_⟩
  rw [shows_is]
  show loadO (pic (piece (List.replicate N 0) _ _)) (pic (piece (List.replicate N 0) _ _)) = none
  rw [hp _ (by omega), hp _ (by omega)]; rfl
end

end Go.Proofs.Ytmfbbonppmhabaa
