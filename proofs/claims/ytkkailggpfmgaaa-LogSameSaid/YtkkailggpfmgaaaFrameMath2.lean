/- Frames, put and turned: lists alone. -/
import Derived.Test.YtkkailggpfmgaaaFrameAll
namespace Go.Proofs.Ytkkailggpfmgaaa
set_option linter.unusedVariables false
set_option linter.unusedSimpArgs false
open Go.RowKit

theorem numF_ends : ∀ (f n : Nat), 1 ≤ n → n < 128 ^ f → ∃ q c, numF f n = q ++ [c] ∧ c ≠ 0
  | 0, n, h, k => by simp at k; omega
  | f + 1, n, h, k => by
    rw [numF]
    split
    · rename_i hn
      refine ⟨[], UInt8.ofNat n, rfl, ?_⟩
      intro e
      have := congrArg UInt8.toNat e
      rw [UInt8.toNat_ofNat'] at this
      simp at this; omega
    · rename_i hn
      have hp : n / 128 < 128 ^ f := by rw [Nat.pow_succ] at k; omega
      obtain ⟨q, c, e, hc⟩ := numF_ends f (n / 128) (by omega) hp
      exact ⟨UInt8.ofNat (n % 128 + 128) :: q, c, by rw [e]; rfl, hc⟩
theorem numF_head : ∀ (f n : Nat), 1 ≤ n → ∃ c q, numF (f + 1) n = c :: q ∧ c ≠ 0
  | f, n, h => by
    rw [numF]
    split
    · rename_i hn
      refine ⟨UInt8.ofNat n, [], rfl, ?_⟩
      intro e
      have := congrArg UInt8.toNat e
      rw [UInt8.toNat_ofNat'] at this
      simp at this; omega
    · rename_i hn
      refine ⟨UInt8.ofNat (n % 128 + 128), _, rfl, ?_⟩
      intro e
      have := congrArg UInt8.toNat e
      rw [UInt8.toNat_ofNat'] at this
      simp at this; omega
theorem code_ends {m : Nat} (h : 1 ≤ m) (hm : m ≤ 9007199254740991) : ∃ q c, codeNum (m : Int) = q ++ [c] ∧ c ≠ 0 := by
  rw [codeNum_yes hm]; exact numF_ends 8 m h (by omega)
theorem code_head {m : Nat} (h : 1 ≤ m) (hm : m ≤ 9007199254740991) : ∃ c q, codeNum (m : Int) = c :: q ∧ c ≠ 0 := by
  rw [codeNum_yes hm]; exact numF_head 7 m h
theorem frame_parts {p : List UInt8} (h1 : 1 ≤ p.length) (h2 : p.length ≤ 4000) : frameB p = codeNum p.length ++ (p ++ (putB (sumOf p) ++ [1])) := by
  rw [frameB, if_neg (by omega)]; simp
theorem frame_len {p : List UInt8} (h1 : 1 ≤ p.length) (h2 : p.length ≤ 4000) : (frameB p).length = (codeNum p.length).length + p.length + 5 := by
  rw [frame_parts h1 h2]; simp only [List.length_append, putB_length, List.length_singleton]; omega
theorem getNum_frame (P R : List UInt8) {p : List UInt8} (h1 : 1 ≤ p.length) (h2 : p.length ≤ 4000) : getNum (P ++ (codeNum p.length ++ R)) P.length = some (p.length, P.length + (codeNum p.length).length) := by
  have := getNum_put P R (p.length : Int) (by simp [isNum]; omega)
  rw [List.append_assoc] at this
  simpa using this
theorem fGet_num {l : List UInt8} {k m x : Nat} (hg : getNum l k = some (m, x)) (hz : l[k]?.getD 0 ≠ 0) : fGet l k = fBody l k m x := by
  have hs := getNum_some hg
  rw [fGet, if_neg (by omega), Int.toNat_natCast, if_neg hz, hg]; rfl
theorem first_ne (P R : List UInt8) {p : List UInt8} (h1 : 1 ≤ p.length) (h2 : p.length ≤ 4000) : (P ++ (codeNum p.length ++ R))[P.length]?.getD 0 ≠ 0 := by
  obtain ⟨c, q, e, hc⟩ := code_head h1 (by omega)
  rw [e]; simpa using hc
theorem fGet_put (P R : List UInt8) {p : List UInt8} (h1 : 1 ≤ p.length) (h2 : p.length ≤ 4000) : fGet (P ++ (frameB p ++ R)) P.length = (p, ((P.length + (frameB p).length : Nat) : Int), 1) := by
  have hl := frame_len h1 h2
  have e0 : P ++ (frameB p ++ R) = P ++ (codeNum p.length ++ ((p ++ (putB (sumOf p) ++ [1])) ++ R)) := by rw [frame_parts h1 h2]; simp
  have hg := getNum_frame P ((p ++ (putB (sumOf p) ++ [1])) ++ R) h1 h2
  have hz := first_ne P ((p ++ (putB (sumOf p) ++ [1])) ++ R) h1 h2
  rw [← e0] at hg hz
  rw [fGet_num hg hz, ← rBody_eq hg h1, rBody]
  have hp : ((P ++ (frameB p ++ R)).drop (P.length + (codeNum p.length).length)).take p.length = p := by
    rw [e0, ← List.drop_drop, List.drop_left' rfl, List.drop_left' rfl]
    rw [List.append_assoc p, List.take_left' rfl]
  rw [hp]
  have hk : ((P ++ (frameB p ++ R)).drop P.length).take (frameB p).length = frameB p := by rw [List.drop_left' rfl, List.take_left' rfl]
  rw [hk, if_neg (by simp only [List.length_append]; omega), if_neg (fun h => h.elim (fun h => by simp only [List.length_append] at h; omega) (fun h => h rfl))]
/-- What can be said of bytes that begin with a frame's number. -/
theorem fGet_torn {p : List UInt8} (h1 : 1 ≤ p.length) (h2 : p.length ≤ 4000) (k z : Nat) (hk : k < (frameB p).length) : fGet ((frameB p).take k ++ List.replicate z 0) 0 = ([], 0, if k = 0 then 0 else 2) := by
  have hl := frame_len h1 h2
  obtain ⟨t, ht⟩ : ∃ t, (frameB p).take k ++ List.replicate z 0 = t := ⟨_, rfl⟩
  rw [ht]
  by_cases k0 : k = 0
  · subst k0
    rw [List.take_zero, List.nil_append] at ht
    rw [fGet, if_neg (by omega), if_pos, if_pos rfl]
    subst ht
    cases z <;> simp [List.replicate]
  rw [if_neg k0]
  have hz : t[0]?.getD 0 ≠ 0 := by
    obtain ⟨c, q, e, hc⟩ := code_head h1 (by omega)
    rw [← ht, frame_parts h1 h2, e]
    obtain ⟨j, rfl⟩ := Nat.exists_eq_succ_of_ne_zero k0
    simpa using hc
  have hz' : t[(0 : Int).toNat]?.getD 0 ≠ 0 := hz
  rw [fGet, if_neg (by omega), if_neg hz']
  have htl : t.length = k + z := by rw [← ht, List.length_append, List.length_take, List.length_replicate]; omega
  cases hg : getNum t 0 with
  | none => rfl
  | some q =>
    obtain ⟨m, x⟩ := q
    have hg' : getNum t ((0 : Nat) : Int) = some (m, x) := hg
    have hs := getNum_some hg
    have hm := getNum_pos hg' hz
    have hc := getNum_code hg'
    rw [List.drop_zero, Nat.sub_zero] at hc
    simp only [fNum]
    by_cases hx : x ≤ k
    · -- the number is whole: it is the frame's
      have e1 : t.take x = (frameB p).take x := by rw [← ht, List.take_append_of_le_length (by rw [List.length_take]; omega), List.take_take, Nat.min_eq_left hx]
      have e2 : getNum (frameB p) ((0 : Nat) : Int) = some (m, x) := by
        have h3 := getNum_put [] ((frameB p).drop x) (m : Int) (by simp [isNum]; omega)
        rw [List.nil_append, hc.1, e1, List.take_append_drop] at h3
        rw [← e1, ← hc.1] at h3
        simpa [hc.2] using h3
      have e3 := getNum_frame [] (p ++ (putB (sumOf p) ++ [1])) h1 h2
      rw [List.nil_append, ← frame_parts h1 h2] at e3
      have e4 : some (m, x) = some (p.length, (codeNum p.length).length) := by rw [← e2]; simpa using e3
      cases e4
      unfold fBody
      by_cases h5 : t.length ≤ (codeNum p.length).length + p.length + 4
      · rw [if_pos (.inr h5)]
      rw [if_neg (by omega), if_neg]
      rintro ⟨_, h6⟩
      rw [← ht, List.getElem?_append_right (by rw [List.length_take]; omega), List.getElem?_replicate] at h6
      split at h6 <;> simp at h6
    · exfalso
      obtain ⟨q, c, e, hc0⟩ := code_ends hm (by omega)
      rw [e] at hc
      have e1 : t.take x = (frameB p).take k ++ List.replicate (x - k) 0 := by
        rw [← ht, List.take_append, List.take_of_length_le (by rw [List.length_take]; omega), List.take_replicate, List.length_take]
        congr 2
        omega
      rw [e1, show x - k = (x - k - 1) + 1 by omega, List.replicate_succ', ← List.append_assoc] at hc
      have := (List.append_inj' hc.1 rfl).2
      simp at this
      exact hc0 this
theorem fGet_turned {p : List UInt8} (h1 : 1 ≤ p.length) (h2 : p.length ≤ 4000) (j : Nat) (hj : (codeNum p.length).length ≤ j) (hj2 : j < (frameB p).length) (d : UInt8) (hd : d ≠ (frameB p)[j]) : fGet ((frameB p).set j d) 0 = ([], 0, 2) := by
  have hl := frame_len h1 h2
  obtain ⟨i, rfl⟩ := Nat.exists_eq_add_of_le hj
  have ef := frame_parts h1 h2
  have es : (frameB p).set ((codeNum p.length).length + i) d = codeNum p.length ++ ((p ++ (putB (sumOf p) ++ [1])).set i d) := by
    rw [ef, List.set_append_right _ _ (by omega), Nat.add_sub_cancel_left]
  have hd' : d ≠ (p ++ (putB (sumOf p) ++ [1]))[i]'(by simp only [List.length_append, putB_length, List.length_singleton]; omega) := by
    have : (frameB p)[(codeNum p.length).length + i] = (p ++ (putB (sumOf p) ++ [1]))[i]'(by simp only [List.length_append, putB_length, List.length_singleton]; omega) := by
      simp only [ef]
      rw [List.getElem_append_right (by omega)]
      congr 1
      omega
    rw [← this]; exact hd
  obtain ⟨y, hy⟩ : ∃ y, (p ++ (putB (sumOf p) ++ [1])).set i d = y := ⟨_, rfl⟩
  have hyl : y.length = p.length + 5 := by rw [← hy]; simp only [List.length_set, List.length_append, putB_length, List.length_singleton]
  rw [es, hy]
  have hg := getNum_frame [] y h1 h2
  have hz := first_ne [] y h1 h2
  rw [List.nil_append] at hg hz
  have h3 := fGet_num hg hz
  simp only [List.length_nil, Nat.zero_add] at h3
  have h3' : fGet (codeNum p.length ++ y) 0 = fBody (codeNum p.length ++ y) 0 p.length (codeNum p.length).length := h3
  rw [h3', fBody, if_neg (by simp only [List.length_append, hyl]; omega), if_neg]
  rintro ⟨q1, q2⟩
  have hassoc : p ++ (putB (sumOf p) ++ [1]) = (p ++ putB (sumOf p)) ++ [1] := by simp
  have hpl : (p ++ putB (sumOf p)).length = p.length + 4 := by simp [putB_length]
  rw [List.drop_left' rfl] at q1
  rw [show (codeNum p.length).length + p.length + 4 = (codeNum p.length).length + (p.length + 4) by omega, List.getElem?_append_right (by omega), Nat.add_sub_cancel_left] at q2
  by_cases hi : i < p.length + 4
  · have ey : y = (p ++ putB (sumOf p)).set i d ++ [1] := by rw [← hy, hassoc, List.set_append_left _ _ (by rw [hpl]; exact hi)]
    rw [ey, List.take_left' (by rw [List.length_set, hpl])] at q1
    have := isB_turned p i d (by rw [hpl]; exact hi) (by
      have : (p ++ (putB (sumOf p) ++ [1]))[i]'(by simp only [List.length_append, putB_length, List.length_singleton]; omega) = (p ++ putB (sumOf p))[i]'(by rw [hpl]; exact hi) := by
        simp only [hassoc]
        rw [List.getElem_append_left (by rw [hpl]; exact hi)]
      rw [← this]; exact hd')
    rw [this] at q1; cases q1
  · have hi2 : i = p.length + 4 := by omega
    subst hi2
    have : (p ++ (putB (sumOf p) ++ [1]))[p.length + 4]'(by simp only [List.length_append, putB_length, List.length_singleton]; omega) = 1 := by
      simp only [hassoc]
      rw [List.getElem_append_right (by rw [hpl]; exact Nat.le_refl _)]
      simp
    rw [this] at hd'
    apply hd'
    rw [← hy, List.getElem?_set_self (by simp only [List.length_append, putB_length, List.length_singleton]; omega)] at q2
    simpa using q2

/-- Frames one behind the other. -/
theorem all_frames : ∀ (ps : List (List UInt8)) (P R : List UInt8) (at0 : Int) (qs : List (List UInt8)), (∀ p ∈ ps, 1 ≤ p.length ∧ p.length ≤ 4000) → AllAt (P ++ (ps.flatMap frameB ++ R)) at0 P.length qs →
    AllAt (P ++ (ps.flatMap frameB ++ R)) at0 ((P ++ ps.flatMap frameB).length : Nat) (qs ++ ps)
  | [], P, R, at0, qs, _, h => by simpa using h
  | p :: ps, P, R, at0, qs, hp, h => by
    have hp1 := hp p (by simp)
    have e : P ++ ((p :: ps).flatMap frameB ++ R) = P ++ (frameB p ++ (ps.flatMap frameB ++ R)) := by simp
    have hg := fGet_put P (ps.flatMap frameB ++ R) hp1.1 hp1.2
    rw [← e] at hg
    have h1 := h.step (by rw [hg])
    rw [hg] at h1
    have e2 : P ++ ((p :: ps).flatMap frameB ++ R) = (P ++ frameB p) ++ (ps.flatMap frameB ++ R) := by simp
    have h2 := all_frames ps (P ++ frameB p) R at0 (qs ++ [p]) (fun q hq => hp q (by simp [hq])) (by rw [← e2]; simpa using h1)
    rw [← e2] at h2
    have e3 : (P ++ (p :: ps).flatMap frameB) = (P ++ frameB p) ++ ps.flatMap frameB := by simp
    rw [e3]
    simpa using h2
theorem fAllF_end : ∀ (f : Nat) (l : List UInt8) (at_ : Int), 0 ≤ at_ → at_ ≤ l.length → (l.length : Int) < f + at_ → at_ ≤ (fAllF f l at_).2 ∧ (fAllF f l at_).2 ≤ l.length ∧ (fGet l (fAllF f l at_).2).2.2 ≠ 1
  | 0, l, at_, h0, h1, h2 => by omega
  | f + 1, l, at_, h0, h1, h2 => by
    rw [fAllF]
    by_cases hw : (fGet l at_).2.2 = 1
    · rw [if_pos hw]
      have hg := fGet_one hw
      have := fAllF_end f l (fGet l at_).2.1 (by omega) hg.2.2 (by omega)
      exact ⟨by show at_ ≤ (fAllF f l (fGet l at_).2.1).2; omega, this.2⟩
    · rw [if_neg hw]
      exact ⟨Int.le_refl _, h1, hw⟩

end Go.Proofs.Ytkkailggpfmgaaa
