/- Frames: lists alone. -/
import Derived.Test.YtkkailggpfmgaaaFrameGet
import Derived.Test.YtkkailggpfmgaaaCodeRefGet
namespace Go.Proofs.Ytkkailggpfmgaaa
set_option linter.unusedVariables false
set_option linter.unusedSimpArgs false
open Go.RowKit

theorem getNum_drop {l : List UInt8} {k m x : Nat} (h : getNum l k = some (m, x)) : getNum (l.drop k) 0 = some (m, x - k) ∧ k < x ∧ x ≤ l.length := by
  have hs := getNum_some h
  have hk : k < l.length := by omega
  rw [getNum_at' hk] at h
  obtain ⟨q, hq, e⟩ := Option.map_eq_some_iff.1 h
  have h0 : 0 < (l.drop k).length := by rw [List.length_drop]; omega
  have := getNum_at' (l := l.drop k) (p := 0) h0
  rw [show ((0 : Nat) : Int) = 0 from rfl] at this
  rw [this, List.drop_zero, hq]
  simp only [Prod.mk.injEq] at e
  obtain ⟨rfl, rfl⟩ := e
  refine ⟨by simp, by omega, by omega⟩
theorem getNum_code {l : List UInt8} {k m x : Nat} (h : getNum l k = some (m, x)) : codeNum m = (l.drop k).take (x - k) ∧ (codeNum m).length = x - k := by
  obtain ⟨h1, h2, h3⟩ := getNum_drop h
  have e := getNum_back h1
  exact ⟨e, by rw [e, List.length_take, List.length_drop]; omega⟩
theorem getNum_pos {l : List UInt8} {k m x : Nat} (h : getNum l k = some (m, x)) (hz : l[k]?.getD 0 ≠ 0) : 1 ≤ m := by
  rcases Nat.eq_zero_or_pos m with h0 | h0
  · subst h0
    have hc := (getNum_code h).1
    have e0 : codeNum ((0 : Nat) : Int) = [0] := by kernel_rfl
    rw [e0] at hc
    exfalso
    apply hz
    have h2 := (getNum_drop h).2.1
    have : ((l.drop k).take (x - k))[0]? = some 0 := by rw [← hc]; rfl
    rw [List.getElem?_take_of_lt (by omega), List.getElem?_drop, Nat.add_zero] at this
    rw [this]; rfl
  · exact h0
/-- The document's answer behind a number. -/
def rBody (l : List UInt8) (k m x : Nat) : List UInt8 × Int × Int :=
  if 4000 < m ∨ l.length < x + m then ([], (k : Int), 2)
  else if l.length < k + (frameB ((l.drop x).take m)).length ∨ frameB ((l.drop x).take m) ≠ (l.drop k).take (frameB ((l.drop x).take m)).length then ([], (k : Int), 2)
  else ((l.drop x).take m, ((k + (frameB ((l.drop x).take m)).length : Nat) : Int), 1)
theorem rBody_eq {l : List UInt8} {k m x : Nat} (h : getNum l k = some (m, x)) (hm : 1 ≤ m) : rBody l k m x = fBody l k m x := by
  obtain ⟨hc, hcl⟩ := getNum_code h
  obtain ⟨_, hkx, hxl⟩ := getNum_drop h
  unfold rBody fBody
  by_cases h4 : 4000 < m
  · rw [if_pos (.inl h4), if_pos (.inl h4)]
  by_cases h5 : l.length < x + m
  · rw [if_pos (.inr h5), if_pos (.inr (by omega))]
  rw [if_neg (by omega)]
  have hp : ((l.drop x).take m).length = m := by rw [List.length_take, List.length_drop]; omega
  generalize hpp : (l.drop x).take m = p at *
  have ef : frameB p = codeNum m ++ (p ++ (putB (sumOf p) ++ [1])) := by rw [frameB, hp, if_neg (by omega)]; simp
  have lf : (frameB p).length = (x - k) + m + 5 := by rw [ef]; simp only [List.length_append, hcl, hp, putB_length, List.length_singleton]; omega
  rw [lf]
  by_cases h6 : l.length ≤ x + m + 4
  · rw [if_pos (.inl (by omega)), if_pos (.inr h6)]
  rw [if_neg (by omega : ¬ (4000 < m ∨ l.length ≤ x + m + 4))]
  have h7 : ¬ l.length < k + ((x - k) + m + 5) := by omega
  have e1 : (l.drop k).take ((x - k) + m + 5) = codeNum m ++ (p ++ ((l.drop (x + m)).take 4 ++ [l[x + m + 4]])) := by
    have d1 : (l.drop k).take ((x - k) + m + 5) = (l.drop k).take (x - k) ++ ((l.drop k).drop (x - k)).take (m + 5) := by
      rw [show (x - k) + m + 5 = (x - k) + (m + 5) by omega, List.take_add]
    have d2 : ((l.drop k).drop (x - k)) = l.drop x := by rw [List.drop_drop]; congr 1; omega
    have d3 : (l.drop x).take (m + 5) = (l.drop x).take m ++ ((l.drop x).drop m).take 5 := List.take_add
    have d4 : ((l.drop x).drop m) = l.drop (x + m) := List.drop_drop
    have d5 : (l.drop (x + m)).take 5 = (l.drop (x + m)).take 4 ++ [l[x + m + 4]] := by
      have hlt : 4 < (l.drop (x + m)).length := by rw [List.length_drop]; omega
      rw [List.take_succ_eq_append_getElem hlt]
      congr 2
      simp
    rw [d1, d2, d3, d4, d5, ← hc, hpp]
  have e2 : isB ((l.drop x).take (m + 4)) = (putB (sumOf p) == (l.drop (x + m)).take 4) := by
    have d3 : (l.drop x).take (m + 4) = p ++ (l.drop (x + m)).take 4 := by
      rw [List.take_add, hpp, List.drop_drop]
    have dl : ((l.drop (x + m)).take 4).length = 4 := by rw [List.length_take, List.length_drop]; omega
    unfold isB
    rw [d3, List.length_append, hp, dl, Nat.add_sub_cancel, List.take_left' hp, List.drop_left' hp]
    simp
  rw [List.getElem?_eq_getElem (by omega : x + m + 4 < l.length), Option.getD_some, e2, ef, e1]
  by_cases h8 : putB (sumOf p) = (l.drop (x + m)).take 4 ∧ l[x + m + 4] = 1
  · rw [if_neg (by rw [h8.1, h8.2]; simp; omega), if_pos ⟨by rw [beq_iff_eq]; exact h8.1, h8.2⟩]
    congr 2
    omega
  · rw [if_pos, if_neg (by rw [beq_iff_eq]; exact h8)]
    right
    intro he
    apply h8
    have he := List.append_cancel_left he
    have he := List.append_cancel_left he
    have := List.append_inj' he rfl
    exact ⟨this.1, by have := this.2; simp at this; exact this.symm⟩

end Go.Proofs.Ytkkailggpfmgaaa
