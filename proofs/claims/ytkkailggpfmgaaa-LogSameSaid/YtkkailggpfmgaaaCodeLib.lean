/- Numbers and texts as bytes, as plain lists: no program in sight. -/
import Derived.WalkKit
namespace Go.Proofs.Ytkkailggpfmgaaa
set_option linter.unusedVariables false
set_option linter.unusedSimpArgs false

/-- A number's bytes, with fuel. -/
def numF : Nat → Nat → List UInt8
  | 0, _ => []
  | f + 1, n => if n < 128 then [UInt8.ofNat n] else UInt8.ofNat (n % 128 + 128) :: numF f (n / 128)
/-- Is it a number? -/
def isNum (n : Int) : Bool := decide (0 ≤ n ∧ n ≤ 9007199254740991)
def codeNum (n : Int) : List UInt8 := if n < 0 ∨ 9007199254740991 < n then [] else numF 8 n.toNat
def codeText (s : List UInt8) : List UInt8 := codeNum s.length ++ s
def codeList (l : List Int) : List UInt8 := if l.all isNum then codeNum l.length ++ l.flatMap codeNum else []
/-- What stands at the head of bytes: the number, and how many bytes it has. -/
def getF : Nat → Nat → Nat → List UInt8 → Option (Nat × Nat)
  | 0, _, _, _ => none
  | _ + 1, _, _, [] => none
  | f + 1, i, acc, c :: l =>
    if 128 ≤ c.toNat then getF f (i + 1) (acc + (c.toNat % 128) * 128 ^ i) l
    else if (c.toNat = 0 ∧ 0 < i) ∨ 9007199254740991 < acc + (c.toNat % 128) * 128 ^ i then none else some (acc + (c.toNat % 128) * 128 ^ i, i + 1)
def getNum (l : List UInt8) (at_ : Int) : Option (Nat × Nat) :=
  if 0 ≤ at_ ∧ at_ < l.length then (getF 8 0 0 (l.drop at_.toNat)).map fun p => (p.1, at_.toNat + p.2) else none
def getText (l : List UInt8) (at_ : Int) : Option (List UInt8 × Nat) :=
  (getNum l at_).bind fun p => if p.1 ≤ l.length - p.2 then some ((l.drop p.2).take p.1, p.2 + p.1) else none
def getItems (l : List UInt8) : Nat → Nat → Option (List Int × Nat)
  | 0, x => some ([], x)
  | k + 1, x => (getNum l x).bind fun p => (getItems l k p.2).map fun q => ((p.1 : Int) :: q.1, q.2)
def getList (l : List UInt8) (at_ many : Int) : Option (List Int × Nat) :=
  (getNum l at_).bind fun p => if many < (p.1 : Int) then none else getItems l p.1 p.2

theorem num_step {f m : Nat} (h : 128 ≤ m) (hm : m < 128 ^ (f + 1)) : ∃ g, f = g + 1 ∧ numF (f + 1) m = UInt8.ofNat (m % 128 + 128) :: numF (g + 1) (m / 128) ∧ m / 128 < 128 ^ (g + 1) := by
  cases f with
  | zero => simp at hm; omega
  | succ g =>
    refine ⟨g, rfl, ?_, ?_⟩
    · rw [numF, if_neg (by omega)]
    · rw [Nat.pow_succ] at hm
      exact Nat.div_lt_of_lt_mul (by rw [Nat.mul_comm]; exact hm)
theorem num_last {f m : Nat} (h : m < 128) : numF (f + 1) m = [UInt8.ofNat m] := by rw [numF, if_pos h]
theorem codeNum_no {n : Int} (h : n < 0 ∨ 9007199254740991 < n) : codeNum n = [] := if_pos h
theorem codeNum_yes {n : Nat} (h : n ≤ 9007199254740991) : codeNum (n : Int) = numF 8 n := by
  unfold codeNum; rw [if_neg (by omega)]; rfl
theorem numF_len : ∀ f n, (numF f n).length ≤ f
  | 0, _ => by simp [numF]
  | f + 1, n => by
    rw [numF]; split
    · simp
    · have := numF_len f (n / 128); simp; omega
theorem numF_pos (f n : Nat) : 0 < (numF (f + 1) n).length := by rw [numF]; split <;> simp
theorem codeNum_len (n : Int) : (codeNum n).length ≤ 8 := by
  unfold codeNum; split
  · simp
  · exact numF_len _ _
theorem codeNum_nil (n : Int) : codeNum n = [] ↔ isNum n = false := by
  unfold codeNum isNum
  split
  · simp; omega
  · have := numF_pos 7 n.toNat
    simp
    constructor
    · intro h; rw [h] at this; simp at this
    · intro h; omega

theorem getF_some : ∀ (f i acc : Nat) (m : List UInt8) (n c : Nat), getF f i acc m = some (n, c) → n ≤ 9007199254740991 ∧ i < c ∧ c ≤ i + m.length ∧ c ≤ i + f
  | 0, _, _, _, _, _, h => by simp [getF] at h
  | f + 1, i, acc, [], _, _, h => by simp [getF] at h
  | f + 1, i, acc, x :: m, n, c, h => by
    rw [getF] at h
    split at h
    · obtain ⟨h1, h2, h3, h4⟩ := getF_some f (i + 1) _ m n c h
      simp
      omega
    · split at h
      · cases h
      · rename_i hn
        simp only [Option.some.injEq, Prod.mk.injEq] at h
        obtain ⟨rfl, rfl⟩ := h
        simp
        omega
theorem getNum_some {l : List UInt8} {at_ : Int} {n x : Nat} (h : getNum l at_ = some (n, x)) : n ≤ 9007199254740991 ∧ at_ < x ∧ x ≤ l.length ∧ 0 ≤ at_ := by
  unfold getNum at h
  split at h
  · rename_i hr
    simp only [Option.map_eq_some_iff] at h
    obtain ⟨⟨n', c⟩, h1, h2⟩ := h
    simp only [Prod.mk.injEq] at h2
    obtain ⟨rfl, rfl⟩ := h2
    obtain ⟨h3, h4, h5, _⟩ := getF_some _ _ _ _ _ _ h1
    simp at h5
    omega
  · cases h

end Go.Proofs.Ytkkailggpfmgaaa
