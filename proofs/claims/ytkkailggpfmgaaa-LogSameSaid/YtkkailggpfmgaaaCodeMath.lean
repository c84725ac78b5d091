/- Plain laws of numbers as bytes. -/
import Derived.Test.YtkkailggpfmgaaaCodeLib
namespace Go.Proofs.Ytkkailggpfmgaaa
set_option linter.unusedVariables false
set_option linter.unusedSimpArgs false

/-- The first `k` digits, the last without its sign. -/
def pre : Nat → Nat → List UInt8
  | 0, _ => []
  | k + 1, n => if k = 0 then [UInt8.ofNat (n % 128)] else UInt8.ofNat (n % 128 + 128) :: pre k (n / 128)
theorem pre_len : ∀ k n, (pre k n).length = k
  | 0, _ => rfl
  | k + 1, n => by
    rw [pre]; split
    · subst_vars; rfl
    · rw [List.length_cons, pre_len k]
theorem div_pow (n k : Nat) : n / 128 / 128 ^ k = n / 128 ^ (k + 1) := by rw [Nat.div_div_eq_div_mul, Nat.pow_succ, Nat.mul_comm]
theorem div_pow' (n k : Nat) : n / 128 ^ k / 128 = n / 128 ^ (k + 1) := by rw [Nat.div_div_eq_div_mul, Nat.pow_succ]
theorem pre_last : ∀ k n (h : k < (pre (k + 1) n).length), (pre (k + 1) n)[k] = UInt8.ofNat (n / 128 ^ k % 128)
  | 0, n, h => by simp [pre]
  | k + 1, n, h => by
    have e : pre (k + 1 + 1) n = UInt8.ofNat (n % 128 + 128) :: pre (k + 1) (n / 128) := by rw [pre, if_neg (by omega)]
    have := pre_last k (n / 128) (by rw [pre_len]; omega)
    simp only [e, List.getElem_cons_succ, this, div_pow]
theorem pre_step : ∀ k n, (pre (k + 1) n).set k (UInt8.ofNat (n / 128 ^ k % 128 + 128)) ++ [UInt8.ofNat (n / 128 ^ (k + 1) % 128)] = pre (k + 2) n
  | 0, n => by simp [pre]
  | k + 1, n => by
    have e : pre (k + 1 + 1) n = UInt8.ofNat (n % 128 + 128) :: pre (k + 1) (n / 128) := by rw [pre, if_neg (by omega)]
    have e2 : pre (k + 1 + 2) n = UInt8.ofNat (n % 128 + 128) :: pre (k + 2) (n / 128) := by rw [pre, if_neg (by omega)]
    rw [e, e2, List.set_cons_succ, List.cons_append, ← pre_step k (n / 128), div_pow, div_pow]
theorem pre_num : ∀ k f n, n < 128 ^ (k + 1) → (k = 0 ∨ 128 ^ k ≤ n) → pre (k + 1) n = numF (k + 1 + f) n
  | 0, f, n, h, _ => by
    simp at h
    rw [show 0 + 1 + f = f + 1 by omega, numF, if_pos h, pre, if_pos rfl, Nat.mod_eq_of_lt h]
  | k + 1, f, n, h, h2 => by
    have hp : 0 < 128 ^ k := Nat.pow_pos (by omega)
    have h3 : 128 ^ (k + 1) ≤ n := by omega
    have h4 : 128 ≤ 128 ^ (k + 1) := by rw [Nat.pow_succ]; omega
    rw [show k + 1 + 1 + f = (k + 1 + f) + 1 by omega, numF, if_neg (by omega), pre, if_neg (by omega)]
    congr 1
    apply pre_num k f
    · rw [Nat.pow_succ] at h
      exact Nat.div_lt_of_lt_mul (by rw [Nat.mul_comm]; exact h)
    · right
      rw [Nat.pow_succ] at h3
      exact (Nat.le_div_iff_mul_le (by omega)).2 h3
theorem numF_short : ∀ f j n, n < 128 ^ (j + 1) → (numF f n).length ≤ j + 1
  | 0, _, _, _ => by simp [numF]
  | f + 1, 0, n, h => by
    simp at h
    rw [numF, if_pos h]; simp
  | f + 1, j + 1, n, h => by
    rw [numF]; split
    · simp
    · rw [List.length_cons]
      have := numF_short f j (n / 128) (by
        rw [Nat.pow_succ] at h
        exact Nat.div_lt_of_lt_mul (by rw [Nat.mul_comm]; exact h))
      omega
/-- The length of a number's bytes tells whether it was put so. -/
theorem codeNum_minimal {s c k : Nat} (hs : s < 128 ^ k) (hc : c < 128) (hk : k < 8) :
    (codeNum ((s + c * 128 ^ k : Nat) : Int)).length = k + 1 ↔ ¬ ((c = 0 ∧ 0 < k) ∨ 9007199254740991 < s + c * 128 ^ k) := by
  by_cases hbig : 9007199254740991 < s + c * 128 ^ k
  · rw [codeNum_no (.inr (by omega))]
    simp [hbig]
  · rw [codeNum_yes (by omega)]
    by_cases h0 : c = 0 ∧ 0 < k
    · obtain ⟨rfl, hk0⟩ := h0
      obtain ⟨j, rfl⟩ : ∃ j, k = j + 1 := ⟨k - 1, by omega⟩
      have := numF_short 8 j s hs
      rw [Nat.zero_mul, Nat.add_zero]
      constructor
      · intro h; omega
      · intro h; exact absurd (.inl ⟨rfl, hk0⟩) h
    · have h1 : s + c * 128 ^ k < 128 ^ (k + 1) := by
        have h2 := Nat.mul_le_mul_right (128 ^ k) (show c ≤ 127 by omega)
        rw [Nat.pow_succ]; omega
      have h2 : k = 0 ∨ 128 ^ k ≤ s + c * 128 ^ k := by
        rcases Nat.eq_zero_or_pos k with h | h
        · exact .inl h
        · right
          have : 1 * 128 ^ k ≤ c * 128 ^ k := Nat.mul_le_mul_right _ (by omega)
          omega
      have h3 := pre_num k (7 - k) _ h1 h2
      rw [show k + 1 + (7 - k) = 8 by omega] at h3
      rw [← h3, pre_len]
      constructor
      · intro _ h; rcases h with h | h
        · exact h0 h
        · exact hbig h
      · intro _; rfl

theorem toNat_dig {m : Nat} (h : m < 256) : (UInt8.ofNat m).toNat = m := by rw [UInt8.toNat_ofNat']; omega
theorem getF_num (R : List UInt8) : ∀ (f i acc m : Nat), m < 128 ^ (f + 1) → (0 < m ∨ i = 0) → acc + m * 128 ^ i ≤ 9007199254740991 →
    getF (f + 1) i acc (numF (f + 1) m ++ R) = some (acc + m * 128 ^ i, i + (numF (f + 1) m).length) := by
  intro f
  induction f with
  | zero =>
    intro i acc m hm h0 hb
    simp at hm
    rw [numF, if_pos hm]
    simp only [List.cons_append, List.nil_append, getF, toNat_dig (show m < 256 by omega)]
    rw [if_neg (by omega), Nat.mod_eq_of_lt hm, if_neg (by omega)]; simp
  | succ f ih =>
    intro i acc m hm h0 hb
    rw [numF]
    by_cases h1 : m < 128
    · rw [if_pos h1]
      simp only [List.cons_append, List.nil_append, getF, toNat_dig (show m < 256 by omega)]
      rw [if_neg (by omega), Nat.mod_eq_of_lt h1, if_neg (by omega)]; simp
    · rw [if_neg h1]
      have hd : m % 128 + 128 < 256 := by omega
      have e1 : (m % 128 + 128) % 128 = m % 128 := by omega
      have e2 : acc + m % 128 * 128 ^ i + m / 128 * 128 ^ (i + 1) = acc + m * 128 ^ i := by
        rw [Nat.pow_succ, Nat.mul_comm (128 ^ i) 128, ← Nat.mul_assoc, Nat.add_assoc, ← Nat.add_mul]
        congr 2; omega
      have h3 := ih (i + 1) (acc + m % 128 * 128 ^ i) (m / 128) (by
        rw [Nat.pow_succ] at hm
        exact Nat.div_lt_of_lt_mul (by rw [Nat.mul_comm]; exact hm)) (.inl (by omega)) (by rw [e2]; exact hb)
      rw [e2] at h3
      rw [List.cons_append, getF, toNat_dig hd, if_pos (by omega), e1, h3, List.length_cons]
      congr 2; omega
theorem isNum_nat {n : Int} (h : isNum n = true) : ∃ m : Nat, n = m ∧ m ≤ 9007199254740991 := by
  simp [isNum] at h
  exact ⟨n.toNat, by omega, by omega⟩
/-- What was put is read again. -/
theorem getNum_put (P R : List UInt8) (n : Int) (h : isNum n = true) : getNum (P ++ codeNum n ++ R) (P.length : Int) = some (n.toNat, P.length + (codeNum n).length) := by
  obtain ⟨m, rfl, hm⟩ := isNum_nat h
  have hlen : 0 < (codeNum (m : Int)).length := by rw [codeNum_yes hm]; exact numF_pos 7 m
  unfold getNum
  rw [if_pos (by simp; omega)]
  rw [Int.toNat_natCast, List.append_assoc, List.drop_left, codeNum_yes hm, getF_num R 7 0 0 m (by rw [show (128 : Nat) ^ (7 + 1) = 72057594037927936 from by decide]; omega) (.inr rfl) (by simpa using hm)]
  simp
theorem getF_back : ∀ (f i acc : Nat) (l : List UInt8) (n c : Nat), getF f i acc l = some (n, c) → i < c ∧ ∃ m, n = acc + m * 128 ^ i ∧ l.take (c - i) = numF f m ∧ m < 128 ^ f ∧ (0 < m ∨ i = 0)
  | 0, _, _, _, _, _, h => by simp [getF] at h
  | f + 1, _, _, [], _, _, h => by simp [getF] at h
  | f + 1, i, acc, x :: l, n, c, h => by
    have hx := x.toNat_lt
    rw [getF] at h
    by_cases h1 : 128 ≤ x.toNat
    · rw [if_pos h1] at h
      obtain ⟨hc, m, h2, h3, h4, h5⟩ := getF_back f (i + 1) _ l n c h
      refine ⟨by omega, m * 128 + x.toNat % 128, ?_, ?_, ?_, ?_⟩
      · rw [h2, Nat.pow_succ, Nat.add_mul, Nat.mul_assoc m 128, Nat.mul_comm 128 (128 ^ i)]; omega
      · have hm : 0 < m := by
          rcases h5 with h5 | h5
          · exact h5
          · omega
        rw [show c - i = (c - (i + 1)) + 1 by omega, List.take_succ_cons, h3, numF, if_neg (by omega)]
        have e1 : (m * 128 + x.toNat % 128) % 128 + 128 = x.toNat := by omega
        have e2 : (m * 128 + x.toNat % 128) / 128 = m := by omega
        rw [e1, e2, UInt8.ofNat_toNat]
      · rw [Nat.pow_succ]; omega
      · have hm : 0 < m := by
          rcases h5 with h5 | h5
          · exact h5
          · omega
        left; omega
    · rw [if_neg h1] at h
      split at h
      · cases h
      · rename_i hn
        simp only [Option.some.injEq, Prod.mk.injEq] at h
        obtain ⟨rfl, rfl⟩ := h
        have e : x.toNat % 128 = x.toNat := by omega
        rw [e]
        refine ⟨by omega, x.toNat, rfl, ?_, ?_, by omega⟩
        · rw [show i + 1 - i = 1 by omega, numF, if_pos (by omega), UInt8.ofNat_toNat]; rfl
        · have : 128 ^ 1 ≤ 128 ^ (f + 1) := Nat.pow_le_pow_right (by omega) (by omega)
          omega
/-- What is read is what would be put. -/
theorem getNum_back {l : List UInt8} {n x : Nat} (h : getNum l 0 = some (n, x)) : codeNum n = l.take x := by
  obtain ⟨hn, _, _, _⟩ := getNum_some h
  unfold getNum at h
  split at h
  · simp only [Option.map_eq_some_iff] at h
    obtain ⟨⟨n', c⟩, h1, h2⟩ := h
    simp only [Prod.mk.injEq] at h2
    obtain ⟨rfl, rfl⟩ := h2
    obtain ⟨_, m, h3, h4, _, _⟩ := getF_back _ _ _ _ _ _ h1
    simp at h3 h4
    subst h3
    rw [codeNum_yes hn, ← h4]; simp
  · cases h
theorem numF_mono : ∀ f m n, m ≤ n → (numF f m).length ≤ (numF f n).length
  | 0, _, _, _ => by simp [numF]
  | f + 1, m, n, h => by
    rw [numF, numF]
    split
    · split
      · simp
      · simp
    · rw [if_neg (by omega), List.length_cons, List.length_cons]
      have := numF_mono f (m / 128) (n / 128) (Nat.div_le_div_right h)
      omega
theorem codeNum_mono {m n : Int} (hm : isNum m = true) (hn : isNum n = true) (h : m ≤ n) : (codeNum m).length ≤ (codeNum n).length := by
  obtain ⟨a, rfl, ha⟩ := isNum_nat hm
  obtain ⟨b, rfl, hb⟩ := isNum_nat hn
  rw [codeNum_yes ha, codeNum_yes hb]
  exact numF_mono 8 a b (by omega)
theorem getItems_put (R : List UInt8) : ∀ (l : List Int) (P : List UInt8), l.all isNum = true → getItems (P ++ l.flatMap codeNum ++ R) l.length P.length = some (l, P.length + (l.flatMap codeNum).length)
  | [], P, _ => by simp [getItems]
  | x :: l, P, h => by
    rw [List.all_cons, Bool.and_eq_true] at h
    have h1 := getNum_put P (l.flatMap codeNum ++ R) x h.1
    have h2 := getItems_put R l (P ++ codeNum x) h.2
    have e1 : P ++ (x :: l).flatMap codeNum ++ R = P ++ codeNum x ++ (l.flatMap codeNum ++ R) := by simp [List.flatMap_cons]
    have e2 : P ++ codeNum x ++ (l.flatMap codeNum ++ R) = (P ++ codeNum x) ++ l.flatMap codeNum ++ R := by simp
    obtain ⟨m, rfl, hm⟩ := isNum_nat h.1
    rw [e1, List.length_cons, getItems, h1, Option.bind_some, e2]
    simp only [List.length_append] at h2 ⊢
    rw [h2, Option.map_some, List.flatMap_cons, List.length_append]
    simp; omega
theorem codeList_pos {l : List Int} (h : codeList l ≠ []) (hl : l.length ≤ 9007199254740991) : l.all isNum = true ∧ codeList l = codeNum l.length ++ l.flatMap codeNum ∧ isNum (l.length : Int) = true := by
  unfold codeList at h ⊢
  split at h
  · rename_i ha
    rw [if_pos ha]
    exact ⟨ha, rfl, by simp [isNum]; omega⟩
  · exact absurd rfl h
theorem getList_put (P R : List UInt8) (l : List Int) (many : Int) (ha : l.all isNum = true) (hb : isNum (l.length : Int) = true) :
    getList (P ++ (codeNum l.length ++ l.flatMap codeNum) ++ R) (P.length : Int) many = if many < (l.length : Int) then none else some (l, P.length + (codeNum l.length ++ l.flatMap codeNum).length) := by
  have h1 := getNum_put P (l.flatMap codeNum ++ R) (l.length : Int) hb
  have e1 : P ++ (codeNum l.length ++ l.flatMap codeNum) ++ R = P ++ codeNum l.length ++ (l.flatMap codeNum ++ R) := by simp
  have e2 : P ++ codeNum l.length ++ (l.flatMap codeNum ++ R) = (P ++ codeNum l.length) ++ l.flatMap codeNum ++ R := by simp
  have h2 := getItems_put R l (P ++ codeNum l.length) ha
  rw [e1, getList, h1, Option.bind_some]
  simp only [Int.toNat_natCast]
  split
  · rfl
  · rw [e2]
    simp only [List.length_append] at h2 ⊢
    rw [h2, Nat.add_assoc]
theorem getText_put (s R : List UInt8) (h : isNum (s.length : Int) = true) : getText (codeText s ++ R) 0 = some (s, (codeText s).length) := by
  have h1 := getNum_put [] (s ++ R) (s.length : Int) h
  simp only [List.nil_append, List.length_nil, Nat.zero_add] at h1
  have e1 : codeText s ++ R = codeNum s.length ++ (s ++ R) := by simp [codeText]
  have h1' : getNum (codeText s ++ R) 0 = some (s.length, (codeNum s.length).length) := by rw [e1]; simpa using h1
  rw [getText, h1', Option.bind_some]
  have hle : s.length ≤ (codeText s ++ R).length - (codeNum s.length).length := by simp [codeText]
  simp only
  rw [if_pos hle, e1, List.drop_left, List.take_left]
  simp [codeText]

end Go.Proofs.Ytkkailggpfmgaaa
