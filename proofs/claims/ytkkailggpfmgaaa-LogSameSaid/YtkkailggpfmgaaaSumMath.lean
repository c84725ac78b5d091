/- The plain laws of the checksum: no program in sight. -/
import Derived.Test.YtkkailggpfmgaaaSumLib
namespace Go.Proofs.Ytkkailggpfmgaaa
set_option linter.unusedVariables false
set_option linter.unusedSimpArgs false

theorem crcBit_inj {x y : Nat} (hx : x < 4294967296) (hy : y < 4294967296) (h : crcBit x = crcBit y) : x = y := by
  have top : ∀ z : Nat, z < 2147483648 → 2147483648 ≤ z ^^^ 3988292384 := by
    intro z hz
    have h1 : (z ^^^ 3988292384).testBit 31 = true := by
      rw [Nat.testBit_xor, Nat.testBit_lt_two_pow (show z < 2 ^ 31 from hz)]; decide
    exact Nat.ge_two_pow_of_testBit h1
  unfold crcBit at h
  by_cases h1 : x % 2 = 0 <;> by_cases h2 : y % 2 = 0
  · rw [if_pos h1, if_pos h2] at h; omega
  · rw [if_pos h1, if_neg h2] at h
    have := top (y / 2) (by omega); omega
  · rw [if_neg h1, if_pos h2] at h
    have := top (x / 2) (by omega); omega
  · rw [if_neg h1, if_neg h2] at h
    have h3 : x / 2 ^^^ 3988292384 ^^^ 3988292384 = y / 2 ^^^ 3988292384 ^^^ 3988292384 := by rw [h]
    rw [Nat.xor_assoc, Nat.xor_self, Nat.xor_zero, Nat.xor_assoc, Nat.xor_self, Nat.xor_zero] at h3
    omega
theorem crcBits_inj {x y : Nat} (hx : x < 4294967296) (hy : y < 4294967296) : ∀ k, crcBits k x = crcBits k y → x = y
  | 0, h => h
  | k + 1, h => crcBits_inj hx hy k (crcBit_inj (crcBits_lt hx k) (crcBits_lt hy k) h)
theorem xor_cancel {x y c : Nat} (h : x ^^^ c = y ^^^ c) : x = y := by
  have h3 : x ^^^ c ^^^ c = y ^^^ c ^^^ c := by rw [h]
  rwa [Nat.xor_assoc, Nat.xor_self, Nat.xor_zero, Nat.xor_assoc, Nat.xor_self, Nat.xor_zero] at h3
theorem crcByte_inj {x y c : Nat} (hx : x < 4294967296) (hy : y < 4294967296) (hc : c < 256) (h : crcByte x c = crcByte y c) : x = y :=
  xor_cancel (crcBits_inj (Nat.xor_lt_two_pow (n := 32) hx (by omega)) (Nat.xor_lt_two_pow (n := 32) hy (by omega)) 8 h)
theorem crcByte_inj' {x c d : Nat} (hx : x < 4294967296) (hc : c < 256) (hd : d < 256) (h : crcByte x c = crcByte x d) : c = d := by
  have := crcBits_inj (Nat.xor_lt_two_pow (n := 32) hx (by omega)) (Nat.xor_lt_two_pow (n := 32) hx (by omega)) 8 h
  rw [Nat.xor_comm x c, Nat.xor_comm x d] at this
  exact xor_cancel this
theorem crc_inj : ∀ (l : List UInt8) {x y : Nat}, x < 4294967296 → y < 4294967296 → crc x l = crc y l → x = y
  | [], _, _, _, _, h => h
  | c :: l, _, _, hx, hy, h => crcByte_inj hx hy (by have := c.toNat_lt; omega) (crc_inj l (crcByte_lt hx (by have := c.toNat_lt; omega)) (crcByte_lt hy (by have := c.toNat_lt; omega)) h)
theorem crc_mid (p q : List UInt8) (c d : UInt8) (hd : d ≠ c) {r : Nat} (hr : r < 4294967296) : crc r (p ++ d :: q) ≠ crc r (p ++ c :: q) := by
  intro h
  rw [crc_append, crc_append] at h
  have hx := crc_lt p hr
  have h1 : crc (crcByte (crc r p) d.toNat) q = crc (crcByte (crc r p) c.toNat) q := h
  have hd' : d.toNat < 256 := by have := d.toNat_lt; omega
  have hc' : c.toNat < 256 := by have := c.toNat_lt; omega
  have h2 := crc_inj q (crcByte_lt hx hd') (crcByte_lt hx hc') h1
  exact hd (UInt8.toNat_inj.1 (crcByte_inj' hx hd' hc' h2))
/-- One byte turned turns the register. -/
theorem crc_turned (l : List UInt8) (k : Nat) (hk : k < l.length) (d : UInt8) (hd : d ≠ l[k]) {r : Nat} (hr : r < 4294967296) : crc r (l.set k d) ≠ crc r l := by
  have e1 : l.set k d = l.take k ++ d :: l.drop (k + 1) := by
    rw [List.set_eq_take_append_cons_drop, if_pos hk]
  have e2 : l.take k ++ l[k] :: l.drop (k + 1) = l := by
    rw [← List.drop_eq_getElem_cons hk, List.take_append_drop]
  have h := crc_mid (l.take k) (l.drop (k + 1)) l[k] d hd hr
  rw [e2] at h
  rwa [e1]

theorem sumOf_lt (l : List UInt8) : sumOf l < 4294967296 := by unfold sumOf; omega
theorem sumOf_eq {a b : List UInt8} (h : sumOf a = sumOf b) : crc 4294967295 a = crc 4294967295 b := by
  have h1 := crc_lt a (show 4294967295 < 4294967296 by omega)
  have h2 := crc_lt b (show 4294967295 < 4294967296 by omega)
  unfold sumOf at h; omega
theorem more_append (a b : List UInt8) : sumMore (sumOf a) b = sumOf (a ++ b) := by
  have h1 := crc_lt a (show 4294967295 < 4294967296 by omega)
  have e : ((sumOf a : Nat) : Int) ≤ 4294967295 := by have := sumOf_lt a; omega
  unfold sumMore
  rw [if_neg (by omega)]
  have e2 : 4294967295 - ((sumOf a : Nat) : Int).toNat = crc 4294967295 a := by unfold sumOf; omega
  rw [e2, ← crc_append]; rfl
theorem putB_inj {x y : Nat} (hx : x < 4294967296) (hy : y < 4294967296) (h : putB x = putB y) : x = y := by
  have key : ∀ m n : Int, 0 ≤ m → m < 256 → 0 ≤ n → n < 256 → UInt8.ofNat m.toNat = UInt8.ofNat n.toNat → m = n := by
    intro m n _ _ _ _ e
    have := congrArg UInt8.toNat e
    rw [UInt8.toNat_ofNat', UInt8.toNat_ofNat'] at this
    omega
  simp only [putB, List.cons.injEq, and_true] at h
  obtain ⟨h3, h2, h1, h0⟩ := h
  have := key _ _ (by omega) (by omega) (by omega) (by omega) h3
  have := key _ _ (by omega) (by omega) (by omega) (by omega) h2
  have := key _ _ (by omega) (by omega) (by omega) (by omega) h1
  have := key _ _ (by omega) (by omega) (by omega) (by omega) h0
  omega
theorem putB_length (n : Int) : (putB n).length = 4 := by simp [putB]
theorem isB_put (l : List UInt8) : isB (l ++ putB (sumOf l)) = true := by
  unfold isB
  have e : (l ++ putB (sumOf l)).length - 4 = l.length := by simp [putB_length]
  rw [e, List.take_left, List.drop_left]
  simp [putB_length]
theorem isB_turned (l : List UInt8) (k : Nat) (d : UInt8) (hk : k < (l ++ putB (sumOf l)).length) (hd : d ≠ (l ++ putB (sumOf l))[k]) : isB ((l ++ putB (sumOf l)).set k d) = false := by
  have e : ((l ++ putB (sumOf l)).set k d).length - 4 = l.length := by simp [putB_length]
  unfold isB
  rw [e]
  have : (putB ↑(sumOf (List.take l.length ((l ++ putB ↑(sumOf l)).set k d))) == List.drop l.length ((l ++ putB ↑(sumOf l)).set k d)) = false := by
    apply beq_false_of_ne
    intro h
    by_cases hkl : k < l.length
    · rw [List.set_append_left _ _ hkl, List.take_left' (by simp), List.drop_left' (by simp)] at h
      have h2 := putB_inj (sumOf_lt _) (sumOf_lt _) h
      refine crc_turned l k hkl d ?_ (by omega) (sumOf_eq h2)
      rwa [List.getElem_append_left hkl] at hd
    · rw [List.set_append_right _ _ (by omega), List.take_left, List.drop_left] at h
      have hk' : k - l.length < (putB (sumOf l)).length := by simp at hk; omega
      have h2 := congrArg (fun q => q[k - l.length]?) h
      simp only [List.getElem?_set_self hk'] at h2
      rw [List.getElem?_eq_getElem hk'] at h2
      rw [List.getElem_append_right (by omega)] at hd
      exact hd (Option.some.inj h2).symm
  rw [this, Bool.and_false]

theorem div2_xor (x y : Nat) : (x ^^^ y) / 2 = x / 2 ^^^ y / 2 := Nat.xor_div_two
theorem mod2_xor (x y : Nat) : (x ^^^ y) % 2 = (x % 2 + y % 2) % 2 := by
  have h := Nat.xor_mod_two_pow (n := 1) (a := x) (b := y)
  rw [Nat.pow_one] at h
  rw [h]
  rcases Nat.mod_two_eq_zero_or_one x with h1 | h1 <;> rcases Nat.mod_two_eq_zero_or_one y with h2 | h2 <;> rw [h1, h2] <;> rfl
def odd1 (r : Nat) : Nat := if r % 2 = 0 then 0 else 3988292384
theorem crcBit_odd (r : Nat) : crcBit r = r / 2 ^^^ odd1 r := by unfold crcBit odd1; split <;> simp
theorem odd1_xor (x y : Nat) : odd1 (x ^^^ y) = odd1 x ^^^ odd1 y := by
  unfold odd1
  rw [mod2_xor]
  rcases Nat.mod_two_eq_zero_or_one x with h1 | h1 <;> rcases Nat.mod_two_eq_zero_or_one y with h2 | h2 <;> rw [h1, h2] <;> simp
theorem xor4 (a b c d : Nat) : (a ^^^ b) ^^^ (c ^^^ d) = (a ^^^ c) ^^^ (b ^^^ d) := by
  rw [Nat.xor_assoc, ← Nat.xor_assoc b, Nat.xor_comm b c, Nat.xor_assoc c, ← Nat.xor_assoc a]
theorem crcBit_xor (x y : Nat) : crcBit (x ^^^ y) = crcBit x ^^^ crcBit y := by
  rw [crcBit_odd, crcBit_odd x, crcBit_odd y, div2_xor, odd1_xor, xor4]
theorem crcBits_xor (x y : Nat) : ∀ k, crcBits k (x ^^^ y) = crcBits k x ^^^ crcBits k y
  | 0 => rfl
  | k + 1 => by simp only [crcBits]; rw [crcBits_xor x y k, crcBit_xor]
theorem crcByte_xor (x y c d : Nat) : crcByte (x ^^^ y) (c ^^^ d) = crcByte x c ^^^ crcByte y d := by
  unfold crcByte; rw [xor4, crcBits_xor]
theorem crc_three (x : List UInt8) : ∀ (a b c : List UInt8) (r s t : Nat), a.length = x.length → b.length = x.length → c.length = x.length →
    (∀ k : Nat, k < x.length → (x.getD k 0) = (a.getD k 0) ^^^ (b.getD k 0) ^^^ (c.getD k 0)) → crc (r ^^^ s ^^^ t) x = crc r a ^^^ crc s b ^^^ crc t c := by
  induction x with
  | nil =>
    intro a b c r s t ha hb hc _
    rw [List.eq_nil_of_length_eq_zero ha, List.eq_nil_of_length_eq_zero hb, List.eq_nil_of_length_eq_zero hc]; rfl
  | cons x xs ih =>
    intro a b c r s t ha hb hc h
    obtain ⟨a0, as, rfl⟩ := List.exists_cons_of_length_eq_add_one ha
    obtain ⟨b0, bs, rfl⟩ := List.exists_cons_of_length_eq_add_one hb
    obtain ⟨c0, cs, rfl⟩ := List.exists_cons_of_length_eq_add_one hc
    have h0 := h 0 (by simp)
    simp only [List.getD_cons_zero] at h0
    have hs : crc (crcByte (r ^^^ s ^^^ t) x.toNat) xs = crc (crcByte r a0.toNat) as ^^^ crc (crcByte s b0.toNat) bs ^^^ crc (crcByte t c0.toNat) cs := by
      rw [h0, UInt8.toNat_xor, UInt8.toNat_xor, crcByte_xor, crcByte_xor]
      refine ih as bs cs _ _ _ (by simpa using ha) (by simpa using hb) (by simpa using hc) ?_
      intro k hk
      have := h (k + 1) (by simp; omega)
      simpa only [List.getD_cons_succ] using this
    exact hs
theorem not_xor (z : Nat) (hz : z < 4294967296) : 4294967295 - z = 4294967295 ^^^ z := by
  apply Nat.eq_of_testBit_eq
  intro i
  rw [Nat.testBit_xor, show (4294967295 : Nat) = 2 ^ 32 - 1 from rfl, Nat.testBit_two_pow_sub_one, show 2 ^ 32 - 1 - z = 2 ^ 32 - (z + 1) from by omega, Nat.testBit_two_pow_sub_succ (by omega)]
  by_cases hi : i < 32
  · simp [hi]
  · have : z.testBit i = false := Nat.testBit_lt_two_pow (Nat.lt_of_lt_of_le (show z < 2 ^ 32 from hz) (Nat.pow_le_pow_right (by omega) (by omega)))
    simp [hi, this]
theorem sumOf_three (x a b c : List UInt8) (ha : a.length = x.length) (hb : b.length = x.length) (hc : c.length = x.length)
    (h : ∀ k : Nat, k < x.length → (x.getD k 0) = (a.getD k 0) ^^^ (b.getD k 0) ^^^ (c.getD k 0)) : sumOf x = sumOf a ^^^ sumOf b ^^^ sumOf c := by
  have h3 := crc_three x a b c 4294967295 4294967295 4294967295 ha hb hc h
  have e : (4294967295 ^^^ 4294967295 ^^^ 4294967295 : Nat) = 4294967295 := by decide
  rw [e] at h3
  unfold sumOf
  rw [not_xor _ (crc_lt x (by omega)), not_xor _ (crc_lt a (by omega)), not_xor _ (crc_lt b (by omega)), not_xor _ (crc_lt c (by omega)), h3]
  generalize crc 4294967295 a = p
  generalize crc 4294967295 b = q
  generalize crc 4294967295 c = s
  rw [xor4 4294967295 p 4294967295 q, Nat.xor_self, Nat.zero_xor, ← Nat.xor_assoc, Nat.xor_comm 4294967295 (p ^^^ q), Nat.xor_assoc (p ^^^ q)]

end Go.Proofs.Ytkkailggpfmgaaa
