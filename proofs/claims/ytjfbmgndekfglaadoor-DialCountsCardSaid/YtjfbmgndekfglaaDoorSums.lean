/- The checksum of layer 2 as plain numbers and lists: no program in sight. The walks of layer 2's functions. The walks of layer 2's reference, and of the reference's comparison of bytes. The plain laws of the checksum: no program in sight. -/
import Derived.WalkKit
import Derived.Test.YtjfbmgndekfglaaDoorGround
import Derived.Deep.RegionHeld3
import Derived.WalkSmall
namespace Go.Proofs.YtjfbmgndekfglaaDoor
set_option linter.unusedVariables false
set_option linter.unusedSimpArgs false

/-- One bit of the register. -/
def crcBit (r : Nat) : Nat := if r % 2 = 0 then r / 2 else (r / 2) ^^^ 3988292384
/-- `k` bits. -/
def crcBits : Nat → Nat → Nat
  | 0, r => r
  | k + 1, r => crcBit (crcBits k r)
/-- One byte. -/
def crcByte (r c : Nat) : Nat := crcBits 8 (r ^^^ c)
/-- The register behind some bytes. -/
def crc (r : Nat) : List UInt8 → Nat
  | [] => r
  | c :: l => crc (crcByte r c.toNat) l

theorem crcBit_lt {r : Nat} (h : r < 4294967296) : crcBit r < 4294967296 := by
  unfold crcBit
  split
  · omega
  · exact Nat.xor_lt_two_pow (n := 32) (by omega) (by omega)
theorem crcBits_lt {r : Nat} (h : r < 4294967296) : ∀ k, crcBits k r < 4294967296
  | 0 => h
  | k + 1 => crcBit_lt (crcBits_lt h k)
theorem crcByte_lt {r c : Nat} (h : r < 4294967296) (hc : c < 256) : crcByte r c < 4294967296 :=
  crcBits_lt (Nat.xor_lt_two_pow (n := 32) h (by omega)) 8
theorem crc_lt : ∀ (l : List UInt8) {r : Nat}, r < 4294967296 → crc r l < 4294967296
  | [], _, h => h
  | c :: l, _, h => crc_lt l (crcByte_lt h (by have := c.toNat_lt; omega))
theorem crc_append : ∀ (a b : List UInt8) (r : Nat), crc r (a ++ b) = crc (crc r a) b
  | [], _, _ => rfl
  | c :: a, b, r => crc_append a b (crcByte r c.toNat)
theorem crc_take_succ (r : Nat) (l : List UInt8) (k : Nat) (h : k < l.length) : crc r (l.take (k + 1)) = crcByte (crc r (l.take k)) (l[k].toNat) := by
  rw [List.take_succ_eq_append_getElem h, crc_append]; rfl

/-- The sum of bytes. -/
def sumOf (l : List UInt8) : Nat := 4294967295 - crc 4294967295 l
/-- A sum with bytes behind. -/
def sumMore (s : Int) (l : List UInt8) : Int := if s < 0 ∨ 4294967295 < s then 0 else ((4294967295 - crc (4294967295 - s.toNat) l : Nat) : Int)
/-- A number's four bytes. -/
def putB (n : Int) : List UInt8 := [UInt8.ofNat (n / 16777216 % 256).toNat, UInt8.ofNat (n / 65536 % 256).toNat, UInt8.ofNat (n / 256 % 256).toNat, UInt8.ofNat (n % 256).toNat]
/-- Do bytes end with their sum? -/
def isB (l : List UInt8) : Bool := decide (4 ≤ l.length) && (putB (sumOf (l.take (l.length - 4))) == l.drop (l.length - 4))

theorem sumOf_more (l : List UInt8) : sumMore 0 l = sumOf l := by simp [sumMore, sumOf]

end Go.Proofs.YtjfbmgndekfglaaDoor

namespace Go.Proofs.YtjfbmgndekfglaaDoor
set_option linter.unusedVariables false
set_option linter.unusedSimpArgs false
open Go.RowKit

theorem xor_u32 (a b : Nat) (ha : a < 4294967296) (hb : b < 4294967296) : bits .xor .u32 (a : Int) (b : Int) = ((a ^^^ b : Nat) : Int) := by
  have h : a ^^^ b < 4294967296 := Nat.xor_lt_two_pow (n := 32) ha hb
  have e1 : IntKind.u32.bits = 32 := rfl
  simp only [bits, e1, BitVec.ofInt_natCast, BitVec.toNat_xor, BitVec.toNat_ofNat]
  rw [Nat.mod_eq_of_lt (by omega), Nat.mod_eq_of_lt (by omega), IntKind.wrap_u32]
  omega
theorem and_u32_1 (a : Nat) (ha : a < 4294967296) : bits .and .u32 (a : Int) 1 = ((a % 2 : Nat) : Int) := by
  have h := (bits_nat .u32 32 (by decide) (by intro n h0 h1; rw [IntKind.wrap_u32]; omega) a 1 (by omega) (by omega)).1
  rw [show ((1 : Int)) = ((1 : Nat) : Int) from rfl, h, Nat.and_one_is_mod]
theorem xor_poly (z : Nat) (hz : z < 4294967296) : bits .xor .u32 ((z : Int) / 2) 3988292384 = ((z / 2 ^^^ 3988292384 : Nat) : Int) := by
  have h := xor_u32 (z / 2) 3988292384 (by omega) (by omega)
  rwa [show ((z / 2 : Nat) : Int) = (z : Int) / 2 from by omega] at h
theorem xor_all (z : Nat) (hz : z < 4294967296) : bits .xor .u32 IntKind.u32.max (z : Int) = ((4294967295 - z : Nat) : Int) := by
  rw [show IntKind.u32.max = 4294967295 from by decide]
  have h := xor_u32 4294967295 z (by omega) hz
  rw [show (((4294967295 : Nat)) : Int) = (4294967295 : Int) from rfl] at h
  rw [h]
  congr 1
  apply Nat.eq_of_testBit_eq
  intro i
  rw [Nat.testBit_xor, show (4294967295 : Nat) = 2 ^ 32 - 1 from rfl, Nat.testBit_two_pow_sub_one, show 2 ^ 32 - 1 - z = 2 ^ 32 - (z + 1) from by omega, Nat.testBit_two_pow_sub_succ (by omega)]
  by_cases hi : i < 32
  · simp [hi]
  · have : z.testBit i = false := Nat.testBit_lt_two_pow (Nat.lt_of_lt_of_le (show z < 2 ^ 32 from hz) (Nat.pow_le_pow_right (by omega) (by omega)))
    simp [hi, this]

end Go.Proofs.YtjfbmgndekfglaaDoor

namespace Go.Proofs.YtjfbmgndekfglaaDoor
set_option linter.unusedVariables false
set_option linter.unusedSimpArgs false
open Go.RowKit

theorem xor_i64 (a b : Nat) (ha : a < 4294967296) (hb : b < 4294967296) : bits .xor .i64 (a : Int) (b : Int) = ((a ^^^ b : Nat) : Int) := by
  have h : a ^^^ b < 4294967296 := Nat.xor_lt_two_pow (n := 32) ha hb
  have e1 : IntKind.i64.bits = 64 := rfl
  simp only [bits, e1, BitVec.ofInt_natCast, BitVec.toNat_xor, BitVec.toNat_ofNat]
  rw [Nat.mod_eq_of_lt (by omega), Nat.mod_eq_of_lt (by omega), IntKind.wrap_i64]
  omega
theorem xor_poly_i64 (z : Nat) (hz : z < 4294967296) : bits .xor .i64 ((z : Int) / 2) 3988292384 = ((z / 2 ^^^ 3988292384 : Nat) : Int) := by
  have h := xor_i64 (z / 2) 3988292384 (by omega) (by omega)
  rwa [show ((z / 2 : Nat) : Int) = (z : Int) / 2 from by omega] at h

theorem quo_nn (x y : Int) (h : 0 ≤ x) : x.tdiv y = x / y := Int.tdiv_eq_ediv_of_nonneg h
theorem rem_nn (x y : Int) (h : 0 ≤ x) : x.tmod y = x % y := Int.tmod_eq_emod_of_nonneg h
theorem put_3 (n : Int) : IntKind.u64.wrap (((IntKind.u64.wrap n).tmod 4294967296).tdiv 16777216) % 256 = n / 16777216 % 256 := by
  simp only [IntKind.wrap_u64]
  rw [rem_nn _ _ (by omega), quo_nn _ _ (by omega)]; omega
theorem put_2 (n : Int) : (IntKind.u64.wrap (((IntKind.u64.wrap n).tmod 4294967296).tdiv 65536)).tmod 256 % 256 = n / 65536 % 256 := by
  simp only [IntKind.wrap_u64]
  rw [rem_nn _ 4294967296 (by omega), quo_nn _ _ (by omega), rem_nn _ _ (by omega)]; omega
theorem put_1 (n : Int) : (IntKind.u64.wrap (((IntKind.u64.wrap n).tmod 4294967296).tdiv 256)).tmod 256 % 256 = n / 256 % 256 := by
  simp only [IntKind.wrap_u64]
  rw [rem_nn _ 4294967296 (by omega), quo_nn _ _ (by omega), rem_nn _ _ (by omega)]; omega
theorem put_0 (n : Int) : (IntKind.u64.wrap n).tmod 256 % 256 = n % 256 := by
  simp only [IntKind.wrap_u64]
  rw [rem_nn _ _ (by omega)]; omega

theorem isB_four (l p : List UInt8) (n : Nat) (hn : l.length = n + 4) (hp : p = putB (sumOf (l.take n))) (h4 : p.length = 4) :
    isB l = (p[0] == l[n] && (p[1] == l[n + 1] && (p[2] == l[n + 2] && p[3] == l[n + 3]))) := by
  have hd : l.drop n = [l[n], l[n + 1], l[n + 2], l[n + 3]] := by
    apply List.ext_getElem
    · simp; omega
    · intro i h1 h2
      simp at h2
      match i, h2 with
      | 0, _ => simp
      | 1, _ => simp
      | 2, _ => simp
      | 3, _ => simp
  have hp4 : p = [p[0], p[1], p[2], p[3]] := by
    apply List.ext_getElem
    · simp; omega
    · intro i h1 h2
      simp at h2
      match i, h2 with
      | 0, _ => simp
      | 1, _ => simp
      | 2, _ => simp
      | 3, _ => simp
  unfold isB
  rw [show l.length - 4 = n by omega, ← hp, hd, show decide (4 ≤ l.length) = true by simp; omega]
  rw [Bool.eq_iff_iff]
  conv => lhs; rw [hp4]
  simp

theorem beq_u8 (x y : UInt8) : ((x.toNat : Int) == (y.toNat : Int)) = (x == y) := by
  rw [Bool.eq_iff_iff]; simp only [beq_iff_eq]; rw [← UInt8.toNat_inj]; omega

end Go.Proofs.YtjfbmgndekfglaaDoor

namespace Go.Proofs.YtjfbmgndekfglaaDoor
set_option linter.unusedVariables false
set_option linter.unusedSimpArgs false

theorem crcBit_inj {x y : Nat} (hx : x < 4294967296) (hy : y < 4294967296) (h : crcBit x = crcBit y) : x = y := by
  have top : ∀ z : Nat, z < 2147483648 → 2147483648 ≤ z ^^^ 3988292384 := by
    intro z hz
    have h1 : (z ^^^ 3988292384).testBit 31 = true := by
      rw [Nat.testBit_xor, Nat.testBit_lt_two_pow (show z < 2 ^ 31 from hz)]; decide
    exact Nat.ge_two_pow_of_testBit h1
  unfold crcBit at h
  by_cases h1 : x % 2 = 0 <;> by_cases h2 : y % 2 = 0
  · rw [if_pos h1, if_pos h2] at h; omega
  · rw [if_pos h1, if_neg h2] at h
    have := top (y / 2) (by omega); omega
  · rw [if_neg h1, if_pos h2] at h
    have := top (x / 2) (by omega); omega
  · rw [if_neg h1, if_neg h2] at h
    have h3 : x / 2 ^^^ 3988292384 ^^^ 3988292384 = y / 2 ^^^ 3988292384 ^^^ 3988292384 := by rw [h]
    rw [Nat.xor_assoc, Nat.xor_self, Nat.xor_zero, Nat.xor_assoc, Nat.xor_self, Nat.xor_zero] at h3
    omega
theorem crcBits_inj {x y : Nat} (hx : x < 4294967296) (hy : y < 4294967296) : ∀ k, crcBits k x = crcBits k y → x = y
  | 0, h => h
  | k + 1, h => crcBits_inj hx hy k (crcBit_inj (crcBits_lt hx k) (crcBits_lt hy k) h)
theorem xor_cancel {x y c : Nat} (h : x ^^^ c = y ^^^ c) : x = y := by
  have h3 : x ^^^ c ^^^ c = y ^^^ c ^^^ c := by rw [h]
  rwa [Nat.xor_assoc, Nat.xor_self, Nat.xor_zero, Nat.xor_assoc, Nat.xor_self, Nat.xor_zero] at h3
theorem crcByte_inj {x y c : Nat} (hx : x < 4294967296) (hy : y < 4294967296) (hc : c < 256) (h : crcByte x c = crcByte y c) : x = y :=
  xor_cancel (crcBits_inj (Nat.xor_lt_two_pow (n := 32) hx (by omega)) (Nat.xor_lt_two_pow (n := 32) hy (by omega)) 8 h)
theorem crcByte_inj' {x c d : Nat} (hx : x < 4294967296) (hc : c < 256) (hd : d < 256) (h : crcByte x c = crcByte x d) : c = d := by
  have := crcBits_inj (Nat.xor_lt_two_pow (n := 32) hx (by omega)) (Nat.xor_lt_two_pow (n := 32) hx (by omega)) 8 h
  rw [Nat.xor_comm x c, Nat.xor_comm x d] at this
  exact xor_cancel this
theorem crc_inj : ∀ (l : List UInt8) {x y : Nat}, x < 4294967296 → y < 4294967296 → crc x l = crc y l → x = y
  | [], _, _, _, _, h => h
  | c :: l, _, _, hx, hy, h => crcByte_inj hx hy (by have := c.toNat_lt; omega) (crc_inj l (crcByte_lt hx (by have := c.toNat_lt; omega)) (crcByte_lt hy (by have := c.toNat_lt; omega)) h)
theorem crc_mid (p q : List UInt8) (c d : UInt8) (hd : d ≠ c) {r : Nat} (hr : r < 4294967296) : crc r (p ++ d :: q) ≠ crc r (p ++ c :: q) := by
  intro h
  rw [crc_append, crc_append] at h
  have hx := crc_lt p hr
  have h1 : crc (crcByte (crc r p) d.toNat) q = crc (crcByte (crc r p) c.toNat) q := h
  have hd' : d.toNat < 256 := by have := d.toNat_lt; omega
  have hc' : c.toNat < 256 := by have := c.toNat_lt; omega
  have h2 := crc_inj q (crcByte_lt hx hd') (crcByte_lt hx hc') h1
  exact hd (UInt8.toNat_inj.1 (crcByte_inj' hx hd' hc' h2))
/-- One byte turned turns the register. -/
theorem crc_turned (l : List UInt8) (k : Nat) (hk : k < l.length) (d : UInt8) (hd : d ≠ l[k]) {r : Nat} (hr : r < 4294967296) : crc r (l.set k d) ≠ crc r l := by
  have e1 : l.set k d = l.take k ++ d :: l.drop (k + 1) := by
    rw [List.set_eq_take_append_cons_drop, if_pos hk]
  have e2 : l.take k ++ l[k] :: l.drop (k + 1) = l := by
    rw [← List.drop_eq_getElem_cons hk, List.take_append_drop]
  have h := crc_mid (l.take k) (l.drop (k + 1)) l[k] d hd hr
  rw [e2] at h
  rwa [e1]

theorem sumOf_lt (l : List UInt8) : sumOf l < 4294967296 := by unfold sumOf; omega
theorem sumOf_eq {a b : List UInt8} (h : sumOf a = sumOf b) : crc 4294967295 a = crc 4294967295 b := by
  have h1 := crc_lt a (show 4294967295 < 4294967296 by omega)
  have h2 := crc_lt b (show 4294967295 < 4294967296 by omega)
  unfold sumOf at h; omega
theorem more_append (a b : List UInt8) : sumMore (sumOf a) b = sumOf (a ++ b) := by
  have h1 := crc_lt a (show 4294967295 < 4294967296 by omega)
  have e : ((sumOf a : Nat) : Int) ≤ 4294967295 := by have := sumOf_lt a; omega
  unfold sumMore
  rw [if_neg (by omega)]
  have e2 : 4294967295 - ((sumOf a : Nat) : Int).toNat = crc 4294967295 a := by unfold sumOf; omega
  rw [e2, ← crc_append]; rfl
theorem putB_inj {x y : Nat} (hx : x < 4294967296) (hy : y < 4294967296) (h : putB x = putB y) : x = y := by
  have key : ∀ m n : Int, 0 ≤ m → m < 256 → 0 ≤ n → n < 256 → UInt8.ofNat m.toNat = UInt8.ofNat n.toNat → m = n := by
    intro m n _ _ _ _ e
    have := congrArg UInt8.toNat e
    rw [UInt8.toNat_ofNat', UInt8.toNat_ofNat'] at this
    omega
  simp only [putB, List.cons.injEq, and_true] at h
  obtain ⟨h3, h2, h1, h0⟩ := h
  have := key _ _ (by omega) (by omega) (by omega) (by omega) h3
  have := key _ _ (by omega) (by omega) (by omega) (by omega) h2
  have := key _ _ (by omega) (by omega) (by omega) (by omega) h1
  have := key _ _ (by omega) (by omega) (by omega) (by omega) h0
  omega
theorem putB_length (n : Int) : (putB n).length = 4 := by simp [putB]
theorem isB_put (l : List UInt8) : isB (l ++ putB (sumOf l)) = true := by
  unfold isB
  have e : (l ++ putB (sumOf l)).length - 4 = l.length := by simp [putB_length]
  rw [e, List.take_left, List.drop_left]
  simp [putB_length]
theorem isB_turned (l : List UInt8) (k : Nat) (d : UInt8) (hk : k < (l ++ putB (sumOf l)).length) (hd : d ≠ (l ++ putB (sumOf l))[k]) : isB ((l ++ putB (sumOf l)).set k d) = false := by
  have e : ((l ++ putB (sumOf l)).set k d).length - 4 = l.length := by simp [putB_length]
  unfold isB
  rw [e]
  have : (putB ↑(sumOf (List.take l.length ((l ++ putB ↑(sumOf l)).set k d))) == List.drop l.length ((l ++ putB ↑(sumOf l)).set k d)) = false := by
    apply beq_false_of_ne
    intro h
    by_cases hkl : k < l.length
    · rw [List.set_append_left _ _ hkl, List.take_left' (by simp), List.drop_left' (by simp)] at h
      have h2 := putB_inj (sumOf_lt _) (sumOf_lt _) h
      refine crc_turned l k hkl d ?_ (by omega) (sumOf_eq h2)
      rwa [List.getElem_append_left hkl] at hd
    · rw [List.set_append_right _ _ (by omega), List.take_left, List.drop_left] at h
      have hk' : k - l.length < (putB (sumOf l)).length := by simp at hk; omega
      have h2 := congrArg (fun q => q[k - l.length]?) h
      simp only [List.getElem?_set_self hk'] at h2
      rw [List.getElem?_eq_getElem hk'] at h2
      rw [List.getElem_append_right (by omega)] at hd
      exact hd (Option.some.inj h2).symm
  rw [this, Bool.and_false]

theorem div2_xor (x y : Nat) : (x ^^^ y) / 2 = x / 2 ^^^ y / 2 := Nat.xor_div_two
theorem mod2_xor (x y : Nat) : (x ^^^ y) % 2 = (x % 2 + y % 2) % 2 := by
  have h := Nat.xor_mod_two_pow (n := 1) (a := x) (b := y)
  rw [Nat.pow_one] at h
  rw [h]
  rcases Nat.mod_two_eq_zero_or_one x with h1 | h1 <;> rcases Nat.mod_two_eq_zero_or_one y with h2 | h2 <;> rw [h1, h2] <;> rfl
def odd1 (r : Nat) : Nat := if r % 2 = 0 then 0 else 3988292384
theorem crcBit_odd (r : Nat) : crcBit r = r / 2 ^^^ odd1 r := by unfold crcBit odd1; split <;> simp
theorem odd1_xor (x y : Nat) : odd1 (x ^^^ y) = odd1 x ^^^ odd1 y := by
  unfold odd1
  rw [mod2_xor]
  rcases Nat.mod_two_eq_zero_or_one x with h1 | h1 <;> rcases Nat.mod_two_eq_zero_or_one y with h2 | h2 <;> rw [h1, h2] <;> simp
theorem xor4 (a b c d : Nat) : (a ^^^ b) ^^^ (c ^^^ d) = (a ^^^ c) ^^^ (b ^^^ d) := by
  rw [Nat.xor_assoc, ← Nat.xor_assoc b, Nat.xor_comm b c, Nat.xor_assoc c, ← Nat.xor_assoc a]
theorem crcBit_xor (x y : Nat) : crcBit (x ^^^ y) = crcBit x ^^^ crcBit y := by
  rw [crcBit_odd, crcBit_odd x, crcBit_odd y, div2_xor, odd1_xor, xor4]
theorem crcBits_xor (x y : Nat) : ∀ k, crcBits k (x ^^^ y) = crcBits k x ^^^ crcBits k y
  | 0 => rfl
  | k + 1 => by simp only [crcBits]; rw [crcBits_xor x y k, crcBit_xor]
theorem crcByte_xor (x y c d : Nat) : crcByte (x ^^^ y) (c ^^^ d) = crcByte x c ^^^ crcByte y d := by
  unfold crcByte; rw [xor4, crcBits_xor]
theorem crc_three (x : List UInt8) : ∀ (a b c : List UInt8) (r s t : Nat), a.length = x.length → b.length = x.length → c.length = x.length →
    (∀ k : Nat, k < x.length → (x.getD k 0) = (a.getD k 0) ^^^ (b.getD k 0) ^^^ (c.getD k 0)) → crc (r ^^^ s ^^^ t) x = crc r a ^^^ crc s b ^^^ crc t c := by
  induction x with
  | nil =>
    intro a b c r s t ha hb hc _
    rw [List.eq_nil_of_length_eq_zero ha, List.eq_nil_of_length_eq_zero hb, List.eq_nil_of_length_eq_zero hc]; rfl
  | cons x xs ih =>
    intro a b c r s t ha hb hc h
    obtain ⟨a0, as0, rfl⟩ := List.exists_cons_of_length_eq_add_one ha
    obtain ⟨b0, bs, rfl⟩ := List.exists_cons_of_length_eq_add_one hb
    obtain ⟨c0, cs, rfl⟩ := List.exists_cons_of_length_eq_add_one hc
    have h0 := h 0 (by simp)
    simp only [List.getD_cons_zero] at h0
    have hs : crc (crcByte (r ^^^ s ^^^ t) x.toNat) xs = crc (crcByte r a0.toNat) as0 ^^^ crc (crcByte s b0.toNat) bs ^^^ crc (crcByte t c0.toNat) cs := by
      rw [h0, UInt8.toNat_xor, UInt8.toNat_xor, crcByte_xor, crcByte_xor]
      refine ih as0 bs cs _ _ _ (by simpa using ha) (by simpa using hb) (by simpa using hc) ?_
      intro k hk
      have := h (k + 1) (by simp; omega)
      simpa only [List.getD_cons_succ] using this
    exact hs
theorem not_xor (z : Nat) (hz : z < 4294967296) : 4294967295 - z = 4294967295 ^^^ z := by
  apply Nat.eq_of_testBit_eq
  intro i
  rw [Nat.testBit_xor, show (4294967295 : Nat) = 2 ^ 32 - 1 from rfl, Nat.testBit_two_pow_sub_one, show 2 ^ 32 - 1 - z = 2 ^ 32 - (z + 1) from by omega, Nat.testBit_two_pow_sub_succ (by omega)]
  by_cases hi : i < 32
  · simp [hi]
  · have : z.testBit i = false := Nat.testBit_lt_two_pow (Nat.lt_of_lt_of_le (show z < 2 ^ 32 from hz) (Nat.pow_le_pow_right (by omega) (by omega)))
    simp [hi, this]
theorem sumOf_three (x a b c : List UInt8) (ha : a.length = x.length) (hb : b.length = x.length) (hc : c.length = x.length)
    (h : ∀ k : Nat, k < x.length → (x.getD k 0) = (a.getD k 0) ^^^ (b.getD k 0) ^^^ (c.getD k 0)) : sumOf x = sumOf a ^^^ sumOf b ^^^ sumOf c := by
  have h3 := crc_three x a b c 4294967295 4294967295 4294967295 ha hb hc h
  have e : (4294967295 ^^^ 4294967295 ^^^ 4294967295 : Nat) = 4294967295 := by decide
  rw [e] at h3
  unfold sumOf
  rw [not_xor _ (crc_lt x (by omega)), not_xor _ (crc_lt a (by omega)), not_xor _ (crc_lt b (by omega)), not_xor _ (crc_lt c (by omega)), h3]
  generalize crc 4294967295 a = p
  generalize crc 4294967295 b = q
  generalize crc 4294967295 c = s
  rw [xor4 4294967295 p 4294967295 q, Nat.xor_self, Nat.zero_xor, ← Nat.xor_assoc, Nat.xor_comm 4294967295 (p ^^^ q), Nat.xor_assoc (p ^^^ q)]

end Go.Proofs.YtjfbmgndekfglaaDoor
