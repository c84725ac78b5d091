/- The checksum of layer 2 as plain numbers and lists: no program in sight. -/
import Derived.WalkKit
namespace Go.Proofs.Ytkkailggpfmgaaa
set_option linter.unusedVariables false
set_option linter.unusedSimpArgs false

/-- One bit of the register. -/
def crcBit (r : Nat) : Nat := if r % 2 = 0 then r / 2 else (r / 2) ^^^ 3988292384
/-- `k` bits. -/
def crcBits : Nat → Nat → Nat
  | 0, r => r
  | k + 1, r => crcBit (crcBits k r)
/-- One byte. -/
def crcByte (r c : Nat) : Nat := crcBits 8 (r ^^^ c)
/-- The register behind some bytes. -/
def crc (r : Nat) : List UInt8 → Nat
  | [] => r
  | c :: l => crc (crcByte r c.toNat) l

theorem crcBit_lt {r : Nat} (h : r < 4294967296) : crcBit r < 4294967296 := by
  unfold crcBit
  split
  · omega
  · exact Nat.xor_lt_two_pow (n := 32) (by omega) (by omega)
theorem crcBits_lt {r : Nat} (h : r < 4294967296) : ∀ k, crcBits k r < 4294967296
  | 0 => h
  | k + 1 => crcBit_lt (crcBits_lt h k)
theorem crcByte_lt {r c : Nat} (h : r < 4294967296) (hc : c < 256) : crcByte r c < 4294967296 :=
  crcBits_lt (Nat.xor_lt_two_pow (n := 32) h (by omega)) 8
theorem crc_lt : ∀ (l : List UInt8) {r : Nat}, r < 4294967296 → crc r l < 4294967296
  | [], _, h => h
  | c :: l, _, h => crc_lt l (crcByte_lt h (by have := c.toNat_lt; omega))
theorem crc_append : ∀ (a b : List UInt8) (r : Nat), crc r (a ++ b) = crc (crc r a) b
  | [], _, _ => rfl
  | c :: a, b, r => crc_append a b (crcByte r c.toNat)
theorem crc_take_succ (r : Nat) (l : List UInt8) (k : Nat) (h : k < l.length) : crc r (l.take (k + 1)) = crcByte (crc r (l.take k)) (l[k].toNat) := by
  rw [List.take_succ_eq_append_getElem h, crc_append]; rfl

/-- The sum of bytes. -/
def sumOf (l : List UInt8) : Nat := 4294967295 - crc 4294967295 l
/-- A sum with bytes behind. -/
def sumMore (s : Int) (l : List UInt8) : Int := if s < 0 ∨ 4294967295 < s then 0 else ((4294967295 - crc (4294967295 - s.toNat) l : Nat) : Int)
/-- A number's four bytes. -/
def putB (n : Int) : List UInt8 := [UInt8.ofNat (n / 16777216 % 256).toNat, UInt8.ofNat (n / 65536 % 256).toNat, UInt8.ofNat (n / 256 % 256).toNat, UInt8.ofNat (n % 256).toNat]
/-- Do bytes end with their sum? -/
def isB (l : List UInt8) : Bool := decide (4 ≤ l.length) && (putB (sumOf (l.take (l.length - 4))) == l.drop (l.length - 4))

theorem sumOf_more (l : List UInt8) : sumMore 0 l = sumOf l := by simp [sumMore, sumOf]

end Go.Proofs.Ytkkailggpfmgaaa
