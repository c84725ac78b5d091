/- The walks of layer 1's functions. -/
import Derived.Test.YtkkailggpfmgaaaGen
import Derived.Test.YtkkailggpfmgaaaCodeLib
namespace Go.Proofs.Ytkkailggpfmgaaa
set_option linter.unusedVariables false
set_option linter.unusedSimpArgs false
open Go.RowKit

/-- Integers in a slice. -/
def eI : Elt Int := { T := 86, E := 3, s := 1, byt := 8, z := .int .i64 0, enc := fun z => [.int .i64 z] }
theorem eIok : eI.Ok := ⟨fun _ => rfl, fun _ u hu => by simp [eI] at hu; subst hu; rfl, by decide, by kernel_rfl, by kernel_rfl, by rfl⟩
theorem idxI (a : Option Addr) (n cap : Nat) (hn : 0 < n → a.isSome = true) (k : Nat) (i : Int) (hi : i = (k : Int)) (hk : k < n) (wx : World) :
    (Instr.indexAt 86 (.slice a n cap) (.int .i64 i)).run Try.prog wx = .ok (.pointer (some (adr a k))) wx := by
  have := idxG eIok a n cap hn k i hi hk wx
  rwa [show k * eI.s = k from Nat.mul_one k] at this
theorem AtG.cellI {w : World} {a : Option Addr} {l : List Int} (h : AtG eI w a l) {k : Nat} (hk : k < l.length) : w.cell? (adr a k) = some (.int .i64 l[k]) := by
  have := (h k hk).2 0 (by decide)
  rwa [show k * eI.s + 0 = k from Nat.mul_one k] at this

theorem or_u8_128 (x : Int) (h0 : 0 ≤ x) (h1 : x < 128) : bits .or .u8 x 128 = x + 128 := by
  obtain ⟨n, rfl⟩ := Int.eq_ofNat_of_zero_le h0
  have h := (bits_nat .u8 8 (by decide) wraps_u8 n 128 (by omega) (by omega)).2
  rw [show ((128 : Int)) = ((128 : Nat) : Int) from rfl, h, Nat.or_comm]
  have := Nat.two_pow_add_eq_or_of_lt (b := n) (i := 7) (by omega) 1
  simp at this
  omega

set_option maxRecDepth 10000 in
set_option maxHeartbeats 400000 in
theorem num_any (n : Int) (w : World) :
    Calls Try.prog 52 #[.int .i64 n] w fun e w' => ∃ v, e = .returned v ∧ Own w' w.heap.size v (codeNum n) ∧ Below w.heap.size w w' := by
  by_cases h0 : n < 0
  · have H := hid (codeNum_no (.inl h0))
    have g0 : decide (n < 0) = true := by simp; omega
    go_enter Try.func52, Try.ntmps52
    go_wp2
    go_ret
    exact ⟨_, rfl, by rw [H.out]; exact Own.nil _ _, Below.refl _ _⟩
  have g0 : decide (n < 0) = false := by simp; omega
  by_cases h1 : 9007199254740991 < n
  · have H := hid (codeNum_no (.inr h1))
    have g1 : decide (9007199254740991 < n) = true := by simp; omega
    go_enter Try.func52, Try.ntmps52
    go_wp2
    go_ret
    exact ⟨_, rfl, by rw [H.out]; exact Own.nil _ _, Below.refl _ _⟩
  have g1 : decide (9007199254740991 < n) = false := by simp; omega
  obtain ⟨n, rfl⟩ := Int.eq_ofNat_of_zero_le (show 0 ≤ n by omega)
  have hn : n ≤ 9007199254740991 := by omega
  have H := hid (codeNum_yes hn)
  have HN0 := hid hn
  have hnI : (n : Int) ≤ 9007199254740991 := by omega
  clear hn
  go_enter Try.func52, Try.ntmps52
  go_wp2
  go_loopw [0, 3] (fun q v wr => ∃ (m f : Nat) (o : List UInt8), q = .int .i64 m ∧ Own wr w.heap.size v o ∧ Below w.heap.size w wr ∧ numF 8 n = o ++ numF (f + 1) m ∧ m < 128 ^ (f + 1) ∧ o.length + f = 7 ∧ m ≤ n) (fun q _ _ => (intOf q).toNat)
  case atStart => exact ⟨n, 7, [], rfl, Own.nil _ _, Below.refl _ _, rfl, by omega, rfl, Nat.le_refl _⟩
  case round =>
    obtain ⟨m, f, o, rfl, hown, hbel, hnum, hm, hlen, hmn⟩ := hrel
    have HO := hid hown
    have HB := hid hbel
    have HN := hid hnum
    have HM := hid hm
    have HL := hid hlen
    have hol : o.length ≤ 7 := by omega
    have hsz := hbel.size
    clear hown hbel hnum hm hlen
    clear g0 g1 h0 h1
    by_cases h128 : 128 ≤ m
    · have hor := or_u8_128 ((m : Int) % 128) (by omega) (by omega)
      have HX : Hid (#[Value.int .u8 ((m : Int) % 128 + 128)].toList = [bv (UInt8.ofNat (m % 128 + 128))]) := by
        have := bv_of ((m : Int) % 128 + 128) (by omega) (by omega)
        rw [show ((m : Int) % 128 + 128).toNat = m % 128 + 128 by omega] at this
        rw [Hid, this]
      go_wp2_with (at_builtin; refine wpList_app (by rfl) (.tmp 12) (.tmp 17) 32 32 32 rfl rfl _ _ rfl rfl (run_one wr w.heap.size _ o (by exact HO.out) _ _ HX.out (by omega) hsz) ?_; rintro v2 w2 ⟨hown2, hb2⟩; have HO2 := hid hown2; have HB2 := hid (HB.out.trans hb2); clear hown2 hb2)
      obtain ⟨g, hg, hn2, hm2⟩ := num_step h128 HM.out
      have hl2 := HL.out
      go_roundw
      case rel => exact ⟨m / 128, g, o ++ [UInt8.ofNat (m % 128 + 128)], by go_num, HO2.out, HB2.out, by rw [HN.out, hn2, List.append_assoc]; rfl, hm2, by simp; omega, by omega⟩
      case measure => simp [intOf]; omega
    · have HX : Hid (#[Value.int .u8 (m : Int)].toList = [bv (UInt8.ofNat m)]) := by
        have := bv_of (m : Int) (by omega) (by omega)
        rw [show (m : Int).toNat = m by omega] at this
        rw [Hid, this]
      have HR : Hid (codeNum n = o ++ [UInt8.ofNat m]) := by rw [Hid, H.out, HN.out, num_last (by omega)]
      go_wp2_with (at_builtin; refine wpList_app (by rfl) (.tmp 21) (.tmp 24) 32 32 32 rfl rfl _ _ rfl rfl (run_one wr w.heap.size _ o (by exact HO.out) _ _ HX.out (by omega) hsz) ?_; rintro v2 w2 ⟨hown2, hb2⟩; have HO2 := hid hown2; have HB2 := hid (HB.out.trans hb2); clear hown2 hb2)
      go_ret
      exact ⟨_, rfl, by rw [HR.out]; exact HO2.out, HB2.out⟩

theorem codeList_no {l : List Int} {k : Nat} (hk : k < l.length) (h : isNum l[k] = false) : codeList l = [] := by
  unfold codeList
  rw [if_neg]
  intro ha
  have := List.all_eq_true.1 ha l[k] (List.getElem_mem hk)
  rw [h] at this; cases this
theorem codeList_yes {l : List Int} (h : (l.take l.length).all isNum = true) : codeList l = codeNum l.length ++ l.flatMap codeNum := by
  unfold codeList; rw [List.take_length] at h; rw [if_pos h]

end Go.Proofs.Ytkkailggpfmgaaa
