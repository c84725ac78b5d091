/- The walks of layer 2's functions. -/
import Derived.Test.YtkkailggpfmgaaaBase
import Derived.Test.YtkkailggpfmgaaaSumLib
import Derived.Deep.RegionHeld3
import Derived.WalkSmall
namespace Go.Proofs.Ytkkailggpfmgaaa
set_option linter.unusedVariables false
set_option linter.unusedSimpArgs false
open Go.RowKit

theorem xor_u32 (a b : Nat) (ha : a < 4294967296) (hb : b < 4294967296) : bits .xor .u32 (a : Int) (b : Int) = ((a ^^^ b : Nat) : Int) := by
  have h : a ^^^ b < 4294967296 := Nat.xor_lt_two_pow (n := 32) ha hb
  have e1 : IntKind.u32.bits = 32 := rfl
  simp only [bits, e1, BitVec.ofInt_natCast, BitVec.toNat_xor, BitVec.toNat_ofNat]
  rw [Nat.mod_eq_of_lt (by omega), Nat.mod_eq_of_lt (by omega), IntKind.wrap_u32]
  omega
theorem and_u32_1 (a : Nat) (ha : a < 4294967296) : bits .and .u32 (a : Int) 1 = ((a % 2 : Nat) : Int) := by
  have h := (bits_nat .u32 32 (by decide) (by intro n h0 h1; rw [IntKind.wrap_u32]; omega) a 1 (by omega) (by omega)).1
  rw [show ((1 : Int)) = ((1 : Nat) : Int) from rfl, h, Nat.and_one_is_mod]
theorem xor_poly (z : Nat) (hz : z < 4294967296) : bits .xor .u32 ((z : Int) / 2) 3988292384 = ((z / 2 ^^^ 3988292384 : Nat) : Int) := by
  have h := xor_u32 (z / 2) 3988292384 (by omega) (by omega)
  rwa [show ((z / 2 : Nat) : Int) = (z : Int) / 2 from by omega] at h
theorem xor_all (z : Nat) (hz : z < 4294967296) : bits .xor .u32 IntKind.u32.max (z : Int) = ((4294967295 - z : Nat) : Int) := by
  rw [show IntKind.u32.max = 4294967295 from by decide]
  have h := xor_u32 4294967295 z (by omega) hz
  rw [show (((4294967295 : Nat)) : Int) = (4294967295 : Int) from rfl] at h
  rw [h]
  congr 1
  apply Nat.eq_of_testBit_eq
  intro i
  rw [Nat.testBit_xor, show (4294967295 : Nat) = 2 ^ 32 - 1 from rfl, Nat.testBit_two_pow_sub_one, show 2 ^ 32 - 1 - z = 2 ^ 32 - (z + 1) from by omega, Nat.testBit_two_pow_sub_succ (by omega)]
  by_cases hi : i < 32
  · simp [hi]
  · have : z.testBit i = false := Nat.testBit_lt_two_pow (Nat.lt_of_lt_of_le (show z < 2 ^ 32 from hz) (Nat.pow_le_pow_right (by omega) (by omega)))
    simp [hi, this]

set_option maxHeartbeats 400000 in
theorem turned_any (r : Nat) (hr : r < 4294967296) (a : Option Addr) (l : List UInt8) (n cap : Nat) (w : World) (hn : l.length = n) (hl : n ≤ maxLen) (hA : At w a l) :
    Calls Try.prog 79 #[.int .u32 r, .slice a n cap] w fun e w' => e = .returned (.int .u32 (crc r l)) ∧ w = w' := by
  subst hn
  unfold maxLen at hl
  have H := hid hA
  have HI := idx_run a l.length cap hA.ok
  clear hA
  go_enter Try.func79, Try.ntmps79
  go_wp2
  go_loop [0, 9] (fun r9 i => ∃ k : Nat, k ≤ l.length ∧ i = .int .i64 k ∧ r9 = .int .u32 (crc r (l.take k))) (fun _ i => l.length - (intOf i).toNat)
  case atStart => exact ⟨0, Nat.zero_le _, rfl, rfl⟩
  case round =>
    obtain ⟨k, hk, rfl, rfl⟩ := hrel
    have hx := crc_lt (l.take k) hr
    by_cases hlt : k < l.length
    · have HC := H.out.cell hlt
      have hb := l[k].toNat_lt
      generalize hcv : l[k].toNat = c at HC hb
      have Hn := hid (crc_take_succ r l k hlt)
      have Hc := hid hcv
      clear hcv
      generalize hxv : crc r (l.take k) = x at *
      have Hx := hid hxv
      clear hxv
      have hxor := xor_u32 x c hx (by omega)
      have hy : x ^^^ c < 4294967296 := Nat.xor_lt_two_pow (n := 32) hx (by omega)
      go_wp2
      go_step3
      go_wp2
      clear hxor
      generalize hyv : x ^^^ c = y at *
      have Hy := hid hyv
      clear hyv
      go_step3
      go_wp2
      go_loop [0, 17] (fun r9 i => ∃ j : Nat, j ≤ 8 ∧ i = .int .i64 j ∧ r9 = .int .u32 (crcBits j y)) (fun _ i => 8 - (intOf i).toNat)
      case atStart => exact ⟨0, Nat.zero_le _, rfl, rfl⟩
      case round =>
        obtain ⟨j, hj, rfl, rfl⟩ := hrel
        have hz := crcBits_lt hy j
        generalize hzv : crcBits j y = z at *
        have Hz := hid hzv
        clear hzv
        have h1 := and_u32_1 z hz
        by_cases hjlt : j < 8
        · by_cases hodd : z % 2 = 0
          · have hb0 : (((z % 2 : Nat) : Int) == 0) = true := by simp; omega
            go_wp2
            go_round
            case rel => exact ⟨j + 1, by omega, by go_num, by rw [crcBits, Hz.out, crcBit, if_pos hodd]; simp⟩
            case measure => simp [intOf]; omega
          · have hb0 : (((z % 2 : Nat) : Int) == 0) = false := by simp; omega
            have h2 := xor_poly z hz
            go_wp2
            go_round
            case rel => exact ⟨j + 1, by omega, by go_num, by rw [crcBits, Hz.out, crcBit, if_neg hodd]⟩
            case measure => simp [intOf]; omega
        · have ej : j = 8 := by omega
          subst ej
          have Hr := Hn.out
          rw [Hc.out, crcByte, Hy.out, Hz.out] at Hr
          have HR := hid Hr
          clear Hr h1
          go_wp2
          go_round
          case rel => exact ⟨k + 1, by omega, by go_num, by rw [HR.out]⟩
          case measure => simp [intOf]; omega
    · have ek : k = l.length := by omega
      subst ek
      rw [List.take_length]
      go_wp2
      go_ret
      exact ⟨rfl, rfl⟩

set_option maxHeartbeats 400000 in
theorem more_any (s : Int) (a : Option Addr) (l : List UInt8) (n cap : Nat) (w : World) (hn : l.length = n) (hl : n ≤ maxLen) (hA : At w a l) :
    Calls Try.prog 77 #[.int .i64 s, .slice a n cap] w fun e w' => e = .returned (.int .i64 (sumMore s l)) ∧ w = w' := by
  subst hn
  by_cases h0 : s < 0
  · have hr : sumMore s l = 0 := by simp [sumMore, h0]
    have H := hid hr
    clear hr
    go_enter Try.func77, Try.ntmps77
    go_wp2
    go_ret
    exact ⟨by rw [H.out]; rfl, rfl⟩
  by_cases h1 : 4294967295 < s
  · have hr : sumMore s l = 0 := by simp [sumMore, h1]
    have H := hid hr
    clear hr
    go_enter Try.func77, Try.ntmps77
    go_wp2
    go_ret
    exact ⟨by rw [H.out]; rfl, rfl⟩
  obtain ⟨n, rfl⟩ := Int.eq_ofNat_of_zero_le (show 0 ≤ s by omega)
  have hn : n < 4294967296 := by omega
  have hr : sumMore n l = ((4294967295 - crc (4294967295 - n) l : Nat) : Int) := by unfold sumMore; rw [if_neg (by omega)]; simp
  have H := hid hr
  clear hr
  have hx := xor_all n hn
  have hc := crc_lt l (show 4294967295 - n < 4294967296 by omega)
  have hy := xor_all _ hc
  generalize hm : 4294967295 - n = m at *
  have Hm := hid hm
  have hm' : m < 4294967296 := by omega
  clear hm
  go_enter Try.func77, Try.ntmps77
  go_wp2_with fail
  refine (turned_any m hm' _ _ _ _ _ rfl hl hA).mono ?_
  rintro e w' ⟨rfl, rfl⟩
  go_wp2
  go_ret
  exact ⟨by rw [H.out]; rfl, rfl⟩

set_option maxHeartbeats 400000 in
theorem of_any (a : Option Addr) (l : List UInt8) (n cap : Nat) (w : World) (hn : l.length = n) (hl : n ≤ maxLen) (hA : At w a l) :
    Calls Try.prog 69 #[.slice a n cap] w fun e w' => e = .returned (.int .i64 (sumOf l)) ∧ w = w' := by
  subst hn
  have H := hid (sumOf_more l)
  go_enter Try.func69, Try.ntmps69
  go_wp2_with fail
  refine (more_any 0 _ _ _ _ _ rfl hl hA).mono ?_
  rintro e w' ⟨rfl, rfl⟩
  go_wp2
  go_ret
  exact ⟨by rw [← H.out]; rfl, rfl⟩

set_option maxHeartbeats 400000 in
theorem put_any (n : Int) (w : World) :
    Calls Try.prog 68 #[.int .i64 n] w fun e w' => ∃ v, e = .returned v ∧ Own w' w.heap.size v (putB n) ∧ Below w.heap.size w w' := by
  go_enter Try.func68, Try.ntmps68
  go_wp2
  go_ret
  refine ⟨_, rfl, own_new w _ (putB n) _ 4 rfl ?_ (by simp [putB, maxLen]) (Nat.le_refl _), (Below.refl _ _).alloc (Nat.le_refl _) _⟩
  simp only [putB, List.map_cons, List.map_nil]
  rw [bv_of _ (by omega) (by omega), bv_of _ (by omega) (by omega), bv_of _ (by omega) (by omega), bv_of _ (by omega) (by omega)]

set_option maxHeartbeats 400000 in
theorem equal_any (a b : Option Addr) (l m : List UInt8) (n k ca cb : Nat) (w : World) (hn : l.length = n) (hk : m.length = k) (hl : n ≤ maxLen) (hm : k ≤ maxLen) (hA : At w a l) (hB : At w b m) :
    Calls Try.prog 78 #[.slice a n ca, .slice b k cb] w fun e w' => e = .returned (.bool (l == m)) ∧ ∃ n, w' = w.drewN n := by
  subst hn hk
  unfold maxLen at hl hm
  by_cases hlen : l.length = m.length
  case neg =>
    have hne : ((l.length : Int) != (m.length : Int)) = true := by simp; omega
    have hr : (l == m) = false := by
      apply beq_false_of_ne; rintro rfl; exact hlen rfl
    have H := hid hr
    clear hr hlen
    go_enter Try.func78, Try.ntmps78
    go_wp2
    go_ret
    exact ⟨by rw [H.out]; rfl, 0, rfl⟩
  have hne : ((l.length : Int) != (m.length : Int)) = false := by simp; omega
  have HA := hid hA
  have HB := hid hB
  have HL := hid hlen
  have HI := idx_run a l.length ca hA.ok
  have HJ := idx_run b m.length cb hB.ok
  have h12 : m.length ≤ l.length := by omega
  have h21 : l.length ≤ m.length := by omega
  clear hA hB hlen
  go_enter Try.func78, Try.ntmps78
  go_wp2
  go_loopw [13] (fun i wr => ∃ k : Nat, k ≤ l.length ∧ i = .int .i64 k ∧ l.take k = m.take k ∧ ∃ n, wr = w.drewN n) (fun i _ => l.length - (intOf i).toNat)
  case atStart => exact ⟨0, Nat.zero_le _, rfl, by simp, 0, rfl⟩
  case round =>
    obtain ⟨k, hk, rfl, hkk, nd, rfl⟩ := hrel
    have HK := hid hkk
    clear hkk
    by_cases hlt : k < l.length
    · have hltm : k < m.length := by omega
      have CA := HA.out.cell hlt
      have CB := HB.out.cell hltm
      generalize hx : l[k] = x at CA
      generalize hy : m[k] = y at CB
      have HX := hid hx
      have HY := hid hy
      clear hx hy
      by_cases hxy : x = y
      · subst hxy
        have hd : ((x.toNat : Int) != (x.toNat : Int)) = false := by simp
        go_wp2
        go_quiet (fail)
        go_wp2
        go_roundw
        case rel => exact ⟨k + 1, by omega, by go_num, by rw [List.take_succ_eq_append_getElem hlt, List.take_succ_eq_append_getElem hltm, HK.out, HX.out, HY.out], _, rfl⟩
        case measure => simp [intOf]; omega
      · have hd : ((x.toNat : Int) != (y.toNat : Int)) = true := by
          simp; intro h; exact hxy (UInt8.toNat_inj.1 (by omega))
        have hr : (l == m) = false := by
          apply beq_false_of_ne; rintro rfl; exact hxy (HX.out.symm.trans HY.out)
        have H := hid hr
        clear hr hxy
        go_wp2
        go_quiet (fail)
        go_wp2
        go_ret
        exact ⟨by rw [H.out]; rfl, _, World.drewN_drewN _ _ _⟩
    · have ek : k = l.length := by omega
      have hr : (l == m) = true := by
        have := HK.out; rw [ek, List.take_length, HL.out, List.take_length] at this; rw [this]; simp
      have H := hid hr
      clear hr ek
      go_wp2
      go_ret
      exact ⟨by rw [H.out]; rfl, nd, rfl⟩

set_option maxHeartbeats 400000 in
theorem is_any (a : Option Addr) (l : List UInt8) (n cap : Nat) (w : World) (hn : l.length = n) (hl : n ≤ maxLen) (hcap : n ≤ cap) (hA : At w a l) :
    Calls Try.prog 76 #[.slice a n cap] w fun e w' => e = .returned (.bool (isB l)) ∧ Below w.heap.size w w' := by
  subst hn
  have hlm : l.length ≤ 9223372036854775807 := by unfold maxLen at hl; omega
  by_cases h4 : l.length < 4
  · have hd : decide ((0 : Int) ≤ (l.length : Int) - 4) = false := by simp; omega
    have hd2 : decide ((4 : Int) ≤ (l.length : Int)) = false := by simp; omega
    have hd3 : decide (4 ≤ l.length) = false := by simp; omega
    have hr : isB l = false := by unfold isB; simp; intro h; omega
    have H := hid hr
    clear hr
    go_enter Try.func76, Try.ntmps76
    go_wp2
    go_quiet (fail)
    go_wp2
    go_ret
    exact ⟨by rw [H.out]; rfl, below_drewN (Below.refl _ _) _⟩
  obtain ⟨n, hn⟩ : ∃ n, l.length = n + 4 := ⟨l.length - 4, by omega⟩
  rw [hn] at hl hlm hcap ⊢
  have hd : decide ((0 : Int) ≤ (n : Int)) = true := by simp
  have b1 := fun wx => cut_h a (n + 4) cap n wx (by omega)
  have b2 := fun wx => cut_l a (n + 4) cap n wx (by omega) (by omega)
  have ew : IntKind.i64.wrap ((n : Int) + 4 - 4) = n := by rw [show (n : Int) + 4 - 4 = n by omega]; exact IntWalk.i64_in _ (by omega)
  have hr : isB l = (putB (sumOf (l.take n)) == l.drop n) := by
    unfold isB; rw [hn, show n + 4 - 4 = n by omega]; simp
  have HR := hid hr
  have HT : Hid ((l.take n).length = n) := by rw [Hid, List.length_take]; omega
  have HD : Hid ((l.drop n).length = 4) := by rw [Hid, List.length_drop]; omega
  have H0 : Hid (At w (cutH a 0 cap) (l.take n)) := by have := hA.cut 0 n cap (by omega); rw [List.drop_zero] at this; exact this
  have H1 : Hid (At w (cutH a n cap) (l.drop n)) := by
    have := hA.cut n 4 cap (by omega)
    rwa [List.take_of_length_le (by rw [List.length_drop]; omega)] at this
  have hsm : n ≤ maxLen := by unfold maxLen; omega
  clear hA hn hr
  go_enter Try.func76, Try.ntmps76
  go_wp2
  go_region_held3 (fun _ => True) (trivial) (first | (go_at_call 69; refine (of_any _ (l.take n) n cap _ HT.out hsm (by exact H0.out)).mono ?_; rintro e w' ⟨rfl, rfl⟩) | (go_at_call 68; refine (put_any _ _).mono ?_; rintro e w1 ⟨v, rfl, hown, hbel⟩; obtain ⟨a1, c1, rfl, _, _, hat⟩ := hown.sl; have HW := hid (And.intro hat hbel); clear hat hbel hown) | (go_at_call 78; refine (equal_any _ _ _ (l.drop n) _ _ _ _ _ rfl HD.out (by simp [putB, maxLen]) (by unfold maxLen; omega) (by exact HW.out.1) (by exact H1.out.all (undrew HW.out.2))).mono ?_; rintro e w2 ⟨rfl, nd, rfl⟩))
  go_wp2
  go_ret
  exact ⟨by rw [HR.out]; rfl, below_drewN (undrew HW.out.2) _⟩

end Go.Proofs.Ytkkailggpfmgaaa
