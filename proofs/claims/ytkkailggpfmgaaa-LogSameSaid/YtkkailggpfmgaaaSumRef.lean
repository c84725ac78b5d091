/- The walks of layer 2's reference, and of the reference's comparison of bytes. -/
import Derived.Test.YtkkailggpfmgaaaSumWalk
namespace Go.Proofs.Ytkkailggpfmgaaa
set_option linter.unusedVariables false
set_option linter.unusedSimpArgs false
open Go.RowKit

set_option maxHeartbeats 400000 in
theorem bytes_any (a b : Option Addr) (l m : List UInt8) (n k ca cb : Nat) (w : World) (hn : l.length = n) (hk : m.length = k) (hl : n ≤ maxLen) (hm : k ≤ maxLen) (hA : At w a l) (hB : At w b m) :
    Calls Try.prog 34 #[.slice a n ca, .slice b k cb] w fun e w' => e = .returned (.bool (l == m)) ∧ ∃ n, w' = w.drewN n := by
  subst hn hk
  unfold maxLen at hl hm
  by_cases hlen : l.length = m.length
  case neg =>
    have hne : ((l.length : Int) != (m.length : Int)) = true := by simp; omega
    have hr : (l == m) = false := by
      apply beq_false_of_ne; rintro rfl; exact hlen rfl
    have H := hid hr
    clear hr hlen
    go_enter Try.func34, Try.ntmps34
    go_wp2
    go_ret
    exact ⟨by rw [H.out]; rfl, 0, rfl⟩
  have hne : ((l.length : Int) != (m.length : Int)) = false := by simp; omega
  have HA := hid hA
  have HB := hid hB
  have HL := hid hlen
  have HI := idx_run a l.length ca hA.ok
  have HJ := idx_run b m.length cb hB.ok
  have h12 : m.length ≤ l.length := by omega
  have h21 : l.length ≤ m.length := by omega
  clear hA hB hlen
  go_enter Try.func34, Try.ntmps34
  go_wp2
  go_loopw [5] (fun i wr => ∃ k : Nat, k ≤ l.length ∧ i = .int .i64 k ∧ l.take k = m.take k ∧ ∃ n, wr = w.drewN n) (fun i _ => l.length - (intOf i).toNat)
  case atStart => exact ⟨0, Nat.zero_le _, rfl, by simp, 0, rfl⟩
  case round =>
    obtain ⟨k, hk, rfl, hkk, nd, rfl⟩ := hrel
    have HK := hid hkk
    clear hkk
    by_cases hlt : k < l.length
    · have hltm : k < m.length := by omega
      have CA := HA.out.cell hlt
      have CB := HB.out.cell hltm
      generalize hx : l[k] = x at CA
      generalize hy : m[k] = y at CB
      have HX := hid hx
      have HY := hid hy
      clear hx hy
      by_cases hxy : x = y
      · subst hxy
        have hd : ((x.toNat : Int) != (x.toNat : Int)) = false := by simp
        go_wp2
        go_quiet (fail)
        go_wp2
        go_roundw
        case rel => exact ⟨k + 1, by omega, by go_num, by rw [List.take_succ_eq_append_getElem hlt, List.take_succ_eq_append_getElem hltm, HK.out, HX.out, HY.out], _, rfl⟩
        case measure => simp [intOf]; omega
      · have hd : ((x.toNat : Int) != (y.toNat : Int)) = true := by
          simp; intro h; exact hxy (UInt8.toNat_inj.1 (by omega))
        have hr : (l == m) = false := by
          apply beq_false_of_ne; rintro rfl; exact hxy (HX.out.symm.trans HY.out)
        have H := hid hr
        clear hr hxy
        go_wp2
        go_quiet (fail)
        go_wp2
        go_ret
        exact ⟨by rw [H.out]; rfl, _, World.drewN_drewN _ _ _⟩
    · have ek : k = l.length := by omega
      have hr : (l == m) = true := by
        have := HK.out; rw [ek, List.take_length, HL.out, List.take_length] at this; rw [this]; simp
      have H := hid hr
      clear hr ek
      go_wp2
      go_ret
      exact ⟨by rw [H.out]; rfl, nd, rfl⟩

theorem xor_i64 (a b : Nat) (ha : a < 4294967296) (hb : b < 4294967296) : bits .xor .i64 (a : Int) (b : Int) = ((a ^^^ b : Nat) : Int) := by
  have h : a ^^^ b < 4294967296 := Nat.xor_lt_two_pow (n := 32) ha hb
  have e1 : IntKind.i64.bits = 64 := rfl
  simp only [bits, e1, BitVec.ofInt_natCast, BitVec.toNat_xor, BitVec.toNat_ofNat]
  rw [Nat.mod_eq_of_lt (by omega), Nat.mod_eq_of_lt (by omega), IntKind.wrap_i64]
  omega
theorem xor_poly_i64 (z : Nat) (hz : z < 4294967296) : bits .xor .i64 ((z : Int) / 2) 3988292384 = ((z / 2 ^^^ 3988292384 : Nat) : Int) := by
  have h := xor_i64 (z / 2) 3988292384 (by omega) (by omega)
  rwa [show ((z / 2 : Nat) : Int) = (z : Int) / 2 from by omega] at h

set_option maxHeartbeats 400000 in
theorem behind_any (r : Nat) (hr : r < 4294967296) (a : Option Addr) (l : List UInt8) (n cap : Nat) (w : World) (hn : l.length = n) (hl : n ≤ maxLen) (hA : At w a l) :
    Calls Try.prog 74 #[.int .i64 r, .slice a n cap] w fun e w' => e = .returned (.int .i64 (crc r l)) ∧ w = w' := by
  subst hn
  unfold maxLen at hl
  have H := hid hA
  have HI := idx_run a l.length cap hA.ok
  clear hA
  go_enter Try.func74, Try.ntmps74
  go_wp2
  go_loop [0, 5] (fun r9 i => ∃ k : Nat, k ≤ l.length ∧ i = .int .i64 k ∧ r9 = .int .i64 (crc r (l.take k))) (fun _ i => l.length - (intOf i).toNat)
  case atStart => exact ⟨0, Nat.zero_le _, rfl, rfl⟩
  case round =>
    obtain ⟨k, hk, rfl, rfl⟩ := hrel
    have hx := crc_lt (l.take k) hr
    by_cases hlt : k < l.length
    · have HC := H.out.cell hlt
      have hb := l[k].toNat_lt
      generalize hcv : l[k].toNat = c at HC hb
      have Hn := hid (crc_take_succ r l k hlt)
      have Hc := hid hcv
      clear hcv
      generalize hxv : crc r (l.take k) = x at *
      have Hx := hid hxv
      clear hxv
      have hxor := xor_i64 x c hx (by omega)
      have hy : x ^^^ c < 4294967296 := Nat.xor_lt_two_pow (n := 32) hx (by omega)
      go_wp2
      clear hxor
      generalize hyv : x ^^^ c = y at *
      have Hy := hid hyv
      clear hyv
      go_loop [0, 6] (fun r9 i => ∃ j : Nat, j ≤ 8 ∧ i = .int .i64 j ∧ r9 = .int .i64 (crcBits j y)) (fun _ i => 8 - (intOf i).toNat)
      case atStart => exact ⟨0, Nat.zero_le _, rfl, rfl⟩
      case round =>
        obtain ⟨j, hj, rfl, rfl⟩ := hrel
        have hz := crcBits_lt hy j
        generalize hzv : crcBits j y = z at *
        have Hz := hid hzv
        clear hzv
        by_cases hjlt : j < 8
        · by_cases hodd : z % 2 = 0
          · have hb0 : (((z : Int) % 2) == 1) = false := by simp; omega
            go_wp2
            go_round
            case rel => exact ⟨j + 1, by omega, by go_num, by rw [crcBits, Hz.out, crcBit, if_pos hodd]; simp⟩
            case measure => simp [intOf]; omega
          · have hb0 : (((z : Int) % 2) == 1) = true := by simp; omega
            have h2 := xor_poly_i64 z hz
            go_wp2
            go_round
            case rel => exact ⟨j + 1, by omega, by go_num, by rw [crcBits, Hz.out, crcBit, if_neg hodd]⟩
            case measure => simp [intOf]; omega
        · have ej : j = 8 := by omega
          subst ej
          have Hr := Hn.out
          rw [Hc.out, crcByte, Hy.out, Hz.out] at Hr
          have HR := hid Hr
          clear Hr
          go_wp2
          go_round
          case rel => exact ⟨k + 1, by omega, by go_num, by rw [HR.out]⟩
          case measure => simp [intOf]; omega
    · have ek : k = l.length := by omega
      subst ek
      rw [List.take_length]
      go_wp2
      go_ret
      exact ⟨rfl, rfl⟩

theorem behind_int (r : Int) (h0 : 0 ≤ r) (h1 : r < 4294967296) (a : Option Addr) (l : List UInt8) (n cap : Nat) (w : World) (hn : l.length = n) (hl : n ≤ maxLen) (hA : At w a l) :
    Calls Try.prog 74 #[.int .i64 r, .slice a n cap] w fun e w' => e = .returned (.int .i64 (crc r.toNat l)) ∧ w = w' := by
  have := behind_any r.toNat (by omega) a l n cap w hn hl hA
  rwa [show ((r.toNat : Nat) : Int) = r from by omega] at this

set_option maxHeartbeats 400000 in
theorem rof_any (a : Option Addr) (l : List UInt8) (n cap : Nat) (w : World) (hn : l.length = n) (hl : n ≤ maxLen) (hA : At w a l) :
    Calls Try.prog 65 #[.slice a n cap] w fun e w' => e = .returned (.int .i64 (sumOf l)) ∧ w = w' := by
  have hc := crc_lt l (show (4294967295 : Int).toNat < 4294967296 by decide)
  have hr : (sumOf l : Int) = 4294967295 - (crc (4294967295 : Int).toNat l : Int) := by
    have : (4294967295 : Int).toNat = 4294967295 := by decide
    rw [this] at hc ⊢; unfold sumOf; omega
  have H := hid hr
  clear hr
  go_enter Try.func65, Try.ntmps65
  go_wp2_with fail
  refine (behind_int 4294967295 (by omega) (by omega) a l _ _ _ hn hl hA).mono ?_
  rintro e w' ⟨rfl, rfl⟩
  generalize crc (4294967295 : Int).toNat l = x at hc H
  go_wp2
  go_ret
  exact ⟨by rw [H.out]; rfl, rfl⟩

theorem quo_nn (x y : Int) (h : 0 ≤ x) : x.tdiv y = x / y := Int.tdiv_eq_ediv_of_nonneg h
theorem rem_nn (x y : Int) (h : 0 ≤ x) : x.tmod y = x % y := Int.tmod_eq_emod_of_nonneg h
theorem put_3 (n : Int) : IntKind.u64.wrap (((IntKind.u64.wrap n).tmod 4294967296).tdiv 16777216) % 256 = n / 16777216 % 256 := by
  simp only [IntKind.wrap_u64]
  rw [rem_nn _ _ (by omega), quo_nn _ _ (by omega)]; omega
theorem put_2 (n : Int) : (IntKind.u64.wrap (((IntKind.u64.wrap n).tmod 4294967296).tdiv 65536)).tmod 256 % 256 = n / 65536 % 256 := by
  simp only [IntKind.wrap_u64]
  rw [rem_nn _ 4294967296 (by omega), quo_nn _ _ (by omega), rem_nn _ _ (by omega)]; omega
theorem put_1 (n : Int) : (IntKind.u64.wrap (((IntKind.u64.wrap n).tmod 4294967296).tdiv 256)).tmod 256 % 256 = n / 256 % 256 := by
  simp only [IntKind.wrap_u64]
  rw [rem_nn _ 4294967296 (by omega), quo_nn _ _ (by omega), rem_nn _ _ (by omega)]; omega
theorem put_0 (n : Int) : (IntKind.u64.wrap n).tmod 256 % 256 = n % 256 := by
  simp only [IntKind.wrap_u64]
  rw [rem_nn _ _ (by omega)]; omega

set_option maxHeartbeats 400000 in
theorem rput_any (n : Int) (w : World) :
    Calls Try.prog 64 #[.int .i64 n] w fun e w' => ∃ v, e = .returned v ∧ Own w' w.heap.size v (putB n) ∧ Below w.heap.size w w' := by
  go_enter Try.func64, Try.ntmps64
  go_wp2
  go_ret
  refine ⟨_, rfl, own_new w _ (putB n) _ 4 rfl ?_ (by simp [putB, maxLen]) (Nat.le_refl _), (Below.refl _ _).alloc (Nat.le_refl _) _⟩
  simp only [putB, List.map_cons, List.map_nil]
  rw [bv_of _ (by omega) (by omega), bv_of _ (by omega) (by omega), bv_of _ (by omega) (by omega), bv_of _ (by omega) (by omega), put_3, put_2, put_1, put_0]

theorem isB_four (l p : List UInt8) (n : Nat) (hn : l.length = n + 4) (hp : p = putB (sumOf (l.take n))) (h4 : p.length = 4) :
    isB l = (p[0] == l[n] && (p[1] == l[n + 1] && (p[2] == l[n + 2] && p[3] == l[n + 3]))) := by
  have hd : l.drop n = [l[n], l[n + 1], l[n + 2], l[n + 3]] := by
    apply List.ext_getElem
    · simp; omega
    · intro i h1 h2
      simp at h2
      match i, h2 with
      | 0, _ => simp
      | 1, _ => simp
      | 2, _ => simp
      | 3, _ => simp
  have hp4 : p = [p[0], p[1], p[2], p[3]] := by
    apply List.ext_getElem
    · simp; omega
    · intro i h1 h2
      simp at h2
      match i, h2 with
      | 0, _ => simp
      | 1, _ => simp
      | 2, _ => simp
      | 3, _ => simp
  unfold isB
  rw [show l.length - 4 = n by omega, ← hp, hd, show decide (4 ≤ l.length) = true by simp; omega]
  rw [Bool.eq_iff_iff]
  conv => lhs; rw [hp4]
  simp

theorem beq_u8 (x y : UInt8) : ((x.toNat : Int) == (y.toNat : Int)) = (x == y) := by
  rw [Bool.eq_iff_iff]; simp only [beq_iff_eq]; rw [← UInt8.toNat_inj]; omega

end Go.Proofs.Ytkkailggpfmgaaa
