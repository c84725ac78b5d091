/- The walks of layer 1's functions. -/
import Derived.Test.YtbkbogdengeghaaGen
import Derived.Test.YtbkbogdengeghaaCodeLib
namespace Go.Proofs.Ytbkbogdengeghaa
set_option linter.unusedVariables false
set_option linter.unusedSimpArgs false
open Go.RowKit

/-- Integers in a slice. -/
def eI : Elt Int := { T := 33, E := 3, s := 1, byt := 8, z := .int .i64 0, enc := fun z => [.int .i64 z] }
theorem eIok : eI.Ok := ⟨fun _ => rfl, fun _ u hu => by simp [eI] at hu; subst hu; rfl, by decide, by kernel_rfl, by kernel_rfl, by rfl⟩
theorem idxI (a : Option Addr) (n cap : Nat) (hn : 0 < n → a.isSome = true) (k : Nat) (i : Int) (hi : i = (k : Int)) (hk : k < n) (wx : World) :
    (Instr.indexAt 33 (.slice a n cap) (.int .i64 i)).run Try.prog wx = .ok (.pointer (some (adr a k))) wx := by
  have := idxG eIok a n cap hn k i hi hk wx
  rwa [show k * eI.s = k from Nat.mul_one k] at this
theorem AtG.cellI {w : World} {a : Option Addr} {l : List Int} (h : AtG eI w a l) {k : Nat} (hk : k < l.length) : w.cell? (adr a k) = some (.int .i64 l[k]) := by
  have := (h k hk).2 0 (by decide)
  rwa [show k * eI.s + 0 = k from Nat.mul_one k] at this

theorem or_u8_128 (x : Int) (h0 : 0 ≤ x) (h1 : x < 128) : bits .or .u8 x 128 = x + 128 := by
  obtain ⟨n, rfl⟩ := Int.eq_ofNat_of_zero_le h0
  have h := (bits_nat .u8 8 (by decide) wraps_u8 n 128 (by omega) (by omega)).2
  rw [show ((128 : Int)) = ((128 : Nat) : Int) from rfl, h, Nat.or_comm]
  have := Nat.two_pow_add_eq_or_of_lt (b := n) (i := 7) (by omega) 1
  simp at this
  omega

set_option maxRecDepth 10000 in
set_option maxHeartbeats 400000 in
theorem num_any (n : Int) (w : World) :
    Calls Try.prog 24 #[.int .i64 n] w fun e w' => ∃ v, e = .returned v ∧ Own w' w.heap.size v (codeNum n) ∧ Below w.heap.size w w' := by
  by_cases h0 : n < 0
  · have H := hid (codeNum_no (.inl h0))
    have g0 : decide (n < 0) = true := by simp; omega
    go_enter Try.func24, Try.ntmps24
    go_wp2
    go_ret
    exact ⟨_, rfl, by rw [H.out]; exact Own.nil _ _, Below.refl _ _⟩
  have g0 : decide (n < 0) = false := by simp; omega
  by_cases h1 : 9007199254740991 < n
  · have H := hid (codeNum_no (.inr h1))
    have g1 : decide (9007199254740991 < n) = true := by simp; omega
    go_enter Try.func24, Try.ntmps24
    go_wp2
    go_ret
    exact ⟨_, rfl, by rw [H.out]; exact Own.nil _ _, Below.refl _ _⟩
  have g1 : decide (9007199254740991 < n) = false := by simp; omega
  obtain ⟨n, rfl⟩ := Int.eq_ofNat_of_zero_le (show 0 ≤ n by omega)
  have hn : n ≤ 9007199254740991 := by omega
  have H := hid (codeNum_yes hn)
  have HN0 := hid hn
  have hnI : (n : Int) ≤ 9007199254740991 := by omega
  clear hn
  go_enter Try.func24, Try.ntmps24
  go_wp2
  go_loopw [0, 3] (fun q v wr => ∃ (m f : Nat) (o : List UInt8), q = .int .i64 m ∧ Own wr w.heap.size v o ∧ Below w.heap.size w wr ∧ numF 8 n = o ++ numF (f + 1) m ∧ m < 128 ^ (f + 1) ∧ o.length + f = 7 ∧ m ≤ n) (fun q _ _ => (intOf q).toNat)
  case atStart => exact ⟨n, 7, [], rfl, Own.nil _ _, Below.refl _ _, rfl, by omega, rfl, Nat.le_refl _⟩
  case round =>
    obtain ⟨m, f, o, rfl, hown, hbel, hnum, hm, hlen, hmn⟩ := hrel
    have HO := hid hown
    have HB := hid hbel
    have HN := hid hnum
    have HM := hid hm
    have HL := hid hlen
    have hol : o.length ≤ 7 := by omega
    have hsz := hbel.size
    clear hown hbel hnum hm hlen
    clear g0 g1 h0 h1
    by_cases h128 : 128 ≤ m
    · have hor := or_u8_128 ((m : Int) % 128) (by omega) (by omega)
      have HX : Hid (#[Value.int .u8 ((m : Int) % 128 + 128)].toList = [bv (UInt8.ofNat (m % 128 + 128))]) := by
        have := bv_of ((m : Int) % 128 + 128) (by omega) (by omega)
        rw [show ((m : Int) % 128 + 128).toNat = m % 128 + 128 by omega] at this
        rw [Hid, this]
      go_wp2_with (at_builtin; refine wpList_app (by rfl) (.tmp 12) (.tmp 17) 22 22 22 rfl rfl _ _ rfl rfl (run_one wr w.heap.size _ o (by exact HO.out) _ _ HX.out (by omega) hsz) ?_; rintro v2 w2 ⟨hown2, hb2⟩; have HO2 := hid hown2; have HB2 := hid (HB.out.trans hb2); clear hown2 hb2)
      obtain ⟨g, hg, hn2, hm2⟩ := num_step h128 HM.out
      have hl2 := HL.out
      go_roundw
      case rel => exact ⟨m / 128, g, o ++ [UInt8.ofNat (m % 128 + 128)], by go_num, HO2.out, HB2.out, by rw [HN.out, hn2, List.append_assoc]; rfl, hm2, by simp; omega, by omega⟩
      case measure => simp [intOf]; omega
    · have HX : Hid (#[Value.int .u8 (m : Int)].toList = [bv (UInt8.ofNat m)]) := by
        have := bv_of (m : Int) (by omega) (by omega)
        rw [show (m : Int).toNat = m by omega] at this
        rw [Hid, this]
      have HR : Hid (codeNum n = o ++ [UInt8.ofNat m]) := by rw [Hid, H.out, HN.out, num_last (by omega)]
      go_wp2_with (at_builtin; refine wpList_app (by rfl) (.tmp 21) (.tmp 24) 22 22 22 rfl rfl _ _ rfl rfl (run_one wr w.heap.size _ o (by exact HO.out) _ _ HX.out (by omega) hsz) ?_; rintro v2 w2 ⟨hown2, hb2⟩; have HO2 := hid hown2; have HB2 := hid (HB.out.trans hb2); clear hown2 hb2)
      go_ret
      exact ⟨_, rfl, by rw [HR.out]; exact HO2.out, HB2.out⟩

set_option maxHeartbeats 400000 in
theorem text_any (s : ByteArray) (hs : s.size ≤ 70368744177664) (w : World) :
    Calls Try.prog 26 #[.string s] w fun e w' => ∃ v, e = .returned v ∧ Own w' w.heap.size v (codeText s.data.toList) ∧ Below w.heap.size w w' := by
  have HR : Hid (codeText s.data.toList = codeNum (s.size : Int) ++ s.data.toList) := by
    rw [Hid, codeText]; simp
  go_enter Try.func26, Try.ntmps26
  go_wp2_with fail
  refine (num_any _ _).mono ?_
  rintro e w1 ⟨v1, rfl, hown, hb⟩
  have HO := hid hown
  have HB := hid hb
  have hsz := hb.size
  have hcl := codeNum_len (s.size : Int)
  clear hown hb
  go_wp2_with (at_builtin; refine wpList_app (by rfl) (.tmp 5) (.tmp 6) 22 9 22 rfl rfl _ _ rfl rfl (run_str w1 w.heap.size _ _ (by exact HO.out) s (by omega) hsz) ?_; rintro v2 w2 ⟨hown2, hg2⟩; have HO2 := hid hown2; have HB2 := hid (HB.out.trans (HO.out.below hsz hg2)); clear hown2 hg2)
  go_ret
  exact ⟨_, rfl, by rw [HR.out]; exact HO2.out, HB2.out⟩

theorem codeList_no {l : List Int} {k : Nat} (hk : k < l.length) (h : isNum l[k] = false) : codeList l = [] := by
  unfold codeList
  rw [if_neg]
  intro ha
  have := List.all_eq_true.1 ha l[k] (List.getElem_mem hk)
  rw [h] at this; cases this
theorem codeList_yes {l : List Int} (h : (l.take l.length).all isNum = true) : codeList l = codeNum l.length ++ l.flatMap codeNum := by
  unfold codeList; rw [List.take_length] at h; rw [if_pos h]

set_option maxHeartbeats 400000 in
theorem list_any (a : Option Addr) (l : List Int) (n cap : Nat) (w : World) (hn : l.length = n) (hl : n * 8 ≤ 140737488351232) (hA : AtG eI w a l) :
    Calls Try.prog 28 #[.slice a n cap] w fun e w' => ∃ v, e = .returned v ∧ Own w' w.heap.size v (codeList l) ∧ Below w.heap.size w w' := by
  have HA := hid hA
  have HN := hid hn
  have i0 := fun k i hi hk => idxI a n cap (by rw [← hn]; exact hA.ok) k i hi hk
  clear hA hn
  go_enter Try.func28, Try.ntmps28
  go_wp2_with fail
  refine (num_any _ _).mono ?_
  rintro e w1 ⟨v1, rfl, hown, hb⟩
  have HO := hid hown
  have HB := hid hb
  clear hown hb
  go_wp2_with fail
  go_loopw [3, 12] (fun v q wr => ∃ k : Nat, k ≤ n ∧ q = .int .i64 k ∧ Own wr w.heap.size v (codeNum n ++ (l.take k).flatMap codeNum) ∧ Below w.heap.size w wr ∧ (l.take k).all isNum = true) (fun _ q _ => n - (intOf q).toNat)
  case atStart => exact ⟨0, Nat.zero_le _, rfl, by simpa using HO.out, HB.out, rfl⟩
  case round =>
    obtain ⟨k, hk, rfl, hown, hbel, hall⟩ := hrel
    have HOr := hid hown
    have HBr := hid hbel
    have HAl := hid hall
    have hsz := hbel.size
    clear hown hbel hall
    by_cases hlt : k < n
    · have hkl : k < l.length := by rw [HN.out]; exact hlt
      have i1 := i0 k k rfl hlt
      have c1 := (HA.out.all eIok HBr.out).cellI hkl
      have HT := hid (List.take_succ_eq_append_getElem hkl)
      have HNo := hid (fun h => codeList_no (l := l) hkl h)
      have hlen : Hid ((codeNum n ++ (l.take k).flatMap codeNum).length ≤ 8 + 8 * k) := by
        rw [Hid, List.length_append]
        have h1 := codeNum_len n
        have h2 : ∀ q : List Int, (q.flatMap codeNum).length ≤ 8 * q.length := by
          intro q
          induction q with
          | nil => simp
          | cons x q ih => rw [List.flatMap_cons, List.length_append, List.length_cons]; have := codeNum_len x; omega
        have h3 := h2 (l.take k)
        have h4 : (l.take k).length ≤ k := List.length_take_le _ _
        omega
      clear i0
      generalize l[k] = x at *
      go_wp2_with fail
      refine (num_any _ _).mono ?_
      rintro e w2 ⟨v2, rfl, hown2, hb2⟩
      have HO2 := hid hown2
      have HB2 := hid (bst HBr.out hb2)
      have HO3 := hid (HOr.out.stay hb2)
      have hsz2 := hb2.size
      obtain ⟨a2, c2, rfl, _, _, hat2⟩ := hown2.sl
      have HT2 := hid hat2
      clear hown2 hb2 hat2
      have hcl := codeNum_len x
      by_cases hx : isNum x = true
      · have hpos : 0 < (codeNum x).length := by
          rcases Nat.eq_zero_or_pos (codeNum x).length with h | h
          · have := (codeNum_nil x).1 (List.eq_nil_of_length_eq_zero h); rw [hx] at this; cases this
          · exact h
        have g0 : (((codeNum x).length : Int) == 0) = false := by simp; intro h; rw [h] at hpos; simp at hpos
        go_wp2_with (at_builtin; refine wpList_app (by rfl) (.tmp 21) (.tmp 22) 22 22 22 rfl rfl _ _ rfl rfl (run_app1 w2 w.heap.size _ _ (by exact HO3.out) a2 (codeNum x) _ c2 rfl (by exact HT2.out) (by have := hlen.out; omega) (by omega)) ?_; rintro v3 w3 ⟨hown3, hb3⟩; have HO4 := hid hown3; have HB4 := hid (HB2.out.trans hb3); clear hown3 hb3)
        go_roundw
        case rel => exact ⟨k + 1, by omega, by go_num, by rw [HT.out, List.flatMap_append, ← List.append_assoc]; simpa using HO4.out, HB4.out, by rw [HT.out, List.all_append, HAl.out]; simp [hx]⟩
        case measure => simp [intOf]; omega
      · have hx' : isNum x = false := by simpa using hx
        have hnil := (codeNum_nil x).2 hx'
        have g0 : (((codeNum x).length : Int) == 0) = true := by rw [hnil]; rfl
        have HR := hid (HNo.out hx')
        clear hx hx' hnil
        go_wp2
        go_ret
        exact ⟨_, rfl, by rw [HR.out]; exact Own.nil _ _, HB2.out⟩
    · have ek : k = n := by omega
      have HR : Hid (codeList l = codeNum n ++ (l.take k).flatMap codeNum) := by
        have h1 := HAl.out
        have h2 := HN.out
        rw [ek, ← h2] at h1
        rw [Hid, codeList_yes h1, ek, ← h2, List.take_length]
      clear ek
      go_wp2
      go_ret
      exact ⟨_, rfl, by rw [HR.out]; exact HOr.out, HBr.out⟩

end Go.Proofs.Ytbkbogdengeghaa
