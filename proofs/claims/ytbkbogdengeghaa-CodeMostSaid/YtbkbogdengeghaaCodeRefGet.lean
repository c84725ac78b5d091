/- The walks of layer 1's reference, the readers and lists. -/
import Derived.Test.YtbkbogdengeghaaCodeRef
namespace Go.Proofs.Ytbkbogdengeghaa
set_option linter.unusedVariables false
set_option linter.unusedSimpArgs false
open Go.RowKit

theorem getNum_at' {l : List UInt8} {p : Nat} (h : p < l.length) : getNum l p = (getF 8 0 0 (l.drop p)).map fun q => (q.1, p + q.2) := by
  unfold getNum
  rw [if_pos (by omega)]; rfl

set_option maxRecDepth 10000 in
set_option maxHeartbeats 1000000 in
theorem rgetNum_any (a : Option Addr) (l : List UInt8) (n cap : Nat) (at_ : Int) (w : World) (hn : l.length = n) (hl : n ≤ 140737488355328) (hA : At w a l) :
    Calls Try.prog 31 #[.slice a n cap, .int .i64 at_] w fun e w' => e = .returned (res3 (getNum l at_)) ∧ Below w.heap.size w w' := by
  by_cases h0 : at_ < 0
  · have g0 : decide (at_ < 0) = true := by simp; omega
    have HR : Hid (getNum l at_ = none) := by rw [Hid, getNum, if_neg (by omega)]
    go_enter Try.func31, Try.ntmps31
    go_wp2
    go_ret3
    exact ⟨by rw [HR.out]; rfl, Below.refl _ _⟩
  have g0 : decide (at_ < 0) = false := by simp; omega
  by_cases h1 : (n : Int) ≤ at_
  · have g1 : decide ((n : Int) ≤ at_) = true := by simp; omega
    have HR : Hid (getNum l at_ = none) := by rw [Hid, getNum, if_neg (by omega)]
    go_enter Try.func31, Try.ntmps31
    go_wp2
    go_ret3
    exact ⟨by rw [HR.out]; rfl, Below.refl _ _⟩
  have g1 : decide ((n : Int) ≤ at_) = false := by simp; omega
  obtain ⟨p, rfl⟩ := Int.eq_ofNat_of_zero_le (show 0 ≤ at_ by omega)
  have hp : p < n := by omega
  have HG := hid (getNum_at' (l := l) (p := p) (by omega))
  have HA := hid hA
  have HN := hid hn
  have hok := hA.ok
  rw [hn] at hok
  have i0 := fun k i hi hk => idx_at a n cap hok k i hi hk
  clear hok hA hn
  go_enter Try.func31, Try.ntmps31
  go_wp2
  clear g0 g1
  go_loop [7, 8, 9] (fun acc st q => ∃ (k s t : Nat), k ≤ 8 ∧ p + k ≤ n ∧ q = .int .i64 k ∧ acc = .int .i64 s ∧ st = .int .i64 t ∧ t = 128 ^ k ∧ s < t ∧ getF 8 0 0 (l.drop p) = getF (8 - k) k s (l.drop (p + k))) (fun _ _ q => 8 - (intOf q).toNat)
  case atStart => exact ⟨0, 0, 1, by omega, by omega, rfl, rfl, rfl, rfl, by omega, rfl⟩
  case round =>
    obtain ⟨k, s, t, hk, hkn, rfl, rfl, rfl, ht, hs, hF⟩ := hrel
    have HF := hid hF
    have HT := hid ht
    clear hF ht
    have ht56 : t ≤ 72057594037927936 := by rw [HT.out]; exact pow_le_56 hk
    by_cases hk8 : k < 8
    case neg =>
      have g8 : decide ((k : Int) < 8) = false := by simp; omega
      have HR : Hid (getNum l p = none) := by
        rw [Hid, HG.out, HF.out, show 8 - k = 0 by omega]; rfl
      go_wp2
      go_ret3
      exact ⟨by rw [HR.out]; rfl, Below.refl _ _⟩
    have g8 : decide ((k : Int) < 8) = true := by simp; omega
    by_cases hlt : p + k < n
    case neg =>
      have g9 : decide ((k : Int) < (n : Int) - (p : Int)) = false := by simp; omega
      have HR : Hid (getNum l p = none) := by
        rw [Hid, HG.out, HF.out, List.drop_eq_nil_of_le (by rw [HN.out]; omega), getF_nil]; rfl
      go_wp2
      go_ret3
      exact ⟨by rw [HR.out]; rfl, Below.refl _ _⟩
    have g9 : decide ((k : Int) < (n : Int) - (p : Int)) = true := by simp; omega
    have hkl : p + k < l.length := by rw [HN.out]; exact hlt
    have i1 := i0 (p + k) ((p : Int) + (k : Int)) (by omega) hlt
    have c1 := HA.out.cell hkl
    have hcb := l[p + k].toNat_lt
    have HD := hid (List.drop_eq_getElem_cons hkl)
    clear i0
    generalize hcv : l[p + k].toNat = c at c1 hcb
    have HC := hid hcv
    clear hcv
    have hts : t ≤ 562949953421312 := by
      rw [HT.out]
      have : 128 ^ k ≤ 128 ^ 7 := Nat.pow_le_pow_right (by omega) (by omega)
      exact this
    obtain ⟨q, hq⟩ : ∃ q, q = t * (c % 128) := ⟨_, rfl⟩
    have hq1 : q ≤ t * 127 := by rw [hq]; exact Nat.mul_le_mul_left _ (by omega)
    have e1 : (t : Int) * ((c : Int) % 128) = (q : Int) := by rw [hq, Int.natCast_mul]; rfl
    have HQ := hid hq
    have HK : Hid (getF 8 0 0 (l.drop p) = if 128 ≤ c then getF (8 - (k + 1)) (k + 1) (s + q) (l.drop (p + k + 1))
        else if (c = 0 ∧ 0 < k) ∨ 9007199254740991 < s + q then none else some (s + q, k + 1)) := by
      rw [Hid, HF.out, HD.out, show 8 - k = (8 - (k + 1)) + 1 by omega, HQ.out, HT.out, Nat.mul_comm]
      simp only [getF, HC.out]
    have hsq : s + q < t * 128 := by omega
    clear hq
    by_cases h128 : 128 ≤ c
    · have HK2 : Hid (getF 8 0 0 (l.drop p) = getF (8 - (k + 1)) (k + 1) (s + q) (l.drop (p + (k + 1)))) := by rw [Hid, HK.out, if_pos h128]; rfl
      have HT2 : Hid (t * 128 = 128 ^ (k + 1)) := by rw [Hid, HT.out, Nat.pow_succ]
      go_wp2
      go_round
      case rel => exact ⟨k + 1, s + q, t * 128, by omega, by omega, by go_num, by go_num, by go_num, HT2.out, hsq, HK2.out⟩
      case measure => simp [intOf]; omega
    · have HM : Hid ((codeNum ((s + q : Nat) : Int)).length = k + 1 ↔ ¬ ((c = 0 ∧ 0 < k) ∨ 9007199254740991 < s + q)) := by
        have := codeNum_minimal (s := s) (c := c) (k := k) (by rw [← HT.out]; exact hs) (by omega) hk8
        rw [Nat.mul_comm c, ← HT.out] at this
        have e : t * c = q := by rw [HQ.out, Nat.mod_eq_of_lt (by omega)]
        rw [e] at this
        exact this
      have e2 : ((s + q : Nat) : Int) = (s : Int) + (q : Int) := by omega
      have HA1 := HA
      go_wp2_with fail
      refine (rnum_any _ _).mono ?_
      rintro e w1 ⟨v1, rfl, hown, hb⟩
      obtain ⟨a1, cc1, rfl, _, _, _⟩ := hown.sl
      have HB := hid hb
      clear hown hb
      rw [e2] at HM
      generalize hN : (codeNum ((s : Int) + (q : Int))).length = N at *
      by_cases hbad : (c = 0 ∧ 0 < k) ∨ 9007199254740991 < s + q
      · have HR : Hid (getNum l p = none) := by rw [Hid, HG.out, HK.out, if_neg h128, if_pos hbad]; rfl
        have hne : N ≠ k + 1 := fun h => (HM.out.1 h) hbad
        have g5 : ((N : Int) != (k : Int) + 1) = true := by simp; omega
        have HN2 := hid hN
        clear hN
        go_wp2
        go_ret3
        exact ⟨by rw [HR.out]; rfl, HB.out⟩
      · have HR : Hid (getNum l p = some (s + q, p + (k + 1))) := by rw [Hid, HG.out, HK.out, if_neg h128, if_neg hbad]; rfl
        have hne : N = k + 1 := HM.out.2 hbad
        have g5 : ((N : Int) != (k : Int) + 1) = false := by simp; omega
        have HN2 := hid hN
        clear hN hne
        go_wp2
        go_ret3
        exact ⟨by rw [HR.out]; simp [res3]; omega, HB.out⟩

set_option maxRecDepth 10000 in
set_option maxHeartbeats 400000 in
theorem rgetText_any (a : Option Addr) (l : List UInt8) (n cap : Nat) (at_ : Int) (w : World) (hn : l.length = n) (hl : n ≤ 140737488355328) (hcap : n ≤ cap) (hA : At w a l) :
    Calls Try.prog 33 #[.slice a n cap, .int .i64 at_] w fun e w' => e = .returned (res3s (getText l at_)) ∧ Below w.heap.size w w' := by
  rcases hg : getNum l at_ with _ | ⟨m, x⟩
  · have HR : Hid (getText l at_ = none) := by rw [Hid, getText, hg]; rfl
    have HG := hid hg
    clear hg
    go_enter Try.func33, Try.ntmps33
    go_wp2_with fail
    refine (rgetNum_any a l n cap at_ w hn hl hA).mono ?_
    rintro e w1 ⟨rfl, hb⟩
    have HB := hid hb
    clear hb
    rw [HG.out, res3]
    go_wp2
    go_ret3
    exact ⟨by rw [HR.out]; rfl, HB.out⟩
  obtain ⟨hm, hx1, hx2, h0⟩ := getNum_some hg
  rw [hn] at hx2
  have HG := hid hg
  by_cases hle : m ≤ n - x
  · have HR : Hid (getText l at_ = some ((l.drop x).take m, x + m)) := by rw [Hid, getText, hg, Option.bind_some, hn, if_pos hle]
    have g0 : decide ((n : Int) - (x : Int) < (m : Int)) = false := by simp; omega
    have hc := cut_lhI a n cap x (x + m) x (x + m) rfl (by omega) (by omega) (by omega)
    rw [show x + m - x = m by omega] at hc
    have HA := hid hA
    have HC := hid (hA.cut x m cap (by omega))
    have HL : Hid (((l.drop x).take m).length = m) := by rw [Hid, List.length_take, List.length_drop]; omega
    clear hg hA
    generalize (l.drop x).take m = q at HC HR HL
    go_enter Try.func33, Try.ntmps33
    go_wp2_with fail
    refine (rgetNum_any a l n cap at_ w hn hl (by exact HA.out)).mono ?_
    rintro e w1 ⟨rfl, hb⟩
    have HB := hid hb
    have hs := str_run w1 (cutH a x cap) q m (cap - x) HL.out (HC.out.all hb)
    clear hb
    rw [HG.out, res3]
    go_wp2
    go_ret3
    exact ⟨by rw [HR.out]; rfl, HB.out⟩
  · have HR : Hid (getText l at_ = none) := by rw [Hid, getText, hg, Option.bind_some, hn, if_neg hle]
    have g0 : decide ((n : Int) - (x : Int) < (m : Int)) = true := by simp; omega
    have HA := hid hA
    clear hg hA
    go_enter Try.func33, Try.ntmps33
    go_wp2_with fail
    refine (rgetNum_any a l n cap at_ w hn hl (by exact HA.out)).mono ?_
    rintro e w1 ⟨rfl, hb⟩
    have HB := hid hb
    clear hb
    rw [HG.out, res3]
    go_wp2
    go_ret3
    exact ⟨by rw [HR.out]; rfl, HB.out⟩

set_option maxRecDepth 10000 in
set_option maxHeartbeats 400000 in
theorem rtext_any (s : ByteArray) (hs : s.size ≤ 70368744177664) (w : World) :
    Calls Try.prog 27 #[.string s] w fun e w' => ∃ v, e = .returned v ∧ Own w' w.heap.size v (codeText s.data.toList) ∧ Below w.heap.size w w' := by
  have HR : Hid (codeText s.data.toList = codeNum (s.size : Int) ++ s.data.toList) := by
    rw [Hid, codeText]; simp
  go_enter Try.func27, Try.ntmps27
  go_wp2_with fail
  refine (rnum_any _ _).mono ?_
  rintro e w1 ⟨v1, rfl, hown, hb⟩
  have HO := hid hown
  have HB := hid hb
  have hcl := codeNum_len (s.size : Int)
  have HCL := hid hcl
  clear hown hb hcl
  go_wp2_with fail
  go_loopw [3, 4] (fun v q wr => ∃ k : Nat, k ≤ s.size ∧ q = .int .i64 k ∧ Own wr w.heap.size v (codeNum (s.size : Int) ++ s.data.toList.take k) ∧ Below w.heap.size w wr) (fun _ q _ => s.size - (intOf q).toNat)
  case atStart => exact ⟨0, Nat.zero_le _, rfl, by simpa using HO.out, HB.out⟩
  case round =>
    obtain ⟨k, hk, rfl, hown, hbel⟩ := hrel
    have HOr := hid hown
    have HBr := hid hbel
    have hsz := hbel.size
    clear hown hbel
    by_cases hlt : k < s.size
    · have hkl : k < s.data.toList.length := by simpa using hlt
      have HT := hid (List.take_succ_eq_append_getElem hkl)
      have HX : Hid (#[Value.int .u8 ((s[k].toNat : Nat) : Int)].toList = [bv s[k]]) := rfl
      have HE : Hid (s.data.toList[k] = s[k]) := rfl
      go_wp2_with (at_builtin; refine wpList_app (by rfl) (.tmp 14) (.tmp 18) 22 22 22 rfl rfl _ _ rfl rfl (run_oneG wr wr.heap.size rfl w.heap.size _ _ (by exact HOr.out) s[k] _ HX.out (by rw [List.length_append, List.length_take]; have := HCL.out; omega) hsz) ?_; rintro v2 w2 ⟨hown2, hb2⟩; have HO2 := hid hown2; have HB2 := hid (HBr.out.trans hb2); clear hown2 hb2)
      go_roundw
      case rel => exact ⟨k + 1, by omega, by go_num, by rw [HT.out, HE.out, ← List.append_assoc]; exact HO2.out, HB2.out⟩
      case measure => simp [intOf]; omega
    · have ek : k = s.size := by omega
      have HR2 : Hid (codeText s.data.toList = codeNum (s.size : Int) ++ s.data.toList.take k) := by
        rw [Hid, HR.out, ek, List.take_of_length_le (by simp)]
      clear ek
      go_wp2
      go_ret
      exact ⟨_, rfl, by rw [HR2.out]; exact HOr.out, HBr.out⟩

set_option maxHeartbeats 400000 in
theorem ints_any (a b : Option Addr) (l m : List Int) (n k ca cb : Nat) (w : World) (hn : l.length = n) (hk : m.length = k) (hl : n ≤ maxLen) (hm : k ≤ maxLen) (hA : AtG eI w a l) (hB : AtG eI w b m) :
    Calls Try.prog 36 #[.slice a n ca, .slice b k cb] w fun e w' => e = .returned (.bool (l == m)) ∧ ∃ n, w' = w.drewN n := by
  subst hn hk
  unfold maxLen at hl hm
  by_cases hlen : l.length = m.length
  case neg =>
    have hne : ((l.length : Int) != (m.length : Int)) = true := by simp; omega
    have hr : (l == m) = false := by
      apply beq_false_of_ne; rintro rfl; exact hlen rfl
    have H := hid hr
    clear hr hlen
    go_enter Try.func36, Try.ntmps36
    go_wp2
    go_ret
    exact ⟨by rw [H.out]; rfl, 0, rfl⟩
  have hne : ((l.length : Int) != (m.length : Int)) = false := by simp; omega
  have HA := hid hA
  have HB := hid hB
  have HL := hid hlen
  have HI := fun k i hi hk => idxI a l.length ca hA.ok k i hi hk
  have HJ := fun k i hi hk => idxI b m.length cb hB.ok k i hi hk
  have h12 : m.length ≤ l.length := by omega
  have h21 : l.length ≤ m.length := by omega
  clear hA hB hlen
  go_enter Try.func36, Try.ntmps36
  go_wp2
  go_loopw [5] (fun i wr => ∃ k : Nat, k ≤ l.length ∧ i = .int .i64 k ∧ l.take k = m.take k ∧ ∃ n, wr = w.drewN n) (fun i _ => l.length - (intOf i).toNat)
  case atStart => exact ⟨0, Nat.zero_le _, rfl, by simp, 0, rfl⟩
  case round =>
    obtain ⟨k, hk, rfl, hkk, nd, rfl⟩ := hrel
    have HK := hid hkk
    clear hkk
    by_cases hlt : k < l.length
    · have hltm : k < m.length := by omega
      have i1 := HI k k rfl hlt
      have i2 := HJ k k rfl hltm
      have CA := HA.out.cellI hlt
      have CB := HB.out.cellI hltm
      clear HI HJ
      generalize hx : l[k] = x at CA
      generalize hy : m[k] = y at CB
      have HX := hid hx
      have HY := hid hy
      clear hx hy
      by_cases hxy : x = y
      · subst hxy
        have hd : (x != x) = false := by simp
        go_wp2
        go_quiet (fail)
        go_wp2
        go_roundw
        case rel => exact ⟨k + 1, by omega, by go_num, by rw [List.take_succ_eq_append_getElem hlt, List.take_succ_eq_append_getElem hltm, HK.out, HX.out, HY.out], _, rfl⟩
        case measure => simp [intOf]; omega
      · have hd : (x != y) = true := by simpa using hxy
        have hr : (l == m) = false := by
          apply beq_false_of_ne; rintro rfl; exact hxy (HX.out.symm.trans HY.out)
        have H := hid hr
        clear hr hxy
        go_wp2
        go_quiet (fail)
        go_wp2
        go_ret
        exact ⟨by rw [H.out]; rfl, _, World.drewN_drewN _ _ _⟩
    · have ek : k = l.length := by omega
      have hr : (l == m) = true := by
        have := HK.out; rw [ek, List.take_length, HL.out, List.take_length] at this; rw [this]; simp
      have H := hid hr
      clear hr ek
      go_wp2
      go_ret
      exact ⟨by rw [H.out]; rfl, nd, rfl⟩

set_option maxRecDepth 10000 in
set_option maxHeartbeats 1000000 in
theorem rlist_any (a : Option Addr) (l : List Int) (n cap : Nat) (w : World) (hn : l.length = n) (hl : n ≤ 8796093022208) (hA : AtG eI w a l) :
    Calls Try.prog 29 #[.slice a n cap] w fun e w' => ∃ v, e = .returned v ∧ Own w' w.heap.size v (codeList l) ∧ Below w.heap.size w w' := by
  have HA := hid hA
  have HN := hid hn
  have i0 := fun k i hi hk => idxI a n cap (by rw [← hn]; exact hA.ok) k i hi hk
  clear hA hn
  go_enter Try.func29, Try.ntmps29
  go_wp2_with fail
  refine (rnum_any _ _).mono ?_
  rintro e w1 ⟨v1, rfl, hown, hb⟩
  have HO := hid hown
  have HB := hid hb
  clear hown hb
  go_wp2_with fail
  go_loopw [3, 4] (fun v q wr => ∃ k : Nat, k ≤ n ∧ q = .int .i64 k ∧ Own wr w.heap.size v (codeNum n ++ (l.take k).flatMap codeNum) ∧ Below w.heap.size w wr ∧ (l.take k).all isNum = true) (fun _ q _ => n - (intOf q).toNat)
  case atStart => exact ⟨0, Nat.zero_le _, rfl, by simpa using HO.out, HB.out, rfl⟩
  case round =>
    obtain ⟨k, hk, rfl, hown, hbel, hall⟩ := hrel
    have HOr := hid hown
    have HBr := hid hbel
    have HAl := hid hall
    have hsz := hbel.size
    clear hown hbel hall
    by_cases hlt : k < n
    · have hkl : k < l.length := by rw [HN.out]; exact hlt
      have i1 := i0 k k rfl hlt
      have c1 := (HA.out.all eIok HBr.out).cellI hkl
      have HT := hid (List.take_succ_eq_append_getElem hkl)
      have HNo := hid (fun h => codeList_no (l := l) hkl h)
      have hlen : Hid ((codeNum n ++ (l.take k).flatMap codeNum).length ≤ 8 + 8 * k) := by
        rw [Hid, List.length_append]
        have h1 := codeNum_len n
        have h2 : ∀ q : List Int, (q.flatMap codeNum).length ≤ 8 * q.length := by
          intro q
          induction q with
          | nil => simp
          | cons x q ih => rw [List.flatMap_cons, List.length_append, List.length_cons]; have := codeNum_len x; omega
        have h3 := h2 (l.take k)
        have h4 : (l.take k).length ≤ k := List.length_take_le _ _
        omega
      clear i0
      generalize l[k] = x at *
      go_wp2_with fail
      refine (ris1_any x wr).mono ?_
      rintro e w' ⟨rfl, rfl⟩
      by_cases hx : isNum x = true
      case neg =>
        have hx' : isNum x = false := by simpa using hx
        have HR := hid (HNo.out hx')
        rw [hx']
        clear hx hx'
        go_wp2
        go_ret
        exact ⟨_, rfl, by rw [HR.out]; exact Own.nil _ _, HBr.out⟩
      have HX := hid hx
      rw [hx]
      clear hx
      go_wp2_with fail
      refine (rnum_any _ _).mono ?_
      rintro e w2 ⟨v2, rfl, hown2, hb2⟩
      have HB2 := hid (bst HBr.out hb2)
      have HO3 := hid (HOr.out.stay hb2)
      have hap2 : ∀ g, v2.ownBlock = some g → u3.ownBlock ≠ some g := by
        intro g hg hu
        have h1 := (World.ownsRow.lt hown2 g hg).1
        have h2 := (World.ownsRow.lt HOr.out g hu).2
        omega
      obtain ⟨a2, c2, hv2, hcap2, _, hat2⟩ := hown2.sl
      subst hv2
      have HT2 := hid (And.intro hown2 hap2)
      have hcl := codeNum_len x
      have j0 := fun k i hi hk => idx_at a2 _ c2 hat2.ok k i hi hk
      clear hown2 hb2 hat2 hap2
      generalize hN : (codeNum x).length = N at *
      have HNx := hid hN
      clear hN
      go_wp2_with fail
      go_loopw [3, 6] (fun v q wq => ∃ j : Nat, j ≤ N ∧ q = .int .i64 j ∧ Own wq w.heap.size v (codeNum n ++ (l.take k).flatMap codeNum ++ (codeNum x).take j) ∧ Below w.heap.size w wq ∧ Own wq wr.heap.size (.slice a2 N c2) (codeNum x) ∧ ∀ g, (Value.slice a2 N c2).ownBlock = some g → v.ownBlock ≠ some g) (fun _ q _ => N - (intOf q).toNat)
      case atStart => exact ⟨0, Nat.zero_le _, rfl, by simpa using HO3.out, HB2.out, HT2.out.1, HT2.out.2⟩
      case round =>
        obtain ⟨j, hj, rfl, hownq, hbelq, hxq, hapq⟩ := hrel
        have HOq := hid ((ownB _ _ _ _).2 hownq)
        have HBq := hid hbelq
        have HXq := hid ((ownB _ _ _ _).2 hxq)
        have HPq := hid hapq
        have hszq := hbelq.size
        have HTq : Hid (At wr a2 (codeNum x)) := by
          obtain ⟨a3, c3, e3, _, _, h3⟩ := hxq.sl
          cases e3; exact h3
        clear hownq hbelq hxq hapq
        by_cases hjlt : j < N
        · have hjl : j < (codeNum x).length := by rw [HNx.out]; exact hjlt
          have j1 := j0 j j rfl hjlt
          have d1 := HTq.out.cell hjl
          have HTk := hid (List.take_succ_eq_append_getElem hjl)
          have HBnd : Hid ((codeNum n ++ (l.take k).flatMap codeNum ++ (codeNum x).take j).length + 1 ≤ 140737488355328) := by
            rw [Hid, List.length_append, List.length_take]
            have := hlen.out
            omega
          clear j0
          generalize (codeNum x)[j]'hjl = y at d1 HTk
          have HXj : Hid (#[Value.int .u8 ((y.toNat : Nat) : Int)].toList = eB.enc y) := rfl
          go_wp2_with (at_builtin; refine wpList_app (by rfl) (.tmp 33) (.tmp 38) 22 22 22 rfl rfl _ _ rfl rfl (runG_full1 eBok wr wr.heap.size rfl w.heap.size _ _ (by exact HOq.out) y _ HXj.out (by rw [show eB.byt = 1 from rfl, Nat.mul_one]; exact HBnd.out) (by have := HBnd.out; unfold maxLen; omega) hszq) ?_; rintro v3 w3 hap3; have HP3 := hid hap3; clear hap3)
          have HB3 := hid (HBq.out.trans HP3.out.below)
          have HX3 := hid (HXq.out.apart HP3.out HPq.out)
          go_roundw
          case rel => exact ⟨j + 1, by omega, by go_num, by rw [HTk.out, ← List.append_assoc]; exact (ownB _ _ _ _).1 HP3.out.own, HB3.out, (ownB _ _ _ _).1 HX3.out.1, HX3.out.2⟩
          case measure => simp [intOf]; omega
        · have ej : j = (codeNum x).length := by rw [HNx.out]; omega
          have HOe : Hid (Own wr w.heap.size u3 (codeNum n ++ (l.take (k + 1)).flatMap codeNum)) := by
            have := (ownB _ _ _ _).1 HOq.out
            rw [ej, List.take_length] at this
            rw [Hid, HT.out, List.flatMap_append, ← List.append_assoc]
            simpa using this
          have HAe : Hid ((l.take (k + 1)).all isNum = true) := by rw [Hid, HT.out, List.all_append, HAl.out]; simp [HX.out]
          clear ej
          go_wp2
          go_roundw
          case rel => exact ⟨k + 1, by omega, by go_num, HOe.out, HBq.out, HAe.out⟩
          case measure => simp [intOf]; omega
    · have ek : k = n := by omega
      have HR : Hid (codeList l = codeNum n ++ (l.take k).flatMap codeNum) := by
        have h1 := HAl.out
        have h2 := HN.out
        rw [ek, ← h2] at h1
        rw [Hid, codeList_yes h1, ek, ← h2, List.take_length]
      clear ek
      go_wp2
      go_ret
      exact ⟨_, rfl, by rw [HR.out]; exact HOr.out, HBr.out⟩

set_option maxRecDepth 10000 in
set_option maxHeartbeats 1000000 in
theorem rgetList_any (a : Option Addr) (l : List UInt8) (n cap : Nat) (at_ many : Int) (w : World) (hn : l.length = n) (hl : n ≤ 8796093022208) (hA : At w a l) :
    Calls Try.prog 35 #[.slice a n cap, .int .i64 at_, .int .i64 many] w fun e w' => ListPost (getList l at_ many) w.heap.size e w' ∧ Below w.heap.size w w' := by
  have HA := hid hA
  have HN := hid hn
  have hl2 : n ≤ 140737488355328 := by omega
  clear hA hn
  go_enter Try.func35, Try.ntmps35
  go_wp2_with fail
  refine (rgetNum_any a l n cap at_ w HN.out hl2 (by exact HA.out)).mono ?_
  rintro e w1 ⟨rfl, hb⟩
  have HB := hid hb
  clear hb
  rcases hg : getNum l at_ with _ | ⟨m, x⟩
  · have HR : Hid (getList l at_ many = none) := by rw [Hid, getList, hg]; rfl
    rw [res3]
    go_wp2
    go_ret3
    exact ⟨by rw [HR.out]; rfl, HB.out⟩
  obtain ⟨hm, hx1, hx2, h0⟩ := getNum_some hg
  rw [HN.out] at hx2
  have HG := hid hg
  clear hg
  rw [res3]
  by_cases hmany : many < (m : Int)
  · have HR : Hid (getList l at_ many = none) := by rw [Hid, getList, HG.out, Option.bind_some, if_pos hmany]
    have g0 : decide (many < (m : Int)) = true := by simp; omega
    go_wp2
    go_ret3
    exact ⟨by rw [HR.out]; rfl, HB.out⟩
  have HR : Hid (getList l at_ many = getItems l m x) := by rw [Hid, getList, HG.out, Option.bind_some, if_neg hmany]
  have g0 : decide (many < (m : Int)) = false := by simp; omega
  have hmI : (m : Int) ≤ 9007199254740991 := by omega
  clear hm
  go_wp2
  clear g0
  go_loopw [10, 12, 13] (fun nx v q wr => ∃ (k y : Nat) (o : List Int), k ≤ m ∧ q = .int .i64 k ∧ nx = .int .i64 y ∧ o.length = k ∧ k ≤ y ∧ y ≤ n ∧ OwnG eI wr w.heap.size v o ∧ Below w.heap.size w wr ∧ getItems l m x = (getItems l (m - k) y).map fun p => (o ++ p.1, p.2)) (fun _ _ q _ => m - (intOf q).toNat)
  case atStart => exact ⟨0, x, [], Nat.zero_le _, rfl, rfl, rfl, Nat.zero_le _, hx2, OwnG.nil _ _, HB.out, by simp⟩
  case round =>
    obtain ⟨k, y, o, hk, rfl, rfl, ho, hky, hyn, hown, hbel, hit⟩ := hrel
    have HO := hid hown
    have HBL := hid hbel
    have HI := hid hit
    have HOL := hid ho
    have HAr : Hid (At wr a l) := HA.out.all hbel
    clear hown hbel hit ho
    by_cases hlt : k < m
    · go_wp2_with fail
      refine (rgetNum_any a l n cap y wr HN.out hl2 (by exact HAr.out)).mono ?_
      rintro e w2 ⟨rfl, hb2⟩
      have HB2 := hid (bst HBL.out hb2)
      have HO2 := hid (HO.out.stay hb2)
      have hsz2 := HB2.out.size
      clear hb2
      rcases hg : getNum l y with _ | ⟨z, y2⟩
      · have HR2 : Hid (getList l at_ many = none) := by
          rw [Hid, HR.out, HI.out, show m - k = (m - k - 1) + 1 by omega, getItems, hg]; rfl
        rw [res3]
        go_wp2
        go_ret3
        exact ⟨by rw [HR2.out]; rfl, HB2.out⟩
      obtain ⟨hz, hy1, hy2, _⟩ := getNum_some hg
      rw [HN.out] at hy2
      have HI2 : Hid (getItems l m x = (getItems l (m - (k + 1)) y2).map fun p => ((o ++ [(z : Int)]) ++ p.1, p.2)) := by
        rw [Hid, HI.out, show m - k = (m - (k + 1)) + 1 by omega, getItems, hg, Option.bind_some, Option.map_map]
        congr 1
        funext p
        simp
      have hol := HOL.out
      have HOL2 : Hid ((o ++ [(z : Int)]).length = k + 1) := by rw [Hid, List.length_append, hol]; rfl
      clear hg hz hol
      rw [res3]
      go_wp2_with (at_builtin; refine wpList_app (by rfl) (.tmp 45) (.tmp 47) 33 33 33 rfl rfl _ _ rfl rfl (runG_app1 eIok w2 w.heap.size _ o (by exact HO2.out) (z : Int) _ rfl (by rw [HOL.out]; simp [eI]; omega) (by rw [HOL.out]; unfold maxLen; omega) hsz2) ?_; rintro v3 w3 ⟨hown3, hb3⟩; have HO3 := hid hown3; have HB3 := hid (HB2.out.trans hb3); clear hown3 hb3)
      go_roundw
      case rel => exact ⟨k + 1, y2, o ++ [(z : Int)], by omega, by go_num, rfl, HOL2.out, by omega, hy2, HO3.out, HB3.out, HI2.out⟩
      case measure => simp [intOf]; omega
    · have ek : k = m := by omega
      have HR2 : Hid (getList l at_ many = some (o, y)) := by rw [Hid, HR.out, HI.out, ek, Nat.sub_self, getItems]; simp
      clear ek
      go_wp2
      go_ret3
      exact ⟨by rw [HR2.out]; exact ⟨_, rfl, HO.out⟩, HBL.out⟩

end Go.Proofs.Ytbkbogdengeghaa
