/- Numbers and texts as bytes, as plain lists: no program in sight. The walks of layer 1's functions. The walks of layer 1's readers. The walk of layer 1's reader of lists. Plain laws of numbers as bytes. The walks of layer 1's reference. The walks of layer 1's reference, the readers and lists. -/
import Derived.WalkKit
import Derived.Test.YtmfbbonppmhabaaGround
namespace Go.Proofs.Ytmfbbonppmhabaa
set_option linter.unusedVariables false
set_option linter.unusedSimpArgs false

/-- A number's bytes, with fuel. -/
def numF : Nat → Nat → List UInt8
  | 0, _ => []
  | f + 1, n => if n < 128 then [UInt8.ofNat n] else UInt8.ofNat (n % 128 + 128) :: numF f (n / 128)
/-- Is it a number? -/
def isNum (n : Int) : Bool := decide (0 ≤ n ∧ n ≤ 9007199254740991)
def codeNum (n : Int) : List UInt8 := if n < 0 ∨ 9007199254740991 < n then [] else numF 8 n.toNat
def codeText (s : List UInt8) : List UInt8 := codeNum s.length ++ s
def codeList (l : List Int) : List UInt8 := if l.all isNum then codeNum l.length ++ l.flatMap codeNum else []
/-- What stands at the head of bytes: the number, and how many bytes it has. -/
def getF : Nat → Nat → Nat → List UInt8 → Option (Nat × Nat)
  | 0, _, _, _ => none
  | _ + 1, _, _, [] => none
  | f + 1, i, acc, c :: l =>
    if 128 ≤ c.toNat then getF f (i + 1) (acc + (c.toNat % 128) * 128 ^ i) l
    else if (c.toNat = 0 ∧ 0 < i) ∨ 9007199254740991 < acc + (c.toNat % 128) * 128 ^ i then none else some (acc + (c.toNat % 128) * 128 ^ i, i + 1)
def getNum (l : List UInt8) (at_ : Int) : Option (Nat × Nat) :=
  if 0 ≤ at_ ∧ at_ < l.length then (getF 8 0 0 (l.drop at_.toNat)).map fun p => (p.1, at_.toNat + p.2) else none
def getText (l : List UInt8) (at_ : Int) : Option (List UInt8 × Nat) :=
  (getNum l at_).bind fun p => if p.1 ≤ l.length - p.2 then some ((l.drop p.2).take p.1, p.2 + p.1) else none
def getItems (l : List UInt8) : Nat → Nat → Option (List Int × Nat)
  | 0, x => some ([], x)
  | k + 1, x => (getNum l x).bind fun p => (getItems l k p.2).map fun q => ((p.1 : Int) :: q.1, q.2)
def getList (l : List UInt8) (at_ many : Int) : Option (List Int × Nat) :=
  (getNum l at_).bind fun p => if many < (p.1 : Int) then none else getItems l p.1 p.2

theorem num_step {f m : Nat} (h : 128 ≤ m) (hm : m < 128 ^ (f + 1)) : ∃ g, f = g + 1 ∧ numF (f + 1) m = UInt8.ofNat (m % 128 + 128) :: numF (g + 1) (m / 128) ∧ m / 128 < 128 ^ (g + 1) := by
  cases f with
  | zero => simp at hm; omega
  | succ g =>
    refine ⟨g, rfl, ?_, ?_⟩
    · rw [numF, if_neg (by omega)]
    · rw [Nat.pow_succ] at hm
      exact Nat.div_lt_of_lt_mul (by rw [Nat.mul_comm]; exact hm)
theorem num_last {f m : Nat} (h : m < 128) : numF (f + 1) m = [UInt8.ofNat m] := by rw [numF, if_pos h]
theorem codeNum_no {n : Int} (h : n < 0 ∨ 9007199254740991 < n) : codeNum n = [] := if_pos h
theorem codeNum_yes {n : Nat} (h : n ≤ 9007199254740991) : codeNum (n : Int) = numF 8 n := by
  unfold codeNum; rw [if_neg (by omega)]; rfl
theorem numF_len : ∀ f n, (numF f n).length ≤ f
  | 0, _ => by simp [numF]
  | f + 1, n => by
    rw [numF]; split
    · simp
    · have := numF_len f (n / 128); simp; omega
theorem numF_pos (f n : Nat) : 0 < (numF (f + 1) n).length := by rw [numF]; split <;> simp
theorem codeNum_len (n : Int) : (codeNum n).length ≤ 8 := by
  unfold codeNum; split
  · simp
  · exact numF_len _ _
theorem codeNum_nil (n : Int) : codeNum n = [] ↔ isNum n = false := by
  unfold codeNum isNum
  split
  · simp; omega
  · have := numF_pos 7 n.toNat
    simp
    constructor
    · intro h; rw [h] at this; simp at this
    · intro h; omega

theorem getF_some : ∀ (f i acc : Nat) (m : List UInt8) (n c : Nat), getF f i acc m = some (n, c) → n ≤ 9007199254740991 ∧ i < c ∧ c ≤ i + m.length ∧ c ≤ i + f
  | 0, _, _, _, _, _, h => by simp [getF] at h
  | f + 1, i, acc, [], _, _, h => by simp [getF] at h
  | f + 1, i, acc, x :: m, n, c, h => by
    rw [getF] at h
    split at h
    · obtain ⟨h1, h2, h3, h4⟩ := getF_some f (i + 1) _ m n c h
      simp
      omega
    · split at h
      · cases h
      · rename_i hn
        simp only [Option.some.injEq, Prod.mk.injEq] at h
        obtain ⟨rfl, rfl⟩ := h
        simp
        omega
theorem getNum_some {l : List UInt8} {at_ : Int} {n x : Nat} (h : getNum l at_ = some (n, x)) : n ≤ 9007199254740991 ∧ at_ < x ∧ x ≤ l.length ∧ 0 ≤ at_ := by
  unfold getNum at h
  split at h
  · rename_i hr
    simp only [Option.map_eq_some_iff] at h
    obtain ⟨⟨n', c⟩, h1, h2⟩ := h
    simp only [Prod.mk.injEq] at h2
    obtain ⟨rfl, rfl⟩ := h2
    obtain ⟨h3, h4, h5, _⟩ := getF_some _ _ _ _ _ _ h1
    simp at h5
    omega
  · cases h

end Go.Proofs.Ytmfbbonppmhabaa

namespace Go.Proofs.Ytmfbbonppmhabaa
set_option linter.unusedVariables false
set_option linter.unusedSimpArgs false
open Go.RowKit

/-- Integers in a slice. -/
def eI : Elt Int := { T := 80, E := 3, s := 1, byt := 8, z := .int .i64 0, enc := fun z => [.int .i64 z] }
theorem eIok : eI.Ok := ⟨fun _ => rfl, fun _ u hu => by simp [eI] at hu; subst hu; rfl, by decide, by kernel_rfl, by kernel_rfl, by rfl⟩
theorem idxI (a : Option Addr) (n cap : Nat) (hn : 0 < n → a.isSome = true) (k : Nat) (i : Int) (hi : i = (k : Int)) (hk : k < n) (wx : World) :
    (Instr.indexAt 80 (.slice a n cap) (.int .i64 i)).run Try.prog wx = .ok (.pointer (some (adr a k))) wx := by
  have := idxG eIok a n cap hn k i hi hk wx
  rwa [show k * eI.s = k from Nat.mul_one k] at this
theorem AtG.cellI {w : World} {a : Option Addr} {l : List Int} (h : AtG eI w a l) {k : Nat} (hk : k < l.length) : w.cell? (adr a k) = some (.int .i64 l[k]) := by
  have := (h k hk).2 0 (by decide)
  rwa [show k * eI.s + 0 = k from Nat.mul_one k] at this

theorem or_u8_128 (x : Int) (h0 : 0 ≤ x) (h1 : x < 128) : bits .or .u8 x 128 = x + 128 := by
  obtain ⟨n, rfl⟩ := Int.eq_ofNat_of_zero_le h0
  have h := (bits_nat .u8 8 (by decide) wraps_u8 n 128 (by omega) (by omega)).2
  rw [show ((128 : Int)) = ((128 : Nat) : Int) from rfl, h, Nat.or_comm]
  have := Nat.two_pow_add_eq_or_of_lt (b := n) (i := 7) (by omega) 1
  simp at this
  omega

set_option maxRecDepth 10000 in
set_option maxHeartbeats 400000 in
theorem num_any (n : Int) (w : World) :
    Calls Try.prog 38 #[.int .i64 n] w fun e w' => ∃ v, e = .returned v ∧ Own w' w.heap.size v (codeNum n) ∧ Below w.heap.size w w' := by
  by_cases h0 : n < 0
  · have H := hid (codeNum_no (.inl h0))
    have g0 : decide (n < 0) = true := by simp; omega
    go_enter Try.func38, Try.ntmps38
    go_wp2
    go_ret
    exact ⟨_, rfl, by rw [H.out]; exact Own.nil _ _, Below.refl _ _⟩
  have g0 : decide (n < 0) = false := by simp; omega
  by_cases h1 : 9007199254740991 < n
  · have H := hid (codeNum_no (.inr h1))
    have g1 : decide (9007199254740991 < n) = true := by simp; omega
    go_enter Try.func38, Try.ntmps38
    go_wp2
    go_ret
    exact ⟨_, rfl, by rw [H.out]; exact Own.nil _ _, Below.refl _ _⟩
  have g1 : decide (9007199254740991 < n) = false := by simp; omega
  obtain ⟨n, rfl⟩ := Int.eq_ofNat_of_zero_le (show 0 ≤ n by omega)
  have hn : n ≤ 9007199254740991 := by omega
  have H := hid (codeNum_yes hn)
  have HN0 := hid hn
  have hnI : (n : Int) ≤ 9007199254740991 := by omega
  clear hn
  go_enter Try.func38, Try.ntmps38
  go_wp2
  go_loopw [0, 3] (fun q v wr => ∃ (m f : Nat) (o : List UInt8), q = .int .i64 m ∧ Own wr w.heap.size v o ∧ Below w.heap.size w wr ∧ numF 8 n = o ++ numF (f + 1) m ∧ m < 128 ^ (f + 1) ∧ o.length + f = 7 ∧ m ≤ n) (fun q _ _ => (intOf q).toNat)
  case atStart => exact ⟨n, 7, [], rfl, Own.nil _ _, Below.refl _ _, rfl, by omega, rfl, Nat.le_refl _⟩
  case round =>
    obtain ⟨m, f, o, rfl, hown, hbel, hnum, hm, hlen, hmn⟩ := hrel
    have HO := hid hown
    have HB := hid hbel
    have HN := hid hnum
    have HM := hid hm
    have HL := hid hlen
    have hol : o.length ≤ 7 := by omega
    have hsz := hbel.size
    clear hown hbel hnum hm hlen
    clear g0 g1 h0 h1
    by_cases h128 : 128 ≤ m
    · have hor := or_u8_128 ((m : Int) % 128) (by omega) (by omega)
      have HX : Hid (#[Value.int .u8 ((m : Int) % 128 + 128)].toList = [bv (UInt8.ofNat (m % 128 + 128))]) := by
        have := bv_of ((m : Int) % 128 + 128) (by omega) (by omega)
        rw [show ((m : Int) % 128 + 128).toNat = m % 128 + 128 by omega] at this
        rw [Hid, this]
      go_wp2_with (at_builtin; refine wpList_app (by rfl) (.tmp 12) (.tmp 17) 27 27 27 rfl rfl _ _ rfl rfl (run_one wr w.heap.size _ o (by exact HO.out) _ _ HX.out (by omega) hsz) ?_; rintro v2 w2 ⟨hown2, hb2⟩; have HO2 := hid hown2; have HB2 := hid (HB.out.trans hb2); clear hown2 hb2)
      obtain ⟨g, hg, hn2, hm2⟩ := num_step h128 HM.out
      have hl2 := HL.out
      go_roundw
      case rel => exact ⟨m / 128, g, o ++ [UInt8.ofNat (m % 128 + 128)], by go_num, HO2.out, HB2.out, by rw [HN.out, hn2, List.append_assoc]; rfl, hm2, by simp; omega, by omega⟩
      case measure => simp [intOf]; omega
    · have HX : Hid (#[Value.int .u8 (m : Int)].toList = [bv (UInt8.ofNat m)]) := by
        have := bv_of (m : Int) (by omega) (by omega)
        rw [show (m : Int).toNat = m by omega] at this
        rw [Hid, this]
      have HR : Hid (codeNum n = o ++ [UInt8.ofNat m]) := by rw [Hid, H.out, HN.out, num_last (by omega)]
      go_wp2_with (at_builtin; refine wpList_app (by rfl) (.tmp 21) (.tmp 24) 27 27 27 rfl rfl _ _ rfl rfl (run_one wr w.heap.size _ o (by exact HO.out) _ _ HX.out (by omega) hsz) ?_; rintro v2 w2 ⟨hown2, hb2⟩; have HO2 := hid hown2; have HB2 := hid (HB.out.trans hb2); clear hown2 hb2)
      go_ret
      exact ⟨_, rfl, by rw [HR.out]; exact HO2.out, HB2.out⟩

theorem codeList_no {l : List Int} {k : Nat} (hk : k < l.length) (h : isNum l[k] = false) : codeList l = [] := by
  unfold codeList
  rw [if_neg]
  intro ha
  have := List.all_eq_true.1 ha l[k] (List.getElem_mem hk)
  rw [h] at this; cases this
theorem codeList_yes {l : List Int} (h : (l.take l.length).all isNum = true) : codeList l = codeNum l.length ++ l.flatMap codeNum := by
  unfold codeList; rw [List.take_length] at h; rw [if_pos h]

end Go.Proofs.Ytmfbbonppmhabaa

namespace Go.Proofs.Ytmfbbonppmhabaa
set_option linter.unusedVariables false
set_option linter.unusedSimpArgs false
open Go.RowKit

/-- A reader's three results. -/
def res3 : Option (Nat × Nat) → Value
  | some p => .tuple #[.int .i64 (p.1 : Int), .int .i64 (p.2 : Int), .bool true]
  | none => .tuple #[.int .i64 0, .int .i64 0, .bool false]

theorem getF_nil (f i acc : Nat) : getF f i acc [] = none := by cases f <;> rfl
theorem getNum_at {l : List UInt8} {p : Nat} (h : p < l.length) : getNum l p = (getF 8 0 0 ((l.drop p).take (min l.length (p + 8) - p))).map fun q => (q.1, p + q.2) := by
  unfold getNum
  rw [if_pos (by omega)]
  have key : ∀ (f i acc : Nat) (m : List UInt8), getF f i acc m = getF f i acc (m.take f) := by
    intro f
    induction f with
    | zero => intros; rfl
    | succ f ih =>
      intro i acc m
      cases m with
      | nil => rfl
      | cons c m => rw [List.take_succ_cons]; simp only [getF]; rw [ih]
  rw [key 8 0 0 (l.drop (p : Int).toNat), key 8 0 0 ((l.drop p).take _), Int.toNat_natCast]
  congr 2
  rw [List.take_take]
  apply List.ext_getElem?
  intro i
  simp only [List.getElem?_take, List.getElem?_drop]
  by_cases h1 : i < 8
  · by_cases h2 : i < min 8 (min l.length (p + 8) - p)
    · rw [if_pos h1, if_pos h2]
    · rw [if_pos h1, if_neg h2, List.getElem?_eq_none (by omega)]
  · rw [if_neg h1, if_neg (by omega)]

theorem acc_lt {s c k : Nat} (hs : s < 128 ^ k) : s + (c % 128) * 128 ^ k < 128 ^ (k + 1) := by
  have h1 : c % 128 ≤ 127 := by omega
  have h2 := Nat.mul_le_mul_right (128 ^ k) h1
  rw [Nat.pow_succ]; omega
theorem pow_le_56 {k : Nat} (hk : k ≤ 8) : 128 ^ k ≤ 72057594037927936 := by
  have : 128 ^ k ≤ 128 ^ 8 := Nat.pow_le_pow_right (by omega) hk
  exact this
theorem or_acc {s c k : Nat} (hs : s < 128 ^ k) (hk : k < 8) : bits .or .i64 (s : Int) (wrap64 ((c : Int) % 128 * 2 ^ (7 * k))) = ((s + (c % 128) * 128 ^ k : Nat) : Int) := by
  have h1 := acc_lt (c := c) hs
  have h2 := pow_le_56 (k := k + 1) (by omega)
  have e1 : (c : Int) % 128 * 2 ^ (7 * k) = ((2 ^ (7 * k) * (c % 128) : Nat) : Int) := by
    rw [Int.natCast_mul, Int.natCast_pow]
    rw [Int.mul_comm]; rfl
  have e2 : (128 : Nat) ^ k = 2 ^ (7 * k) := by rw [Nat.pow_mul]
  rw [e2] at h1 hs ⊢
  have h3 : 2 ^ (7 * k) * (c % 128) < 2 ^ 63 := by
    have : s + c % 128 * 2 ^ (7 * k) < 72057594037927936 := Nat.lt_of_lt_of_le h1 (by rw [Nat.pow_succ] at h2 ⊢; exact h2)
    rw [Nat.mul_comm]; omega
  rw [e1, IntWalk.wrap64_in _ ⟨by omega, by omega⟩]
  have h4 := (bits_nat .i64 63 (by decide) (by intro n h0 h1; exact IntWalk.i64_in n ⟨by omega, by omega⟩) s (2 ^ (7 * k) * (c % 128)) (by have := Nat.pow_le_pow_right (n := 2) (by omega) (show 7 * k ≤ 49 by omega); omega) h3).2
  rw [h4, Nat.or_comm, ← Nat.two_pow_add_eq_or_of_lt hs, Nat.mul_comm, Nat.add_comm]

set_option maxRecDepth 10000 in
set_option maxHeartbeats 400000 in
theorem getNum_any (a : Option Addr) (l : List UInt8) (n cap : Nat) (at_ : Int) (w : World) (hn : l.length = n) (hl : n ≤ 140737488355328) (hcap : n ≤ cap) (hA : At w a l) :
    Calls Try.prog 60 #[.slice a n cap, .int .i64 at_] w fun e w' => e = .returned (res3 (getNum l at_)) ∧ w = w' := by
  by_cases h0 : at_ < 0
  · have g0 : decide (at_ < 0) = true := by simp; omega
    have HR : Hid (getNum l at_ = none) := by rw [Hid, getNum, if_neg (by omega)]
    go_enter Try.func60, Try.ntmps60
    go_wp2
    go_ret3
    exact ⟨by rw [HR.out]; rfl, rfl⟩
  have g0 : decide (at_ < 0) = false := by simp; omega
  by_cases h1 : (n : Int) ≤ at_
  · have g1 : decide ((n : Int) ≤ at_) = true := by simp; omega
    have HR : Hid (getNum l at_ = none) := by rw [Hid, getNum, if_neg (by omega)]
    go_enter Try.func60, Try.ntmps60
    go_wp2
    go_ret3
    exact ⟨by rw [HR.out]; rfl, rfl⟩
  have g1 : decide ((n : Int) ≤ at_) = false := by simp; omega
  obtain ⟨p, rfl⟩ := Int.eq_ofNat_of_zero_le (show 0 ≤ at_ by omega)
  have hp : p < n := by omega
  obtain ⟨d, hd⟩ : ∃ d, d = min n (p + 8) - p := ⟨_, rfl⟩
  have HG := hid (getNum_at (l := l) (p := p) (by omega))
  have HA : Hid (At w (cutH a p cap) ((l.drop p).take d)) := hA.cut p d cap (by omega)
  have HL : Hid (((l.drop p).take d).length = d) := by rw [Hid, List.length_take, List.length_drop]; omega
  rw [hn, ← hd] at HG
  have hq1 : d ≤ 8 := by omega
  have hcutA : n ≤ p + 8 → ∀ wx, (Instr.slice 27 (.slice a n cap) (some (.int .i64 (p : Int))) (some (.int .i64 (n : Int))) none).run Try.prog wx = .ok (.slice (cutH a p cap) d (cap - p)) wx := by
    intro h wx
    rw [cut_lhI a n cap p n p n rfl rfl (by omega) (by omega), show n - p = d by omega]
  have hcutB : ¬ n ≤ p + 8 → ∀ wx, (Instr.slice 27 (.slice a n cap) (some (.int .i64 (p : Int))) (some (.int .i64 ((p : Int) + 8))) none).run Try.prog wx = .ok (.slice (cutH a p cap) d (cap - p)) wx := by
    intro h wx
    rw [cut_lhI a n cap p (p + 8) p (p + 8) rfl (by omega) (by omega) (by omega), show p + 8 - p = d by omega]
  clear hd hA
  generalize (l.drop p).take d = m at HA HL HG
  have main : ∀ (J : Int), (∀ wx, (Instr.slice 27 (.slice a n cap) (some (.int .i64 (p : Int))) (some (.int .i64 J)) none).run Try.prog wx = .ok (.slice (cutH a p cap) d (cap - p)) wx) → (J = n ∧ (n : Int) ≤ (p : Int) + 8 ∨ J = p + 8 ∧ (p : Int) + 8 < (n : Int)) →
      Calls Try.prog 60 #[.slice a n cap, .int .i64 p] w fun e w' => e = .returned (res3 (getNum l p)) ∧ w = w' := by
    clear hcutA hcutB
    intro J hJ hor
    have hok := HA.out.ok
    rw [HL.out] at hok
    have i0 := fun k i hi hk => idx_at (cutH a p cap) d (cap - p) hok k i hi hk
    clear hok
    rcases hor with ⟨rfl, h8⟩ | ⟨rfl, h8⟩
    all_goals
      go_enter Try.func60, Try.ntmps60
      go_wp2
      go_loop [7, 27] (fun acc q => ∃ (k s : Nat), k ≤ d ∧ q = .int .i64 k ∧ acc = .int .i64 s ∧ s < 128 ^ k ∧ getF 8 0 0 m = getF (8 - k) k s (m.drop k)) (fun _ q => d - (intOf q).toNat)
      case atStart => exact ⟨0, 0, Nat.zero_le _, rfl, rfl, by omega, rfl⟩
      case round =>
        obtain ⟨k, s, hk, rfl, rfl, hs, hF⟩ := hrel
        have HF := hid hF
        have HS := hid hs
        clear hF hs
        by_cases hlt : k < d
        · have hkm : k < m.length := by rw [HL.out]; exact hlt
          have i1 := i0 k k rfl hlt
          have c1 := HA.out.cell hkm
          have hcb := m[k].toNat_lt
          have HD := hid (List.drop_eq_getElem_cons hkm)
          clear i0
          generalize hcv : m[k].toNat = c at c1 hcb
          have HC := hid hcv
          clear hcv
          have hor := or_acc (c := c) HS.out (by omega)
          have hSt := hid (acc_lt (c := c) HS.out)
          have hSb : s + c % 128 * 128 ^ k < 72057594037927936 := Nat.lt_of_lt_of_le hSt.out (pow_le_56 (by omega))
          have HK : Hid (getF 8 0 0 m = if 128 ≤ c then getF (8 - (k + 1)) (k + 1) (s + c % 128 * 128 ^ k) (m.drop (k + 1))
              else if (c = 0 ∧ 0 < k) ∨ 9007199254740991 < s + c % 128 * 128 ^ k then none else some (s + c % 128 * 128 ^ k, k + 1)) := by
            rw [Hid, HF.out, HD.out, show 8 - k = (8 - (k + 1)) + 1 by omega]
            simp only [getF, HC.out]
          generalize s + c % 128 * 128 ^ k = t at *
          by_cases h128 : 128 ≤ c
          · have HK2 : Hid (getF 8 0 0 m = getF (8 - (k + 1)) (k + 1) t (m.drop (k + 1))) := by rw [Hid, HK.out, if_pos h128]
            go_wp2
            go_round
            case rel => exact ⟨k + 1, t, by omega, by go_num, rfl, hSt.out, HK2.out⟩
            case measure => simp [intOf]; omega
          · by_cases hz : c = 0 ∧ 0 < k
            · obtain ⟨rfl, hkp⟩ := hz
              have HR : Hid (getNum l p = none) := by rw [Hid, HG.out, HK.out, if_neg h128, if_pos (.inl ⟨rfl, hkp⟩)]; rfl
              have q1 : decide (0 < k) = true := by simp; omega
              go_wp2
              go_ret3
              exact ⟨by rw [HR.out]; rfl, rfl⟩
            · have qz : (((c : Int) == 0) = false) ∨ ((c : Int) == 0) = true ∧ decide (0 < k) = false := by
                by_cases hc0 : c = 0
                · right; subst hc0; simp; omega
                · left; simp; omega
              by_cases hbig : 9007199254740991 < t
              · have HR : Hid (getNum l p = none) := by rw [Hid, HG.out, HK.out, if_neg h128, if_pos (.inr hbig)]; rfl
                have q1 : decide ((9007199254740991 : Int) < (t : Int)) = true := by simp; omega
                rcases qz with qz | ⟨qz, qk⟩
                all_goals
                  go_wp2
                  go_ret3
                  exact ⟨by rw [HR.out]; rfl, rfl⟩
              · have HR : Hid (getNum l p = some (t, p + (k + 1))) := by rw [Hid, HG.out, HK.out, if_neg h128, if_neg (by omega)]; rfl
                have q1 : decide ((9007199254740991 : Int) < (t : Int)) = false := by simp; omega
                rcases qz with qz | ⟨qz, qk⟩
                all_goals
                  go_wp2
                  go_ret3
                  exact ⟨by rw [HR.out]; simp [res3]; omega, rfl⟩
        · have ek : k = m.length := by rw [HL.out]; omega
          have HR : Hid (getNum l p = none) := by
            rw [Hid, HG.out, HF.out, ek, List.drop_length, getF_nil]; rfl
          clear ek
          go_wp2
          go_ret3
          exact ⟨by rw [HR.out]; rfl, rfl⟩
  by_cases h8 : n ≤ p + 8
  · exact main n (hcutA h8) (.inl ⟨rfl, by omega⟩)
  · exact main (p + 8) (hcutB h8) (.inr ⟨rfl, by omega⟩)

set_option maxRecDepth 100000 in
/-- `string(b)`. -/
theorem str_run (w : World) (a : Option Addr) (l : List UInt8) (n cap : Nat) (hn : l.length = n) (hA : At w a l) : (convert 27 9 (.slice a n cap)).run Try.prog w = .ok (.string ⟨l.toArray⟩) w := by
  subst hn
  have hd : Try.prog.underlying 9 = some .string := by kernel_rfl
  cases a with
  | none =>
    cases l with
    | nil => exact run_convert_bytes_nil w _ _ sliceB u8T 0 cap _ hd
    | cons c l => have := (hA 0 (by simp)).1; simp at this
  | some x =>
    have hl : (loadCells x l.length).run Try.prog w = .ok ((l.map fun c => (c.toNat : Int)).map (Value.int .u8)).toArray w := by
      have := run_loadCells_list (P := Try.prog) w x ((l.map fun c => (c.toNat : Int)).map (Value.int .u8)) (fun j v hj => by
        simp only [List.getElem?_map, Option.map_eq_some_iff] at hj
        obtain ⟨z, ⟨c, hc, rfl⟩, rfl⟩ := hj
        obtain ⟨hk, rfl⟩ := List.getElem?_eq_some_iff.1 hc
        exact (hA j hk).2)
      simpa using this
    rw [run_convert_bytes_string w _ _ _ _ _ cap sliceB u8T hd, run_bytesToString w _ _ cap _ hl, foldl_push_bytes]
    have e0 : (ByteArray.empty.data : Array UInt8) = #[] := rfl
    have e1 : ((ByteArray.empty.data : Array UInt8) ++ ((l.map fun c => (c.toNat : Int)).map fun n => UInt8.ofNat n.toNat).toArray) = l.toArray := by rw [e0]; simp [Function.comp_def]
    exact congrArg (fun d : Array UInt8 => (Result.ok (Value.string ⟨d⟩) w : Result Value)) e1

def res3s : Option (List UInt8 × Nat) → Value
  | some p => .tuple #[.string ⟨p.1.toArray⟩, .int .i64 (p.2 : Int), .bool true]
  | none => .tuple #[.string ByteArray.empty, .int .i64 0, .bool false]

end Go.Proofs.Ytmfbbonppmhabaa

namespace Go.Proofs.Ytmfbbonppmhabaa
set_option linter.unusedVariables false
set_option linter.unusedSimpArgs false
open Go.RowKit

def numOf (o : Option (Nat × Nat)) : Int := match o with | some p => (p.1 : Int) | none => 0
def nextOf (o : Option (Nat × Nat)) : Int := match o with | some p => (p.2 : Int) | none => 0
theorem res3_eq (o : Option (Nat × Nat)) : res3 o = .tuple #[.int .i64 (numOf o), .int .i64 (nextOf o), .bool o.isSome] := by cases o <;> rfl

/-- What a reader of lists leaves. -/
def ListPost (o : Option (List Int × Nat)) (B : Nat) (e : Ending) (w' : World) : Prop :=
  match o with
  | some p => ∃ v, e = .returned (.tuple #[v, .int .i64 (p.2 : Int), .bool true]) ∧ OwnG eI w' B v p.1
  | none => e = .returned (.tuple #[.slice none 0 0, .int .i64 0, .bool false])

/-- The three variables that the closure holds. -/
structure Boxes (w : World) (B : Nat) (a : Option Addr) (n cap : Nat) (x : Int) (ok : Bool) : Prop where
  c0 : w.cell? ⟨B, 0, none⟩ = some (.slice a n cap)
  c1 : w.cell? ⟨B + 1, 0, none⟩ = some (.int .i64 x)
  c2 : w.cell? ⟨B + 1 + 1, 0, none⟩ = some (.bool ok)
  f1 : w.frozen? ⟨B + 1, 0, none⟩ = false
  f2 : w.frozen? ⟨B + 1 + 1, 0, none⟩ = false
  lt : B + 1 + 1 < w.heap.size
theorem Boxes.below {w w' : World} {B : Nat} {a : Option Addr} {n cap : Nat} {x : Int} {ok : Bool} (h : Boxes w B a n cap x ok) (hb : Below (B + 1 + 1 + 1) w w') : Boxes w' B a n cap x ok :=
  ⟨(hb.cell (p := ⟨B, 0, none⟩) (by simp <;> omega)).trans h.c0, (hb.cell (p := ⟨B + 1, 0, none⟩) (by simp <;> omega)).trans h.c1, (hb.cell (p := ⟨B + 1 + 1, 0, none⟩) (by simp <;> omega)).trans h.c2,
    (hb.frozen (p := ⟨B + 1, 0, none⟩) (by simp <;> omega)).trans h.f1, (hb.frozen (p := ⟨B + 1 + 1, 0, none⟩) (by simp <;> omega)).trans h.f2, Nat.lt_of_lt_of_le h.lt hb.size⟩
theorem cell_set {w : World} {p : Addr} {v u : Value} (h : w.cell? p = some v) : (w.setCell p u).cell? p = some u := by
  obtain ⟨b, o, s⟩ := p
  unfold World.cell? at h
  simp only at h
  split at h
  · rename_i c el fr heq
    split at h
    · cases h
    · rename_i hs
      simp only [World.setCell, World.cell?, Array.getElem?_modify, heq, if_true, Option.map_some, hs]
      have := (Array.getElem?_eq_some_iff.1 h).1
      simp [this]
  · cases h
theorem Boxes.set {w : World} {B : Nat} {a : Option Addr} {n cap : Nat} {x : Int} {ok : Bool} (h : Boxes w B a n cap x ok) (y : Int) (k : Bool) :
    Boxes ((w.setCell ⟨B + 1, 0, none⟩ (.int .i64 y)).setCell ⟨B + 1 + 1, 0, none⟩ (.bool k)) B a n cap y k := by
  have g2 : (w.setCell ⟨B + 1, 0, none⟩ (.int .i64 y)).cell? ⟨B + 1 + 1, 0, none⟩ = some (.bool ok) := by
    rw [World.cell?_setCell_far _ _ _ _ (by simp <;> omega)]; exact h.c2
  refine ⟨?_, ?_, cell_set g2, ?_, ?_, by simpa [World.setCell] using h.lt⟩
  · rw [World.cell?_setCell_far _ _ _ _ (by simp <;> omega), World.cell?_setCell_far _ _ _ _ (by simp <;> omega)]; exact h.c0
  · rw [World.cell?_setCell_far _ _ _ _ (by simp <;> omega)]; exact cell_set h.c1
  · rw [World.frozen?_setCell, World.frozen?_setCell]; exact h.f1
  · rw [World.frozen?_setCell, World.frozen?_setCell]; exact h.f2
theorem two_sets {w : World} {B C : Nat} (u v : Value) (hC : C ≤ B) : Below C w ((w.setCell ⟨B + 1, 0, none⟩ u).setCell ⟨B + 1 + 1, 0, none⟩ v) :=
  ((Below.refl _ _).setCell (p := ⟨B + 1, 0, none⟩) (by simp; omega) _).setCell (p := ⟨B + 1 + 1, 0, none⟩) (by simp; omega) _
theorem OwnG.two_sets {α : Type} {e : Elt α} {w : World} {B : Nat} {v : Value} {l : List α} (h : OwnG e w (B + 1 + 1 + 1) v l) (u z : Value) :
    OwnG e ((w.setCell ⟨B + 1, 0, none⟩ u).setCell ⟨B + 1 + 1, 0, none⟩ z) (B + 1 + 1 + 1) v l :=
  ownsRow_setCell_below (ownsRow_setCell_below h (by simp) _) (by simp) _

theorem getItems_step {l : List UInt8} {m x : Nat} {o : Option (List Int × Nat)} (h : getItems l (m + 1) x = o) : ∀ p, getNum l x = some p → o = (getItems l m p.2).map fun q => ((p.1 : Int) :: q.1, q.2) := by
  rintro p hp; rw [← h, getItems, hp]; rfl

end Go.Proofs.Ytmfbbonppmhabaa

namespace Go.Proofs.Ytmfbbonppmhabaa
set_option linter.unusedVariables false
set_option linter.unusedSimpArgs false

/-- The first `k` digits, the last without its sign. -/
def pre : Nat → Nat → List UInt8
  | 0, _ => []
  | k + 1, n => if k = 0 then [UInt8.ofNat (n % 128)] else UInt8.ofNat (n % 128 + 128) :: pre k (n / 128)
theorem pre_len : ∀ k n, (pre k n).length = k
  | 0, _ => rfl
  | k + 1, n => by
    rw [pre]; split
    · subst_vars; rfl
    · rw [List.length_cons, pre_len k]
theorem div_pow (n k : Nat) : n / 128 / 128 ^ k = n / 128 ^ (k + 1) := by rw [Nat.div_div_eq_div_mul, Nat.pow_succ, Nat.mul_comm]
theorem div_pow' (n k : Nat) : n / 128 ^ k / 128 = n / 128 ^ (k + 1) := by rw [Nat.div_div_eq_div_mul, Nat.pow_succ]
theorem pre_last : ∀ k n (h : k < (pre (k + 1) n).length), (pre (k + 1) n)[k] = UInt8.ofNat (n / 128 ^ k % 128)
  | 0, n, h => by simp [pre]
  | k + 1, n, h => by
    have e : pre (k + 1 + 1) n = UInt8.ofNat (n % 128 + 128) :: pre (k + 1) (n / 128) := by rw [pre, if_neg (by omega)]
    have := pre_last k (n / 128) (by rw [pre_len]; omega)
    simp only [e, List.getElem_cons_succ, this, div_pow]
theorem pre_step : ∀ k n, (pre (k + 1) n).set k (UInt8.ofNat (n / 128 ^ k % 128 + 128)) ++ [UInt8.ofNat (n / 128 ^ (k + 1) % 128)] = pre (k + 2) n
  | 0, n => by simp [pre]
  | k + 1, n => by
    have e : pre (k + 1 + 1) n = UInt8.ofNat (n % 128 + 128) :: pre (k + 1) (n / 128) := by rw [pre, if_neg (by omega)]
    have e2 : pre (k + 1 + 2) n = UInt8.ofNat (n % 128 + 128) :: pre (k + 2) (n / 128) := by rw [pre, if_neg (by omega)]
    rw [e, e2, List.set_cons_succ, List.cons_append, ← pre_step k (n / 128), div_pow, div_pow]
theorem pre_num : ∀ k f n, n < 128 ^ (k + 1) → (k = 0 ∨ 128 ^ k ≤ n) → pre (k + 1) n = numF (k + 1 + f) n
  | 0, f, n, h, _ => by
    simp at h
    rw [show 0 + 1 + f = f + 1 by omega, numF, if_pos h, pre, if_pos rfl, Nat.mod_eq_of_lt h]
  | k + 1, f, n, h, h2 => by
    have hp : 0 < 128 ^ k := Nat.pow_pos (by omega)
    have h3 : 128 ^ (k + 1) ≤ n := by omega
    have h4 : 128 ≤ 128 ^ (k + 1) := by rw [Nat.pow_succ]; omega
    rw [show k + 1 + 1 + f = (k + 1 + f) + 1 by omega, numF, if_neg (by omega), pre, if_neg (by omega)]
    congr 1
    apply pre_num k f
    · rw [Nat.pow_succ] at h
      exact Nat.div_lt_of_lt_mul (by rw [Nat.mul_comm]; exact h)
    · right
      rw [Nat.pow_succ] at h3
      exact (Nat.le_div_iff_mul_le (by omega)).2 h3
theorem numF_short : ∀ f j n, n < 128 ^ (j + 1) → (numF f n).length ≤ j + 1
  | 0, _, _, _ => by simp [numF]
  | f + 1, 0, n, h => by
    simp at h
    rw [numF, if_pos h]; simp
  | f + 1, j + 1, n, h => by
    rw [numF]; split
    · simp
    · rw [List.length_cons]
      have := numF_short f j (n / 128) (by
        rw [Nat.pow_succ] at h
        exact Nat.div_lt_of_lt_mul (by rw [Nat.mul_comm]; exact h))
      omega
/-- The length of a number's bytes tells whether it was put so. -/
theorem codeNum_minimal {s c k : Nat} (hs : s < 128 ^ k) (hc : c < 128) (hk : k < 8) :
    (codeNum ((s + c * 128 ^ k : Nat) : Int)).length = k + 1 ↔ ¬ ((c = 0 ∧ 0 < k) ∨ 9007199254740991 < s + c * 128 ^ k) := by
  by_cases hbig : 9007199254740991 < s + c * 128 ^ k
  · rw [codeNum_no (.inr (by omega))]
    simp [hbig]
  · rw [codeNum_yes (by omega)]
    by_cases h0 : c = 0 ∧ 0 < k
    · obtain ⟨rfl, hk0⟩ := h0
      obtain ⟨j, rfl⟩ : ∃ j, k = j + 1 := ⟨k - 1, by omega⟩
      have := numF_short 8 j s hs
      rw [Nat.zero_mul, Nat.add_zero]
      constructor
      · intro h; omega
      · intro h; exact absurd (.inl ⟨rfl, hk0⟩) h
    · have h1 : s + c * 128 ^ k < 128 ^ (k + 1) := by
        have h2 := Nat.mul_le_mul_right (128 ^ k) (show c ≤ 127 by omega)
        rw [Nat.pow_succ]; omega
      have h2 : k = 0 ∨ 128 ^ k ≤ s + c * 128 ^ k := by
        rcases Nat.eq_zero_or_pos k with h | h
        · exact .inl h
        · right
          have : 1 * 128 ^ k ≤ c * 128 ^ k := Nat.mul_le_mul_right _ (by omega)
          omega
      have h3 := pre_num k (7 - k) _ h1 h2
      rw [show k + 1 + (7 - k) = 8 by omega] at h3
      rw [← h3, pre_len]
      constructor
      · intro _ h; rcases h with h | h
        · exact h0 h
        · exact hbig h
      · intro _; rfl

theorem toNat_dig {m : Nat} (h : m < 256) : (UInt8.ofNat m).toNat = m := by rw [UInt8.toNat_ofNat']; omega
theorem getF_num (R : List UInt8) : ∀ (f i acc m : Nat), m < 128 ^ (f + 1) → (0 < m ∨ i = 0) → acc + m * 128 ^ i ≤ 9007199254740991 →
    getF (f + 1) i acc (numF (f + 1) m ++ R) = some (acc + m * 128 ^ i, i + (numF (f + 1) m).length) := by
  intro f
  induction f with
  | zero =>
    intro i acc m hm h0 hb
    simp at hm
    rw [numF, if_pos hm]
    simp only [List.cons_append, List.nil_append, getF, toNat_dig (show m < 256 by omega)]
    rw [if_neg (by omega), Nat.mod_eq_of_lt hm, if_neg (by omega)]; simp
  | succ f ih =>
    intro i acc m hm h0 hb
    rw [numF]
    by_cases h1 : m < 128
    · rw [if_pos h1]
      simp only [List.cons_append, List.nil_append, getF, toNat_dig (show m < 256 by omega)]
      rw [if_neg (by omega), Nat.mod_eq_of_lt h1, if_neg (by omega)]; simp
    · rw [if_neg h1]
      have hd : m % 128 + 128 < 256 := by omega
      have e1 : (m % 128 + 128) % 128 = m % 128 := by omega
      have e2 : acc + m % 128 * 128 ^ i + m / 128 * 128 ^ (i + 1) = acc + m * 128 ^ i := by
        rw [Nat.pow_succ, Nat.mul_comm (128 ^ i) 128, ← Nat.mul_assoc, Nat.add_assoc, ← Nat.add_mul]
        congr 2; omega
      have h3 := ih (i + 1) (acc + m % 128 * 128 ^ i) (m / 128) (by
        rw [Nat.pow_succ] at hm
        exact Nat.div_lt_of_lt_mul (by rw [Nat.mul_comm]; exact hm)) (.inl (by omega)) (by rw [e2]; exact hb)
      rw [e2] at h3
      rw [List.cons_append, getF, toNat_dig hd, if_pos (by omega), e1, h3, List.length_cons]
      congr 2; omega
theorem isNum_nat {n : Int} (h : isNum n = true) : ∃ m : Nat, n = m ∧ m ≤ 9007199254740991 := by
  simp [isNum] at h
  exact ⟨n.toNat, by omega, by omega⟩
/-- What was put is read again. -/
theorem getNum_put (P R : List UInt8) (n : Int) (h : isNum n = true) : getNum (P ++ codeNum n ++ R) (P.length : Int) = some (n.toNat, P.length + (codeNum n).length) := by
  obtain ⟨m, rfl, hm⟩ := isNum_nat h
  have hlen : 0 < (codeNum (m : Int)).length := by rw [codeNum_yes hm]; exact numF_pos 7 m
  unfold getNum
  rw [if_pos (by simp; omega)]
  rw [Int.toNat_natCast, List.append_assoc, List.drop_left, codeNum_yes hm, getF_num R 7 0 0 m (by rw [show (128 : Nat) ^ (7 + 1) = 72057594037927936 from by decide]; omega) (.inr rfl) (by simpa using hm)]
  simp
theorem getF_back : ∀ (f i acc : Nat) (l : List UInt8) (n c : Nat), getF f i acc l = some (n, c) → i < c ∧ ∃ m, n = acc + m * 128 ^ i ∧ l.take (c - i) = numF f m ∧ m < 128 ^ f ∧ (0 < m ∨ i = 0)
  | 0, _, _, _, _, _, h => by simp [getF] at h
  | f + 1, _, _, [], _, _, h => by simp [getF] at h
  | f + 1, i, acc, x :: l, n, c, h => by
    have hx := x.toNat_lt
    rw [getF] at h
    by_cases h1 : 128 ≤ x.toNat
    · rw [if_pos h1] at h
      obtain ⟨hc, m, h2, h3, h4, h5⟩ := getF_back f (i + 1) _ l n c h
      refine ⟨by omega, m * 128 + x.toNat % 128, ?_, ?_, ?_, ?_⟩
      · rw [h2, Nat.pow_succ, Nat.add_mul, Nat.mul_assoc m 128, Nat.mul_comm 128 (128 ^ i)]; omega
      · have hm : 0 < m := by
          rcases h5 with h5 | h5
          · exact h5
          · omega
        rw [show c - i = (c - (i + 1)) + 1 by omega, List.take_succ_cons, h3, numF, if_neg (by omega)]
        have e1 : (m * 128 + x.toNat % 128) % 128 + 128 = x.toNat := by omega
        have e2 : (m * 128 + x.toNat % 128) / 128 = m := by omega
        rw [e1, e2, UInt8.ofNat_toNat]
      · rw [Nat.pow_succ]; omega
      · have hm : 0 < m := by
          rcases h5 with h5 | h5
          · exact h5
          · omega
        left; omega
    · rw [if_neg h1] at h
      split at h
      · cases h
      · rename_i hn
        simp only [Option.some.injEq, Prod.mk.injEq] at h
        obtain ⟨rfl, rfl⟩ := h
        have e : x.toNat % 128 = x.toNat := by omega
        rw [e]
        refine ⟨by omega, x.toNat, rfl, ?_, ?_, by omega⟩
        · rw [show i + 1 - i = 1 by omega, numF, if_pos (by omega), UInt8.ofNat_toNat]; rfl
        · have : 128 ^ 1 ≤ 128 ^ (f + 1) := Nat.pow_le_pow_right (by omega) (by omega)
          omega
/-- What is read is what would be put. -/
theorem getNum_back {l : List UInt8} {n x : Nat} (h : getNum l 0 = some (n, x)) : codeNum n = l.take x := by
  obtain ⟨hn, _, _, _⟩ := getNum_some h
  unfold getNum at h
  split at h
  · simp only [Option.map_eq_some_iff] at h
    obtain ⟨⟨n', c⟩, h1, h2⟩ := h
    simp only [Prod.mk.injEq] at h2
    obtain ⟨rfl, rfl⟩ := h2
    obtain ⟨_, m, h3, h4, _, _⟩ := getF_back _ _ _ _ _ _ h1
    simp at h3 h4
    subst h3
    rw [codeNum_yes hn, ← h4]; simp
  · cases h
theorem numF_mono : ∀ f m n, m ≤ n → (numF f m).length ≤ (numF f n).length
  | 0, _, _, _ => by simp [numF]
  | f + 1, m, n, h => by
    rw [numF, numF]
    split
    · split
      · simp
      · simp
    · rw [if_neg (by omega), List.length_cons, List.length_cons]
      have := numF_mono f (m / 128) (n / 128) (Nat.div_le_div_right h)
      omega
theorem codeNum_mono {m n : Int} (hm : isNum m = true) (hn : isNum n = true) (h : m ≤ n) : (codeNum m).length ≤ (codeNum n).length := by
  obtain ⟨a, rfl, ha⟩ := isNum_nat hm
  obtain ⟨b, rfl, hb⟩ := isNum_nat hn
  rw [codeNum_yes ha, codeNum_yes hb]
  exact numF_mono 8 a b (by omega)
theorem getItems_put (R : List UInt8) : ∀ (l : List Int) (P : List UInt8), l.all isNum = true → getItems (P ++ l.flatMap codeNum ++ R) l.length P.length = some (l, P.length + (l.flatMap codeNum).length)
  | [], P, _ => by simp [getItems]
  | x :: l, P, h => by
    rw [List.all_cons, Bool.and_eq_true] at h
    have h1 := getNum_put P (l.flatMap codeNum ++ R) x h.1
    have h2 := getItems_put R l (P ++ codeNum x) h.2
    have e1 : P ++ (x :: l).flatMap codeNum ++ R = P ++ codeNum x ++ (l.flatMap codeNum ++ R) := by simp [List.flatMap_cons]
    have e2 : P ++ codeNum x ++ (l.flatMap codeNum ++ R) = (P ++ codeNum x) ++ l.flatMap codeNum ++ R := by simp
    obtain ⟨m, rfl, hm⟩ := isNum_nat h.1
    rw [e1, List.length_cons, getItems, h1, Option.bind_some, e2]
    simp only [List.length_append] at h2 ⊢
    rw [h2, Option.map_some, List.flatMap_cons, List.length_append]
    simp; omega
theorem codeList_pos {l : List Int} (h : codeList l ≠ []) (hl : l.length ≤ 9007199254740991) : l.all isNum = true ∧ codeList l = codeNum l.length ++ l.flatMap codeNum ∧ isNum (l.length : Int) = true := by
  unfold codeList at h ⊢
  split at h
  · rename_i ha
    rw [if_pos ha]
    exact ⟨ha, rfl, by simp [isNum]; omega⟩
  · exact absurd rfl h
theorem getList_put (P R : List UInt8) (l : List Int) (many : Int) (ha : l.all isNum = true) (hb : isNum (l.length : Int) = true) :
    getList (P ++ (codeNum l.length ++ l.flatMap codeNum) ++ R) (P.length : Int) many = if many < (l.length : Int) then none else some (l, P.length + (codeNum l.length ++ l.flatMap codeNum).length) := by
  have h1 := getNum_put P (l.flatMap codeNum ++ R) (l.length : Int) hb
  have e1 : P ++ (codeNum l.length ++ l.flatMap codeNum) ++ R = P ++ codeNum l.length ++ (l.flatMap codeNum ++ R) := by simp
  have e2 : P ++ codeNum l.length ++ (l.flatMap codeNum ++ R) = (P ++ codeNum l.length) ++ l.flatMap codeNum ++ R := by simp
  have h2 := getItems_put R l (P ++ codeNum l.length) ha
  rw [e1, getList, h1, Option.bind_some]
  simp only [Int.toNat_natCast]
  split
  · rfl
  · rw [e2]
    simp only [List.length_append] at h2 ⊢
    rw [h2, Nat.add_assoc]
theorem getText_put (s R : List UInt8) (h : isNum (s.length : Int) = true) : getText (codeText s ++ R) 0 = some (s, (codeText s).length) := by
  have h1 := getNum_put [] (s ++ R) (s.length : Int) h
  simp only [List.nil_append, List.length_nil, Nat.zero_add] at h1
  have e1 : codeText s ++ R = codeNum s.length ++ (s ++ R) := by simp [codeText]
  have h1' : getNum (codeText s ++ R) 0 = some (s.length, (codeNum s.length).length) := by rw [e1]; simpa using h1
  rw [getText, h1', Option.bind_some]
  have hle : s.length ≤ (codeText s ++ R).length - (codeNum s.length).length := by simp [codeText]
  simp only
  rw [if_pos hle, e1, List.drop_left, List.take_left]
  simp [codeText]

end Go.Proofs.Ytmfbbonppmhabaa

namespace Go.Proofs.Ytmfbbonppmhabaa
set_option linter.unusedVariables false
set_option linter.unusedSimpArgs false
open Go.RowKit

set_option maxHeartbeats 400000 in
theorem ris1_any (n : Int) (w : World) : Calls Try.prog 71 #[.int .i64 n] w fun e w' => e = .returned (.bool (isNum n)) ∧ w = w' := by
  by_cases h0 : 0 ≤ n
  · have g0 : decide (0 ≤ n) = true := by simp; omega
    have HR : Hid (isNum n = decide (n < 9007199254740992)) := by rw [Hid, isNum, Bool.eq_iff_iff]; simp; omega
    go_enter Try.func71, Try.ntmps71
    go_wp2
    go_ret
    exact ⟨by rw [HR.out]; rfl, rfl⟩
  · have g0 : decide (0 ≤ n) = false := by simp; omega
    have HR : Hid (isNum n = false) := by rw [Hid, isNum]; simp; omega
    go_enter Try.func71, Try.ntmps71
    go_wp2
    go_ret
    exact ⟨by rw [HR.out]; rfl, rfl⟩

set_option maxRecDepth 10000 in
set_option maxHeartbeats 1000000 in
theorem rnum_any (n : Int) (w : World) :
    Calls Try.prog 51 #[.int .i64 n] w fun e w' => ∃ v, e = .returned v ∧ Own w' w.heap.size v (codeNum n) ∧ Below w.heap.size w w' := by
  by_cases hno : isNum n = false
  · have HN := hid hno
    have HR := hid ((codeNum_nil n).2 hno)
    clear hno
    go_enter Try.func51, Try.ntmps51
    go_wp2
    go_loop [0, 3, 4] (fun q v i => q = .int .i64 n ∧ v = .slice none 0 0 ∧ i = .int .i64 0) (fun _ _ _ => 0)
    case atStart => exact ⟨rfl, rfl, rfl⟩
    case round =>
      obtain ⟨rfl, rfl, rfl⟩ := hrel
      go_wp2_with fail
      refine (ris1_any n w).mono ?_
      rintro e w' ⟨rfl, rfl⟩
      rw [HN.out]
      go_wp2
      go_ret
      exact ⟨_, rfl, by rw [HR.out]; exact Own.nil _ _, Below.refl _ _⟩
  have hyes : isNum n = true := by simpa using hno
  have hr : 0 ≤ n ∧ n ≤ 9007199254740991 := by simpa [isNum] using hyes
  obtain ⟨n, rfl⟩ := Int.eq_ofNat_of_zero_le hr.1
  have hnI : (n : Int) ≤ 9007199254740991 := hr.2
  clear hno hyes hr
  go_enter Try.func51, Try.ntmps51
  go_wp2
  go_loopw [0, 3, 4] (fun q v i wr => ∃ (k m : Nat), k ≤ 8 ∧ i = .int .i64 k ∧ q = .int .i64 m ∧ m = n / 128 ^ k ∧ Own wr w.heap.size v (pre k n) ∧ Below w.heap.size w wr ∧ (k ≤ 1 ∨ 0 < n / 128 ^ (k - 1))) (fun _ _ i _ => 8 - (intOf i).toNat)
  case atStart => exact ⟨0, n, by omega, rfl, rfl, by simp, Own.nil _ _, Below.refl _ _, .inl (by omega)⟩
  case round =>
    obtain ⟨k, m, hk, rfl, rfl, hm, hown, hbel, hpos⟩ := hrel
    have HO := hid hown
    have HB := hid hbel
    have HP := hid hpos
    have hsz := hbel.size
    have hle : (m : Int) ≤ 9007199254740991 := by
      have : n / 128 ^ k ≤ n := Nat.div_le_self _ _
      omega
    have hIs : Hid (isNum (m : Int) = true) := by rw [Hid, isNum]; simp; omega
    have HM := hid hm
    clear hown hbel hpos hm
    go_wp2_with fail
    refine (ris1_any _ wr).mono ?_
    rintro e w' ⟨rfl, rfl⟩
    rw [hIs.out]
    have HQ : Hid (m / 128 = n / 128 ^ (k + 1)) := by rw [Hid, HM.out]; exact div_pow' n k
    have HX : Hid (#[Value.int .u8 ((m : Int) % 128)].toList = [bv (UInt8.ofNat (m % 128))]) := by
      have := bv_of ((m : Int) % 128) (by omega) (by omega)
      rw [show ((m : Int) % 128).toNat = m % 128 by omega] at this
      rw [Hid, this]
    by_cases h0 : k = 0
    · subst h0
      have HO1 : Hid (Own wr w.heap.size u3 []) := HO.out
      have HP1 : Hid ([] ++ [UInt8.ofNat (m % 128)] = pre 1 n) := by rw [Hid, HM.out]; simp [pre]
      go_wp2_with (at_builtin; refine wpList_app (by rfl) (.tmp 29) (.tmp 33) 27 27 27 rfl rfl _ _ rfl rfl (run_one wr w.heap.size _ [] (by exact HO1.out) _ _ HX.out (by simp) hsz) ?_; rintro v2 w2 ⟨hown2, hb2⟩; have HO2 := hid hown2; have HB2 := hid (HB.out.trans hb2); clear hown2 hb2)
      go_roundw
      case rel => exact ⟨1, m / 128, by omega, by go_num, by go_num, HQ.out, by rw [← HP1.out]; exact HO2.out, HB2.out, .inl (by omega)⟩
      case measure => simp [intOf]
    · obtain ⟨j, rfl⟩ : ∃ j, k = j + 1 := ⟨k - 1, by omega⟩
      have g0 : (((j + 1 : Nat) : Int) == 0) = false := by simp; omega
      have g1 : (((j : Int) + 1) == 0) = false := by simp; omega
      by_cases hz : m = 0
      · have HR : Hid (codeNum n = pre (j + 1) n) := by
          have hp : 0 < 128 ^ (j + 1) := Nat.pow_pos (by omega)
          have hm0 := HM.out
          rw [hz] at hm0
          have h1 : n < 128 ^ (j + 1) := by
            rcases Nat.lt_or_ge n (128 ^ (j + 1)) with h | h
            · exact h
            · have := (Nat.le_div_iff_mul_le hp (x := 1)).2 (by rw [Nat.one_mul]; exact h)
              rw [← hm0] at this; omega
          have h2 : j = 0 ∨ 128 ^ j ≤ n := by
            rcases HP.out with h | h
            · left; omega
            · right
              rw [show j + 1 - 1 = j by omega] at h
              rcases Nat.lt_or_ge n (128 ^ j) with h3 | h3
              · rw [Nat.div_eq_of_lt h3] at h; omega
              · exact h3
          rw [Hid, codeNum_yes (by omega), pre_num j (7 - j) n h1 h2, show j + 1 + (7 - j) = 8 by omega]
        have g2 : decide (0 < m) = false := by simp; omega
        have g3 : decide ((0 : Int) < (m : Int)) = false := by simp; omega
        clear hz
        go_wp2
        go_ret
        exact ⟨_, rfl, by rw [HR.out]; exact HO.out, HB.out⟩
      · have hj7 : j + 1 < 8 := by
          rcases Nat.lt_or_ge (j + 1) 8 with h | h
          · exact h
          · exfalso
            apply hz
            rw [HM.out]
            apply Nat.div_eq_of_lt
            have : 128 ^ 8 ≤ 128 ^ (j + 1) := Nat.pow_le_pow_right (by omega) h
            have e : 128 ^ 8 = 72057594037927936 := by decide
            omega
        obtain ⟨g, c, hv, hat⟩ := HO.out.at (by rw [pre_len]; omega)
        subst hv
        have hjl : j < (pre (j + 1) n).length := by rw [pre_len]; omega
        have k1 := hat.cell hjl
        have k2 := hat.frz j
        have hL : (pre (j + 1) n).length = j + 1 := pre_len _ _
        have hd1 : n / 128 ^ j % 128 < 128 := Nat.mod_lt _ (by omega)
        have hsum : (UInt8.ofNat (n / 128 ^ j % 128 + 128)).toNat = n / 128 ^ j % 128 + 128 := by rw [UInt8.toNat_ofNat']; omega
        have hone : (UInt8.ofNat (n / 128 ^ j % 128)).toNat = n / 128 ^ j % 128 := by rw [UInt8.toNat_ofNat']; omega
        rw [pre_last j n hjl, bv_def, hone] at k1
        have i1 := idx_own g (j + 1) c j j rfl (by omega)
        have HS := hat.set j (UInt8.ofNat (n / 128 ^ j % 128 + 128))
        have HPS := hid (pre_step j n)
        have HBs := hid (HB.out.setCell (p := ⟨g, j, none⟩) (show w.heap.size ≤ g from hat.ge) (.int .u8 ((n / 128 ^ j % 128 + 128 : Nat) : Int)))
        have HS1 := HS.own
        rw [List.length_set, hL, bv_def, hsum] at HS1
        have HS2 := hid HS1
        have HLs : Hid (((pre (j + 1) n).set j (UInt8.ofNat (n / 128 ^ j % 128 + 128))).length ≤ 9) := by rw [Hid, List.length_set, hL]; omega
        rw [hL]
        have g2 : decide (0 < m) = true := by simp; omega
        have g3 : decide ((0 : Int) < (m : Int)) = true := by simp; omega
        have HZ := hid (show 0 < n / 128 ^ (j + 1) by have := HM.out; omega)
        clear HS HS1 hsum hone hjl hat hL
        generalize hdv : n / 128 ^ j % 128 = d at *
        have HDv := hid hdv
        clear hdv
        have e1 : (((d + 128 : Nat)) : Int) = (d : Int) + 128 := by omega
        rw [e1] at HBs HS2
        clear e1 hz
        go_wp2_with (at_builtin; refine wpList_app (by rfl) (.tmp 29) (.tmp 33) 27 27 27 rfl rfl _ _ rfl rfl (run_oneG (wr.setCell ⟨g, j, none⟩ (.int .u8 ((d : Int) + 128))) wr.heap.size (by simp [World.setCell]) w.heap.size _ _ (by exact HS2.out) _ _ HX.out (by have := HLs.out; omega) hsz) ?_; rintro v2 w2 ⟨hown2, hb2⟩; have HO2 := hid hown2; have HB2 := hid (HBs.out.trans hb2); clear hown2 hb2)
        have HP2 : Hid ((pre (j + 1) n).set j (UInt8.ofNat (d + 128)) ++ [UInt8.ofNat (m % 128)] = pre (j + 2) n) := by rw [Hid, ← HPS.out, HM.out]
        go_roundw
        case rel => exact ⟨j + 2, m / 128, by omega, by go_num, by go_num, HQ.out, by rw [← HP2.out]; exact HO2.out, HB2.out, .inr HZ.out⟩
        case measure => simp [intOf]; omega

end Go.Proofs.Ytmfbbonppmhabaa

namespace Go.Proofs.Ytmfbbonppmhabaa
set_option linter.unusedVariables false
set_option linter.unusedSimpArgs false
open Go.RowKit

theorem getNum_at' {l : List UInt8} {p : Nat} (h : p < l.length) : getNum l p = (getF 8 0 0 (l.drop p)).map fun q => (q.1, p + q.2) := by
  unfold getNum
  rw [if_pos (by omega)]; rfl

set_option maxRecDepth 10000 in
set_option maxHeartbeats 1000000 in
theorem rgetNum_any (a : Option Addr) (l : List UInt8) (n cap : Nat) (at_ : Int) (w : World) (hn : l.length = n) (hl : n ≤ 140737488355328) (hA : At w a l) :
    Calls Try.prog 44 #[.slice a n cap, .int .i64 at_] w fun e w' => e = .returned (res3 (getNum l at_)) ∧ Below w.heap.size w w' := by
  by_cases h0 : at_ < 0
  · have g0 : decide (at_ < 0) = true := by simp; omega
    have HR : Hid (getNum l at_ = none) := by rw [Hid, getNum, if_neg (by omega)]
    go_enter Try.func44, Try.ntmps44
    go_wp2
    go_ret3
    exact ⟨by rw [HR.out]; rfl, Below.refl _ _⟩
  have g0 : decide (at_ < 0) = false := by simp; omega
  by_cases h1 : (n : Int) ≤ at_
  · have g1 : decide ((n : Int) ≤ at_) = true := by simp; omega
    have HR : Hid (getNum l at_ = none) := by rw [Hid, getNum, if_neg (by omega)]
    go_enter Try.func44, Try.ntmps44
    go_wp2
    go_ret3
    exact ⟨by rw [HR.out]; rfl, Below.refl _ _⟩
  have g1 : decide ((n : Int) ≤ at_) = false := by simp; omega
  obtain ⟨p, rfl⟩ := Int.eq_ofNat_of_zero_le (show 0 ≤ at_ by omega)
  have hp : p < n := by omega
  have HG := hid (getNum_at' (l := l) (p := p) (by omega))
  have HA := hid hA
  have HN := hid hn
  have hok := hA.ok
  rw [hn] at hok
  have i0 := fun k i hi hk => idx_at a n cap hok k i hi hk
  clear hok hA hn
  go_enter Try.func44, Try.ntmps44
  go_wp2
  clear g0 g1
  go_loop [7, 8, 9] (fun acc st q => ∃ (k s t : Nat), k ≤ 8 ∧ p + k ≤ n ∧ q = .int .i64 k ∧ acc = .int .i64 s ∧ st = .int .i64 t ∧ t = 128 ^ k ∧ s < t ∧ getF 8 0 0 (l.drop p) = getF (8 - k) k s (l.drop (p + k))) (fun _ _ q => 8 - (intOf q).toNat)
  case atStart => exact ⟨0, 0, 1, by omega, by omega, rfl, rfl, rfl, rfl, by omega, rfl⟩
  case round =>
    obtain ⟨k, s, t, hk, hkn, rfl, rfl, rfl, ht, hs, hF⟩ := hrel
    have HF := hid hF
    have HT := hid ht
    clear hF ht
    have ht56 : t ≤ 72057594037927936 := by rw [HT.out]; exact pow_le_56 hk
    by_cases hk8 : k < 8
    case neg =>
      have g8 : decide ((k : Int) < 8) = false := by simp; omega
      have HR : Hid (getNum l p = none) := by
        rw [Hid, HG.out, HF.out, show 8 - k = 0 by omega]; rfl
      go_wp2
      go_ret3
      exact ⟨by rw [HR.out]; rfl, Below.refl _ _⟩
    have g8 : decide ((k : Int) < 8) = true := by simp; omega
    by_cases hlt : p + k < n
    case neg =>
      have g9 : decide ((k : Int) < (n : Int) - (p : Int)) = false := by simp; omega
      have HR : Hid (getNum l p = none) := by
        rw [Hid, HG.out, HF.out, List.drop_eq_nil_of_le (by rw [HN.out]; omega), getF_nil]; rfl
      go_wp2
      go_ret3
      exact ⟨by rw [HR.out]; rfl, Below.refl _ _⟩
    have g9 : decide ((k : Int) < (n : Int) - (p : Int)) = true := by simp; omega
    have hkl : p + k < l.length := by rw [HN.out]; exact hlt
    have i1 := i0 (p + k) ((p : Int) + (k : Int)) (by omega) hlt
    have c1 := HA.out.cell hkl
    have hcb := l[p + k].toNat_lt
    have HD := hid (List.drop_eq_getElem_cons hkl)
    clear i0
    generalize hcv : l[p + k].toNat = c at c1 hcb
    have HC := hid hcv
    clear hcv
    have hts : t ≤ 562949953421312 := by
      rw [HT.out]
      have : 128 ^ k ≤ 128 ^ 7 := Nat.pow_le_pow_right (by omega) (by omega)
      exact this
    obtain ⟨q, hq⟩ : ∃ q, q = t * (c % 128) := ⟨_, rfl⟩
    have hq1 : q ≤ t * 127 := by rw [hq]; exact Nat.mul_le_mul_left _ (by omega)
    have e1 : (t : Int) * ((c : Int) % 128) = (q : Int) := by rw [hq, Int.natCast_mul]; rfl
    have HQ := hid hq
    have HK : Hid (getF 8 0 0 (l.drop p) = if 128 ≤ c then getF (8 - (k + 1)) (k + 1) (s + q) (l.drop (p + k + 1))
        else if (c = 0 ∧ 0 < k) ∨ 9007199254740991 < s + q then none else some (s + q, k + 1)) := by
      rw [Hid, HF.out, HD.out, show 8 - k = (8 - (k + 1)) + 1 by omega, HQ.out, HT.out, Nat.mul_comm]
      simp only [getF, HC.out]
    have hsq : s + q < t * 128 := by omega
    clear hq
    by_cases h128 : 128 ≤ c
    · have HK2 : Hid (getF 8 0 0 (l.drop p) = getF (8 - (k + 1)) (k + 1) (s + q) (l.drop (p + (k + 1)))) := by rw [Hid, HK.out, if_pos h128]; rfl
      have HT2 : Hid (t * 128 = 128 ^ (k + 1)) := by rw [Hid, HT.out, Nat.pow_succ]
      go_wp2
      go_round
      case rel => exact ⟨k + 1, s + q, t * 128, by omega, by omega, by go_num, by go_num, by go_num, HT2.out, hsq, HK2.out⟩
      case measure => simp [intOf]; omega
    · have HM : Hid ((codeNum ((s + q : Nat) : Int)).length = k + 1 ↔ ¬ ((c = 0 ∧ 0 < k) ∨ 9007199254740991 < s + q)) := by
        have := codeNum_minimal (s := s) (c := c) (k := k) (by rw [← HT.out]; exact hs) (by omega) hk8
        rw [Nat.mul_comm c, ← HT.out] at this
        have e : t * c = q := by rw [HQ.out, Nat.mod_eq_of_lt (by omega)]
        rw [e] at this
        exact this
      have e2 : ((s + q : Nat) : Int) = (s : Int) + (q : Int) := by omega
      have HA1 := HA
      go_wp2_with fail
      refine (rnum_any _ _).mono ?_
      rintro e w1 ⟨v1, rfl, hown, hb⟩
      obtain ⟨a1, cc1, rfl, _, _, _⟩ := hown.sl
      have HB := hid hb
      clear hown hb
      rw [e2] at HM
      generalize hN : (codeNum ((s : Int) + (q : Int))).length = N at *
      by_cases hbad : (c = 0 ∧ 0 < k) ∨ 9007199254740991 < s + q
      · have HR : Hid (getNum l p = none) := by rw [Hid, HG.out, HK.out, if_neg h128, if_pos hbad]; rfl
        have hne : N ≠ k + 1 := fun h => (HM.out.1 h) hbad
        have g5 : ((N : Int) != (k : Int) + 1) = true := by simp; omega
        have HN2 := hid hN
        clear hN
        go_wp2
        go_ret3
        exact ⟨by rw [HR.out]; rfl, HB.out⟩
      · have HR : Hid (getNum l p = some (s + q, p + (k + 1))) := by rw [Hid, HG.out, HK.out, if_neg h128, if_neg hbad]; rfl
        have hne : N = k + 1 := HM.out.2 hbad
        have g5 : ((N : Int) != (k : Int) + 1) = false := by simp; omega
        have HN2 := hid hN
        clear hN hne
        go_wp2
        go_ret3
        exact ⟨by rw [HR.out]; simp [res3]; omega, HB.out⟩

end Go.Proofs.Ytmfbbonppmhabaa
