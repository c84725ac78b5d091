/- The walks of layer 1's readers. -/
import Derived.Test.YtkkailggpfmgaaaCodeWalk
namespace Go.Proofs.Ytkkailggpfmgaaa
set_option linter.unusedVariables false
set_option linter.unusedSimpArgs false
open Go.RowKit

/-- A reader's three results. -/
def res3 : Option (Nat × Nat) → Value
  | some p => .tuple #[.int .i64 (p.1 : Int), .int .i64 (p.2 : Int), .bool true]
  | none => .tuple #[.int .i64 0, .int .i64 0, .bool false]

theorem getF_nil (f i acc : Nat) : getF f i acc [] = none := by cases f <;> rfl
theorem getNum_at {l : List UInt8} {p : Nat} (h : p < l.length) : getNum l p = (getF 8 0 0 ((l.drop p).take (min l.length (p + 8) - p))).map fun q => (q.1, p + q.2) := by
  unfold getNum
  rw [if_pos (by omega)]
  have key : ∀ (f i acc : Nat) (m : List UInt8), getF f i acc m = getF f i acc (m.take f) := by
    intro f
    induction f with
    | zero => intros; rfl
    | succ f ih =>
      intro i acc m
      cases m with
      | nil => rfl
      | cons c m => rw [List.take_succ_cons]; simp only [getF]; rw [ih]
  rw [key 8 0 0 (l.drop (p : Int).toNat), key 8 0 0 ((l.drop p).take _), Int.toNat_natCast]
  congr 2
  rw [List.take_take]
  apply List.ext_getElem?
  intro i
  simp only [List.getElem?_take, List.getElem?_drop]
  by_cases h1 : i < 8
  · by_cases h2 : i < min 8 (min l.length (p + 8) - p)
    · rw [if_pos h1, if_pos h2]
    · rw [if_pos h1, if_neg h2, List.getElem?_eq_none (by omega)]
  · rw [if_neg h1, if_neg (by omega)]

theorem acc_lt {s c k : Nat} (hs : s < 128 ^ k) : s + (c % 128) * 128 ^ k < 128 ^ (k + 1) := by
  have h1 : c % 128 ≤ 127 := by omega
  have h2 := Nat.mul_le_mul_right (128 ^ k) h1
  rw [Nat.pow_succ]; omega
theorem pow_le_56 {k : Nat} (hk : k ≤ 8) : 128 ^ k ≤ 72057594037927936 := by
  have : 128 ^ k ≤ 128 ^ 8 := Nat.pow_le_pow_right (by omega) hk
  exact this
theorem or_acc {s c k : Nat} (hs : s < 128 ^ k) (hk : k < 8) : bits .or .i64 (s : Int) (wrap64 ((c : Int) % 128 * 2 ^ (7 * k))) = ((s + (c % 128) * 128 ^ k : Nat) : Int) := by
  have h1 := acc_lt (c := c) hs
  have h2 := pow_le_56 (k := k + 1) (by omega)
  have e1 : (c : Int) % 128 * 2 ^ (7 * k) = ((2 ^ (7 * k) * (c % 128) : Nat) : Int) := by
    rw [Int.natCast_mul, Int.natCast_pow]
    rw [Int.mul_comm]; rfl
  have e2 : (128 : Nat) ^ k = 2 ^ (7 * k) := by rw [Nat.pow_mul]
  rw [e2] at h1 hs ⊢
  have h3 : 2 ^ (7 * k) * (c % 128) < 2 ^ 63 := by
    have : s + c % 128 * 2 ^ (7 * k) < 72057594037927936 := Nat.lt_of_lt_of_le h1 (by rw [Nat.pow_succ] at h2 ⊢; exact h2)
    rw [Nat.mul_comm]; omega
  rw [e1, IntWalk.wrap64_in _ ⟨by omega, by omega⟩]
  have h4 := (bits_nat .i64 63 (by decide) (by intro n h0 h1; exact IntWalk.i64_in n ⟨by omega, by omega⟩) s (2 ^ (7 * k) * (c % 128)) (by have := Nat.pow_le_pow_right (n := 2) (by omega) (show 7 * k ≤ 49 by omega); omega) h3).2
  rw [h4, Nat.or_comm, ← Nat.two_pow_add_eq_or_of_lt hs, Nat.mul_comm, Nat.add_comm]

set_option maxRecDepth 10000 in
set_option maxHeartbeats 400000 in
theorem getNum_any (a : Option Addr) (l : List UInt8) (n cap : Nat) (at_ : Int) (w : World) (hn : l.length = n) (hl : n ≤ 140737488355328) (hcap : n ≤ cap) (hA : At w a l) :
    Calls Try.prog 70 #[.slice a n cap, .int .i64 at_] w fun e w' => e = .returned (res3 (getNum l at_)) ∧ w = w' := by
  by_cases h0 : at_ < 0
  · have g0 : decide (at_ < 0) = true := by simp; omega
    have HR : Hid (getNum l at_ = none) := by rw [Hid, getNum, if_neg (by omega)]
    go_enter Try.func70, Try.ntmps70
    go_wp2
    go_ret3
    exact ⟨by rw [HR.out]; rfl, rfl⟩
  have g0 : decide (at_ < 0) = false := by simp; omega
  by_cases h1 : (n : Int) ≤ at_
  · have g1 : decide ((n : Int) ≤ at_) = true := by simp; omega
    have HR : Hid (getNum l at_ = none) := by rw [Hid, getNum, if_neg (by omega)]
    go_enter Try.func70, Try.ntmps70
    go_wp2
    go_ret3
    exact ⟨by rw [HR.out]; rfl, rfl⟩
  have g1 : decide ((n : Int) ≤ at_) = false := by simp; omega
  obtain ⟨p, rfl⟩ := Int.eq_ofNat_of_zero_le (show 0 ≤ at_ by omega)
  have hp : p < n := by omega
  obtain ⟨d, hd⟩ : ∃ d, d = min n (p + 8) - p := ⟨_, rfl⟩
  have HG := hid (getNum_at (l := l) (p := p) (by omega))
  have HA : Hid (At w (cutH a p cap) ((l.drop p).take d)) := hA.cut p d cap (by omega)
  have HL : Hid (((l.drop p).take d).length = d) := by rw [Hid, List.length_take, List.length_drop]; omega
  rw [hn, ← hd] at HG
  have hq1 : d ≤ 8 := by omega
  have hcutA : n ≤ p + 8 → ∀ wx, (Instr.slice 32 (.slice a n cap) (some (.int .i64 (p : Int))) (some (.int .i64 (n : Int))) none).run Try.prog wx = .ok (.slice (cutH a p cap) d (cap - p)) wx := by
    intro h wx
    rw [cut_lhI a n cap p n p n rfl rfl (by omega) (by omega), show n - p = d by omega]
  have hcutB : ¬ n ≤ p + 8 → ∀ wx, (Instr.slice 32 (.slice a n cap) (some (.int .i64 (p : Int))) (some (.int .i64 ((p : Int) + 8))) none).run Try.prog wx = .ok (.slice (cutH a p cap) d (cap - p)) wx := by
    intro h wx
    rw [cut_lhI a n cap p (p + 8) p (p + 8) rfl (by omega) (by omega) (by omega), show p + 8 - p = d by omega]
  clear hd hA
  generalize (l.drop p).take d = m at HA HL HG
  have main : ∀ (J : Int), (∀ wx, (Instr.slice 32 (.slice a n cap) (some (.int .i64 (p : Int))) (some (.int .i64 J)) none).run Try.prog wx = .ok (.slice (cutH a p cap) d (cap - p)) wx) → (J = n ∧ (n : Int) ≤ (p : Int) + 8 ∨ J = p + 8 ∧ (p : Int) + 8 < (n : Int)) →
      Calls Try.prog 70 #[.slice a n cap, .int .i64 p] w fun e w' => e = .returned (res3 (getNum l p)) ∧ w = w' := by
    clear hcutA hcutB
    intro J hJ hor
    have hok := HA.out.ok
    rw [HL.out] at hok
    have i0 := fun k i hi hk => idx_at (cutH a p cap) d (cap - p) hok k i hi hk
    clear hok
    rcases hor with ⟨rfl, h8⟩ | ⟨rfl, h8⟩
    all_goals
      go_enter Try.func70, Try.ntmps70
      go_wp2
      go_loop [7, 27] (fun acc q => ∃ (k s : Nat), k ≤ d ∧ q = .int .i64 k ∧ acc = .int .i64 s ∧ s < 128 ^ k ∧ getF 8 0 0 m = getF (8 - k) k s (m.drop k)) (fun _ q => d - (intOf q).toNat)
      case atStart => exact ⟨0, 0, Nat.zero_le _, rfl, rfl, by omega, rfl⟩
      case round =>
        obtain ⟨k, s, hk, rfl, rfl, hs, hF⟩ := hrel
        have HF := hid hF
        have HS := hid hs
        clear hF hs
        by_cases hlt : k < d
        · have hkm : k < m.length := by rw [HL.out]; exact hlt
          have i1 := i0 k k rfl hlt
          have c1 := HA.out.cell hkm
          have hcb := m[k].toNat_lt
          have HD := hid (List.drop_eq_getElem_cons hkm)
          clear i0
          generalize hcv : m[k].toNat = c at c1 hcb
          have HC := hid hcv
          clear hcv
          have hor := or_acc (c := c) HS.out (by omega)
          have hSt := hid (acc_lt (c := c) HS.out)
          have hSb : s + c % 128 * 128 ^ k < 72057594037927936 := Nat.lt_of_lt_of_le hSt.out (pow_le_56 (by omega))
          have HK : Hid (getF 8 0 0 m = if 128 ≤ c then getF (8 - (k + 1)) (k + 1) (s + c % 128 * 128 ^ k) (m.drop (k + 1))
              else if (c = 0 ∧ 0 < k) ∨ 9007199254740991 < s + c % 128 * 128 ^ k then none else some (s + c % 128 * 128 ^ k, k + 1)) := by
            rw [Hid, HF.out, HD.out, show 8 - k = (8 - (k + 1)) + 1 by omega]
            simp only [getF, HC.out]
          generalize s + c % 128 * 128 ^ k = t at *
          by_cases h128 : 128 ≤ c
          · have HK2 : Hid (getF 8 0 0 m = getF (8 - (k + 1)) (k + 1) t (m.drop (k + 1))) := by rw [Hid, HK.out, if_pos h128]
            go_wp2
            go_round
            case rel => exact ⟨k + 1, t, by omega, by go_num, rfl, hSt.out, HK2.out⟩
            case measure => simp [intOf]; omega
          · by_cases hz : c = 0 ∧ 0 < k
            · obtain ⟨rfl, hkp⟩ := hz
              have HR : Hid (getNum l p = none) := by rw [Hid, HG.out, HK.out, if_neg h128, if_pos (.inl ⟨rfl, hkp⟩)]; rfl
              have q1 : decide (0 < k) = true := by simp; omega
              go_wp2
              go_ret3
              exact ⟨by rw [HR.out]; rfl, rfl⟩
            · have qz : (((c : Int) == 0) = false) ∨ ((c : Int) == 0) = true ∧ decide (0 < k) = false := by
                by_cases hc0 : c = 0
                · right; subst hc0; simp; omega
                · left; simp; omega
              by_cases hbig : 9007199254740991 < t
              · have HR : Hid (getNum l p = none) := by rw [Hid, HG.out, HK.out, if_neg h128, if_pos (.inr hbig)]; rfl
                have q1 : decide ((9007199254740991 : Int) < (t : Int)) = true := by simp; omega
                rcases qz with qz | ⟨qz, qk⟩
                all_goals
                  go_wp2
                  go_ret3
                  exact ⟨by rw [HR.out]; rfl, rfl⟩
              · have HR : Hid (getNum l p = some (t, p + (k + 1))) := by rw [Hid, HG.out, HK.out, if_neg h128, if_neg (by omega)]; rfl
                have q1 : decide ((9007199254740991 : Int) < (t : Int)) = false := by simp; omega
                rcases qz with qz | ⟨qz, qk⟩
                all_goals
                  go_wp2
                  go_ret3
                  exact ⟨by rw [HR.out]; simp [res3]; omega, rfl⟩
        · have ek : k = m.length := by rw [HL.out]; omega
          have HR : Hid (getNum l p = none) := by
            rw [Hid, HG.out, HF.out, ek, List.drop_length, getF_nil]; rfl
          clear ek
          go_wp2
          go_ret3
          exact ⟨by rw [HR.out]; rfl, rfl⟩
  by_cases h8 : n ≤ p + 8
  · exact main n (hcutA h8) (.inl ⟨rfl, by omega⟩)
  · exact main (p + 8) (hcutB h8) (.inr ⟨rfl, by omega⟩)

set_option maxRecDepth 100000 in
/-- `string(b)`. -/
theorem str_run (w : World) (a : Option Addr) (l : List UInt8) (n cap : Nat) (hn : l.length = n) (hA : At w a l) : (convert 32 9 (.slice a n cap)).run Try.prog w = .ok (.string ⟨l.toArray⟩) w := by
  subst hn
  have hd : Try.prog.underlying 9 = some .string := by kernel_rfl
  cases a with
  | none =>
    cases l with
    | nil => exact run_convert_bytes_nil w _ _ sliceB u8T 0 cap _ hd
    | cons c l => have := (hA 0 (by simp)).1; simp at this
  | some x =>
    have hl : (loadCells x l.length).run Try.prog w = .ok ((l.map fun c => (c.toNat : Int)).map (Value.int .u8)).toArray w := by
      have := run_loadCells_list (P := Try.prog) w x ((l.map fun c => (c.toNat : Int)).map (Value.int .u8)) (fun j v hj => by
        simp only [List.getElem?_map, Option.map_eq_some_iff] at hj
        obtain ⟨z, ⟨c, hc, rfl⟩, rfl⟩ := hj
        obtain ⟨hk, rfl⟩ := List.getElem?_eq_some_iff.1 hc
        exact (hA j hk).2)
      simpa using this
    rw [run_convert_bytes_string w _ _ _ _ _ cap sliceB u8T hd, run_bytesToString w _ _ cap _ hl, foldl_push_bytes]
    have e0 : (ByteArray.empty.data : Array UInt8) = #[] := rfl
    have e1 : ((ByteArray.empty.data : Array UInt8) ++ ((l.map fun c => (c.toNat : Int)).map fun n => UInt8.ofNat n.toNat).toArray) = l.toArray := by rw [e0]; simp [Function.comp_def]
    exact congrArg (fun d : Array UInt8 => (Result.ok (Value.string ⟨d⟩) w : Result Value)) e1

def res3s : Option (List UInt8 × Nat) → Value
  | some p => .tuple #[.string ⟨p.1.toArray⟩, .int .i64 (p.2 : Int), .bool true]
  | none => .tuple #[.string ByteArray.empty, .int .i64 0, .bool false]

end Go.Proofs.Ytkkailggpfmgaaa
