/- frame.Get. -/
import Derived.Test.YtkkailggpfmgaaaFramePut
import Derived.Test.YtkkailggpfmgaaaCodeGet
import Derived.Test.YtkkailggpfmgaaaDiskWalk
namespace Go.Proofs.Ytkkailggpfmgaaa
set_option linter.unusedVariables false
set_option linter.unusedSimpArgs false
open Go.RowKit

theorem cut_lhm (a : Option Addr) (n cap lo hi mx : Nat) (i j k : Int) (ei : i = lo) (ej : j = hi) (ek : k = mx) (h1 : lo ≤ hi) (h2 : hi ≤ mx) (h3 : mx ≤ cap) (wx : World) :
    (Instr.slice 32 (.slice a n cap) (some (.int .i64 i)) (some (.int .i64 j)) (some (.int .i64 k))).run Try.prog wx = .ok (.slice (cutH a lo mx) (hi - lo) (mx - lo)) wx := by
  subst ei ej ek
  rw [run_slice_any wx _ a n cap sliceT]
  have e1 : ((lo : Int)) ≤ (hi : Int) := by omega
  have e2 : ((hi : Int)) ≤ (mx : Int) := by omega
  have e3 : ((mx : Int)) ≤ (cap : Int) := by omega
  have hb : (Instr.sliceBounds true n cap (some (.int .i64 (lo : Int))) (some (.int .i64 (hi : Int))) (some (.int .i64 (mx : Int)))).run Try.prog wx = .ok (lo, hi, mx) wx := by
    simp [Instr.sliceBounds, run_sliceBound, e1, e2, e3]
  rw [hb]
  simp only [Result.andThen]
  rw [sizeT]
  simp [Result.andThen, sliced, cutH]

/-- What stands behind a number. -/
def fBody (l : List UInt8) (at_ : Int) (n x : Nat) : List UInt8 × Int × Int :=
  if 4000 < n ∨ l.length ≤ x + n + 4 then ([], at_, 2)
  else if isB ((l.drop x).take (n + 4)) = true ∧ l[x + n + 4]?.getD 0 = 1 then ((l.drop x).take n, ((x + n + 5 : Nat) : Int), 1) else ([], at_, 2)
def fNum (l : List UInt8) (at_ : Int) : Option (Nat × Nat) → List UInt8 × Int × Int
  | none => ([], at_, 2)
  | some q => fBody l at_ q.1 q.2
/-- What stands at a place: the payload, the place behind it, and what it is. -/
def fGet (l : List UInt8) (at_ : Int) : List UInt8 × Int × Int :=
  if at_ < 0 ∨ (l.length : Int) < at_ then ([], at_, 2)
  else if l[at_.toNat]?.getD 0 = 0 then ([], at_, 0)
  else fNum l at_ (getNum l at_)

def GetPost (r : List UInt8 × Int × Int) (B : Nat) (e : Ending) (w' : World) : Prop := ∃ a c, e = .returned (.tuple #[.slice a r.1.length c, .int .i64 r.2.1, .int .i64 r.2.2]) ∧ Own w' B (.slice a r.1.length c) r.1

set_option maxRecDepth 10000 in
set_option maxHeartbeats 1600000 in
theorem frGet_any (a : Option Addr) (l : List UInt8) (n cap : Nat) (at_ : Int) (w : World) (hn : l.length = n) (hm : n ≤ 140737488355328) (hcap : n ≤ cap) (hA : At w a l) :
    Calls Try.prog 67 #[.slice a n cap, .int .i64 at_] w fun e w' => GetPost (fGet l at_) w.heap.size e w' ∧ Below w.heap.size w w' := by
  have HN := hid hn
  have HA := hid hA
  clear hn hA
  have no : ∀ (z : Int), fGet l at_ = ([], at_, z) → GetPost (fGet l at_) w.heap.size (.returned (.tuple #[.slice none 0 0, .int .i64 at_, .int .i64 z])) w := by
    intro z h
    rw [h]
    exact ⟨none, 0, rfl, Own.nil _ _⟩
  have No := hid no
  clear no
  by_cases q0 : at_ < 0
  · have HF : Hid (fGet l at_ = ([], at_, 2)) := by rw [Hid, fGet, if_pos (.inl q0)]
    go_enter Try.func67, Try.ntmps67
    go_wp2
    go_ret3
    exact ⟨No.out _ HF.out, Below.refl _ _⟩
  obtain ⟨k, rfl⟩ := Int.eq_ofNat_of_zero_le (show 0 ≤ at_ by omega)
  by_cases q1 : n < k
  · have HF : Hid (fGet l k = ([], (k : Int), 2)) := by rw [Hid, fGet, if_pos (.inr (by rw [HN.out]; omega))]
    have g1 : decide (n < k) = true := decide_eq_true q1
    go_enter Try.func67, Try.ntmps67
    go_wp2
    go_ret3
    exact ⟨No.out _ HF.out, Below.refl _ _⟩
  have hF1 : fGet l k = if l[k]?.getD 0 = 0 then ([], (k : Int), 0) else fNum l k (getNum l k) := by
    rw [fGet, if_neg (by rw [HN.out]; omega), Int.toNat_natCast]
  have g1 : decide (n < k) = false := decide_eq_false q1
  by_cases q2 : k = n
  · subst q2
    have HF : Hid (fGet l k = ([], (k : Int), 0)) := by rw [Hid, hF1, if_pos (by rw [List.getElem?_eq_none (by have := HN.out; omega)]; rfl)]
    clear hF1
    go_enter Try.func67, Try.ntmps67
    go_wp2
    go_ret3
    exact ⟨No.out _ HF.out, Below.refl _ _⟩
  have hkl : k < l.length := by rw [HN.out]; omega
  have g2 : ((k : Int) == (n : Int)) = false := by simp; omega
  have i0 := fun wx => idx_at a n cap (fun h => HA.out.ok (by rw [HN.out]; exact h)) k k rfl (by omega) wx
  have x0 := HA.out.cell hkl
  rw [List.getElem?_eq_getElem hkl, Option.getD_some] at hF1
  generalize l[k] = z at *
  generalize adr a k = A at *
  by_cases q3 : z = 0
  · subst q3
    have HF : Hid (fGet l k = ([], (k : Int), 0)) := by rw [Hid, hF1, if_pos rfl]
    clear hF1
    have g3 : (((0 : UInt8).toNat : Int) == 0) = true := rfl
    go_enter Try.func67, Try.ntmps67
    go_wp2
    go_ret3
    exact ⟨No.out _ HF.out, Below.refl _ _⟩
  have g3 : ((z.toNat : Int) == 0) = false := by
    have : z.toNat ≠ 0 := fun h => q3 (by apply UInt8.toNat.inj; simpa using h)
    simp; omega
  rw [if_neg q3] at hF1
  have HF1 := hid hF1
  clear hF1 q3
  cases hg : getNum l k with
  | none =>
    have HG := hid hg
    have HF : Hid (fGet l k = ([], (k : Int), 2)) := by rw [Hid, HF1.out, hg]; rfl
    clear hg
    go_enter Try.func67, Try.ntmps67
    go_wp2_with fail
    refine (getNum_any a l n cap k w HN.out hm hcap HA.out).mono ?_
    rintro e w1 ⟨rfl, rfl⟩
    rw [HG.out]
    unfold res3
    go_wp2
    go_ret3
    exact ⟨No.out _ HF.out, Below.refl _ _⟩
  | some q =>
    obtain ⟨m, x⟩ := q
    have hgs := getNum_some hg
    rw [HN.out] at hgs
    have HG := hid hg
    have HF2 : Hid (fGet l k = fBody l k m x) := by rw [Hid, HF1.out, hg]; rfl
    clear hg
    obtain ⟨hm1, hkx, hxn, _⟩ := hgs
    have hkx' : k < x := by omega
    by_cases q4 : 4000 < m ∨ n ≤ x + m + 4
    · have HF : Hid (fGet l k = ([], (k : Int), 2)) := by rw [Hid, HF2.out, fBody, HN.out, if_pos q4]
      by_cases q5 : 4000 < m
      · have g4 : decide ((4000 : Int) < (m : Int)) = true := decide_eq_true (by omega)
        go_enter Try.func67, Try.ntmps67
        go_wp2_with fail
        refine (getNum_any a l n cap k w HN.out hm hcap HA.out).mono ?_
        rintro e w1 ⟨rfl, rfl⟩
        rw [HG.out]
        unfold res3
        go_wp2
        go_ret3
        exact ⟨No.out _ HF.out, Below.refl _ _⟩
      · have g4 : decide ((4000 : Int) < (m : Int)) = false := decide_eq_false (by omega)
        have g5 : decide ((n : Int) - (x : Int) ≤ (m : Int) + 4) = true := decide_eq_true (by omega)
        go_enter Try.func67, Try.ntmps67
        go_wp2_with fail
        refine (getNum_any a l n cap k w HN.out hm hcap HA.out).mono ?_
        rintro e w1 ⟨rfl, rfl⟩
        rw [HG.out]
        unfold res3
        go_wp2
        go_ret3
        exact ⟨No.out _ HF.out, Below.refl _ _⟩
    have g4 : decide ((4000 : Int) < (m : Int)) = false := decide_eq_false (by omega)
    have g5 : decide ((n : Int) - (x : Int) ≤ (m : Int) + 4) = false := decide_eq_false (by omega)
    have ic := cut_lhI a n cap x (x + m + 4) (x : Int) ((x : Int) + (m : Int) + 4) rfl (by omega) (by omega) (by omega)
    have HAc := hid (HA.out.cut x (x + m + 4 - x) cap (by omega))
    have HLc : Hid ((((l.drop x).take (x + m + 4 - x))).length = x + m + 4 - x) := by rw [Hid, List.length_take, List.length_drop, HN.out]; omega
    have HE : Hid ((l.drop x).take (x + m + 4 - x) = (l.drop x).take (m + 4)) := by rw [Hid]; congr 1; omega
    have hyl : x + m + 4 < l.length := by rw [HN.out]; omega
    have HF3 : Hid (fBody l k m x = if isB ((l.drop x).take (m + 4)) = true ∧ l[x + m + 4] = 1 then ((l.drop x).take m, ((x + m + 5 : Nat) : Int), 1) else ([], (k : Int), 2)) := by
      rw [Hid, fBody, HN.out, if_neg q4, List.getElem?_eq_getElem hyl, Option.getD_some]
    have i1 := fun wx => idx_at a n cap (fun h => HA.out.ok (by rw [HN.out]; exact h)) (x + m + 4) ((x : Int) + (m : Int) + 4) (by omega) (by omega) wx
    have x1 := HA.out.cell hyl
    generalize l[x + m + 4] = y at *
    generalize adr a (x + m + 4) = A1 at *
    by_cases q5 : isB ((l.drop x).take (m + 4)) = true
    case neg =>
      have HB : Hid (isB ((l.drop x).take (m + 4)) = false) := by rw [Hid]; simpa using q5
      have HF : Hid (fGet l k = ([], (k : Int), 2)) := by rw [Hid, HF2.out, HF3.out, if_neg (fun h => q5 h.1)]
      clear q5
      go_enter Try.func67, Try.ntmps67
      go_wp2_with fail
      refine (getNum_any a l n cap k w HN.out hm hcap HA.out).mono ?_
      rintro e w1 ⟨rfl, rfl⟩
      rw [HG.out]
      unfold res3
      go_wp2_with fail
      refine (is_any _ _ _ _ w HLc.out (by unfold maxLen; omega) (by omega) (by exact HAc.out)).mono ?_
      rintro e w1 ⟨rfl, hb⟩
      rw [HE.out, HB.out]
      have HBb := hid hb
      clear hb
      go_wp2
      go_ret3
      obtain ⟨a', c', e1, e2⟩ := No.out _ HF.out
      exact ⟨⟨a', c', e1, e2.stay HBb.out⟩, HBb.out⟩
    have HB := hid q5
    by_cases q6 : y = 1
    case neg =>
      have HF : Hid (fGet l k = ([], (k : Int), 2)) := by rw [Hid, HF2.out, HF3.out, if_neg (fun h => q6 h.2)]
      have g6 : ((y.toNat : Int) != 1) = true := by
        have : y.toNat ≠ 1 := fun h => q6 (by apply UInt8.toNat.inj; simpa using h)
        simp; omega
      clear q5 q6
      go_enter Try.func67, Try.ntmps67
      go_wp2_with fail
      refine (getNum_any a l n cap k w HN.out hm hcap HA.out).mono ?_
      rintro e w1 ⟨rfl, rfl⟩
      rw [HG.out]
      unfold res3
      go_wp2_with fail
      refine (is_any _ _ _ _ w HLc.out (by unfold maxLen; omega) (by omega) (by exact HAc.out)).mono ?_
      rintro e w1 ⟨rfl, hb⟩
      rw [HE.out, HB.out]
      have x1' : w1.cell? A1 = some (.int .u8 (y.toNat : Int)) := (hb.cell (World.block_lt_of_cell? _ _ x1)).trans x1
      have HBb := hid hb
      clear hb
      go_wp2
      go_ret3
      obtain ⟨a', c', e1, e2⟩ := No.out _ HF.out
      exact ⟨⟨a', c', e1, e2.stay HBb.out⟩, HBb.out⟩
    have HF : Hid (fGet l k = ((l.drop x).take m, ((x + m + 5 : Nat) : Int), 1)) := by rw [Hid, HF2.out, HF3.out, if_pos ⟨q5, q6⟩]
    subst q6
    have g6 : (((1 : UInt8).toNat : Int) != 1) = false := rfl
    have ic2 := cut_lhm a n cap x (x + m) (x + m) (x : Int) ((x : Int) + (m : Int)) ((x : Int) + (m : Int)) rfl (by omega) (by omega) (by omega) (by omega) (by omega)
    have HAd := hid (HA.out.cut x m (x + m) (by omega))
    have HLd : Hid ((((l.drop x).take m)).length = m) := by rw [Hid, List.length_take, List.length_drop, HN.out]; omega
    have HNd : Hid (cutH a x (x + m) = none → m = 0) := by
      have := HA.out.ok (show 0 < l.length by omega)
      intro h
      unfold cutH at h
      split at h
      · omega
      · obtain ⟨y, rfl⟩ := Option.isSome_iff_exists.1 this
        cases h
    clear q5
    go_enter Try.func67, Try.ntmps67
    go_wp2_with fail
    refine (getNum_any a l n cap k w HN.out hm hcap HA.out).mono ?_
    rintro e w1 ⟨rfl, rfl⟩
    rw [HG.out]
    unfold res3
    go_wp2_with fail
    refine (is_any _ _ _ _ w HLc.out (by unfold maxLen; omega) (by omega) (by exact HAc.out)).mono ?_
    rintro e w1 ⟨rfl, hb⟩
    rw [HE.out, HB.out]
    have x1' : w1.cell? A1 = some (.int .u8 ((1 : UInt8).toNat : Int)) := (hb.cell (World.block_lt_of_cell? _ _ x1)).trans x1
    have HBb := hid hb
    clear hb
    go_wp2_with fail
    refine (clone_any _ _ _ _ w1 HLd.out (by omega) HNd.out (by exact HAd.out.all HBb.out)).mono ?_
    rintro e w2 ⟨v2, rfl, ho2, hb2⟩
    obtain ⟨a2, c2, rfl⟩ := ho2.written HLd.out
    have HO2 := hid (ho2.base HBb.out.size)
    have HB2 := hid (bst HBb.out hb2)
    clear ho2 hb2
    go_wp2
    go_ret3
    refine ⟨?_, HB2.out⟩
    rw [HF.out]
    have hl := HLd.out
    refine ⟨a2, c2, ?_, by rw [hl]; exact HO2.out⟩
    rw [hl]
    have e3 : (x : Int) + (m : Int) + 4 + 1 = ((x + m + 5 : Nat) : Int) := by omega
    rw [← e3]
    rfl

end Go.Proofs.Ytkkailggpfmgaaa
