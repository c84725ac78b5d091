/- The document's slots (dunnageref06): Load, Open, Start. -/
import Derived.Test.YtmfbbonppmhabaaSlotsRef
import Derived.Test.YtmfbbonppmhabaaSlots2
namespace Go.Proofs.Ytmfbbonppmhabaa
set_option linter.unusedVariables false
set_option linter.unusedSimpArgs false
open Go.RowKit

/-- What the document's Start answers and leaves. -/
def rslStart (r : RD) (fr sz : Nat) (b : List UInt8) (age : Int) : Int × RD :=
  if isNum age = false then (1, r)
  else if age ≤ picI (pic (piece r.bytes (fr + 0 * sz) sz)) ∨ age ≤ picI (pic (piece r.bytes (fr + 1 * sz) sz)) then (6, r)
  else if (frameB (codeNum age ++ b)).length = 0 ∨ sz < (frameB (codeNum age ++ b)).length then (3, r)
  else (0, ((r.write ((fr + (if picI (pic (piece r.bytes (fr + 1 * sz) sz)) ≤ picI (pic (piece r.bytes (fr + 0 * sz) sz)) ∧ 0 ≤ picI (pic (piece r.bytes (fr + 0 * sz) sz)) then sz else 0) : Nat) : Int) (List.replicate sz 0)).sync).write ((fr + (if picI (pic (piece r.bytes (fr + 1 * sz) sz)) ≤ picI (pic (piece r.bytes (fr + 0 * sz) sz)) ∧ 0 ≤ picI (pic (piece r.bytes (fr + 0 * sz) sz)) then sz else 0) : Nat) : Int) (frameB (codeNum age ++ b)))
section
variable {w0 w : World} {tl : List Thing} {pr : Value} {r : RD} {g fr sz : Nat}
set_option maxRecDepth 10000 in
set_option maxHeartbeats 1600000 in
theorem rslOpen_no (S : St w0 w (rdT pr r :: tl)) (fr sz : Int) (hsz0 : -9223372036854775808 ≤ sz) (hsz1 : sz ≤ 9223372036854775807) (h : fr < 0 ∨ sz < 1 ∨ (r.b.length : Int) < 2 * sz ∨ (r.b.length : Int) - 2 * sz < fr) :
    Calls Try.prog 41 #[pr, .int .i64 fr, .int .i64 sz] w fun e w' => e = .returned (.tuple #[.pointer none, .bool false]) ∧ w = w' := by
  obtain ⟨hok, gr, vb, va, vv, rfl, S1⟩ := S.rdOpen
  have hbig := hok.big
  obtain ⟨ab, cb, eb, hb1, hb2, hb3, hb4⟩ := S1.sl 1 rfl
  subst eb
  have c0 := S1.cell 0 rfl 0 rfl
  obtain ⟨N, hNN⟩ : ∃ N, r.b.length = N := ⟨_, rfl⟩
  rw [hNN] at hbig h c0
  clear hb1 hb2 hb3 hb4 hok
  by_cases q0 : fr < 0
  · go_enter Try.func41, Try.ntmps41
    go_wp2
    go_ret2
    exact ⟨rfl, rfl⟩
  have g0 : decide (fr < 0) = false := decide_eq_false q0
  by_cases q1 : sz < 1
  · have g1 : decide (sz < 1) = true := decide_eq_true q1
    go_enter Try.func41, Try.ntmps41
    go_wp2
    go_ret2
    exact ⟨rfl, rfl⟩
  have g1 : decide (sz < 1) = false := decide_eq_false q1
  by_cases q2 : (N : Int) < fr
  · have g2 : decide ((N : Int) < fr) = true := decide_eq_true q2
    go_enter Try.func41, Try.ntmps41
    go_wp2
    go_ret2
    exact ⟨rfl, rfl⟩
  have g2 : decide ((N : Int) < fr) = false := decide_eq_false q2
  obtain ⟨F, rfl⟩ := Int.eq_ofNat_of_zero_le (show 0 ≤ fr by omega)
  obtain ⟨M, hM⟩ : ∃ M : Nat, (N : Int) - (F : Int) = (M : Int) := ⟨N - F, by omega⟩
  have t1 : IntKind.i64.wrap ((N : Int) - (F : Int)) = (M : Int) := by rw [IntKind.wrap_i64]; omega
  have td : (M : Int).tdiv 2 = ((M / 2 : Nat) : Int) := by simp [Int.tdiv]
  have g3 : decide (((M / 2 : Nat) : Int) < sz) = true := decide_eq_true (by omega)
  go_enter Try.func41, Try.ntmps41
  go_wp2
  go_ret2
  exact ⟨rfl, rfl⟩
set_option maxRecDepth 10000 in
set_option maxHeartbeats 1600000 in
theorem rslOpen_yes (S : St w0 w (rdT pr r :: tl)) (fr sz : Nat) (h1 : 1 ≤ sz) (h2 : fr + 2 * sz ≤ r.b.length) :
    Calls Try.prog 41 #[pr, .int .i64 fr, .int .i64 sz] w fun e w' => ∃ g, e = .returned (.tuple #[.pointer (some ⟨g, 0, none⟩), .bool true]) ∧ St w0 w' (cellsT g 108 (rslotC pr fr sz) :: rdT pr r :: tl) := by
  obtain ⟨hok, gr, vb, va, vv, rfl, S1⟩ := S.rdOpen
  have hbig := hok.big
  obtain ⟨ab, cb, eb, hb1, hb2, hb3, hb4⟩ := S1.sl 1 rfl
  subst eb
  have c0 := S1.cell 0 rfl 0 rfl
  obtain ⟨N, hNN⟩ : ∃ N, r.b.length = N := ⟨_, rfl⟩
  rw [hNN] at hbig h2 c0
  clear hb1 hb2 hb3 hb4 hok hNN
  have g0 : decide ((fr : Int) < 0) = false := decide_eq_false (by omega)
  have g1 : decide ((sz : Int) < 1) = false := decide_eq_false (by omega)
  have g2 : decide ((N : Int) < (fr : Int)) = false := decide_eq_false (by omega)
  obtain ⟨M, hM⟩ : ∃ M : Nat, (N : Int) - (fr : Int) = (M : Int) := ⟨N - fr, by omega⟩
  have t1 : IntKind.i64.wrap ((N : Int) - (fr : Int)) = (M : Int) := by rw [IntKind.wrap_i64]; omega
  have td : (M : Int).tdiv 2 = ((M / 2 : Nat) : Int) := by simp [Int.tdiv]
  have g3 : decide (((M / 2 : Nat) : Int) < (sz : Int)) = false := decide_eq_false (by omega)
  have g3n : decide (M / 2 < sz) = false := decide_eq_false (by omega)
  have S2 := (S.newCells 108 #[.pointer (some ⟨gr, 0, none⟩), .int .i64 (fr : Int), .int .i64 (sz : Int)]).rot
  go_enter Try.func41, Try.ntmps41
  go_wp2
  go_ret2
  exact ⟨_, rfl, S2⟩
set_option maxRecDepth 10000 in
set_option maxHeartbeats 1600000 in
theorem rslLoad_any (S : St w0 w (cellsT g 108 (rslotC pr fr sz) :: rdT pr r :: tl)) (hf : fr + 2 * sz ≤ r.b.length) (hps : r.ps.length ≤ 10000000) (hbl : r.bytes.length = r.b.length) :
    Calls Try.prog 43 #[.pointer (some ⟨g, 0, none⟩)] w fun e w' => RPicPost w0 (cellsT g 108 (rslotC pr fr sz) :: rdT pr r :: tl) (loadO (pic (piece r.bytes (fr + 0 * sz) sz)) (pic (piece r.bytes (fr + 1 * sz) sz))) e w' := by
  have hP0 := rPicture_any S 0 (by omega) hf hps hbl
  obtain ⟨x, hx⟩ : ∃ x, pic (piece r.bytes (fr + 0 * sz) sz) = x := ⟨_, rfl⟩
  obtain ⟨y, hy⟩ : ∃ y, pic (piece r.bytes (fr + 1 * sz) sz) = y := ⟨_, rfl⟩
  rw [hx, hy, loadO_is]
  rw [hx] at hP0
  have P0 := hid hP0
  have HY := hid hy
  clear hx hy hP0
  obtain ⟨O, hO⟩ : ∃ O, (if picI x < picI y then y else x) = O := ⟨_, rfl⟩
  rw [hO]
  have HO := hid hO
  clear hO
  by_cases hlt : picI x < picI y
  · have g0 : decide (picI x < picI y) = true := decide_eq_true hlt
    have HO2 : Hid (y = O) := by rw [Hid, ← HO.out, if_pos hlt]
    clear hlt
    go_enter Try.func43, Try.ntmps43
    go_wp2_with fail
    refine P0.out.mono ?_
    rintro e w1 ⟨a1, c1, rfl, q1, q2, q3, S1⟩
    have S1t := S1.tail
    have hP1 := rPicture_any S1t 1 (by omega) hf hps hbl
    rw [HY.out] at hP1
    have P1 := hid hP1
    clear q1 q2 q3 S1 hP1
    go_wp2_with fail
    refine P1.out.mono ?_
    rintro e w2 ⟨a2, c2, rfl, q1, q2, q3, S2⟩
    have HH := hid (And.intro q1 (And.intro q2 q3))
    clear q1 q2 q3
    go_wp2
    go_ret2
    rw [← HO2.out]
    exact ⟨a2, c2, rfl, HH.out.1, HH.out.2.1, HH.out.2.2, S2⟩
  · have g0 : decide (picI x < picI y) = false := decide_eq_false hlt
    have HO2 : Hid (x = O) := by rw [Hid, ← HO.out, if_neg hlt]
    clear hlt
    go_enter Try.func43, Try.ntmps43
    go_wp2_with fail
    refine P0.out.mono ?_
    rintro e w1 ⟨a1, c1, rfl, q1, q2, q3, S1⟩
    have HH := hid (And.intro q1 (And.intro q2 q3))
    have S1t : St w0 w1 (cellsT g 108 (rslotC pr fr sz) :: rdT pr r :: roT a1 (picL x) :: tl) := (S1.front 2 rfl).front 2 rfl
    have hP1 := rPicture_any S1t 1 (by omega) hf hps hbl
    rw [HY.out] at hP1
    have P1 := hid hP1
    clear q1 q2 q3 S1 hP1
    go_wp2_with fail
    refine P1.out.mono ?_
    rintro e w2 ⟨a2, c2, rfl, q1, q2, q3, S2⟩
    clear q1 q2 q3
    go_wp2
    go_ret2
    rw [← HO2.out]
    exact ⟨a1, c1, rfl, HH.out.1, HH.out.2.1, HH.out.2.2, S2.tail.front 2 rfl⟩
end

end Go.Proofs.Ytmfbbonppmhabaa
