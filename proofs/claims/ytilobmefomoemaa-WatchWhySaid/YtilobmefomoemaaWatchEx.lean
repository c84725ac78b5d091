/- Watch: the example's state is right. -/
import Derived.Test.YtilobmefomoemaaWatch4
namespace Go.Proofs.Ytilobmefomoemaa
set_option linter.unusedVariables false
set_option linter.unusedSimpArgs false
open Go.RowKit
def xC : CF := ⟨1, 1, 0, 1, 2, 1, 1, 0, 2000⟩
def xN : ND := ⟨true, false, false, 1, 0⟩
def xJ : JB := ⟨0, 0, 1, 1, 1, 0, 0, 1, 0, 0, 0, 0⟩
def xS (na : Option Addr) (nc : Nat) (ja : Option Addr) (jc : Nat) : STA := ⟨na, 1, nc, [xN], ja, 1, jc, [xJ], 1, 1, 0, 0⟩
set_option maxRecDepth 10000 in
set_option maxHeartbeats 3200000 in
theorem xMay (w : World) : Calls Try.prog 29 #[.agg #[.int .i64 1, .int .i64 1, .int .i64 0, .int .i64 1, .int .i64 2, .int .i64 1, .int .i64 1, .int .i64 0, .int .i64 2000]] w fun e w' => e = .returned (.bool true) ∧ Below w.heap.size w w' := by
  have hb := ((St.start w).alloc (.cells #[.int .i64 1, .int .i64 1, .int .i64 0, .int .i64 1, .int .i64 2, .int .i64 1, .int .i64 1, .int .i64 0, .int .i64 2000] 38)).fin
  go_enter Try.func29, Try.ntmps29
  go_wp2_with fail
  refine (bkIn 1 1 6 _).mono ?_
  rintro e wx ⟨rfl, rfl⟩
  rw [show inR 1 1 6 = true from by decide]
  go_wp2_with fail
  refine (bkIn 1 1 3 _).mono ?_
  rintro e wx ⟨rfl, rfl⟩
  rw [show inR 1 1 3 = true from by decide]
  go_wp2_with fail
  refine (bkIn 0 0 4 _).mono ?_
  rintro e wx ⟨rfl, rfl⟩
  rw [show inR 0 0 4 = true from by decide]
  go_wp2_with fail
  refine (bkIn 1 1 6 _).mono ?_
  rintro e wx ⟨rfl, rfl⟩
  rw [show inR 1 1 6 = true from by decide]
  go_wp2_with fail
  refine (bkIn 2 2 30 _).mono ?_
  rintro e wx ⟨rfl, rfl⟩
  rw [show inR 2 2 30 = true from by decide]
  go_wp2_with fail
  refine (bkIn 1 1 20 _).mono ?_
  rintro e wx ⟨rfl, rfl⟩
  rw [show inR 1 1 20 = true from by decide]
  go_wp2_with fail
  refine (bkIn 1 1 60 _).mono ?_
  rintro e wx ⟨rfl, rfl⟩
  rw [show inR 1 1 60 = true from by decide]
  go_wp2_with fail
  refine (bkIn 0 0 5000 _).mono ?_
  rintro e wx ⟨rfl, rfl⟩
  rw [show inR 0 0 5000 = true from by decide]
  go_wp2_with fail
  refine (bkIn 2000 2000 40000 _).mono ?_
  rintro e wx ⟨rfl, rfl⟩
  rw [show inR 2000 2000 40000 = true from by decide]
  go_wp2
  go_ret
  exact ⟨rfl, hb⟩
set_option maxRecDepth 10000 in
set_option maxHeartbeats 3200000 in
theorem xAsked (w : World) : Calls Try.prog 55 #[.agg #[.int .i64 1, .int .i64 1, .int .i64 0, .int .i64 1, .int .i64 2, .int .i64 1, .int .i64 1, .int .i64 0, .int .i64 2000], .agg #[.int .i64 0, .int .i64 0, .int .i64 1, .int .i64 1, .int .i64 1, .int .i64 0, .int .i64 0, .int .i64 1, .int .i64 0, .int .i64 0, .int .i64 0, .int .i64 0]] w fun e w' => e = .returned (.bool true) ∧ Below w.heap.size w w' := by
  have hb := (((St.start w).alloc (.cells #[.int .i64 1, .int .i64 1, .int .i64 0, .int .i64 1, .int .i64 2, .int .i64 1, .int .i64 1, .int .i64 0, .int .i64 2000] 38)).alloc (.cells #[.int .i64 0, .int .i64 0, .int .i64 1, .int .i64 1, .int .i64 1, .int .i64 0, .int .i64 0, .int .i64 1, .int .i64 0, .int .i64 0, .int .i64 0, .int .i64 0] 52)).fin
  go_enter Try.func55, Try.ntmps55
  go_wp2_with fail
  refine (bkIn 0 0 0 _).mono ?_
  rintro e wx ⟨rfl, rfl⟩
  rw [show inR 0 0 0 = true from by decide]
  go_wp2_with fail
  refine (bkIn 0 0 9 _).mono ?_
  rintro e wx ⟨rfl, rfl⟩
  rw [show inR 0 0 9 = true from by decide]
  go_wp2_with fail
  refine (bkIn 1 1 1 _).mono ?_
  rintro e wx ⟨rfl, rfl⟩
  rw [show inR 1 1 1 = true from by decide]
  go_wp2_with fail
  refine (bkIn 1 1 1 _).mono ?_
  rintro e wx ⟨rfl, rfl⟩
  rw [show inR 1 1 1 = true from by decide]
  go_wp2_with fail
  refine (bkIn 1 1 1000 _).mono ?_
  rintro e wx ⟨rfl, rfl⟩
  rw [show inR 1 1 1000 = true from by decide]
  go_wp2_with fail
  refine (bkIn 0 0 9 _).mono ?_
  rintro e wx ⟨rfl, rfl⟩
  rw [show inR 0 0 9 = true from by decide]
  go_wp2
  go_ret
  exact ⟨rfl, hb⟩
set_option maxRecDepth 10000 in
set_option maxHeartbeats 3200000 in
theorem xStands (na : Option Addr) (nc : Nat) (ja : Option Addr) (jc : Nat) (w : World) : Calls Try.prog 31 #[.agg #[.int .i64 1, .int .i64 1, .int .i64 0, .int .i64 1, .int .i64 2, .int .i64 1, .int .i64 1, .int .i64 0, .int .i64 2000], .agg #[.slice na 1 nc, .slice ja 1 jc, .int .i64 1, .int .i64 1, .int .i64 0, .int .i64 0], .agg #[.int .i64 0, .int .i64 0, .int .i64 1, .int .i64 1, .int .i64 1, .int .i64 0, .int .i64 0, .int .i64 1, .int .i64 0, .int .i64 0, .int .i64 0, .int .i64 0], .int .i64 1] w fun e w' => e = .returned (.bool true) ∧ Below w.heap.size w w' := by
  have S1 : St w _ [cellsT w.heap.size 38 (#[.int .i64 1, .int .i64 1, .int .i64 0, .int .i64 1, .int .i64 2, .int .i64 1, .int .i64 1, .int .i64 0, .int .i64 2000] : Array Value).toList, cellsT (w.heap.size + 1 + 1) 52 (#[.int .i64 0, .int .i64 0, .int .i64 1, .int .i64 1, .int .i64 1, .int .i64 0, .int .i64 0, .int .i64 1, .int .i64 0, .int .i64 0, .int .i64 0, .int .i64 0] : Array Value).toList] := ((((St.start w).newAt 38 #[.int .i64 1, .int .i64 1, .int .i64 0, .int .i64 1, .int .i64 2, .int .i64 1, .int .i64 1, .int .i64 0, .int .i64 2000] w.heap.size rfl).alloc (.cells #[.slice na 1 nc, .slice ja 1 jc, .int .i64 1, .int .i64 1, .int .i64 0, .int .i64 0] 25)).newAt 52 #[.int .i64 0, .int .i64 0, .int .i64 1, .int .i64 1, .int .i64 1, .int .i64 0, .int .i64 0, .int .i64 1, .int .i64 0, .int .i64 0, .int .i64 0, .int .i64 0] (w.heap.size + 1 + 1) (by simp only [alloc_size])).alloc (.cells #[.int .i64 1] 3)
  go_enter Try.func31, Try.ntmps31
  go_wp2_with fail
  generalize w.heap.size + 1 + 1 = g6 at *
  generalize w.heap.size = g4 at *
  generalize (((w.alloc _).alloc _).alloc _).alloc _ = w1 at *
  refine (xAsked _).mono ?_
  rintro e w2 ⟨rfl, hb2⟩
  have S2 := S1.grow hb2
  clear S1 hb2
  have j6 := S2.cell 1 rfl 6 rfl
  have j7 := S2.cell 1 rfl 7 rfl
  have j8 := S2.cell 1 rfl 8 rfl
  have j9 := S2.cell 1 rfl 9 rfl
  have j10 := S2.cell 1 rfl 10 rfl
  have j11 := S2.cell 1 rfl 11 rfl
  go_wp2_with fail
  refine (bkIn 0 0 4 _).mono ?_
  rintro e wx ⟨rfl, rfl⟩
  rw [show inR 0 0 4 = true from by decide]
  go_wp2_with fail
  refine (bkIn 1 0 1000000 _).mono ?_
  rintro e wx ⟨rfl, rfl⟩
  rw [show inR 1 0 1000000 = true from by decide]
  go_wp2_with fail
  refine (bkIn 0 0 1000000 _).mono ?_
  rintro e wx ⟨rfl, rfl⟩
  rw [show inR 0 0 1000000 = true from by decide]
  go_wp2_with fail
  refine (bkIn 0 0 1000000 _).mono ?_
  rintro e wx ⟨rfl, rfl⟩
  rw [show inR 0 0 1000000 = true from by decide]
  go_wp2_with fail
  refine (bkIn 0 0 1 _).mono ?_
  rintro e wx ⟨rfl, rfl⟩
  rw [show inR 0 0 1 = true from by decide]
  go_wp2_with fail
  refine (bkPlaced 0 _ (by decide) (by decide)).mono ?_
  rintro e wx ⟨rfl, rfl⟩
  rw [show placedB 0 = false from rfl]
  go_wp2
  go_ret
  exact ⟨rfl, S2.fin⟩
set_option maxRecDepth 10000 in
set_option maxHeartbeats 3200000 in
theorem xSound (na : Option Addr) (nc : Nat) (ja : Option Addr) (jc : Nat) (w : World) : Calls Try.prog 32 #[.agg #[.slice na 1 nc, .slice ja 1 jc, .int .i64 1, .int .i64 1, .int .i64 0, .int .i64 0], .agg #[.bool true, .bool false, .bool false, .int .i64 1, .int .i64 0], .int .i64 0] w fun e w' => e = .returned (.bool true) ∧ Below w.heap.size w w' := by
  have hb := (((St.start w).alloc (.cells #[.slice na 1 nc, .slice ja 1 jc, .int .i64 1, .int .i64 1, .int .i64 0, .int .i64 0] 25)).alloc (.cells #[.bool true, .bool false, .bool false, .int .i64 1, .int .i64 0] 73)).fin
  go_enter Try.func32, Try.ntmps32
  go_wp2_with fail
  refine (bkIn 1 1 9 _).mono ?_
  rintro e wx ⟨rfl, rfl⟩
  rw [show inR 1 1 9 = true from by decide]
  go_wp2_with fail
  refine (bkIn 0 0 1 _).mono ?_
  rintro e wx ⟨rfl, rfl⟩
  rw [show inR 0 0 1 = true from by decide]
  go_wp2
  go_ret
  exact ⟨rfl, hb⟩
set_option maxRecDepth 10000 in
set_option maxHeartbeats 3200000 in
theorem xDrains (na : Option Addr) (nc : Nat) (ja : Option Addr) (jc : Nat) (w : World) (hJ : AtG eJB w ja [xJ]) : Calls Try.prog 33 #[.agg #[.slice na 1 nc, .slice ja 1 jc, .int .i64 1, .int .i64 1, .int .i64 0, .int .i64 0], .int .i64 0] w fun e w' => e = .returned (.int .i64 0) ∧ Below w.heap.size w w' := by
  have S1 := (St.start w).alloc (.cells #[.slice na 1 nc, .slice ja 1 jc, .int .i64 1, .int .i64 1, .int .i64 0, .int .i64 0] 25)
  have HJ := hid hJ
  clear hJ
  go_enter Try.func33, Try.ntmps33
  go_wp2_with fail
  generalize w.alloc _ = w1 at *
  go_loopw [5, 11] (fun v i wr => ∃ k : Nat, k ≤ 1 ∧ v = .int .i64 0 ∧ i = .int .i64 k ∧ St w wr []) (fun _ i _ => 1 - (intOf i).toNat)
  case atStart => exact ⟨0, by decide, rfl, rfl, S1⟩
  case round =>
    obtain ⟨k, hk, rfl, rfl, Sk⟩ := hrel
    clear S1
    rcases (show k = 0 ∨ k = 1 by omega) with rfl | rfl
    · have hAk : AtG eJB wr ja [xJ] := HJ.out.all eJBok Sk.fin
      have i0 := fun wx => idxJB ja 1 jc (fun h => hAk.ok (by decide)) 0 0 rfl (by decide) wx
      obtain ⟨x0, x1, x2, x3, x4, x5, x6, x7, x8, x9, x10, x11⟩ := hAk.jbAt (k := 0) (by decide)
      simp only [List.getElem_cons_zero, xJ] at x0 x1 x2 x3 x4 x5 x6 x7 x8 x9 x10 x11
      go_wp2
      go_roundw
      case rel => exact ⟨1, by decide, rfl, rfl, Sk.alloc _⟩
      case measure => simp [intOf]
    · go_wp2
      go_ret
      exact ⟨rfl, Sk.fin⟩
theorem St.xsC {w0 w : World} {l : List Thing} (S : St w0 w l) (k : Nat) {g : Nat} {na ja : Option Addr} {nc jc : Nat} (h : l[k]? = some (cellsT g 25 (#[.slice na 1 nc, .slice ja 1 jc, .int .i64 1, .int .i64 1, .int .i64 0, .int .i64 0] : Array Value).toList)) :
    w.cell? ⟨g, 0, none⟩ = some (.slice na 1 nc) ∧ w.cell? ⟨g, 1, none⟩ = some (.slice ja 1 jc) ∧ w.cell? ⟨g, 2, none⟩ = some (.int .i64 1) ∧ w.cell? ⟨g, 3, none⟩ = some (.int .i64 1) ∧ w.cell? ⟨g, 4, none⟩ = some (.int .i64 0) ∧ w.cell? ⟨g, 5, none⟩ = some (.int .i64 0) :=
  ⟨S.cell k h 0 rfl, S.cell k h 1 rfl, S.cell k h 2 rfl, S.cell k h 3 rfl, S.cell k h 4 rfl, S.cell k h 5 rfl⟩
theorem St.xcC {w0 w : World} {l : List Thing} (S : St w0 w l) (k : Nat) {g : Nat} (h : l[k]? = some (cellsT g 38 (#[.int .i64 1, .int .i64 1, .int .i64 0, .int .i64 1, .int .i64 2, .int .i64 1, .int .i64 1, .int .i64 0, .int .i64 2000] : Array Value).toList)) :
    w.cell? ⟨g, 0, none⟩ = some (.int .i64 1) ∧ w.cell? ⟨g, 1, none⟩ = some (.int .i64 1) ∧ w.cell? ⟨g, 2, none⟩ = some (.int .i64 0) ∧ w.cell? ⟨g, 3, none⟩ = some (.int .i64 1) ∧ w.cell? ⟨g, 4, none⟩ = some (.int .i64 2) ∧ w.cell? ⟨g, 5, none⟩ = some (.int .i64 1) ∧ w.cell? ⟨g, 6, none⟩ = some (.int .i64 1) ∧ w.cell? ⟨g, 7, none⟩ = some (.int .i64 0) ∧ w.cell? ⟨g, 8, none⟩ = some (.int .i64 2000) :=
  ⟨S.cell k h 0 rfl, S.cell k h 1 rfl, S.cell k h 2 rfl, S.cell k h 3 rfl, S.cell k h 4 rfl, S.cell k h 5 rfl, S.cell k h 6 rfl, S.cell k h 7 rfl, S.cell k h 8 rfl⟩
set_option maxRecDepth 10000 in
set_option maxHeartbeats 6400000 in
theorem xRight (na : Option Addr) (nc : Nat) (ja : Option Addr) (jc : Nat) (w : World) (hN : AtG eND w na [xN]) (hJ : AtG eJB w ja [xJ]) : Calls Try.prog 15 #[.agg #[.int .i64 1, .int .i64 1, .int .i64 0, .int .i64 1, .int .i64 2, .int .i64 1, .int .i64 1, .int .i64 0, .int .i64 2000], .agg #[.slice na 1 nc, .slice ja 1 jc, .int .i64 1, .int .i64 1, .int .i64 0, .int .i64 0]] w fun e w' => e = .returned (.bool true) ∧ Below w.heap.size w w' := by
  have S1 : St w _ [cellsT w.heap.size 38 (#[.int .i64 1, .int .i64 1, .int .i64 0, .int .i64 1, .int .i64 2, .int .i64 1, .int .i64 1, .int .i64 0, .int .i64 2000] : Array Value).toList, cellsT (w.heap.size + 1) 25 (#[.slice na 1 nc, .slice ja 1 jc, .int .i64 1, .int .i64 1, .int .i64 0, .int .i64 0] : Array Value).toList] := ((St.start w).newAt 38 #[.int .i64 1, .int .i64 1, .int .i64 0, .int .i64 1, .int .i64 2, .int .i64 1, .int .i64 1, .int .i64 0, .int .i64 2000] w.heap.size rfl).newAt 25 #[.slice na 1 nc, .slice ja 1 jc, .int .i64 1, .int .i64 1, .int .i64 0, .int .i64 0] (w.heap.size + 1) (alloc_size _ _)
  have HN := hid hN
  have HJ := hid hJ
  clear hN hJ
  go_enter Try.func15, Try.ntmps15
  go_wp2_with fail
  generalize w.heap.size + 1 = g3 at *
  generalize w.heap.size = g2 at *
  generalize (w.alloc _).alloc _ = w1 at *
  refine (xMay _).mono ?_
  rintro e w2 ⟨rfl, hb2⟩
  have S2 := S1.grow hb2
  clear S1 hb2
  obtain ⟨c0, c1, c2, c3, c4, c5, c6, c7, c8⟩ := S2.xcC 0 rfl
  obtain ⟨s0, s1, s2, s3, s4, s5⟩ := S2.xsC 1 rfl
  go_wp2_with fail
  refine (bkIn 1 1 9 _).mono ?_
  rintro e wx ⟨rfl, rfl⟩
  rw [show inR 1 1 9 = true from by decide]
  go_wp2_with fail
  refine (bkIn 1 1 9 _).mono ?_
  rintro e wx ⟨rfl, rfl⟩
  rw [show inR 1 1 9 = true from by decide]
  go_wp2_with fail
  refine (bkIn 0 0 2 _).mono ?_
  rintro e wx ⟨rfl, rfl⟩
  rw [show inR 0 0 2 = true from by decide]
  go_wp2_with fail
  refine (bkIn 0 0 1000000 _).mono ?_
  rintro e wx ⟨rfl, rfl⟩
  rw [show inR 0 0 1000000 = true from by decide]
  go_wp2_with fail
  go_loopw [54] (fun i wr => ∃ k : Nat, k ≤ 1 ∧ i = .int .i64 k ∧ St w wr [cellsT g2 38 (#[.int .i64 1, .int .i64 1, .int .i64 0, .int .i64 1, .int .i64 2, .int .i64 1, .int .i64 1, .int .i64 0, .int .i64 2000] : Array Value).toList, cellsT g3 25 (#[.slice na 1 nc, .slice ja 1 jc, .int .i64 1, .int .i64 1, .int .i64 0, .int .i64 0] : Array Value).toList]) (fun i _ => 1 - (intOf i).toNat)
  case atStart => exact ⟨0, by decide, rfl, S2⟩
  case round =>
    obtain ⟨k, hk, rfl, Sk⟩ := hrel
    clear S2 c0 c1 c2 c3 c4 c5 c6 c7 c8 s0 s1 s2 s3 s4 s5
    rcases (show k = 0 ∨ k = 1 by omega) with rfl | rfl
    · have hAk : AtG eJB wr ja [xJ] := HJ.out.all eJBok Sk.fin
      have i0 := fun wx => idxJB ja 1 jc (fun h => hAk.ok (by decide)) 0 0 rfl (by decide) wx
      obtain ⟨x0, x1, x2, x3, x4, x5, x6, x7, x8, x9, x10, x11⟩ := hAk.jbAt (k := 0) (by decide)
      simp only [List.getElem_cons_zero, xJ] at x0 x1 x2 x3 x4 x5 x6 x7 x8 x9 x10 x11
      have S3 := Sk.alloc (.cells #[.int .i64 0, .int .i64 0, .int .i64 1, .int .i64 1, .int .i64 1, .int .i64 0, .int .i64 0, .int .i64 1, .int .i64 0, .int .i64 0, .int .i64 0, .int .i64 0] 52)
      obtain ⟨c0, c1, c2, c3, c4, c5, c6, c7, c8⟩ := S3.xcC 0 rfl
      obtain ⟨s0, s1, s2, s3, s4, s5⟩ := S3.xsC 1 rfl
      clear hAk
      go_wp2_with fail
      generalize wr.alloc _ = w3 at *
      refine (xStands na nc ja jc _).mono ?_
      rintro e w4 ⟨rfl, hb4⟩
      have S4 := S3.grow hb4
      clear S3 Sk hb4 x0 x1 x2 x3 x4 x5 x6 x7 x8 x9 x10 x11 i0 c0 c1 c2 c3 c4 c5 c6 c7 c8 s0 s1 s2 s3 s4 s5
      go_wp2
      go_roundw
      case rel => exact ⟨1, by decide, rfl, S4⟩
      case measure => simp [intOf]
    · obtain ⟨c0, c1, c2, c3, c4, c5, c6, c7, c8⟩ := Sk.xcC 0 rfl
      obtain ⟨s0, s1, s2, s3, s4, s5⟩ := Sk.xsC 1 rfl
      go_wp2_with fail
      go_loopw [70] (fun i wr => ∃ k : Nat, k ≤ 1 ∧ i = .int .i64 k ∧ St w wr [cellsT g2 38 (#[.int .i64 1, .int .i64 1, .int .i64 0, .int .i64 1, .int .i64 2, .int .i64 1, .int .i64 1, .int .i64 0, .int .i64 2000] : Array Value).toList, cellsT g3 25 (#[.slice na 1 nc, .slice ja 1 jc, .int .i64 1, .int .i64 1, .int .i64 0, .int .i64 0] : Array Value).toList]) (fun i _ => 1 - (intOf i).toNat)
      case atStart => exact ⟨0, by decide, rfl, Sk⟩
      case round =>
        obtain ⟨k, hk, rfl, Sm⟩ := hrel
        clear Sk c0 c1 c2 c3 c4 c5 c6 c7 c8 s0 s1 s2 s3 s4 s5
        rcases (show k = 0 ∨ k = 1 by omega) with rfl | rfl
        · have hAk : AtG eND wr na [xN] := HN.out.all eNDok Sm.fin
          have i0 := fun wx => idxNDI na 1 nc (fun h => hAk.ok (by decide)) 0 0 rfl (by decide) wx
          obtain ⟨x0, x1, x2, x3, x4⟩ := hAk.ndAt (k := 0) (by decide)
          simp only [List.getElem_cons_zero, xN] at x0 x1 x2 x3 x4
          have S3 := Sm.alloc (.cells #[.bool true, .bool false, .bool false, .int .i64 1, .int .i64 0] 73)
          obtain ⟨s0, s1, s2, s3, s4, s5⟩ := S3.xsC 1 rfl
          clear hAk
          go_wp2_with fail
          generalize wr.alloc _ = w3 at *
          refine (xSound na nc ja jc _).mono ?_
          rintro e w4 ⟨rfl, hb4⟩
          have S4 := S3.grow hb4
          clear S3 Sm hb4 x0 x1 x2 x3 x4 i0 s0 s1 s2 s3 s4 s5
          go_wp2
          go_roundw
          case rel => exact ⟨1, by decide, rfl, S4⟩
          case measure => simp [intOf]
        · obtain ⟨c0, c1, c2, c3, c4, c5, c6, c7, c8⟩ := Sm.xcC 0 rfl
          obtain ⟨s0, s1, s2, s3, s4, s5⟩ := Sm.xsC 1 rfl
          go_wp2_with fail
          go_loopw [83] (fun i wr => ∃ k : Nat, k ≤ 1 ∧ i = .int .i64 k ∧ St w wr [cellsT g2 38 (#[.int .i64 1, .int .i64 1, .int .i64 0, .int .i64 1, .int .i64 2, .int .i64 1, .int .i64 1, .int .i64 0, .int .i64 2000] : Array Value).toList, cellsT g3 25 (#[.slice na 1 nc, .slice ja 1 jc, .int .i64 1, .int .i64 1, .int .i64 0, .int .i64 0] : Array Value).toList]) (fun i _ => 1 - (intOf i).toNat)
          case atStart => exact ⟨0, by decide, rfl, Sm⟩
          case round =>
            obtain ⟨k, hk, rfl, Sq⟩ := hrel
            clear Sm c0 c1 c2 c3 c4 c5 c6 c7 c8 s0 s1 s2 s3 s4 s5
            rcases (show k = 0 ∨ k = 1 by omega) with rfl | rfl
            · obtain ⟨c0, c1, c2, c3, c4, c5, c6, c7, c8⟩ := Sq.xcC 0 rfl
              obtain ⟨s0, s1, s2, s3, s4, s5⟩ := Sq.xsC 1 rfl
              clear c0 c1 c2 c3 c4 c5 c6 c7 c8 s0 s1 s2 s3 s4 s5
              have keep : ∀ {w' : World}, St w w' [cellsT g2 38 (#[.int .i64 1, .int .i64 1, .int .i64 0, .int .i64 1, .int .i64 2, .int .i64 1, .int .i64 1, .int .i64 0, .int .i64 2000] : Array Value).toList, cellsT g3 25 (#[.slice na 1 nc, .slice ja 1 jc, .int .i64 1, .int .i64 1, .int .i64 0, .int .i64 0] : Array Value).toList] → (w'.cell? ⟨g2, 2, none⟩ = some (.int .i64 0) ∧ w'.cell? ⟨g3, 0, none⟩ = some (.slice na 1 nc) ∧ w'.cell? ⟨g3, 1, none⟩ = some (.slice ja 1 jc) ∧ w'.cell? ⟨g3, 2, none⟩ = some (.int .i64 1) ∧ w'.cell? ⟨g3, 3, none⟩ = some (.int .i64 1) ∧ w'.cell? ⟨g3, 4, none⟩ = some (.int .i64 0) ∧ w'.cell? ⟨g3, 5, none⟩ = some (.int .i64 0)) := fun S => ⟨S.cell 0 rfl 2 rfl, S.xsC 1 rfl⟩
              obtain ⟨c0, c1, c2, c3, c4, c5, c6, c7, c8⟩ := Sq.xcC 0 rfl
              go_wp2_with fail
              clear c0 c1 c2 c3 c4 c5 c6 c7 c8
              refine wp_region_held_drew (S := (fun w' => (w'.cell? ⟨g2, 2, none⟩ = some (.int .i64 0) ∧ w'.cell? ⟨g3, 0, none⟩ = some (.slice na 1 nc) ∧ w'.cell? ⟨g3, 1, none⟩ = some (.slice ja 1 jc) ∧ w'.cell? ⟨g3, 2, none⟩ = some (.int .i64 1) ∧ w'.cell? ⟨g3, 3, none⟩ = some (.int .i64 1) ∧ w'.cell? ⟨g3, 4, none⟩ = some (.int .i64 0) ∧ w'.cell? ⟨g3, 5, none⟩ = some (.int .i64 0)))) (by kernel_rfl) (by exact keep Sq.drew) (fun hHeld => ?_)
              change wpAnyH _ _ _ _ _ 6 (Array.replicate 6 false) _ _
              refine wpAnyH_take (i := 0) (v := ?v1) (ops_at rfl) (by kernel_rfl) (by kernel_rfl) (by kernel_rfl) (fun _ _ _ h => h) (Or.inl ⟨by rfl, ?hy1⟩) (by assumption) ?rest1
              case hy1 => intro w' hSw; (try dsimp only at hSw); go_simp; try with_reducible rfl
              try simp only [Act.put, List.setIfInBounds_toArray, List.set_cons_zero, List.set_cons_succ]
              refine wpAnyH_take (i := 1) (v := ?v2) (ops_at rfl) (by kernel_rfl) (by kernel_rfl) (by kernel_rfl) (fun _ _ _ h => h) (Or.inl ⟨by rfl, ?hy2⟩) (by assumption) ?rest2
              case hy2 => intro w' hSw; (try dsimp only at hSw); go_simp; try with_reducible rfl
              try simp only [Act.put, List.setIfInBounds_toArray, List.set_cons_zero, List.set_cons_succ]
              refine wpAnyH_take (i := 3) (v := ?v3) (ops_at rfl) (by kernel_rfl) (by kernel_rfl) (by kernel_rfl) (fun _ _ _ h => h) (Or.inl ⟨by rfl, ?hy3⟩) (by assumption) ?rest3
              case hy3 => intro w' hSw; (try dsimp only at hSw); go_simp; try with_reducible rfl
              try simp only [Act.put, List.setIfInBounds_toArray, List.set_cons_zero, List.set_cons_succ]
              refine wpAnyH_take (i := 4) (v := ?v4) (ops_at rfl) (by kernel_rfl) (by kernel_rfl) (by kernel_rfl) (fun _ _ _ h => h) (Or.inl ⟨by rfl, ?hy4⟩) (by assumption) ?rest4
              case hy4 => intro w' hSw; (try dsimp only at hSw); go_simp; try with_reducible rfl
              try simp only [Act.put, List.setIfInBounds_toArray, List.set_cons_zero, List.set_cons_succ]
              refine wpAnyH_ready (rs := [2]) (by kernel_rfl) (by simp) ?_
              refine AllReadyH.cons (ops_at rfl) (fun K hK => ?_) AllReadyH.nil
              go_simp
              refine (xDrains na nc ja jc _ (HJ.out.all eJBok Sq.drew.fin)).mono ?_
              rintro e w4 ⟨rfl, hb4⟩
              have S4 := Sq.drew.grow hb4
              refine hK.out _ _ (by exact keep S4) (fun hHeld => ?_)
              clear hK K
              try simp only [Act.put, List.setIfInBounds_toArray, List.set_cons_zero, List.set_cons_succ]
              refine wpAnyH_take (i := 5) (v := ?v6) (ops_at rfl) (by kernel_rfl) (by kernel_rfl) (by kernel_rfl) (fun _ _ _ h => h) (Or.inl ⟨by rfl, ?hy6⟩) (by assumption) ?rest6
              case hy6 => intro w' hSw; (try dsimp only at hSw); go_simp; try with_reducible rfl
              try simp only [Act.put, List.setIfInBounds_toArray, List.set_cons_zero, List.set_cons_succ]
              refine wpAnyH_done (by kernel_rfl) ?_ _
              clear Sq hb4
              go_wp2
              go_roundw
              case rel => exact ⟨1, by decide, rfl, S4⟩
              case measure => simp [intOf]
            · go_wp2
              go_ret
              exact ⟨rfl, Sq.fin⟩
end Go.Proofs.Ytilobmefomoemaa
