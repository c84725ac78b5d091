/- Watch: the example, walked. -/
import Derived.Test.YtilobmefomoemaaWatch12
namespace Go.Proofs.Ytilobmefomoemaa
set_option linter.unusedVariables false
set_option linter.unusedSimpArgs false
open Go.RowKit
theorem St.xaC {w0 w' : World} {l : List Thing} (S : St w0 w' l) (k : Nat) {B : Nat} {T : TypeId} (h : l[k]? = some (cellsT B T xA.cs)) : (w'.cell? ⟨B, 0, none⟩ = some (.bool true) ∧ w'.cell? ⟨B, 1, none⟩ = some (.int .i64 0) ∧ w'.cell? ⟨B, 2, none⟩ = some (.int .i64 0) ∧ w'.cell? ⟨B, 3, none⟩ = some (.int .i64 1) ∧ w'.cell? ⟨B, 4, none⟩ = some (.int .i64 1) ∧ w'.cell? ⟨B, 5, none⟩ = some (.int .i64 1) ∧ w'.cell? ⟨B, 6, none⟩ = some (.int .i64 1) ∧ w'.cell? ⟨B, 7, none⟩ = some (.int .i64 0) ∧ w'.cell? ⟨B, 8, none⟩ = some (.int .i64 0) ∧ w'.cell? ⟨B, 9, none⟩ = some (.int .i64 0)) :=
  ⟨S.cell k h 0 rfl, S.cell k h 1 rfl, S.cell k h 2 rfl, S.cell k h 3 rfl, S.cell k h 4 rfl, S.cell k h 5 rfl, S.cell k h 6 rfl, S.cell k h 7 rfl, S.cell k h 8 rfl, S.cell k h 9 rfl⟩
theorem atFirst {w : World} {a : Option Addr} {x y : AG} (h : AtG eAG w a [x, y]) : AtG eAG w a [x] := by
  intro i hi
  obtain rfl : i = 0 := by simp at hi; omega
  exact h 0 (by simp)
theorem xkeep {w0 w' : World} {l : List Thing} {g1 g2 gj g3 gl nc : Nat} {na : Option Addr} (S : St w0 w' (cellsT g1 38 (#[.int .i64 1, .int .i64 1, .int .i64 0, .int .i64 1, .int .i64 2, .int .i64 1, .int .i64 1, .int .i64 0, .int .i64 2000] : Array Value).toList :: ownT eND (.slice na 1 nc) [xN] :: cellsT g2 25 (#[.slice na 1 nc, .slice (some ⟨gj, 0, none⟩) 1 1, .int .i64 1, .int .i64 1, .int .i64 0, .int .i64 0] : Array Value).toList :: cellsT gj 52 xJ.cs :: cellsT g3 31 xA.cs :: cellsT gl 31 (xA.cs ++ xA.cs) :: l)) : ((w'.cell? ⟨g1, 0, none⟩ = some (.int .i64 1) ∧ w'.cell? ⟨g1, 1, none⟩ = some (.int .i64 1) ∧ w'.cell? ⟨g1, 2, none⟩ = some (.int .i64 0) ∧ w'.cell? ⟨g1, 3, none⟩ = some (.int .i64 1) ∧ w'.cell? ⟨g1, 4, none⟩ = some (.int .i64 2) ∧ w'.cell? ⟨g1, 5, none⟩ = some (.int .i64 1) ∧ w'.cell? ⟨g1, 6, none⟩ = some (.int .i64 1) ∧ w'.cell? ⟨g1, 7, none⟩ = some (.int .i64 0) ∧ w'.cell? ⟨g1, 8, none⟩ = some (.int .i64 2000)) ∧ (w'.cell? ⟨g2, 0, none⟩ = some (.slice na 1 nc) ∧ w'.cell? ⟨g2, 1, none⟩ = some (.slice (some ⟨gj, 0, none⟩) 1 1) ∧ w'.cell? ⟨g2, 2, none⟩ = some (.int .i64 1) ∧ w'.cell? ⟨g2, 3, none⟩ = some (.int .i64 1) ∧ w'.cell? ⟨g2, 4, none⟩ = some (.int .i64 0) ∧ w'.cell? ⟨g2, 5, none⟩ = some (.int .i64 0)) ∧ (w'.cell? ⟨g3, 0, none⟩ = some (.bool true) ∧ w'.cell? ⟨g3, 1, none⟩ = some (.int .i64 0) ∧ w'.cell? ⟨g3, 2, none⟩ = some (.int .i64 0) ∧ w'.cell? ⟨g3, 3, none⟩ = some (.int .i64 1) ∧ w'.cell? ⟨g3, 4, none⟩ = some (.int .i64 1) ∧ w'.cell? ⟨g3, 5, none⟩ = some (.int .i64 1) ∧ w'.cell? ⟨g3, 6, none⟩ = some (.int .i64 1) ∧ w'.cell? ⟨g3, 7, none⟩ = some (.int .i64 0) ∧ w'.cell? ⟨g3, 8, none⟩ = some (.int .i64 0) ∧ w'.cell? ⟨g3, 9, none⟩ = some (.int .i64 0))) := ⟨S.xcC 0 rfl, ⟨S.cell 2 rfl 0 rfl, S.cell 2 rfl 1 rfl, S.cell 2 rfl 2 rfl, S.cell 2 rfl 3 rfl, S.cell 2 rfl 4 rfl, S.cell 2 rfl 5 rfl⟩, S.xaC 4 rfl⟩
theorem xAtN {w0 w' : World} {l : List Thing} {g1 g2 gj g3 gl nc : Nat} {na : Option Addr} (S : St w0 w' (cellsT g1 38 (#[.int .i64 1, .int .i64 1, .int .i64 0, .int .i64 1, .int .i64 2, .int .i64 1, .int .i64 1, .int .i64 0, .int .i64 2000] : Array Value).toList :: ownT eND (.slice na 1 nc) [xN] :: cellsT g2 25 (#[.slice na 1 nc, .slice (some ⟨gj, 0, none⟩) 1 1, .int .i64 1, .int .i64 1, .int .i64 0, .int .i64 0] : Array Value).toList :: cellsT gj 52 xJ.cs :: cellsT g3 31 xA.cs :: cellsT gl 31 (xA.cs ++ xA.cs) :: l)) : AtG eND w' na [xN] := (S.slG eNDok 1 rfl).2.2.2.2
theorem xAtJ {w0 w' : World} {l : List Thing} {g1 g2 gj g3 gl nc : Nat} {na : Option Addr} (S : St w0 w' (cellsT g1 38 (#[.int .i64 1, .int .i64 1, .int .i64 0, .int .i64 1, .int .i64 2, .int .i64 1, .int .i64 1, .int .i64 0, .int .i64 2000] : Array Value).toList :: ownT eND (.slice na 1 nc) [xN] :: cellsT g2 25 (#[.slice na 1 nc, .slice (some ⟨gj, 0, none⟩) 1 1, .int .i64 1, .int .i64 1, .int .i64 0, .int .i64 0] : Array Value).toList :: cellsT gj 52 xJ.cs :: cellsT g3 31 xA.cs :: cellsT gl 31 (xA.cs ++ xA.cs) :: l)) : AtG eJB w' (some ⟨gj, 0, none⟩) [xJ] := S.atOneG eJBok 3 rfl
theorem xAtA {w0 w' : World} {l : List Thing} {g1 g2 gj g3 gl nc : Nat} {na : Option Addr} (S : St w0 w' (cellsT g1 38 (#[.int .i64 1, .int .i64 1, .int .i64 0, .int .i64 1, .int .i64 2, .int .i64 1, .int .i64 1, .int .i64 0, .int .i64 2000] : Array Value).toList :: ownT eND (.slice na 1 nc) [xN] :: cellsT g2 25 (#[.slice na 1 nc, .slice (some ⟨gj, 0, none⟩) 1 1, .int .i64 1, .int .i64 1, .int .i64 0, .int .i64 0] : Array Value).toList :: cellsT gj 52 xJ.cs :: cellsT g3 31 xA.cs :: cellsT gl 31 (xA.cs ++ xA.cs) :: l)) : AtG eAG w' (some ⟨gl, 0, none⟩) [xA, xA] := atTwo S 5 rfl
theorem xAtS {w0 w' : World} {l : List Thing} {g1 g2 gj g3 gl nc : Nat} {na : Option Addr} (S : St w0 w' (cellsT g1 38 (#[.int .i64 1, .int .i64 1, .int .i64 0, .int .i64 1, .int .i64 2, .int .i64 1, .int .i64 1, .int .i64 0, .int .i64 2000] : Array Value).toList :: ownT eND (.slice na 1 nc) [xN] :: cellsT g2 25 (#[.slice na 1 nc, .slice (some ⟨gj, 0, none⟩) 1 1, .int .i64 1, .int .i64 1, .int .i64 0, .int .i64 0] : Array Value).toList :: cellsT gj 52 xJ.cs :: cellsT g3 31 xA.cs :: cellsT gl 31 (xA.cs ++ xA.cs) :: l)) : (xS na nc (some ⟨gj, 0, none⟩) 1).At w' := ⟨xAtN S, xAtJ S, rfl, rfl, show 1 ≤ maxLen by decide, show 1 ≤ maxLen by decide⟩
set_option maxRecDepth 10000 in
set_option maxHeartbeats 12800000 in
theorem alive24_any (w : World) : Calls Try.prog 6 #[] w fun e w' => e = .returned (.bool true) ∧ Below w.heap.size w w' := by
  have S1 : St w _ [cellsT w.heap.size 38 (#[.int .i64 1, .int .i64 1, .int .i64 0, .int .i64 1, .int .i64 2, .int .i64 1, .int .i64 1, .int .i64 0, .int .i64 2000] : Array Value).toList] := (St.start w).newAt 38 #[.int .i64 1, .int .i64 1, .int .i64 0, .int .i64 1, .int .i64 2, .int .i64 1, .int .i64 1, .int .i64 0, .int .i64 2000] w.heap.size rfl
  go_enter Try.func6, Try.ntmps6
  go_wp2_with fail
  generalize w.heap.size = g1 at *
  generalize w.alloc _ = w1 at *
  refine (xNew _).mono ?_
  rintro e w2 ⟨na, nc, rfl, ho, hb⟩
  have S2 : St w w2 [cellsT g1 38 (#[.int .i64 1, .int .i64 1, .int .i64 0, .int .i64 1, .int .i64 2, .int .i64 1, .int .i64 1, .int .i64 0, .int .i64 2000] : Array Value).toList, ownT eND (.slice na 1 nc) [xN]] := S1.own ho hb
  clear ho hb S1
  have S3 : ∀ gj, gj = w2.heap.size + 1 → St w ((((w2.alloc (.cells #[.slice na 1 nc, .slice (some ⟨gj, 0, none⟩) 1 1, .int .i64 1, .int .i64 1, .int .i64 0, .int .i64 0] 25)).alloc (.cells #[.int .i64 0, .int .i64 0, .int .i64 1, .int .i64 1, .int .i64 1, .int .i64 0, .int .i64 0, .int .i64 1, .int .i64 0, .int .i64 0, .int .i64 0, .int .i64 0] 52)).alloc (.cells #[.bool true, .int .i64 0, .int .i64 0, .int .i64 1, .int .i64 1, .int .i64 1, .int .i64 1, .int .i64 0, .int .i64 0, .int .i64 0] 31)).alloc (.cells #[.bool true, .int .i64 0, .int .i64 0, .int .i64 1, .int .i64 1, .int .i64 1, .int .i64 1, .int .i64 0, .int .i64 0, .int .i64 0, .bool true, .int .i64 0, .int .i64 0, .int .i64 1, .int .i64 1, .int .i64 1, .int .i64 1, .int .i64 0, .int .i64 0, .int .i64 0] 31)) [cellsT g1 38 (#[.int .i64 1, .int .i64 1, .int .i64 0, .int .i64 1, .int .i64 2, .int .i64 1, .int .i64 1, .int .i64 0, .int .i64 2000] : Array Value).toList, ownT eND (.slice na 1 nc) [xN], cellsT w2.heap.size 25 (#[.slice na 1 nc, .slice (some ⟨gj, 0, none⟩) 1 1, .int .i64 1, .int .i64 1, .int .i64 0, .int .i64 0] : Array Value).toList, cellsT (w2.heap.size + 1) 52 xJ.cs, cellsT (w2.heap.size + 1 + 1) 31 xA.cs, cellsT (w2.heap.size + 1 + 1 + 1) 31 (xA.cs ++ xA.cs)] := fun gj hgj =>
    (((S2.newAt 25 #[.slice na 1 nc, .slice (some ⟨gj, 0, none⟩) 1 1, .int .i64 1, .int .i64 1, .int .i64 0, .int .i64 0] w2.heap.size rfl).newAt 52 #[.int .i64 0, .int .i64 0, .int .i64 1, .int .i64 1, .int .i64 1, .int .i64 0, .int .i64 0, .int .i64 1, .int .i64 0, .int .i64 0, .int .i64 0, .int .i64 0] (w2.heap.size + 1) (alloc_size _ _)).newAt 31 #[.bool true, .int .i64 0, .int .i64 0, .int .i64 1, .int .i64 1, .int .i64 1, .int .i64 1, .int .i64 0, .int .i64 0, .int .i64 0] (w2.heap.size + 1 + 1) (by simp only [alloc_size])).newAt 31 #[.bool true, .int .i64 0, .int .i64 0, .int .i64 1, .int .i64 1, .int .i64 1, .int .i64 1, .int .i64 0, .int .i64 0, .int .i64 0, .bool true, .int .i64 0, .int .i64 0, .int .i64 1, .int .i64 1, .int .i64 1, .int .i64 1, .int .i64 0, .int .i64 0, .int .i64 0] (w2.heap.size + 1 + 1 + 1) (by simp only [alloc_size])
  have S4 := S3 (w2.heap.size + 1) rfl
  clear S3 S2
  go_wp2_with fail
  generalize w2.heap.size + 1 + 1 + 1 = gl at *
  generalize w2.heap.size + 1 + 1 = g3 at *
  generalize w2.heap.size + 1 = gj at *
  generalize w2.heap.size = g2 at *
  generalize (((w2.alloc _).alloc _).alloc _).alloc _ = w3 at *
  have S5 := S4.soNew
  clear S4
  have ix := fun wx => cutG_h eAGok (some ⟨gl, 0, none⟩) 2 2 1 1 rfl (by decide) wx
  refine wp_region_held_drew (S := (fun w' => ((w'.cell? ⟨g1, 0, none⟩ = some (.int .i64 1) ∧ w'.cell? ⟨g1, 1, none⟩ = some (.int .i64 1) ∧ w'.cell? ⟨g1, 2, none⟩ = some (.int .i64 0) ∧ w'.cell? ⟨g1, 3, none⟩ = some (.int .i64 1) ∧ w'.cell? ⟨g1, 4, none⟩ = some (.int .i64 2) ∧ w'.cell? ⟨g1, 5, none⟩ = some (.int .i64 1) ∧ w'.cell? ⟨g1, 6, none⟩ = some (.int .i64 1) ∧ w'.cell? ⟨g1, 7, none⟩ = some (.int .i64 0) ∧ w'.cell? ⟨g1, 8, none⟩ = some (.int .i64 2000)) ∧ (w'.cell? ⟨g2, 0, none⟩ = some (.slice na 1 nc) ∧ w'.cell? ⟨g2, 1, none⟩ = some (.slice (some ⟨gj, 0, none⟩) 1 1) ∧ w'.cell? ⟨g2, 2, none⟩ = some (.int .i64 1) ∧ w'.cell? ⟨g2, 3, none⟩ = some (.int .i64 1) ∧ w'.cell? ⟨g2, 4, none⟩ = some (.int .i64 0) ∧ w'.cell? ⟨g2, 5, none⟩ = some (.int .i64 0)) ∧ (w'.cell? ⟨g3, 0, none⟩ = some (.bool true) ∧ w'.cell? ⟨g3, 1, none⟩ = some (.int .i64 0) ∧ w'.cell? ⟨g3, 2, none⟩ = some (.int .i64 0) ∧ w'.cell? ⟨g3, 3, none⟩ = some (.int .i64 1) ∧ w'.cell? ⟨g3, 4, none⟩ = some (.int .i64 1) ∧ w'.cell? ⟨g3, 5, none⟩ = some (.int .i64 1) ∧ w'.cell? ⟨g3, 6, none⟩ = some (.int .i64 1) ∧ w'.cell? ⟨g3, 7, none⟩ = some (.int .i64 0) ∧ w'.cell? ⟨g3, 8, none⟩ = some (.int .i64 0) ∧ w'.cell? ⟨g3, 9, none⟩ = some (.int .i64 0))))) (by kernel_rfl) (by exact xkeep S5.drew) (fun hHeld => ?_)
  change wpAnyH _ _ _ _ _ 35 (Array.replicate 35 false) _ _
  refine wpAnyH_take (i := 0) (v := ?v1) (ops_at rfl) (by kernel_rfl) (by kernel_rfl) (by kernel_rfl) (fun _ _ _ h => h) (Or.inl ⟨by rfl, ?hy1⟩) (by assumption) ?rest1
  case hy1 => intro w' hSw; (try dsimp only at hSw); go_simp; try with_reducible rfl
  try simp only [Act.put, List.setIfInBounds_toArray, List.set_cons_zero, List.set_cons_succ]
  refine wpAnyH_take (i := 1) (v := ?v2) (ops_at rfl) (by kernel_rfl) (by kernel_rfl) (by kernel_rfl) (fun _ _ _ h => h) (Or.inl ⟨by rfl, ?hy2⟩) (by assumption) ?rest2
  case hy2 => intro w' hSw; (try dsimp only at hSw); go_simp; try with_reducible rfl
  try simp only [Act.put, List.setIfInBounds_toArray, List.set_cons_zero, List.set_cons_succ]
  refine wpAnyH_take (i := 2) (v := ?v3) (ops_at rfl) (by kernel_rfl) (by kernel_rfl) (by kernel_rfl) (fun _ _ _ h => h) (Or.inl ⟨by rfl, ?hy3⟩) (by assumption) ?rest3
  case hy3 => intro w' hSw; (try dsimp only at hSw); go_simp; try with_reducible rfl
  try simp only [Act.put, List.setIfInBounds_toArray, List.set_cons_zero, List.set_cons_succ]
  refine wpAnyH_ready (rs := [3]) (by kernel_rfl) (by simp) ?_
  refine AllReadyH.cons (ops_at rfl) (fun K hK => ?_) AllReadyH.nil
  go_simp
  refine (wtWhy S5.drew (k := 6) rfl xC (xS na nc (some ⟨gj, 0, none⟩) 1) (some ⟨gl, 0, none⟩) 2 2 [xA, xA] true (xAtS S5.drew) rfl (by decide) (xAtA S5.drew) (fun w' hb => xRight na nc (some ⟨gj, 0, none⟩) 1 w' (xAtN (S5.drew.grow hb)) (xAtJ (S5.drew.grow hb)))).mono ?_
  rintro e w4 ⟨rfl, hb4⟩
  rw [xWhy2]
  have S6 := S5.drew.grow hb4
  refine hK.out _ _ (by exact xkeep S6) (fun hHeld => ?_)
  clear hK K
  try simp only [Act.put, List.setIfInBounds_toArray, List.set_cons_zero, List.set_cons_succ]
  refine wpAnyH_take (i := 4) (v := ?v5) (ops_at rfl) (by kernel_rfl) (by kernel_rfl) (by kernel_rfl) (fun _ _ _ h => h) (Or.inl ⟨by rfl, ?hy5⟩) (by assumption) ?rest5
  case hy5 => intro w' hSw; (try dsimp only at hSw); go_simp; try with_reducible rfl
  try simp only [Act.put, List.setIfInBounds_toArray, List.set_cons_zero, List.set_cons_succ]
  refine wpAnyH_take (i := 5) (v := ?v6) (ops_at rfl) (by kernel_rfl) (by kernel_rfl) (by kernel_rfl) (fun _ _ _ h => h) (Or.inl ⟨by rfl, ?hy6⟩) (by assumption) ?rest6
  case hy6 => intro w' hSw; (try dsimp only at hSw); go_simp; try with_reducible rfl
  try simp only [Act.put, List.setIfInBounds_toArray, List.set_cons_zero, List.set_cons_succ]
  refine wpAnyH_take (i := 6) (v := ?v7) (ops_at rfl) (by kernel_rfl) (by kernel_rfl) (by kernel_rfl) (fun _ _ _ h => h) (Or.inl ⟨by rfl, ?hy7⟩) (by assumption) ?rest7
  case hy7 => intro w' hSw; (try dsimp only at hSw); go_simp; try with_reducible rfl
  try simp only [Act.put, List.setIfInBounds_toArray, List.set_cons_zero, List.set_cons_succ]
  refine wpAnyH_take (i := 7) (v := ?v8) (ops_at rfl) (by kernel_rfl) (by kernel_rfl) (by kernel_rfl) (fun _ _ _ h => h) (Or.inl ⟨by rfl, ?hy8⟩) (by assumption) ?rest8
  case hy8 => intro w' hSw; (try dsimp only at hSw); go_simp; try with_reducible rfl
  try simp only [Act.put, List.setIfInBounds_toArray, List.set_cons_zero, List.set_cons_succ]
  refine wpAnyH_take (i := 8) (v := ?v9) (ops_at rfl) (by kernel_rfl) (by kernel_rfl) (by kernel_rfl) (fun _ _ _ h => h) (Or.inl ⟨by rfl, ?hy9⟩) (by assumption) ?rest9
  case hy9 => intro w' hSw; (try dsimp only at hSw); go_simp; try with_reducible rfl
  try simp only [Act.put, List.setIfInBounds_toArray, List.set_cons_zero, List.set_cons_succ]
  refine wpAnyH_ready (rs := [9]) (by kernel_rfl) (by simp) ?_
  refine AllReadyH.cons (ops_at rfl) (fun K hK => ?_) AllReadyH.nil
  go_simp
  refine hK.out _ _ (by exact xkeep S6) (fun hHeld => ?_)
  clear hK K
  try simp only [Act.put, List.setIfInBounds_toArray, List.set_cons_zero, List.set_cons_succ]
  refine wpAnyH_ready (rs := [10]) (by kernel_rfl) (by simp) ?_
  refine AllReadyH.cons (ops_at rfl) (fun K hK => ?_) AllReadyH.nil
  go_simp
  refine (wtWhy S6 (k := 6) rfl xC (xS na nc (some ⟨gj, 0, none⟩) 1) (some ⟨gl, 0, none⟩) 1 2 [xA] true (xAtS S6) rfl (by decide) (atFirst (xAtA S6)) (fun w' hb => xRight na nc (some ⟨gj, 0, none⟩) 1 w' (xAtN (S6.grow hb)) (xAtJ (S6.grow hb)))).mono ?_
  rintro e w5 ⟨rfl, hb5⟩
  rw [xWhy0]
  have S7 := S6.grow hb5
  refine hK.out _ _ (by exact xkeep S7) (fun hHeld => ?_)
  clear hK K
  try simp only [Act.put, List.setIfInBounds_toArray, List.set_cons_zero, List.set_cons_succ]
  refine wpAnyH_take (i := 11) (v := ?v11) (ops_at rfl) (by kernel_rfl) (by kernel_rfl) (by kernel_rfl) (fun _ _ _ h => h) (Or.inl ⟨by rfl, ?hy11⟩) (by assumption) ?rest11
  case hy11 => intro w' hSw; (try dsimp only at hSw); go_simp; try with_reducible rfl
  try simp only [Act.put, List.setIfInBounds_toArray, List.set_cons_zero, List.set_cons_succ]
  refine wpAnyH_take (i := 12) (v := ?v12) (ops_at rfl) (by kernel_rfl) (by kernel_rfl) (by kernel_rfl) (fun _ _ _ h => h) (Or.inl ⟨by rfl, ?hy12⟩) (by assumption) ?rest12
  case hy12 => intro w' hSw; (try dsimp only at hSw); go_simp; try with_reducible rfl
  try simp only [Act.put, List.setIfInBounds_toArray, List.set_cons_zero, List.set_cons_succ]
  refine wpAnyH_take (i := 13) (v := ?v13) (ops_at rfl) (by kernel_rfl) (by kernel_rfl) (by kernel_rfl) (fun _ _ _ h => h) (Or.inl ⟨by rfl, ?hy13⟩) (by assumption) ?rest13
  case hy13 => intro w' hSw; (try dsimp only at hSw); go_simp; try with_reducible rfl
  try simp only [Act.put, List.setIfInBounds_toArray, List.set_cons_zero, List.set_cons_succ]
  refine wpAnyH_take (i := 14) (v := ?v14) (ops_at rfl) (by kernel_rfl) (by kernel_rfl) (by kernel_rfl) (fun _ _ _ h => h) (Or.inl ⟨by rfl, ?hy14⟩) (by assumption) ?rest14
  case hy14 => intro w' hSw; (try dsimp only at hSw); go_simp; try with_reducible rfl
  try simp only [Act.put, List.setIfInBounds_toArray, List.set_cons_zero, List.set_cons_succ]
  refine wpAnyH_ready (rs := [15]) (by kernel_rfl) (by simp) ?_
  refine AllReadyH.cons (ops_at rfl) (fun K hK => ?_) AllReadyH.nil
  go_simp
  refine (wtHas xA _).mono ?_
  rintro e w6 ⟨rfl, hb6⟩
  rw [xHas]
  have S8 := S7.grow hb6
  refine hK.out _ _ (by exact xkeep S8) (fun hHeld => ?_)
  clear hK K
  try simp only [Act.put, List.setIfInBounds_toArray, List.set_cons_zero, List.set_cons_succ]
  refine wpAnyH_take (i := 16) (v := ?v16) (ops_at rfl) (by kernel_rfl) (by kernel_rfl) (by kernel_rfl) (fun _ _ _ h => h) (Or.inl ⟨by rfl, ?hy16⟩) (by assumption) ?rest16
  case hy16 => intro w' hSw; (try dsimp only at hSw); go_simp; try with_reducible rfl
  try simp only [Act.put, List.setIfInBounds_toArray, List.set_cons_zero, List.set_cons_succ]
  refine wpAnyH_take (i := 17) (v := ?v17) (ops_at rfl) (by kernel_rfl) (by kernel_rfl) (by kernel_rfl) (fun _ _ _ h => h) (Or.inl ⟨by rfl, ?hy17⟩) (by assumption) ?rest17
  case hy17 => intro w' hSw; (try dsimp only at hSw); go_simp; try with_reducible rfl
  try simp only [Act.put, List.setIfInBounds_toArray, List.set_cons_zero, List.set_cons_succ]
  refine wpAnyH_take (i := 18) (v := ?v18) (ops_at rfl) (by kernel_rfl) (by kernel_rfl) (by kernel_rfl) (fun _ _ _ h => h) (Or.inl ⟨by rfl, ?hy18⟩) (by assumption) ?rest18
  case hy18 => intro w' hSw; (try dsimp only at hSw); go_simp; try with_reducible rfl
  try simp only [Act.put, List.setIfInBounds_toArray, List.set_cons_zero, List.set_cons_succ]
  refine wpAnyH_ready (rs := [19]) (by kernel_rfl) (by simp) ?_
  refine AllReadyH.cons (ops_at rfl) (fun K hK => ?_) AllReadyH.nil
  go_simp
  refine (wtCount (some ⟨gl, 0, none⟩) [xA, xA] 2 2 1 1 _ rfl (by decide) (xAtA S8)).mono ?_
  rintro e w7 ⟨rfl, hb7⟩
  rw [xCnt]
  have S9 := S8.grow hb7
  refine hK.out _ _ (by exact xkeep S9) (fun hHeld => ?_)
  clear hK K
  try simp only [Act.put, List.setIfInBounds_toArray, List.set_cons_zero, List.set_cons_succ]
  refine wpAnyH_take (i := 20) (v := ?v20) (ops_at rfl) (by kernel_rfl) (by kernel_rfl) (by kernel_rfl) (fun _ _ _ h => h) (Or.inl ⟨by rfl, ?hy20⟩) (by assumption) ?rest20
  case hy20 => intro w' hSw; (try dsimp only at hSw); go_simp; try with_reducible rfl
  try simp only [Act.put, List.setIfInBounds_toArray, List.set_cons_zero, List.set_cons_succ]
  refine wpAnyH_take (i := 21) (v := ?v21) (ops_at rfl) (by kernel_rfl) (by kernel_rfl) (by kernel_rfl) (fun _ _ _ h => h) (Or.inl ⟨by rfl, ?hy21⟩) (by assumption) ?rest21
  case hy21 => intro w' hSw; (try dsimp only at hSw); go_simp; try with_reducible rfl
  try simp only [Act.put, List.setIfInBounds_toArray, List.set_cons_zero, List.set_cons_succ]
  refine wpAnyH_take (i := 22) (v := ?v22) (ops_at rfl) (by kernel_rfl) (by kernel_rfl) (by kernel_rfl) (fun _ _ _ h => h) (Or.inl ⟨by rfl, ?hy22⟩) (by assumption) ?rest22
  case hy22 => intro w' hSw; (try dsimp only at hSw); go_simp; try with_reducible rfl
  try simp only [Act.put, List.setIfInBounds_toArray, List.set_cons_zero, List.set_cons_succ]
  refine wpAnyH_take (i := 23) (v := ?v23) (ops_at rfl) (by kernel_rfl) (by kernel_rfl) (by kernel_rfl) (fun _ _ _ h => h) (Or.inl ⟨by rfl, ?hy23⟩) (by assumption) ?rest23
  case hy23 => intro w' hSw; (try dsimp only at hSw); go_simp; try with_reducible rfl
  try simp only [Act.put, List.setIfInBounds_toArray, List.set_cons_zero, List.set_cons_succ]
  refine wpAnyH_take (i := 24) (v := ?v24) (ops_at rfl) (by kernel_rfl) (by kernel_rfl) (by kernel_rfl) (fun _ _ _ h => h) (Or.inl ⟨by rfl, ?hy24⟩) (by assumption) ?rest24
  case hy24 => intro w' hSw; (try dsimp only at hSw); go_simp; try with_reducible rfl
  try simp only [Act.put, List.setIfInBounds_toArray, List.set_cons_zero, List.set_cons_succ]
  refine wpAnyH_ready (rs := [25]) (by kernel_rfl) (by simp) ?_
  refine AllReadyH.cons (ops_at rfl) (fun K hK => ?_) AllReadyH.nil
  go_simp
  refine (wtBehind (xS na nc (some ⟨gj, 0, none⟩) 1) (some ⟨gl, 0, none⟩) [xA, xA] 2 2 _ rfl (by decide) (xAtA S9)).mono ?_
  rintro e w8 ⟨rfl, hb8⟩
  rw [xBeh]
  have SA := S9.grow hb8
  refine hK.out _ _ (by exact xkeep SA) (fun hHeld => ?_)
  clear hK K
  try simp only [Act.put, List.setIfInBounds_toArray, List.set_cons_zero, List.set_cons_succ]
  refine wpAnyH_take (i := 26) (v := ?v26) (ops_at rfl) (by kernel_rfl) (by kernel_rfl) (by kernel_rfl) (fun _ _ _ h => h) (Or.inl ⟨by rfl, ?hy26⟩) (by assumption) ?rest26
  case hy26 => intro w' hSw; (try dsimp only at hSw); go_simp; try with_reducible rfl
  try simp only [Act.put, List.setIfInBounds_toArray, List.set_cons_zero, List.set_cons_succ]
  refine wpAnyH_take (i := 27) (v := ?v27) (ops_at rfl) (by kernel_rfl) (by kernel_rfl) (by kernel_rfl) (fun _ _ _ h => h) (Or.inl ⟨by rfl, ?hy27⟩) (by assumption) ?rest27
  case hy27 => intro w' hSw; (try dsimp only at hSw); go_simp; try with_reducible rfl
  try simp only [Act.put, List.setIfInBounds_toArray, List.set_cons_zero, List.set_cons_succ]
  refine wpAnyH_take (i := 28) (v := ?v28) (ops_at rfl) (by kernel_rfl) (by kernel_rfl) (by kernel_rfl) (fun _ _ _ h => h) (Or.inl ⟨by rfl, ?hy28⟩) (by assumption) ?rest28
  case hy28 => intro w' hSw; (try dsimp only at hSw); go_simp; try with_reducible rfl
  try simp only [Act.put, List.setIfInBounds_toArray, List.set_cons_zero, List.set_cons_succ]
  refine wpAnyH_take (i := 29) (v := ?v29) (ops_at rfl) (by kernel_rfl) (by kernel_rfl) (by kernel_rfl) (fun _ _ _ h => h) (Or.inl ⟨by rfl, ?hy29⟩) (by assumption) ?rest29
  case hy29 => intro w' hSw; (try dsimp only at hSw); go_simp; try with_reducible rfl
  try simp only [Act.put, List.setIfInBounds_toArray, List.set_cons_zero, List.set_cons_succ]
  refine wpAnyH_ready (rs := [30]) (by kernel_rfl) (by simp) ?_
  refine AllReadyH.cons (ops_at rfl) (fun K hK => ?_) AllReadyH.nil
  go_simp
  refine (wtFree (some ⟨gl, 0, none⟩) [xA, xA] 2 2 9 _ rfl (by decide) (xAtA SA)).mono ?_
  rintro e w9 ⟨p9, c9, rfl, ho9, hb9⟩
  rw [xFree]
  have SB := SA.grow hb9
  refine hK.out _ _ (by exact xkeep SB) (fun hHeld => ?_)
  clear hK K
  try simp only [Act.put, List.setIfInBounds_toArray, List.set_cons_zero, List.set_cons_succ]
  refine wpAnyH_take (i := 31) (v := ?v31) (ops_at rfl) (by kernel_rfl) (by kernel_rfl) (by kernel_rfl) (fun _ _ _ h => h) (Or.inl ⟨by rfl, ?hy31⟩) (by assumption) ?rest31
  case hy31 => intro w' hSw; (try dsimp only at hSw); go_simp; try with_reducible rfl
  try simp only [Act.put, List.setIfInBounds_toArray, List.set_cons_zero, List.set_cons_succ]
  refine wpAnyH_take (i := 32) (v := ?v32) (ops_at rfl) (by kernel_rfl) (by kernel_rfl) (by kernel_rfl) (fun _ _ _ h => h) (Or.inl ⟨by rfl, ?hy32⟩) (by assumption) ?rest32
  case hy32 => intro w' hSw; (try dsimp only at hSw); go_simp; try with_reducible rfl
  try simp only [Act.put, List.setIfInBounds_toArray, List.set_cons_zero, List.set_cons_succ]
  refine wpAnyH_take (i := 33) (v := ?v33) (ops_at rfl) (by kernel_rfl) (by kernel_rfl) (by kernel_rfl) (fun _ _ _ h => h) (Or.inl ⟨by rfl, ?hy33⟩) (by assumption) ?rest33
  case hy33 => intro w' hSw; (try dsimp only at hSw); go_simp; try with_reducible rfl
  try simp only [Act.put, List.setIfInBounds_toArray, List.set_cons_zero, List.set_cons_succ]
  refine wpAnyH_take (i := 34) (v := ?v34) (ops_at rfl) (by kernel_rfl) (by kernel_rfl) (by kernel_rfl) (fun _ _ _ h => h) (Or.inl ⟨by rfl, ?hy34⟩) (by assumption) ?rest34
  case hy34 => intro w' hSw; (try dsimp only at hSw); go_simp; try with_reducible rfl
  try simp only [Act.put, List.setIfInBounds_toArray, List.set_cons_zero, List.set_cons_succ]
  refine wpAnyH_done (by kernel_rfl) ?_ _
  go_wp2
  go_ret
  exact ⟨rfl, SB.fin⟩
end Go.Proofs.Ytilobmefomoemaa
