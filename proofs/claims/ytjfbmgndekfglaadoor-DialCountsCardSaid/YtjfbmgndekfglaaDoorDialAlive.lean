/- The document's example of dials: it is as it should be. -/
import Derived.Test.YtjfbmgndekfglaaDoorDialTexts
import Derived.Test.YtjfbmgndekfglaaDoorDialLaws
import Derived.Test.YtjfbmgndekfglaaDoorBookNew
namespace Go.Proofs.YtjfbmgndekfglaaDoor
set_option linter.unusedVariables false
set_option linter.unusedSimpArgs false
open Go.RowKit
def aC : CF := ⟨2, 1, 0, 1, 2, 1, 1, 0, 2000⟩
def aS (na : Option Addr) (nc : Nat) : STA := ⟨na, 2, nc, nodeN 2, none, 0, 0, [], 1, 1, 0, 0⟩
def aD : DI := ⟨2, 0, 0, 0, 2, 0, 100⟩
theorem St.also {w0 w w' : World} {l : List Thing} (S : St w0 w l) {g : Nat} {T : TypeId} {cs : List Value} (U : St w w' [cellsT g T cs]) : St w0 w' (l ++ [cellsT g T cs]) := by
  obtain ⟨F, h1, h2, h3⟩ := U.head 0 rfl
  exact S.push U.fin (y := cellsT g T cs) (F := F) ⟨Nat.le_trans S.size h1, h2, h3⟩ (fun b hb => by rw [(h3 b).1 hb]; exact h1)
theorem aDial (na : Option Addr) (nc : Nat) : dialD (aS na nc) 0 = aD := by
  rfl
theorem aMay : mayB aC = true := by decide
theorem aNew (w : World) : Calls Tryd.prog 13 #[.agg #[.int .i64 2, .int .i64 1, .int .i64 0, .int .i64 1, .int .i64 2, .int .i64 1, .int .i64 1, .int .i64 0, .int .i64 2000]] w fun e w' => ∃ na nc, e = .returned (.agg (aS na nc).cs.toArray) ∧ (aS na nc).At w' ∧ Below w.heap.size w w' := by
  refine (bkNew aC 2 rfl (by decide) aMay w).mono ?_
  rintro e w' ⟨na, nc, rfl, S⟩
  obtain ⟨-, -, -, -, hA⟩ := S.slG eNDok 0 rfl
  exact ⟨na, nc, rfl, ⟨hA, (fun k hk => absurd hk (by simp [aS])), rfl, rfl, (show 2 ≤ maxLen by decide), (show 0 ≤ maxLen by decide)⟩, S.fin⟩
theorem aOf (na : Option Addr) (nc : Nat) (w : World) (hs : (aS na nc).At w) : Calls Tryd.prog 9 #[.agg #[.int .i64 2, .int .i64 1, .int .i64 0, .int .i64 1, .int .i64 2, .int .i64 1, .int .i64 1, .int .i64 0, .int .i64 2000], .agg (aS na nc).cs.toArray, .int .i64 0] w fun e w' => ∃ gq, e = .returned (.agg #[.int .i64 2, .int .i64 0, .int .i64 0, .int .i64 0, .int .i64 2, .slice (some ⟨gq, 0, none⟩) 1 1, .int .i64 0, .int .i64 100]) ∧ St w w' [cellsT gq 37 [.int .i64 0, .int .i64 0, .int .i64 0, .int .i64 0, .int .i64 0]] := by
  refine (dialOf aC (aS na nc) 0 w 1 rfl (by decide) (by decide) hs (show 2 ≤ 1000000 by decide) (show 0 ≤ 1000000 by decide) (by decide) (by decide) (fun j hj => by cases hj)).mono ?_
  rintro e w' ⟨gq, rfl, S⟩
  rw [aDial]
  exact ⟨gq, rfl, S⟩
theorem aRows {w0 w : World} {l : List Thing} (S : St w0 w l) (k : Nat) {gq : Nat} (hk : l[k]? = some (cellsT gq 37 [.int .i64 0, .int .i64 0, .int .i64 0, .int .i64 0, .int .i64 0])) : AtG eQ w (some ⟨gq, 0, none⟩) [⟨0, 0, 0, 0, 0⟩] := qRows_at (J := []) (n := 1) S k hk
theorem aParse (w : World) : Calls Tryd.prog 14 #[sv (tx 0)] w fun e w' => ∃ a q, e = .returned (.tuple #[.agg #[.int .i64 2, .int .i64 0, .int .i64 0, .int .i64 0, .int .i64 2, .slice a 1 q, .int .i64 0, .int .i64 100], .bool true]) ∧ AtG eQ w' a [⟨0, 0, 0, 0, 0⟩] ∧ Below w.heap.size w w' := dParse w
set_option maxRecDepth 10000 in
set_option maxHeartbeats 6400000 in
theorem alive27_any (w : World) (hI : ∀ wx, Below w.heap.size w wx → Calls Tryd.prog 35 #[.int .i64 ((100 : Nat) : Int)] wx fun e w' => e = .returned (sv (Lib.decDigits 100)) ∧ Below wx.heap.size wx w') :
    Calls Tryd.prog 5 #[] w fun e w' => e = .returned (.bool true) ∧ Below w.heap.size w w' := by
  have S1 : St w _ [cellsT w.heap.size 23 [.int .i64 2, .int .i64 1, .int .i64 0, .int .i64 1, .int .i64 2, .int .i64 1, .int .i64 1, .int .i64 0, .int .i64 2000]] := (St.start w).newAt 23 #[.int .i64 2, .int .i64 1, .int .i64 0, .int .i64 1, .int .i64 2, .int .i64 1, .int .i64 1, .int .i64 0, .int .i64 2000] w.heap.size rfl
  have HI := hid hI
  clear hI
  go_enter Tryd.func5, Tryd.ntmps5
  go_upto_region 2 with fail
  generalize w.heap.size = gc at S1 ⊢
  generalize w.alloc _ = w1 at *
  have keep : ∀ {w' : World} {r : List Thing}, St w w' (cellsT gc 23 [.int .i64 2, .int .i64 1, .int .i64 0, .int .i64 1, .int .i64 2, .int .i64 1, .int .i64 1, .int .i64 0, .int .i64 2000] :: r) → (w'.cell? ⟨gc, 0, none⟩ = some (.int .i64 2) ∧ w'.cell? ⟨gc, 1, none⟩ = some (.int .i64 1) ∧ w'.cell? ⟨gc, 2, none⟩ = some (.int .i64 0) ∧ w'.cell? ⟨gc, 3, none⟩ = some (.int .i64 1) ∧ w'.cell? ⟨gc, 4, none⟩ = some (.int .i64 2) ∧ w'.cell? ⟨gc, 5, none⟩ = some (.int .i64 1) ∧ w'.cell? ⟨gc, 6, none⟩ = some (.int .i64 1) ∧ w'.cell? ⟨gc, 7, none⟩ = some (.int .i64 0) ∧ w'.cell? ⟨gc, 8, none⟩ = some (.int .i64 2000)) := fun S => ⟨S.cell 0 rfl 0 rfl, S.cell 0 rfl 1 rfl, S.cell 0 rfl 2 rfl, S.cell 0 rfl 3 rfl, S.cell 0 rfl 4 rfl, S.cell 0 rfl 5 rfl, S.cell 0 rfl 6 rfl, S.cell 0 rfl 7 rfl, S.cell 0 rfl 8 rfl⟩
  go_cut [2] from 8 to 11 (fun s2 wc => ∃ gq gd, s2 = .pointer (some ⟨gd, 0, none⟩) ∧ St w wc [cellsT gc 23 [.int .i64 2, .int .i64 1, .int .i64 0, .int .i64 1, .int .i64 2, .int .i64 1, .int .i64 1, .int .i64 0, .int .i64 2000], cellsT gd 34 [.int .i64 2, .int .i64 0, .int .i64 0, .int .i64 0, .int .i64 2, .slice (some ⟨gq, 0, none⟩) 1 1, .int .i64 0, .int .i64 100], cellsT gq 37 [.int .i64 0, .int .i64 0, .int .i64 0, .int .i64 0, .int .i64 0]])
  case first =>
    refine wp_region_held_drew (S := (fun w' => (w'.cell? ⟨gc, 0, none⟩ = some (.int .i64 2) ∧ w'.cell? ⟨gc, 1, none⟩ = some (.int .i64 1) ∧ w'.cell? ⟨gc, 2, none⟩ = some (.int .i64 0) ∧ w'.cell? ⟨gc, 3, none⟩ = some (.int .i64 1) ∧ w'.cell? ⟨gc, 4, none⟩ = some (.int .i64 2) ∧ w'.cell? ⟨gc, 5, none⟩ = some (.int .i64 1) ∧ w'.cell? ⟨gc, 6, none⟩ = some (.int .i64 1) ∧ w'.cell? ⟨gc, 7, none⟩ = some (.int .i64 0) ∧ w'.cell? ⟨gc, 8, none⟩ = some (.int .i64 2000)))) (by kernel_rfl) (by exact keep S1.drew) (fun hHeld => ?_)
    change wpAnyH _ _ _ _ _ 6 (Array.replicate 6 false) _ _
    refine wpAnyH_take (i := 0) (v := ?v1) (ops_at rfl) (by kernel_rfl) (by kernel_rfl) (by kernel_rfl) (fun _ _ _ h => h) (Or.inl ⟨by rfl, ?hy1⟩) (by assumption) ?rest1
    case hy1 => intro w' hSw; (try dsimp only at hSw); go_simp; try with_reducible rfl
    try simp only [Act.put, List.setIfInBounds_toArray, List.set_cons_zero, List.set_cons_succ]
    refine wpAnyH_take (i := 1) (v := ?v2) (ops_at rfl) (by kernel_rfl) (by kernel_rfl) (by kernel_rfl) (fun _ _ _ h => h) (Or.inl ⟨by rfl, ?hy2⟩) (by assumption) ?rest2
    case hy2 => intro w' hSw; (try dsimp only at hSw); go_simp; try with_reducible rfl
    try simp only [Act.put, List.setIfInBounds_toArray, List.set_cons_zero, List.set_cons_succ]
    have S2 := S1.drew
    generalize w1.drew = w2 at *
    refine wpAnyH_ready (rs := [2, 4]) (by kernel_rfl) (by simp) ?_
    refine AllReadyH.cons (ops_at rfl) (fun K hK => ?_) (AllReadyH.cons (ops_at rfl) (fun K hK => ?_) AllReadyH.nil)
    · skip
      go_simp
      refine (aNew w2).mono ?_
      rintro e w4 ⟨na, nc, rfl, hst, hb4⟩
      have S4 := S2.grow hb4
      have HS := hid hst
      clear hst
      refine hK.out _ _ (by exact keep S4) (fun hHeld => ?_)
      clear hK K
      try simp only [Act.put, List.setIfInBounds_toArray, List.set_cons_zero, List.set_cons_succ]
      refine wpAnyH_ready (rs := [3, 4]) (by kernel_rfl) (by simp) ?_
      refine AllReadyH.cons (ops_at rfl) (fun K hK => ?_) (AllReadyH.cons (ops_at rfl) (fun K hK => ?_) AllReadyH.nil)
      · skip
        go_simp
        refine (aOf na nc w4 HS.out).mono ?_
        rintro e w5 ⟨gq, rfl, SQ⟩
        have S5 : St w w5 [cellsT gc 23 [.int .i64 2, .int .i64 1, .int .i64 0, .int .i64 1, .int .i64 2, .int .i64 1, .int .i64 1, .int .i64 0, .int .i64 2000], cellsT gq 37 [.int .i64 0, .int .i64 0, .int .i64 0, .int .i64 0, .int .i64 0]] := S4.also SQ
        clear SQ
        refine hK.out _ _ (by exact keep S5) (fun hHeld => ?_)
        clear hK K
        try simp only [Act.put, List.setIfInBounds_toArray, List.set_cons_zero, List.set_cons_succ]
        refine wpAnyH_ready (rs := [4]) (by kernel_rfl) (by simp) ?_
        refine AllReadyH.cons (ops_at rfl) (fun K hK => ?_) AllReadyH.nil
        go_simp
        have S6 := S5.newAt 34 #[.int .i64 0, .int .i64 0, .int .i64 0, .int .i64 0, .int .i64 0, .slice none 0 0, .int .i64 0, .int .i64 0] w5.heap.size rfl
        generalize w5.heap.size = gd at S6 ⊢
        generalize w5.alloc _ = w6 at S6 ⊢
        refine hK.out _ _ (by exact keep S6) (fun hHeld => ?_)
        clear hK K
        try simp only [Act.put, List.setIfInBounds_toArray, List.set_cons_zero, List.set_cons_succ]
        obtain ⟨f0, f1, f2, f3, f4, f5, f6, f7⟩ := And.intro (S6.frozen 2 rfl 0) (And.intro (S6.frozen 2 rfl 1) (And.intro (S6.frozen 2 rfl 2) (And.intro (S6.frozen 2 rfl 3) (And.intro (S6.frozen 2 rfl 4) (And.intro (S6.frozen 2 rfl 5) (And.intro (S6.frozen 2 rfl 6) (S6.frozen 2 rfl 7)))))))
        obtain ⟨y0, y1, y2, y3, y4, y5, y6, y7⟩ := And.intro (S6.cell 2 rfl 0 rfl) (And.intro (S6.cell 2 rfl 1 rfl) (And.intro (S6.cell 2 rfl 2 rfl) (And.intro (S6.cell 2 rfl 3 rfl) (And.intro (S6.cell 2 rfl 4 rfl) (And.intro (S6.cell 2 rfl 5 rfl) (And.intro (S6.cell 2 rfl 6 rfl) (S6.cell 2 rfl 7 rfl)))))))
        have SZ := ((((((((S6.setCell 2 rfl 0 (.int .i64 2)).setCell 2 rfl 1 (.int .i64 0)).setCell 2 rfl 2 (.int .i64 0)).setCell 2 rfl 3 (.int .i64 0)).setCell 2 rfl 4 (.int .i64 2)).setCell 2 rfl 5 (.slice (some ⟨gq, 0, none⟩) 1 1)).setCell 2 rfl 6 (.int .i64 0)).setCell 2 rfl 7 (.int .i64 100))
        refine wpAnyH_ready (rs := [5]) (by kernel_rfl) (by simp) ?_
        refine AllReadyH.cons (ops_at rfl) (fun K hK => ?_) AllReadyH.nil
        go_simp
        refine hK.out _ _ (by exact keep SZ) (fun hHeld => ?_)
        clear hK K
        try simp only [Act.put, List.setIfInBounds_toArray, List.set_cons_zero, List.set_cons_succ]
        refine wpAnyH_done (by kernel_rfl) ?_ _
        go_wp2_with fail
        go_meet
        exact ⟨gq, gd, rfl, St.take (l := [cellsT gc 23 [.int .i64 2, .int .i64 1, .int .i64 0, .int .i64 1, .int .i64 2, .int .i64 1, .int .i64 1, .int .i64 0, .int .i64 2000], cellsT gd 34 [.int .i64 2, .int .i64 0, .int .i64 0, .int .i64 0, .int .i64 2, .slice (some ⟨gq, 0, none⟩) 1 1, .int .i64 0, .int .i64 100], cellsT gq 37 [.int .i64 0, .int .i64 0, .int .i64 0, .int .i64 0, .int .i64 0]]) (St.swap23 SZ) 3⟩
      · skip
        go_simp
        have S5 := S4.newAt 34 #[.int .i64 0, .int .i64 0, .int .i64 0, .int .i64 0, .int .i64 0, .slice none 0 0, .int .i64 0, .int .i64 0] w4.heap.size rfl
        have HS2 := hid (HS.out.all ((St.start w4).alloc (.cells #[.int .i64 0, .int .i64 0, .int .i64 0, .int .i64 0, .int .i64 0, .slice none 0 0, .int .i64 0, .int .i64 0] 34)).fin)
        clear HS
        generalize w4.heap.size = gd at S5 ⊢
        generalize w4.alloc _ = w5 at S5 HS2 ⊢
        refine hK.out _ _ (by exact keep S5) (fun hHeld => ?_)
        clear hK K
        try simp only [Act.put, List.setIfInBounds_toArray, List.set_cons_zero, List.set_cons_succ]
        refine wpAnyH_ready (rs := [3]) (by kernel_rfl) (by simp) ?_
        refine AllReadyH.cons (ops_at rfl) (fun K hK => ?_) AllReadyH.nil
        go_simp
        refine (aOf na nc w5 HS2.out).mono ?_
        rintro e w6 ⟨gq, rfl, SQ⟩
        have S6 : St w w6 [cellsT gc 23 [.int .i64 2, .int .i64 1, .int .i64 0, .int .i64 1, .int .i64 2, .int .i64 1, .int .i64 1, .int .i64 0, .int .i64 2000], cellsT gd 34 (#[.int .i64 0, .int .i64 0, .int .i64 0, .int .i64 0, .int .i64 0, .slice none 0 0, .int .i64 0, .int .i64 0] : Array Value).toList, cellsT gq 37 [.int .i64 0, .int .i64 0, .int .i64 0, .int .i64 0, .int .i64 0]] := S5.also SQ
        clear SQ
        refine hK.out _ _ (by exact keep S6) (fun hHeld => ?_)
        clear hK K
        try simp only [Act.put, List.setIfInBounds_toArray, List.set_cons_zero, List.set_cons_succ]
        obtain ⟨f0, f1, f2, f3, f4, f5, f6, f7⟩ := And.intro (S6.frozen 1 rfl 0) (And.intro (S6.frozen 1 rfl 1) (And.intro (S6.frozen 1 rfl 2) (And.intro (S6.frozen 1 rfl 3) (And.intro (S6.frozen 1 rfl 4) (And.intro (S6.frozen 1 rfl 5) (And.intro (S6.frozen 1 rfl 6) (S6.frozen 1 rfl 7)))))))
        obtain ⟨y0, y1, y2, y3, y4, y5, y6, y7⟩ := And.intro (S6.cell 1 rfl 0 rfl) (And.intro (S6.cell 1 rfl 1 rfl) (And.intro (S6.cell 1 rfl 2 rfl) (And.intro (S6.cell 1 rfl 3 rfl) (And.intro (S6.cell 1 rfl 4 rfl) (And.intro (S6.cell 1 rfl 5 rfl) (And.intro (S6.cell 1 rfl 6 rfl) (S6.cell 1 rfl 7 rfl)))))))
        have SZ := ((((((((S6.setCell 1 rfl 0 (.int .i64 2)).setCell 1 rfl 1 (.int .i64 0)).setCell 1 rfl 2 (.int .i64 0)).setCell 1 rfl 3 (.int .i64 0)).setCell 1 rfl 4 (.int .i64 2)).setCell 1 rfl 5 (.slice (some ⟨gq, 0, none⟩) 1 1)).setCell 1 rfl 6 (.int .i64 0)).setCell 1 rfl 7 (.int .i64 100))
        refine wpAnyH_ready (rs := [5]) (by kernel_rfl) (by simp) ?_
        refine AllReadyH.cons (ops_at rfl) (fun K hK => ?_) AllReadyH.nil
        go_simp
        refine hK.out _ _ (by exact keep SZ) (fun hHeld => ?_)
        clear hK K
        try simp only [Act.put, List.setIfInBounds_toArray, List.set_cons_zero, List.set_cons_succ]
        refine wpAnyH_done (by kernel_rfl) ?_ _
        go_wp2_with fail
        go_meet
        exact ⟨gq, gd, rfl, SZ⟩
    · skip
      go_simp
      have S4 := S2.newAt 34 #[.int .i64 0, .int .i64 0, .int .i64 0, .int .i64 0, .int .i64 0, .slice none 0 0, .int .i64 0, .int .i64 0] w2.heap.size rfl
      generalize w2.heap.size = gd at S4 ⊢
      generalize w2.alloc _ = w4 at S4 ⊢
      refine hK.out _ _ (by exact keep S4) (fun hHeld => ?_)
      clear hK K
      try simp only [Act.put, List.setIfInBounds_toArray, List.set_cons_zero, List.set_cons_succ]
      refine wpAnyH_ready (rs := [2]) (by kernel_rfl) (by simp) ?_
      refine AllReadyH.cons (ops_at rfl) (fun K hK => ?_) AllReadyH.nil
      go_simp
      refine (aNew w4).mono ?_
      rintro e w5 ⟨na, nc, rfl, hst, hb5⟩
      have S5 := S4.grow hb5
      have HS := hid hst
      clear hst
      refine hK.out _ _ (by exact keep S5) (fun hHeld => ?_)
      clear hK K
      try simp only [Act.put, List.setIfInBounds_toArray, List.set_cons_zero, List.set_cons_succ]
      refine wpAnyH_ready (rs := [3]) (by kernel_rfl) (by simp) ?_
      refine AllReadyH.cons (ops_at rfl) (fun K hK => ?_) AllReadyH.nil
      go_simp
      refine (aOf na nc w5 HS.out).mono ?_
      rintro e w6 ⟨gq, rfl, SQ⟩
      have S6 : St w w6 [cellsT gc 23 [.int .i64 2, .int .i64 1, .int .i64 0, .int .i64 1, .int .i64 2, .int .i64 1, .int .i64 1, .int .i64 0, .int .i64 2000], cellsT gd 34 (#[.int .i64 0, .int .i64 0, .int .i64 0, .int .i64 0, .int .i64 0, .slice none 0 0, .int .i64 0, .int .i64 0] : Array Value).toList, cellsT gq 37 [.int .i64 0, .int .i64 0, .int .i64 0, .int .i64 0, .int .i64 0]] := S5.also SQ
      clear SQ
      refine hK.out _ _ (by exact keep S6) (fun hHeld => ?_)
      clear hK K
      try simp only [Act.put, List.setIfInBounds_toArray, List.set_cons_zero, List.set_cons_succ]
      obtain ⟨f0, f1, f2, f3, f4, f5, f6, f7⟩ := And.intro (S6.frozen 1 rfl 0) (And.intro (S6.frozen 1 rfl 1) (And.intro (S6.frozen 1 rfl 2) (And.intro (S6.frozen 1 rfl 3) (And.intro (S6.frozen 1 rfl 4) (And.intro (S6.frozen 1 rfl 5) (And.intro (S6.frozen 1 rfl 6) (S6.frozen 1 rfl 7)))))))
      obtain ⟨y0, y1, y2, y3, y4, y5, y6, y7⟩ := And.intro (S6.cell 1 rfl 0 rfl) (And.intro (S6.cell 1 rfl 1 rfl) (And.intro (S6.cell 1 rfl 2 rfl) (And.intro (S6.cell 1 rfl 3 rfl) (And.intro (S6.cell 1 rfl 4 rfl) (And.intro (S6.cell 1 rfl 5 rfl) (And.intro (S6.cell 1 rfl 6 rfl) (S6.cell 1 rfl 7 rfl)))))))
      have SZ := ((((((((S6.setCell 1 rfl 0 (.int .i64 2)).setCell 1 rfl 1 (.int .i64 0)).setCell 1 rfl 2 (.int .i64 0)).setCell 1 rfl 3 (.int .i64 0)).setCell 1 rfl 4 (.int .i64 2)).setCell 1 rfl 5 (.slice (some ⟨gq, 0, none⟩) 1 1)).setCell 1 rfl 6 (.int .i64 0)).setCell 1 rfl 7 (.int .i64 100))
      refine wpAnyH_ready (rs := [5]) (by kernel_rfl) (by simp) ?_
      refine AllReadyH.cons (ops_at rfl) (fun K hK => ?_) AllReadyH.nil
      go_simp
      refine hK.out _ _ (by exact keep SZ) (fun hHeld => ?_)
      clear hK K
      try simp only [Act.put, List.setIfInBounds_toArray, List.set_cons_zero, List.set_cons_succ]
      refine wpAnyH_done (by kernel_rfl) ?_ _
      go_wp2_with fail
      go_meet
      exact ⟨gq, gd, rfl, SZ⟩
  case rest =>
  obtain ⟨gq, gd, rfl, S2⟩ := hcut
  clear S1 keep
  go_upto_region 3 with fail
  go_cut [3] from 3 to 3 (fun s3 w3 => s3 = sv (tx 0) ∧ w3 = wc)
  case first =>
    go_wp2_with fail
    go_meet
    exact ⟨rfl, rfl⟩
  case rest =>
  obtain ⟨rfl, rfl⟩ := hcut
  go_wp2_with fail
  refine (aParse wc).mono ?_
  rintro e w3 ⟨a, q, rfl, hA, hb3⟩
  have S3 := S2.grow hb3
  have S4 : St w (w3.alloc (.cells #[.int .i64 2, .int .i64 0, .int .i64 0, .int .i64 0, .int .i64 2, .slice a 1 q, .int .i64 0, .int .i64 100] 34)) [cellsT gc 23 [.int .i64 2, .int .i64 1, .int .i64 0, .int .i64 1, .int .i64 2, .int .i64 1, .int .i64 1, .int .i64 0, .int .i64 2000], cellsT gd 34 [.int .i64 2, .int .i64 0, .int .i64 0, .int .i64 0, .int .i64 2, .slice (some ⟨gq, 0, none⟩) 1 1, .int .i64 0, .int .i64 100], cellsT gq 37 [.int .i64 0, .int .i64 0, .int .i64 0, .int .i64 0, .int .i64 0], cellsT w3.heap.size 34 [.int .i64 2, .int .i64 0, .int .i64 0, .int .i64 0, .int .i64 2, .slice a 1 q, .int .i64 0, .int .i64 100]] := S3.newAt 34 #[.int .i64 2, .int .i64 0, .int .i64 0, .int .i64 0, .int .i64 2, .slice a 1 q, .int .i64 0, .int .i64 100] w3.heap.size rfl
  have HA := hid (hA.all eQok ((St.start w3).alloc (.cells #[.int .i64 2, .int .i64 0, .int .i64 0, .int .i64 0, .int .i64 2, .slice a 1 q, .int .i64 0, .int .i64 100] 34)).fin)
  clear hA hb3 S2 S3
  obtain ⟨d0, d1, d2, d3, d4, d5, d6, d7⟩ := And.intro (S4.cell 1 rfl 0 rfl) (And.intro (S4.cell 1 rfl 1 rfl) (And.intro (S4.cell 1 rfl 2 rfl) (And.intro (S4.cell 1 rfl 3 rfl) (And.intro (S4.cell 1 rfl 4 rfl) (And.intro (S4.cell 1 rfl 5 rfl) (And.intro (S4.cell 1 rfl 6 rfl) (S4.cell 1 rfl 7 rfl)))))))
  go_wp2_with fail
  generalize w3.heap.size = gp at S4 ⊢
  generalize w3.alloc _ = w4 at S4 HA ⊢
  refine (dAdd gq w4 (aRows S4 2 rfl)).mono ?_
  rintro e w5 ⟨gm, rfl, hb5⟩
  have S5 := S4.grow hb5
  have S6 : St w (w5.alloc (.cells #[.int .i64 4, .int .i64 0, .int .i64 0, .int .i64 0, .int .i64 4, .slice (some ⟨gm, 0, none⟩) 1 1, .int .i64 0, .int .i64 100] 34)) [cellsT gc 23 [.int .i64 2, .int .i64 1, .int .i64 0, .int .i64 1, .int .i64 2, .int .i64 1, .int .i64 1, .int .i64 0, .int .i64 2000], cellsT gd 34 [.int .i64 2, .int .i64 0, .int .i64 0, .int .i64 0, .int .i64 2, .slice (some ⟨gq, 0, none⟩) 1 1, .int .i64 0, .int .i64 100], cellsT gq 37 [.int .i64 0, .int .i64 0, .int .i64 0, .int .i64 0, .int .i64 0], cellsT gp 34 [.int .i64 2, .int .i64 0, .int .i64 0, .int .i64 0, .int .i64 2, .slice a 1 q, .int .i64 0, .int .i64 100], cellsT w5.heap.size 34 [.int .i64 4, .int .i64 0, .int .i64 0, .int .i64 0, .int .i64 4, .slice (some ⟨gm, 0, none⟩) 1 1, .int .i64 0, .int .i64 100]] := S5.newAt 34 #[.int .i64 4, .int .i64 0, .int .i64 0, .int .i64 0, .int .i64 4, .slice (some ⟨gm, 0, none⟩) 1 1, .int .i64 0, .int .i64 100] w5.heap.size rfl
  have HA2 := hid ((HA.out.all eQok hb5).all eQok ((St.start w5).alloc (.cells #[.int .i64 4, .int .i64 0, .int .i64 0, .int .i64 0, .int .i64 4, .slice (some ⟨gm, 0, none⟩) 1 1, .int .i64 0, .int .i64 100] 34)).fin)
  clear HA hb5 S4 S5 d0 d1 d2 d3 d4 d5 d6 d7
  obtain ⟨d0, d1, d2, d3, d4, d5, d6, d7⟩ := And.intro (S6.cell 1 rfl 0 rfl) (And.intro (S6.cell 1 rfl 1 rfl) (And.intro (S6.cell 1 rfl 2 rfl) (And.intro (S6.cell 1 rfl 3 rfl) (And.intro (S6.cell 1 rfl 4 rfl) (And.intro (S6.cell 1 rfl 5 rfl) (And.intro (S6.cell 1 rfl 6 rfl) (S6.cell 1 rfl 7 rfl)))))))
  go_wp2_with fail
  generalize w5.heap.size = gy at S6 ⊢
  generalize w5.alloc _ = w6 at S6 HA2 ⊢
  refine (dText gq w6 (aRows S6 2 rfl) (fun wx hb => HI.out wx (bst S6.fin hb))).mono ?_
  rintro e w7 ⟨rfl, hb7⟩
  have S7 := S6.grow hb7
  have HA3 := hid (HA2.out.all eQok hb7)
  clear HA2 hb7 S6 d0 d1 d2 d3 d4 d5 d6 d7
  have heq : ∀ wx, (binOp .eql 9 (sv (tx 0)) (sv (tx 0))).run Tryd.prog wx = .ok (.bool true) wx := fun _ => by kernel_rfl
  obtain ⟨d0, d1, d2, d3, d4, d5, d6, d7⟩ := And.intro (S7.cell 1 rfl 0 rfl) (And.intro (S7.cell 1 rfl 1 rfl) (And.intro (S7.cell 1 rfl 2 rfl) (And.intro (S7.cell 1 rfl 3 rfl) (And.intro (S7.cell 1 rfl 4 rfl) (And.intro (S7.cell 1 rfl 5 rfl) (And.intro (S7.cell 1 rfl 6 rfl) (S7.cell 1 rfl 7 rfl)))))))
  obtain ⟨p0, p1, p2, p3, p4, p5, p6, p7⟩ := And.intro (S7.cell 3 rfl 0 rfl) (And.intro (S7.cell 3 rfl 1 rfl) (And.intro (S7.cell 3 rfl 2 rfl) (And.intro (S7.cell 3 rfl 3 rfl) (And.intro (S7.cell 3 rfl 4 rfl) (And.intro (S7.cell 3 rfl 5 rfl) (And.intro (S7.cell 3 rfl 6 rfl) (S7.cell 3 rfl 7 rfl)))))))
  have y0 := S7.cell 4 rfl 0 rfl
  have y7 := S7.cell 4 rfl 7 rfl
  go_wp2_with fail
  clear d0 d1 d2 d3 d4 d5 d6 d7 p0 p1 p2 p3 p4 p5 p6 p7 y0 y7
  refine (r27Same aD a (some ⟨gq, 0, none⟩) 1 q 1 [⟨0, 0, 0, 0, 0⟩] w7 rfl (by decide) HA3.out (aRows S7 2 rfl)).mono ?_
  rintro e w8 ⟨rfl, hb8⟩
  have S8 := S7.grow hb8
  have y0 := S8.cell 4 rfl 0 rfl
  have y7 := S8.cell 4 rfl 7 rfl
  go_wp2
  go_ret
  exact ⟨rfl, S8.fin⟩
end Go.Proofs.YtjfbmgndekfglaaDoor
