/- The document's journal (dunnageref07): Room. -/
import Derived.Test.YtmfbbonppmhabaaJournalRef2
import Derived.Test.YtmfbbonppmhabaaLogRel
import Derived.Test.YtmfbbonppmhabaaJournal3
namespace Go.Proofs.Ytmfbbonppmhabaa
set_option linter.unusedVariables false
set_option linter.unusedSimpArgs false
open Go.RowKit
section
variable {w0 w : World} {tl : List Thing} {gm gs gl : Nat} {pr : Value} {cnt age : Int} {fr sz q : Nat} {r : RD} {xs : List BS}
set_option maxRecDepth 10000 in
set_option maxHeartbeats 3200000 in
theorem rjRoom_any {aL : Option Addr} {cL : Nat} (S : St w0 w (cellsT gm 51 (rjC (.pointer (some ⟨gs, 0, none⟩)) (.pointer (some ⟨gl, 0, none⟩)) (cnt) age) :: cellsT gl 90 (rlogC pr fr sz (.slice aL xs.length cL)) :: rdT pr r :: rowsT eS bsRefs (.slice aL xs.length cL) xs :: tl)) (n u : Nat) (hn : n ≤ maxLen) (hhd : ∀ x ∈ xs, BS.Hd x) (hok : ∀ x ∈ xs, x.l.length ≤ 4000) (hu : ((xs.map BS.l).flatMap frameB).length = u) (hle : u ≤ sz) (hsz : sz ≤ 65536) :
    Calls Try.prog 27 #[(.pointer (some ⟨gm, 0, none⟩)), .int .i64 (n : Int)] w fun e w' => e = .returned (.bool (jRoom sz u cnt (n : Int))) ∧ St w0 w' (cellsT gm 51 (rjC (.pointer (some ⟨gs, 0, none⟩)) (.pointer (some ⟨gl, 0, none⟩)) (cnt) age) :: cellsT gl 90 (rlogC pr fr sz (.slice aL xs.length cL)) :: rdT pr r :: rowsT eS bsRefs (.slice aL xs.length cL) xs :: tl) := by
  have HHd := hid hhd
  have HOk := hid hok
  have HU := hid hu
  unfold maxLen at hn
  clear hhd hok hu
  by_cases q1 : n < 1
  · have E : Hid (jRoom sz u cnt (n : Int) = false) := by rw [Hid, jRoom, decide_eq_false (show ¬ (1 : Int) ≤ (n : Int) by omega), Bool.false_and]
    have g0 : decide ((n : Int) < 1) = true := decide_eq_true (by omega)
    have g0n : decide (n < 1) = true := decide_eq_true q1
    go_enter Try.func27, Try.ntmps27
    go_wp2
    go_ret
    rw [E.out]
    exact ⟨rfl, S⟩
  have g0 : decide ((n : Int) < 1) = false := decide_eq_false (by omega)
  have g0n : decide (n < 1) = false := decide_eq_false q1
  by_cases q2 : 3900 < n
  · have E : Hid (jRoom sz u cnt (n : Int) = false) := by rw [Hid, jRoom, decide_eq_false (show ¬ (n : Int) ≤ 3900 by omega), Bool.false_and, Bool.and_false]
    have g1 : decide ((3900 : Int) < (n : Int)) = true := decide_eq_true (by omega)
    have g1n : decide (3900 < n) = true := decide_eq_true q2
    go_enter Try.func27, Try.ntmps27
    go_wp2
    go_ret
    rw [E.out]
    exact ⟨rfl, S⟩
  have g1 : decide ((3900 : Int) < (n : Int)) = false := decide_eq_false (by omega)
  have g1n : decide (3900 < n) = false := decide_eq_false q2
  have hcl := codeNum_len cnt
  obtain ⟨nn, hnn⟩ : ∃ nn, (codeNum cnt).length = nn := ⟨_, rfl⟩
  rw [hnn] at hcl
  have hrl : (List.replicate (n + nn) (0 : UInt8)).length = n + nn := List.length_replicate
  have hfl := frame_len (p := List.replicate (n + nn) (0 : UInt8)) (by rw [hrl]; omega) (by rw [hrl]; omega)
  rw [hrl] at hfl
  obtain ⟨f, hf⟩ : ∃ f, (frameB (List.replicate (n + nn) (0 : UInt8))).length = f := ⟨_, rfl⟩
  have E : Hid (jRoom sz u cnt (n : Int) = decide (f ≤ sz - u)) := by
    have h := room_is (p := List.replicate (n + nn) (0 : UInt8)) (sz := sz) (u := u) (by rw [hrl]; omega) (by rw [hrl]; omega) hle
    rw [hrl, hf] at h
    rw [Hid, show decide (f ≤ sz - u) = decide ((f : Int) ≤ ((sz - u : Nat) : Int)) from decide_eq_decide.2 (by omega), jRoom, decide_eq_true (show (1 : Int) ≤ (n : Int) by omega), decide_eq_true (show (n : Int) ≤ 3900 by omega), Bool.true_and, Bool.true_and, hnn, ← h]
    congr 1
  have HF := hid hf
  have hf0 : 0 < f := by omega
  have HNn := hid hnn
  have HRl := hid hrl
  clear hfl hf hnn hrl
  have g2 : decide ((0 : Int) < (f : Int)) = true := decide_eq_true (by omega)
  have g2n : decide (0 < f) = true := decide_eq_true hf0
  have t1 : IntKind.i64.wrap ((n : Int) + (nn : Int)) = ((n + nn : Nat) : Int) := by rw [IntKind.wrap_i64]; omega
  have t2 : IntKind.i64.wrap ((sz : Int) - (u : Int)) = ((sz - u : Nat) : Int) := by rw [IntKind.wrap_i64]; omega
  have keep : ∀ {w' : World} {r : List Thing}, St w0 w' (cellsT gm 51 (rjC (.pointer (some ⟨gs, 0, none⟩)) (.pointer (some ⟨gl, 0, none⟩)) (cnt) age) :: cellsT gl 90 (rlogC pr fr sz (.slice aL xs.length cL)) :: r) → w'.cell? ⟨gm, 1, none⟩ = some (.pointer (some ⟨gl, 0, none⟩)) ∧ w'.cell? ⟨gl, 2, none⟩ = some (.int .i64 (sz : Int)) := fun S => ⟨S.cell 0 rfl 1 rfl, S.cell 1 rfl 2 rfl⟩
  have c2 := S.cell 0 rfl 2 rfl
  go_enter Try.func27, Try.ntmps27
  go_wp2_with fail
  refine (rnum_any cnt _).mono ?_
  rintro e w3 ⟨v3, rfl, ho3, hb3⟩
  obtain ⟨a3, c3, rfl⟩ := ho3.written HNn.out
  have S3 := S.grow hb3
  clear ho3 hb3 c2 S
  go_wp2_with (at_make; refine wpList_make (by rfl) (.tmp 19) (.tmp 19) 27 rfl _ _ rfl rfl (run_make _ (n + nn) (by omega)) ?_; rintro v8 w8 ⟨rfl, ho8, hb8⟩)
  have S8 := (S3.bytes ho8 hb8).rot
  refine (rfrPut_any _ (List.replicate (n + nn) 0) (n + nn) _ w8 HRl.out (by omega) (by exact S8.at 0 rfl)).mono ?_
  rintro e w9 ⟨a9, c9, rfl, ho9, hb9⟩
  rw [HF.out]
  have S9 := S8.tail.grow hb9
  clear ho8 hb8 ho9 hb9 S3 S8
  go_wp2_with fail
  refine wp_region_held_drew (S := (fun w' => w'.cell? ⟨gm, 1, none⟩ = some (.pointer (some ⟨gl, 0, none⟩)) ∧ w'.cell? ⟨gl, 2, none⟩ = some (.int .i64 (sz : Int)))) (by kernel_rfl) (by exact keep S9.drew) (fun hHeld => ?_)
  change wpAnyH _ _ _ _ _ 22 (Array.replicate 22 false) _ _
  refine wpAnyH_take (i := 0) (v := ?v1) (ops_at rfl) (by kernel_rfl) (by kernel_rfl) (by kernel_rfl) (fun _ _ _ h => h) (Or.inl ⟨by rfl, ?hy1⟩) (by assumption) ?rest1
  case hy1 => intro w' hSw; (try dsimp only at hSw); go_simp; try with_reducible rfl
  try simp only [Act.put, List.setIfInBounds_toArray, List.set_cons_zero, List.set_cons_succ]
  refine wpAnyH_take (i := 1) (v := ?v2) (ops_at rfl) (by kernel_rfl) (by kernel_rfl) (by kernel_rfl) (fun _ _ _ h => h) (Or.inl ⟨by rfl, ?hy2⟩) (by assumption) ?rest2
  case hy2 => intro w' hSw; (try dsimp only at hSw); go_simp; try with_reducible rfl
  try simp only [Act.put, List.setIfInBounds_toArray, List.set_cons_zero, List.set_cons_succ]
  refine wpAnyH_take (i := 2) (v := ?v3) (ops_at rfl) (by kernel_rfl) (by kernel_rfl) (by kernel_rfl) (fun _ _ _ h => h) (Or.inl ⟨by rfl, ?hy3⟩) (by assumption) ?rest3
  case hy3 => intro w' hSw; (try dsimp only at hSw); go_simp; try with_reducible rfl
  try simp only [Act.put, List.setIfInBounds_toArray, List.set_cons_zero, List.set_cons_succ]
  refine wpAnyH_take (i := 3) (v := ?v4) (ops_at rfl) (by kernel_rfl) (by kernel_rfl) (by kernel_rfl) (fun _ _ _ h => h) (Or.inl ⟨by rfl, ?hy4⟩) (by assumption) ?rest4
  case hy4 => intro w' hSw; (try dsimp only at hSw); go_simp; try with_reducible rfl
  try simp only [Act.put, List.setIfInBounds_toArray, List.set_cons_zero, List.set_cons_succ]
  refine wpAnyH_take (i := 4) (v := ?v5) (ops_at rfl) (by kernel_rfl) (by kernel_rfl) (by kernel_rfl) (fun _ _ _ h => h) (Or.inl ⟨by rfl, ?hy5⟩) (by assumption) ?rest5
  case hy5 => intro w' hSw; (try dsimp only at hSw); go_simp; try with_reducible rfl
  try simp only [Act.put, List.setIfInBounds_toArray, List.set_cons_zero, List.set_cons_succ]
  refine wpAnyH_take (i := 5) (v := ?v6) (ops_at rfl) (by kernel_rfl) (by kernel_rfl) (by kernel_rfl) (fun _ _ _ h => h) (Or.inl ⟨by rfl, ?hy6⟩) (by assumption) ?rest6
  case hy6 => intro w' hSw; (try dsimp only at hSw); go_simp; try with_reducible rfl
  try simp only [Act.put, List.setIfInBounds_toArray, List.set_cons_zero, List.set_cons_succ]
  refine wpAnyH_take (i := 6) (v := ?v7) (ops_at rfl) (by kernel_rfl) (by kernel_rfl) (by kernel_rfl) (fun _ _ _ h => h) (Or.inl ⟨by rfl, ?hy7⟩) (by assumption) ?rest7
  case hy7 => intro w' hSw; (try dsimp only at hSw); go_simp; try with_reducible rfl
  try simp only [Act.put, List.setIfInBounds_toArray, List.set_cons_zero, List.set_cons_succ]
  refine wpAnyH_take (i := 7) (v := ?v8) (ops_at rfl) (by kernel_rfl) (by kernel_rfl) (by kernel_rfl) (fun _ _ _ h => h) (Or.inl ⟨by rfl, ?hy8⟩) (by assumption) ?rest8
  case hy8 => intro w' hSw; (try dsimp only at hSw); go_simp; try with_reducible rfl
  try simp only [Act.put, List.setIfInBounds_toArray, List.set_cons_zero, List.set_cons_succ]
  refine wpAnyH_take (i := 8) (v := ?v9) (ops_at rfl) (by kernel_rfl) (by kernel_rfl) (by kernel_rfl) (fun _ _ _ h => h) (Or.inl ⟨by rfl, ?hy9⟩) (by assumption) ?rest9
  case hy9 => intro w' hSw; (try dsimp only at hSw); go_simp; try with_reducible rfl
  try simp only [Act.put, List.setIfInBounds_toArray, List.set_cons_zero, List.set_cons_succ]
  refine wpAnyH_take (i := 9) (v := ?v10) (ops_at rfl) (by kernel_rfl) (by kernel_rfl) (by kernel_rfl) (fun _ _ _ h => h) (Or.inl ⟨by rfl, ?hy10⟩) (by assumption) ?rest10
  case hy10 => intro w' hSw; (try dsimp only at hSw); go_simp; try with_reducible rfl
  try simp only [Act.put, List.setIfInBounds_toArray, List.set_cons_zero, List.set_cons_succ]
  refine wpAnyH_take (i := 10) (v := ?v11) (ops_at rfl) (by kernel_rfl) (by kernel_rfl) (by kernel_rfl) (fun _ _ _ h => h) (Or.inl ⟨by rfl, ?hy11⟩) (by assumption) ?rest11
  case hy11 => intro w' hSw; (try dsimp only at hSw); go_simp; try with_reducible rfl
  try simp only [Act.put, List.setIfInBounds_toArray, List.set_cons_zero, List.set_cons_succ]
  refine wpAnyH_take (i := 11) (v := ?v12) (ops_at rfl) (by kernel_rfl) (by kernel_rfl) (by kernel_rfl) (fun _ _ _ h => h) (Or.inl ⟨by rfl, ?hy12⟩) (by assumption) ?rest12
  case hy12 => intro w' hSw; (try dsimp only at hSw); go_simp; try with_reducible rfl
  try simp only [Act.put, List.setIfInBounds_toArray, List.set_cons_zero, List.set_cons_succ]
  refine wpAnyH_take (i := 12) (v := ?v13) (ops_at rfl) (by kernel_rfl) (by kernel_rfl) (by kernel_rfl) (fun _ _ _ h => h) (Or.inl ⟨by rfl, ?hy13⟩) (by assumption) ?rest13
  case hy13 => intro w' hSw; (try dsimp only at hSw); go_simp; try with_reducible rfl
  try simp only [Act.put, List.setIfInBounds_toArray, List.set_cons_zero, List.set_cons_succ]
  refine wpAnyH_take (i := 13) (v := ?v14) (ops_at rfl) (by kernel_rfl) (by kernel_rfl) (by kernel_rfl) (fun _ _ _ h => h) (Or.inl ⟨by rfl, ?hy14⟩) (by assumption) ?rest14
  case hy14 => intro w' hSw; (try dsimp only at hSw); go_simp; try with_reducible rfl
  try simp only [Act.put, List.setIfInBounds_toArray, List.set_cons_zero, List.set_cons_succ]
  refine wpAnyH_take (i := 14) (v := ?v15) (ops_at rfl) (by kernel_rfl) (by kernel_rfl) (by kernel_rfl) (fun _ _ _ h => h) (Or.inl ⟨by rfl, ?hy15⟩) (by assumption) ?rest15
  case hy15 => intro w' hSw; (try dsimp only at hSw); go_simp; try with_reducible rfl
  try simp only [Act.put, List.setIfInBounds_toArray, List.set_cons_zero, List.set_cons_succ]
  refine wpAnyH_take (i := 15) (v := ?v16) (ops_at rfl) (by kernel_rfl) (by kernel_rfl) (by kernel_rfl) (fun _ _ _ h => h) (Or.inl ⟨by rfl, ?hy16⟩) (by assumption) ?rest16
  case hy16 => intro w' hSw; (try dsimp only at hSw); go_simp; try with_reducible rfl
  try simp only [Act.put, List.setIfInBounds_toArray, List.set_cons_zero, List.set_cons_succ]
  refine wpAnyH_take (i := 16) (v := ?v17) (ops_at rfl) (by kernel_rfl) (by kernel_rfl) (by kernel_rfl) (fun _ _ _ h => h) (Or.inl ⟨by rfl, ?hy17⟩) (by assumption) ?rest17
  case hy17 => intro w' hSw; (try dsimp only at hSw); go_simp; try with_reducible rfl
  try simp only [Act.put, List.setIfInBounds_toArray, List.set_cons_zero, List.set_cons_succ]
  refine wpAnyH_ready (rs := [17]) (by kernel_rfl) (by simp) ?_
  refine AllReadyH.cons (ops_at rfl) (fun K hK => ?_) AllReadyH.nil
  go_simp
  have S10 : St w0 w9.drew (cellsT gl 90 (rlogC pr fr sz (.slice aL xs.length cL)) :: rowsT eS bsRefs (.slice aL xs.length cL) xs :: cellsT gm 51 (rjC (.pointer (some ⟨gs, 0, none⟩)) (.pointer (some ⟨gl, 0, none⟩)) (cnt) age) :: rdT pr r :: tl) := (S9.drew.front 3 rfl).front 2 rfl
  refine (rUsed_any S10 u HU.out (by omega) HHd.out HOk.out).mono ?_
  rintro e w10 ⟨rfl, S11⟩
  have S12 : St w0 w10 (cellsT gm 51 (rjC (.pointer (some ⟨gs, 0, none⟩)) (.pointer (some ⟨gl, 0, none⟩)) (cnt) age) :: cellsT gl 90 (rlogC pr fr sz (.slice aL xs.length cL)) :: rdT pr r :: rowsT eS bsRefs (.slice aL xs.length cL) xs :: tl) := (((S11.front 1 rfl).front 3 rfl).front 2 rfl).front 3 rfl
  refine hK.out _ _ (by exact keep S12) (fun hHeld => ?_)
  clear hK K
  try simp only [Act.put, List.setIfInBounds_toArray, List.set_cons_zero, List.set_cons_succ]
  refine wpAnyH_take (i := 18) (v := ?v19) (ops_at rfl) (by kernel_rfl) (by kernel_rfl) (by kernel_rfl) (fun _ _ _ h => h) (Or.inl ⟨by rfl, ?hy19⟩) (by assumption) ?rest19
  case hy19 => intro w' hSw; (try dsimp only at hSw); go_simp; try with_reducible rfl
  try simp only [Act.put, List.setIfInBounds_toArray, List.set_cons_zero, List.set_cons_succ]
  refine wpAnyH_take (i := 19) (v := ?v20) (ops_at rfl) (by kernel_rfl) (by kernel_rfl) (by kernel_rfl) (fun _ _ _ h => h) (Or.inl ⟨by rfl, ?hy20⟩) (by assumption) ?rest20
  case hy20 => intro w' hSw; (try dsimp only at hSw); go_simp; try with_reducible rfl
  try simp only [Act.put, List.setIfInBounds_toArray, List.set_cons_zero, List.set_cons_succ]
  refine wpAnyH_take (i := 20) (v := ?v21) (ops_at rfl) (by kernel_rfl) (by kernel_rfl) (by kernel_rfl) (fun _ _ _ h => h) (Or.inl ⟨by rfl, ?hy21⟩) (by assumption) ?rest21
  case hy21 => intro w' hSw; (try dsimp only at hSw); go_simp; try with_reducible rfl
  try simp only [Act.put, List.setIfInBounds_toArray, List.set_cons_zero, List.set_cons_succ]
  refine wpAnyH_take (i := 21) (v := ?v22) (ops_at rfl) (by kernel_rfl) (by kernel_rfl) (by kernel_rfl) (fun _ _ _ h => h) (Or.inl ⟨by rfl, ?hy22⟩) (by assumption) ?rest22
  case hy22 => intro w' hSw; (try dsimp only at hSw); go_simp; try with_reducible rfl
  try simp only [Act.put, List.setIfInBounds_toArray, List.set_cons_zero, List.set_cons_succ]
  refine wpAnyH_done (by kernel_rfl) ?_ _
  go_wp2
  go_ret
  rw [E.out]
  exact ⟨rfl, S12⟩
end
end Go.Proofs.Ytmfbbonppmhabaa
