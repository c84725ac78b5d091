/- wave.behind, wave.Behind; the document's Behind; ahead.End, the document's End; book.Free, the document's. -/
import Derived.Test.YtjfbmgndekfglaaDoorWish
import Derived.Test.YtjfbmgndekfglaaDoorRightB4
import Derived.Lib.MinMax
namespace Go.Proofs.YtjfbmgndekfglaaDoor
set_option linter.unusedVariables false
set_option linter.unusedSimpArgs false
open Go.RowKit
def behB (s : STA) (x : ND) : Bool := x.up && (!x.moving && (x.version != s.meant))
def ND.free (x : ND) : Bool := x.up && (!x.cordon && (!x.moving && (x.job == 0)))
set_option maxRecDepth 10000 in
set_option maxHeartbeats 1600000 in
theorem bkFree (x : ND) (w : World) : Calls Tryd.prog 23 #[.agg #[.bool x.up, .bool x.cordon, .bool x.moving, .int .i64 x.version, .int .i64 x.job]] w fun e w' => e = .returned (.bool x.free) ∧ Below w.heap.size w w' := by
  have hb := ((St.start w).alloc (.cells #[.bool x.up, .bool x.cordon, .bool x.moving, .int .i64 x.version, .int .i64 x.job] 39)).fin
  have E : Hid (x.free = (x.up && (!x.cordon && (!x.moving && (x.job == 0))))) := rfl
  obtain ⟨u, c, m, v, j⟩ := x
  cases u
  · go_enter Tryd.func23, Tryd.ntmps23
    go_wp2
    go_ret
    exact ⟨by rw [E.out]; rfl, hb⟩
  cases c
  case true =>
    go_enter Tryd.func23, Tryd.ntmps23
    go_wp2
    go_ret
    exact ⟨by rw [E.out]; rfl, hb⟩
  cases m
  case true =>
    go_enter Tryd.func23, Tryd.ntmps23
    go_wp2
    go_ret
    exact ⟨by rw [E.out]; rfl, hb⟩
  go_enter Tryd.func23, Tryd.ntmps23
  go_wp2
  go_ret
  exact ⟨by rw [E.out]; rfl, hb⟩
set_option maxRecDepth 10000 in
set_option maxHeartbeats 1600000 in
theorem wvBehind1 (s : STA) (x : ND) (w : World) : Calls Tryd.prog 29 #[.agg #[.slice s.na s.nn s.nc, .slice s.ja s.jn s.jc, .int .i64 s.goal, .int .i64 s.prior, .int .i64 s.mode, .int .i64 s.term], .agg #[.bool x.up, .bool x.cordon, .bool x.moving, .int .i64 x.version, .int .i64 x.job]] w fun e w' => e = .returned (.bool (behB s x)) ∧ Below w.heap.size w w' := by
  have S1 : St w _ [cellsT w.heap.size 27 s.cs, cellsT (w.heap.size + 1) 39 x.cs] := ((St.start w).newAt 27 #[.slice s.na s.nn s.nc, .slice s.ja s.jn s.jc, .int .i64 s.goal, .int .i64 s.prior, .int .i64 s.mode, .int .i64 s.term] w.heap.size rfl).newAt 39 #[.bool x.up, .bool x.cordon, .bool x.moving, .int .i64 x.version, .int .i64 x.job] (w.heap.size + 1) (alloc_size _ _)
  have E : Hid (behB s x = (x.up && (!x.moving && (x.version != s.meant)))) := rfl
  obtain ⟨u, c, m, v, j⟩ := x
  go_enter Tryd.func29, Tryd.ntmps29
  go_wp2_with fail
  generalize w.heap.size + 1 = g2 at *
  generalize w.heap.size = g1 at S1 ⊢
  generalize (w.alloc _).alloc _ = w1 at *
  cases u
  case false =>
    refine wp_region_held_drew (S := (fun w' => w'.cell? ⟨g2, 0, none⟩ = some (.bool false))) (by kernel_rfl) (by exact S1.drew.cell 1 rfl 0 rfl) (fun hHeld => ?_)
    change wpAnyH _ _ _ _ _ 15 (Array.replicate 15 false) _ _
    refine wpAnyH_take (i := 0) (v := ?v1) (ops_at rfl) (by kernel_rfl) (by kernel_rfl) (by kernel_rfl) (fun _ _ _ h => h) (Or.inl ⟨by rfl, ?hy1⟩) (by assumption) ?rest1
    case hy1 => intro w' hSw; (try dsimp only at hSw); go_simp; try with_reducible rfl
    try simp only [Act.put, List.setIfInBounds_toArray, List.set_cons_zero, List.set_cons_succ]
    refine wpAnyH_take (i := 1) (v := ?v2) (ops_at rfl) (by kernel_rfl) (by kernel_rfl) (by kernel_rfl) (fun _ _ _ h => h) (Or.inl ⟨by rfl, ?hy2⟩) (by assumption) ?rest2
    case hy2 => intro w' hSw; (try dsimp only at hSw); go_simp; try with_reducible rfl
    try simp only [Act.put, List.setIfInBounds_toArray, List.set_cons_zero, List.set_cons_succ]
    refine wpAnyH_take (i := 2) (v := ?v3) (ops_at rfl) (by kernel_rfl) (by kernel_rfl) (by kernel_rfl) (fun _ _ _ h => h) (Or.inl ⟨by rfl, ?hy3⟩) (by assumption) ?rest3
    case hy3 => intro w' hSw; (try dsimp only at hSw); go_simp; try with_reducible rfl
    try simp only [Act.put, List.setIfInBounds_toArray, List.set_cons_zero, List.set_cons_succ]
    refine wpAnyH_take (i := 3) (v := undef) (ops_at rfl) (by kernel_rfl) (by kernel_rfl) (by kernel_rfl) (fun _ _ _ h => h) (Or.inr ⟨by rfl, rfl⟩) (by assumption) ?rest4
    try simp only [Act.put, List.setIfInBounds_toArray, List.set_cons_zero, List.set_cons_succ]
    refine wpAnyH_take (i := 4) (v := undef) (ops_at rfl) (by kernel_rfl) (by kernel_rfl) (by kernel_rfl) (fun _ _ _ h => h) (Or.inr ⟨by rfl, rfl⟩) (by assumption) ?rest5
    try simp only [Act.put, List.setIfInBounds_toArray, List.set_cons_zero, List.set_cons_succ]
    refine wpAnyH_take (i := 5) (v := undef) (ops_at rfl) (by kernel_rfl) (by kernel_rfl) (by kernel_rfl) (fun _ _ _ h => h) (Or.inr ⟨by rfl, rfl⟩) (by assumption) ?rest6
    try simp only [Act.put, List.setIfInBounds_toArray, List.set_cons_zero, List.set_cons_succ]
    refine wpAnyH_take (i := 6) (v := ?v7) (ops_at rfl) (by kernel_rfl) (by kernel_rfl) (by kernel_rfl) (fun _ _ _ h => h) (Or.inl ⟨by rfl, ?hy7⟩) (by assumption) ?rest7
    case hy7 => intro w' hSw; (try dsimp only at hSw); go_simp; try with_reducible rfl
    try simp only [Act.put, List.setIfInBounds_toArray, List.set_cons_zero, List.set_cons_succ]
    refine wpAnyH_take (i := 7) (v := ?v8) (ops_at rfl) (by kernel_rfl) (by kernel_rfl) (by kernel_rfl) (fun _ _ _ h => h) (Or.inl ⟨by rfl, ?hy8⟩) (by assumption) ?rest8
    case hy8 => intro w' hSw; (try dsimp only at hSw); go_simp; try with_reducible rfl
    try simp only [Act.put, List.setIfInBounds_toArray, List.set_cons_zero, List.set_cons_succ]
    refine wpAnyH_take (i := 8) (v := undef) (ops_at rfl) (by kernel_rfl) (by kernel_rfl) (by kernel_rfl) (fun _ _ _ h => h) (Or.inr ⟨by rfl, rfl⟩) (by assumption) ?rest9
    try simp only [Act.put, List.setIfInBounds_toArray, List.set_cons_zero, List.set_cons_succ]
    refine wpAnyH_take (i := 9) (v := undef) (ops_at rfl) (by kernel_rfl) (by kernel_rfl) (by kernel_rfl) (fun _ _ _ h => h) (Or.inr ⟨by rfl, rfl⟩) (by assumption) ?rest10
    try simp only [Act.put, List.setIfInBounds_toArray, List.set_cons_zero, List.set_cons_succ]
    refine wpAnyH_take (i := 10) (v := undef) (ops_at rfl) (by kernel_rfl) (by kernel_rfl) (by kernel_rfl) (fun _ _ _ h => h) (Or.inr ⟨by rfl, rfl⟩) (by assumption) ?rest11
    try simp only [Act.put, List.setIfInBounds_toArray, List.set_cons_zero, List.set_cons_succ]
    refine wpAnyH_take (i := 11) (v := undef) (ops_at rfl) (by kernel_rfl) (by kernel_rfl) (by kernel_rfl) (fun _ _ _ h => h) (Or.inr ⟨by rfl, rfl⟩) (by assumption) ?rest12
    try simp only [Act.put, List.setIfInBounds_toArray, List.set_cons_zero, List.set_cons_succ]
    refine wpAnyH_take (i := 12) (v := undef) (ops_at rfl) (by kernel_rfl) (by kernel_rfl) (by kernel_rfl) (fun _ _ _ h => h) (Or.inr ⟨by rfl, rfl⟩) (by assumption) ?rest13
    try simp only [Act.put, List.setIfInBounds_toArray, List.set_cons_zero, List.set_cons_succ]
    refine wpAnyH_take (i := 13) (v := ?v14) (ops_at rfl) (by kernel_rfl) (by kernel_rfl) (by kernel_rfl) (fun _ _ _ h => h) (Or.inl ⟨by rfl, ?hy14⟩) (by assumption) ?rest14
    case hy14 => intro w' hSw; (try dsimp only at hSw); go_simp; try with_reducible rfl
    try simp only [Act.put, List.setIfInBounds_toArray, List.set_cons_zero, List.set_cons_succ]
    refine wpAnyH_take (i := 14) (v := ?v15) (ops_at rfl) (by kernel_rfl) (by kernel_rfl) (by kernel_rfl) (fun _ _ _ h => h) (Or.inl ⟨by rfl, ?hy15⟩) (by assumption) ?rest15
    case hy15 => intro w' hSw; (try dsimp only at hSw); go_simp; try with_reducible rfl
    try simp only [Act.put, List.setIfInBounds_toArray, List.set_cons_zero, List.set_cons_succ]
    refine wpAnyH_done (by kernel_rfl) ?_ _
    go_wp2
    go_ret
    exact ⟨by rw [E.out]; rfl, S1.drew.fin⟩
  cases m
  case true =>
    refine wp_region_held_drew (S := (fun w' => w'.cell? ⟨g2, 0, none⟩ = some (.bool true) ∧ w'.cell? ⟨g2, 2, none⟩ = some (.bool true))) (by kernel_rfl) (by exact ⟨S1.drew.cell 1 rfl 0 rfl, S1.drew.cell 1 rfl 2 rfl⟩) (fun hHeld => ?_)
    change wpAnyH _ _ _ _ _ 15 (Array.replicate 15 false) _ _
    refine wpAnyH_take (i := 0) (v := ?v16) (ops_at rfl) (by kernel_rfl) (by kernel_rfl) (by kernel_rfl) (fun _ _ _ h => h) (Or.inl ⟨by rfl, ?hy16⟩) (by assumption) ?rest16
    case hy16 => intro w' hSw; (try dsimp only at hSw); go_simp; try with_reducible rfl
    try simp only [Act.put, List.setIfInBounds_toArray, List.set_cons_zero, List.set_cons_succ]
    refine wpAnyH_take (i := 1) (v := ?v17) (ops_at rfl) (by kernel_rfl) (by kernel_rfl) (by kernel_rfl) (fun _ _ _ h => h) (Or.inl ⟨by rfl, ?hy17⟩) (by assumption) ?rest17
    case hy17 => intro w' hSw; (try dsimp only at hSw); go_simp; try with_reducible rfl
    try simp only [Act.put, List.setIfInBounds_toArray, List.set_cons_zero, List.set_cons_succ]
    refine wpAnyH_take (i := 2) (v := ?v18) (ops_at rfl) (by kernel_rfl) (by kernel_rfl) (by kernel_rfl) (fun _ _ _ h => h) (Or.inl ⟨by rfl, ?hy18⟩) (by assumption) ?rest18
    case hy18 => intro w' hSw; (try dsimp only at hSw); go_simp; try with_reducible rfl
    try simp only [Act.put, List.setIfInBounds_toArray, List.set_cons_zero, List.set_cons_succ]
    refine wpAnyH_take (i := 3) (v := ?v19) (ops_at rfl) (by kernel_rfl) (by kernel_rfl) (by kernel_rfl) (fun _ _ _ h => h) (Or.inl ⟨by rfl, ?hy19⟩) (by assumption) ?rest19
    case hy19 => intro w' hSw; (try dsimp only at hSw); go_simp; try with_reducible rfl
    try simp only [Act.put, List.setIfInBounds_toArray, List.set_cons_zero, List.set_cons_succ]
    refine wpAnyH_take (i := 4) (v := ?v20) (ops_at rfl) (by kernel_rfl) (by kernel_rfl) (by kernel_rfl) (fun _ _ _ h => h) (Or.inl ⟨by rfl, ?hy20⟩) (by assumption) ?rest20
    case hy20 => intro w' hSw; (try dsimp only at hSw); go_simp; try with_reducible rfl
    try simp only [Act.put, List.setIfInBounds_toArray, List.set_cons_zero, List.set_cons_succ]
    refine wpAnyH_take (i := 5) (v := ?v21) (ops_at rfl) (by kernel_rfl) (by kernel_rfl) (by kernel_rfl) (fun _ _ _ h => h) (Or.inl ⟨by rfl, ?hy21⟩) (by assumption) ?rest21
    case hy21 => intro w' hSw; (try dsimp only at hSw); go_simp; try with_reducible rfl
    try simp only [Act.put, List.setIfInBounds_toArray, List.set_cons_zero, List.set_cons_succ]
    refine wpAnyH_take (i := 6) (v := ?v22) (ops_at rfl) (by kernel_rfl) (by kernel_rfl) (by kernel_rfl) (fun _ _ _ h => h) (Or.inl ⟨by rfl, ?hy22⟩) (by assumption) ?rest22
    case hy22 => intro w' hSw; (try dsimp only at hSw); go_simp; try with_reducible rfl
    try simp only [Act.put, List.setIfInBounds_toArray, List.set_cons_zero, List.set_cons_succ]
    refine wpAnyH_take (i := 7) (v := ?v23) (ops_at rfl) (by kernel_rfl) (by kernel_rfl) (by kernel_rfl) (fun _ _ _ h => h) (Or.inl ⟨by rfl, ?hy23⟩) (by assumption) ?rest23
    case hy23 => intro w' hSw; (try dsimp only at hSw); go_simp; try with_reducible rfl
    try simp only [Act.put, List.setIfInBounds_toArray, List.set_cons_zero, List.set_cons_succ]
    refine wpAnyH_take (i := 8) (v := undef) (ops_at rfl) (by kernel_rfl) (by kernel_rfl) (by kernel_rfl) (fun _ _ _ h => h) (Or.inr ⟨by rfl, rfl⟩) (by assumption) ?rest24
    try simp only [Act.put, List.setIfInBounds_toArray, List.set_cons_zero, List.set_cons_succ]
    refine wpAnyH_take (i := 9) (v := undef) (ops_at rfl) (by kernel_rfl) (by kernel_rfl) (by kernel_rfl) (fun _ _ _ h => h) (Or.inr ⟨by rfl, rfl⟩) (by assumption) ?rest25
    try simp only [Act.put, List.setIfInBounds_toArray, List.set_cons_zero, List.set_cons_succ]
    refine wpAnyH_take (i := 10) (v := undef) (ops_at rfl) (by kernel_rfl) (by kernel_rfl) (by kernel_rfl) (fun _ _ _ h => h) (Or.inr ⟨by rfl, rfl⟩) (by assumption) ?rest26
    try simp only [Act.put, List.setIfInBounds_toArray, List.set_cons_zero, List.set_cons_succ]
    refine wpAnyH_take (i := 11) (v := undef) (ops_at rfl) (by kernel_rfl) (by kernel_rfl) (by kernel_rfl) (fun _ _ _ h => h) (Or.inr ⟨by rfl, rfl⟩) (by assumption) ?rest27
    try simp only [Act.put, List.setIfInBounds_toArray, List.set_cons_zero, List.set_cons_succ]
    refine wpAnyH_take (i := 12) (v := undef) (ops_at rfl) (by kernel_rfl) (by kernel_rfl) (by kernel_rfl) (fun _ _ _ h => h) (Or.inr ⟨by rfl, rfl⟩) (by assumption) ?rest28
    try simp only [Act.put, List.setIfInBounds_toArray, List.set_cons_zero, List.set_cons_succ]
    refine wpAnyH_take (i := 13) (v := ?v29) (ops_at rfl) (by kernel_rfl) (by kernel_rfl) (by kernel_rfl) (fun _ _ _ h => h) (Or.inl ⟨by rfl, ?hy29⟩) (by assumption) ?rest29
    case hy29 => intro w' hSw; (try dsimp only at hSw); go_simp; try with_reducible rfl
    try simp only [Act.put, List.setIfInBounds_toArray, List.set_cons_zero, List.set_cons_succ]
    refine wpAnyH_take (i := 14) (v := ?v30) (ops_at rfl) (by kernel_rfl) (by kernel_rfl) (by kernel_rfl) (fun _ _ _ h => h) (Or.inl ⟨by rfl, ?hy30⟩) (by assumption) ?rest30
    case hy30 => intro w' hSw; (try dsimp only at hSw); go_simp; try with_reducible rfl
    try simp only [Act.put, List.setIfInBounds_toArray, List.set_cons_zero, List.set_cons_succ]
    refine wpAnyH_done (by kernel_rfl) ?_ _
    go_wp2
    go_ret
    exact ⟨by rw [E.out]; rfl, S1.drew.fin⟩
  refine wp_region_held_drew (S := (fun w' => w'.cell? ⟨g2, 0, none⟩ = some (.bool true) ∧ w'.cell? ⟨g2, 2, none⟩ = some (.bool false) ∧ w'.cell? ⟨g2, 3, none⟩ = some (.int .i64 v) ∧ (w'.cell? ⟨g1, 0, none⟩ = some (.slice s.na s.nn s.nc) ∧ w'.cell? ⟨g1, 1, none⟩ = some (.slice s.ja s.jn s.jc) ∧ w'.cell? ⟨g1, 2, none⟩ = some (.int .i64 s.goal) ∧ w'.cell? ⟨g1, 3, none⟩ = some (.int .i64 s.prior) ∧ w'.cell? ⟨g1, 4, none⟩ = some (.int .i64 s.mode) ∧ w'.cell? ⟨g1, 5, none⟩ = some (.int .i64 s.term)))) (by kernel_rfl) (by exact ⟨S1.drew.cell 1 rfl 0 rfl, S1.drew.cell 1 rfl 2 rfl, S1.drew.cell 1 rfl 3 rfl, S1.drew.sC 0 rfl⟩) (fun hHeld => ?_)
  change wpAnyH _ _ _ _ _ 15 (Array.replicate 15 false) _ _
  refine wpAnyH_take (i := 0) (v := ?v31) (ops_at rfl) (by kernel_rfl) (by kernel_rfl) (by kernel_rfl) (fun _ _ _ h => h) (Or.inl ⟨by rfl, ?hy31⟩) (by assumption) ?rest31
  case hy31 => intro w' hSw; (try dsimp only at hSw); go_simp; try with_reducible rfl
  try simp only [Act.put, List.setIfInBounds_toArray, List.set_cons_zero, List.set_cons_succ]
  refine wpAnyH_take (i := 1) (v := ?v32) (ops_at rfl) (by kernel_rfl) (by kernel_rfl) (by kernel_rfl) (fun _ _ _ h => h) (Or.inl ⟨by rfl, ?hy32⟩) (by assumption) ?rest32
  case hy32 => intro w' hSw; (try dsimp only at hSw); go_simp; try with_reducible rfl
  try simp only [Act.put, List.setIfInBounds_toArray, List.set_cons_zero, List.set_cons_succ]
  refine wpAnyH_take (i := 2) (v := ?v33) (ops_at rfl) (by kernel_rfl) (by kernel_rfl) (by kernel_rfl) (fun _ _ _ h => h) (Or.inl ⟨by rfl, ?hy33⟩) (by assumption) ?rest33
  case hy33 => intro w' hSw; (try dsimp only at hSw); go_simp; try with_reducible rfl
  try simp only [Act.put, List.setIfInBounds_toArray, List.set_cons_zero, List.set_cons_succ]
  refine wpAnyH_take (i := 3) (v := ?v34) (ops_at rfl) (by kernel_rfl) (by kernel_rfl) (by kernel_rfl) (fun _ _ _ h => h) (Or.inl ⟨by rfl, ?hy34⟩) (by assumption) ?rest34
  case hy34 => intro w' hSw; (try dsimp only at hSw); go_simp; try with_reducible rfl
  try simp only [Act.put, List.setIfInBounds_toArray, List.set_cons_zero, List.set_cons_succ]
  refine wpAnyH_take (i := 4) (v := ?v35) (ops_at rfl) (by kernel_rfl) (by kernel_rfl) (by kernel_rfl) (fun _ _ _ h => h) (Or.inl ⟨by rfl, ?hy35⟩) (by assumption) ?rest35
  case hy35 => intro w' hSw; (try dsimp only at hSw); go_simp; try with_reducible rfl
  try simp only [Act.put, List.setIfInBounds_toArray, List.set_cons_zero, List.set_cons_succ]
  refine wpAnyH_take (i := 5) (v := ?v36) (ops_at rfl) (by kernel_rfl) (by kernel_rfl) (by kernel_rfl) (fun _ _ _ h => h) (Or.inl ⟨by rfl, ?hy36⟩) (by assumption) ?rest36
  case hy36 => intro w' hSw; (try dsimp only at hSw); go_simp; try with_reducible rfl
  try simp only [Act.put, List.setIfInBounds_toArray, List.set_cons_zero, List.set_cons_succ]
  refine wpAnyH_take (i := 6) (v := ?v37) (ops_at rfl) (by kernel_rfl) (by kernel_rfl) (by kernel_rfl) (fun _ _ _ h => h) (Or.inl ⟨by rfl, ?hy37⟩) (by assumption) ?rest37
  case hy37 => intro w' hSw; (try dsimp only at hSw); go_simp; try with_reducible rfl
  try simp only [Act.put, List.setIfInBounds_toArray, List.set_cons_zero, List.set_cons_succ]
  refine wpAnyH_take (i := 7) (v := ?v38) (ops_at rfl) (by kernel_rfl) (by kernel_rfl) (by kernel_rfl) (fun _ _ _ h => h) (Or.inl ⟨by rfl, ?hy38⟩) (by assumption) ?rest38
  case hy38 => intro w' hSw; (try dsimp only at hSw); go_simp; try with_reducible rfl
  try simp only [Act.put, List.setIfInBounds_toArray, List.set_cons_zero, List.set_cons_succ]
  refine wpAnyH_take (i := 8) (v := ?v39) (ops_at rfl) (by kernel_rfl) (by kernel_rfl) (by kernel_rfl) (fun _ _ _ h => h) (Or.inl ⟨by rfl, ?hy39⟩) (by assumption) ?rest39
  case hy39 => intro w' hSw; (try dsimp only at hSw); go_simp; try with_reducible rfl
  try simp only [Act.put, List.setIfInBounds_toArray, List.set_cons_zero, List.set_cons_succ]
  refine wpAnyH_take (i := 9) (v := ?v40) (ops_at rfl) (by kernel_rfl) (by kernel_rfl) (by kernel_rfl) (fun _ _ _ h => h) (Or.inl ⟨by rfl, ?hy40⟩) (by assumption) ?rest40
  case hy40 => intro w' hSw; (try dsimp only at hSw); go_simp; try with_reducible rfl
  try simp only [Act.put, List.setIfInBounds_toArray, List.set_cons_zero, List.set_cons_succ]
  refine wpAnyH_take (i := 10) (v := ?v41) (ops_at rfl) (by kernel_rfl) (by kernel_rfl) (by kernel_rfl) (fun _ _ _ h => h) (Or.inl ⟨by rfl, ?hy41⟩) (by assumption) ?rest41
  case hy41 => intro w' hSw; (try dsimp only at hSw); go_simp; try with_reducible rfl
  try simp only [Act.put, List.setIfInBounds_toArray, List.set_cons_zero, List.set_cons_succ]
  refine wpAnyH_ready (rs := [11]) (by kernel_rfl) (by simp) ?_
  refine AllReadyH.cons (ops_at rfl) (fun K hK => ?_) AllReadyH.nil
  go_simp
  refine (wMeant s _).mono ?_
  rintro e w2 ⟨rfl, hb2⟩
  have S2 := S1.drew.grow hb2
  refine hK.out _ _ (by exact ⟨S2.cell 1 rfl 0 rfl, S2.cell 1 rfl 2 rfl, S2.cell 1 rfl 3 rfl, S2.sC 0 rfl⟩) (fun hHeld => ?_)
  clear hK K
  try simp only [Act.put, List.setIfInBounds_toArray, List.set_cons_zero, List.set_cons_succ]
  refine wpAnyH_take (i := 12) (v := ?v43) (ops_at rfl) (by kernel_rfl) (by kernel_rfl) (by kernel_rfl) (fun _ _ _ h => h) (Or.inl ⟨by rfl, ?hy43⟩) (by assumption) ?rest43
  case hy43 => intro w' hSw; (try dsimp only at hSw); go_simp; try with_reducible rfl
  try simp only [Act.put, List.setIfInBounds_toArray, List.set_cons_zero, List.set_cons_succ]
  refine wpAnyH_take (i := 13) (v := ?v44) (ops_at rfl) (by kernel_rfl) (by kernel_rfl) (by kernel_rfl) (fun _ _ _ h => h) (Or.inl ⟨by rfl, ?hy44⟩) (by assumption) ?rest44
  case hy44 => intro w' hSw; (try dsimp only at hSw); go_simp; try with_reducible rfl
  try simp only [Act.put, List.setIfInBounds_toArray, List.set_cons_zero, List.set_cons_succ]
  refine wpAnyH_take (i := 14) (v := ?v45) (ops_at rfl) (by kernel_rfl) (by kernel_rfl) (by kernel_rfl) (fun _ _ _ h => h) (Or.inl ⟨by rfl, ?hy45⟩) (by assumption) ?rest45
  case hy45 => intro w' hSw; (try dsimp only at hSw); go_simp; try with_reducible rfl
  try simp only [Act.put, List.setIfInBounds_toArray, List.set_cons_zero, List.set_cons_succ]
  refine wpAnyH_done (by kernel_rfl) ?_ _
  go_wp2
  go_ret
  exact ⟨by rw [E.out]; rfl, S2.fin⟩
def behK (s : STA) : Nat → List Int
  | 0 => []
  | k + 1 => behK s k ++ (match s.N[k]? with | some x => if behB s x = true then [(k : Int)] else [] | none => [])
theorem behK_le (s : STA) : ∀ k, (behK s k).length ≤ k
  | 0 => Nat.le_refl _
  | k + 1 => by
    have := behK_le s k
    rw [behK, List.length_append]
    cases s.N[k]? with
    | none => simp; omega
    | some x => by_cases h : behB s x = true <;> simp [h] <;> omega
set_option maxRecDepth 10000 in
set_option maxHeartbeats 3200000 in
theorem wvBehind (s : STA) (w : World) (hs : s.At w) (hn : s.nn ≤ 1000000) :
    Calls Tryd.prog 12 #[.agg #[.slice s.na s.nn s.nc, .slice s.ja s.jn s.jc, .int .i64 s.goal, .int .i64 s.prior, .int .i64 s.mode, .int .i64 s.term]] w fun e w' => ∃ p c, e = .returned (.slice p (behK s s.nn).length c) ∧ OwnG eI w' w.heap.size (.slice p (behK s s.nn).length c) (behK s s.nn) ∧ Below w.heap.size w w' := by
  have S0 : St w _ [ownT eI (.slice none 0 0) [], cellsT w.heap.size 27 s.cs] := (((St.start w).newAt 27 #[.slice s.na s.nn s.nc, .slice s.ja s.jn s.jc, .int .i64 s.goal, .int .i64 s.prior, .int .i64 s.mode, .int .i64 s.term] w.heap.size rfl).nilG eI).rot
  have HS := hid hs
  clear hs
  go_enter Tryd.func12, Tryd.ntmps12
  go_wp2_with fail
  have hg : w.heap.size ≤ w.heap.size := Nat.le_refl _
  generalize w.alloc _ = w1 at *
  go_loopw [3, 9] (fun v i wr => ∃ (k : Nat) (p : Option Addr) (c : Nat), k ≤ s.nn ∧ v = .slice p (behK s k).length c ∧ i = .int .i64 k ∧ St w wr [ownT eI (.slice p (behK s k).length c) (behK s k), cellsT w.heap.size 27 s.cs]) (fun _ i _ => s.nn - (intOf i).toNat)
  case atStart => exact ⟨0, none, 0, Nat.zero_le _, rfl, rfl, S0⟩
  case round =>
    obtain ⟨k, p, c, hk, rfl, rfl, Sk⟩ := hrel
    clear S0
    by_cases hlt : k < s.nn
    case neg =>
      have g0 : decide ((k : Int) < (s.nn : Int)) = false := decide_eq_false (by omega)
      have g0n : decide (k < s.nn) = false := decide_eq_false (by omega)
      have e : Hid (k = s.nn) := by rw [Hid]; omega
      clear hlt hk
      go_wp2
      go_ret
      obtain ⟨F, ⟨ho, -⟩, -⟩ := Sk.step 0 rfl
      exact ⟨p, c, by rw [← e.out]; rfl, by rw [← e.out]; exact ho, Sk.fin⟩
    have g0 : decide ((k : Int) < (s.nn : Int)) = true := decide_eq_true (by omega)
    have g0n : decide (k < s.nn) = true := decide_eq_true (by omega)
    have hkl : k < s.N.length := by rw [HS.out.nn]; exact hlt
    have i0 := fun wx => idxND s.na s.nn s.nc (fun h => HS.out.n.ok (by rw [HS.out.nn]; exact h)) k hlt wx
    obtain ⟨y0, y1, y2, y3, y4⟩ := (HS.out.n.all eNDok Sk.fin).ndAt hkl
    have HSt : Hid (behK s (k + 1) = behK s k ++ if behB s s.N[k] = true then [(k : Int)] else []) := by rw [Hid, behK, List.getElem?_eq_getElem hkl]
    have hml := behK_le s k
    generalize s.N[k] = x at *
    generalize adr s.na (k * 5) = A at *
    have S2 := Sk.alloc (.cells #[.bool x.up, .bool x.cordon, .bool x.moving, .int .i64 x.version, .int .i64 x.job] 39)
    obtain ⟨z0, z1, z2, z3, z4, z5⟩ := S2.sC 1 rfl
    go_wp2_with fail
    generalize wr.alloc _ = w2 at *
    refine (wvBehind1 s x w2).mono ?_
    rintro e w3 ⟨rfl, hb3⟩
    have S3 := S2.grow hb3
    clear S2 hb3 z0 z1 z2 z3 z4 z5
    cases hb : behB s x
    · have E : Hid (behK s (k + 1) = behK s k) := by rw [Hid, HSt.out, hb]; simp
      clear HSt hb
      go_wp2
      go_roundw
      case rel => exact ⟨k + 1, p, c, by omega, by rw [E.out], by go_num, by rw [E.out]; exact S3⟩
      case measure => simp [intOf]; omega
    · have E : Hid (behK s (k + 1) = behK s k ++ [(k : Int)]) := by rw [Hid, HSt.out, hb]; simp
      have El : Hid ((behK s (k + 1)).length = (behK s k).length + 1) := by rw [Hid, E.out]; simp
      clear HSt hb
      go_wp2_with (at_builtin; refine wpList_app (by rfl) (.tmp 17) (.tmp 19) eI.T eI.T eI.T rfl rfl _ _ rfl rfl (S3.appG1 eIok w3.heap.size rfl 0 rfl (k : Int) _ (by rfl) ((behK s k).length + 1) rfl (by show _ * 8 ≤ _; omega) (by unfold maxLen; omega)) ?_; rintro v5 w5 ⟨⟨a5, c5, rfl⟩, S5⟩)
      go_roundw
      case rel => exact ⟨k + 1, a5, c5, by omega, by rw [El.out], by go_num, by rw [El.out, E.out]; exact S5⟩
      case measure => simp [intOf]; omega
def ndEnd (j : JB) (now : Int) : Int := if j.phase = 1 then now + j.work else if j.phase = 2 then max now (j.since + j.work) else if j.phase = 3 then max now j.until_ else -1
def endS (s : STA) (job now : Int) : Int := if job < 1 then -1 else match s.J[(job - 1).toNat]? with | none => -1 | some j => ndEnd j now
/-- Times of jobs that may be reckoned with. -/
def JB.calm (j : JB) : Prop := 0 ≤ j.work ∧ j.work ≤ 1000000 ∧ 0 ≤ j.since ∧ j.since ≤ 1000000 ∧ 0 ≤ j.until_ ∧ j.until_ ≤ 1000000
set_option maxRecDepth 10000 in
set_option maxHeartbeats 3200000 in
theorem ahEnd (s : STA) (job now : Int) (w : World) (hs : s.At w) (hn : s.jn ≤ 1000000) (h0 : 0 ≤ now) (h1 : now ≤ 1000000) (hc : ∀ j ∈ s.J, j.calm) (hj0 : -9223372036854775808 ≤ job) (hj1 : job ≤ 9223372036854775807) :
    Calls Tryd.prog 24 #[.agg #[.slice s.na s.nn s.nc, .slice s.ja s.jn s.jc, .int .i64 s.goal, .int .i64 s.prior, .int .i64 s.mode, .int .i64 s.term], .int .i64 job, .int .i64 now] w fun e w' => e = .returned (.int .i64 (endS s job now)) ∧ Below w.heap.size w w' := by
  have S1 : St w _ [cellsT w.heap.size 27 s.cs] := (St.start w).newAt 27 #[.slice s.na s.nn s.nc, .slice s.ja s.jn s.jc, .int .i64 s.goal, .int .i64 s.prior, .int .i64 s.mode, .int .i64 s.term] w.heap.size rfl
  have hb := S1.fin
  have HS := hid hs
  have HC := hid hc
  clear hs hc
  by_cases q1 : job < 1
  · have g1 : decide (job < 1) = true := decide_eq_true q1
    have E : Hid (endS s job now = -1) := if_pos q1
    clear q1
    go_enter Tryd.func24, Tryd.ntmps24
    go_wp2
    go_ret
    exact ⟨by rw [E.out]; rfl, hb⟩
  have g1 : decide (job < 1) = false := decide_eq_false q1
  by_cases q2 : (s.jn : Int) < job
  · have g2 : decide ((s.jn : Int) < job) = true := decide_eq_true q2
    have E : Hid (endS s job now = -1) := by
      rw [Hid, endS, if_neg q1, List.getElem?_eq_none (by rw [HS.out.jn]; omega)]
    go_enter Tryd.func24, Tryd.ntmps24
    go_wp2
    go_ret
    exact ⟨by rw [E.out]; rfl, hb⟩
  have g2 : decide ((s.jn : Int) < job) = false := decide_eq_false q2
  obtain ⟨k, hk⟩ : ∃ k : Nat, job = (k : Int) + 1 := ⟨(job - 1).toNat, by omega⟩
  subst hk
  have hkn : k < s.jn := by omega
  have hkl : k < s.J.length := by rw [HS.out.jn]; exact hkn
  have hw : IntKind.i64.wrap ((k : Int) + 1 - 1) = (k : Int) := by rw [IntKind.wrap_i64]; omega
  have i0 := fun wx => idxJB s.ja s.jn s.jc (fun h => HS.out.j.ok (by rw [HS.out.jn]; exact h)) k (k : Int) rfl hkn wx
  have A1 := (HS.out.j.all eJBok hb).jbAt hkl
  have hcalm := HC.out _ (List.getElem_mem hkl)
  have HE : Hid (endS s ((k : Int) + 1) now = ndEnd s.J[k] now) := by
    rw [Hid, endS, if_neg q1, show ((k : Int) + 1 - 1).toNat = k by omega, List.getElem?_eq_getElem hkl]
  generalize s.J[k] = j at *
  generalize adr s.ja (k * 12) = A at *
  obtain ⟨x0, x1, x2, x3, x4, x5, x6, x7, x8, x9, x10, x11⟩ := A1
  obtain ⟨m1, m2, m3, m4, m5, m6⟩ := hcalm
  have hw1 : IntKind.i64.wrap (now + j.work) = now + j.work := by rw [IntKind.wrap_i64]; omega
  have hw2 : IntKind.i64.wrap (j.since + j.work) = j.since + j.work := by rw [IntKind.wrap_i64]; omega
  have hb2 := (S1.alloc (.cells #[.int .i64 j.queue, .int .i64 j.prio, .int .i64 j.lo, .int .i64 j.hi, .int .i64 j.work, .int .i64 j.pin, .int .i64 j.phase, .int .i64 j.inc, .int .i64 j.nodes, .int .i64 j.since, .int .i64 j.until_, .int .i64 j.epoch] 51)).fin
  clear q1 q2
  have EE := HE.out
  unfold ndEnd at EE
  by_cases p1 : j.phase = 1
  · rw [if_pos p1] at EE
    have r1 : (j.phase == 1) = true := by simpa using p1
    have E := hid EE
    clear p1 EE HE
    go_enter Tryd.func24, Tryd.ntmps24
    go_wp2
    go_ret
    exact ⟨by rw [E.out]; rfl, hb2⟩
  rw [if_neg p1] at EE
  have r1 : (j.phase == 1) = false := by simpa using p1
  by_cases p2 : j.phase = 2
  · rw [if_pos p2] at EE
    have r2 : (j.phase == 2) = true := by simpa using p2
    have E := hid EE
    clear p1 p2 EE HE
    go_enter Tryd.func24, Tryd.ntmps24
    go_wp2
    go_ret
    exact ⟨by rw [E.out]; rfl, hb2⟩
  rw [if_neg p2] at EE
  have r2 : (j.phase == 2) = false := by simpa using p2
  by_cases p3 : j.phase = 3
  · rw [if_pos p3] at EE
    have r3 : (j.phase == 3) = true := by simpa using p3
    have E := hid EE
    clear p1 p2 p3 EE HE
    go_enter Tryd.func24, Tryd.ntmps24
    go_wp2
    go_ret
    exact ⟨by rw [E.out]; rfl, hb2⟩
  rw [if_neg p3] at EE
  have r3 : (j.phase == 3) = false := by simpa using p3
  have E := hid EE
  clear p1 p2 p3 EE HE
  go_enter Tryd.func24, Tryd.ntmps24
  go_wp2
  go_ret
  exact ⟨by rw [E.out]; rfl, hb2⟩
end Go.Proofs.YtjfbmgndekfglaaDoor
