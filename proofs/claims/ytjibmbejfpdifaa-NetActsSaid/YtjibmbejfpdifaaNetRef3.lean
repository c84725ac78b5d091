/- The document's net: Twice, Flip, List; messages held against each other. -/
import Derived.Test.YtjibmbejfpdifaaNetRef2
namespace Go.Proofs.Ytjibmbejfpdifaa
set_option linter.unusedVariables false
set_option linter.unusedSimpArgs false
open Go.RowKit
section
variable {w0 w : World} {tl : List Thing} {h : Nat} {aL aB : Option Addr} {cL cB : Nat} {s : NS}
set_option maxRecDepth 10000 in
set_option maxHeartbeats 3200000 in
theorem rnTwice_any (S : St w0 w (rnL h aL cL aB cB s tl)) (i : Int) :
    Calls Try.prog 32 #[.pointer (some ⟨h, 0, none⟩), .int .i64 i] w fun e w' => RPost w0 h tl (nTwice s i) e w' := by
  by_cases hi : 0 ≤ i ∧ i < (s.l.length : Int)
  case neg =>
    have HE : Hid (∀ e w', e = .returned (.bool false) → St w0 w' (rnL h aL cL aB cB s tl) → RPost w0 h tl (nTwice s i) e w') := by
      intro e w' h1 h2; unfold nTwice; rw [if_neg (fun q => hi q.1)]; exact ⟨aL, cL, aB, cB, h1, h2⟩
    have g0 := hid (has_no hi)
    clear hi
    go_enter Try.func32, Try.ntmps32
    go_wp2_with fail
    refine (rnHas_any S i).mono ?_
    rintro e w1 ⟨rfl, rfl⟩
    rw [g0.out]
    go_wp2
    go_ret
    exact HE.out _ _ rfl S
  have g0 := hid (has_yes hi)
  obtain ⟨j, rfl⟩ : ∃ j : Nat, i = j := ⟨i.toNat, by omega⟩
  have hj : j < s.l.length := by omega
  have c0 := S.cell 0 rfl 0 rfl
  by_cases h40 : s.l.length < 40
  case neg =>
    have HE : Hid (∀ e w', e = .returned (.bool false) → St w0 w' (rnL h aL cL aB cB s tl) → RPost w0 h tl (nTwice s j) e w') := by
      intro e w' h1 h2; unfold nTwice; rw [if_neg (fun q => h40 q.2)]; exact ⟨aL, cL, aB, cB, h1, h2⟩
    have g1 : decide ((40 : Int) ≤ (s.l.length : Int)) = true := decide_eq_true (by omega)
    have g1n : decide (40 ≤ s.l.length) = true := decide_eq_true (by omega)
    clear hi h40
    go_enter Try.func32, Try.ntmps32
    go_wp2_with fail
    refine (rnHas_any S j).mono ?_
    rintro e w1 ⟨rfl, rfl⟩
    rw [g0.out]
    go_wp2
    go_ret
    exact HE.out _ _ rfl S
  have g1 : decide ((40 : Int) ≤ (s.l.length : Int)) = false := decide_eq_false (by omega)
  have g1n : decide (40 ≤ s.l.length) = false := decide_eq_false (by omega)
  have HE : Hid (∀ e w' aL cL aB cB, e = .returned (.bool true) → St w0 w' (rnL h aL cL aB cB ⟨s.l ++ [s.l[j]], s.sent⟩ tl) → RPost w0 h tl (nTwice s j) e w') := by
    intro e w' aL cL aB cB h1 h2; unfold nTwice; rw [if_pos ⟨hi, h40⟩, Int.toNat_natCast, getD_at hj]; exact ⟨aL, cL, aB, cB, h1, h2⟩
  have hjM : j < (s.l.map NM.m).length := by rw [List.length_map]; exact hj
  have hjT : j < (s.l.map fun x => x.k.isSome).length := by rw [List.length_map]; exact hj
  obtain ⟨x, hx⟩ : ∃ x, s.l[j] = x := ⟨_, rfl⟩
  have hm : (s.l.map NM.m)[j] = x.m := by rw [List.getElem_map, hx]
  have hb : (s.l.map fun x => x.k.isSome)[j] = x.k.isSome := by rw [List.getElem_map, hx]
  rw [hx] at HE
  obtain ⟨m, hm0⟩ : ∃ m, x.m = m := ⟨_, rfl⟩
  obtain ⟨b, hb0⟩ : ∃ b, x.k.isSome = b := ⟨_, rfl⟩
  rw [hm0] at hm
  rw [hb0] at hb
  have i0 := fun wx => idxM aL s.l.length cL (fun h => (S.slG eMok 1 rfl).2.2.2.2.ok (Nat.lt_of_le_of_lt (Nat.zero_le _) hjM)) j hj wx
  have i1 := fun wx => idxT aB s.l.length cB (fun h => (S.slC eTok 2 rfl).2.2.2.2.1.ok (Nat.lt_of_le_of_lt (Nat.zero_le _) hjT)) j hj wx
  have HMA : Hid (∀ w' tl, St w0 w' (cellsT h 50 [.slice aL s.l.length cL, .slice aB s.l.length cB, .int .i64 (s.sent : Int)] :: ownT eM (.slice aL s.l.length cL) (s.l.map NM.m) :: tl) → MsgAt w' (adr aL (j * 11)) m) := by
    intro w' tl S'
    have := (S'.slG eMok 1 rfl).2.2.2.2.msgAt hjM
    rwa [hm] at this
  have HTA : Hid (∀ w' v l tl, St w0 w' (cellsT h 50 v :: ownT eM l (s.l.map NM.m ++ [m]) :: ownCT eT (.slice aB s.l.length cB) (s.l.map fun x => x.k.isSome) :: tl) → w'.cell? (adr aB j) = some (.bool b)) := by
    intro w' v l tl S'
    have := (S'.slC eTok 2 rfl).2.2.2.2.1.cellT hjT
    rwa [hb] at this
  have HX : Hid (x.m = m ∧ x.k.isSome = b) := ⟨hm0, hb0⟩
  clear hi hx hm hb hm0 hb0
  generalize adr aL (j * 11) = A at *
  generalize adr aB j = B at *
  go_enter Try.func32, Try.ntmps32
  go_wp2_with fail
  refine (rnHas_any S j).mono ?_
  rintro e w1 ⟨rfl, rfl⟩
  rw [g0.out]
  clear c0
  have c0 := S.cell 0 rfl 0 rfl
  go_wp2_with fail
  clear g1 g1n c0
  refine wp_region_heldZ (S := (fun w' => (w'.cell? A = some (.int .i64 m.node) ∧ w'.cell? { block := A.block, off := A.off + 1 } = some (.int .i64 m.kind) ∧ w'.cell? { block := A.block, off := A.off + 2 } = some (.int .i64 m.term) ∧ w'.cell? { block := A.block, off := A.off + 3 } = some (.int .i64 m.gen) ∧ w'.cell? { block := A.block, off := A.off + 4 } = some (.int .i64 m.job) ∧ w'.cell? { block := A.block, off := A.off + 5 } = some (.int .i64 m.inc) ∧ w'.cell? { block := A.block, off := A.off + 6 } = some (.int .i64 m.version) ∧ w'.cell? { block := A.block, off := A.off + 7 } = some (.int .i64 m.epoch) ∧ w'.cell? { block := A.block, off := A.off + 8 } = some (.int .i64 m.until_) ∧ w'.cell? { block := A.block, off := A.off + 9 } = some (.int .i64 m.mode) ∧ w'.cell? { block := A.block, off := A.off + 10 } = some (.int .i64 m.work)) ∧ w'.cell? ⟨h, 0, none⟩ = some (.slice aL s.l.length cL))) 13 (by kernel_rfl) (by exact ⟨HMA.out _ _ S.drew, S.drew.cell 0 rfl 0 rfl⟩) (fun hHeld => ?_)
  change wpAnyZ _ _ _ _ _ 13 17 (Array.replicate 17 false) _ _
  refine wpAnyZ_pure (i := 0) (v := ?v1) (ops_at rfl) (by kernel_rfl) (by kernel_rfl) (by kernel_rfl) (by kernel_rfl) (by rfl) (fun _ _ _ h => h) (Or.inl ⟨by rfl, ?hy1⟩) (fun _ => by assumption) ?rest1
  case hy1 => intro w' hSw; (try dsimp only at hSw); go_simp; try with_reducible rfl
  try simp only [Act.put, List.setIfInBounds_toArray, List.set_cons_zero, List.set_cons_succ]
  refine wpAnyZ_take (i := 1) (v := ?v2) (ops_at rfl) (by kernel_rfl) (by kernel_rfl) (by kernel_rfl) (by kernel_rfl) [2, 3, 4, 13] (by kernel_rfl) (by rfl) (fun _ _ _ h => h) (Or.inl ⟨by rfl, ?hy2⟩) (by assumption) ?rest2
  case hy2 => intro w' hSw; (try dsimp only at hSw); go_simp; try with_reducible rfl
  try simp only [Act.put, List.setIfInBounds_toArray, List.set_cons_zero, List.set_cons_succ]
  refine wpAnyZ_take (i := 2) (v := ?v3) (ops_at rfl) (by kernel_rfl) (by kernel_rfl) (by kernel_rfl) (by kernel_rfl) [3, 4, 13] (by kernel_rfl) (by rfl) (fun _ _ _ h => h) (Or.inl ⟨by rfl, ?hy3⟩) (by assumption) ?rest3
  case hy3 => intro w' hSw; (try dsimp only at hSw); go_simp; try with_reducible rfl
  try simp only [Act.put, List.setIfInBounds_toArray, List.set_cons_zero, List.set_cons_succ]
  refine wpAnyZ_take (i := 3) (v := ?v4) (ops_at rfl) (by kernel_rfl) (by kernel_rfl) (by kernel_rfl) (by kernel_rfl) [4, 13] (by kernel_rfl) (by rfl) (fun _ _ _ h => h) (Or.inl ⟨by rfl, ?hy4⟩) (by assumption) ?rest4
  case hy4 => intro w' hSw; (try dsimp only at hSw); go_simp; try with_reducible rfl
  try simp only [Act.put, List.setIfInBounds_toArray, List.set_cons_zero, List.set_cons_succ]
  refine wpAnyZ_take (i := 4) (v := ?v5) (ops_at rfl) (by kernel_rfl) (by kernel_rfl) (by kernel_rfl) (by kernel_rfl) [13] (by kernel_rfl) (by rfl) (fun _ _ _ h => h) (Or.inl ⟨by rfl, ?hy5⟩) (by assumption) ?rest5
  case hy5 => intro w' hSw; (try dsimp only at hSw); go_simp; try with_reducible rfl
  try simp only [Act.put, List.setIfInBounds_toArray, List.set_cons_zero, List.set_cons_succ]
  refine wpAnyZ_take (i := 5) (v := ?v6) (ops_at rfl) (by kernel_rfl) (by kernel_rfl) (by kernel_rfl) (by kernel_rfl) [6, 7, 8, 10, 11, 12, 13] (by kernel_rfl) (by rfl) (fun _ _ _ h => h) (Or.inl ⟨by rfl, ?hy6⟩) (by assumption) ?rest6
  case hy6 => intro w' hSw; (try dsimp only at hSw); go_simp; try with_reducible rfl
  try simp only [Act.put, List.setIfInBounds_toArray, List.set_cons_zero, List.set_cons_succ]
  refine wpAnyZ_take (i := 6) (v := ?v7) (ops_at rfl) (by kernel_rfl) (by kernel_rfl) (by kernel_rfl) (by kernel_rfl) [7, 8, 10, 11, 12, 13] (by kernel_rfl) (by rfl) (fun _ _ _ h => h) (Or.inl ⟨by rfl, ?hy7⟩) (by assumption) ?rest7
  case hy7 => intro w' hSw; (try dsimp only at hSw); go_simp; try with_reducible rfl
  try simp only [Act.put, List.setIfInBounds_toArray, List.set_cons_zero, List.set_cons_succ]
  refine wpAnyZ_take (i := 7) (v := ?v8) (ops_at rfl) (by kernel_rfl) (by kernel_rfl) (by kernel_rfl) (by kernel_rfl) [8, 10, 11, 12, 13] (by kernel_rfl) (by rfl) (fun _ _ _ h => h) (Or.inl ⟨by rfl, ?hy8⟩) (by assumption) ?rest8
  case hy8 => intro w' hSw; (try dsimp only at hSw); go_simp; try with_reducible rfl
  try simp only [Act.put, List.setIfInBounds_toArray, List.set_cons_zero, List.set_cons_succ]
  refine wpAnyZ_take (i := 8) (v := ?v9) (ops_at rfl) (by kernel_rfl) (by kernel_rfl) (by kernel_rfl) (by kernel_rfl) [10, 11, 12, 13] (by kernel_rfl) (by rfl) (fun _ _ _ h => h) (Or.inl ⟨by rfl, ?hy9⟩) (by assumption) ?rest9
  case hy9 => intro w' hSw; (try dsimp only at hSw); go_simp; try with_reducible rfl
  try simp only [Act.put, List.setIfInBounds_toArray, List.set_cons_zero, List.set_cons_succ]
  refine wpAnyZ_take (i := 9) (v := ?v10) (ops_at rfl) (by kernel_rfl) (by kernel_rfl) (by kernel_rfl) (by kernel_rfl) [10, 11, 12, 13] (by kernel_rfl) (by rfl) (fun _ _ _ h => h) (Or.inl ⟨by rfl, ?hy10⟩) (by assumption) ?rest10
  case hy10 => intro w' hSw; (try dsimp only at hSw); go_simp; try with_reducible rfl
  try simp only [Act.put, List.setIfInBounds_toArray, List.set_cons_zero, List.set_cons_succ]
  refine wpAnyZ_take (i := 10) (v := ?v11) (ops_at rfl) (by kernel_rfl) (by kernel_rfl) (by kernel_rfl) (by kernel_rfl) [11, 12, 13] (by kernel_rfl) (by rfl) (fun _ _ _ h => h) (Or.inl ⟨by rfl, ?hy11⟩) (by assumption) ?rest11
  case hy11 => intro w' hSw; (try dsimp only at hSw); go_simp; try with_reducible rfl
  try simp only [Act.put, List.setIfInBounds_toArray, List.set_cons_zero, List.set_cons_succ]
  refine wpAnyZ_take (i := 11) (v := ?v12) (ops_at rfl) (by kernel_rfl) (by kernel_rfl) (by kernel_rfl) (by kernel_rfl) [12, 13] (by kernel_rfl) (by rfl) (fun _ _ _ h => h) (Or.inl ⟨by rfl, ?hy12⟩) (by assumption) ?rest12
  case hy12 => intro w' hSw; (try dsimp only at hSw); go_simp; try with_reducible rfl
  try simp only [Act.put, List.setIfInBounds_toArray, List.set_cons_zero, List.set_cons_succ]
  refine wpAnyZ_one (i := 12) (by kernel_rfl) (ops_at rfl) (fun K hK => ?_)
  go_simp
  refine hK.out _ _ (by exact ⟨HMA.out _ _ (S.drew.alloc _), (S.drew.alloc _).cell 0 rfl 0 rfl⟩) (fun hHeld => ?_)
  clear hK K
  try simp only [Act.put, List.setIfInBounds_toArray, List.set_cons_zero, List.set_cons_succ]
  refine wpAnyZ_free (i := 13) (by kernel_rfl) (ops_at rfl) (by kernel_rfl) (fun K hK => ?_)
  refine step_app (by rfl) (.tmp 21) (.tmp 29) eM.T eM.T eM.T rfl rfl _ _ rfl rfl (S.drew.appG1 eMok w.heap.size rfl 1 rfl m _ (by rfl) (s.l.length + 1) (by rw [List.length_map]) (by show _ * 88 ≤ _; omega) (by unfold maxLen; omega)) ?_
  rintro v6 w6 ⟨⟨a6, c6, rfl⟩, S6⟩
  have f6 := S6.frozen 0 rfl 0
  have d6 := S6.cell 0 rfl 0 rfl
  refine hK.out _ _ ?_
  clear hK K
  try simp only [Act.put, List.setIfInBounds_toArray, List.set_cons_zero, List.set_cons_succ]
  refine wpAnyZ_pure (i := 14) (v := ?v13) (ops_at rfl) (by kernel_rfl) (by kernel_rfl) (by kernel_rfl) (by kernel_rfl) (by rfl) (fun _ _ _ h => h) (Or.inl ⟨by rfl, ?hy13⟩) (fun h => absurd h (by decide)) ?rest13
  case hy13 => intro w' hSw; (try dsimp only at hSw); go_simp; try with_reducible rfl
  try simp only [Act.put, List.setIfInBounds_toArray, List.set_cons_zero, List.set_cons_succ]
  refine wpAnyZ_pure (i := 15) (v := ?v14) (ops_at rfl) (by kernel_rfl) (by kernel_rfl) (by kernel_rfl) (by kernel_rfl) (by rfl) (fun _ _ _ h => h) (Or.inl ⟨by rfl, ?hy14⟩) (fun h => absurd h (by decide)) ?rest14
  case hy14 => intro w' hSw; (try dsimp only at hSw); go_simp; try with_reducible rfl
  try simp only [Act.put, List.setIfInBounds_toArray, List.set_cons_zero, List.set_cons_succ]
  refine wpAnyZ_free (i := 16) (by kernel_rfl) (ops_at rfl) (by kernel_rfl) (fun K hK => ?_)
  go_simp
  refine hK.out _ _ ?_
  clear hK K
  try simp only [Act.put, List.setIfInBounds_toArray, List.set_cons_zero, List.set_cons_succ]
  refine wpAnyZ_done (by kernel_rfl) ?_ _
  have S7 : St w0 _ (cellsT h 50 [.slice a6 (s.l.length + 1) c6, .slice aB s.l.length cB, .int .i64 (s.sent : Int)] :: ownT eM (.slice a6 (s.l.length + 1) c6) (s.l.map NM.m ++ [m]) :: ownCT eT (.slice aB s.l.length cB) (s.l.map fun x => x.k.isSome) :: tl) := S6.setCell 0 rfl 0 (.slice a6 (s.l.length + 1) c6)
  clear f6 d6 S6
  generalize w6.setCell _ _ = w7 at *
  clear HMA i0 hjM
  go_wp2_with fail
  refine wp_region_heldZ (S := (fun w' => w'.cell? B = some (.bool b) ∧ w'.cell? ⟨h, 1, none⟩ = some (.slice aB s.l.length cB))) 13 (by kernel_rfl) (by exact ⟨HTA.out _ _ _ _ S7.drew, S7.drew.cell 0 rfl 1 rfl⟩) (fun hHeld => ?_)
  change wpAnyZ _ _ _ _ _ 13 17 (Array.replicate 17 false) _ _
  refine wpAnyZ_pure (i := 0) (v := ?v15) (ops_at rfl) (by kernel_rfl) (by kernel_rfl) (by kernel_rfl) (by kernel_rfl) (by rfl) (fun _ _ _ h => h) (Or.inl ⟨by rfl, ?hy15⟩) (fun _ => by assumption) ?rest15
  case hy15 => intro w' hSw; (try dsimp only at hSw); go_simp; try with_reducible rfl
  try simp only [Act.put, List.setIfInBounds_toArray, List.set_cons_zero, List.set_cons_succ]
  refine wpAnyZ_take (i := 1) (v := ?v16) (ops_at rfl) (by kernel_rfl) (by kernel_rfl) (by kernel_rfl) (by kernel_rfl) [2, 3, 4, 13] (by kernel_rfl) (by rfl) (fun _ _ _ h => h) (Or.inl ⟨by rfl, ?hy16⟩) (by assumption) ?rest16
  case hy16 => intro w' hSw; (try dsimp only at hSw); go_simp; try with_reducible rfl
  try simp only [Act.put, List.setIfInBounds_toArray, List.set_cons_zero, List.set_cons_succ]
  refine wpAnyZ_take (i := 2) (v := ?v17) (ops_at rfl) (by kernel_rfl) (by kernel_rfl) (by kernel_rfl) (by kernel_rfl) [3, 4, 13] (by kernel_rfl) (by rfl) (fun _ _ _ h => h) (Or.inl ⟨by rfl, ?hy17⟩) (by assumption) ?rest17
  case hy17 => intro w' hSw; (try dsimp only at hSw); go_simp; try with_reducible rfl
  try simp only [Act.put, List.setIfInBounds_toArray, List.set_cons_zero, List.set_cons_succ]
  refine wpAnyZ_take (i := 3) (v := ?v18) (ops_at rfl) (by kernel_rfl) (by kernel_rfl) (by kernel_rfl) (by kernel_rfl) [4, 13] (by kernel_rfl) (by rfl) (fun _ _ _ h => h) (Or.inl ⟨by rfl, ?hy18⟩) (by assumption) ?rest18
  case hy18 => intro w' hSw; (try dsimp only at hSw); go_simp; try with_reducible rfl
  try simp only [Act.put, List.setIfInBounds_toArray, List.set_cons_zero, List.set_cons_succ]
  refine wpAnyZ_take (i := 4) (v := ?v19) (ops_at rfl) (by kernel_rfl) (by kernel_rfl) (by kernel_rfl) (by kernel_rfl) [13] (by kernel_rfl) (by rfl) (fun _ _ _ h => h) (Or.inl ⟨by rfl, ?hy19⟩) (by assumption) ?rest19
  case hy19 => intro w' hSw; (try dsimp only at hSw); go_simp; try with_reducible rfl
  try simp only [Act.put, List.setIfInBounds_toArray, List.set_cons_zero, List.set_cons_succ]
  refine wpAnyZ_take (i := 5) (v := ?v20) (ops_at rfl) (by kernel_rfl) (by kernel_rfl) (by kernel_rfl) (by kernel_rfl) [6, 7, 8, 10, 11, 12, 13] (by kernel_rfl) (by rfl) (fun _ _ _ h => h) (Or.inl ⟨by rfl, ?hy20⟩) (by assumption) ?rest20
  case hy20 => intro w' hSw; (try dsimp only at hSw); go_simp; try with_reducible rfl
  try simp only [Act.put, List.setIfInBounds_toArray, List.set_cons_zero, List.set_cons_succ]
  refine wpAnyZ_take (i := 6) (v := ?v21) (ops_at rfl) (by kernel_rfl) (by kernel_rfl) (by kernel_rfl) (by kernel_rfl) [7, 8, 10, 11, 12, 13] (by kernel_rfl) (by rfl) (fun _ _ _ h => h) (Or.inl ⟨by rfl, ?hy21⟩) (by assumption) ?rest21
  case hy21 => intro w' hSw; (try dsimp only at hSw); go_simp; try with_reducible rfl
  try simp only [Act.put, List.setIfInBounds_toArray, List.set_cons_zero, List.set_cons_succ]
  refine wpAnyZ_take (i := 7) (v := ?v22) (ops_at rfl) (by kernel_rfl) (by kernel_rfl) (by kernel_rfl) (by kernel_rfl) [8, 10, 11, 12, 13] (by kernel_rfl) (by rfl) (fun _ _ _ h => h) (Or.inl ⟨by rfl, ?hy22⟩) (by assumption) ?rest22
  case hy22 => intro w' hSw; (try dsimp only at hSw); go_simp; try with_reducible rfl
  try simp only [Act.put, List.setIfInBounds_toArray, List.set_cons_zero, List.set_cons_succ]
  refine wpAnyZ_take (i := 8) (v := ?v23) (ops_at rfl) (by kernel_rfl) (by kernel_rfl) (by kernel_rfl) (by kernel_rfl) [10, 11, 12, 13] (by kernel_rfl) (by rfl) (fun _ _ _ h => h) (Or.inl ⟨by rfl, ?hy23⟩) (by assumption) ?rest23
  case hy23 => intro w' hSw; (try dsimp only at hSw); go_simp; try with_reducible rfl
  try simp only [Act.put, List.setIfInBounds_toArray, List.set_cons_zero, List.set_cons_succ]
  refine wpAnyZ_take (i := 9) (v := ?v24) (ops_at rfl) (by kernel_rfl) (by kernel_rfl) (by kernel_rfl) (by kernel_rfl) [10, 11, 12, 13] (by kernel_rfl) (by rfl) (fun _ _ _ h => h) (Or.inl ⟨by rfl, ?hy24⟩) (by assumption) ?rest24
  case hy24 => intro w' hSw; (try dsimp only at hSw); go_simp; try with_reducible rfl
  try simp only [Act.put, List.setIfInBounds_toArray, List.set_cons_zero, List.set_cons_succ]
  refine wpAnyZ_take (i := 10) (v := ?v25) (ops_at rfl) (by kernel_rfl) (by kernel_rfl) (by kernel_rfl) (by kernel_rfl) [11, 12, 13] (by kernel_rfl) (by rfl) (fun _ _ _ h => h) (Or.inl ⟨by rfl, ?hy25⟩) (by assumption) ?rest25
  case hy25 => intro w' hSw; (try dsimp only at hSw); go_simp; try with_reducible rfl
  try simp only [Act.put, List.setIfInBounds_toArray, List.set_cons_zero, List.set_cons_succ]
  refine wpAnyZ_take (i := 11) (v := ?v26) (ops_at rfl) (by kernel_rfl) (by kernel_rfl) (by kernel_rfl) (by kernel_rfl) [12, 13] (by kernel_rfl) (by rfl) (fun _ _ _ h => h) (Or.inl ⟨by rfl, ?hy26⟩) (by assumption) ?rest26
  case hy26 => intro w' hSw; (try dsimp only at hSw); go_simp; try with_reducible rfl
  try simp only [Act.put, List.setIfInBounds_toArray, List.set_cons_zero, List.set_cons_succ]
  refine wpAnyZ_one (i := 12) (by kernel_rfl) (ops_at rfl) (fun K hK => ?_)
  go_simp
  refine hK.out _ _ (by exact ⟨HTA.out _ _ _ _ (S7.drew.alloc _), (S7.drew.alloc _).cell 0 rfl 1 rfl⟩) (fun hHeld => ?_)
  clear hK K
  try simp only [Act.put, List.setIfInBounds_toArray, List.set_cons_zero, List.set_cons_succ]
  refine wpAnyZ_free (i := 13) (by kernel_rfl) (ops_at rfl) (by kernel_rfl) (fun K hK => ?_)
  refine step_app (by rfl) (.tmp 37) (.tmp 45) eT.T eT.T eT.T rfl rfl _ _ rfl rfl (S7.drew.appC1 eTok w7.heap.size rfl 2 rfl b _ (by rfl) (s.l.length + 1) (by rw [List.length_map]) (by show _ * 1 ≤ _; omega) (by unfold maxLen; omega)) ?_
  rintro v8 w8 ⟨⟨a8, c8, rfl⟩, S8⟩
  have f8 := S8.frozen 0 rfl 1
  have d8 := S8.cell 0 rfl 1 rfl
  refine hK.out _ _ ?_
  clear hK K
  try simp only [Act.put, List.setIfInBounds_toArray, List.set_cons_zero, List.set_cons_succ]
  refine wpAnyZ_pure (i := 14) (v := ?v27) (ops_at rfl) (by kernel_rfl) (by kernel_rfl) (by kernel_rfl) (by kernel_rfl) (by rfl) (fun _ _ _ h => h) (Or.inl ⟨by rfl, ?hy27⟩) (fun h => absurd h (by decide)) ?rest27
  case hy27 => intro w' hSw; (try dsimp only at hSw); go_simp; try with_reducible rfl
  try simp only [Act.put, List.setIfInBounds_toArray, List.set_cons_zero, List.set_cons_succ]
  refine wpAnyZ_pure (i := 15) (v := ?v28) (ops_at rfl) (by kernel_rfl) (by kernel_rfl) (by kernel_rfl) (by kernel_rfl) (by rfl) (fun _ _ _ h => h) (Or.inl ⟨by rfl, ?hy28⟩) (fun h => absurd h (by decide)) ?rest28
  case hy28 => intro w' hSw; (try dsimp only at hSw); go_simp; try with_reducible rfl
  try simp only [Act.put, List.setIfInBounds_toArray, List.set_cons_zero, List.set_cons_succ]
  refine wpAnyZ_free (i := 16) (by kernel_rfl) (ops_at rfl) (by kernel_rfl) (fun K hK => ?_)
  go_simp
  refine hK.out _ _ ?_
  clear hK K
  try simp only [Act.put, List.setIfInBounds_toArray, List.set_cons_zero, List.set_cons_succ]
  refine wpAnyZ_done (by kernel_rfl) ?_ _
  have S9 := S8.setCell 0 rfl 1 (.slice a8 (s.l.length + 1) c8)
  go_wp2
  go_ret
  refine HE.out _ _ a6 c6 a8 c8 rfl (St.conv S9 ?_)
  simp [rnL, HX.out.1, HX.out.2]
set_option maxRecDepth 10000 in
set_option maxHeartbeats 3200000 in
theorem rnFlip_any (S : St w0 w (rnL h aL cL aB cB s tl)) (hok : s.ok) (i bit : Int) (hbit : bit ≤ 9223372036854775807) :
    Calls Try.prog 33 #[.pointer (some ⟨h, 0, none⟩), .int .i64 i, .int .i64 bit] w fun e w' => RPost w0 h tl (nFlip s i bit) e w' := by
  by_cases hi : 0 ≤ i ∧ i < (s.l.length : Int)
  case neg =>
    have HE : Hid (∀ e w', e = .returned (.bool false) → St w0 w' (rnL h aL cL aB cB s tl) → RPost w0 h tl (nFlip s i bit) e w') := by
      intro e w' h1 h2; unfold nFlip; rw [if_neg (fun q => hi q.1)]; exact ⟨aL, cL, aB, cB, h1, h2⟩
    have g0 := hid (has_no hi)
    clear hi
    go_enter Try.func33, Try.ntmps33
    go_wp2_with fail
    refine (rnHas_any S i).mono ?_
    rintro e w1 ⟨rfl, rfl⟩
    rw [g0.out]
    go_wp2
    go_ret
    exact HE.out _ _ rfl S
  have g0 := hid (has_yes hi)
  obtain ⟨j, rfl⟩ : ∃ j : Nat, i = j := ⟨i.toNat, by omega⟩
  have hj : j < s.l.length := by omega
  have hjM : j < (s.l.map NM.m).length := by rw [List.length_map]; exact hj
  have hjT : j < (s.l.map fun x => x.k.isSome).length := by rw [List.length_map]; exact hj
  obtain ⟨x, hx⟩ : ∃ x, s.l[j] = x := ⟨_, rfl⟩
  have hxok := hok.2 _ (List.getElem_mem hj)
  rw [hx] at hxok
  obtain ⟨hlen1, hlen, -, -⟩ := putM_len hxok.1
  have hm : (s.l.map NM.m)[j] = x.m := by rw [List.getElem_map, hx]
  have hb : (s.l.map fun x => x.k.isSome)[j] = x.k.isSome := by rw [List.getElem_map, hx]
  have hgd : s.l.getD j NM.nil = x := by rw [getD_at hj, hx]
  have HN : Hid (∀ e w', e = .returned (.bool false) → ¬ ((0 ≤ bit ∧ bit / 8 < ((putM x.m).length : Int)) ∧ x.k = none) → St w0 w' (rnL h aL cL aB cB s tl) → RPost w0 h tl (nFlip s j bit) e w') := by
    intro e w' h1 hn h2; unfold nFlip; rw [Int.toNat_natCast, hgd, if_neg (fun q => hn q.2)]; exact ⟨aL, cL, aB, cB, h1, h2⟩
  have HY : Hid (∀ e w', e = .returned (.bool true) → ((0 ≤ bit ∧ bit / 8 < ((putM x.m).length : Int)) ∧ x.k = none) → St w0 w' (rnL h aL cL aB cB ⟨s.l.set j ⟨x.m, some bit.toNat⟩, s.sent⟩ tl) → RPost w0 h tl (nFlip s j bit) e w') := by
    intro e w' h1 hn h2; unfold nFlip; rw [Int.toNat_natCast, hgd, if_pos ⟨hi, hn⟩]; exact ⟨aL, cL, aB, cB, h1, h2⟩
  obtain ⟨m, hm0⟩ : ∃ m, x.m = m := ⟨_, rfl⟩
  obtain ⟨b, hb0⟩ : ∃ b, x.k.isSome = b := ⟨_, rfl⟩
  rw [hm0] at hm hlen hlen1 HN HY
  rw [hb0] at hb
  have i0 := fun wx => idxM aL s.l.length cL (fun h => (S.slG eMok 1 rfl).2.2.2.2.ok (Nat.lt_of_le_of_lt (Nat.zero_le _) hjM)) j hj wx
  obtain ⟨gb, rfl⟩ : ∃ gb, aB = some ⟨gb, 0, none⟩ := by
    obtain ⟨-, q1, q2, q3, q4, q5⟩ := S.slC eTok 2 rfl
    obtain ⟨y, rfl⟩ := Option.isSome_iff_exists.1 (q4.ok (Nat.lt_of_le_of_lt (Nat.zero_le _) hjT))
    have := q5 y rfl
    exact ⟨y.block, by rw [← this]⟩
  have i1 := fun wx => idxT (some ⟨gb, 0, none⟩) s.l.length cB (fun _ => rfl) j hj wx
  rw [adr_lit] at i1
  have c0 := S.cell 0 rfl 0 rfl
  have HT : Hid (∀ w', St w0 w' (rnL h aL cL (some ⟨gb, 0, none⟩) cB s tl) → w'.cell? ⟨gb, j, none⟩ = some (.bool b)) := by
    intro w' S'
    have := (S'.slC eTok 2 rfl).2.2.2.2.1.cellT hjT
    rwa [hb, adr_lit] at this
  obtain ⟨z0, z1, z2, z3, z4, z5, z6, z7, z8, z9, z10⟩ := (S.slG eMok 1 rfl).2.2.2.2.msgAt hjM
  rw [hm] at z0 z1 z2 z3 z4 z5 z6 z7 z8 z9 z10
  have HX : Hid (x.m = m ∧ x.k.isSome = b) := ⟨hm0, hb0⟩
  have HS := hid hx
  have HS0 := hid S
  have hxn : x.k = none ↔ b = false := by rw [← hb0]; cases x.k <;> simp
  have HXN := hid hxn
  clear hi hx hm hb hm0 hb0 hgd hxok hok hxn
  generalize adr aL (j * 11) = A at *
  obtain ⟨N, hN⟩ : ∃ N, (putM m).length = N := ⟨_, rfl⟩
  rw [hN] at hlen hlen1 HN HY
  have HPN := hid hN
  by_cases h1 : bit < 0
  · have g1 : decide (bit < 0) = true := decide_eq_true h1
    have hno : Hid (¬ ((0 ≤ bit ∧ bit / 8 < (N : Int)) ∧ x.k = none)) := by rw [Hid]; omega
    clear h1
    go_enter Try.func33, Try.ntmps33
    go_wp2_with fail
    refine (rnHas_any S j).mono ?_
    rintro e w1 ⟨rfl, rfl⟩
    rw [g0.out]
    go_wp2
    go_ret
    exact HN.out _ _ rfl hno.out HS0.out
  have g1 : decide (bit < 0) = false := decide_eq_false h1
  by_cases h2 : 8 * (N : Int) ≤ bit
  · have g2 : decide (8 * (N : Int) ≤ bit) = true := decide_eq_true h2
    have hno : Hid (¬ ((0 ≤ bit ∧ bit / 8 < (N : Int)) ∧ x.k = none)) := by rw [Hid]; omega
    clear h1 h2
    go_enter Try.func33, Try.ntmps33
    go_wp2_with fail
    refine (rnHas_any S j).mono ?_
    rintro e w1 ⟨rfl, rfl⟩
    rw [g0.out]
    go_wp2_with fail
    refine (rnetPut_any m _).mono ?_
    rintro e w2 ⟨a2, c2, rfl, -, hb2⟩
    rw [HPN.out]
    have S2 := S.grow hb2
    clear hb2
    go_wp2
    go_ret
    exact HN.out _ _ rfl hno.out S2
  have g2 : decide (8 * (N : Int) ≤ bit) = false := decide_eq_false h2
  have hin : Hid (0 ≤ bit ∧ bit / 8 < (N : Int)) := by rw [Hid]; omega
  clear h1 h2
  cases b
  case true =>
    have hno : Hid (¬ ((0 ≤ bit ∧ bit / 8 < (N : Int)) ∧ x.k = none)) := by rw [Hid]; intro q; have := HXN.out.1 q.2; cases this
    go_enter Try.func33, Try.ntmps33
    go_wp2_with fail
    refine (rnHas_any S j).mono ?_
    rintro e w1 ⟨rfl, rfl⟩
    rw [g0.out]
    go_wp2_with fail
    refine (rnetPut_any m _).mono ?_
    rintro e w2 ⟨a2, c2, rfl, -, hb2⟩
    rw [HPN.out]
    have S2 := S.grow hb2
    have y0 := HT.out _ S2
    have y1 := S2.cell 0 rfl 1 rfl
    clear hb2
    go_wp2
    go_ret
    exact HN.out _ _ rfl hno.out S2
  case false =>
    have hyes : Hid ((0 ≤ bit ∧ bit / 8 < (N : Int)) ∧ x.k = none) := ⟨hin.out, HXN.out.2 rfl⟩
    go_enter Try.func33, Try.ntmps33
    go_wp2_with fail
    refine (rnHas_any S j).mono ?_
    rintro e w1 ⟨rfl, rfl⟩
    rw [g0.out]
    go_wp2_with fail
    refine (rnetPut_any m _).mono ?_
    rintro e w2 ⟨a2, c2, rfl, -, hb2⟩
    rw [HPN.out]
    have S2 := S.grow hb2
    have y0 := HT.out _ S2
    have y1 := S2.cell 0 rfl 1 rfl
    have f1 := S2.frozenC eTok 2 rfl j
    have hS9 := S2.setC eTok 2 rfl (i := j) (j := 0) hjT (by decide) true (.bool true) rfl
    rw [show j * eT.s + 0 = j from Nat.mul_one j] at hS9
    have S9 := hid hS9
    clear hb2 hS9
    go_wp2
    go_ret
    refine HY.out _ _ rfl hyes.out (St.conv S9.out ?_)
    have e1 : (s.l.set j ⟨m, some bit.toNat⟩).map NM.m = s.l.map NM.m := by
      refine List.ext_getElem (by simp) fun i h1 h2 => ?_
      simp only [List.getElem_map, List.getElem_set]
      split
      · rename_i hij; subst hij; rw [HS.out]; exact HX.out.1.symm
      · rfl
    have e2 : (s.l.set j ⟨m, some bit.toNat⟩).map (fun x => x.k.isSome) = (s.l.map fun x => x.k.isSome).set j true := by rw [List.map_set]; rfl
    unfold rnL
    rw [e1, e2, List.length_set]
    rfl
end

end Go.Proofs.Ytjibmbejfpdifaa
