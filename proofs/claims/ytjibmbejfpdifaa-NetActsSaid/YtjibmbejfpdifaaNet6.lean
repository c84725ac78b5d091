/- Messages on their way: Twice, Flip. -/
import Derived.Test.YtjibmbejfpdifaaNet5
import Derived.Test.YtjibmbejfpdifaaHeld
namespace Go.Proofs.Ytjibmbejfpdifaa
set_option linter.unusedVariables false
set_option linter.unusedSimpArgs false
open Go.RowKit
section
variable {w0 w : World} {tl : List Thing} {g : Nat} {a : Option Addr} {c : Nat} {pcs : List Pc} {sent : Nat}
theorem pcs_at (S : St w0 w (netL g a c pcs sent tl)) (h : 0 < pcs.length) : ∃ ga, a = some ⟨ga, 0, none⟩ := by
  obtain ⟨-, q1, q2, q3, q4, q5⟩ := S.slC ePcOk 1 rfl
  obtain ⟨x, rfl⟩ := Option.isSome_iff_exists.1 (q4.ok h)
  have := q5 x rfl
  exact ⟨x.block, by rw [← this]⟩
theorem adr_lit (g k : Nat) : adr (some ⟨g, 0, none⟩) k = ⟨g, k, none⟩ := by simp [adr, Addr.add_lit]
/-- What a net's cells tell of a piece. -/
theorem St.pc {ga : Nat} (S : St w0 w (netL g (some ⟨ga, 0, none⟩) c pcs sent tl)) {k : Nat} (hk : k < pcs.length) :
    w.cell? ⟨g, 0, none⟩ = some (.slice (some ⟨ga, 0, none⟩) pcs.length c) ∧ w.cell? ⟨ga, k * 2, none⟩ = some (.slice pcs[k].a pcs[k].n pcs[k].c) ∧ w.cell? ⟨ga, k * 2 + 1, none⟩ = some (.bool pcs[k].t) := by
  have h := ePc_cells (S.slC ePcOk 1 rfl).2.2.2.2.1 hk
  rw [adr_lit, adr_lit] at h
  exact ⟨S.cell 0 rfl 0 rfl, h⟩
theorem idxPc (ga n c k : Nat) (hk : k < n) (wx : World) : (Instr.indexAt 40 (.slice (some ⟨ga, 0, none⟩) n c) (.int .i64 (k : Int))).run Try.prog wx = .ok (.pointer (some ⟨ga, k * 2, none⟩)) wx := by
  have := idxG2 ePcOk (some ⟨ga, 0, none⟩) n c (fun _ => rfl) k hk wx
  rwa [adr_lit] at this
def TwicePost (w0 : World) (g : Nat) (a : Option Addr) (c : Nat) (pcs : List Pc) (sent : Nat) (tl : List Thing) (i : Int) (e : Ending) (w' : World) : Prop :=
  if h : (0 ≤ i ∧ i < (pcs.length : Int)) ∧ pcs.length < 40 then ∃ a' c' x, e = .returned (.bool true) ∧ x.b = (pcs[i.toNat]'(by omega)).b ∧ x.t = (pcs[i.toNat]'(by omega)).t ∧ St w0 w' (netL g a' c' (pcs ++ [x]) sent tl)
  else e = .returned (.bool false) ∧ St w0 w' (netL g a c pcs sent tl)
set_option maxRecDepth 10000 in
set_option maxHeartbeats 3200000 in
theorem netTwice_any (S : St w0 w (netL g a c pcs sent tl)) (hl : pcs.length ≤ 1000) (hb : ∀ x ∈ pcs, x.n ≤ 1000000) (i : Int) :
    Calls Try.prog 24 #[.pointer (some ⟨g, 0, none⟩), .int .i64 i] w fun e w' => TwicePost w0 g a c pcs sent tl i e w' := by
  have c0 := S.cell 0 rfl 0 rfl
  by_cases hi : 0 ≤ i ∧ i < (pcs.length : Int)
  case neg =>
    have HE : Hid (∀ e w', e = .returned (.bool false) → St w0 w' (netL g a c pcs sent tl) → TwicePost w0 g a c pcs sent tl i e w') := by
      intro e w' h1 h2; unfold TwicePost; rw [dif_neg (fun h => hi h.1)]; exact ⟨h1, h2⟩
    have g0 := hid (has_no hi)
    clear hi
    go_enter Try.func24, Try.ntmps24
    go_wp2_with fail
    refine (netHas_any S i).mono ?_
    rintro e w1 ⟨rfl, rfl⟩
    rw [g0.out]
    go_wp2
    go_ret
    exact HE.out _ _ rfl S
  have g0 := hid (has_yes hi)
  by_cases h40 : pcs.length < 40
  case neg =>
    have HE : Hid (∀ e w', e = .returned (.bool false) → St w0 w' (netL g a c pcs sent tl) → TwicePost w0 g a c pcs sent tl i e w') := by
      intro e w' h1 h2; unfold TwicePost; rw [dif_neg (fun h => h40 h.2)]; exact ⟨h1, h2⟩
    have g1 : decide ((40 : Int) ≤ (pcs.length : Int)) = true := decide_eq_true (by omega)
    have g1n : decide (40 ≤ pcs.length) = true := decide_eq_true (by omega)
    clear hi h40
    go_enter Try.func24, Try.ntmps24
    go_wp2_with fail
    refine (netHas_any S i).mono ?_
    rintro e w1 ⟨rfl, rfl⟩
    rw [g0.out]
    go_wp2
    go_ret
    exact HE.out _ _ rfl S
  have g1 : decide ((40 : Int) ≤ (pcs.length : Int)) = false := decide_eq_false (by omega)
  have g1n : decide (40 ≤ pcs.length) = false := decide_eq_false (by omega)
  obtain ⟨k, rfl⟩ : ∃ k : Nat, i = k := ⟨i.toNat, by omega⟩
  have hk : k < pcs.length := by omega
  have HE : Hid (∀ e w' a' c' x, e = .returned (.bool true) → x.b = pcs[k].b → x.t = pcs[k].t → St w0 w' (netL g a' c' (pcs ++ [x]) sent tl) → TwicePost w0 g a c pcs sent tl k e w') := by
    intro e w' a' c' x h1 h2 h3 h4; unfold TwicePost; rw [dif_pos ⟨hi, h40⟩]; exact ⟨a', c', x, h1, h2, h3, h4⟩
  clear hi
  obtain ⟨ga, rfl⟩ := pcs_at S (by omega)
  have i0 := fun wx => idxPc ga pcs.length c k hk wx
  have hn := hb pcs[k] (List.getElem_mem hk)
  have HCl : Hid (∀ w', St w0 w' (netL g (some ⟨ga, 0, none⟩) c pcs sent tl) → w'.cell? ⟨g, 0, none⟩ = some (.slice (some ⟨ga, 0, none⟩) pcs.length c) ∧ w'.cell? ⟨ga, k * 2, none⟩ = some (.slice pcs[k].a pcs[k].n pcs[k].c) ∧ w'.cell? ⟨ga, k * 2 + 1, none⟩ = some (.bool pcs[k].t)) :=
    fun w' S' => S'.pc hk
  have HPc : Hid ((netL g (some ⟨ga, 0, none⟩) c pcs sent tl)[2 + k]? = some (pcT pcs[k])) := netL_pc hk
  obtain ⟨x, hx⟩ : ∃ x, pcs[k] = x := ⟨_, rfl⟩
  rw [hx] at hn HE HCl HPc
  clear hb hx hl
  go_enter Try.func24, Try.ntmps24
  go_wp2_with fail
  refine (netHas_any S k).mono ?_
  rintro e w1 ⟨rfl, rfl⟩
  rw [g0.out]
  clear c0
  have c0 := S.cell 0 rfl 0 rfl
  go_wp2_with fail
  have hsl := S.drew.slA (2 + k) HPc.out
  have hpl := h40
  clear h40 g1 g1n c0
  refine wp_region_heldZ (S := (fun w' => w'.cell? ⟨g, 0, none⟩ = some (.slice (some ⟨ga, 0, none⟩) pcs.length c) ∧ w'.cell? ⟨ga, k * 2, none⟩ = some (.slice x.a x.n x.c) ∧ w'.cell? ⟨ga, k * 2 + 1, none⟩ = some (.bool x.t))) 24 (by kernel_rfl) (by exact HCl.out _ S.drew) (fun hHeld => ?_)
  change wpAnyZ _ _ _ _ _ 24 28 (Array.replicate 28 false) _ _
  refine wpAnyZ_pure (i := 0) (v := ?v1) (ops_at rfl) (by kernel_rfl) (by kernel_rfl) (by kernel_rfl) (by kernel_rfl) (by rfl) (fun _ _ _ h => h) (Or.inl ⟨by rfl, ?hy1⟩) (fun _ => by assumption) ?rest1
  case hy1 => intro w' hSw; (try dsimp only at hSw); go_simp; try with_reducible rfl
  try simp only [Act.put, List.setIfInBounds_toArray, List.set_cons_zero, List.set_cons_succ]
  refine wpAnyZ_take (i := 1) (v := ?v2) (ops_at rfl) (by kernel_rfl) (by kernel_rfl) (by kernel_rfl) (by kernel_rfl) [2, 3, 4, 24] (by kernel_rfl) (by rfl) (fun _ _ _ h => h) (Or.inl ⟨by rfl, ?hy2⟩) (by assumption) ?rest2
  case hy2 => intro w' hSw; (try dsimp only at hSw); go_simp; try with_reducible rfl
  try simp only [Act.put, List.setIfInBounds_toArray, List.set_cons_zero, List.set_cons_succ]
  refine wpAnyZ_take (i := 2) (v := ?v3) (ops_at rfl) (by kernel_rfl) (by kernel_rfl) (by kernel_rfl) (by kernel_rfl) [3, 4, 24] (by kernel_rfl) (by rfl) (fun _ _ _ h => h) (Or.inl ⟨by rfl, ?hy3⟩) (by assumption) ?rest3
  case hy3 => intro w' hSw; (try dsimp only at hSw); go_simp; try with_reducible rfl
  try simp only [Act.put, List.setIfInBounds_toArray, List.set_cons_zero, List.set_cons_succ]
  refine wpAnyZ_take (i := 3) (v := ?v4) (ops_at rfl) (by kernel_rfl) (by kernel_rfl) (by kernel_rfl) (by kernel_rfl) [4, 24] (by kernel_rfl) (by rfl) (fun _ _ _ h => h) (Or.inl ⟨by rfl, ?hy4⟩) (by assumption) ?rest4
  case hy4 => intro w' hSw; (try dsimp only at hSw); go_simp; try with_reducible rfl
  try simp only [Act.put, List.setIfInBounds_toArray, List.set_cons_zero, List.set_cons_succ]
  refine wpAnyZ_take (i := 4) (v := ?v5) (ops_at rfl) (by kernel_rfl) (by kernel_rfl) (by kernel_rfl) (by kernel_rfl) [24] (by kernel_rfl) (by rfl) (fun _ _ _ h => h) (Or.inl ⟨by rfl, ?hy5⟩) (by assumption) ?rest5
  case hy5 => intro w' hSw; (try dsimp only at hSw); go_simp; try with_reducible rfl
  try simp only [Act.put, List.setIfInBounds_toArray, List.set_cons_zero, List.set_cons_succ]
  refine wpAnyZ_take (i := 5) (v := ?v6) (ops_at rfl) (by kernel_rfl) (by kernel_rfl) (by kernel_rfl) (by kernel_rfl) [6, 7, 8, 10, 11, 12, 13, 24] (by kernel_rfl) (by rfl) (fun _ _ _ h => h) (Or.inl ⟨by rfl, ?hy6⟩) (by assumption) ?rest6
  case hy6 => intro w' hSw; (try dsimp only at hSw); go_simp; try with_reducible rfl
  try simp only [Act.put, List.setIfInBounds_toArray, List.set_cons_zero, List.set_cons_succ]
  refine wpAnyZ_take (i := 6) (v := ?v7) (ops_at rfl) (by kernel_rfl) (by kernel_rfl) (by kernel_rfl) (by kernel_rfl) [7, 8, 10, 11, 12, 13, 24] (by kernel_rfl) (by rfl) (fun _ _ _ h => h) (Or.inl ⟨by rfl, ?hy7⟩) (by assumption) ?rest7
  case hy7 => intro w' hSw; (try dsimp only at hSw); go_simp; try with_reducible rfl
  try simp only [Act.put, List.setIfInBounds_toArray, List.set_cons_zero, List.set_cons_succ]
  refine wpAnyZ_take (i := 7) (v := ?v8) (ops_at rfl) (by kernel_rfl) (by kernel_rfl) (by kernel_rfl) (by kernel_rfl) [8, 10, 11, 12, 13, 24] (by kernel_rfl) (by rfl) (fun _ _ _ h => h) (Or.inl ⟨by rfl, ?hy8⟩) (by assumption) ?rest8
  case hy8 => intro w' hSw; (try dsimp only at hSw); go_simp; try with_reducible rfl
  try simp only [Act.put, List.setIfInBounds_toArray, List.set_cons_zero, List.set_cons_succ]
  refine wpAnyZ_take (i := 8) (v := ?v9) (ops_at rfl) (by kernel_rfl) (by kernel_rfl) (by kernel_rfl) (by kernel_rfl) [10, 11, 12, 13, 24] (by kernel_rfl) (by rfl) (fun _ _ _ h => h) (Or.inl ⟨by rfl, ?hy9⟩) (by assumption) ?rest9
  case hy9 => intro w' hSw; (try dsimp only at hSw); go_simp; try with_reducible rfl
  try simp only [Act.put, List.setIfInBounds_toArray, List.set_cons_zero, List.set_cons_succ]
  refine wpAnyZ_take (i := 9) (v := ?v10) (ops_at rfl) (by kernel_rfl) (by kernel_rfl) (by kernel_rfl) (by kernel_rfl) [10, 11, 12, 13, 24] (by kernel_rfl) (by rfl) (fun _ _ _ h => h) (Or.inl ⟨by rfl, ?hy10⟩) (by assumption) ?rest10
  case hy10 => intro w' hSw; (try dsimp only at hSw); go_simp; try with_reducible rfl
  try simp only [Act.put, List.setIfInBounds_toArray, List.set_cons_zero, List.set_cons_succ]
  refine wpAnyZ_take (i := 10) (v := ?v11) (ops_at rfl) (by kernel_rfl) (by kernel_rfl) (by kernel_rfl) (by kernel_rfl) [11, 12, 13, 24] (by kernel_rfl) (by rfl) (fun _ _ _ h => h) (Or.inl ⟨by rfl, ?hy11⟩) (by assumption) ?rest11
  case hy11 => intro w' hSw; (try dsimp only at hSw); go_simp; try with_reducible rfl
  try simp only [Act.put, List.setIfInBounds_toArray, List.set_cons_zero, List.set_cons_succ]
  refine wpAnyZ_take (i := 11) (v := ?v12) (ops_at rfl) (by kernel_rfl) (by kernel_rfl) (by kernel_rfl) (by kernel_rfl) [12, 13, 24] (by kernel_rfl) (by rfl) (fun _ _ _ h => h) (Or.inl ⟨by rfl, ?hy12⟩) (by assumption) ?rest12
  case hy12 => intro w' hSw; (try dsimp only at hSw); go_simp; try with_reducible rfl
  try simp only [Act.put, List.setIfInBounds_toArray, List.set_cons_zero, List.set_cons_succ]
  refine wpAnyZ_take (i := 12) (v := ?v13) (ops_at rfl) (by kernel_rfl) (by kernel_rfl) (by kernel_rfl) (by kernel_rfl) [13, 24] (by kernel_rfl) (by rfl) (fun _ _ _ h => h) (Or.inl ⟨by rfl, ?hy13⟩) (by assumption) ?rest13
  case hy13 => intro w' hSw; (try dsimp only at hSw); go_simp; try with_reducible rfl
  try simp only [Act.put, List.setIfInBounds_toArray, List.set_cons_zero, List.set_cons_succ]
  refine wpAnyZ_take (i := 14) (v := ?v14) (ops_at rfl) (by kernel_rfl) (by kernel_rfl) (by kernel_rfl) (by kernel_rfl) [15, 16, 17, 19, 20, 21, 22, 23, 24] (by kernel_rfl) (by rfl) (fun _ _ _ h => h) (Or.inl ⟨by rfl, ?hy14⟩) (by assumption) ?rest14
  case hy14 => intro w' hSw; (try dsimp only at hSw); go_simp; try with_reducible rfl
  try simp only [Act.put, List.setIfInBounds_toArray, List.set_cons_zero, List.set_cons_succ]
  refine wpAnyZ_take (i := 15) (v := ?v15) (ops_at rfl) (by kernel_rfl) (by kernel_rfl) (by kernel_rfl) (by kernel_rfl) [16, 17, 19, 20, 21, 22, 23, 24] (by kernel_rfl) (by rfl) (fun _ _ _ h => h) (Or.inl ⟨by rfl, ?hy15⟩) (by assumption) ?rest15
  case hy15 => intro w' hSw; (try dsimp only at hSw); go_simp; try with_reducible rfl
  try simp only [Act.put, List.setIfInBounds_toArray, List.set_cons_zero, List.set_cons_succ]
  refine wpAnyZ_take (i := 16) (v := ?v16) (ops_at rfl) (by kernel_rfl) (by kernel_rfl) (by kernel_rfl) (by kernel_rfl) [17, 19, 20, 21, 22, 23, 24] (by kernel_rfl) (by rfl) (fun _ _ _ h => h) (Or.inl ⟨by rfl, ?hy16⟩) (by assumption) ?rest16
  case hy16 => intro w' hSw; (try dsimp only at hSw); go_simp; try with_reducible rfl
  try simp only [Act.put, List.setIfInBounds_toArray, List.set_cons_zero, List.set_cons_succ]
  refine wpAnyZ_take (i := 17) (v := ?v17) (ops_at rfl) (by kernel_rfl) (by kernel_rfl) (by kernel_rfl) (by kernel_rfl) [19, 20, 21, 22, 23, 24] (by kernel_rfl) (by rfl) (fun _ _ _ h => h) (Or.inl ⟨by rfl, ?hy17⟩) (by assumption) ?rest17
  case hy17 => intro w' hSw; (try dsimp only at hSw); go_simp; try with_reducible rfl
  try simp only [Act.put, List.setIfInBounds_toArray, List.set_cons_zero, List.set_cons_succ]
  refine wpAnyZ_take (i := 18) (v := ?v18) (ops_at rfl) (by kernel_rfl) (by kernel_rfl) (by kernel_rfl) (by kernel_rfl) [19, 20, 21, 22, 23, 24] (by kernel_rfl) (by rfl) (fun _ _ _ h => h) (Or.inl ⟨by rfl, ?hy18⟩) (by assumption) ?rest18
  case hy18 => intro w' hSw; (try dsimp only at hSw); go_simp; try with_reducible rfl
  try simp only [Act.put, List.setIfInBounds_toArray, List.set_cons_zero, List.set_cons_succ]
  refine wpAnyZ_take (i := 19) (v := ?v19) (ops_at rfl) (by kernel_rfl) (by kernel_rfl) (by kernel_rfl) (by kernel_rfl) [20, 21, 22, 23, 24] (by kernel_rfl) (by rfl) (fun _ _ _ h => h) (Or.inl ⟨by rfl, ?hy19⟩) (by assumption) ?rest19
  case hy19 => intro w' hSw; (try dsimp only at hSw); go_simp; try with_reducible rfl
  try simp only [Act.put, List.setIfInBounds_toArray, List.set_cons_zero, List.set_cons_succ]
  refine wpAnyZ_take (i := 20) (v := ?v20) (ops_at rfl) (by kernel_rfl) (by kernel_rfl) (by kernel_rfl) (by kernel_rfl) [21, 22, 23, 24] (by kernel_rfl) (by rfl) (fun _ _ _ h => h) (Or.inl ⟨by rfl, ?hy20⟩) (by assumption) ?rest20
  case hy20 => intro w' hSw; (try dsimp only at hSw); go_simp; try with_reducible rfl
  try simp only [Act.put, List.setIfInBounds_toArray, List.set_cons_zero, List.set_cons_succ]
  refine wpAnyZ_take (i := 21) (v := ?v21) (ops_at rfl) (by kernel_rfl) (by kernel_rfl) (by kernel_rfl) (by kernel_rfl) [22, 23, 24] (by kernel_rfl) (by rfl) (fun _ _ _ h => h) (Or.inl ⟨by rfl, ?hy21⟩) (by assumption) ?rest21
  case hy21 => intro w' hSw; (try dsimp only at hSw); go_simp; try with_reducible rfl
  try simp only [Act.put, List.setIfInBounds_toArray, List.set_cons_zero, List.set_cons_succ]
  refine wpAnyZ_one (i := 13) (by kernel_rfl) (ops_at rfl) (fun K hK => ?_)
  go_simp
  refine (clone_any x.a x.b x.n x.c _ hsl.1 (by omega) hsl.2.2.2.1 (by exact hsl.2.2.2.2)).mono ?_
  rintro e w2 ⟨v2, rfl, ho2, hb2⟩
  obtain ⟨a2, c2, rfl⟩ := ho2.written hsl.1
  have S3 := (S.drew.bytes ho2 hb2).rot
  clear ho2 hb2
  refine hK.out _ _ (by exact HCl.out _ S3.tail) (fun hHeld => ?_)
  clear hK K
  try simp only [Act.put, List.setIfInBounds_toArray, List.set_cons_zero, List.set_cons_succ]
  refine wpAnyZ_take (i := 22) (v := ?v22) (ops_at rfl) (by kernel_rfl) (by kernel_rfl) (by kernel_rfl) (by kernel_rfl) [23, 24] (by kernel_rfl) (by rfl) (fun _ _ _ h => h) (Or.inl ⟨by rfl, ?hy22⟩) (by assumption) ?rest22
  case hy22 => intro w' hSw; (try dsimp only at hSw); go_simp; try with_reducible rfl
  try simp only [Act.put, List.setIfInBounds_toArray, List.set_cons_zero, List.set_cons_succ]
  refine wpAnyZ_one (i := 23) (by kernel_rfl) (ops_at rfl) (fun K hK => ?_)
  go_simp
  refine hK.out _ _ (by exact HCl.out _ (S3.alloc _).tail) (fun hHeld => ?_)
  clear hK K
  try simp only [Act.put, List.setIfInBounds_toArray, List.set_cons_zero, List.set_cons_succ]
  refine wpAnyZ_free (i := 24) (by kernel_rfl) (ops_at rfl) (by kernel_rfl) (fun K hK => ?_)
  refine step_app (by rfl) (.tmp 21) (.tmp 40) ePc.T ePc.T ePc.T rfl rfl _ _ rfl rfl (S3.appC1 ePcOk w2.heap.size rfl 2 rfl ⟨a2, x.n, c2, x.b, x.t⟩ _ (by rfl) (pcs.length + 1) rfl (by show _ * 32 ≤ _; omega) (by unfold maxLen; omega)) ?_
  rintro v6 w6 ⟨⟨a6, c6, rfl⟩, S6⟩
  have f6 := S6.frozen 1 rfl 0
  have d6 := S6.cell 1 rfl 0 rfl
  refine hK.out _ _ ?_
  clear hK K
  try simp only [Act.put, List.setIfInBounds_toArray, List.set_cons_zero, List.set_cons_succ]
  refine wpAnyZ_pure (i := 25) (v := ?v23) (ops_at rfl) (by kernel_rfl) (by kernel_rfl) (by kernel_rfl) (by kernel_rfl) (by rfl) (fun _ _ _ h => h) (Or.inl ⟨by rfl, ?hy23⟩) (fun h => absurd h (by decide)) ?rest23
  case hy23 => intro w' hSw; (try dsimp only at hSw); go_simp; try with_reducible rfl
  try simp only [Act.put, List.setIfInBounds_toArray, List.set_cons_zero, List.set_cons_succ]
  refine wpAnyZ_pure (i := 26) (v := ?v24) (ops_at rfl) (by kernel_rfl) (by kernel_rfl) (by kernel_rfl) (by kernel_rfl) (by rfl) (fun _ _ _ h => h) (Or.inl ⟨by rfl, ?hy24⟩) (fun h => absurd h (by decide)) ?rest24
  case hy24 => intro w' hSw; (try dsimp only at hSw); go_simp; try with_reducible rfl
  try simp only [Act.put, List.setIfInBounds_toArray, List.set_cons_zero, List.set_cons_succ]
  refine wpAnyZ_free (i := 27) (by kernel_rfl) (ops_at rfl) (by kernel_rfl) (fun K hK => ?_)
  go_simp
  refine hK.out _ _ ?_
  clear hK K
  try simp only [Act.put, List.setIfInBounds_toArray, List.set_cons_zero, List.set_cons_succ]
  refine wpAnyZ_done (by kernel_rfl) ?_ _
  have S7 : St w0 _ (bytesT (.slice a2 x.n c2) x.b :: cellsT g 47 [.slice a6 (pcs.length + 1) c6, .int .i64 (sent : Int)] :: ownCT ePc (.slice a6 (pcs.length + 1) c6) (pcs ++ [⟨a2, x.n, c2, x.b, x.t⟩]) :: (pcs.map pcT ++ tl)) := S6.setCell 1 rfl 0 (.slice a6 (pcs.length + 1) c6)
  go_wp2
  go_ret
  refine HE.out _ _ a6 c6 ⟨a2, x.n, c2, x.b, x.t⟩ rfl rfl rfl ?_
  refine (St.perm S7 (m := netL g a6 c6 (pcs ++ [⟨a2, x.n, c2, x.b, x.t⟩]) sent tl) ?_)
  unfold netL
  rw [List.map_append, List.append_assoc, List.length_append]
  exact ((List.perm_middle (a := pcT ⟨a2, x.n, c2, x.b, x.t⟩) (l₁ := cellsT g 47 [.slice a6 (pcs.length + 1) c6, .int .i64 (sent : Int)] :: ownCT ePc (.slice a6 (pcs.length + 1) c6) (pcs ++ [⟨a2, x.n, c2, x.b, x.t⟩]) :: pcs.map pcT) (l₂ := tl)).symm)
theorem St.frozenB {r : List Thing} (S : St w0 w r) (k : Nat) {x : Pc} (hk : r[k]? = some (pcT x)) {gb : Nat} (ha : x.a = some ⟨gb, 0, none⟩) (hn : 0 < x.b.length) (o : Nat) : w.frozen? ⟨gb, o, none⟩ = false := by
  have h := S.ownAt k hk
  have hl := (S.slA k hk).1
  rw [ha] at h
  exact h.frz hl o
theorem bit_turned (x : UInt8) (k : Nat) (hk : k < 8) : x ^^^ UInt8.ofNat (2 ^ k) ≠ x ∧ ((2 : Int) ^ k) % 256 = ((UInt8.ofNat (2 ^ k)).toNat : Int) := by
  have h : k = 0 ∨ k = 1 ∨ k = 2 ∨ k = 3 ∨ k = 4 ∨ k = 5 ∨ k = 6 ∨ k = 7 := by omega
  refine ⟨?_, by rcases h with rfl | rfl | rfl | rfl | rfl | rfl | rfl | rfl <;> rfl⟩
  intro e
  have e2 : x ^^^ (x ^^^ UInt8.ofNat (2 ^ k)) = x ^^^ x := by rw [e]
  rw [← UInt8.xor_assoc, UInt8.xor_self, UInt8.zero_xor] at e2
  rcases h with rfl | rfl | rfl | rfl | rfl | rfl | rfl | rfl <;> cases e2
/-- A bit of bytes is turned. -/
def flipB (l : List UInt8) (k : Nat) : List UInt8 := l.set (k / 8) (l.getD (k / 8) 0 ^^^ UInt8.ofNat (2 ^ (k % 8)))
def Pc.nil : Pc := ⟨none, 0, 0, [], false⟩
def Pc.flip (x : Pc) (k : Nat) : Pc := { x with b := flipB x.b k, t := true }
def FlipPost (w0 : World) (g : Nat) (a : Option Addr) (c : Nat) (pcs : List Pc) (sent : Nat) (tl : List Thing) (i bit : Int) (e : Ending) (w' : World) : Prop :=
  if (0 ≤ i ∧ i < (pcs.length : Int)) ∧ (0 ≤ bit ∧ bit / 8 < ((pcs.getD i.toNat Pc.nil).b.length : Int)) ∧ (pcs.getD i.toNat Pc.nil).t = false then
    e = .returned (.bool true) ∧ St w0 w' (netL g a c (pcs.set i.toNat ((pcs.getD i.toNat Pc.nil).flip bit.toNat)) sent tl)
  else e = .returned (.bool false) ∧ St w0 w' (netL g a c pcs sent tl)
theorem OwnC.alike {α : Type} {e : Elt α} {B : Nat} {v : Value} {l m : List α} (h : OwnC e w B v l) (hm : m.flatMap e.enc = l.flatMap e.enc) (hl : m.length = l.length) : OwnC e w B v m := by
  obtain ⟨a, n, cap, CAP, e1, h1, h2, h3⟩ := h
  refine ⟨a, n, cap, CAP, e1, h1, h2, ?_⟩
  unfold OwnG at h3 ⊢
  rw [hm, hl]; exact h3
theorem flat_same {x y : Pc} (hx : ePc.enc y = ePc.enc x) : ∀ (l : List Pc) (k : Nat) (hk : k < l.length), l[k] = x → (l.set k y).flatMap ePc.enc = l.flatMap ePc.enc
  | [], k, hk, _ => by simp at hk
  | z :: l, 0, hk, h => by
    simp only [List.getElem_cons_zero] at h
    rw [List.set_cons_zero, List.flatMap_cons, List.flatMap_cons, hx, h]
  | z :: l, k + 1, hk, h => by
    rw [List.set_cons_succ, List.flatMap_cons, List.flatMap_cons, flat_same hx l k (by simpa using hk) h]
theorem netL_set {g : Nat} {a : Option Addr} {c : Nat} {pcs : List Pc} {sent : Nat} {tl : List Thing} {k : Nat} (hk : k < pcs.length) (y : Pc) (z : Thing) : ((netL g a c pcs sent tl).set (2 + k) (pcT y)).set 1 z = cellsT g 47 [.slice a pcs.length c, .int .i64 (sent : Int)] :: z :: ((pcs.set k y).map pcT ++ tl) := by
  rw [Nat.add_comm]
  show _ :: z :: (pcs.map pcT ++ tl).set k (pcT y) = _
  rw [List.set_append_left _ _ (by rw [List.length_map]; exact hk), List.map_set]
theorem St.flipPc {ga gb : Nat} (S : St w0 w (netL g (some ⟨ga, 0, none⟩) c pcs sent tl)) {k : Nat} (hk : k < pcs.length) {x : Pc} (hx : pcs[k] = x) (ha : x.a = some ⟨gb, 0, none⟩) (o : Nat) (d : UInt8) :
    St w0 (w.setCell ⟨gb, o, none⟩ (bv d)) (netL g (some ⟨ga, 0, none⟩) c (pcs.set k { x with b := x.b.set o d }) sent tl) := by
  have h1 : (netL g (some ⟨ga, 0, none⟩) c pcs sent tl)[2 + k]? = some (bytesT (.slice (some ⟨gb, 0, none⟩) x.n x.c) x.b) := by rw [netL_pc hk, hx, pcT, ha]
  have S1 := S.setByte (2 + k) h1 (k := o) d
  have h2 : ((netL g (some ⟨ga, 0, none⟩) c pcs sent tl).set (2 + k) (bytesT (.slice (some ⟨gb, 0, none⟩) x.n x.c) (x.b.set o d)))[1]? = some (ownCT ePc (.slice (some ⟨ga, 0, none⟩) pcs.length c) pcs) := by
    rw [List.getElem?_set_ne (by omega)]; rfl
  have S2 := S1.turn 1 h2 (y := ownCT ePc (.slice (some ⟨ga, 0, none⟩) pcs.length c) (pcs.set k { x with b := x.b.set o d })) (fun F h => ⟨h.1.alike (flat_same (x := x) (y := { x with b := x.b.set o d }) rfl pcs k hk hx) (List.length_set ..), h.2⟩)
  refine St.conv S2 ?_
  have e : (bytesT (.slice (some ⟨gb, 0, none⟩) x.n x.c) (x.b.set o d)) = pcT { x with b := x.b.set o d } := by rw [pcT, ha]
  rw [e, netL_set hk]
  unfold netL
  rw [List.length_set]
theorem St.setPc {ga : Nat} (S : St w0 w (netL g (some ⟨ga, 0, none⟩) c pcs sent tl)) {k : Nat} (hk : k < pcs.length) (t : Bool) :
    St w0 (w.setCell ⟨ga, k * 2 + 1, none⟩ (.bool t)) (netL g (some ⟨ga, 0, none⟩) c (pcs.set k { pcs[k] with t := t }) sent tl) := by
  have S1 := S.setC ePcOk 1 rfl (i := k) (j := 1) hk (by decide) { pcs[k] with t := t } (.bool t) rfl
  refine St.conv S1 ?_
  have e : (netL g (some ⟨ga, 0, none⟩) c pcs sent tl).set (2 + k) (pcT { pcs[k] with t := t }) = netL g (some ⟨ga, 0, none⟩) c pcs sent tl := by
    refine List.ext_getElem? fun i => ?_
    by_cases h : 2 + k = i
    · subst h; rw [List.getElem?_set_self (by unfold netL; simp; omega), netL_pc hk]; rfl
    · rw [List.getElem?_set_ne h]
  rw [← e, netL_set hk]
  unfold netL
  rw [List.length_set]
set_option maxRecDepth 10000 in
set_option maxHeartbeats 3200000 in
theorem netFlip_any (S : St w0 w (netL g a c pcs sent tl)) (i bit : Int) (hbit : bit ≤ 9223372036854775807) :
    Calls Try.prog 25 #[.pointer (some ⟨g, 0, none⟩), .int .i64 i, .int .i64 bit] w fun e w' => FlipPost w0 g a c pcs sent tl i bit e w' := by
  by_cases hi : 0 ≤ i ∧ i < (pcs.length : Int)
  case neg =>
    have HE : Hid (∀ e w', e = .returned (.bool false) → St w0 w' (netL g a c pcs sent tl) → FlipPost w0 g a c pcs sent tl i bit e w') := by
      intro e w' h1 h2; unfold FlipPost; rw [if_neg (fun h => hi h.1)]; exact ⟨h1, h2⟩
    have g0 := hid (has_no hi)
    clear hi
    go_enter Try.func25, Try.ntmps25
    go_wp2_with fail
    refine (netHas_any S i).mono ?_
    rintro e w1 ⟨rfl, rfl⟩
    rw [g0.out]
    go_wp2
    go_ret
    exact HE.out _ _ rfl S
  have g0 := hid (has_yes hi)
  obtain ⟨k, rfl⟩ : ∃ k : Nat, i = k := ⟨i.toNat, by omega⟩
  have hk : k < pcs.length := by omega
  obtain ⟨x, hx⟩ : ∃ x, pcs[k] = x := ⟨_, rfl⟩
  have hgd : pcs.getD k Pc.nil = x := by rw [← hx]; simp [List.getD, hk]
  have HE : Hid (∀ e w', e = .returned (.bool false) → ¬ ((0 ≤ bit ∧ bit / 8 < (x.b.length : Int)) ∧ x.t = false) → St w0 w' (netL g a c pcs sent tl) → FlipPost w0 g a c pcs sent tl k bit e w') := by
    intro e w' h1 hn h2; unfold FlipPost; rw [Int.toNat_natCast, hgd, if_neg (fun h => hn h.2)]; exact ⟨h1, h2⟩
  have HY : Hid (∀ e w', e = .returned (.bool true) → ((0 ≤ bit ∧ bit / 8 < (x.b.length : Int)) ∧ x.t = false) → St w0 w' (netL g a c (pcs.set k (x.flip bit.toNat)) sent tl) → FlipPost w0 g a c pcs sent tl k bit e w') := by
    intro e w' h1 hn h2; unfold FlipPost; rw [Int.toNat_natCast, hgd, if_pos ⟨hi, hn⟩]; exact ⟨h1, h2⟩
  clear hi hgd
  obtain ⟨ga, rfl⟩ := pcs_at S (by omega)
  have i0 := fun wx => idxPc ga pcs.length c k hk wx
  have HPc : Hid ((netL g (some ⟨ga, 0, none⟩) c pcs sent tl)[2 + k]? = some (pcT pcs[k])) := netL_pc hk
  obtain ⟨c0, x0, x1⟩ := S.pc hk
  rw [hx] at HPc x0 x1
  have HX := hid hx
  clear hx
  have hsl := S.slA (2 + k) HPc.out
  have HS0 := hid S
  by_cases h1 : bit < 0
  · have g1 : decide (bit < 0) = true := decide_eq_true h1
    have hno : Hid (¬ ((0 ≤ bit ∧ bit / 8 < (x.b.length : Int)) ∧ x.t = false)) := by rw [Hid]; omega
    clear h1 hsl
    go_enter Try.func25, Try.ntmps25
    go_wp2_with fail
    refine (netHas_any S k).mono ?_
    rintro e w1 ⟨rfl, rfl⟩
    rw [g0.out]
    go_wp2
    go_ret
    exact HE.out _ _ rfl hno.out HS0.out
  obtain ⟨b, rfl⟩ := Int.eq_ofNat_of_zero_le (show 0 ≤ bit by omega)
  have g1 : decide ((b : Int) < 0) = false := decide_eq_false (by omega)
  clear h1
  obtain ⟨hl1, hl2, hl3, hl4, hAt⟩ := hsl
  by_cases h2 : x.n ≤ b / 8
  · have g2 : decide ((x.n : Int) ≤ (b : Int) / 8) = true := decide_eq_true (by omega)
    have hno : Hid (¬ ((0 ≤ (b : Int) ∧ (b : Int) / 8 < (x.b.length : Int)) ∧ x.t = false)) := by rw [Hid]; omega
    clear h2 hl1 hl2 hl3 hl4 hAt
    go_enter Try.func25, Try.ntmps25
    go_wp2_with fail
    refine (netHas_any S k).mono ?_
    rintro e w1 ⟨rfl, rfl⟩
    rw [g0.out]
    go_wp2
    go_ret
    exact HE.out _ _ rfl hno.out HS0.out
  have g2 : decide ((x.n : Int) ≤ (b : Int) / 8) = false := decide_eq_false (by omega)
  have hlt : b / 8 < x.b.length := by omega
  cases ht : x.t
  case true =>
    have hno : Hid (¬ ((0 ≤ (b : Int) ∧ (b : Int) / 8 < (x.b.length : Int)) ∧ x.t = false)) := by rw [Hid, ht]; simp
    rw [ht] at x1
    clear ht h2 hl1 hl2 hl3 hl4 hAt hlt
    go_enter Try.func25, Try.ntmps25
    go_wp2_with fail
    refine (netHas_any S k).mono ?_
    rintro e w1 ⟨rfl, rfl⟩
    rw [g0.out]
    go_wp2
    go_ret
    exact HE.out _ _ rfl hno.out HS0.out
  case false =>
    have hyes : Hid ((0 ≤ (b : Int) ∧ (b : Int) / 8 < (x.b.length : Int)) ∧ x.t = false) := by rw [Hid, ht]; exact ⟨⟨by omega, by omega⟩, rfl⟩
    rw [ht] at x1
    obtain ⟨gb, cb, eb, -⟩ := (S.ownAt (2 + k) HPc.out).form (by omega)
    injection eb with eb1 eb2 eb3
    have i1 := fun wx => idx_own gb x.n x.c (b / 8) ((b : Int) / 8) (by omega) (by omega) wx
    have y0 := hAt.cell hlt
    rw [eb1, adr_lit] at y0
    rw [eb1] at x0
    have HEb := hid eb1
    clear ht h2 hl2 hl3 hl4 hAt eb1 eb2 eb3
    have f0 := S.frozenB (2 + k) HPc.out HEb.out (by omega) (b / 8)
    go_enter Try.func25, Try.ntmps25
    go_wp2_with fail
    refine (netHas_any S k).mono ?_
    rintro e w1 ⟨rfl, rfl⟩
    rw [g0.out]
    go_wp2_with fail
    have f1 := S.drew.frozenB (2 + k) HPc.out HEb.out (by omega) (b / 8)
    have wq : IntKind.i64.wrap ((b : Int) / 8) = ((b / 8 : Nat) : Int) := by rw [IntKind.wrap_i64]; omega
    have wm : IntKind.i64.wrap ((b : Int) % 8) = ((b % 8 : Nat) : Int) := by rw [IntKind.wrap_i64]; omega
    have i1 := fun wx => idx_own gb x.n x.c (b / 8) ((b / 8 : Nat) : Int) rfl (by omega) wx
    have hsh : Op.shift BinOp.shl .u8 1 .i64 ((b : Int).tmod 8) = pure (.int .u8 ((UInt8.ofNat (2 ^ (b % 8))).toNat : Int)) := by
      have e8 : (b : Int).tmod 8 = ((b % 8 : Nat) : Int) := by simp [Int.tmod]
      rw [e8, shift_shl_u8 .i64 _ _ (by omega) (by omega), Int.toNat_natCast, Int.one_mul, show ∀ n : Int, IntKind.u8.wrap n = n % 256 from fun n => by simp [IntKind.wrap, IntKind.bits, IntKind.signed], (bit_turned 0 (b % 8) (by omega)).2]
    have hxo := xor_u8 x.b[b / 8] (UInt8.ofNat (2 ^ (b % 8)))
    obtain ⟨d, hd⟩ : ∃ d, x.b[b / 8] ^^^ UInt8.ofNat (2 ^ (b % 8)) = d := ⟨_, rfl⟩
    rw [hd, ← (bit_turned 0 (b % 8) (by omega)).2] at hxo
    have HD := hid hd
    clear f0 hd
    refine wp_region_heldZ (S := (fun w' => w'.cell? ⟨g, 0, none⟩ = some (.slice (some ⟨ga, 0, none⟩) pcs.length c) ∧ w'.cell? ⟨ga, k * 2, none⟩ = some (.slice (some ⟨gb, 0, none⟩) x.n x.c) ∧ w'.cell? ⟨gb, b / 8, none⟩ = some (.int .u8 (x.b[b / 8].toNat : Int)))) 17 (by kernel_rfl) (by exact ⟨c0, x0, y0⟩) (fun hHeld => ?_)
    change wpAnyZ _ _ _ _ _ 17 18 (Array.replicate 18 false) _ _
    refine wpAnyZ_take (i := 0) (v := ?v25) (ops_at rfl) (by kernel_rfl) (by kernel_rfl) (by kernel_rfl) (by kernel_rfl) [17] (by kernel_rfl) (by rfl) (fun _ _ _ h => h) (Or.inl ⟨by rfl, ?hy25⟩) (by assumption) ?rest25
    case hy25 => intro w' hSw; (try dsimp only at hSw); go_simp; try with_reducible rfl
    try simp only [Act.put, List.setIfInBounds_toArray, List.set_cons_zero, List.set_cons_succ]
    refine wpAnyZ_take (i := 1) (v := ?v26) (ops_at rfl) (by kernel_rfl) (by kernel_rfl) (by kernel_rfl) (by kernel_rfl) [17] (by kernel_rfl) (by rfl) (fun _ _ _ h => h) (Or.inl ⟨by rfl, ?hy26⟩) (by assumption) ?rest26
    case hy26 => intro w' hSw; (try dsimp only at hSw); go_simp; try with_reducible rfl
    try simp only [Act.put, List.setIfInBounds_toArray, List.set_cons_zero, List.set_cons_succ]
    refine wpAnyZ_take (i := 2) (v := ?v27) (ops_at rfl) (by kernel_rfl) (by kernel_rfl) (by kernel_rfl) (by kernel_rfl) [17] (by kernel_rfl) (by rfl) (fun _ _ _ h => h) (Or.inl ⟨by rfl, ?hy27⟩) (by assumption) ?rest27
    case hy27 => intro w' hSw; (try dsimp only at hSw); go_simp; try with_reducible rfl
    try simp only [Act.put, List.setIfInBounds_toArray, List.set_cons_zero, List.set_cons_succ]
    refine wpAnyZ_take (i := 3) (v := ?v28) (ops_at rfl) (by kernel_rfl) (by kernel_rfl) (by kernel_rfl) (by kernel_rfl) [17] (by kernel_rfl) (by rfl) (fun _ _ _ h => h) (Or.inl ⟨by rfl, ?hy28⟩) (by assumption) ?rest28
    case hy28 => intro w' hSw; (try dsimp only at hSw); go_simp; try with_reducible rfl
    try simp only [Act.put, List.setIfInBounds_toArray, List.set_cons_zero, List.set_cons_succ]
    refine wpAnyZ_take (i := 4) (v := ?v29) (ops_at rfl) (by kernel_rfl) (by kernel_rfl) (by kernel_rfl) (by kernel_rfl) [17] (by kernel_rfl) (by rfl) (fun _ _ _ h => h) (Or.inl ⟨by rfl, ?hy29⟩) (by assumption) ?rest29
    case hy29 => intro w' hSw; (try dsimp only at hSw); go_simp; try with_reducible rfl
    try simp only [Act.put, List.setIfInBounds_toArray, List.set_cons_zero, List.set_cons_succ]
    refine wpAnyZ_take (i := 5) (v := ?v30) (ops_at rfl) (by kernel_rfl) (by kernel_rfl) (by kernel_rfl) (by kernel_rfl) [17] (by kernel_rfl) (by rfl) (fun _ _ _ h => h) (Or.inl ⟨by rfl, ?hy30⟩) (by assumption) ?rest30
    case hy30 => intro w' hSw; (try dsimp only at hSw); go_simp; try with_reducible rfl
    try simp only [Act.put, List.setIfInBounds_toArray, List.set_cons_zero, List.set_cons_succ]
    refine wpAnyZ_take (i := 6) (v := ?v31) (ops_at rfl) (by kernel_rfl) (by kernel_rfl) (by kernel_rfl) (by kernel_rfl) [17] (by kernel_rfl) (by rfl) (fun _ _ _ h => h) (Or.inl ⟨by rfl, ?hy31⟩) (by assumption) ?rest31
    case hy31 => intro w' hSw; (try dsimp only at hSw); go_simp; try with_reducible rfl
    try simp only [Act.put, List.setIfInBounds_toArray, List.set_cons_zero, List.set_cons_succ]
    refine wpAnyZ_take (i := 7) (v := ?v32) (ops_at rfl) (by kernel_rfl) (by kernel_rfl) (by kernel_rfl) (by kernel_rfl) [17] (by kernel_rfl) (by rfl) (fun _ _ _ h => h) (Or.inl ⟨by rfl, ?hy32⟩) (by assumption) ?rest32
    case hy32 => intro w' hSw; (try dsimp only at hSw); go_simp; try with_reducible rfl
    try simp only [Act.put, List.setIfInBounds_toArray, List.set_cons_zero, List.set_cons_succ]
    refine wpAnyZ_take (i := 8) (v := ?v33) (ops_at rfl) (by kernel_rfl) (by kernel_rfl) (by kernel_rfl) (by kernel_rfl) [17] (by kernel_rfl) (by rfl) (fun _ _ _ h => h) (Or.inl ⟨by rfl, ?hy33⟩) (by assumption) ?rest33
    case hy33 => intro w' hSw; (try dsimp only at hSw); go_simp; try with_reducible rfl
    try simp only [Act.put, List.setIfInBounds_toArray, List.set_cons_zero, List.set_cons_succ]
    refine wpAnyZ_take (i := 9) (v := ?v34) (ops_at rfl) (by kernel_rfl) (by kernel_rfl) (by kernel_rfl) (by kernel_rfl) [17] (by kernel_rfl) (by rfl) (fun _ _ _ h => h) (Or.inl ⟨by rfl, ?hy34⟩) (by assumption) ?rest34
    case hy34 => intro w' hSw; (try dsimp only at hSw); go_simp; try with_reducible rfl
    try simp only [Act.put, List.setIfInBounds_toArray, List.set_cons_zero, List.set_cons_succ]
    refine wpAnyZ_take (i := 10) (v := ?v35) (ops_at rfl) (by kernel_rfl) (by kernel_rfl) (by kernel_rfl) (by kernel_rfl) [17] (by kernel_rfl) (by rfl) (fun _ _ _ h => h) (Or.inl ⟨by rfl, ?hy35⟩) (by assumption) ?rest35
    case hy35 => intro w' hSw; (try dsimp only at hSw); go_simp; try with_reducible rfl
    try simp only [Act.put, List.setIfInBounds_toArray, List.set_cons_zero, List.set_cons_succ]
    refine wpAnyZ_take (i := 11) (v := ?v36) (ops_at rfl) (by kernel_rfl) (by kernel_rfl) (by kernel_rfl) (by kernel_rfl) [17] (by kernel_rfl) (by rfl) (fun _ _ _ h => h) (Or.inl ⟨by rfl, ?hy36⟩) (by assumption) ?rest36
    case hy36 => intro w' hSw; (try dsimp only at hSw); go_simp; try with_reducible rfl
    try simp only [Act.put, List.setIfInBounds_toArray, List.set_cons_zero, List.set_cons_succ]
    refine wpAnyZ_take (i := 12) (v := ?v37) (ops_at rfl) (by kernel_rfl) (by kernel_rfl) (by kernel_rfl) (by kernel_rfl) [17] (by kernel_rfl) (by rfl) (fun _ _ _ h => h) (Or.inl ⟨by rfl, ?hy37⟩) (by assumption) ?rest37
    case hy37 => intro w' hSw; (try dsimp only at hSw); go_simp; try with_reducible rfl
    try simp only [Act.put, List.setIfInBounds_toArray, List.set_cons_zero, List.set_cons_succ]
    refine wpAnyZ_take (i := 13) (v := ?v38) (ops_at rfl) (by kernel_rfl) (by kernel_rfl) (by kernel_rfl) (by kernel_rfl) [17] (by kernel_rfl) (by rfl) (fun _ _ _ h => h) (Or.inl ⟨by rfl, ?hy38⟩) (by assumption) ?rest38
    case hy38 => intro w' hSw; (try dsimp only at hSw); go_simp; try with_reducible rfl
    try simp only [Act.put, List.setIfInBounds_toArray, List.set_cons_zero, List.set_cons_succ]
    refine wpAnyZ_take (i := 14) (v := ?v39) (ops_at rfl) (by kernel_rfl) (by kernel_rfl) (by kernel_rfl) (by kernel_rfl) [17] (by kernel_rfl) (by rfl) (fun _ _ _ h => h) (Or.inl ⟨by rfl, ?hy39⟩) (by assumption) ?rest39
    case hy39 => intro w' hSw; (try dsimp only at hSw); go_simp; try with_reducible rfl
    try simp only [Act.put, List.setIfInBounds_toArray, List.set_cons_zero, List.set_cons_succ]
    refine wpAnyZ_take (i := 15) (v := ?v40) (ops_at rfl) (by kernel_rfl) (by kernel_rfl) (by kernel_rfl) (by kernel_rfl) [17] (by kernel_rfl) (by rfl) (fun _ _ _ h => h) (Or.inl ⟨by rfl, ?hy40⟩) (by assumption) ?rest40
    case hy40 => intro w' hSw; (try dsimp only at hSw); go_simp; try with_reducible rfl
    try simp only [Act.put, List.setIfInBounds_toArray, List.set_cons_zero, List.set_cons_succ]
    refine wpAnyZ_take (i := 16) (v := ?v41) (ops_at rfl) (by kernel_rfl) (by kernel_rfl) (by kernel_rfl) (by kernel_rfl) [17] (by kernel_rfl) (by rfl) (fun _ _ _ h => h) (Or.inl ⟨by rfl, ?hy41⟩) (by assumption) ?rest41
    case hy41 => intro w' hSw; (try dsimp only at hSw); go_simp; try with_reducible rfl
    try simp only [Act.put, List.setIfInBounds_toArray, List.set_cons_zero, List.set_cons_succ]
    refine wpAnyZ_free (i := 17) (by kernel_rfl) (ops_at rfl) (by kernel_rfl) (fun K hK => ?_)
    go_simp
    refine hK.out _ _ ?_
    clear hK K
    try simp only [Act.put, List.setIfInBounds_toArray, List.set_cons_zero, List.set_cons_succ]
    refine wpAnyZ_done (by kernel_rfl) ?_ _
    have S1 : St w0 (w.setCell ⟨gb, b / 8, none⟩ (.int .u8 (d.toNat : Int))).drew (netL g (some ⟨ga, 0, none⟩) c (pcs.set k { x with b := x.b.set (b / 8) d }) sent tl) := (S.flipPc hk HX.out HEb.out (b / 8) d).drew
    have hk1 : k < (pcs.set k { x with b := x.b.set (b / 8) d }).length := by rw [List.length_set]; exact hk
    obtain ⟨c1, -, y1⟩ := S1.pc hk1
    rw [List.length_set] at c1
    have fz := S1.frozenC ePcOk 1 rfl (k * 2 + 1)
    have S2 := hid (S1.setPc hk1 true)
    clear c0 x0 x1 y0 hHeld hxo hsh f1
    generalize (w.setCell _ _).drew = w3 at *
    go_wp2
    go_ret
    refine HY.out _ _ rfl hyes.out ?_
    refine St.conv S2.out ?_
    have e1 : (pcs.set k { x with b := x.b.set (b / 8) d })[k] = { x with b := x.b.set (b / 8) d } := by simp
    have e2 : x.b.set (b / 8) d = flipB x.b b := by
      unfold flipB
      rw [show x.b.getD (b / 8) 0 = x.b[b / 8] by simp [List.getD, hlt], HD.out]
    rw [e1, List.set_set, Int.toNat_natCast, Pc.flip, e2]
end

end Go.Proofs.Ytjibmbejfpdifaa
