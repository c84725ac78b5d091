/- The document's net. -/
import Derived.Test.YtjibmbejfpdifaaNetLaw4
import Derived.Test.YtjibmbejfpdifaaHeld
namespace Go.Proofs.Ytjibmbejfpdifaa
set_option linter.unusedVariables false
set_option linter.unusedSimpArgs false
open Go.RowKit
/-- Truths as elements. -/
def eT : Elt Bool := { T := 48, E := 4, s := 1, byt := 1, z := .bool false, enc := fun b => [.bool b] }
theorem eTok : eT.Ok := ⟨fun _ => rfl, fun x u hu => by simp [eT] at hu; subst hu; rfl, by decide, by kernel_rfl, by kernel_rfl, by rfl⟩
theorem idxT (a : Option Addr) (n cap : Nat) (hn : 0 < n → a.isSome = true) (k : Nat) (hk : k < n) (wx : World) :
    (Instr.indexAt 48 (.slice a n cap) (.int .i64 (k : Int))).run Try.prog wx = .ok (.pointer (some (adr a k))) wx := by
  have := idxG eTok a n cap hn k k rfl hk wx
  rwa [show k * eT.s = k from Nat.mul_one k] at this
theorem AtG.cellT {w : World} {a : Option Addr} {l : List Bool} (h : AtG eT w a l) {k : Nat} (hk : k < l.length) : w.cell? (adr a k) = some (.bool l[k]) := by
  have := (h k hk).2 0 (by decide)
  rwa [show k * eT.s + 0 = k from Nat.mul_one k] at this
/-- The document's net: its cells, its messages, which of them were turned. -/
def rnL (h : Nat) (aL : Option Addr) (cL : Nat) (aB : Option Addr) (cB : Nat) (s : NS) (tl : List Thing) : List Thing :=
  cellsT h 50 [.slice aL s.l.length cL, .slice aB s.l.length cB, .int .i64 (s.sent : Int)] :: ownT eM (.slice aL s.l.length cL) (s.l.map NM.m) :: ownCT eT (.slice aB s.l.length cB) (s.l.map fun x => x.k.isSome) :: tl
section
variable {w0 w : World} {tl : List Thing} {h : Nat} {aL aB : Option Addr} {cL cB : Nat} {s : NS}
set_option maxRecDepth 10000 in
theorem rnHas_any (S : St w0 w (rnL h aL cL aB cB s tl)) (i : Int) :
    Calls Try.prog 71 #[.pointer (some ⟨h, 0, none⟩), .int .i64 i] w fun e w' => e = .returned (.bool (decide (0 ≤ i) && decide (i < (s.l.length : Int)))) ∧ w = w' := by
  have c0 := S.cell 0 rfl 0 rfl
  go_enter Try.func71, Try.ntmps71
  by_cases h0 : 0 ≤ i
  · have g0 : decide (0 ≤ i) = true := decide_eq_true h0
    go_wp2
    go_ret
    exact ⟨by simp [h0], rfl⟩
  · have g0 : decide (0 ≤ i) = false := decide_eq_false h0
    go_wp2
    go_ret
    exact ⟨by simp [h0], rfl⟩
def RPost (w0 : World) (h : Nat) (tl : List Thing) (q : Bool × NS) (e : Ending) (w' : World) : Prop := ∃ aL cL aB cB, e = .returned (.bool q.1) ∧ St w0 w' (rnL h aL cL aB cB q.2 tl)
set_option maxRecDepth 10000 in
set_option maxHeartbeats 3200000 in
theorem rnSend_any (S : St w0 w (rnL h aL cL aB cB s tl)) (hs : s.sent ≤ 1000000) (m : Msg) :
    Calls Try.prog 29 #[.pointer (some ⟨h, 0, none⟩), .agg #[.int .i64 m.node, .int .i64 m.kind, .int .i64 m.term, .int .i64 m.gen, .int .i64 m.job, .int .i64 m.inc, .int .i64 m.version, .int .i64 m.epoch, .int .i64 m.until_, .int .i64 m.mode, .int .i64 m.work]] w fun e w' => RPost w0 h tl (nSend s m) e w' := by
  have S1 : St w0 (w.alloc (.cells #[.int .i64 m.node, .int .i64 m.kind, .int .i64 m.term, .int .i64 m.gen, .int .i64 m.job, .int .i64 m.inc, .int .i64 m.version, .int .i64 m.epoch, .int .i64 m.until_, .int .i64 m.mode, .int .i64 m.work] 23)) (cellsT w.heap.size 23 m.cs :: rnL h aL cL aB cB s tl) := (S.newCells 23 #[.int .i64 m.node, .int .i64 m.kind, .int .i64 m.term, .int .i64 m.gen, .int .i64 m.job, .int .i64 m.inc, .int .i64 m.version, .int .i64 m.epoch, .int .i64 m.until_, .int .i64 m.mode, .int .i64 m.work]).rot
  have c1 := S1.cell 1 rfl 0 rfl
  obtain ⟨z0, z1, z2, z3, z4, z5, z6, z7, z8, z9, z10⟩ := S1.msg 0 rfl
  by_cases hc : s.l.length < 40 ∧ m.right = true
  case neg =>
    have HE : Hid (∀ e w', e = .returned (.bool false) → St w0 w' (rnL h aL cL aB cB s tl) → RPost w0 h tl (nSend s m) e w') := by
      intro e w' h1 h2; unfold nSend; rw [if_neg hc]; exact ⟨aL, cL, aB, cB, h1, h2⟩
    by_cases h40 : 40 ≤ s.l.length
    · have g1 : decide ((40 : Int) ≤ (s.l.length : Int)) = true := decide_eq_true (by omega)
      have g1n : decide (40 ≤ s.l.length) = true := decide_eq_true h40
      clear hc h40
      go_enter Try.func29, Try.ntmps29
      go_wp2
      go_ret
      exact HE.out _ _ rfl S1.tail
    have g1 : decide ((40 : Int) ≤ (s.l.length : Int)) = false := decide_eq_false (by omega)
    have g1n : decide (40 ≤ s.l.length) = false := decide_eq_false h40
    have HR : Hid (m.right = false) := by
      rw [Hid]
      cases h1 : m.right
      · rfl
      · exact absurd ⟨by omega, h1⟩ hc
    clear hc h40
    go_enter Try.func29, Try.ntmps29
    go_wp2_with fail
    refine (rright_any m _).mono ?_
    rintro e w1 ⟨rfl, hb1⟩
    rw [HR.out]
    have S2 := S1.grow hb1
    clear hb1
    go_wp2
    go_ret
    exact HE.out _ _ rfl S2.tail
  have HE : Hid (∀ e w' aL cL aB cB, e = .returned (.bool true) → St w0 w' (rnL h aL cL aB cB ⟨s.l ++ [⟨m, none⟩], s.sent + 1⟩ tl) → RPost w0 h tl (nSend s m) e w') := by
    intro e w' aL cL aB cB h1 h2; unfold nSend; rw [if_pos hc]; exact ⟨aL, cL, aB, cB, h1, h2⟩
  have g1 : decide ((40 : Int) ≤ (s.l.length : Int)) = false := decide_eq_false (by omega)
  have g1n : decide (40 ≤ s.l.length) = false := decide_eq_false (by omega)
  have HR := hid hc.2
  have hpl := hc.1
  clear hc
  go_enter Try.func29, Try.ntmps29
  go_wp2_with fail
  refine (rright_any m _).mono ?_
  rintro e w1 ⟨rfl, hb1⟩
  rw [HR.out]
  have S2 := S1.grow hb1
  clear hb1 z0 z1 z2 z3 z4 z5 z6 z7 z8 z9 z10 c1 g1 g1n
  go_wp2_with fail
  refine wp_region_heldZ (S := (fun w' => (w'.cell? ⟨w.heap.size, 0, none⟩ = some (.int .i64 m.node) ∧ w'.cell? ⟨w.heap.size, 1, none⟩ = some (.int .i64 m.kind) ∧ w'.cell? ⟨w.heap.size, 2, none⟩ = some (.int .i64 m.term) ∧ w'.cell? ⟨w.heap.size, 3, none⟩ = some (.int .i64 m.gen) ∧ w'.cell? ⟨w.heap.size, 4, none⟩ = some (.int .i64 m.job) ∧ w'.cell? ⟨w.heap.size, 5, none⟩ = some (.int .i64 m.inc) ∧ w'.cell? ⟨w.heap.size, 6, none⟩ = some (.int .i64 m.version) ∧ w'.cell? ⟨w.heap.size, 7, none⟩ = some (.int .i64 m.epoch) ∧ w'.cell? ⟨w.heap.size, 8, none⟩ = some (.int .i64 m.until_) ∧ w'.cell? ⟨w.heap.size, 9, none⟩ = some (.int .i64 m.mode) ∧ w'.cell? ⟨w.heap.size, 10, none⟩ = some (.int .i64 m.work)) ∧ w'.cell? ⟨h, 0, none⟩ = some (.slice aL s.l.length cL))) 7 (by kernel_rfl) (by exact ⟨S2.drew.msg 0 rfl, S2.drew.cell 1 rfl 0 rfl⟩) (fun hHeld => ?_)
  change wpAnyZ _ _ _ _ _ 7 11 (Array.replicate 11 false) _ _
  refine wpAnyZ_pure (i := 0) (v := ?v1) (ops_at rfl) (by kernel_rfl) (by kernel_rfl) (by kernel_rfl) (by kernel_rfl) (by rfl) (fun _ _ _ h => h) (Or.inl ⟨by rfl, ?hy1⟩) (fun _ => by assumption) ?rest1
  case hy1 => intro w' hSw; (try dsimp only at hSw); go_simp; try with_reducible rfl
  try simp only [Act.put, List.setIfInBounds_toArray, List.set_cons_zero, List.set_cons_succ]
  refine wpAnyZ_take (i := 1) (v := ?v2) (ops_at rfl) (by kernel_rfl) (by kernel_rfl) (by kernel_rfl) (by kernel_rfl) [2, 3, 4, 7] (by kernel_rfl) (by rfl) (fun _ _ _ h => h) (Or.inl ⟨by rfl, ?hy2⟩) (by assumption) ?rest2
  case hy2 => intro w' hSw; (try dsimp only at hSw); go_simp; try with_reducible rfl
  try simp only [Act.put, List.setIfInBounds_toArray, List.set_cons_zero, List.set_cons_succ]
  refine wpAnyZ_take (i := 2) (v := ?v3) (ops_at rfl) (by kernel_rfl) (by kernel_rfl) (by kernel_rfl) (by kernel_rfl) [3, 4, 7] (by kernel_rfl) (by rfl) (fun _ _ _ h => h) (Or.inl ⟨by rfl, ?hy3⟩) (by assumption) ?rest3
  case hy3 => intro w' hSw; (try dsimp only at hSw); go_simp; try with_reducible rfl
  try simp only [Act.put, List.setIfInBounds_toArray, List.set_cons_zero, List.set_cons_succ]
  refine wpAnyZ_take (i := 3) (v := ?v4) (ops_at rfl) (by kernel_rfl) (by kernel_rfl) (by kernel_rfl) (by kernel_rfl) [4, 7] (by kernel_rfl) (by rfl) (fun _ _ _ h => h) (Or.inl ⟨by rfl, ?hy4⟩) (by assumption) ?rest4
  case hy4 => intro w' hSw; (try dsimp only at hSw); go_simp; try with_reducible rfl
  try simp only [Act.put, List.setIfInBounds_toArray, List.set_cons_zero, List.set_cons_succ]
  refine wpAnyZ_take (i := 4) (v := ?v5) (ops_at rfl) (by kernel_rfl) (by kernel_rfl) (by kernel_rfl) (by kernel_rfl) [7] (by kernel_rfl) (by rfl) (fun _ _ _ h => h) (Or.inl ⟨by rfl, ?hy5⟩) (by assumption) ?rest5
  case hy5 => intro w' hSw; (try dsimp only at hSw); go_simp; try with_reducible rfl
  try simp only [Act.put, List.setIfInBounds_toArray, List.set_cons_zero, List.set_cons_succ]
  refine wpAnyZ_take (i := 5) (v := ?v6) (ops_at rfl) (by kernel_rfl) (by kernel_rfl) (by kernel_rfl) (by kernel_rfl) [6, 7] (by kernel_rfl) (by rfl) (fun _ _ _ h => h) (Or.inl ⟨by rfl, ?hy6⟩) (by assumption) ?rest6
  case hy6 => intro w' hSw; (try dsimp only at hSw); go_simp; try with_reducible rfl
  try simp only [Act.put, List.setIfInBounds_toArray, List.set_cons_zero, List.set_cons_succ]
  refine wpAnyZ_one (i := 6) (by kernel_rfl) (ops_at rfl) (fun K hK => ?_)
  go_simp
  refine hK.out _ _ (by exact ⟨(S2.drew.alloc _).msg 0 rfl, (S2.drew.alloc _).cell 1 rfl 0 rfl⟩) (fun hHeld => ?_)
  clear hK K
  try simp only [Act.put, List.setIfInBounds_toArray, List.set_cons_zero, List.set_cons_succ]
  refine wpAnyZ_free (i := 7) (by kernel_rfl) (ops_at rfl) (by kernel_rfl) (fun K hK => ?_)
  refine step_app (by rfl) (.tmp 20) (.tmp 22) eM.T eM.T eM.T rfl rfl _ _ rfl rfl (S2.drew.appG1 eMok w1.heap.size rfl 2 rfl m _ (by rfl) (s.l.length + 1) (by rw [List.length_map]) (by show _ * 88 ≤ _; omega) (by unfold maxLen; omega)) ?_
  rintro v6 w6 ⟨⟨a6, c6, rfl⟩, S6⟩
  have f6 := S6.frozen 1 rfl 0
  have d6 := S6.cell 1 rfl 0 rfl
  refine hK.out _ _ ?_
  clear hK K
  try simp only [Act.put, List.setIfInBounds_toArray, List.set_cons_zero, List.set_cons_succ]
  refine wpAnyZ_pure (i := 8) (v := ?v7) (ops_at rfl) (by kernel_rfl) (by kernel_rfl) (by kernel_rfl) (by kernel_rfl) (by rfl) (fun _ _ _ h => h) (Or.inl ⟨by rfl, ?hy7⟩) (fun h => absurd h (by decide)) ?rest7
  case hy7 => intro w' hSw; (try dsimp only at hSw); go_simp; try with_reducible rfl
  try simp only [Act.put, List.setIfInBounds_toArray, List.set_cons_zero, List.set_cons_succ]
  refine wpAnyZ_pure (i := 9) (v := ?v8) (ops_at rfl) (by kernel_rfl) (by kernel_rfl) (by kernel_rfl) (by kernel_rfl) (by rfl) (fun _ _ _ h => h) (Or.inl ⟨by rfl, ?hy8⟩) (fun h => absurd h (by decide)) ?rest8
  case hy8 => intro w' hSw; (try dsimp only at hSw); go_simp; try with_reducible rfl
  try simp only [Act.put, List.setIfInBounds_toArray, List.set_cons_zero, List.set_cons_succ]
  refine wpAnyZ_free (i := 10) (by kernel_rfl) (ops_at rfl) (by kernel_rfl) (fun K hK => ?_)
  go_simp
  refine hK.out _ _ ?_
  clear hK K
  try simp only [Act.put, List.setIfInBounds_toArray, List.set_cons_zero, List.set_cons_succ]
  refine wpAnyZ_done (by kernel_rfl) ?_ _
  have S7 : St w0 _ (cellsT w.heap.size 23 m.cs :: cellsT h 50 [.slice a6 (s.l.length + 1) c6, .slice aB s.l.length cB, .int .i64 (s.sent : Int)] :: ownT eM (.slice a6 (s.l.length + 1) c6) (s.l.map NM.m ++ [m]) :: ownCT eT (.slice aB s.l.length cB) (s.l.map fun x => x.k.isSome) :: tl) := S6.setCell 1 rfl 0 (.slice a6 (s.l.length + 1) c6)
  clear f6 d6 S6 S2
  generalize w6.setCell _ _ = w7 at *
  have c7 := S7.cell 1 rfl 1 rfl
  go_wp2_with (at_builtin; refine wpList_app (by rfl) (.tmp 30) (.tmp 31) eT.T eT.T eT.T rfl rfl _ _ rfl rfl (S7.appC1 eTok w7.heap.size rfl 3 rfl false _ (by rfl) (s.l.length + 1) (by rw [List.length_map]) (by show _ * 1 ≤ _; omega) (by unfold maxLen; omega)) ?_; rintro v8 w8 ⟨⟨a8, c8, rfl⟩, S8⟩; have f8 := S8.frozen 1 rfl 1; have d8 := S8.cell 1 rfl 1 rfl; have f9 := S8.frozen 1 rfl 2; have d9 := S8.cell 1 rfl 2 rfl)
  go_ret
  have S9 := (((S8.setCell 1 rfl 1 (.slice a8 (s.l.length + 1) c8)).setCell 1 rfl 2 (.int .i64 ((s.sent + 1 : Nat) : Int)))).tail
  refine HE.out _ _ a6 c6 a8 c8 rfl (St.conv S9 ?_)
  simp [rnL]
end

end Go.Proofs.Ytjibmbejfpdifaa
