/- The document's net: Deliver, List; messages held against each other. -/
import Derived.Test.YtilobmefomoemaaDoorNetRef3
namespace Go.Proofs.YtilobmefomoemaaDoor
set_option linter.unusedVariables false
set_option linter.unusedSimpArgs false
open Go.RowKit
section
variable {w0 w : World} {tl : List Thing} {h : Nat} {aL aB : Option Addr} {cL cB : Nat} {s : NS}
theorem nList_step {l : List NM} {k : Nat} (hk : k < l.length) : (l.take (k + 1)).filterMap NM.shown = (l.take k).filterMap NM.shown ++ l[k].shown.toList := by
  rw [List.take_succ_eq_append_getElem hk, List.filterMap_append]
  cases h : l[k].shown <;> simp [h]
set_option maxRecDepth 10000 in
set_option maxHeartbeats 3200000 in
theorem msame_any (a b : Option Addr) (L : List Msg) (n ca cb : Nat) (w : World) (hn : L.length = n) (hm : n ≤ 1000000) (hA : AtG eM w a L) (hB : AtG eM w b L) :
    Calls Tryd.prog 24 #[.slice a n ca, .slice b n cb] w fun e w' => e = .returned (.bool true) ∧ Below w.heap.size w w' := by
  have HN := hid hn
  have HA := hid hA
  have HB := hid hB
  have S0 := St.start w
  have g0 : ((n : Int) != (n : Int)) = false := by simp
  clear hn hA hB
  go_enter Tryd.func24, Tryd.ntmps24
  go_wp2_with fail
  go_loopw [5] (fun i wr => ∃ k : Nat, k ≤ n ∧ i = .int .i64 k ∧ St w wr []) (fun i _ => n - (intOf i).toNat)
  case atStart => exact ⟨0, Nat.zero_le _, rfl, S0⟩
  case round =>
    obtain ⟨k, hk, rfl, Sk⟩ := hrel
    clear S0
    by_cases hlt : k < n
    case neg =>
      have g1 : decide ((k : Int) < (n : Int)) = false := decide_eq_false (by omega)
      have g1n : decide (k < n) = false := decide_eq_false (by omega)
      clear hlt
      go_wp2
      go_ret
      exact ⟨rfl, Sk.fin⟩
    have g1 : decide ((k : Int) < (n : Int)) = true := decide_eq_true (by omega)
    have g1n : decide (k < n) = true := decide_eq_true (by omega)
    have hkl : k < L.length := by rw [HN.out]; exact hlt
    have hA1 := HA.out.all eMok Sk.fin
    have hB1 := HB.out.all eMok Sk.fin
    have i0 := fun wx => idxM a n ca (fun h => hA1.ok (by omega)) k hlt wx
    have i1 := fun wx => idxM b n cb (fun h => hB1.ok (by omega)) k hlt wx
    obtain ⟨x0, x1, x2, x3, x4, x5, x6, x7, x8, x9, x10⟩ := hA1.msgAt hkl
    obtain ⟨z0, z1, z2, z3, z4, z5, z6, z7, z8, z9, z10⟩ := hB1.msgAt hkl
    obtain ⟨m, hm0⟩ : ∃ m, L[k] = m := ⟨_, rfl⟩
    rw [hm0] at x0 x1 x2 x3 x4 x5 x6 x7 x8 x9 x10 z0 z1 z2 z3 z4 z5 z6 z7 z8 z9 z10
    have q1 := fun wx => neM m m wx
    rw [Msg.eq_self] at q1
    clear hA1 hB1 hm0
    generalize adr a (k * 11) = A at *
    generalize adr b (k * 11) = B at *
    go_wp2_with fail
    refine wp_region_held_drew (S := (fun w' => (w'.cell? A = some (.int .i64 m.node) ∧ w'.cell? { block := A.block, off := A.off + 1 } = some (.int .i64 m.kind) ∧ w'.cell? { block := A.block, off := A.off + 2 } = some (.int .i64 m.term) ∧ w'.cell? { block := A.block, off := A.off + 3 } = some (.int .i64 m.gen) ∧ w'.cell? { block := A.block, off := A.off + 4 } = some (.int .i64 m.job) ∧ w'.cell? { block := A.block, off := A.off + 5 } = some (.int .i64 m.inc) ∧ w'.cell? { block := A.block, off := A.off + 6 } = some (.int .i64 m.version) ∧ w'.cell? { block := A.block, off := A.off + 7 } = some (.int .i64 m.epoch) ∧ w'.cell? { block := A.block, off := A.off + 8 } = some (.int .i64 m.until_) ∧ w'.cell? { block := A.block, off := A.off + 9 } = some (.int .i64 m.mode) ∧ w'.cell? { block := A.block, off := A.off + 10 } = some (.int .i64 m.work)) ∧ (w'.cell? B = some (.int .i64 m.node) ∧ w'.cell? { block := B.block, off := B.off + 1 } = some (.int .i64 m.kind) ∧ w'.cell? { block := B.block, off := B.off + 2 } = some (.int .i64 m.term) ∧ w'.cell? { block := B.block, off := B.off + 3 } = some (.int .i64 m.gen) ∧ w'.cell? { block := B.block, off := B.off + 4 } = some (.int .i64 m.job) ∧ w'.cell? { block := B.block, off := B.off + 5 } = some (.int .i64 m.inc) ∧ w'.cell? { block := B.block, off := B.off + 6 } = some (.int .i64 m.version) ∧ w'.cell? { block := B.block, off := B.off + 7 } = some (.int .i64 m.epoch) ∧ w'.cell? { block := B.block, off := B.off + 8 } = some (.int .i64 m.until_) ∧ w'.cell? { block := B.block, off := B.off + 9 } = some (.int .i64 m.mode) ∧ w'.cell? { block := B.block, off := B.off + 10 } = some (.int .i64 m.work)))) (by kernel_rfl) (by exact ⟨⟨x0, x1, x2, x3, x4, x5, x6, x7, x8, x9, x10⟩, z0, z1, z2, z3, z4, z5, z6, z7, z8, z9, z10⟩) (fun hHeld => ?_)
    change wpAnyH _ _ _ _ _ 9 (Array.replicate 9 false) _ _
    refine wpAnyH_take (i := 0) (v := ?v1) (ops_at rfl) (by kernel_rfl) (by kernel_rfl) (by kernel_rfl) (fun _ _ _ h => h) (Or.inl ⟨by rfl, ?hy1⟩) (by assumption) ?rest1
    case hy1 => intro w' hSw; (try dsimp only at hSw); go_simp; try with_reducible rfl
    try simp only [Act.put, List.setIfInBounds_toArray, List.set_cons_zero, List.set_cons_succ]
    refine wpAnyH_take (i := 1) (v := ?v2) (ops_at rfl) (by kernel_rfl) (by kernel_rfl) (by kernel_rfl) (fun _ _ _ h => h) (Or.inl ⟨by rfl, ?hy2⟩) (by assumption) ?rest2
    case hy2 => intro w' hSw; (try dsimp only at hSw); go_simp; try with_reducible rfl
    try simp only [Act.put, List.setIfInBounds_toArray, List.set_cons_zero, List.set_cons_succ]
    refine wpAnyH_take (i := 2) (v := ?v3) (ops_at rfl) (by kernel_rfl) (by kernel_rfl) (by kernel_rfl) (fun _ _ _ h => h) (Or.inl ⟨by rfl, ?hy3⟩) (by assumption) ?rest3
    case hy3 => intro w' hSw; (try dsimp only at hSw); go_simp; try with_reducible rfl
    try simp only [Act.put, List.setIfInBounds_toArray, List.set_cons_zero, List.set_cons_succ]
    refine wpAnyH_take (i := 3) (v := ?v4) (ops_at rfl) (by kernel_rfl) (by kernel_rfl) (by kernel_rfl) (fun _ _ _ h => h) (Or.inl ⟨by rfl, ?hy4⟩) (by assumption) ?rest4
    case hy4 => intro w' hSw; (try dsimp only at hSw); go_simp; try with_reducible rfl
    try simp only [Act.put, List.setIfInBounds_toArray, List.set_cons_zero, List.set_cons_succ]
    refine wpAnyH_take (i := 4) (v := ?v5) (ops_at rfl) (by kernel_rfl) (by kernel_rfl) (by kernel_rfl) (fun _ _ _ h => h) (Or.inl ⟨by rfl, ?hy5⟩) (by assumption) ?rest5
    case hy5 => intro w' hSw; (try dsimp only at hSw); go_simp; try with_reducible rfl
    try simp only [Act.put, List.setIfInBounds_toArray, List.set_cons_zero, List.set_cons_succ]
    refine wpAnyH_take (i := 5) (v := ?v6) (ops_at rfl) (by kernel_rfl) (by kernel_rfl) (by kernel_rfl) (fun _ _ _ h => h) (Or.inl ⟨by rfl, ?hy6⟩) (by assumption) ?rest6
    case hy6 => intro w' hSw; (try dsimp only at hSw); go_simp; try with_reducible rfl
    try simp only [Act.put, List.setIfInBounds_toArray, List.set_cons_zero, List.set_cons_succ]
    refine wpAnyH_take (i := 6) (v := ?v7) (ops_at rfl) (by kernel_rfl) (by kernel_rfl) (by kernel_rfl) (fun _ _ _ h => h) (Or.inl ⟨by rfl, ?hy7⟩) (by assumption) ?rest7
    case hy7 => intro w' hSw; (try dsimp only at hSw); go_simp; try with_reducible rfl
    try simp only [Act.put, List.setIfInBounds_toArray, List.set_cons_zero, List.set_cons_succ]
    refine wpAnyH_take (i := 7) (v := ?v8) (ops_at rfl) (by kernel_rfl) (by kernel_rfl) (by kernel_rfl) (fun _ _ _ h => h) (Or.inl ⟨by rfl, ?hy8⟩) (by assumption) ?rest8
    case hy8 => intro w' hSw; (try dsimp only at hSw); go_simp; try with_reducible rfl
    try simp only [Act.put, List.setIfInBounds_toArray, List.set_cons_zero, List.set_cons_succ]
    refine wpAnyH_take (i := 8) (v := ?v9) (ops_at rfl) (by kernel_rfl) (by kernel_rfl) (by kernel_rfl) (fun _ _ _ h => h) (Or.inl ⟨by rfl, ?hy9⟩) (by assumption) ?rest9
    case hy9 => intro w' hSw; (try dsimp only at hSw); go_simp; try with_reducible rfl
    try simp only [Act.put, List.setIfInBounds_toArray, List.set_cons_zero, List.set_cons_succ]
    refine wpAnyH_done (by kernel_rfl) ?_ _
    go_wp2
    go_roundw
    case rel => exact ⟨k + 1, by omega, by go_num, Sk.drew⟩
    case measure => simp [intOf]; omega
end

end Go.Proofs.YtilobmefomoemaaDoor
