/- AgentMay: the law. -/
import Derived.Test.YtiilhfmmclhflaaAgentMay
namespace Go.Proofs.Ytiilhfmmclhflaa
set_option linter.unusedVariables false
set_option linter.unusedSimpArgs false
open Go.RowKit
theorem takeV_out (a : AG) (node : Int) (r : Option (AG × Option SS)) : ∃ tc t, TakeV a node r = .tuple #[.agg (TakeA a r).cs.toArray, .agg tc, .bool t] := by
  cases r with
  | none => exact ⟨_, _, rfl⟩
  | some x => exact ⟨_, _, rfl⟩
theorem act_same (a : AG) (now : Int) : ((aAct a now).version = a.version ∧ ((aAct a now).mode = a.mode ∨ (aAct a now).mode = 0) ∨ a.mode = 4 ∧ (aAct a now).mode = 0) ∧ (aAct a now).term = a.term ∧ (aAct a now).gen = a.gen := by
  unfold aAct
  by_cases h1 : a.up = false ∨ a.mode = 0
  · rw [if_pos h1]; exact ⟨.inl ⟨rfl, .inl rfl⟩, rfl, rfl⟩
  · rw [if_neg h1]
    by_cases h2 : a.mode = 4
    · rw [if_pos h2]; exact ⟨.inr ⟨h2, rfl⟩, rfl, rfl⟩
    · rw [if_neg h2]
      by_cases h3 : a.lease ≤ now
      · rw [if_pos h3]; exact ⟨.inl ⟨rfl, .inr rfl⟩, rfl, rfl⟩
      · rw [if_neg h3]
        by_cases h4 : a.mode = 2
        · rw [if_pos h4]; exact ⟨.inl ⟨rfl, .inl rfl⟩, rfl, rfl⟩
        · rw [if_neg h4]; exact ⟨.inl ⟨rfl, .inl rfl⟩, rfl, rfl⟩
set_option maxRecDepth 10000 in
set_option maxHeartbeats 6400000 in
theorem agentMay_law (A0 : Option Addr) (L : List MAct) (n cap : Nat) (w : World) (hn : L.length = n) (hm : n ≤ maxLen) (hA : AtG eMA w A0 L) :
    Calls Try.prog 11 #[.slice A0 n cap] w fun e w' => e = .returned (.bool true) ∧ Below w.heap.size w w' := by
  have HN := hid hn
  have HA := hid hA
  have HM := hid hm
  have S0 := St.start w
  clear hn hA hm
  go_enter Try.func11, Try.ntmps11
  go_wp2_with fail
  refine (alive13_any _).mono ?_
  rintro e w1 ⟨rfl, hb1⟩
  have S1 := S0.grow hb1
  clear hb1 S0
  go_wp2_with fail
  refine (few13_any A0 L n cap _ HN.out HM.out (HA.out.all eMAok S1.fin)).mono ?_
  rintro e w2 ⟨f, rfl, hf, hb2⟩
  have S2 := S1.grow hb2
  clear hb2 S1
  cases f
  · go_wp2
    go_ret
    exact ⟨rfl, S2.fin⟩
  have HF := hid (hf rfl).2
  have hn60 := (hf rfl).1
  rw [HN.out] at hn60
  clear hf
  go_wp2_with fail
  refine (stNew_any S2 60).mono ?_
  rintro e w3 ⟨rfl, S3⟩
  generalize w2.heap.size = gs at *
  have S4 : St w w3 [soT (.pointer (some ⟨gs, 0, none⟩)) (some (SS.new 60))] := St.soMk (r := [storeT gs (SS.new 60)]) S3 0 rfl
  clear S2 S3
  go_wp2_with fail
  refine (agNew _).mono ?_
  rintro e w4 ⟨rfl, hb4⟩
  rw [show aNew.v = .agg #[.bool true, .int .i64 0, .int .i64 0, .int .i64 0, .int .i64 0, .int .i64 0, .int .i64 1, .int .i64 0, .int .i64 0, .int .i64 0] from rfl]
  have S5 : St w (w4.alloc (.cells #[.bool true, .int .i64 0, .int .i64 0, .int .i64 0, .int .i64 0, .int .i64 0, .int .i64 1, .int .i64 0, .int .i64 0, .int .i64 0] 51)) [soT (.pointer (some ⟨gs, 0, none⟩)) (some (SS.new 60)), cellsT w4.heap.size 51 aNew.cs] := (S4.grow hb4).newAt _ _ _ rfl
  clear hb4 S4
  go_wp2_with fail
  generalize w4.heap.size = ga at *
  generalize w4.alloc _ = w5 at *
  go_loopw [5] (fun i wr => ∃ (k : Nat) (a : AG) (s : SS), k ≤ n ∧ i = .int .i64 k ∧ MayInv a ∧ s.writes ≤ k ∧ St w wr [soT (.pointer (some ⟨gs, 0, none⟩)) (some s), cellsT ga 51 a.cs]) (fun i _ => n - (intOf i).toNat)
  case atStart => exact ⟨0, aNew, SS.new 60, Nat.zero_le _, rfl, ⟨.inr rfl, by decide⟩, Nat.le_refl _, S5⟩
  case round =>
    obtain ⟨k, a, s, hk, rfl, hI, hW0, Sk⟩ := hrel
    clear S5
    have HI := hid hI
    clear hI
    by_cases hlt : k < n
    case neg =>
      go_wp2
      go_ret
      exact ⟨rfl, Sk.fin⟩
    have hkl : k < L.length := by rw [HN.out]; exact hlt
    have i0 := fun wx => idxMA A0 n cap (fun h => HA.out.ok (by rw [HN.out]; exact h)) k hlt wx
    have HX : Hid (∀ w', Below w.heap.size w w' → MAt w' (adr A0 (k * 13)) L[k]) := fun w' hb => (HA.out.all eMAok hb).mAt hkl
    have HOk := hid (HF.out k hkl)
    generalize L[k] = x at *
    generalize adr A0 (k * 13) = A at *
    have S6 : St w (wr.alloc (.cells #[.bool a.up, .int .i64 a.term, .int .i64 a.gen, .int .i64 a.mode, .int .i64 a.job, .int .i64 a.inc, .int .i64 a.version, .int .i64 a.lease, .int .i64 a.worked, .int .i64 a.to_] 51)) [soT (.pointer (some ⟨gs, 0, none⟩)) (some s), cellsT ga 51 a.cs, cellsT wr.heap.size 51 a.cs] := Sk.newAt _ _ _ rfl
    obtain ⟨q0, q1, q2, q3, q4, q5, q6, q7, q8, q9⟩ := Sk.agAt 1 rfl
    clear Sk hkl
    obtain ⟨x0, x1, x2, x3, x4, x5, x6, x7, x8, x9, x10, x11, x12⟩ := HX.out _ S6.fin
    by_cases c0 : x.kind = 0
    · as_aux_lemma =>
      have d0 : (x.kind == 0) = true := by simpa using c0
      have d1 : (x.kind == 1) = false := by rw [c0]; rfl
      clear c0
      go_wp2_with fail
      generalize wr.heap.size = gw at *
      generalize wr.alloc _ = w6 at *
      refine wp_region_heldZ (S := (fun w' => (w'.cell? ⟨ga, 0, none⟩ = some (.bool a.up) ∧ w'.cell? ⟨ga, 1, none⟩ = some (.int .i64 a.term) ∧ w'.cell? ⟨ga, 2, none⟩ = some (.int .i64 a.gen) ∧ w'.cell? ⟨ga, 3, none⟩ = some (.int .i64 a.mode) ∧ w'.cell? ⟨ga, 4, none⟩ = some (.int .i64 a.job) ∧ w'.cell? ⟨ga, 5, none⟩ = some (.int .i64 a.inc) ∧ w'.cell? ⟨ga, 6, none⟩ = some (.int .i64 a.version) ∧ w'.cell? ⟨ga, 7, none⟩ = some (.int .i64 a.lease) ∧ w'.cell? ⟨ga, 8, none⟩ = some (.int .i64 a.worked) ∧ w'.cell? ⟨ga, 9, none⟩ = some (.int .i64 a.to_)) ∧ (w'.cell? A = some (.int .i64 x.kind) ∧ w'.cell? { block := A.block, off := A.off + 1 } = some (.int .i64 x.now) ∧ w'.cell? { block := A.block, off := A.off + 2 } = some (.int .i64 x.m.node) ∧ w'.cell? { block := A.block, off := A.off + 3 } = some (.int .i64 x.m.kind) ∧ w'.cell? { block := A.block, off := A.off + 4 } = some (.int .i64 x.m.term) ∧ w'.cell? { block := A.block, off := A.off + 5 } = some (.int .i64 x.m.gen) ∧ w'.cell? { block := A.block, off := A.off + 6 } = some (.int .i64 x.m.job) ∧ w'.cell? { block := A.block, off := A.off + 7 } = some (.int .i64 x.m.inc) ∧ w'.cell? { block := A.block, off := A.off + 8 } = some (.int .i64 x.m.version) ∧ w'.cell? { block := A.block, off := A.off + 9 } = some (.int .i64 x.m.epoch) ∧ w'.cell? { block := A.block, off := A.off + 10 } = some (.int .i64 x.m.until_) ∧ w'.cell? { block := A.block, off := A.off + 11 } = some (.int .i64 x.m.mode) ∧ w'.cell? { block := A.block, off := A.off + 12 } = some (.int .i64 x.m.work)))) 17 (by kernel_rfl) (by exact ⟨S6.drew.agAt 1 rfl, HX.out _ S6.drew.fin⟩) (fun hHeld => ?_)
      change wpAnyZ _ _ _ _ _ 17 18 (Array.replicate 18 false) _ _
      refine wpAnyZ_take (i := 0) (v := ?v1) (ops_at rfl) (by kernel_rfl) (by kernel_rfl) (by kernel_rfl) (by kernel_rfl) [17] (by kernel_rfl) (by rfl) (fun _ _ _ h => h) (Or.inl ⟨by rfl, ?hy1⟩) (by assumption) ?rest1
      case hy1 => intro w' hSw; (try dsimp only at hSw); go_simp; try with_reducible rfl
      try simp only [Act.put, List.setIfInBounds_toArray, List.set_cons_zero, List.set_cons_succ]
      refine wpAnyZ_take (i := 1) (v := ?v2) (ops_at rfl) (by kernel_rfl) (by kernel_rfl) (by kernel_rfl) (by kernel_rfl) [17] (by kernel_rfl) (by rfl) (fun _ _ _ h => h) (Or.inl ⟨by rfl, ?hy2⟩) (by assumption) ?rest2
      case hy2 => intro w' hSw; (try dsimp only at hSw); go_simp; try with_reducible rfl
      try simp only [Act.put, List.setIfInBounds_toArray, List.set_cons_zero, List.set_cons_succ]
      refine wpAnyZ_take (i := 2) (v := ?v3) (ops_at rfl) (by kernel_rfl) (by kernel_rfl) (by kernel_rfl) (by kernel_rfl) [17] (by kernel_rfl) (by rfl) (fun _ _ _ h => h) (Or.inl ⟨by rfl, ?hy3⟩) (by assumption) ?rest3
      case hy3 => intro w' hSw; (try dsimp only at hSw); go_simp; try with_reducible rfl
      try simp only [Act.put, List.setIfInBounds_toArray, List.set_cons_zero, List.set_cons_succ]
      refine wpAnyZ_take (i := 3) (v := ?v4) (ops_at rfl) (by kernel_rfl) (by kernel_rfl) (by kernel_rfl) (by kernel_rfl) [17] (by kernel_rfl) (by rfl) (fun _ _ _ h => h) (Or.inl ⟨by rfl, ?hy4⟩) (by assumption) ?rest4
      case hy4 => intro w' hSw; (try dsimp only at hSw); go_simp; try with_reducible rfl
      try simp only [Act.put, List.setIfInBounds_toArray, List.set_cons_zero, List.set_cons_succ]
      refine wpAnyZ_take (i := 4) (v := ?v5) (ops_at rfl) (by kernel_rfl) (by kernel_rfl) (by kernel_rfl) (by kernel_rfl) [17] (by kernel_rfl) (by rfl) (fun _ _ _ h => h) (Or.inl ⟨by rfl, ?hy5⟩) (by assumption) ?rest5
      case hy5 => intro w' hSw; (try dsimp only at hSw); go_simp; try with_reducible rfl
      try simp only [Act.put, List.setIfInBounds_toArray, List.set_cons_zero, List.set_cons_succ]
      refine wpAnyZ_take (i := 5) (v := ?v6) (ops_at rfl) (by kernel_rfl) (by kernel_rfl) (by kernel_rfl) (by kernel_rfl) [17] (by kernel_rfl) (by rfl) (fun _ _ _ h => h) (Or.inl ⟨by rfl, ?hy6⟩) (by assumption) ?rest6
      case hy6 => intro w' hSw; (try dsimp only at hSw); go_simp; try with_reducible rfl
      try simp only [Act.put, List.setIfInBounds_toArray, List.set_cons_zero, List.set_cons_succ]
      refine wpAnyZ_take (i := 6) (v := ?v7) (ops_at rfl) (by kernel_rfl) (by kernel_rfl) (by kernel_rfl) (by kernel_rfl) [17] (by kernel_rfl) (by rfl) (fun _ _ _ h => h) (Or.inl ⟨by rfl, ?hy7⟩) (by assumption) ?rest7
      case hy7 => intro w' hSw; (try dsimp only at hSw); go_simp; try with_reducible rfl
      try simp only [Act.put, List.setIfInBounds_toArray, List.set_cons_zero, List.set_cons_succ]
      refine wpAnyZ_take (i := 7) (v := ?v8) (ops_at rfl) (by kernel_rfl) (by kernel_rfl) (by kernel_rfl) (by kernel_rfl) [17] (by kernel_rfl) (by rfl) (fun _ _ _ h => h) (Or.inl ⟨by rfl, ?hy8⟩) (by assumption) ?rest8
      case hy8 => intro w' hSw; (try dsimp only at hSw); go_simp; try with_reducible rfl
      try simp only [Act.put, List.setIfInBounds_toArray, List.set_cons_zero, List.set_cons_succ]
      refine wpAnyZ_take (i := 8) (v := ?v9) (ops_at rfl) (by kernel_rfl) (by kernel_rfl) (by kernel_rfl) (by kernel_rfl) [17] (by kernel_rfl) (by rfl) (fun _ _ _ h => h) (Or.inl ⟨by rfl, ?hy9⟩) (by assumption) ?rest9
      case hy9 => intro w' hSw; (try dsimp only at hSw); go_simp; try with_reducible rfl
      try simp only [Act.put, List.setIfInBounds_toArray, List.set_cons_zero, List.set_cons_succ]
      refine wpAnyZ_take (i := 9) (v := ?v10) (ops_at rfl) (by kernel_rfl) (by kernel_rfl) (by kernel_rfl) (by kernel_rfl) [17] (by kernel_rfl) (by rfl) (fun _ _ _ h => h) (Or.inl ⟨by rfl, ?hy10⟩) (by assumption) ?rest10
      case hy10 => intro w' hSw; (try dsimp only at hSw); go_simp; try with_reducible rfl
      try simp only [Act.put, List.setIfInBounds_toArray, List.set_cons_zero, List.set_cons_succ]
      refine wpAnyZ_take (i := 10) (v := ?v11) (ops_at rfl) (by kernel_rfl) (by kernel_rfl) (by kernel_rfl) (by kernel_rfl) [17] (by kernel_rfl) (by rfl) (fun _ _ _ h => h) (Or.inl ⟨by rfl, ?hy11⟩) (by assumption) ?rest11
      case hy11 => intro w' hSw; (try dsimp only at hSw); go_simp; try with_reducible rfl
      try simp only [Act.put, List.setIfInBounds_toArray, List.set_cons_zero, List.set_cons_succ]
      refine wpAnyZ_take (i := 11) (v := ?v12) (ops_at rfl) (by kernel_rfl) (by kernel_rfl) (by kernel_rfl) (by kernel_rfl) [17] (by kernel_rfl) (by rfl) (fun _ _ _ h => h) (Or.inl ⟨by rfl, ?hy12⟩) (by assumption) ?rest12
      case hy12 => intro w' hSw; (try dsimp only at hSw); go_simp; try with_reducible rfl
      try simp only [Act.put, List.setIfInBounds_toArray, List.set_cons_zero, List.set_cons_succ]
      refine wpAnyZ_one (i := 12) (by kernel_rfl) (ops_at rfl) (fun K hK => ?_)
      go_simp
      refine (agTake (tl := [cellsT ga 51 a.cs, cellsT gw 51 a.cs]) S6.drew a 1 x.m x.now (by show s.writes ≤ _; omega)).mono ?_
      rintro e w7 ⟨rfl, S7⟩
      have HMS := hid (HI.out.take x.m x.now (some s) HOk.out.1 x.kind)
      obtain ⟨t, ht, hwt⟩ := oWrites_take a x.m x.now s
      have hW : t.writes ≤ k + 1 := by omega
      obtain ⟨tc, tk, hv⟩ := takeV_out a 1 (aTake a x.m x.now (some s))
      rw [hv]
      rw [ht] at S7
      have HV : Hid ((TakeA a (aTake a x.m x.now (some s))).version = a.version) := by
        rw [Hid]
        unfold aTake
        split
        · exact (oOrder_keeps _ _ _ _).2.2.2
        · rfl
      clear hv ht hwt
      generalize TakeA a (aTake a x.m x.now (some s)) = b at *
      have hst := agStore _ _ a b (S7.heap 1 rfl)
      have S9 : St w _ [soT (.pointer (some ⟨gs, 0, none⟩)) (some t), cellsT ga 51 b.cs, cellsT gw 51 a.cs] := S7.setRow 1 rfl b.cs.toArray
      refine hK.out _ _ (by exact ⟨S7.agAt 1 rfl, HX.out _ S7.fin⟩) (fun hHeld => ?_)
      clear hK K
      try simp only [Act.put, List.setIfInBounds_toArray, List.set_cons_zero, List.set_cons_succ]
      refine wpAnyZ_take (i := 13) (v := ?v13) (ops_at rfl) (by kernel_rfl) (by kernel_rfl) (by kernel_rfl) (by kernel_rfl) [17] (by kernel_rfl) (by rfl) (fun _ _ _ h => h) (Or.inl ⟨by rfl, ?hy13⟩) (by assumption) ?rest13
      case hy13 => intro w' hSw; (try dsimp only at hSw); go_simp; try with_reducible rfl
      try simp only [Act.put, List.setIfInBounds_toArray, List.set_cons_zero, List.set_cons_succ]
      refine wpAnyZ_take (i := 14) (v := ?v14) (ops_at rfl) (by kernel_rfl) (by kernel_rfl) (by kernel_rfl) (by kernel_rfl) [17] (by kernel_rfl) (by rfl) (fun _ _ _ h => h) (Or.inl ⟨by rfl, ?hy14⟩) (by assumption) ?rest14
      case hy14 => intro w' hSw; (try dsimp only at hSw); go_simp; try with_reducible rfl
      try simp only [Act.put, List.setIfInBounds_toArray, List.set_cons_zero, List.set_cons_succ]
      refine wpAnyZ_pure (i := 15) (v := ?v15) (ops_at rfl) (by kernel_rfl) (by kernel_rfl) (by kernel_rfl) (by kernel_rfl) (by rfl) (fun _ _ _ h => h) (Or.inl ⟨by rfl, ?hy15⟩) (fun _ => by assumption) ?rest15
      case hy15 => intro w' hSw; (try dsimp only at hSw); go_simp; try with_reducible rfl
      try simp only [Act.put, List.setIfInBounds_toArray, List.set_cons_zero, List.set_cons_succ]
      refine wpAnyZ_pure (i := 16) (v := ?v16) (ops_at rfl) (by kernel_rfl) (by kernel_rfl) (by kernel_rfl) (by kernel_rfl) (by rfl) (fun _ _ _ h => h) (Or.inl ⟨by rfl, ?hy16⟩) (fun _ => by assumption) ?rest16
      case hy16 => intro w' hSw; (try dsimp only at hSw); go_simp; try with_reducible rfl
      try simp only [Act.put, List.setIfInBounds_toArray, List.set_cons_zero, List.set_cons_succ]
      refine wpAnyZ_free (i := 17) (by kernel_rfl) (ops_at rfl) (by kernel_rfl) (fun K hK => ?_)
      go_simp
      refine hK.out _ _ ?_
      clear hK K
      try simp only [Act.put, List.setIfInBounds_toArray, List.set_cons_zero, List.set_cons_succ]
      refine wpAnyZ_done (by kernel_rfl) ?_ _
      clear S7 hst S6 q0 q1 q2 q3 q4 q5 q6 q7 q8 q9 x0 x1 x2 x3 x4 x5 x6 x7 x8 x9 x10 x11 x12
      generalize World.setRow _ _ _ = w9 at *
      obtain ⟨y0, y1, y2, y3, y4, y5, y6, y7, y8, y9⟩ := S9.agAt 1 rfl
      obtain ⟨q0, q1, q2, q3, q4, q5, q6, q7, q8, q9⟩ := S9.agAt 2 rfl
      obtain ⟨x0, x1, x2, x3, x4, x5, x6, x7, x8, x9, x10, x11, x12⟩ := HX.out _ S9.fin
      have bv : (b.version != a.version) = false := by rw [HV.out]; simp
      have ht4 := HMS.out.t4
      have ht2 := HMS.out.t2
      have htm := HMS.out.tm
      have hup := HMS.out.up
      have b1 : decide (b.term < a.term) = false := decide_eq_false (by omega)
      have b2 : ((b.term == a.term) = true ∧ decide (b.gen < a.gen) = false) ∨ (b.term == a.term) = false := by
        by_cases h : b.term = a.term
        · exact .inl ⟨by simpa using h, decide_eq_false (by omega)⟩
        · exact .inr (by simpa using h)
      clear htm
      rcases b2 with ⟨b2, b3⟩ | b2
      all_goals
        by_cases j0 : b.mode = 0
        · clear hup ht4 ht2
          have g4 : (b.mode == 4) = false := by rw [j0]; rfl
          have g2 : (b.mode == 2) = false := by rw [j0]; rfl
          have g0 : (b.mode != 0) = false := by rw [j0]; rfl
          clear j0
          as_aux_lemma =>
            go_wp2
            all_goals
              go_roundw
              case rel => exact ⟨k + 1, b, t, by omega, by go_num, HMS.out.inv, hW, S9.take 2⟩
              case measure => simp [intOf]; omega
        have hup := hup.resolve_left j0
        have g0 : (b.mode != 0) = true := by simpa using j0
        have gu : (!b.up) = false := by rw [hup]; rfl
        clear hup j0
        by_cases j4 : b.mode = 4
        · have g4 : (b.mode == 4) = true := by simpa using j4
          have g2 : (b.mode == 2) = false := by rw [j4]; rfl
          rcases ht4 j4 with h | h
          · have e4 : (a.mode != 4) = false := by rw [h]; rfl
            clear j4 h ht4 ht2
            as_aux_lemma =>
              go_wp2
              all_goals
                go_roundw
                case rel => exact ⟨k + 1, b, t, by omega, by go_num, HMS.out.inv, hW, S9.take 2⟩
                case measure => simp [intOf]; omega
          · have e4 : (a.mode != 4) = true := by rw [h]; rfl
            have e0 : (a.mode != 0) = false := by rw [h]; rfl
            clear j4 h ht4 ht2
            as_aux_lemma =>
              go_wp2
              all_goals
                go_roundw
                case rel => exact ⟨k + 1, b, t, by omega, by go_num, HMS.out.inv, hW, S9.take 2⟩
                case measure => simp [intOf]; omega
        have g4 : (b.mode == 4) = false := by simpa using j4
        by_cases j2 : b.mode = 2
        · have g2 : (b.mode == 2) = true := by simpa using j2
          rcases ht2 j2 with h | ⟨h, h6, h7⟩
          · have e2 : (a.mode != 2) = false := by rw [h]; rfl
            clear j4 j2 h ht4 ht2
            as_aux_lemma =>
              go_wp2
              all_goals
                go_roundw
                case rel => exact ⟨k + 1, b, t, by omega, by go_num, HMS.out.inv, hW, S9.take 2⟩
                case measure => simp [intOf]; omega
          · have e2 : (a.mode != 2) = true := by rw [h]; rfl
            have e1 : (a.mode != 1) = false := by rw [h]; rfl
            have e6 : (a.job != b.job) = false := by rw [h6]; simp
            have e7 : (a.inc != b.inc) = false := by rw [h7]; simp
            clear j4 j2 h h6 h7 ht4 ht2
            as_aux_lemma =>
              go_wp2
              all_goals
                go_roundw
                case rel => exact ⟨k + 1, b, t, by omega, by go_num, HMS.out.inv, hW, S9.take 2⟩
                case measure => simp [intOf]; omega
        have g2 : (b.mode == 2) = false := by simpa using j2
        clear j4 j2 ht4 ht2
        as_aux_lemma =>
          go_wp2
          all_goals
            go_roundw
            case rel => exact ⟨k + 1, b, t, by omega, by go_num, HMS.out.inv, hW, S9.take 2⟩
            case measure => simp [intOf]; omega
    have d0 : (x.kind == 0) = false := by simpa using c0
    clear c0
    by_cases c1 : x.kind = 1
    · as_aux_lemma =>
      have d1 : (x.kind == 1) = true := by simpa using c1
      have d2 : (x.kind != 1) = false := by rw [c1]; rfl
      have HMS' := hid (HI.out.act x.now)
      rw [← c1] at HMS'
      clear c1
      have HAS := hid (act_same a x.now)
      go_wp2_with fail
      generalize wr.heap.size = gw at *
      generalize wr.alloc _ = w6 at *
      refine wp_region_heldZ (S := (fun w' => (w'.cell? ⟨ga, 0, none⟩ = some (.bool a.up) ∧ w'.cell? ⟨ga, 1, none⟩ = some (.int .i64 a.term) ∧ w'.cell? ⟨ga, 2, none⟩ = some (.int .i64 a.gen) ∧ w'.cell? ⟨ga, 3, none⟩ = some (.int .i64 a.mode) ∧ w'.cell? ⟨ga, 4, none⟩ = some (.int .i64 a.job) ∧ w'.cell? ⟨ga, 5, none⟩ = some (.int .i64 a.inc) ∧ w'.cell? ⟨ga, 6, none⟩ = some (.int .i64 a.version) ∧ w'.cell? ⟨ga, 7, none⟩ = some (.int .i64 a.lease) ∧ w'.cell? ⟨ga, 8, none⟩ = some (.int .i64 a.worked) ∧ w'.cell? ⟨ga, 9, none⟩ = some (.int .i64 a.to_)) ∧ (w'.cell? A = some (.int .i64 x.kind) ∧ w'.cell? { block := A.block, off := A.off + 1 } = some (.int .i64 x.now) ∧ w'.cell? { block := A.block, off := A.off + 2 } = some (.int .i64 x.m.node) ∧ w'.cell? { block := A.block, off := A.off + 3 } = some (.int .i64 x.m.kind) ∧ w'.cell? { block := A.block, off := A.off + 4 } = some (.int .i64 x.m.term) ∧ w'.cell? { block := A.block, off := A.off + 5 } = some (.int .i64 x.m.gen) ∧ w'.cell? { block := A.block, off := A.off + 6 } = some (.int .i64 x.m.job) ∧ w'.cell? { block := A.block, off := A.off + 7 } = some (.int .i64 x.m.inc) ∧ w'.cell? { block := A.block, off := A.off + 8 } = some (.int .i64 x.m.version) ∧ w'.cell? { block := A.block, off := A.off + 9 } = some (.int .i64 x.m.epoch) ∧ w'.cell? { block := A.block, off := A.off + 10 } = some (.int .i64 x.m.until_) ∧ w'.cell? { block := A.block, off := A.off + 11 } = some (.int .i64 x.m.mode) ∧ w'.cell? { block := A.block, off := A.off + 12 } = some (.int .i64 x.m.work)))) 7 (by kernel_rfl) (by exact ⟨S6.drew.agAt 1 rfl, HX.out _ S6.drew.fin⟩) (fun hHeld => ?_)
      change wpAnyZ _ _ _ _ _ 7 8 (Array.replicate 8 false) _ _
      refine wpAnyZ_take (i := 0) (v := ?v17) (ops_at rfl) (by kernel_rfl) (by kernel_rfl) (by kernel_rfl) (by kernel_rfl) [7] (by kernel_rfl) (by rfl) (fun _ _ _ h => h) (Or.inl ⟨by rfl, ?hy17⟩) (by assumption) ?rest17
      case hy17 => intro w' hSw; (try dsimp only at hSw); go_simp; try with_reducible rfl
      try simp only [Act.put, List.setIfInBounds_toArray, List.set_cons_zero, List.set_cons_succ]
      refine wpAnyZ_take (i := 1) (v := ?v18) (ops_at rfl) (by kernel_rfl) (by kernel_rfl) (by kernel_rfl) (by kernel_rfl) [7] (by kernel_rfl) (by rfl) (fun _ _ _ h => h) (Or.inl ⟨by rfl, ?hy18⟩) (by assumption) ?rest18
      case hy18 => intro w' hSw; (try dsimp only at hSw); go_simp; try with_reducible rfl
      try simp only [Act.put, List.setIfInBounds_toArray, List.set_cons_zero, List.set_cons_succ]
      refine wpAnyZ_take (i := 2) (v := ?v19) (ops_at rfl) (by kernel_rfl) (by kernel_rfl) (by kernel_rfl) (by kernel_rfl) [7] (by kernel_rfl) (by rfl) (fun _ _ _ h => h) (Or.inl ⟨by rfl, ?hy19⟩) (by assumption) ?rest19
      case hy19 => intro w' hSw; (try dsimp only at hSw); go_simp; try with_reducible rfl
      try simp only [Act.put, List.setIfInBounds_toArray, List.set_cons_zero, List.set_cons_succ]
      refine wpAnyZ_take (i := 3) (v := ?v20) (ops_at rfl) (by kernel_rfl) (by kernel_rfl) (by kernel_rfl) (by kernel_rfl) [7] (by kernel_rfl) (by rfl) (fun _ _ _ h => h) (Or.inl ⟨by rfl, ?hy20⟩) (by assumption) ?rest20
      case hy20 => intro w' hSw; (try dsimp only at hSw); go_simp; try with_reducible rfl
      try simp only [Act.put, List.setIfInBounds_toArray, List.set_cons_zero, List.set_cons_succ]
      refine wpAnyZ_take (i := 4) (v := ?v21) (ops_at rfl) (by kernel_rfl) (by kernel_rfl) (by kernel_rfl) (by kernel_rfl) [7] (by kernel_rfl) (by rfl) (fun _ _ _ h => h) (Or.inl ⟨by rfl, ?hy21⟩) (by assumption) ?rest21
      case hy21 => intro w' hSw; (try dsimp only at hSw); go_simp; try with_reducible rfl
      try simp only [Act.put, List.setIfInBounds_toArray, List.set_cons_zero, List.set_cons_succ]
      refine wpAnyZ_take (i := 5) (v := ?v22) (ops_at rfl) (by kernel_rfl) (by kernel_rfl) (by kernel_rfl) (by kernel_rfl) [7] (by kernel_rfl) (by rfl) (fun _ _ _ h => h) (Or.inl ⟨by rfl, ?hy22⟩) (by assumption) ?rest22
      case hy22 => intro w' hSw; (try dsimp only at hSw); go_simp; try with_reducible rfl
      try simp only [Act.put, List.setIfInBounds_toArray, List.set_cons_zero, List.set_cons_succ]
      refine wpAnyZ_one (i := 6) (by kernel_rfl) (ops_at rfl) (fun K hK => ?_)
      go_simp
      refine (agAct a x.now _ HI.out.wk).mono ?_
      rintro e w7 ⟨rfl, hb7⟩
      rw [agOut]
      have HMS : Hid (MayStep a (aAct a x.now) x.kind) := HMS'
      clear HMS'
      generalize aAct a x.now = b at *
      have S7 := S6.drew.grow hb7
      have hst := agStore _ _ a b (S7.heap 1 rfl)
      obtain ⟨t, ht⟩ : ∃ t, t = s := ⟨_, rfl⟩
      have hW : t.writes ≤ k + 1 := by rw [ht]; omega
      have S9 : St w (w7.setRow ga b.cs.toArray) [soT (.pointer (some ⟨gs, 0, none⟩)) (some t), cellsT ga 51 b.cs, cellsT gw 51 a.cs] := by rw [ht]; exact S7.setRow 1 rfl b.cs.toArray
      refine hK.out _ _ (by exact ⟨S7.agAt 1 rfl, HX.out _ S7.fin⟩) (fun hHeld => ?_)
      clear hK K
      try simp only [Act.put, List.setIfInBounds_toArray, List.set_cons_zero, List.set_cons_succ]
      refine wpAnyZ_free (i := 7) (by kernel_rfl) (ops_at rfl) (by kernel_rfl) (fun K hK => ?_)
      go_simp
      refine hK.out _ _ ?_
      clear hK K
      try simp only [Act.put, List.setIfInBounds_toArray, List.set_cons_zero, List.set_cons_succ]
      refine wpAnyZ_done (by kernel_rfl) ?_ _
      clear S7 hst S6 hb7 q0 q1 q2 q3 q4 q5 q6 q7 q8 q9 x0 x1 x2 x3 x4 x5 x6 x7 x8 x9 x10 x11 x12 ht
      generalize World.setRow _ _ _ = w9 at *
      obtain ⟨y0, y1, y2, y3, y4, y5, y6, y7, y8, y9⟩ := S9.agAt 1 rfl
      obtain ⟨q0, q1, q2, q3, q4, q5, q6, q7, q8, q9⟩ := S9.agAt 2 rfl
      obtain ⟨x0, x1, x2, x3, x4, x5, x6, x7, x8, x9, x10, x11, x12⟩ := HX.out _ S9.fin
      obtain ⟨hA1, hA2, hA3⟩ := HAS.out
      rcases hA1 with ⟨v1, v2⟩ | ⟨v1, v2⟩
      · have bv : (b.version != a.version) = false := by rw [v1]; simp
        have HSM : Hid ((b.mode = a.mode ∨ b.mode = 0) ∧ b.term = a.term ∧ b.gen = a.gen) := ⟨v2, hA2, hA3⟩
        clear v1 v2 hA2 hA3
        obtain ⟨j, tm1, tm2⟩ := HSM.out
        have b1 : decide (b.term < a.term) = false := decide_eq_false (by omega)
        have b2 : (b.term == a.term) = true := beq_iff_eq.2 tm1
        have b3 : decide (b.gen < a.gen) = false := decide_eq_false (by omega)
        have hup := HMS.out.up
        clear tm1 tm2
        by_cases j0 : b.mode = 0
        · clear j hup
          have g4 : (b.mode == 4) = false := by rw [j0]; rfl
          have g2 : (b.mode == 2) = false := by rw [j0]; rfl
          have g0 : (b.mode != 0) = false := by rw [j0]; rfl
          clear j0
          as_aux_lemma =>
            go_wp2
            all_goals
              go_roundw
              case rel => exact ⟨k + 1, b, t, by omega, by go_num, HMS.out.inv, hW, S9.take 2⟩
              case measure => simp [intOf]; omega
        have j := j.resolve_right j0
        have hup := hup.resolve_left j0
        have g0 : (b.mode != 0) = true := by simpa using j0
        have gu : (!b.up) = false := by rw [hup]; rfl
        clear hup j0
        by_cases j4 : b.mode = 4
        · have g4 : (b.mode == 4) = true := by simpa using j4
          have e4 : (a.mode != 4) = false := by rw [← j, j4]; rfl
          have g2 : (b.mode == 2) = false := by rw [j4]; rfl
          clear j j4
          as_aux_lemma =>
            go_wp2
            all_goals
              go_roundw
              case rel => exact ⟨k + 1, b, t, by omega, by go_num, HMS.out.inv, hW, S9.take 2⟩
              case measure => simp [intOf]; omega
        have g4 : (b.mode == 4) = false := by simpa using j4
        by_cases j2 : b.mode = 2
        · have g2 : (b.mode == 2) = true := by simpa using j2
          have e2 : (a.mode != 2) = false := by rw [← j, j2]; rfl
          clear j j4 j2
          as_aux_lemma =>
            go_wp2
            all_goals
              go_roundw
              case rel => exact ⟨k + 1, b, t, by omega, by go_num, HMS.out.inv, hW, S9.take 2⟩
              case measure => simp [intOf]; omega
        have g2 : (b.mode == 2) = false := by simpa using j2
        clear j j4 j2
        as_aux_lemma =>
          go_wp2
          all_goals
            go_roundw
            case rel => exact ⟨k + 1, b, t, by omega, by go_num, HMS.out.inv, hW, S9.take 2⟩
            case measure => simp [intOf]; omega
      · have e4 : (a.mode != 4) = false := by rw [v1]; rfl
        have b1 : decide (b.term < a.term) = false := decide_eq_false (by omega)
        have b2 : (b.term == a.term) = true := beq_iff_eq.2 hA2
        have b3 : decide (b.gen < a.gen) = false := decide_eq_false (by omega)
        have j0 := v2
        clear v1 v2 hA2 hA3
        have g4 : (b.mode == 4) = false := by rw [j0]; rfl
        have g2 : (b.mode == 2) = false := by rw [j0]; rfl
        have g0 : (b.mode != 0) = false := by rw [j0]; rfl
        clear j0
        as_aux_lemma =>
          go_wp2
          all_goals
            go_roundw
            case rel => exact ⟨k + 1, b, t, by omega, by go_num, HMS.out.inv, hW, S9.take 2⟩
            case measure => simp [intOf]; omega
    have d1 : (x.kind == 1) = false := by simpa using c1
    clear c1
    by_cases c2 : x.kind = 2
    · as_aux_lemma =>
      have d2 : (x.kind == 2) = true := by simpa using c2
      clear c2
      obtain ⟨p0, p1, p2, p3, p4, p5, p6, p7, p8, p9⟩ := S6.agAt 1 rfl
      go_wp2_with fail
      generalize wr.heap.size = gw at *
      generalize wr.alloc _ = w6 at *
      refine (agFail a _).mono ?_
      rintro e w7 ⟨rfl, hb7⟩
      rw [agOut]
      have HMS := hid (HI.out.fail x.kind)
      have HSM : Hid (((aFail a).mode = a.mode ∨ (aFail a).mode = 0) ∧ (aFail a).term = a.term ∧ (aFail a).gen = a.gen) := ⟨.inr rfl, rfl, rfl⟩
      have bv : ((aFail a).version != a.version) = false := by simp [aFail, aLoose]
      generalize aFail a = b at *
      have S7 := S6.grow hb7
      have hst := agStore _ _ a b (S7.heap 1 rfl)
      obtain ⟨t, ht⟩ : ∃ t, t = s := ⟨_, rfl⟩
      have hW : t.writes ≤ k + 1 := by rw [ht]; omega
      have S9 : St w (w7.setRow ga b.cs.toArray) [soT (.pointer (some ⟨gs, 0, none⟩)) (some t), cellsT ga 51 b.cs, cellsT gw 51 a.cs] := by rw [ht]; exact S7.setRow 1 rfl b.cs.toArray
      clear S7 S6 hb7 q0 q1 q2 q3 q4 q5 q6 q7 q8 q9 x0 x1 x2 x3 x4 x5 x6 x7 x8 x9 x10 x11 x12 p0 p1 p2 p3 p4 p5 p6 p7 p8 p9 ht
      obtain ⟨x0, x1, x2, x3, x4, x5, x6, x7, x8, x9, x10, x11, x12⟩ := HX.out _ S9.fin
      obtain ⟨y0, y1, y2, y3, y4, y5, y6, y7, y8, y9⟩ := S9.agAt 1 rfl
      obtain ⟨q0, q1, q2, q3, q4, q5, q6, q7, q8, q9⟩ := S9.agAt 2 rfl
      obtain ⟨x0, x1, x2, x3, x4, x5, x6, x7, x8, x9, x10, x11, x12⟩ := HX.out _ S9.fin
      obtain ⟨j, tm1, tm2⟩ := HSM.out
      have b1 : decide (b.term < a.term) = false := decide_eq_false (by omega)
      have b2 : (b.term == a.term) = true := beq_iff_eq.2 tm1
      have b3 : decide (b.gen < a.gen) = false := decide_eq_false (by omega)
      have hup := HMS.out.up
      clear tm1 tm2
      by_cases j0 : b.mode = 0
      · clear j hup
        have g4 : (b.mode == 4) = false := by rw [j0]; rfl
        have g2 : (b.mode == 2) = false := by rw [j0]; rfl
        have g0 : (b.mode != 0) = false := by rw [j0]; rfl
        clear j0
        as_aux_lemma =>
          go_wp2
          all_goals
            go_roundw
            case rel => exact ⟨k + 1, b, t, by omega, by go_num, HMS.out.inv, hW, S9.take 2⟩
            case measure => simp [intOf]; omega
      have j := j.resolve_right j0
      have hup := hup.resolve_left j0
      have g0 : (b.mode != 0) = true := by simpa using j0
      have gu : (!b.up) = false := by rw [hup]; rfl
      clear hup j0
      by_cases j4 : b.mode = 4
      · have g4 : (b.mode == 4) = true := by simpa using j4
        have e4 : (a.mode != 4) = false := by rw [← j, j4]; rfl
        have g2 : (b.mode == 2) = false := by rw [j4]; rfl
        clear j j4
        as_aux_lemma =>
          go_wp2
          all_goals
            go_roundw
            case rel => exact ⟨k + 1, b, t, by omega, by go_num, HMS.out.inv, hW, S9.take 2⟩
            case measure => simp [intOf]; omega
      have g4 : (b.mode == 4) = false := by simpa using j4
      by_cases j2 : b.mode = 2
      · have g2 : (b.mode == 2) = true := by simpa using j2
        have e2 : (a.mode != 2) = false := by rw [← j, j2]; rfl
        clear j j4 j2
        as_aux_lemma =>
          go_wp2
          all_goals
            go_roundw
            case rel => exact ⟨k + 1, b, t, by omega, by go_num, HMS.out.inv, hW, S9.take 2⟩
            case measure => simp [intOf]; omega
      have g2 : (b.mode == 2) = false := by simpa using j2
      clear j j4 j2
      as_aux_lemma =>
        go_wp2
        all_goals
          go_roundw
          case rel => exact ⟨k + 1, b, t, by omega, by go_num, HMS.out.inv, hW, S9.take 2⟩
          case measure => simp [intOf]; omega
    have d2 : (x.kind == 2) = false := by simpa using c2
    clear c2
    by_cases c3 : x.kind = 3
    · as_aux_lemma =>
      have d3 : (x.kind == 3) = true := by simpa using c3
      clear c3
      obtain ⟨p0, p1, p2, p3, p4, p5, p6, p7, p8, p9⟩ := S6.agAt 1 rfl
      go_wp2_with fail
      generalize wr.heap.size = gw at *
      generalize wr.alloc _ = w6 at *
      refine (agBack a _).mono ?_
      rintro e w7 ⟨rfl, hb7⟩
      rw [agOut]
      have HMS := hid (HI.out.back x.kind)
      have HSM : Hid (((aBack a).mode = a.mode ∨ (aBack a).mode = 0) ∧ (aBack a).term = a.term ∧ (aBack a).gen = a.gen) := ⟨.inl rfl, rfl, rfl⟩
      have bv : ((aBack a).version != a.version) = false := by simp [aBack]
      generalize aBack a = b at *
      have S7 := S6.grow hb7
      have hst := agStore _ _ a b (S7.heap 1 rfl)
      obtain ⟨t, ht⟩ : ∃ t, t = s := ⟨_, rfl⟩
      have hW : t.writes ≤ k + 1 := by rw [ht]; omega
      have S9 : St w (w7.setRow ga b.cs.toArray) [soT (.pointer (some ⟨gs, 0, none⟩)) (some t), cellsT ga 51 b.cs, cellsT gw 51 a.cs] := by rw [ht]; exact S7.setRow 1 rfl b.cs.toArray
      clear S7 S6 hb7 q0 q1 q2 q3 q4 q5 q6 q7 q8 q9 x0 x1 x2 x3 x4 x5 x6 x7 x8 x9 x10 x11 x12 p0 p1 p2 p3 p4 p5 p6 p7 p8 p9 ht
      obtain ⟨x0, x1, x2, x3, x4, x5, x6, x7, x8, x9, x10, x11, x12⟩ := HX.out _ S9.fin
      obtain ⟨y0, y1, y2, y3, y4, y5, y6, y7, y8, y9⟩ := S9.agAt 1 rfl
      obtain ⟨q0, q1, q2, q3, q4, q5, q6, q7, q8, q9⟩ := S9.agAt 2 rfl
      obtain ⟨x0, x1, x2, x3, x4, x5, x6, x7, x8, x9, x10, x11, x12⟩ := HX.out _ S9.fin
      obtain ⟨j, tm1, tm2⟩ := HSM.out
      have b1 : decide (b.term < a.term) = false := decide_eq_false (by omega)
      have b2 : (b.term == a.term) = true := beq_iff_eq.2 tm1
      have b3 : decide (b.gen < a.gen) = false := decide_eq_false (by omega)
      have hup := HMS.out.up
      clear tm1 tm2
      by_cases j0 : b.mode = 0
      · clear j hup
        have g4 : (b.mode == 4) = false := by rw [j0]; rfl
        have g2 : (b.mode == 2) = false := by rw [j0]; rfl
        have g0 : (b.mode != 0) = false := by rw [j0]; rfl
        clear j0
        as_aux_lemma =>
          go_wp2
          all_goals
            go_roundw
            case rel => exact ⟨k + 1, b, t, by omega, by go_num, HMS.out.inv, hW, S9.take 2⟩
            case measure => simp [intOf]; omega
      have j := j.resolve_right j0
      have hup := hup.resolve_left j0
      have g0 : (b.mode != 0) = true := by simpa using j0
      have gu : (!b.up) = false := by rw [hup]; rfl
      clear hup j0
      by_cases j4 : b.mode = 4
      · have g4 : (b.mode == 4) = true := by simpa using j4
        have e4 : (a.mode != 4) = false := by rw [← j, j4]; rfl
        have g2 : (b.mode == 2) = false := by rw [j4]; rfl
        clear j j4
        as_aux_lemma =>
          go_wp2
          all_goals
            go_roundw
            case rel => exact ⟨k + 1, b, t, by omega, by go_num, HMS.out.inv, hW, S9.take 2⟩
            case measure => simp [intOf]; omega
      have g4 : (b.mode == 4) = false := by simpa using j4
      by_cases j2 : b.mode = 2
      · have g2 : (b.mode == 2) = true := by simpa using j2
        have e2 : (a.mode != 2) = false := by rw [← j, j2]; rfl
        clear j j4 j2
        as_aux_lemma =>
          go_wp2
          all_goals
            go_roundw
            case rel => exact ⟨k + 1, b, t, by omega, by go_num, HMS.out.inv, hW, S9.take 2⟩
            case measure => simp [intOf]; omega
      have g2 : (b.mode == 2) = false := by simpa using j2
      clear j j4 j2
      as_aux_lemma =>
        go_wp2
        all_goals
          go_roundw
          case rel => exact ⟨k + 1, b, t, by omega, by go_num, HMS.out.inv, hW, S9.take 2⟩
          case measure => simp [intOf]; omega
    have d3 : (x.kind == 3) = false := by simpa using c3
    clear c3
    obtain ⟨p0, p1, p2, p3, p4, p5, p6, p7, p8, p9⟩ := S6.agAt 1 rfl
    have bv : (a.version != a.version) = false := by simp
    have b1 : decide (a.term < a.term) = false := decide_eq_false (by omega)
    have b2 : (a.term == a.term) = true := by simp
    have b3 : decide (a.gen < a.gen) = false := decide_eq_false (by omega)
    have hup := HI.out.up
    by_cases j0 : a.mode = 0
    · have g4 : (a.mode == 4) = false := by rw [j0]; rfl
      have g2 : (a.mode == 2) = false := by rw [j0]; rfl
      have g0 : (a.mode != 0) = false := by rw [j0]; rfl
      clear j0 hup
      as_aux_lemma =>
        go_wp2
        all_goals
          go_roundw
          case rel => exact ⟨k + 1, a, s, by omega, by go_num, HI.out, by omega, S6.take 2⟩
          case measure => simp [intOf]; omega
    have gu : (!a.up) = false := by rw [hup.resolve_left j0]; rfl
    have g0 : (a.mode != 0) = true := by simpa using j0
    clear hup j0
    by_cases j4 : a.mode = 4
    · have g4 : (a.mode == 4) = true := by simpa using j4
      have e4 : (a.mode != 4) = false := by rw [j4]; rfl
      have g2 : (a.mode == 2) = false := by rw [j4]; rfl
      clear j4
      as_aux_lemma =>
        go_wp2
        all_goals
          go_roundw
          case rel => exact ⟨k + 1, a, s, by omega, by go_num, HI.out, by omega, S6.take 2⟩
          case measure => simp [intOf]; omega
    have g4 : (a.mode == 4) = false := by simpa using j4
    by_cases j2 : a.mode = 2
    · have g2 : (a.mode == 2) = true := by simpa using j2
      have e2 : (a.mode != 2) = false := by rw [j2]; rfl
      clear j4 j2
      as_aux_lemma =>
        go_wp2
        all_goals
          go_roundw
          case rel => exact ⟨k + 1, a, s, by omega, by go_num, HI.out, by omega, S6.take 2⟩
          case measure => simp [intOf]; omega
    have g2 : (a.mode == 2) = false := by simpa using j2
    clear j4 j2
    as_aux_lemma =>
      go_wp2
      all_goals
        go_roundw
        case rel => exact ⟨k + 1, a, s, by omega, by go_num, HI.out, by omega, S6.take 2⟩
        case measure => simp [intOf]; omega
end Go.Proofs.Ytiilhfmmclhflaa
