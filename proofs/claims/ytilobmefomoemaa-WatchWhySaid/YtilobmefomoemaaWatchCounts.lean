/- WatchCounts: the law. -/
import Derived.Test.YtilobmefomoemaaWatch13
namespace Go.Proofs.Ytilobmefomoemaa
set_option linter.unusedVariables false
set_option linter.unusedSimpArgs false
open Go.RowKit
theorem freeK_step {L : List AG} {now : Int} {k : Nat} (hk : k < L.length) : freeK L now (k + 1) = freeK L now k ++ if aFenced L[k] now = true then [(k : Int)] else [] := by rw [freeK, List.getElem?_eq_getElem hk]
theorem behL_step {v : Int} {L : List AG} {k : Nat} (hk : k < L.length) : behL v (L.take (k + 1)) = behL v (L.take k) + if (L[k].version != v) = true then 1 else 0 := by
  rw [List.take_add_one, List.getElem?_eq_getElem hk]; exact behL_app _ _ _
set_option maxRecDepth 10000 in
set_option maxHeartbeats 25600000 in
theorem watchCounts_law (s : STA) (a : Option Addr) (L : List AG) (n cap : Nat) (job inc now : Int) (w : World) (hn : L.length = n) (hA : AtG eAG w a L) :
    Calls Try.prog 3 #[.agg #[.slice s.na s.nn s.nc, .slice s.ja s.jn s.jc, .int .i64 s.goal, .int .i64 s.prior, .int .i64 s.mode, .int .i64 s.term], .slice a n cap, .int .i64 job, .int .i64 inc, .int .i64 now] w fun e w' => e = .returned (.bool true) ∧ Below w.heap.size w w' := by
  have S0 : St w _ [cellsT w.heap.size 25 s.cs] := (St.start w).newAt 25 #[.slice s.na s.nn s.nc, .slice s.ja s.jn s.jc, .int .i64 s.goal, .int .i64 s.prior, .int .i64 s.mode, .int .i64 s.term] w.heap.size rfl
  have HN := hid hn
  have HA := hid hA
  clear hn hA
  go_enter Try.func3, Try.ntmps3
  go_wp2_with fail
  generalize w.heap.size = g5 at *
  generalize w.alloc _ = w1 at *
  refine (alive24_any _).mono ?_
  rintro e w2 ⟨rfl, hb2⟩
  have S1 := S0.grow hb2
  clear S0 hb2
  by_cases h50 : 50 < n
  · have g1 : decide (50 < (n : Int)) = true := decide_eq_true (by omega)
    have g1n : decide (50 < n) = true := decide_eq_true (by omega)
    go_wp2
    go_ret
    exact ⟨rfl, S1.fin⟩
  have g1 : decide (50 < (n : Int)) = false := decide_eq_false (by omega)
  have g1n : decide (50 < n) = false := decide_eq_false (by omega)
  obtain ⟨z0, z1, z2, z3, z4, z5⟩ := S1.sC 0 rfl
  have S2 : St w w2 [ownT eI (.slice none 0 0) [], cellsT g5 25 s.cs] := (S1.nilG eI).rot
  clear S1
  by_cases hmo : s.mode = 2
  · have HM : Hid (meantS s = s.prior) := if_pos hmo
    have gmo : (s.mode == 2) = true := by simpa using hmo
    clear hmo
    go_wp2_with fail
    clear z0 z1 z2 z3 z4 z5
    go_loopw [12, 13, 14] (fun v b i wr => ∃ (k : Nat) (p : Option Addr) (c : Nat), k ≤ n ∧ v = .slice p (freeK L now k).length c ∧ b = .int .i64 (behL (meantS s) (L.take k) : Int) ∧ i = .int .i64 k ∧ St w wr [ownT eI (.slice p (freeK L now k).length c) (freeK L now k), cellsT g5 25 s.cs]) (fun _ _ i _ => n - (intOf i).toNat)
    case atStart => exact ⟨0, none, 0, Nat.zero_le _, rfl, rfl, rfl, S2⟩
    case round =>
      obtain ⟨k, p, c, hk, rfl, rfl, rfl, Sk⟩ := hrel
      clear S2
      have hml := freeK_le L now k
      have hbl : behL (meantS s) (L.take k) ≤ k := by refine Nat.le_trans (behL_le _ _) ?_; rw [List.length_take]; omega
      by_cases hlt : k < n
      case neg =>
        have g0 : decide ((k : Int) < (n : Int)) = false := decide_eq_false (by omega)
        have g0n : decide (k < n) = false := decide_eq_false (by omega)
        obtain rfl : k = n := by omega
        have HBl : Hid (behL (meantS s) (L.take k) = behL (meantS s) L) := by rw [Hid, List.take_of_length_le (by rw [HN.out]; omega)]
        rw [HBl.out]
        clear hlt hk hbl
        go_wp2_with fail
        refine (wtCount a L k cap job inc _ HN.out (by omega) (HA.out.all eAGok Sk.fin)).mono ?_
        rintro e w4 ⟨rfl, hb4⟩
        have S4 := Sk.grow hb4
        clear Sk hb4
        go_wp2_with fail
        refine (rtCount a L k cap job inc _ HN.out (by omega) (HA.out.all eAGok S4.fin)).mono ?_
        rintro e w5 ⟨rfl, hb5⟩
        have S5 := S4.grow hb5
        clear S4 hb5
        have q1 : ((cntG L job inc : Int) == (cntG L job inc : Int)) = true := by simp
        go_wp2_with fail
        refine (wtFree a L k cap now _ HN.out (by omega) (HA.out.all eAGok S5.fin)).mono ?_
        rintro e w6 ⟨p6, c6, rfl, ho6, hb6⟩
        have S6 : St w w6 [ownT eI (.slice p (freeK L now k).length c) (freeK L now k), cellsT g5 25 s.cs, ownT eI (.slice p6 (freeK L now k).length c6) (freeK L now k)] := S5.own ho6 hb6
        clear S5 ho6 hb6
        go_wp2_with fail
        refine (ints_any p6 p (freeK L now k) (freeK L now k) _ _ c6 c _ rfl rfl (by unfold maxLen; omega) (by unfold maxLen; omega) (by exact (S6.slG eIok 2 rfl).2.2.2.2) (by exact (S6.slG eIok 0 rfl).2.2.2.2)).mono ?_
        rintro e w7 ⟨rfl, n7, rfl⟩
        rw [show (freeK L now k == freeK L now k) = true by simp]
        have S7 := S6.drewN n7
        obtain ⟨wq, hwq⟩ : ∃ wq, w6.drewN n7 = wq := ⟨_, rfl⟩
        rw [hwq] at S7 ⊢
        clear hwq S6
        obtain ⟨z0, z1, z2, z3, z4, z5⟩ := S7.sC 1 rfl
        go_wp2_with fail
        refine (wtBehind s a L k cap _ HN.out (by omega) (HA.out.all eAGok S7.fin)).mono ?_
        rintro e w8 ⟨rfl, hb8⟩
        have S8 := S7.grow hb8
        have q2 : ((behL (meantS s) L : Int) == (behL (meantS s) L : Int)) = true := by simp
        go_wp2
        go_ret
        exact ⟨rfl, S8.fin⟩
      have g0 : decide ((k : Int) < (n : Int)) = true := decide_eq_true (by omega)
      have g0n : decide (k < n) = true := decide_eq_true (by omega)
      have hkl : k < L.length := by rw [HN.out]; exact hlt
      have i0 := fun wx => idxAG a n cap (fun h => HA.out.ok (by rw [HN.out]; exact h)) k hlt wx
      have HX : Hid (∀ w' l, St w w' l → AgAt w' (adr a (k * 10)) L[k]) := fun w' l S => (HA.out.all eAGok S.fin).agAt hkl
      have HF := hid (freeK_step (now := now) hkl)
      have HB := hid (behL_step (v := meantS s) hkl)
      generalize L[k] = x at *
      generalize adr a (k * 10) = A at *
      generalize behL (meantS s) (L.take k) = m at *
      have keep : ∀ {w' : World} {l : List Thing}, St w w' l → (w'.cell? A = some (.bool x.up) ∧ w'.cell? { block := A.block, off := A.off + 1 } = some (.int .i64 x.term) ∧ w'.cell? { block := A.block, off := A.off + 2 } = some (.int .i64 x.gen) ∧ w'.cell? { block := A.block, off := A.off + 3 } = some (.int .i64 x.mode) ∧ w'.cell? { block := A.block, off := A.off + 4 } = some (.int .i64 x.job) ∧ w'.cell? { block := A.block, off := A.off + 5 } = some (.int .i64 x.inc) ∧ w'.cell? { block := A.block, off := A.off + 6 } = some (.int .i64 x.version) ∧ w'.cell? { block := A.block, off := A.off + 7 } = some (.int .i64 x.lease) ∧ w'.cell? { block := A.block, off := A.off + 8 } = some (.int .i64 x.worked) ∧ w'.cell? { block := A.block, off := A.off + 9 } = some (.int .i64 x.to_)) := fun S => HX.out _ _ S
      obtain ⟨hv, hhv⟩ : ∃ b, hasA x = b := ⟨_, rfl⟩
      have HH := hid hhv
      have q3 : (hv != hv) = false := by simp
      clear hhv
      go_wp2_with fail
      have S1d := Sk.drew
      clear Sk
      refine wp_region_held_drew (S := (fun w' => (w'.cell? A = some (.bool x.up) ∧ w'.cell? { block := A.block, off := A.off + 1 } = some (.int .i64 x.term) ∧ w'.cell? { block := A.block, off := A.off + 2 } = some (.int .i64 x.gen) ∧ w'.cell? { block := A.block, off := A.off + 3 } = some (.int .i64 x.mode) ∧ w'.cell? { block := A.block, off := A.off + 4 } = some (.int .i64 x.job) ∧ w'.cell? { block := A.block, off := A.off + 5 } = some (.int .i64 x.inc) ∧ w'.cell? { block := A.block, off := A.off + 6 } = some (.int .i64 x.version) ∧ w'.cell? { block := A.block, off := A.off + 7 } = some (.int .i64 x.lease) ∧ w'.cell? { block := A.block, off := A.off + 8 } = some (.int .i64 x.worked) ∧ w'.cell? { block := A.block, off := A.off + 9 } = some (.int .i64 x.to_)))) (by kernel_rfl) (by exact keep S1d) (fun hHeld => ?_)
      change wpAnyH _ _ _ _ _ 11 (Array.replicate 11 false) _ _
      refine wpAnyH_take (i := 0) (v := ?v1) (ops_at rfl) (by kernel_rfl) (by kernel_rfl) (by kernel_rfl) (fun _ _ _ h => h) (Or.inl ⟨by rfl, ?hy1⟩) (by assumption) ?rest1
      case hy1 => intro w' hSw; (try dsimp only at hSw); go_simp; try with_reducible rfl
      try simp only [Act.put, List.setIfInBounds_toArray, List.set_cons_zero, List.set_cons_succ]
      refine wpAnyH_take (i := 1) (v := ?v2) (ops_at rfl) (by kernel_rfl) (by kernel_rfl) (by kernel_rfl) (fun _ _ _ h => h) (Or.inl ⟨by rfl, ?hy2⟩) (by assumption) ?rest2
      case hy2 => intro w' hSw; (try dsimp only at hSw); go_simp; try with_reducible rfl
      try simp only [Act.put, List.setIfInBounds_toArray, List.set_cons_zero, List.set_cons_succ]
      refine wpAnyH_take (i := 5) (v := ?v3) (ops_at rfl) (by kernel_rfl) (by kernel_rfl) (by kernel_rfl) (fun _ _ _ h => h) (Or.inl ⟨by rfl, ?hy3⟩) (by assumption) ?rest3
      case hy3 => intro w' hSw; (try dsimp only at hSw); go_simp; try with_reducible rfl
      try simp only [Act.put, List.setIfInBounds_toArray, List.set_cons_zero, List.set_cons_succ]
      refine wpAnyH_take (i := 6) (v := ?v4) (ops_at rfl) (by kernel_rfl) (by kernel_rfl) (by kernel_rfl) (fun _ _ _ h => h) (Or.inl ⟨by rfl, ?hy4⟩) (by assumption) ?rest4
      case hy4 => intro w' hSw; (try dsimp only at hSw); go_simp; try with_reducible rfl
      try simp only [Act.put, List.setIfInBounds_toArray, List.set_cons_zero, List.set_cons_succ]
      refine wpAnyH_ready (rs := [2, 7]) (by kernel_rfl) (by simp) ?_
      refine AllReadyH.cons (ops_at rfl) (fun K hK => ?_) (AllReadyH.cons (ops_at rfl) (fun K hK => ?_) AllReadyH.nil)
      · go_simp
        refine hK.out _ _ (by exact keep S1d) (fun hHeld => ?_)
        clear hK K
        try simp only [Act.put, List.setIfInBounds_toArray, List.set_cons_zero, List.set_cons_succ]
        refine wpAnyH_take (i := 3) (v := ?v5) (ops_at rfl) (by kernel_rfl) (by kernel_rfl) (by kernel_rfl) (fun _ _ _ h => h) (Or.inl ⟨by rfl, ?hy5⟩) (by assumption) ?rest5
        case hy5 => intro w' hSw; (try dsimp only at hSw); go_simp; try with_reducible rfl
        try simp only [Act.put, List.setIfInBounds_toArray, List.set_cons_zero, List.set_cons_succ]
        refine wpAnyH_ready (rs := [4, 7]) (by kernel_rfl) (by simp) ?_
        refine AllReadyH.cons (ops_at rfl) (fun K hK => ?_) (AllReadyH.cons (ops_at rfl) (fun K hK => ?_) AllReadyH.nil)
        · go_simp
          refine (wtHas x _).mono ?_
          rintro e w4 ⟨rfl, hb4⟩
          rw [HH.out]
          have S4 := S1d.grow hb4
          refine hK.out _ _ (by exact keep S4) (fun hHeld => ?_)
          clear hK K
          try simp only [Act.put, List.setIfInBounds_toArray, List.set_cons_zero, List.set_cons_succ]
          refine wpAnyH_ready (rs := [7]) (by kernel_rfl) (by simp) ?_
          refine AllReadyH.cons (ops_at rfl) (fun K hK => ?_) AllReadyH.nil
          go_simp
          refine hK.out _ _ (by exact keep S4) (fun hHeld => ?_)
          clear hK K
          try simp only [Act.put, List.setIfInBounds_toArray, List.set_cons_zero, List.set_cons_succ]
          refine wpAnyH_take (i := 8) (v := ?v6) (ops_at rfl) (by kernel_rfl) (by kernel_rfl) (by kernel_rfl) (fun _ _ _ h => h) (Or.inl ⟨by rfl, ?hy6⟩) (by assumption) ?rest6
          case hy6 => intro w' hSw; (try dsimp only at hSw); go_simp; try with_reducible rfl
          try simp only [Act.put, List.setIfInBounds_toArray, List.set_cons_zero, List.set_cons_succ]
          refine wpAnyH_ready (rs := [9]) (by kernel_rfl) (by simp) ?_
          refine AllReadyH.cons (ops_at rfl) (fun K hK => ?_) AllReadyH.nil
          go_simp
          refine (rtHas x _).mono ?_
          rintro e w9 ⟨rfl, hb9⟩
          rw [HH.out]
          have S9 := S4.grow hb9
          refine hK.out _ _ (by exact keep S9) (fun hHeld => ?_)
          clear hK K
          try simp only [Act.put, List.setIfInBounds_toArray, List.set_cons_zero, List.set_cons_succ]
          refine wpAnyH_take (i := 10) (v := ?v8) (ops_at rfl) (by kernel_rfl) (by kernel_rfl) (by kernel_rfl) (fun _ _ _ h => h) (Or.inl ⟨by rfl, ?hy8⟩) (by assumption) ?rest8
          case hy8 => intro w' hSw; (try dsimp only at hSw); go_simp; try with_reducible rfl
          try simp only [Act.put, List.setIfInBounds_toArray, List.set_cons_zero, List.set_cons_succ]
          refine wpAnyH_done (by kernel_rfl) ?_ _
          clear keep hHeld
          obtain ⟨y0, y1, y2, y3, y4, y5, y6, y7, y8, y9⟩ := HX.out _ _ S9
          cases hu : x.up
          · have gu := hid hu
            rw [hu] at y0
            have EF : Hid (freeK L now (k + 1) = freeK L now k) := by rw [Hid, HF.out]; unfold aFenced; rw [hu]; simp
            cases hv : (x.version != s.prior)
            · have EB : Hid (behL (meantS s) (L.take (k + 1)) = m) := by rw [Hid, HB.out, HM.out, hv]; rfl
              clear HB HF
              go_wp2
              go_roundw
              case rel => exact ⟨k + 1, p, c, by omega, by rw [EF.out], by rw [EB.out], by go_num, by rw [EF.out]; exact S9⟩
              case measure => simp [intOf]; omega
            · have EB : Hid (behL (meantS s) (L.take (k + 1)) = m + 1) := by rw [Hid, HB.out, HM.out, hv]; rfl
              clear HB HF
              go_wp2
              go_roundw
              case rel => exact ⟨k + 1, p, c, by omega, by rw [EF.out], by rw [EB.out]; go_num, by go_num, by rw [EF.out]; exact S9⟩
              case measure => simp [intOf]; omega
          · rw [hu] at y0
            cases hm2 : decide (x.mode = 2)
            · have gm : (x.mode == 2) = false := by simpa using hm2
              have EF : Hid (freeK L now (k + 1) = freeK L now k) := by rw [Hid, HF.out]; unfold aFenced; rw [hu, hm2]; simp
              cases hv : (x.version != s.prior)
              · have EB : Hid (behL (meantS s) (L.take (k + 1)) = m) := by rw [Hid, HB.out, HM.out, hv]; rfl
                clear HB HF
                go_wp2
                go_roundw
                case rel => exact ⟨k + 1, p, c, by omega, by rw [EF.out], by rw [EB.out], by go_num, by rw [EF.out]; exact S9⟩
                case measure => simp [intOf]; omega
              · have EB : Hid (behL (meantS s) (L.take (k + 1)) = m + 1) := by rw [Hid, HB.out, HM.out, hv]; rfl
                clear HB HF
                go_wp2
                go_roundw
                case rel => exact ⟨k + 1, p, c, by omega, by rw [EF.out], by rw [EB.out]; go_num, by go_num, by rw [EF.out]; exact S9⟩
                case measure => simp [intOf]; omega
            · have gm : (x.mode == 2) = true := by simpa using hm2
              cases hl2 : decide (x.lease ≤ now)
              · have EF : Hid (freeK L now (k + 1) = freeK L now k) := by rw [Hid, HF.out]; unfold aFenced; rw [hu, hm2, hl2]; simp
                cases hv : (x.version != s.prior)
                · have EB : Hid (behL (meantS s) (L.take (k + 1)) = m) := by rw [Hid, HB.out, HM.out, hv]; rfl
                  clear HB HF
                  go_wp2
                  go_roundw
                  case rel => exact ⟨k + 1, p, c, by omega, by rw [EF.out], by rw [EB.out], by go_num, by rw [EF.out]; exact S9⟩
                  case measure => simp [intOf]; omega
                · have EB : Hid (behL (meantS s) (L.take (k + 1)) = m + 1) := by rw [Hid, HB.out, HM.out, hv]; rfl
                  clear HB HF
                  go_wp2
                  go_roundw
                  case rel => exact ⟨k + 1, p, c, by omega, by rw [EF.out], by rw [EB.out]; go_num, by go_num, by rw [EF.out]; exact S9⟩
                  case measure => simp [intOf]; omega
              · have EF : Hid (freeK L now (k + 1) = freeK L now k ++ [(k : Int)]) := by rw [Hid, HF.out]; unfold aFenced; rw [hu, hm2, hl2]; rfl
                obtain ⟨N, hN1⟩ : ∃ N, (freeK L now k).length + 1 = N := ⟨_, rfl⟩
                have HN1 := hid hN1
                have HN2 : Hid ((freeK L now (k + 1)).length = N) := by rw [Hid, EF.out, List.length_append, ← hN1]; rfl
                cases hv : (x.version != s.prior)
                · have EB : Hid (behL (meantS s) (L.take (k + 1)) = m) := by rw [Hid, HB.out, HM.out, hv]; rfl
                  clear HB HF
                  go_wp2_with (at_builtin; refine wpList_app (by rfl) (.tmp 66) (.tmp 68) eI.T eI.T eI.T rfl rfl _ _ rfl rfl (S9.appG1 eIok w9.heap.size rfl 0 rfl (k : Int) _ (by rfl) N HN1.out (by show _ * 8 ≤ _; omega) (by unfold maxLen; omega)) ?_; rintro v4 w4' ⟨⟨a4, c4, rfl⟩, SF⟩; obtain ⟨y0, y1, y2, y3, y4, y5, y6, y7, y8, y9⟩ := HX.out _ _ SF)
                  go_roundw
                  case rel => exact ⟨k + 1, a4, c4, by omega, by rw [HN2.out], by rw [EB.out], by go_num, by rw [HN2.out]; exact (by rw [EF.out]; exact SF)⟩
                  case measure => simp [intOf]; omega
                · have EB : Hid (behL (meantS s) (L.take (k + 1)) = m + 1) := by rw [Hid, HB.out, HM.out, hv]; rfl
                  clear HB HF
                  go_wp2_with (at_builtin; refine wpList_app (by rfl) (.tmp 66) (.tmp 68) eI.T eI.T eI.T rfl rfl _ _ rfl rfl (S9.appG1 eIok w9.heap.size rfl 0 rfl (k : Int) _ (by rfl) N HN1.out (by show _ * 8 ≤ _; omega) (by unfold maxLen; omega)) ?_; rintro v4 w4' ⟨⟨a4, c4, rfl⟩, SF⟩; obtain ⟨y0, y1, y2, y3, y4, y5, y6, y7, y8, y9⟩ := HX.out _ _ SF)
                  go_roundw
                  case rel => exact ⟨k + 1, a4, c4, by omega, by rw [HN2.out], by rw [EB.out]; go_num, by go_num, by rw [HN2.out]; exact (by rw [EF.out]; exact SF)⟩
                  case measure => simp [intOf]; omega
        · go_simp
          refine hK.out _ _ (by exact keep S1d) (fun hHeld => ?_)
          clear hK K
          try simp only [Act.put, List.setIfInBounds_toArray, List.set_cons_zero, List.set_cons_succ]
          refine wpAnyH_take (i := 8) (v := ?v9) (ops_at rfl) (by kernel_rfl) (by kernel_rfl) (by kernel_rfl) (fun _ _ _ h => h) (Or.inl ⟨by rfl, ?hy9⟩) (by assumption) ?rest9
          case hy9 => intro w' hSw; (try dsimp only at hSw); go_simp; try with_reducible rfl
          try simp only [Act.put, List.setIfInBounds_toArray, List.set_cons_zero, List.set_cons_succ]
          refine wpAnyH_ready (rs := [4]) (by kernel_rfl) (by simp) ?_
          refine AllReadyH.cons (ops_at rfl) (fun K hK => ?_) AllReadyH.nil
          go_simp
          refine (wtHas x _).mono ?_
          rintro e w4 ⟨rfl, hb4⟩
          rw [HH.out]
          have S4 := S1d.grow hb4
          refine hK.out _ _ (by exact keep S4) (fun hHeld => ?_)
          clear hK K
          try simp only [Act.put, List.setIfInBounds_toArray, List.set_cons_zero, List.set_cons_succ]
          refine wpAnyH_ready (rs := [9]) (by kernel_rfl) (by simp) ?_
          refine AllReadyH.cons (ops_at rfl) (fun K hK => ?_) AllReadyH.nil
          go_simp
          refine (rtHas x _).mono ?_
          rintro e w9 ⟨rfl, hb9⟩
          rw [HH.out]
          have S9 := S4.grow hb9
          refine hK.out _ _ (by exact keep S9) (fun hHeld => ?_)
          clear hK K
          try simp only [Act.put, List.setIfInBounds_toArray, List.set_cons_zero, List.set_cons_succ]
          refine wpAnyH_take (i := 10) (v := ?v12) (ops_at rfl) (by kernel_rfl) (by kernel_rfl) (by kernel_rfl) (fun _ _ _ h => h) (Or.inl ⟨by rfl, ?hy12⟩) (by assumption) ?rest12
          case hy12 => intro w' hSw; (try dsimp only at hSw); go_simp; try with_reducible rfl
          try simp only [Act.put, List.setIfInBounds_toArray, List.set_cons_zero, List.set_cons_succ]
          refine wpAnyH_done (by kernel_rfl) ?_ _
          clear keep hHeld
          obtain ⟨y0, y1, y2, y3, y4, y5, y6, y7, y8, y9⟩ := HX.out _ _ S9
          cases hu : x.up
          · have gu := hid hu
            rw [hu] at y0
            have EF : Hid (freeK L now (k + 1) = freeK L now k) := by rw [Hid, HF.out]; unfold aFenced; rw [hu]; simp
            cases hv : (x.version != s.prior)
            · have EB : Hid (behL (meantS s) (L.take (k + 1)) = m) := by rw [Hid, HB.out, HM.out, hv]; rfl
              clear HB HF
              go_wp2
              go_roundw
              case rel => exact ⟨k + 1, p, c, by omega, by rw [EF.out], by rw [EB.out], by go_num, by rw [EF.out]; exact S9⟩
              case measure => simp [intOf]; omega
            · have EB : Hid (behL (meantS s) (L.take (k + 1)) = m + 1) := by rw [Hid, HB.out, HM.out, hv]; rfl
              clear HB HF
              go_wp2
              go_roundw
              case rel => exact ⟨k + 1, p, c, by omega, by rw [EF.out], by rw [EB.out]; go_num, by go_num, by rw [EF.out]; exact S9⟩
              case measure => simp [intOf]; omega
          · rw [hu] at y0
            cases hm2 : decide (x.mode = 2)
            · have gm : (x.mode == 2) = false := by simpa using hm2
              have EF : Hid (freeK L now (k + 1) = freeK L now k) := by rw [Hid, HF.out]; unfold aFenced; rw [hu, hm2]; simp
              cases hv : (x.version != s.prior)
              · have EB : Hid (behL (meantS s) (L.take (k + 1)) = m) := by rw [Hid, HB.out, HM.out, hv]; rfl
                clear HB HF
                go_wp2
                go_roundw
                case rel => exact ⟨k + 1, p, c, by omega, by rw [EF.out], by rw [EB.out], by go_num, by rw [EF.out]; exact S9⟩
                case measure => simp [intOf]; omega
              · have EB : Hid (behL (meantS s) (L.take (k + 1)) = m + 1) := by rw [Hid, HB.out, HM.out, hv]; rfl
                clear HB HF
                go_wp2
                go_roundw
                case rel => exact ⟨k + 1, p, c, by omega, by rw [EF.out], by rw [EB.out]; go_num, by go_num, by rw [EF.out]; exact S9⟩
                case measure => simp [intOf]; omega
            · have gm : (x.mode == 2) = true := by simpa using hm2
              cases hl2 : decide (x.lease ≤ now)
              · have EF : Hid (freeK L now (k + 1) = freeK L now k) := by rw [Hid, HF.out]; unfold aFenced; rw [hu, hm2, hl2]; simp
                cases hv : (x.version != s.prior)
                · have EB : Hid (behL (meantS s) (L.take (k + 1)) = m) := by rw [Hid, HB.out, HM.out, hv]; rfl
                  clear HB HF
                  go_wp2
                  go_roundw
                  case rel => exact ⟨k + 1, p, c, by omega, by rw [EF.out], by rw [EB.out], by go_num, by rw [EF.out]; exact S9⟩
                  case measure => simp [intOf]; omega
                · have EB : Hid (behL (meantS s) (L.take (k + 1)) = m + 1) := by rw [Hid, HB.out, HM.out, hv]; rfl
                  clear HB HF
                  go_wp2
                  go_roundw
                  case rel => exact ⟨k + 1, p, c, by omega, by rw [EF.out], by rw [EB.out]; go_num, by go_num, by rw [EF.out]; exact S9⟩
                  case measure => simp [intOf]; omega
              · have EF : Hid (freeK L now (k + 1) = freeK L now k ++ [(k : Int)]) := by rw [Hid, HF.out]; unfold aFenced; rw [hu, hm2, hl2]; rfl
                obtain ⟨N, hN1⟩ : ∃ N, (freeK L now k).length + 1 = N := ⟨_, rfl⟩
                have HN1 := hid hN1
                have HN2 : Hid ((freeK L now (k + 1)).length = N) := by rw [Hid, EF.out, List.length_append, ← hN1]; rfl
                cases hv : (x.version != s.prior)
                · have EB : Hid (behL (meantS s) (L.take (k + 1)) = m) := by rw [Hid, HB.out, HM.out, hv]; rfl
                  clear HB HF
                  go_wp2_with (at_builtin; refine wpList_app (by rfl) (.tmp 66) (.tmp 68) eI.T eI.T eI.T rfl rfl _ _ rfl rfl (S9.appG1 eIok w9.heap.size rfl 0 rfl (k : Int) _ (by rfl) N HN1.out (by show _ * 8 ≤ _; omega) (by unfold maxLen; omega)) ?_; rintro v4 w4' ⟨⟨a4, c4, rfl⟩, SF⟩; obtain ⟨y0, y1, y2, y3, y4, y5, y6, y7, y8, y9⟩ := HX.out _ _ SF)
                  go_roundw
                  case rel => exact ⟨k + 1, a4, c4, by omega, by rw [HN2.out], by rw [EB.out], by go_num, by rw [HN2.out]; exact (by rw [EF.out]; exact SF)⟩
                  case measure => simp [intOf]; omega
                · have EB : Hid (behL (meantS s) (L.take (k + 1)) = m + 1) := by rw [Hid, HB.out, HM.out, hv]; rfl
                  clear HB HF
                  go_wp2_with (at_builtin; refine wpList_app (by rfl) (.tmp 66) (.tmp 68) eI.T eI.T eI.T rfl rfl _ _ rfl rfl (S9.appG1 eIok w9.heap.size rfl 0 rfl (k : Int) _ (by rfl) N HN1.out (by show _ * 8 ≤ _; omega) (by unfold maxLen; omega)) ?_; rintro v4 w4' ⟨⟨a4, c4, rfl⟩, SF⟩; obtain ⟨y0, y1, y2, y3, y4, y5, y6, y7, y8, y9⟩ := HX.out _ _ SF)
                  go_roundw
                  case rel => exact ⟨k + 1, a4, c4, by omega, by rw [HN2.out], by rw [EB.out]; go_num, by go_num, by rw [HN2.out]; exact (by rw [EF.out]; exact SF)⟩
                  case measure => simp [intOf]; omega
      · go_simp
        refine hK.out _ _ (by exact keep S1d) (fun hHeld => ?_)
        clear hK K
        try simp only [Act.put, List.setIfInBounds_toArray, List.set_cons_zero, List.set_cons_succ]
        refine wpAnyH_take (i := 8) (v := ?v13) (ops_at rfl) (by kernel_rfl) (by kernel_rfl) (by kernel_rfl) (fun _ _ _ h => h) (Or.inl ⟨by rfl, ?hy13⟩) (by assumption) ?rest13
        case hy13 => intro w' hSw; (try dsimp only at hSw); go_simp; try with_reducible rfl
        try simp only [Act.put, List.setIfInBounds_toArray, List.set_cons_zero, List.set_cons_succ]
        refine wpAnyH_ready (rs := [2]) (by kernel_rfl) (by simp) ?_
        refine AllReadyH.cons (ops_at rfl) (fun K hK => ?_) AllReadyH.nil
        go_simp
        refine hK.out _ _ (by exact keep S1d) (fun hHeld => ?_)
        clear hK K
        try simp only [Act.put, List.setIfInBounds_toArray, List.set_cons_zero, List.set_cons_succ]
        refine wpAnyH_take (i := 3) (v := ?v14) (ops_at rfl) (by kernel_rfl) (by kernel_rfl) (by kernel_rfl) (fun _ _ _ h => h) (Or.inl ⟨by rfl, ?hy14⟩) (by assumption) ?rest14
        case hy14 => intro w' hSw; (try dsimp only at hSw); go_simp; try with_reducible rfl
        try simp only [Act.put, List.setIfInBounds_toArray, List.set_cons_zero, List.set_cons_succ]
        refine wpAnyH_ready (rs := [4]) (by kernel_rfl) (by simp) ?_
        refine AllReadyH.cons (ops_at rfl) (fun K hK => ?_) AllReadyH.nil
        go_simp
        refine (wtHas x _).mono ?_
        rintro e w4 ⟨rfl, hb4⟩
        rw [HH.out]
        have S4 := S1d.grow hb4
        refine hK.out _ _ (by exact keep S4) (fun hHeld => ?_)
        clear hK K
        try simp only [Act.put, List.setIfInBounds_toArray, List.set_cons_zero, List.set_cons_succ]
        refine wpAnyH_ready (rs := [9]) (by kernel_rfl) (by simp) ?_
        refine AllReadyH.cons (ops_at rfl) (fun K hK => ?_) AllReadyH.nil
        go_simp
        refine (rtHas x _).mono ?_
        rintro e w9 ⟨rfl, hb9⟩
        rw [HH.out]
        have S9 := S4.grow hb9
        refine hK.out _ _ (by exact keep S9) (fun hHeld => ?_)
        clear hK K
        try simp only [Act.put, List.setIfInBounds_toArray, List.set_cons_zero, List.set_cons_succ]
        refine wpAnyH_take (i := 10) (v := ?v17) (ops_at rfl) (by kernel_rfl) (by kernel_rfl) (by kernel_rfl) (fun _ _ _ h => h) (Or.inl ⟨by rfl, ?hy17⟩) (by assumption) ?rest17
        case hy17 => intro w' hSw; (try dsimp only at hSw); go_simp; try with_reducible rfl
        try simp only [Act.put, List.setIfInBounds_toArray, List.set_cons_zero, List.set_cons_succ]
        refine wpAnyH_done (by kernel_rfl) ?_ _
        clear keep hHeld
        obtain ⟨y0, y1, y2, y3, y4, y5, y6, y7, y8, y9⟩ := HX.out _ _ S9
        cases hu : x.up
        · have gu := hid hu
          rw [hu] at y0
          have EF : Hid (freeK L now (k + 1) = freeK L now k) := by rw [Hid, HF.out]; unfold aFenced; rw [hu]; simp
          cases hv : (x.version != s.prior)
          · have EB : Hid (behL (meantS s) (L.take (k + 1)) = m) := by rw [Hid, HB.out, HM.out, hv]; rfl
            clear HB HF
            go_wp2
            go_roundw
            case rel => exact ⟨k + 1, p, c, by omega, by rw [EF.out], by rw [EB.out], by go_num, by rw [EF.out]; exact S9⟩
            case measure => simp [intOf]; omega
          · have EB : Hid (behL (meantS s) (L.take (k + 1)) = m + 1) := by rw [Hid, HB.out, HM.out, hv]; rfl
            clear HB HF
            go_wp2
            go_roundw
            case rel => exact ⟨k + 1, p, c, by omega, by rw [EF.out], by rw [EB.out]; go_num, by go_num, by rw [EF.out]; exact S9⟩
            case measure => simp [intOf]; omega
        · rw [hu] at y0
          cases hm2 : decide (x.mode = 2)
          · have gm : (x.mode == 2) = false := by simpa using hm2
            have EF : Hid (freeK L now (k + 1) = freeK L now k) := by rw [Hid, HF.out]; unfold aFenced; rw [hu, hm2]; simp
            cases hv : (x.version != s.prior)
            · have EB : Hid (behL (meantS s) (L.take (k + 1)) = m) := by rw [Hid, HB.out, HM.out, hv]; rfl
              clear HB HF
              go_wp2
              go_roundw
              case rel => exact ⟨k + 1, p, c, by omega, by rw [EF.out], by rw [EB.out], by go_num, by rw [EF.out]; exact S9⟩
              case measure => simp [intOf]; omega
            · have EB : Hid (behL (meantS s) (L.take (k + 1)) = m + 1) := by rw [Hid, HB.out, HM.out, hv]; rfl
              clear HB HF
              go_wp2
              go_roundw
              case rel => exact ⟨k + 1, p, c, by omega, by rw [EF.out], by rw [EB.out]; go_num, by go_num, by rw [EF.out]; exact S9⟩
              case measure => simp [intOf]; omega
          · have gm : (x.mode == 2) = true := by simpa using hm2
            cases hl2 : decide (x.lease ≤ now)
            · have EF : Hid (freeK L now (k + 1) = freeK L now k) := by rw [Hid, HF.out]; unfold aFenced; rw [hu, hm2, hl2]; simp
              cases hv : (x.version != s.prior)
              · have EB : Hid (behL (meantS s) (L.take (k + 1)) = m) := by rw [Hid, HB.out, HM.out, hv]; rfl
                clear HB HF
                go_wp2
                go_roundw
                case rel => exact ⟨k + 1, p, c, by omega, by rw [EF.out], by rw [EB.out], by go_num, by rw [EF.out]; exact S9⟩
                case measure => simp [intOf]; omega
              · have EB : Hid (behL (meantS s) (L.take (k + 1)) = m + 1) := by rw [Hid, HB.out, HM.out, hv]; rfl
                clear HB HF
                go_wp2
                go_roundw
                case rel => exact ⟨k + 1, p, c, by omega, by rw [EF.out], by rw [EB.out]; go_num, by go_num, by rw [EF.out]; exact S9⟩
                case measure => simp [intOf]; omega
            · have EF : Hid (freeK L now (k + 1) = freeK L now k ++ [(k : Int)]) := by rw [Hid, HF.out]; unfold aFenced; rw [hu, hm2, hl2]; rfl
              obtain ⟨N, hN1⟩ : ∃ N, (freeK L now k).length + 1 = N := ⟨_, rfl⟩
              have HN1 := hid hN1
              have HN2 : Hid ((freeK L now (k + 1)).length = N) := by rw [Hid, EF.out, List.length_append, ← hN1]; rfl
              cases hv : (x.version != s.prior)
              · have EB : Hid (behL (meantS s) (L.take (k + 1)) = m) := by rw [Hid, HB.out, HM.out, hv]; rfl
                clear HB HF
                go_wp2_with (at_builtin; refine wpList_app (by rfl) (.tmp 66) (.tmp 68) eI.T eI.T eI.T rfl rfl _ _ rfl rfl (S9.appG1 eIok w9.heap.size rfl 0 rfl (k : Int) _ (by rfl) N HN1.out (by show _ * 8 ≤ _; omega) (by unfold maxLen; omega)) ?_; rintro v4 w4' ⟨⟨a4, c4, rfl⟩, SF⟩; obtain ⟨y0, y1, y2, y3, y4, y5, y6, y7, y8, y9⟩ := HX.out _ _ SF)
                go_roundw
                case rel => exact ⟨k + 1, a4, c4, by omega, by rw [HN2.out], by rw [EB.out], by go_num, by rw [HN2.out]; exact (by rw [EF.out]; exact SF)⟩
                case measure => simp [intOf]; omega
              · have EB : Hid (behL (meantS s) (L.take (k + 1)) = m + 1) := by rw [Hid, HB.out, HM.out, hv]; rfl
                clear HB HF
                go_wp2_with (at_builtin; refine wpList_app (by rfl) (.tmp 66) (.tmp 68) eI.T eI.T eI.T rfl rfl _ _ rfl rfl (S9.appG1 eIok w9.heap.size rfl 0 rfl (k : Int) _ (by rfl) N HN1.out (by show _ * 8 ≤ _; omega) (by unfold maxLen; omega)) ?_; rintro v4 w4' ⟨⟨a4, c4, rfl⟩, SF⟩; obtain ⟨y0, y1, y2, y3, y4, y5, y6, y7, y8, y9⟩ := HX.out _ _ SF)
                go_roundw
                case rel => exact ⟨k + 1, a4, c4, by omega, by rw [HN2.out], by rw [EB.out]; go_num, by go_num, by rw [HN2.out]; exact (by rw [EF.out]; exact SF)⟩
                case measure => simp [intOf]; omega
  · have HM : Hid (meantS s = s.goal) := if_neg hmo
    have gmo : (s.mode == 2) = false := by simpa using hmo
    clear hmo
    go_wp2_with fail
    clear z0 z1 z2 z3 z4 z5
    go_loopw [12, 13, 14] (fun v b i wr => ∃ (k : Nat) (p : Option Addr) (c : Nat), k ≤ n ∧ v = .slice p (freeK L now k).length c ∧ b = .int .i64 (behL (meantS s) (L.take k) : Int) ∧ i = .int .i64 k ∧ St w wr [ownT eI (.slice p (freeK L now k).length c) (freeK L now k), cellsT g5 25 s.cs]) (fun _ _ i _ => n - (intOf i).toNat)
    case atStart => exact ⟨0, none, 0, Nat.zero_le _, rfl, rfl, rfl, S2⟩
    case round =>
      obtain ⟨k, p, c, hk, rfl, rfl, rfl, Sk⟩ := hrel
      clear S2
      have hml := freeK_le L now k
      have hbl : behL (meantS s) (L.take k) ≤ k := by refine Nat.le_trans (behL_le _ _) ?_; rw [List.length_take]; omega
      by_cases hlt : k < n
      case neg =>
        have g0 : decide ((k : Int) < (n : Int)) = false := decide_eq_false (by omega)
        have g0n : decide (k < n) = false := decide_eq_false (by omega)
        obtain rfl : k = n := by omega
        have HBl : Hid (behL (meantS s) (L.take k) = behL (meantS s) L) := by rw [Hid, List.take_of_length_le (by rw [HN.out]; omega)]
        rw [HBl.out]
        clear hlt hk hbl
        go_wp2_with fail
        refine (wtCount a L k cap job inc _ HN.out (by omega) (HA.out.all eAGok Sk.fin)).mono ?_
        rintro e w4 ⟨rfl, hb4⟩
        have S4 := Sk.grow hb4
        clear Sk hb4
        go_wp2_with fail
        refine (rtCount a L k cap job inc _ HN.out (by omega) (HA.out.all eAGok S4.fin)).mono ?_
        rintro e w5 ⟨rfl, hb5⟩
        have S5 := S4.grow hb5
        clear S4 hb5
        have q1 : ((cntG L job inc : Int) == (cntG L job inc : Int)) = true := by simp
        go_wp2_with fail
        refine (wtFree a L k cap now _ HN.out (by omega) (HA.out.all eAGok S5.fin)).mono ?_
        rintro e w6 ⟨p6, c6, rfl, ho6, hb6⟩
        have S6 : St w w6 [ownT eI (.slice p (freeK L now k).length c) (freeK L now k), cellsT g5 25 s.cs, ownT eI (.slice p6 (freeK L now k).length c6) (freeK L now k)] := S5.own ho6 hb6
        clear S5 ho6 hb6
        go_wp2_with fail
        refine (ints_any p6 p (freeK L now k) (freeK L now k) _ _ c6 c _ rfl rfl (by unfold maxLen; omega) (by unfold maxLen; omega) (by exact (S6.slG eIok 2 rfl).2.2.2.2) (by exact (S6.slG eIok 0 rfl).2.2.2.2)).mono ?_
        rintro e w7 ⟨rfl, n7, rfl⟩
        rw [show (freeK L now k == freeK L now k) = true by simp]
        have S7 := S6.drewN n7
        obtain ⟨wq, hwq⟩ : ∃ wq, w6.drewN n7 = wq := ⟨_, rfl⟩
        rw [hwq] at S7 ⊢
        clear hwq S6
        obtain ⟨z0, z1, z2, z3, z4, z5⟩ := S7.sC 1 rfl
        go_wp2_with fail
        refine (wtBehind s a L k cap _ HN.out (by omega) (HA.out.all eAGok S7.fin)).mono ?_
        rintro e w8 ⟨rfl, hb8⟩
        have S8 := S7.grow hb8
        have q2 : ((behL (meantS s) L : Int) == (behL (meantS s) L : Int)) = true := by simp
        go_wp2
        go_ret
        exact ⟨rfl, S8.fin⟩
      have g0 : decide ((k : Int) < (n : Int)) = true := decide_eq_true (by omega)
      have g0n : decide (k < n) = true := decide_eq_true (by omega)
      have hkl : k < L.length := by rw [HN.out]; exact hlt
      have i0 := fun wx => idxAG a n cap (fun h => HA.out.ok (by rw [HN.out]; exact h)) k hlt wx
      have HX : Hid (∀ w' l, St w w' l → AgAt w' (adr a (k * 10)) L[k]) := fun w' l S => (HA.out.all eAGok S.fin).agAt hkl
      have HF := hid (freeK_step (now := now) hkl)
      have HB := hid (behL_step (v := meantS s) hkl)
      generalize L[k] = x at *
      generalize adr a (k * 10) = A at *
      generalize behL (meantS s) (L.take k) = m at *
      have keep : ∀ {w' : World} {l : List Thing}, St w w' l → (w'.cell? A = some (.bool x.up) ∧ w'.cell? { block := A.block, off := A.off + 1 } = some (.int .i64 x.term) ∧ w'.cell? { block := A.block, off := A.off + 2 } = some (.int .i64 x.gen) ∧ w'.cell? { block := A.block, off := A.off + 3 } = some (.int .i64 x.mode) ∧ w'.cell? { block := A.block, off := A.off + 4 } = some (.int .i64 x.job) ∧ w'.cell? { block := A.block, off := A.off + 5 } = some (.int .i64 x.inc) ∧ w'.cell? { block := A.block, off := A.off + 6 } = some (.int .i64 x.version) ∧ w'.cell? { block := A.block, off := A.off + 7 } = some (.int .i64 x.lease) ∧ w'.cell? { block := A.block, off := A.off + 8 } = some (.int .i64 x.worked) ∧ w'.cell? { block := A.block, off := A.off + 9 } = some (.int .i64 x.to_)) := fun S => HX.out _ _ S
      obtain ⟨hv, hhv⟩ : ∃ b, hasA x = b := ⟨_, rfl⟩
      have HH := hid hhv
      have q3 : (hv != hv) = false := by simp
      clear hhv
      go_wp2_with fail
      have S1d := Sk.drew
      clear Sk
      refine wp_region_held_drew (S := (fun w' => (w'.cell? A = some (.bool x.up) ∧ w'.cell? { block := A.block, off := A.off + 1 } = some (.int .i64 x.term) ∧ w'.cell? { block := A.block, off := A.off + 2 } = some (.int .i64 x.gen) ∧ w'.cell? { block := A.block, off := A.off + 3 } = some (.int .i64 x.mode) ∧ w'.cell? { block := A.block, off := A.off + 4 } = some (.int .i64 x.job) ∧ w'.cell? { block := A.block, off := A.off + 5 } = some (.int .i64 x.inc) ∧ w'.cell? { block := A.block, off := A.off + 6 } = some (.int .i64 x.version) ∧ w'.cell? { block := A.block, off := A.off + 7 } = some (.int .i64 x.lease) ∧ w'.cell? { block := A.block, off := A.off + 8 } = some (.int .i64 x.worked) ∧ w'.cell? { block := A.block, off := A.off + 9 } = some (.int .i64 x.to_)))) (by kernel_rfl) (by exact keep S1d) (fun hHeld => ?_)
      change wpAnyH _ _ _ _ _ 11 (Array.replicate 11 false) _ _
      refine wpAnyH_take (i := 0) (v := ?v18) (ops_at rfl) (by kernel_rfl) (by kernel_rfl) (by kernel_rfl) (fun _ _ _ h => h) (Or.inl ⟨by rfl, ?hy18⟩) (by assumption) ?rest18
      case hy18 => intro w' hSw; (try dsimp only at hSw); go_simp; try with_reducible rfl
      try simp only [Act.put, List.setIfInBounds_toArray, List.set_cons_zero, List.set_cons_succ]
      refine wpAnyH_take (i := 1) (v := ?v19) (ops_at rfl) (by kernel_rfl) (by kernel_rfl) (by kernel_rfl) (fun _ _ _ h => h) (Or.inl ⟨by rfl, ?hy19⟩) (by assumption) ?rest19
      case hy19 => intro w' hSw; (try dsimp only at hSw); go_simp; try with_reducible rfl
      try simp only [Act.put, List.setIfInBounds_toArray, List.set_cons_zero, List.set_cons_succ]
      refine wpAnyH_take (i := 5) (v := ?v20) (ops_at rfl) (by kernel_rfl) (by kernel_rfl) (by kernel_rfl) (fun _ _ _ h => h) (Or.inl ⟨by rfl, ?hy20⟩) (by assumption) ?rest20
      case hy20 => intro w' hSw; (try dsimp only at hSw); go_simp; try with_reducible rfl
      try simp only [Act.put, List.setIfInBounds_toArray, List.set_cons_zero, List.set_cons_succ]
      refine wpAnyH_take (i := 6) (v := ?v21) (ops_at rfl) (by kernel_rfl) (by kernel_rfl) (by kernel_rfl) (fun _ _ _ h => h) (Or.inl ⟨by rfl, ?hy21⟩) (by assumption) ?rest21
      case hy21 => intro w' hSw; (try dsimp only at hSw); go_simp; try with_reducible rfl
      try simp only [Act.put, List.setIfInBounds_toArray, List.set_cons_zero, List.set_cons_succ]
      refine wpAnyH_ready (rs := [2, 7]) (by kernel_rfl) (by simp) ?_
      refine AllReadyH.cons (ops_at rfl) (fun K hK => ?_) (AllReadyH.cons (ops_at rfl) (fun K hK => ?_) AllReadyH.nil)
      · go_simp
        refine hK.out _ _ (by exact keep S1d) (fun hHeld => ?_)
        clear hK K
        try simp only [Act.put, List.setIfInBounds_toArray, List.set_cons_zero, List.set_cons_succ]
        refine wpAnyH_take (i := 3) (v := ?v22) (ops_at rfl) (by kernel_rfl) (by kernel_rfl) (by kernel_rfl) (fun _ _ _ h => h) (Or.inl ⟨by rfl, ?hy22⟩) (by assumption) ?rest22
        case hy22 => intro w' hSw; (try dsimp only at hSw); go_simp; try with_reducible rfl
        try simp only [Act.put, List.setIfInBounds_toArray, List.set_cons_zero, List.set_cons_succ]
        refine wpAnyH_ready (rs := [4, 7]) (by kernel_rfl) (by simp) ?_
        refine AllReadyH.cons (ops_at rfl) (fun K hK => ?_) (AllReadyH.cons (ops_at rfl) (fun K hK => ?_) AllReadyH.nil)
        · go_simp
          refine (wtHas x _).mono ?_
          rintro e w4 ⟨rfl, hb4⟩
          rw [HH.out]
          have S4 := S1d.grow hb4
          refine hK.out _ _ (by exact keep S4) (fun hHeld => ?_)
          clear hK K
          try simp only [Act.put, List.setIfInBounds_toArray, List.set_cons_zero, List.set_cons_succ]
          refine wpAnyH_ready (rs := [7]) (by kernel_rfl) (by simp) ?_
          refine AllReadyH.cons (ops_at rfl) (fun K hK => ?_) AllReadyH.nil
          go_simp
          refine hK.out _ _ (by exact keep S4) (fun hHeld => ?_)
          clear hK K
          try simp only [Act.put, List.setIfInBounds_toArray, List.set_cons_zero, List.set_cons_succ]
          refine wpAnyH_take (i := 8) (v := ?v23) (ops_at rfl) (by kernel_rfl) (by kernel_rfl) (by kernel_rfl) (fun _ _ _ h => h) (Or.inl ⟨by rfl, ?hy23⟩) (by assumption) ?rest23
          case hy23 => intro w' hSw; (try dsimp only at hSw); go_simp; try with_reducible rfl
          try simp only [Act.put, List.setIfInBounds_toArray, List.set_cons_zero, List.set_cons_succ]
          refine wpAnyH_ready (rs := [9]) (by kernel_rfl) (by simp) ?_
          refine AllReadyH.cons (ops_at rfl) (fun K hK => ?_) AllReadyH.nil
          go_simp
          refine (rtHas x _).mono ?_
          rintro e w9 ⟨rfl, hb9⟩
          rw [HH.out]
          have S9 := S4.grow hb9
          refine hK.out _ _ (by exact keep S9) (fun hHeld => ?_)
          clear hK K
          try simp only [Act.put, List.setIfInBounds_toArray, List.set_cons_zero, List.set_cons_succ]
          refine wpAnyH_take (i := 10) (v := ?v25) (ops_at rfl) (by kernel_rfl) (by kernel_rfl) (by kernel_rfl) (fun _ _ _ h => h) (Or.inl ⟨by rfl, ?hy25⟩) (by assumption) ?rest25
          case hy25 => intro w' hSw; (try dsimp only at hSw); go_simp; try with_reducible rfl
          try simp only [Act.put, List.setIfInBounds_toArray, List.set_cons_zero, List.set_cons_succ]
          refine wpAnyH_done (by kernel_rfl) ?_ _
          clear keep hHeld
          obtain ⟨y0, y1, y2, y3, y4, y5, y6, y7, y8, y9⟩ := HX.out _ _ S9
          cases hu : x.up
          · have gu := hid hu
            rw [hu] at y0
            have EF : Hid (freeK L now (k + 1) = freeK L now k) := by rw [Hid, HF.out]; unfold aFenced; rw [hu]; simp
            cases hv : (x.version != s.goal)
            · have EB : Hid (behL (meantS s) (L.take (k + 1)) = m) := by rw [Hid, HB.out, HM.out, hv]; rfl
              clear HB HF
              go_wp2
              go_roundw
              case rel => exact ⟨k + 1, p, c, by omega, by rw [EF.out], by rw [EB.out], by go_num, by rw [EF.out]; exact S9⟩
              case measure => simp [intOf]; omega
            · have EB : Hid (behL (meantS s) (L.take (k + 1)) = m + 1) := by rw [Hid, HB.out, HM.out, hv]; rfl
              clear HB HF
              go_wp2
              go_roundw
              case rel => exact ⟨k + 1, p, c, by omega, by rw [EF.out], by rw [EB.out]; go_num, by go_num, by rw [EF.out]; exact S9⟩
              case measure => simp [intOf]; omega
          · rw [hu] at y0
            cases hm2 : decide (x.mode = 2)
            · have gm : (x.mode == 2) = false := by simpa using hm2
              have EF : Hid (freeK L now (k + 1) = freeK L now k) := by rw [Hid, HF.out]; unfold aFenced; rw [hu, hm2]; simp
              cases hv : (x.version != s.goal)
              · have EB : Hid (behL (meantS s) (L.take (k + 1)) = m) := by rw [Hid, HB.out, HM.out, hv]; rfl
                clear HB HF
                go_wp2
                go_roundw
                case rel => exact ⟨k + 1, p, c, by omega, by rw [EF.out], by rw [EB.out], by go_num, by rw [EF.out]; exact S9⟩
                case measure => simp [intOf]; omega
              · have EB : Hid (behL (meantS s) (L.take (k + 1)) = m + 1) := by rw [Hid, HB.out, HM.out, hv]; rfl
                clear HB HF
                go_wp2
                go_roundw
                case rel => exact ⟨k + 1, p, c, by omega, by rw [EF.out], by rw [EB.out]; go_num, by go_num, by rw [EF.out]; exact S9⟩
                case measure => simp [intOf]; omega
            · have gm : (x.mode == 2) = true := by simpa using hm2
              cases hl2 : decide (x.lease ≤ now)
              · have EF : Hid (freeK L now (k + 1) = freeK L now k) := by rw [Hid, HF.out]; unfold aFenced; rw [hu, hm2, hl2]; simp
                cases hv : (x.version != s.goal)
                · have EB : Hid (behL (meantS s) (L.take (k + 1)) = m) := by rw [Hid, HB.out, HM.out, hv]; rfl
                  clear HB HF
                  go_wp2
                  go_roundw
                  case rel => exact ⟨k + 1, p, c, by omega, by rw [EF.out], by rw [EB.out], by go_num, by rw [EF.out]; exact S9⟩
                  case measure => simp [intOf]; omega
                · have EB : Hid (behL (meantS s) (L.take (k + 1)) = m + 1) := by rw [Hid, HB.out, HM.out, hv]; rfl
                  clear HB HF
                  go_wp2
                  go_roundw
                  case rel => exact ⟨k + 1, p, c, by omega, by rw [EF.out], by rw [EB.out]; go_num, by go_num, by rw [EF.out]; exact S9⟩
                  case measure => simp [intOf]; omega
              · have EF : Hid (freeK L now (k + 1) = freeK L now k ++ [(k : Int)]) := by rw [Hid, HF.out]; unfold aFenced; rw [hu, hm2, hl2]; rfl
                obtain ⟨N, hN1⟩ : ∃ N, (freeK L now k).length + 1 = N := ⟨_, rfl⟩
                have HN1 := hid hN1
                have HN2 : Hid ((freeK L now (k + 1)).length = N) := by rw [Hid, EF.out, List.length_append, ← hN1]; rfl
                cases hv : (x.version != s.goal)
                · have EB : Hid (behL (meantS s) (L.take (k + 1)) = m) := by rw [Hid, HB.out, HM.out, hv]; rfl
                  clear HB HF
                  go_wp2_with (at_builtin; refine wpList_app (by rfl) (.tmp 66) (.tmp 68) eI.T eI.T eI.T rfl rfl _ _ rfl rfl (S9.appG1 eIok w9.heap.size rfl 0 rfl (k : Int) _ (by rfl) N HN1.out (by show _ * 8 ≤ _; omega) (by unfold maxLen; omega)) ?_; rintro v4 w4' ⟨⟨a4, c4, rfl⟩, SF⟩; obtain ⟨y0, y1, y2, y3, y4, y5, y6, y7, y8, y9⟩ := HX.out _ _ SF)
                  go_roundw
                  case rel => exact ⟨k + 1, a4, c4, by omega, by rw [HN2.out], by rw [EB.out], by go_num, by rw [HN2.out]; exact (by rw [EF.out]; exact SF)⟩
                  case measure => simp [intOf]; omega
                · have EB : Hid (behL (meantS s) (L.take (k + 1)) = m + 1) := by rw [Hid, HB.out, HM.out, hv]; rfl
                  clear HB HF
                  go_wp2_with (at_builtin; refine wpList_app (by rfl) (.tmp 66) (.tmp 68) eI.T eI.T eI.T rfl rfl _ _ rfl rfl (S9.appG1 eIok w9.heap.size rfl 0 rfl (k : Int) _ (by rfl) N HN1.out (by show _ * 8 ≤ _; omega) (by unfold maxLen; omega)) ?_; rintro v4 w4' ⟨⟨a4, c4, rfl⟩, SF⟩; obtain ⟨y0, y1, y2, y3, y4, y5, y6, y7, y8, y9⟩ := HX.out _ _ SF)
                  go_roundw
                  case rel => exact ⟨k + 1, a4, c4, by omega, by rw [HN2.out], by rw [EB.out]; go_num, by go_num, by rw [HN2.out]; exact (by rw [EF.out]; exact SF)⟩
                  case measure => simp [intOf]; omega
        · go_simp
          refine hK.out _ _ (by exact keep S1d) (fun hHeld => ?_)
          clear hK K
          try simp only [Act.put, List.setIfInBounds_toArray, List.set_cons_zero, List.set_cons_succ]
          refine wpAnyH_take (i := 8) (v := ?v26) (ops_at rfl) (by kernel_rfl) (by kernel_rfl) (by kernel_rfl) (fun _ _ _ h => h) (Or.inl ⟨by rfl, ?hy26⟩) (by assumption) ?rest26
          case hy26 => intro w' hSw; (try dsimp only at hSw); go_simp; try with_reducible rfl
          try simp only [Act.put, List.setIfInBounds_toArray, List.set_cons_zero, List.set_cons_succ]
          refine wpAnyH_ready (rs := [4]) (by kernel_rfl) (by simp) ?_
          refine AllReadyH.cons (ops_at rfl) (fun K hK => ?_) AllReadyH.nil
          go_simp
          refine (wtHas x _).mono ?_
          rintro e w4 ⟨rfl, hb4⟩
          rw [HH.out]
          have S4 := S1d.grow hb4
          refine hK.out _ _ (by exact keep S4) (fun hHeld => ?_)
          clear hK K
          try simp only [Act.put, List.setIfInBounds_toArray, List.set_cons_zero, List.set_cons_succ]
          refine wpAnyH_ready (rs := [9]) (by kernel_rfl) (by simp) ?_
          refine AllReadyH.cons (ops_at rfl) (fun K hK => ?_) AllReadyH.nil
          go_simp
          refine (rtHas x _).mono ?_
          rintro e w9 ⟨rfl, hb9⟩
          rw [HH.out]
          have S9 := S4.grow hb9
          refine hK.out _ _ (by exact keep S9) (fun hHeld => ?_)
          clear hK K
          try simp only [Act.put, List.setIfInBounds_toArray, List.set_cons_zero, List.set_cons_succ]
          refine wpAnyH_take (i := 10) (v := ?v29) (ops_at rfl) (by kernel_rfl) (by kernel_rfl) (by kernel_rfl) (fun _ _ _ h => h) (Or.inl ⟨by rfl, ?hy29⟩) (by assumption) ?rest29
          case hy29 => intro w' hSw; (try dsimp only at hSw); go_simp; try with_reducible rfl
          try simp only [Act.put, List.setIfInBounds_toArray, List.set_cons_zero, List.set_cons_succ]
          refine wpAnyH_done (by kernel_rfl) ?_ _
          clear keep hHeld
          obtain ⟨y0, y1, y2, y3, y4, y5, y6, y7, y8, y9⟩ := HX.out _ _ S9
          cases hu : x.up
          · have gu := hid hu
            rw [hu] at y0
            have EF : Hid (freeK L now (k + 1) = freeK L now k) := by rw [Hid, HF.out]; unfold aFenced; rw [hu]; simp
            cases hv : (x.version != s.goal)
            · have EB : Hid (behL (meantS s) (L.take (k + 1)) = m) := by rw [Hid, HB.out, HM.out, hv]; rfl
              clear HB HF
              go_wp2
              go_roundw
              case rel => exact ⟨k + 1, p, c, by omega, by rw [EF.out], by rw [EB.out], by go_num, by rw [EF.out]; exact S9⟩
              case measure => simp [intOf]; omega
            · have EB : Hid (behL (meantS s) (L.take (k + 1)) = m + 1) := by rw [Hid, HB.out, HM.out, hv]; rfl
              clear HB HF
              go_wp2
              go_roundw
              case rel => exact ⟨k + 1, p, c, by omega, by rw [EF.out], by rw [EB.out]; go_num, by go_num, by rw [EF.out]; exact S9⟩
              case measure => simp [intOf]; omega
          · rw [hu] at y0
            cases hm2 : decide (x.mode = 2)
            · have gm : (x.mode == 2) = false := by simpa using hm2
              have EF : Hid (freeK L now (k + 1) = freeK L now k) := by rw [Hid, HF.out]; unfold aFenced; rw [hu, hm2]; simp
              cases hv : (x.version != s.goal)
              · have EB : Hid (behL (meantS s) (L.take (k + 1)) = m) := by rw [Hid, HB.out, HM.out, hv]; rfl
                clear HB HF
                go_wp2
                go_roundw
                case rel => exact ⟨k + 1, p, c, by omega, by rw [EF.out], by rw [EB.out], by go_num, by rw [EF.out]; exact S9⟩
                case measure => simp [intOf]; omega
              · have EB : Hid (behL (meantS s) (L.take (k + 1)) = m + 1) := by rw [Hid, HB.out, HM.out, hv]; rfl
                clear HB HF
                go_wp2
                go_roundw
                case rel => exact ⟨k + 1, p, c, by omega, by rw [EF.out], by rw [EB.out]; go_num, by go_num, by rw [EF.out]; exact S9⟩
                case measure => simp [intOf]; omega
            · have gm : (x.mode == 2) = true := by simpa using hm2
              cases hl2 : decide (x.lease ≤ now)
              · have EF : Hid (freeK L now (k + 1) = freeK L now k) := by rw [Hid, HF.out]; unfold aFenced; rw [hu, hm2, hl2]; simp
                cases hv : (x.version != s.goal)
                · have EB : Hid (behL (meantS s) (L.take (k + 1)) = m) := by rw [Hid, HB.out, HM.out, hv]; rfl
                  clear HB HF
                  go_wp2
                  go_roundw
                  case rel => exact ⟨k + 1, p, c, by omega, by rw [EF.out], by rw [EB.out], by go_num, by rw [EF.out]; exact S9⟩
                  case measure => simp [intOf]; omega
                · have EB : Hid (behL (meantS s) (L.take (k + 1)) = m + 1) := by rw [Hid, HB.out, HM.out, hv]; rfl
                  clear HB HF
                  go_wp2
                  go_roundw
                  case rel => exact ⟨k + 1, p, c, by omega, by rw [EF.out], by rw [EB.out]; go_num, by go_num, by rw [EF.out]; exact S9⟩
                  case measure => simp [intOf]; omega
              · have EF : Hid (freeK L now (k + 1) = freeK L now k ++ [(k : Int)]) := by rw [Hid, HF.out]; unfold aFenced; rw [hu, hm2, hl2]; rfl
                obtain ⟨N, hN1⟩ : ∃ N, (freeK L now k).length + 1 = N := ⟨_, rfl⟩
                have HN1 := hid hN1
                have HN2 : Hid ((freeK L now (k + 1)).length = N) := by rw [Hid, EF.out, List.length_append, ← hN1]; rfl
                cases hv : (x.version != s.goal)
                · have EB : Hid (behL (meantS s) (L.take (k + 1)) = m) := by rw [Hid, HB.out, HM.out, hv]; rfl
                  clear HB HF
                  go_wp2_with (at_builtin; refine wpList_app (by rfl) (.tmp 66) (.tmp 68) eI.T eI.T eI.T rfl rfl _ _ rfl rfl (S9.appG1 eIok w9.heap.size rfl 0 rfl (k : Int) _ (by rfl) N HN1.out (by show _ * 8 ≤ _; omega) (by unfold maxLen; omega)) ?_; rintro v4 w4' ⟨⟨a4, c4, rfl⟩, SF⟩; obtain ⟨y0, y1, y2, y3, y4, y5, y6, y7, y8, y9⟩ := HX.out _ _ SF)
                  go_roundw
                  case rel => exact ⟨k + 1, a4, c4, by omega, by rw [HN2.out], by rw [EB.out], by go_num, by rw [HN2.out]; exact (by rw [EF.out]; exact SF)⟩
                  case measure => simp [intOf]; omega
                · have EB : Hid (behL (meantS s) (L.take (k + 1)) = m + 1) := by rw [Hid, HB.out, HM.out, hv]; rfl
                  clear HB HF
                  go_wp2_with (at_builtin; refine wpList_app (by rfl) (.tmp 66) (.tmp 68) eI.T eI.T eI.T rfl rfl _ _ rfl rfl (S9.appG1 eIok w9.heap.size rfl 0 rfl (k : Int) _ (by rfl) N HN1.out (by show _ * 8 ≤ _; omega) (by unfold maxLen; omega)) ?_; rintro v4 w4' ⟨⟨a4, c4, rfl⟩, SF⟩; obtain ⟨y0, y1, y2, y3, y4, y5, y6, y7, y8, y9⟩ := HX.out _ _ SF)
                  go_roundw
                  case rel => exact ⟨k + 1, a4, c4, by omega, by rw [HN2.out], by rw [EB.out]; go_num, by go_num, by rw [HN2.out]; exact (by rw [EF.out]; exact SF)⟩
                  case measure => simp [intOf]; omega
      · go_simp
        refine hK.out _ _ (by exact keep S1d) (fun hHeld => ?_)
        clear hK K
        try simp only [Act.put, List.setIfInBounds_toArray, List.set_cons_zero, List.set_cons_succ]
        refine wpAnyH_take (i := 8) (v := ?v30) (ops_at rfl) (by kernel_rfl) (by kernel_rfl) (by kernel_rfl) (fun _ _ _ h => h) (Or.inl ⟨by rfl, ?hy30⟩) (by assumption) ?rest30
        case hy30 => intro w' hSw; (try dsimp only at hSw); go_simp; try with_reducible rfl
        try simp only [Act.put, List.setIfInBounds_toArray, List.set_cons_zero, List.set_cons_succ]
        refine wpAnyH_ready (rs := [2]) (by kernel_rfl) (by simp) ?_
        refine AllReadyH.cons (ops_at rfl) (fun K hK => ?_) AllReadyH.nil
        go_simp
        refine hK.out _ _ (by exact keep S1d) (fun hHeld => ?_)
        clear hK K
        try simp only [Act.put, List.setIfInBounds_toArray, List.set_cons_zero, List.set_cons_succ]
        refine wpAnyH_take (i := 3) (v := ?v31) (ops_at rfl) (by kernel_rfl) (by kernel_rfl) (by kernel_rfl) (fun _ _ _ h => h) (Or.inl ⟨by rfl, ?hy31⟩) (by assumption) ?rest31
        case hy31 => intro w' hSw; (try dsimp only at hSw); go_simp; try with_reducible rfl
        try simp only [Act.put, List.setIfInBounds_toArray, List.set_cons_zero, List.set_cons_succ]
        refine wpAnyH_ready (rs := [4]) (by kernel_rfl) (by simp) ?_
        refine AllReadyH.cons (ops_at rfl) (fun K hK => ?_) AllReadyH.nil
        go_simp
        refine (wtHas x _).mono ?_
        rintro e w4 ⟨rfl, hb4⟩
        rw [HH.out]
        have S4 := S1d.grow hb4
        refine hK.out _ _ (by exact keep S4) (fun hHeld => ?_)
        clear hK K
        try simp only [Act.put, List.setIfInBounds_toArray, List.set_cons_zero, List.set_cons_succ]
        refine wpAnyH_ready (rs := [9]) (by kernel_rfl) (by simp) ?_
        refine AllReadyH.cons (ops_at rfl) (fun K hK => ?_) AllReadyH.nil
        go_simp
        refine (rtHas x _).mono ?_
        rintro e w9 ⟨rfl, hb9⟩
        rw [HH.out]
        have S9 := S4.grow hb9
        refine hK.out _ _ (by exact keep S9) (fun hHeld => ?_)
        clear hK K
        try simp only [Act.put, List.setIfInBounds_toArray, List.set_cons_zero, List.set_cons_succ]
        refine wpAnyH_take (i := 10) (v := ?v34) (ops_at rfl) (by kernel_rfl) (by kernel_rfl) (by kernel_rfl) (fun _ _ _ h => h) (Or.inl ⟨by rfl, ?hy34⟩) (by assumption) ?rest34
        case hy34 => intro w' hSw; (try dsimp only at hSw); go_simp; try with_reducible rfl
        try simp only [Act.put, List.setIfInBounds_toArray, List.set_cons_zero, List.set_cons_succ]
        refine wpAnyH_done (by kernel_rfl) ?_ _
        clear keep hHeld
        obtain ⟨y0, y1, y2, y3, y4, y5, y6, y7, y8, y9⟩ := HX.out _ _ S9
        cases hu : x.up
        · have gu := hid hu
          rw [hu] at y0
          have EF : Hid (freeK L now (k + 1) = freeK L now k) := by rw [Hid, HF.out]; unfold aFenced; rw [hu]; simp
          cases hv : (x.version != s.goal)
          · have EB : Hid (behL (meantS s) (L.take (k + 1)) = m) := by rw [Hid, HB.out, HM.out, hv]; rfl
            clear HB HF
            go_wp2
            go_roundw
            case rel => exact ⟨k + 1, p, c, by omega, by rw [EF.out], by rw [EB.out], by go_num, by rw [EF.out]; exact S9⟩
            case measure => simp [intOf]; omega
          · have EB : Hid (behL (meantS s) (L.take (k + 1)) = m + 1) := by rw [Hid, HB.out, HM.out, hv]; rfl
            clear HB HF
            go_wp2
            go_roundw
            case rel => exact ⟨k + 1, p, c, by omega, by rw [EF.out], by rw [EB.out]; go_num, by go_num, by rw [EF.out]; exact S9⟩
            case measure => simp [intOf]; omega
        · rw [hu] at y0
          cases hm2 : decide (x.mode = 2)
          · have gm : (x.mode == 2) = false := by simpa using hm2
            have EF : Hid (freeK L now (k + 1) = freeK L now k) := by rw [Hid, HF.out]; unfold aFenced; rw [hu, hm2]; simp
            cases hv : (x.version != s.goal)
            · have EB : Hid (behL (meantS s) (L.take (k + 1)) = m) := by rw [Hid, HB.out, HM.out, hv]; rfl
              clear HB HF
              go_wp2
              go_roundw
              case rel => exact ⟨k + 1, p, c, by omega, by rw [EF.out], by rw [EB.out], by go_num, by rw [EF.out]; exact S9⟩
              case measure => simp [intOf]; omega
            · have EB : Hid (behL (meantS s) (L.take (k + 1)) = m + 1) := by rw [Hid, HB.out, HM.out, hv]; rfl
              clear HB HF
              go_wp2
              go_roundw
              case rel => exact ⟨k + 1, p, c, by omega, by rw [EF.out], by rw [EB.out]; go_num, by go_num, by rw [EF.out]; exact S9⟩
              case measure => simp [intOf]; omega
          · have gm : (x.mode == 2) = true := by simpa using hm2
            cases hl2 : decide (x.lease ≤ now)
            · have EF : Hid (freeK L now (k + 1) = freeK L now k) := by rw [Hid, HF.out]; unfold aFenced; rw [hu, hm2, hl2]; simp
              cases hv : (x.version != s.goal)
              · have EB : Hid (behL (meantS s) (L.take (k + 1)) = m) := by rw [Hid, HB.out, HM.out, hv]; rfl
                clear HB HF
                go_wp2
                go_roundw
                case rel => exact ⟨k + 1, p, c, by omega, by rw [EF.out], by rw [EB.out], by go_num, by rw [EF.out]; exact S9⟩
                case measure => simp [intOf]; omega
              · have EB : Hid (behL (meantS s) (L.take (k + 1)) = m + 1) := by rw [Hid, HB.out, HM.out, hv]; rfl
                clear HB HF
                go_wp2
                go_roundw
                case rel => exact ⟨k + 1, p, c, by omega, by rw [EF.out], by rw [EB.out]; go_num, by go_num, by rw [EF.out]; exact S9⟩
                case measure => simp [intOf]; omega
            · have EF : Hid (freeK L now (k + 1) = freeK L now k ++ [(k : Int)]) := by rw [Hid, HF.out]; unfold aFenced; rw [hu, hm2, hl2]; rfl
              obtain ⟨N, hN1⟩ : ∃ N, (freeK L now k).length + 1 = N := ⟨_, rfl⟩
              have HN1 := hid hN1
              have HN2 : Hid ((freeK L now (k + 1)).length = N) := by rw [Hid, EF.out, List.length_append, ← hN1]; rfl
              cases hv : (x.version != s.goal)
              · have EB : Hid (behL (meantS s) (L.take (k + 1)) = m) := by rw [Hid, HB.out, HM.out, hv]; rfl
                clear HB HF
                go_wp2_with (at_builtin; refine wpList_app (by rfl) (.tmp 66) (.tmp 68) eI.T eI.T eI.T rfl rfl _ _ rfl rfl (S9.appG1 eIok w9.heap.size rfl 0 rfl (k : Int) _ (by rfl) N HN1.out (by show _ * 8 ≤ _; omega) (by unfold maxLen; omega)) ?_; rintro v4 w4' ⟨⟨a4, c4, rfl⟩, SF⟩; obtain ⟨y0, y1, y2, y3, y4, y5, y6, y7, y8, y9⟩ := HX.out _ _ SF)
                go_roundw
                case rel => exact ⟨k + 1, a4, c4, by omega, by rw [HN2.out], by rw [EB.out], by go_num, by rw [HN2.out]; exact (by rw [EF.out]; exact SF)⟩
                case measure => simp [intOf]; omega
              · have EB : Hid (behL (meantS s) (L.take (k + 1)) = m + 1) := by rw [Hid, HB.out, HM.out, hv]; rfl
                clear HB HF
                go_wp2_with (at_builtin; refine wpList_app (by rfl) (.tmp 66) (.tmp 68) eI.T eI.T eI.T rfl rfl _ _ rfl rfl (S9.appG1 eIok w9.heap.size rfl 0 rfl (k : Int) _ (by rfl) N HN1.out (by show _ * 8 ≤ _; omega) (by unfold maxLen; omega)) ?_; rintro v4 w4' ⟨⟨a4, c4, rfl⟩, SF⟩; obtain ⟨y0, y1, y2, y3, y4, y5, y6, y7, y8, y9⟩ := HX.out _ _ SF)
                go_roundw
                case rel => exact ⟨k + 1, a4, c4, by omega, by rw [HN2.out], by rw [EB.out]; go_num, by go_num, by rw [HN2.out]; exact (by rw [EF.out]; exact SF)⟩
                case measure => simp [intOf]; omega
end Go.Proofs.Ytilobmefomoemaa
