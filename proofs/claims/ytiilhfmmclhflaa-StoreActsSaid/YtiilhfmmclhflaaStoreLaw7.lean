/- StoreActs. -/
import Derived.Test.YtiilhfmmclhflaaStoreLaw6
namespace Go.Proofs.Ytiilhfmmclhflaa
set_option linter.unusedVariables false
set_option linter.unusedSimpArgs false
open Go.RowKit
set_option maxRecDepth 10000 in
set_option maxHeartbeats 6400000 in
theorem storeActs_law (room : Int) (a : Option Addr) (L : List TAct) (n cap : Nat) (w : World) (hn : L.length = n) (hm : n ≤ maxLen) (hA : AtG eTA w a L) (hok : ∀ x ∈ L, x.Ok w) :
    Calls Try.prog 6 #[.int .i64 room, .slice a n cap] w fun e w' => e = .returned (.bool true) ∧ Below w.heap.size w w' := by
  have k1 := fun (w : World) => Lib.run_convert_bytes_const (P := Try.prog) w 22 5 #[.int .u8 97] 1 1 sliceB u8T
  have HN := hid hn
  have HA := hid hA
  have HOk := hid hok
  have HM := hid hm
  have S0 := St.start w
  clear hn hA hok hm
  go_enter Try.func6, Try.ntmps6
  go_wp2_with fail
  refine (alive11_any _).mono ?_
  rintro e w1 ⟨rfl, hb1⟩
  have S1 := S0.grow hb1
  clear hb1 S0
  go_wp2_with fail
  refine (few11_any a L n cap _ HN.out HM.out (HA.out.all eTAok S1.fin)).mono ?_
  rintro e w1 ⟨rfl, rfl⟩
  by_cases hf : few11 L = true
  case neg =>
    have hf' : few11 L = false := by simpa using hf
    rw [hf']
    go_wp2
    go_ret
    exact ⟨rfl, S1.fin⟩
  rw [hf]
  have hf2 := hf
  unfold few11 at hf2
  rw [Bool.and_eq_true, decide_eq_true_iff, List.all_eq_true, HN.out] at hf2
  have hn60 := hf2.1
  have HF2 := hid hf2.2
  clear hf hf2
  go_wp2_with fail
  refine (njFence 1 _).mono ?_
  rintro e w2 ⟨rfl, rfl⟩
  go_wp2_with fail
  refine (njEnd 1 _).mono ?_
  rintro e w2 ⟨rfl, rfl⟩
  go_wp2_with fail
  refine (njGet 1 1 _).mono ?_
  rintro e w2 ⟨rfl, rfl⟩
  go_wp2_with fail
  have L2 := S1.alloc (.cells #[.int .u8 97] 5 (1, 2))
  refine (njStage 0 1 1 _ 1 1 _).mono ?_
  rintro e w2 ⟨rfl, rfl⟩
  go_wp2_with fail
  refine (njCommit 1 1 _).mono ?_
  rintro e w2 ⟨rfl, rfl⟩
  go_wp2_with fail
  refine (njCounts 1 _).mono ?_
  rintro e w2 ⟨rfl, rfl⟩
  go_wp2_with fail
  refine (njUsed _).mono ?_
  rintro e w2 ⟨rfl, rfl⟩
  go_wp2_with fail
  refine (njTerm _).mono ?_
  rintro e w2 ⟨rfl, rfl⟩
  go_wp2_with fail
  refine (njWrites _).mono ?_
  rintro e w2 ⟨rfl, rfl⟩
  go_wp2_with fail
  clear S1 k1
  refine (stNew_any L2 room).mono ?_
  rintro e w4 ⟨rfl, S4⟩
  obtain ⟨gs, hgs⟩ : ∃ gs, (w1.alloc (.cells #[.int .u8 97] 5 (1, 2))).heap.size = gs := ⟨_, rfl⟩
  rw [hgs] at S4 ⊢
  have S4' : St w w4 [storeT gs (SS.new room)] := S4
  clear S4 L2 hgs
  go_wp2_with fail
  refine (rqNew_any S4' room).mono ?_
  rintro e w5 ⟨rfl, S5⟩
  obtain ⟨gh, hgh⟩ : ∃ gh, w4.heap.size = gh := ⟨_, rfl⟩
  rw [hgh] at S5 ⊢
  have HR0 := hid (RelS.new room)
  clear S4' hgh
  go_wp2_with fail
  go_loopw [10] (fun i wr => ∃ (k : Nat) (s : SS) (q : QS), k ≤ n ∧ i = .int .i64 k ∧ RelS s q ∧ q.L.length ≤ k ∧ q.writes ≤ k ∧ St w wr [rstT gh q, storeT gs s]) (fun i _ => n - (intOf i).toNat)
  case atStart => exact ⟨0, _, _, Nat.zero_le _, rfl, HR0.out, Nat.le_refl _, Nat.le_refl _, S5⟩
  case round =>
    obtain ⟨k, s, q, hk, rfl, hR, hL, hW, Sk⟩ := hrel
    clear S5
    have HR := hid hR
    clear hR
    by_cases hlt : k < n
    case neg =>
      have g0 : decide ((k : Int) < (n : Int)) = false := decide_eq_false (by omega)
      have g0n : decide (k < n) = false := decide_eq_false (by omega)
      clear hlt
      go_wp2
      go_ret
      exact ⟨rfl, Sk.fin⟩
    have g0 : decide ((k : Int) < (n : Int)) = true := decide_eq_true (by omega)
    have g0n : decide (k < n) = true := decide_eq_true (by omega)
    have hkl : k < L.length := by rw [HN.out]; exact hlt
    have hAk : AtG eTA wr a L := HA.out.all eTAok Sk.fin
    have i0 := fun wx => idxTA a n cap (fun h => hAk.ok (by omega)) k hlt wx
    obtain ⟨y0, y1, y2, y3, y4⟩ := hAk.tAt hkl
    have HX := hid (HOk.out _ (List.getElem_mem hkl))
    have hx2 := HF2.out _ (List.getElem_mem hkl)
    rw [decide_eq_true_iff] at hx2
    generalize L[k] = x at *
    generalize adr a (k * 5) = A at *
    have S5 : St w (wr.alloc (.cells #[.int .i64 x.kind, .int .i64 x.term, .int .i64 x.job, .int .i64 x.ep, .slice x.a x.n x.c] 39)) [rstT gh q, storeT gs s, cellsT wr.heap.size 39 x.cs] := newAtG Sk _ _ _ rfl
    clear Sk hAk
    obtain ⟨z0, z1, z2, z3, z4⟩ := S5.tact 2 rfl
    go_wp2_with fail
    refine (storeDo_any S5 HR.out (by omega) (by omega) x HX.out.len (by omega) HX.out.nil HX.out.isAt).mono ?_
    rintro e w6 ⟨s9, q9, rfl, hR9, hL9, hW9, S6⟩
    have HR9 := hid hR9
    clear hR9 S5 y0 y1 y2 y3 y4 z0 z1 z2 z3 z4
    obtain ⟨z0, z1, z2, z3, z4⟩ := S6.tact 2 rfl
    go_wp2_with fail
    refine (stGet_any S6 1 rfl x.job x.ep).mono ?_
    rintro e w7 ⟨a7, c7, rfl, ho7, hb7⟩
    rw [HR9.out.get] at ho7 ⊢
    have S7 : St w w7 [rstT gh q9, storeT gs s9, cellsT wr.heap.size 39 x.cs, bytesT _ _] := S6.bytes ho7 hb7
    clear ho7 hb7 S6 z0 z1 z2 z3 z4
    obtain ⟨z0, z1, z2, z3, z4⟩ := S7.tact 2 rfl
    go_wp2_with fail
    refine (rqGet_any S7 (by omega) x.job x.ep).mono ?_
    rintro e w8 ⟨a8, c8, rfl, hA8, hl8, rfl⟩
    obtain ⟨O, hO⟩ : ∃ O, qGet q9 x.job x.ep = O := ⟨_, rfl⟩
    rw [hO] at S7 hA8 hl8 ⊢
    have bb1 : (O.isSome != O.isSome) = false := by simp
    have bb2 : (O.isSome == O.isSome) = true := by simp
    have bb3 : (O.getD [] == O.getD []) = true := by simp
    obtain ⟨OD, hOD⟩ : ∃ OD, O.getD [] = OD := ⟨_, rfl⟩
    rw [hOD] at S7 hA8 hl8 bb3 ⊢
    generalize O.isSome = ob at *
    clear hO hOD
    obtain ⟨ON, hON⟩ : ∃ ON, OD.length = ON := ⟨_, rfl⟩
    have HON := hid hON
    rw [hON] at hl8 S7 ⊢
    clear hON
    obtain ⟨r, aL, cL, D, ROK, S8⟩ := S7.rstO
    have HO := hid ROK
    have hlen := ROK.lens S8
    obtain ⟨C9, hC9⟩ : ∃ C9, sCounts s9 x.job = C9 := ⟨_, rfl⟩
    have hC9' : repoch r.L x.job true = C9 := by rw [← hC9, HR9.out.counts, repoch_pt, ← ROK.q]; rfl
    obtain ⟨U9, hU9⟩ : ∃ U9, usedP s9.js = U9 := ⟨_, rfl⟩
    have hU9' : rsum r.L r.L.length = U9 := by rw [rsum_all hlen, ← hU9, HR9.out.used, ← ROK.q]; rfl
    obtain ⟨T9, hT9⟩ : ∃ T9, s9.term = T9 := ⟨_, rfl⟩
    have hT9' : r.term = T9 := by rw [← hT9, HR9.out.term, ← ROK.q]; rfl
    obtain ⟨W9, hW9e⟩ : ∃ W9, s9.writes = W9 := ⟨_, rfl⟩
    have hW9' : r.writes = W9 := by rw [← hW9e, HR9.out.writes, ← ROK.q]; rfl
    obtain ⟨N9, hN9⟩ : ∃ N9, r.L.length = N9 := ⟨_, rfl⟩
    have hN9s : N9 ≤ 1000 := by rw [← hN9, ROK.len]; omega
    rw [hN9] at hU9'
    have HC9 := hid hC9
    have HC9' := hid hC9'
    have HU9 := hid hU9
    have HU9' := hid hU9'
    have HT9 := hid hT9
    have HW9 := hid hW9e
    have HN9 := hid hN9
    have HSm := hid ROK.small
    have HQ : Hid (∀ w' l, St w w' (rstL gh aL cL r (poolT D :: storeT gs s9 :: cellsT wr.heap.size 39 x.cs :: l)) → (w'.cell? ⟨wr.heap.size, 2, none⟩ = some (.int .i64 x.job) ∧ w'.cell? ⟨gh, 1, none⟩ = some (.int .i64 T9) ∧ w'.cell? ⟨gh, 2, none⟩ = some (.slice aL N9 cL) ∧ w'.cell? ⟨gh, 3, none⟩ = some (.int .i64 (W9 : Int)))) := by
      intro w' l S'
      rw [← hT9', ← hW9', ← hN9]
      exact ⟨S'.cell 4 rfl 2 rfl, S'.cell 0 rfl 1 rfl, S'.cell 0 rfl 2 rfl, S'.cell 0 rfl 3 rfl⟩
    clear hC9 hC9' hU9 hU9' hT9 hT9' hW9e hW9' hN9 hlen ROK z0 z1 z2 z3 z4
    have k1 : (C9 != C9) = false := by simp
    have k2 : ((U9 : Int) != (U9 : Int)) = false := by simp
    have k3 : (T9 != T9) = false := by simp
    have k4 : ((W9 : Int) != (W9 : Int)) = false := by simp
    go_wp2_with fail
    refine wp_region_held_drew (S := (fun w' => (w'.cell? ⟨wr.heap.size, 2, none⟩ = some (.int .i64 x.job) ∧ w'.cell? ⟨gh, 1, none⟩ = some (.int .i64 T9) ∧ w'.cell? ⟨gh, 2, none⟩ = some (.slice aL N9 cL) ∧ w'.cell? ⟨gh, 3, none⟩ = some (.int .i64 (W9 : Int))))) (by kernel_rfl) (by exact HQ.out _ _ S8.drew) (fun hHeld => ?_)
    change wpAnyH _ _ _ _ _ 48 (Array.replicate 48 false) _ _
    refine wpAnyH_take (i := 0) (v := ?v1) (ops_at rfl) (by kernel_rfl) (by kernel_rfl) (by kernel_rfl) (fun _ _ _ h => h) (Or.inl ⟨by rfl, ?hy1⟩) (by assumption) ?rest1
    case hy1 => intro w' hSw; (try dsimp only at hSw); go_simp; try with_reducible rfl
    try simp only [Act.put, List.setIfInBounds_toArray, List.set_cons_zero, List.set_cons_succ]
    refine wpAnyH_take (i := 1) (v := ?v2) (ops_at rfl) (by kernel_rfl) (by kernel_rfl) (by kernel_rfl) (fun _ _ _ h => h) (Or.inl ⟨by rfl, ?hy2⟩) (by assumption) ?rest2
    case hy2 => intro w' hSw; (try dsimp only at hSw); go_simp; try with_reducible rfl
    try simp only [Act.put, List.setIfInBounds_toArray, List.set_cons_zero, List.set_cons_succ]
    refine wpAnyH_take (i := 2) (v := ?v3) (ops_at rfl) (by kernel_rfl) (by kernel_rfl) (by kernel_rfl) (fun _ _ _ h => h) (Or.inl ⟨by rfl, ?hy3⟩) (by assumption) ?rest3
    case hy3 => intro w' hSw; (try dsimp only at hSw); go_simp; try with_reducible rfl
    try simp only [Act.put, List.setIfInBounds_toArray, List.set_cons_zero, List.set_cons_succ]
    refine wpAnyH_take (i := 3) (v := ?v4) (ops_at rfl) (by kernel_rfl) (by kernel_rfl) (by kernel_rfl) (fun _ _ _ h => h) (Or.inl ⟨by rfl, ?hy4⟩) (by assumption) ?rest4
    case hy4 => intro w' hSw; (try dsimp only at hSw); go_simp; try with_reducible rfl
    try simp only [Act.put, List.setIfInBounds_toArray, List.set_cons_zero, List.set_cons_succ]
    refine wpAnyH_take (i := 4) (v := ?v5) (ops_at rfl) (by kernel_rfl) (by kernel_rfl) (by kernel_rfl) (fun _ _ _ h => h) (Or.inl ⟨by rfl, ?hy5⟩) (by assumption) ?rest5
    case hy5 => intro w' hSw; (try dsimp only at hSw); go_simp; try with_reducible rfl
    try simp only [Act.put, List.setIfInBounds_toArray, List.set_cons_zero, List.set_cons_succ]
    refine wpAnyH_take (i := 5) (v := ?v6) (ops_at rfl) (by kernel_rfl) (by kernel_rfl) (by kernel_rfl) (fun _ _ _ h => h) (Or.inl ⟨by rfl, ?hy6⟩) (by assumption) ?rest6
    case hy6 => intro w' hSw; (try dsimp only at hSw); go_simp; try with_reducible rfl
    try simp only [Act.put, List.setIfInBounds_toArray, List.set_cons_zero, List.set_cons_succ]
    refine wpAnyH_ready (rs := [6]) (by kernel_rfl) (by simp) ?_
    refine AllReadyH.cons (ops_at rfl) (fun K hK => ?_) AllReadyH.nil
    go_simp
    refine (bytes_any a7 a8 OD OD ON ON c7 c8 _ HON.out HON.out (by unfold maxLen; omega) (by unfold maxLen; omega) (by exact S8.drew.at 5 rfl) (by exact hA8.drewN 1)).mono ?_
    rintro e wa ⟨rfl, na, rfl⟩
    rw [bb3]
    have T1 := S8.drew.drewN na
    obtain ⟨wq, hwq⟩ : ∃ wq, w7.drew.drewN na = wq := ⟨_, rfl⟩
    rw [hwq] at T1 ⊢
    clear hwq
    refine hK.out _ _ (by exact HQ.out _ _ T1) (fun hHeld => ?_)
    clear hK K
    try simp only [Act.put, List.setIfInBounds_toArray, List.set_cons_zero, List.set_cons_succ]
    refine wpAnyH_take (i := 7) (v := ?v8) (ops_at rfl) (by kernel_rfl) (by kernel_rfl) (by kernel_rfl) (fun _ _ _ h => h) (Or.inl ⟨by rfl, ?hy8⟩) (by assumption) ?rest8
    case hy8 => intro w' hSw; (try dsimp only at hSw); go_simp; try with_reducible rfl
    try simp only [Act.put, List.setIfInBounds_toArray, List.set_cons_zero, List.set_cons_succ]
    refine wpAnyH_take (i := 8) (v := ?v9) (ops_at rfl) (by kernel_rfl) (by kernel_rfl) (by kernel_rfl) (fun _ _ _ h => h) (Or.inl ⟨by rfl, ?hy9⟩) (by assumption) ?rest9
    case hy9 => intro w' hSw; (try dsimp only at hSw); go_simp; try with_reducible rfl
    try simp only [Act.put, List.setIfInBounds_toArray, List.set_cons_zero, List.set_cons_succ]
    refine wpAnyH_take (i := 9) (v := ?v10) (ops_at rfl) (by kernel_rfl) (by kernel_rfl) (by kernel_rfl) (fun _ _ _ h => h) (Or.inl ⟨by rfl, ?hy10⟩) (by assumption) ?rest10
    case hy10 => intro w' hSw; (try dsimp only at hSw); go_simp; try with_reducible rfl
    try simp only [Act.put, List.setIfInBounds_toArray, List.set_cons_zero, List.set_cons_succ]
    refine wpAnyH_take (i := 10) (v := ?v11) (ops_at rfl) (by kernel_rfl) (by kernel_rfl) (by kernel_rfl) (fun _ _ _ h => h) (Or.inl ⟨by rfl, ?hy11⟩) (by assumption) ?rest11
    case hy11 => intro w' hSw; (try dsimp only at hSw); go_simp; try with_reducible rfl
    try simp only [Act.put, List.setIfInBounds_toArray, List.set_cons_zero, List.set_cons_succ]
    refine wpAnyH_take (i := 11) (v := ?v12) (ops_at rfl) (by kernel_rfl) (by kernel_rfl) (by kernel_rfl) (fun _ _ _ h => h) (Or.inl ⟨by rfl, ?hy12⟩) (by assumption) ?rest12
    case hy12 => intro w' hSw; (try dsimp only at hSw); go_simp; try with_reducible rfl
    try simp only [Act.put, List.setIfInBounds_toArray, List.set_cons_zero, List.set_cons_succ]
    refine wpAnyH_take (i := 12) (v := ?v13) (ops_at rfl) (by kernel_rfl) (by kernel_rfl) (by kernel_rfl) (fun _ _ _ h => h) (Or.inl ⟨by rfl, ?hy13⟩) (by assumption) ?rest13
    case hy13 => intro w' hSw; (try dsimp only at hSw); go_simp; try with_reducible rfl
    try simp only [Act.put, List.setIfInBounds_toArray, List.set_cons_zero, List.set_cons_succ]
    refine wpAnyH_take (i := 14) (v := ?v14) (ops_at rfl) (by kernel_rfl) (by kernel_rfl) (by kernel_rfl) (fun _ _ _ h => h) (Or.inl ⟨by rfl, ?hy14⟩) (by assumption) ?rest14
    case hy14 => intro w' hSw; (try dsimp only at hSw); go_simp; try with_reducible rfl
    try simp only [Act.put, List.setIfInBounds_toArray, List.set_cons_zero, List.set_cons_succ]
    refine wpAnyH_take (i := 15) (v := ?v15) (ops_at rfl) (by kernel_rfl) (by kernel_rfl) (by kernel_rfl) (fun _ _ _ h => h) (Or.inl ⟨by rfl, ?hy15⟩) (by assumption) ?rest15
    case hy15 => intro w' hSw; (try dsimp only at hSw); go_simp; try with_reducible rfl
    try simp only [Act.put, List.setIfInBounds_toArray, List.set_cons_zero, List.set_cons_succ]
    refine wpAnyH_take (i := 16) (v := ?v16) (ops_at rfl) (by kernel_rfl) (by kernel_rfl) (by kernel_rfl) (fun _ _ _ h => h) (Or.inl ⟨by rfl, ?hy16⟩) (by assumption) ?rest16
    case hy16 => intro w' hSw; (try dsimp only at hSw); go_simp; try with_reducible rfl
    try simp only [Act.put, List.setIfInBounds_toArray, List.set_cons_zero, List.set_cons_succ]
    refine wpAnyH_ready (rs := [13]) (by kernel_rfl) (by simp) ?_
    refine AllReadyH.cons (ops_at rfl) (fun K hK => ?_) AllReadyH.nil
    go_simp
    refine (stCounts_any T1 3 rfl x.job).mono ?_
    rintro e wb ⟨rfl, rfl⟩
    rw [HC9.out]
    refine hK.out _ _ (by exact HQ.out _ _ T1) (fun hHeld => ?_)
    clear hK K
    try simp only [Act.put, List.setIfInBounds_toArray, List.set_cons_zero, List.set_cons_succ]
    refine wpAnyH_ready (rs := [17]) (by kernel_rfl) (by simp) ?_
    refine AllReadyH.cons (ops_at rfl) (fun K hK => ?_) AllReadyH.nil
    go_simp
    refine (rsEpoch_any T1 (by rw [HN9.out]; omega) x.job true).mono ?_
    rintro e wb ⟨rfl, rfl⟩
    rw [HC9'.out]
    refine hK.out _ _ (by exact HQ.out _ _ T1) (fun hHeld => ?_)
    clear hK K
    try simp only [Act.put, List.setIfInBounds_toArray, List.set_cons_zero, List.set_cons_succ]
    refine wpAnyH_take (i := 18) (v := ?v19) (ops_at rfl) (by kernel_rfl) (by kernel_rfl) (by kernel_rfl) (fun _ _ _ h => h) (Or.inl ⟨by rfl, ?hy19⟩) (by assumption) ?rest19
    case hy19 => intro w' hSw; (try dsimp only at hSw); go_simp; try with_reducible rfl
    try simp only [Act.put, List.setIfInBounds_toArray, List.set_cons_zero, List.set_cons_succ]
    refine wpAnyH_take (i := 19) (v := ?v20) (ops_at rfl) (by kernel_rfl) (by kernel_rfl) (by kernel_rfl) (fun _ _ _ h => h) (Or.inl ⟨by rfl, ?hy20⟩) (by assumption) ?rest20
    case hy20 => intro w' hSw; (try dsimp only at hSw); go_simp; try with_reducible rfl
    try simp only [Act.put, List.setIfInBounds_toArray, List.set_cons_zero, List.set_cons_succ]
    refine wpAnyH_take (i := 20) (v := ?v21) (ops_at rfl) (by kernel_rfl) (by kernel_rfl) (by kernel_rfl) (fun _ _ _ h => h) (Or.inl ⟨by rfl, ?hy21⟩) (by assumption) ?rest21
    case hy21 => intro w' hSw; (try dsimp only at hSw); go_simp; try with_reducible rfl
    try simp only [Act.put, List.setIfInBounds_toArray, List.set_cons_zero, List.set_cons_succ]
    refine wpAnyH_take (i := 21) (v := ?v22) (ops_at rfl) (by kernel_rfl) (by kernel_rfl) (by kernel_rfl) (fun _ _ _ h => h) (Or.inl ⟨by rfl, ?hy22⟩) (by assumption) ?rest22
    case hy22 => intro w' hSw; (try dsimp only at hSw); go_simp; try with_reducible rfl
    try simp only [Act.put, List.setIfInBounds_toArray, List.set_cons_zero, List.set_cons_succ]
    refine wpAnyH_take (i := 23) (v := ?v23) (ops_at rfl) (by kernel_rfl) (by kernel_rfl) (by kernel_rfl) (fun _ _ _ h => h) (Or.inl ⟨by rfl, ?hy23⟩) (by assumption) ?rest23
    case hy23 => intro w' hSw; (try dsimp only at hSw); go_simp; try with_reducible rfl
    try simp only [Act.put, List.setIfInBounds_toArray, List.set_cons_zero, List.set_cons_succ]
    refine wpAnyH_take (i := 24) (v := ?v24) (ops_at rfl) (by kernel_rfl) (by kernel_rfl) (by kernel_rfl) (fun _ _ _ h => h) (Or.inl ⟨by rfl, ?hy24⟩) (by assumption) ?rest24
    case hy24 => intro w' hSw; (try dsimp only at hSw); go_simp; try with_reducible rfl
    try simp only [Act.put, List.setIfInBounds_toArray, List.set_cons_zero, List.set_cons_succ]
    refine wpAnyH_take (i := 25) (v := ?v25) (ops_at rfl) (by kernel_rfl) (by kernel_rfl) (by kernel_rfl) (fun _ _ _ h => h) (Or.inl ⟨by rfl, ?hy25⟩) (by assumption) ?rest25
    case hy25 => intro w' hSw; (try dsimp only at hSw); go_simp; try with_reducible rfl
    try simp only [Act.put, List.setIfInBounds_toArray, List.set_cons_zero, List.set_cons_succ]
    refine wpAnyH_take (i := 26) (v := ?v26) (ops_at rfl) (by kernel_rfl) (by kernel_rfl) (by kernel_rfl) (fun _ _ _ h => h) (Or.inl ⟨by rfl, ?hy26⟩) (by assumption) ?rest26
    case hy26 => intro w' hSw; (try dsimp only at hSw); go_simp; try with_reducible rfl
    try simp only [Act.put, List.setIfInBounds_toArray, List.set_cons_zero, List.set_cons_succ]
    refine wpAnyH_ready (rs := [22]) (by kernel_rfl) (by simp) ?_
    refine AllReadyH.cons (ops_at rfl) (fun K hK => ?_) AllReadyH.nil
    go_simp
    refine (stUsed_any T1 3 rfl).mono ?_
    rintro e wb ⟨rfl, hbb⟩
    rw [HU9.out]
    have T2 := T1.grow hbb
    refine hK.out _ _ (by exact HQ.out _ _ T2) (fun hHeld => ?_)
    clear hK K
    try simp only [Act.put, List.setIfInBounds_toArray, List.set_cons_zero, List.set_cons_succ]
    refine wpAnyH_ready (rs := [27]) (by kernel_rfl) (by simp) ?_
    refine AllReadyH.cons (ops_at rfl) (fun K hK => ?_) AllReadyH.nil
    go_simp
    refine (rsBytes_any aL r.L N9 cL _ HN9.out (by omega) (by exact (T2.slG eRPok 1 rfl).2.2.2.2) HSm.out).mono ?_
    rintro e wc ⟨rfl, rfl⟩
    rw [HU9'.out]
    refine hK.out _ _ (by exact HQ.out _ _ T2) (fun hHeld => ?_)
    clear hK K
    try simp only [Act.put, List.setIfInBounds_toArray, List.set_cons_zero, List.set_cons_succ]
    refine wpAnyH_take (i := 28) (v := ?v29) (ops_at rfl) (by kernel_rfl) (by kernel_rfl) (by kernel_rfl) (fun _ _ _ h => h) (Or.inl ⟨by rfl, ?hy29⟩) (by assumption) ?rest29
    case hy29 => intro w' hSw; (try dsimp only at hSw); go_simp; try with_reducible rfl
    try simp only [Act.put, List.setIfInBounds_toArray, List.set_cons_zero, List.set_cons_succ]
    refine wpAnyH_take (i := 29) (v := ?v30) (ops_at rfl) (by kernel_rfl) (by kernel_rfl) (by kernel_rfl) (fun _ _ _ h => h) (Or.inl ⟨by rfl, ?hy30⟩) (by assumption) ?rest30
    case hy30 => intro w' hSw; (try dsimp only at hSw); go_simp; try with_reducible rfl
    try simp only [Act.put, List.setIfInBounds_toArray, List.set_cons_zero, List.set_cons_succ]
    refine wpAnyH_take (i := 30) (v := ?v31) (ops_at rfl) (by kernel_rfl) (by kernel_rfl) (by kernel_rfl) (fun _ _ _ h => h) (Or.inl ⟨by rfl, ?hy31⟩) (by assumption) ?rest31
    case hy31 => intro w' hSw; (try dsimp only at hSw); go_simp; try with_reducible rfl
    try simp only [Act.put, List.setIfInBounds_toArray, List.set_cons_zero, List.set_cons_succ]
    refine wpAnyH_take (i := 31) (v := ?v32) (ops_at rfl) (by kernel_rfl) (by kernel_rfl) (by kernel_rfl) (fun _ _ _ h => h) (Or.inl ⟨by rfl, ?hy32⟩) (by assumption) ?rest32
    case hy32 => intro w' hSw; (try dsimp only at hSw); go_simp; try with_reducible rfl
    try simp only [Act.put, List.setIfInBounds_toArray, List.set_cons_zero, List.set_cons_succ]
    refine wpAnyH_take (i := 33) (v := ?v33) (ops_at rfl) (by kernel_rfl) (by kernel_rfl) (by kernel_rfl) (fun _ _ _ h => h) (Or.inl ⟨by rfl, ?hy33⟩) (by assumption) ?rest33
    case hy33 => intro w' hSw; (try dsimp only at hSw); go_simp; try with_reducible rfl
    try simp only [Act.put, List.setIfInBounds_toArray, List.set_cons_zero, List.set_cons_succ]
    refine wpAnyH_take (i := 34) (v := ?v34) (ops_at rfl) (by kernel_rfl) (by kernel_rfl) (by kernel_rfl) (fun _ _ _ h => h) (Or.inl ⟨by rfl, ?hy34⟩) (by assumption) ?rest34
    case hy34 => intro w' hSw; (try dsimp only at hSw); go_simp; try with_reducible rfl
    try simp only [Act.put, List.setIfInBounds_toArray, List.set_cons_zero, List.set_cons_succ]
    refine wpAnyH_take (i := 35) (v := ?v35) (ops_at rfl) (by kernel_rfl) (by kernel_rfl) (by kernel_rfl) (fun _ _ _ h => h) (Or.inl ⟨by rfl, ?hy35⟩) (by assumption) ?rest35
    case hy35 => intro w' hSw; (try dsimp only at hSw); go_simp; try with_reducible rfl
    try simp only [Act.put, List.setIfInBounds_toArray, List.set_cons_zero, List.set_cons_succ]
    refine wpAnyH_take (i := 36) (v := ?v36) (ops_at rfl) (by kernel_rfl) (by kernel_rfl) (by kernel_rfl) (fun _ _ _ h => h) (Or.inl ⟨by rfl, ?hy36⟩) (by assumption) ?rest36
    case hy36 => intro w' hSw; (try dsimp only at hSw); go_simp; try with_reducible rfl
    try simp only [Act.put, List.setIfInBounds_toArray, List.set_cons_zero, List.set_cons_succ]
    refine wpAnyH_ready (rs := [32]) (by kernel_rfl) (by simp) ?_
    refine AllReadyH.cons (ops_at rfl) (fun K hK => ?_) AllReadyH.nil
    go_simp
    refine (stTerm_any T2 3 rfl).mono ?_
    rintro e wc ⟨rfl, rfl⟩
    rw [HT9.out]
    refine hK.out _ _ (by exact HQ.out _ _ T2) (fun hHeld => ?_)
    clear hK K
    try simp only [Act.put, List.setIfInBounds_toArray, List.set_cons_zero, List.set_cons_succ]
    refine wpAnyH_take (i := 37) (v := ?v38) (ops_at rfl) (by kernel_rfl) (by kernel_rfl) (by kernel_rfl) (fun _ _ _ h => h) (Or.inl ⟨by rfl, ?hy38⟩) (by assumption) ?rest38
    case hy38 => intro w' hSw; (try dsimp only at hSw); go_simp; try with_reducible rfl
    try simp only [Act.put, List.setIfInBounds_toArray, List.set_cons_zero, List.set_cons_succ]
    refine wpAnyH_take (i := 38) (v := ?v39) (ops_at rfl) (by kernel_rfl) (by kernel_rfl) (by kernel_rfl) (fun _ _ _ h => h) (Or.inl ⟨by rfl, ?hy39⟩) (by assumption) ?rest39
    case hy39 => intro w' hSw; (try dsimp only at hSw); go_simp; try with_reducible rfl
    try simp only [Act.put, List.setIfInBounds_toArray, List.set_cons_zero, List.set_cons_succ]
    refine wpAnyH_take (i := 39) (v := ?v40) (ops_at rfl) (by kernel_rfl) (by kernel_rfl) (by kernel_rfl) (fun _ _ _ h => h) (Or.inl ⟨by rfl, ?hy40⟩) (by assumption) ?rest40
    case hy40 => intro w' hSw; (try dsimp only at hSw); go_simp; try with_reducible rfl
    try simp only [Act.put, List.setIfInBounds_toArray, List.set_cons_zero, List.set_cons_succ]
    refine wpAnyH_take (i := 40) (v := ?v41) (ops_at rfl) (by kernel_rfl) (by kernel_rfl) (by kernel_rfl) (fun _ _ _ h => h) (Or.inl ⟨by rfl, ?hy41⟩) (by assumption) ?rest41
    case hy41 => intro w' hSw; (try dsimp only at hSw); go_simp; try with_reducible rfl
    try simp only [Act.put, List.setIfInBounds_toArray, List.set_cons_zero, List.set_cons_succ]
    refine wpAnyH_take (i := 42) (v := ?v42) (ops_at rfl) (by kernel_rfl) (by kernel_rfl) (by kernel_rfl) (fun _ _ _ h => h) (Or.inl ⟨by rfl, ?hy42⟩) (by assumption) ?rest42
    case hy42 => intro w' hSw; (try dsimp only at hSw); go_simp; try with_reducible rfl
    try simp only [Act.put, List.setIfInBounds_toArray, List.set_cons_zero, List.set_cons_succ]
    refine wpAnyH_take (i := 43) (v := ?v43) (ops_at rfl) (by kernel_rfl) (by kernel_rfl) (by kernel_rfl) (fun _ _ _ h => h) (Or.inl ⟨by rfl, ?hy43⟩) (by assumption) ?rest43
    case hy43 => intro w' hSw; (try dsimp only at hSw); go_simp; try with_reducible rfl
    try simp only [Act.put, List.setIfInBounds_toArray, List.set_cons_zero, List.set_cons_succ]
    refine wpAnyH_take (i := 44) (v := ?v44) (ops_at rfl) (by kernel_rfl) (by kernel_rfl) (by kernel_rfl) (fun _ _ _ h => h) (Or.inl ⟨by rfl, ?hy44⟩) (by assumption) ?rest44
    case hy44 => intro w' hSw; (try dsimp only at hSw); go_simp; try with_reducible rfl
    try simp only [Act.put, List.setIfInBounds_toArray, List.set_cons_zero, List.set_cons_succ]
    refine wpAnyH_take (i := 45) (v := ?v45) (ops_at rfl) (by kernel_rfl) (by kernel_rfl) (by kernel_rfl) (fun _ _ _ h => h) (Or.inl ⟨by rfl, ?hy45⟩) (by assumption) ?rest45
    case hy45 => intro w' hSw; (try dsimp only at hSw); go_simp; try with_reducible rfl
    try simp only [Act.put, List.setIfInBounds_toArray, List.set_cons_zero, List.set_cons_succ]
    refine wpAnyH_ready (rs := [41]) (by kernel_rfl) (by simp) ?_
    refine AllReadyH.cons (ops_at rfl) (fun K hK => ?_) AllReadyH.nil
    go_simp
    refine (stWrites_any T2 3 rfl).mono ?_
    rintro e wc ⟨rfl, rfl⟩
    rw [HW9.out]
    refine hK.out _ _ (by exact HQ.out _ _ T2) (fun hHeld => ?_)
    clear hK K
    try simp only [Act.put, List.setIfInBounds_toArray, List.set_cons_zero, List.set_cons_succ]
    refine wpAnyH_take (i := 46) (v := ?v47) (ops_at rfl) (by kernel_rfl) (by kernel_rfl) (by kernel_rfl) (fun _ _ _ h => h) (Or.inl ⟨by rfl, ?hy47⟩) (by assumption) ?rest47
    case hy47 => intro w' hSw; (try dsimp only at hSw); go_simp; try with_reducible rfl
    try simp only [Act.put, List.setIfInBounds_toArray, List.set_cons_zero, List.set_cons_succ]
    refine wpAnyH_take (i := 47) (v := ?v48) (ops_at rfl) (by kernel_rfl) (by kernel_rfl) (by kernel_rfl) (fun _ _ _ h => h) (Or.inl ⟨by rfl, ?hy48⟩) (by assumption) ?rest48
    case hy48 => intro w' hSw; (try dsimp only at hSw); go_simp; try with_reducible rfl
    try simp only [Act.put, List.setIfInBounds_toArray, List.set_cons_zero, List.set_cons_succ]
    refine wpAnyH_done (by kernel_rfl) ?_ _
    go_wp2
    go_roundw
    case rel => exact ⟨k + 1, s9, q9, by omega, by go_num, HR9.out, by omega, by omega, (St.rstI HO.out T2).take 2⟩
    case measure => simp [intOf]; omega
end Go.Proofs.Ytiilhfmmclhflaa
